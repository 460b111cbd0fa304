/- stmt.none, perhaps, written, where, check, empty as plain functions; A statement in a block of twenty-three cells; stmt.empty as a plain function; stmt.creates, and the closures of creates and parts, as plain functions; grant.Without and grant.with as plain functions; grant.Both as a plain function. -/
import Derived.Test.YtchilcchogcibaaGreatDoorDDelG
import Derived.Test.YtchilcchogcibaaGreatDoorDExText
import Derived.Test.YtchilcchogcibaaGreatDoorDMany
set_option maxRecDepth 100000
set_option maxHeartbeats 4000000
namespace Go.Proofs.YtchilcchogcibaaGreatDoor
open Go.RowKit
attribute [local go_sem] ByteArray.extract_mk ba_get ba_append
attribute [local go_sem ↓] Go.wp_at_zero Go.wp_at_succ run_eql_V run_neq_V
theorem none_any (e : Ex) (A : Option Addr) (c : Nat) (w : World) : Calls Tryz.prog 141 #[.agg (e.cells A c).toArray] w (Ret (.bool (noneE e)) w) := by
 refine exBox_in e A c w fun w0 hw0 kq0 hb0 hz0 HSH HW HB => ?_
 obtain ⟨q0, q1, q2, q3, q4, q5⟩ := HSH.out w0 (Below.refl _ _)
 obtain ⟨R, hR⟩ : ∃ R, noneE e = R := ⟨_, rfl⟩
 have hR2 : (e.op.isEmpty && (veq e.v V.zero && (e.s.isEmpty && e.l.isEmpty))) = R := by rw [← hR]; unfold noneE; simp only [Bool.and_assoc]
 rw [hR]
 obtain ⟨Z, hZ⟩ : ∃ Z, veq e.v V.zero = Z := ⟨_, rfl⟩
 have hzv : veq ⟨e.v.k, e.v.i, e.v.s⟩ ⟨0, 0, []⟩ = Z := hZ
 obtain ⟨L, hL⟩ : ∃ L, e.l.isEmpty = L := ⟨_, rfl⟩
 have hL2 : ((e.l.length : Int) == 0) = L := by rw [← hL, Bool.eq_iff_iff]; simp
 obtain ⟨S, hS⟩ : ∃ S, e.s.isEmpty = S := ⟨_, rfl⟩
 have hS2 : (e.s == []) = S := by rw [← hS]; cases e.s <;> rfl
 obtain ⟨O, hO⟩ : ∃ O, e.op.isEmpty = O := ⟨_, rfl⟩
 have hO2 : (e.op == []) = O := by rw [← hO]; cases e.op <;> rfl
 rw [hZ, hL, hS, hO] at hR2
 have HR := Lib.hid hR2
 clear hw0 kq0 hb0 hR hR2 hZ hL
 dsimp only [Ex.cells] at HW ⊢
 cases O with
 | false =>
  go_in
  go_upto_region 1 with fail
  rw [show w.alloc _ = w0 from HW.out]
  clear HW
  go_wp2_with fail
  go_ret
  exact ⟨by rw [← HR.out]; rfl, HB.out⟩
 | true =>
  cases Z with
  | false =>
   go_in
   go_upto_region 1 with fail
   rw [show w.alloc _ = w0 from HW.out]
   clear HW
   go_wp2_with fail
   go_ret
   exact ⟨by rw [← HR.out]; rfl, HB.out⟩
  | true =>
   cases S with
   | false =>
    go_in
    go_upto_region 1 with fail
    rw [show w.alloc _ = w0 from HW.out]
    clear HW
    go_wp2_with fail
    go_ret
    exact ⟨by rw [← HR.out]; rfl, HB.out⟩
   | true =>
    go_in
    go_upto_region 1 with fail
    rw [show w.alloc _ = w0 from HW.out]
    clear HW
    go_wp2_with fail
    go_ret
    exact ⟨by rw [← HR.out]; rfl, HB.out⟩
theorem none_at {e : Ex} {A : Option Addr} {c : Nat} {N : Bool} (h : noneE e = N) (Y : World) : Calls Tryz.prog 141 #[.agg #[.string ⟨e.op.toArray⟩, .int .i64 e.v.k, .int .i64 e.v.i, .string ⟨e.v.s.toArray⟩, .string ⟨e.s.toArray⟩, .slice A e.l.length c]] Y (Ret (.bool N) Y) := by
 have := none_any e A c Y
 rw [h] at this
 exact this
theorem exmay_any (e : Ex) (A : Option Addr) (c m : Nat) (w : World) (hf : e.fit 1000) (hE : ExS 1000 m w w.heap.size A e.l) : Calls Tryz.prog 79 #[.agg (e.cells A c).toArray] w (Ret (.bool (mayX e)) w) := by
 have := mayX_any m e A c w hf hE
 rw [may_X m e (ExS.hgt m hE)] at this
 exact this
theorem perhaps_any (e : Ex) (A : Option Addr) (c m : Nat) (w : World) (hf : e.fit 1000) (hE : ExS 1000 m w w.heap.size A e.l) : Calls Tryz.prog 81 #[.agg (e.cells A c).toArray] w (Ret (.bool (perhapsE e)) w) := by
 refine exBox_in e A c w fun w0 hw0 kq0 hb0 hz0 HSH HW HB => ?_
 obtain ⟨q0, q1, q2, q3, q4, q5⟩ := HSH.out w0 (Below.refl _ _)
 have HMAY : Hid (∀ Y : World, Below w0.heap.size w0 Y → Calls Tryz.prog 79 #[.agg (e.cells A c).toArray] Y (Ret (.bool (mayX e)) Y)) := fun Y hY => exmay_any e A c m Y hf ((hE.below m (hb0.trans (hY.mono hz0))).more (Nat.le_trans hz0 hY.size) m)
 obtain ⟨R, hR⟩ : ∃ R, perhapsE e = R := ⟨_, rfl⟩
 have hR2 : (noneE e || mayX e) = R := hR
 rw [hR]
 obtain ⟨M, hM⟩ : ∃ M, mayX e = M := ⟨_, rfl⟩
 obtain ⟨N, hN⟩ : ∃ N, noneE e = N := ⟨_, rfl⟩
 have HN : Hid (∀ Y : World, Calls Tryz.prog 141 #[.agg #[.string ⟨e.op.toArray⟩, .int .i64 e.v.k, .int .i64 e.v.i, .string ⟨e.v.s.toArray⟩, .string ⟨e.s.toArray⟩, .slice A e.l.length c]] Y (Ret (.bool N) Y)) := none_at hN
 rw [hM] at HMAY hR2
 rw [hN] at hR2
 have HR := Lib.hid hR2
 clear hw0 kq0 hb0 hR hR2 hM hN hE hf
 dsimp only [Ex.cells] at HW HMAY ⊢
 cases N with
 | true =>
  go_in
  go_upto_region 1 with fail
  rw [show w.alloc _ = w0 from HW.out]
  clear HW
  go_wp2_with fail
  refine (HN.out _).mono ?_
  rintro en w1 ⟨rfl, hb1⟩
  go_wp2_with fail
  go_ret
  exact ⟨by rw [← HR.out]; rfl, HB.out.trans (hb1.mono hz0)⟩
 | false =>
  go_in
  go_upto_region 1 with fail
  rw [show w.alloc _ = w0 from HW.out]
  clear HW
  go_wp2_with fail
  refine (HN.out _).mono ?_
  rintro en w1 ⟨rfl, hb1⟩
  clear q0 q1 q2 q3 q4 q5
  obtain ⟨q0, q1, q2, q3, q4, q5⟩ := HSH.out w1 hb1
  have HC := Lib.hid (HMAY.out w1 hb1)
  have hz1 := hb1.size
  go_wp2_with fail
  refine HC.out.mono ?_
  rintro en w2 ⟨rfl, hb2⟩
  go_wp2_with fail
  go_ret
  exact ⟨by rw [← HR.out]; rfl, HB.out.trans ((hb1.trans (hb2.mono hz1)).mono hz0)⟩
def writtenE (e : Ex) : List UInt8 := if mayX e then textX e else []
theorem written_any (e : Ex) (A : Option Addr) (c m : Nat) (w : World) (hf : e.fit 1000) (hfe : fitE 13 e) (hE : ExS 1000 m w w.heap.size A e.l) (hV : Env0 w) :
  Calls Tryz.prog 90 #[.agg (e.cells A c).toArray] w (Ret (.string ⟨(writtenE e).toArray⟩) w) := by
 refine exBox_in e A c w fun w0 hw0 kq0 hb0 hz0 HSH HW HB => ?_
 obtain ⟨q0, q1, q2, q3, q4, q5⟩ := HSH.out w0 (Below.refl _ _)
 have HC := Lib.hid (exText_any e A c m w0 hf hfe ((hE.below m hb0).more hz0 m) (hV.below hb0))
 obtain ⟨T, hT⟩ : ∃ T, writtenE e = T := ⟨_, rfl⟩
 have hT2 : (if mayX e then textX e else []) = T := hT
 obtain ⟨q, hq⟩ : ∃ q : Int, (if mayX e then 0 else 1) = q := ⟨_, rfl⟩
 rw [hT2, hq] at HC
 rw [hT]
 clear hw0 kq0 hb0 hT hT2 hE hf hfe hV hq
 dsimp only [Ex.cells] at HW HC ⊢
 go_in
 go_upto_region 1 with fail
 rw [show w.alloc _ = w0 from HW.out]
 clear HW
 go_wp2_with fail
 refine HC.out.mono ?_
 rintro en w1 ⟨rfl, hb1⟩
 go_wp2_with fail
 go_ret
 exact ⟨rfl, HB.out.trans (hb1.mono hz0)⟩
theorem written_len (e : Ex) (hf : fitE 13 e) : (writtenE e).length ≤ 1000000 := by
 unfold writtenE
 cases h : mayX e
 ·simp
 ·exact textN_lt (by omega) (form_up 12 e (mayX_form h)) hf
def whereW (e : Ex) : List UInt8 := if noneE e then [] else [32, 87, 72, 69, 82, 69, 32] ++ writtenE e
def checkW (a : List UInt8) (e : Ex) : List UInt8 := if noneE e then [] else a ++ [67, 72, 69, 67, 75, 32, 40, 32] ++ writtenE e ++ [32, 41]
theorem where_st_any (e : Ex) (A : Option Addr) (c m : Nat) (w : World) (hf : e.fit 1000) (hfe : fitE 13 e) (hE : ExS 1000 m w w.heap.size A e.l) (hV : Env0 w) :
  Calls Tryz.prog 92 #[.agg (e.cells A c).toArray] w (Ret (.string ⟨(whereW e).toArray⟩) w) := by
 refine exBox_in e A c w fun w0 hw0 kq0 hb0 hz0 HSH HW HB => ?_
 obtain ⟨q0, q1, q2, q3, q4, q5⟩ := HSH.out w0 (Below.refl _ _)
 have HC : Hid (∀ Y : World, Below w0.heap.size w0 Y → Calls Tryz.prog 90 #[.agg (e.cells A c).toArray] Y (Ret (.string ⟨(writtenE e).toArray⟩) Y)) := fun Y hY => written_any e A c m Y hf hfe ((hE.below m (hb0.trans (hY.mono hz0))).more (Nat.le_trans hz0 hY.size) m) (hV.below (hb0.trans (hY.mono hz0)))
 obtain ⟨R, hR⟩ : ∃ R, whereW e = R := ⟨_, rfl⟩
 rw [hR]
 have hln := written_len e hfe
 obtain ⟨N, hN⟩ : ∃ N, noneE e = N := ⟨_, rfl⟩
 have HN : Hid (∀ Y : World, Calls Tryz.prog 141 #[.agg #[.string ⟨e.op.toArray⟩, .int .i64 e.v.k, .int .i64 e.v.i, .string ⟨e.v.s.toArray⟩, .string ⟨e.s.toArray⟩, .slice A e.l.length c]] Y (Ret (.bool N) Y)) := none_at hN
 obtain ⟨T, hT⟩ : ∃ T, writtenE e = T := ⟨_, rfl⟩
 unfold whereW at hR
 rw [hT] at HC hR hln
 rw [hN] at hR
 have HR := Lib.hid hR
 clear hw0 kq0 hb0 hR hN hT hE hf hfe hV
 dsimp only [Ex.cells] at HW HC ⊢
 cases N with
 | true =>
  go_in
  go_upto_region 1 with fail
  rw [show w.alloc _ = w0 from HW.out]
  clear HW
  go_wp2_with fail
  refine (HN.out _).mono ?_
  rintro en w1 ⟨rfl, hb1⟩
  go_wp2_with fail
  go_ret
  exact ⟨by rw [← HR.out]; rfl, HB.out.trans (hb1.mono hz0)⟩
 | false =>
  go_in
  go_upto_region 1 with fail
  rw [show w.alloc _ = w0 from HW.out]
  clear HW
  go_wp2_with fail
  refine (HN.out _).mono ?_
  rintro en w1 ⟨rfl, hb1⟩
  clear q0 q1 q2 q3 q4 q5
  obtain ⟨q0, q1, q2, q3, q4, q5⟩ := HSH.out w1 hb1
  have HX := Lib.hid (HC.out w1 hb1)
  have hz1 := hb1.size
  go_wp2_with fail
  refine HX.out.mono ?_
  rintro en w2 ⟨rfl, hb2⟩
  go_wp2_with fail
  go_ret
  exact ⟨by rw [← HR.out]; simp, HB.out.trans ((hb1.trans (hb2.mono hz1)).mono hz0)⟩
theorem check_st_any (a : List UInt8) (e : Ex) (A : Option Addr) (c m : Nat) (w : World) (ha : a.length ≤ 1000) (hf : e.fit 1000) (hfe : fitE 13 e) (hE : ExS 1000 m w w.heap.size A e.l) (hV : Env0 w) :
  Calls Tryz.prog 94 #[.string ⟨a.toArray⟩, .agg (e.cells A c).toArray] w (Ret (.string ⟨(checkW a e).toArray⟩) w) := by
 refine exBox_in e A c w fun w0 hw0 kq0 hb0 hz0 HSH HW HB => ?_
 obtain ⟨q0, q1, q2, q3, q4, q5⟩ := HSH.out w0 (Below.refl _ _)
 have HC : Hid (∀ Y : World, Below w0.heap.size w0 Y → Calls Tryz.prog 90 #[.agg (e.cells A c).toArray] Y (Ret (.string ⟨(writtenE e).toArray⟩) Y)) := fun Y hY => written_any e A c m Y hf hfe ((hE.below m (hb0.trans (hY.mono hz0))).more (Nat.le_trans hz0 hY.size) m) (hV.below (hb0.trans (hY.mono hz0)))
 obtain ⟨R, hR⟩ : ∃ R, checkW a e = R := ⟨_, rfl⟩
 rw [hR]
 have hln := written_len e hfe
 obtain ⟨N, hN⟩ : ∃ N, noneE e = N := ⟨_, rfl⟩
 have HN : Hid (∀ Y : World, Calls Tryz.prog 141 #[.agg #[.string ⟨e.op.toArray⟩, .int .i64 e.v.k, .int .i64 e.v.i, .string ⟨e.v.s.toArray⟩, .string ⟨e.s.toArray⟩, .slice A e.l.length c]] Y (Ret (.bool N) Y)) := none_at hN
 obtain ⟨T, hT⟩ : ∃ T, writtenE e = T := ⟨_, rfl⟩
 unfold checkW at hR
 rw [hT] at HC hR hln
 rw [hN] at hR
 have HR := Lib.hid hR
 clear hw0 kq0 hb0 hR hN hT hE hf hfe hV
 dsimp only [Ex.cells] at HW HC ⊢
 cases N with
 | true =>
  go_in
  go_upto_region 1 with fail
  rw [show w.alloc _ = w0 from HW.out]
  clear HW
  go_wp2_with fail
  refine (HN.out _).mono ?_
  rintro en w1 ⟨rfl, hb1⟩
  go_wp2_with fail
  go_ret
  exact ⟨by rw [← HR.out]; rfl, HB.out.trans (hb1.mono hz0)⟩
 | false =>
  go_in
  go_upto_region 1 with fail
  rw [show w.alloc _ = w0 from HW.out]
  clear HW
  go_wp2_with fail
  refine (HN.out _).mono ?_
  rintro en w1 ⟨rfl, hb1⟩
  clear q0 q1 q2 q3 q4 q5
  obtain ⟨q0, q1, q2, q3, q4, q5⟩ := HSH.out w1 hb1
  have HX := Lib.hid (HC.out w1 hb1)
  have hz1 := hb1.size
  go_wp2_with fail
  refine HX.out.mono ?_
  rintro en w2 ⟨rfl, hb2⟩
  go_wp2_with fail
  go_ret
  exact ⟨by rw [← HR.out]; simp, HB.out.trans ((hb1.trans (hb2.mono hz1)).mono hz0)⟩
end Go.Proofs.YtchilcchogcibaaGreatDoor
namespace Go.Proofs.YtchilcchogcibaaGreatDoor
open Go.RowKit
attribute [local go_sem] ByteArray.extract_mk ba_get ba_append
attribute [local go_sem ↓] Go.wp_at_zero Go.wp_at_succ
def StC (s : St) (p : StP) (g : Nat) (w : World) : Prop := w.cell? ⟨g, 0, none⟩ = some (.string ⟨s.op.toArray⟩) ∧ w.cell? ⟨g, 1, none⟩ = some (.string ⟨s.tb.toArray⟩) ∧ w.cell? ⟨g, 2, none⟩ = some (.string ⟨s.ot.toArray⟩) ∧ w.cell? ⟨g, 3, none⟩ = some (.slice p.names.a s.names.length p.names.c) ∧ w.cell? ⟨g, 4, none⟩ = some (.slice p.cols.a s.cols.length p.cols.c) ∧ w.cell? ⟨g, 5, none⟩ = some (.string ⟨s.key.toArray⟩) ∧ w.cell? ⟨g, 6, none⟩ = some (.slice p.uniq.a s.uniq.length p.uniq.c) ∧ w.cell? ⟨g, 7, none⟩ = some (.slice p.refs.a s.refs.length p.refs.c) ∧ w.cell? ⟨g, 8, none⟩ = some (.string ⟨s.chk.op.toArray⟩) ∧ w.cell? ⟨g, 9, none⟩ = some (.int .i64 s.chk.v.k) ∧ w.cell? ⟨g, 10, none⟩ = some (.int .i64 s.chk.v.i) ∧ w.cell? ⟨g, 11, none⟩ = some (.string ⟨s.chk.v.s.toArray⟩) ∧ w.cell? ⟨g, 12, none⟩ = some (.string ⟨s.chk.s.toArray⟩) ∧ w.cell? ⟨g, 13, none⟩ = some (.slice p.chk.a s.chk.l.length p.chk.c) ∧ w.cell? ⟨g, 14, none⟩ = some (.slice p.row.a s.row.length p.row.c) ∧ w.cell? ⟨g, 15, none⟩ = some (.slice p.sets.a s.sets.length p.sets.c) ∧ w.cell? ⟨g, 16, none⟩ = some (.string ⟨s.whr.op.toArray⟩) ∧ w.cell? ⟨g, 17, none⟩ = some (.int .i64 s.whr.v.k) ∧ w.cell? ⟨g, 18, none⟩ = some (.int .i64 s.whr.v.i) ∧ w.cell? ⟨g, 19, none⟩ = some (.string ⟨s.whr.v.s.toArray⟩) ∧ w.cell? ⟨g, 20, none⟩ = some (.string ⟨s.whr.s.toArray⟩) ∧ w.cell? ⟨g, 21, none⟩ = some (.slice p.whr.a s.whr.l.length p.whr.c) ∧ w.cell? ⟨g, 22, none⟩ = some (.string ⟨s.role.toArray⟩)
theorem Blk.st {w : World} {g : Nat} {t : TypeId} {s : St} {p : StP} (h : Blk w g t (s.cells p).toArray) : StC s p g w :=
 ⟨h.cell 0, h.cell 1, h.cell 2, h.cell 3, h.cell 4, h.cell 5, h.cell 6, h.cell 7, h.cell 8, h.cell 9, h.cell 10, h.cell 11, h.cell 12, h.cell 13, h.cell 14, h.cell 15, h.cell 16, h.cell 17, h.cell 18, h.cell 19, h.cell 20, h.cell 21, h.cell 22⟩
theorem stBox_in (s : St) (p : StP) (w : World) {G : Prop} (k : ∀ w0 : World, Hid (w.alloc (.cells (s.cells p).toArray 34) = w0) → Blk w0 w.heap.size 34 (s.cells p).toArray → Below w.heap.size w w0 → w.heap.size ≤ w0.heap.size →
  Hid (∀ Z : World, Below w0.heap.size w0 Z → StC s p w.heap.size Z) → Hid (Below w.heap.size w w0) → G) : G := by
 have ks0 : Blk (w.alloc (.cells (s.cells p).toArray 34)) w.heap.size 34 (s.cells p).toArray := Blk.new _ _ _
 have hb0 : Below w.heap.size w (w.alloc (.cells (s.cells p).toArray 34)) := by exact bl
 exact k _ rfl ks0 hb0 hb0.size (fun Z hz => (ks0.below hz ks0.lt).st) hb0
theorem Blk.stF {w : World} {g : Nat} {t : TypeId} {s : St} {p : StP} (h : Blk w g t (s.cells p).toArray) : w.frozen? ⟨g, 0, none⟩ = false ∧ w.frozen? ⟨g, 1, none⟩ = false ∧ w.frozen? ⟨g, 2, none⟩ = false ∧ w.frozen? ⟨g, 3, none⟩ = false ∧ w.frozen? ⟨g, 4, none⟩ = false ∧ w.frozen? ⟨g, 5, none⟩ = false ∧ w.frozen? ⟨g, 6, none⟩ = false ∧ w.frozen? ⟨g, 7, none⟩ = false ∧ w.frozen? ⟨g, 8, none⟩ = false ∧ w.frozen? ⟨g, 9, none⟩ = false ∧ w.frozen? ⟨g, 10, none⟩ = false ∧ w.frozen? ⟨g, 11, none⟩ = false ∧ w.frozen? ⟨g, 12, none⟩ = false ∧ w.frozen? ⟨g, 13, none⟩ = false ∧ w.frozen? ⟨g, 14, none⟩ = false ∧ w.frozen? ⟨g, 15, none⟩ = false ∧ w.frozen? ⟨g, 16, none⟩ = false ∧ w.frozen? ⟨g, 17, none⟩ = false ∧ w.frozen? ⟨g, 18, none⟩ = false ∧ w.frozen? ⟨g, 19, none⟩ = false ∧ w.frozen? ⟨g, 20, none⟩ = false ∧ w.frozen? ⟨g, 21, none⟩ = false ∧ w.frozen? ⟨g, 22, none⟩ = false :=
 ⟨h.frozen 0, h.frozen 1, h.frozen 2, h.frozen 3, h.frozen 4, h.frozen 5, h.frozen 6, h.frozen 7, h.frozen 8, h.frozen 9, h.frozen 10, h.frozen 11, h.frozen 12, h.frozen 13, h.frozen 14, h.frozen 15, h.frozen 16, h.frozen 17, h.frozen 18, h.frozen 19, h.frozen 20, h.frozen 21, h.frozen 22⟩
theorem empty_any (s : St) (p : StP) (w : World) (h1 : s.tb.length ≤ 1000000) (h2 : s.ot.length ≤ 1000000) (h3 : s.key.length ≤ 1000000) (h4 : s.role.length ≤ 1000000)
  (h5 : s.names.length ≤ 1000000) (h6 : s.cols.length ≤ 1000000) (h7 : s.uniq.length ≤ 1000000) (h8 : s.refs.length ≤ 1000000) (h9 : s.row.length ≤ 1000000) (h10 : s.sets.length ≤ 1000000) :
  Calls Tryz.prog 83 #[.agg (s.cells p).toArray] w (Ret (.bool (emptyS s)) w) := by
 refine stBox_in s p w fun w0 HW ks0 hb0 hz0 HST HB => ?_
 dsimp only [St.cells] at HW
 obtain ⟨R, hR⟩ : ∃ R, emptyS s = R := ⟨_, rfl⟩
 rw [hR]
 unfold emptyS at hR
 obtain ⟨N1, hN1⟩ : ∃ N, noneE s.chk = N := ⟨_, rfl⟩
 obtain ⟨N2, hN2⟩ : ∃ N, noneE s.whr = N := ⟨_, rfl⟩
 have HN1 : Hid (∀ Y : World, Calls Tryz.prog 141 #[.agg #[.string ⟨s.chk.op.toArray⟩, .int .i64 s.chk.v.k, .int .i64 s.chk.v.i, .string ⟨s.chk.v.s.toArray⟩, .string ⟨s.chk.s.toArray⟩, .slice p.chk.a s.chk.l.length p.chk.c]] Y (Ret (.bool N1) Y)) := none_at hN1
 have HN2 : Hid (∀ Y : World, Calls Tryz.prog 141 #[.agg #[.string ⟨s.whr.op.toArray⟩, .int .i64 s.whr.v.k, .int .i64 s.whr.v.i, .string ⟨s.whr.v.s.toArray⟩, .string ⟨s.whr.s.toArray⟩, .slice p.whr.a s.whr.l.length p.whr.c]] Y (Ret (.bool N2) Y)) := none_at hN2
 rw [hN1, hN2] at hR
 obtain ⟨T, hT⟩ : ∃ T, (s.tb ++ s.ot ++ s.key ++ s.role).isEmpty = T := ⟨_, rfl⟩
 have hT2 : (s.tb ++ (s.ot ++ (s.key ++ s.role))).isEmpty = T := by rw [← hT]; simp only [List.append_assoc]
 rw [hT] at hR
 obtain ⟨L, hL⟩ : ∃ L, s.names.length + s.cols.length + s.uniq.length + s.refs.length + s.row.length + s.sets.length = L := ⟨_, rfl⟩
 rw [hL] at hR
 have i1 : IntKind.i64.wrap ((s.names.length : Int) + (s.cols.length : Int)) = (s.names.length : Int) + (s.cols.length : Int) := IntWalk.i64_in _ (by omega)
 have i2 : IntKind.i64.wrap ((s.names.length : Int) + (s.cols.length : Int) + (s.uniq.length : Int)) = (s.names.length : Int) + (s.cols.length : Int) + (s.uniq.length : Int) := IntWalk.i64_in _ (by omega)
 have i3 : IntKind.i64.wrap ((s.names.length : Int) + (s.cols.length : Int) + (s.uniq.length : Int) + (s.refs.length : Int)) = (s.names.length : Int) + (s.cols.length : Int) + (s.uniq.length : Int) + (s.refs.length : Int) := IntWalk.i64_in _ (by omega)
 have i4 : IntKind.i64.wrap ((s.names.length : Int) + (s.cols.length : Int) + (s.uniq.length : Int) + (s.refs.length : Int) + (s.row.length : Int)) = (s.names.length : Int) + (s.cols.length : Int) + (s.uniq.length : Int) + (s.refs.length : Int) + (s.row.length : Int) := IntWalk.i64_in _ (by omega)
 have i5 : IntKind.i64.wrap ((s.names.length : Int) + (s.cols.length : Int) + (s.uniq.length : Int) + (s.refs.length : Int) + (s.row.length : Int) + (s.sets.length : Int)) = (L : Int) := by rw [IntWalk.i64_in _ (by omega)]; omega
 have hL2 : ((L : Int) == 0) = decide (L = 0) := by rw [Bool.eq_iff_iff]; simp
 obtain ⟨D, hD⟩ : ∃ D, decide (L = 0) = D := ⟨_, rfl⟩
 rw [hD] at hR hL2
 have HR := Lib.hid hR
 clear hR hN1 hN2 hT hL ks0 hD
 obtain ⟨s0, s1, s2, s3, s4, s5, s6, s7, s8, s9, s10, s11, s12, s13, s14, s15, s16, s17, s18, s19, s20, s21, s22⟩ := HST.out w0 (Below.refl _ _)
 dsimp only [St.cells]
 go_in
 go_upto_region 1 with fail
 rw [show w.alloc _ = w0 from HW.out]
 clear HW
 go_upto_region 3 with fail
 cases T with
 | false =>
  go_wp2_with fail
  go_ret
  exact ⟨by rw [← HR.out]; rfl, HB.out⟩
 | true =>
  cases D with
  | false =>
   go_wp2_with fail
   go_ret
   exact ⟨by rw [← HR.out]; rfl, HB.out⟩
  | true =>
   go_wp2_with fail
   refine (HN1.out _).mono ?_
   rintro en w1 ⟨rfl, hb1⟩
   clear s0 s1 s2 s3 s4 s5 s6 s7 s8 s9 s10 s11 s12 s13 s14 s15 s16 s17 s18 s19 s20 s21 s22
   cases N1 with
   | false =>
    go_wp2_with fail
    go_ret
    exact ⟨by rw [← HR.out]; rfl, HB.out.trans (hb1.mono hz0)⟩
   | true =>
    obtain ⟨s0, s1, s2, s3, s4, s5, s6, s7, s8, s9, s10, s11, s12, s13, s14, s15, s16, s17, s18, s19, s20, s21, s22⟩ := HST.out w1 hb1
    have hz1 := hb1.size
    go_wp2_with fail
    refine (HN2.out _).mono ?_
    rintro en w2 ⟨rfl, hb2⟩
    go_wp2_with fail
    go_ret
    exact ⟨by rw [← HR.out]; rfl, HB.out.trans ((hb1.trans (hb2.mono hz1)).mono hz0)⟩
structure St.Ok (s : St) : Prop where
 op : s.op.length ≤ 1000
 tb : s.tb.length ≤ 1000
 ot : s.ot.length ≤ 1000
 key : s.key.length ≤ 1000
 role : s.role.length ≤ 1000
 nN : s.names.length ≤ 1000
 nC : s.cols.length ≤ 1000
 nU : s.uniq.length ≤ 1000
 nR : s.refs.length ≤ 1000
 nW : s.row.length ≤ 1000
 nS : s.sets.length ≤ 1000
 names : ∀ x ∈ s.names, x.length ≤ 1000
 cols : ∀ c ∈ s.cols, c.n.length ≤ 1000
 uniq : ∀ x ∈ s.uniq, x.length ≤ 1000
 refs : ∀ x ∈ s.refs, x.c.length ≤ 1000 ∧ x.t.length ≤ 1000
 chk : s.chk.fit 1000
 whr : s.whr.fit 1000
 row : ∀ v ∈ s.row, fitI v.i ∧ v.s.length ≤ 1000
 sets : ∀ x ∈ s.sets, x.n.length ≤ 1000 ∧ x.e.fit 1000
 num : fitS s
theorem name_at {s : List UInt8} {N : Bool} (h : nameG s = N) (hs : s.length ≤ 1000) (Y : World) : Calls Tryz.prog 74 #[.string ⟨s.toArray⟩] Y (Ret (.bool N) Y) := by
 have := nameSt_any s Y (by omega)
 rw [h] at this
 exact this
theorem colC_any (c : Col) (w : World) (hn : c.n.length ≤ 1000) : Calls Tryz.prog 130 #[.agg #[.string ⟨c.n.toArray⟩, .int .i64 c.t, .bool c.b]] w (Ret (.bool (colOkB c)) w) := by
 obtain ⟨n, t, b⟩ := c
 dsimp only at hn ⊢
 obtain ⟨w0, hw0⟩ : ∃ w0, w.alloc (.cells #[.string ⟨n.toArray⟩, .int .i64 t, .bool b] 96) = w0 := ⟨_, rfl⟩
 have kb0 : Blk w0 w.heap.size 96 #[.string ⟨n.toArray⟩, .int .i64 t, .bool b] := by rw [← hw0]; exact Blk.new _ _ _
 have hb0 : Below w.heap.size w w0 := by rw [← hw0]; exact bl
 have hz0 := hb0.size
 have HK : Hid (∀ Z : World, Below w0.heap.size w0 Z → ∀ i, Z.cell? ⟨w.heap.size, i, none⟩ = (#[.string ⟨n.toArray⟩, .int .i64 t, .bool b] : Array Value)[i]?) := fun Z hz i => (kb0.below hz kb0.lt).cell i
 have HW := Lib.hid hw0
 have HB := Lib.hid hb0
 clear hw0 kb0 hb0
 obtain ⟨R, hR⟩ : ∃ R, colOkB ⟨n, t, b⟩ = R := ⟨_, rfl⟩
 rw [hR]
 obtain ⟨N, hN⟩ : ∃ N, nameG n = N := ⟨_, rfl⟩
 have HN := Lib.hid (name_at hN hn w0)
 have hR2 : (N && (decide (1 ≤ t) && decide (t ≤ 3))) = R := by rw [← hR, ← hN]; unfold colOkB; rw [Bool.and_assoc]
 have HR := Lib.hid hR2
 clear hR hN hR2
 have k0 : w0.cell? ⟨w.heap.size, 0, none⟩ = some (.string ⟨n.toArray⟩) := HK.out w0 (Below.refl _ _) 0
 cases N with
 | false =>
  go_in
  go_upto_region 1 with fail
  rw [HW.out]
  go_wp2_with fail
  refine HN.out.mono ?_
  rintro en w1 ⟨rfl, hb1⟩
  go_wp2_with fail
  go_ret
  exact ⟨by rw [← HR.out]; rfl, HB.out.trans (hb1.mono hz0)⟩
 | true =>
  by_cases h1 : 1 ≤ t
  ·go_in
   go_upto_region 1 with fail
   rw [HW.out]
   go_wp2_with fail
   refine HN.out.mono ?_
   rintro en w1 ⟨rfl, hb1⟩
   have k1 : w1.cell? ⟨w.heap.size, 1, none⟩ = some (.int .i64 t) := HK.out w1 hb1 1
   go_wp2_with fail
   go_ret
   exact ⟨by rw [← HR.out, decide_eq_true h1]; rfl, HB.out.trans (hb1.mono hz0)⟩
  ·have HF : Hid (decide (1 ≤ t) = false) := decide_eq_false h1
   go_in
   go_upto_region 1 with fail
   rw [HW.out]
   go_wp2_with fail
   refine HN.out.mono ?_
   rintro en w1 ⟨rfl, hb1⟩
   have k1 : w1.cell? ⟨w.heap.size, 1, none⟩ = some (.int .i64 t) := HK.out w1 hb1 1
   go_wp2_with fail
   go_ret
   exact ⟨by rw [← HR.out, HF.out]; rfl, HB.out.trans (hb1.mono hz0)⟩
theorem refC_any (c : Rf) (w : World) (hn : c.c.length ≤ 1000) (ht : c.t.length ≤ 1000) : Calls Tryz.prog 131 #[.agg #[.string ⟨c.c.toArray⟩, .string ⟨c.t.toArray⟩]] w (Ret (.bool (refOkB c)) w) := by
 obtain ⟨n, t⟩ := c
 dsimp only at hn ht ⊢
 obtain ⟨w0, hw0⟩ : ∃ w0, w.alloc (.cells #[.string ⟨n.toArray⟩, .string ⟨t.toArray⟩] 74) = w0 := ⟨_, rfl⟩
 have kb0 : Blk w0 w.heap.size 74 #[.string ⟨n.toArray⟩, .string ⟨t.toArray⟩] := by rw [← hw0]; exact Blk.new _ _ _
 have hb0 : Below w.heap.size w w0 := by rw [← hw0]; exact bl
 have hz0 := hb0.size
 have HK : Hid (∀ Z : World, Below w0.heap.size w0 Z → ∀ i, Z.cell? ⟨w.heap.size, i, none⟩ = (#[.string ⟨n.toArray⟩, .string ⟨t.toArray⟩] : Array Value)[i]?) := fun Z hz i => (kb0.below hz kb0.lt).cell i
 have HW := Lib.hid hw0
 have HB := Lib.hid hb0
 clear hw0 kb0 hb0
 obtain ⟨R, hR⟩ : ∃ R, refOkB ⟨n, t⟩ = R := ⟨_, rfl⟩
 rw [hR]
 obtain ⟨N, hN⟩ : ∃ N, nameG n = N := ⟨_, rfl⟩
 obtain ⟨N2, hN2⟩ : ∃ N, nameG t = N := ⟨_, rfl⟩
 have HN : Hid (∀ Y, Calls Tryz.prog 74 #[.string ⟨n.toArray⟩] Y (Ret (.bool N) Y)) := name_at hN hn
 have HN2 : Hid (∀ Y, Calls Tryz.prog 74 #[.string ⟨t.toArray⟩] Y (Ret (.bool N2) Y)) := name_at hN2 ht
 have hR2 : (N && N2) = R := by rw [← hR, ← hN, ← hN2]; rfl
 have HR := Lib.hid hR2
 clear hR hN hR2 hN2
 have k0 : w0.cell? ⟨w.heap.size, 0, none⟩ = some (.string ⟨n.toArray⟩) := HK.out w0 (Below.refl _ _) 0
 cases N with
 | false =>
  go_in
  go_upto_region 1 with fail
  rw [HW.out]
  go_wp2_with fail
  refine (HN.out _).mono ?_
  rintro en w1 ⟨rfl, hb1⟩
  go_wp2_with fail
  go_ret
  exact ⟨by rw [← HR.out]; rfl, HB.out.trans (hb1.mono hz0)⟩
 | true =>
  go_in
  go_upto_region 1 with fail
  rw [HW.out]
  go_wp2_with fail
  refine (HN.out _).mono ?_
  rintro en w1 ⟨rfl, hb1⟩
  have k1 : w1.cell? ⟨w.heap.size, 1, none⟩ = some (.string ⟨t.toArray⟩) := HK.out w1 hb1 1
  have hz1 := hb1.size
  go_wp2_with fail
  refine (HN2.out _).mono ?_
  rintro en w2 ⟨rfl, hb2⟩
  go_wp2_with fail
  go_ret
  exact ⟨by rw [← HR.out]; rfl, HB.out.trans ((hb1.trans (hb2.mono hz1)).mono hz0)⟩
theorem setC_any (x : Se) (A' : Option Addr) (c' m : Nat) (w : World) (hn : x.n.length ≤ 1000) (hf : x.e.fit 1000) (hE : ExS 1000 m w w.heap.size A' x.e.l) :
  Calls Tryz.prog 78 #[.agg #[.string ⟨x.n.toArray⟩, .string ⟨x.e.op.toArray⟩, .int .i64 x.e.v.k, .int .i64 x.e.v.i, .string ⟨x.e.v.s.toArray⟩, .string ⟨x.e.s.toArray⟩, .slice A' x.e.l.length c']] w (Ret (.bool (setOkB x)) w) := by
 obtain ⟨w0, hw0⟩ : ∃ w0, w.alloc (.cells #[.string ⟨x.n.toArray⟩, .string ⟨x.e.op.toArray⟩, .int .i64 x.e.v.k, .int .i64 x.e.v.i, .string ⟨x.e.v.s.toArray⟩, .string ⟨x.e.s.toArray⟩, .slice A' x.e.l.length c'] 76) = w0 := ⟨_, rfl⟩
 have kb0 : Blk w0 w.heap.size 76 #[.string ⟨x.n.toArray⟩, .string ⟨x.e.op.toArray⟩, .int .i64 x.e.v.k, .int .i64 x.e.v.i, .string ⟨x.e.v.s.toArray⟩, .string ⟨x.e.s.toArray⟩, .slice A' x.e.l.length c'] := by rw [← hw0]; exact Blk.new _ _ _
 have hb0 : Below w.heap.size w w0 := by rw [← hw0]; exact bl
 have hz0 := hb0.size
 have HK : Hid (∀ Z : World, Below w0.heap.size w0 Z → ∀ i, Z.cell? ⟨w.heap.size, i, none⟩ = (#[.string ⟨x.n.toArray⟩, .string ⟨x.e.op.toArray⟩, .int .i64 x.e.v.k, .int .i64 x.e.v.i, .string ⟨x.e.v.s.toArray⟩, .string ⟨x.e.s.toArray⟩, .slice A' x.e.l.length c'] : Array Value)[i]?) := fun Z hz i => (kb0.below hz kb0.lt).cell i
 have HW := Lib.hid hw0
 have HB := Lib.hid hb0
 clear hw0 kb0 hb0
 obtain ⟨R, hR⟩ : ∃ R, setOkB x = R := ⟨_, rfl⟩
 rw [hR]
 obtain ⟨N, hN⟩ : ∃ N, nameG x.n = N := ⟨_, rfl⟩
 obtain ⟨M, hM⟩ : ∃ M, mayX x.e = M := ⟨_, rfl⟩
 have HN : Hid (∀ Y, Calls Tryz.prog 74 #[.string ⟨x.n.toArray⟩] Y (Ret (.bool N) Y)) := name_at hN hn
 have HM : Hid (∀ Y, Below w0.heap.size w0 Y → Calls Tryz.prog 79 #[.agg #[.string ⟨x.e.op.toArray⟩, .int .i64 x.e.v.k, .int .i64 x.e.v.i, .string ⟨x.e.v.s.toArray⟩, .string ⟨x.e.s.toArray⟩, .slice A' x.e.l.length c']] Y (Ret (.bool M) Y)) := fun Y hY => by
  have := exmay_any x.e A' c' m Y hf ((hE.below m (HB.out.trans (hY.mono hz0))).more (Nat.le_trans hz0 hY.size) m)
  rw [hM] at this
  exact this
 have hR2 : (N && M) = R := by rw [← hR, ← hN, ← hM]; rfl
 have HR := Lib.hid hR2
 clear hR hN hR2 hM hE
 have k0 : w0.cell? ⟨w.heap.size, 0, none⟩ = some (.string ⟨x.n.toArray⟩) := HK.out w0 (Below.refl _ _) 0
 cases N with
 | false =>
  go_in
  go_upto_region 1 with fail
  rw [HW.out]
  go_wp2_with fail
  refine (HN.out _).mono ?_
  rintro en w1 ⟨rfl, hb1⟩
  go_wp2_with fail
  go_ret
  exact ⟨by rw [← HR.out]; rfl, HB.out.trans (hb1.mono hz0)⟩
 | true =>
  go_in
  go_upto_region 1 with fail
  rw [HW.out]
  go_wp2_with fail
  refine (HN.out _).mono ?_
  rintro en w1 ⟨rfl, hb1⟩
  have k1 : w1.cell? ⟨w.heap.size, 1, none⟩ = some (.string ⟨x.e.op.toArray⟩) := HK.out w1 hb1 1
  have k2 : w1.cell? ⟨w.heap.size, 2, none⟩ = some (.int .i64 x.e.v.k) := HK.out w1 hb1 2
  have k3 : w1.cell? ⟨w.heap.size, 3, none⟩ = some (.int .i64 x.e.v.i) := HK.out w1 hb1 3
  have k4 : w1.cell? ⟨w.heap.size, 4, none⟩ = some (.string ⟨x.e.v.s.toArray⟩) := HK.out w1 hb1 4
  have k5 : w1.cell? ⟨w.heap.size, 5, none⟩ = some (.string ⟨x.e.s.toArray⟩) := HK.out w1 hb1 5
  have k6 : w1.cell? ⟨w.heap.size, 6, none⟩ = some (.slice A' x.e.l.length c') := HK.out w1 hb1 6
  have hz1 := hb1.size
  have HX := Lib.hid (HM.out w1 hb1)
  go_wp2_with fail
  refine HX.out.mono ?_
  rintro en w2 ⟨rfl, hb2⟩
  go_wp2_with fail
  go_ret
  exact ⟨by rw [← HR.out]; rfl, HB.out.trans ((hb1.trans (hb2.mono hz1)).mono hz0)⟩
theorem manyW_any (A : Option Addr) (c : Nat) (l : List V) (lo hi : Int) (w : World) (hlo : 0 ≤ lo) (hhi : 0 ≤ hi) (hl : l.length ≤ 1000) (h : WQ l A (Old w.heap.size) w) :
  Calls Tryz.prog 76 #[.slice A l.length c, .int .i64 lo, .int .i64 hi, .func (.func 77) #[] #[]] w (Ret (.bool (manyB l lo.toNat hi.toNat (fun v => mayB v.k v.i v.s))) w) :=
 many_val A c l lo hi _ 77 (Go.Proofs.enters_of Tryz.func77 (by kernel_rfl) rfl) w hlo hhi (by omega) h (fun x _ Z _ _ => may_any x.k x.i x.s Z)
theorem manyN_any (A : Option Addr) (c : Nat) (l : List (List UInt8)) (lo hi : Int) (w : World) (hlo : 0 ≤ lo) (hhi : 0 ≤ hi) (hl : l.length ≤ 1000) (hs : ∀ x ∈ l, x.length ≤ 1000) (h : SQ l A (Old w.heap.size) w) :
  Calls Tryz.prog 82 #[.slice A l.length c, .int .i64 lo, .int .i64 hi, .func (.func 74) #[] #[]] w (Ret (.bool (manyB l lo.toNat hi.toNat nameG)) w) :=
 many_str A c l lo hi _ 74 (Go.Proofs.enters_of Tryz.func74 (by kernel_rfl) rfl) w hlo hhi (by omega) h (fun x hx Z _ _ => name_at rfl (hs x hx) Z)
theorem manyCol_any (A : Option Addr) (c : Nat) (l : List Col) (lo hi : Int) (w : World) (hlo : 0 ≤ lo) (hhi : 0 ≤ hi) (hl : l.length ≤ 1000) (hs : ∀ x ∈ l, x.n.length ≤ 1000) (h : CQ l A (Old w.heap.size) w) :
  Calls Tryz.prog 132 #[.slice A l.length c, .int .i64 lo, .int .i64 hi, .func (.func 130) #[] #[]] w (Ret (.bool (manyB l lo.toNat hi.toNat colOkB)) w) :=
 many_col A c l lo hi _ 130 (Go.Proofs.enters_of Tryz.func130 (by kernel_rfl) rfl) w hlo hhi (by omega) h (fun x hx Z _ _ => colC_any x Z (hs x hx))
theorem manyRef_any (A : Option Addr) (c : Nat) (l : List Rf) (lo hi : Int) (w : World) (hlo : 0 ≤ lo) (hhi : 0 ≤ hi) (hl : l.length ≤ 1000) (hs : ∀ x ∈ l, x.c.length ≤ 1000 ∧ x.t.length ≤ 1000) (h : XQ l A (Old w.heap.size) w) :
  Calls Tryz.prog 133 #[.slice A l.length c, .int .i64 lo, .int .i64 hi, .func (.func 131) #[] #[]] w (Ret (.bool (manyB l lo.toNat hi.toNat refOkB)) w) :=
 many_ref A c l lo hi _ 131 (Go.Proofs.enters_of Tryz.func131 (by kernel_rfl) rfl) w hlo hhi (by omega) h (fun x hx Z _ _ => refC_any x Z (hs x hx).1 (hs x hx).2)
theorem exq_s {K n : Nat} {w : World} {B : Nat} {A : Option Addr} {l : List Ex} (h : ExQ K n w (Old B) A l) (hB : B ≤ w.heap.size) : ExS K n w w.heap.size A l := h.toS (fun _ hb => Nat.lt_of_lt_of_le hb hB) n
theorem manySet_any (K n : Nat) (A : Option Addr) (c : Nat) (l : List Se) (lo hi : Int) (w : World) (hlo : 0 ≤ lo) (hhi : 0 ≤ hi) (hl : l.length ≤ 1000) (hs : ∀ x ∈ l, x.n.length ≤ 1000 ∧ x.e.fit 1000) (hK : K = 1000) (h : ZQ K n l A (Old w.heap.size) w) :
  Calls Tryz.prog 80 #[.slice A l.length c, .int .i64 lo, .int .i64 hi, .func (.func 78) #[] #[]] w (Ret (.bool (manyB l lo.toNat hi.toNat setOkB)) w) := by
 subst hK
 exact many_set A c l lo hi _ 78 (Go.Proofs.enters_of Tryz.func78 (by kernel_rfl) rfl) w hlo hhi (by omega) 1000 n h (fun x hx A' c' Z _ hex => setC_any x A' c' n Z (hs x hx).1 (hs x hx).2 (exq_s hex.2.2.2 (Nat.le_refl _)))
theorem own_less {w : World} {base base' : Nat} {e : TypeId} {size : Nat} {v : Value} {n : Nat} {xs : List Value} (h : w.ownsRow base e size v n xs) (hb : base' ≤ base) : w.ownsRow base' e size v n xs := by
 refine ⟨h.1, ?_⟩
 rcases h.2 with h | ⟨g, cap, cur, h1, h2, h3⟩
 ·exact .inl h
 ·exact .inr ⟨g, cap, cur, h1, Nat.le_trans hb h2, h3⟩
theorem cloneG_any (A : Option Addr) (c : Nat) (l : List Gr) (w : World) (hl : l.length ≤ 1000) (h : GQ l A (Old w.heap.size) w) :
  Calls Tryz.prog 40 #[.slice A l.length c] w fun e w' => ∃ A' c', e = .returned (.slice A' l.length c') ∧ w'.ownsRow w.heap.size 54 3 (.slice A' l.length c') l.length (gcs l) ∧ Below w.heap.size w w' := by
 refine (clone_grs A c l.length (gcs l) w (by omega) h.reads (gcs_one l)).mono ?_
 rintro en w1 ⟨sv, rfl, hown, hb⟩
 obtain ⟨A', c', rfl, _⟩ := GQ.own hown
 exact ⟨A', c', rfl, hown, hb⟩
theorem takeWhile_at {α : Type} (p : α → Bool) : ∀ (l : List α) (k : Nat) (x : α), l[k]? = some x → p x = true → (∀ y ∈ l.take k, p y = false) → l.takeWhile (fun y => !p y) = l.take k ∧ l.dropWhile (fun y => !p y) = l.drop k
 | [], k, x, h, _, _ => by simp at h
 | a :: r, 0, x, h, hp, _ => by
  simp at h; subst h
  simp [hp]
 | a :: r, k + 1, x, h, hp, hq => by
  have ha : p a = false := hq a (by simp)
  obtain ⟨h1, h2⟩ := takeWhile_at p r k x (by simpa using h) hp (fun y hy => hq y (by simp [hy]))
  rw [List.takeWhile_cons, List.dropWhile_cons]
  simp [ha, h1, h2]
theorem takeWhile_no {α : Type} (p : α → Bool) (l : List α) (h : ∀ y ∈ l, p y = false) : l.takeWhile (fun y => !p y) = l ∧ l.dropWhile (fun y => !p y) = [] := by
 induction l with
 | nil => exact ⟨rfl, rfl⟩
 | cons a r ih =>
  obtain ⟨h1, h2⟩ := ih (fun y hy => h y (by simp [hy]))
  rw [List.takeWhile_cons, List.dropWhile_cons]
  simp [h a (by simp), h1, h2]
theorem with_any (A : Option Addr) (c : Nat) (l : List Gr) (y : Gr) (w : World) (hl : l.length ≤ 900) (h : GQ l A (Old w.heap.size) w) :
  Calls Tryz.prog 38 #[.slice A l.length c, .agg #[.string ⟨y.r.toArray⟩, .string ⟨y.t.toArray⟩, .bool y.w]] w (RetGs (addG l y) w) := by
 obtain ⟨w0, hw0⟩ : ∃ w0, w.alloc (.cells #[.string ⟨y.r.toArray⟩, .string ⟨y.t.toArray⟩, .bool y.w] 54) = w0 := ⟨_, rfl⟩
 have kg : Blk w0 w.heap.size 54 #[.string ⟨y.r.toArray⟩, .string ⟨y.t.toArray⟩, .bool y.w] := by rw [← hw0]; exact Blk.new _ _ _
 have hb0 : Below w.heap.size w w0 := by rw [← hw0]; exact bl
 have hC := cloneG_any A c l w0 (by omega) (h.keep (old_keep hb0 hb0.size))
 have HC := Lib.hid hC
 have HW := Lib.hid hw0
 have HB0 := Lib.hid hb0
 have HK := Lib.hid kg
 have HQ : Hid (∀ Z : World, Below w0.heap.size w0 Z → GQ l A (Old Z.heap.size) Z) := fun Z hz => h.keep (old_keep (hb0.trans (hz.mono hb0.size)) (Nat.le_trans hb0.size hz.size))
 have HP : Hid (∀ Z : World, Below w0.heap.size w0 Z → Calls Tryz.prog 37 #[.slice A l.length c, .agg #[.string ⟨y.r.toArray⟩, .string ⟨y.t.toArray⟩, .bool y.w]] Z (Ret (.int .i64 (firstP (fun x => decide (x = y)) l 0)) Z)) := fun Z hz => place_any A c l y Z (by omega) (HQ.out Z hz)
 have HI : Hid (∀ Z : World, Below w0.heap.size w0 Z → Calls Tryz.prog 60 #[.slice A l.length c, .func (.func 62) #[] #[.pointer (some ⟨w.heap.size, 0, none⟩)]] Z (Ret (.int .i64 (firstP (fun x => decide (0 < gord x y)) l 0)) Z)) := fun Z hz =>
  idxG_any A c l _ 62 w.heap.size (Go.Proofs.enters_of Tryz.func62 (by kernel_rfl) rfl) Z (by omega) (HQ.out Z hz) (fun x _ Y hY => by
   have k := kg.below (hz.trans (hY.mono hz.size)) kg.lt
   exact withC_any x y w.heap.size Y (k.cell 0) (k.cell 1) (k.cell 2))
 obtain ⟨F1, hF1⟩ : ∃ F, firstP (fun x => decide (x = y)) l 0 = F := ⟨_, rfl⟩
 obtain ⟨F2, hF2⟩ : ∃ F, firstP (fun x => decide (0 < gord x y)) l 0 = F := ⟨_, rfl⟩
 obtain ⟨R, hR⟩ : ∃ R, addG l y = R := ⟨_, rfl⟩
 have hM := firstP_mem l y
 have h2 := firstP_at (fun x => decide (0 < gord x y)) l 0
 rw [hF1] at HP hM
 rw [hF2] at HI h2
 rw [hR]
 have HM := Lib.hid hM
 have H2 := Lib.hid h2
 have HR := Lib.hid hR
 have lg0 : w.heap.size < w0.heap.size := kg.lt
 obtain ⟨N, hN⟩ : ∃ N, l.length = N := ⟨_, rfl⟩
 have HL := Lib.hid hN
 have hlN : N ≤ 900 := by omega
 rw [hN] at HC HP HI ⊢
 clear hC hw0 kg h hb0 hF1 hF2 hM h2 hR hl hN
 go_in
 go_upto_region 1 with fail
 rw [HW.out]
 clear HW
 go_wp2_with fail
 refine HC.out.mono ?_
 rintro en w1 ⟨A', c', rfl, hown, hb1⟩
 have HO := Lib.hid hown
 have HLT := Lib.hid hown.lt
 have hz1 := hb1.size
 obtain ⟨⟨k0, k1, k2⟩, _⟩ := (HK.out.below hb1 lg0).three
 clear hown
 go_wp2_with fail
 refine (HP.out w1 hb1).mono ?_
 rintro en w2 ⟨rfl, hb2⟩
 have hb02 : Below w0.heap.size w0 w2 := hb1.trans (hb2.mono hz1)
 have HO2 := Lib.hid (own_below HO.out hb2)
 have hz2 := hb2.size
 have HB2 := Lib.hid hb2
 clear k0 k1 k2 hb2
 by_cases hm : y ∈ l
 ·have g1 : (0 : Int) ≤ F1 := by simpa [hm] using HM.out
  have HR2 : Hid (R = l) := by show _ = _; rw [← HR.out]; unfold addG; rw [if_pos hm]
  have HO3 := Lib.hid (own_less HO2.out HB0.out.size)
  have HB3 := Lib.hid (HB0.out.trans (hb02.mono HB0.out.size))
  clear hm
  go_wp2_with fail
  go_ret
  rw [HR2.out]
  exact ⟨_, rfl, by rw [HL.out]; exact HO3.out, HB3.out⟩
 ·have g1 : ¬ (0 : Int) ≤ F1 := by
   have := HM.out
   simpa [hm] using this
  have HR2 : Hid (R = l.takeWhile (fun x => !decide (0 < gord x y)) ++ y :: l.dropWhile (fun x => !decide (0 < gord x y))) := by show _ = _; rw [← HR.out]; unfold addG; rw [if_neg hm]
  clear hm
  have HIN : Hid (∀ (k vb : Nat) (Z : World), k ≤ N → Below w2.heap.size w2 Z → Blk Z vb 54 #[.string ⟨y.r.toArray⟩, .string ⟨y.t.toArray⟩, .bool y.w] → w2.heap.size ≤ vb →
    Calls Tryz.prog 63 #[.slice A' N c', .int .i64 k, .slice (some ⟨vb, 0, none⟩) 1 1] Z (RetOG w0.heap.size (l.take k ++ y :: l.drop k) Z)) := fun k vb Z hk hz hv hvb => by
   have hNl := HL.out
   have hO := own_below HO2.out hz
   rw [← hNl] at hO ⊢
   exact insG_any w0.heap.size k vb A' c' l y Z (by omega) (by omega) (Nat.le_trans hz1 (Nat.le_trans hz2 hz.size)) hO hv (fun a ha => by
    have := HLT.out a.block (by rw [ha]; rfl)
    omega)
  obtain ⟨⟨k0, k1, k2⟩, _⟩ := (HK.out.below hb02 lg0).three
  go_wp2_with fail
  refine (HI.out w2 hb02).mono ?_
  rintro en w3 ⟨rfl, hb3⟩
  have hb03 : Below w0.heap.size w0 w3 := hb02.trans (hb3.mono (Nat.le_trans hz1 hz2))
  have hz3 := hb3.size
  clear k0 k1 k2
  have HK3 := Lib.hid (HK.out.below hb03 lg0)
  obtain ⟨⟨k0, k1, k2⟩, _⟩ := HK3.out.three
  obtain ⟨w4, hw4⟩ : ∃ w4, w3.alloc (.cells #[.string ⟨y.r.toArray⟩, .string ⟨y.t.toArray⟩, .bool y.w] 54) = w4 := ⟨_, rfl⟩
  have kv4 : Blk w4 w3.heap.size 54 #[.string ⟨y.r.toArray⟩, .string ⟨y.t.toArray⟩, .bool y.w] := by rw [← hw4]; exact Blk.new _ _ _
  have hb34 : Below w3.heap.size w3 w4 := by rw [← hw4]; exact bl
  have hb4 : Below w2.heap.size w2 w4 := hb3.trans (hb34.mono hz3)
  have hb04 : Below w0.heap.size w0 w4 := hb03.trans (hb34.mono (by omega))
  have HW4 := Lib.hid hw4
  have HB4 : Hid (∀ Z : World, Below w0.heap.size w4 Z → Below w.heap.size w Z) := fun Z hz => HB0.out.trans ((hb04.trans hz).mono HB0.out.size)
  have HINS : Hid (∀ k, k ≤ N → Calls Tryz.prog 63 #[.slice A' N c', .int .i64 (k : Nat), .slice (some ⟨w3.heap.size, 0, none⟩) 1 1] (w3.alloc (.cells #[.string ⟨y.r.toArray⟩, .string ⟨y.t.toArray⟩, .bool y.w] 54)) (RetOG w0.heap.size (l.take k ++ y :: l.drop k) w4)) := fun k hk => by
   rw [hw4]
   exact HIN.out k w3.heap.size w4 hk hb4 kv4 (by omega)
  clear hw4 kv4 hb34 hb4 hb04 HIN HI HP
  have hcase : (F2 = -1 ∧ R = l.take N ++ y :: l.drop N) ∨ ∃ k : Nat, F2 = (k : Int) ∧ k ≤ N ∧ R = l.take k ++ y :: l.drop k := by
   rcases H2.out with ⟨h21, h22⟩ | ⟨k, x, hk, h21, hx, hpx, h22⟩
   ·left
    obtain ⟨e1, e2⟩ := takeWhile_no (fun x => decide (0 < gord x y)) l h22
    refine ⟨h21, ?_⟩
    rw [HR2.out, e1, e2, ← HL.out, List.take_length, List.drop_length]
   ·right
    obtain ⟨e1, e2⟩ := takeWhile_at (fun x => decide (0 < gord x y)) l k x hx hpx h22
    exact ⟨k, by rw [h21, Nat.zero_add], by rw [← HL.out]; omega, by rw [HR2.out, e1, e2]⟩
  rcases hcase with ⟨rfl, hr⟩ | ⟨k, rfl, hk, hr⟩
  ·have HE := Lib.hid hr
   have HX := Lib.hid (HINS.out N (Nat.le_refl _))
   clear hr
   go_wp2_with fail
   refine HX.out.mono ?_
   rintro en w5 ⟨sv, rfl, hown5, hb5⟩
   have HO5 := Lib.hid (own_less hown5 HB0.out.size)
   have HB5 := Lib.hid (HB4.out _ hb5)
   clear hown5 hb5
   go_wp2_with fail
   go_ret
   rw [HE.out]
   exact ⟨_, rfl, HO5.out, HB5.out⟩
  ·have HE := Lib.hid hr
   have HX := Lib.hid (HINS.out k hk)
   have g2 : ¬ (k : Int) < 0 := by omega
   clear hr
   go_wp2_with fail
   refine HX.out.mono ?_
   rintro en w5 ⟨sv, rfl, hown5, hb5⟩
   have HO5 := Lib.hid (own_less hown5 HB0.out.size)
   have HB5 := Lib.hid (HB4.out _ hb5)
   clear hown5 hb5
   go_wp2_with fail
   go_ret
   rw [HE.out]
   exact ⟨_, rfl, HO5.out, HB5.out⟩
theorem addG_len (l : List Gr) (g : Gr) : (addG l g).length ≤ l.length + 1 := by
 unfold addG
 split
 ·omega
 ·have := congrArg List.length (List.takeWhile_append_dropWhile (p := fun x => !decide (0 < gord x g)) (l := l))
  rw [List.length_append] at this ⊢
  rw [List.length_cons]
  omega
end Go.Proofs.YtchilcchogcibaaGreatDoor
