/- stmt.none, perhaps, written, where, check, empty as plain functions; A statement in a block of twenty-three cells; stmt.empty as a plain function. -/
import Derived.Test.YtchilcchogcibaaGreatDoorEExText
set_option maxRecDepth 100000
set_option maxHeartbeats 4000000
namespace Go.Proofs.YtchilcchogcibaaGreatDoor
open Go.RowKit
attribute [local go_sem] ByteArray.extract_mk ba_get ba_append
attribute [local go_sem ↓] Go.wp_at_zero Go.wp_at_succ run_eql_V run_neq_V
theorem none_any (e : Ex) (A : Option Addr) (c : Nat) (w : World) : Calls Tryz.prog 141 #[.agg (e.cells A c).toArray] w (Ret (.bool (noneE e)) w) := by
 refine exBox_in e A c w fun w0 hw0 kq0 hb0 hz0 HSH HW HB => ?_
 obtain ⟨q0, q1, q2, q3, q4, q5⟩ := HSH.out w0 (Below.refl _ _)
 obtain ⟨R, hR⟩ : ∃ R, noneE e = R := ⟨_, rfl⟩
 have hR2 : (e.op.isEmpty && (veq e.v V.zero && (e.s.isEmpty && e.l.isEmpty))) = R := by rw [← hR]; unfold noneE; simp only [Bool.and_assoc]
 rw [hR]
 obtain ⟨Z, hZ⟩ : ∃ Z, veq e.v V.zero = Z := ⟨_, rfl⟩
 have hzv : veq ⟨e.v.k, e.v.i, e.v.s⟩ ⟨0, 0, []⟩ = Z := hZ
 obtain ⟨L, hL⟩ : ∃ L, e.l.isEmpty = L := ⟨_, rfl⟩
 have hL2 : ((e.l.length : Int) == 0) = L := by rw [← hL, Bool.eq_iff_iff]; simp
 obtain ⟨S, hS⟩ : ∃ S, e.s.isEmpty = S := ⟨_, rfl⟩
 have hS2 : (e.s == []) = S := by rw [← hS]; cases e.s <;> rfl
 obtain ⟨O, hO⟩ : ∃ O, e.op.isEmpty = O := ⟨_, rfl⟩
 have hO2 : (e.op == []) = O := by rw [← hO]; cases e.op <;> rfl
 rw [hZ, hL, hS, hO] at hR2
 have HR := Lib.hid hR2
 clear hw0 kq0 hb0 hR hR2 hZ hL
 dsimp only [Ex.cells] at HW ⊢
 cases O with
 | false =>
  go_in
  go_upto_region 1 with fail
  rw [show w.alloc _ = w0 from HW.out]
  clear HW
  go_wp2_with fail
  go_ret
  exact ⟨by rw [← HR.out]; rfl, HB.out⟩
 | true =>
  cases Z with
  | false =>
   go_in
   go_upto_region 1 with fail
   rw [show w.alloc _ = w0 from HW.out]
   clear HW
   go_wp2_with fail
   go_ret
   exact ⟨by rw [← HR.out]; rfl, HB.out⟩
  | true =>
   cases S with
   | false =>
    go_in
    go_upto_region 1 with fail
    rw [show w.alloc _ = w0 from HW.out]
    clear HW
    go_wp2_with fail
    go_ret
    exact ⟨by rw [← HR.out]; rfl, HB.out⟩
   | true =>
    go_in
    go_upto_region 1 with fail
    rw [show w.alloc _ = w0 from HW.out]
    clear HW
    go_wp2_with fail
    go_ret
    exact ⟨by rw [← HR.out]; rfl, HB.out⟩
theorem none_at {e : Ex} {A : Option Addr} {c : Nat} {N : Bool} (h : noneE e = N) (Y : World) : Calls Tryz.prog 141 #[.agg #[.string ⟨e.op.toArray⟩, .int .i64 e.v.k, .int .i64 e.v.i, .string ⟨e.v.s.toArray⟩, .string ⟨e.s.toArray⟩, .slice A e.l.length c]] Y (Ret (.bool N) Y) := by
 have := none_any e A c Y
 rw [h] at this
 exact this
theorem exmay_any (e : Ex) (A : Option Addr) (c m : Nat) (w : World) (hf : e.fit 1000) (hE : ExS 1000 m w w.heap.size A e.l) : Calls Tryz.prog 79 #[.agg (e.cells A c).toArray] w (Ret (.bool (mayX e)) w) := by
 have := mayX_any m e A c w hf hE
 rw [may_X m e (ExS.hgt m hE)] at this
 exact this
theorem perhaps_any (e : Ex) (A : Option Addr) (c m : Nat) (w : World) (hf : e.fit 1000) (hE : ExS 1000 m w w.heap.size A e.l) : Calls Tryz.prog 81 #[.agg (e.cells A c).toArray] w (Ret (.bool (perhapsE e)) w) := by
 refine exBox_in e A c w fun w0 hw0 kq0 hb0 hz0 HSH HW HB => ?_
 obtain ⟨q0, q1, q2, q3, q4, q5⟩ := HSH.out w0 (Below.refl _ _)
 have HMAY : Hid (∀ Y : World, Below w0.heap.size w0 Y → Calls Tryz.prog 79 #[.agg (e.cells A c).toArray] Y (Ret (.bool (mayX e)) Y)) := fun Y hY => exmay_any e A c m Y hf ((hE.below m (hb0.trans (hY.mono hz0))).more (Nat.le_trans hz0 hY.size) m)
 obtain ⟨R, hR⟩ : ∃ R, perhapsE e = R := ⟨_, rfl⟩
 have hR2 : (noneE e || mayX e) = R := hR
 rw [hR]
 obtain ⟨M, hM⟩ : ∃ M, mayX e = M := ⟨_, rfl⟩
 obtain ⟨N, hN⟩ : ∃ N, noneE e = N := ⟨_, rfl⟩
 have HN : Hid (∀ Y : World, Calls Tryz.prog 141 #[.agg #[.string ⟨e.op.toArray⟩, .int .i64 e.v.k, .int .i64 e.v.i, .string ⟨e.v.s.toArray⟩, .string ⟨e.s.toArray⟩, .slice A e.l.length c]] Y (Ret (.bool N) Y)) := none_at hN
 rw [hM] at HMAY hR2
 rw [hN] at hR2
 have HR := Lib.hid hR2
 clear hw0 kq0 hb0 hR hR2 hM hN hE hf
 dsimp only [Ex.cells] at HW HMAY ⊢
 cases N with
 | true =>
  go_in
  go_upto_region 1 with fail
  rw [show w.alloc _ = w0 from HW.out]
  clear HW
  go_wp2_with fail
  refine (HN.out _).mono ?_
  rintro en w1 ⟨rfl, hb1⟩
  go_wp2_with fail
  go_ret
  exact ⟨by rw [← HR.out]; rfl, HB.out.trans (hb1.mono hz0)⟩
 | false =>
  go_in
  go_upto_region 1 with fail
  rw [show w.alloc _ = w0 from HW.out]
  clear HW
  go_wp2_with fail
  refine (HN.out _).mono ?_
  rintro en w1 ⟨rfl, hb1⟩
  clear q0 q1 q2 q3 q4 q5
  obtain ⟨q0, q1, q2, q3, q4, q5⟩ := HSH.out w1 hb1
  have HC := Lib.hid (HMAY.out w1 hb1)
  have hz1 := hb1.size
  go_wp2_with fail
  refine HC.out.mono ?_
  rintro en w2 ⟨rfl, hb2⟩
  go_wp2_with fail
  go_ret
  exact ⟨by rw [← HR.out]; rfl, HB.out.trans ((hb1.trans (hb2.mono hz1)).mono hz0)⟩
def writtenE (e : Ex) : List UInt8 := if mayX e then textX e else []
theorem written_any (e : Ex) (A : Option Addr) (c m : Nat) (w : World) (hf : e.fit 1000) (hfe : fitE 13 e) (hE : ExS 1000 m w w.heap.size A e.l) (hV : Env0 w) :
  Calls Tryz.prog 90 #[.agg (e.cells A c).toArray] w (Ret (.string ⟨(writtenE e).toArray⟩) w) := by
 refine exBox_in e A c w fun w0 hw0 kq0 hb0 hz0 HSH HW HB => ?_
 obtain ⟨q0, q1, q2, q3, q4, q5⟩ := HSH.out w0 (Below.refl _ _)
 have HC := Lib.hid (exText_any e A c m w0 hf hfe ((hE.below m hb0).more hz0 m) (hV.below hb0))
 obtain ⟨T, hT⟩ : ∃ T, writtenE e = T := ⟨_, rfl⟩
 have hT2 : (if mayX e then textX e else []) = T := hT
 obtain ⟨q, hq⟩ : ∃ q : Int, (if mayX e then 0 else 1) = q := ⟨_, rfl⟩
 rw [hT2, hq] at HC
 rw [hT]
 clear hw0 kq0 hb0 hT hT2 hE hf hfe hV hq
 dsimp only [Ex.cells] at HW HC ⊢
 go_in
 go_upto_region 1 with fail
 rw [show w.alloc _ = w0 from HW.out]
 clear HW
 go_wp2_with fail
 refine HC.out.mono ?_
 rintro en w1 ⟨rfl, hb1⟩
 go_wp2_with fail
 go_ret
 exact ⟨rfl, HB.out.trans (hb1.mono hz0)⟩
theorem written_len (e : Ex) (hf : fitE 13 e) : (writtenE e).length ≤ 1000000 := by
 unfold writtenE
 cases h : mayX e
 ·simp
 ·exact textN_lt (by omega) (form_up 12 e (mayX_form h)) hf
def whereW (e : Ex) : List UInt8 := if noneE e then [] else [32, 87, 72, 69, 82, 69, 32] ++ writtenE e
def checkW (a : List UInt8) (e : Ex) : List UInt8 := if noneE e then [] else a ++ [67, 72, 69, 67, 75, 32, 40, 32] ++ writtenE e ++ [32, 41]
theorem where_st_any (e : Ex) (A : Option Addr) (c m : Nat) (w : World) (hf : e.fit 1000) (hfe : fitE 13 e) (hE : ExS 1000 m w w.heap.size A e.l) (hV : Env0 w) :
  Calls Tryz.prog 92 #[.agg (e.cells A c).toArray] w (Ret (.string ⟨(whereW e).toArray⟩) w) := by
 refine exBox_in e A c w fun w0 hw0 kq0 hb0 hz0 HSH HW HB => ?_
 obtain ⟨q0, q1, q2, q3, q4, q5⟩ := HSH.out w0 (Below.refl _ _)
 have HC : Hid (∀ Y : World, Below w0.heap.size w0 Y → Calls Tryz.prog 90 #[.agg (e.cells A c).toArray] Y (Ret (.string ⟨(writtenE e).toArray⟩) Y)) := fun Y hY => written_any e A c m Y hf hfe ((hE.below m (hb0.trans (hY.mono hz0))).more (Nat.le_trans hz0 hY.size) m) (hV.below (hb0.trans (hY.mono hz0)))
 obtain ⟨R, hR⟩ : ∃ R, whereW e = R := ⟨_, rfl⟩
 rw [hR]
 have hln := written_len e hfe
 obtain ⟨N, hN⟩ : ∃ N, noneE e = N := ⟨_, rfl⟩
 have HN : Hid (∀ Y : World, Calls Tryz.prog 141 #[.agg #[.string ⟨e.op.toArray⟩, .int .i64 e.v.k, .int .i64 e.v.i, .string ⟨e.v.s.toArray⟩, .string ⟨e.s.toArray⟩, .slice A e.l.length c]] Y (Ret (.bool N) Y)) := none_at hN
 obtain ⟨T, hT⟩ : ∃ T, writtenE e = T := ⟨_, rfl⟩
 unfold whereW at hR
 rw [hT] at HC hR hln
 rw [hN] at hR
 have HR := Lib.hid hR
 clear hw0 kq0 hb0 hR hN hT hE hf hfe hV
 dsimp only [Ex.cells] at HW HC ⊢
 cases N with
 | true =>
  go_in
  go_upto_region 1 with fail
  rw [show w.alloc _ = w0 from HW.out]
  clear HW
  go_wp2_with fail
  refine (HN.out _).mono ?_
  rintro en w1 ⟨rfl, hb1⟩
  go_wp2_with fail
  go_ret
  exact ⟨by rw [← HR.out]; rfl, HB.out.trans (hb1.mono hz0)⟩
 | false =>
  go_in
  go_upto_region 1 with fail
  rw [show w.alloc _ = w0 from HW.out]
  clear HW
  go_wp2_with fail
  refine (HN.out _).mono ?_
  rintro en w1 ⟨rfl, hb1⟩
  clear q0 q1 q2 q3 q4 q5
  obtain ⟨q0, q1, q2, q3, q4, q5⟩ := HSH.out w1 hb1
  have HX := Lib.hid (HC.out w1 hb1)
  have hz1 := hb1.size
  go_wp2_with fail
  refine HX.out.mono ?_
  rintro en w2 ⟨rfl, hb2⟩
  go_wp2_with fail
  go_ret
  exact ⟨by rw [← HR.out]; simp, HB.out.trans ((hb1.trans (hb2.mono hz1)).mono hz0)⟩
theorem check_st_any (a : List UInt8) (e : Ex) (A : Option Addr) (c m : Nat) (w : World) (ha : a.length ≤ 1000) (hf : e.fit 1000) (hfe : fitE 13 e) (hE : ExS 1000 m w w.heap.size A e.l) (hV : Env0 w) :
  Calls Tryz.prog 94 #[.string ⟨a.toArray⟩, .agg (e.cells A c).toArray] w (Ret (.string ⟨(checkW a e).toArray⟩) w) := by
 refine exBox_in e A c w fun w0 hw0 kq0 hb0 hz0 HSH HW HB => ?_
 obtain ⟨q0, q1, q2, q3, q4, q5⟩ := HSH.out w0 (Below.refl _ _)
 have HC : Hid (∀ Y : World, Below w0.heap.size w0 Y → Calls Tryz.prog 90 #[.agg (e.cells A c).toArray] Y (Ret (.string ⟨(writtenE e).toArray⟩) Y)) := fun Y hY => written_any e A c m Y hf hfe ((hE.below m (hb0.trans (hY.mono hz0))).more (Nat.le_trans hz0 hY.size) m) (hV.below (hb0.trans (hY.mono hz0)))
 obtain ⟨R, hR⟩ : ∃ R, checkW a e = R := ⟨_, rfl⟩
 rw [hR]
 have hln := written_len e hfe
 obtain ⟨N, hN⟩ : ∃ N, noneE e = N := ⟨_, rfl⟩
 have HN : Hid (∀ Y : World, Calls Tryz.prog 141 #[.agg #[.string ⟨e.op.toArray⟩, .int .i64 e.v.k, .int .i64 e.v.i, .string ⟨e.v.s.toArray⟩, .string ⟨e.s.toArray⟩, .slice A e.l.length c]] Y (Ret (.bool N) Y)) := none_at hN
 obtain ⟨T, hT⟩ : ∃ T, writtenE e = T := ⟨_, rfl⟩
 unfold checkW at hR
 rw [hT] at HC hR hln
 rw [hN] at hR
 have HR := Lib.hid hR
 clear hw0 kq0 hb0 hR hN hT hE hf hfe hV
 dsimp only [Ex.cells] at HW HC ⊢
 cases N with
 | true =>
  go_in
  go_upto_region 1 with fail
  rw [show w.alloc _ = w0 from HW.out]
  clear HW
  go_wp2_with fail
  refine (HN.out _).mono ?_
  rintro en w1 ⟨rfl, hb1⟩
  go_wp2_with fail
  go_ret
  exact ⟨by rw [← HR.out]; rfl, HB.out.trans (hb1.mono hz0)⟩
 | false =>
  go_in
  go_upto_region 1 with fail
  rw [show w.alloc _ = w0 from HW.out]
  clear HW
  go_wp2_with fail
  refine (HN.out _).mono ?_
  rintro en w1 ⟨rfl, hb1⟩
  clear q0 q1 q2 q3 q4 q5
  obtain ⟨q0, q1, q2, q3, q4, q5⟩ := HSH.out w1 hb1
  have HX := Lib.hid (HC.out w1 hb1)
  have hz1 := hb1.size
  go_wp2_with fail
  refine HX.out.mono ?_
  rintro en w2 ⟨rfl, hb2⟩
  go_wp2_with fail
  go_ret
  exact ⟨by rw [← HR.out]; simp, HB.out.trans ((hb1.trans (hb2.mono hz1)).mono hz0)⟩
end Go.Proofs.YtchilcchogcibaaGreatDoor
namespace Go.Proofs.YtchilcchogcibaaGreatDoor
open Go.RowKit
attribute [local go_sem] ByteArray.extract_mk ba_get ba_append
attribute [local go_sem ↓] Go.wp_at_zero Go.wp_at_succ
def StC (s : St) (p : StP) (g : Nat) (w : World) : Prop := w.cell? ⟨g, 0, none⟩ = some (.string ⟨s.op.toArray⟩) ∧ w.cell? ⟨g, 1, none⟩ = some (.string ⟨s.tb.toArray⟩) ∧ w.cell? ⟨g, 2, none⟩ = some (.string ⟨s.ot.toArray⟩) ∧ w.cell? ⟨g, 3, none⟩ = some (.slice p.names.a s.names.length p.names.c) ∧ w.cell? ⟨g, 4, none⟩ = some (.slice p.cols.a s.cols.length p.cols.c) ∧ w.cell? ⟨g, 5, none⟩ = some (.string ⟨s.key.toArray⟩) ∧ w.cell? ⟨g, 6, none⟩ = some (.slice p.uniq.a s.uniq.length p.uniq.c) ∧ w.cell? ⟨g, 7, none⟩ = some (.slice p.refs.a s.refs.length p.refs.c) ∧ w.cell? ⟨g, 8, none⟩ = some (.string ⟨s.chk.op.toArray⟩) ∧ w.cell? ⟨g, 9, none⟩ = some (.int .i64 s.chk.v.k) ∧ w.cell? ⟨g, 10, none⟩ = some (.int .i64 s.chk.v.i) ∧ w.cell? ⟨g, 11, none⟩ = some (.string ⟨s.chk.v.s.toArray⟩) ∧ w.cell? ⟨g, 12, none⟩ = some (.string ⟨s.chk.s.toArray⟩) ∧ w.cell? ⟨g, 13, none⟩ = some (.slice p.chk.a s.chk.l.length p.chk.c) ∧ w.cell? ⟨g, 14, none⟩ = some (.slice p.row.a s.row.length p.row.c) ∧ w.cell? ⟨g, 15, none⟩ = some (.slice p.sets.a s.sets.length p.sets.c) ∧ w.cell? ⟨g, 16, none⟩ = some (.string ⟨s.whr.op.toArray⟩) ∧ w.cell? ⟨g, 17, none⟩ = some (.int .i64 s.whr.v.k) ∧ w.cell? ⟨g, 18, none⟩ = some (.int .i64 s.whr.v.i) ∧ w.cell? ⟨g, 19, none⟩ = some (.string ⟨s.whr.v.s.toArray⟩) ∧ w.cell? ⟨g, 20, none⟩ = some (.string ⟨s.whr.s.toArray⟩) ∧ w.cell? ⟨g, 21, none⟩ = some (.slice p.whr.a s.whr.l.length p.whr.c) ∧ w.cell? ⟨g, 22, none⟩ = some (.string ⟨s.role.toArray⟩)
theorem Blk.st {w : World} {g : Nat} {t : TypeId} {s : St} {p : StP} (h : Blk w g t (s.cells p).toArray) : StC s p g w :=
 ⟨h.cell 0, h.cell 1, h.cell 2, h.cell 3, h.cell 4, h.cell 5, h.cell 6, h.cell 7, h.cell 8, h.cell 9, h.cell 10, h.cell 11, h.cell 12, h.cell 13, h.cell 14, h.cell 15, h.cell 16, h.cell 17, h.cell 18, h.cell 19, h.cell 20, h.cell 21, h.cell 22⟩
theorem stBox_in (s : St) (p : StP) (w : World) {G : Prop} (k : ∀ w0 : World, Hid (w.alloc (.cells (s.cells p).toArray 34) = w0) → Blk w0 w.heap.size 34 (s.cells p).toArray → Below w.heap.size w w0 → w.heap.size ≤ w0.heap.size →
  Hid (∀ Z : World, Below w0.heap.size w0 Z → StC s p w.heap.size Z) → Hid (Below w.heap.size w w0) → G) : G := by
 have ks0 : Blk (w.alloc (.cells (s.cells p).toArray 34)) w.heap.size 34 (s.cells p).toArray := Blk.new _ _ _
 have hb0 : Below w.heap.size w (w.alloc (.cells (s.cells p).toArray 34)) := by exact bl
 exact k _ rfl ks0 hb0 hb0.size (fun Z hz => (ks0.below hz ks0.lt).st) hb0
theorem Blk.stF {w : World} {g : Nat} {t : TypeId} {s : St} {p : StP} (h : Blk w g t (s.cells p).toArray) : w.frozen? ⟨g, 0, none⟩ = false ∧ w.frozen? ⟨g, 1, none⟩ = false ∧ w.frozen? ⟨g, 2, none⟩ = false ∧ w.frozen? ⟨g, 3, none⟩ = false ∧ w.frozen? ⟨g, 4, none⟩ = false ∧ w.frozen? ⟨g, 5, none⟩ = false ∧ w.frozen? ⟨g, 6, none⟩ = false ∧ w.frozen? ⟨g, 7, none⟩ = false ∧ w.frozen? ⟨g, 8, none⟩ = false ∧ w.frozen? ⟨g, 9, none⟩ = false ∧ w.frozen? ⟨g, 10, none⟩ = false ∧ w.frozen? ⟨g, 11, none⟩ = false ∧ w.frozen? ⟨g, 12, none⟩ = false ∧ w.frozen? ⟨g, 13, none⟩ = false ∧ w.frozen? ⟨g, 14, none⟩ = false ∧ w.frozen? ⟨g, 15, none⟩ = false ∧ w.frozen? ⟨g, 16, none⟩ = false ∧ w.frozen? ⟨g, 17, none⟩ = false ∧ w.frozen? ⟨g, 18, none⟩ = false ∧ w.frozen? ⟨g, 19, none⟩ = false ∧ w.frozen? ⟨g, 20, none⟩ = false ∧ w.frozen? ⟨g, 21, none⟩ = false ∧ w.frozen? ⟨g, 22, none⟩ = false :=
 ⟨h.frozen 0, h.frozen 1, h.frozen 2, h.frozen 3, h.frozen 4, h.frozen 5, h.frozen 6, h.frozen 7, h.frozen 8, h.frozen 9, h.frozen 10, h.frozen 11, h.frozen 12, h.frozen 13, h.frozen 14, h.frozen 15, h.frozen 16, h.frozen 17, h.frozen 18, h.frozen 19, h.frozen 20, h.frozen 21, h.frozen 22⟩
theorem empty_any (s : St) (p : StP) (w : World) (h1 : s.tb.length ≤ 1000000) (h2 : s.ot.length ≤ 1000000) (h3 : s.key.length ≤ 1000000) (h4 : s.role.length ≤ 1000000)
  (h5 : s.names.length ≤ 1000000) (h6 : s.cols.length ≤ 1000000) (h7 : s.uniq.length ≤ 1000000) (h8 : s.refs.length ≤ 1000000) (h9 : s.row.length ≤ 1000000) (h10 : s.sets.length ≤ 1000000) :
  Calls Tryz.prog 83 #[.agg (s.cells p).toArray] w (Ret (.bool (emptyS s)) w) := by
 refine stBox_in s p w fun w0 HW ks0 hb0 hz0 HST HB => ?_
 dsimp only [St.cells] at HW
 obtain ⟨R, hR⟩ : ∃ R, emptyS s = R := ⟨_, rfl⟩
 rw [hR]
 unfold emptyS at hR
 obtain ⟨N1, hN1⟩ : ∃ N, noneE s.chk = N := ⟨_, rfl⟩
 obtain ⟨N2, hN2⟩ : ∃ N, noneE s.whr = N := ⟨_, rfl⟩
 have HN1 : Hid (∀ Y : World, Calls Tryz.prog 141 #[.agg #[.string ⟨s.chk.op.toArray⟩, .int .i64 s.chk.v.k, .int .i64 s.chk.v.i, .string ⟨s.chk.v.s.toArray⟩, .string ⟨s.chk.s.toArray⟩, .slice p.chk.a s.chk.l.length p.chk.c]] Y (Ret (.bool N1) Y)) := none_at hN1
 have HN2 : Hid (∀ Y : World, Calls Tryz.prog 141 #[.agg #[.string ⟨s.whr.op.toArray⟩, .int .i64 s.whr.v.k, .int .i64 s.whr.v.i, .string ⟨s.whr.v.s.toArray⟩, .string ⟨s.whr.s.toArray⟩, .slice p.whr.a s.whr.l.length p.whr.c]] Y (Ret (.bool N2) Y)) := none_at hN2
 rw [hN1, hN2] at hR
 obtain ⟨T, hT⟩ : ∃ T, (s.tb ++ s.ot ++ s.key ++ s.role).isEmpty = T := ⟨_, rfl⟩
 have hT2 : (s.tb ++ (s.ot ++ (s.key ++ s.role))).isEmpty = T := by rw [← hT]; simp only [List.append_assoc]
 rw [hT] at hR
 obtain ⟨L, hL⟩ : ∃ L, s.names.length + s.cols.length + s.uniq.length + s.refs.length + s.row.length + s.sets.length = L := ⟨_, rfl⟩
 rw [hL] at hR
 have i1 : IntKind.i64.wrap ((s.names.length : Int) + (s.cols.length : Int)) = (s.names.length : Int) + (s.cols.length : Int) := IntWalk.i64_in _ (by omega)
 have i2 : IntKind.i64.wrap ((s.names.length : Int) + (s.cols.length : Int) + (s.uniq.length : Int)) = (s.names.length : Int) + (s.cols.length : Int) + (s.uniq.length : Int) := IntWalk.i64_in _ (by omega)
 have i3 : IntKind.i64.wrap ((s.names.length : Int) + (s.cols.length : Int) + (s.uniq.length : Int) + (s.refs.length : Int)) = (s.names.length : Int) + (s.cols.length : Int) + (s.uniq.length : Int) + (s.refs.length : Int) := IntWalk.i64_in _ (by omega)
 have i4 : IntKind.i64.wrap ((s.names.length : Int) + (s.cols.length : Int) + (s.uniq.length : Int) + (s.refs.length : Int) + (s.row.length : Int)) = (s.names.length : Int) + (s.cols.length : Int) + (s.uniq.length : Int) + (s.refs.length : Int) + (s.row.length : Int) := IntWalk.i64_in _ (by omega)
 have i5 : IntKind.i64.wrap ((s.names.length : Int) + (s.cols.length : Int) + (s.uniq.length : Int) + (s.refs.length : Int) + (s.row.length : Int) + (s.sets.length : Int)) = (L : Int) := by rw [IntWalk.i64_in _ (by omega)]; omega
 have hL2 : ((L : Int) == 0) = decide (L = 0) := by rw [Bool.eq_iff_iff]; simp
 obtain ⟨D, hD⟩ : ∃ D, decide (L = 0) = D := ⟨_, rfl⟩
 rw [hD] at hR hL2
 have HR := Lib.hid hR
 clear hR hN1 hN2 hT hL ks0 hD
 obtain ⟨s0, s1, s2, s3, s4, s5, s6, s7, s8, s9, s10, s11, s12, s13, s14, s15, s16, s17, s18, s19, s20, s21, s22⟩ := HST.out w0 (Below.refl _ _)
 dsimp only [St.cells]
 go_in
 go_upto_region 1 with fail
 rw [show w.alloc _ = w0 from HW.out]
 clear HW
 go_upto_region 3 with fail
 cases T with
 | false =>
  go_wp2_with fail
  go_ret
  exact ⟨by rw [← HR.out]; rfl, HB.out⟩
 | true =>
  cases D with
  | false =>
   go_wp2_with fail
   go_ret
   exact ⟨by rw [← HR.out]; rfl, HB.out⟩
  | true =>
   go_wp2_with fail
   refine (HN1.out _).mono ?_
   rintro en w1 ⟨rfl, hb1⟩
   clear s0 s1 s2 s3 s4 s5 s6 s7 s8 s9 s10 s11 s12 s13 s14 s15 s16 s17 s18 s19 s20 s21 s22
   cases N1 with
   | false =>
    go_wp2_with fail
    go_ret
    exact ⟨by rw [← HR.out]; rfl, HB.out.trans (hb1.mono hz0)⟩
   | true =>
    obtain ⟨s0, s1, s2, s3, s4, s5, s6, s7, s8, s9, s10, s11, s12, s13, s14, s15, s16, s17, s18, s19, s20, s21, s22⟩ := HST.out w1 hb1
    have hz1 := hb1.size
    go_wp2_with fail
    refine (HN2.out _).mono ?_
    rintro en w2 ⟨rfl, hb2⟩
    go_wp2_with fail
    go_ret
    exact ⟨by rw [← HR.out]; rfl, HB.out.trans ((hb1.trans (hb2.mono hz1)).mono hz0)⟩
end Go.Proofs.YtchilcchogcibaaGreatDoor
