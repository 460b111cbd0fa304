/- stmt.creates, and the closures of creates and parts, as plain functions; slices.DeleteFunc at grants, by a closure that has one captured variable; grant.Without and grant.with as plain functions; grant.Both as a plain function. -/
import Derived.Test.YtchilcchogcibaaGreatDoorSGrR4
import Derived.Test.YtchilcchogcibaaGreatDoorSInsG
import Derived.Test.YtchilcchogcibaaGreatDoorSMany
import Derived.Test.YtchilcchogcibaaGreatDoorSR4d
import Derived.Test.YtchilcchogcibaaGreatDoorSStB
namespace Go.Proofs.YtchilcchogcibaaGreatDoor
open Go.RowKit
attribute [local go_sem] ByteArray.extract_mk ba_get ba_append
attribute [local go_sem ↓] Go.wp_at_zero Go.wp_at_succ
/-- A statement's texts and lists are no longer than a thousand, and its numbers fit. -/
structure St.Ok (s : St) : Prop where
 op : s.op.length ≤ 1000
 tb : s.tb.length ≤ 1000
 ot : s.ot.length ≤ 1000
 key : s.key.length ≤ 1000
 role : s.role.length ≤ 1000
 nN : s.names.length ≤ 1000
 nC : s.cols.length ≤ 1000
 nU : s.uniq.length ≤ 1000
 nR : s.refs.length ≤ 1000
 nW : s.row.length ≤ 1000
 nS : s.sets.length ≤ 1000
 names : ∀ x ∈ s.names, x.length ≤ 1000
 cols : ∀ c ∈ s.cols, c.n.length ≤ 1000
 uniq : ∀ x ∈ s.uniq, x.length ≤ 1000
 refs : ∀ x ∈ s.refs, x.c.length ≤ 1000 ∧ x.t.length ≤ 1000
 chk : s.chk.fit 1000
 whr : s.whr.fit 1000
 row : ∀ v ∈ s.row, fitI v.i ∧ v.s.length ≤ 1000
 sets : ∀ x ∈ s.sets, x.n.length ≤ 1000 ∧ x.e.fit 1000
 num : fitS s
theorem name_at {s : List UInt8} {N : Bool} (h : nameG s = N) (hs : s.length ≤ 1000) (Y : World) : Calls Tryz.prog 74 #[.string ⟨s.toArray⟩] Y (Ret (.bool N) Y) := by
 have := nameSt_any s Y (by omega)
 rw [h] at this
 exact this
set_option maxHeartbeats 1000000 in
theorem colC_any (c : Col) (w : World) (hn : c.n.length ≤ 1000) : Calls Tryz.prog 130 #[.agg #[.string ⟨c.n.toArray⟩, .int .i64 c.t, .bool c.b]] w (Ret (.bool (colOkB c)) w) := by
 obtain ⟨n, t, b⟩ := c
 dsimp only at hn ⊢
 obtain ⟨w0, hw0⟩ : ∃ w0, w.alloc (.cells #[.string ⟨n.toArray⟩, .int .i64 t, .bool b] 96) = w0 := ⟨_, rfl⟩
 have kb0 : Blk w0 w.heap.size 96 #[.string ⟨n.toArray⟩, .int .i64 t, .bool b] := by rw [← hw0]; exact Blk.new _ _ _
 have hb0 : Below w.heap.size w w0 := by rw [← hw0]; exact bl
 have hz0 := hb0.size
 have HK : Hid (∀ Z : World, Below w0.heap.size w0 Z → ∀ i, Z.cell? ⟨w.heap.size, i, none⟩ = (#[.string ⟨n.toArray⟩, .int .i64 t, .bool b] : Array Value)[i]?) := fun Z hz i => (kb0.below hz kb0.lt).cell i
 have HW := Lib.hid hw0
 have HB := Lib.hid hb0
 clear hw0 kb0 hb0
 obtain ⟨R, hR⟩ : ∃ R, colOkB ⟨n, t, b⟩ = R := ⟨_, rfl⟩
 rw [hR]
 obtain ⟨N, hN⟩ : ∃ N, nameG n = N := ⟨_, rfl⟩
 have HN := Lib.hid (name_at hN hn w0)
 have hR2 : (N && (decide (1 ≤ t) && decide (t ≤ 3))) = R := by rw [← hR, ← hN]; unfold colOkB; rw [Bool.and_assoc]
 have HR := Lib.hid hR2
 clear hR hN hR2
 have k0 : w0.cell? ⟨w.heap.size, 0, none⟩ = some (.string ⟨n.toArray⟩) := HK.out w0 (Below.refl _ _) 0
 cases N with
 | false =>
  go_enter Tryz.func130, Tryz.ntmps130
  go_upto_region 1 with fail
  rw [HW.out]
  go_wp2_with fail
  refine HN.out.mono ?_
  rintro en w1 ⟨rfl, hb1⟩
  go_wp2_with fail
  go_ret
  exact ⟨by rw [← HR.out]; rfl, HB.out.trans (hb1.mono hz0)⟩
 | true =>
  by_cases h1 : 1 ≤ t
  ·go_enter Tryz.func130, Tryz.ntmps130
   go_upto_region 1 with fail
   rw [HW.out]
   go_wp2_with fail
   refine HN.out.mono ?_
   rintro en w1 ⟨rfl, hb1⟩
   have k1 : w1.cell? ⟨w.heap.size, 1, none⟩ = some (.int .i64 t) := HK.out w1 hb1 1
   go_wp2_with fail
   go_ret
   exact ⟨by rw [← HR.out, decide_eq_true h1]; rfl, HB.out.trans (hb1.mono hz0)⟩
  ·have HF : Hid (decide (1 ≤ t) = false) := decide_eq_false h1
   go_enter Tryz.func130, Tryz.ntmps130
   go_upto_region 1 with fail
   rw [HW.out]
   go_wp2_with fail
   refine HN.out.mono ?_
   rintro en w1 ⟨rfl, hb1⟩
   have k1 : w1.cell? ⟨w.heap.size, 1, none⟩ = some (.int .i64 t) := HK.out w1 hb1 1
   go_wp2_with fail
   go_ret
   exact ⟨by rw [← HR.out, HF.out]; rfl, HB.out.trans (hb1.mono hz0)⟩
set_option maxHeartbeats 1000000 in
theorem refC_any (c : Rf) (w : World) (hn : c.c.length ≤ 1000) (ht : c.t.length ≤ 1000) : Calls Tryz.prog 131 #[.agg #[.string ⟨c.c.toArray⟩, .string ⟨c.t.toArray⟩]] w (Ret (.bool (refOkB c)) w) := by
 obtain ⟨n, t⟩ := c
 dsimp only at hn ht ⊢
 obtain ⟨w0, hw0⟩ : ∃ w0, w.alloc (.cells #[.string ⟨n.toArray⟩, .string ⟨t.toArray⟩] 74) = w0 := ⟨_, rfl⟩
 have kb0 : Blk w0 w.heap.size 74 #[.string ⟨n.toArray⟩, .string ⟨t.toArray⟩] := by rw [← hw0]; exact Blk.new _ _ _
 have hb0 : Below w.heap.size w w0 := by rw [← hw0]; exact bl
 have hz0 := hb0.size
 have HK : Hid (∀ Z : World, Below w0.heap.size w0 Z → ∀ i, Z.cell? ⟨w.heap.size, i, none⟩ = (#[.string ⟨n.toArray⟩, .string ⟨t.toArray⟩] : Array Value)[i]?) := fun Z hz i => (kb0.below hz kb0.lt).cell i
 have HW := Lib.hid hw0
 have HB := Lib.hid hb0
 clear hw0 kb0 hb0
 obtain ⟨R, hR⟩ : ∃ R, refOkB ⟨n, t⟩ = R := ⟨_, rfl⟩
 rw [hR]
 obtain ⟨N, hN⟩ : ∃ N, nameG n = N := ⟨_, rfl⟩
 obtain ⟨N2, hN2⟩ : ∃ N, nameG t = N := ⟨_, rfl⟩
 have HN : Hid (∀ Y, Calls Tryz.prog 74 #[.string ⟨n.toArray⟩] Y (Ret (.bool N) Y)) := name_at hN hn
 have HN2 : Hid (∀ Y, Calls Tryz.prog 74 #[.string ⟨t.toArray⟩] Y (Ret (.bool N2) Y)) := name_at hN2 ht
 have hR2 : (N && N2) = R := by rw [← hR, ← hN, ← hN2]; rfl
 have HR := Lib.hid hR2
 clear hR hN hR2 hN2
 have k0 : w0.cell? ⟨w.heap.size, 0, none⟩ = some (.string ⟨n.toArray⟩) := HK.out w0 (Below.refl _ _) 0
 cases N with
 | false =>
  go_enter Tryz.func131, Tryz.ntmps131
  go_upto_region 1 with fail
  rw [HW.out]
  go_wp2_with fail
  refine (HN.out _).mono ?_
  rintro en w1 ⟨rfl, hb1⟩
  go_wp2_with fail
  go_ret
  exact ⟨by rw [← HR.out]; rfl, HB.out.trans (hb1.mono hz0)⟩
 | true =>
  go_enter Tryz.func131, Tryz.ntmps131
  go_upto_region 1 with fail
  rw [HW.out]
  go_wp2_with fail
  refine (HN.out _).mono ?_
  rintro en w1 ⟨rfl, hb1⟩
  have k1 : w1.cell? ⟨w.heap.size, 1, none⟩ = some (.string ⟨t.toArray⟩) := HK.out w1 hb1 1
  have hz1 := hb1.size
  go_wp2_with fail
  refine (HN2.out _).mono ?_
  rintro en w2 ⟨rfl, hb2⟩
  go_wp2_with fail
  go_ret
  exact ⟨by rw [← HR.out]; rfl, HB.out.trans ((hb1.trans (hb2.mono hz1)).mono hz0)⟩
set_option maxHeartbeats 1000000 in
theorem setC_any (x : Se) (A' : Option Addr) (c' m : Nat) (w : World) (hn : x.n.length ≤ 1000) (hf : x.e.fit 1000) (hE : ExS 1000 m w w.heap.size A' x.e.l) :
  Calls Tryz.prog 78 #[.agg #[.string ⟨x.n.toArray⟩, .string ⟨x.e.op.toArray⟩, .int .i64 x.e.v.k, .int .i64 x.e.v.i, .string ⟨x.e.v.s.toArray⟩, .string ⟨x.e.s.toArray⟩, .slice A' x.e.l.length c']] w (Ret (.bool (setOkB x)) w) := by
 obtain ⟨w0, hw0⟩ : ∃ w0, w.alloc (.cells #[.string ⟨x.n.toArray⟩, .string ⟨x.e.op.toArray⟩, .int .i64 x.e.v.k, .int .i64 x.e.v.i, .string ⟨x.e.v.s.toArray⟩, .string ⟨x.e.s.toArray⟩, .slice A' x.e.l.length c'] 76) = w0 := ⟨_, rfl⟩
 have kb0 : Blk w0 w.heap.size 76 #[.string ⟨x.n.toArray⟩, .string ⟨x.e.op.toArray⟩, .int .i64 x.e.v.k, .int .i64 x.e.v.i, .string ⟨x.e.v.s.toArray⟩, .string ⟨x.e.s.toArray⟩, .slice A' x.e.l.length c'] := by rw [← hw0]; exact Blk.new _ _ _
 have hb0 : Below w.heap.size w w0 := by rw [← hw0]; exact bl
 have hz0 := hb0.size
 have HK : Hid (∀ Z : World, Below w0.heap.size w0 Z → ∀ i, Z.cell? ⟨w.heap.size, i, none⟩ = (#[.string ⟨x.n.toArray⟩, .string ⟨x.e.op.toArray⟩, .int .i64 x.e.v.k, .int .i64 x.e.v.i, .string ⟨x.e.v.s.toArray⟩, .string ⟨x.e.s.toArray⟩, .slice A' x.e.l.length c'] : Array Value)[i]?) := fun Z hz i => (kb0.below hz kb0.lt).cell i
 have HW := Lib.hid hw0
 have HB := Lib.hid hb0
 clear hw0 kb0 hb0
 obtain ⟨R, hR⟩ : ∃ R, setOkB x = R := ⟨_, rfl⟩
 rw [hR]
 obtain ⟨N, hN⟩ : ∃ N, nameG x.n = N := ⟨_, rfl⟩
 obtain ⟨M, hM⟩ : ∃ M, mayX x.e = M := ⟨_, rfl⟩
 have HN : Hid (∀ Y, Calls Tryz.prog 74 #[.string ⟨x.n.toArray⟩] Y (Ret (.bool N) Y)) := name_at hN hn
 have HM : Hid (∀ Y, Below w0.heap.size w0 Y → Calls Tryz.prog 79 #[.agg #[.string ⟨x.e.op.toArray⟩, .int .i64 x.e.v.k, .int .i64 x.e.v.i, .string ⟨x.e.v.s.toArray⟩, .string ⟨x.e.s.toArray⟩, .slice A' x.e.l.length c']] Y (Ret (.bool M) Y)) := fun Y hY => by
  have := exmay_any x.e A' c' m Y hf ((hE.below m (HB.out.trans (hY.mono hz0))).more (Nat.le_trans hz0 hY.size) m)
  rw [hM] at this
  exact this
 have hR2 : (N && M) = R := by rw [← hR, ← hN, ← hM]; rfl
 have HR := Lib.hid hR2
 clear hR hN hR2 hM hE
 have k0 : w0.cell? ⟨w.heap.size, 0, none⟩ = some (.string ⟨x.n.toArray⟩) := HK.out w0 (Below.refl _ _) 0
 cases N with
 | false =>
  go_enter Tryz.func78, Tryz.ntmps78
  go_upto_region 1 with fail
  rw [HW.out]
  go_wp2_with fail
  refine (HN.out _).mono ?_
  rintro en w1 ⟨rfl, hb1⟩
  go_wp2_with fail
  go_ret
  exact ⟨by rw [← HR.out]; rfl, HB.out.trans (hb1.mono hz0)⟩
 | true =>
  go_enter Tryz.func78, Tryz.ntmps78
  go_upto_region 1 with fail
  rw [HW.out]
  go_wp2_with fail
  refine (HN.out _).mono ?_
  rintro en w1 ⟨rfl, hb1⟩
  have k1 : w1.cell? ⟨w.heap.size, 1, none⟩ = some (.string ⟨x.e.op.toArray⟩) := HK.out w1 hb1 1
  have k2 : w1.cell? ⟨w.heap.size, 2, none⟩ = some (.int .i64 x.e.v.k) := HK.out w1 hb1 2
  have k3 : w1.cell? ⟨w.heap.size, 3, none⟩ = some (.int .i64 x.e.v.i) := HK.out w1 hb1 3
  have k4 : w1.cell? ⟨w.heap.size, 4, none⟩ = some (.string ⟨x.e.v.s.toArray⟩) := HK.out w1 hb1 4
  have k5 : w1.cell? ⟨w.heap.size, 5, none⟩ = some (.string ⟨x.e.s.toArray⟩) := HK.out w1 hb1 5
  have k6 : w1.cell? ⟨w.heap.size, 6, none⟩ = some (.slice A' x.e.l.length c') := HK.out w1 hb1 6
  have hz1 := hb1.size
  have HX := Lib.hid (HM.out w1 hb1)
  go_wp2_with fail
  refine HX.out.mono ?_
  rintro en w2 ⟨rfl, hb2⟩
  go_wp2_with fail
  go_ret
  exact ⟨by rw [← HR.out]; rfl, HB.out.trans ((hb1.trans (hb2.mono hz1)).mono hz0)⟩
theorem manyW_any (A : Option Addr) (c : Nat) (l : List V) (lo hi : Int) (w : World) (hlo : 0 ≤ lo) (hhi : 0 ≤ hi) (hl : l.length ≤ 1000) (h : WQ l A (Old w.heap.size) w) :
  Calls Tryz.prog 76 #[.slice A l.length c, .int .i64 lo, .int .i64 hi, .func (.func 77) #[] #[]] w (Ret (.bool (manyB l lo.toNat hi.toNat (fun v => mayB v.k v.i v.s))) w) :=
 many_val A c l lo hi _ 77 (Go.Proofs.enters_of Tryz.func77 (by kernel_rfl) rfl) w hlo hhi (by omega) h (fun x _ Z _ _ => may_any x.k x.i x.s Z)
theorem manyN_any (A : Option Addr) (c : Nat) (l : List (List UInt8)) (lo hi : Int) (w : World) (hlo : 0 ≤ lo) (hhi : 0 ≤ hi) (hl : l.length ≤ 1000) (hs : ∀ x ∈ l, x.length ≤ 1000) (h : SQ l A (Old w.heap.size) w) :
  Calls Tryz.prog 82 #[.slice A l.length c, .int .i64 lo, .int .i64 hi, .func (.func 74) #[] #[]] w (Ret (.bool (manyB l lo.toNat hi.toNat nameG)) w) :=
 many_str A c l lo hi _ 74 (Go.Proofs.enters_of Tryz.func74 (by kernel_rfl) rfl) w hlo hhi (by omega) h (fun x hx Z _ _ => name_at rfl (hs x hx) Z)
theorem manyCol_any (A : Option Addr) (c : Nat) (l : List Col) (lo hi : Int) (w : World) (hlo : 0 ≤ lo) (hhi : 0 ≤ hi) (hl : l.length ≤ 1000) (hs : ∀ x ∈ l, x.n.length ≤ 1000) (h : CQ l A (Old w.heap.size) w) :
  Calls Tryz.prog 132 #[.slice A l.length c, .int .i64 lo, .int .i64 hi, .func (.func 130) #[] #[]] w (Ret (.bool (manyB l lo.toNat hi.toNat colOkB)) w) :=
 many_col A c l lo hi _ 130 (Go.Proofs.enters_of Tryz.func130 (by kernel_rfl) rfl) w hlo hhi (by omega) h (fun x hx Z _ _ => colC_any x Z (hs x hx))
theorem manyRef_any (A : Option Addr) (c : Nat) (l : List Rf) (lo hi : Int) (w : World) (hlo : 0 ≤ lo) (hhi : 0 ≤ hi) (hl : l.length ≤ 1000) (hs : ∀ x ∈ l, x.c.length ≤ 1000 ∧ x.t.length ≤ 1000) (h : XQ l A (Old w.heap.size) w) :
  Calls Tryz.prog 133 #[.slice A l.length c, .int .i64 lo, .int .i64 hi, .func (.func 131) #[] #[]] w (Ret (.bool (manyB l lo.toNat hi.toNat refOkB)) w) :=
 many_ref A c l lo hi _ 131 (Go.Proofs.enters_of Tryz.func131 (by kernel_rfl) rfl) w hlo hhi (by omega) h (fun x hx Z _ _ => refC_any x Z (hs x hx).1 (hs x hx).2)
theorem exq_s {K n : Nat} {w : World} {B : Nat} {A : Option Addr} {l : List Ex} (h : ExQ K n w (Old B) A l) (hB : B ≤ w.heap.size) : ExS K n w w.heap.size A l := h.toS (fun _ hb => Nat.lt_of_lt_of_le hb hB) n
theorem manySet_any (K n : Nat) (A : Option Addr) (c : Nat) (l : List Se) (lo hi : Int) (w : World) (hlo : 0 ≤ lo) (hhi : 0 ≤ hi) (hl : l.length ≤ 1000) (hs : ∀ x ∈ l, x.n.length ≤ 1000 ∧ x.e.fit 1000) (hK : K = 1000) (h : ZQ K n l A (Old w.heap.size) w) :
  Calls Tryz.prog 80 #[.slice A l.length c, .int .i64 lo, .int .i64 hi, .func (.func 78) #[] #[]] w (Ret (.bool (manyB l lo.toNat hi.toNat setOkB)) w) := by
 subst hK
 exact many_set A c l lo hi _ 78 (Go.Proofs.enters_of Tryz.func78 (by kernel_rfl) rfl) w hlo hhi (by omega) 1000 n h (fun x hx A' c' Z _ hex => setC_any x A' c' n Z (hs x hx).1 (hs x hx).2 (exq_s hex.2.2.2 (Nat.le_refl _)))
theorem set_mid {α : Type} : ∀ (P : List α) (x : α) (r : List α) (v : α), (P ++ x :: r).set P.length v = P ++ v :: r
 | [], _, _, _ => rfl
 | p :: P, x, r, v => by rw [List.cons_append, List.length_cons, List.set_cons_succ, set_mid P x r v, List.cons_append]
/-- A grant put at a place of a row. -/
theorem gcs_put {w : World} {g : Nat} {t : TypeId} {H : List Gr} {S : List Value} {i : Nat} (v : Gr) (h : Blk w g t (gcs H ++ S).toArray) (hi : i < H.length) :
  Blk (((w.setCell ⟨g, i * 3, none⟩ (.string ⟨v.r.toArray⟩)).setCell ⟨g, i * 3 + 1, none⟩ (.string ⟨v.t.toArray⟩)).setCell ⟨g, i * 3 + 2, none⟩ (.bool v.w)) g t (gcs (H.set i v) ++ S).toArray := by
 have h3 := ((h.set_ (i * 3) (.string ⟨v.r.toArray⟩)).set_ (i * 3 + 1) (.string ⟨v.t.toArray⟩)).set_ (i * 3 + 2) (.bool v.w)
 obtain ⟨P, x, r, rfl, hP⟩ : ∃ P x r, H = P ++ x :: r ∧ P.length = i := ⟨H.take i, H[i], H.drop (i + 1), by rw [← List.drop_eq_getElem_cons hi, List.take_append_drop], by rw [List.length_take]; omega⟩
 have e : gcs (P ++ x :: r) ++ S = gcs P ++ (.string ⟨x.r.toArray⟩ :: .string ⟨x.t.toArray⟩ :: .bool x.w :: (gcs r ++ S)) := by
  rw [gcs_app, show x :: r = [x] ++ r from rfl, gcs_app]; simp [gcs, Gr.cells]
 have hl : (gcs P).length = i * 3 := by rw [gcs_len, hP]
 have s1 := set_mid (gcs P) (.string ⟨x.r.toArray⟩) (.string ⟨x.t.toArray⟩ :: .bool x.w :: (gcs r ++ S)) (.string ⟨v.r.toArray⟩)
 have s2 := set_mid (gcs P ++ [.string ⟨v.r.toArray⟩]) (.string ⟨x.t.toArray⟩) (.bool x.w :: (gcs r ++ S)) (.string ⟨v.t.toArray⟩)
 have s3 := set_mid (gcs P ++ [.string ⟨v.r.toArray⟩, .string ⟨v.t.toArray⟩]) (.bool x.w) (gcs r ++ S) (.bool v.w)
 simp only [List.length_append, List.length_cons, List.length_nil, hl, List.append_assoc, List.cons_append, List.nil_append] at s1 s2 s3
 rw [e] at h3
 simp only [List.setIfInBounds_toArray] at h3
 rw [s1, s2, s3] at h3
 have hset : (P ++ x :: r).set i v = P ++ v :: r := by rw [← hP]; exact set_mid P x r v
 rw [hset, gcs_app, show v :: r = [v] ++ r from rfl, gcs_app]
 have e2 : gcs P ++ (gcs [v] ++ gcs r) ++ S = gcs P ++ Value.string ⟨v.r.toArray⟩ :: .string ⟨v.t.toArray⟩ :: .bool v.w :: (gcs r ++ S) := by simp [gcs, Gr.cells]
 rw [e2]
 exact h3
/-- What stands in a row while grants are struck out. -/
def Kept (p : Gr → Bool) (l H : List Gr) (i j : Nat) : Prop := H.length = l.length ∧ H.take i = (l.take j).filter (fun x => !p x) ∧ H.drop j = l.drop j ∧ i < j ∧ i ≤ l.length
theorem Kept.skip {p : Gr → Bool} {l H : List Gr} {i j : Nat} (h : Kept p l H i j) {x : Gr} (hx : l[j]? = some x) (hp : p x = true) : Kept p l H i (j + 1) := by
 obtain ⟨h1, h2, h3, h4, h5⟩ := h
 refine ⟨h1, ?_, ?_, by omega, h5⟩
 ·rw [List.take_add_one, hx, List.filter_append, h2]
  simp [hp]
 ·rw [← List.drop_drop, h3, List.drop_drop]
theorem Kept.put {p : Gr → Bool} {l H : List Gr} {i j : Nat} (h : Kept p l H i j) {x : Gr} (hx : l[j]? = some x) (hp : p x = false) : Kept p l (H.set i x) (i + 1) (j + 1) := by
 obtain ⟨h1, h2, h3, h4, h5⟩ := h
 have hj := (List.getElem?_eq_some_iff.1 hx).1
 refine ⟨by rw [List.length_set, h1], ?_, ?_, by omega, by omega⟩
 ·rw [List.take_add_one (l := l), hx, List.filter_append, ← h2, List.take_add_one, List.getElem?_set_self (by omega), List.take_set_of_le (Nat.le_refl _)]
  simp [hp]
 ·rw [List.drop_set_of_lt (by omega), ← List.drop_drop, h3, List.drop_drop]
theorem firstP_at {α : Type} (p : α → Bool) : ∀ (l : List α) (n : Nat), (firstP p l n = -1 ∧ ∀ x ∈ l, p x = false) ∨ ∃ k x, k < l.length ∧ firstP p l n = ((n + k : Nat) : Int) ∧ l[k]? = some x ∧ p x = true ∧ ∀ y ∈ l.take k, p y = false
 | [], n => .inl ⟨rfl, fun x hx => by simp at hx⟩
 | x :: r, n => by
  rw [firstP_cons]
  cases hp : p x
  ·rcases firstP_at p r (n + 1) with ⟨h1, h2⟩ | ⟨k, y, h1, h2, h3, h4, h5⟩
   ·exact .inl ⟨h1, fun y hy => by rcases List.mem_cons.1 hy with rfl | hy; exact hp; exact h2 y hy⟩
   ·refine .inr ⟨k + 1, y, by rw [List.length_cons]; omega, ?_, h3, h4, fun z hz => ?_⟩
    ·rw [show n + (k + 1) = n + 1 + k by omega]; exact h2
    ·rcases List.mem_cons.1 hz with rfl | hz
     ·exact hp
     ·exact h5 z hz
  ·exact .inr ⟨0, x, by simp, by simp, rfl, hp, fun y hy => by simp at hy⟩
theorem own_whole {w : World} {base : Nat} {t : TypeId} {c : Nat} {l : List Gr} (hl : 0 < l.length) {A : Option Addr} (h : w.ownsRow base t 3 (.slice A l.length c) l.length (gcs l)) : ∃ g S, A = some ⟨g, 0, none⟩ ∧ base ≤ g ∧ Blk w g t (gcs l ++ S).toArray ∧ l.length ≤ c ∧ c ≤ maxLen ∧ (gcs l ++ S).length = c * 3 := by
 rcases h.2 with ⟨_, h0⟩ | ⟨g, cap, cur, e, hb, hg, hnc, hcm, hcs, htk⟩
 ·omega
 ·injection e with e1 e2 e3
  subst e1 e3
  have e : gcs l ++ cur.toList.drop (l.length * 3) = cur.toList := by rw [← htk, List.take_append_drop]
  refine ⟨g, cur.toList.drop (l.length * 3), rfl, hb, ?_, hnc, hcm, by rw [e, Array.length_toList, hcs]⟩
  rw [e, Array.toArray_toList]
  exact hg
set_option maxRecDepth 100000 in
set_option maxHeartbeats 4000000 in
theorem delG_any (base f g : Nat) (p : Gr → Bool) (A : Option Addr) (c : Nat) (l : List Gr) (eg : ∀ args (w : World), (callFunc f args).run Tryz.prog w = .ok (.enter f args) w) (w : World) (hl : l.length ≤ 1000) (hbw : base ≤ w.heap.size)
  (hown : w.ownsRow base 54 3 (.slice A l.length c) l.length (gcs l))
  (hp : ∀ x ∈ l, ∀ Z : World, Below base w Z → Calls Tryz.prog f #[.agg #[.string ⟨x.r.toArray⟩, .string ⟨x.t.toArray⟩, .bool x.w], .pointer (some ⟨g, 0, none⟩)] Z (Ret (.bool (p x)) Z)) :
  Calls Tryz.prog 39 #[.slice A l.length c, .func (.func f) #[] #[.pointer (some ⟨g, 0, none⟩)]] w (RetOG base (l.filter fun x => !p x) w) := by
 obtain ⟨i0, hi0, zi0, zi1, zi2⟩ := info_parts infoGr
 have hGQ : GQ l A (Old w.heap.size) w := by
  obtain ⟨A', c', e, _, _, h⟩ := GQ.own hown
  injection e with e1 e2 e3
  subst e1
  exact h.keep fun b hb => ⟨hb.2, fun o => rfl⟩
 have hI := idxG_any A c l p f g eg w (by omega) hGQ (fun x hx Z hz => hp x hx Z (hz.mono hbw))
 rcases firstP_at p l 0 with ⟨h1, h2⟩ | ⟨k, x0, hk, h1, hx0, hpx, h2⟩
 ·rw [h1] at hI
  have HF : Hid (l.filter (fun x => !p x) = l) := List.filter_eq_self.2 fun x hx => by rw [h2 x hx]; rfl
  have HI := Lib.hid hI
  have HO := Lib.hid hown
  rw [HF.out]
  clear hI hown hp hGQ h1 h2
  go_enter Tryz.func39, Tryz.ntmps39
  go_wp2_with fail
  refine HI.out.mono ?_
  rintro en w1 ⟨rfl, hb1⟩
  have h5 := own_below HO.out hb1
  have hb5 := hb1.mono hbw
  go_wp2_with fail
  go_ret
  exact ⟨_, rfl, h5, hb5⟩
 ·rw [h1, Nat.zero_add] at hI
  obtain ⟨g0, S, rfl, hg0, hblk, hlc, hcm, hS⟩ := own_whole (by omega) hown
  have HP := Lib.hid hp
  have HB := Lib.hid hblk
  have HS := Lib.hid hS
  have HK : Hid (Kept p l l k (k + 1)) := by
   refine ⟨rfl, ?_, rfl, by omega, by omega⟩
   rw [List.take_add_one, hx0, List.filter_append, List.filter_eq_self.2 fun y hy => by rw [h2 y hy]; rfl]
   simp [hpx]
  obtain ⟨N, hN⟩ : ∃ N, l.length = N := ⟨_, rfl⟩
  have HL := Lib.hid hN
  obtain ⟨R, hR⟩ : ∃ R, l.filter (fun x => !p x) = R := ⟨_, rfl⟩
  have HR := Lib.hid hR
  rw [hR]
  rw [hN] at hl hk hlc hI ⊢
  have HI := Lib.hid hI
  clear hI hown hp hblk hS h1 h2 hGQ hN hR hx0 hpx
  go_enter Tryz.func39, Tryz.ntmps39
  go_wp2_with fail
  refine HI.out.mono ?_
  rintro en w1 ⟨rfl, hb1⟩
  have HB1 := Lib.hid (HB.out.below hb1 HB.out.lt)
  have hb5 := hb1.mono hbw
  have n1 : ((k : Int) == -1) = false := by rw [beq_eq_false_iff_ne]; omega
  have n2 : ¬ (k : Int) = -1 := by omega
  have i1 : IntKind.i64.wrap ((k : Int) + 1) = ((k + 1 : Nat) : Int) := by rw [IntWalk.i64_in _ (by omega)]; omega
  clear hb1
  go_wp2_with fail
  go_loopw [5, 6] (fun s t wr => ∃ (i j : Nat) (H : List Gr), s = .int .i64 i ∧ t = .int .i64 j ∧ j ≤ N ∧ i < j ∧ Hid (Kept p l H i j) ∧ Blk wr g0 54 (gcs H ++ S).toArray ∧ Below base w wr) (fun _ t _ => N - (intOf t).toNat)
  case atStart => exact ⟨k, k + 1, l, rfl, rfl, by omega, by omega, HK, HB1.out, hb5⟩
  case round =>
   obtain ⟨i, j, H, rfl, rfl, hj, hij, HKE, hbl, hbw1⟩ := hrel
   obtain ⟨W, rfl⟩ : ∃ W, W = wr := ⟨_, rfl⟩
   have lg := hbl.lt
   have HBL := Lib.hid hbl
   by_cases hlt : j < N
   ·obtain ⟨x, hx⟩ : ∃ x, l[j]? = some x := ⟨l[j]'(by have := HL.out; omega), List.getElem?_eq_getElem _⟩
    have hxl := List.mem_of_getElem? hx
    have hHx : H[j]? = some x := by
     have := congrArg (·[0]?) HKE.out.2.2.1
     simpa [hx] using this
    have hHl : H.length = N := by rw [HKE.out.1, HL.out]
    have key : ∀ m y q, H[m]? = some y → q < 3 → W.cell? ⟨g0, m * 3 + q, none⟩ = y.cells[q]? := fun m y q hm hq => by
     rw [hbl.cell]
     have := gcs_at H m q y hm hq
     simp only [List.getElem?_toArray]
     rw [List.getElem?_append_left (by rw [gcs_len]; have := (List.getElem?_eq_some_iff.1 hm).1; omega)]
     exact this
    have c0 : W.cell? ⟨g0, j * 3, none⟩ = some (.string ⟨x.r.toArray⟩) := key j x 0 hHx (by omega)
    have c1 : W.cell? ⟨g0, j * 3 + 1, none⟩ = some (.string ⟨x.t.toArray⟩) := key j x 1 hHx (by omega)
    have c2 : W.cell? ⟨g0, j * 3 + 2, none⟩ = some (.bool x.w) := key j x 2 hHx (by omega)
    obtain ⟨y, hy⟩ : ∃ y, H[i]? = some y := ⟨H[i]'(by omega), List.getElem?_eq_getElem _⟩
    obtain ⟨V, hV⟩ : ∃ V, W.alloc (.cells #[.string ⟨x.r.toArray⟩, .string ⟨x.t.toArray⟩, .bool x.w] 54) = V := ⟨_, rfl⟩
    have hzW : base ≤ W.heap.size := Nat.le_trans hbw hbw1.size
    have hbV : Below base w V := by rw [← hV]; exact hbw1.alloc hzW _
    have hbWV : Below W.heap.size W V := by rw [← hV]; exact bl
    have hzV := hbWV.size
    have kV : Blk V W.heap.size 54 #[.string ⟨x.r.toArray⟩, .string ⟨x.t.toArray⟩, .bool x.w] := by rw [← hV]; exact Blk.new _ _ _
    have HC := Lib.hid (HP.out x hxl V hbV)
    obtain ⟨r, t, u⟩ := x
    obtain ⟨q, hq⟩ : ∃ q, p ⟨r, t, u⟩ = q := ⟨_, rfl⟩
    rw [hq] at HC
    have HQ := Lib.hid hq
    have HX := Lib.hid hx
    have HV := Lib.hid hV
    have HKV := Lib.hid kV
    have HY : Hid (∀ Z : World, Below W.heap.size W Z → (Z.cell? ⟨g0, i * 3, none⟩ = some (.string ⟨y.r.toArray⟩) ∧ Z.cell? ⟨g0, i * 3 + 1, none⟩ = some (.string ⟨y.t.toArray⟩) ∧ Z.cell? ⟨g0, i * 3 + 2, none⟩ = some (.bool y.w)) ∧ Z.frozen? ⟨g0, i * 3, none⟩ = false ∧ Z.frozen? ⟨g0, i * 3 + 1, none⟩ = false ∧ Z.frozen? ⟨g0, i * 3 + 2, none⟩ = false) := fun Z hz => by
     have hZ := HBL.out.below hz lg
     have hc : ∀ o, Z.cell? ⟨g0, o, none⟩ = W.cell? ⟨g0, o, none⟩ := fun o => hz.cell (p := ⟨g0, o, none⟩) lg
     exact ⟨⟨(hc _).trans (key i y 0 hy (by omega)), (hc _).trans (key i y 1 hy (by omega)), (hc _).trans (key i y 2 hy (by omega))⟩, hZ.frozen _, hZ.frozen _, hZ.frozen _⟩
    dsimp only at c0 c1 c2
    have HIL : Hid (i < H.length) := by show _ < _; omega
    have g6 : i < N := by omega
    have i2 : IntKind.i64.wrap ((j : Int) + 1) = ((j + 1 : Nat) : Int) := by rw [IntWalk.i64_in _ (by omega)]; omega
    have i3 : IntKind.i64.wrap ((i : Int) + 1) = ((i + 1 : Nat) : Int) := by rw [IntWalk.i64_in _ (by omega)]; omega
    clear hx hxl hHx hHl key hy hV kV hq hbl
    go_upto_region 8 with fail
    rw [HV.out]
    obtain ⟨v0, v1, v2⟩ : V.cell? ⟨W.heap.size, 0, none⟩ = some (.string ⟨r.toArray⟩) ∧ V.cell? ⟨W.heap.size, 1, none⟩ = some (.string ⟨t.toArray⟩) ∧ V.cell? ⟨W.heap.size, 2, none⟩ = some (.bool u) := ⟨HKV.out.cell 0, HKV.out.cell 1, HKV.out.cell 2⟩
    go_wp2_with fail
    refine HC.out.mono ?_
    rintro en w2 ⟨rfl, hb2⟩
    have hbW2 : Below W.heap.size W w2 := hbWV.trans (hb2.mono hzV)
    have hbw2 : Below base w w2 := hbV.trans (hb2.mono (Nat.le_trans hzW hzV))
    have k2 := HKV.out.below hb2 HKV.out.lt
    clear v0 v1 v2 c0 c1 c2
    obtain ⟨v0, v1, v2⟩ : w2.cell? ⟨W.heap.size, 0, none⟩ = some (.string ⟨r.toArray⟩) ∧ w2.cell? ⟨W.heap.size, 1, none⟩ = some (.string ⟨t.toArray⟩) ∧ w2.cell? ⟨W.heap.size, 2, none⟩ = some (.bool u) := ⟨k2.cell 0, k2.cell 1, k2.cell 2⟩
    cases q with
    | true =>
     go_wp2_with fail
     go_roundw
     case rel => exact ⟨i, j + 1, H, rfl, rfl, by omega, by omega, HKE.out.skip HX.out HQ.out, HBL.out.below hbW2 lg, hbw2⟩
     case measure => simp [intOf]; omega
    | false =>
     obtain ⟨⟨y0, y1, y2⟩, z0, z1, z2⟩ := HY.out w2 hbW2
     have hbl3 := gcs_put ⟨r, t, u⟩ (HBL.out.below hbW2 lg) HIL.out
     have hbw3 : Below base w (((w2.setCell ⟨g0, i * 3, none⟩ (.string ⟨r.toArray⟩)).setCell ⟨g0, i * 3 + 1, none⟩ (.string ⟨t.toArray⟩)).setCell ⟨g0, i * 3 + 2, none⟩ (.bool u)) := bwS (bwS (bwS hbw2 hg0) hg0) hg0
     have HB3 := Lib.hid hbl3
     have HW3 := Lib.hid hbw3
     clear hbl3 hbw3
     go_wp2_with fail
     go_roundw
     case rel => exact ⟨i + 1, j + 1, _, rfl, rfl, by omega, by omega, HKE.out.put HX.out HQ.out, HB3.out, HW3.out⟩
     case measure => simp [intOf]; omega
   ·obtain rfl : j = N := by omega
    have g11 : ¬ (j : Int) < (j : Int) := by omega
    have hzc : (Builtin.zeroCells zGr.cells (j - i)).toList.length = (j - i) * 3 := by rw [zeroCells_len]; rfl
    have hHl : H.length = j := by rw [HKE.out.1, HL.out]
    have hsz : (gcs H ++ S).length = c * 3 := by rw [← HS.out, List.length_append, List.length_append, gcs_len, gcs_len, hHl, HL.out]
    obtain ⟨w3, hw3⟩ : ∃ w3, W.setRow g0 ((gcs H ++ S).toArray.toList.take (i * 3) ++ (Builtin.zeroCells zGr.cells (j - i)).toList ++ (gcs H ++ S).toArray.toList.drop (i * 3 + (Builtin.zeroCells zGr.cells (j - i)).toList.length)).toArray = w3 := ⟨_, rfl⟩
    have hcl : ∀ ty, (Builtin.clear_ #[22] ty #[.slice (some ⟨g0, i * 3, none⟩) (j - i) (c - i)]).run Tryz.prog W = .ok (.tuple #[]) w3 := fun ty => by
     rw [run_clear_rowN W 22 54 ty zGr Tryz.underlying22 (fun w => by simp [zeroValue, typeInfo, hi0, zi0, zGr]) g0 (i * 3) (j - i) (c - i) (by omega) _ 54 hbl (by
      rw [← Array.length_toList (xs := Builtin.zeroCells _ _), hzc]
      show _ ≤ (gcs H ++ S).length
      omega) (zeroCells_one _ _ (by decide) (by intro v hv; simp [zGr, Value.cells] at hv; rcases hv with rfl | rfl | rfl <;> rfl)), hw3]
    have hown3 : w3.ownsRow base 54 3 (.slice (some ⟨g0, 0, none⟩) i c) R.length (gcs R) := by
     have hRi : H.take i = R := by
      have := HKE.out.2.1
      rw [← HL.out, List.take_length, HR.out] at this
      exact this
     have hRl : R.length = i := by rw [← hRi, List.length_take]; omega
     have k3 : Blk w3 g0 54 ((gcs H ++ S).toArray.toList.take (i * 3) ++ (Builtin.zeroCells zGr.cells (j - i)).toList ++ (gcs H ++ S).toArray.toList.drop (i * 3 + (Builtin.zeroCells zGr.cells (j - i)).toList.length)).toArray := by rw [← hw3]; exact hbl.row _
     rw [hRl]
     refine k3.own hg0 (by omega) hcm ?_ ?_
     ·simp only [List.size_toArray, List.length_append, List.length_take, List.length_drop, hzc] at hsz ⊢
      omega
     ·show List.take (i * 3) (List.take (i * 3) (gcs H ++ S) ++ _ ++ _) = _
      rw [List.append_assoc, List.take_left' (by rw [List.length_take, hsz]; omega), List.take_append_of_le_length (by rw [gcs_len]; omega), ← hRi, (gcs_take H i).1]
    have hbw3 : Below base w w3 := by rw [← hw3]; exact bwRow hbw1 hg0 _
    have HO3 := Lib.hid hown3
    have HW3 := Lib.hid hbw3
    have g4 : ¬ c = i := by omega
    have g5 : i ≤ j := by omega
    have g6 : i ≤ c := by omega
    clear hlt hown3 hbw3 hw3 hsz hHl hzc hbl
    go_wp2_with fail
    go_ret
    exact ⟨_, rfl, HO3.out, HW3.out⟩
theorem own_less {w : World} {base base' : Nat} {e : TypeId} {size : Nat} {v : Value} {n : Nat} {xs : List Value} (h : w.ownsRow base e size v n xs) (hb : base' ≤ base) : w.ownsRow base' e size v n xs := by
 refine ⟨h.1, ?_⟩
 rcases h.2 with h | ⟨g, cap, cur, h1, h2, h3⟩
 ·exact .inl h
 ·exact .inr ⟨g, cap, cur, h1, Nat.le_trans hb h2, h3⟩
/-- A copy of grants, in a slice of the call's own. -/
theorem cloneG_any (A : Option Addr) (c : Nat) (l : List Gr) (w : World) (hl : l.length ≤ 1000) (h : GQ l A (Old w.heap.size) w) :
  Calls Tryz.prog 40 #[.slice A l.length c] w fun e w' => ∃ A' c', e = .returned (.slice A' l.length c') ∧ w'.ownsRow w.heap.size 54 3 (.slice A' l.length c') l.length (gcs l) ∧ Below w.heap.size w w' := by
 refine (clone_grs A c l.length (gcs l) w (by omega) h.reads (gcs_one l)).mono ?_
 rintro en w1 ⟨sv, rfl, hown, hb⟩
 obtain ⟨A', c', rfl, _⟩ := GQ.own hown
 exact ⟨A', c', rfl, hown, hb⟩
theorem takeWhile_at {α : Type} (p : α → Bool) : ∀ (l : List α) (k : Nat) (x : α), l[k]? = some x → p x = true → (∀ y ∈ l.take k, p y = false) → l.takeWhile (fun y => !p y) = l.take k ∧ l.dropWhile (fun y => !p y) = l.drop k
 | [], k, x, h, _, _ => by simp at h
 | a :: r, 0, x, h, hp, _ => by
  simp at h; subst h
  simp [hp]
 | a :: r, k + 1, x, h, hp, hq => by
  have ha : p a = false := hq a (by simp)
  obtain ⟨h1, h2⟩ := takeWhile_at p r k x (by simpa using h) hp (fun y hy => hq y (by simp [hy]))
  rw [List.takeWhile_cons, List.dropWhile_cons]
  simp [ha, h1, h2]
theorem takeWhile_no {α : Type} (p : α → Bool) (l : List α) (h : ∀ y ∈ l, p y = false) : l.takeWhile (fun y => !p y) = l ∧ l.dropWhile (fun y => !p y) = [] := by
 induction l with
 | nil => exact ⟨rfl, rfl⟩
 | cons a r ih =>
  obtain ⟨h1, h2⟩ := ih (fun y hy => h y (by simp [hy]))
  rw [List.takeWhile_cons, List.dropWhile_cons]
  simp [h a (by simp), h1, h2]
set_option maxRecDepth 100000 in
set_option maxHeartbeats 4000000 in
theorem with_any (A : Option Addr) (c : Nat) (l : List Gr) (y : Gr) (w : World) (hl : l.length ≤ 900) (h : GQ l A (Old w.heap.size) w) :
  Calls Tryz.prog 38 #[.slice A l.length c, .agg #[.string ⟨y.r.toArray⟩, .string ⟨y.t.toArray⟩, .bool y.w]] w (RetGs (addG l y) w) := by
 obtain ⟨w0, hw0⟩ : ∃ w0, w.alloc (.cells #[.string ⟨y.r.toArray⟩, .string ⟨y.t.toArray⟩, .bool y.w] 54) = w0 := ⟨_, rfl⟩
 have kg : Blk w0 w.heap.size 54 #[.string ⟨y.r.toArray⟩, .string ⟨y.t.toArray⟩, .bool y.w] := by rw [← hw0]; exact Blk.new _ _ _
 have hb0 : Below w.heap.size w w0 := by rw [← hw0]; exact bl
 have hC := cloneG_any A c l w0 (by omega) (h.keep (old_keep hb0 hb0.size))
 have HC := Lib.hid hC
 have HW := Lib.hid hw0
 have HB0 := Lib.hid hb0
 have HK := Lib.hid kg
 have HQ : Hid (∀ Z : World, Below w0.heap.size w0 Z → GQ l A (Old Z.heap.size) Z) := fun Z hz => h.keep (old_keep (hb0.trans (hz.mono hb0.size)) (Nat.le_trans hb0.size hz.size))
 have HP : Hid (∀ Z : World, Below w0.heap.size w0 Z → Calls Tryz.prog 37 #[.slice A l.length c, .agg #[.string ⟨y.r.toArray⟩, .string ⟨y.t.toArray⟩, .bool y.w]] Z (Ret (.int .i64 (firstP (fun x => decide (x = y)) l 0)) Z)) := fun Z hz => place_any A c l y Z (by omega) (HQ.out Z hz)
 have HI : Hid (∀ Z : World, Below w0.heap.size w0 Z → Calls Tryz.prog 60 #[.slice A l.length c, .func (.func 62) #[] #[.pointer (some ⟨w.heap.size, 0, none⟩)]] Z (Ret (.int .i64 (firstP (fun x => decide (0 < gord x y)) l 0)) Z)) := fun Z hz =>
  idxG_any A c l _ 62 w.heap.size (Go.Proofs.enters_of Tryz.func62 (by kernel_rfl) rfl) Z (by omega) (HQ.out Z hz) (fun x _ Y hY => by
   have k := kg.below (hz.trans (hY.mono hz.size)) kg.lt
   exact withC_any x y w.heap.size Y (k.cell 0) (k.cell 1) (k.cell 2))
 obtain ⟨F1, hF1⟩ : ∃ F, firstP (fun x => decide (x = y)) l 0 = F := ⟨_, rfl⟩
 obtain ⟨F2, hF2⟩ : ∃ F, firstP (fun x => decide (0 < gord x y)) l 0 = F := ⟨_, rfl⟩
 obtain ⟨R, hR⟩ : ∃ R, addG l y = R := ⟨_, rfl⟩
 have hM := firstP_mem l y
 have h2 := firstP_at (fun x => decide (0 < gord x y)) l 0
 rw [hF1] at HP hM
 rw [hF2] at HI h2
 rw [hR]
 have HM := Lib.hid hM
 have H2 := Lib.hid h2
 have HR := Lib.hid hR
 have lg0 : w.heap.size < w0.heap.size := kg.lt
 obtain ⟨N, hN⟩ : ∃ N, l.length = N := ⟨_, rfl⟩
 have HL := Lib.hid hN
 have hlN : N ≤ 900 := by omega
 rw [hN] at HC HP HI ⊢
 clear hC hw0 kg h hb0 hF1 hF2 hM h2 hR hl hN
 go_enter Tryz.func38, Tryz.ntmps38
 go_upto_region 1 with fail
 rw [HW.out]
 clear HW
 go_wp2_with fail
 refine HC.out.mono ?_
 rintro en w1 ⟨A', c', rfl, hown, hb1⟩
 have HO := Lib.hid hown
 have HLT := Lib.hid hown.lt
 have hz1 := hb1.size
 obtain ⟨⟨k0, k1, k2⟩, _⟩ := (HK.out.below hb1 lg0).three
 clear hown
 go_wp2_with fail
 refine (HP.out w1 hb1).mono ?_
 rintro en w2 ⟨rfl, hb2⟩
 have hb02 : Below w0.heap.size w0 w2 := hb1.trans (hb2.mono hz1)
 have HO2 := Lib.hid (own_below HO.out hb2)
 have hz2 := hb2.size
 have HB2 := Lib.hid hb2
 clear k0 k1 k2 hb2
 by_cases hm : y ∈ l
 ·have g1 : (0 : Int) ≤ F1 := by simpa [hm] using HM.out
  have HR2 : Hid (R = l) := by show _ = _; rw [← HR.out]; unfold addG; rw [if_pos hm]
  have HO3 := Lib.hid (own_less HO2.out HB0.out.size)
  have HB3 := Lib.hid (HB0.out.trans (hb02.mono HB0.out.size))
  clear hm
  go_wp2_with fail
  go_ret
  rw [HR2.out]
  exact ⟨_, rfl, by rw [HL.out]; exact HO3.out, HB3.out⟩
 ·have g1 : ¬ (0 : Int) ≤ F1 := by
   have := HM.out
   simpa [hm] using this
  have HR2 : Hid (R = l.takeWhile (fun x => !decide (0 < gord x y)) ++ y :: l.dropWhile (fun x => !decide (0 < gord x y))) := by show _ = _; rw [← HR.out]; unfold addG; rw [if_neg hm]
  clear hm
  have HIN : Hid (∀ (k vb : Nat) (Z : World), k ≤ N → Below w2.heap.size w2 Z → Blk Z vb 54 #[.string ⟨y.r.toArray⟩, .string ⟨y.t.toArray⟩, .bool y.w] → w2.heap.size ≤ vb →
    Calls Tryz.prog 63 #[.slice A' N c', .int .i64 k, .slice (some ⟨vb, 0, none⟩) 1 1] Z (RetOG w0.heap.size (l.take k ++ y :: l.drop k) Z)) := fun k vb Z hk hz hv hvb => by
   have hNl := HL.out
   have hO := own_below HO2.out hz
   rw [← hNl] at hO ⊢
   exact insG_any w0.heap.size k vb A' c' l y Z (by omega) (by omega) (Nat.le_trans hz1 (Nat.le_trans hz2 hz.size)) hO hv (fun a ha => by
    have := HLT.out a.block (by rw [ha]; rfl)
    omega)
  obtain ⟨⟨k0, k1, k2⟩, _⟩ := (HK.out.below hb02 lg0).three
  go_wp2_with fail
  refine (HI.out w2 hb02).mono ?_
  rintro en w3 ⟨rfl, hb3⟩
  have hb03 : Below w0.heap.size w0 w3 := hb02.trans (hb3.mono (Nat.le_trans hz1 hz2))
  have hz3 := hb3.size
  clear k0 k1 k2
  have HK3 := Lib.hid (HK.out.below hb03 lg0)
  obtain ⟨⟨k0, k1, k2⟩, _⟩ := HK3.out.three
  obtain ⟨w4, hw4⟩ : ∃ w4, w3.alloc (.cells #[.string ⟨y.r.toArray⟩, .string ⟨y.t.toArray⟩, .bool y.w] 54) = w4 := ⟨_, rfl⟩
  have kv4 : Blk w4 w3.heap.size 54 #[.string ⟨y.r.toArray⟩, .string ⟨y.t.toArray⟩, .bool y.w] := by rw [← hw4]; exact Blk.new _ _ _
  have hb34 : Below w3.heap.size w3 w4 := by rw [← hw4]; exact bl
  have hb4 : Below w2.heap.size w2 w4 := hb3.trans (hb34.mono hz3)
  have hb04 : Below w0.heap.size w0 w4 := hb03.trans (hb34.mono (by omega))
  have HW4 := Lib.hid hw4
  have HB4 : Hid (∀ Z : World, Below w0.heap.size w4 Z → Below w.heap.size w Z) := fun Z hz => HB0.out.trans ((hb04.trans hz).mono HB0.out.size)
  have HINS : Hid (∀ k, k ≤ N → Calls Tryz.prog 63 #[.slice A' N c', .int .i64 (k : Nat), .slice (some ⟨w3.heap.size, 0, none⟩) 1 1] (w3.alloc (.cells #[.string ⟨y.r.toArray⟩, .string ⟨y.t.toArray⟩, .bool y.w] 54)) (RetOG w0.heap.size (l.take k ++ y :: l.drop k) w4)) := fun k hk => by
   rw [hw4]
   exact HIN.out k w3.heap.size w4 hk hb4 kv4 (by omega)
  clear hw4 kv4 hb34 hb4 hb04 HIN HI HP
  have hcase : (F2 = -1 ∧ R = l.take N ++ y :: l.drop N) ∨ ∃ k : Nat, F2 = (k : Int) ∧ k ≤ N ∧ R = l.take k ++ y :: l.drop k := by
   rcases H2.out with ⟨h21, h22⟩ | ⟨k, x, hk, h21, hx, hpx, h22⟩
   ·left
    obtain ⟨e1, e2⟩ := takeWhile_no (fun x => decide (0 < gord x y)) l h22
    refine ⟨h21, ?_⟩
    rw [HR2.out, e1, e2, ← HL.out, List.take_length, List.drop_length]
   ·right
    obtain ⟨e1, e2⟩ := takeWhile_at (fun x => decide (0 < gord x y)) l k x hx hpx h22
    exact ⟨k, by rw [h21, Nat.zero_add], by rw [← HL.out]; omega, by rw [HR2.out, e1, e2]⟩
  rcases hcase with ⟨rfl, hr⟩ | ⟨k, rfl, hk, hr⟩
  ·have HE := Lib.hid hr
   have HX := Lib.hid (HINS.out N (Nat.le_refl _))
   clear hr
   go_wp2_with fail
   refine HX.out.mono ?_
   rintro en w5 ⟨sv, rfl, hown5, hb5⟩
   have HO5 := Lib.hid (own_less hown5 HB0.out.size)
   have HB5 := Lib.hid (HB4.out _ hb5)
   clear hown5 hb5
   go_wp2_with fail
   go_ret
   rw [HE.out]
   exact ⟨_, rfl, HO5.out, HB5.out⟩
  ·have HE := Lib.hid hr
   have HX := Lib.hid (HINS.out k hk)
   have g2 : ¬ (k : Int) < 0 := by omega
   clear hr
   go_wp2_with fail
   refine HX.out.mono ?_
   rintro en w5 ⟨sv, rfl, hown5, hb5⟩
   have HO5 := Lib.hid (own_less hown5 HB0.out.size)
   have HB5 := Lib.hid (HB4.out _ hb5)
   clear hown5 hb5
   go_wp2_with fail
   go_ret
   rw [HE.out]
   exact ⟨_, rfl, HO5.out, HB5.out⟩
theorem addG_len (l : List Gr) (g : Gr) : (addG l g).length ≤ l.length + 1 := by
 unfold addG
 split
 ·omega
 ·have := congrArg List.length (List.takeWhile_append_dropWhile (p := fun x => !decide (0 < gord x g)) (l := l))
  rw [List.length_append] at this ⊢
  rw [List.length_cons]
  omega
end Go.Proofs.YtchilcchogcibaaGreatDoor
