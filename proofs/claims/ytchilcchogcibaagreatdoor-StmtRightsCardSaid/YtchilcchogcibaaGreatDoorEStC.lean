/- stmt.creates, and the closures of creates and parts, as plain functions. Condition: a statement whose texts and lists are no longer than a thousand.. -/
import Derived.Test.YtchilcchogcibaaGreatDoorEMany
import Derived.Test.YtchilcchogcibaaGreatDoorEStB
set_option maxHeartbeats 1000000
namespace Go.Proofs.YtchilcchogcibaaGreatDoor
open Go.RowKit
attribute [local go_sem] ByteArray.extract_mk ba_get ba_append
attribute [local go_sem ↓] Go.wp_at_zero Go.wp_at_succ
structure St.Ok (s : St) : Prop where
 op : s.op.length ≤ 1000
 tb : s.tb.length ≤ 1000
 ot : s.ot.length ≤ 1000
 key : s.key.length ≤ 1000
 role : s.role.length ≤ 1000
 nN : s.names.length ≤ 1000
 nC : s.cols.length ≤ 1000
 nU : s.uniq.length ≤ 1000
 nR : s.refs.length ≤ 1000
 nW : s.row.length ≤ 1000
 nS : s.sets.length ≤ 1000
 names : ∀ x ∈ s.names, x.length ≤ 1000
 cols : ∀ c ∈ s.cols, c.n.length ≤ 1000
 uniq : ∀ x ∈ s.uniq, x.length ≤ 1000
 refs : ∀ x ∈ s.refs, x.c.length ≤ 1000 ∧ x.t.length ≤ 1000
 chk : s.chk.fit 1000
 whr : s.whr.fit 1000
 row : ∀ v ∈ s.row, fitI v.i ∧ v.s.length ≤ 1000
 sets : ∀ x ∈ s.sets, x.n.length ≤ 1000 ∧ x.e.fit 1000
 num : fitS s
theorem name_at {s : List UInt8} {N : Bool} (h : nameG s = N) (hs : s.length ≤ 1000) (Y : World) : Calls Tryz.prog 74 #[.string ⟨s.toArray⟩] Y (Ret (.bool N) Y) := by
 have := nameSt_any s Y (by omega)
 rw [h] at this
 exact this
theorem colC_any (c : Col) (w : World) (hn : c.n.length ≤ 1000) : Calls Tryz.prog 130 #[.agg #[.string ⟨c.n.toArray⟩, .int .i64 c.t, .bool c.b]] w (Ret (.bool (colOkB c)) w) := by
 obtain ⟨n, t, b⟩ := c
 dsimp only at hn ⊢
 obtain ⟨w0, hw0⟩ : ∃ w0, w.alloc (.cells #[.string ⟨n.toArray⟩, .int .i64 t, .bool b] 96) = w0 := ⟨_, rfl⟩
 have kb0 : Blk w0 w.heap.size 96 #[.string ⟨n.toArray⟩, .int .i64 t, .bool b] := by rw [← hw0]; exact Blk.new _ _ _
 have hb0 : Below w.heap.size w w0 := by rw [← hw0]; exact bl
 have hz0 := hb0.size
 have HK : Hid (∀ Z : World, Below w0.heap.size w0 Z → ∀ i, Z.cell? ⟨w.heap.size, i, none⟩ = (#[.string ⟨n.toArray⟩, .int .i64 t, .bool b] : Array Value)[i]?) := fun Z hz i => (kb0.below hz kb0.lt).cell i
 have HW := Lib.hid hw0
 have HB := Lib.hid hb0
 clear hw0 kb0 hb0
 obtain ⟨R, hR⟩ : ∃ R, colOkB ⟨n, t, b⟩ = R := ⟨_, rfl⟩
 rw [hR]
 obtain ⟨N, hN⟩ : ∃ N, nameG n = N := ⟨_, rfl⟩
 have HN := Lib.hid (name_at hN hn w0)
 have hR2 : (N && (decide (1 ≤ t) && decide (t ≤ 3))) = R := by rw [← hR, ← hN]; unfold colOkB; rw [Bool.and_assoc]
 have HR := Lib.hid hR2
 clear hR hN hR2
 have k0 : w0.cell? ⟨w.heap.size, 0, none⟩ = some (.string ⟨n.toArray⟩) := HK.out w0 (Below.refl _ _) 0
 cases N with
 | false =>
  go_in
  go_upto_region 1 with fail
  rw [HW.out]
  go_wp2_with fail
  refine HN.out.mono ?_
  rintro en w1 ⟨rfl, hb1⟩
  go_wp2_with fail
  go_ret
  exact ⟨by rw [← HR.out]; rfl, HB.out.trans (hb1.mono hz0)⟩
 | true =>
  by_cases h1 : 1 ≤ t
  ·go_in
   go_upto_region 1 with fail
   rw [HW.out]
   go_wp2_with fail
   refine HN.out.mono ?_
   rintro en w1 ⟨rfl, hb1⟩
   have k1 : w1.cell? ⟨w.heap.size, 1, none⟩ = some (.int .i64 t) := HK.out w1 hb1 1
   go_wp2_with fail
   go_ret
   exact ⟨by rw [← HR.out, decide_eq_true h1]; rfl, HB.out.trans (hb1.mono hz0)⟩
  ·have HF : Hid (decide (1 ≤ t) = false) := decide_eq_false h1
   go_in
   go_upto_region 1 with fail
   rw [HW.out]
   go_wp2_with fail
   refine HN.out.mono ?_
   rintro en w1 ⟨rfl, hb1⟩
   have k1 : w1.cell? ⟨w.heap.size, 1, none⟩ = some (.int .i64 t) := HK.out w1 hb1 1
   go_wp2_with fail
   go_ret
   exact ⟨by rw [← HR.out, HF.out]; rfl, HB.out.trans (hb1.mono hz0)⟩
theorem refC_any (c : Rf) (w : World) (hn : c.c.length ≤ 1000) (ht : c.t.length ≤ 1000) : Calls Tryz.prog 131 #[.agg #[.string ⟨c.c.toArray⟩, .string ⟨c.t.toArray⟩]] w (Ret (.bool (refOkB c)) w) := by
 obtain ⟨n, t⟩ := c
 dsimp only at hn ht ⊢
 obtain ⟨w0, hw0⟩ : ∃ w0, w.alloc (.cells #[.string ⟨n.toArray⟩, .string ⟨t.toArray⟩] 74) = w0 := ⟨_, rfl⟩
 have kb0 : Blk w0 w.heap.size 74 #[.string ⟨n.toArray⟩, .string ⟨t.toArray⟩] := by rw [← hw0]; exact Blk.new _ _ _
 have hb0 : Below w.heap.size w w0 := by rw [← hw0]; exact bl
 have hz0 := hb0.size
 have HK : Hid (∀ Z : World, Below w0.heap.size w0 Z → ∀ i, Z.cell? ⟨w.heap.size, i, none⟩ = (#[.string ⟨n.toArray⟩, .string ⟨t.toArray⟩] : Array Value)[i]?) := fun Z hz i => (kb0.below hz kb0.lt).cell i
 have HW := Lib.hid hw0
 have HB := Lib.hid hb0
 clear hw0 kb0 hb0
 obtain ⟨R, hR⟩ : ∃ R, refOkB ⟨n, t⟩ = R := ⟨_, rfl⟩
 rw [hR]
 obtain ⟨N, hN⟩ : ∃ N, nameG n = N := ⟨_, rfl⟩
 obtain ⟨N2, hN2⟩ : ∃ N, nameG t = N := ⟨_, rfl⟩
 have HN : Hid (∀ Y, Calls Tryz.prog 74 #[.string ⟨n.toArray⟩] Y (Ret (.bool N) Y)) := name_at hN hn
 have HN2 : Hid (∀ Y, Calls Tryz.prog 74 #[.string ⟨t.toArray⟩] Y (Ret (.bool N2) Y)) := name_at hN2 ht
 have hR2 : (N && N2) = R := by rw [← hR, ← hN, ← hN2]; rfl
 have HR := Lib.hid hR2
 clear hR hN hR2 hN2
 have k0 : w0.cell? ⟨w.heap.size, 0, none⟩ = some (.string ⟨n.toArray⟩) := HK.out w0 (Below.refl _ _) 0
 cases N with
 | false =>
  go_in
  go_upto_region 1 with fail
  rw [HW.out]
  go_wp2_with fail
  refine (HN.out _).mono ?_
  rintro en w1 ⟨rfl, hb1⟩
  go_wp2_with fail
  go_ret
  exact ⟨by rw [← HR.out]; rfl, HB.out.trans (hb1.mono hz0)⟩
 | true =>
  go_in
  go_upto_region 1 with fail
  rw [HW.out]
  go_wp2_with fail
  refine (HN.out _).mono ?_
  rintro en w1 ⟨rfl, hb1⟩
  have k1 : w1.cell? ⟨w.heap.size, 1, none⟩ = some (.string ⟨t.toArray⟩) := HK.out w1 hb1 1
  have hz1 := hb1.size
  go_wp2_with fail
  refine (HN2.out _).mono ?_
  rintro en w2 ⟨rfl, hb2⟩
  go_wp2_with fail
  go_ret
  exact ⟨by rw [← HR.out]; rfl, HB.out.trans ((hb1.trans (hb2.mono hz1)).mono hz0)⟩
theorem setC_any (x : Se) (A' : Option Addr) (c' m : Nat) (w : World) (hn : x.n.length ≤ 1000) (hf : x.e.fit 1000) (hE : ExS 1000 m w w.heap.size A' x.e.l) :
  Calls Tryz.prog 78 #[.agg #[.string ⟨x.n.toArray⟩, .string ⟨x.e.op.toArray⟩, .int .i64 x.e.v.k, .int .i64 x.e.v.i, .string ⟨x.e.v.s.toArray⟩, .string ⟨x.e.s.toArray⟩, .slice A' x.e.l.length c']] w (Ret (.bool (setOkB x)) w) := by
 obtain ⟨w0, hw0⟩ : ∃ w0, w.alloc (.cells #[.string ⟨x.n.toArray⟩, .string ⟨x.e.op.toArray⟩, .int .i64 x.e.v.k, .int .i64 x.e.v.i, .string ⟨x.e.v.s.toArray⟩, .string ⟨x.e.s.toArray⟩, .slice A' x.e.l.length c'] 76) = w0 := ⟨_, rfl⟩
 have kb0 : Blk w0 w.heap.size 76 #[.string ⟨x.n.toArray⟩, .string ⟨x.e.op.toArray⟩, .int .i64 x.e.v.k, .int .i64 x.e.v.i, .string ⟨x.e.v.s.toArray⟩, .string ⟨x.e.s.toArray⟩, .slice A' x.e.l.length c'] := by rw [← hw0]; exact Blk.new _ _ _
 have hb0 : Below w.heap.size w w0 := by rw [← hw0]; exact bl
 have hz0 := hb0.size
 have HK : Hid (∀ Z : World, Below w0.heap.size w0 Z → ∀ i, Z.cell? ⟨w.heap.size, i, none⟩ = (#[.string ⟨x.n.toArray⟩, .string ⟨x.e.op.toArray⟩, .int .i64 x.e.v.k, .int .i64 x.e.v.i, .string ⟨x.e.v.s.toArray⟩, .string ⟨x.e.s.toArray⟩, .slice A' x.e.l.length c'] : Array Value)[i]?) := fun Z hz i => (kb0.below hz kb0.lt).cell i
 have HW := Lib.hid hw0
 have HB := Lib.hid hb0
 clear hw0 kb0 hb0
 obtain ⟨R, hR⟩ : ∃ R, setOkB x = R := ⟨_, rfl⟩
 rw [hR]
 obtain ⟨N, hN⟩ : ∃ N, nameG x.n = N := ⟨_, rfl⟩
 obtain ⟨M, hM⟩ : ∃ M, mayX x.e = M := ⟨_, rfl⟩
 have HN : Hid (∀ Y, Calls Tryz.prog 74 #[.string ⟨x.n.toArray⟩] Y (Ret (.bool N) Y)) := name_at hN hn
 have HM : Hid (∀ Y, Below w0.heap.size w0 Y → Calls Tryz.prog 79 #[.agg #[.string ⟨x.e.op.toArray⟩, .int .i64 x.e.v.k, .int .i64 x.e.v.i, .string ⟨x.e.v.s.toArray⟩, .string ⟨x.e.s.toArray⟩, .slice A' x.e.l.length c']] Y (Ret (.bool M) Y)) := fun Y hY => by
  have := exmay_any x.e A' c' m Y hf ((hE.below m (HB.out.trans (hY.mono hz0))).more (Nat.le_trans hz0 hY.size) m)
  rw [hM] at this
  exact this
 have hR2 : (N && M) = R := by rw [← hR, ← hN, ← hM]; rfl
 have HR := Lib.hid hR2
 clear hR hN hR2 hM hE
 have k0 : w0.cell? ⟨w.heap.size, 0, none⟩ = some (.string ⟨x.n.toArray⟩) := HK.out w0 (Below.refl _ _) 0
 cases N with
 | false =>
  go_in
  go_upto_region 1 with fail
  rw [HW.out]
  go_wp2_with fail
  refine (HN.out _).mono ?_
  rintro en w1 ⟨rfl, hb1⟩
  go_wp2_with fail
  go_ret
  exact ⟨by rw [← HR.out]; rfl, HB.out.trans (hb1.mono hz0)⟩
 | true =>
  go_in
  go_upto_region 1 with fail
  rw [HW.out]
  go_wp2_with fail
  refine (HN.out _).mono ?_
  rintro en w1 ⟨rfl, hb1⟩
  have k1 : w1.cell? ⟨w.heap.size, 1, none⟩ = some (.string ⟨x.e.op.toArray⟩) := HK.out w1 hb1 1
  have k2 : w1.cell? ⟨w.heap.size, 2, none⟩ = some (.int .i64 x.e.v.k) := HK.out w1 hb1 2
  have k3 : w1.cell? ⟨w.heap.size, 3, none⟩ = some (.int .i64 x.e.v.i) := HK.out w1 hb1 3
  have k4 : w1.cell? ⟨w.heap.size, 4, none⟩ = some (.string ⟨x.e.v.s.toArray⟩) := HK.out w1 hb1 4
  have k5 : w1.cell? ⟨w.heap.size, 5, none⟩ = some (.string ⟨x.e.s.toArray⟩) := HK.out w1 hb1 5
  have k6 : w1.cell? ⟨w.heap.size, 6, none⟩ = some (.slice A' x.e.l.length c') := HK.out w1 hb1 6
  have hz1 := hb1.size
  have HX := Lib.hid (HM.out w1 hb1)
  go_wp2_with fail
  refine HX.out.mono ?_
  rintro en w2 ⟨rfl, hb2⟩
  go_wp2_with fail
  go_ret
  exact ⟨by rw [← HR.out]; rfl, HB.out.trans ((hb1.trans (hb2.mono hz1)).mono hz0)⟩
theorem manyW_any (A : Option Addr) (c : Nat) (l : List V) (lo hi : Int) (w : World) (hlo : 0 ≤ lo) (hhi : 0 ≤ hi) (hl : l.length ≤ 1000) (h : WQ l A (Old w.heap.size) w) :
  Calls Tryz.prog 76 #[.slice A l.length c, .int .i64 lo, .int .i64 hi, .func (.func 77) #[] #[]] w (Ret (.bool (manyB l lo.toNat hi.toNat (fun v => mayB v.k v.i v.s))) w) :=
 many_val A c l lo hi _ 77 (Go.Proofs.enters_of Tryz.func77 (by kernel_rfl) rfl) w hlo hhi (by omega) h (fun x _ Z _ _ => may_any x.k x.i x.s Z)
theorem manyN_any (A : Option Addr) (c : Nat) (l : List (List UInt8)) (lo hi : Int) (w : World) (hlo : 0 ≤ lo) (hhi : 0 ≤ hi) (hl : l.length ≤ 1000) (hs : ∀ x ∈ l, x.length ≤ 1000) (h : SQ l A (Old w.heap.size) w) :
  Calls Tryz.prog 82 #[.slice A l.length c, .int .i64 lo, .int .i64 hi, .func (.func 74) #[] #[]] w (Ret (.bool (manyB l lo.toNat hi.toNat nameG)) w) :=
 many_str A c l lo hi _ 74 (Go.Proofs.enters_of Tryz.func74 (by kernel_rfl) rfl) w hlo hhi (by omega) h (fun x hx Z _ _ => name_at rfl (hs x hx) Z)
theorem manyCol_any (A : Option Addr) (c : Nat) (l : List Col) (lo hi : Int) (w : World) (hlo : 0 ≤ lo) (hhi : 0 ≤ hi) (hl : l.length ≤ 1000) (hs : ∀ x ∈ l, x.n.length ≤ 1000) (h : CQ l A (Old w.heap.size) w) :
  Calls Tryz.prog 132 #[.slice A l.length c, .int .i64 lo, .int .i64 hi, .func (.func 130) #[] #[]] w (Ret (.bool (manyB l lo.toNat hi.toNat colOkB)) w) :=
 many_col A c l lo hi _ 130 (Go.Proofs.enters_of Tryz.func130 (by kernel_rfl) rfl) w hlo hhi (by omega) h (fun x hx Z _ _ => colC_any x Z (hs x hx))
theorem manyRef_any (A : Option Addr) (c : Nat) (l : List Rf) (lo hi : Int) (w : World) (hlo : 0 ≤ lo) (hhi : 0 ≤ hi) (hl : l.length ≤ 1000) (hs : ∀ x ∈ l, x.c.length ≤ 1000 ∧ x.t.length ≤ 1000) (h : XQ l A (Old w.heap.size) w) :
  Calls Tryz.prog 133 #[.slice A l.length c, .int .i64 lo, .int .i64 hi, .func (.func 131) #[] #[]] w (Ret (.bool (manyB l lo.toNat hi.toNat refOkB)) w) :=
 many_ref A c l lo hi _ 131 (Go.Proofs.enters_of Tryz.func131 (by kernel_rfl) rfl) w hlo hhi (by omega) h (fun x hx Z _ _ => refC_any x Z (hs x hx).1 (hs x hx).2)
theorem exq_s {K n : Nat} {w : World} {B : Nat} {A : Option Addr} {l : List Ex} (h : ExQ K n w (Old B) A l) (hB : B ≤ w.heap.size) : ExS K n w w.heap.size A l := h.toS (fun _ hb => Nat.lt_of_lt_of_le hb hB) n
theorem manySet_any (K n : Nat) (A : Option Addr) (c : Nat) (l : List Se) (lo hi : Int) (w : World) (hlo : 0 ≤ lo) (hhi : 0 ≤ hi) (hl : l.length ≤ 1000) (hs : ∀ x ∈ l, x.n.length ≤ 1000 ∧ x.e.fit 1000) (hK : K = 1000) (h : ZQ K n l A (Old w.heap.size) w) :
  Calls Tryz.prog 80 #[.slice A l.length c, .int .i64 lo, .int .i64 hi, .func (.func 78) #[] #[]] w (Ret (.bool (manyB l lo.toNat hi.toNat setOkB)) w) := by
 subst hK
 exact many_set A c l lo hi _ 78 (Go.Proofs.enters_of Tryz.func78 (by kernel_rfl) rfl) w hlo hhi (by omega) 1000 n h (fun x hx A' c' Z _ hex => setC_any x A' c' n Z (hs x hx).1 (hs x hx).2 (exq_s hex.2.2.2 (Nat.le_refl _)))
end Go.Proofs.YtchilcchogcibaaGreatDoor
