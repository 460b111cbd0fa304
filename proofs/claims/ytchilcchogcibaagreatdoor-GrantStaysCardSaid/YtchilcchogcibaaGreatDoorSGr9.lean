/- grant.Do as a plain function. Condition: a slice that reads as no more than 400 grants, a statement whose texts and lists are no longer than a thousand; what the library's variables hold.. -/
import Derived.Test.YtchilcchogcibaaGreatDoorSGr8
import Derived.Test.YtchilcchogcibaaGreatDoorSRd2
import Derived.Test.YtchilcchogcibaaGreatDoorSStL
namespace Go.Proofs.YtchilcchogcibaaGreatDoor
open Go.RowKit
attribute [local go_sem] ByteArray.extract_mk ba_get ba_append
attribute [local go_sem ↓] Go.wp_at_zero Go.wp_at_succ
def wrOp (op : List UInt8) : Bool := decide (op = oWrite) || decide (op = oUnwrite)
def stG (s : St) : Gr := ⟨s.role, s.tb, wrOp s.op⟩
/-- What grant.Do answers: the grants, and the error's number. -/
def doG (l : List Gr) (s : St) : List Gr × Int :=
 if chkG l = 0 then
  if mayS s then
   if s.role = adminT then ([], 1)
   else if s.op = oRead ∨ s.op = oWrite then (if decide (60 ≤ l.length) && !decide (stG s ∈ l) then ([], 13) else (addG l (stG s), 0))
   else if s.op = oUnread ∨ s.op = oUnwrite then (delG l (stG s), 0)
   else ([], 1)
  else ([], 1)
 else ([], 1)
/-- Grants in a slice of the call's own, and an error's number. -/
def RetGE (r : List Gr × Int) (w : World) (en : Ending) (w' : World) : Prop := ∃ sv, en = .returned (.tuple #[sv, .int .i64 r.2]) ∧ w'.ownsRow w.heap.size 54 3 sv r.1.length (gcs r.1) ∧ Below w.heap.size w w'
theorem RetGE.none_ {n : Int} {w w' : World} (h : Below w.heap.size w w') : RetGE ([], n) w (.returned (.tuple #[.slice none 0 0, .int .i64 n])) w' := ⟨_, rfl, World.ownsRow_nil _ _ _ _, h⟩
set_option maxRecDepth 100000 in
set_option maxHeartbeats 4000000 in
/-- Refused ahead of the Op. -/
theorem do_no (A : Option Addr) (c : Nat) (l : List Gr) (s : St) (p : StP) (w : World) (hl : l.length ≤ 400) (hn : ∀ g ∈ l, g.r.length ≤ 1000000 ∧ g.t.length ≤ 1000000) (h : GQ l A (Old w.heap.size) w) (hok : s.Ok) (hQ : StQ 1000 s p (Old w.heap.size) w) (hV : Env0 w)
  (hno : ¬ chkG l = 0 ∨ mayS s = false ∨ s.role = adminT) : Calls Tryz.prog 15 #[.slice A l.length c, .agg (s.cells p).toArray] w (RetGE ([], 1) w) := by
 have hmq := hQ
 refine stBox_in s p w fun w0 HW ks0 hb0 hz0 HST HB => ?_
 have hl4 : A.isSome = true ∨ A = none := by cases A <;> simp
 have HQ : Hid (∀ Z : World, Below w0.heap.size w0 Z → GQ l A (Old Z.heap.size) Z) := fun Z hz => h.keep (old_keep (hb0.trans (hz.mono hz0)) (Nat.le_trans hz0 hz.size))
 have HCK : Hid (Calls Tryz.prog 20 #[.slice A l.length c] w0 (Ret (.int .i64 (chkG l)) w0)) := checkG_any A c l w0 (by omega) hn (HQ.out w0 (Below.refl _ _))
 have HMY : Hid (∀ Z : World, Below w0.heap.size w0 Z → Calls Tryz.prog 36 #[.agg (s.cells p).toArray] Z (Ret (.bool (mayS s)) Z)) := fun Z hz => stMay_any s p Z hok (hmq.keep (old_keep (hb0.trans (hz.mono hz0)) (Nat.le_trans hz0 hz.size))) (hV.below (hb0.trans (hz.mono hz0)))
 have HKB : Hid (∀ Z : World, Below w0.heap.size w0 Z → Blk Z w.heap.size 34 (s.cells p).toArray) := fun Z hz => ks0.below hz ks0.lt
 have HS1 : Hid (∀ Z : World, Below w0.heap.size w0 Z → Z.cell? ⟨w.heap.size, 0, none⟩ = some (.string ⟨s.op.toArray⟩) ∧ Z.cell? ⟨w.heap.size, 1, none⟩ = some (.string ⟨s.tb.toArray⟩) ∧ Z.cell? ⟨w.heap.size, 22, none⟩ = some (.string ⟨s.role.toArray⟩)) := fun Z hz => ⟨(HST.out Z hz).1, (HST.out Z hz).2.1, (HST.out Z hz).2.2.2.2.2.2.2.2.2.2.2.2.2.2.2.2.2.2.2.2.2.2⟩
 have hc0 : Below w0.heap.size w0 w0 := Below.refl _ _
 obtain ⟨C, hC⟩ : ∃ C, chkG l = C := ⟨_, rfl⟩
 obtain ⟨M, hM⟩ : ∃ M, mayS s = M := ⟨_, rfl⟩
 rw [hC] at HCK hno
 rw [hM] at HMY hno
 clear hC hM hok hQ hV hmq ks0 hb0 h hn hl4
 by_cases hc : C = 0
 ·have hno2 : M = false ∨ s.role = adminT := by
   rcases hno with h | h | h
   ·exact absurd hc h
   ·exact .inl h
   ·exact .inr h
  have HNO := Lib.hid hno2
  clear hno hno2
  subst hc
  go_enter Tryz.func15, Tryz.ntmps15
  go_upto_region 1 with fail
  rw [show w.alloc _ = w0 from HW.out]
  clear HW
  go_wp2_with fail
  refine HCK.out.mono ?_
  rintro en w1 ⟨rfl, hb1⟩
  have hz1 := hb1.size
  have HX := Lib.hid (HMY.out w1 hb1)
  go_wp2_with (refine wpList_load_rowG (by rfl) 34 _ rfl w.heap.size rfl 34 (s.cells p).toArray (0, 0) _ (HKB.out _ hb1) Tryz.underlying34 rfl size_st ?_)
  refine HX.out.mono ?_
  rintro en w2 ⟨rfl, hb2⟩
  have hc2 : Below w0.heap.size w0 w2 := hb1.trans (hb2.mono hz1)
  have hbf := HB.out.trans (hc2.mono hz0)
  cases M with
  | false =>
   go_wp2_with fail
   refine bodyPost_ret (v := .tuple #[.slice none 0 0, .int .i64 1]) (by simp [results, Tryz.results15, go_sem, *]) rfl ?_
   exact RetGE.none_ hbf
  | true =>
   have hra : s.role = adminT := by rcases HNO.out with h | h; cases h; exact h
   obtain ⟨-, -, s22⟩ := HS1.out w2 hc2
   have o_a : (s.role == [97, 100, 109, 105, 110]) = true := by rw [hra]; rfl
   clear hra
   go_wp2_with fail
   refine bodyPost_ret (v := .tuple #[.slice none 0 0, .int .i64 1]) (by simp [results, Tryz.results15, go_sem, *]) rfl ?_
   exact RetGE.none_ hbf
 ·have e1 : (C != 0) = true := by simpa using hc
  clear hno
  go_enter Tryz.func15, Tryz.ntmps15
  go_upto_region 1 with fail
  rw [show w.alloc _ = w0 from HW.out]
  clear HW
  go_wp2_with fail
  refine HCK.out.mono ?_
  rintro en w1 ⟨rfl, hb1⟩
  have hz1 := hb1.size
  have hbf := HB.out.trans (hb1.mono hz0)
  go_wp2_with fail
  refine bodyPost_ret (v := .tuple #[.slice none 0 0, .int .i64 1]) (by simp [results, Tryz.results15, go_sem, *]) rfl ?_
  exact RetGE.none_ hbf
set_option maxRecDepth 100000 in
set_option maxHeartbeats 4000000 in
theorem do_read (A : Option Addr) (c : Nat) (l : List Gr) (s : St) (p : StP) (w : World) (hl : l.length ≤ 400) (hn : ∀ g ∈ l, g.r.length ≤ 1000000 ∧ g.t.length ≤ 1000000) (h : GQ l A (Old w.heap.size) w) (hok : s.Ok) (hQ : StQ 1000 s p (Old w.heap.size) w) (hV : Env0 w)
  (hc : chkG l = 0) (hm : mayS s = true) (hr : ¬ s.role = adminT) (hop : s.op = oRead) : Calls Tryz.prog 15 #[.slice A l.length c, .agg (s.cells p).toArray] w (RetGE (if decide (60 ≤ l.length) && !decide (stG s ∈ l) then ([], 13) else (addG l (stG s), 0)) w) := by
 have hmq := hQ
 refine stBox_in s p w fun w0 HW ks0 hb0 hz0 HST HB => ?_
 have hl4 : A.isSome = true ∨ A = none := by cases A <;> simp
 have HQ : Hid (∀ Z : World, Below w0.heap.size w0 Z → GQ l A (Old Z.heap.size) Z) := fun Z hz => h.keep (old_keep (hb0.trans (hz.mono hz0)) (Nat.le_trans hz0 hz.size))
 have HCK : Hid (Calls Tryz.prog 20 #[.slice A l.length c] w0 (Ret (.int .i64 (chkG l)) w0)) := checkG_any A c l w0 (by omega) hn (HQ.out w0 (Below.refl _ _))
 have HMY : Hid (∀ Z : World, Below w0.heap.size w0 Z → Calls Tryz.prog 36 #[.agg (s.cells p).toArray] Z (Ret (.bool (mayS s)) Z)) := fun Z hz => stMay_any s p Z hok (hmq.keep (old_keep (hb0.trans (hz.mono hz0)) (Nat.le_trans hz0 hz.size))) (hV.below (hb0.trans (hz.mono hz0)))
 have HKB : Hid (∀ Z : World, Below w0.heap.size w0 Z → Blk Z w.heap.size 34 (s.cells p).toArray) := fun Z hz => ks0.below hz ks0.lt
 have HS1 : Hid (∀ Z : World, Below w0.heap.size w0 Z → Z.cell? ⟨w.heap.size, 0, none⟩ = some (.string ⟨s.op.toArray⟩) ∧ Z.cell? ⟨w.heap.size, 1, none⟩ = some (.string ⟨s.tb.toArray⟩) ∧ Z.cell? ⟨w.heap.size, 22, none⟩ = some (.string ⟨s.role.toArray⟩)) := fun Z hz => ⟨(HST.out Z hz).1, (HST.out Z hz).2.1, (HST.out Z hz).2.2.2.2.2.2.2.2.2.2.2.2.2.2.2.2.2.2.2.2.2.2⟩
 have hc0 : Below w0.heap.size w0 w0 := Below.refl _ _
 rw [hc] at HCK
 rw [hm] at HMY
 have o_a : (s.role == [97, 100, 109, 105, 110]) = false := by rw [beq_eq_false_iff_ne]; exact hr
 have o_write : (s.op == [119, 114, 105, 116, 101]) = false := by rw [hop]; rfl
 have o_unwrite : (s.op == [117, 110, 119, 114, 105, 116, 101]) = false := by rw [hop]; rfl
 have o_read : (s.op == [114, 101, 97, 100]) = true := by rw [hop]; rfl
 have o_unread : (s.op == [117, 110, 114, 101, 97, 100]) = false := by rw [hop]; rfl
 have hg : stG s = ⟨s.role, s.tb, false⟩ := by unfold stG; rw [hop]; rfl
 rw [hg]
 have HP : Hid (∀ Z : World, Below w0.heap.size w0 Z → Calls Tryz.prog 37 #[.slice A l.length c, .agg #[.string ⟨s.role.toArray⟩, .string ⟨s.tb.toArray⟩, .bool false]] Z (Ret (.int .i64 (firstP (fun x => decide (x = (⟨s.role, s.tb, false⟩ : Gr))) l 0)) Z)) := fun Z hz => place_any A c l ⟨s.role, s.tb, false⟩ Z (by omega) (HQ.out Z hz)
 have hM := firstP_mem l ⟨s.role, s.tb, false⟩
 obtain ⟨F, hF⟩ : ∃ F, firstP (fun x => decide (x = (⟨s.role, s.tb, false⟩ : Gr))) l 0 = F := ⟨_, rfl⟩
 rw [hF] at HP hM
 have HWI : Hid (∀ Z : World, Below w0.heap.size w0 Z → Calls Tryz.prog 38 #[.slice A l.length c, .agg #[.string ⟨s.role.toArray⟩, .string ⟨s.tb.toArray⟩, .bool false]] Z (RetGs (addG l ⟨s.role, s.tb, false⟩) Z)) := fun Z hz => with_any A c l ⟨s.role, s.tb, false⟩ Z (by omega) (HQ.out Z hz)
 obtain ⟨D, hD⟩ : ∃ D, decide ((⟨s.role, s.tb, false⟩ : Gr) ∈ l) = D := ⟨_, rfl⟩
 obtain ⟨L, hL⟩ : ∃ L, addG l ⟨s.role, s.tb, false⟩ = L := ⟨_, rfl⟩
 rw [hD] at hM ⊢
 rw [hL] at HWI ⊢
 obtain ⟨N, hN⟩ : ∃ N, l.length = N := ⟨_, rfl⟩
 rw [hN] at HCK HP HWI ⊢
 obtain ⟨R, hR⟩ : ∃ R : List Gr × Int, (if decide (60 ≤ N) && !D then ([], 13) else (L, 0)) = R := ⟨_, rfl⟩
 rw [hR]
 have HR := Lib.hid hR
 have HM := Lib.hid hM
 clear hR hF hD hL hM hN hg
 clear hc hm hr hok hQ hV hmq ks0 hb0 h hn hl4 hop
 go_enter Tryz.func15, Tryz.ntmps15
 go_upto_region 1 with fail
 rw [show w.alloc _ = w0 from HW.out]
 clear HW
 go_wp2_with fail
 refine HCK.out.mono ?_
 rintro en w1 ⟨rfl, hb1⟩
 have hz1 := hb1.size
 have HX := Lib.hid (HMY.out w1 hb1)
 go_wp2_with (refine wpList_load_rowG (by rfl) 34 _ rfl w.heap.size rfl 34 (s.cells p).toArray (0, 0) _ (HKB.out _ hb1) Tryz.underlying34 rfl size_st ?_)
 refine HX.out.mono ?_
 rintro en w2 ⟨rfl, hb2⟩
 have hc2 : Below w0.heap.size w0 w2 := hb1.trans (hb2.mono hz1)
 have hz2 := hc2.size
 obtain ⟨s0, s1, s22⟩ := HS1.out w2 hc2
 obtain ⟨w3, hw3⟩ : ∃ w3, w2.alloc (.cells #[.string ⟨s.role.toArray⟩, .string ⟨s.tb.toArray⟩, .bool false] 54) = w3 := ⟨_, rfl⟩
 have k3 : Blk w3 w2.heap.size 54 #[.string ⟨s.role.toArray⟩, .string ⟨s.tb.toArray⟩, .bool false] := by rw [← hw3]; exact Blk.new _ _ _
 have hb23 : Below w2.heap.size w2 w3 := by rw [← hw3]; exact bl
 have hc3 : Below w0.heap.size w0 w3 := hc2.trans (hb23.mono hz2)
 have hz3 := hc3.size
 have h23 := hb23.size
 have HW3 := Lib.hid hw3
 have HK3 := Lib.hid k3
 have hlt3 : w2.heap.size < w3.heap.size := k3.lt
 clear hw3 k3
 go_upto_region 4 with fail
 rw [show w2.alloc _ = w3 from HW3.out]
 clear s0 s1 s22
 obtain ⟨s0, -, -⟩ := HS1.out w3 hc3
 obtain ⟨⟨k0, k1, k2⟩, _⟩ := HK3.out.three
 by_cases h60 : 60 ≤ N
 ·have HPX := Lib.hid (HP.out w3 hc3)
  go_wp2_with fail
  refine HPX.out.mono ?_
  rintro en w4 ⟨rfl, hb4⟩
  have hc4 : Below w0.heap.size w0 w4 := hc3.trans (hb4.mono hz3)
  have hbf := HB.out.trans (hc4.mono hz0)
  have hz4 := hc4.size
  clear k0 k1 k2
  obtain ⟨⟨k0, k1, k2⟩, _⟩ := (HK3.out.below hb4 hlt3).three
  cases D with
  | true =>
   have hR2 : R = (L, 0) := by rw [← HR.out]; simp
   have g0 : ¬ F < 0 := by have := HM.out; simp at this; omega
   have HWX := Lib.hid (HWI.out w4 hc4)
   clear HR
   subst hR2
   go_wp2_with fail
   refine HWX.out.mono ?_
   rintro en w5 ⟨sv, rfl, hown5, hb5⟩
   have hb0' := HB.out.size
   have HO5 := Lib.hid (own_less hown5 (Nat.le_trans hb0' hz4))
   have HB5 := Lib.hid (hbf.trans (hb5.mono (Nat.le_trans hb0' hz4)))
   clear hown5 hb5
   go_wp2_with fail
   refine bodyPost_ret (v := .tuple #[sv, .int .i64 0]) (by simp [results, Tryz.results15, go_sem, *]) rfl ?_
   exact ⟨sv, rfl, HO5.out, HB5.out⟩
  | false =>
   have hR2 : R = ([], 13) := by rw [← HR.out]; simp [h60]
   have g0 : F < 0 := by have := HM.out; simp at this; omega
   clear HR
   subst hR2
   go_wp2_with fail
   refine bodyPost_ret (v := .tuple #[.slice none 0 0, .int .i64 13]) (by simp [results, Tryz.results15, go_sem, *]) rfl ?_
   exact RetGE.none_ hbf
 ·have hR2 : R = (L, 0) := by rw [← HR.out]; simp [h60]
  have HWX := Lib.hid (HWI.out w3 hc3)
  have hbf := HB.out.trans (hc3.mono hz0)
  clear HR
  subst hR2
  go_wp2_with fail
  refine HWX.out.mono ?_
  rintro en w5 ⟨sv, rfl, hown5, hb5⟩
  have hb0' := HB.out.size
  have HO5 := Lib.hid (own_less hown5 (Nat.le_trans hb0' hz3))
  have HB5 := Lib.hid (hbf.trans (hb5.mono (Nat.le_trans hb0' hz3)))
  clear hown5 hb5
  go_wp2_with fail
  refine bodyPost_ret (v := .tuple #[sv, .int .i64 0]) (by simp [results, Tryz.results15, go_sem, *]) rfl ?_
  exact ⟨sv, rfl, HO5.out, HB5.out⟩
set_option maxRecDepth 100000 in
set_option maxHeartbeats 4000000 in
theorem do_write (A : Option Addr) (c : Nat) (l : List Gr) (s : St) (p : StP) (w : World) (hl : l.length ≤ 400) (hn : ∀ g ∈ l, g.r.length ≤ 1000000 ∧ g.t.length ≤ 1000000) (h : GQ l A (Old w.heap.size) w) (hok : s.Ok) (hQ : StQ 1000 s p (Old w.heap.size) w) (hV : Env0 w)
  (hc : chkG l = 0) (hm : mayS s = true) (hr : ¬ s.role = adminT) (hop : s.op = oWrite) : Calls Tryz.prog 15 #[.slice A l.length c, .agg (s.cells p).toArray] w (RetGE (if decide (60 ≤ l.length) && !decide (stG s ∈ l) then ([], 13) else (addG l (stG s), 0)) w) := by
 have hmq := hQ
 refine stBox_in s p w fun w0 HW ks0 hb0 hz0 HST HB => ?_
 have hl4 : A.isSome = true ∨ A = none := by cases A <;> simp
 have HQ : Hid (∀ Z : World, Below w0.heap.size w0 Z → GQ l A (Old Z.heap.size) Z) := fun Z hz => h.keep (old_keep (hb0.trans (hz.mono hz0)) (Nat.le_trans hz0 hz.size))
 have HCK : Hid (Calls Tryz.prog 20 #[.slice A l.length c] w0 (Ret (.int .i64 (chkG l)) w0)) := checkG_any A c l w0 (by omega) hn (HQ.out w0 (Below.refl _ _))
 have HMY : Hid (∀ Z : World, Below w0.heap.size w0 Z → Calls Tryz.prog 36 #[.agg (s.cells p).toArray] Z (Ret (.bool (mayS s)) Z)) := fun Z hz => stMay_any s p Z hok (hmq.keep (old_keep (hb0.trans (hz.mono hz0)) (Nat.le_trans hz0 hz.size))) (hV.below (hb0.trans (hz.mono hz0)))
 have HKB : Hid (∀ Z : World, Below w0.heap.size w0 Z → Blk Z w.heap.size 34 (s.cells p).toArray) := fun Z hz => ks0.below hz ks0.lt
 have HS1 : Hid (∀ Z : World, Below w0.heap.size w0 Z → Z.cell? ⟨w.heap.size, 0, none⟩ = some (.string ⟨s.op.toArray⟩) ∧ Z.cell? ⟨w.heap.size, 1, none⟩ = some (.string ⟨s.tb.toArray⟩) ∧ Z.cell? ⟨w.heap.size, 22, none⟩ = some (.string ⟨s.role.toArray⟩)) := fun Z hz => ⟨(HST.out Z hz).1, (HST.out Z hz).2.1, (HST.out Z hz).2.2.2.2.2.2.2.2.2.2.2.2.2.2.2.2.2.2.2.2.2.2⟩
 have hc0 : Below w0.heap.size w0 w0 := Below.refl _ _
 rw [hc] at HCK
 rw [hm] at HMY
 have o_a : (s.role == [97, 100, 109, 105, 110]) = false := by rw [beq_eq_false_iff_ne]; exact hr
 have o_write : (s.op == [119, 114, 105, 116, 101]) = true := by rw [hop]; rfl
 have o_unwrite : (s.op == [117, 110, 119, 114, 105, 116, 101]) = false := by rw [hop]; rfl
 have o_read : (s.op == [114, 101, 97, 100]) = false := by rw [hop]; rfl
 have o_unread : (s.op == [117, 110, 114, 101, 97, 100]) = false := by rw [hop]; rfl
 have hg : stG s = ⟨s.role, s.tb, true⟩ := by unfold stG; rw [hop]; rfl
 rw [hg]
 have HP : Hid (∀ Z : World, Below w0.heap.size w0 Z → Calls Tryz.prog 37 #[.slice A l.length c, .agg #[.string ⟨s.role.toArray⟩, .string ⟨s.tb.toArray⟩, .bool true]] Z (Ret (.int .i64 (firstP (fun x => decide (x = (⟨s.role, s.tb, true⟩ : Gr))) l 0)) Z)) := fun Z hz => place_any A c l ⟨s.role, s.tb, true⟩ Z (by omega) (HQ.out Z hz)
 have hM := firstP_mem l ⟨s.role, s.tb, true⟩
 obtain ⟨F, hF⟩ : ∃ F, firstP (fun x => decide (x = (⟨s.role, s.tb, true⟩ : Gr))) l 0 = F := ⟨_, rfl⟩
 rw [hF] at HP hM
 have HWI : Hid (∀ Z : World, Below w0.heap.size w0 Z → Calls Tryz.prog 38 #[.slice A l.length c, .agg #[.string ⟨s.role.toArray⟩, .string ⟨s.tb.toArray⟩, .bool true]] Z (RetGs (addG l ⟨s.role, s.tb, true⟩) Z)) := fun Z hz => with_any A c l ⟨s.role, s.tb, true⟩ Z (by omega) (HQ.out Z hz)
 obtain ⟨D, hD⟩ : ∃ D, decide ((⟨s.role, s.tb, true⟩ : Gr) ∈ l) = D := ⟨_, rfl⟩
 obtain ⟨L, hL⟩ : ∃ L, addG l ⟨s.role, s.tb, true⟩ = L := ⟨_, rfl⟩
 rw [hD] at hM ⊢
 rw [hL] at HWI ⊢
 obtain ⟨N, hN⟩ : ∃ N, l.length = N := ⟨_, rfl⟩
 rw [hN] at HCK HP HWI ⊢
 obtain ⟨R, hR⟩ : ∃ R : List Gr × Int, (if decide (60 ≤ N) && !D then ([], 13) else (L, 0)) = R := ⟨_, rfl⟩
 rw [hR]
 have HR := Lib.hid hR
 have HM := Lib.hid hM
 clear hR hF hD hL hM hN hg
 clear hc hm hr hok hQ hV hmq ks0 hb0 h hn hl4 hop
 go_enter Tryz.func15, Tryz.ntmps15
 go_upto_region 1 with fail
 rw [show w.alloc _ = w0 from HW.out]
 clear HW
 go_wp2_with fail
 refine HCK.out.mono ?_
 rintro en w1 ⟨rfl, hb1⟩
 have hz1 := hb1.size
 have HX := Lib.hid (HMY.out w1 hb1)
 go_wp2_with (refine wpList_load_rowG (by rfl) 34 _ rfl w.heap.size rfl 34 (s.cells p).toArray (0, 0) _ (HKB.out _ hb1) Tryz.underlying34 rfl size_st ?_)
 refine HX.out.mono ?_
 rintro en w2 ⟨rfl, hb2⟩
 have hc2 : Below w0.heap.size w0 w2 := hb1.trans (hb2.mono hz1)
 have hz2 := hc2.size
 obtain ⟨s0, s1, s22⟩ := HS1.out w2 hc2
 obtain ⟨w3, hw3⟩ : ∃ w3, w2.alloc (.cells #[.string ⟨s.role.toArray⟩, .string ⟨s.tb.toArray⟩, .bool true] 54) = w3 := ⟨_, rfl⟩
 have k3 : Blk w3 w2.heap.size 54 #[.string ⟨s.role.toArray⟩, .string ⟨s.tb.toArray⟩, .bool true] := by rw [← hw3]; exact Blk.new _ _ _
 have hb23 : Below w2.heap.size w2 w3 := by rw [← hw3]; exact bl
 have hc3 : Below w0.heap.size w0 w3 := hc2.trans (hb23.mono hz2)
 have hz3 := hc3.size
 have h23 := hb23.size
 have HW3 := Lib.hid hw3
 have HK3 := Lib.hid k3
 have hlt3 : w2.heap.size < w3.heap.size := k3.lt
 clear hw3 k3
 go_upto_region 4 with fail
 rw [show w2.alloc _ = w3 from HW3.out]
 clear s0 s1 s22
 obtain ⟨s0, -, -⟩ := HS1.out w3 hc3
 obtain ⟨⟨k0, k1, k2⟩, _⟩ := HK3.out.three
 by_cases h60 : 60 ≤ N
 ·have HPX := Lib.hid (HP.out w3 hc3)
  go_wp2_with fail
  refine HPX.out.mono ?_
  rintro en w4 ⟨rfl, hb4⟩
  have hc4 : Below w0.heap.size w0 w4 := hc3.trans (hb4.mono hz3)
  have hbf := HB.out.trans (hc4.mono hz0)
  have hz4 := hc4.size
  clear k0 k1 k2
  obtain ⟨⟨k0, k1, k2⟩, _⟩ := (HK3.out.below hb4 hlt3).three
  cases D with
  | true =>
   have hR2 : R = (L, 0) := by rw [← HR.out]; simp
   have g0 : ¬ F < 0 := by have := HM.out; simp at this; omega
   have HWX := Lib.hid (HWI.out w4 hc4)
   clear HR
   subst hR2
   go_wp2_with fail
   refine HWX.out.mono ?_
   rintro en w5 ⟨sv, rfl, hown5, hb5⟩
   have hb0' := HB.out.size
   have HO5 := Lib.hid (own_less hown5 (Nat.le_trans hb0' hz4))
   have HB5 := Lib.hid (hbf.trans (hb5.mono (Nat.le_trans hb0' hz4)))
   clear hown5 hb5
   go_wp2_with fail
   refine bodyPost_ret (v := .tuple #[sv, .int .i64 0]) (by simp [results, Tryz.results15, go_sem, *]) rfl ?_
   exact ⟨sv, rfl, HO5.out, HB5.out⟩
  | false =>
   have hR2 : R = ([], 13) := by rw [← HR.out]; simp [h60]
   have g0 : F < 0 := by have := HM.out; simp at this; omega
   clear HR
   subst hR2
   go_wp2_with fail
   refine bodyPost_ret (v := .tuple #[.slice none 0 0, .int .i64 13]) (by simp [results, Tryz.results15, go_sem, *]) rfl ?_
   exact RetGE.none_ hbf
 ·have hR2 : R = (L, 0) := by rw [← HR.out]; simp [h60]
  have HWX := Lib.hid (HWI.out w3 hc3)
  have hbf := HB.out.trans (hc3.mono hz0)
  clear HR
  subst hR2
  go_wp2_with fail
  refine HWX.out.mono ?_
  rintro en w5 ⟨sv, rfl, hown5, hb5⟩
  have hb0' := HB.out.size
  have HO5 := Lib.hid (own_less hown5 (Nat.le_trans hb0' hz3))
  have HB5 := Lib.hid (hbf.trans (hb5.mono (Nat.le_trans hb0' hz3)))
  clear hown5 hb5
  go_wp2_with fail
  refine bodyPost_ret (v := .tuple #[sv, .int .i64 0]) (by simp [results, Tryz.results15, go_sem, *]) rfl ?_
  exact ⟨sv, rfl, HO5.out, HB5.out⟩
set_option maxRecDepth 100000 in
set_option maxHeartbeats 4000000 in
theorem do_unread (A : Option Addr) (c : Nat) (l : List Gr) (s : St) (p : StP) (w : World) (hl : l.length ≤ 400) (hn : ∀ g ∈ l, g.r.length ≤ 1000000 ∧ g.t.length ≤ 1000000) (h : GQ l A (Old w.heap.size) w) (hok : s.Ok) (hQ : StQ 1000 s p (Old w.heap.size) w) (hV : Env0 w)
  (hc : chkG l = 0) (hm : mayS s = true) (hr : ¬ s.role = adminT) (hop : s.op = oUnread) : Calls Tryz.prog 15 #[.slice A l.length c, .agg (s.cells p).toArray] w (RetGE (delG l (stG s), 0) w) := by
 have hmq := hQ
 refine stBox_in s p w fun w0 HW ks0 hb0 hz0 HST HB => ?_
 have hl4 : A.isSome = true ∨ A = none := by cases A <;> simp
 have HQ : Hid (∀ Z : World, Below w0.heap.size w0 Z → GQ l A (Old Z.heap.size) Z) := fun Z hz => h.keep (old_keep (hb0.trans (hz.mono hz0)) (Nat.le_trans hz0 hz.size))
 have HCK : Hid (Calls Tryz.prog 20 #[.slice A l.length c] w0 (Ret (.int .i64 (chkG l)) w0)) := checkG_any A c l w0 (by omega) hn (HQ.out w0 (Below.refl _ _))
 have HMY : Hid (∀ Z : World, Below w0.heap.size w0 Z → Calls Tryz.prog 36 #[.agg (s.cells p).toArray] Z (Ret (.bool (mayS s)) Z)) := fun Z hz => stMay_any s p Z hok (hmq.keep (old_keep (hb0.trans (hz.mono hz0)) (Nat.le_trans hz0 hz.size))) (hV.below (hb0.trans (hz.mono hz0)))
 have HKB : Hid (∀ Z : World, Below w0.heap.size w0 Z → Blk Z w.heap.size 34 (s.cells p).toArray) := fun Z hz => ks0.below hz ks0.lt
 have HS1 : Hid (∀ Z : World, Below w0.heap.size w0 Z → Z.cell? ⟨w.heap.size, 0, none⟩ = some (.string ⟨s.op.toArray⟩) ∧ Z.cell? ⟨w.heap.size, 1, none⟩ = some (.string ⟨s.tb.toArray⟩) ∧ Z.cell? ⟨w.heap.size, 22, none⟩ = some (.string ⟨s.role.toArray⟩)) := fun Z hz => ⟨(HST.out Z hz).1, (HST.out Z hz).2.1, (HST.out Z hz).2.2.2.2.2.2.2.2.2.2.2.2.2.2.2.2.2.2.2.2.2.2⟩
 have hc0 : Below w0.heap.size w0 w0 := Below.refl _ _
 rw [hc] at HCK
 rw [hm] at HMY
 have o_a : (s.role == [97, 100, 109, 105, 110]) = false := by rw [beq_eq_false_iff_ne]; exact hr
 have o_write : (s.op == [119, 114, 105, 116, 101]) = false := by rw [hop]; rfl
 have o_unwrite : (s.op == [117, 110, 119, 114, 105, 116, 101]) = false := by rw [hop]; rfl
 have o_read : (s.op == [114, 101, 97, 100]) = false := by rw [hop]; rfl
 have o_unread : (s.op == [117, 110, 114, 101, 97, 100]) = true := by rw [hop]; rfl
 have hg : stG s = ⟨s.role, s.tb, false⟩ := by unfold stG; rw [hop]; rfl
 rw [hg]
 have HCL : Hid (∀ Z : World, Below w0.heap.size w0 Z → Calls Tryz.prog 40 #[.slice A l.length c] Z (fun e w' => ∃ A' c', e = .returned (.slice A' l.length c') ∧ w'.ownsRow Z.heap.size 54 3 (.slice A' l.length c') l.length (gcs l) ∧ Below Z.heap.size Z w')) := fun Z hz => cloneG_any A c l Z (by omega) (HQ.out Z hz)
 have HDF : Hid (∀ (base g : Nat) (A' : Option Addr) (c' : Nat) (Z : World), g < base → base ≤ Z.heap.size → Blk Z g 54 #[.string ⟨s.role.toArray⟩, .string ⟨s.tb.toArray⟩, .bool false] → Z.ownsRow base 54 3 (.slice A' l.length c') l.length (gcs l) →
   Calls Tryz.prog 39 #[.slice A' l.length c', .func (.func 41) #[] #[.pointer (some ⟨g, 0, none⟩)]] Z (RetOG base (delG l ⟨s.role, s.tb, false⟩) Z)) := fun base g A' c' Z hgb hbz hk hown =>
  delG_any base 41 g (fun x => decide (x = (⟨s.role, s.tb, false⟩ : Gr))) A' c' l (Go.Proofs.enters_of Tryz.func41 (by kernel_rfl) rfl) Z (by omega) hbz hown (fun x _ Y hY => by
   have k := hk.below hY hgb
   exact doC_any x ⟨s.role, s.tb, false⟩ g Y (k.cell 0) (k.cell 1) (k.cell 2))
 obtain ⟨L, hL⟩ : ∃ L, delG l ⟨s.role, s.tb, false⟩ = L := ⟨_, rfl⟩
 rw [hL] at HDF ⊢
 obtain ⟨N, hN⟩ : ∃ N, l.length = N := ⟨_, rfl⟩
 rw [hN] at HCK HCL HDF ⊢
 clear hL hN hg
 clear hc hm hr hok hQ hV hmq ks0 hb0 h hn hl4 hop
 go_enter Tryz.func15, Tryz.ntmps15
 go_upto_region 1 with fail
 rw [show w.alloc _ = w0 from HW.out]
 clear HW
 go_wp2_with fail
 refine HCK.out.mono ?_
 rintro en w1 ⟨rfl, hb1⟩
 have hz1 := hb1.size
 have HX := Lib.hid (HMY.out w1 hb1)
 go_wp2_with (refine wpList_load_rowG (by rfl) 34 _ rfl w.heap.size rfl 34 (s.cells p).toArray (0, 0) _ (HKB.out _ hb1) Tryz.underlying34 rfl size_st ?_)
 refine HX.out.mono ?_
 rintro en w2 ⟨rfl, hb2⟩
 have hc2 : Below w0.heap.size w0 w2 := hb1.trans (hb2.mono hz1)
 have hz2 := hc2.size
 obtain ⟨s0, s1, s22⟩ := HS1.out w2 hc2
 obtain ⟨w3, hw3⟩ : ∃ w3, w2.alloc (.cells #[.string ⟨s.role.toArray⟩, .string ⟨s.tb.toArray⟩, .bool false] 54) = w3 := ⟨_, rfl⟩
 have k3 : Blk w3 w2.heap.size 54 #[.string ⟨s.role.toArray⟩, .string ⟨s.tb.toArray⟩, .bool false] := by rw [← hw3]; exact Blk.new _ _ _
 have hb23 : Below w2.heap.size w2 w3 := by rw [← hw3]; exact bl
 have hc3 : Below w0.heap.size w0 w3 := hc2.trans (hb23.mono hz2)
 have hz3 := hc3.size
 have h23 := hb23.size
 have HW3 := Lib.hid hw3
 have HK3 := Lib.hid k3
 have hlt3 : w2.heap.size < w3.heap.size := k3.lt
 clear hw3 k3
 go_upto_region 4 with fail
 rw [show w2.alloc _ = w3 from HW3.out]
 clear s0 s1 s22
 obtain ⟨s0, -, -⟩ := HS1.out w3 hc3
 obtain ⟨⟨k0, k1, k2⟩, _⟩ := HK3.out.three
 have HCX := Lib.hid (HCL.out w3 hc3)
 go_wp2_with fail
 refine HCX.out.mono ?_
 rintro en w4 ⟨A', c', rfl, hown4, hb4⟩
 have hk4 := HK3.out.below hb4 hlt3
 have HDX := Lib.hid (HDF.out w3.heap.size w2.heap.size A' c' w4 hlt3 hb4.size hk4 hown4)
 have hb0' := HB.out.size
 have hb4' : Below w.heap.size w w4 := HB.out.trans ((hc3.trans (hb4.mono hz3)).mono hz0)
 have hzz : w.heap.size ≤ w3.heap.size := Nat.le_trans hb0' hz3
 clear hown4 hk4
 go_wp2_with fail
 refine HDX.out.mono ?_
 rintro en w5 ⟨sv, rfl, hown5, hb5⟩
 have HO5 := Lib.hid (own_less hown5 hzz)
 have HB5 := Lib.hid (hb4'.trans (hb5.mono hzz))
 clear hown5 hb5
 go_wp2_with fail
 refine bodyPost_ret (v := .tuple #[sv, .int .i64 0]) (by simp [results, Tryz.results15, go_sem, *]) rfl ?_
 exact ⟨sv, rfl, HO5.out, HB5.out⟩
set_option maxRecDepth 100000 in
set_option maxHeartbeats 4000000 in
theorem do_unwrite (A : Option Addr) (c : Nat) (l : List Gr) (s : St) (p : StP) (w : World) (hl : l.length ≤ 400) (hn : ∀ g ∈ l, g.r.length ≤ 1000000 ∧ g.t.length ≤ 1000000) (h : GQ l A (Old w.heap.size) w) (hok : s.Ok) (hQ : StQ 1000 s p (Old w.heap.size) w) (hV : Env0 w)
  (hc : chkG l = 0) (hm : mayS s = true) (hr : ¬ s.role = adminT) (hop : s.op = oUnwrite) : Calls Tryz.prog 15 #[.slice A l.length c, .agg (s.cells p).toArray] w (RetGE (delG l (stG s), 0) w) := by
 have hmq := hQ
 refine stBox_in s p w fun w0 HW ks0 hb0 hz0 HST HB => ?_
 have hl4 : A.isSome = true ∨ A = none := by cases A <;> simp
 have HQ : Hid (∀ Z : World, Below w0.heap.size w0 Z → GQ l A (Old Z.heap.size) Z) := fun Z hz => h.keep (old_keep (hb0.trans (hz.mono hz0)) (Nat.le_trans hz0 hz.size))
 have HCK : Hid (Calls Tryz.prog 20 #[.slice A l.length c] w0 (Ret (.int .i64 (chkG l)) w0)) := checkG_any A c l w0 (by omega) hn (HQ.out w0 (Below.refl _ _))
 have HMY : Hid (∀ Z : World, Below w0.heap.size w0 Z → Calls Tryz.prog 36 #[.agg (s.cells p).toArray] Z (Ret (.bool (mayS s)) Z)) := fun Z hz => stMay_any s p Z hok (hmq.keep (old_keep (hb0.trans (hz.mono hz0)) (Nat.le_trans hz0 hz.size))) (hV.below (hb0.trans (hz.mono hz0)))
 have HKB : Hid (∀ Z : World, Below w0.heap.size w0 Z → Blk Z w.heap.size 34 (s.cells p).toArray) := fun Z hz => ks0.below hz ks0.lt
 have HS1 : Hid (∀ Z : World, Below w0.heap.size w0 Z → Z.cell? ⟨w.heap.size, 0, none⟩ = some (.string ⟨s.op.toArray⟩) ∧ Z.cell? ⟨w.heap.size, 1, none⟩ = some (.string ⟨s.tb.toArray⟩) ∧ Z.cell? ⟨w.heap.size, 22, none⟩ = some (.string ⟨s.role.toArray⟩)) := fun Z hz => ⟨(HST.out Z hz).1, (HST.out Z hz).2.1, (HST.out Z hz).2.2.2.2.2.2.2.2.2.2.2.2.2.2.2.2.2.2.2.2.2.2⟩
 have hc0 : Below w0.heap.size w0 w0 := Below.refl _ _
 rw [hc] at HCK
 rw [hm] at HMY
 have o_a : (s.role == [97, 100, 109, 105, 110]) = false := by rw [beq_eq_false_iff_ne]; exact hr
 have o_write : (s.op == [119, 114, 105, 116, 101]) = false := by rw [hop]; rfl
 have o_unwrite : (s.op == [117, 110, 119, 114, 105, 116, 101]) = true := by rw [hop]; rfl
 have o_read : (s.op == [114, 101, 97, 100]) = false := by rw [hop]; rfl
 have o_unread : (s.op == [117, 110, 114, 101, 97, 100]) = false := by rw [hop]; rfl
 have hg : stG s = ⟨s.role, s.tb, true⟩ := by unfold stG; rw [hop]; rfl
 rw [hg]
 have HCL : Hid (∀ Z : World, Below w0.heap.size w0 Z → Calls Tryz.prog 40 #[.slice A l.length c] Z (fun e w' => ∃ A' c', e = .returned (.slice A' l.length c') ∧ w'.ownsRow Z.heap.size 54 3 (.slice A' l.length c') l.length (gcs l) ∧ Below Z.heap.size Z w')) := fun Z hz => cloneG_any A c l Z (by omega) (HQ.out Z hz)
 have HDF : Hid (∀ (base g : Nat) (A' : Option Addr) (c' : Nat) (Z : World), g < base → base ≤ Z.heap.size → Blk Z g 54 #[.string ⟨s.role.toArray⟩, .string ⟨s.tb.toArray⟩, .bool true] → Z.ownsRow base 54 3 (.slice A' l.length c') l.length (gcs l) →
   Calls Tryz.prog 39 #[.slice A' l.length c', .func (.func 41) #[] #[.pointer (some ⟨g, 0, none⟩)]] Z (RetOG base (delG l ⟨s.role, s.tb, true⟩) Z)) := fun base g A' c' Z hgb hbz hk hown =>
  delG_any base 41 g (fun x => decide (x = (⟨s.role, s.tb, true⟩ : Gr))) A' c' l (Go.Proofs.enters_of Tryz.func41 (by kernel_rfl) rfl) Z (by omega) hbz hown (fun x _ Y hY => by
   have k := hk.below hY hgb
   exact doC_any x ⟨s.role, s.tb, true⟩ g Y (k.cell 0) (k.cell 1) (k.cell 2))
 obtain ⟨L, hL⟩ : ∃ L, delG l ⟨s.role, s.tb, true⟩ = L := ⟨_, rfl⟩
 rw [hL] at HDF ⊢
 obtain ⟨N, hN⟩ : ∃ N, l.length = N := ⟨_, rfl⟩
 rw [hN] at HCK HCL HDF ⊢
 clear hL hN hg
 clear hc hm hr hok hQ hV hmq ks0 hb0 h hn hl4 hop
 go_enter Tryz.func15, Tryz.ntmps15
 go_upto_region 1 with fail
 rw [show w.alloc _ = w0 from HW.out]
 clear HW
 go_wp2_with fail
 refine HCK.out.mono ?_
 rintro en w1 ⟨rfl, hb1⟩
 have hz1 := hb1.size
 have HX := Lib.hid (HMY.out w1 hb1)
 go_wp2_with (refine wpList_load_rowG (by rfl) 34 _ rfl w.heap.size rfl 34 (s.cells p).toArray (0, 0) _ (HKB.out _ hb1) Tryz.underlying34 rfl size_st ?_)
 refine HX.out.mono ?_
 rintro en w2 ⟨rfl, hb2⟩
 have hc2 : Below w0.heap.size w0 w2 := hb1.trans (hb2.mono hz1)
 have hz2 := hc2.size
 obtain ⟨s0, s1, s22⟩ := HS1.out w2 hc2
 obtain ⟨w3, hw3⟩ : ∃ w3, w2.alloc (.cells #[.string ⟨s.role.toArray⟩, .string ⟨s.tb.toArray⟩, .bool true] 54) = w3 := ⟨_, rfl⟩
 have k3 : Blk w3 w2.heap.size 54 #[.string ⟨s.role.toArray⟩, .string ⟨s.tb.toArray⟩, .bool true] := by rw [← hw3]; exact Blk.new _ _ _
 have hb23 : Below w2.heap.size w2 w3 := by rw [← hw3]; exact bl
 have hc3 : Below w0.heap.size w0 w3 := hc2.trans (hb23.mono hz2)
 have hz3 := hc3.size
 have h23 := hb23.size
 have HW3 := Lib.hid hw3
 have HK3 := Lib.hid k3
 have hlt3 : w2.heap.size < w3.heap.size := k3.lt
 clear hw3 k3
 go_upto_region 4 with fail
 rw [show w2.alloc _ = w3 from HW3.out]
 clear s0 s1 s22
 obtain ⟨s0, -, -⟩ := HS1.out w3 hc3
 obtain ⟨⟨k0, k1, k2⟩, _⟩ := HK3.out.three
 have HCX := Lib.hid (HCL.out w3 hc3)
 go_wp2_with fail
 refine HCX.out.mono ?_
 rintro en w4 ⟨A', c', rfl, hown4, hb4⟩
 have hk4 := HK3.out.below hb4 hlt3
 have HDX := Lib.hid (HDF.out w3.heap.size w2.heap.size A' c' w4 hlt3 hb4.size hk4 hown4)
 have hb0' := HB.out.size
 have hb4' : Below w.heap.size w w4 := HB.out.trans ((hc3.trans (hb4.mono hz3)).mono hz0)
 have hzz : w.heap.size ≤ w3.heap.size := Nat.le_trans hb0' hz3
 clear hown4 hk4
 go_wp2_with fail
 refine HDX.out.mono ?_
 rintro en w5 ⟨sv, rfl, hown5, hb5⟩
 have HO5 := Lib.hid (own_less hown5 hzz)
 have HB5 := Lib.hid (hb4'.trans (hb5.mono hzz))
 clear hown5 hb5
 go_wp2_with fail
 refine bodyPost_ret (v := .tuple #[sv, .int .i64 0]) (by simp [results, Tryz.results15, go_sem, *]) rfl ?_
 exact ⟨sv, rfl, HO5.out, HB5.out⟩
set_option maxRecDepth 100000 in
set_option maxHeartbeats 4000000 in
theorem do_other (A : Option Addr) (c : Nat) (l : List Gr) (s : St) (p : StP) (w : World) (hl : l.length ≤ 400) (hn : ∀ g ∈ l, g.r.length ≤ 1000000 ∧ g.t.length ≤ 1000000) (h : GQ l A (Old w.heap.size) w) (hok : s.Ok) (hQ : StQ 1000 s p (Old w.heap.size) w) (hV : Env0 w)
  (hc : chkG l = 0) (hm : mayS s = true) (hr : ¬ s.role = adminT) (hop : ¬ (s.op = oRead ∨ s.op = oWrite) ∧ ¬ (s.op = oUnread ∨ s.op = oUnwrite)) : Calls Tryz.prog 15 #[.slice A l.length c, .agg (s.cells p).toArray] w (RetGE ([], 1) w) := by
 have hmq := hQ
 refine stBox_in s p w fun w0 HW ks0 hb0 hz0 HST HB => ?_
 have hl4 : A.isSome = true ∨ A = none := by cases A <;> simp
 have HQ : Hid (∀ Z : World, Below w0.heap.size w0 Z → GQ l A (Old Z.heap.size) Z) := fun Z hz => h.keep (old_keep (hb0.trans (hz.mono hz0)) (Nat.le_trans hz0 hz.size))
 have HCK : Hid (Calls Tryz.prog 20 #[.slice A l.length c] w0 (Ret (.int .i64 (chkG l)) w0)) := checkG_any A c l w0 (by omega) hn (HQ.out w0 (Below.refl _ _))
 have HMY : Hid (∀ Z : World, Below w0.heap.size w0 Z → Calls Tryz.prog 36 #[.agg (s.cells p).toArray] Z (Ret (.bool (mayS s)) Z)) := fun Z hz => stMay_any s p Z hok (hmq.keep (old_keep (hb0.trans (hz.mono hz0)) (Nat.le_trans hz0 hz.size))) (hV.below (hb0.trans (hz.mono hz0)))
 have HKB : Hid (∀ Z : World, Below w0.heap.size w0 Z → Blk Z w.heap.size 34 (s.cells p).toArray) := fun Z hz => ks0.below hz ks0.lt
 have HS1 : Hid (∀ Z : World, Below w0.heap.size w0 Z → Z.cell? ⟨w.heap.size, 0, none⟩ = some (.string ⟨s.op.toArray⟩) ∧ Z.cell? ⟨w.heap.size, 1, none⟩ = some (.string ⟨s.tb.toArray⟩) ∧ Z.cell? ⟨w.heap.size, 22, none⟩ = some (.string ⟨s.role.toArray⟩)) := fun Z hz => ⟨(HST.out Z hz).1, (HST.out Z hz).2.1, (HST.out Z hz).2.2.2.2.2.2.2.2.2.2.2.2.2.2.2.2.2.2.2.2.2.2⟩
 have hc0 : Below w0.heap.size w0 w0 := Below.refl _ _
 rw [hc] at HCK
 rw [hm] at HMY
 have o_a : (s.role == [97, 100, 109, 105, 110]) = false := by rw [beq_eq_false_iff_ne]; exact hr
 obtain ⟨p1, p2⟩ := hop
 have o_read : (s.op == [114, 101, 97, 100]) = false := by rw [beq_eq_false_iff_ne]; exact fun h => p1 (.inl h)
 have o_write : (s.op == [119, 114, 105, 116, 101]) = false := by rw [beq_eq_false_iff_ne]; exact fun h => p1 (.inr h)
 have o_unread : (s.op == [117, 110, 114, 101, 97, 100]) = false := by rw [beq_eq_false_iff_ne]; exact fun h => p2 (.inl h)
 have o_unwrite : (s.op == [117, 110, 119, 114, 105, 116, 101]) = false := by rw [beq_eq_false_iff_ne]; exact fun h => p2 (.inr h)
 clear hc hm hr hok hQ hV hmq ks0 hb0 h hn hl4 p1 p2
 go_enter Tryz.func15, Tryz.ntmps15
 go_upto_region 1 with fail
 rw [show w.alloc _ = w0 from HW.out]
 clear HW
 go_wp2_with fail
 refine HCK.out.mono ?_
 rintro en w1 ⟨rfl, hb1⟩
 have hz1 := hb1.size
 have HX := Lib.hid (HMY.out w1 hb1)
 go_wp2_with (refine wpList_load_rowG (by rfl) 34 _ rfl w.heap.size rfl 34 (s.cells p).toArray (0, 0) _ (HKB.out _ hb1) Tryz.underlying34 rfl size_st ?_)
 refine HX.out.mono ?_
 rintro en w2 ⟨rfl, hb2⟩
 have hc2 : Below w0.heap.size w0 w2 := hb1.trans (hb2.mono hz1)
 have hz2 := hc2.size
 obtain ⟨s0, s1, s22⟩ := HS1.out w2 hc2
 obtain ⟨w3, hw3⟩ : ∃ w3, w2.alloc (.cells #[.string ⟨s.role.toArray⟩, .string ⟨s.tb.toArray⟩, .bool false] 54) = w3 := ⟨_, rfl⟩
 have k3 : Blk w3 w2.heap.size 54 #[.string ⟨s.role.toArray⟩, .string ⟨s.tb.toArray⟩, .bool false] := by rw [← hw3]; exact Blk.new _ _ _
 have hb23 : Below w2.heap.size w2 w3 := by rw [← hw3]; exact bl
 have hc3 : Below w0.heap.size w0 w3 := hc2.trans (hb23.mono hz2)
 have hz3 := hc3.size
 have h23 := hb23.size
 have HW3 := Lib.hid hw3
 have HK3 := Lib.hid k3
 have hlt3 : w2.heap.size < w3.heap.size := k3.lt
 clear hw3 k3
 go_upto_region 4 with fail
 rw [show w2.alloc _ = w3 from HW3.out]
 clear s0 s1 s22
 obtain ⟨s0, -, -⟩ := HS1.out w3 hc3
 obtain ⟨⟨k0, k1, k2⟩, _⟩ := HK3.out.three
 have hbf := HB.out.trans (hc3.mono hz0)
 go_wp2_with fail
 refine bodyPost_ret (v := .tuple #[.slice none 0 0, .int .i64 1]) (by simp [results, Tryz.results15, go_sem, *]) rfl ?_
 exact RetGE.none_ hbf
theorem do_any (A : Option Addr) (c : Nat) (l : List Gr) (s : St) (p : StP) (w : World) (hl : l.length ≤ 400) (hn : ∀ g ∈ l, g.r.length ≤ 1000000 ∧ g.t.length ≤ 1000000) (h : GQ l A (Old w.heap.size) w) (hok : s.Ok) (hQ : StQ 1000 s p (Old w.heap.size) w) (hV : Env0 w) :
  Calls Tryz.prog 15 #[.slice A l.length c, .agg (s.cells p).toArray] w (RetGE (doG l s) w) := by
 unfold doG
 by_cases hc : chkG l = 0
 ·rw [if_pos hc]
  cases hm : mayS s with
  | false => exact do_no A c l s p w hl hn h hok hQ hV (.inr (.inl hm))
  | true =>
   rw [if_pos rfl]
   by_cases hr : s.role = adminT
   ·rw [if_pos hr]; exact do_no A c l s p w hl hn h hok hQ hV (.inr (.inr hr))
   ·rw [if_neg hr]
    by_cases h1 : s.op = oRead ∨ s.op = oWrite
    ·rw [if_pos h1]
     rcases h1 with h1 | h1
     ·exact do_read A c l s p w hl hn h hok hQ hV hc hm hr h1
     ·exact do_write A c l s p w hl hn h hok hQ hV hc hm hr h1
    ·rw [if_neg h1]
     by_cases h2 : s.op = oUnread ∨ s.op = oUnwrite
     ·rw [if_pos h2]
      rcases h2 with h2 | h2
      ·exact do_unread A c l s p w hl hn h hok hQ hV hc hm hr h2
      ·exact do_unwrite A c l s p w hl hn h hok hQ hV hc hm hr h2
     ·rw [if_neg h2]
      exact do_other A c l s p w hl hn h hok hQ hV hc hm hr ⟨h1, h2⟩
 ·rw [if_neg hc]
  exact do_no A c l s p w hl hn h hok hQ hV (.inl hc)
end Go.Proofs.YtchilcchogcibaaGreatDoor
