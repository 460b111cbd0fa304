/- lexer's octets, its runs and how long one is, as plain functions. Condition: a text that memory reaches.. -/
import Derived.IntWalk
import Derived.RegionTactic
import Derived.Test.YtchilcchogcibaaGreatDoorEAppend
import Derived.Test.YtchilcchogcibaaGreatDoorEStage2
set_option maxRecDepth 100000
set_option maxHeartbeats 2000000
namespace Go.Proofs.YtchilcchogcibaaGreatDoor
open Go.RowKit
attribute [local go_sem] ByteArray.extract_mk ba_get ba_append
attribute [local go_sem ↓] Go.wp_at_zero Go.wp_at_succ
def digB (c : UInt8) : Bool := decide (48 ≤ c.toNat) && decide (c.toNat ≤ 57)
def letB (c : UInt8) : Bool := (decide (97 ≤ c.toNat) && decide (c.toNat ≤ 122)) || (decide (65 ≤ c.toNat) && decide (c.toNat ≤ 90))
def partB (c : UInt8) : Bool := letB c || digB c || decide (c.toNat = 95)
def RetB (b : Bool) (w : World) (e : Ending) (w' : World) : Prop := e = .returned (.bool b) ∧ w = w'
theorem digit_any (c : UInt8) (w : World) : Calls Tryz.prog 206 #[.int .u8 (c.toNat : Int)] w (RetB (digB c) w) := by
 by_cases h1 : 48 ≤ c.toNat
 ·have p1 : (48 : Int) ≤ (c.toNat : Int) := by omega
  by_cases h2 : c.toNat ≤ 57
  ·have p2 : (c.toNat : Int) ≤ 57 := by omega
   go_in
   go_wp2
   go_ret
   exact ⟨by simp [digB, h1, h2], rfl⟩
  ·have p2 : ¬ (c.toNat : Int) ≤ 57 := by omega
   go_in
   go_wp2
   go_ret
   exact ⟨by simp [digB, h2], rfl⟩
 ·have p1 : ¬ (48 : Int) ≤ (c.toNat : Int) := by omega
  go_in
  go_wp2
  go_ret
  exact ⟨by simp [digB, h1], rfl⟩
theorem letter_any (c : UInt8) (w : World) : Calls Tryz.prog 205 #[.int .u8 (c.toNat : Int)] w (RetB (letB c) w) := by
 by_cases h1 : 97 ≤ c.toNat
 ·have p1 : (97 : Int) ≤ (c.toNat : Int) := by omega
  by_cases h2 : c.toNat ≤ 122
  ·have p2 : (c.toNat : Int) ≤ 122 := by omega
   go_in
   go_wp2
   go_ret
   exact ⟨by simp [letB, h1, h2], rfl⟩
  ·have p2 : ¬ (c.toNat : Int) ≤ 122 := by omega
   have p3 : (65 : Int) ≤ (c.toNat : Int) := by omega
   have p4 : ¬ (c.toNat : Int) ≤ 90 := by omega
   go_in
   go_wp2
   go_ret
   exact ⟨by simp [letB, h2]; omega, rfl⟩
 ·have p1 : ¬ (97 : Int) ≤ (c.toNat : Int) := by omega
  by_cases h3 : 65 ≤ c.toNat
  ·have p3 : (65 : Int) ≤ (c.toNat : Int) := by omega
   by_cases h4 : c.toNat ≤ 90
   ·have p4 : (c.toNat : Int) ≤ 90 := by omega
    go_in
    go_wp2
    go_ret
    exact ⟨by simp [letB, h3, h4], rfl⟩
   ·have p4 : ¬ (c.toNat : Int) ≤ 90 := by omega
    go_in
    go_wp2
    go_ret
    exact ⟨by simp [letB, h1, h4], rfl⟩
  ·have p3 : ¬ (65 : Int) ≤ (c.toNat : Int) := by omega
   go_in
   go_wp2
   go_ret
   exact ⟨by simp [letB, h1, h3], rfl⟩
theorem part_any (c : UInt8) (w : World) : Calls Tryz.prog 204 #[.int .u8 (c.toNat : Int)] w (RetB (partB c) w) := by
 cases hl : letB c
 ·have HL := Lib.hid hl
  cases hd : digB c
  ·have HD := Lib.hid hd
   have hp : partB c = ((c.toNat : Int) == 95) := by
    unfold partB
    rw [hl, hd]
    by_cases h : c.toNat = 95
    ·simp [h]
    ·have : ¬ ((c.toNat : Int) = 95) := by omega
     simp [h, this]
   have HP := Lib.hid hp
   clear hl hd hp
   go_in
   go_wp2_with (first | (go_at_call 205; refine (letter_any c _).mono ?_; rw [HL.out]; rintro e w' ⟨rfl, rfl⟩) | (go_at_call 206; refine (digit_any c _).mono ?_; rw [HD.out]; rintro e w' ⟨rfl, rfl⟩))
   go_ret
   exact ⟨by rw [HP.out]; rfl, rfl⟩
  ·have HD := Lib.hid hd
   have hp : partB c = true := by unfold partB; rw [hl, hd]; rfl
   have HP := Lib.hid hp
   clear hl hd hp
   go_in
   go_wp2_with (first | (go_at_call 205; refine (letter_any c _).mono ?_; rw [HL.out]; rintro e w' ⟨rfl, rfl⟩) | (go_at_call 206; refine (digit_any c _).mono ?_; rw [HD.out]; rintro e w' ⟨rfl, rfl⟩))
   go_ret
   exact ⟨by rw [HP.out]; rfl, rfl⟩
 ·have HL := Lib.hid hl
  have hp : partB c = true := by unfold partB; rw [hl]; rfl
  have HP := Lib.hid hp
  clear hl hp
  go_in
  go_wp2_with (go_at_call 205; refine (letter_any c _).mono ?_; rw [HL.out]; rintro e w' ⟨rfl, rfl⟩)
  go_ret
  exact ⟨by rw [HP.out]; rfl, rfl⟩
def lenRun (f g : UInt8 → Bool) : List UInt8 → Nat
 | [] => 0
 | c :: r => if f c then 1 + (r.takeWhile g).length else 0
theorem lenRun_le (f g : UInt8 → Bool) (s : List UInt8) : lenRun f g s ≤ s.length := by
 cases s with
 | nil => exact Nat.le_refl _
 | cons c r =>
  unfold lenRun
  have := (List.takeWhile_sublist g (l := r)).length_le
  simp only [List.length_cons]
  split <;> omega
theorem tw_step (g : UInt8 → Bool) (r : List UInt8) (j : Nat) (c : UInt8) (h : r[j]? = some c) : ((r.drop j).takeWhile g).length = if g c then ((r.drop (j + 1)).takeWhile g).length + 1 else 0 := by
 obtain ⟨hj, he⟩ := List.getElem?_eq_some_iff.1 h
 rw [List.drop_eq_getElem_cons hj, he, List.takeWhile_cons]
 split <;> simp
theorem lengthW_any (s : List UInt8) (w : World) (hs : s.length ≤ 1000000) :
  Calls Tryz.prog 157 #[.agg #[.int .i64 1, .int .i64 16, .func (.func 205) #[] #[], .func (.func 204) #[] #[]], .string ⟨s.toArray⟩] w (Ret (.int .i64 (lenRun letB partB s : Int)) w) := by
 obtain ⟨w0, hw0⟩ : ∃ w0, w.alloc (.cells #[.int .i64 1, .int .i64 16, .func (.func 205) #[] #[], .func (.func 204) #[] #[]] 183) = w0 := ⟨_, rfl⟩
 have hb0 : Below w.heap.size w w0 := by rw [← hw0]; exact bl
 have hk0 : Blk w0 w.heap.size 183 #[.int .i64 1, .int .i64 16, .func (.func 205) #[] #[], .func (.func 204) #[] #[]] := by rw [← hw0]; exact Blk.new _ _ _
 have HW := Lib.hid hw0
 clear hw0
 have lw := hk0.lt
 have hz0 := hb0.size
 have HSH : Hid (∀ w', Below w0.heap.size w0 w' → (w'.cell? ⟨w.heap.size, 2, none⟩ = some (.func (.func 205) #[] #[]) ∧ w'.cell? ⟨w.heap.size, 3, none⟩ = some (.func (.func 204) #[] #[]))) := fun w' h => ⟨(hk0.below h lw).cell 2, (hk0.below h lw).cell 3⟩
 cases s with
 | nil =>
  go_in
  go_upto_region 1 with fail
  rw [HW.out]
  refine wp_region_held_drew (S := (fun _ => True)) (by kernel_rfl) ?_ (fun hHeld => ?_)
  ·try dsimp only
   first | done | trivial
  refine tS [0, 1, 2] ?_
  iterate 3 (refine tC ?_; refine ap ?_)
  refine tN ?_
  refine tS [3, 4, 5, 6, 7, 8] ?_
  iterate 6 (refine tX ?_; refine ap ?_)
  refine tN ?_
  refine tS [9] (tC ?_)
  refine ap (tN ?_)
  refine wpAnyH_done (by kernel_rfl) ?_ _
  go_wp2_with fail
  go_ret
  exact ⟨rfl, by exact bl⟩
 | cons c r =>
  have hr : r.length ≤ 999999 := by simp at hs; omega
  clear hs
  have e1 : ((c :: r) == []) = false := rfl
  go_in
  go_upto_region 1 with fail
  rw [HW.out]
  cases hf : letB c
  ·have HF := Lib.hid hf
   clear hf
   refine rgn HSH fun hHeld => ?_
   refine tS [0, 1, 2, 3, 4, 5, 6] ?_
   iterate 7 (refine tC ?_; refine ap ?_)
   refine tN ?_
   refine rdy 7 fun K hK => ?_
   go_simp
   refine (letter_any c _).mono ?_ <;> rw [HF.out] <;> rintro e w7 ⟨rfl, rfl⟩
   go_wp2_with fail
   refine hK.out _ _ (HSH.out _ (by exact bl)) fun hHeld => ?_
   clear hK K
   refine ap ?_
   refine tS [8, 9] ?_
   iterate 2 (refine tC ?_; refine ap ?_)
   refine tN ?_
   refine wpAnyH_done (by kernel_rfl) ?_ _
   go_wp2_with fail
   go_ret
   exact ⟨by simp [lenRun, HF.out], by exact bl⟩
  ·have HF := Lib.hid hf
   clear hf
   refine rgn HSH fun hHeld => ?_
   refine tS [0, 1, 2, 3, 4, 5, 6] ?_
   iterate 7 (refine tC ?_; refine ap ?_)
   refine tN ?_
   refine rdy 7 fun K hK => ?_
   go_simp
   refine (letter_any c _).mono ?_ <;> rw [HF.out] <;> rintro e w7 ⟨rfl, rfl⟩
   go_wp2_with fail
   refine hK.out _ _ (HSH.out _ (by exact bl)) fun hHeld => ?_
   clear hK K
   refine ap ?_
   refine tS [8, 9] ?_
   iterate 2 (refine tC ?_; refine ap ?_)
   refine tN ?_
   refine wpAnyH_done (by kernel_rfl) ?_ _
   have hbS : Below w0.heap.size w0 w0.drew := by exact bl
   generalize w0.drew = ws at *
   go_wp2_with fail
   go_loopw [5] (fun i wr => ∃ j : Nat, j ≤ r.length ∧ i = .int .i64 ((j : Int) + 1) ∧ Hid ((r.takeWhile partB).length = j + ((r.drop j).takeWhile partB).length) ∧ Below w0.heap.size w0 wr) (fun i _ => r.length + 1 - (intOf i).toNat)
   case atStart => exact ⟨0, by omega, rfl, (by show _ = _; simp), hbS⟩
   case round =>
    obtain ⟨j, hj, rfl, HT, hbr⟩ := hrel
    obtain ⟨Wr, rfl⟩ : ∃ Wr, Wr = wr := ⟨_, rfl⟩
    have hzr := hbr.size
    by_cases hlt : j < r.length
    ·obtain ⟨d, hd⟩ : ∃ d, r[j]? = some d := ⟨_, List.getElem?_eq_getElem hlt⟩
     have hst := tw_step partB r j d hd
     have i1 : (0 : Int) ≤ (j : Int) + 1 := by omega
     have i2 : (j : Int) + 1 < (r.length : Int) + 1 := by omega
     have hdd : r[j] = d := by rw [List.getElem?_eq_getElem hlt] at hd; exact Option.some.inj hd
     have i4 : ((j : Int) + 1).toNat = j + 1 := by omega
     have i5 : (c :: r)[j + 1]? = some d := by rw [List.getElem?_cons_succ]; exact hd
     clear hd
     cases hg : partB d
     ·rw [hg] at hst
      have HG := Lib.hid hg
      have HST := Lib.hid hst
      clear hg hst
      go_wp2_with fail
      refine rgn HSH fun hHeld => ?_
      refine tS [0, 1, 2, 3, 4, 5, 6, 7, 8, 9] ?_
      iterate 10 (refine tC ?_; refine ap ?_)
      refine tN ?_
      refine rdy 10 fun K hK => ?_
      go_simp
      refine (part_any d _).mono ?_ <;> rw [HG.out] <;> rintro e w7 ⟨rfl, rfl⟩
      go_wp2_with fail
      refine hK.out _ _ (HSH.out _ (by exact bl)) fun hHeld => ?_
      clear hK K
      refine ap ?_
      refine tS [11] (tC ?_)
      refine ap (tN ?_)
      refine wpAnyH_done (by kernel_rfl) ?_ _
      go_wp2_with fail
      go_ret
      refine ⟨?_, by exact bl⟩
      have h1 := HT.out
      have h2 := HST.out
      simp only [Bool.false_eq_true, if_false] at h2
      have h3 : lenRun letB partB (c :: r) = 1 + (r.takeWhile partB).length := by simp [lenRun, HF.out]
      rw [h3, h1, h2]
      simp
      omega
     ·rw [hg] at hst
      have HG := Lib.hid hg
      have HST := Lib.hid hst
      clear hg hst
      go_wp2_with fail
      refine rgn HSH fun hHeld => ?_
      refine tS [0, 1, 2, 3, 4, 5, 6, 7, 8, 9] ?_
      iterate 10 (refine tC ?_; refine ap ?_)
      refine tN ?_
      refine rdy 10 fun K hK => ?_
      go_simp
      refine (part_any d _).mono ?_ <;> rw [HG.out] <;> rintro e w7 ⟨rfl, rfl⟩
      go_wp2_with fail
      refine hK.out _ _ (HSH.out _ (by exact bl)) fun hHeld => ?_
      clear hK K
      refine ap ?_
      refine tS [11] (tC ?_)
      refine ap (tN ?_)
      refine wpAnyH_done (by kernel_rfl) ?_ _
      go_wp2_with fail
      go_roundw
      case rel => exact ⟨j + 1, by omega, by go_num, (by show _ = _; rw [HT.out, HST.out]; simp; omega), by exact bl⟩
      case measure => simp [intOf]; omega
    ·have i2 : ¬ ((j : Int) + 1 < (r.length : Int) + 1) := by omega
     have i3 : decide ((j : Int) < (r.length : Int)) = false := by simp; omega
     have hnil : r.drop j = [] := List.drop_of_length_le (by omega)
     have HN := Lib.hid hnil
     clear hnil
     go_wp2_with fail
     refine wp_region_held_drew (S := (fun _ => True)) (by kernel_rfl) ?_ (fun hHeld => ?_)
     ·try dsimp only
      first | done | trivial
     refine tS [0, 1, 2, 3, 4] ?_
     iterate 5 (refine tC ?_; refine ap ?_)
     refine tN ?_
     refine tS [5, 6, 7, 8, 9, 10] ?_
     iterate 6 (refine tX ?_; refine ap ?_)
     refine tN ?_
     refine tS [11] (tC ?_)
     refine ap (tN ?_)
     refine wpAnyH_done (by kernel_rfl) ?_ _
     go_wp2_with fail
     go_ret
     refine ⟨?_, by exact bl⟩
     have h1 := HT.out
     rw [HN.out] at h1
     have h3 : lenRun letB partB (c :: r) = 1 + (r.takeWhile partB).length := by simp [lenRun, HF.out]
     rw [h3, h1]
     simp
     omega
theorem lengthN_any (s : List UInt8) (w : World) (hs : s.length ≤ 1000000) :
  Calls Tryz.prog 157 #[.agg #[.int .i64 2, .int .i64 19, .func (.func 206) #[] #[], .func (.func 206) #[] #[]], .string ⟨s.toArray⟩] w (Ret (.int .i64 (lenRun digB digB s : Int)) w) := by
 obtain ⟨w0, hw0⟩ : ∃ w0, w.alloc (.cells #[.int .i64 2, .int .i64 19, .func (.func 206) #[] #[], .func (.func 206) #[] #[]] 183) = w0 := ⟨_, rfl⟩
 have hb0 : Below w.heap.size w w0 := by rw [← hw0]; exact bl
 have hk0 : Blk w0 w.heap.size 183 #[.int .i64 2, .int .i64 19, .func (.func 206) #[] #[], .func (.func 206) #[] #[]] := by rw [← hw0]; exact Blk.new _ _ _
 have HW := Lib.hid hw0
 clear hw0
 have lw := hk0.lt
 have hz0 := hb0.size
 have HSH : Hid (∀ w', Below w0.heap.size w0 w' → (w'.cell? ⟨w.heap.size, 2, none⟩ = some (.func (.func 206) #[] #[]) ∧ w'.cell? ⟨w.heap.size, 3, none⟩ = some (.func (.func 206) #[] #[]))) := fun w' h => ⟨(hk0.below h lw).cell 2, (hk0.below h lw).cell 3⟩
 cases s with
 | nil =>
  go_in
  go_upto_region 1 with fail
  rw [HW.out]
  refine wp_region_held_drew (S := (fun _ => True)) (by kernel_rfl) ?_ (fun hHeld => ?_)
  ·try dsimp only
   first | done | trivial
  refine tS [0, 1, 2] ?_
  iterate 3 (refine tC ?_; refine ap ?_)
  refine tN ?_
  refine tS [3, 4, 5, 6, 7, 8] ?_
  iterate 6 (refine tX ?_; refine ap ?_)
  refine tN ?_
  refine tS [9] (tC ?_)
  refine ap (tN ?_)
  refine wpAnyH_done (by kernel_rfl) ?_ _
  go_wp2_with fail
  go_ret
  exact ⟨rfl, by exact bl⟩
 | cons c r =>
  have hr : r.length ≤ 999999 := by simp at hs; omega
  clear hs
  have e1 : ((c :: r) == []) = false := rfl
  go_in
  go_upto_region 1 with fail
  rw [HW.out]
  cases hf : digB c
  ·have HF := Lib.hid hf
   clear hf
   refine rgn HSH fun hHeld => ?_
   refine tS [0, 1, 2, 3, 4, 5, 6] ?_
   iterate 7 (refine tC ?_; refine ap ?_)
   refine tN ?_
   refine rdy 7 fun K hK => ?_
   go_simp
   refine (digit_any c _).mono ?_ <;> rw [HF.out] <;> rintro e w7 ⟨rfl, rfl⟩
   go_wp2_with fail
   refine hK.out _ _ (HSH.out _ (by exact bl)) fun hHeld => ?_
   clear hK K
   refine ap ?_
   refine tS [8, 9] ?_
   iterate 2 (refine tC ?_; refine ap ?_)
   refine tN ?_
   refine wpAnyH_done (by kernel_rfl) ?_ _
   go_wp2_with fail
   go_ret
   exact ⟨by simp [lenRun, HF.out], by exact bl⟩
  ·have HF := Lib.hid hf
   clear hf
   refine rgn HSH fun hHeld => ?_
   refine tS [0, 1, 2, 3, 4, 5, 6] ?_
   iterate 7 (refine tC ?_; refine ap ?_)
   refine tN ?_
   refine rdy 7 fun K hK => ?_
   go_simp
   refine (digit_any c _).mono ?_ <;> rw [HF.out] <;> rintro e w7 ⟨rfl, rfl⟩
   go_wp2_with fail
   refine hK.out _ _ (HSH.out _ (by exact bl)) fun hHeld => ?_
   clear hK K
   refine ap ?_
   refine tS [8, 9] ?_
   iterate 2 (refine tC ?_; refine ap ?_)
   refine tN ?_
   refine wpAnyH_done (by kernel_rfl) ?_ _
   have hbS : Below w0.heap.size w0 w0.drew := by exact bl
   generalize w0.drew = ws at *
   go_wp2_with fail
   go_loopw [5] (fun i wr => ∃ j : Nat, j ≤ r.length ∧ i = .int .i64 ((j : Int) + 1) ∧ Hid ((r.takeWhile digB).length = j + ((r.drop j).takeWhile digB).length) ∧ Below w0.heap.size w0 wr) (fun i _ => r.length + 1 - (intOf i).toNat)
   case atStart => exact ⟨0, by omega, rfl, (by show _ = _; simp), hbS⟩
   case round =>
    obtain ⟨j, hj, rfl, HT, hbr⟩ := hrel
    obtain ⟨Wr, rfl⟩ : ∃ Wr, Wr = wr := ⟨_, rfl⟩
    have hzr := hbr.size
    by_cases hlt : j < r.length
    ·obtain ⟨d, hd⟩ : ∃ d, r[j]? = some d := ⟨_, List.getElem?_eq_getElem hlt⟩
     have hst := tw_step digB r j d hd
     have i1 : (0 : Int) ≤ (j : Int) + 1 := by omega
     have i2 : (j : Int) + 1 < (r.length : Int) + 1 := by omega
     have hdd : r[j] = d := by rw [List.getElem?_eq_getElem hlt] at hd; exact Option.some.inj hd
     have i4 : ((j : Int) + 1).toNat = j + 1 := by omega
     have i5 : (c :: r)[j + 1]? = some d := by rw [List.getElem?_cons_succ]; exact hd
     clear hd
     cases hg : digB d
     ·rw [hg] at hst
      have HG := Lib.hid hg
      have HST := Lib.hid hst
      clear hg hst
      go_wp2_with fail
      refine rgn HSH fun hHeld => ?_
      refine tS [0, 1, 2, 3, 4, 5, 6, 7, 8, 9] ?_
      iterate 10 (refine tC ?_; refine ap ?_)
      refine tN ?_
      refine rdy 10 fun K hK => ?_
      go_simp
      refine (digit_any d _).mono ?_ <;> rw [HG.out] <;> rintro e w7 ⟨rfl, rfl⟩
      go_wp2_with fail
      refine hK.out _ _ (HSH.out _ (by exact bl)) fun hHeld => ?_
      clear hK K
      refine ap ?_
      refine tS [11] (tC ?_)
      refine ap (tN ?_)
      refine wpAnyH_done (by kernel_rfl) ?_ _
      go_wp2_with fail
      go_ret
      refine ⟨?_, by exact bl⟩
      have h1 := HT.out
      have h2 := HST.out
      simp only [Bool.false_eq_true, if_false] at h2
      have h3 : lenRun digB digB (c :: r) = 1 + (r.takeWhile digB).length := by simp [lenRun, HF.out]
      rw [h3, h1, h2]
      simp
      omega
     ·rw [hg] at hst
      have HG := Lib.hid hg
      have HST := Lib.hid hst
      clear hg hst
      go_wp2_with fail
      refine rgn HSH fun hHeld => ?_
      refine tS [0, 1, 2, 3, 4, 5, 6, 7, 8, 9] ?_
      iterate 10 (refine tC ?_; refine ap ?_)
      refine tN ?_
      refine rdy 10 fun K hK => ?_
      go_simp
      refine (digit_any d _).mono ?_ <;> rw [HG.out] <;> rintro e w7 ⟨rfl, rfl⟩
      go_wp2_with fail
      refine hK.out _ _ (HSH.out _ (by exact bl)) fun hHeld => ?_
      clear hK K
      refine ap ?_
      refine tS [11] (tC ?_)
      refine ap (tN ?_)
      refine wpAnyH_done (by kernel_rfl) ?_ _
      go_wp2_with fail
      go_roundw
      case rel => exact ⟨j + 1, by omega, by go_num, (by show _ = _; rw [HT.out, HST.out]; simp; omega), by exact bl⟩
      case measure => simp [intOf]; omega
    ·have i2 : ¬ ((j : Int) + 1 < (r.length : Int) + 1) := by omega
     have i3 : decide ((j : Int) < (r.length : Int)) = false := by simp; omega
     have hnil : r.drop j = [] := List.drop_of_length_le (by omega)
     have HN := Lib.hid hnil
     clear hnil
     go_wp2_with fail
     refine wp_region_held_drew (S := (fun _ => True)) (by kernel_rfl) ?_ (fun hHeld => ?_)
     ·try dsimp only
      first | done | trivial
     refine tS [0, 1, 2, 3, 4] ?_
     iterate 5 (refine tC ?_; refine ap ?_)
     refine tN ?_
     refine tS [5, 6, 7, 8, 9, 10] ?_
     iterate 6 (refine tX ?_; refine ap ?_)
     refine tN ?_
     refine tS [11] (tC ?_)
     refine ap (tN ?_)
     refine wpAnyH_done (by kernel_rfl) ?_ _
     go_wp2_with fail
     go_ret
     refine ⟨?_, by exact bl⟩
     have h1 := HT.out
     rw [HN.out] at h1
     have h3 : lenRun digB digB (c :: r) = 1 + (r.takeWhile digB).length := by simp [lenRun, HF.out]
     rw [h3, h1]
     simp
     omega
end Go.Proofs.YtchilcchogcibaaGreatDoor
