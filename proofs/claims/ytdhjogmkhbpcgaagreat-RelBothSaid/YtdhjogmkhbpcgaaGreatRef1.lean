/- The document's May, good and Order, and the laws' Few, as plain functions. Condition: a text is no longer than memory reaches. -/
import Derived.Test.YtdhjogmkhbpcgaaGreatMay
import Derived.Deep.RegionHeld3
import Derived.Deep.DrawnRows
namespace Go.Proofs.YtdhjogmkhbpcgaaGreat
open Go.RowKit

attribute [local go_sem] ByteArray.extract_mk ba_get

theorem take_snoc (s : List UInt8) (k : Nat) (h : k < s.length) : s.take (k + 1) = s.take k ++ [s[k]] := by
  rw [List.take_succ_eq_append_getElem h]

set_option maxHeartbeats 400000 in
theorem few1_any (k i : Int) (s : List UInt8) (w : World) :
    Calls Tryz.prog 47 #[.agg #[.int .i64 k, .int .i64 i, .string ⟨s.toArray⟩]] w fun e w' => e = .returned (.agg #[.int .i64 k, .int .i64 i, .string ⟨(s.take 60).toArray⟩]) ∧ Below w.heap.size w w' := by
  by_cases h : s.length ≤ 60
  · go_enter Tryz.func47, Tryz.ntmps47
    go_wp2
    refine bodyPost_ret (v := .agg #[.int .i64 k, .int .i64 i, .string ⟨s.toArray⟩]) (by simp [results, Tryz.results47, go_sem]) rfl ⟨?_, ?_⟩
    · rw [List.take_of_length_le h]
    · exact ((Below.refl _ _).alloc (Nat.le_refl _) _).alloc (by simp) _
  · go_enter Tryz.func47, Tryz.ntmps47
    go_wp2
    refine bodyPost_ret (v := .agg #[.int .i64 k, .int .i64 i, .string ⟨(s.take 60).toArray⟩]) (by simp [results, Tryz.results47, go_sem]) rfl ⟨?_, ?_⟩
    · rfl
    · exact ((Below.refl _ _).alloc (Nat.le_refl _) _).alloc (by simp) _

/-- The tail of the document's May, behind its loop. -/
def restB (k i : Int) (s : List UInt8) : Bool :=
  if k = 0 then decide (i = 0) && s.isEmpty
  else if k = 1 then s.isEmpty
  else if k = 2 then decide (i = 0) && decide (s.length ≤ 40)
  else if k = 3 then (decide (i = 0) || decide (i = 1)) && s.isEmpty
  else false
theorem mayB_rest (k i : Int) (s : List UInt8) : mayB k i s = (!(s.any oddByte) && restB k i s) := by
  unfold mayB restB
  repeat' split
  all_goals (cases s <;> simp)
  all_goals (rw [Bool.eq_iff_iff]; simp; try grind)

set_option maxHeartbeats 400000 in
theorem rmay_any (k i : Int) (s : List UInt8) (w : World) (hs : s.length ≤ 140737488351232) :
    Calls Tryz.prog 52 #[.agg #[.int .i64 k, .int .i64 i, .string ⟨s.toArray⟩]] w fun e w' => e = .returned (.bool (mayB k i s)) ∧ Below w.heap.size w w' := by
  have HM := Lib.hid (mayB_rest k i s)
  generalize mayB k i s = M at *
  go_enter Tryz.func52, Tryz.ntmps52
  go_wp2
  go_loop [3] (fun t => ∃ j : Nat, j ≤ s.length ∧ t = .int .i64 j ∧ Hid ((s.take j).any oddByte = false)) (fun t => s.length - (intOf t).toNat)
  case atStart => exact ⟨0, by omega, rfl, rfl⟩
  case round =>
    obtain ⟨j, hj, rfl, hodd⟩ := hrel
    by_cases hlt : j < s.length
    · by_cases hb : oddByte s[j] = true
      · have hM : M = false := by
          rw [HM.out]
          have : s.any oddByte = true := List.any_eq_true.2 ⟨s[j], List.getElem_mem _, hb⟩
          simp [this]
        have HM2 := Lib.hid hM
        simp only [oddByte, oddB, Bool.or_eq_true, decide_eq_true_eq] at hb
        clear hM HM
        rcases hb with hb | hb
        all_goals
          go_wp2
          go_ret
          exact ⟨by rw [HM2.out]; rfl, (Below.refl _ _).alloc (Nat.le_refl _) _⟩
      · have h1 : Hid ((s.take (j + 1)).any oddByte = false) := by
          show (s.take (j + 1)).any oddByte = false
          rw [take_snoc s j hlt, List.any_append, hodd.out]
          simpa using hb
        have hb' : oddByte s[j] = false := by simpa using hb
        simp only [oddByte, oddB, Bool.or_eq_false_iff, decide_eq_false_iff_not] at hb'
        obtain ⟨hb1, hb2⟩ := hb'
        clear hb hodd
        go_wp2
        go_round
        case rel => exact ⟨j + 1, by omega, by go_num, h1⟩
        case measure => simp [intOf]; omega
    · have hM : M = restB k i s := by
        rw [HM.out]
        have e : s.take j = s := List.take_of_length_le (by omega)
        rw [← e, hodd.out, e]
        simp
      have HM2 := Lib.hid hM
      clear hM hodd
      go_wp2
      all_goals go_ret
      all_goals refine ⟨?_, (Below.refl _ _).alloc (Nat.le_refl _) _⟩
      all_goals go_light
      all_goals rw [HM2.out]
      all_goals simp_all [restB]
      all_goals omega

def goodV (k i : Int) (s : List UInt8) : V := if mayB k i s then ⟨k, i, s⟩ else ⟨0, 0, []⟩

set_option maxHeartbeats 400000 in
theorem good_any (k i : Int) (s : List UInt8) (w : World) (hs : s.length ≤ 140737488351232) :
    Calls Tryz.prog 44 #[.agg #[.int .i64 k, .int .i64 i, .string ⟨s.toArray⟩]] w fun e w' => e = .returned (.agg #[.int .i64 (goodV k i s).k, .int .i64 (goodV k i s).i, .string ⟨(goodV k i s).s.toArray⟩]) ∧ Below w.heap.size w w' := by
  cases hm : mayB k i s
  · have e : goodV k i s = ⟨0, 0, []⟩ := by unfold goodV; rw [hm]; rfl
    rw [e]
    clear e
    have HM := Lib.hid hm
    clear hm
    go_enter Tryz.func44, Tryz.ntmps44
    go_wp2_with fail
    refine (rmay_any _ _ _ _ hs).mono ?_
    rintro e w1 ⟨rfl, hb⟩
    rw [HM.out]
    obtain ⟨hc, hf⟩ := bcell hb
    have hz := hb.size
    simp at hz hc hf
    go_wp2
    refine bodyPost_ret (v := .agg #[.int .i64 0, .int .i64 0, .string ⟨#[]⟩]) (by simp [results, Tryz.results44, go_sem, hc]) rfl ⟨rfl, ?_⟩
    ((with_reducible repeat' (first | exact Below.refl _ _ | assumption | refine Below.drew ?_ | refine below_drewN ?_ _ | refine Below.setCell ?_ ?_ _ | refine Below.alloc ?_ ?_ _ | refine Below.trans ?_ (Below.mono (by assumption) ?_))) <;> first | (simp; done) | (simp; omega) | omega)
  · have e : goodV k i s = ⟨k, i, s⟩ := by unfold goodV; rw [hm]; rfl
    rw [e]
    clear e
    have HM := Lib.hid hm
    clear hm
    go_enter Tryz.func44, Tryz.ntmps44
    go_wp2_with fail
    refine (rmay_any _ _ _ _ hs).mono ?_
    rintro e w1 ⟨rfl, hb⟩
    rw [HM.out]
    obtain ⟨hc, hf⟩ := bcell hb
    have hz := hb.size
    simp at hz hc hf
    go_wp2
    refine bodyPost_ret (v := .agg #[.int .i64 k, .int .i64 i, .string ⟨s.toArray⟩]) (by simp [results, Tryz.results44, go_sem, hc]) rfl ⟨rfl, ?_⟩
    ((with_reducible repeat' (first | exact Below.refl _ _ | assumption | refine Below.drew ?_ | refine below_drewN ?_ _ | refine Below.setCell ?_ ?_ _ | refine Below.alloc ?_ ?_ _ | refine Below.trans ?_ (Below.mono (by assumption) ?_))) <;> first | (simp; done) | (simp; omega) | omega)

end Go.Proofs.YtdhjogmkhbpcgaaGreat
