/- code.Value: the octets of whatever value. Condition: its number is one of 64 bits, its text no longer than a million octets. -/
import Derived.Test.YtkeeekifejholaaCodeInt
namespace Go.Proofs.Ytkeeekifejholaa
open Go.RowKit

attribute [local go_sem] ByteArray.extract_mk ba_get

set_option maxRecDepth 100000 in
set_option maxHeartbeats 400000 in
theorem cvalue_bad (k i : Int) (s : List UInt8) (w : World) (hm : mayB k i s = false) :
    Calls Try.prog 15 #[.agg #[.int .i64 k, .int .i64 i, .string ⟨s.toArray⟩]] w (Ret (.string ⟨[(0 : UInt8)].toArray⟩) w) := by
  have HM := Lib.hid hm
  clear hm
  go_enter Try.func15, Try.ntmps15
  go_wp2_with fail
  refine (may_any _ _ _ _).mono ?_
  rintro e w1 ⟨rfl, hb1⟩
  rw [HM.out]
  obtain ⟨hc1, hf1⟩ := bcell hb1
  have hz1 := hb1.size
  simp at hz1 hc1 hf1
  have hy1 : w.heap.size < w1.heap.size := by omega
  have hcv := own_text (P := Try.prog) Try.underlying45 Try.underlying5 Try.underlying9 (own_new' (((w1.setCell ⟨w.heap.size, 0, none⟩ (.int .i64 0)).setCell ⟨w.heap.size, 1, none⟩ (.int .i64 0)).setCell ⟨w.heap.size, 2, none⟩ (.string ⟨#[]⟩)) w1.heap.size (w.heap.size + 1) 5 0 0 rfl (by simp) (by omega))
  go_wp2
  go_ret
  exact ⟨rfl, by ((repeat' (first | with_reducible exact Below.refl _ _ | with_reducible assumption | with_reducible refine Below.drew ?_ | with_reducible refine below_drewN ?_ _ | with_reducible refine Below.setCell ?_ ?_ _ | with_reducible refine Below.alloc ?_ ?_ _ | with_reducible refine Below.trans ?_ (Below.mono (by assumption) ?_))) <;> (first | (simp; done) | (simp; omega) | omega))⟩

set_option maxRecDepth 100000 in
set_option maxHeartbeats 400000 in
theorem cvalue_null (w : World) :
    Calls Try.prog 15 #[.agg #[.int .i64 0, .int .i64 0, .string ⟨#[]⟩]] w (Ret (.string ⟨[(0 : UInt8)].toArray⟩) w) := by
  have HM := Lib.hid (show mayB 0 0 [] = true from rfl)
  go_enter Try.func15, Try.ntmps15
  go_wp2_with fail
  refine (may_any _ _ _ _).mono ?_
  rintro e w1 ⟨rfl, hb1⟩
  rw [HM.out]
  obtain ⟨hc1, hf1⟩ := bcell hb1
  have hz1 := hb1.size
  simp at hz1 hc1 hf1
  have hy1 : w.heap.size < w1.heap.size := by omega
  have hcv := own_text (P := Try.prog) Try.underlying45 Try.underlying5 Try.underlying9 (own_new w1 (w.heap.size + 1) 5 0 0 rfl (by omega))
  go_wp2
  go_ret
  exact ⟨rfl, by ((repeat' (first | with_reducible exact Below.refl _ _ | with_reducible assumption | with_reducible refine Below.drew ?_ | with_reducible refine below_drewN ?_ _ | with_reducible refine Below.setCell ?_ ?_ _ | with_reducible refine Below.alloc ?_ ?_ _ | with_reducible refine Below.trans ?_ (Below.mono (by assumption) ?_))) <;> (first | (simp; done) | (simp; omega) | omega))⟩

set_option maxRecDepth 100000 in
set_option maxHeartbeats 400000 in
theorem cvalue_bool (i : Int) (w : World) (hi : i = 0 ∨ i = 1) :
    Calls Try.prog 15 #[.agg #[.int .i64 3, .int .i64 i, .string ⟨#[]⟩]] w (Ret (.string ⟨[(3 : UInt8), UInt8.ofNat i.toNat].toArray⟩) w) := by
  obtain ⟨i0, hi0, zi0, zi1, zi2⟩ := info_parts infoB
  have hm : mayB 3 i [] = true := by rcases hi with rfl | rfl <;> rfl
  have HM := Lib.hid hm
  clear hm
  have hlo : 0 ≤ i := by omega
  have hhi : i ≤ 1 := by omega
  have HI := Lib.hid hi
  clear hi
  go_enter Try.func15, Try.ntmps15
  go_wp2_with fail
  refine (may_any _ _ _ _).mono ?_
  rintro e w1 ⟨rfl, hb1⟩
  rw [HM.out]
  obtain ⟨hc1, hf1⟩ := bcell hb1
  have hz1 := hb1.size
  simp at hz1 hc1 hf1
  have hy1 : w.heap.size < w1.heap.size := by omega
  have hown0 := own_new w1 (w.heap.size + 1) 5 3 3 rfl (by omega)
  go_wp2_with (at_builtin; refine wpList_append_own _ rfl (.tmp 46) (.tmp 50) 45 rfl (w.heap.size + 1) 5 i0 _ 1 1 Try.underlying45 hi0 zi0 zi1 zi2 rfl (by decide) _ _ _ rfl (hown0.alloc _) ⟨w1.heap.size + 1, 0, none⟩ 1 1 (bcs [UInt8.ofNat i.toNat]) rfl rfl ?d1 ?d2 ?d3 ?d4 ?d5 ?_)
  case d1 =>
    have h := news_one (w1.alloc (Obj.cells #[Value.int IntKind.u8 3] 5)) 5 i (UInt8.ofNat i.toNat) (by rw [u8_of]; omega)
    rw [show (w1.alloc (Obj.cells #[Value.int IntKind.u8 3] 5)).heap.size = w1.heap.size + 1 by simp] at h
    exact h
  case d2 => exact bcs_one _
  case d3 => simp [maxLen]
  case d4 => omega
  case d5 => simp; omega
  intro v3 w3 hown3 hg3 _
  rw [← bcs_append] at hown3
  have hcv := own_text (P := Try.prog) Try.underlying45 Try.underlying5 Try.underlying9 hown3
  have hbb : Below w.heap.size w w3 := by
    have h1 : Below w.heap.size w (w1.alloc (Obj.cells #[Value.int IntKind.u8 3] 5)) := by ((repeat' (first | with_reducible exact Below.refl _ _ | with_reducible assumption | with_reducible refine Below.drew ?_ | with_reducible refine below_drewN ?_ _ | with_reducible refine Below.setCell ?_ ?_ _ | with_reducible refine Below.alloc ?_ ?_ _ | with_reducible refine Below.trans ?_ (Below.mono (by assumption) ?_))) <;> (first | (simp; done) | (simp; omega) | omega))
    exact grown_below h1 hg3 (by simp; omega) (by simp [Value.ownBlock]; omega)
  clear hown3 hg3 hown0
  go_wp2
  go_ret
  exact ⟨rfl, hbb⟩

def codeV (k i : Int) (s : List UInt8) : List UInt8 :=
  if mayB k i s = false then [0]
  else if k = 1 then 1 :: be8 (i + 9223372036854775808).toNat 8
  else if k = 2 then 2 :: s ++ [0]
  else if k = 3 then [3, UInt8.ofNat i.toNat]
  else [0]

theorem cvalue_any (k i : Int) (s : List UInt8) (w : World) (hi1 : -9223372036854775808 ≤ i) (hi2 : i ≤ 9223372036854775807) :
    Calls Try.prog 15 #[.agg #[.int .i64 k, .int .i64 i, .string ⟨s.toArray⟩]] w (Ret (.string ⟨(codeV k i s).toArray⟩) w) := by
  unfold codeV
  by_cases hm : mayB k i s = false
  · rw [if_pos hm]; exact cvalue_bad k i s w hm
  · rw [if_neg hm]
    have hm' : mayB k i s = true := by simpa using hm
    have hM := hm'
    unfold mayB at hm'
    by_cases h0 : k = 0
    · subst h0
      simp at hm'
      obtain ⟨rfl, rfl⟩ := hm'
      exact cvalue_null w
    · by_cases h1 : k = 1
      · subst h1
        simp at hm'
        subst hm'
        exact cvalue_int i w hi1 hi2
      · by_cases h2 : k = 2
        · subst h2
          simp at hm'
          obtain ⟨⟨rfl, hl⟩, _⟩ := hm'
          exact cvalue_text s w (by omega) hM
        · by_cases h3 : k = 3
          · subst h3
            simp at hm'
            obtain ⟨hi, rfl⟩ := hm'
            exact cvalue_bool i w hi
          · simp [h0, h1, h2, h3] at hm'
end Go.Proofs.Ytkeeekifejholaa
