/- The document's May, good and Order, and the laws' Few, as plain functions. Condition: a text is no longer than memory reaches. -/
import Derived.Test.YtdhjogmkhbpcgaaMay
import Derived.Deep.RegionHeld3
import Derived.Deep.DrawnRows
namespace Go.Proofs.Ytdhjogmkhbpcgaa
open Go.RowKit

attribute [local go_sem] ByteArray.extract_mk ba_get

theorem take_snoc (s : List UInt8) (k : Nat) (h : k < s.length) : s.take (k + 1) = s.take k ++ [s[k]] := by
  rw [List.take_succ_eq_append_getElem h]

set_option maxHeartbeats 400000 in
theorem few1_any (k i : Int) (s : List UInt8) (w : World) :
    Calls Try.prog 21 #[.agg #[.int .i64 k, .int .i64 i, .string ⟨s.toArray⟩]] w fun e w' => e = .returned (.agg #[.int .i64 k, .int .i64 i, .string ⟨(s.take 60).toArray⟩]) ∧ Below w.heap.size w w' := by
  by_cases h : s.length ≤ 60
  · go_enter Try.func21, Try.ntmps21
    go_wp2
    refine bodyPost_ret (v := .agg #[.int .i64 k, .int .i64 i, .string ⟨s.toArray⟩]) (by simp [results, Try.results21, go_sem]) rfl ⟨?_, ?_⟩
    · rw [List.take_of_length_le h]
    · exact ((Below.refl _ _).alloc (Nat.le_refl _) _).alloc (by simp) _
  · go_enter Try.func21, Try.ntmps21
    go_wp2
    refine bodyPost_ret (v := .agg #[.int .i64 k, .int .i64 i, .string ⟨(s.take 60).toArray⟩]) (by simp [results, Try.results21, go_sem]) rfl ⟨?_, ?_⟩
    · rfl
    · exact ((Below.refl _ _).alloc (Nat.le_refl _) _).alloc (by simp) _

/-- The tail of the document's May, behind its loop. -/
def restB (k i : Int) (s : List UInt8) : Bool :=
  if k = 0 then decide (i = 0) && s.isEmpty
  else if k = 1 then s.isEmpty
  else if k = 2 then decide (i = 0) && decide (s.length ≤ 40)
  else if k = 3 then (decide (i = 0) || decide (i = 1)) && s.isEmpty
  else false
theorem mayB_rest (k i : Int) (s : List UInt8) : mayB k i s = (!(s.any oddByte) && restB k i s) := by
  unfold mayB restB
  repeat' split
  all_goals (cases s <;> simp)
  all_goals (rw [Bool.eq_iff_iff]; simp; try grind)

def goodV (k i : Int) (s : List UInt8) : V := if mayB k i s then ⟨k, i, s⟩ else ⟨0, 0, []⟩

end Go.Proofs.Ytdhjogmkhbpcgaa
