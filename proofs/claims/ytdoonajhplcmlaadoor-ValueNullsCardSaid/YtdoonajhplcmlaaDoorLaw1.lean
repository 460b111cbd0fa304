/- Words that the laws of layer 1 share. -/
import Derived.Test.YtdoonajhplcmlaaDoorAwake1
namespace Go.Proofs.YtdoonajhplcmlaaDoor
open Go.RowKit

theorem veq_self (v : V) : veq v v = true := by simp [veq]

theorem alike1 (i j : Int) : alikeB ⟨1, i, []⟩ ⟨1, j, []⟩ = true := by simp [alikeB, goodV, mayB]
def plus1 (i j : Int) : V := if fits (i + j) then ⟨1, i + j, []⟩ else ⟨0, 0, []⟩
def minus1 (i j : Int) : V := if fits (i - j) then ⟨1, i - j, []⟩ else ⟨0, 0, []⟩
theorem plus1_eq (i j : Int) : plusV ⟨1, i, []⟩ ⟨1, j, []⟩ = plus1 i j := by unfold plusV plus1; rw [alike1]; simp; rfl
theorem minus1_eq (i j : Int) : minusV ⟨1, i, []⟩ ⟨1, j, []⟩ = minus1 i j := by unfold minusV minus1; rw [alike1]; simp; rfl

def inI (i : Int) : Prop := -9223372036854775808 ≤ i ∧ i ≤ 9223372036854775807
theorem plusI_any (i j : Int) (w : World) (hi : inI i) (hj : inI j) :
    Calls Tryd.prog 22 #[.agg #[.int .i64 1, .int .i64 i, .string ⟨#[]⟩], .agg #[.int .i64 1, .int .i64 j, .string ⟨#[]⟩]] w (Ret (.agg #[.int .i64 (plus1 i j).k, .int .i64 (plus1 i j).i, .string ⟨(plus1 i j).s.toArray⟩]) w) := by
  rw [← plus1_eq]; exact plus_any 1 i [] 1 j [] w hi hj
theorem minusI_any (i j : Int) (w : World) (hi : inI i) (hj : inI j) :
    Calls Tryd.prog 23 #[.agg #[.int .i64 1, .int .i64 i, .string ⟨#[]⟩], .agg #[.int .i64 1, .int .i64 j, .string ⟨#[]⟩]] w (Ret (.agg #[.int .i64 (minus1 i j).k, .int .i64 (minus1 i j).i, .string ⟨(minus1 i j).s.toArray⟩]) w) := by
  rw [← minus1_eq]; exact minus_any 1 i [] 1 j [] w hi hj
theorem plus1_comm (i j : Int) : plus1 i j = plus1 j i := by unfold plus1; rw [Int.add_comm]
theorem fits_iff (n : Int) : fits n = true ↔ inI n := by simp [fits, inI]
theorem plus1_fits {i j : Int} (h : fits (i + j) = true) : plus1 i j = ⟨1, i + j, []⟩ := by simp [plus1, h]
theorem minus1_fits {i j : Int} (h : fits (i - j) = true) : minus1 i j = ⟨1, i - j, []⟩ := by simp [minus1, h]
theorem plus1_not {i j : Int} (h : fits (i + j) = false) : plus1 i j = ⟨0, 0, []⟩ := by simp [plus1, h]
theorem minus1_not {i j : Int} (h : fits (i - j) = false) : minus1 i j = ⟨0, 0, []⟩ := by simp [minus1, h]


def V.few (v : V) : V := ⟨v.k, v.i, v.s.take 60⟩

end Go.Proofs.YtdoonajhplcmlaaDoor
