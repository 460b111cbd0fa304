/- Words that the laws of layer 1 share. -/
import Derived.Test.YtdoonajhplcmlaaDoorAwake1
namespace Go.Proofs.YtdoonajhplcmlaaDoor
open Go.RowKit

theorem veq_self (v : V) : veq v v = true := by simp [veq]

theorem alike1 (i j : Int) : alikeB ⟨1, i, []⟩ ⟨1, j, []⟩ = true := by simp [alikeB, goodV, mayB]
def plus1 (i j : Int) : V := if fits (i + j) then ⟨1, i + j, []⟩ else ⟨0, 0, []⟩
def minus1 (i j : Int) : V := if fits (i - j) then ⟨1, i - j, []⟩ else ⟨0, 0, []⟩
theorem plus1_eq (i j : Int) : plusV ⟨1, i, []⟩ ⟨1, j, []⟩ = plus1 i j := by unfold plusV plus1; rw [alike1]; simp; rfl
theorem minus1_eq (i j : Int) : minusV ⟨1, i, []⟩ ⟨1, j, []⟩ = minus1 i j := by unfold minusV minus1; rw [alike1]; simp; rfl

def inI (i : Int) : Prop := -9223372036854775808 ≤ i ∧ i ≤ 9223372036854775807
theorem plusI_any (i j : Int) (w : World) (hi : inI i) (hj : inI j) :
    Calls Tryd.prog 22 #[.agg #[.int .i64 1, .int .i64 i, .string ⟨#[]⟩], .agg #[.int .i64 1, .int .i64 j, .string ⟨#[]⟩]] w (Ret (.agg #[.int .i64 (plus1 i j).k, .int .i64 (plus1 i j).i, .string ⟨(plus1 i j).s.toArray⟩]) w) := by
  rw [← plus1_eq]; exact plus_any 1 i [] 1 j [] w hi hj
theorem minusI_any (i j : Int) (w : World) (hi : inI i) (hj : inI j) :
    Calls Tryd.prog 23 #[.agg #[.int .i64 1, .int .i64 i, .string ⟨#[]⟩], .agg #[.int .i64 1, .int .i64 j, .string ⟨#[]⟩]] w (Ret (.agg #[.int .i64 (minus1 i j).k, .int .i64 (minus1 i j).i, .string ⟨(minus1 i j).s.toArray⟩]) w) := by
  rw [← minus1_eq]; exact minus_any 1 i [] 1 j [] w hi hj
theorem plus1_comm (i j : Int) : plus1 i j = plus1 j i := by unfold plus1; rw [Int.add_comm]
theorem fits_iff (n : Int) : fits n = true ↔ inI n := by simp [fits, inI]
theorem plus1_fits {i j : Int} (h : fits (i + j) = true) : plus1 i j = ⟨1, i + j, []⟩ := by simp [plus1, h]
theorem minus1_fits {i j : Int} (h : fits (i - j) = true) : minus1 i j = ⟨1, i - j, []⟩ := by simp [minus1, h]
theorem plus1_not {i j : Int} (h : fits (i + j) = false) : plus1 i j = ⟨0, 0, []⟩ := by simp [plus1, h]
theorem minus1_not {i j : Int} (h : fits (i - j) = false) : minus1 i j = ⟨0, 0, []⟩ := by simp [minus1, h]


def V.few (v : V) : V := ⟨v.k, v.i, v.s.take 60⟩
theorem few_le (v : V) : v.few.s.length ≤ 60 := by show (v.s.take 60).length ≤ 60; rw [List.length_take]; omega

/-- Three values' cells lie in three new blocks. -/
def Three (n : Nat) (a b c : V) (w : World) : Prop := (w.cell? ⟨n, 0, none⟩ = some (.int .i64 (a).k) ∧ w.cell? ⟨n, 1, none⟩ = some (.int .i64 (a).i) ∧ w.cell? ⟨n, 2, none⟩ = some (.string ⟨(a).s.toArray⟩)) ∧ (w.cell? ⟨n + 1, 0, none⟩ = some (.int .i64 (b).k) ∧ w.cell? ⟨n + 1, 1, none⟩ = some (.int .i64 (b).i) ∧ w.cell? ⟨n + 1, 2, none⟩ = some (.string ⟨(b).s.toArray⟩)) ∧ (w.cell? ⟨n + 1 + 1, 0, none⟩ = some (.int .i64 (c).k) ∧ w.cell? ⟨n + 1 + 1, 1, none⟩ = some (.int .i64 (c).i) ∧ w.cell? ⟨n + 1 + 1, 2, none⟩ = some (.string ⟨(c).s.toArray⟩))
theorem three_set (w : World) (n : Nat) (a b c : V) (x0 x1 x2 y0 y1 y2 z0 z1 z2 : Value) (hx0 : w.cell? ⟨n, 0, none⟩ = some x0) (hx1 : w.cell? ⟨n, 1, none⟩ = some x1) (hx2 : w.cell? ⟨n, 2, none⟩ = some x2)
    (hy0 : w.cell? ⟨n + 1, 0, none⟩ = some y0) (hy1 : w.cell? ⟨n + 1, 1, none⟩ = some y1) (hy2 : w.cell? ⟨n + 1, 2, none⟩ = some y2)
    (hz0 : w.cell? ⟨n + 1 + 1, 0, none⟩ = some z0) (hz1 : w.cell? ⟨n + 1 + 1, 1, none⟩ = some z1) (hz2 : w.cell? ⟨n + 1 + 1, 2, none⟩ = some z2) :
    Three n a b c (((((((((w.setCell ⟨n, 0, none⟩ (.int .i64 a.k)).setCell ⟨n, 1, none⟩ (.int .i64 a.i)).setCell ⟨n, 2, none⟩ (.string ⟨a.s.toArray⟩)).setCell ⟨n + 1, 0, none⟩ (.int .i64 b.k)).setCell ⟨n + 1, 1, none⟩ (.int .i64 b.i)).setCell ⟨n + 1, 2, none⟩ (.string ⟨b.s.toArray⟩)).setCell ⟨n + 1 + 1, 0, none⟩ (.int .i64 c.k)).setCell ⟨n + 1 + 1, 1, none⟩ (.int .i64 c.i)).setCell ⟨n + 1 + 1, 2, none⟩ (.string ⟨c.s.toArray⟩)) := by
  unfold Three
  simp [go_sem, hx0, hx1, hx2, hy0, hy1, hy2, hz0, hz1, hz2]

end Go.Proofs.YtdoonajhplcmlaaDoor
