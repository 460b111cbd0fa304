/- Values held against each other: plain words, and the operator of the language. Nothing of the program stands here. -/
import Derived.Test.YtdhjogmkhbpcgaaGreatRef1
import Derived.Deep.DeepCutAuto
namespace Go.Proofs.YtdhjogmkhbpcgaaGreat
open Go.RowKit

attribute [local go_sem] ByteArray.extract_mk ba_get
attribute [local go_sem ↓] Go.wp_at_zero Go.wp_at_succ

/-- Two values' cells lie in two new blocks. -/
def Two (n : Nat) (a b : V) (w : World) : Prop :=
  (w.cell? ⟨n, 0, none⟩ = some (.int .i64 a.k) ∧ w.cell? ⟨n, 1, none⟩ = some (.int .i64 a.i) ∧ w.cell? ⟨n, 2, none⟩ = some (.string ⟨a.s.toArray⟩)) ∧
  (w.cell? ⟨n + 1, 0, none⟩ = some (.int .i64 b.k) ∧ w.cell? ⟨n + 1, 1, none⟩ = some (.int .i64 b.i) ∧ w.cell? ⟨n + 1, 2, none⟩ = some (.string ⟨b.s.toArray⟩))

theorem two_set (w : World) (n : Nat) (a b : V) (x0 x1 x2 y0 y1 y2 : Value) (hx0 : w.cell? ⟨n, 0, none⟩ = some x0) (hx1 : w.cell? ⟨n, 1, none⟩ = some x1) (hx2 : w.cell? ⟨n, 2, none⟩ = some x2)
    (hy0 : w.cell? ⟨n + 1, 0, none⟩ = some y0) (hy1 : w.cell? ⟨n + 1, 1, none⟩ = some y1) (hy2 : w.cell? ⟨n + 1, 2, none⟩ = some y2) :
    Two n a b ((((((w.setCell ⟨n, 0, none⟩ (.int .i64 a.k)).setCell ⟨n, 1, none⟩ (.int .i64 a.i)).setCell ⟨n, 2, none⟩ (.string ⟨a.s.toArray⟩)).setCell ⟨n + 1, 0, none⟩ (.int .i64 b.k)).setCell ⟨n + 1, 1, none⟩ (.int .i64 b.i)).setCell ⟨n + 1, 2, none⟩ (.string ⟨b.s.toArray⟩)) := by
  unfold Two
  simp [go_sem, hx0, hx1, hx2, hy0, hy1, hy2]

def vlt (a b : V) : Bool := decide (a.k < b.k) || (decide (a.k = b.k) && (decide (a.i < b.i) || (decide (a.i = b.i) && Op.bytesLess a.s b.s)))
def veq (a b : V) : Bool := decide (a.k = b.k) && (decide (a.i = b.i) && a.s == b.s)
theorem run_eql_V (k i : Int) (s : List UInt8) (k' i' : Int) (s' : List UInt8) (w : World) :
    (binOp .eql 26 (.agg #[.int .i64 k, .int .i64 i, .string ⟨s.toArray⟩]) (.agg #[.int .i64 k', .int .i64 i', .string ⟨s'.toArray⟩])).run Tryz.prog w = .ok (.bool (veq ⟨k, i, s⟩ ⟨k', i', s'⟩)) w := by
  by_cases h1 : k = k' <;> by_cases h2 : i = i' <;> by_cases h3 : s = s' <;> simp [go_sem, veq, h1, h2, h3, Tryz.underlying26, Tryz.underlying3, Tryz.underlying2, Tryz.underlying9]
theorem run_neq_V (k i : Int) (s : List UInt8) (k' i' : Int) (s' : List UInt8) (w : World) :
    (binOp .neq 26 (.agg #[.int .i64 k, .int .i64 i, .string ⟨s.toArray⟩]) (.agg #[.int .i64 k', .int .i64 i', .string ⟨s'.toArray⟩])).run Tryz.prog w = .ok (.bool (!veq ⟨k, i, s⟩ ⟨k', i', s'⟩)) w := by
  by_cases h1 : k = k' <;> by_cases h2 : i = i' <;> by_cases h3 : s = s' <;> simp [go_sem, veq, h1, h2, h3, Tryz.underlying26, Tryz.underlying3, Tryz.underlying2, Tryz.underlying9]
def vord (a b : V) : Int := if veq a b then 0 else if vlt a b then -1 else 1

end Go.Proofs.YtdhjogmkhbpcgaaGreat
