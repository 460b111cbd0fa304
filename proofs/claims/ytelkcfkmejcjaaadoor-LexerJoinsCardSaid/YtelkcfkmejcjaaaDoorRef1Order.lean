/- The document's Order of two values. Condition: a text is no longer than memory reaches. -/
import Derived.Test.YtelkcfkmejcjaaaDoorRef1
import Derived.Deep.DeepCutAuto
namespace Go.Proofs.YtelkcfkmejcjaaaDoor
open Go.RowKit

attribute [local go_sem] ByteArray.extract_mk ba_get
attribute [local go_sem ↓] Go.wp_at_zero Go.wp_at_succ

/-- Two values' cells lie in two new blocks. -/
def Two (n : Nat) (a b : V) (w : World) : Prop :=
  (w.cell? ⟨n, 0, none⟩ = some (.int .i64 a.k) ∧ w.cell? ⟨n, 1, none⟩ = some (.int .i64 a.i) ∧ w.cell? ⟨n, 2, none⟩ = some (.string ⟨a.s.toArray⟩)) ∧
  (w.cell? ⟨n + 1, 0, none⟩ = some (.int .i64 b.k) ∧ w.cell? ⟨n + 1, 1, none⟩ = some (.int .i64 b.i) ∧ w.cell? ⟨n + 1, 2, none⟩ = some (.string ⟨b.s.toArray⟩))

theorem two_set (w : World) (n : Nat) (a b : V) (x0 x1 x2 y0 y1 y2 : Value) (hx0 : w.cell? ⟨n, 0, none⟩ = some x0) (hx1 : w.cell? ⟨n, 1, none⟩ = some x1) (hx2 : w.cell? ⟨n, 2, none⟩ = some x2)
    (hy0 : w.cell? ⟨n + 1, 0, none⟩ = some y0) (hy1 : w.cell? ⟨n + 1, 1, none⟩ = some y1) (hy2 : w.cell? ⟨n + 1, 2, none⟩ = some y2) :
    Two n a b ((((((w.setCell ⟨n, 0, none⟩ (.int .i64 a.k)).setCell ⟨n, 1, none⟩ (.int .i64 a.i)).setCell ⟨n, 2, none⟩ (.string ⟨a.s.toArray⟩)).setCell ⟨n + 1, 0, none⟩ (.int .i64 b.k)).setCell ⟨n + 1, 1, none⟩ (.int .i64 b.i)).setCell ⟨n + 1, 2, none⟩ (.string ⟨b.s.toArray⟩)) := by
  unfold Two
  simp [go_sem, hx0, hx1, hx2, hy0, hy1, hy2]

def vlt (a b : V) : Bool := decide (a.k < b.k) || (decide (a.k = b.k) && (decide (a.i < b.i) || (decide (a.i = b.i) && Op.bytesLess a.s b.s)))
def veq (a b : V) : Bool := decide (a.k = b.k) && (decide (a.i = b.i) && a.s == b.s)
theorem run_eql_V (k i : Int) (s : List UInt8) (k' i' : Int) (s' : List UInt8) (w : World) :
    (binOp .eql 23 (.agg #[.int .i64 k, .int .i64 i, .string ⟨s.toArray⟩]) (.agg #[.int .i64 k', .int .i64 i', .string ⟨s'.toArray⟩])).run Tryd.prog w = .ok (.bool (veq ⟨k, i, s⟩ ⟨k', i', s'⟩)) w := by
  by_cases h1 : k = k' <;> by_cases h2 : i = i' <;> by_cases h3 : s = s' <;> simp [go_sem, veq, h1, h2, h3, Tryd.underlying23, Tryd.underlying3, Tryd.underlying2, Tryd.underlying9]
theorem run_neq_V (k i : Int) (s : List UInt8) (k' i' : Int) (s' : List UInt8) (w : World) :
    (binOp .neq 23 (.agg #[.int .i64 k, .int .i64 i, .string ⟨s.toArray⟩]) (.agg #[.int .i64 k', .int .i64 i', .string ⟨s'.toArray⟩])).run Tryd.prog w = .ok (.bool (!veq ⟨k, i, s⟩ ⟨k', i', s'⟩)) w := by
  by_cases h1 : k = k' <;> by_cases h2 : i = i' <;> by_cases h3 : s = s' <;> simp [go_sem, veq, h1, h2, h3, Tryd.underlying23, Tryd.underlying3, Tryd.underlying2, Tryd.underlying9]
def vord (a b : V) : Int := if veq a b then 0 else if vlt a b then -1 else 1

set_option maxHeartbeats 1000000 in
theorem rorder_any (k i : Int) (s : List UInt8) (k' i' : Int) (s' : List UInt8) (w : World) (hs : s.length ≤ 140737488351232) (hs' : s'.length ≤ 140737488351232) :
    Calls Tryd.prog 34 #[.agg #[.int .i64 k, .int .i64 i, .string ⟨s.toArray⟩], .agg #[.int .i64 k', .int .i64 i', .string ⟨s'.toArray⟩]] w fun e w' => e = .returned (.int .i64 (vord (goodV k i s) (goodV k' i' s'))) ∧ Below w.heap.size w w' := by
  have l0 : w.heap.size < w.heap.size + 1 + 1 := by omega
  go_enter Tryd.func34, Tryd.ntmps34
  go_upto_region 1 with fail
  go_cut [] (fun wx => Two w.heap.size (goodV k i s) (goodV k' i' s') wx ∧ Below w.heap.size w wx)
  case first =>
    go_region_with (go_at_call 64; refine (good_any _ _ _ _ (by assumption)).mono ?_; rintro e w1 ⟨rfl, hb⟩; obtain ⟨hc, hf⟩ := bcell hb; have hz := hb.size; (try simp at hz hc hf); have l1 : w.heap.size < w1.heap.size := (by omega); have l2 : w.heap.size + 1 < w1.heap.size := (by omega))
    all_goals (go_wp2_with fail; go_meet)
    all_goals refine ⟨two_set w1 _ _ _ (.int .i64 k) (.int .i64 i) (.string ⟨s.toArray⟩) (.int .i64 k') (.int .i64 i') (.string ⟨s'.toArray⟩) ?_ ?_ ?_ ?_ ?_ ?_, ?_⟩
    all_goals first | (simp [*, go_sem]; done) | ((repeat' (first | with_reducible exact Below.refl _ _ | with_reducible assumption | with_reducible refine Below.drew ?_ | with_reducible refine below_drewN ?_ _ | with_reducible refine Below.setCell ?_ ?_ _ | with_reducible refine Below.alloc ?_ ?_ _ | with_reducible refine Below.trans ?_ (Below.mono (by assumption) ?_))) <;> (first | (simp; done) | (simp; omega) | omega))
  case rest =>
    obtain ⟨hcu, hbw⟩ := hcut
    obtain ⟨a, ha⟩ : ∃ a, goodV k i s = a := ⟨_, rfl⟩
    obtain ⟨b, hb⟩ : ∃ b, goodV k' i' s' = b := ⟨_, rfl⟩
    rw [ha, hb] at hcu
    have HA := Lib.hid ha
    have HB := Lib.hid hb
    clear ha hb
    obtain ⟨⟨a0, a1, a2⟩, b0, b1, b2⟩ := hcu
    go_wp2
    all_goals go_ret
    all_goals refine ⟨?_, hbw⟩
    all_goals rw [HA.out, HB.out]
    all_goals go_light
    all_goals clear a0 a1 a2 b0 b1 b2 HA HB hbw
    all_goals simp_all [vord, veq, vlt]
    all_goals omega

end Go.Proofs.YtelkcfkmejcjaaaDoor
