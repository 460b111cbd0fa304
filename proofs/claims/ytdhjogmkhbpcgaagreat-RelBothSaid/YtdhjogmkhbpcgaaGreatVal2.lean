/- value.Order, And, Or, Not, Equal, Less, Plus, Minus, IsNull as plain functions. Condition: none. -/
import Derived.Test.YtdhjogmkhbpcgaaGreatKnown
import Derived.Test.YtdhjogmkhbpcgaaGreatCmp
namespace Go.Proofs.YtdhjogmkhbpcgaaGreat
open Go.RowKit

attribute [local go_sem] ByteArray.extract_mk ba_get
attribute [local go_sem ↓] Go.wp_at_zero Go.wp_at_succ

/-- which of two values is first, as value.Order reckons it. -/
def cord (a b : V) : Int := or3 (cmpI a.k b.k) (cmpI a.i b.i) (cmpS a.s b.s)

set_option maxHeartbeats 1000000 in
theorem vorder_any (k i : Int) (s : List UInt8) (k' i' : Int) (s' : List UInt8) (w : World) :
    Calls Tryz.prog 59 #[.agg #[.int .i64 k, .int .i64 i, .string ⟨s.toArray⟩], .agg #[.int .i64 k', .int .i64 i', .string ⟨s'.toArray⟩]] w (Ret (.int .i64 (cord (goodV k i s) (goodV k' i' s'))) w) := by
  have l0 : w.heap.size < w.heap.size + 1 + 1 := by omega
  go_enter Tryz.func59, Tryz.ntmps59
  go_upto_region 1 with fail
  go_cut [] (fun wx => Two w.heap.size (goodV k i s) (goodV k' i' s') wx ∧ Below w.heap.size w wx)
  case first =>
    go_region_with (go_at_call 98; refine (known_any _ _ _ _).mono ?_; rintro e w1 ⟨rfl, hb⟩; obtain ⟨hc, hf⟩ := bcell hb; have hz := hb.size; (try simp at hz hc hf); have l1 : w.heap.size < w1.heap.size := (by omega); have l2 : w.heap.size + 1 < w1.heap.size := (by omega))
    all_goals (go_wp2_with fail; go_meet)
    all_goals refine ⟨two_set w1 _ _ _ (.int .i64 k) (.int .i64 i) (.string ⟨s.toArray⟩) (.int .i64 k') (.int .i64 i') (.string ⟨s'.toArray⟩) ?_ ?_ ?_ ?_ ?_ ?_, ?_⟩
    all_goals first | (simp [*, go_sem]; done) | ((with_reducible repeat' (first | exact Below.refl _ _ | assumption | refine Below.drew ?_ | refine below_drewN ?_ _ | refine Below.setCell ?_ ?_ _ | refine Below.alloc ?_ ?_ _ | refine Below.trans ?_ (Below.mono (by assumption) ?_))) <;> first | (simp; done) | (simp; omega) | omega)
  case rest =>
    obtain ⟨hcu, hbw⟩ := hcut
    obtain ⟨a, ha⟩ : ∃ a, goodV k i s = a := ⟨_, rfl⟩
    obtain ⟨b, hb⟩ : ∃ b, goodV k' i' s' = b := ⟨_, rfl⟩
    rw [ha, hb] at hcu
    have HA := Lib.hid ha
    have HB := Lib.hid hb
    clear ha hb
    obtain ⟨⟨a0, a1, a2⟩, b0, b1, b2⟩ := hcu
    have lw := hbw.size
    have l1 : w.heap.size < wc.heap.size := (Blk_lt_of_cell a0)
    have l2 : w.heap.size + 1 < wc.heap.size := (Blk_lt_of_cell b0)
    have HSH : Hid (∀ w' : World, Below wc.heap.size wc w' → (w'.cell? ⟨w.heap.size, 0, none⟩ = some (.int .i64 a.k) ∧ w'.cell? ⟨w.heap.size, 1, none⟩ = some (.int .i64 a.i) ∧ w'.cell? ⟨w.heap.size, 2, none⟩ = some (.string ⟨a.s.toArray⟩) ∧ w'.cell? ⟨w.heap.size + 1, 0, none⟩ = some (.int .i64 b.k) ∧ w'.cell? ⟨w.heap.size + 1, 1, none⟩ = some (.int .i64 b.i) ∧ w'.cell? ⟨w.heap.size + 1, 2, none⟩ = some (.string ⟨b.s.toArray⟩))) :=
      fun w' h => ⟨(h.cell l1).trans a0, (h.cell l1).trans a1, (h.cell l1).trans a2, (h.cell l2).trans b0, (h.cell l2).trans b1, (h.cell l2).trans b2⟩
    clear a0 a1 a2 b0 b1 b2
    go_wp2_with fail
    go_region_held3 (fun w' => w'.cell? ⟨w.heap.size, 0, none⟩ = some (.int .i64 a.k) ∧ w'.cell? ⟨w.heap.size, 1, none⟩ = some (.int .i64 a.i) ∧ w'.cell? ⟨w.heap.size, 2, none⟩ = some (.string ⟨a.s.toArray⟩) ∧ w'.cell? ⟨w.heap.size + 1, 0, none⟩ = some (.int .i64 b.k) ∧ w'.cell? ⟨w.heap.size + 1, 1, none⟩ = some (.int .i64 b.i) ∧ w'.cell? ⟨w.heap.size + 1, 2, none⟩ = some (.string ⟨b.s.toArray⟩))
      (exact HSH.out _ (by ((with_reducible repeat' (first | exact Below.refl _ _ | assumption | refine Below.drew ?_ | refine below_drewN ?_ _ | refine Below.setCell ?_ ?_ _ | refine Below.alloc ?_ ?_ _ | refine Below.trans ?_ (Below.mono (by assumption) ?_))) <;> first | (simp; done) | (simp; omega) | omega)))
      (first | (go_at_call 100; refine (cmpI_any _ _ _).mono ?_; rintro e w1 ⟨rfl, rfl⟩) | (go_at_call 101; refine (cmpI64_any _ _ _).mono ?_; rintro e w1 ⟨rfl, rfl⟩) | (go_at_call 102; refine (cmpS_any _ _ _).mono ?_; rintro e w1 ⟨rfl, rfl⟩) | (go_at_call 99; refine (cmpOr_any _ (cmpI a.k b.k) (cmpI a.i b.i) (cmpS a.s b.s) _ ?_ ?_ ?_).mono ?_; (simp [go_sem]); (simp [go_sem]); (simp [go_sem]); rintro e w1 ⟨rfl, rfl⟩))
    all_goals go_wp2
    all_goals go_ret
    all_goals refine ⟨by rw [HA.out, HB.out]; rfl, ?_⟩
    all_goals ((with_reducible repeat' (first | exact Below.refl _ _ | assumption | refine Below.drew ?_ | refine below_drewN ?_ _ | refine Below.setCell ?_ ?_ _ | refine Below.alloc ?_ ?_ _ | refine Below.trans ?_ (Below.mono (by assumption) ?_))) <;> first | (simp; done) | (simp; omega) | omega)

end Go.Proofs.YtdhjogmkhbpcgaaGreat
