/- The document's Order of two values. Condition: a text is no longer than memory reaches. -/
import Derived.Test.YtdhjogmkhbpcgaaGreatValM
namespace Go.Proofs.YtdhjogmkhbpcgaaGreat
open Go.RowKit

attribute [local go_sem] ByteArray.extract_mk ba_get
attribute [local go_sem ↓] Go.wp_at_zero Go.wp_at_succ

set_option maxHeartbeats 1000000 in
theorem rorder_any (k i : Int) (s : List UInt8) (k' i' : Int) (s' : List UInt8) (w : World) (hs : s.length ≤ 140737488351232) (hs' : s'.length ≤ 140737488351232) :
    Calls Tryz.prog 19 #[.agg #[.int .i64 k, .int .i64 i, .string ⟨s.toArray⟩], .agg #[.int .i64 k', .int .i64 i', .string ⟨s'.toArray⟩]] w fun e w' => e = .returned (.int .i64 (vord (goodV k i s) (goodV k' i' s'))) ∧ Below w.heap.size w w' := by
  have l0 : w.heap.size < w.heap.size + 1 + 1 := by omega
  go_enter Tryz.func19, Tryz.ntmps19
  go_upto_region 1 with fail
  go_cut [] (fun wx => Two w.heap.size (goodV k i s) (goodV k' i' s') wx ∧ Below w.heap.size w wx)
  case first =>
    go_region_with (go_at_call 44; refine (good_any _ _ _ _ (by assumption)).mono ?_; rintro e w1 ⟨rfl, hb⟩; obtain ⟨hc, hf⟩ := bcell hb; have hz := hb.size; (try simp at hz hc hf); have l1 : w.heap.size < w1.heap.size := (by omega); have l2 : w.heap.size + 1 < w1.heap.size := (by omega))
    all_goals (go_wp2_with fail; go_meet)
    all_goals refine ⟨two_set w1 _ _ _ (.int .i64 k) (.int .i64 i) (.string ⟨s.toArray⟩) (.int .i64 k') (.int .i64 i') (.string ⟨s'.toArray⟩) ?_ ?_ ?_ ?_ ?_ ?_, ?_⟩
    all_goals first | (simp [*, go_sem]; done) | exact bl
  case rest =>
    obtain ⟨hcu, hbw⟩ := hcut
    obtain ⟨a, ha⟩ : ∃ a, goodV k i s = a := ⟨_, rfl⟩
    obtain ⟨b, hb⟩ : ∃ b, goodV k' i' s' = b := ⟨_, rfl⟩
    rw [ha, hb] at hcu
    have HA := Lib.hid ha
    have HB := Lib.hid hb
    clear ha hb
    obtain ⟨⟨a0, a1, a2⟩, b0, b1, b2⟩ := hcu
    go_wp2
    all_goals go_ret
    all_goals refine ⟨?_, hbw⟩
    all_goals rw [HA.out, HB.out]
    all_goals go_light
    all_goals clear a0 a1 a2 b0 b1 b2 HA HB hbw
    all_goals simp_all [vord, veq, vlt]
    all_goals omega

end Go.Proofs.YtdhjogmkhbpcgaaGreat
