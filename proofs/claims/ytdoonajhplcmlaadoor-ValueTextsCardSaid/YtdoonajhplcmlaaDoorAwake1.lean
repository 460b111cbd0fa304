/- caddislaw01.awake answers true. Condition: the library's variable MaxLen holds some number. -/
import Derived.Test.YtdoonajhplcmlaaDoorText
import Derived.Test.YtdoonajhplcmlaaDoorVal4
namespace Go.Proofs.YtdoonajhplcmlaaDoor
open Go.RowKit

attribute [local go_sem] ByteArray.extract_mk ba_get ba_append
attribute [local go_sem ↓] Go.wp_at_zero Go.wp_at_succ run_eql_V run_neq_V run_field0 run_field1 run_field2

theorem aw1 : truthV (andN (saysF 0 0 []) (saysF 3 0 [])) = ⟨3, 0, []⟩ := rfl
theorem aw2 : lessV ⟨1, 1, []⟩ ⟨2, 0, [97]⟩ = ⟨0, 0, []⟩ := rfl
theorem aw3 : plusV ⟨1, 9223372036854775807, []⟩ ⟨1, 1, []⟩ = ⟨0, 0, []⟩ := rfl
theorem aw4 : plusV ⟨1, 1, []⟩ ⟨1, 1, []⟩ = ⟨1, 2, []⟩ := rfl
theorem aw5 : textF 2 0 [105, 116, 39, 115] = [39, 105, 116, 39, 39, 115, 39] := by decide +kernel
theorem vz : veq ⟨0, 0, []⟩ ⟨0, 0, []⟩ = true := by decide
theorem v3 : veq ⟨3, 0, []⟩ ⟨3, 0, []⟩ = true := by decide

set_option maxHeartbeats 1000000 in
theorem awake1_any (w : World) (hM : MaxL w) : Calls Tryd.prog 18 #[] w (Ret (.bool true) w) := by
  have M0 : MaxL (w.alloc (.cells #[.int .i64 1, .int .i64 1, .string ⟨#[]⟩] 23)) := hM.below ((Below.refl _ _).alloc (Nat.le_refl _) _) rfl
  have vz' := vz
  have v3' := v3
  go_enter Tryd.func18, Tryd.ntmps18
  go_wp2_with fail
  refine (and_any 0 0 [] 3 0 [] _).mono ?_
  rw [aw1]
  rintro e w1 ⟨rfl, hb1⟩
  have M1 := M0.below hb1 rfl
  have hz1 := hb1.size
  obtain ⟨hc1, hf1⟩ := bcell hb1
  simp at hz1 hc1 hf1
  clear M0
  go_wp2_with fail
  refine (less_any 1 1 [] 2 0 [97] _).mono ?_
  rw [aw2]
  rintro e w2 ⟨rfl, hb2⟩
  have M2 := M1.below hb2 rfl
  have hz2 := hb2.size
  obtain ⟨hc2, hf2⟩ := bcell hb2
  have l2 : w.heap.size < w2.heap.size := by omega
  have l1 : w.heap.size < w1.heap.size := by omega
  clear M1
  go_wp2_with fail
  refine (plus_any 1 9223372036854775807 [] 1 1 [] _ (by omega) (by omega)).mono ?_
  rw [aw3]
  rintro e w3 ⟨rfl, hb3⟩
  have M3 := M2.below hb3 rfl
  have hz3 := hb3.size
  obtain ⟨hc3, hf3⟩ := bcell hb3
  have l3 : w.heap.size < w3.heap.size := by omega
  clear M2
  go_wp2_with fail
  refine (plus_any 1 1 [] 1 1 [] _ (by omega) (by omega)).mono ?_
  rw [aw4]
  rintro e w4 ⟨rfl, hb4⟩
  have M4 := M3.below hb4 rfl
  clear M3
  have hz4 := hb4.size
  go_wp2_with fail
  refine (text2_any 0 [105, 116, 39, 115] _ M4).mono ?_
  rw [aw5]
  rintro e w5 ⟨rfl, hb5⟩
  go_wp2
  go_ret
  exact ⟨rfl, by ((repeat' (first | with_reducible exact Below.refl _ _ | with_reducible assumption | with_reducible refine Below.drew ?_ | with_reducible refine below_drewN ?_ _ | with_reducible refine Below.setCell ?_ ?_ _ | with_reducible refine Below.alloc ?_ ?_ _ | with_reducible refine Below.trans ?_ (Below.mono (by assumption) ?_))) <;> (first | (simp; done) | (simp; omega) | omega))⟩

end Go.Proofs.YtdoonajhplcmlaaDoor
