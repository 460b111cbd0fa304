/- caddislaw02.awake answers true. Condition: none. -/
import Derived.Test.YtkeeekifejholaaFirstAny
import Derived.Test.YtkeeekifejholaaCodeRow
namespace Go.Proofs.Ytkeeekifejholaa
open Go.RowKit

attribute [local go_sem] ByteArray.extract_mk ba_get ba_append

set_option maxHeartbeats 400000 in
theorem awake2_any (w : World) : Calls Try.prog 13 #[] w (Ret (.bool true) w) := by
  go_enter Try.func13, Try.ntmps13
  go_wp2_with fail
  refine (first_any [1] _ (by simp)).mono ?_
  rw [show firstF [1] = (⟨0, 0, []⟩, 0, 17) from rfl]
  rintro e w1 ⟨rfl, hb1⟩
  have hz1 := hb1.size
  dsimp only
  go_wp2_with fail
  refine (cvalue_any 1 5 [] _ (by omega) (by omega)).mono ?_
  rw [show codeV 1 5 [] = [1, 128, 0, 0, 0, 0, 0, 0, 5] by decide +kernel]
  rintro e w2 ⟨rfl, hb2⟩
  have hz2 := hb2.size
  simp at hz2
  go_wp2_with fail
  refine (cvalue_any 2 0 [97] _ (by omega) (by omega)).mono ?_
  rw [show codeV 2 0 [97] = [2, 97, 0] by decide +kernel]
  rintro e w3 ⟨rfl, hb3⟩
  have hz3 := hb3.size
  try simp at hz3
  go_wp2
  go_ret
  exact ⟨rfl, by ((repeat' (first | with_reducible exact Below.refl _ _ | with_reducible assumption | with_reducible refine Below.drew ?_ | with_reducible refine below_drewN ?_ _ | with_reducible refine Below.setCell ?_ ?_ _ | with_reducible refine Below.alloc ?_ ?_ _ | with_reducible refine Below.trans ?_ (Below.mono (by assumption) ?_))) <;> (first | (simp; done) | (simp; omega) | omega))⟩

end Go.Proofs.Ytkeeekifejholaa
