/- caddislaw09.GrantDoes answers true: which role may do any statement by any grants, and the grants behind it, are as the document says, or it is refused with its error. No condition beyond the row's own. -/
import Derived.Test.YtchilcchogcibaaGreatDoorDGrantDoesL
import Derived.Test.YtchilcchogcibaaGreatDoorGrantDoesK
namespace Go.Proofs.YtchilcchogcibaaGreatDoor
open Go.RowKit
open Go.ChangeShapes Go.WideShapes Go.ChangeAt
theorem grantDoes_said : Rows.GrantDoesSaid :=
  OpenClaim.holds_of_wide 3 Tryz.f3 rfl rfl rfl rfl rfl rfl rfl ⟨rfl, rfl, rfl, rfl, rfl⟩ rfl rfl rfl rfl rfl (by kernel_rfl) Tryz.func3 grantDoes_closed
    (of_decide_eq_true (by kernel_rfl)) (by unfold Func.isWrapper; first | (rw [if_pos (by decide +kernel)]; kernel_rfl) | (rw [if_neg (by decide +kernel)]; exact ⟨rfl, rfl⟩))
    (fun os started H enc _ => grantDoes_lifted os started H enc)
theorem grantDoes_holds : Rows.GrantDoesCardSaid :=
  Claim7.holds_tied_plain_at .later [] _ _ _ _ grantDoes_said (fun _ h => by cases h) (by kernel_rfl) (fun _ h => by cases h) grantDoes_row_tie rfl ⟨rfl, rfl⟩ (by kernel_rfl) rfl
    (fun f fn hf hfn => by
      obtain rfl : f = 3 := Option.some.inj ((show Tryz.prog.funcNamed "caddis/caddislaw09.GrantDoes" = some 3 by kernel_rfl).symm.trans hf) |>.symm
      obtain rfl : fn = Tryz.f3 := (Option.some.inj (Tryz.func3.symm.trans hfn)).symm
      exact ⟨by kernel_rfl, fun j t ht => by
        have hall : (Tryz.f3.params.toList.all fun u => !Tryz.prog.wantsStandIn u) = true := by kernel_rfl
        have hm : t ∈ Tryz.f3.params.toList := by simpa using Array.mem_of_getElem? ht
        exact (show Tryz.prog.wantsStandIn t = false by simpa using List.all_eq_true.1 hall t hm)⟩)
    (by kernel_rfl)
#print axioms grantDoes_holds

end Go.Proofs.YtchilcchogcibaaGreatDoor
