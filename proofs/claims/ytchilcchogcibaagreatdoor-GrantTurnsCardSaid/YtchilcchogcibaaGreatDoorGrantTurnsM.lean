/- caddislaw09.GrantTurns answers true: what is granted, or revoked, of two different roles, tables, or rights, is the same either way round. No condition beyond the row's own. -/
import Derived.Test.YtchilcchogcibaaGreatDoorGrantTurnsL
import Derived.Test.YtchilcchogcibaaGreatDoorGrantTurnsK
namespace Go.Proofs.YtchilcchogcibaaGreatDoor
open Go.RowKit
open Go.ChangeShapes Go.WideShapes Go.ChangeAt
theorem grantTurns_said : Rows.GrantTurnsSaid :=
  OpenClaim.holds_of_wide 5 Tryz.f5 rfl rfl rfl rfl rfl rfl rfl ⟨rfl, rfl, rfl, rfl, rfl⟩ rfl rfl rfl rfl rfl (by kernel_rfl) Tryz.func5 grantTurns_closed
    (of_decide_eq_true (by kernel_rfl)) (by unfold Func.isWrapper; first | (rw [if_pos (by decide +kernel)]; kernel_rfl) | (rw [if_neg (by decide +kernel)]; exact ⟨rfl, rfl⟩))
    (fun os started H enc _ => grantTurns_lifted os started H enc)
theorem grantTurns_holds : Rows.GrantTurnsCardSaid :=
  Claim7.holds_tied_plain_at .later [] _ _ _ _ grantTurns_said (fun _ h => by cases h) (by kernel_rfl) (fun _ h => by cases h) grantTurns_row_tie rfl ⟨rfl, rfl⟩ (by kernel_rfl) rfl
    (fun f fn hf hfn => by
      obtain rfl : f = 5 := Option.some.inj ((show Tryz.prog.funcNamed "caddis/caddislaw09.GrantTurns" = some 5 by kernel_rfl).symm.trans hf) |>.symm
      obtain rfl : fn = Tryz.f5 := (Option.some.inj (Tryz.func5.symm.trans hfn)).symm
      exact ⟨by kernel_rfl, fun j t ht => by
        have hall : (Tryz.f5.params.toList.all fun u => !Tryz.prog.wantsStandIn u) = true := by kernel_rfl
        have hm : t ∈ Tryz.f5.params.toList := by simpa using Array.mem_of_getElem? ht
        exact (show Tryz.prog.wantsStandIn t = false by simpa using List.all_eq_true.1 hall t hm)⟩)
    (by kernel_rfl)
#print axioms grantTurns_holds

end Go.Proofs.YtchilcchogcibaaGreatDoor
