/- caddislaw05.StmtRights answers true: a GRANT and its REVOKE differ in their Op alone, and so do READ and WRITE. No condition beyond the row's own. -/
import Derived.Test.YtchilcchogcibaaGreatDoorStmtRightsL
import Derived.Test.YtchilcchogcibaaGreatDoorStmtRightsK
namespace Go.Proofs.YtchilcchogcibaaGreatDoor
open Go.RowKit
open Go.ChangeShapes Go.WideShapes Go.ChangeAt
theorem stmtRights_said : Rows.StmtRightsSaid :=
  OpenClaim.holds_of_wide 11 Tryz.f11 rfl rfl rfl rfl rfl rfl rfl ⟨rfl, rfl, rfl, rfl, rfl⟩ rfl rfl rfl rfl rfl (by kernel_rfl) Tryz.func11 stmtRights_closed
    (of_decide_eq_true (by kernel_rfl)) (by unfold Func.isWrapper; first | (rw [if_pos (by decide +kernel)]; kernel_rfl) | (rw [if_neg (by decide +kernel)]; exact ⟨rfl, rfl⟩))
    (fun os started H enc _ => stmtRights_lifted os started H enc)
theorem stmtRights_holds : Rows.StmtRightsCardSaid :=
  Claim7.holds_tied_plain_at .later [] _ _ _ _ stmtRights_said (fun _ h => by cases h) (by kernel_rfl) (fun _ h => by cases h) stmtRights_row_tie rfl ⟨rfl, rfl⟩ (by kernel_rfl) rfl
    (fun f fn hf hfn => by
      obtain rfl : f = 11 := Option.some.inj ((show Tryz.prog.funcNamed "caddis/caddislaw05.StmtRights" = some 11 by kernel_rfl).symm.trans hf) |>.symm
      obtain rfl : fn = Tryz.f11 := (Option.some.inj (Tryz.func11.symm.trans hfn)).symm
      exact ⟨by kernel_rfl, fun j t ht => by
        have hall : (Tryz.f11.params.toList.all fun u => !Tryz.prog.wantsStandIn u) = true := by kernel_rfl
        have hm : t ∈ Tryz.f11.params.toList := by simpa using Array.mem_of_getElem? ht
        exact (show Tryz.prog.wantsStandIn t = false by simpa using List.all_eq_true.1 hall t hm)⟩)
    (by kernel_rfl)
#print axioms stmtRights_holds

end Go.Proofs.YtchilcchogcibaaGreatDoor
