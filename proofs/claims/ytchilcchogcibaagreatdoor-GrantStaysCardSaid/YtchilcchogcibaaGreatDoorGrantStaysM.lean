/- caddislaw09.GrantStays answers true: what is granted is allowed till it is revoked, whatever is granted and revoked of other roles and tables. No condition beyond the row's own. -/
import Derived.Test.YtchilcchogcibaaGreatDoorGrantStaysL
import Derived.Test.YtchilcchogcibaaGreatDoorGrantStaysK
namespace Go.Proofs.YtchilcchogcibaaGreatDoor
open Go.RowKit
open Go.ChangeShapes Go.WideShapes Go.ChangeAt
theorem grantStays_said : Rows.GrantStaysSaid :=
  OpenClaim.holds_of_wide 4 Tryz.f4 rfl rfl rfl rfl rfl rfl rfl ⟨rfl, rfl, rfl, rfl, rfl⟩ rfl rfl rfl rfl rfl (by kernel_rfl) Tryz.func4 grantStays_closed
    (of_decide_eq_true (by kernel_rfl)) (by unfold Func.isWrapper; first | (rw [if_pos (by decide +kernel)]; kernel_rfl) | (rw [if_neg (by decide +kernel)]; exact ⟨rfl, rfl⟩))
    (fun os started H enc _ => grantStays_lifted os started H enc)
theorem grantStays_holds : Rows.GrantStaysCardSaid :=
  Claim7.holds_tied_plain_at .later [] _ _ _ _ grantStays_said (fun _ h => by cases h) (by kernel_rfl) (fun _ h => by cases h) grantStays_row_tie rfl ⟨rfl, rfl⟩ (by kernel_rfl) rfl
    (fun f fn hf hfn => by
      obtain rfl : f = 4 := Option.some.inj ((show Tryz.prog.funcNamed "caddis/caddislaw09.GrantStays" = some 4 by kernel_rfl).symm.trans hf) |>.symm
      obtain rfl : fn = Tryz.f4 := (Option.some.inj (Tryz.func4.symm.trans hfn)).symm
      exact ⟨by kernel_rfl, fun j t ht => by
        have hall : (Tryz.f4.params.toList.all fun u => !Tryz.prog.wantsStandIn u) = true := by kernel_rfl
        have hm : t ∈ Tryz.f4.params.toList := by simpa using Array.mem_of_getElem? ht
        exact (show Tryz.prog.wantsStandIn t = false by simpa using List.all_eq_true.1 hall t hm)⟩)
    (by kernel_rfl)
#print axioms grantStays_holds

end Go.Proofs.YtchilcchogcibaaGreatDoor
