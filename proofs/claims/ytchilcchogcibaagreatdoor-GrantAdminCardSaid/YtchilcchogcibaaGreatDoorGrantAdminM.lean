/- caddislaw09.GrantAdmin answers true: the admin may all, by whatever grants may be; who has no grant may nothing; grants of one table, taken away, leave those of the others. No condition beyond the row's own. -/
import Derived.Test.YtchilcchogcibaaGreatDoorGrantAdminL
import Derived.Test.YtchilcchogcibaaGreatDoorGrantAdminK
namespace Go.Proofs.YtchilcchogcibaaGreatDoor
open Go.RowKit
open Go.ChangeShapes Go.WideShapes Go.ChangeAt
theorem grantAdmin_said : Rows.GrantAdminSaid :=
  OpenClaim.holds_of_wide 6 Tryz.f6 rfl rfl rfl rfl rfl rfl rfl ⟨rfl, rfl, rfl, rfl, rfl⟩ rfl rfl rfl rfl rfl (by kernel_rfl) Tryz.func6 grantAdmin_closed
    (of_decide_eq_true (by kernel_rfl)) (by unfold Func.isWrapper; first | (rw [if_pos (by decide +kernel)]; kernel_rfl) | (rw [if_neg (by decide +kernel)]; exact ⟨rfl, rfl⟩))
    (fun os started H enc _ => grantAdmin_lifted os started H enc)
theorem grantAdmin_holds : Rows.GrantAdminCardSaid :=
  Claim7.holds_tied_plain_at .later [] _ _ _ _ grantAdmin_said (fun _ h => by cases h) (by kernel_rfl) (fun _ h => by cases h) grantAdmin_row_tie rfl ⟨rfl, rfl⟩ (by kernel_rfl) rfl
    (fun f fn hf hfn => by
      obtain rfl : f = 6 := Option.some.inj ((show Tryz.prog.funcNamed "caddis/caddislaw09.GrantAdmin" = some 6 by kernel_rfl).symm.trans hf) |>.symm
      obtain rfl : fn = Tryz.f6 := (Option.some.inj (Tryz.func6.symm.trans hfn)).symm
      exact ⟨by kernel_rfl, fun j t ht => by
        have hall : (Tryz.f6.params.toList.all fun u => !Tryz.prog.wantsStandIn u) = true := by kernel_rfl
        have hm : t ∈ Tryz.f6.params.toList := by simpa using Array.mem_of_getElem? ht
        exact (show Tryz.prog.wantsStandIn t = false by simpa using List.all_eq_true.1 hall t hm)⟩)
    (by kernel_rfl)
#print axioms grantAdmin_holds

end Go.Proofs.YtchilcchogcibaaGreatDoor
