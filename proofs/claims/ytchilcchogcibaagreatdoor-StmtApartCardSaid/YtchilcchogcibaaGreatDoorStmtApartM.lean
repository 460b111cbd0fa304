/- caddislaw05.StmtApart answers true: two statements that may be have the same text just if they are the same; blanks, and ends of lines, change nothing. -/
import Derived.Test.YtchilcchogcibaaGreatDoorStmtApartL
import Derived.Test.YtchilcchogcibaaGreatDoorStmtApartK
namespace Go.Proofs.YtchilcchogcibaaGreatDoor
open Go.RowKit
open Go.ChangeShapes Go.WideShapes Go.ChangeAt
theorem stmtApart_said:Rows.StmtApartSaid:=
 OpenClaim.holds_of_wide 9 Tryz.f9 rfl rfl rfl rfl rfl rfl rfl ⟨rfl,rfl,rfl,rfl,rfl⟩ rfl rfl rfl rfl rfl (by kernel_rfl) Tryz.func9 stmtApart_closed
  (of_decide_eq_true (by kernel_rfl)) (by unfold Func.isWrapper;first|(rw[if_pos (by decide +kernel)];kernel_rfl)|(rw[if_neg (by decide +kernel)];exact⟨rfl,rfl⟩))
  (λos started H enc _=>stmtApart_lifted os started H enc)
theorem stmtApart_holds:Rows.StmtApartCardSaid:=
 Claim7.holds_tied_plain_at .later [] _ _ _ _ stmtApart_said (λ_ h=>by cases h) (by kernel_rfl) (λ_ h=>by cases h) stmtApart_row_tie rfl ⟨rfl,rfl⟩ (by kernel_rfl) rfl
  (λf fn hf hfn=>by
   obtain rfl : f = 9 := Option.some.inj ((show Tryz.prog.funcNamed "caddis/caddislaw05.StmtApart" = some 9 by kernel_rfl).symm.trans hf) |>.symm
   obtain rfl:fn=Tryz.f9:=(Option.some.inj (Tryz.func9.symm.trans hfn)).symm;exact⟨by kernel_rfl,λj t ht=>by
    have hall:(Tryz.f9.params.toList.all λu=>!Tryz.prog.wantsStandIn u)=true:=by kernel_rfl
    have hm:t∈Tryz.f9.params.toList:=by simpa using Array.mem_of_getElem? ht
    exact(show Tryz.prog.wantsStandIn t=false by simpa using List.all_eq_true.1 hall t hm)⟩)
  (by kernel_rfl)
#print axioms stmtApart_holds
end Go.Proofs.YtchilcchogcibaaGreatDoor
