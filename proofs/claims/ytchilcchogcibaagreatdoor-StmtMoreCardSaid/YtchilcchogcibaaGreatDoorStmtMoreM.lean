/- caddislaw05.StmtMore answers true: a statement's text with a word, a sign, or a number behind is none; without its last octet it is none, or another one. -/
import Derived.Test.YtchilcchogcibaaGreatDoorStmtMoreL
import Derived.Test.YtchilcchogcibaaGreatDoorStmtMoreK
namespace Go.Proofs.YtchilcchogcibaaGreatDoor
open Go.RowKit
open Go.ChangeShapes Go.WideShapes Go.ChangeAt
theorem stmtMore_said:Rows.StmtMoreSaid:=
 OpenClaim.holds_of_wide 10 Tryz.f10 rfl rfl rfl rfl rfl rfl rfl ⟨rfl,rfl,rfl,rfl,rfl⟩ rfl rfl rfl rfl rfl (by kernel_rfl) Tryz.func10 stmtMore_closed
  (of_decide_eq_true (by kernel_rfl)) (by unfold Func.isWrapper;first|(rw[if_pos (by decide +kernel)];kernel_rfl)|(rw[if_neg (by decide +kernel)];exact⟨rfl,rfl⟩))
  (λos started H enc _=>stmtMore_lifted os started H enc)
theorem stmtMore_holds:Rows.StmtMoreCardSaid:=
 Claim7.holds_tied_plain_at .later [] _ _ _ _ stmtMore_said (λ_ h=>by cases h) (by kernel_rfl) (λ_ h=>by cases h) stmtMore_row_tie rfl ⟨rfl,rfl⟩ (by kernel_rfl) rfl
  (λf fn hf hfn=>by
   obtain rfl : f = 10 := Option.some.inj ((show Tryz.prog.funcNamed "caddis/caddislaw05.StmtMore" = some 10 by kernel_rfl).symm.trans hf) |>.symm
   obtain rfl:fn=Tryz.f10:=(Option.some.inj (Tryz.func10.symm.trans hfn)).symm;exact⟨by kernel_rfl,λj t ht=>by
    have hall:(Tryz.f10.params.toList.all λu=>!Tryz.prog.wantsStandIn u)=true:=by kernel_rfl
    have hm:t∈Tryz.f10.params.toList:=by simpa using Array.mem_of_getElem? ht
    exact(show Tryz.prog.wantsStandIn t=false by simpa using List.all_eq_true.1 hall t hm)⟩)
  (by kernel_rfl)
#print axioms stmtMore_holds
end Go.Proofs.YtchilcchogcibaaGreatDoor
