/- The facts of the frame of StmtApart's row that the kernel checks by itself: in a text with few imports. -/
import Derived.Test.YtchilcchogcibaaGreatDoorRows
import Derived.JoinedOf
namespace Go.Proofs.YtchilcchogcibaaGreatDoor
theorem stmtApart_closed:joinedFacts Tryz.pinned.checked.prog 9 Tryz.f9 Rows.stmtApartSpec Rows.stmtApartRow=true:=by kernel_rfl
end Go.Proofs.YtchilcchogcibaaGreatDoor
