/- The facts of the frame of StmtMore's row that the kernel checks by itself: in a text with few imports. -/
import Derived.Test.YtchilcchogcibaaGreatDoorRows
import Derived.JoinedOf
namespace Go.Proofs.YtchilcchogcibaaGreatDoor
theorem stmtMore_closed:joinedFacts Tryz.pinned.checked.prog 10 Tryz.f10 Rows.stmtMoreSpec Rows.stmtMoreRow=true:=by kernel_rfl
end Go.Proofs.YtchilcchogcibaaGreatDoor
