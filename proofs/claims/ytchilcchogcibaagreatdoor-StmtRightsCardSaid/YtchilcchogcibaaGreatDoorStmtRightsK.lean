/- The facts of the frame of StmtRights's row that the kernel checks by itself: in a text with few imports. No condition. -/
import Derived.Test.YtchilcchogcibaaGreatDoorRows
import Derived.JoinedOf
namespace Go.Proofs.YtchilcchogcibaaGreatDoor
theorem stmtRights_closed : joinedFacts Tryz.pinned.checked.prog 11 Tryz.f11 Rows.stmtRightsSpec Rows.stmtRightsRow = true := by kernel_rfl
end Go.Proofs.YtchilcchogcibaaGreatDoor
