/- The facts of the frame of GrantTurns's row that the kernel checks by itself: in a text with few imports. No condition. -/
import Derived.Test.YtchilcchogcibaaGreatDoorRows
import Derived.JoinedOf
namespace Go.Proofs.YtchilcchogcibaaGreatDoor
theorem grantTurns_closed : joinedFacts Tryz.pinned.checked.prog 5 Tryz.f5 Rows.grantTurnsSpec Rows.grantTurnsRow = true := by kernel_rfl
end Go.Proofs.YtchilcchogcibaaGreatDoor
