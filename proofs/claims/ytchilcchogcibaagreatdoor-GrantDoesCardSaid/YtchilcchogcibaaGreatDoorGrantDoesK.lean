/- The facts of the frame of GrantDoes's row that the kernel checks by itself: in a text with few imports. No condition. -/
import Derived.Test.YtchilcchogcibaaGreatDoorRows
import Derived.JoinedOf
namespace Go.Proofs.YtchilcchogcibaaGreatDoor
theorem grantDoes_closed : joinedFacts Tryz.pinned.checked.prog 3 Tryz.f3 Rows.grantDoesSpec Rows.grantDoesRow = true := by kernel_rfl
end Go.Proofs.YtchilcchogcibaaGreatDoor
