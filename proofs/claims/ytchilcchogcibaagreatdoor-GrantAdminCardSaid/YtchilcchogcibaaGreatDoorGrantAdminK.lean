/- The facts of the frame of GrantAdmin's row that the kernel checks by itself: in a text with few imports. No condition. -/
import Derived.Test.YtchilcchogcibaaGreatDoorRows
import Derived.JoinedOf
namespace Go.Proofs.YtchilcchogcibaaGreatDoor
theorem grantAdmin_closed : joinedFacts Tryz.pinned.checked.prog 6 Tryz.f6 Rows.grantAdminSpec Rows.grantAdminRow = true := by kernel_rfl
end Go.Proofs.YtchilcchogcibaaGreatDoor
