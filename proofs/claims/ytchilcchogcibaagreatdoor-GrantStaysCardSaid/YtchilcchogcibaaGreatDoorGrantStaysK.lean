/- The facts of the frame of GrantStays's row that the kernel checks by itself: in a text with few imports. No condition. -/
import Derived.Test.YtchilcchogcibaaGreatDoorRows
import Derived.JoinedOf
namespace Go.Proofs.YtchilcchogcibaaGreatDoor
theorem grantStays_closed : joinedFacts Tryz.pinned.checked.prog 4 Tryz.f4 Rows.grantStaysSpec Rows.grantStaysRow = true := by kernel_rfl
end Go.Proofs.YtchilcchogcibaaGreatDoor
