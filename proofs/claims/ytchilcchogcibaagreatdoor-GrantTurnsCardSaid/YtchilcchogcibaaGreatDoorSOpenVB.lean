/- How arguments of the laws are opened: a value.. -/
import Derived.Test.YtchilcchogcibaaGreatDoorRows
import Derived.Lib.SmallJoins
import Derived.OpenShut
import Derived.ShutString
import Derived.ChangeOld
import Derived.Test.YtchilcchogcibaaGreatDoorSBytes
import Derived.Test.YtchilcchogcibaaGreatDoorSOpenEx
namespace Go.Proofs.YtchilcchogcibaaGreatDoor
open Go.ChangeShapes Go.WideShapes Go.ChangeAt Go.RowKit Go.Deep Go.Joins
theorem laidOut : laidOutB Tryz.prog = true := by kernel_rfl
end Go.Proofs.YtchilcchogcibaaGreatDoor
