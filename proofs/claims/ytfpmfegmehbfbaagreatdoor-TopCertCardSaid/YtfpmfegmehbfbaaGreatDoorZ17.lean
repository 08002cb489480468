/- Parts of the proofs, put together: HaRef. -/
import Derived.Deep.LoopGhost
import Derived.Test.YtfpmfegmehbfbaaGreatDoorZ3
import Derived.Test.YtfpmfegmehbfbaaGreatDoorZ8
/- The document's answer (greatsealref01, greatsealref02), walked: Add, Mul, raised. -/
namespace Go.Proofs.YtfpmfegmehbfbaaGreatDoor
open Go.RowKit

end Go.Proofs.YtfpmfegmehbfbaaGreatDoor
