/- Parts of the proofs, put together: HaRef. -/
import Derived.Deep.LoopGhost
import Derived.Test.YtfpmfegmehbfbaaGreatDoorV1
import Derived.Test.YtfpmfegmehbfbaaGreatDoorV2
/- The document's answer (greatsealref01, greatsealref02), walked: Add, Mul, raised. -/
namespace Go.Proofs.YtfpmfegmehbfbaaGreatDoor
open Go.RowKit

end Go.Proofs.YtfpmfegmehbfbaaGreatDoor
