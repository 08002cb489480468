/- Parts of the proofs, put together: HaRef. -/
import Derived.Deep.LoopGhost
import Derived.Test.YtbhdmfijdhcehaaGreatDoorO1
import Derived.Test.YtbhdmfijdhcehaaGreatDoorO2
/- The document's answer (greatsealref01, greatsealref02), walked: Add, Mul, raised. -/
namespace Go.Proofs.YtbhdmfijdhcehaaGreatDoor
open Go.RowKit

end Go.Proofs.YtbhdmfijdhcehaaGreatDoor
