/- Parts of the proofs, put together: HaRef. -/
import Derived.Deep.LoopGhost
import Derived.Test.YtbhdmfijdhcehaaGreatDoorQ1
import Derived.Test.YtbhdmfijdhcehaaGreatDoorQ2
namespace Go.Proofs.YtbhdmfijdhcehaaGreatDoor
open Go.RowKit
end Go.Proofs.YtbhdmfijdhcehaaGreatDoor
