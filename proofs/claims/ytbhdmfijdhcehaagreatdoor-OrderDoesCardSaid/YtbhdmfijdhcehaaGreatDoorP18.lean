/- Parts of the proofs, put together: Held. -/
import Derived.Deep.RegionHeld3
import Derived.Test.YtbhdmfijdhcehaaGreatDoorP2
set_option maxRecDepth 100000
set_option maxHeartbeats 64000000
namespace Go.Proofs.YtbhdmfijdhcehaaGreatDoor
open Go.RowKit
set_option linter.unusedSimpArgs false
set_option linter.unusedVariables false
section
variable {P:Program} {ops:Array Oper} {Q:Exit→Act→World→Prop} {S:World→Prop}
end
