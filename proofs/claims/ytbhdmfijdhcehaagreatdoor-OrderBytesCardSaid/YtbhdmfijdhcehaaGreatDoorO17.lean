/- Parts of the proofs, put together: Held. -/
import Derived.Deep.RegionHeld3
import Derived.Test.YtbhdmfijdhcehaaGreatDoorO2
/- A region that draws its order, walked operation by operation under a condition on the world that may grow on the way. -/
namespace Go.Proofs.YtbhdmfijdhcehaaGreatDoor
set_option linter.unusedVariables false
set_option linter.unusedSimpArgs false
open Go.RowKit

section
variable {P : Program} {ops : Array Oper} {Q : Exit → Act → World → Prop} {S : World → Prop}
end
end Go.Proofs.YtbhdmfijdhcehaaGreatDoor
