/- Parts of the proofs, put together: Held. -/
import Derived.Deep.RegionHeld3
import Derived.Test.YtbhdmfijdhcehaaGreatDoorQ2
namespace Go.Proofs.YtbhdmfijdhcehaaGreatDoor
open Go.RowKit
set_option linter.unusedSimpArgs false
set_option linter.unusedVariables false
section
variable {P : Program} {ops : Array Oper} {Q : Exit → Act → World → Prop} {S : World → Prop}
end
end Go.Proofs.YtbhdmfijdhcehaaGreatDoor
