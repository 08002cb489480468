/- Parts of the proofs, put together: Mk9. -/
import Derived.Test.YtfpmfegmehbfbaaGreatDoorV31
/- Trees of hashes, walked: what shows that a tree has grown. -/
namespace Go.Proofs.YtfpmfegmehbfbaaGreatDoor
set_option linter.unusedVariables false
set_option linter.unusedSimpArgs false
set_option linter.unusedSimpArgs false
open Go.RowKit Go.Shelf Go.Maps

end Go.Proofs.YtfpmfegmehbfbaaGreatDoor
