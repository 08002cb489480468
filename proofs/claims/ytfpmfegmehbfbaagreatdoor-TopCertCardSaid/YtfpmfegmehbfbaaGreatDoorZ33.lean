/- Parts of the proofs, put together: Mk3, Mk5, Mk6, Mk4, Mk7, Mk8, Mk9. -/
import Derived.BigRegion
import Derived.Shelf.Abstract
import Derived.Test.YtfpmfegmehbfbaaGreatDoorShelf
import Derived.Test.YtfpmfegmehbfbaaGreatDoorZ3
import Derived.Test.YtfpmfegmehbfbaaGreatDoorZ4
import Derived.Test.YtfpmfegmehbfbaaGreatDoorZ8
import Derived.Test.YtfpmfegmehbfbaaGreatDoorZ15
import Derived.Test.YtfpmfegmehbfbaaGreatDoorZ23
import Derived.Test.YtfpmfegmehbfbaaGreatDoorZ25
import Derived.Test.YtfpmfegmehbfbaaGreatDoorZ31
/- Trees of hashes, walked: sums in memory; slices.Reverse at two types of one's own. -/
namespace Go.Proofs.YtfpmfegmehbfbaaGreatDoor
set_option linter.unusedVariables false
set_option linter.unusedSimpArgs false
set_option linter.unusedSimpArgs false
open Go.RowKit Go.Shelf Go.Maps

end Go.Proofs.YtfpmfegmehbfbaaGreatDoor

/- Trees of hashes, walked: climb, whatever is done on the way. -/
namespace Go.Proofs.YtfpmfegmehbfbaaGreatDoor
set_option linter.unusedVariables false
set_option linter.unusedSimpArgs false
set_option linter.unusedSimpArgs false
open Go.RowKit Go.Shelf Go.Maps

end Go.Proofs.YtfpmfegmehbfbaaGreatDoor

/- Trees of hashes, walked: half, steps, what is done on the way up, Check. -/
namespace Go.Proofs.YtfpmfegmehbfbaaGreatDoor
set_option linter.unusedVariables false
set_option linter.unusedSimpArgs false
set_option linter.unusedSimpArgs false
open Go.RowKit Go.Shelf Go.Maps

end Go.Proofs.YtfpmfegmehbfbaaGreatDoor

/- Trees of hashes, walked: the whole trees that leaves make; a root, of any leaves. -/
namespace Go.Proofs.YtfpmfegmehbfbaaGreatDoor
set_option linter.unusedVariables false
set_option linter.unusedSimpArgs false
set_option linter.unusedSimpArgs false
open Go.RowKit Go.Shelf Go.Maps
attribute [local go_sem] Oper.semAt_some

end Go.Proofs.YtfpmfegmehbfbaaGreatDoor

/- Trees of hashes, walked: a root, of any leaves. -/
namespace Go.Proofs.YtfpmfegmehbfbaaGreatDoor
set_option linter.unusedVariables false
set_option linter.unusedSimpArgs false
set_option linter.unusedSimpArgs false
open Go.RowKit Go.Shelf Go.Maps
attribute [local go_sem] Oper.semAt_some

end Go.Proofs.YtfpmfegmehbfbaaGreatDoor

/- Trees of hashes, walked: how many steps lead up; what shows that a tree has grown. -/
namespace Go.Proofs.YtfpmfegmehbfbaaGreatDoor
set_option linter.unusedVariables false
set_option linter.unusedSimpArgs false
set_option linter.unusedSimpArgs false
open Go.RowKit Go.Shelf Go.Maps

end Go.Proofs.YtfpmfegmehbfbaaGreatDoor

/- Trees of hashes, walked: what shows that a tree has grown. -/
namespace Go.Proofs.YtfpmfegmehbfbaaGreatDoor
set_option linter.unusedVariables false
set_option linter.unusedSimpArgs false
set_option linter.unusedSimpArgs false
open Go.RowKit Go.Shelf Go.Maps

end Go.Proofs.YtfpmfegmehbfbaaGreatDoor
