/- Parts of the proofs, put together: Lg8, Lg4, Lg6, Lg7, Lg9, LgA. -/
import Derived.Test.YtfpmfegmehbfbaaGreatDoorZ12
import Derived.Test.YtfpmfegmehbfbaaGreatDoorZ15
import Derived.Test.YtfpmfegmehbfbaaGreatDoorZ19
import Derived.Test.YtfpmfegmehbfbaaGreatDoorZ23
import Derived.Test.YtfpmfegmehbfbaaGreatDoorZ25
import Derived.Test.YtfpmfegmehbfbaaGreatDoorZ30
import Derived.Test.YtfpmfegmehbfbaaGreatDoorZ33
/- Logs, walked: what Add asks. -/
namespace Go.Proofs.YtfpmfegmehbfbaaGreatDoor
set_option linter.unusedVariables false
set_option linter.unusedSimpArgs false
set_option linter.unusedSimpArgs false
open Go.RowKit Go.Shelf Go.Maps

end Go.Proofs.YtfpmfegmehbfbaaGreatDoor

/- Logs, walked: the leaves of a view; a view's first leaves. -/
namespace Go.Proofs.YtfpmfegmehbfbaaGreatDoor
set_option linter.unusedVariables false
set_option linter.unusedSimpArgs false
set_option linter.unusedSimpArgs false
open Go.RowKit Go.Shelf Go.Maps
end Go.Proofs.YtfpmfegmehbfbaaGreatDoor

/- Logs, walked: a view's head; what shows that a view has grown. -/
namespace Go.Proofs.YtfpmfegmehbfbaaGreatDoor
set_option linter.unusedVariables false
set_option linter.unusedSimpArgs false
set_option linter.unusedSimpArgs false
open Go.RowKit Go.Shelf Go.Maps

end Go.Proofs.YtfpmfegmehbfbaaGreatDoor

/- Logs, walked: a view's head. -/
namespace Go.Proofs.YtfpmfegmehbfbaaGreatDoor
set_option linter.unusedVariables false
set_option linter.unusedSimpArgs false
set_option linter.unusedSimpArgs false
open Go.RowKit Go.Shelf Go.Maps

section
variable {w W : World} {g : Nat} {T : TypeId} {a b c d e f k : Value}
end
end Go.Proofs.YtfpmfegmehbfbaaGreatDoor

/- Logs, walked: what a log is asked to take in. -/
namespace Go.Proofs.YtfpmfegmehbfbaaGreatDoor
set_option linter.unusedVariables false
set_option linter.unusedSimpArgs false
set_option linter.unusedSimpArgs false
open Go.RowKit Go.Shelf Go.Maps

section
variable {W W' : World} {B : Nat} {A7 : Option Addr} {c7 n : Nat} {xs : List Value} {A4 : Option Addr} {c4 m : Nat} {ys : List Value}
end
end Go.Proofs.YtfpmfegmehbfbaaGreatDoor

/- Logs, walked: what is public of a log; who checks promises and heads. -/
namespace Go.Proofs.YtfpmfegmehbfbaaGreatDoor
set_option linter.unusedVariables false
set_option linter.unusedSimpArgs false
set_option linter.unusedSimpArgs false
open Go.RowKit Go.Shelf Go.Maps

section
variable {w W : World} {g : Nat} {T : TypeId} {a b c : Value}
end
end Go.Proofs.YtfpmfegmehbfbaaGreatDoor
