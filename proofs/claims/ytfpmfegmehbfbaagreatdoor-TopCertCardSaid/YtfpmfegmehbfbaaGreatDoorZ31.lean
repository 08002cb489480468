/- Parts of the proofs, put together: MkQ, LgP. -/
import Derived.Lib.BitFns
import Derived.Lib.TrailingZeros
import Derived.Test.YtfpmfegmehbfbaaGreatDoorZ8
/- Plain: trees of hashes: how many steps lead up, what shows that a tree has grown as it is made, how a root is folded. No program in sight. -/
namespace Go.Proofs.YtfpmfegmehbfbaaGreatDoor
set_option linter.unusedVariables false
set_option linter.unusedSimpArgs false

section
variable {S : Type} (pr : S → S → S) (z : S)
end
end Go.Proofs.YtfpmfegmehbfbaaGreatDoor

/- Plain: logs: what they hold, what they have promised. No program in sight. -/
namespace Go.Proofs.YtfpmfegmehbfbaaGreatDoor
set_option linter.unusedVariables false
set_option linter.unusedSimpArgs false

end Go.Proofs.YtfpmfegmehbfbaaGreatDoor
