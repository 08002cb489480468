/- Parts of the proofs, put together: LgC, Lg1, Lg2, Lg3, LgM, Lg5. -/
import Derived.Laws.IdiomStrings
import Derived.Deep.AppendSrc
import Derived.Laws.IdiomCopy
import Derived.Lib.ConvBytes
import Derived.LoopNIn
import Derived.Deep.RegionWith
import Derived.BigRegion
import Derived.StillTailTactics
import Derived.Test.YtfpmfegmehbfbaaGreatDoorZ4
import Derived.Test.YtfpmfegmehbfbaaGreatDoorZ5
import Derived.Test.YtfpmfegmehbfbaaGreatDoorZ12
import Derived.Test.YtfpmfegmehbfbaaGreatDoorZ13
import Derived.Test.YtfpmfegmehbfbaaGreatDoorZ15
import Derived.Test.YtfpmfegmehbfbaaGreatDoorZ29
import Derived.Test.YtfpmfegmehbfbaaGreatDoorZ31
/- slices.Grow of nothing, slices.Concat, walked. -/
namespace Go.Proofs.YtfpmfegmehbfbaaGreatDoor
set_option linter.unusedVariables false
set_option linter.unusedSimpArgs false
set_option linter.unusedSimpArgs false
open Go.RowKit Go.Shelf Go.Maps

end Go.Proofs.YtfpmfegmehbfbaaGreatDoor

/- Logs in memory. -/
namespace Go.Proofs.YtfpmfegmehbfbaaGreatDoor
set_option linter.unusedVariables false
set_option linter.unusedSimpArgs false
set_option linter.unusedSimpArgs false
open Go.RowKit Go.Shelf Go.Maps

end Go.Proofs.YtfpmfegmehbfbaaGreatDoor

/- Logs, walked: Check of a sound log. -/
namespace Go.Proofs.YtfpmfegmehbfbaaGreatDoor
set_option linter.unusedVariables false
set_option linter.unusedSimpArgs false
set_option linter.unusedSimpArgs false
open Go.RowKit Go.Shelf Go.Maps

theorem keyStr : Keyed Tryz.prog 9 := string_keyed Tryz.underlying9
theorem KSet.kept {k : TypeId} {w w' : World} {b : Nat} {l : List Lit} (h : KSet k w b l) {row : Option Nat} (hg : w.grownBy w' row) (hne : some b ≠ row) : KSet k w' b l := World.ownsMap.kept h hg hne
theorem lgGrown {W W' : World} (h : Ext W W') : W.grownBy W' none := by
  obtain ⟨a, b, c, d, e⟩ := h.out
  exact ⟨a, b, c, d, fun k hk _ => e k hk⟩
theorem KSet.ext {k : TypeId} {w w' : World} {b : Nat} {l : List Lit} (h : KSet k w b l) (x : Ext w w') : KSet k w' b l := h.kept (lgGrown x) (fun e => by cases e)
end Go.Proofs.YtfpmfegmehbfbaaGreatDoor

/- Logs, walked: New, Merge, Leaves, first. -/
namespace Go.Proofs.YtfpmfegmehbfbaaGreatDoor
set_option linter.unusedVariables false
set_option linter.unusedSimpArgs false
set_option linter.unusedSimpArgs false
open Go.RowKit Go.Shelf Go.Maps
section
variable {w W : World} {g : Nat} {T : TypeId} {a b c d e f : Value}
theorem lst6 (k : Blk W g T #[a, b, c, d, e, f]) : W.cell? ⟨g, 0, none⟩ = some a ∧ W.cell? ⟨g, 1, none⟩ = some b ∧ W.cell? ⟨g, 2, none⟩ = some c ∧ W.cell? ⟨g, 3, none⟩ = some d ∧ W.cell? ⟨g, 4, none⟩ = some e ∧ W.cell? ⟨g, 5, none⟩ = some f ∧
    W.frozen? ⟨g, 0, none⟩ = false ∧ W.frozen? ⟨g, 1, none⟩ = false ∧ W.frozen? ⟨g, 2, none⟩ = false ∧ W.frozen? ⟨g, 3, none⟩ = false ∧ W.frozen? ⟨g, 4, none⟩ = false ∧ W.frozen? ⟨g, 5, none⟩ = false :=
  ⟨k.cell 0, k.cell 1, k.cell 2, k.cell 3, k.cell 4, k.cell 5, k.frozen 0, k.frozen 1, k.frozen 2, k.frozen 3, k.frozen 4, k.frozen 5⟩
end
end Go.Proofs.YtfpmfegmehbfbaaGreatDoor

/- Logs, walked: eight bytes of a number; a word, and parts behind it. -/
namespace Go.Proofs.YtfpmfegmehbfbaaGreatDoor
set_option linter.unusedVariables false
set_option linter.unusedSimpArgs false
set_option linter.unusedSimpArgs false
open Go.RowKit Go.Shelf Go.Maps

end Go.Proofs.YtfpmfegmehbfbaaGreatDoor

/- Logs, walked: what is signed of a promise, of a head. -/
namespace Go.Proofs.YtfpmfegmehbfbaaGreatDoor
set_option linter.unusedVariables false
set_option linter.unusedSimpArgs false
set_option linter.unusedSimpArgs false
open Go.RowKit Go.Shelf Go.Maps

end Go.Proofs.YtfpmfegmehbfbaaGreatDoor
