/- Parts of the proofs, put together: Tab. -/
import Derived.LaidMore
import Derived.LaidSub
import Derived.Lib.LaidU8
import Derived.OpenShut
import Derived.Test.YtfpmfegmehbfbaaGreatDoorV13
import Derived.Test.YtfpmfegmehbfbaaGreatDoorV28
/- The table that counts zeros, as the condition hands it over. -/
namespace Go.Proofs.YtfpmfegmehbfbaaGreatDoor
set_option linter.unusedVariables false
set_option linter.unusedSimpArgs false
open Go.RowKit Go.Shelf

theorem tab_of {W : World} {l : List (String × DataW Unit)} {d : DataW Unit} (h : laidMetH Tryz.prog l W) (hm : ("math/bits.deBruijn64tab", d) ∈ l.filter fun x => x.2.handleName?.isNone) (hd : d = Lib.tabData .u8 (Lib.deBruijn64tab.map fun x : Nat => (x : Int))) : TabW W := by
  obtain ⟨g, t, cs, fuel, p, hg, ht, hv, hr⟩ := Lib.laidMet.reads (laidMetH_iff.1 h).1 hm
  subst hd
  obtain rfl := Option.some.inj ((show Tryz.prog.globalNamed "math/bits.deBruijn64tab" = some 1 by kernel_rfl).symm.trans hg)
  obtain rfl := Option.some.inj ((show (Tryz.prog.globals[1]?).map (·.type) = some 309 by kernel_rfl).symm.trans ht)
  have hc := Lib.cells_of_tab (P := Tryz.prog) Tryz.underlying309 Tryz.underlying5 (by kernel_rfl) (by kernel_rfl) hr
  intro j hj
  have := World.var?_cell hg hv j
  rw [← Array.getElem?_toList, hc] at this
  refine this.trans ?_
  rw [List.map_map, List.getElem?_map, List.getD_eq_getElem?_getD, List.getElem?_eq_getElem hj]
  rfl
end Go.Proofs.YtfpmfegmehbfbaaGreatDoor
