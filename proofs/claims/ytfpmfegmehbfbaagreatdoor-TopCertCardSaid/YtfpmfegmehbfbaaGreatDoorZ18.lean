/- Parts of the proofs, put together: Later. -/
import Derived.Deep.QuietTactic
import Derived.BigQuiet
import Derived.Test.YtfpmfegmehbfbaaGreatDoorZ3
/- A region that draws its order, whose callees may make memory: one walk in the text's order serves every order, where each operation yields ONE value in every later world. -/
namespace Go.Proofs.YtfpmfegmehbfbaaGreatDoor
set_option linter.unusedVariables false
set_option linter.unusedSimpArgs false
open Go.RowKit

/-- The worlds behind w. -/
structure Later (w : World) where
  W : World
  ext : Ext w W
instance (w : World) : Inhabited (Later w) := ⟨⟨w, Ext.refl w⟩⟩
theorem wp_region_later {P : Program} {id : Nat} {Q : Exit → Act → World → Prop} {a : Act} {w : World} {l : List Oper} (hm : P.follows .mixedOrders = true) (hB : Region.lexB .any l.toArray = true)
    (h : wpQuiet P l.toArray (fun w' => ∃ i : Later w, w' = i.W) (fun a' => ∀ w', (∃ i : Later w, w' = i.W) → Q .normal a' w') l a) : (Code.region id l.toArray true).wp P Q a w :=
  wp_region_quiet (C := fun w' => ∃ i : Later w, w' = i.W) hm hB ⟨⟨_, (Ext.refl w).drew⟩, rfl⟩ (by simpa using h)
theorem Later.calls {P : Program} {f : FuncId} {args : Array Value} {w : World} {i : Later w} {v : Value} (h : Calls P f args i.W fun e w' => e = .returned v ∧ Ext i.W w') :
    Calls P f args i.W fun e w'' => e = .returned v ∧ ∃ j : Later w, w'' = j.W := h.mono fun _ _ ⟨he, hx⟩ => ⟨he, ⟨_, i.ext.trans hx⟩, rfl⟩
theorem Later.cell {w : World} (i : Later w) {p : Addr} {v : Value} (h : w.cell? p = some v) : i.W.cell? p = some v := i.ext.cell h
end Go.Proofs.YtfpmfegmehbfbaaGreatDoor
