/- Parts of the proofs, put together: Held. -/
import Derived.Deep.RegionHeld3
import Derived.Test.YtfpmfegmehbfbaaGreatDoorZ3
/- A region that draws its order, walked operation by operation under a condition on the world that may grow on the way. -/
namespace Go.Proofs.YtfpmfegmehbfbaaGreatDoor
set_option linter.unusedVariables false
set_option linter.unusedSimpArgs false
open Go.RowKit

section
variable {P : Program} {ops : Array Oper} {Q : Exit → Act → World → Prop} {S : World → Prop}
theorem held_start {id n : Nat} {ls : Array Bool} {a : Act} {w : World} (S : World → Prop) (hm : P.follows .mixedOrders = true) (hn : ops.size = n) (h0 : Array.replicate ops.size false = ls) (hS : S w.drew)
    (h : S w.drew → wpAnyH P .any ops (NoPanic Q) S n ls a w.drew) : (Code.region id ops true).wp P Q a w := by
  refine wp_region_noPanic (wp_region_held_drew (S := S) hm hS fun hs => ?_)
  rw [h0, hn]
  exact h hs
theorem held_take {i : Nat} {oi : Oper} (d : Option Tmp) {v : Value} {fuel : Nat} {ls ls' : Array Bool} {a : Act} {w : World} (hi : ops[i]? = some oi) (hd : oi.dst = d) (hs : Region.noSelect ops = true) (hf : Region.free .any ops ls i = true) (hr : (Region.ready .any ops ls).contains i = true)
    (hl : ls.setIfInBounds i true = ls') (hw : Region.wanted oi (yielded ops a.tmps) = true) (hy : ∀ w, S w → (execOp a.eval oi).run P w = .ok (.value v) w) (hS : S w) (h : wpAnyH P .any ops (NoPanic Q) S fuel ls' (a.put d v) w) :
    wpAnyH P .any ops (NoPanic Q) S (fuel + 1) ls a w := by
  subst hl hd
  exact wpAnyH_take hi hs hf hr (fun _ _ _ h => h) (.inl ⟨hw, hy⟩) hS h
theorem held_call {i : Nat} {o : Oper} {fuel : Nat} {ls ls' : Array Bool} {a : Act} {w : World} (hi : ops[i]? = some o) (hr : Region.ready .any ops ls = [i]) (hl : ls.setIfInBounds i true = ls') (hw : Region.wanted o (yielded ops a.tmps) = true)
    (h : ∀ K : Act → World → Prop, (∀ a w, S w → wpAnyH P .any ops (NoPanic Q) S fuel ls' a w → K a w) → o.wp P a w K (NoPanic Q)) : wpAnyH P .any ops (NoPanic Q) S (fuel + 1) ls a w := by
  subst hl
  refine ⟨(fun h0 => by rw [hr] at h0; cases h0), (fun j hj => ?_)⟩
  rw [hr] at hj
  obtain rfl : j = i := by simpa using hj
  unfold wpOp
  simp only [hi, hw, if_true]
  exact .inl (h _ fun a w h1 h2 => ⟨h1, h2⟩)
theorem held_done {fuel : Nat} {ls : Array Bool} {a : Act} {w : World} (hr : Region.ready .any ops ls = []) (h : Q .normal a w) : wpAnyH P .any ops (NoPanic Q) S fuel ls a w := wpAnyH_done hr (NoPanic.normal h) fuel
end
end Go.Proofs.YtfpmfegmehbfbaaGreatDoor
