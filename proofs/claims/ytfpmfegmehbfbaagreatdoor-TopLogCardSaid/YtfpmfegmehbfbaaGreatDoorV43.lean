/- Parts of the proofs, put together: Tl2. -/
import Derived.Test.YtfpmfegmehbfbaaGreatDoorV39
import Derived.Test.YtfpmfegmehbfbaaGreatDoorV42
/- TopLog, walked: whatever the input. -/
namespace Go.Proofs.YtfpmfegmehbfbaaGreatDoor
set_option linter.unusedVariables false
set_option linter.unusedSimpArgs false
open Go.RowKit Go.Shelf Go.Maps

theorem walk_TopLog (A0 : Option Addr) (c0 : Nat) (y0 : List Nat) (A1 : Option Addr) (c1 : Nat) (y1 : List (List Nat)) (u0 : y0.length ≤ c0) (b0 : c0 ≤ 140737488351232) (t0 : ∀ x ∈ y0, x < 256) (u1 : y1.length ≤ c1) (b1 : c1 * 24 ≤ 140737488351232) (z1 : ∀ p ∈ y1, p.length ≤ 140737488351232) (t1 : ∀ p ∈ y1, ∀ x ∈ p, x < 256)
    (W : World) (r0 : Reads W W.heap.size 1 A0 y0.length (bv y0)) (r1 : Parts W W.heap.size A1 y1) (hk : KindsW W) (hT : TabW W) :
    Calls Tryz.prog 4 #[.slice A0 y0.length c0, .slice A1 y1.length c1] W fun e w' => e = .returned (.bool true) ∧ Ext W w' := by
  by_cases h : y0.length ≤ 200 ∧ fewB y1 = true
  · obtain ⟨h1, h2⟩ := h
    have hf := of_decide_eq_true h2
    have cF := fun W' (x : Ext W W') => filled_few y0 t0 h1 A0 c0 u0 y1 hf.1 (fun b hb => ⟨hf.2 b hb, t1 b hb⟩) A1 c1 W' ((r0.below x.out).more x.size) (partsMoreT (r1.below x.out) x.size)
    by_cases hall : ∀ b ∈ y1, 0 < b.length
    · refine tl_good (secN y0) y1 hf.1 (fun b hb => ⟨hall b hb, hf.2 b hb, t1 b hb⟩) y0.length A0 c0 A1 c1 W hk r1 fun W' x => (cF W' x).mono fun e w' hh => ?_
      rcases hh with ⟨-, d, A', c', he, hL, hkey, hws, hen, -, hpr, hx⟩ | ⟨hno, -⟩
      · exact ⟨d, A', c', he, hL, hkey, hws, hen, hpr, hx⟩
      · exact absurd hall hno
    · refine tl_bad y0 A0 c0 y1 A1 c1 W hk fun W' x => (cF W' x).mono fun e w' hh => ?_
      rcases hh with ⟨hy, -⟩ | ⟨-, he, hx⟩
      · exact absurd hy hall
      · exact ⟨he, hx⟩
  · exact tl_bad y0 A0 c0 y1 A1 c1 W hk fun W' x => filled_many y0 (by omega) A0 c0 y1 (by omega) z1 A1 c1 W' (partsMoreT (r1.below x.out) x.size) h
end Go.Proofs.YtfpmfegmehbfbaaGreatDoor
