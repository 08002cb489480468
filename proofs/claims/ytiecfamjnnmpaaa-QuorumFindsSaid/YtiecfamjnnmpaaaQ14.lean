/- Parts of the proofs, put together: HaRef. -/
import Derived.Deep.LoopGhost
import Derived.Test.YtiecfamjnnmpaaaQ1
import Derived.Test.YtiecfamjnnmpaaaQ2
/- The document's answer (greatsealref01, greatsealref02), walked: Add, Mul, raised. -/
namespace Go.Proofs.Ytiecfamjnnmpaaa
open Go.RowKit

/-- One step of the doubling. -/
theorem mul_step (o a b : Nat) : addM bP (if b % 2 = 1 then addM bP o a else o) (addM bP a a * (b / 2)) = addM bP o (a * b) := by
  have hb : b = 2 * (b / 2) + b % 2 := by omega
  have e0 : a * b = a * (b / 2) + a * (b / 2) + a * (b % 2) := by
    have : a * b = a * (2 * (b / 2) + b % 2) := by rw [← hb]
    rw [this]; grind
  unfold addM
  split
  · rename_i h
    rw [h, Nat.mul_one] at e0
    rw [e0, Nat.mod_add_mod, Nat.add_mod, Nat.mul_mod ((a + a) % bP), Nat.mod_mod, ← Nat.mul_mod, ← Nat.add_mod]
    congr 1; grind
  · rename_i h
    have h0 : b % 2 = 0 := by omega
    rw [h0, Nat.mul_zero] at e0
    rw [e0, Nat.add_mod, Nat.mul_mod ((a + a) % bP), Nat.mod_mod, ← Nat.mul_mod, ← Nat.add_mod]
    congr 1; grind

end Go.Proofs.Ytiecfamjnnmpaaa
