/- Plain: a round is undone. No program in sight. -/
import Derived.Test.YtckfifghipkedaaHaMath
import Derived.Test.YtckfifghipkedaaCyLaw
namespace Go.Proofs.Ytckfifghipkedaa
set_option linter.unusedVariables false

def und (r i a all : Nat) : Nat := subP (powM bP (subP a all) 1763291712928118903) ((3 * r + i + 1) * (3 * r + i + 1) * (3 * r + i + 1) + 7)
def undo (r : Nat) (s : Nat × Nat × Nat) : Nat × Nat × Nat :=
  let all := mulM bP 576460752303423488 (addM bP (addM bP s.1 s.2.1) s.2.2)
  (und r 0 s.1 all, und r 1 s.2.1 all, und r 2 s.2.2 all)
def red (s : Nat × Nat × Nat) : Nat × Nat × Nat := (s.1 % bP, s.2.1 % bP, s.2.2 % bP)

theorem pow_one_of (x n : Nat) (h0 : n ≠ 0) (h1 : n % (bP - 1) = 1) : powM bP x n = x % bP := by
  by_cases h : x % bP = 0
  · unfold powM; rw [Nat.pow_mod, h, Nat.zero_pow (Nat.pos_of_ne_zero h0)]; rfl
  · have e := powM_period (m := bP) (by decide) (powM_fermat pr_P h) n
    rw [h1] at e
    rw [← e]; unfold powM; rw [Nat.pow_one]
theorem pow_one_root (x : Nat) : powM bP x (17 * 1763291712928118903) = x % bP := pow_one_of x _ (by decide) (by decide)
theorem root_17 (x : Nat) : powM bP (p17 x) 1763291712928118903 = x % bP := by
  unfold p17; rw [powM_pow]; exact pow_one_root x
theorem p17_root (x : Nat) : p17 (powM bP x 1763291712928118903) = x % bP := by
  unfold p17; rw [powM_pow, Nat.mul_comm]; exact pow_one_root x
theorem sub_add (x y : Nat) : subP (addM bP x y) y = x % bP := by unfold subP addM bP; omega
theorem add_sub (x y : Nat) : addM bP (subP x y) y = x % bP := by unfold subP addM bP; omega
theorem powM_mod' (x n : Nat) : powM bP (x % bP) n = powM bP x n := by unfold powM; rw [← Nat.pow_mod]
theorem p17_mod (x : Nat) : p17 (x % bP) = p17 x := powM_mod' x 17
theorem addM_mod1 (x y : Nat) : addM bP (x % bP) y = addM bP x y := by unfold addM; rw [Nat.mod_add_mod]
theorem subP_lt (a b : Nat) : subP a b < bP := Nat.mod_lt _ (by decide)
theorem addP_lt (a b : Nat) : addM bP a b < bP := Nat.mod_lt _ (by decide)
theorem subP_mod (a b : Nat) : subP a b % bP = subP a b := Nat.mod_eq_of_lt (subP_lt a b)

theorem quarter_four (a : Nat) : mulM bP 576460752303423488 (4 * a % bP) = a % bP := by
  unfold mulM
  rw [Nat.mul_mod_mod, ← Nat.mul_assoc, show 576460752303423488 * 4 = bP + 1 by decide, Nat.add_mul, Nat.one_mul, Nat.mul_add_mod]
theorem four_quarter (a : Nat) : 4 * mulM bP 576460752303423488 a % bP = a % bP := by
  unfold mulM
  rw [Nat.mul_mod_mod, ← Nat.mul_assoc, show 4 * 576460752303423488 = bP + 1 by decide, Nat.add_mul, Nat.one_mul, Nat.mul_add_mod]
theorem sum_all (x y z : Nat) (hx : x < bP) (hy : y < bP) (hz : z < bP) (a : Nat) (ha : a = addM bP (addM bP x y) z) :
    addM bP (addM bP (addM bP x a) (addM bP y a)) (addM bP z a) = 4 * a % bP := by
  unfold addM bP at *; omega
theorem sum_sub (x y z q : Nat) (hq : q < bP) (h : 4 * q % bP = addM bP (addM bP x y) z % bP) :
    addM bP (addM bP (subP x q) (subP y q)) (subP z q) = q := by
  unfold addM subP bP at *; omega

theorem und_elem (r i a all : Nat) : und r i (addM bP (elem r i a) all) all = a % bP := by
  unfold und elem
  rw [sub_add, powM_mod', root_17]
  unfold subP addM bP; omega
theorem elem_und (r i a all : Nat) : elem r i (und r i a all) = subP a all := by
  unfold und elem
  rw [add_sub, p17_mod, p17_root, subP_mod]
theorem elem_lt (r i a : Nat) : elem r i a < bP := powM_lt (by decide) _ _
theorem undo_rnd (r : Nat) (s : Nat × Nat × Nat) : undo r (rnd r s) = red s := by
  obtain ⟨a, b, c⟩ := s
  unfold undo rnd
  simp only []
  rw [sum_all _ _ _ (elem_lt r 0 a) (elem_lt r 1 b) (elem_lt r 2 c) _ rfl, quarter_four, Nat.mod_eq_of_lt (addP_lt _ _), und_elem, und_elem, und_elem]
  rfl
theorem rnd_undo (r : Nat) (s : Nat × Nat × Nat) : rnd r (undo r s) = red s := by
  obtain ⟨a, b, c⟩ := s
  unfold undo rnd
  simp only [elem_und]
  rw [sum_sub a b c _ (mulM_lt (by decide) _ _) (four_quarter _), add_sub, add_sub, add_sub]
  rfl
theorem rnd_red (r : Nat) (s : Nat × Nat × Nat) : rnd r (red s) = rnd r s := by
  unfold rnd red elem
  simp only [addM_mod1]
theorem red_of_lt {s : Nat × Nat × Nat} (h : s.1 < bP ∧ s.2.1 < bP ∧ s.2.2 < bP) : red s = s := by
  unfold red; rw [Nat.mod_eq_of_lt h.1, Nat.mod_eq_of_lt h.2.1, Nat.mod_eq_of_lt h.2.2]
theorem rnds_lt' (k : Nat) (s : Nat × Nat × Nat) : (rnds (k + 1) s).1 < bP ∧ (rnds (k + 1) s).2.1 < bP ∧ (rnds (k + 1) s).2.2 < bP := ⟨addP_lt _ _, addP_lt _ _, addP_lt _ _⟩
theorem undo_lt (k : Nat) (s : Nat × Nat × Nat) : (undo k s).1 < bP ∧ (undo k s).2.1 < bP ∧ (undo k s).2.2 < bP := ⟨subP_lt _ _, subP_lt _ _, subP_lt _ _⟩
/-- Undone from the last round down to round k. -/
theorem undo_rnds (k : Nat) (s : Nat × Nat × Nat) : undo k (red (rnds (k + 1) s)) = red (rnds k s) := by
  rw [red_of_lt (rnds_lt' k s)]; exact undo_rnd k _
def undos : Nat → Nat × Nat × Nat → Nat × Nat × Nat
  | 0, s => s
  | n + 1, s => undo (7 - n) (undos n s)
theorem rnds_undos (s : Nat × Nat × Nat) : ∀ k, k ≤ 8 → rnds k (undos 8 s) = red (undos (8 - k) s)
  | 0, _ => (red_of_lt (undo_lt _ _)).symm
  | k + 1, h => by
    rw [rnds, rnds_undos s k (by omega), rnd_red, show 8 - k = (7 - k) + 1 by omega, undos, show 7 - (7 - k) = k by omega, rnd_undo, show 8 - (k + 1) = 7 - k by omega]
theorem mix_undos (s : Nat × Nat × Nat) : mix (undos 8 s) = red s := rnds_undos s 8 (Nat.le_refl 8)
theorem red_mix (s : Nat × Nat × Nat) : red (mix s) = mix s := red_of_lt (rnds_lt' 7 s)
end Go.Proofs.Ytckfifghipkedaa
