/- Parts of the proofs, put together: FdMath, HaMath, MkP, RevP. -/
import Derived.Test.YtfpmfegmehbfbaaGreatDoorZ1
/- Plain: the field of 2^61 - 1. No program in sight. -/
namespace Go.Proofs.YtfpmfegmehbfbaaGreatDoor

theorem and_P (a : Nat) : a &&& 2305843009213693951 = a % 2305843009213693952 := Nat.and_two_pow_sub_one_eq_mod a 61

/-- The two words' number, folded: 2^61 is 1. -/
theorem fold_step (x n m : Nat) (hx : x < 5316911983139663491615228241121378304) (hn : n = x % 2305843009213693952 + x / 2305843009213693952) (hm : m = n % 2305843009213693952 + n / 2305843009213693952) :
    n < 4611686018427387904 ∧ m ≤ 2305843009213693951 ∧ (if 2305843009213693951 ≤ m then m - 2305843009213693951 else m) = x % bP := by
  have h1 : x / 2305843009213693952 < 2305843009213693952 := by
    rw [Nat.div_lt_iff_lt_mul (by omega)]; exact hx
  have h2 : x % 2305843009213693952 < 2305843009213693952 := Nat.mod_lt _ (by omega)
  have h3 := Nat.div_add_mod x 2305843009213693952
  generalize x / 2305843009213693952 = q at *
  generalize x % 2305843009213693952 = r at *
  subst h3
  have h4 : n / 2305843009213693952 ≤ 1 := by omega
  have h5 : m ≤ 2305843009213693951 := by omega
  refine ⟨by omega, h5, ?_⟩
  have e1 : (2305843009213693952 * q + r) % bP = (r + q) % bP := by
    have : 2305843009213693952 * q + r = r + q + bP * q := by unfold bP; omega
    rw [this, Nat.add_mul_mod_self_left]
  have e2 : (r + q) % bP = m % bP := by
    rw [← hn]
    have hd := Nat.div_add_mod n 2305843009213693952
    have : n = m + bP * (n / 2305843009213693952) := by unfold bP; omega
    conv => lhs; rw [this, Nat.add_mul_mod_self_left]
  rw [e1, e2]
  split
  · have : m = bP := by unfold bP; omega
    rw [this, Nat.mod_self]; unfold bP; omega
  · rw [Nat.mod_eq_of_lt (by unfold bP; omega)]

theorem fold_two (hi lo : Nat) (hlo : lo < 18446744073709551616) :
    (hi * 18446744073709551616 + lo) / 2305843009213693952 = hi * 8 + lo / 2305843009213693952 ∧ (hi * 18446744073709551616 + lo) % 2305843009213693952 = lo % 2305843009213693952 ∧ hi * 8 ||| lo / 2305843009213693952 = hi * 8 + lo / 2305843009213693952 := by
  refine ⟨by omega, by omega, ?_⟩
  have h : lo / 2305843009213693952 < 2 ^ 3 := by
    show lo / 2305843009213693952 < 8
    omega
  have e := Nat.two_pow_add_eq_or_of_lt h hi
  rw [show (2 : Nat) ^ 3 = 8 from rfl] at e
  rw [Nat.mul_comm hi 8, ← e]

end Go.Proofs.YtfpmfegmehbfbaaGreatDoor

/- Plain: the hash. No program in sight. -/
namespace Go.Proofs.YtfpmfegmehbfbaaGreatDoor

/-- x, squared k times. -/
def sqs (x : Nat) : Nat → Nat
  | 0 => x
  | k + 1 => mulM bP (sqs x k) (sqs x k)
theorem sqs_lt {x : Nat} (hx : x < 18446744073709551616) (k : Nat) : sqs x k < 18446744073709551616 := by
  cases k with
  | zero => exact hx
  | succ k => exact Nat.lt_of_lt_of_le (mulM_lt (m := bP) (by decide) _ _) (by decide)
theorem sqs_pow (x k : Nat) : sqs x (k + 1) = powM bP x (2 ^ (k + 1)) := by
  induction k with
  | zero => show mulM bP x x = _; unfold mulM powM; rw [show 2 ^ (0 + 1) = 2 from rfl, Nat.pow_two]
  | succ k ih => rw [sqs, ih, powM_add]; congr 1; rw [Nat.pow_succ 2 (k + 1)]; omega
/-- The power 17. -/
def p17 (x : Nat) : Nat := powM bP x 17
theorem sqs_17 (x : Nat) : mulM bP x (sqs x 4) = p17 x := by
  rw [sqs_pow, mulM_comm, powM_succ]; rfl

/-- One element of a round: i of round r. -/
def elem (r i a : Nat) : Nat := p17 (addM bP a ((3 * r + i + 1) * (3 * r + i + 1) * (3 * r + i + 1) + 7))
/-- One round. -/
def rnd (r : Nat) (s : Nat × Nat × Nat) : Nat × Nat × Nat :=
  let x := elem r 0 s.1; let y := elem r 1 s.2.1; let z := elem r 2 s.2.2
  let all := addM bP (addM bP x y) z
  (addM bP x all, addM bP y all, addM bP z all)
/-- The first k rounds. -/
def rnds : Nat → Nat × Nat × Nat → Nat × Nat × Nat
  | 0, s => s
  | k + 1, s => rnd k (rnds k s)
def mix (s : Nat × Nat × Nat) : Nat × Nat × Nat := rnds 8 s
end Go.Proofs.YtfpmfegmehbfbaaGreatDoor

/- Plain: trees of hashes: roots, what proves that a leaf is in a tree, or that a tree has grown. No program in sight. -/
namespace Go.Proofs.YtfpmfegmehbfbaaGreatDoor
set_option linter.unusedVariables false
set_option linter.unusedSimpArgs false

section
variable {S : Type} (pr : S → S → S) (z : S)
variable {α : Type} (le ri : α → S → α)
end

section
variable {S : Type} (pr : S → S → S) (z : S)
end
end Go.Proofs.YtfpmfegmehbfbaaGreatDoor

/- Plain: a row that is turned about in place, from both ends inward. No program in sight. -/
namespace Go.Proofs.YtfpmfegmehbfbaaGreatDoor
set_option linter.unusedVariables false
set_option linter.unusedSimpArgs false
section
variable {α : Type}
end
end Go.Proofs.YtfpmfegmehbfbaaGreatDoor
