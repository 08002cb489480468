/- Plain: the hash. No program in sight. -/
import Derived.Test.YtbomfnlipbdigaaFdMath
namespace Go.Proofs.Ytbomfnlipbdigaa

/-- x, squared k times. -/
def sqs (x : Nat) : Nat → Nat
  | 0 => x
  | k + 1 => mulM bP (sqs x k) (sqs x k)
theorem sqs_lt {x : Nat} (hx : x < 18446744073709551616) (k : Nat) : sqs x k < 18446744073709551616 := by
  cases k with
  | zero => exact hx
  | succ k => exact Nat.lt_of_lt_of_le (mulM_lt (m := bP) (by decide) _ _) (by decide)
theorem sqs_pow (x k : Nat) : sqs x (k + 1) = powM bP x (2 ^ (k + 1)) := by
  induction k with
  | zero => show mulM bP x x = _; unfold mulM powM; rw [show 2 ^ (0 + 1) = 2 from rfl, Nat.pow_two]
  | succ k ih => rw [sqs, ih, powM_add]; congr 1; rw [Nat.pow_succ 2 (k + 1)]; omega
/-- The power 17. -/
def p17 (x : Nat) : Nat := powM bP x 17
theorem sqs_17 (x : Nat) : mulM bP x (sqs x 4) = p17 x := by
  rw [sqs_pow, mulM_comm, powM_succ]; rfl

/-- One element of a round: i of round r. -/
def elem (r i a : Nat) : Nat := p17 (addM bP a ((3 * r + i + 1) * (3 * r + i + 1) * (3 * r + i + 1) + 7))
/-- One round. -/
def rnd (r : Nat) (s : Nat × Nat × Nat) : Nat × Nat × Nat :=
  let x := elem r 0 s.1; let y := elem r 1 s.2.1; let z := elem r 2 s.2.2
  let all := addM bP (addM bP x y) z
  (addM bP x all, addM bP y all, addM bP z all)
/-- The first k rounds. -/
def rnds : Nat → Nat × Nat × Nat → Nat × Nat × Nat
  | 0, s => s
  | k + 1, s => rnd k (rnds k s)
def mix (s : Nat × Nat × Nat) : Nat × Nat × Nat := rnds 8 s
end Go.Proofs.Ytbomfnlipbdigaa
