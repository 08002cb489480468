/- Plain: the field of 2^61 - 1. No program in sight. -/
import Derived.Test.YtbomfnlipbdigaaCyLaw
namespace Go.Proofs.Ytbomfnlipbdigaa

theorem and_P (a : Nat) : a &&& 2305843009213693951 = a % 2305843009213693952 := Nat.and_two_pow_sub_one_eq_mod a 61

/-- The two words' number, folded: 2^61 is 1. -/
theorem fold_step (x n m : Nat) (hx : x < 5316911983139663491615228241121378304) (hn : n = x % 2305843009213693952 + x / 2305843009213693952) (hm : m = n % 2305843009213693952 + n / 2305843009213693952) :
    n < 4611686018427387904 ∧ m ≤ 2305843009213693951 ∧ (if 2305843009213693951 ≤ m then m - 2305843009213693951 else m) = x % bP := by
  have h1 : x / 2305843009213693952 < 2305843009213693952 := by
    rw [Nat.div_lt_iff_lt_mul (by omega)]; exact hx
  have h2 : x % 2305843009213693952 < 2305843009213693952 := Nat.mod_lt _ (by omega)
  have h3 := Nat.div_add_mod x 2305843009213693952
  generalize x / 2305843009213693952 = q at *
  generalize x % 2305843009213693952 = r at *
  subst h3
  have h4 : n / 2305843009213693952 ≤ 1 := by omega
  have h5 : m ≤ 2305843009213693951 := by omega
  refine ⟨by omega, h5, ?_⟩
  have e1 : (2305843009213693952 * q + r) % bP = (r + q) % bP := by
    have : 2305843009213693952 * q + r = r + q + bP * q := by unfold bP; omega
    rw [this, Nat.add_mul_mod_self_left]
  have e2 : (r + q) % bP = m % bP := by
    rw [← hn]
    have hd := Nat.div_add_mod n 2305843009213693952
    have : n = m + bP * (n / 2305843009213693952) := by unfold bP; omega
    conv => lhs; rw [this, Nat.add_mul_mod_self_left]
  rw [e1, e2]
  split
  · have : m = bP := by unfold bP; omega
    rw [this, Nat.mod_self]; unfold bP; omega
  · rw [Nat.mod_eq_of_lt (by unfold bP; omega)]

theorem fold_two (hi lo : Nat) (hlo : lo < 18446744073709551616) :
    (hi * 18446744073709551616 + lo) / 2305843009213693952 = hi * 8 + lo / 2305843009213693952 ∧ (hi * 18446744073709551616 + lo) % 2305843009213693952 = lo % 2305843009213693952 ∧ hi * 8 ||| lo / 2305843009213693952 = hi * 8 + lo / 2305843009213693952 := by
  refine ⟨by omega, by omega, ?_⟩
  have h : lo / 2305843009213693952 < 2 ^ 3 := by
    show lo / 2305843009213693952 < 8
    omega
  have e := Nat.two_pow_add_eq_or_of_lt h hi
  rw [show (2 : Nat) ^ 3 = 8 from rfl] at e
  rw [Nat.mul_comm hi 8, ← e]

def subP (a b : Nat) : Nat := (a + (bP - b % bP)) % bP
end Go.Proofs.Ytbomfnlipbdigaa
