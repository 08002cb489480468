/- The layer 'field', walked: what the hash takes of it. -/
import Derived.Test.YtbomfnlipbdigaaBits
import Derived.Test.YtbomfnlipbdigaaFdMath
namespace Go.Proofs.Ytbomfnlipbdigaa
open Go.RowKit Go.Shelf

theorem fold_any (hi lo : Nat) (hhi : hi < 288230376151711744) (hlo : lo < 18446744073709551616) (w : World) :
    Calls Try.prog 84 #[.int .u64 hi, .int .u64 lo] w fun e w' => e = .returned (.int .u64 (((hi * 18446744073709551616 + lo) % bP : Nat) : Int)) ∧ w = w' := by
  obtain ⟨f1, f2, f3⟩ := fold_two hi lo hlo
  obtain ⟨q, hq⟩ : ∃ q, q = lo / 2305843009213693952 := ⟨_, rfl⟩
  obtain ⟨r, hr⟩ : ∃ r, r = lo % 2305843009213693952 := ⟨_, rfl⟩
  rw [← hq] at f1 f3
  rw [← hr] at f2
  have hq8 : q < 8 := by omega
  have hr61 : r < 2305843009213693952 := by omega
  obtain ⟨g1, g2, g3⟩ := fold_step (hi * 18446744073709551616 + lo) _ _ (by omega) rfl rfl
  rw [f1, f2] at g1 g2 g3
  obtain ⟨n, hn⟩ : ∃ n, n = r + (hi * 8 + q) := ⟨_, rfl⟩
  rw [← hn] at g1 g2 g3
  obtain ⟨a, ha⟩ : ∃ a, a = n % 2305843009213693952 := ⟨_, rfl⟩
  obtain ⟨b, hb⟩ : ∃ b, b = n / 2305843009213693952 := ⟨_, rfl⟩
  rw [← ha, ← hb] at g2 g3
  have k1 : bits .and .u64 (lo : Int) 2305843009213693951 = (r : Int) := by
    have := bits_and_u64_nat lo 2305843009213693951 hlo (by omega)
    rw [and_P, ← hr] at this; exact this
  have k2 : (lo : Int) / 2305843009213693952 = (q : Int) := by rw [hq]; simp
  have k3 : bits .or .u64 ((hi : Int) * 8) (q : Int) = (hi : Int) * 8 + q := by
    have := bits_or_u64_nat (hi * 8) q (by omega) (by omega)
    rw [f3] at this; simpa using this
  have k4 : (r : Int) + ((hi : Int) * 8 + (q : Int)) = (n : Int) := by omega
  have k5 : bits .and .u64 (n : Int) 2305843009213693951 = (a : Int) := by
    have := bits_and_u64_nat n 2305843009213693951 (by omega) (by omega)
    rw [and_P, ← ha] at this; exact this
  have k6 : (n : Int) / 2305843009213693952 = (b : Int) := by rw [hb]; simp
  have z1 : (hi : Int) < 288230376151711744 := by omega
  have z2 : (q : Int) < 8 := by omega
  have z3 : (r : Int) < 2305843009213693952 := by omega
  have z4 : (a : Int) + b ≤ 2305843009213693951 := by omega
  have z5 : (r : Int) + ((hi : Int) * 8 + (q : Int)) < 4611686018427387904 := by omega
  by_cases h : 2305843009213693951 ≤ a + b
  · rw [if_pos h] at g3
    have d : decide (2305843009213693951 ≤ (a : Int) + (b : Int)) = true := by simp; omega
    have z6 : 2305843009213693951 ≤ (a : Int) + (b : Int) := by omega
    have G := Lib.hid g3
    clear f1 f2 f3 hq hr hq8 hr61 g1 g2 g3 hn ha hb h hhi hlo
    go_enter Try.func84, Try.ntmps84
    go_wp2
    go_ret
    exact ⟨ret_one (by rw [← G.out]; omega), rfl⟩
  · rw [if_neg h] at g3
    have d : decide (2305843009213693951 ≤ (a : Int) + (b : Int)) = false := by simp; omega
    have G := Lib.hid g3
    clear f1 f2 f3 hq hr hq8 hr61 g1 g2 g3 hn ha hb h hhi hlo
    go_enter Try.func84, Try.ntmps84
    go_wp2
    go_ret
    exact ⟨ret_one (by rw [← G.out]; omega), rfl⟩

theorem one_any (a : Nat) (ha : a < 18446744073709551616) (w : World) :
    Calls Try.prog 77 #[.int .u64 a] w fun e w' => e = .returned (.int .u64 ((a % bP : Nat) : Int)) ∧ w = w' := by
  have c := fun w => fold_any 0 a (by omega) ha w
  rw [Nat.zero_mul, Nat.zero_add] at c
  go_enter Try.func77, Try.ntmps77
  go_wp2_with (go_at_call 84; refine (c _).mono ?_; rintro e w' ⟨rfl, rfl⟩)
  go_ret
  exact ⟨rfl, rfl⟩

theorem fAdd_any (a b : Nat) (ha : a < 18446744073709551616) (hb : b < 18446744073709551616) (w : World) :
    Calls Try.prog 71 #[.int .u64 a, .int .u64 b] w fun e w' => e = .returned (.int .u64 (addM bP a b : Nat)) ∧ w = w' := by
  obtain ⟨x, hx⟩ : ∃ x, x = a % bP := ⟨_, rfl⟩
  obtain ⟨y, hy⟩ : ∃ y, y = b % bP := ⟨_, rfl⟩
  have hx1 : x < bP := by rw [hx]; exact Nat.mod_lt _ (by decide)
  have hy1 : y < bP := by rw [hy]; exact Nat.mod_lt _ (by decide)
  have z1 : (x : Int) < 2305843009213693951 := by unfold bP at *; omega
  have z2 : (y : Int) < 2305843009213693951 := by unfold bP at *; omega
  have c1 := fun w => one_any a ha w
  have c2 := fun w => one_any b hb w
  have c3 := fun w => one_any (x + y) (by unfold bP at *; omega) w
  rw [← hx] at c1
  rw [← hy] at c2
  rw [show (x + y) % bP = addM bP a b by rw [hx, hy]; simp [addM]] at c3
  clear hx hy hx1 hy1 ha hb
  go_enter Try.func71, Try.ntmps71
  go_wp2_with (first | (go_at_call 77; refine (c1 _).mono ?_; clear c1; rintro e w' ⟨rfl, rfl⟩) | (go_at_call 77; refine (c2 _).mono ?_; clear c2; rintro e w' ⟨rfl, rfl⟩) | (go_at_call 77; refine (c3 _).mono ?_; clear c3; rintro e w' ⟨rfl, rfl⟩))
  go_ret
  exact ⟨rfl, rfl⟩

theorem fMul_any (a b : Nat) (ha : a < 18446744073709551616) (hb : b < 18446744073709551616) (w : World) :
    Calls Try.prog 85 #[.int .u64 a, .int .u64 b] w fun e w' => e = .returned (.int .u64 (mulM bP a b : Nat)) ∧ w = w' := by
  obtain ⟨x, hx⟩ : ∃ x, x = a % bP := ⟨_, rfl⟩
  obtain ⟨y, hy⟩ : ∃ y, y = b % bP := ⟨_, rfl⟩
  have hx1 : x < 2305843009213693951 := by rw [hx]; exact Nat.mod_lt _ (by decide)
  have hy1 : y < 2305843009213693951 := by rw [hy]; exact Nat.mod_lt _ (by decide)
  obtain ⟨hi, hhi⟩ : ∃ hi, hi = x * y / 18446744073709551616 := ⟨_, rfl⟩
  obtain ⟨lo, hlo⟩ : ∃ lo, lo = x * y % 18446744073709551616 := ⟨_, rfl⟩
  have hxy : x * y < 2305843009213693952 * 2305843009213693952 := Nat.mul_lt_mul'' (by omega) (by omega)
  have b1 : hi < 288230376151711744 := by
    rw [hhi, Nat.div_lt_iff_lt_mul (by omega)]; omega
  have b2 : lo < 18446744073709551616 := by rw [hlo]; exact Nat.mod_lt _ (by omega)
  have c1 := fun w => one_any a ha w
  have c2 := fun w => one_any b hb w
  rw [← hx] at c1
  rw [← hy] at c2
  have c3 : ∀ w, Calls Try.prog 56 #[.int .u64 (x : Int), .int .u64 (y : Int)] w fun e w' => e = .returned (.tuple #[.int .u64 (hi : Int), .int .u64 (lo : Int)]) ∧ w = w' := fun w => by
    rw [hhi, hlo]; exact (Try.bits_Mul64 x y (by omega) (by omega) w).mono fun e w' ⟨he, hw⟩ => ⟨he, hw.symm⟩
  have e : (hi * 18446744073709551616 + lo) % bP = mulM bP a b := by
    have := Nat.div_add_mod (x * y) 18446744073709551616
    rw [show hi * 18446744073709551616 + lo = x * y by rw [hhi, hlo]; omega, hx, hy, ← Nat.mul_mod]; rfl
  have c4 := fun w => e ▸ fold_any hi lo b1 b2 w
  clear hx hy hx1 hy1 hhi hlo hxy b1 b2 e ha hb
  go_enter Try.func85, Try.ntmps85
  go_wp2_with (first | (go_at_call 77; refine (c1 _).mono ?_; clear c1; rintro e w' ⟨rfl, rfl⟩) | (go_at_call 77; refine (c2 _).mono ?_; clear c2; rintro e w' ⟨rfl, rfl⟩) | (go_at_call 56; refine (c3 _).mono ?_; clear c3; rintro e w' ⟨rfl, rfl⟩) | (go_at_call 84; refine (c4 _).mono ?_; clear c4; rintro e w' ⟨rfl, rfl⟩))
  go_ret
  exact ⟨rfl, rfl⟩
end Go.Proofs.Ytbomfnlipbdigaa
