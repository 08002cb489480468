/- The document's answer for the layer 'cyclic' (greatsealref03), walked. -/
import Derived.Test.YtbomfnlipbdigaaBits
import Derived.Test.YtbomfnlipbdigaaCyMath
namespace Go.Proofs.Ytbomfnlipbdigaa
open Go.RowKit Go.Shelf

theorem addM_ge {a b m : Nat} (ha : a < m) (hb : b < m) (h : m - b ≤ a) : addM m a b = a - (m - b) := by
  unfold addM
  rw [show a + b = (a - (m - b)) + m by omega, Nat.add_mod_right, Nat.mod_eq_of_lt (by omega)]
theorem addM_lt {a b m : Nat} (h : a < m - b) : addM m a b = a + b := by
  unfold addM
  exact Nat.mod_eq_of_lt (by omega)

theorem ref_sum (a b m : Nat) (ha : a < m) (hb : b < m) (hm : m < 18446744073709551616) (w : World) :
    Calls Try.prog 61 #[.int .u64 a, .int .u64 b, .int .u64 m] w fun e w' => e = .returned (.int .u64 (addM m a b : Nat)) ∧ w = w' := by
  have z1 : (m : Int) < 18446744073709551616 := by omega
  have z2 : (b : Int) ≤ m := by omega
  by_cases h : m - b ≤ a
  · have e := addM_ge ha hb h
    have d : decide ((m : Int) - b ≤ a) = true := by simp; omega
    have z3 : (m : Int) - b ≤ a := by omega
    have E := Lib.hid e
    clear e h hm
    go_enter Try.func61, Try.ntmps61
    go_wp2
    go_ret
    exact ⟨ret_one (by rw [E.out]; omega), rfl⟩
  · have e := addM_lt (show a < m - b by omega)
    have d : decide ((m : Int) - b ≤ a) = false := by simp; omega
    have z3 : (a : Int) + b < m := by omega
    have E := Lib.hid e
    clear e h hm
    go_enter Try.func61, Try.ntmps61
    go_wp2
    go_ret
    exact ⟨ret_one (by rw [E.out]; omega), rfl⟩

/-- One bit more of b. -/
theorem times_step (a b m j : Nat) : addM m (addM m (b / 2 ^ (j + 1) * a % m) (b / 2 ^ (j + 1) * a % m)) (if b.testBit j then a else 0) = b / 2 ^ j * a % m := by
  have h := half_bit b j
  unfold addM
  rw [h]
  cases b.testBit j with
  | false =>
    simp only [Bool.false_eq_true, if_false, Bool.toNat_false, Nat.add_zero, Nat.mod_mod]
    rw [← Nat.add_mod]; congr 1; grind
  | true =>
    have e : (2 * (b / 2 ^ (j + 1)) + 1) * a = b / 2 ^ (j + 1) * a + b / 2 ^ (j + 1) * a + a := by grind
    simp only [if_true, Bool.toNat_true]
    rw [e, Nat.mod_add_mod, Nat.add_mod, ← Nat.add_mod (b / 2 ^ (j + 1) * a) (b / 2 ^ (j + 1) * a), ← Nat.add_mod]

theorem one_bit (b j : Nat) : bits .and .u64 ((b / 2 ^ j % 18446744073709551616 : Nat) : Int) 1 = ((b.testBit j).toNat : Int) := by
  have h := bits_and_u64_nat (b / 2 ^ j % 18446744073709551616) 1 (Nat.mod_lt _ (by omega)) (by omega)
  have e : b / 2 ^ j % 18446744073709551616 &&& 1 = (b.testBit j).toNat := by
    rw [Nat.and_one_is_mod, Nat.mod_mod_of_dvd _ (by omega), Nat.toNat_testBit]
  rw [e] at h
  exact h

set_option maxRecDepth 100000 in
theorem ref_times (a b m : Nat) (hm0 : 0 < m) (hb : b < 18446744073709551616) (hm : m < 18446744073709551616) (w : World) :
    Calls Try.prog 62 #[.int .u64 a, .int .u64 b, .int .u64 m] w fun e w' => e = .returned (.int .u64 (mulM m a b : Nat)) ∧ w = w' := by
  obtain ⟨x, hx⟩ : ∃ x, x = a % m := ⟨_, rfl⟩
  obtain ⟨y, hy⟩ : ∃ y, y = b % m := ⟨_, rfl⟩
  have k1 : (a : Int) % (m : Int) = (x : Int) := by rw [hx]; simp
  have k2 : (b : Int) % (m : Int) = (y : Int) := by rw [hy]; simp
  have hxm : x < m := by rw [hx]; exact Nat.mod_lt _ hm0
  have hym : y < m := by rw [hy]; exact Nat.mod_lt _ hm0
  have hy64 : y < 2 ^ 64 := by show y < 18446744073709551616; omega
  have E : y * x % m = mulM m a b := by rw [hx, hy, ← Nat.mul_mod]; unfold mulM; rw [Nat.mul_comm]
  have m0 : ((m : Int) == 0) = false := by simp; omega
  have cs : ∀ u v w, u < m → v < m → Calls Try.prog 61 #[.int .u64 (u : Nat), .int .u64 (v : Nat), .int .u64 m] w fun e w' => e = .returned (.int .u64 (addM m u v : Nat)) ∧ w = w' := fun u v w hu hv => ref_sum u v m hu hv hm w
  have H := Lib.hid (And.intro hx (And.intro hy (And.intro hm (And.intro hb (And.intro hy64 (And.intro hxm (And.intro hym E)))))))
  clear hx hy hm hb hy64 hxm hym E
  go_enter Try.func62, Try.ntmps62
  go_wp2
  simp only [k1, k2]
  clear k1 k2
  go_loopg [7, 8] 64 (fun g o i wr => wr = w ∧ o = .int .u64 ((y / 2 ^ g * x % m : Nat) : Int) ∧ i = .int .i64 ((g : Int) - 1) ∧ g ≤ 64)
  case atStart =>
    refine ⟨rfl, int_congr ?_, rfl, by omega⟩
    rw [Nat.div_eq_of_lt H.out.2.2.2.2.1]; simp
  case round =>
    obtain ⟨rfl, rfl, rfl, hg⟩ := hrel
    obtain ⟨g, rfl⟩ : ∃ g, g = gk := ⟨_, rfl⟩
    obtain ⟨hx, hy, hm, hb, hy64, hxm, hym, E⟩ := H.out
    by_cases h0 : g = 0
    · subst h0
      have e : y / 2 ^ 0 * x % m = mulM m a b := by rw [Nat.pow_zero, Nat.div_one, E]
      rw [e]
      clear e E hb hy64 hm hxm hym hx hy
      go_wp2
      go_ret
      exact ⟨rfl, rfl⟩
    · obtain ⟨j, rfl⟩ : ∃ j, g = j + 1 := ⟨g - 1, by omega⟩
      have hst := times_step x y m j
      obtain ⟨o, ho⟩ : ∃ o, o = y / 2 ^ (j + 1) * x % m := ⟨_, rfl⟩
      have hom : o < m := by rw [ho]; exact Nat.mod_lt _ hm0
      rw [← ho] at hst ⊢
      obtain ⟨p, hp⟩ : ∃ p, p = addM m o o := ⟨_, rfl⟩
      have hpm : p < m := by rw [hp]; exact Nat.mod_lt _ hm0
      have c1 := fun w => cs o o w hom hom
      have c2 := fun w => cs p x w hpm hxm
      rw [← hp] at c1 hst
      have k3 : (y : Int) / 2 ^ j = ((y / 2 ^ j : Nat) : Int) := by simp
      have k4 : bits .and .u64 ((y / 2 ^ j : Nat) : Int) 1 = ((y.testBit j).toNat : Int) := by
        have := one_bit y j
        rwa [Nat.mod_eq_of_lt (Nat.lt_of_le_of_lt (Nat.div_le_self _ _) hy64)] at this
      obtain ⟨z, hz⟩ : ∃ z, z = y / 2 ^ j := ⟨_, rfl⟩
      rw [← hz] at k3 k4
      have hi : (((j + 1 : Nat) : Int) - 1) = (j : Int) := by omega
      rw [hi]
      have hj : j < 64 := by omega
      by_cases hbit : y.testBit j = true
      · rw [hbit] at hst k4
        have k5 : bits .and .u64 (z : Int) 1 = 1 := k4
        have HST := Lib.hid hst
        clear hst k4 hz ho hp hbit hi E hb hy64 hm hx hy cs
        go_wp2_with (first | (go_at_call 61; refine (c1 _).mono ?_; clear c1; rintro e w' ⟨rfl, rfl⟩) | (go_at_call 61; refine (c2 _).mono ?_; clear c2; rintro e w' ⟨rfl, rfl⟩))
        go_roundg j
        case measure => omega
        case rel => exact ⟨rfl, int_congr (by rw [← HST.out]; rfl), rfl, by omega⟩
      · rw [if_neg hbit] at hst
        have hbit : y.testBit j = false := by simpa using hbit
        rw [hbit] at k4
        have k5 : bits .and .u64 (z : Int) 1 = 0 := k4
        have hst2 : p = y / 2 ^ j * x % m := by
          rw [← hst]; unfold addM; rw [Nat.add_zero, Nat.mod_eq_of_lt hpm]
        have HST := Lib.hid hst2
        clear hst hst2 k4 hz ho hp hbit hi E hb hy64 hm hx hy cs
        go_wp2_with (go_at_call 61; refine (c1 _).mono ?_; clear c1; rintro e w' ⟨rfl, rfl⟩)
        go_roundg j
        case measure => omega
        case rel => exact ⟨rfl, int_congr (by rw [← HST.out]), rfl, by omega⟩

/-- One bit more of n. -/
theorem power_step (a m n j : Nat) : (if n.testBit j then mulM m (mulM m (a ^ (n / 2 ^ (j + 1)) % m) (a ^ (n / 2 ^ (j + 1)) % m)) a else mulM m (a ^ (n / 2 ^ (j + 1)) % m) (a ^ (n / 2 ^ (j + 1)) % m)) = a ^ (n / 2 ^ j) % m := by
  have h := stepM_pow m a (n / 2 ^ (j + 1)) (n.testBit j)
  rw [← half_bit n j] at h
  rw [← h]
  rfl

set_option maxRecDepth 100000 in
theorem ref_power (a n m : Nat) (hm1 : 1 < m) (ha : a < 18446744073709551616) (hn : n < 18446744073709551616) (hm : m < 18446744073709551616) (w : World) :
    Calls Try.prog 52 #[.int .u64 a, .int .u64 n, .int .u64 m] w fun e w' => e = .returned (.int .u64 (powM m a n : Nat)) ∧ w = w' := by
  have cs : ∀ u v w, v < 18446744073709551616 → Calls Try.prog 62 #[.int .u64 (u : Nat), .int .u64 (v : Nat), .int .u64 m] w fun e w' => e = .returned (.int .u64 (mulM m u v : Nat)) ∧ w = w' := fun u v w hv => ref_times u v m (by omega) hv hm w
  have hn64 : n < 2 ^ 64 := hn
  have H := Lib.hid (And.intro ha (And.intro hn (And.intro hm hn64)))
  clear ha hn hm hn64
  go_enter Try.func52, Try.ntmps52
  go_wp2
  go_loopg [7, 8] 64 (fun g o i wr => wr = w ∧ o = .int .u64 ((a ^ (n / 2 ^ g) % m : Nat) : Int) ∧ i = .int .i64 ((g : Int) - 1) ∧ g ≤ 64)
  case atStart =>
    refine ⟨rfl, int_congr ?_, rfl, by omega⟩
    rw [Nat.div_eq_of_lt H.out.2.2.2, Nat.pow_zero, Nat.mod_eq_of_lt hm1]; rfl
  case round =>
    obtain ⟨rfl, rfl, rfl, hg⟩ := hrel
    obtain ⟨g, rfl⟩ : ∃ g, g = gk := ⟨_, rfl⟩
    obtain ⟨ha, hn, hm, hn64⟩ := H.out
    by_cases h0 : g = 0
    · subst h0
      have e : a ^ (n / 2 ^ 0) % m = powM m a n := by rw [Nat.pow_zero, Nat.div_one]; rfl
      rw [e]
      clear e ha hn hm hn64
      go_wp2
      go_ret
      exact ⟨rfl, rfl⟩
    · obtain ⟨j, rfl⟩ : ∃ j, g = j + 1 := ⟨g - 1, by omega⟩
      have hst := power_step a m n j
      obtain ⟨o, ho⟩ : ∃ o, o = a ^ (n / 2 ^ (j + 1)) % m := ⟨_, rfl⟩
      have hom : o < m := by rw [ho]; exact Nat.mod_lt _ (by omega)
      rw [← ho] at hst ⊢
      obtain ⟨p, hp⟩ : ∃ p, p = mulM m o o := ⟨_, rfl⟩
      have c1 := fun w => cs o o w (by omega)
      have c2 := fun w => cs p a w ha
      rw [← hp] at c1 hst
      have k3 : (n : Int) / 2 ^ j = ((n / 2 ^ j : Nat) : Int) := by simp
      have k4 : bits .and .u64 ((n / 2 ^ j : Nat) : Int) 1 = ((n.testBit j).toNat : Int) := by
        have := one_bit n j
        rwa [Nat.mod_eq_of_lt (Nat.lt_of_le_of_lt (Nat.div_le_self _ _) hn64)] at this
      obtain ⟨z, hz⟩ : ∃ z, z = n / 2 ^ j := ⟨_, rfl⟩
      rw [← hz] at k3 k4
      have hi : (((j + 1 : Nat) : Int) - 1) = (j : Int) := by omega
      rw [hi]
      have hj : j < 64 := by omega
      by_cases hbit : n.testBit j = true
      · rw [if_pos hbit] at hst
        rw [hbit] at k4
        have k5 : bits .and .u64 (z : Int) 1 = 1 := k4
        have HST := Lib.hid hst
        clear hst k4 hz ho hp hbit hi ha hn hm hn64 cs hom
        go_wp2_with (first | (go_at_call 62; refine (c1 _).mono ?_; clear c1; rintro e w' ⟨rfl, rfl⟩) | (go_at_call 62; refine (c2 _).mono ?_; clear c2; rintro e w' ⟨rfl, rfl⟩))
        go_roundg j
        case measure => omega
        case rel => exact ⟨rfl, int_congr (by rw [← HST.out]), rfl, by omega⟩
      · rw [if_neg hbit] at hst
        have hbit : n.testBit j = false := by simpa using hbit
        rw [hbit] at k4
        have k5 : bits .and .u64 (z : Int) 1 = 0 := k4
        have HST := Lib.hid hst
        clear hst k4 hz ho hp hbit hi ha hn hm hn64 cs hom
        go_wp2_with (go_at_call 62; refine (c1 _).mono ?_; clear c1; rintro e w' ⟨rfl, rfl⟩)
        go_roundg j
        case measure => omega
        case rel => exact ⟨rfl, int_congr (by rw [← HST.out]), rfl, by omega⟩

/-! ### the exported ones -/
theorem rMul_any (a b : Nat) (hb : b < 18446744073709551616) (w : World) :
    Calls Try.prog 46 #[.int .u64 a, .int .u64 b] w fun e w' => e = .returned (.int .u64 (mulM bQ a b : Nat)) ∧ w = w' := by
  have c := fun w => ref_times a b bQ (by decide) hb (by decide) w
  go_enter Try.func46, Try.ntmps46
  go_wp2_with (go_at_call 62; refine (c _).mono ?_; rintro e w' ⟨rfl, rfl⟩)
  go_ret
  exact ⟨rfl, rfl⟩
theorem rMulR_any (a b : Nat) (hb : b < 18446744073709551616) (w : World) :
    Calls Try.prog 43 #[.int .u64 a, .int .u64 b] w fun e w' => e = .returned (.int .u64 (mulM bR a b : Nat)) ∧ w = w' := by
  have c := fun w => ref_times a b bR (by decide) hb (by decide) w
  go_enter Try.func43, Try.ntmps43
  go_wp2_with (go_at_call 62; refine (c _).mono ?_; rintro e w' ⟨rfl, rfl⟩)
  go_ret
  exact ⟨rfl, rfl⟩
theorem rPow_any (a n : Nat) (ha : a < 18446744073709551616) (hn : n < 18446744073709551616) (w : World) :
    Calls Try.prog 47 #[.int .u64 a, .int .u64 n] w fun e w' => e = .returned (.int .u64 (powM bQ a n : Nat)) ∧ w = w' := by
  have c := fun w => ref_power a n bQ (by decide) ha hn (by decide) w
  go_enter Try.func47, Try.ntmps47
  go_wp2_with (go_at_call 52; refine (c _).mono ?_; rintro e w' ⟨rfl, rfl⟩)
  go_ret
  exact ⟨rfl, rfl⟩
theorem rBase_any (n : Nat) (hn : n < 18446744073709551616) (w : World) :
    Calls Try.prog 34 #[.int .u64 n] w fun e w' => e = .returned (.int .u64 (powM bQ 4 n : Nat)) ∧ w = w' := by
  have c := fun w => ref_power 4 n bQ (by decide) (by decide) hn (by decide) w
  go_enter Try.func34, Try.ntmps34
  go_wp2_with (go_at_call 52; refine (c _).mono ?_; rintro e w' ⟨rfl, rfl⟩)
  go_ret
  exact ⟨rfl, rfl⟩
theorem rIn_any (x : Nat) (hx : x < 18446744073709551616) (w : World) :
    Calls Try.prog 45 #[.int .u64 x] w fun e w' => e = .returned (.bool (inB x)) ∧ w = w' := by
  have c := fun w => ref_power x bR bQ (by decide) hx (by decide) (by decide) w
  have hin : Hid (inB x = (decide (0 < x) && decide (x < bQ) && powM bQ x bR == 1)) := rfl
  by_cases h0 : 0 < x
  · have d0 : decide (0 < x) = true := by simpa using h0
    have d0' : decide (0 < (x : Int)) = true := by simp; omega
    by_cases h1 : x < bQ
    · have d1 : decide (x < 2305843009213691579) = true := by simpa [bQ] using h1
      have d1' : decide ((x : Int) < 2305843009213691579) = true := by unfold bQ at h1; simp; omega
      obtain ⟨p, hp⟩ : ∃ p, p = powM bQ x bR := ⟨_, rfl⟩
      rw [← hp] at c
      have hv : inB x = ((p : Int) == 1) := by
        have e2 : decide (x < bQ) = true := by simpa using h1
        rw [hin.out, d0, e2, ← hp, Bool.eq_iff_iff]
        simp
        omega
      have HV := Lib.hid hv
      clear hp h0 h1 hx hv
      go_enter Try.func45, Try.ntmps45
      go_wp2_with (go_at_call 52; refine (c _).mono ?_; rintro e w' ⟨rfl, rfl⟩)
      go_ret
      exact ⟨ret_bool HV.out.symm, rfl⟩
    · have d1 : decide (x < 2305843009213691579) = false := by simpa [bQ] using h1
      have d1' : decide ((x : Int) < 2305843009213691579) = false := by unfold bQ at h1; simp; omega
      have hv : inB x = false := by
        have e2 : decide (x < bQ) = false := by simpa using h1
        rw [hin.out, d0, e2]; rfl
      have HV := Lib.hid hv
      clear h0 h1 hx hv
      go_enter Try.func45, Try.ntmps45
      go_wp2
      go_ret
      exact ⟨ret_bool HV.out.symm, rfl⟩
  · obtain rfl : x = 0 := by omega
    have hv : inB 0 = false := by rw [hin.out]; rfl
    have HV := Lib.hid hv
    clear h0 hx hv
    go_enter Try.func45, Try.ntmps45
    go_wp2
    go_ret
    exact ⟨ret_bool HV.out.symm, rfl⟩

theorem rAddR_any (a b : Nat) (w : World) :
    Calls Try.prog 42 #[.int .u64 a, .int .u64 b] w fun e w' => e = .returned (.int .u64 (addM bR a b : Nat)) ∧ w = w' := by
  obtain ⟨x, hx⟩ : ∃ x, x = a % bR := ⟨_, rfl⟩
  obtain ⟨y, hy⟩ : ∃ y, y = b % bR := ⟨_, rfl⟩
  have k1 : (a : Int) % 1152921504606845789 = (x : Int) := by rw [hx]; simp [bR]
  have k2 : (b : Int) % 1152921504606845789 = (y : Int) := by rw [hy]; simp [bR]
  have c := fun w => ref_sum x y bR (by rw [hx]; exact Nat.mod_lt _ (by decide)) (by rw [hy]; exact Nat.mod_lt _ (by decide)) (by decide) w
  have e : addM bR x y = addM bR a b := by rw [hx, hy]; simp [addM]
  rw [e] at c
  clear hx hy e
  go_enter Try.func42, Try.ntmps42
  go_wp2_with (go_at_call 61; refine (c _).mono ?_; rintro e w' ⟨rfl, rfl⟩)
  go_ret
  exact ⟨rfl, rfl⟩
end Go.Proofs.Ytbomfnlipbdigaa
