/- The layer 'cyclic', walked: each function's contract. -/
import Derived.Test.YtbomfnlipbdigaaRem
import Derived.Test.YtbomfnlipbdigaaCyMath
namespace Go.Proofs.Ytbomfnlipbdigaa
open Go.RowKit Go.Shelf

theorem cyAdd64_0 (x y : Nat) (w : World) : (callFunc 57 #[.int .u64 (x : Int), .int .u64 (y : Int), .int .u64 0]).run Try.prog w =
    .ok (.value (.tuple #[.int .u64 (((x + y) % 18446744073709551616 : Nat) : Int), .int .u64 (((x + y) / 18446744073709551616 : Nat) : Int)])) w := by
  have h := Any7.bits_Add64 Try.lays25 x y 0 (by decide) w
  rw [Nat.add_zero] at h
  exact h

/-- (ring).mul: the product modulo m. -/
theorem ring_mul (m a b : Nat) (h0 : 0 < m) (hm : m < 18446744073709551616) (ha : a < 18446744073709551616) (hb : b < 18446744073709551616) (w : World) :
    Calls Try.prog 49 #[.int .u64 m, .int .u64 a, .int .u64 b] w fun e w' => e = .returned (.int .u64 (mulM m a b : Nat)) ∧ ∃ n, w' = w.drewN n := by
  obtain ⟨hi, hhi⟩ : ∃ hi, hi = a * b / 18446744073709551616 := ⟨_, rfl⟩
  obtain ⟨lo, hlo⟩ : ∃ lo, lo = a * b % 18446744073709551616 := ⟨_, rfl⟩
  have b1 : hi < 18446744073709551616 := by
    rw [hhi, Nat.div_lt_iff_lt_mul (by omega)]; exact Nat.mul_lt_mul'' ha hb
  have b2 : lo < 18446744073709551616 := by rw [hlo]; exact Nat.mod_lt _ (by omega)
  have c1 : ∀ w, Calls Try.prog 56 #[.int .u64 (a : Int), .int .u64 (b : Int)] w fun e w' => e = .returned (.tuple #[.int .u64 (hi : Int), .int .u64 (lo : Int)]) ∧ w = w' := fun w => by
    rw [hhi, hlo]; exact (Try.bits_Mul64 a b ha hb w).mono fun e w' ⟨he, hw⟩ => ⟨he, hw.symm⟩
  have E : (hi * 18446744073709551616 + lo) % m = mulM m a b := by
    have := Nat.div_add_mod (a * b) 18446744073709551616
    have e : hi * 18446744073709551616 + lo = a * b := by rw [hhi, hlo]; omega
    rw [e]; rfl
  have c2 := fun w => E ▸ rem64 hi lo m h0 b1 b2 hm w
  clear E
  clear hhi hlo b1 b2 ha hb hm
  go_enter Try.func49, Try.ntmps49
  go_wp2_with (first | (go_at_call 56; refine (c1 _).mono ?_; rintro e w' ⟨rfl, rfl⟩) | (go_at_call 63; refine (c2 _).mono ?_; rintro e w' ⟨rfl, n, rfl⟩))
  go_ret
  exact ⟨rfl, _, rfl⟩

/-- (ring).add: the sum modulo m. -/
theorem ring_add (m a b : Nat) (h0 : 0 < m) (hm : m < 18446744073709551616) (w : World) :
    Calls Try.prog 48 #[.int .u64 m, .int .u64 a, .int .u64 b] w fun e w' => e = .returned (.int .u64 (addM m a b : Nat)) ∧ ∃ n, w' = w.drewN n := by
  obtain ⟨x, hx⟩ : ∃ x, x = a % m := ⟨_, rfl⟩
  obtain ⟨y, hy⟩ : ∃ y, y = b % m := ⟨_, rfl⟩
  have k1 : (a : Int) % (m : Int) = (x : Int) := by rw [hx]; simp
  have k2 : (b : Int) % (m : Int) = (y : Int) := by rw [hy]; simp
  have hxm : x < m := by rw [hx]; exact Nat.mod_lt _ h0
  have hym : y < m := by rw [hy]; exact Nat.mod_lt _ h0
  have c1 := fun w => cyAdd64_0 x y w
  obtain ⟨hi, hhi⟩ : ∃ hi, hi = (x + y) / 18446744073709551616 := ⟨_, rfl⟩
  obtain ⟨lo, hlo⟩ : ∃ lo, lo = (x + y) % 18446744073709551616 := ⟨_, rfl⟩
  rw [← hhi, ← hlo] at c1
  have E : (hi * 18446744073709551616 + lo) % m = addM m a b := by
    have e : hi * 18446744073709551616 + lo = x + y := by omega
    rw [e, hx, hy]; simp [addM]
  have c2 := fun w => E ▸ rem64 hi lo m h0 (by omega) (by omega) hm w
  clear E
  have m0 : ((m : Int) == 0) = false := by simp; omega
  clear hx hy hhi hlo hm hxm hym
  go_enter Try.func48, Try.ntmps48
  go_wp2
  go_quiet (fail)
  go_wp2_with (go_at_call 63; refine (c2 _).mono ?_; rintro e w' ⟨rfl, n, rfl⟩)
  go_ret
  exact ⟨rfl, _, rfl⟩

/-- (ring).inverse: m a prime. -/
theorem ring_inverse (m a : Nat) (hm : m < 4611686018427387904) (hp : Pr m) (w : World) :
    Calls Try.prog 51 #[.int .u64 m, .int .u64 a] w fun e w' => e = .returned (.tuple #[.int .u64 (invM m a : Nat), .int .i64 (invE m a : Nat)]) ∧ w = w' := by
  have h1 : 1 < m := hp.1
  have m0 : ((m : Int) == 0) = false := by simp; omega
  obtain ⟨x, hx⟩ : ∃ x, x = a % m := ⟨_, rfl⟩
  have k1 : (a : Int) % (m : Int) = (x : Int) := by rw [hx]; simp
  have hxm : x < m := by rw [hx]; exact Nat.mod_lt _ (by omega)
  by_cases h0 : x = 0
  · have ei : invM m a = 0 := by unfold invM; rw [if_pos (hx ▸ h0)]
    have ee : invE m a = 10 := by unfold invE; rw [if_pos (hx ▸ h0)]
    rw [ei, ee]
    subst h0
    clear hx hm hxm
    go_enter Try.func51, Try.ntmps51
    go_wp2
    go_ret2
    exact ⟨rfl, rfl⟩
  · have ee : invE m a = 0 := by unfold invE; rw [if_neg (hx ▸ h0)]
    have ha : a % m ≠ 0 := hx ▸ h0
    have G0 := GcdAt.start h1 hp ha
    rw [← hx] at G0
    have hG := Lib.hid G0
    have hA := Lib.hid ha
    have HM := Lib.hid hm
    have x0 : ((x : Int) == 0) = false := by simp; omega
    rw [ee]
    have x1 : (x : Int) < 4611686018427387904 := by omega
    have x2 : (m : Int) < 4611686018427387904 := by omega
    clear hx ha ee G0 hm
    go_enter Try.func51, Try.ntmps51
    go_wp2
    go_loop [6, 7, 8, 9, 10] (fun s6 s7 s8 s9 _ => ∃ x y : Nat, ∃ u v : Int, s6 = .int .u64 x ∧ s7 = .int .u64 y ∧ s8 = .int .i64 u ∧ s9 = .int .i64 v ∧ Hid (GcdAt m a x y u v) ∧ (-(m : Int) ≤ u ∧ u ≤ m)) (fun _ s7 _ _ _ => (intOf s7).toNat)
    case atStart => exact ⟨x, m, 1, 0, by rw [k1], rfl, rfl, rfl, hG, by omega, by omega⟩
    case round =>
      obtain ⟨x, y, u, v, rfl, rfl, rfl, rfl, HG, b1, b2⟩ := hrel
      have hg := HG.out
      have bv := hg.bounds
      have b3 := hg.xm
      have b4 := hg.ym
      by_cases hy : y = 0
      · subst hy
        obtain ⟨d1, d2⟩ := hg.done h1 hp hA.out ⟨b1, b2⟩
        have D := Lib.hid d2
        clear hg d2 k1
        by_cases hu : u < 0
        · have d3 := d1 hu
          clear d1
          go_wp2
          go_ret2
          exact ⟨ret_two (by rw [← D.out, if_pos hu]) rfl, rfl⟩
        · clear d1
          go_wp2
          go_ret2
          exact ⟨ret_two (by rw [← D.out, if_neg (by omega)]) rfl, rfl⟩
      · obtain ⟨hn, hle, hlt⟩ := hg.next (Nat.pos_of_ne_zero hy)
        have bn := hn.bounds
        obtain ⟨q, hq⟩ : ∃ q, q = x / y := ⟨_, rfl⟩
        have k3 : (x : Int) / (y : Int) = (q : Int) := by rw [hq]; simp
        have hqx : q ≤ x := by rw [hq]; exact Nat.div_le_self x y
        rw [← hq] at hn hle bn hlt
        obtain ⟨r, hr⟩ : ∃ r, r = q * y := ⟨_, rfl⟩
        have k4 : (q : Int) * (y : Int) = (r : Int) := by rw [hr]; simp
        rw [← hr] at hn hle hlt
        have HL := Lib.hid hlt
        obtain ⟨t, ht⟩ : ∃ t, t = (q : Int) * v := ⟨_, rfl⟩
        rw [← ht] at hn bn
        have HN := Lib.hid hn
        have y0 : ((y : Int) == 0) = false := by simp; omega
        have y0' : ((y : Int) != 0) = true := by simp; omega
        have k5 : (q : Int) * v = t := ht.symm
        have x3 : (x : Int) < 4611686018427387904 := by omega
        have x4 : (q : Int) < 4611686018427387904 := by omega
        have x5 : (r : Int) ≤ x := by omega
        obtain ⟨t1, t2⟩ : -(9223372036854775808 : Int) < t ∧ t < 9223372036854775808 := by omega
        have y1 : 1 ≤ (y : Int) := by omega
        clear hg hn hq hr ht k1 hle hqx hlt
        go_wp2
        go_round
        case rel => exact ⟨y, x - r, v, u - t, rfl, int_congr (by omega), rfl, rfl, HN, bv⟩
        case measure => have := HL.out; simp [intOf]; omega

/-! ### the exported functions of the two rings -/
theorem Mul_any (a b : Nat) (ha : a < 18446744073709551616) (hb : b < 18446744073709551616) (w : World) :
    Calls Try.prog 28 #[.int .u64 a, .int .u64 b] w fun e w' => e = .returned (.int .u64 (mulM bQ a b : Nat)) ∧ ∃ n, w' = w.drewN n := by
  have c := fun w => ring_mul bQ a b (by decide) (by decide) ha hb w
  go_enter Try.func28, Try.ntmps28
  go_wp2_with (go_at_call 49; refine (c _).mono ?_; rintro e w' ⟨rfl, n, rfl⟩)
  go_ret
  exact ⟨rfl, _, rfl⟩
theorem MulR_any (a b : Nat) (ha : a < 18446744073709551616) (hb : b < 18446744073709551616) (w : World) :
    Calls Try.prog 27 #[.int .u64 a, .int .u64 b] w fun e w' => e = .returned (.int .u64 (mulM bR a b : Nat)) ∧ ∃ n, w' = w.drewN n := by
  have c := fun w => ring_mul bR a b (by decide) (by decide) ha hb w
  go_enter Try.func27, Try.ntmps27
  go_wp2_with (go_at_call 49; refine (c _).mono ?_; rintro e w' ⟨rfl, n, rfl⟩)
  go_ret
  exact ⟨rfl, _, rfl⟩
theorem AddR_any (a b : Nat) (w : World) :
    Calls Try.prog 26 #[.int .u64 a, .int .u64 b] w fun e w' => e = .returned (.int .u64 (addM bR a b : Nat)) ∧ ∃ n, w' = w.drewN n := by
  have c := fun w => ring_add bR a b (by decide) (by decide) w
  go_enter Try.func26, Try.ntmps26
  go_wp2_with (go_at_call 48; refine (c _).mono ?_; rintro e w' ⟨rfl, n, rfl⟩)
  go_ret
  exact ⟨rfl, _, rfl⟩
theorem SubR_any (a b : Nat) (w : World) :
    Calls Try.prog 31 #[.int .u64 a, .int .u64 b] w fun e w' => e = .returned (.int .u64 (subM bR a b : Nat)) ∧ ∃ n, w' = w.drewN n := by
  have hlt : b % bR < bR := Nat.mod_lt _ (by decide)
  rw [show subM bR a b = addM bR a (bR - b % bR) from rfl]
  have c := fun w => ring_add bR a (bR - b % bR) (by decide) (by decide) w
  have k0 : (b : Int) % 1152921504606845789 = ((b % bR : Nat) : Int) := by simp [bR]
  have k1 : (1152921504606845789 : Int) - ((b % bR : Nat) : Int) = ((bR - b % bR : Nat) : Int) := by unfold bR at *; omega
  have k2 : ((b % bR : Nat) : Int) < 1152921504606845789 := by unfold bR at *; omega
  clear hlt
  generalize b % bR = y at *
  generalize hz : bR - y = z at *
  go_enter Try.func31, Try.ntmps31
  go_wp2_with (go_at_call 48; refine (c _).mono ?_; rintro e w' ⟨rfl, n, rfl⟩)
  go_ret
  exact ⟨rfl, _, rfl⟩
theorem Inv_any (a : Nat) (w : World) :
    Calls Try.prog 44 #[.int .u64 a] w fun e w' => e = .returned (.tuple #[.int .u64 (invM bQ a : Nat), .int .i64 (invE bQ a : Nat)]) ∧ w = w' := by
  have c := fun w => ring_inverse bQ a (by decide) pr_Q w
  go_enter Try.func44, Try.ntmps44
  go_wp2_with (go_at_call 51; refine (c _).mono ?_; rintro e w' ⟨rfl, rfl⟩)
  go_ret2
  exact ⟨rfl, rfl⟩
theorem InvR_any (a : Nat) (w : World) :
    Calls Try.prog 30 #[.int .u64 a] w fun e w' => e = .returned (.tuple #[.int .u64 (invM bR a : Nat), .int .i64 (invE bR a : Nat)]) ∧ w = w' := by
  have c := fun w => ring_inverse bR a (by decide) pr_R w
  go_enter Try.func30, Try.ntmps30
  go_wp2_with (go_at_call 51; refine (c _).mono ?_; rintro e w' ⟨rfl, rfl⟩)
  go_ret2
  exact ⟨rfl, rfl⟩
end Go.Proofs.Ytbomfnlipbdigaa
