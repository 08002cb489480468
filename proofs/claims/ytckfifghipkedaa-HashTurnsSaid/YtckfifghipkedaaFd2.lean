/- The layer 'field', walked: Sub, Pow, and what times 4 is 1. -/
import Derived.Test.YtckfifghipkedaaFd
import Derived.Test.YtckfifghipkedaaHaMath
import Derived.Deep.LoopGhost
namespace Go.Proofs.Ytckfifghipkedaa
set_option linter.unusedVariables false
open Go.RowKit Go.Shelf

set_option maxRecDepth 100000 in
theorem fSub_any (a b : Nat) (ha : a < 18446744073709551616) (hb : b < 18446744073709551616) (w : World) :
    Calls Try.prog 52 #[.int .u64 a, .int .u64 b] w fun e w' => e = .returned (.int .u64 (subP a b : Nat)) ∧ w = w' := by
  obtain ⟨x, hx⟩ : ∃ x, x = a % bP := ⟨_, rfl⟩
  obtain ⟨y, hy⟩ : ∃ y, y = b % bP := ⟨_, rfl⟩
  have hx1 : x < 2305843009213693951 := by rw [hx]; exact Nat.mod_lt _ (by decide)
  have hy1 : y < 2305843009213693951 := by rw [hy]; exact Nat.mod_lt _ (by decide)
  have c1 := fun w => one_any a ha w
  have c2 := fun w => one_any b hb w
  obtain ⟨z, hz⟩ : ∃ z, z = x + 2305843009213693951 - y := ⟨_, rfl⟩
  have c3 := fun w => one_any z (by omega) w
  rw [← hx] at c1
  rw [← hy] at c2
  have e : z % bP = subP a b := by
    unfold subP
    rw [← hy, hz, hx]
    rw [show a % bP + 2305843009213693951 - y = a % bP + (bP - y) by unfold bP; omega, Nat.mod_add_mod]
  rw [e] at c3
  have k1 : (x : Int) + 2305843009213693951 - (y : Int) = (z : Int) := by omega
  have z1 : (x : Int) < 2305843009213693951 := by omega
  have z2 : (y : Int) < 2305843009213693951 := by omega
  clear hx hy hx1 hy1 ha hb hz e
  go_enter Try.func52, Try.ntmps52
  go_wp2_with (first | (go_at_call 49; refine (c1 _).mono ?_; clear c1; rintro e w' ⟨rfl, rfl⟩) | (go_at_call 49; refine (c2 _).mono ?_; clear c2; rintro e w' ⟨rfl, rfl⟩) | (go_at_call 49; refine (c3 _).mono ?_; clear c3; rintro e w' ⟨rfl, rfl⟩))
  go_ret
  exact ⟨rfl, rfl⟩

theorem lt_bitLen2 (n : Nat) (hn : n < 18446744073709551616) : n < 2 ^ Lib.bitLen n := by
  rcases Nat.eq_zero_or_pos n with rfl | h
  · exact Nat.two_pow_pos _
  · exact (Lib.bitLenAux_bounds 64 n hn (by omega)).2.2
theorem sq_step (a n j : Nat) : mulM bP (powM bP a (n / 2 ^ (j + 1))) (powM bP a (n / 2 ^ (j + 1))) = powM bP a (2 * (n / 2 ^ (j + 1))) := by
  rw [powM_add]; congr 1; omega
theorem sq_bit0 (a n j : Nat) (h : n / 2 ^ j % 2 = 0) : mulM bP (powM bP a (n / 2 ^ (j + 1))) (powM bP a (n / 2 ^ (j + 1))) = powM bP a (n / 2 ^ j) := by
  rw [sq_step]
  congr 1
  rw [Nat.pow_succ, ← Nat.div_div_eq_div_mul]; omega
theorem sq_bit1 (a n j : Nat) (h : n / 2 ^ j % 2 = 1) : mulM bP (mulM bP (powM bP a (n / 2 ^ (j + 1))) (powM bP a (n / 2 ^ (j + 1)))) a = powM bP a (n / 2 ^ j) := by
  rw [sq_step, powM_succ]
  congr 1
  rw [Nat.pow_succ, ← Nat.div_div_eq_div_mul]; omega

set_option maxRecDepth 100000 in
set_option maxHeartbeats 1000000 in
theorem fPow_any (a n : Nat) (ha : a < 18446744073709551616) (hn : n < 18446744073709551616) (w : World) :
    Calls Try.prog 53 #[.int .u64 a, .int .u64 n] w fun e w' => e = .returned (.int .u64 (powM bP a n : Nat)) ∧ w = w' := by
  obtain ⟨L, hL⟩ : ∃ L, L = Lib.bitLen n := ⟨_, rfl⟩
  have hL64 : L ≤ 64 := by rw [hL]; exact Lib.bitLen_le n 64 (by omega) hn
  have c0 : ∀ w, Calls Try.prog 58 #[.int .u64 (n : Int)] w fun e w' => e = .returned (.int .i64 (L : Int)) ∧ w = w' := fun w => by
    rw [hL]; exact (Try.bits_Len64 n w (by omega) (by omega)).mono fun e w' ⟨he, hw⟩ => ⟨by rw [he]; simp, hw.symm⟩
  have hnL : n / 2 ^ L = 0 := by rw [hL]; exact Nat.div_eq_of_lt (lt_bitLen2 n hn)
  have cM := fun x y hx hy w => fMul_any x y hx hy w
  have H0 : Hid (powM bP a (n / 2 ^ L) = 1) := by show _ = _; rw [hnL, powM_zero (by decide)]
  have HN := Lib.hid hn
  have HA := Lib.hid ha
  have hL' : (L : Int) ≤ 64 := by omega
  clear hL hnL hn ha hL64
  go_enter Try.func53, Try.ntmps53
  go_wp2_with (go_at_call 58; refine (c0 _).mono ?_; clear c0; rintro e w' ⟨rfl, rfl⟩)
  go_loopg [5, 6] L (fun m s5 s6 wr => wr = w ∧ m ≤ L ∧ s6 = .int .i64 ((m : Int) - 1) ∧ s5 = .int .u64 (powM bP a (n / 2 ^ m) : Nat))
  case atStart => exact ⟨rfl, Nat.le_refl _, rfl, by rw [H0.out]; rfl⟩
  case round =>
    obtain ⟨rfl, hm, rfl, rfl⟩ := hrel
    obtain ⟨g, hg⟩ : ∃ g, g = gk := ⟨_, rfl⟩
    rw [← hg] at hm ⊢
    rcases Nat.eq_zero_or_pos g with h0 | h0
    · subst h0
      have e : n / 2 ^ 0 = n := by simp
      rw [e]
      obtain ⟨r, hr⟩ : ∃ r, r = powM bP a n := ⟨_, rfl⟩
      rw [← hr]
      have HR := Lib.hid hr
      clear hm hg hr e
      go_wp2
      go_ret
      exact ⟨by rw [← HR.out]; rfl, rfl⟩
    · obtain ⟨j, rfl⟩ : ∃ j, g = j + 1 := ⟨g - 1, by omega⟩
      have ei : (((j + 1 : Nat) : Int) - 1) = (j : Int) := by omega
      rw [ei]
      have hx64 : powM bP a (n / 2 ^ (j + 1)) < 18446744073709551616 := Nat.lt_trans (powM_lt (by decide) _ _) (by decide)
      have c1 := fun w => cM _ _ hx64 hx64 w
      obtain ⟨q, hq⟩ : ∃ q, q = n / 2 ^ j := ⟨_, rfl⟩
      have hq64 : q < 18446744073709551616 := by rw [hq]; exact Nat.lt_of_le_of_lt (Nat.div_le_self _ _) HN.out
      have k1 : (n : Int) / 2 ^ j = (q : Int) := by rw [hq]; simp
      have k2 : bits .and .u64 (q : Int) 1 = ((q % 2 : Nat) : Int) := by
        have := bits_and_u64_nat q 1 hq64 (by decide)
        rw [Nat.and_one_is_mod] at this
        exact this
      have hj64 : (j : Int) < 64 := by omega
      rcases Nat.mod_two_eq_zero_or_one q with hb | hb
      · rw [hb] at k2
        have hs := sq_bit0 a n j (by rw [← hq]; exact hb)
        rw [hs] at c1
        obtain ⟨x, hx⟩ : ∃ x, x = powM bP a (n / 2 ^ (j + 1)) := ⟨_, rfl⟩
        obtain ⟨y, hy⟩ : ∃ y, y = powM bP a (n / 2 ^ j) := ⟨_, rfl⟩
        rw [← hx, ← hy] at c1
        rw [← hx]
        have HY := Lib.hid hy
        have HG := Lib.hid hg
        have HM := Lib.hid hm
        have HK2 := Lib.hid k2
        clear hx hy hs hx64 hq hq64 hb hg hm h0 ei k2 cM
        have k2 := HK2.out
        simp only [Int.cast_ofNat_Int] at k2
        go_wp2_with (go_at_call 51; refine (c1 _).mono ?_; clear c1; rintro e w' ⟨rfl, rfl⟩)
        clear k2
        have hg := HG.out
        have hm := HM.out
        go_roundg j
        case measure => omega
        case rel => exact ⟨rfl, by omega, int_congr (by omega), by rw [HY.out]⟩
      · rw [hb] at k2
        have hs := sq_bit1 a n j (by rw [← hq]; exact hb)
        obtain ⟨t, ht⟩ : ∃ t, t = mulM bP (powM bP a (n / 2 ^ (j + 1))) (powM bP a (n / 2 ^ (j + 1))) := ⟨_, rfl⟩
        have ht64 : t < 18446744073709551616 := by rw [ht]; exact Nat.lt_trans (mulM_lt (by decide) _ _) (by decide)
        rw [← ht] at c1 hs
        have c2 := fun w => cM t a ht64 HA.out w
        rw [hs] at c2
        obtain ⟨x, hx⟩ : ∃ x, x = powM bP a (n / 2 ^ (j + 1)) := ⟨_, rfl⟩
        obtain ⟨y, hy⟩ : ∃ y, y = powM bP a (n / 2 ^ j) := ⟨_, rfl⟩
        rw [← hx] at c1
        rw [← hy] at c2
        rw [← hx]
        have HY := Lib.hid hy
        have HG := Lib.hid hg
        have HM := Lib.hid hm
        have HK2 := Lib.hid k2
        clear hx hy hs hx64 hq hq64 hb hg hm h0 ei k2 cM ht ht64
        have k2 := HK2.out
        simp only [Int.cast_ofNat_Int] at k2
        go_wp2_with (first | (go_at_call 51; (with_reducible refine (c1 _).mono ?_); clear c1; rintro e w' ⟨rfl, rfl⟩) | (go_at_call 51; (with_reducible refine (c2 _).mono ?_); clear c2; rintro e w' ⟨rfl, rfl⟩))
        clear k2
        have hg := HG.out
        have hm := HM.out
        go_roundg j
        case measure => omega
        case rel => exact ⟨rfl, by omega, int_congr (by omega), by rw [HY.out]⟩

/-- What times 4 is 1. -/
def quarter : Nat := 576460752303423488
set_option maxRecDepth 100000 in
set_option maxHeartbeats 1000000 in
theorem fInv4_any (w : World) : Calls Try.prog 50 #[.int .u64 4] w fun e w' => e = .returned (.tuple #[.int .u64 (quarter : Nat), .int .i64 0]) ∧ w = w' := by
  have c0 := fun w => one_any 4 (by decide) w
  rw [show 4 % bP = 4 by decide] at c0
  simp only [Int.cast_ofNat_Int] at c0
  have m1 := fun w => fMul_any 576460752303423487 1 (by decide) (by decide) w
  have s1 := fun w => fSub_any 0 576460752303423487 (by decide) (by decide) w
  have m2 := fun w => fMul_any 1 1729382256910270464 (by decide) (by decide) w
  have s2 := fun w => fSub_any 1 1729382256910270464 (by decide) (by decide) w
  have m3 := fun w => fMul_any 3 576460752303423488 (by decide) (by decide) w
  have s3 := fun w => fSub_any 1729382256910270464 1729382256910270464 (by decide) (by decide) w
  rw [show mulM bP 576460752303423487 1 = 576460752303423487 by decide +kernel] at m1
  rw [show mulM bP 1 1729382256910270464 = 1729382256910270464 by decide +kernel] at m2
  rw [show mulM bP 3 576460752303423488 = 1729382256910270464 by decide +kernel] at m3
  rw [show subP 0 576460752303423487 = 1729382256910270464 by decide +kernel] at s1
  rw [show subP 1 1729382256910270464 = 576460752303423488 by decide +kernel] at s2
  rw [show subP 1729382256910270464 1729382256910270464 = 0 by decide +kernel] at s3
  simp only [Int.cast_ofNat_Int] at m1 m2 m3 s1 s2 s3
  go_enter Try.func50, Try.ntmps50
  go_wp2_with (go_at_call 49; refine (c0 _).mono ?_; clear c0; rintro e w' ⟨rfl, rfl⟩)
  go_loopg [4, 5, 6, 7] 3 (fun m s4 s5 s6 s7 wr => wr = w ∧
    ((m = 3 ∧ s4 = .int .u64 2305843009213693951 ∧ s5 = .int .u64 4 ∧ s6 = .int .u64 0 ∧ s7 = .int .u64 1) ∨
     (m = 2 ∧ s4 = .int .u64 4 ∧ s5 = .int .u64 3 ∧ s6 = .int .u64 1 ∧ s7 = .int .u64 1729382256910270464) ∨
     (m = 1 ∧ s4 = .int .u64 3 ∧ s5 = .int .u64 1 ∧ s6 = .int .u64 1729382256910270464 ∧ s7 = .int .u64 576460752303423488) ∨
     (m = 0 ∧ s4 = .int .u64 1 ∧ s5 = .int .u64 0 ∧ s6 = .int .u64 576460752303423488 ∧ s7 = .int .u64 0)))
  case atStart => exact ⟨rfl, .inl ⟨rfl, rfl, rfl, rfl, rfl⟩⟩
  case round =>
    obtain ⟨rfl, hrel⟩ := hrel
    rcases hrel with ⟨hm, rfl, rfl, rfl, rfl⟩ | ⟨hm, rfl, rfl, rfl, rfl⟩ | ⟨hm, rfl, rfl, rfl, rfl⟩ | ⟨hm, rfl, rfl, rfl, rfl⟩
    · clear m2 m3 s2 s3
      go_wp2_with (first | (go_at_call 51; refine (m1 _).mono ?_; clear m1; rintro e w' ⟨rfl, rfl⟩) | (go_at_call 52; refine (s1 _).mono ?_; clear s1; rintro e w' ⟨rfl, rfl⟩))
      go_roundg 2
      case measure => omega
      case rel => exact ⟨rfl, .inr (.inl ⟨rfl, rfl, rfl, rfl, rfl⟩)⟩
    · clear m1 m3 s1 s3
      go_wp2_with (first | (go_at_call 51; refine (m2 _).mono ?_; clear m2; rintro e w' ⟨rfl, rfl⟩) | (go_at_call 52; refine (s2 _).mono ?_; clear s2; rintro e w' ⟨rfl, rfl⟩))
      go_roundg 1
      case measure => omega
      case rel => exact ⟨rfl, .inr (.inr (.inl ⟨rfl, rfl, rfl, rfl, rfl⟩))⟩
    · clear m1 m2 s1 s2
      go_wp2_with (first | (go_at_call 51; refine (m3 _).mono ?_; clear m3; rintro e w' ⟨rfl, rfl⟩) | (go_at_call 52; refine (s3 _).mono ?_; clear s3; rintro e w' ⟨rfl, rfl⟩))
      go_roundg 0
      case measure => omega
      case rel => exact ⟨rfl, .inr (.inr (.inr ⟨rfl, rfl, rfl, rfl, rfl⟩))⟩
    · clear m1 m2 m3 s1 s2 s3
      go_wp2
      go_ret2
      exact ⟨rfl, rfl⟩
end Go.Proofs.Ytckfifghipkedaa
