/- Parts of the proofs, put together: Bits, Fd, Ha, Rem, Cy, CyRef. -/
import Derived.Test.YtfpmfegmehbfbaaGreatDoorShelf
import Derived.WalkKit
import Derived.WalkSpells
import Derived.WalkLawsBesides
import Derived.Deep.QuietTactic
import Derived.BigQuiet
import Derived.Lib.Hide
import Derived.Deep.DeepCutAuto
import Derived.Deep.CutBlock
import Derived.Deep.LoopGhost
import Derived.Lib.ItoaNum
import Derived.Laws.Bits64b
import Derived.Outline
import Derived.Test.YtfpmfegmehbfbaaGreatDoorZ1
import Derived.Test.YtfpmfegmehbfbaaGreatDoorZ3
import Derived.Test.YtfpmfegmehbfbaaGreatDoorZ8
/- math/bits.Div64, walked. -/
namespace Go.Proofs.YtfpmfegmehbfbaaGreatDoor
open Go.RowKit Go.Shelf

theorem wrap_div (a b : Nat) (ha : a < 18446744073709551616) : IntKind.u64.wrap ((a : Int) / (b : Int)) = ((a / b : Nat) : Int) := by
  have h := Nat.div_le_self a b
  have e : (a : Int) / (b : Int) = ((a / b : Nat) : Int) := by simp
  rw [e, IntKind.wrap_u64]
  generalize a / b = q at *
  omega

theorem div64_low (lo y : Nat) (hy0 : 0 < y) (hlo : lo < 18446744073709551616) (hy : y < 18446744073709551616) (w : World) :
    Calls Tryz.prog 238 #[.int .u64 (0 : Nat), .int .u64 lo, .int .u64 y] w fun e w' => e = .returned (.tuple #[.int .u64 ((lo / y : Nat) : Int), .int .u64 ((lo % y : Nat) : Int)]) ∧ ∃ n, w' = w.drewN n := by
  go_enter Tryz.func238, Tryz.ntmps238
  go_wp2
  go_quiet (fail)
  go_wp2
  go_ret2
  exact ⟨ret_two (wrap_div lo y hlo) (by omega), _, rfl⟩

theorem lz_spec (y : Nat) (h0 : 0 < y) (hy : y < 18446744073709551616) : ∃ s : Nat, s ≤ 63 ∧ 9223372036854775808 ≤ y * 2 ^ s ∧ y * 2 ^ s < 18446744073709551616 ∧ (64 - (Lib.bitLen (y : Int).toNat : Int)) = s := by
  obtain ⟨a, b, c⟩ := Lib.bitLenAux_bounds 64 y hy (by omega)
  have hle := Lib.bitLen_le y 64 (by omega) hy
  refine ⟨64 - Lib.bitLen y, ?_, ?_, ?_, ?_⟩
  · unfold Lib.bitLen at *; omega
  · unfold Lib.bitLen at *
    generalize Lib.bitLenAux 64 y = L at *
    have : 2 ^ (L - 1) * 2 ^ (64 - L) ≤ y * 2 ^ (64 - L) := Nat.mul_le_mul_right _ b
    rw [← Nat.pow_add, show L - 1 + (64 - L) = 63 by omega] at this
    exact this
  · unfold Lib.bitLen at *
    generalize Lib.bitLenAux 64 y = L at *
    have := Nat.mul_lt_mul_of_pos_right c (Nat.two_pow_pos (64 - L))
    rw [← Nat.pow_add, show L + (64 - L) = 64 by omega] at this
    exact this
  · simp only [Int.toNat_natCast]; omega

set_option maxRecDepth 100000 in
theorem div64_high (hi lo y : Nat) (h0 : 0 < hi) (hh : hi < y) (hlo : lo < 18446744073709551616) (hy : y < 18446744073709551616) (w : World) :
    Calls Tryz.prog 238 #[.int .u64 hi, .int .u64 lo, .int .u64 y] w fun e w' => e = .returned (.tuple #[.int .u64 (((hi * 18446744073709551616 + lo) / y : Nat) : Int), .int .u64 (((hi * 18446744073709551616 + lo) % y : Nat) : Int)]) ∧ ∃ n, w' = w.drewN n := by
  obtain ⟨s, hs, hY1, hY2, hl⟩ := lz_spec y (by omega) hy
  have c0 : Calls Tryz.prog 279 #[.int .u64 (y : Int)] w fun e w' => e = .returned (.int .i64 (s : Int)) ∧ w = w' := (Tryz.bits_LeadingZeros64 _ _ (by omega) (by omega)).mono fun e w' ⟨he, hw⟩ => ⟨by rw [he, hl], hw.symm⟩
  clear hl
  have g1 : ((y : Int) == 0) = false := by simp; omega
  have g2 : ((hi : Int) == 0) = false := by simp; omega
  have g3 : ¬ y ≤ hi := by omega
  obtain ⟨Y, hY⟩ : ∃ Y, Y = y * 2 ^ s := ⟨_, rfl⟩
  have k1 : IntKind.u64.wrap ((y : Int) * 2 ^ s) = (Y : Int) := by
    have e : (y : Int) * 2 ^ s = ((y * 2 ^ s : Nat) : Int) := by simp
    rw [e, ← hY, IntKind.wrap_u64]; omega
  rw [← hY] at hY1 hY2
  have HY := Lib.hid hY
  clear hY
  obtain ⟨y1, y0, hYY, b1, b2, b3⟩ : ∃ y1 y0, Y = y1 * 4294967296 + y0 ∧ 2147483648 ≤ y1 ∧ y1 < 4294967296 ∧ y0 < 4294967296 := ⟨Y / 4294967296, Y % 4294967296, by omega, by omega, by omega, by omega⟩
  have k2 : (Y : Int) / 4294967296 = y1 := by omega
  have k3 : bits .and .u64 (Y : Int) 4294967295 = y0 := by rw [Mul64.maskN Y hY2]; omega
  obtain ⟨e1, e2⟩ := shift_two hi lo s (by omega) hlo
  have hhs : hi * 2 ^ s < 18446744073709551616 := by
    have := Nat.mul_le_mul_right (2 ^ s) (Nat.le_of_lt hh)
    rw [← HY.out] at this; omega
  obtain ⟨H, hH⟩ : ∃ H, H = hi * 2 ^ s := ⟨_, rfl⟩
  obtain ⟨L, hL⟩ : ∃ L, L = lo / 2 ^ (64 - s) := ⟨_, rfl⟩
  obtain ⟨T, hT⟩ : ∃ T, T = lo * 2 ^ s % 18446744073709551616 := ⟨_, rfl⟩
  have k4 : IntKind.u64.wrap ((hi : Int) * 2 ^ s) = (H : Int) := by
    have e : (hi : Int) * 2 ^ s = ((hi * 2 ^ s : Nat) : Int) := by simp
    rw [e, ← hH, IntKind.wrap_u64]; omega
  have k5 : (lo : Int) / 2 ^ (64 - s) = (L : Int) := by
    rw [hL]; simp
  have k6 : IntKind.u64.wrap ((lo : Int) * 2 ^ s) = (T : Int) := by
    have e : (lo : Int) * 2 ^ s = ((lo * 2 ^ s : Nat) : Int) := by simp
    rw [e, IntKind.wrap_u64, hT]; omega
  rw [← hH, ← hL, ← hT] at e1
  rw [← hH, ← hL] at e2
  have hTlt : T < 18446744073709551616 := by rw [hT]; exact Nat.mod_lt _ (by omega)
  have hUY : H + L < Y := by
    have h1 : (hi * 18446744073709551616 + lo) * 2 ^ s < y * 2 ^ s * 18446744073709551616 := by
      have : hi * 18446744073709551616 + lo < y * 18446744073709551616 := by omega
      have := Nat.mul_lt_mul_of_pos_right this (Nat.two_pow_pos s)
      calc _ < _ := this
        _ = _ := by grind
    rw [e1, ← HY.out] at h1
    omega
  clear hH hL hT
  obtain ⟨U, hU⟩ : ∃ U, U = H + L := ⟨_, rfl⟩
  rw [← hU] at e1 e2 hUY
  have hL64 : L < 18446744073709551616 := by omega
  have k7 : bits .or .u64 (H : Int) (L : Int) = (U : Int) := by rw [bits_or_u64_nat H L (by omega) hL64, e2]
  clear e2 hhs hU
  obtain ⟨t1, t0, hTT, b4, b5⟩ : ∃ t1 t0, T = t1 * 4294967296 + t0 ∧ t1 < 4294967296 ∧ t0 < 4294967296 := ⟨T / 4294967296, T % 4294967296, by omega, by omega, by omega⟩
  have k8 : (T : Int) / 4294967296 = t1 := by omega
  have k9 : bits .and .u64 (T : Int) 4294967295 = t0 := by rw [Mul64.maskN T hTlt]; omega
  have E1 := Lib.hid e1
  have HTT := Lib.hid hTT
  have HYY := Lib.hid hYY
  have d0 := DivAt.start (u := U) (d := t1) (y1 := y1) (y0 := y0) (by omega) b4 b1 b2 b3
  have dsm := d0.small
  clear hYY hTT e1
  have hqm : U / y1 * y1 ≤ U := Nat.div_mul_le_self U y1
  have hmr : U - U / y1 * y1 = U % y1 := by have := Nat.mod_add_div U y1; rw [Nat.mul_comm] at this; omega
  obtain ⟨q, hq⟩ : ∃ q, q = U / y1 := ⟨_, rfl⟩
  obtain ⟨r, hr⟩ : ∃ r, r = U % y1 := ⟨_, rfl⟩
  obtain ⟨m, hm⟩ : ∃ m, m = q * y1 := ⟨_, rfl⟩
  have k10 : IntKind.u64.wrap ((U : Int) / (y1 : Int)) = (q : Int) := by rw [wrap_div U y1 (by omega), hq]
  rw [← hq] at hqm hmr d0
  rw [← hr] at hmr d0
  rw [← hm] at hqm hmr
  have k11 : IntKind.u64.wrap ((q : Int) * (y1 : Int)) = (m : Int) := by
    have e : (q : Int) * (y1 : Int) = ((q * y1 : Nat) : Int) := by simp
    rw [e, ← hm, IntKind.wrap_u64]; omega
  have k12 : (U : Int) - (m : Int) = (r : Int) := by omega
  obtain ⟨A1, hA1⟩ : ∃ A1, A1 = (U * 4294967296 + t1) / Y := ⟨_, rfl⟩
  rw [← HYY.out, ← hA1] at dsm
  have HA1 := Lib.hid hA1
  clear hA1 hq hr hm hmr
  have D0 := Lib.hid d0
  have z1 : (Y : Int) < 18446744073709551616 := by omega
  have z2 : 9223372036854775808 ≤ (Y : Int) := by omega
  have z3 : 2147483648 ≤ (y1 : Int) := by omega
  have z4 : (y1 : Int) < 4294967296 := by omega
  have z5 : (y0 : Int) < 4294967296 := by omega
  have z6 : (t1 : Int) < 4294967296 := by omega
  have z7 : (t0 : Int) < 4294967296 := by omega
  have z8 : (T : Int) < 18446744073709551616 := by omega
  have z9 : (A1 : Int) < 4294967296 := by omega
  have HB := Lib.hid (And.intro hlo (And.intro hy (And.intro hY1 (And.intro hY2 (And.intro hTlt (And.intro b1 (And.intro b2 (And.intro b3 (And.intro b4 (And.intro b5 (And.intro hL64 dsm)))))))))))
  clear d0 hlo hy hY1 hY2 hTlt b1 b2 b3 b4 b5 hL64 dsm
  go_enter Tryz.func238, Tryz.ntmps238
  go_upto_block 0 with (go_at_call 279; refine c0.mono ?_; rintro e w' ⟨rfl, rfl⟩)
  go_cut [15] (fun t wx => wx = w ∧ t = .int .u64 A1)
  case first =>
    go_wp2_with fail
    go_loopg [15, 16] q (fun k a b wr => wr = w ∧ ∃ r : Nat, a = .int .u64 k ∧ b = .int .u64 r ∧ Hid (DivAt U t1 y1 y0 k r))
    case atStart => exact ⟨rfl, r, rfl, rfl, D0⟩
    case round =>
      obtain ⟨rfl, r, rfl, rfl, HD⟩ := hrel
      obtain ⟨q, rfl⟩ : ∃ q, q = gk := ⟨_, rfl⟩
      clear k10 k11 k12
      have hd := HD.out
      obtain ⟨_, _, _, _, _, b1, b2, b3, b4, b5, _, _⟩ := HB.out
      have htop := hd.top
      have hlo := hd.lo
      have x1 : (q : Int) ≤ 4294967297 := by omega
      have x2 : (r : Int) < 4294967296 := by omega
      have num : ∀ {a b : Int}, a = b → Value.int .u64 a = .int .u64 b := fun h => by rw [h]
      by_cases c1 : (4294967296 : Int) ≤ q
      · by_cases c2 : ¬ (4294967296 : Int) ≤ (r : Int) + (y1 : Int)
        · have hn := Lib.hid (hd.next (Or.inl (by omega)) (by omega))
          clear hd htop hlo b1 b2 b3 b4 b5
          go_wp2
          go_roundg (q - 1)
          case measure => omega
          case rel => exact ⟨rfl, r + y1, num (by omega), num (by omega), hn⟩
        · have c2 := Decidable.of_not_not c2
          have hn := Lib.hid (hd.leave (Or.inl (by omega)) (by omega))
          clear hd htop hlo b1 b2 b3 b4 b5
          go_wp2_with fail
          go_meet
          exact ⟨rfl, num (by rw [HA1.out, HYY.out, ← hn.out]; omega)⟩
      · have hqy : q * y0 < 18446744073709551616 := by
          have := Nat.mul_le_mul (show q ≤ 4294967295 by omega) (show y0 ≤ 4294967295 by omega)
          omega
        obtain ⟨n, hn0⟩ : ∃ n, n = q * y0 := ⟨_, rfl⟩
        have k20 : IntKind.u64.wrap ((q : Int) * (y0 : Int)) = (n : Int) := by
          have e : (q : Int) * (y0 : Int) = ((q * y0 : Nat) : Int) := by simp
          rw [e, ← hn0, IntKind.wrap_u64]; omega
        have HN := Lib.hid hn0
        by_cases c3 : 4294967296 * (r : Int) + (t1 : Int) < n
        · have x0 : 1 ≤ (q : Int) := by rcases Nat.eq_zero_or_pos q with h | h; subst h; simp at hn0; omega; omega
          by_cases c2 : ¬ (4294967296 : Int) ≤ (r : Int) + (y1 : Int)
          · have hn := Lib.hid (hd.next (Or.inr (by omega)) (by omega))
            clear hd htop hlo b1 b2 b3 b4 b5 hqy hn0
            go_wp2
            go_roundg (q - 1)
            case measure => omega
            case rel => exact ⟨rfl, r + y1, num (by omega), num (by omega), hn⟩
          · have c2 := Decidable.of_not_not c2
            have hn := Lib.hid (hd.leave (Or.inr (by omega)) (by omega))
            clear hd htop hlo b1 b2 b3 b4 b5 hqy hn0
            go_wp2_with fail
            go_meet
            exact ⟨rfl, num (by rw [HA1.out, HYY.out, ← hn.out]; omega)⟩
        · have hn := Lib.hid (hd.stop (by omega))
          clear hd htop hlo b1 b2 b3 b4 b5 hqy hn0
          go_wp2_with fail
          go_meet
          exact ⟨rfl, by rw [HA1.out, HYY.out, ← hn.out]⟩
  case rest =>
    obtain ⟨rfl, rfl⟩ := hcut
    clear k10 k11 k12
    obtain ⟨hlo, hy, hY1, hY2, hTlt, b1, b2, b3, b4, b5, hL64, dsm⟩ := HB.out
    obtain ⟨V, hV⟩ : ∃ V, V = (U * 4294967296 + t1) % Y := ⟨_, rfl⟩
    have hVY : V < Y := by rw [hV]; exact Nat.mod_lt _ (by omega)
    have hdm := Nat.div_add_mod (U * 4294967296 + t1) Y
    rw [← HA1.out, ← hV] at hdm
    obtain ⟨a, ha⟩ : ∃ a, a = U * 4294967296 % 18446744073709551616 := ⟨_, rfl⟩
    obtain ⟨b, hb⟩ : ∃ b, b = (a + t1) % 18446744073709551616 := ⟨_, rfl⟩
    obtain ⟨c, hc⟩ : ∃ c, c = Y * A1 % 18446744073709551616 := ⟨_, rfl⟩
    have k13 : IntKind.u64.wrap ((U : Int) * 4294967296) = (a : Int) := by rw [IntKind.wrap_u64]; omega
    have k14 : IntKind.u64.wrap ((a : Int) + (t1 : Int)) = (b : Int) := by rw [IntKind.wrap_u64]; omega
    have k15 : IntKind.u64.wrap ((A1 : Int) * (Y : Int)) = (c : Int) := by
      have e : (A1 : Int) * (Y : Int) = ((Y * A1 : Nat) : Int) := by rw [Nat.mul_comm]; simp
      rw [e, IntKind.wrap_u64]; omega
    have k16 : IntKind.u64.wrap ((b : Int) - (c : Int)) = (V : Int) := by rw [IntKind.wrap_u64]; omega
    have HV := Lib.hid hV
    have hqm : V / y1 * y1 ≤ V := Nat.div_mul_le_self V y1
    have hmr : V - V / y1 * y1 = V % y1 := by have := Nat.mod_add_div V y1; rw [Nat.mul_comm] at this; omega
    have hVu : V < y1 * 4294967296 + y0 := by rw [← HYY.out]; exact hVY
    have d1 := DivAt.start (u := V) (d := t0) hVu b5 b1 b2 b3
    have dsm2 := d1.small
    obtain ⟨q, hq⟩ : ∃ q, q = V / y1 := ⟨_, rfl⟩
    obtain ⟨r, hr⟩ : ∃ r, r = V % y1 := ⟨_, rfl⟩
    obtain ⟨m, hm⟩ : ∃ m, m = q * y1 := ⟨_, rfl⟩
    have k30 : IntKind.u64.wrap ((V : Int) / (y1 : Int)) = (q : Int) := by rw [wrap_div V y1 (by omega), hq]
    rw [← hq] at hqm hmr d1
    rw [← hr] at hmr d1
    rw [← hm] at hqm hmr
    have k31 : IntKind.u64.wrap ((q : Int) * (y1 : Int)) = (m : Int) := by
      have e : (q : Int) * (y1 : Int) = ((q * y1 : Nat) : Int) := by simp
      rw [e, ← hm, IntKind.wrap_u64]; omega
    have k32 : (V : Int) - (m : Int) = (r : Int) := by omega
    obtain ⟨A0, hA0⟩ : ∃ A0, A0 = (V * 4294967296 + t0) / Y := ⟨_, rfl⟩
    rw [← HYY.out, ← hA0] at dsm2
    have HA0 := Lib.hid hA0
    have D1 := Lib.hid d1
    have z10 : (A0 : Int) < 4294967296 := by omega
    clear d1 hA0 hq hr hm hmr hV hVu hdm ha hb hc hlo hy hY1 hY2 hTlt b1 b2 b3 b4 b5 hL64 dsm dsm2
    go_upto_block 2 with (fail)
    go_cut [18] (fun t wx => wx = wc ∧ t = .int .u64 A0)
    case first =>
      go_wp2_with fail
      go_loopg [18, 16] q (fun k a b wr => wr = wc ∧ ∃ r : Nat, a = .int .u64 k ∧ b = .int .u64 r ∧ Hid (DivAt V t0 y1 y0 k r))
      case atStart => exact ⟨rfl, r, rfl, rfl, D1⟩
      case round =>
        obtain ⟨rfl, r, rfl, rfl, HD⟩ := hrel
        obtain ⟨q, rfl⟩ : ∃ q, q = gk := ⟨_, rfl⟩
        clear k30 k31 k32
        have hd := HD.out
        obtain ⟨_, _, _, _, _, b1, b2, b3, b4, b5, _, _⟩ := HB.out
        have htop := hd.top
        have hlo := hd.lo
        have x1 : (q : Int) ≤ 4294967297 := by omega
        have x2 : (r : Int) < 4294967296 := by omega
        have num : ∀ {a b : Int}, a = b → Value.int .u64 a = .int .u64 b := fun h => by rw [h]
        by_cases c1 : (4294967296 : Int) ≤ q
        · by_cases c2 : ¬ (4294967296 : Int) ≤ (r : Int) + (y1 : Int)
          · have hn := Lib.hid (hd.next (Or.inl (by omega)) (by omega))
            clear hd htop hlo b1 b2 b3 b4 b5
            go_wp2
            go_roundg (q - 1)
            case measure => omega
            case rel => exact ⟨rfl, r + y1, num (by omega), num (by omega), hn⟩
          · have c2 := Decidable.of_not_not c2
            have hn := Lib.hid (hd.leave (Or.inl (by omega)) (by omega))
            clear hd htop hlo b1 b2 b3 b4 b5
            go_wp2_with fail
            go_meet
            exact ⟨rfl, num (by rw [HA0.out, HYY.out, ← hn.out]; omega)⟩
        · have hqy : q * y0 < 18446744073709551616 := by
            have := Nat.mul_le_mul (show q ≤ 4294967295 by omega) (show y0 ≤ 4294967295 by omega)
            omega
          obtain ⟨n, hn0⟩ : ∃ n, n = q * y0 := ⟨_, rfl⟩
          have k20 : IntKind.u64.wrap ((q : Int) * (y0 : Int)) = (n : Int) := by
            have e : (q : Int) * (y0 : Int) = ((q * y0 : Nat) : Int) := by simp
            rw [e, ← hn0, IntKind.wrap_u64]; omega
          have HN := Lib.hid hn0
          by_cases c3 : 4294967296 * (r : Int) + (t0 : Int) < n
          · have x0 : 1 ≤ (q : Int) := by rcases Nat.eq_zero_or_pos q with h | h; subst h; simp at hn0; omega; omega
            by_cases c2 : ¬ (4294967296 : Int) ≤ (r : Int) + (y1 : Int)
            · have hn := Lib.hid (hd.next (Or.inr (by omega)) (by omega))
              clear hd htop hlo b1 b2 b3 b4 b5 hqy hn0
              go_wp2
              go_roundg (q - 1)
              case measure => omega
              case rel => exact ⟨rfl, r + y1, num (by omega), num (by omega), hn⟩
            · have c2 := Decidable.of_not_not c2
              have hn := Lib.hid (hd.leave (Or.inr (by omega)) (by omega))
              clear hd htop hlo b1 b2 b3 b4 b5 hqy hn0
              go_wp2_with fail
              go_meet
              exact ⟨rfl, num (by rw [HA0.out, HYY.out, ← hn.out]; omega)⟩
          · have hn := Lib.hid (hd.stop (by omega))
            clear hd htop hlo b1 b2 b3 b4 b5 hqy hn0
            go_wp2_with fail
            go_meet
            exact ⟨rfl, by rw [HA0.out, HYY.out, ← hn.out]⟩
    case rest =>
      obtain ⟨rfl, rfl⟩ := hcut
      clear k13 k14 k15 k16 k30 k31 k32
      obtain ⟨hlo, hy, hY1, hY2, hTlt, b1, b2, b3, b4, b5, hL64, dsm⟩ := HB.out
      obtain ⟨X, hX⟩ : ∃ X, X = (V * 4294967296 + t0) % Y := ⟨_, rfl⟩
      have hXY : X < Y := by rw [hX]; exact Nat.mod_lt _ (by omega)
      have hdm := Nat.div_add_mod (V * 4294967296 + t0) Y
      rw [← HA0.out, ← hX] at hdm
      obtain ⟨a, ha⟩ : ∃ a, a = V * 4294967296 % 18446744073709551616 := ⟨_, rfl⟩
      obtain ⟨b, hb⟩ : ∃ b, b = (a + t0) % 18446744073709551616 := ⟨_, rfl⟩
      obtain ⟨c, hc⟩ : ∃ c, c = Y * A0 % 18446744073709551616 := ⟨_, rfl⟩
      have k13 : IntKind.u64.wrap ((V : Int) * 4294967296) = (a : Int) := by rw [IntKind.wrap_u64]; omega
      have k14 : IntKind.u64.wrap ((a : Int) + (t0 : Int)) = (b : Int) := by rw [IntKind.wrap_u64]; omega
      have k15 : IntKind.u64.wrap ((A0 : Int) * (Y : Int)) = (c : Int) := by
        have e : (A0 : Int) * (Y : Int) = ((Y * A0 : Nat) : Int) := by rw [Nat.mul_comm]; simp
        rw [e, IntKind.wrap_u64]; omega
      have k16 : IntKind.u64.wrap ((b : Int) - (c : Int)) = (X : Int) := by rw [IntKind.wrap_u64]; omega
      have HX := Lib.hid hX
      clear hX hdm ha hb hc hlo hy hY1 hY2 hTlt b1 b2 b3 b4 b5 hL64 dsm
      go_wp2
      go_ret2
      obtain ⟨f1, f2⟩ := div_fin _ y s Y U T t1 t0 A1 V A0 X (by omega) HY.out E1.out HTT.out HA1.out HV.out HA0.out HX.out
      rw [f1, f2]
      exact ⟨ret_two (by simp) (by simp), 0, rfl⟩

/-- math/bits.Div64, EVERY hi < y, EVERY lo. -/
theorem div64 (hi lo y : Nat) (hh : hi < y) (hlo : lo < 18446744073709551616) (hy : y < 18446744073709551616) (w : World) :
    Calls Tryz.prog 238 #[.int .u64 hi, .int .u64 lo, .int .u64 y] w fun e w' => e = .returned (.tuple #[.int .u64 (((hi * 18446744073709551616 + lo) / y : Nat) : Int), .int .u64 (((hi * 18446744073709551616 + lo) % y : Nat) : Int)]) ∧ ∃ n, w' = w.drewN n := by
  rcases Nat.eq_zero_or_pos hi with h | h
  · subst h
    have := div64_low lo y hh hlo hy w
    rwa [Nat.zero_mul, Nat.zero_add]
  · exact div64_high hi lo y h hh hlo hy w
end Go.Proofs.YtfpmfegmehbfbaaGreatDoor

/- The layer 'field', walked: what the hash takes of it. -/
namespace Go.Proofs.YtfpmfegmehbfbaaGreatDoor
open Go.RowKit Go.Shelf

theorem fold_any (hi lo : Nat) (hhi : hi < 288230376151711744) (hlo : lo < 18446744073709551616) (w : World) :
    Calls Tryz.prog 304 #[.int .u64 hi, .int .u64 lo] w fun e w' => e = .returned (.int .u64 (((hi * 18446744073709551616 + lo) % bP : Nat) : Int)) ∧ w = w' := by
  obtain ⟨f1, f2, f3⟩ := fold_two hi lo hlo
  obtain ⟨q, hq⟩ : ∃ q, q = lo / 2305843009213693952 := ⟨_, rfl⟩
  obtain ⟨r, hr⟩ : ∃ r, r = lo % 2305843009213693952 := ⟨_, rfl⟩
  rw [← hq] at f1 f3
  rw [← hr] at f2
  have hq8 : q < 8 := by omega
  have hr61 : r < 2305843009213693952 := by omega
  obtain ⟨g1, g2, g3⟩ := fold_step (hi * 18446744073709551616 + lo) _ _ (by omega) rfl rfl
  rw [f1, f2] at g1 g2 g3
  obtain ⟨n, hn⟩ : ∃ n, n = r + (hi * 8 + q) := ⟨_, rfl⟩
  rw [← hn] at g1 g2 g3
  obtain ⟨a, ha⟩ : ∃ a, a = n % 2305843009213693952 := ⟨_, rfl⟩
  obtain ⟨b, hb⟩ : ∃ b, b = n / 2305843009213693952 := ⟨_, rfl⟩
  rw [← ha, ← hb] at g2 g3
  have k1 : bits .and .u64 (lo : Int) 2305843009213693951 = (r : Int) := by
    have := bits_and_u64_nat lo 2305843009213693951 hlo (by omega)
    rw [and_P, ← hr] at this; exact this
  have k2 : (lo : Int) / 2305843009213693952 = (q : Int) := by rw [hq]; simp
  have k3 : bits .or .u64 ((hi : Int) * 8) (q : Int) = (hi : Int) * 8 + q := by
    have := bits_or_u64_nat (hi * 8) q (by omega) (by omega)
    rw [f3] at this; simpa using this
  have k4 : (r : Int) + ((hi : Int) * 8 + (q : Int)) = (n : Int) := by omega
  have k5 : bits .and .u64 (n : Int) 2305843009213693951 = (a : Int) := by
    have := bits_and_u64_nat n 2305843009213693951 (by omega) (by omega)
    rw [and_P, ← ha] at this; exact this
  have k6 : (n : Int) / 2305843009213693952 = (b : Int) := by rw [hb]; simp
  have z1 : (hi : Int) < 288230376151711744 := by omega
  have z2 : (q : Int) < 8 := by omega
  have z3 : (r : Int) < 2305843009213693952 := by omega
  have z4 : (a : Int) + b ≤ 2305843009213693951 := by omega
  have z5 : (r : Int) + ((hi : Int) * 8 + (q : Int)) < 4611686018427387904 := by omega
  by_cases h : 2305843009213693951 ≤ a + b
  · rw [if_pos h] at g3
    have d : decide (2305843009213693951 ≤ (a : Int) + (b : Int)) = true := by simp; omega
    have z6 : 2305843009213693951 ≤ (a : Int) + (b : Int) := by omega
    have G := Lib.hid g3
    clear f1 f2 f3 hq hr hq8 hr61 g1 g2 g3 hn ha hb h hhi hlo
    go_enter Tryz.func304, Tryz.ntmps304
    go_wp2
    go_ret
    exact ⟨ret_one (by rw [← G.out]; omega), rfl⟩
  · rw [if_neg h] at g3
    have d : decide (2305843009213693951 ≤ (a : Int) + (b : Int)) = false := by simp; omega
    have G := Lib.hid g3
    clear f1 f2 f3 hq hr hq8 hr61 g1 g2 g3 hn ha hb h hhi hlo
    go_enter Tryz.func304, Tryz.ntmps304
    go_wp2
    go_ret
    exact ⟨ret_one (by rw [← G.out]; omega), rfl⟩

theorem one_any (a : Nat) (ha : a < 18446744073709551616) (w : World) :
    Calls Tryz.prog 265 #[.int .u64 a] w fun e w' => e = .returned (.int .u64 ((a % bP : Nat) : Int)) ∧ w = w' := by
  have c := fun w => fold_any 0 a (by omega) ha w
  rw [Nat.zero_mul, Nat.zero_add] at c
  go_enter Tryz.func265, Tryz.ntmps265
  go_wp2_with (go_at_call 304; refine (c _).mono ?_; rintro e w' ⟨rfl, rfl⟩)
  go_ret
  exact ⟨rfl, rfl⟩

theorem fAdd_any (a b : Nat) (ha : a < 18446744073709551616) (hb : b < 18446744073709551616) (w : World) :
    Calls Tryz.prog 221 #[.int .u64 a, .int .u64 b] w fun e w' => e = .returned (.int .u64 (addM bP a b : Nat)) ∧ w = w' := by
  obtain ⟨x, hx⟩ : ∃ x, x = a % bP := ⟨_, rfl⟩
  obtain ⟨y, hy⟩ : ∃ y, y = b % bP := ⟨_, rfl⟩
  have hx1 : x < bP := by rw [hx]; exact Nat.mod_lt _ (by decide)
  have hy1 : y < bP := by rw [hy]; exact Nat.mod_lt _ (by decide)
  have z1 : (x : Int) < 2305843009213693951 := by unfold bP at *; omega
  have z2 : (y : Int) < 2305843009213693951 := by unfold bP at *; omega
  have c1 := fun w => one_any a ha w
  have c2 := fun w => one_any b hb w
  have c3 := fun w => one_any (x + y) (by unfold bP at *; omega) w
  rw [← hx] at c1
  rw [← hy] at c2
  rw [show (x + y) % bP = addM bP a b by rw [hx, hy]; simp [addM]] at c3
  clear hx hy hx1 hy1 ha hb
  go_enter Tryz.func221, Tryz.ntmps221
  go_wp2_with (first | (go_at_call 265; refine (c1 _).mono ?_; clear c1; rintro e w' ⟨rfl, rfl⟩) | (go_at_call 265; refine (c2 _).mono ?_; clear c2; rintro e w' ⟨rfl, rfl⟩) | (go_at_call 265; refine (c3 _).mono ?_; clear c3; rintro e w' ⟨rfl, rfl⟩))
  go_ret
  exact ⟨rfl, rfl⟩

theorem fMul_any (a b : Nat) (ha : a < 18446744073709551616) (hb : b < 18446744073709551616) (w : World) :
    Calls Tryz.prog 305 #[.int .u64 a, .int .u64 b] w fun e w' => e = .returned (.int .u64 (mulM bP a b : Nat)) ∧ w = w' := by
  obtain ⟨x, hx⟩ : ∃ x, x = a % bP := ⟨_, rfl⟩
  obtain ⟨y, hy⟩ : ∃ y, y = b % bP := ⟨_, rfl⟩
  have hx1 : x < 2305843009213693951 := by rw [hx]; exact Nat.mod_lt _ (by decide)
  have hy1 : y < 2305843009213693951 := by rw [hy]; exact Nat.mod_lt _ (by decide)
  obtain ⟨hi, hhi⟩ : ∃ hi, hi = x * y / 18446744073709551616 := ⟨_, rfl⟩
  obtain ⟨lo, hlo⟩ : ∃ lo, lo = x * y % 18446744073709551616 := ⟨_, rfl⟩
  have hxy : x * y < 2305843009213693952 * 2305843009213693952 := Nat.mul_lt_mul'' (by omega) (by omega)
  have b1 : hi < 288230376151711744 := by
    rw [hhi, Nat.div_lt_iff_lt_mul (by omega)]; omega
  have b2 : lo < 18446744073709551616 := by rw [hlo]; exact Nat.mod_lt _ (by omega)
  have c1 := fun w => one_any a ha w
  have c2 := fun w => one_any b hb w
  rw [← hx] at c1
  rw [← hy] at c2
  have c3 : ∀ w, Calls Tryz.prog 236 #[.int .u64 (x : Int), .int .u64 (y : Int)] w fun e w' => e = .returned (.tuple #[.int .u64 (hi : Int), .int .u64 (lo : Int)]) ∧ w = w' := fun w => by
    rw [hhi, hlo]; exact (Tryz.bits_Mul64 x y (by omega) (by omega) w).mono fun e w' ⟨he, hw⟩ => ⟨he, hw.symm⟩
  have e : (hi * 18446744073709551616 + lo) % bP = mulM bP a b := by
    have := Nat.div_add_mod (x * y) 18446744073709551616
    rw [show hi * 18446744073709551616 + lo = x * y by rw [hhi, hlo]; omega, hx, hy, ← Nat.mul_mod]; rfl
  have c4 := fun w => e ▸ fold_any hi lo b1 b2 w
  clear hx hy hx1 hy1 hhi hlo hxy b1 b2 e ha hb
  go_enter Tryz.func305, Tryz.ntmps305
  go_wp2_with (first | (go_at_call 265; refine (c1 _).mono ?_; clear c1; rintro e w' ⟨rfl, rfl⟩) | (go_at_call 265; refine (c2 _).mono ?_; clear c2; rintro e w' ⟨rfl, rfl⟩) | (go_at_call 236; refine (c3 _).mono ?_; clear c3; rintro e w' ⟨rfl, rfl⟩) | (go_at_call 304; refine (c4 _).mono ?_; clear c4; rintro e w' ⟨rfl, rfl⟩))
  go_ret
  exact ⟨rfl, rfl⟩
end Go.Proofs.YtfpmfegmehbfbaaGreatDoor

/- The hash, walked: Mix. -/
namespace Go.Proofs.YtfpmfegmehbfbaaGreatDoor
open Go.RowKit Go.Shelf

theorem seventeen_any (x : Nat) (hx : x < 18446744073709551616) (w : World) :
    Calls Tryz.prog 268 #[.int .u64 x] w fun e w' => e = .returned (.int .u64 (p17 x : Nat)) ∧ w = w' := by
  have cm := fun k w => fMul_any (sqs x k) (sqs x k) (sqs_lt hx k) (sqs_lt hx k) w
  have c4 := fun w => fMul_any x (sqs x 4) hx (sqs_lt hx 4) w
  rw [sqs_17] at c4
  clear hx
  go_enter Tryz.func268, Tryz.ntmps268
  go_wp2
  go_loopg [3, 5] 4 (fun g y i wr => wr = w ∧ ∃ k : Nat, k + g = 4 ∧ y = .int .u64 (sqs x k : Nat) ∧ i = .int .i64 k)
  case atStart => exact ⟨rfl, 0, rfl, rfl, rfl⟩
  case round =>
    obtain ⟨rfl, k, hk, rfl, rfl⟩ := hrel
    by_cases h : k < 4
    · have c := cm k
      rw [show mulM bP (sqs x k) (sqs x k) = sqs x (k + 1) from rfl] at c
      obtain ⟨y, hy⟩ : ∃ y, y = sqs x k := ⟨_, rfl⟩
      obtain ⟨z, hz⟩ : ∃ z, z = sqs x (k + 1) := ⟨_, rfl⟩
      rw [← hy, ← hz] at c
      rw [← hy]
      have HZ := Lib.hid hz
      clear cm c4 hy hz
      have HK := Lib.hid hk
      clear hk
      go_wp2_with (go_at_call 305; refine (c _).mono ?_; clear c; rintro e w' ⟨rfl, rfl⟩)
      have hk := HK.out
      go_roundg (gk - 1)
      case measure => omega
      case rel => exact ⟨rfl, k + 1, by omega, int_congr (by rw [HZ.out]), int_congr (by omega)⟩
    · obtain rfl : k = 4 := by omega
      clear cm
      generalize sqs x 4 = z at *
      go_wp2_with (go_at_call 305; refine (c4 _).mono ?_; clear c4; rintro e w' ⟨rfl, rfl⟩)
      go_ret
      exact ⟨rfl, rfl⟩

/-- The first closure of Mix: an element's part of a round; what all are together is put up. -/
theorem mix1_any (r i a all g ga : Nat) (hr : r < 8) (hi : i < 3) (ha : a < 18446744073709551616) (hall : all < 18446744073709551616) (w : World)
    (hg : w.cell? ⟨g, 0, none⟩ = some (.int .i64 r)) (hga : w.cell? ⟨ga, 0, none⟩ = some (.int .u64 all)) (hf : w.frozen? ⟨ga, 0, none⟩ = false) :
    Calls Tryz.prog 267 #[.int .i64 i, .int .u64 a, .pointer (some ⟨g, 0, none⟩), .pointer (some ⟨ga, 0, none⟩)] w fun e w' => e = .returned (.int .u64 (elem r i a : Nat)) ∧ w.setCell ⟨ga, 0, none⟩ (.int .u64 (addM bP all (elem r i a) : Nat)) = w' := by
  obtain ⟨n, hn⟩ : ∃ n, n = 3 * r + i + 1 := ⟨_, rfl⟩
  have hn24 : n ≤ 24 := by omega
  have b1 : n * n ≤ 576 := Nat.mul_le_mul hn24 hn24
  have b2 : n * n * n ≤ 13824 := Nat.mul_le_mul b1 hn24
  obtain ⟨v, hv⟩ : ∃ v, v = n * n * n + 7 := ⟨_, rfl⟩
  obtain ⟨x, hx⟩ : ∃ x, x = addM bP a v := ⟨_, rfl⟩
  have hx1 : x < bP := by rw [hx]; exact addM_lt' (by decide) _ _
  obtain ⟨y, hy⟩ : ∃ y, y = p17 x := ⟨_, rfl⟩
  have hy1 : y < bP := by rw [hy]; exact powM_lt (by decide) _ _
  have he : elem r i a = y := by unfold elem; rw [hy, hx, hv, hn]
  rw [he]
  have c1 := fun w => fAdd_any a v ha (by omega) w
  rw [← hx] at c1
  have c2 := fun w => seventeen_any x (Nat.lt_trans hx1 (by decide)) w
  rw [← hy] at c2
  have c3 := fun w => fAdd_any all y hall (Nat.lt_trans hy1 (by decide)) w
  have k0 : 3 * (r : Int) + (i : Int) + 1 = (n : Int) := by omega
  have k1 : (n : Int) * (n : Int) * (n : Int) + 7 = (v : Int) := by rw [hv]; simp
  have z1 : (r : Int) < 8 := by omega
  have z2 : (i : Int) < 3 := by omega
  have z3 : (n : Int) ≤ 24 := by omega
  have e1 : (n : Int) * (n : Int) = ((n * n : Nat) : Int) := (Int.natCast_mul _ _).symm
  have e2 : (n : Int) * (n : Int) * (n : Int) = ((n * n * n : Nat) : Int) := by rw [e1, ← Int.natCast_mul]
  have z4 : (n : Int) * (n : Int) ≤ 576 := by rw [e1]; omega
  have z5 : (n : Int) * (n : Int) * (n : Int) ≤ 13824 := by rw [e2]; omega
  have z6 : 0 ≤ (n : Int) * (n : Int) := by rw [e1]; omega
  have z7 : 0 ≤ (n : Int) * (n : Int) * (n : Int) := by rw [e2]; omega
  clear e1 e2
  clear hn hn24 b1 b2 hv hx hy he hx1 hy1 hr hi ha hall
  go_enter Tryz.func267, Tryz.ntmps267
  go_wp2_with (first | (go_at_call 221; refine (c1 _).mono ?_; clear c1; rintro e w' ⟨rfl, rfl⟩) | (go_at_call 268; refine (c2 _).mono ?_; clear c2; rintro e w' ⟨rfl, rfl⟩) | (go_at_call 221; refine (c3 _).mono ?_; clear c3; rintro e w' ⟨rfl, rfl⟩))
  go_ret
  exact ⟨rfl, rfl⟩

/-- The second closure of Mix. -/
theorem mix2_any (i : Int) (a all ga : Nat) (ha : a < 18446744073709551616) (hall : all < 18446744073709551616) (w : World)
    (hga : w.cell? ⟨ga, 0, none⟩ = some (.int .u64 all)) :
    Calls Tryz.prog 269 #[.int .i64 i, .int .u64 a, .pointer (some ⟨ga, 0, none⟩)] w fun e w' => e = .returned (.int .u64 (addM bP a all : Nat)) ∧ w = w' := by
  have c1 := fun w => fAdd_any a all ha hall w
  clear ha hall
  go_enter Tryz.func269, Tryz.ntmps269
  go_wp2_with (go_at_call 221; refine (c1 _).mono ?_; clear c1; rintro e w' ⟨rfl, rfl⟩)
  go_ret
  exact ⟨rfl, rfl⟩
end Go.Proofs.YtfpmfegmehbfbaaGreatDoor

/- math/bits.Rem64, walked. -/
namespace Go.Proofs.YtfpmfegmehbfbaaGreatDoor
open Go.RowKit Go.Shelf

/-- math/bits.Rem64, EVERY y but 0. -/
theorem rem64 (hi lo y : Nat) (h0 : 0 < y) (hhi : hi < 18446744073709551616) (hlo : lo < 18446744073709551616) (hy : y < 18446744073709551616) (w : World) :
    Calls Tryz.prog 244 #[.int .u64 hi, .int .u64 lo, .int .u64 y] w fun e w' => e = .returned (.int .u64 (((hi * 18446744073709551616 + lo) % y : Nat) : Int)) ∧ ∃ n, w' = w.drewN n := by
  have hm : hi % y < y := Nat.mod_lt _ h0
  obtain ⟨r, hr⟩ : ∃ r, r = hi % y := ⟨_, rfl⟩
  have k1 : (hi : Int) % (y : Int) = (r : Int) := by rw [hr]; simp
  have he : (hi * 18446744073709551616 + lo) % y = (r * 18446744073709551616 + lo) % y := by rw [hr]; simp [Nat.add_mod, Nat.mul_mod]
  rw [← hr] at hm
  have HE := Lib.hid he
  clear hr he
  have y0 : ((y : Int) == 0) = false := by simp; omega
  have c := fun w => div64 r lo y hm hlo hy w
  go_enter Tryz.func244, Tryz.ntmps244
  go_wp2_with (go_at_call 238; refine (c _).mono ?_; rintro e w' ⟨rfl, n, rfl⟩)
  go_ret
  exact ⟨ret_one (by rw [HE.out]; simp), _, rfl⟩
end Go.Proofs.YtfpmfegmehbfbaaGreatDoor

/- The layer 'cyclic', walked: each function's contract. -/
namespace Go.Proofs.YtfpmfegmehbfbaaGreatDoor
open Go.RowKit Go.Shelf

theorem cyAdd64_0 (x y : Nat) (w : World) : (callFunc 237 #[.int .u64 (x : Int), .int .u64 (y : Int), .int .u64 0]).run Tryz.prog w =
    .ok (.value (.tuple #[.int .u64 (((x + y) % 18446744073709551616 : Nat) : Int), .int .u64 (((x + y) / 18446744073709551616 : Nat) : Int)])) w := by
  have h := Any7.bits_Add64 Tryz.lays25 x y 0 (by decide) w
  rw [Nat.add_zero] at h
  exact h

/-- (ring).mul: the product modulo m. -/
theorem ring_mul (m a b : Nat) (h0 : 0 < m) (hm : m < 18446744073709551616) (ha : a < 18446744073709551616) (hb : b < 18446744073709551616) (w : World) :
    Calls Tryz.prog 196 #[.int .u64 m, .int .u64 a, .int .u64 b] w fun e w' => e = .returned (.int .u64 (mulM m a b : Nat)) ∧ ∃ n, w' = w.drewN n := by
  obtain ⟨hi, hhi⟩ : ∃ hi, hi = a * b / 18446744073709551616 := ⟨_, rfl⟩
  obtain ⟨lo, hlo⟩ : ∃ lo, lo = a * b % 18446744073709551616 := ⟨_, rfl⟩
  have b1 : hi < 18446744073709551616 := by
    rw [hhi, Nat.div_lt_iff_lt_mul (by omega)]; exact Nat.mul_lt_mul'' ha hb
  have b2 : lo < 18446744073709551616 := by rw [hlo]; exact Nat.mod_lt _ (by omega)
  have c1 : ∀ w, Calls Tryz.prog 236 #[.int .u64 (a : Int), .int .u64 (b : Int)] w fun e w' => e = .returned (.tuple #[.int .u64 (hi : Int), .int .u64 (lo : Int)]) ∧ w = w' := fun w => by
    rw [hhi, hlo]; exact (Tryz.bits_Mul64 a b ha hb w).mono fun e w' ⟨he, hw⟩ => ⟨he, hw.symm⟩
  have E : (hi * 18446744073709551616 + lo) % m = mulM m a b := by
    have := Nat.div_add_mod (a * b) 18446744073709551616
    have e : hi * 18446744073709551616 + lo = a * b := by rw [hhi, hlo]; omega
    rw [e]; rfl
  have c2 := fun w => E ▸ rem64 hi lo m h0 b1 b2 hm w
  clear E
  clear hhi hlo b1 b2 ha hb hm
  go_enter Tryz.func196, Tryz.ntmps196
  go_wp2_with (first | (go_at_call 236; refine (c1 _).mono ?_; rintro e w' ⟨rfl, rfl⟩) | (go_at_call 244; refine (c2 _).mono ?_; rintro e w' ⟨rfl, n, rfl⟩))
  go_ret
  exact ⟨rfl, _, rfl⟩

/-- (ring).add: the sum modulo m. -/
theorem ring_add (m a b : Nat) (h0 : 0 < m) (hm : m < 18446744073709551616) (w : World) :
    Calls Tryz.prog 195 #[.int .u64 m, .int .u64 a, .int .u64 b] w fun e w' => e = .returned (.int .u64 (addM m a b : Nat)) ∧ ∃ n, w' = w.drewN n := by
  obtain ⟨x, hx⟩ : ∃ x, x = a % m := ⟨_, rfl⟩
  obtain ⟨y, hy⟩ : ∃ y, y = b % m := ⟨_, rfl⟩
  have k1 : (a : Int) % (m : Int) = (x : Int) := by rw [hx]; simp
  have k2 : (b : Int) % (m : Int) = (y : Int) := by rw [hy]; simp
  have hxm : x < m := by rw [hx]; exact Nat.mod_lt _ h0
  have hym : y < m := by rw [hy]; exact Nat.mod_lt _ h0
  have c1 := fun w => cyAdd64_0 x y w
  obtain ⟨hi, hhi⟩ : ∃ hi, hi = (x + y) / 18446744073709551616 := ⟨_, rfl⟩
  obtain ⟨lo, hlo⟩ : ∃ lo, lo = (x + y) % 18446744073709551616 := ⟨_, rfl⟩
  rw [← hhi, ← hlo] at c1
  have E : (hi * 18446744073709551616 + lo) % m = addM m a b := by
    have e : hi * 18446744073709551616 + lo = x + y := by omega
    rw [e, hx, hy]; simp [addM]
  have c2 := fun w => E ▸ rem64 hi lo m h0 (by omega) (by omega) hm w
  clear E
  have m0 : ((m : Int) == 0) = false := by simp; omega
  clear hx hy hhi hlo hm hxm hym
  go_enter Tryz.func195, Tryz.ntmps195
  go_wp2
  go_quiet (fail)
  go_wp2_with (go_at_call 244; refine (c2 _).mono ?_; rintro e w' ⟨rfl, n, rfl⟩)
  go_ret
  exact ⟨rfl, _, rfl⟩

/-- (ring).inverse: m a prime. -/
theorem ring_inverse (m a : Nat) (hm : m < 4611686018427387904) (hp : Pr m) (w : World) :
    Calls Tryz.prog 210 #[.int .u64 m, .int .u64 a] w fun e w' => e = .returned (.tuple #[.int .u64 (invM m a : Nat), .int .i64 (invE m a : Nat)]) ∧ w = w' := by
  have h1 : 1 < m := hp.1
  have m0 : ((m : Int) == 0) = false := by simp; omega
  obtain ⟨x, hx⟩ : ∃ x, x = a % m := ⟨_, rfl⟩
  have k1 : (a : Int) % (m : Int) = (x : Int) := by rw [hx]; simp
  have hxm : x < m := by rw [hx]; exact Nat.mod_lt _ (by omega)
  by_cases h0 : x = 0
  · have ei : invM m a = 0 := by unfold invM; rw [if_pos (hx ▸ h0)]
    have ee : invE m a = 10 := by unfold invE; rw [if_pos (hx ▸ h0)]
    rw [ei, ee]
    subst h0
    clear hx hm hxm
    go_enter Tryz.func210, Tryz.ntmps210
    go_wp2
    go_ret2
    exact ⟨rfl, rfl⟩
  · have ee : invE m a = 0 := by unfold invE; rw [if_neg (hx ▸ h0)]
    have ha : a % m ≠ 0 := hx ▸ h0
    have G0 := GcdAt.start h1 hp ha
    rw [← hx] at G0
    have hG := Lib.hid G0
    have hA := Lib.hid ha
    have HM := Lib.hid hm
    have x0 : ((x : Int) == 0) = false := by simp; omega
    rw [ee]
    have x1 : (x : Int) < 4611686018427387904 := by omega
    have x2 : (m : Int) < 4611686018427387904 := by omega
    clear hx ha ee G0 hm
    go_enter Tryz.func210, Tryz.ntmps210
    go_wp2
    go_loop [6, 7, 8, 9, 10] (fun s6 s7 s8 s9 _ => ∃ x y : Nat, ∃ u v : Int, s6 = .int .u64 x ∧ s7 = .int .u64 y ∧ s8 = .int .i64 u ∧ s9 = .int .i64 v ∧ Hid (GcdAt m a x y u v) ∧ (-(m : Int) ≤ u ∧ u ≤ m)) (fun _ s7 _ _ _ => (intOf s7).toNat)
    case atStart => exact ⟨x, m, 1, 0, by rw [k1], rfl, rfl, rfl, hG, by omega, by omega⟩
    case round =>
      obtain ⟨x, y, u, v, rfl, rfl, rfl, rfl, HG, b1, b2⟩ := hrel
      have hg := HG.out
      have bv := hg.bounds
      have b3 := hg.xm
      have b4 := hg.ym
      by_cases hy : y = 0
      · subst hy
        obtain ⟨d1, d2⟩ := hg.done h1 hp hA.out ⟨b1, b2⟩
        have D := Lib.hid d2
        clear hg d2 k1
        by_cases hu : u < 0
        · have d3 := d1 hu
          clear d1
          go_wp2
          go_ret2
          exact ⟨ret_two (by rw [← D.out, if_pos hu]) rfl, rfl⟩
        · clear d1
          go_wp2
          go_ret2
          exact ⟨ret_two (by rw [← D.out, if_neg (by omega)]) rfl, rfl⟩
      · obtain ⟨hn, hle, hlt⟩ := hg.next (Nat.pos_of_ne_zero hy)
        have bn := hn.bounds
        obtain ⟨q, hq⟩ : ∃ q, q = x / y := ⟨_, rfl⟩
        have k3 : (x : Int) / (y : Int) = (q : Int) := by rw [hq]; simp
        have hqx : q ≤ x := by rw [hq]; exact Nat.div_le_self x y
        rw [← hq] at hn hle bn hlt
        obtain ⟨r, hr⟩ : ∃ r, r = q * y := ⟨_, rfl⟩
        have k4 : (q : Int) * (y : Int) = (r : Int) := by rw [hr]; simp
        rw [← hr] at hn hle hlt
        have HL := Lib.hid hlt
        obtain ⟨t, ht⟩ : ∃ t, t = (q : Int) * v := ⟨_, rfl⟩
        rw [← ht] at hn bn
        have HN := Lib.hid hn
        have y0 : ((y : Int) == 0) = false := by simp; omega
        have y0' : ((y : Int) != 0) = true := by simp; omega
        have k5 : (q : Int) * v = t := ht.symm
        have x3 : (x : Int) < 4611686018427387904 := by omega
        have x4 : (q : Int) < 4611686018427387904 := by omega
        have x5 : (r : Int) ≤ x := by omega
        obtain ⟨t1, t2⟩ : -(9223372036854775808 : Int) < t ∧ t < 9223372036854775808 := by omega
        have y1 : 1 ≤ (y : Int) := by omega
        clear hg hn hq hr ht k1 hle hqx hlt
        go_wp2
        go_round
        case rel => exact ⟨y, x - r, v, u - t, rfl, int_congr (by omega), rfl, rfl, HN, bv⟩
        case measure => have := HL.out; simp [intOf]; omega

/-! ### the exported functions of the two rings -/
theorem Mul_any (a b : Nat) (ha : a < 18446744073709551616) (hb : b < 18446744073709551616) (w : World) :
    Calls Tryz.prog 118 #[.int .u64 a, .int .u64 b] w fun e w' => e = .returned (.int .u64 (mulM bQ a b : Nat)) ∧ ∃ n, w' = w.drewN n := by
  have c := fun w => ring_mul bQ a b (by decide) (by decide) ha hb w
  go_enter Tryz.func118, Tryz.ntmps118
  go_wp2_with (go_at_call 196; refine (c _).mono ?_; rintro e w' ⟨rfl, n, rfl⟩)
  go_ret
  exact ⟨rfl, _, rfl⟩
theorem MulR_any (a b : Nat) (ha : a < 18446744073709551616) (hb : b < 18446744073709551616) (w : World) :
    Calls Tryz.prog 109 #[.int .u64 a, .int .u64 b] w fun e w' => e = .returned (.int .u64 (mulM bR a b : Nat)) ∧ ∃ n, w' = w.drewN n := by
  have c := fun w => ring_mul bR a b (by decide) (by decide) ha hb w
  go_enter Tryz.func109, Tryz.ntmps109
  go_wp2_with (go_at_call 196; refine (c _).mono ?_; rintro e w' ⟨rfl, n, rfl⟩)
  go_ret
  exact ⟨rfl, _, rfl⟩
theorem AddR_any (a b : Nat) (w : World) :
    Calls Tryz.prog 108 #[.int .u64 a, .int .u64 b] w fun e w' => e = .returned (.int .u64 (addM bR a b : Nat)) ∧ ∃ n, w' = w.drewN n := by
  have c := fun w => ring_add bR a b (by decide) (by decide) w
  go_enter Tryz.func108, Tryz.ntmps108
  go_wp2_with (go_at_call 195; refine (c _).mono ?_; rintro e w' ⟨rfl, n, rfl⟩)
  go_ret
  exact ⟨rfl, _, rfl⟩
theorem Inv_any (a : Nat) (w : World) :
    Calls Tryz.prog 116 #[.int .u64 a] w fun e w' => e = .returned (.tuple #[.int .u64 (invM bQ a : Nat), .int .i64 (invE bQ a : Nat)]) ∧ w = w' := by
  have c := fun w => ring_inverse bQ a (by decide) pr_Q w
  go_enter Tryz.func116, Tryz.ntmps116
  go_wp2_with (go_at_call 210; refine (c _).mono ?_; rintro e w' ⟨rfl, rfl⟩)
  go_ret2
  exact ⟨rfl, rfl⟩
end Go.Proofs.YtfpmfegmehbfbaaGreatDoor

/- The document's answer for the layer 'cyclic' (greatsealref03), walked. -/
namespace Go.Proofs.YtfpmfegmehbfbaaGreatDoor
open Go.RowKit Go.Shelf

/-! ### the exported ones -/
end Go.Proofs.YtfpmfegmehbfbaaGreatDoor
