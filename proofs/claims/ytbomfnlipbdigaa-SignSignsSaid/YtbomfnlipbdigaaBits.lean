/- math/bits.Div64, walked. -/
import Derived.Test.YtbomfnlipbdigaaShelf
import Derived.Test.YtbomfnlipbdigaaBase
import Derived.WalkKit
import Derived.WalkSpells
import Derived.WalkLawsBesides
import Derived.Deep.QuietTactic
import Derived.BigQuiet
import Derived.Lib.Hide
import Derived.Deep.DeepCutAuto
import Derived.Deep.CutBlock
import Derived.Deep.LoopGhost
import Derived.Lib.ItoaNum
import Derived.Laws.Bits64b
import Derived.Test.YtbomfnlipbdigaaDiv
namespace Go.Proofs.Ytbomfnlipbdigaa
open Go.RowKit Go.Shelf

theorem wrap_div (a b : Nat) (ha : a < 18446744073709551616) : IntKind.u64.wrap ((a : Int) / (b : Int)) = ((a / b : Nat) : Int) := by
  have h := Nat.div_le_self a b
  have e : (a : Int) / (b : Int) = ((a / b : Nat) : Int) := by simp
  rw [e, IntKind.wrap_u64]
  generalize a / b = q at *
  omega

theorem div64_low (lo y : Nat) (hy0 : 0 < y) (hlo : lo < 18446744073709551616) (hy : y < 18446744073709551616) (w : World) :
    Calls Try.prog 58 #[.int .u64 (0 : Nat), .int .u64 lo, .int .u64 y] w fun e w' => e = .returned (.tuple #[.int .u64 ((lo / y : Nat) : Int), .int .u64 ((lo % y : Nat) : Int)]) ∧ ∃ n, w' = w.drewN n := by
  go_enter Try.func58, Try.ntmps58
  go_wp2
  go_quiet (fail)
  go_wp2
  go_ret2
  exact ⟨ret_two (wrap_div lo y hlo) (by omega), _, rfl⟩

theorem lz_spec (y : Nat) (h0 : 0 < y) (hy : y < 18446744073709551616) : ∃ s : Nat, s ≤ 63 ∧ 9223372036854775808 ≤ y * 2 ^ s ∧ y * 2 ^ s < 18446744073709551616 ∧ (64 - (Lib.bitLen (y : Int).toNat : Int)) = s := by
  obtain ⟨a, b, c⟩ := Lib.bitLenAux_bounds 64 y hy (by omega)
  have hle := Lib.bitLen_le y 64 (by omega) hy
  refine ⟨64 - Lib.bitLen y, ?_, ?_, ?_, ?_⟩
  · unfold Lib.bitLen at *; omega
  · unfold Lib.bitLen at *
    generalize Lib.bitLenAux 64 y = L at *
    have : 2 ^ (L - 1) * 2 ^ (64 - L) ≤ y * 2 ^ (64 - L) := Nat.mul_le_mul_right _ b
    rw [← Nat.pow_add, show L - 1 + (64 - L) = 63 by omega] at this
    exact this
  · unfold Lib.bitLen at *
    generalize Lib.bitLenAux 64 y = L at *
    have := Nat.mul_lt_mul_of_pos_right c (Nat.two_pow_pos (64 - L))
    rw [← Nat.pow_add, show L + (64 - L) = 64 by omega] at this
    exact this
  · simp only [Int.toNat_natCast]; omega

set_option maxRecDepth 100000 in
theorem div64_high (hi lo y : Nat) (h0 : 0 < hi) (hh : hi < y) (hlo : lo < 18446744073709551616) (hy : y < 18446744073709551616) (w : World) :
    Calls Try.prog 58 #[.int .u64 hi, .int .u64 lo, .int .u64 y] w fun e w' => e = .returned (.tuple #[.int .u64 (((hi * 18446744073709551616 + lo) / y : Nat) : Int), .int .u64 (((hi * 18446744073709551616 + lo) % y : Nat) : Int)]) ∧ ∃ n, w' = w.drewN n := by
  obtain ⟨s, hs, hY1, hY2, hl⟩ := lz_spec y (by omega) hy
  have c0 : Calls Try.prog 69 #[.int .u64 (y : Int)] w fun e w' => e = .returned (.int .i64 (s : Int)) ∧ w = w' := (Try.bits_LeadingZeros64 _ _ (by omega) (by omega)).mono fun e w' ⟨he, hw⟩ => ⟨by rw [he, hl], hw.symm⟩
  clear hl
  have g1 : ((y : Int) == 0) = false := by simp; omega
  have g2 : ((hi : Int) == 0) = false := by simp; omega
  have g3 : ¬ y ≤ hi := by omega
  obtain ⟨Y, hY⟩ : ∃ Y, Y = y * 2 ^ s := ⟨_, rfl⟩
  have k1 : IntKind.u64.wrap ((y : Int) * 2 ^ s) = (Y : Int) := by
    have e : (y : Int) * 2 ^ s = ((y * 2 ^ s : Nat) : Int) := by simp
    rw [e, ← hY, IntKind.wrap_u64]; omega
  rw [← hY] at hY1 hY2
  have HY := Lib.hid hY
  clear hY
  obtain ⟨y1, y0, hYY, b1, b2, b3⟩ : ∃ y1 y0, Y = y1 * 4294967296 + y0 ∧ 2147483648 ≤ y1 ∧ y1 < 4294967296 ∧ y0 < 4294967296 := ⟨Y / 4294967296, Y % 4294967296, by omega, by omega, by omega, by omega⟩
  have k2 : (Y : Int) / 4294967296 = y1 := by omega
  have k3 : bits .and .u64 (Y : Int) 4294967295 = y0 := by rw [Mul64.maskN Y hY2]; omega
  obtain ⟨e1, e2⟩ := shift_two hi lo s (by omega) hlo
  have hhs : hi * 2 ^ s < 18446744073709551616 := by
    have := Nat.mul_le_mul_right (2 ^ s) (Nat.le_of_lt hh)
    rw [← HY.out] at this; omega
  obtain ⟨H, hH⟩ : ∃ H, H = hi * 2 ^ s := ⟨_, rfl⟩
  obtain ⟨L, hL⟩ : ∃ L, L = lo / 2 ^ (64 - s) := ⟨_, rfl⟩
  obtain ⟨T, hT⟩ : ∃ T, T = lo * 2 ^ s % 18446744073709551616 := ⟨_, rfl⟩
  have k4 : IntKind.u64.wrap ((hi : Int) * 2 ^ s) = (H : Int) := by
    have e : (hi : Int) * 2 ^ s = ((hi * 2 ^ s : Nat) : Int) := by simp
    rw [e, ← hH, IntKind.wrap_u64]; omega
  have k5 : (lo : Int) / 2 ^ (64 - s) = (L : Int) := by
    rw [hL]; simp
  have k6 : IntKind.u64.wrap ((lo : Int) * 2 ^ s) = (T : Int) := by
    have e : (lo : Int) * 2 ^ s = ((lo * 2 ^ s : Nat) : Int) := by simp
    rw [e, IntKind.wrap_u64, hT]; omega
  rw [← hH, ← hL, ← hT] at e1
  rw [← hH, ← hL] at e2
  have hTlt : T < 18446744073709551616 := by rw [hT]; exact Nat.mod_lt _ (by omega)
  have hUY : H + L < Y := by
    have h1 : (hi * 18446744073709551616 + lo) * 2 ^ s < y * 2 ^ s * 18446744073709551616 := by
      have : hi * 18446744073709551616 + lo < y * 18446744073709551616 := by omega
      have := Nat.mul_lt_mul_of_pos_right this (Nat.two_pow_pos s)
      calc _ < _ := this
        _ = _ := by grind
    rw [e1, ← HY.out] at h1
    omega
  clear hH hL hT
  obtain ⟨U, hU⟩ : ∃ U, U = H + L := ⟨_, rfl⟩
  rw [← hU] at e1 e2 hUY
  have hL64 : L < 18446744073709551616 := by omega
  have k7 : bits .or .u64 (H : Int) (L : Int) = (U : Int) := by rw [bits_or_u64_nat H L (by omega) hL64, e2]
  clear e2 hhs hU
  obtain ⟨t1, t0, hTT, b4, b5⟩ : ∃ t1 t0, T = t1 * 4294967296 + t0 ∧ t1 < 4294967296 ∧ t0 < 4294967296 := ⟨T / 4294967296, T % 4294967296, by omega, by omega, by omega⟩
  have k8 : (T : Int) / 4294967296 = t1 := by omega
  have k9 : bits .and .u64 (T : Int) 4294967295 = t0 := by rw [Mul64.maskN T hTlt]; omega
  have E1 := Lib.hid e1
  have HTT := Lib.hid hTT
  have HYY := Lib.hid hYY
  have d0 := DivAt.start (u := U) (d := t1) (y1 := y1) (y0 := y0) (by omega) b4 b1 b2 b3
  have dsm := d0.small
  clear hYY hTT e1
  have hqm : U / y1 * y1 ≤ U := Nat.div_mul_le_self U y1
  have hmr : U - U / y1 * y1 = U % y1 := by have := Nat.mod_add_div U y1; rw [Nat.mul_comm] at this; omega
  obtain ⟨q, hq⟩ : ∃ q, q = U / y1 := ⟨_, rfl⟩
  obtain ⟨r, hr⟩ : ∃ r, r = U % y1 := ⟨_, rfl⟩
  obtain ⟨m, hm⟩ : ∃ m, m = q * y1 := ⟨_, rfl⟩
  have k10 : IntKind.u64.wrap ((U : Int) / (y1 : Int)) = (q : Int) := by rw [wrap_div U y1 (by omega), hq]
  rw [← hq] at hqm hmr d0
  rw [← hr] at hmr d0
  rw [← hm] at hqm hmr
  have k11 : IntKind.u64.wrap ((q : Int) * (y1 : Int)) = (m : Int) := by
    have e : (q : Int) * (y1 : Int) = ((q * y1 : Nat) : Int) := by simp
    rw [e, ← hm, IntKind.wrap_u64]; omega
  have k12 : (U : Int) - (m : Int) = (r : Int) := by omega
  obtain ⟨A1, hA1⟩ : ∃ A1, A1 = (U * 4294967296 + t1) / Y := ⟨_, rfl⟩
  rw [← HYY.out, ← hA1] at dsm
  have HA1 := Lib.hid hA1
  clear hA1 hq hr hm hmr
  have D0 := Lib.hid d0
  have z1 : (Y : Int) < 18446744073709551616 := by omega
  have z2 : 9223372036854775808 ≤ (Y : Int) := by omega
  have z3 : 2147483648 ≤ (y1 : Int) := by omega
  have z4 : (y1 : Int) < 4294967296 := by omega
  have z5 : (y0 : Int) < 4294967296 := by omega
  have z6 : (t1 : Int) < 4294967296 := by omega
  have z7 : (t0 : Int) < 4294967296 := by omega
  have z8 : (T : Int) < 18446744073709551616 := by omega
  have z9 : (A1 : Int) < 4294967296 := by omega
  have HB := Lib.hid (And.intro hlo (And.intro hy (And.intro hY1 (And.intro hY2 (And.intro hTlt (And.intro b1 (And.intro b2 (And.intro b3 (And.intro b4 (And.intro b5 (And.intro hL64 dsm)))))))))))
  clear d0 hlo hy hY1 hY2 hTlt b1 b2 b3 b4 b5 hL64 dsm
  go_enter Try.func58, Try.ntmps58
  go_upto_block 0 with (go_at_call 69; refine c0.mono ?_; rintro e w' ⟨rfl, rfl⟩)
  go_cut [15] (fun t wx => wx = w ∧ t = .int .u64 A1)
  case first =>
    go_wp2_with fail
    go_loopg [15, 16] q (fun k a b wr => wr = w ∧ ∃ r : Nat, a = .int .u64 k ∧ b = .int .u64 r ∧ Hid (DivAt U t1 y1 y0 k r))
    case atStart => exact ⟨rfl, r, rfl, rfl, D0⟩
    case round =>
      obtain ⟨rfl, r, rfl, rfl, HD⟩ := hrel
      obtain ⟨q, rfl⟩ : ∃ q, q = gk := ⟨_, rfl⟩
      clear k10 k11 k12
      have hd := HD.out
      obtain ⟨_, _, _, _, _, b1, b2, b3, b4, b5, _, _⟩ := HB.out
      have htop := hd.top
      have hlo := hd.lo
      have x1 : (q : Int) ≤ 4294967297 := by omega
      have x2 : (r : Int) < 4294967296 := by omega
      have num : ∀ {a b : Int}, a = b → Value.int .u64 a = .int .u64 b := fun h => by rw [h]
      by_cases c1 : (4294967296 : Int) ≤ q
      · by_cases c2 : ¬ (4294967296 : Int) ≤ (r : Int) + (y1 : Int)
        · have hn := Lib.hid (hd.next (Or.inl (by omega)) (by omega))
          clear hd htop hlo b1 b2 b3 b4 b5
          go_wp2
          go_roundg (q - 1)
          case measure => omega
          case rel => exact ⟨rfl, r + y1, num (by omega), num (by omega), hn⟩
        · have c2 := Decidable.of_not_not c2
          have hn := Lib.hid (hd.leave (Or.inl (by omega)) (by omega))
          clear hd htop hlo b1 b2 b3 b4 b5
          go_wp2_with fail
          go_meet
          exact ⟨rfl, num (by rw [HA1.out, HYY.out, ← hn.out]; omega)⟩
      · have hqy : q * y0 < 18446744073709551616 := by
          have := Nat.mul_le_mul (show q ≤ 4294967295 by omega) (show y0 ≤ 4294967295 by omega)
          omega
        obtain ⟨n, hn0⟩ : ∃ n, n = q * y0 := ⟨_, rfl⟩
        have k20 : IntKind.u64.wrap ((q : Int) * (y0 : Int)) = (n : Int) := by
          have e : (q : Int) * (y0 : Int) = ((q * y0 : Nat) : Int) := by simp
          rw [e, ← hn0, IntKind.wrap_u64]; omega
        have HN := Lib.hid hn0
        by_cases c3 : 4294967296 * (r : Int) + (t1 : Int) < n
        · have x0 : 1 ≤ (q : Int) := by rcases Nat.eq_zero_or_pos q with h | h; subst h; simp at hn0; omega; omega
          by_cases c2 : ¬ (4294967296 : Int) ≤ (r : Int) + (y1 : Int)
          · have hn := Lib.hid (hd.next (Or.inr (by omega)) (by omega))
            clear hd htop hlo b1 b2 b3 b4 b5 hqy hn0
            go_wp2
            go_roundg (q - 1)
            case measure => omega
            case rel => exact ⟨rfl, r + y1, num (by omega), num (by omega), hn⟩
          · have c2 := Decidable.of_not_not c2
            have hn := Lib.hid (hd.leave (Or.inr (by omega)) (by omega))
            clear hd htop hlo b1 b2 b3 b4 b5 hqy hn0
            go_wp2_with fail
            go_meet
            exact ⟨rfl, num (by rw [HA1.out, HYY.out, ← hn.out]; omega)⟩
        · have hn := Lib.hid (hd.stop (by omega))
          clear hd htop hlo b1 b2 b3 b4 b5 hqy hn0
          go_wp2_with fail
          go_meet
          exact ⟨rfl, by rw [HA1.out, HYY.out, ← hn.out]⟩
  case rest =>
    obtain ⟨rfl, rfl⟩ := hcut
    clear k10 k11 k12
    obtain ⟨hlo, hy, hY1, hY2, hTlt, b1, b2, b3, b4, b5, hL64, dsm⟩ := HB.out
    obtain ⟨V, hV⟩ : ∃ V, V = (U * 4294967296 + t1) % Y := ⟨_, rfl⟩
    have hVY : V < Y := by rw [hV]; exact Nat.mod_lt _ (by omega)
    have hdm := Nat.div_add_mod (U * 4294967296 + t1) Y
    rw [← HA1.out, ← hV] at hdm
    obtain ⟨a, ha⟩ : ∃ a, a = U * 4294967296 % 18446744073709551616 := ⟨_, rfl⟩
    obtain ⟨b, hb⟩ : ∃ b, b = (a + t1) % 18446744073709551616 := ⟨_, rfl⟩
    obtain ⟨c, hc⟩ : ∃ c, c = Y * A1 % 18446744073709551616 := ⟨_, rfl⟩
    have k13 : IntKind.u64.wrap ((U : Int) * 4294967296) = (a : Int) := by rw [IntKind.wrap_u64]; omega
    have k14 : IntKind.u64.wrap ((a : Int) + (t1 : Int)) = (b : Int) := by rw [IntKind.wrap_u64]; omega
    have k15 : IntKind.u64.wrap ((A1 : Int) * (Y : Int)) = (c : Int) := by
      have e : (A1 : Int) * (Y : Int) = ((Y * A1 : Nat) : Int) := by rw [Nat.mul_comm]; simp
      rw [e, IntKind.wrap_u64]; omega
    have k16 : IntKind.u64.wrap ((b : Int) - (c : Int)) = (V : Int) := by rw [IntKind.wrap_u64]; omega
    have HV := Lib.hid hV
    have hqm : V / y1 * y1 ≤ V := Nat.div_mul_le_self V y1
    have hmr : V - V / y1 * y1 = V % y1 := by have := Nat.mod_add_div V y1; rw [Nat.mul_comm] at this; omega
    have hVu : V < y1 * 4294967296 + y0 := by rw [← HYY.out]; exact hVY
    have d1 := DivAt.start (u := V) (d := t0) hVu b5 b1 b2 b3
    have dsm2 := d1.small
    obtain ⟨q, hq⟩ : ∃ q, q = V / y1 := ⟨_, rfl⟩
    obtain ⟨r, hr⟩ : ∃ r, r = V % y1 := ⟨_, rfl⟩
    obtain ⟨m, hm⟩ : ∃ m, m = q * y1 := ⟨_, rfl⟩
    have k30 : IntKind.u64.wrap ((V : Int) / (y1 : Int)) = (q : Int) := by rw [wrap_div V y1 (by omega), hq]
    rw [← hq] at hqm hmr d1
    rw [← hr] at hmr d1
    rw [← hm] at hqm hmr
    have k31 : IntKind.u64.wrap ((q : Int) * (y1 : Int)) = (m : Int) := by
      have e : (q : Int) * (y1 : Int) = ((q * y1 : Nat) : Int) := by simp
      rw [e, ← hm, IntKind.wrap_u64]; omega
    have k32 : (V : Int) - (m : Int) = (r : Int) := by omega
    obtain ⟨A0, hA0⟩ : ∃ A0, A0 = (V * 4294967296 + t0) / Y := ⟨_, rfl⟩
    rw [← HYY.out, ← hA0] at dsm2
    have HA0 := Lib.hid hA0
    have D1 := Lib.hid d1
    have z10 : (A0 : Int) < 4294967296 := by omega
    clear d1 hA0 hq hr hm hmr hV hVu hdm ha hb hc hlo hy hY1 hY2 hTlt b1 b2 b3 b4 b5 hL64 dsm dsm2
    go_upto_block 2 with (fail)
    go_cut [18] (fun t wx => wx = wc ∧ t = .int .u64 A0)
    case first =>
      go_wp2_with fail
      go_loopg [18, 16] q (fun k a b wr => wr = wc ∧ ∃ r : Nat, a = .int .u64 k ∧ b = .int .u64 r ∧ Hid (DivAt V t0 y1 y0 k r))
      case atStart => exact ⟨rfl, r, rfl, rfl, D1⟩
      case round =>
        obtain ⟨rfl, r, rfl, rfl, HD⟩ := hrel
        obtain ⟨q, rfl⟩ : ∃ q, q = gk := ⟨_, rfl⟩
        clear k30 k31 k32
        have hd := HD.out
        obtain ⟨_, _, _, _, _, b1, b2, b3, b4, b5, _, _⟩ := HB.out
        have htop := hd.top
        have hlo := hd.lo
        have x1 : (q : Int) ≤ 4294967297 := by omega
        have x2 : (r : Int) < 4294967296 := by omega
        have num : ∀ {a b : Int}, a = b → Value.int .u64 a = .int .u64 b := fun h => by rw [h]
        by_cases c1 : (4294967296 : Int) ≤ q
        · by_cases c2 : ¬ (4294967296 : Int) ≤ (r : Int) + (y1 : Int)
          · have hn := Lib.hid (hd.next (Or.inl (by omega)) (by omega))
            clear hd htop hlo b1 b2 b3 b4 b5
            go_wp2
            go_roundg (q - 1)
            case measure => omega
            case rel => exact ⟨rfl, r + y1, num (by omega), num (by omega), hn⟩
          · have c2 := Decidable.of_not_not c2
            have hn := Lib.hid (hd.leave (Or.inl (by omega)) (by omega))
            clear hd htop hlo b1 b2 b3 b4 b5
            go_wp2_with fail
            go_meet
            exact ⟨rfl, num (by rw [HA0.out, HYY.out, ← hn.out]; omega)⟩
        · have hqy : q * y0 < 18446744073709551616 := by
            have := Nat.mul_le_mul (show q ≤ 4294967295 by omega) (show y0 ≤ 4294967295 by omega)
            omega
          obtain ⟨n, hn0⟩ : ∃ n, n = q * y0 := ⟨_, rfl⟩
          have k20 : IntKind.u64.wrap ((q : Int) * (y0 : Int)) = (n : Int) := by
            have e : (q : Int) * (y0 : Int) = ((q * y0 : Nat) : Int) := by simp
            rw [e, ← hn0, IntKind.wrap_u64]; omega
          have HN := Lib.hid hn0
          by_cases c3 : 4294967296 * (r : Int) + (t0 : Int) < n
          · have x0 : 1 ≤ (q : Int) := by rcases Nat.eq_zero_or_pos q with h | h; subst h; simp at hn0; omega; omega
            by_cases c2 : ¬ (4294967296 : Int) ≤ (r : Int) + (y1 : Int)
            · have hn := Lib.hid (hd.next (Or.inr (by omega)) (by omega))
              clear hd htop hlo b1 b2 b3 b4 b5 hqy hn0
              go_wp2
              go_roundg (q - 1)
              case measure => omega
              case rel => exact ⟨rfl, r + y1, num (by omega), num (by omega), hn⟩
            · have c2 := Decidable.of_not_not c2
              have hn := Lib.hid (hd.leave (Or.inr (by omega)) (by omega))
              clear hd htop hlo b1 b2 b3 b4 b5 hqy hn0
              go_wp2_with fail
              go_meet
              exact ⟨rfl, num (by rw [HA0.out, HYY.out, ← hn.out]; omega)⟩
          · have hn := Lib.hid (hd.stop (by omega))
            clear hd htop hlo b1 b2 b3 b4 b5 hqy hn0
            go_wp2_with fail
            go_meet
            exact ⟨rfl, by rw [HA0.out, HYY.out, ← hn.out]⟩
    case rest =>
      obtain ⟨rfl, rfl⟩ := hcut
      clear k13 k14 k15 k16 k30 k31 k32
      obtain ⟨hlo, hy, hY1, hY2, hTlt, b1, b2, b3, b4, b5, hL64, dsm⟩ := HB.out
      obtain ⟨X, hX⟩ : ∃ X, X = (V * 4294967296 + t0) % Y := ⟨_, rfl⟩
      have hXY : X < Y := by rw [hX]; exact Nat.mod_lt _ (by omega)
      have hdm := Nat.div_add_mod (V * 4294967296 + t0) Y
      rw [← HA0.out, ← hX] at hdm
      obtain ⟨a, ha⟩ : ∃ a, a = V * 4294967296 % 18446744073709551616 := ⟨_, rfl⟩
      obtain ⟨b, hb⟩ : ∃ b, b = (a + t0) % 18446744073709551616 := ⟨_, rfl⟩
      obtain ⟨c, hc⟩ : ∃ c, c = Y * A0 % 18446744073709551616 := ⟨_, rfl⟩
      have k13 : IntKind.u64.wrap ((V : Int) * 4294967296) = (a : Int) := by rw [IntKind.wrap_u64]; omega
      have k14 : IntKind.u64.wrap ((a : Int) + (t0 : Int)) = (b : Int) := by rw [IntKind.wrap_u64]; omega
      have k15 : IntKind.u64.wrap ((A0 : Int) * (Y : Int)) = (c : Int) := by
        have e : (A0 : Int) * (Y : Int) = ((Y * A0 : Nat) : Int) := by rw [Nat.mul_comm]; simp
        rw [e, IntKind.wrap_u64]; omega
      have k16 : IntKind.u64.wrap ((b : Int) - (c : Int)) = (X : Int) := by rw [IntKind.wrap_u64]; omega
      have HX := Lib.hid hX
      clear hX hdm ha hb hc hlo hy hY1 hY2 hTlt b1 b2 b3 b4 b5 hL64 dsm
      go_wp2
      go_ret2
      obtain ⟨f1, f2⟩ := div_fin _ y s Y U T t1 t0 A1 V A0 X (by omega) HY.out E1.out HTT.out HA1.out HV.out HA0.out HX.out
      rw [f1, f2]
      exact ⟨ret_two (by simp) (by simp), 0, rfl⟩

/-- math/bits.Div64, EVERY hi < y, EVERY lo. -/
theorem div64 (hi lo y : Nat) (hh : hi < y) (hlo : lo < 18446744073709551616) (hy : y < 18446744073709551616) (w : World) :
    Calls Try.prog 58 #[.int .u64 hi, .int .u64 lo, .int .u64 y] w fun e w' => e = .returned (.tuple #[.int .u64 (((hi * 18446744073709551616 + lo) / y : Nat) : Int), .int .u64 (((hi * 18446744073709551616 + lo) % y : Nat) : Int)]) ∧ ∃ n, w' = w.drewN n := by
  rcases Nat.eq_zero_or_pos hi with h | h
  · subst h
    have := div64_low lo y hh hlo hy w
    rwa [Nat.zero_mul, Nat.zero_add]
  · exact div64_high hi lo y h hh hlo hy w
end Go.Proofs.Ytbomfnlipbdigaa
