/- The hash, walked: Num, and the document's. -/
import Derived.Test.YtbomfnlipbdigaaBits
import Derived.Test.YtbomfnlipbdigaaMem
import Derived.Deep.LoopGhost
import Derived.Deep.RegionHeld3
import Derived.StillTailTactics
namespace Go.Proofs.Ytbomfnlipbdigaa
open Go.RowKit Go.Shelf

theorem add64_0 (x y : Nat) (w : World) : (callFunc 57 #[.int .u64 (x : Int), .int .u64 (y : Int), .int .u64 0]).run Try.prog w =
    .ok (.value (.tuple #[.int .u64 (((x + y) % 18446744073709551616 : Nat) : Int), .int .u64 (((x + y) / 18446744073709551616 : Nat) : Int)])) w := by
  have h := Any7.bits_Add64 Try.lays25 x y 0 (by decide) w
  rw [Nat.add_zero] at h
  exact h

def numM (a b m : Nat) : Nat := if m = 0 then 0 else (a * 2305843009213693952 + b) % m

set_option maxRecDepth 100000 in
theorem Num_any (a b m : Nat) (ha : a < 18446744073709551616) (hb : b < 18446744073709551616) (hm : m < 18446744073709551616) (w : World) :
    Calls Try.prog 38 #[.agg #[.int .u64 a, .int .u64 b], .int .u64 m] w fun e w' => e = .returned (.int .u64 (numM a b m : Nat)) ∧ Ext w w' := by
  rcases Nat.eq_zero_or_pos m with rfl | h0
  · have e : numM a b 0 = 0 := rfl
    rw [e]
    clear ha hb hm e
    go_enter Try.func38, Try.ntmps38
    go_wp2
    go_ret
    exact ⟨rfl, (Ext.refl w).alloc _⟩
  · obtain ⟨hi, hhi⟩ : ∃ hi, hi = a * 2305843009213693952 / 18446744073709551616 := ⟨_, rfl⟩
    obtain ⟨lo, hlo⟩ : ∃ lo, lo = a * 2305843009213693952 % 18446744073709551616 := ⟨_, rfl⟩
    have c1 : ∀ w, Calls Try.prog 56 #[.int .u64 (a : Int), .int .u64 2305843009213693952] w fun e w' => e = .returned (.tuple #[.int .u64 (hi : Int), .int .u64 (lo : Int)]) ∧ w = w' := fun w => by
      rw [hhi, hlo]; exact (Try.bits_Mul64 a 2305843009213693952 ha (by decide) w).mono fun e w' ⟨he, hw⟩ => ⟨he, hw.symm⟩
    have hhi1 : hi ≤ 2305843009213693952 := by rw [hhi]; omega
    have c2 := fun w => add64_0 lo b w
    obtain ⟨more, hmore⟩ : ∃ x, x = (lo + b) / 18446744073709551616 := ⟨_, rfl⟩
    obtain ⟨lo2, hlo2⟩ : ∃ x, x = (lo + b) % 18446744073709551616 := ⟨_, rfl⟩
    rw [← hmore, ← hlo2] at c2
    have hm1 : more ≤ 1 := by rw [hmore]; omega
    obtain ⟨h2, hh2⟩ : ∃ x, x = (hi + more) % m := ⟨_, rfl⟩
    have k1 : ((hi : Int) + (more : Int)) % (m : Int) = (h2 : Int) := by rw [hh2]; simp
    have hh : h2 < m := by rw [hh2]; exact Nat.mod_lt _ h0
    obtain ⟨q, hq⟩ : ∃ q, q = (h2 * 18446744073709551616 + lo2) / m := ⟨_, rfl⟩
    have E : (h2 * 18446744073709551616 + lo2) % m = numM a b m := by
      unfold numM
      rw [if_neg (by omega)]
      have e1 : a * 2305843009213693952 + b = (hi + more) * 18446744073709551616 + lo2 := by omega
      rw [e1, hh2]
      rw [Nat.add_mod, Nat.mul_mod, Nat.mod_mod, ← Nat.mul_mod, ← Nat.add_mod]
    obtain ⟨r, hr⟩ : ∃ r, r = numM a b m := ⟨_, rfl⟩
    have c3 := fun w => div64 h2 lo2 m hh (by omega) hm w
    rw [E, ← hq, ← hr] at c3
    rw [← hr]
    have m0 : ((m : Int) == 0) = false := by simp; omega
    have hs1 : (hi : Int) + (more : Int) < 18446744073709551616 := by omega
    clear hhi hlo hmore hlo2 hh2 hq hr E ha hb hm hh
    go_enter Try.func38, Try.ntmps38
    go_wp2_with (first | (go_at_call 56; refine (c1 _).mono ?_; clear c1; rintro e w' ⟨rfl, rfl⟩) | (go_at_call 58; refine (c3 _).mono ?_; clear c3; rintro e w' ⟨rfl, n, rfl⟩))
    go_ret
    exact ⟨rfl, ((Ext.refl w).alloc _).drewN _⟩

theorem plus_any (a b m : Nat) (ha : a < m) (hb : b < m) (hm : m < 18446744073709551616) (w : World) :
    Calls Try.prog 53 #[.int .u64 a, .int .u64 b, .int .u64 m] w fun e w' => e = .returned (.int .u64 ((a + b) % m : Nat)) ∧ w = w' := by
  by_cases h : m ≤ a + b
  · have e : (a + b) % m = a + b - m := by rw [Nat.mod_eq_sub_mod h, Nat.mod_eq_of_lt (by omega)]
    rw [e]
    have d1 : decide ((a : Int) ≥ (m : Int) - (b : Int)) = true := by simp; omega
    clear e
    go_enter Try.func53, Try.ntmps53
    go_wp2
    go_ret
    exact ⟨ret_one (by omega), rfl⟩
  · have e : (a + b) % m = a + b := Nat.mod_eq_of_lt (by omega)
    rw [e]
    clear e
    go_enter Try.func53, Try.ntmps53
    go_wp2
    go_ret
    exact ⟨ret_one (by omega), rfl⟩

set_option maxRecDepth 100000 in
theorem rNum_any (a b m : Nat) (hm : m < 18446744073709551616) (w : World) :
    Calls Try.prog 36 #[.agg #[.int .u64 a, .int .u64 b], .int .u64 m] w fun e w' => e = .returned (.int .u64 (numM a b m : Nat)) ∧ Ext w w' := by
  rcases Nat.eq_zero_or_pos m with rfl | h0
  · have e : numM a b 0 = 0 := rfl
    rw [e]
    clear hm e
    go_enter Try.func36, Try.ntmps36
    go_wp2
    go_ret
    exact ⟨rfl, (Ext.refl w).alloc _⟩
  · obtain ⟨x, hx⟩ : ∃ x, x = a % m := ⟨_, rfl⟩
    obtain ⟨y, hy⟩ : ∃ y, y = b % m := ⟨_, rfl⟩
    have k1 : (a : Int) % (m : Int) = (x : Int) := by rw [hx]; simp
    have k2 : (b : Int) % (m : Int) = (y : Int) := by rw [hy]; simp
    have hym : y < m := by rw [hy]; exact Nat.mod_lt _ h0
    obtain ⟨r, hr⟩ : ∃ r, r = numM a b m := ⟨_, rfl⟩
    have hf : ∀ z, z = a * 2 ^ 61 % m → (z + y) % m = r := by
      intro z hz
      rw [hr, hz, hy]
      unfold numM
      rw [if_neg (by omega), ← Nat.add_mod]
    have hst : ∀ j, (a * 2 ^ j % m + a * 2 ^ j % m) % m = a * 2 ^ (j + 1) % m := by
      intro j
      rw [← Nat.add_mod, Nat.pow_succ, ← Nat.mul_assoc, Nat.mul_two]
    have hx0 : x = a * 2 ^ 0 % m := by rw [hx]; simp
    have m0 : ((m : Int) == 0) = false := by simp; omega
    rw [← hr]
    have HF := Lib.hid hf
    have HS := Lib.hid hst
    have HX := Lib.hid hx0
    have HM := Lib.hid hm
    clear hr hx hy hf hst hx0
    go_enter Try.func36, Try.ntmps36
    go_wp2
    simp only [k1]
    clear k1
    go_loopg [5, 6] 61 (fun n s5 s6 wr => ∃ j z : Nat, j + n = 61 ∧ s5 = .int .u64 z ∧ s6 = .int .i64 j ∧ Hid (z = a * 2 ^ j % m) ∧ w.alloc (.cells #[.int .u64 (a : Int), .int .u64 (b : Int)] 50) = wr)
    case atStart => exact ⟨0, x, rfl, rfl, rfl, HX, rfl⟩
    case round =>
      obtain ⟨j, z, hj, rfl, rfl, hz, rfl⟩ := hrel
      have hzm : z < m := by rw [hz.out]; exact Nat.mod_lt _ h0
      by_cases h : j < 61
      · have c := fun W => plus_any z z m hzm hzm HM.out W
        obtain ⟨z', hz'⟩ : ∃ z', z' = (z + z) % m := ⟨_, rfl⟩
        rw [← hz'] at c
        have HZ : Hid (z' = a * 2 ^ (j + 1) % m) := by show _ = _; rw [hz', hz.out, HS.out]
        clear hz' hm
        go_wp2_with (go_at_call 53; refine (c _).mono ?_; clear c; rintro e w' ⟨rfl, rfl⟩)
        go_roundg (gk - 1)
        case measure => omega
        case rel => exact ⟨j + 1, z', by omega, rfl, int_congr (by omega), HZ, rfl⟩
      · obtain rfl : j = 61 := by omega
        have c := fun W => plus_any z y m hzm hym HM.out W
        rw [HF.out z hz.out] at c
        clear hm
        go_wp2_with (go_at_call 53; refine (c _).mono ?_; clear c; rintro e w' ⟨rfl, rfl⟩)
        go_ret
        exact ⟨rfl, (Ext.refl w).alloc _⟩
end Go.Proofs.Ytbomfnlipbdigaa
