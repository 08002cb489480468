/- The statements of the hash, walked: HashNums. -/
import Derived.Test.YtckfifghipkedaaHaLive
import Derived.Test.YtckfifghipkedaaLater
namespace Go.Proofs.Ytckfifghipkedaa
set_option linter.unusedVariables false
open Go.RowKit Go.Shelf
attribute [local irreducible] mix

theorem numM_facts (a b m k : Nat) (hm : 0 < m) (hk : 0 < k) :
    numM a b m < m ∧ numM a b (m * k) < m * k ∧ numM a b (m * k) % m = numM a b m ∧ numM 0 b m = b % m ∧ (numM 0 b m + numM a 0 m) % m = numM a b m ∧ numM 0 b m < m ∧ numM a 0 m < m := by
  have hmk : 0 < m * k := Nat.mul_pos hm hk
  unfold numM
  rw [if_neg (by omega), if_neg (by omega), if_neg (by omega), if_neg (by omega)]
  refine ⟨Nat.mod_lt _ hm, Nat.mod_lt _ hmk, Nat.mod_mul_right_mod _ _ _, by rw [Nat.zero_mul, Nat.zero_add], ?_, Nat.mod_lt _ hm, Nat.mod_lt _ hm⟩
  rw [Nat.zero_mul, Nat.zero_add, Nat.add_zero, ← Nat.add_mod, Nat.add_comm]

set_option maxRecDepth 100000 in
set_option maxHeartbeats 2000000 in
theorem walk_HashNums (s0 s1 m k : Nat) (hs0 : s0 < 18446744073709551616) (hs1 : s1 < 18446744073709551616) (_hm : m < 18446744073709551616) (_hk : k < 18446744073709551616) (w : World) :
    Calls Try.prog 10 #[.agg #[.int .u64 s0, .int .u64 s1], .int .u64 m, .int .u64 k] w fun e w' => e = .returned (.bool true) ∧ Ext w w' := by
  have cl := fun W => live_any W
  obtain ⟨M, hM⟩ : ∃ M, M = m % 4294967296 := ⟨_, rfl⟩
  obtain ⟨K, hK⟩ : ∃ K, K = k % 4294967296 := ⟨_, rfl⟩
  have k1 : (m : Int) % 4294967296 = (M : Int) := by rw [hM]; simp
  have k2 : (k : Int) % 4294967296 = (K : Int) := by rw [hK]; simp
  have hM1 : M < 4294967296 := by omega
  have hK1 : K < 4294967296 := by omega
  by_cases h0 : M = 0 ∨ K = 0
  · have c0 := fun W => Num_any s0 s1 0 hs0 hs1 (by decide) W
    rw [show numM s0 s1 0 = 0 from rfl] at c0
    simp only [Int.cast_ofNat_Int] at c0
    rcases Nat.eq_zero_or_pos M with hz | hz
    · subst hz
      simp only [Int.cast_ofNat_Int] at k1
      clear hM hK hM1 hK1 h0 hs0 hs1 _hm _hk
      go_enter Try.func10, Try.ntmps10
      go_wp2_with (first
        | (go_at_call 13; refine (cl _).mono ?_; clear cl; rintro e w1 ⟨rfl, xl⟩; have x1 := ((Ext.refl w).alloc _).trans xl; have ha := ext_blk xl (Blk.new w _ _); obtain ⟨p0, p1⟩ := arr2' ha; clear ha)
        | (go_at_call 27; (with_reducible refine (c0 _).mono ?_); clear c0; rintro e w2 ⟨rfl, x2⟩))
      go_ret
      exact ⟨rfl, x1.trans x2⟩
    · obtain rfl : K = 0 := by omega
      simp only [Int.cast_ofNat_Int] at k2
      have m0 : ((M : Int) == 0) = false := by simp; omega
      clear hM hK hM1 hK1 h0 hs0 hs1 _hm _hk hz
      go_enter Try.func10, Try.ntmps10
      go_wp2_with (first
        | (go_at_call 13; refine (cl _).mono ?_; clear cl; rintro e w1 ⟨rfl, xl⟩; have x1 := ((Ext.refl w).alloc _).trans xl; have ha := ext_blk xl (Blk.new w _ _); obtain ⟨p0, p1⟩ := arr2' ha; clear ha)
        | (go_at_call 27; (with_reducible refine (c0 _).mono ?_); clear c0; rintro e w2 ⟨rfl, x2⟩))
      go_ret
      exact ⟨rfl, x1.trans x2⟩
  · obtain ⟨MK, hMK⟩ : ∃ MK, MK = M * K := ⟨_, rfl⟩
    have hMKb : MK < 18446744073709551616 := by
      have : M * K ≤ 4294967295 * 4294967295 := Nat.mul_le_mul (by omega) (by omega)
      omega
    have kw : IntKind.u64.wrap ((M : Int) * (K : Int)) = (MK : Int) := by
      have e : (M : Int) * (K : Int) = (MK : Int) := by rw [hMK]; simp
      rw [e, IntKind.wrap_u64]; omega
    obtain ⟨f1, f2, f3, f4, f5, f6, f7⟩ := numM_facts s0 s1 M K (by omega) (by omega)
    have c1 := fun W => Num_any s0 s1 M hs0 hs1 (by omega) W
    have c2 := fun W => Num_any s0 s1 (M * K) hs0 hs1 (by omega) W
    have c3 := fun W => Num_any 0 s1 M (by decide) hs1 (by omega) W
    have c4 := fun W => Num_any s0 0 M hs0 (by decide) (by omega) W
    have c5 := fun W => Num_any s0 s1 1 hs0 hs1 (by decide) W
    rw [show numM s0 s1 1 = 0 by unfold numM; rw [if_neg (by decide), Nat.mod_one]] at c5
    rw [← hMK] at c2 f2 f3
    obtain ⟨n, hn⟩ : ∃ n, n = numM s0 s1 M := ⟨_, rfl⟩
    obtain ⟨al, hal⟩ : ∃ n, n = numM s0 s1 MK := ⟨_, rfl⟩
    obtain ⟨lo, hlo⟩ : ∃ n, n = numM 0 s1 M := ⟨_, rfl⟩
    obtain ⟨hi, hhi⟩ : ∃ n, n = numM s0 0 M := ⟨_, rfl⟩
    rw [← hn] at c1 f1 f3 f5
    rw [← hal] at c2 f2 f3
    rw [← hlo] at c3 f4 f5 f6
    rw [← hhi] at c4 f5 f7
    simp only [Int.cast_ofNat_Int] at c3 c4 c5
    have m0 : ((M : Int) == 0) = false := by simp; omega
    have m1 : ((K : Int) == 0) = false := by simp; omega
    have d1 : decide (n < M) = true := by simp; omega
    have d2 : decide (al < MK) = true := by simp; omega
    have e1 : (al : Int) % (M : Int) = (n : Int) := by rw [← f3]; simp
    have e2 : (s1 : Int) % (M : Int) = (lo : Int) := by rw [f4]; simp
    have e3 : ((lo : Int) + (hi : Int)) % (M : Int) = (n : Int) := by rw [← f5]; simp
    have e4 : IntKind.u64.wrap ((lo : Int) + (hi : Int)) = (lo : Int) + (hi : Int) := by rw [IntKind.wrap_u64]; omega
    have hM0 : 1 ≤ (M : Int) := by omega
    clear hn hal hlo hhi hM hK hMK hMKb f1 f2 f3 f4 f5 f6 f7 h0 hM1 hK1 hs0 hs1 _hm _hk
    go_enter Try.func10, Try.ntmps10
    go_wp2_with (first
      | (go_at_call 13; refine (cl _).mono ?_; clear cl; rintro e w1 ⟨rfl, xl⟩; have x1 := ((Ext.refl w).alloc _).trans xl; have ha := ext_blk xl (Blk.new w _ _); obtain ⟨p0, p1⟩ := arr2' ha; have HA := Lib.hid ha; clear ha)
      | (go_at_call 27; (with_reducible refine (c1 _).mono ?_); clear c1; rintro e w2 ⟨rfl, x2⟩; obtain ⟨p0, p1⟩ := arr2' (ext_blk x2 HA.out))
      | (go_at_call 27; (with_reducible refine (c2 _).mono ?_); clear c2; rintro e w3 ⟨rfl, x3⟩; obtain ⟨p0, p1⟩ := arr2' (ext_blk (x2.trans x3) HA.out))
      | (go_at_call 27; (with_reducible refine (c3 _).mono ?_); clear c3; rintro e w4 ⟨rfl, x4⟩; obtain ⟨p0, p1⟩ := arr2' (ext_blk ((x2.trans x3).trans x4) HA.out))
      | (go_at_call 27; (with_reducible refine (c4 _).mono ?_); clear c4; rintro e w5 ⟨rfl, x5⟩; obtain ⟨p0, p1⟩ := arr2' (ext_blk (((x2.trans x3).trans x4).trans x5) HA.out))
      | (go_at_call 27; (with_reducible refine (c5 _).mono ?_); clear c5; rintro e w6 ⟨rfl, x6⟩))
    go_ret
    exact ⟨rfl, ((((x1.trans x2).trans x3).trans x4).trans x5).trans x6⟩
end Go.Proofs.Ytckfifghipkedaa
