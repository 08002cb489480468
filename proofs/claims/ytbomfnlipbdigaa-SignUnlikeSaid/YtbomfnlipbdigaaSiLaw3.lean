/- Statements of signing, walked (3): SignUnlike. Printed by gen_unl.py. -/
import Derived.Test.YtbomfnlipbdigaaSiLaw2
namespace Go.Proofs.Ytbomfnlipbdigaa
set_option linter.unusedVariables false
open Go.RowKit Go.Shelf
attribute [local irreducible] mix hSum hNum someN chalN

/-- The sum's part: what Public tells of a sum of two secrets. -/
theorem sum_cases (s t : Nat) : addM bR s t = 0 ∨ (addM bR s t ≠ 0 ∧ oddN (addM bR s t) = false) := by
  rcases Nat.eq_zero_or_pos (addM bR s t) with h | h
  · exact .inl h
  · refine .inr ⟨by omega, ?_⟩
    have := addM_lt' (m := bR) (by decide) s t
    unfold oddN; simp; omega

set_option maxRecDepth 100000 in
set_option maxHeartbeats 4000000 in
theorem unlike_zero (b : Nat) (u : Nat) (c0 : ∀ W, Calls Try.prog 13 #[.int .u64 0] W fun e w' => e = .returned (.tuple #[.int .u64 (u : Nat), .int .i64 1]) ∧ Ext W w') (w : World) :
    Calls Try.prog 9 #[.int .u64 0, .int .u64 b] w fun e w' => e = .returned (.bool true) ∧ Ext w w' := by
  have cl := fun W => live_any W
  have ca := fun W => secret_any 0 W
  have cb := fun W => secret_any b W
  simp only [Int.cast_ofNat_Int] at ca
  have s2 := secretN_lt 0
  have so := oddN_secret 0
  have r2 := secretN_lt b
  have ro := oddN_secret b
  obtain ⟨s, hs⟩ : ∃ s, s = secretN 0 := ⟨_, rfl⟩
  obtain ⟨r, hr⟩ : ∃ r, r = secretN b := ⟨_, rfl⟩
  rw [← hs] at ca s2 so
  rw [← hr] at cb r2 ro
  clear hs hr
  have c1 := fun W => Public_any s (r64 s2) W
  rw [if_neg (by rw [so]; decide)] at c1
  have c2 := fun W => Public_any r (r64 r2) W
  rw [if_neg (by rw [ro]; decide)] at c2
  have c3 := fun W => AddRE s r W
  have he := pow_eq_iff s2 r2
  have c6 := fun W => MulE (powM bQ 4 s) (powM bQ 4 r) (pw64 _ _) (pw64 _ _) W
  rw [← base_add] at c6
  obtain ⟨m, hm⟩ : ∃ m, m = addM bR s r := ⟨_, rfl⟩
  have hc := sum_cases s r
  have m64 : m < 18446744073709551616 := by rw [hm]; exact r64 (addM_lt' (by decide) _ _)
  rw [← hm] at c3 c6 hc
  have cS := fun W => Public_any m m64 W
  clear hm m64 so ro s2 r2
  obtain ⟨x, hx⟩ : ∃ x, x = powM bQ 4 s := ⟨_, rfl⟩
  obtain ⟨y, hy⟩ : ∃ y, y = powM bQ 4 r := ⟨_, rfl⟩
  obtain ⟨z, hz⟩ : ∃ z, z = powM bQ 4 m := ⟨_, rfl⟩
  rw [← hx] at c1 c6 he
  rw [← hy] at c2 c6 he
  rw [← hz] at c6 cS
  rcases hc with h0 | ⟨hn, hod⟩
  · rw [if_pos (by rw [h0]; rfl)] at cS
    rw [h0] at c3
    have c4 : ∀ W, Calls Try.prog 13 #[.int .u64 0] W fun e w' => e = .returned (.tuple #[.int .u64 0, .int .i64 1]) ∧ Ext W w' := fun W => by have := cS W; rw [h0] at this; exact this
    simp only [Int.cast_ofNat_Int] at c3
    clear hz cS h0 c6
    by_cases hh : s = r
    · subst hh
      obtain rfl : x = y := he.2 rfl
      clear hx hy he
      go_enter Try.func9, Try.ntmps9
      go_wp2_with (first
        | (go_at_call 11; refine (cl _).mono ?_; clear cl; rintro e w1 ⟨rfl, x1⟩)
        | (go_at_call 13; refine (c0 _).mono ?_; clear c0; rintro e w2 ⟨rfl, x2⟩; have y2 := x1.trans x2)
        | (go_at_call 23; (with_reducible refine (ca _).mono ?_); rintro e w' ⟨rfl, rfl⟩)
        | (go_at_call 23; (with_reducible refine (cb _).mono ?_); rintro e w' ⟨rfl, rfl⟩)
        | (go_at_call 13; refine (c1 _).mono ?_; clear c1; rintro e w3 ⟨rfl, x3⟩; have y3 := y2.trans x3)
        | (go_at_call 13; refine (c2 _).mono ?_; clear c2; rintro e w4 ⟨rfl, x4⟩; have y4 := y3.trans x4)
        | (go_at_call 26; refine (c3 _).mono ?_; clear c3; rintro e w5 ⟨rfl, x5⟩; have y4' := y4.trans x5)
        | (go_at_call 13; refine (c4 _).mono ?_; clear c4; rintro e w6 ⟨rfl, x6⟩; have y5 := y4'.trans x6))
      go_ret
      exact ⟨rfl, y5⟩
    · have k1 : ((x : Int) == (y : Int)) = false := by have : ¬ x = y := fun e => hh (he.1 e); simp; omega
      have k2 : ((s : Int) == (r : Int)) = false := by simp; omega
      clear hx hy he hh
      go_enter Try.func9, Try.ntmps9
      go_wp2_with (first
        | (go_at_call 11; refine (cl _).mono ?_; clear cl; rintro e w1 ⟨rfl, x1⟩)
        | (go_at_call 13; refine (c0 _).mono ?_; clear c0; rintro e w2 ⟨rfl, x2⟩; have y2 := x1.trans x2)
        | (go_at_call 23; (with_reducible refine (ca _).mono ?_); rintro e w' ⟨rfl, rfl⟩)
        | (go_at_call 23; (with_reducible refine (cb _).mono ?_); rintro e w' ⟨rfl, rfl⟩)
        | (go_at_call 13; refine (c1 _).mono ?_; clear c1; rintro e w3 ⟨rfl, x3⟩; have y3 := y2.trans x3)
        | (go_at_call 13; refine (c2 _).mono ?_; clear c2; rintro e w4 ⟨rfl, x4⟩; have y4 := y3.trans x4)
        | (go_at_call 26; refine (c3 _).mono ?_; clear c3; rintro e w5 ⟨rfl, x5⟩; have y4' := y4.trans x5)
        | (go_at_call 13; refine (c4 _).mono ?_; clear c4; rintro e w6 ⟨rfl, x6⟩; have y5 := y4'.trans x6))
      go_ret
      exact ⟨rfl, y5⟩
  · rw [if_neg (by rw [hod]; decide)] at cS
    have c4 := cS
    have k3 : ((m : Int) != 0) = true := by simp; omega
    have k4 : ((m : Int) == 0) = false := by simp; omega
    clear hz cS hn hod
    by_cases hh : s = r
    · subst hh
      obtain rfl : x = y := he.2 rfl
      clear hx hy he
      go_enter Try.func9, Try.ntmps9
      go_wp2_with (first
        | (go_at_call 11; refine (cl _).mono ?_; clear cl; rintro e w1 ⟨rfl, x1⟩)
        | (go_at_call 13; refine (c0 _).mono ?_; clear c0; rintro e w2 ⟨rfl, x2⟩; have y2 := x1.trans x2)
        | (go_at_call 23; (with_reducible refine (ca _).mono ?_); rintro e w' ⟨rfl, rfl⟩)
        | (go_at_call 23; (with_reducible refine (cb _).mono ?_); rintro e w' ⟨rfl, rfl⟩)
        | (go_at_call 13; refine (c1 _).mono ?_; clear c1; rintro e w3 ⟨rfl, x3⟩; have y3 := y2.trans x3)
        | (go_at_call 13; refine (c2 _).mono ?_; clear c2; rintro e w4 ⟨rfl, x4⟩; have y4 := y3.trans x4)
        | (go_at_call 26; refine (c3 _).mono ?_; clear c3; rintro e w5 ⟨rfl, x5⟩; have y4' := y4.trans x5)
        | (go_at_call 13; refine (c4 _).mono ?_; clear c4; rintro e w6 ⟨rfl, x6⟩; have y5 := y4'.trans x6)
        | (go_at_call 28; refine (c6 _).mono ?_; clear c6; rintro e w7 ⟨rfl, x7⟩; have y6 := y5.trans x7))
      go_ret
      exact ⟨rfl, y6⟩
    · have k1 : ((x : Int) == (y : Int)) = false := by have : ¬ x = y := fun e => hh (he.1 e); simp; omega
      have k2 : ((s : Int) == (r : Int)) = false := by simp; omega
      clear hx hy he hh
      go_enter Try.func9, Try.ntmps9
      go_wp2_with (first
        | (go_at_call 11; refine (cl _).mono ?_; clear cl; rintro e w1 ⟨rfl, x1⟩)
        | (go_at_call 13; refine (c0 _).mono ?_; clear c0; rintro e w2 ⟨rfl, x2⟩; have y2 := x1.trans x2)
        | (go_at_call 23; (with_reducible refine (ca _).mono ?_); rintro e w' ⟨rfl, rfl⟩)
        | (go_at_call 23; (with_reducible refine (cb _).mono ?_); rintro e w' ⟨rfl, rfl⟩)
        | (go_at_call 13; refine (c1 _).mono ?_; clear c1; rintro e w3 ⟨rfl, x3⟩; have y3 := y2.trans x3)
        | (go_at_call 13; refine (c2 _).mono ?_; clear c2; rintro e w4 ⟨rfl, x4⟩; have y4 := y3.trans x4)
        | (go_at_call 26; refine (c3 _).mono ?_; clear c3; rintro e w5 ⟨rfl, x5⟩; have y4' := y4.trans x5)
        | (go_at_call 13; refine (c4 _).mono ?_; clear c4; rintro e w6 ⟨rfl, x6⟩; have y5 := y4'.trans x6)
        | (go_at_call 28; refine (c6 _).mono ?_; clear c6; rintro e w7 ⟨rfl, x7⟩; have y6 := y5.trans x7))
      go_ret
      exact ⟨rfl, y6⟩

set_option maxRecDepth 100000 in
set_option maxHeartbeats 4000000 in
theorem unlike_high (a b : Nat) (ha : a < 18446744073709551616) (h1 : decide ((1 : Int) ≤ (a : Int)) = true) (h2 : decide ((a : Int) < 1152921504606845789) = false) (u : Nat) (c0 : ∀ W, Calls Try.prog 13 #[.int .u64 a] W fun e w' => e = .returned (.tuple #[.int .u64 (u : Nat), .int .i64 1]) ∧ Ext W w') (w : World) :
    Calls Try.prog 9 #[.int .u64 a, .int .u64 b] w fun e w' => e = .returned (.bool true) ∧ Ext w w' := by
  have cl := fun W => live_any W
  have ca := fun W => secret_any a W
  have cb := fun W => secret_any b W
  skip
  have s2 := secretN_lt a
  have so := oddN_secret a
  have r2 := secretN_lt b
  have ro := oddN_secret b
  obtain ⟨s, hs⟩ : ∃ s, s = secretN a := ⟨_, rfl⟩
  obtain ⟨r, hr⟩ : ∃ r, r = secretN b := ⟨_, rfl⟩
  rw [← hs] at ca s2 so
  rw [← hr] at cb r2 ro
  clear hs hr
  have c1 := fun W => Public_any s (r64 s2) W
  rw [if_neg (by rw [so]; decide)] at c1
  have c2 := fun W => Public_any r (r64 r2) W
  rw [if_neg (by rw [ro]; decide)] at c2
  have c3 := fun W => AddRE s r W
  have he := pow_eq_iff s2 r2
  have c6 := fun W => MulE (powM bQ 4 s) (powM bQ 4 r) (pw64 _ _) (pw64 _ _) W
  rw [← base_add] at c6
  obtain ⟨m, hm⟩ : ∃ m, m = addM bR s r := ⟨_, rfl⟩
  have hc := sum_cases s r
  have m64 : m < 18446744073709551616 := by rw [hm]; exact r64 (addM_lt' (by decide) _ _)
  rw [← hm] at c3 c6 hc
  have cS := fun W => Public_any m m64 W
  clear hm m64 so ro s2 r2
  obtain ⟨x, hx⟩ : ∃ x, x = powM bQ 4 s := ⟨_, rfl⟩
  obtain ⟨y, hy⟩ : ∃ y, y = powM bQ 4 r := ⟨_, rfl⟩
  obtain ⟨z, hz⟩ : ∃ z, z = powM bQ 4 m := ⟨_, rfl⟩
  rw [← hx] at c1 c6 he
  rw [← hy] at c2 c6 he
  rw [← hz] at c6 cS
  rcases hc with h0 | ⟨hn, hod⟩
  · rw [if_pos (by rw [h0]; rfl)] at cS
    rw [h0] at c3
    have c4 : ∀ W, Calls Try.prog 13 #[.int .u64 0] W fun e w' => e = .returned (.tuple #[.int .u64 0, .int .i64 1]) ∧ Ext W w' := fun W => by have := cS W; rw [h0] at this; exact this
    simp only [Int.cast_ofNat_Int] at c3
    clear hz cS h0 c6
    by_cases hh : s = r
    · subst hh
      obtain rfl : x = y := he.2 rfl
      clear hx hy he
      go_enter Try.func9, Try.ntmps9
      go_wp2_with (first
        | (go_at_call 11; refine (cl _).mono ?_; clear cl; rintro e w1 ⟨rfl, x1⟩)
        | (go_at_call 13; refine (c0 _).mono ?_; clear c0; rintro e w2 ⟨rfl, x2⟩; have y2 := x1.trans x2)
        | (go_at_call 23; (with_reducible refine (ca _).mono ?_); rintro e w' ⟨rfl, rfl⟩)
        | (go_at_call 23; (with_reducible refine (cb _).mono ?_); rintro e w' ⟨rfl, rfl⟩)
        | (go_at_call 13; refine (c1 _).mono ?_; clear c1; rintro e w3 ⟨rfl, x3⟩; have y3 := y2.trans x3)
        | (go_at_call 13; refine (c2 _).mono ?_; clear c2; rintro e w4 ⟨rfl, x4⟩; have y4 := y3.trans x4)
        | (go_at_call 26; refine (c3 _).mono ?_; clear c3; rintro e w5 ⟨rfl, x5⟩; have y4' := y4.trans x5)
        | (go_at_call 13; refine (c4 _).mono ?_; clear c4; rintro e w6 ⟨rfl, x6⟩; have y5 := y4'.trans x6))
      go_ret
      exact ⟨rfl, y5⟩
    · have k1 : ((x : Int) == (y : Int)) = false := by have : ¬ x = y := fun e => hh (he.1 e); simp; omega
      have k2 : ((s : Int) == (r : Int)) = false := by simp; omega
      clear hx hy he hh
      go_enter Try.func9, Try.ntmps9
      go_wp2_with (first
        | (go_at_call 11; refine (cl _).mono ?_; clear cl; rintro e w1 ⟨rfl, x1⟩)
        | (go_at_call 13; refine (c0 _).mono ?_; clear c0; rintro e w2 ⟨rfl, x2⟩; have y2 := x1.trans x2)
        | (go_at_call 23; (with_reducible refine (ca _).mono ?_); rintro e w' ⟨rfl, rfl⟩)
        | (go_at_call 23; (with_reducible refine (cb _).mono ?_); rintro e w' ⟨rfl, rfl⟩)
        | (go_at_call 13; refine (c1 _).mono ?_; clear c1; rintro e w3 ⟨rfl, x3⟩; have y3 := y2.trans x3)
        | (go_at_call 13; refine (c2 _).mono ?_; clear c2; rintro e w4 ⟨rfl, x4⟩; have y4 := y3.trans x4)
        | (go_at_call 26; refine (c3 _).mono ?_; clear c3; rintro e w5 ⟨rfl, x5⟩; have y4' := y4.trans x5)
        | (go_at_call 13; refine (c4 _).mono ?_; clear c4; rintro e w6 ⟨rfl, x6⟩; have y5 := y4'.trans x6))
      go_ret
      exact ⟨rfl, y5⟩
  · rw [if_neg (by rw [hod]; decide)] at cS
    have c4 := cS
    have k3 : ((m : Int) != 0) = true := by simp; omega
    have k4 : ((m : Int) == 0) = false := by simp; omega
    clear hz cS hn hod
    by_cases hh : s = r
    · subst hh
      obtain rfl : x = y := he.2 rfl
      clear hx hy he
      go_enter Try.func9, Try.ntmps9
      go_wp2_with (first
        | (go_at_call 11; refine (cl _).mono ?_; clear cl; rintro e w1 ⟨rfl, x1⟩)
        | (go_at_call 13; refine (c0 _).mono ?_; clear c0; rintro e w2 ⟨rfl, x2⟩; have y2 := x1.trans x2)
        | (go_at_call 23; (with_reducible refine (ca _).mono ?_); rintro e w' ⟨rfl, rfl⟩)
        | (go_at_call 23; (with_reducible refine (cb _).mono ?_); rintro e w' ⟨rfl, rfl⟩)
        | (go_at_call 13; refine (c1 _).mono ?_; clear c1; rintro e w3 ⟨rfl, x3⟩; have y3 := y2.trans x3)
        | (go_at_call 13; refine (c2 _).mono ?_; clear c2; rintro e w4 ⟨rfl, x4⟩; have y4 := y3.trans x4)
        | (go_at_call 26; refine (c3 _).mono ?_; clear c3; rintro e w5 ⟨rfl, x5⟩; have y4' := y4.trans x5)
        | (go_at_call 13; refine (c4 _).mono ?_; clear c4; rintro e w6 ⟨rfl, x6⟩; have y5 := y4'.trans x6)
        | (go_at_call 28; refine (c6 _).mono ?_; clear c6; rintro e w7 ⟨rfl, x7⟩; have y6 := y5.trans x7))
      go_ret
      exact ⟨rfl, y6⟩
    · have k1 : ((x : Int) == (y : Int)) = false := by have : ¬ x = y := fun e => hh (he.1 e); simp; omega
      have k2 : ((s : Int) == (r : Int)) = false := by simp; omega
      clear hx hy he hh
      go_enter Try.func9, Try.ntmps9
      go_wp2_with (first
        | (go_at_call 11; refine (cl _).mono ?_; clear cl; rintro e w1 ⟨rfl, x1⟩)
        | (go_at_call 13; refine (c0 _).mono ?_; clear c0; rintro e w2 ⟨rfl, x2⟩; have y2 := x1.trans x2)
        | (go_at_call 23; (with_reducible refine (ca _).mono ?_); rintro e w' ⟨rfl, rfl⟩)
        | (go_at_call 23; (with_reducible refine (cb _).mono ?_); rintro e w' ⟨rfl, rfl⟩)
        | (go_at_call 13; refine (c1 _).mono ?_; clear c1; rintro e w3 ⟨rfl, x3⟩; have y3 := y2.trans x3)
        | (go_at_call 13; refine (c2 _).mono ?_; clear c2; rintro e w4 ⟨rfl, x4⟩; have y4 := y3.trans x4)
        | (go_at_call 26; refine (c3 _).mono ?_; clear c3; rintro e w5 ⟨rfl, x5⟩; have y4' := y4.trans x5)
        | (go_at_call 13; refine (c4 _).mono ?_; clear c4; rintro e w6 ⟨rfl, x6⟩; have y5 := y4'.trans x6)
        | (go_at_call 28; refine (c6 _).mono ?_; clear c6; rintro e w7 ⟨rfl, x7⟩; have y6 := y5.trans x7))
      go_ret
      exact ⟨rfl, y6⟩

set_option maxRecDepth 100000 in
set_option maxHeartbeats 4000000 in
theorem unlike_in (a b : Nat) (ha : a < 18446744073709551616) (h1 : decide ((1 : Int) ≤ (a : Int)) = true) (h2 : decide ((a : Int) < 1152921504606845789) = true) (u : Nat) (c0 : ∀ W, Calls Try.prog 13 #[.int .u64 a] W fun e w' => e = .returned (.tuple #[.int .u64 (u : Nat), .int .i64 0]) ∧ Ext W w') (w : World) :
    Calls Try.prog 9 #[.int .u64 a, .int .u64 b] w fun e w' => e = .returned (.bool true) ∧ Ext w w' := by
  have cl := fun W => live_any W
  have ca := fun W => secret_any a W
  have cb := fun W => secret_any b W
  skip
  have s2 := secretN_lt a
  have so := oddN_secret a
  have r2 := secretN_lt b
  have ro := oddN_secret b
  obtain ⟨s, hs⟩ : ∃ s, s = secretN a := ⟨_, rfl⟩
  obtain ⟨r, hr⟩ : ∃ r, r = secretN b := ⟨_, rfl⟩
  rw [← hs] at ca s2 so
  rw [← hr] at cb r2 ro
  clear hs hr
  have c1 := fun W => Public_any s (r64 s2) W
  rw [if_neg (by rw [so]; decide)] at c1
  have c2 := fun W => Public_any r (r64 r2) W
  rw [if_neg (by rw [ro]; decide)] at c2
  have c3 := fun W => AddRE s r W
  have he := pow_eq_iff s2 r2
  have c6 := fun W => MulE (powM bQ 4 s) (powM bQ 4 r) (pw64 _ _) (pw64 _ _) W
  rw [← base_add] at c6
  obtain ⟨m, hm⟩ : ∃ m, m = addM bR s r := ⟨_, rfl⟩
  have hc := sum_cases s r
  have m64 : m < 18446744073709551616 := by rw [hm]; exact r64 (addM_lt' (by decide) _ _)
  rw [← hm] at c3 c6 hc
  have cS := fun W => Public_any m m64 W
  clear hm m64 so ro s2 r2
  obtain ⟨x, hx⟩ : ∃ x, x = powM bQ 4 s := ⟨_, rfl⟩
  obtain ⟨y, hy⟩ : ∃ y, y = powM bQ 4 r := ⟨_, rfl⟩
  obtain ⟨z, hz⟩ : ∃ z, z = powM bQ 4 m := ⟨_, rfl⟩
  rw [← hx] at c1 c6 he
  rw [← hy] at c2 c6 he
  rw [← hz] at c6 cS
  rcases hc with h0 | ⟨hn, hod⟩
  · rw [if_pos (by rw [h0]; rfl)] at cS
    rw [h0] at c3
    have c4 : ∀ W, Calls Try.prog 13 #[.int .u64 0] W fun e w' => e = .returned (.tuple #[.int .u64 0, .int .i64 1]) ∧ Ext W w' := fun W => by have := cS W; rw [h0] at this; exact this
    simp only [Int.cast_ofNat_Int] at c3
    clear hz cS h0 c6
    by_cases hh : s = r
    · subst hh
      obtain rfl : x = y := he.2 rfl
      clear hx hy he
      go_enter Try.func9, Try.ntmps9
      go_wp2_with (first
        | (go_at_call 11; refine (cl _).mono ?_; clear cl; rintro e w1 ⟨rfl, x1⟩)
        | (go_at_call 13; refine (c0 _).mono ?_; clear c0; rintro e w2 ⟨rfl, x2⟩; have y2 := x1.trans x2)
        | (go_at_call 23; (with_reducible refine (ca _).mono ?_); rintro e w' ⟨rfl, rfl⟩)
        | (go_at_call 23; (with_reducible refine (cb _).mono ?_); rintro e w' ⟨rfl, rfl⟩)
        | (go_at_call 13; refine (c1 _).mono ?_; clear c1; rintro e w3 ⟨rfl, x3⟩; have y3 := y2.trans x3)
        | (go_at_call 13; refine (c2 _).mono ?_; clear c2; rintro e w4 ⟨rfl, x4⟩; have y4 := y3.trans x4)
        | (go_at_call 26; refine (c3 _).mono ?_; clear c3; rintro e w5 ⟨rfl, x5⟩; have y4' := y4.trans x5)
        | (go_at_call 13; refine (c4 _).mono ?_; clear c4; rintro e w6 ⟨rfl, x6⟩; have y5 := y4'.trans x6))
      go_ret
      exact ⟨rfl, y5⟩
    · have k1 : ((x : Int) == (y : Int)) = false := by have : ¬ x = y := fun e => hh (he.1 e); simp; omega
      have k2 : ((s : Int) == (r : Int)) = false := by simp; omega
      clear hx hy he hh
      go_enter Try.func9, Try.ntmps9
      go_wp2_with (first
        | (go_at_call 11; refine (cl _).mono ?_; clear cl; rintro e w1 ⟨rfl, x1⟩)
        | (go_at_call 13; refine (c0 _).mono ?_; clear c0; rintro e w2 ⟨rfl, x2⟩; have y2 := x1.trans x2)
        | (go_at_call 23; (with_reducible refine (ca _).mono ?_); rintro e w' ⟨rfl, rfl⟩)
        | (go_at_call 23; (with_reducible refine (cb _).mono ?_); rintro e w' ⟨rfl, rfl⟩)
        | (go_at_call 13; refine (c1 _).mono ?_; clear c1; rintro e w3 ⟨rfl, x3⟩; have y3 := y2.trans x3)
        | (go_at_call 13; refine (c2 _).mono ?_; clear c2; rintro e w4 ⟨rfl, x4⟩; have y4 := y3.trans x4)
        | (go_at_call 26; refine (c3 _).mono ?_; clear c3; rintro e w5 ⟨rfl, x5⟩; have y4' := y4.trans x5)
        | (go_at_call 13; refine (c4 _).mono ?_; clear c4; rintro e w6 ⟨rfl, x6⟩; have y5 := y4'.trans x6))
      go_ret
      exact ⟨rfl, y5⟩
  · rw [if_neg (by rw [hod]; decide)] at cS
    have c4 := cS
    have k3 : ((m : Int) != 0) = true := by simp; omega
    have k4 : ((m : Int) == 0) = false := by simp; omega
    clear hz cS hn hod
    by_cases hh : s = r
    · subst hh
      obtain rfl : x = y := he.2 rfl
      clear hx hy he
      go_enter Try.func9, Try.ntmps9
      go_wp2_with (first
        | (go_at_call 11; refine (cl _).mono ?_; clear cl; rintro e w1 ⟨rfl, x1⟩)
        | (go_at_call 13; refine (c0 _).mono ?_; clear c0; rintro e w2 ⟨rfl, x2⟩; have y2 := x1.trans x2)
        | (go_at_call 23; (with_reducible refine (ca _).mono ?_); rintro e w' ⟨rfl, rfl⟩)
        | (go_at_call 23; (with_reducible refine (cb _).mono ?_); rintro e w' ⟨rfl, rfl⟩)
        | (go_at_call 13; refine (c1 _).mono ?_; clear c1; rintro e w3 ⟨rfl, x3⟩; have y3 := y2.trans x3)
        | (go_at_call 13; refine (c2 _).mono ?_; clear c2; rintro e w4 ⟨rfl, x4⟩; have y4 := y3.trans x4)
        | (go_at_call 26; refine (c3 _).mono ?_; clear c3; rintro e w5 ⟨rfl, x5⟩; have y4' := y4.trans x5)
        | (go_at_call 13; refine (c4 _).mono ?_; clear c4; rintro e w6 ⟨rfl, x6⟩; have y5 := y4'.trans x6)
        | (go_at_call 28; refine (c6 _).mono ?_; clear c6; rintro e w7 ⟨rfl, x7⟩; have y6 := y5.trans x7))
      go_ret
      exact ⟨rfl, y6⟩
    · have k1 : ((x : Int) == (y : Int)) = false := by have : ¬ x = y := fun e => hh (he.1 e); simp; omega
      have k2 : ((s : Int) == (r : Int)) = false := by simp; omega
      clear hx hy he hh
      go_enter Try.func9, Try.ntmps9
      go_wp2_with (first
        | (go_at_call 11; refine (cl _).mono ?_; clear cl; rintro e w1 ⟨rfl, x1⟩)
        | (go_at_call 13; refine (c0 _).mono ?_; clear c0; rintro e w2 ⟨rfl, x2⟩; have y2 := x1.trans x2)
        | (go_at_call 23; (with_reducible refine (ca _).mono ?_); rintro e w' ⟨rfl, rfl⟩)
        | (go_at_call 23; (with_reducible refine (cb _).mono ?_); rintro e w' ⟨rfl, rfl⟩)
        | (go_at_call 13; refine (c1 _).mono ?_; clear c1; rintro e w3 ⟨rfl, x3⟩; have y3 := y2.trans x3)
        | (go_at_call 13; refine (c2 _).mono ?_; clear c2; rintro e w4 ⟨rfl, x4⟩; have y4 := y3.trans x4)
        | (go_at_call 26; refine (c3 _).mono ?_; clear c3; rintro e w5 ⟨rfl, x5⟩; have y4' := y4.trans x5)
        | (go_at_call 13; refine (c4 _).mono ?_; clear c4; rintro e w6 ⟨rfl, x6⟩; have y5 := y4'.trans x6)
        | (go_at_call 28; refine (c6 _).mono ?_; clear c6; rintro e w7 ⟨rfl, x7⟩; have y6 := y5.trans x7))
      go_ret
      exact ⟨rfl, y6⟩

theorem walk_SignUnlike (a b : Nat) (ha : a < 18446744073709551616) (hb : b < 18446744073709551616) (w : World) :
    Calls Try.prog 9 #[.int .u64 a, .int .u64 b] w fun e w' => e = .returned (.bool true) ∧ Ext w w' := by
  have c0 := fun W => Public_any a ha W
  rcases Nat.eq_zero_or_pos a with rfl | h0
  · rw [if_pos (show oddN 0 = true from rfl)] at c0
    exact unlike_zero b 0 c0 w
  · have h1 : decide ((1 : Int) ≤ (a : Int)) = true := by simp; omega
    by_cases h : bR ≤ a
    · rw [if_pos (by unfold oddN; simp [h])] at c0
      exact unlike_high a b ha h1 (by unfold bR at h; simp; omega) 0 c0 w
    · rw [if_neg (by unfold oddN; simp; omega)] at c0
      exact unlike_in a b ha h1 (by unfold bR at h; simp; omega) _ c0 w
end Go.Proofs.Ytbomfnlipbdigaa
