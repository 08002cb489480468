/- Plain laws of the layer 'cyclic': a group of prime order, modulo Q; and counting modulo R. No program in sight. -/
import Derived.Test.YtbomfnlipbdigaaCyMath
namespace Go.Proofs.Ytbomfnlipbdigaa

theorem mulM_lt {m : Nat} (h : 0 < m) (a b : Nat) : mulM m a b < m := Nat.mod_lt _ h
theorem addM_lt' {m : Nat} (h : 0 < m) (a b : Nat) : addM m a b < m := Nat.mod_lt _ h
theorem subM_lt {m : Nat} (h : 0 < m) (a b : Nat) : subM m a b < m := Nat.mod_lt _ h
theorem powM_lt {m : Nat} (h : 0 < m) (a b : Nat) : powM m a b < m := Nat.mod_lt _ h
theorem invM_lt {m : Nat} (h : 0 < m) (a : Nat) : invM m a < m := by
  unfold invM; split
  · exact h
  · exact Nat.mod_lt _ h

theorem mulM_comm (m a b : Nat) : mulM m a b = mulM m b a := by unfold mulM; rw [Nat.mul_comm]
theorem addM_comm (m a b : Nat) : addM m a b = addM m b a := by unfold addM; rw [Nat.add_comm]
theorem mulM_assoc (m a b c : Nat) : mulM m (mulM m a b) c = mulM m a (mulM m b c) := by
  unfold mulM
  rw [Nat.mul_mod, Nat.mod_mod, ← Nat.mul_mod, Nat.mul_mod a, Nat.mod_mod, ← Nat.mul_mod, Nat.mul_assoc]
theorem mulM_one (m a : Nat) : mulM m a 1 = a % m := by unfold mulM; rw [Nat.mul_one]
theorem mulM_mod_left (m a b : Nat) : mulM m (a % m) b = mulM m a b := by unfold mulM; rw [Nat.mul_mod, Nat.mod_mod, ← Nat.mul_mod]
theorem mulM_mod_right (m a b : Nat) : mulM m a (b % m) = mulM m a b := by unfold mulM; rw [Nat.mul_mod, Nat.mod_mod, ← Nat.mul_mod]
theorem powM_add (m a x y : Nat) : mulM m (powM m a x) (powM m a y) = powM m a (x + y) := by
  unfold mulM powM; rw [← Nat.mul_mod, Nat.pow_add]
theorem powM_succ (m a x : Nat) : mulM m (powM m a x) a = powM m a (x + 1) := by
  unfold mulM powM; rw [Nat.mul_mod, Nat.mod_mod, ← Nat.mul_mod, Nat.pow_succ]
theorem powM_pow (m a x y : Nat) : powM m (powM m a x) y = powM m a (x * y) := by
  unfold powM; rw [← Nat.pow_mod, Nat.pow_mul]
theorem powM_mod (m a x : Nat) : powM m (a % m) x = powM m a x := by unfold powM; rw [← Nat.pow_mod]
theorem powM_mul (m a b x : Nat) : powM m (mulM m a b) x = mulM m (powM m a x) (powM m b x) := by
  unfold powM mulM; rw [← Nat.pow_mod, Nat.mul_pow, Nat.mul_mod]
theorem powM_zero {m : Nat} (h : 1 < m) (a : Nat) : powM m a 0 = 1 := by unfold powM; rw [Nat.pow_zero, Nat.mod_eq_of_lt h]

/-- Whose power is 1 depends on the exponent modulo the order alone. -/
theorem powM_period {m a r : Nat} (hm : 1 < m) (h : powM m a r = 1) (x : Nat) : powM m a (x % r) = powM m a x := by
  have e := Nat.div_add_mod x r
  conv => rhs; rw [← e]
  rw [← powM_add, ← powM_pow, h]
  unfold mulM powM
  rw [Nat.one_pow, Nat.mod_eq_of_lt hm, Nat.one_mul, Nat.mod_mod]

theorem invM_mul {m a : Nat} (hp : Pr m) (ha : a % m ≠ 0) : mulM m a (invM m a) = 1 := by
  have h1 := hp.1
  unfold mulM invM
  rw [if_neg ha, Nat.mul_mod, Nat.mod_mod, ← Nat.mul_mod, ← Nat.pow_succ', show (m - 2).succ = m - 1 by omega]
  exact fermat hp ha
theorem invM_ne {m a : Nat} (hp : Pr m) (ha : a % m ≠ 0) : invM m a ≠ 0 := by
  intro h
  have := invM_mul hp ha
  rw [h] at this
  simp [mulM] at this
/-- The inverse is one alone. -/
theorem inv_unique {m a b c : Nat} (hp : Pr m) (ha : a % m ≠ 0) (h : mulM m a b = mulM m a c) : b % m = c % m := by
  have e : mulM m (invM m a) (mulM m a b) = mulM m (invM m a) (mulM m a c) := by rw [h]
  rw [← mulM_assoc, ← mulM_assoc, mulM_comm m (invM m a), invM_mul hp ha] at e
  unfold mulM at e
  rwa [Nat.one_mul, Nat.one_mul] at e
theorem invM_invM {m a : Nat} (hp : Pr m) (ha : a % m ≠ 0) : invM m (invM m a) = a % m := by
  have h1 := hp.1
  have hlt := invM_lt (show 0 < m by omega) a
  have hi : invM m a % m ≠ 0 := by rw [Nat.mod_eq_of_lt hlt]; exact invM_ne hp ha
  have e := inv_unique (b := invM m (invM m a)) (c := a) hp hi (by rw [invM_mul hp hi, mulM_comm, invM_mul hp ha])
  rwa [Nat.mod_eq_of_lt (invM_lt (by omega) _)] at e
theorem invE_ok {m a : Nat} (ha : a % m ≠ 0) : invE m a = 0 := by unfold invE; rw [if_neg ha]
theorem invE_zero {m a : Nat} (ha : a % m = 0) : invE m a = 10 := by unfold invE; rw [if_pos ha]
theorem invM_zero {m a : Nat} (ha : a % m = 0) : invM m a = 0 := by unfold invM; rw [if_pos ha]

/-! ### the group -/
theorem inB_iff (x : Nat) : inB x = true ↔ 0 < x ∧ x < bQ ∧ powM bQ x bR = 1 := by
  unfold inB; simp [and_assoc]
theorem inB_ne {x : Nat} (h : inB x = true) : x % bQ ≠ 0 := by
  obtain ⟨a, b, _⟩ := (inB_iff x).1 h
  rw [Nat.mod_eq_of_lt b]; omega
theorem pow_ne {m a x : Nat} (hp : Pr m) (ha : a % m ≠ 0) : powM m a x ≠ 0 := by
  intro h
  have : m ∣ a ^ x := Nat.dvd_of_mod_eq_zero h
  exact ha (Nat.mod_eq_zero_of_dvd (hp.pow this))
theorem powM_eq (m a n : Nat) (h : n < 18446744073709551616) : powM m a n = pwm m 64 a n := (pwm_eq m 64 a n h).symm
theorem gR : powM bQ 4 bR = 1 := by rw [powM_eq _ _ _ (by decide)]; decide +kernel
theorem powM_gcd {m b : Nat} (hm : 1 < m) (x y : Nat) (hx : powM m b x = 1) (hy : powM m b y = 1) : powM m b (Nat.gcd x y) = 1 := pow_gcd hm x y hx hy
theorem powM_fermat {p a : Nat} (hp : Pr p) (h : a % p ≠ 0) : powM p a (p - 1) = 1 := fermat hp h
theorem inB_pow {x : Nat} (h : inB x = true) (n : Nat) : inB (powM bQ x n) = true := by
  obtain ⟨a, b, c⟩ := (inB_iff x).1 h
  refine (inB_iff _).2 ⟨Nat.pos_of_ne_zero (pow_ne pr_Q (inB_ne h)), powM_lt (by decide) _ _, ?_⟩
  rw [powM_pow, Nat.mul_comm, ← powM_pow, c]
  unfold powM; rw [Nat.one_pow]; decide
theorem inB_four : inB 4 = true := (inB_iff 4).2 ⟨by decide, by decide, gR⟩
theorem inB_base (n : Nat) : inB (powM bQ 4 n) = true := inB_pow inB_four n
theorem inB_mul {x y : Nat} (hx : inB x = true) (hy : inB y = true) : inB (mulM bQ x y) = true := by
  obtain ⟨a, b, c⟩ := (inB_iff x).1 hx
  obtain ⟨a', b', c'⟩ := (inB_iff y).1 hy
  refine (inB_iff _).2 ⟨?_, mulM_lt (by decide) _ _, by rw [powM_mul, c, c']; decide⟩
  refine Nat.pos_of_ne_zero fun h => ?_
  rcases pr_Q.mul (Nat.dvd_of_mod_eq_zero h) with h | h
  · exact inB_ne hx (Nat.mod_eq_zero_of_dvd h)
  · exact inB_ne hy (Nat.mod_eq_zero_of_dvd h)
theorem inB_inv {x : Nat} (hx : inB x = true) : inB (invM bQ x) = true := by
  have h := inB_ne hx
  have e : invM bQ x = powM bQ x (bQ - 2) := by unfold invM; rw [if_neg h]; rfl
  rw [e]; exact inB_pow hx _

/-- The order of 4 is R. -/
theorem four_order {d : Nat} (h : powM bQ 4 d = 1) : bR ∣ d := by
  have hg := powM_gcd (by decide) bR d gR h
  rcases pr_R.2 _ (Nat.gcd_dvd_left bR d) with e | e
  · rw [e] at hg; exact absurd hg (by decide)
  · rw [← e]; exact Nat.gcd_dvd_right bR d
theorem base_period (x : Nat) : powM bQ 4 (x % bR) = powM bQ 4 x := powM_period (by decide) gR x
theorem base_inj_le {x y : Nat} (hxy : x ≤ y) (h : powM bQ 4 x = powM bQ 4 y) : x % bR = y % bR := by
  obtain ⟨d, rfl⟩ : ∃ d, y = x + d := ⟨y - x, by omega⟩
  have e : mulM bQ (powM bQ 4 x) 1 = mulM bQ (powM bQ 4 x) (powM bQ 4 d) := by
    rw [powM_add, ← h, mulM_one, Nat.mod_eq_of_lt (powM_lt (by decide) _ _)]
  have e2 := inv_unique pr_Q (inB_ne (inB_base x)) e
  rw [Nat.mod_eq_of_lt (powM_lt (m := bQ) (by decide) 4 d)] at e2
  obtain ⟨k, hk⟩ := four_order e2.symm
  rw [hk, Nat.add_mul_mod_self_left]
theorem base_inj {x y : Nat} (h : powM bQ 4 x = powM bQ 4 y) : x % bR = y % bR := by
  rcases Nat.le_total x y with h1 | h1
  · exact base_inj_le h1 h
  · exact (base_inj_le h1 h.symm).symm
theorem subM_zero_iff (m x y : Nat) (hm : 0 < m) : subM m x y = 0 ↔ x % m = y % m := by
  have hy := Nat.mod_lt y hm
  have hx := Nat.mod_lt x hm
  have key : subM m x y = (x % m + (m - y % m)) % m := by unfold subM; rw [Nat.mod_add_mod]
  rw [key]
  constructor
  · intro h
    rcases Nat.lt_or_ge (x % m + (m - y % m)) m with hlt | hge
    · rw [Nat.mod_eq_of_lt hlt] at h; omega
    · have : x % m + (m - y % m) = (x % m - y % m) + m := by omega
      rw [this, Nat.add_mod_right, Nat.mod_eq_of_lt (by omega)] at h
      omega
  · intro h
    rw [h, show y % m + (m - y % m) = m by omega, Nat.mod_self]
theorem base_eq_iff (x y : Nat) : powM bQ 4 x = powM bQ 4 y ↔ subM bR x y = 0 := by
  rw [subM_zero_iff _ _ _ (by decide)]
  exact ⟨base_inj, fun h => by rw [← base_period x, ← base_period y, h]⟩
theorem base_add (x y : Nat) : powM bQ 4 (addM bR x y) = mulM bQ (powM bQ 4 x) (powM bQ 4 y) := by
  unfold addM; rw [base_period, powM_add]
theorem base_mul (x y : Nat) : powM bQ 4 (mulM bR x y) = powM bQ (powM bQ 4 x) y := by
  unfold mulM; rw [base_period, powM_pow]
theorem base_add0 (x : Nat) : powM bQ 4 (addM bR x 0) = powM bQ 4 x := by
  unfold addM; rw [Nat.add_zero, base_period]

/-! ### squares -/
theorem inB_sq (a : Nat) : inB (mulM bQ a a) = (a % bQ != 0) := by
  rw [Bool.eq_iff_iff, inB_iff]
  simp only [bne_iff_ne, ne_eq]
  constructor
  · rintro ⟨h, _, _⟩ h0
    rw [← mulM_mod_left, h0] at h
    simp [mulM] at h
  · intro h
    refine ⟨Nat.pos_of_ne_zero fun h0 => ?_, mulM_lt (by decide) _ _, ?_⟩
    · rcases pr_Q.mul (Nat.dvd_of_mod_eq_zero h0) with h1 | h1 <;> exact h (Nat.mod_eq_zero_of_dvd h1)
    · rw [powM_mul, powM_add, show bR + bR = bQ - 1 from by decide]
      exact powM_fermat pr_Q h
theorem neg_pow_even (x : Nat) (hx : x ≤ bQ) (k : Nat) : powM bQ (bQ - x) (2 * k) = powM bQ x (2 * k) := by
  have h : mulM bQ (bQ - x) (bQ - x) = mulM bQ x x := by
    unfold mulM
    have e : ((bQ - x) * (bQ - x) : Nat) + (2 * x) * bQ = x * x + bQ * bQ := by
      obtain ⟨y, hy⟩ : ∃ y, bQ = x + y := ⟨bQ - x, by omega⟩
      rw [hy, Nat.add_sub_cancel_left]; grind
    have e1 : ((bQ - x) * (bQ - x) + (2 * x) * bQ) % bQ = (x * x + bQ * bQ) % bQ := by rw [e]
    rwa [Nat.add_mul_mod_self_right, Nat.add_mul_mod_self_right] at e1
  have h2 : ∀ y, powM bQ y (2 * k) = powM bQ (mulM bQ y y) k := fun y => by
    rw [powM_mul, powM_add]; congr 1; omega
  rw [h2, h2, h]
theorem half_root {x : Nat} (h0 : 0 < x) (h1 : x < bQ) : powM bQ x bR = 1 ∨ powM bQ x bR = bQ - 1 := by
  have hx : x % bQ ≠ 0 := by rw [Nat.mod_eq_of_lt h1]; omega
  have hf : mulM bQ (powM bQ x bR) (powM bQ x bR) = 1 := by rw [powM_add, show bR + bR = bQ - 1 from by decide]; exact powM_fermat pr_Q hx
  have hlt : powM bQ x bR < bQ := powM_lt (by decide) _ _
  generalize powM bQ x bR = r at *
  have hr0 : 0 < r := Nat.pos_of_ne_zero (fun h => by subst h; simp [mulM] at hf)
  have hd : bQ ∣ (r - 1) * (r + 1) := by
    have e : (r - 1) * (r + 1) = r * r - 1 := by
      obtain ⟨s, rfl⟩ : ∃ s, r = s + 1 := ⟨r - 1, by omega⟩
      rw [Nat.add_sub_cancel]
      have : (s + 1) * (s + 1) = s * (s + 1 + 1) + 1 := by grind
      omega
    rw [e]
    refine Nat.dvd_of_mod_eq_zero (Nat.sub_mod_eq_zero_of_mod_eq ?_)
    exact hf
  rcases pr_Q.mul hd with h | h
  · left
    rcases Nat.eq_zero_or_pos (r - 1) with h' | h'
    · omega
    · have := Nat.le_of_dvd h' h; omega
  · right
    have := Nat.le_of_dvd (by omega) h; omega
theorem inB_neg {x : Nat} (h0 : 0 < x) (h1 : x < bQ) : inB x ≠ inB (bQ - x) := by
  have ha := half_root h0 h1
  have hb := half_root (x := bQ - x) (by omega) (by omega)
  -- the two powers together are nought
  have hs : (powM bQ x bR + powM bQ (bQ - x) bR) % bQ = 0 := by
    obtain ⟨k, hk⟩ : ∃ k, bR = 2 * k + 1 := ⟨576460752303422894, by decide⟩
    rw [hk, ← powM_succ bQ x (2 * k), ← powM_succ bQ (bQ - x) (2 * k), neg_pow_even x (by omega)]
    generalize powM bQ x (2 * k) = t
    unfold mulM
    rw [← Nat.add_mod, ← Nat.mul_add, show x + (bQ - x) = bQ by omega, Nat.mul_mod_left]
  have hx : inB x = (powM bQ x bR == 1) := by
    rw [Bool.eq_iff_iff, inB_iff]; simp [h0, h1]
  have hy : inB (bQ - x) = (powM bQ (bQ - x) bR == 1) := by
    rw [Bool.eq_iff_iff, inB_iff]; simp; omega
  rw [hx, hy]
  generalize powM bQ x bR = r at *
  generalize powM bQ (bQ - x) bR = v at *
  clear hx hy
  unfold bQ at *
  rcases ha with rfl | rfl <;> rcases hb with rfl | rfl <;> simp at hs ⊢

/-! ### counting modulo m -/
theorem subM_addM (m a b : Nat) (hm : 0 < m) : subM m (addM m a b) b = a % m := by
  unfold subM addM
  have hb := Nat.mod_lt b hm
  rw [Nat.mod_add_mod, Nat.add_assoc]
  have e : b + (m - b % m) = (b / m + 1) * m := by
    have := Nat.div_add_mod b m
    rw [Nat.add_mul, Nat.mul_comm, Nat.one_mul]; omega
  rw [e, Nat.add_mul_mod_self_right]
theorem mulM_addM (m a b c : Nat) : mulM m (addM m a b) c = addM m (mulM m a c) (mulM m b c) := by
  unfold mulM addM
  rw [Nat.mul_mod, Nat.mod_mod, ← Nat.mul_mod, ← Nat.add_mod, Nat.add_mul]
theorem mul_inv_back {m a b : Nat} (hp : Pr m) (hb : b % m ≠ 0) : mulM m (mulM m a b) (invM m b) = a % m := by
  rw [mulM_assoc, invM_mul hp hb, mulM_one]
end Go.Proofs.Ytbomfnlipbdigaa
