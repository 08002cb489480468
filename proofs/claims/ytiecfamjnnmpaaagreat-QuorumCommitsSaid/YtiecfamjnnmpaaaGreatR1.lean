/- Parts of the proofs, put together: Num, CyMath, CyLaw, Lag, ShMath, Div, FdMath, HaMath, QuMath. -/
/- Plain number theory, no program in sight: Fermat's little theorem, Pocklington's test, and that P, Q, R are prime. -/
namespace Go.Proofs.YtiecfamjnnmpaaaGreat
/-- A prime number. -/
def Pr (p : Nat) : Prop := 2 ≤ p ∧ ∀ d, d ∣ p → d = 1 ∨ d = p

def ch : Nat → Nat → Nat
  | _, 0 => 1
  | 0, _ + 1 => 0
  | n + 1, k + 1 => ch n k + ch n (k + 1)
def sm (f : Nat → Nat) : Nat → Nat
  | 0 => 0
  | n + 1 => sm f n + f n

theorem ch_zero (n : Nat) : ch n 0 = 1 := by cases n <;> rfl
theorem ch_big : ∀ n k, n < k → ch n k = 0
  | 0, 0, h => by omega
  | 0, _ + 1, _ => rfl
  | n + 1, 0, h => by omega
  | n + 1, k + 1, h => by
    show ch n k + ch n (k + 1) = 0
    rw [ch_big n k (by omega), ch_big n (k + 1) (by omega)]
theorem ch_self : ∀ n, ch n n = 1
  | 0 => rfl
  | n + 1 => by
    show ch n n + ch n (n + 1) = 1
    rw [ch_self n, ch_big n (n + 1) (by omega)]
theorem ch_mul : ∀ n k, (k + 1) * ch (n + 1) (k + 1) = (n + 1) * ch n k
  | 0, 0 => rfl
  | 0, k + 1 => by
    show (k + 2) * (ch 0 (k + 1) + ch 0 (k + 2)) = 1 * ch 0 (k + 1)
    simp [ch]
  | n + 1, 0 => by
    have h := ch_mul n 0
    show (0 + 1) * (ch (n + 1) 0 + ch (n + 1) 1) = (n + 2) * ch (n + 1) 0
    rw [ch_zero] at *
    simp at h ⊢
    rw [h]; omega
  | n + 1, k + 1 => by
    have h1 := ch_mul n k
    have h2 := ch_mul n (k + 1)
    show (k + 1 + 1) * (ch (n + 1) (k + 1) + ch (n + 1) (k + 2)) = (n + 2) * ch (n + 1) (k + 1)
    have e : ch (n + 1) (k + 1) = ch n k + ch n (k + 1) := rfl
    have e2 : ch (n + 1) (k + 1 + 1) = ch n (k + 1) + ch n (k + 2) := rfl
    grind

theorem sm_congr {f g : Nat → Nat} (n : Nat) (h : ∀ k, k < n → f k = g k) : sm f n = sm g n := by
  induction n with
  | zero => rfl
  | succ n ih => rw [sm, sm, ih (fun k hk => h k (by omega)), h n (by omega)]
theorem sm_shift (f : Nat → Nat) (n : Nat) : sm f (n + 1) = f 0 + sm (fun k => f (k + 1)) n := by
  induction n with
  | zero => simp [sm]
  | succ n ih => rw [sm, ih, sm]; omega
theorem sm_add (f g : Nat → Nat) (n : Nat) : sm (fun k => f k + g k) n = sm f n + sm g n := by
  induction n with
  | zero => rfl
  | succ n ih => rw [sm, sm, sm, ih]; omega
theorem sm_mul (f : Nat → Nat) (a n : Nat) : sm (fun k => a * f k) n = a * sm f n := by
  induction n with
  | zero => rfl
  | succ n ih => rw [sm, sm, ih, Nat.mul_add]
theorem sm_dvd (f : Nat → Nat) (p n : Nat) (h : ∀ k, k < n → p ∣ f k) : p ∣ sm f n := by
  induction n with
  | zero => exact Nat.dvd_zero p
  | succ n ih => exact Nat.dvd_add (ih (fun k hk => h k (by omega))) (h n (by omega))

theorem binom (a n : Nat) : (a + 1) ^ n = sm (fun k => ch n k * a ^ k) (n + 1) := by
  induction n with
  | zero => simp [sm, ch]
  | succ n ih =>
    have e1 : sm (fun k => ch (n + 1) k * a ^ k) (n + 1 + 1) = 1 + sm (fun k => ch n k * a ^ (k + 1) + ch n (k + 1) * a ^ (k + 1)) (n + 1) := by
      rw [sm_shift]
      simp only [ch_zero, Nat.pow_zero, Nat.mul_one]
      congr 1
      exact sm_congr _ (fun k _ => by show (ch n k + ch n (k + 1)) * _ = _; rw [Nat.add_mul])
    have e2 : sm (fun k => ch n k * a ^ k) (n + 1) = 1 + sm (fun k => ch n (k + 1) * a ^ (k + 1)) (n + 1) := by
      have h : sm (fun k => ch n k * a ^ k) (n + 1 + 1) = sm (fun k => ch n k * a ^ k) (n + 1) := by
        rw [sm, ch_big n (n + 1) (by omega)]; omega
      rw [← h, sm_shift]
      simp [ch_zero]
    have e3 : sm (fun k => ch n k * a ^ (k + 1)) (n + 1) = a * sm (fun k => ch n k * a ^ k) (n + 1) := by
      rw [← sm_mul]
      exact sm_congr _ (fun k _ => by rw [Nat.pow_succ]; grind)
    rw [e1, sm_add, e3, Nat.pow_succ, ih]
    generalize hX : sm (fun k => ch n k * a ^ k) (n + 1) = X at *
    generalize hY : sm (fun k => ch n (k + 1) * a ^ (k + 1)) (n + 1) = Y at *
    rw [Nat.mul_add, Nat.mul_comm X a]; omega

theorem Pr.cop {p a : Nat} (hp : Pr p) (h : ¬ p ∣ a) : Nat.Coprime p a := by
  have := hp.2 (Nat.gcd p a) (Nat.gcd_dvd_left p a)
  rcases this with h1 | h1
  · exact h1
  · exact absurd (h1 ▸ Nat.gcd_dvd_right p a) h
theorem Pr.mul {p a b : Nat} (hp : Pr p) (h : p ∣ a * b) : p ∣ a ∨ p ∣ b := by
  by_cases ha : p ∣ a
  · exact Or.inl ha
  · exact Or.inr ((hp.cop ha).dvd_of_dvd_mul_left h)
theorem Pr.pow {p a n : Nat} (hp : Pr p) (h : p ∣ a ^ n) : p ∣ a := by
  induction n with
  | zero => rw [Nat.pow_zero] at h; have := Nat.le_of_dvd (by omega) h; have := hp.1; omega
  | succ n ih => rw [Nat.pow_succ] at h; rcases hp.mul h with h | h; exact ih h; exact h

theorem Pr.choose {p k : Nat} (hp : Pr p) (h0 : 0 < k) (h1 : k < p) : p ∣ ch p k := by
  obtain ⟨q, rfl⟩ : ∃ q, p = q + 1 := ⟨p - 1, by omega⟩
  obtain ⟨j, rfl⟩ : ∃ j, k = j + 1 := ⟨k - 1, by omega⟩
  have h := ch_mul q j
  have hd : q + 1 ∣ (j + 1) * ch (q + 1) (j + 1) := ⟨_, h⟩
  rcases hp.mul hd with h2 | h2
  · have := Nat.le_of_dvd (by omega) h2; omega
  · exact h2

theorem fermat0 {p : Nat} (hp : Pr p) (a : Nat) : a ^ p % p = a % p := by
  have h2 := hp.1
  induction a with
  | zero => rw [Nat.zero_pow (by omega)]
  | succ a ih =>
    obtain ⟨q, rfl⟩ : ∃ q, p = q + 1 := ⟨p - 1, by omega⟩
    rw [binom, sm, sm_shift, ch_zero, ch_self, Nat.pow_zero]
    have hd := sm_dvd (fun k => ch (q + 1) (k + 1) * a ^ (k + 1)) (q + 1) q (fun k hk => Nat.dvd_mul_right_of_dvd (hp.choose (by omega) (by omega)) _)
    obtain ⟨t, ht⟩ := hd
    rw [ht, show 1 * 1 + (q + 1) * t + 1 * a ^ (q + 1) = a ^ (q + 1) + 1 + (q + 1) * t by omega, Nat.add_mul_mod_self_left, Nat.add_mod, ih, ← Nat.add_mod]

/-- FERMAT. -/
theorem fermat {p a : Nat} (hp : Pr p) (h : a % p ≠ 0) : a ^ (p - 1) % p = 1 := by
  have h2 := hp.1
  have hf := fermat0 hp a
  have hna : ¬ p ∣ a := fun hd => h (Nat.mod_eq_zero_of_dvd hd)
  have ha : 0 < a := by rcases Nat.eq_zero_or_pos a with rfl | h'; simp at h; exact h'
  have hpos : 0 < a ^ (p - 1) := Nat.pow_pos ha
  have e : a ^ p = a * a ^ (p - 1) := by rw [← Nat.pow_succ']; congr 1; omega
  have hd : p ∣ a * (a ^ (p - 1) - 1) := by
    rw [Nat.mul_sub, ← e, Nat.mul_one]
    exact Nat.dvd_of_mod_eq_zero (Nat.sub_mod_eq_zero_of_mod_eq hf)
  have hd2 := (hp.cop hna).dvd_of_dvd_mul_left hd
  obtain ⟨t, ht⟩ := hd2
  have : a ^ (p - 1) = 1 + p * t := by omega
  rw [this, Nat.add_mul_mod_self_left]
  exact Nat.mod_eq_of_lt (by omega)

/-! ### powers, reckoned -/
/-- a to the n, modulo m, by squaring; f: more than n has bits. -/
def pwm (m : Nat) : Nat → Nat → Nat → Nat
  | 0, _, _ => 1 % m
  | f + 1, a, n => bif n == 0 then 1 % m else bif n % 2 == 1 then a * pwm m f (a * a % m) (n / 2) % m else pwm m f (a * a % m) (n / 2)
theorem pwm_eq (m : Nat) : ∀ f a n, n < 2 ^ f → pwm m f a n = a ^ n % m
  | 0, a, n, h => by
    obtain rfl : n = 0 := by simpa using h
    simp [pwm]
  | f + 1, a, n, h => by
    have ih := pwm_eq m f (a * a % m) (n / 2) (by rw [Nat.pow_succ] at h; omega)
    rw [pwm]
    by_cases h0 : n = 0
    · subst h0; simp
    · have e : (n == 0) = false := by simpa using h0
      rw [e, cond_false, ih, ← Nat.pow_mod, ← Nat.pow_two, ← Nat.pow_mul]
      by_cases h1 : n % 2 = 1
      · have e1 : (n % 2 == 1) = true := by simpa using h1
        have hn : n = 2 * (n / 2) + 1 := by omega
        rw [e1, cond_true]
        conv => rhs; rw [hn, Nat.pow_succ, Nat.mul_comm]
        simp [Nat.mul_mod]
      · have e1 : (n % 2 == 1) = false := by simpa using h1
        have hn : n = 2 * (n / 2) := by omega
        rw [e1, cond_false]
        conv => rhs; rw [hn]

/-! ### orders -/
theorem pow_mod_one {m b : Nat} (hm : 1 < m) (h : b % m = 1) (k : Nat) : b ^ k % m = 1 := by
  rw [Nat.pow_mod, h, Nat.one_pow, Nat.mod_eq_of_lt hm]
theorem pow_split {m b x y : Nat} (hx : b ^ x % m = 1) (h : b ^ (x + y) % m = 1) : b ^ y % m = 1 := by
  rw [Nat.pow_add, Nat.mul_mod, hx, Nat.one_mul, Nat.mod_mod] at h; exact h
theorem pow_gcd {m b : Nat} (hm : 1 < m) (x y : Nat) (hx : b ^ x % m = 1) (hy : b ^ y % m = 1) : b ^ Nat.gcd x y % m = 1 := by
  induction x, y using Nat.gcd.induction with
  | H0 y => rw [Nat.gcd_zero_left]; exact hy
  | H1 x y h ih =>
    rw [Nat.gcd_rec]
    refine ih ?_ hx
    have e : x * (y / x) + y % x = y := Nat.div_add_mod y x
    rw [← e] at hy
    exact pow_split (by rw [Nat.pow_mul]; exact pow_mod_one hm hx _) hy

/-- If b to the q is 1 modulo the prime p, and b is not, the prime q divides p - 1. -/
theorem ord_dvd {p q b : Nat} (hp : Pr p) (hq : Pr q) (h : b ^ q % p = 1) (h1 : b % p ≠ 1) : q ∣ p - 1 := by
  refine Classical.byContradiction fun hn => h1 ?_
  have hp2 : 1 < p := hp.1
  have hb : b % p ≠ 0 := by
    intro h0
    have : b ^ q % p = 0 := by
      rw [Nat.pow_mod, h0, Nat.zero_pow (by have := hq.1; omega)]; simp
    omega
  have hf := fermat hp hb
  have hg := pow_gcd hp2 q (p - 1) h hf
  rw [hq.cop hn] at hg
  simpa using hg

/-- A prime factor of n - 1 divides r - 1, for each prime factor r of n. -/
theorem pock {n q a : Nat} (hn : 1 < n) (hq : Pr q) (hqn : q ∣ n - 1) (h1 : a ^ (n - 1) % n = 1) (hg : Nat.gcd (a ^ ((n - 1) / q) % n + n - 1) n = 1) (r : Nat) (hr : Pr r) (hrn : r ∣ n) : q ∣ r - 1 := by
  obtain ⟨k, hk⟩ := hqn
  have hq0 : 0 < q := by have := hq.1; omega
  have e : (n - 1) / q = k := by rw [hk]; exact Nat.mul_div_cancel_left k hq0
  rw [e] at hg
  have hr2 := hr.1
  have hm : ∀ x, x % n % r = x % r := fun x => Nat.mod_mod_of_dvd x hrn
  refine ord_dvd (b := a ^ k) hr hq ?_ ?_
  · rw [← Nat.pow_mul, Nat.mul_comm, ← hk, ← hm, h1, Nat.mod_eq_of_lt (by omega)]
  · intro h
    have hd : r ∣ a ^ k % n + n - 1 := by
      have h' : a ^ k % n % r = 1 := by rw [hm]; exact h
      have e1 : a ^ k % n = r * (a ^ k % n / r) + 1 := by have := Nat.div_add_mod (a ^ k % n) r; omega
      have e2 : a ^ k % n + n - 1 = r * (a ^ k % n / r) + n := by omega
      rw [e2]; exact Nat.dvd_add (Nat.dvd_mul_right _ _) hrn
    have := Nat.dvd_gcd hd hrn
    rw [hg] at this
    have := Nat.le_of_dvd (by omega) this
    omega

/-- The same, the powers reckoned. -/
theorem pock' {n q a : Nat} (hn : 1 < n) (hn2 : n < 18446744073709551616) (hq : Pr q) (hqn : q ∣ n - 1) (h1 : pwm n 64 a (n - 1) = 1) (hg : Nat.gcd (pwm n 64 a ((n - 1) / q) + n - 1) n = 1) (r : Nat) (hr : Pr r) (hrn : r ∣ n) : q ∣ r - 1 := by
  have e : (2 : Nat) ^ 64 = 18446744073709551616 := rfl
  rw [pwm_eq _ _ _ _ (by omega)] at h1
  rw [pwm_eq _ _ _ _ (by have := Nat.div_le_self (n - 1) q; omega)] at hg
  exact pock hn hq hqn h1 hg r hr hrn

/-- A number that is not prime has a prime factor whose square it is not below. -/
theorem least_factor {n : Nat} (hn : 2 ≤ n) : ∃ r, Pr r ∧ r ∣ n := by
  induction n using Nat.strongRecOn with
  | _ n ih =>
    by_cases h : Pr n
    · exact ⟨n, h, Nat.dvd_refl n⟩
    · have : ∃ d, d ∣ n ∧ d ≠ 1 ∧ d ≠ n := by
        refine Classical.byContradiction fun hc => h ⟨hn, fun d hd => ?_⟩
        by_cases h1 : d = 1
        · exact Or.inl h1
        · by_cases h2 : d = n
          · exact Or.inr h2
          · exact absurd ⟨d, hd, h1, h2⟩ hc
      obtain ⟨d, hd, h1, h2⟩ := this
      have hle := Nat.le_of_dvd (by omega) hd
      have h0 : d ≠ 0 := by rintro rfl; have := Nat.eq_zero_of_zero_dvd hd; omega
      obtain ⟨r, hr, hrd⟩ := ih d (by omega) (by omega)
      exact ⟨r, hr, Nat.dvd_trans hrd hd⟩
theorem small_factor {n : Nat} (hn : 2 ≤ n) (h : ¬ Pr n) : ∃ r, Pr r ∧ r ∣ n ∧ r * r ≤ n := by
  have : ∃ d, d ∣ n ∧ d ≠ 1 ∧ d ≠ n := by
    refine Classical.byContradiction fun hc => h ⟨hn, fun d hd => ?_⟩
    by_cases h1 : d = 1
    · exact Or.inl h1
    · by_cases h2 : d = n
      · exact Or.inr h2
      · exact absurd ⟨d, hd, h1, h2⟩ hc
  obtain ⟨d, ⟨c, hc⟩, h1, h2⟩ := this
  have hd0 : 2 ≤ d := by
    rcases d with _ | _ | d
    · simp at hc; omega
    · exact absurd rfl h1
    · omega
  have hc0 : 2 ≤ c := by
    rcases c with _ | _ | c
    · simp at hc; omega
    · simp at hc; exact absurd hc.symm h2
    · omega
  rcases Nat.le_total d c with hle | hle
  · obtain ⟨r, hr, hrd⟩ := least_factor hd0
    have := Nat.le_of_dvd (by omega) hrd
    exact ⟨r, hr, Nat.dvd_trans hrd ⟨c, hc⟩, by rw [hc]; exact Nat.mul_le_mul this (Nat.le_trans this hle)⟩
  · obtain ⟨r, hr, hrd⟩ := least_factor hc0
    have := Nat.le_of_dvd (by omega) hrd
    exact ⟨r, hr, Nat.dvd_trans hrd ⟨d, by rw [Nat.mul_comm]; exact hc⟩, by rw [hc]; exact Nat.mul_le_mul (Nat.le_trans this hle) this⟩

/-- n is prime, if more than its root divides r - 1 for each prime factor r. -/
theorem prime_of {n F : Nat} (hn : 2 ≤ n) (hF : n < (F + 1) * (F + 1)) (h : ∀ r, Pr r → r ∣ n → F ∣ r - 1) : Pr n := by
  refine Classical.byContradiction fun hc => ?_
  obtain ⟨r, hr, hrn, hrr⟩ := small_factor hn hc
  have h2 := hr.1
  have hle : F ≤ r - 1 := Nat.le_of_dvd (by omega) (h r hr hrn)
  have : (F + 1) * (F + 1) ≤ r * r := Nat.mul_le_mul (by omega) (by omega)
  omega

/-- Trial division by d, d + 2, .. -/
def trial (n : Nat) : Nat → Nat → Bool
  | 0, d => Nat.ble (n + 1) (d * d)
  | f + 1, d => bif Nat.beq (n % d) 0 then false else trial n f (d + 2)
theorem trial_ok {n : Nat} : ∀ f d, trial n f d = true → ∀ k, d ≤ k → k % 2 = d % 2 → k * k ≤ n → n % k ≠ 0
  | 0, d, h, k, hk, _, hkn => by
    have h' := Nat.le_of_ble_eq_true h
    have := Nat.mul_le_mul hk hk
    omega
  | f + 1, d, h, k, hk, hp, hkn => by
    rw [trial] at h
    cases hb : Nat.beq (n % d) 0 with
    | true => rw [hb] at h; cases h
    | false =>
      rw [hb, cond_false] at h
      by_cases e : k = d
      · subst e; intro h0; rw [h0] at hb; cases hb
      · exact trial_ok f (d + 2) h k (by omega) (by omega) hkn
theorem prime_trial {n f : Nat} (hn : 2 ≤ n) (h2 : n % 2 = 1) (h : trial n f 3 = true) : Pr n := by
  refine Classical.byContradiction fun hc => ?_
  obtain ⟨r, hr, hrn, hrr⟩ := small_factor hn hc
  have h0 := Nat.mod_eq_zero_of_dvd hrn
  have hr2 := hr.1
  by_cases e : r % 2 = 0
  · have : 2 ∣ n := Nat.dvd_trans (Nat.dvd_of_mod_eq_zero e) hrn
    omega
  · exact trial_ok f 3 h r (by omega) (by omega) hrr h0

def bP : Nat := 2305843009213693951
def bQ : Nat := 2305843009213691579
def bR : Nat := 1152921504606845789

theorem pr_5671741379 : Pr 5671741379 := prime_trial (f := 37655) (by omega) (by omega) (by decide +kernel)
theorem pr_288230376151711447 : Pr 288230376151711447 :=
  prime_of (F := 5671741379) (by omega) (by omega) (pock' (a := 2) (by omega) (by omega) pr_5671741379 (by omega) (by decide +kernel) (by decide +kernel))
theorem pr_R : Pr bR :=
  prime_of (F := 288230376151711447) (by decide) (by decide) (pock' (a := 2) (by decide) (by decide) pr_288230376151711447 (by decide +kernel) (by decide +kernel) (by decide +kernel))
theorem pr_Q : Pr bQ :=
  prime_of (F := bR) (by decide) (by decide) (pock' (a := 2) (by decide) (by decide) pr_R (by decide +kernel) (by decide +kernel) (by decide +kernel))
theorem pr_61 : Pr 61 := prime_trial (f := 3) (by omega) (by omega) (by decide +kernel)
theorem pr_151 : Pr 151 := prime_trial (f := 5) (by omega) (by omega) (by decide +kernel)
theorem pr_331 : Pr 331 := prime_trial (f := 9) (by omega) (by omega) (by decide +kernel)
theorem pr_1321 : Pr 1321 := prime_trial (f := 18) (by omega) (by omega) (by decide +kernel)
theorem pr_P : Pr bP := by
  refine prime_of (F := 61 * (151 * (331 * 1321))) (by decide) (by decide) fun r hr hrn => ?_
  have h1 := pock' (n := bP) (a := 2) (by decide) (by decide) pr_61 (by decide +kernel) (by decide +kernel) (by decide +kernel) r hr hrn
  have h2 := pock' (n := bP) (a := 3) (by decide) (by decide) pr_151 (by decide +kernel) (by decide +kernel) (by decide +kernel) r hr hrn
  have h3 := pock' (n := bP) (a := 3) (by decide) (by decide) pr_331 (by decide +kernel) (by decide +kernel) (by decide +kernel) r hr hrn
  have h4 := pock' (n := bP) (a := 3) (by decide) (by decide) pr_1321 (by decide +kernel) (by decide +kernel) (by decide +kernel) r hr hrn
  exact Nat.Coprime.mul_dvd_of_dvd_of_dvd (by decide +kernel) h1 (Nat.Coprime.mul_dvd_of_dvd_of_dvd (by decide +kernel) h2 (Nat.Coprime.mul_dvd_of_dvd_of_dvd (by decide +kernel) h3 h4))
#print axioms pr_P
#print axioms pr_Q
end Go.Proofs.YtiecfamjnnmpaaaGreat

/- Plain: what the functions of the layer 'cyclic' come to. No program in sight. -/
namespace Go.Proofs.YtiecfamjnnmpaaaGreat

def mulM (m a b : Nat) : Nat := a * b % m
def addM (m a b : Nat) : Nat := (a + b) % m
def subM (m a b : Nat) : Nat := (a + (m - b % m)) % m
def powM (m a n : Nat) : Nat := a ^ n % m
/-- The inverse; 0 of a multiple of m. -/
def invM (m a : Nat) : Nat := if a % m = 0 then 0 else a ^ (m - 2) % m
/-- ErrZero, or OK. -/
def invE (m a : Nat) : Nat := if a % m = 0 then 10 else 0
def inB (x : Nat) : Bool := decide (0 < x) && decide (x < bQ) && powM bQ x bR == 1

/-! ### the powers' loop, the highest bit first -/
def upto {α : Type} (f : Nat → α) (k : Nat) : List α := (List.range k).map f
theorem upto_succ {α : Type} (f : Nat → α) (k : Nat) : upto f (k + 1) = upto f k ++ [f k] := by simp [upto, List.range_succ]
theorem upto_length {α : Type} (f : Nat → α) (k : Nat) : (upto f k).length = k := by simp [upto]

def stepM (m a out : Nat) (b : Bool) : Nat := if b then out * out % m * a % m else out * out % m
def horner (m a : Nat) (bs : List Bool) : Nat := bs.foldl (stepM m a) 1
theorem horner_snoc (m a : Nat) (bs : List Bool) (b : Bool) : horner m a (bs ++ [b]) = stepM m a (horner m a bs) b := by simp [horner]

theorem stepM_pow (m a e : Nat) (b : Bool) : stepM m a (a ^ e % m) b = a ^ (2 * e + b.toNat) % m := by
  have h : a ^ e % m * (a ^ e % m) % m = a ^ (2 * e) % m := by rw [← Nat.mul_mod, ← Nat.pow_add]; congr 2; omega
  cases b with
  | false => simp [stepM, h]
  | true =>
    simp only [stepM, h, if_true, Bool.toNat_true]
    rw [Nat.pow_succ, Nat.mul_mod, Nat.mod_mod, ← Nat.mul_mod]

theorem and_two_pow (x j : Nat) : x &&& 2 ^ j = (x.testBit j).toNat * 2 ^ j := by
  refine Nat.eq_of_testBit_eq fun i => ?_
  rw [Nat.testBit_and, Nat.testBit_two_pow]
  by_cases h : j = i
  · subst h
    cases x.testBit j with
    | false => simp
    | true => simp
  · cases x.testBit j with
    | false => simp [h]
    | true => simp [h]

theorem half_bit (n j : Nat) : n / 2 ^ j = 2 * (n / 2 ^ (j + 1)) + (n.testBit j).toNat := by
  have h : (n.testBit j).toNat = n / 2 ^ j % 2 := Nat.toNat_testBit n j
  rw [h, Nat.pow_succ, ← Nat.div_div_eq_div_mul]
  omega

theorem horner_upto (m a n L : Nat) (hm : 1 < m) (hn : n < 2 ^ L) : ∀ k, k ≤ L → horner m a (upto (fun j => n.testBit (L - 1 - j)) k) = a ^ (n / 2 ^ (L - k)) % m
  | 0, _ => by
    rw [Nat.sub_zero, Nat.div_eq_of_lt hn, Nat.pow_zero, Nat.mod_eq_of_lt hm]; rfl
  | k + 1, hk => by
    rw [upto_succ, horner_snoc, horner_upto m a n L hm hn k (by omega), stepM_pow]
    have h := half_bit n (L - 1 - k)
    rw [show L - 1 - k + 1 = L - k by omega] at h
    rw [← h, show L - 1 - k = L - (k + 1) by omega]
theorem horner_all (m a n L : Nat) (hm : 1 < m) (hn : n < 2 ^ L) : horner m a (upto (fun j => n.testBit (L - 1 - j)) L) = powM m a n := by
  rw [horner_upto m a n L hm hn L (Nat.le_refl _)]
  simp [powM]

/-! ### the inverse: the steps of the greatest common divisor -/
/-- x and y are u and v times a, modulo m; u and v are of unlike signs, and small. -/
structure GcdAt (m a x y : Nat) (u v : Int) : Prop where
  xu : (m : Int) ∣ u * a - x
  yv : (m : Int) ∣ v * a - y
  gcd : Nat.gcd x y = 1
  sg : (0 ≤ u ∧ v ≤ 0 ∧ u * y - v * x = m) ∨ (u ≤ 0 ∧ 0 ≤ v ∧ v * x - u * y = m)
  x0 : 0 < x
  xm : x ≤ m
  ym : y ≤ m

theorem GcdAt.start {m a : Nat} (hm : 1 < m) (hp : Pr m) (ha : a % m ≠ 0) : GcdAt m a (a % m) m 1 0 := by
  have hlt : a % m < m := Nat.mod_lt _ (by omega)
  refine ⟨?_, ?_, ?_, Or.inl ⟨by omega, by omega, by omega⟩, by omega, by omega, by omega⟩
  · rw [Int.one_mul]
    have := Nat.div_add_mod a m
    refine ⟨((a / m : Nat) : Int), ?_⟩
    have e : (a : Int) = ((m * (a / m) + a % m : Nat) : Int) := by rw [this]
    have e2 : ((m * (a / m) + a % m : Nat) : Int) = (m : Int) * ((a / m : Nat) : Int) + ((a % m : Nat) : Int) := by simp
    omega
  · exact ⟨-1, by omega⟩
  · rw [Nat.gcd_comm]
    exact hp.cop (fun hd => by have := Nat.le_of_dvd (by omega) hd; omega)

theorem GcdAt.next {m a x y : Nat} {u v : Int} (h : GcdAt m a x y u v) (hy : 0 < y) :
    GcdAt m a y (x - x / y * y) v (u - ((x / y : Nat) : Int) * v) ∧ x / y * y ≤ x ∧ x - x / y * y < y := by
  have hle : x / y * y ≤ x := Nat.div_mul_le_self x y
  have he : x - x / y * y = x % y := by have := Nat.mod_add_div x y; rw [Nat.mul_comm] at this; omega
  have hlt : x % y < y := Nat.mod_lt _ hy
  have hdm : (x : Int) = ((x / y : Nat) : Int) * (y : Int) + ((x % y : Nat) : Int) := by
    have := Nat.div_add_mod x y
    rw [Nat.mul_comm] at this
    have e : ((x / y * y + x % y : Nat) : Int) = ((x / y : Nat) : Int) * (y : Int) + ((x % y : Nat) : Int) := by simp
    omega
  refine ⟨?_, hle, by omega⟩
  rw [he]
  generalize hq : x / y = q at *
  generalize hr : x % y = r at *
  obtain ⟨s, hs⟩ := h.xu
  obtain ⟨t, ht⟩ := h.yv
  refine ⟨h.yv, ⟨s - q * t, ?_⟩, ?_, ?_, hy, h.ym, ?_⟩
  · grind
  · rw [← hr, Nat.gcd_comm, ← Nat.gcd_rec, Nat.gcd_comm]; exact h.gcd
  · have hq0 : (0 : Int) ≤ (q : Int) := by omega
    rcases h.sg with ⟨a1, a2, a3⟩ | ⟨a1, a2, a3⟩
    · right
      refine ⟨a2, ?_, ?_⟩
      · have := Int.mul_nonpos_of_nonneg_of_nonpos hq0 a2; omega
      · grind
    · left
      refine ⟨a2, ?_, ?_⟩
      · have := Int.mul_nonneg hq0 a2; omega
      · grind
  · have := h.ym; omega

theorem GcdAt.bounds {m a x y : Nat} {u v : Int} (h : GcdAt m a x y u v) : -(m : Int) ≤ v ∧ v ≤ m := by
  have h0 := h.x0
  have h1 : (1 : Int) ≤ x := by omega
  rcases h.sg with ⟨a1, a2, a3⟩ | ⟨a1, a2, a3⟩
  · have b1 : 0 ≤ u * (y : Int) := Int.mul_nonneg a1 (by omega)
    have b2 : -v * 1 ≤ -v * (x : Int) := Int.mul_le_mul_of_nonneg_left h1 (by omega)
    rw [Int.neg_mul v x] at b2
    omega
  · have b1 : u * (y : Int) ≤ 0 := Int.mul_nonpos_of_nonpos_of_nonneg a1 (by omega)
    have b2 : v * 1 ≤ v * (x : Int) := Int.mul_le_mul_of_nonneg_left h1 (by omega)
    omega

/-- At the end: u is the inverse. -/
theorem GcdAt.done {m a x : Nat} {u v : Int} (h : GcdAt m a x 0 u v) (hm : 1 < m) (hp : Pr m) (ha : a % m ≠ 0) (hu : -(m : Int) ≤ u ∧ u ≤ m) :
    (u < 0 → 0 ≤ u + m) ∧ (if u < 0 then u + m else u) = ((invM m a : Nat) : Int) := by
  have hx : x = 1 := by have := h.gcd; simpa using this
  subst hx
  have hlt : a ^ (m - 2) % m < m := Nat.mod_lt _ (by omega)
  have hf := fermat hp ha
  refine ⟨fun _ => by omega, ?_⟩
  unfold invM
  rw [if_neg ha]
  -- both times a are 1
  have hd : (m : Int) ∣ (if u < 0 then u + m else u) * a - 1 := by
    have := h.xu
    split
    · obtain ⟨t, ht⟩ := this
      exact ⟨t + a, by rw [Int.add_mul, Int.mul_add]; omega⟩
    · exact this
  have hd2 : (m : Int) ∣ ((a ^ (m - 2) % m : Nat) : Int) * a - 1 := by
    have e : a ^ (m - 2) % m * a % m = 1 := by
      rw [Nat.mul_mod, Nat.mod_mod, ← Nat.mul_mod, ← Nat.pow_succ, show (m - 2).succ = m - 1 by omega]; exact hf
    have := Nat.div_add_mod (a ^ (m - 2) % m * a) m
    rw [e] at this
    refine ⟨((a ^ (m - 2) % m * a / m : Nat) : Int), ?_⟩
    have e2 : ((a ^ (m - 2) % m * a : Nat) : Int) = ((a ^ (m - 2) % m : Nat) : Int) * a := Int.natCast_mul _ _
    have e3 : ((m * (a ^ (m - 2) % m * a / m) + 1 : Nat) : Int) = (m : Int) * ((a ^ (m - 2) % m * a / m : Nat) : Int) + 1 := by rw [Int.natCast_add, Int.natCast_mul]; rfl
    omega
  generalize ha1 : a ^ (m - 2) % m = i at *
  generalize hu1 : (if u < 0 then u + (m : Int) else u) = w at *
  have hw0 : 0 ≤ w ∧ w ≤ m := by subst hu1; split <;> omega
  have hdd : (m : Int) ∣ (w - i) * a := by
    have := Int.dvd_sub hd hd2
    have e : w * (a : Int) - 1 - ((i : Int) * a - 1) = (w - i) * a := by rw [Int.sub_mul]; omega
    rwa [e] at this
  obtain ⟨k, hk⟩ : ∃ k : Nat, (w - i).natAbs = k := ⟨_, rfl⟩
  have hmk : m ∣ k * a := by
    have := Int.natAbs_dvd_natAbs.2 hdd
    rw [Int.natAbs_mul, hk] at this
    simpa using this
  have hna : ¬ m ∣ a := fun hd => ha (Nat.mod_eq_zero_of_dvd hd)
  have hmk2 : m ∣ k := (hp.mul hmk).resolve_right hna
  rcases Nat.eq_zero_or_pos k with h0 | h0
  · omega
  · have := Nat.le_of_dvd h0 hmk2
    -- then w is m and i is 0: but m does not divide 0 - 1
    have hwm : w = m ∧ i = 0 := by omega
    obtain ⟨rfl, rfl⟩ := hwm
    obtain ⟨t, ht⟩ := hd2
    exfalso
    have h1 : (m : Int) ∣ 1 := ⟨-t, by rw [Int.mul_neg]; omega⟩
    have := Int.le_of_dvd (by omega) h1
    omega

end Go.Proofs.YtiecfamjnnmpaaaGreat

/- Plain laws of the layer 'cyclic': a group of prime order, modulo Q; and counting modulo R. No program in sight. -/
namespace Go.Proofs.YtiecfamjnnmpaaaGreat

theorem mulM_lt {m : Nat} (h : 0 < m) (a b : Nat) : mulM m a b < m := Nat.mod_lt _ h
theorem addM_lt' {m : Nat} (h : 0 < m) (a b : Nat) : addM m a b < m := Nat.mod_lt _ h
theorem subM_lt {m : Nat} (h : 0 < m) (a b : Nat) : subM m a b < m := Nat.mod_lt _ h
theorem powM_lt {m : Nat} (h : 0 < m) (a b : Nat) : powM m a b < m := Nat.mod_lt _ h
theorem invM_lt {m : Nat} (h : 0 < m) (a : Nat) : invM m a < m := by
  unfold invM; split
  · exact h
  · exact Nat.mod_lt _ h

theorem mulM_comm (m a b : Nat) : mulM m a b = mulM m b a := by unfold mulM; rw [Nat.mul_comm]
theorem addM_comm (m a b : Nat) : addM m a b = addM m b a := by unfold addM; rw [Nat.add_comm]
theorem mulM_assoc (m a b c : Nat) : mulM m (mulM m a b) c = mulM m a (mulM m b c) := by
  unfold mulM
  rw [Nat.mul_mod, Nat.mod_mod, ← Nat.mul_mod, Nat.mul_mod a, Nat.mod_mod, ← Nat.mul_mod, Nat.mul_assoc]
theorem mulM_one (m a : Nat) : mulM m a 1 = a % m := by unfold mulM; rw [Nat.mul_one]
theorem mulM_mod_left (m a b : Nat) : mulM m (a % m) b = mulM m a b := by unfold mulM; rw [Nat.mul_mod, Nat.mod_mod, ← Nat.mul_mod]
theorem mulM_mod_right (m a b : Nat) : mulM m a (b % m) = mulM m a b := by unfold mulM; rw [Nat.mul_mod, Nat.mod_mod, ← Nat.mul_mod]
theorem powM_add (m a x y : Nat) : mulM m (powM m a x) (powM m a y) = powM m a (x + y) := by
  unfold mulM powM; rw [← Nat.mul_mod, Nat.pow_add]
theorem powM_succ (m a x : Nat) : mulM m (powM m a x) a = powM m a (x + 1) := by
  unfold mulM powM; rw [Nat.mul_mod, Nat.mod_mod, ← Nat.mul_mod, Nat.pow_succ]
theorem powM_pow (m a x y : Nat) : powM m (powM m a x) y = powM m a (x * y) := by
  unfold powM; rw [← Nat.pow_mod, Nat.pow_mul]
theorem powM_mod (m a x : Nat) : powM m (a % m) x = powM m a x := by unfold powM; rw [← Nat.pow_mod]
theorem powM_mul (m a b x : Nat) : powM m (mulM m a b) x = mulM m (powM m a x) (powM m b x) := by
  unfold powM mulM; rw [← Nat.pow_mod, Nat.mul_pow, Nat.mul_mod]
theorem powM_zero {m : Nat} (h : 1 < m) (a : Nat) : powM m a 0 = 1 := by unfold powM; rw [Nat.pow_zero, Nat.mod_eq_of_lt h]

/-- Whose power is 1 depends on the exponent modulo the order alone. -/
theorem powM_period {m a r : Nat} (hm : 1 < m) (h : powM m a r = 1) (x : Nat) : powM m a (x % r) = powM m a x := by
  have e := Nat.div_add_mod x r
  conv => rhs; rw [← e]
  rw [← powM_add, ← powM_pow, h]
  unfold mulM powM
  rw [Nat.one_pow, Nat.mod_eq_of_lt hm, Nat.one_mul, Nat.mod_mod]

theorem invM_mul {m a : Nat} (hp : Pr m) (ha : a % m ≠ 0) : mulM m a (invM m a) = 1 := by
  have h1 := hp.1
  unfold mulM invM
  rw [if_neg ha, Nat.mul_mod, Nat.mod_mod, ← Nat.mul_mod, ← Nat.pow_succ', show (m - 2).succ = m - 1 by omega]
  exact fermat hp ha
theorem invM_ne {m a : Nat} (hp : Pr m) (ha : a % m ≠ 0) : invM m a ≠ 0 := by
  intro h
  have := invM_mul hp ha
  rw [h] at this
  simp [mulM] at this
/-- The inverse is one alone. -/
theorem inv_unique {m a b c : Nat} (hp : Pr m) (ha : a % m ≠ 0) (h : mulM m a b = mulM m a c) : b % m = c % m := by
  have e : mulM m (invM m a) (mulM m a b) = mulM m (invM m a) (mulM m a c) := by rw [h]
  rw [← mulM_assoc, ← mulM_assoc, mulM_comm m (invM m a), invM_mul hp ha] at e
  unfold mulM at e
  rwa [Nat.one_mul, Nat.one_mul] at e
theorem invM_invM {m a : Nat} (hp : Pr m) (ha : a % m ≠ 0) : invM m (invM m a) = a % m := by
  have h1 := hp.1
  have hlt := invM_lt (show 0 < m by omega) a
  have hi : invM m a % m ≠ 0 := by rw [Nat.mod_eq_of_lt hlt]; exact invM_ne hp ha
  have e := inv_unique (b := invM m (invM m a)) (c := a) hp hi (by rw [invM_mul hp hi, mulM_comm, invM_mul hp ha])
  rwa [Nat.mod_eq_of_lt (invM_lt (by omega) _)] at e
theorem invE_ok {m a : Nat} (ha : a % m ≠ 0) : invE m a = 0 := by unfold invE; rw [if_neg ha]
theorem invE_zero {m a : Nat} (ha : a % m = 0) : invE m a = 10 := by unfold invE; rw [if_pos ha]
theorem invM_zero {m a : Nat} (ha : a % m = 0) : invM m a = 0 := by unfold invM; rw [if_pos ha]

/-! ### the group -/
theorem inB_iff (x : Nat) : inB x = true ↔ 0 < x ∧ x < bQ ∧ powM bQ x bR = 1 := by
  unfold inB; simp [and_assoc]
theorem inB_ne {x : Nat} (h : inB x = true) : x % bQ ≠ 0 := by
  obtain ⟨a, b, _⟩ := (inB_iff x).1 h
  rw [Nat.mod_eq_of_lt b]; omega
theorem pow_ne {m a x : Nat} (hp : Pr m) (ha : a % m ≠ 0) : powM m a x ≠ 0 := by
  intro h
  have : m ∣ a ^ x := Nat.dvd_of_mod_eq_zero h
  exact ha (Nat.mod_eq_zero_of_dvd (hp.pow this))
theorem powM_eq (m a n : Nat) (h : n < 18446744073709551616) : powM m a n = pwm m 64 a n := (pwm_eq m 64 a n h).symm
theorem gR : powM bQ 4 bR = 1 := by rw [powM_eq _ _ _ (by decide)]; decide +kernel
theorem powM_gcd {m b : Nat} (hm : 1 < m) (x y : Nat) (hx : powM m b x = 1) (hy : powM m b y = 1) : powM m b (Nat.gcd x y) = 1 := pow_gcd hm x y hx hy
theorem powM_fermat {p a : Nat} (hp : Pr p) (h : a % p ≠ 0) : powM p a (p - 1) = 1 := fermat hp h
theorem inB_pow {x : Nat} (h : inB x = true) (n : Nat) : inB (powM bQ x n) = true := by
  obtain ⟨a, b, c⟩ := (inB_iff x).1 h
  refine (inB_iff _).2 ⟨Nat.pos_of_ne_zero (pow_ne pr_Q (inB_ne h)), powM_lt (by decide) _ _, ?_⟩
  rw [powM_pow, Nat.mul_comm, ← powM_pow, c]
  unfold powM; rw [Nat.one_pow]; decide
theorem inB_four : inB 4 = true := (inB_iff 4).2 ⟨by decide, by decide, gR⟩
theorem inB_base (n : Nat) : inB (powM bQ 4 n) = true := inB_pow inB_four n
theorem inB_mul {x y : Nat} (hx : inB x = true) (hy : inB y = true) : inB (mulM bQ x y) = true := by
  obtain ⟨a, b, c⟩ := (inB_iff x).1 hx
  obtain ⟨a', b', c'⟩ := (inB_iff y).1 hy
  refine (inB_iff _).2 ⟨?_, mulM_lt (by decide) _ _, by rw [powM_mul, c, c']; decide⟩
  refine Nat.pos_of_ne_zero fun h => ?_
  rcases pr_Q.mul (Nat.dvd_of_mod_eq_zero h) with h | h
  · exact inB_ne hx (Nat.mod_eq_zero_of_dvd h)
  · exact inB_ne hy (Nat.mod_eq_zero_of_dvd h)
theorem inB_inv {x : Nat} (hx : inB x = true) : inB (invM bQ x) = true := by
  have h := inB_ne hx
  have e : invM bQ x = powM bQ x (bQ - 2) := by unfold invM; rw [if_neg h]; rfl
  rw [e]; exact inB_pow hx _

/-- The order of 4 is R. -/
theorem four_order {d : Nat} (h : powM bQ 4 d = 1) : bR ∣ d := by
  have hg := powM_gcd (by decide) bR d gR h
  rcases pr_R.2 _ (Nat.gcd_dvd_left bR d) with e | e
  · rw [e] at hg; exact absurd hg (by decide)
  · rw [← e]; exact Nat.gcd_dvd_right bR d
theorem base_period (x : Nat) : powM bQ 4 (x % bR) = powM bQ 4 x := powM_period (by decide) gR x
theorem base_inj_le {x y : Nat} (hxy : x ≤ y) (h : powM bQ 4 x = powM bQ 4 y) : x % bR = y % bR := by
  obtain ⟨d, rfl⟩ : ∃ d, y = x + d := ⟨y - x, by omega⟩
  have e : mulM bQ (powM bQ 4 x) 1 = mulM bQ (powM bQ 4 x) (powM bQ 4 d) := by
    rw [powM_add, ← h, mulM_one, Nat.mod_eq_of_lt (powM_lt (by decide) _ _)]
  have e2 := inv_unique pr_Q (inB_ne (inB_base x)) e
  rw [Nat.mod_eq_of_lt (powM_lt (m := bQ) (by decide) 4 d)] at e2
  obtain ⟨k, hk⟩ := four_order e2.symm
  rw [hk, Nat.add_mul_mod_self_left]
theorem base_inj {x y : Nat} (h : powM bQ 4 x = powM bQ 4 y) : x % bR = y % bR := by
  rcases Nat.le_total x y with h1 | h1
  · exact base_inj_le h1 h
  · exact (base_inj_le h1 h.symm).symm
theorem subM_zero_iff (m x y : Nat) (hm : 0 < m) : subM m x y = 0 ↔ x % m = y % m := by
  have hy := Nat.mod_lt y hm
  have hx := Nat.mod_lt x hm
  have key : subM m x y = (x % m + (m - y % m)) % m := by unfold subM; rw [Nat.mod_add_mod]
  rw [key]
  constructor
  · intro h
    rcases Nat.lt_or_ge (x % m + (m - y % m)) m with hlt | hge
    · rw [Nat.mod_eq_of_lt hlt] at h; omega
    · have : x % m + (m - y % m) = (x % m - y % m) + m := by omega
      rw [this, Nat.add_mod_right, Nat.mod_eq_of_lt (by omega)] at h
      omega
  · intro h
    rw [h, show y % m + (m - y % m) = m by omega, Nat.mod_self]
theorem base_eq_iff (x y : Nat) : powM bQ 4 x = powM bQ 4 y ↔ subM bR x y = 0 := by
  rw [subM_zero_iff _ _ _ (by decide)]
  exact ⟨base_inj, fun h => by rw [← base_period x, ← base_period y, h]⟩
theorem base_add (x y : Nat) : powM bQ 4 (addM bR x y) = mulM bQ (powM bQ 4 x) (powM bQ 4 y) := by
  unfold addM; rw [base_period, powM_add]
theorem base_mul (x y : Nat) : powM bQ 4 (mulM bR x y) = powM bQ (powM bQ 4 x) y := by
  unfold mulM; rw [base_period, powM_pow]
theorem base_add0 (x : Nat) : powM bQ 4 (addM bR x 0) = powM bQ 4 x := by
  unfold addM; rw [Nat.add_zero, base_period]

/-! ### squares -/
theorem inB_sq (a : Nat) : inB (mulM bQ a a) = (a % bQ != 0) := by
  rw [Bool.eq_iff_iff, inB_iff]
  simp only [bne_iff_ne, ne_eq]
  constructor
  · rintro ⟨h, _, _⟩ h0
    rw [← mulM_mod_left, h0] at h
    simp [mulM] at h
  · intro h
    refine ⟨Nat.pos_of_ne_zero fun h0 => ?_, mulM_lt (by decide) _ _, ?_⟩
    · rcases pr_Q.mul (Nat.dvd_of_mod_eq_zero h0) with h1 | h1 <;> exact h (Nat.mod_eq_zero_of_dvd h1)
    · rw [powM_mul, powM_add, show bR + bR = bQ - 1 from by decide]
      exact powM_fermat pr_Q h
theorem neg_pow_even (x : Nat) (hx : x ≤ bQ) (k : Nat) : powM bQ (bQ - x) (2 * k) = powM bQ x (2 * k) := by
  have h : mulM bQ (bQ - x) (bQ - x) = mulM bQ x x := by
    unfold mulM
    have e : ((bQ - x) * (bQ - x) : Nat) + (2 * x) * bQ = x * x + bQ * bQ := by
      obtain ⟨y, hy⟩ : ∃ y, bQ = x + y := ⟨bQ - x, by omega⟩
      rw [hy, Nat.add_sub_cancel_left]; grind
    have e1 : ((bQ - x) * (bQ - x) + (2 * x) * bQ) % bQ = (x * x + bQ * bQ) % bQ := by rw [e]
    rwa [Nat.add_mul_mod_self_right, Nat.add_mul_mod_self_right] at e1
  have h2 : ∀ y, powM bQ y (2 * k) = powM bQ (mulM bQ y y) k := fun y => by
    rw [powM_mul, powM_add]; congr 1; omega
  rw [h2, h2, h]
theorem half_root {x : Nat} (h0 : 0 < x) (h1 : x < bQ) : powM bQ x bR = 1 ∨ powM bQ x bR = bQ - 1 := by
  have hx : x % bQ ≠ 0 := by rw [Nat.mod_eq_of_lt h1]; omega
  have hf : mulM bQ (powM bQ x bR) (powM bQ x bR) = 1 := by rw [powM_add, show bR + bR = bQ - 1 from by decide]; exact powM_fermat pr_Q hx
  have hlt : powM bQ x bR < bQ := powM_lt (by decide) _ _
  generalize powM bQ x bR = r at *
  have hr0 : 0 < r := Nat.pos_of_ne_zero (fun h => by subst h; simp [mulM] at hf)
  have hd : bQ ∣ (r - 1) * (r + 1) := by
    have e : (r - 1) * (r + 1) = r * r - 1 := by
      obtain ⟨s, rfl⟩ : ∃ s, r = s + 1 := ⟨r - 1, by omega⟩
      rw [Nat.add_sub_cancel]
      have : (s + 1) * (s + 1) = s * (s + 1 + 1) + 1 := by grind
      omega
    rw [e]
    refine Nat.dvd_of_mod_eq_zero (Nat.sub_mod_eq_zero_of_mod_eq ?_)
    exact hf
  rcases pr_Q.mul hd with h | h
  · left
    rcases Nat.eq_zero_or_pos (r - 1) with h' | h'
    · omega
    · have := Nat.le_of_dvd h' h; omega
  · right
    have := Nat.le_of_dvd (by omega) h; omega
theorem inB_neg {x : Nat} (h0 : 0 < x) (h1 : x < bQ) : inB x ≠ inB (bQ - x) := by
  have ha := half_root h0 h1
  have hb := half_root (x := bQ - x) (by omega) (by omega)
  -- the two powers together are nought
  have hs : (powM bQ x bR + powM bQ (bQ - x) bR) % bQ = 0 := by
    obtain ⟨k, hk⟩ : ∃ k, bR = 2 * k + 1 := ⟨576460752303422894, by decide⟩
    rw [hk, ← powM_succ bQ x (2 * k), ← powM_succ bQ (bQ - x) (2 * k), neg_pow_even x (by omega)]
    generalize powM bQ x (2 * k) = t
    unfold mulM
    rw [← Nat.add_mod, ← Nat.mul_add, show x + (bQ - x) = bQ by omega, Nat.mul_mod_left]
  have hx : inB x = (powM bQ x bR == 1) := by
    rw [Bool.eq_iff_iff, inB_iff]; simp [h0, h1]
  have hy : inB (bQ - x) = (powM bQ (bQ - x) bR == 1) := by
    rw [Bool.eq_iff_iff, inB_iff]; simp; omega
  rw [hx, hy]
  generalize powM bQ x bR = r at *
  generalize powM bQ (bQ - x) bR = v at *
  clear hx hy
  unfold bQ at *
  rcases ha with rfl | rfl <;> rcases hb with rfl | rfl <;> simp at hs ⊢

/-! ### counting modulo m -/
theorem subM_addM (m a b : Nat) (hm : 0 < m) : subM m (addM m a b) b = a % m := by
  unfold subM addM
  have hb := Nat.mod_lt b hm
  rw [Nat.mod_add_mod, Nat.add_assoc]
  have e : b + (m - b % m) = (b / m + 1) * m := by
    have := Nat.div_add_mod b m
    rw [Nat.add_mul, Nat.mul_comm, Nat.one_mul]; omega
  rw [e, Nat.add_mul_mod_self_right]
theorem mulM_addM (m a b c : Nat) : mulM m (addM m a b) c = addM m (mulM m a c) (mulM m b c) := by
  unfold mulM addM
  rw [Nat.mul_mod, Nat.mod_mod, ← Nat.mul_mod, ← Nat.add_mod, Nat.add_mul]
theorem mul_inv_back {m a b : Nat} (hp : Pr m) (hb : b % m ≠ 0) : mulM m (mulM m a b) (invM m b) = a % m := by
  rw [mulM_assoc, invM_mul hp hb, mulM_one]
end Go.Proofs.YtiecfamjnnmpaaaGreat

/- Plain: what is like a polynomial modulo a prime; as many places of 0 as coefficients; Lagrange. No program in sight. -/
namespace Go.Proofs.YtiecfamjnnmpaaaGreat
set_option linter.unusedVariables false

/-- Alike modulo m. -/
def Cg (m a b : Int) : Prop := m ∣ a - b
theorem Cg.refl (m a : Int) : Cg m a a := by unfold Cg; rw [Int.sub_self]; exact Int.dvd_zero m
theorem Cg.symm {m a b : Int} (h : Cg m a b) : Cg m b a := by obtain ⟨k, hk⟩ := h; exact ⟨-k, by grind⟩
theorem Cg.trans {m a b c : Int} (h : Cg m a b) (h' : Cg m b c) : Cg m a c := by obtain ⟨k, hk⟩ := h; obtain ⟨l, hl⟩ := h'; exact ⟨k + l, by grind⟩
theorem Cg.add {m a b c d : Int} (h : Cg m a b) (h' : Cg m c d) : Cg m (a + c) (b + d) := by obtain ⟨k, hk⟩ := h; obtain ⟨l, hl⟩ := h'; exact ⟨k + l, by grind⟩
theorem Cg.sub {m a b c d : Int} (h : Cg m a b) (h' : Cg m c d) : Cg m (a - c) (b - d) := by obtain ⟨k, hk⟩ := h; obtain ⟨l, hl⟩ := h'; exact ⟨k - l, by grind⟩
theorem Cg.mul {m a b c d : Int} (h : Cg m a b) (h' : Cg m c d) : Cg m (a * c) (b * d) := by obtain ⟨k, hk⟩ := h; obtain ⟨l, hl⟩ := h'; exact ⟨k * c + b * l, by grind⟩
theorem Cg.of_eq {m a b : Int} (h : a = b) : Cg m a b := by rw [h]; exact Cg.refl m b

/-- A function like a polynomial of fewer than n coefficients. -/
def Pd (m : Int) : Nat → (Int → Int) → Prop
  | 0, f => ∀ x, Cg m (f x) 0
  | n + 1, f => ∀ a, ∃ q, Pd m n q ∧ ∀ x, Cg m (f x) (f a + (x - a) * q x)
theorem Pd.zero (m : Int) : ∀ n, Pd m n (fun _ => 0)
  | 0 => fun _ => Cg.refl m 0
  | n + 1 => fun a => ⟨fun _ => 0, Pd.zero m n, fun x => Cg.of_eq (by grind)⟩
theorem Pd.more {m : Int} : ∀ {n : Nat} {f : Int → Int}, Pd m n f → Pd m (n + 1) f
  | 0, f, h => fun a => ⟨fun _ => 0, Pd.zero m 0, fun x => ((h x).trans (h a).symm).trans (Cg.of_eq (by grind))⟩
  | n + 1, f, h => fun a => by obtain ⟨q, hq, he⟩ := h a; exact ⟨q, hq.more, he⟩
theorem Pd.le {m : Int} {n k : Nat} {f : Int → Int} (h : Pd m n f) (hk : n ≤ k) : Pd m k f := by
  obtain ⟨d, rfl⟩ : ∃ d, k = n + d := ⟨k - n, by omega⟩
  induction d with
  | zero => exact h
  | succ d ih => exact (ih (by omega)).more
theorem Pd.const (m c : Int) : Pd m 1 (fun _ => c) := fun a => ⟨fun _ => 0, Pd.zero m 0, fun x => Cg.of_eq (by grind)⟩
theorem Pd.add {m : Int} : ∀ {n : Nat} {f g : Int → Int}, Pd m n f → Pd m n g → Pd m n (fun x => f x + g x)
  | 0, f, g, hf, hg => fun x => ((hf x).add (hg x)).trans (Cg.of_eq (by grind))
  | n + 1, f, g, hf, hg => fun a => by
    obtain ⟨q, hq, he⟩ := hf a
    obtain ⟨r, hr, he'⟩ := hg a
    exact ⟨fun x => q x + r x, hq.add hr, fun x => ((he x).add (he' x)).trans (Cg.of_eq (by grind))⟩
theorem Pd.scale {m : Int} (c : Int) : ∀ {n : Nat} {f : Int → Int}, Pd m n f → Pd m n (fun x => c * f x)
  | 0, f, hf => fun x => ((Cg.refl m c).mul (hf x)).trans (Cg.of_eq (by grind))
  | n + 1, f, hf => fun a => by
    obtain ⟨q, hq, he⟩ := hf a
    exact ⟨fun x => c * q x, hq.scale c, fun x => ((Cg.refl m c).mul (he x)).trans (Cg.of_eq (by grind))⟩
/-- Times a linear factor. -/
theorem Pd.lin {m : Int} (c : Int) : ∀ {n : Nat} {f : Int → Int}, Pd m n f → Pd m (n + 1) (fun x => (x - c) * f x)
  | 0, f, hf => (show Pd m 0 _ from fun x => ((Cg.refl m (x - c)).mul (hf x)).trans (Cg.of_eq (by grind))).more
  | n + 1, f, hf => fun a => by
    obtain ⟨q, hq, he⟩ := hf a
    refine ⟨fun x => f x + (a - c) * q x, hf.add (hq.scale (a - c)).more, fun x => ?_⟩
    have h1 := he x
    have h2 := (Cg.refl m (a - c)).mul h1
    have h3 := h2.add (Cg.refl m ((x - a) * f x))
    exact (Cg.of_eq (by grind)).trans (h3.trans (Cg.of_eq (by grind)))
theorem Pd.congr {m : Int} {n : Nat} {f g : Int → Int} (h : Pd m n f) (e : ∀ x, g x = f x) : Pd m n g := by
  have : g = f := funext e
  rw [this]; exact h

/-- A prime, over Int. -/
def Pz (m : Int) : Prop := ∀ a b, m ∣ a * b → m ∣ a ∨ m ∣ b
/-- As many places where it is 0 as coefficients: it is 0 everywhere. -/
theorem Pd.all_zero {m : Int} (hp : Pz m) : ∀ (l : List Int) {f : Int → Int}, Pd m l.length f → l.Pairwise (fun a b => ¬ Cg m a b) → (∀ x ∈ l, Cg m (f x) 0) → ∀ x, Cg m (f x) 0
  | [], f, h, _, _ => h
  | a :: l, f, h, hd, hz => fun x => by
    obtain ⟨q, hq, he⟩ := h a
    rw [List.pairwise_cons] at hd
    have ha := hz a List.mem_cons_self
    have hall := hq.all_zero hp l hd.2 (fun y hy => by
      have h1 := hz y (List.mem_cons_of_mem _ hy)
      have h2 : Cg m ((y - a) * q y) 0 := by
        have := ((he y).symm.trans h1).sub ha
        exact (Cg.of_eq (by grind)).trans (this.trans (Cg.of_eq (by grind)))
      have h3 : m ∣ (y - a) * q y := by have := h2; unfold Cg at this; rwa [Int.sub_zero] at this
      rcases hp _ _ h3 with h4 | h4
      · exact absurd (Cg.symm h4) (hd.1 y hy)
      · unfold Cg; rwa [Int.sub_zero])
    exact (he x).trans ((ha.add ((Cg.refl m (x - a)).mul (hall x))).trans (Cg.of_eq (by grind)))

/-- The product of the differences to all but one. -/
def num (l : List Int) (j x : Int) : Int := (l.filter (fun k => k != j)).foldr (fun k p => (x - k) * p) 1
theorem Pd.prod (m : Int) : ∀ l : List Int, Pd m (l.length + 1) (fun x => l.foldr (fun k p => (x - k) * p) 1)
  | [] => Pd.const m 1
  | k :: l => (Pd.prod m l).lin k
theorem filter_len {l : List Int} {j : Int} (hd : l.Nodup) (hj : j ∈ l) : (l.filter (fun k => k != j)).length + 1 = l.length := by
  induction l with
  | nil => cases hj
  | cons a l ih =>
    rw [List.nodup_cons] at hd
    by_cases h : a = j
    · subst h
      have e : l.filter (fun k => k != a) = l := List.filter_eq_self.2 fun k hk => by
        have : k ≠ a := fun e => hd.1 (e ▸ hk)
        simpa using this
      simp [e]
    · have h1 : (a != j) = true := by simpa using h
      rw [List.filter_cons, if_pos h1, List.length_cons, List.length_cons, ih hd.2 ((List.mem_cons.1 hj).resolve_left fun e => h e.symm)]
theorem num_pd (m : Int) {l : List Int} {j : Int} (hd : l.Nodup) (hj : j ∈ l) : Pd m l.length (num l j) := by
  have := Pd.prod m (l.filter (fun k => k != j))
  rw [filter_len hd hj] at this
  exact this
theorem prod_zero {l : List Int} {i : Int} (hi : i ∈ l) : l.foldr (fun k p => (i - k) * p) 1 = 0 := by
  induction l with
  | nil => cases hi
  | cons a l ih =>
    rw [List.foldr_cons]
    rcases List.mem_cons.1 hi with rfl | h
    · rw [Int.sub_self, Int.zero_mul]
    · rw [ih h, Int.mul_zero]
theorem num_zero {l : List Int} {i j : Int} (hi : i ∈ l) (h : i ≠ j) : num l j i = 0 := prod_zero (List.mem_filter.2 ⟨hi, by simpa using h⟩)
theorem sum_pd (m : Int) (n : Nat) (g : Int → Int → Int) : ∀ l : List Int, (∀ j ∈ l, Pd m n (g j)) → Pd m n (fun x => (l.map fun j => g j x).sum)
  | [], _ => (Pd.zero m n).congr fun x => rfl
  | j :: l, h => ((h j List.mem_cons_self).add (sum_pd m n g l fun k hk => h k (List.mem_cons_of_mem _ hk))).congr fun x => by simp
theorem sum_at {m : Int} (g : Int → Int) (i c : Int) (h0 : ∀ j, j ≠ i → g j = 0) (h1 : Cg m (g i) c) : ∀ l : List Int, l.Nodup → Cg m (l.map g).sum (if i ∈ l then c else 0)
  | [], _ => Cg.refl m 0
  | j :: l, hd => by
    rw [List.nodup_cons] at hd
    have ih := sum_at g i c h0 h1 l hd.2
    rw [List.map_cons, List.sum_cons]
    by_cases h : j = i
    · subst h
      rw [if_neg hd.1] at ih
      rw [if_pos List.mem_cons_self]
      exact (h1.add ih).trans (Cg.of_eq (by grind))
    · have e : (i ∈ j :: l) = (i ∈ l) := by simp [Ne.symm h]
      rw [h0 j h, Int.zero_add]
      simp only [e]
      exact ih
/-- What a polynomial is at a number, by what it is at as many numbers as it has coefficients. -/
theorem lagrange {m : Int} (hp : Pz m) (l : List Int) (hd : l.Pairwise (fun a b => ¬ Cg m a b)) (f : Int → Int) (hf : Pd m l.length f) (v : Int → Int) (hv : ∀ j ∈ l, Cg m (num l j j * v j) 1) (x : Int) :
    Cg m ((l.map fun j => f j * (num l j x * v j)).sum) (f x) := by
  have hn : l.Nodup := hd.imp fun {a b} h e => h (by rw [e]; exact Cg.refl m b)
  have h1 : Pd m l.length (fun x => (l.map fun j => f j * (num l j x * v j)).sum) := sum_pd m _ (fun j x => f j * (num l j x * v j)) l fun j hj =>
    (((num_pd m hn hj).scale (f j * v j))).congr fun x => by grind
  have h2 : Pd m l.length (fun x => (l.map fun j => f j * (num l j x * v j)).sum + -1 * f x) := h1.add (hf.scale (-1))
  have h3 := h2.all_zero hp l hd (fun i hi => by
    have := sum_at (m := m) (fun j => f j * (num l j i * v j)) i (f i) (fun j hj => by rw [num_zero hi (Ne.symm hj), Int.zero_mul, Int.mul_zero])
      (((Cg.refl m (f i)).mul (hv i hi)).trans (Cg.of_eq (by grind))) l hn
    rw [if_pos hi] at this
    exact (this.add (Cg.refl m (-1 * f i))).trans (Cg.of_eq (by grind))) x
  exact ((h3.add (Cg.refl m (f x)))).symm.trans (Cg.of_eq (by grind)) |>.symm |>.trans (Cg.of_eq (by grind))
end Go.Proofs.YtiecfamjnnmpaaaGreat

/- Plain: shares of a secret: what the functions come to, and what follows. No program in sight. -/
namespace Go.Proofs.YtiecfamjnnmpaaaGreat
set_option linter.unusedVariables false

/-! ### counting modulo m, over Int -/
theorem cg_mod (m a : Nat) : Cg m ((a % m : Nat) : Int) a := by
  have h := Nat.div_add_mod a m
  refine ⟨-(a / m : Nat), ?_⟩
  have : (a : Int) = (m : Int) * (a / m : Nat) + (a % m : Nat) := by exact_mod_cast h.symm
  grind
theorem cg_mul (m a b : Nat) : Cg m (mulM m a b : Nat) ((a : Int) * b) := by
  have := cg_mod m (a * b)
  rw [Int.natCast_mul] at this
  exact this
theorem cg_add (m a b : Nat) : Cg m (addM m a b : Nat) ((a : Int) + b) := by
  have := cg_mod m (a + b)
  rw [Int.natCast_add] at this
  exact this
theorem cg_sub (m a b : Nat) (hm : 0 < m) : Cg m (subM m a b : Nat) ((a : Int) - b) := by
  have h1 := cg_mod m (a + (m - b % m))
  have hb := Nat.mod_lt b hm
  have h2 := cg_mod m b
  have e : ((a + (m - b % m) : Nat) : Int) = (a : Int) + (m - (b % m : Nat)) := by omega
  rw [e] at h1
  have h3 : Cg m ((m : Int)) 0 := ⟨1, by omega⟩
  exact h1.trans (((Cg.refl m (a : Int)).add (h3.sub h2)).trans (Cg.of_eq (by omega)))
theorem eq_of_cg {m a b : Nat} (ha : a < m) (hb : b < m) (h : Cg m (a : Int) b) : a = b := by
  obtain ⟨k, hk⟩ := h
  have h1 : (a : Int) % m = (b : Int) % m := by
    have : (a : Int) = b + m * k := by omega
    rw [this, Int.add_mul_emod_self_left]
  rw [Int.emod_eq_of_lt (by omega) (by omega), Int.emod_eq_of_lt (by omega) (by omega)] at h1
  omega
theorem mod_of_cg {m a b : Nat} (hm : 0 < m) (h : Cg m (a : Int) b) : a % m = b % m :=
  eq_of_cg (Nat.mod_lt _ hm) (Nat.mod_lt _ hm) (((cg_mod m a).trans h).trans (cg_mod m b).symm)
theorem cg_of_mod {m a b : Nat} (h : a % m = b % m) : Cg m (a : Int) b := (cg_mod m a).symm.trans ((Cg.of_eq (by rw [h])).trans (cg_mod m b))
theorem pz_R : Pz ((bR : Nat) : Int) := fun a b h => by
  have h1 : bR ∣ a.natAbs * b.natAbs := by rw [← Int.natAbs_mul]; exact Int.ofNat_dvd_left.1 h
  rcases pr_R.mul h1 with h2 | h2
  · exact .inl (Int.ofNat_dvd_left.2 h2)
  · exact .inr (Int.ofNat_dvd_left.2 h2)

/-! ### ids -/
def okP (l : List Int) : Prop := (∀ i ∈ l, 1 ≤ i ∧ i < 1152921504606845789) ∧ l.Nodup
instance (l : List Int) : Decidable (okP l) := by unfold okP; infer_instance
def rightB (l : List Int) : Bool := decide (okP l) && (decide (0 < l.length) && decide (l.length ≤ 7))
theorem okP_nil : okP [] := ⟨by simp, List.nodup_nil⟩
theorem okP_snoc (l : List Int) (x : Int) : okP (l ++ [x]) ↔ okP l ∧ 1 ≤ x ∧ x < 1152921504606845789 ∧ x ∉ l := by
  unfold okP
  rw [List.nodup_append]
  constructor
  · rintro ⟨h1, h2, _, h3⟩
    have hx := h1 x (by simp)
    exact ⟨⟨fun i hi => h1 i (by simp [hi]), h2⟩, hx.1, hx.2, fun hm => h3 x hm x (by simp) rfl⟩
  · rintro ⟨⟨h1, h2⟩, h3, h4, h5⟩
    refine ⟨fun i hi => ?_, h2, by simp, fun a ha b hb e => ?_⟩
    · rcases List.mem_append.1 hi with h | h
      · exact h1 i h
      · rw [List.mem_singleton] at h; subst h; exact ⟨h3, h4⟩
    · rw [List.mem_singleton] at hb; subst hb; subst e; exact h5 ha
theorem okP_append {l m : List Int} (h : okP (l ++ m)) : okP l := ⟨fun i hi => h.1 i (List.mem_append.2 (.inl hi)), (List.nodup_append.1 h.2).1⟩
theorem okP_take {l : List Int} (h : okP l) (k : Nat) : okP (l.take k) := okP_append (m := l.drop k) (by rw [List.take_append_drop]; exact h)
theorem okP_take_succ {l : List Int} {k : Nat} {x : Int} (hx : l[k]? = some x) : okP (l.take (k + 1)) ↔ okP (l.take k) ∧ 1 ≤ x ∧ x < 1152921504606845789 ∧ x ∉ l.take k := by
  rw [List.take_add_one, hx]; exact okP_snoc _ _
theorem okP_not {l : List Int} {k : Nat} (h : ¬ okP (l.take k)) : ¬ okP l := fun h' => h (okP_take h' k)
theorem rightB_iff (l : List Int) : rightB l = true ↔ okP l ∧ 0 < l.length ∧ l.length ≤ 7 := by simp [rightB]
theorem rightB_not {l : List Int} (h : ¬ okP l) : rightB l = false := by simp [rightB, h]

/-! ### weights -/
def prodN (ids : List Int) (id : Int) (x : Nat) : Nat := ids.foldl (fun o k => if k = id then o else mulM bR o (subM bR x k.toNat)) 1
def wtN (ids : List Int) (id : Int) (x : Nat) : Nat := mulM bR (prodN ids id x) (invM bR (prodN ids id id.toNat))
def atN (ids : List Int) (id : Int) (x : Nat) : Nat := ids.foldl (fun o k => if k = id then o else mulM bR o (mulM bR (subM bR x k.toNat) (invM bR (subM bR id.toNat k.toNat)))) 1
theorem zero_pow_mod {m a : Nat} (h : a % m = 0) : ∀ n, 0 < n → a ^ n % m = 0
  | n + 1, _ => by
    rw [Nat.pow_succ]
    exact Nat.mod_eq_zero_of_dvd (Nat.dvd_trans (Nat.dvd_of_mod_eq_zero h) (Nat.dvd_mul_left _ _))
theorem invM_pow' (m a n : Nat) (hn : 0 < n) (e : m - 2 = n) : invM m a = powM m a n := by
  unfold invM powM
  rw [e]
  split
  · rename_i h
    exact (zero_pow_mod h n hn).symm
  · rfl
theorem invM_pow (a : Nat) : invM bR a = powM bR a (bR - 2) := invM_pow' bR a (bR - 2) (by decide) rfl
theorem invM_mulM (a b : Nat) : invM bR (mulM bR a b) = mulM bR (invM bR a) (invM bR b) := by
  rw [invM_pow, invM_pow, invM_pow, powM_mul]
theorem mulM_four (a b c d : Nat) : mulM bR (mulM bR a b) (mulM bR c d) = mulM bR (mulM bR a c) (mulM bR b d) := by
  rw [mulM_assoc, mulM_assoc, ← mulM_assoc bR b, mulM_comm bR b c, mulM_assoc bR c]
theorem foldl_prod (ids : List Int) (id : Int) (x : Nat) : ∀ a b : Nat, ids.foldl (fun o k => if k = id then o else mulM bR o (mulM bR (subM bR x k.toNat) (invM bR (subM bR id.toNat k.toNat)))) (mulM bR a (invM bR b)) =
    mulM bR (ids.foldl (fun o k => if k = id then o else mulM bR o (subM bR x k.toNat)) a) (invM bR (ids.foldl (fun o k => if k = id then o else mulM bR o (subM bR id.toNat k.toNat)) b)) := by
  induction ids with
  | nil => intro a b; rfl
  | cons k ids ih =>
    intro a b
    simp only [List.foldl_cons]
    by_cases h : k = id
    · simp only [if_pos h]; exact ih a b
    · simp only [if_neg h]
      rw [mulM_four, ← invM_mulM]
      exact ih _ _
theorem powM_one_ (m n : Nat) : powM m 1 n = 1 % m := by unfold powM; rw [Nat.one_pow]
theorem inv_one : invM bR 1 = 1 := by rw [invM_pow, powM_one_]; decide
theorem wtN_eq (ids : List Int) (id : Int) (x : Nat) : wtN ids id x = atN ids id x := by
  have := foldl_prod ids id x 1 1
  rw [inv_one, show mulM bR 1 1 = 1 by decide] at this
  exact this.symm
theorem atN_lt (ids : List Int) (id : Int) (x : Nat) : atN ids id x < bR := by rw [← wtN_eq]; exact mulM_lt (by decide) _ _
theorem prodN_snoc (l : List Int) (k id : Int) (x : Nat) : prodN (l ++ [k]) id x = if k = id then prodN l id x else mulM bR (prodN l id x) (subM bR x k.toNat) := by simp [prodN, List.foldl_append]
theorem atN_snoc' (l : List Int) (k id : Int) (x : Nat) : atN (l ++ [k]) id x = if k = id then atN l id x else mulM bR (atN l id x) (mulM bR (subM bR x k.toNat) (invM bR (subM bR id.toNat k.toNat))) := by simp [atN, List.foldl_append]
theorem foldl_lt {α : Type} (f : Nat → α → Nat) (m : Nat) (hf : ∀ o x, o < m → f o x < m) : ∀ (l : List α) (o : Nat), o < m → l.foldl f o < m
  | [], _, h => h
  | x :: l, o, h => foldl_lt f m hf l _ (hf o x h)
theorem prodN_lt (l : List Int) (id : Int) (x : Nat) : prodN l id x < bR :=
  foldl_lt _ bR (fun o k ho => by
    split
    · exact ho
    · exact mulM_lt (by decide) _ _) l 1 (by decide)

/-! ### weights over Int -/
theorem range_facts {i : Int} (h : 1 ≤ i ∧ i < 1152921504606845789) : (i.toNat : Int) = i ∧ i.toNat < bR ∧ 0 < i.toNat := by
  have : bR = 1152921504606845789 := rfl
  omega
theorem cg_prod (ids : List Int) (id : Int) (x : Nat) (h : ∀ i ∈ ids, 1 ≤ i ∧ i < 1152921504606845789) : Cg bR (prodN ids id x : Nat) (num ids id x) := by
  have key : ∀ (l : List Int) (o : Nat) (p : Int), (∀ i ∈ l, 1 ≤ i ∧ i < 1152921504606845789) → Cg bR (o : Int) p →
      Cg bR ((l.foldl (fun o k => if k = id then o else mulM bR o (subM bR x k.toNat)) o : Nat) : Int) (p * (l.filter (fun k => k != id)).foldr (fun k p => ((x : Int) - k) * p) 1) := by
    intro l
    induction l with
    | nil => intro o p _ ho; exact ho.trans (Cg.of_eq (by simp))
    | cons k l ih =>
      intro o p hl ho
      rw [List.foldl_cons]
      by_cases hk : k = id
      · rw [if_pos hk, List.filter_cons, if_neg (by simp [hk])]
        exact ih o p (fun i hi => hl i (List.mem_cons_of_mem _ hi)) ho
      · rw [if_neg hk, List.filter_cons, if_pos (by simpa using hk), List.foldr_cons]
        have e := (range_facts (hl k List.mem_cons_self)).1
        have h1 : Cg bR (mulM bR o (subM bR x k.toNat) : Nat) (p * ((x : Int) - k)) := by
          have h2 := cg_sub bR x k.toNat (by decide)
          rw [e] at h2
          exact (cg_mul _ _ _).trans (ho.mul h2)
        exact (ih _ _ (fun i hi => hl i (List.mem_cons_of_mem _ hi)) h1).trans (Cg.of_eq (by grind))
  have := key ids 1 1 h (Cg.refl _ _)
  exact this.trans (Cg.of_eq (by rw [Int.one_mul]; rfl))
theorem ncg_of_ne {a b : Int} (ha : 0 ≤ a ∧ a < 1152921504606845789) (hb : 0 ≤ b ∧ b < 1152921504606845789) (h : a ≠ b) : ¬ Cg bR a b := by
  intro hc
  have e : bR = 1152921504606845789 := rfl
  have := eq_of_cg (m := bR) (a := a.toNat) (b := b.toNat) (by omega) (by omega) (by
    have h1 : (a.toNat : Int) = a := by omega
    have h2 : (b.toNat : Int) = b := by omega
    rw [h1, h2]; exact hc)
  omega
theorem okP_pair {l : List Int} (h : okP l) : l.Pairwise (fun a b => ¬ Cg bR a b) := by
  obtain ⟨h1, h2⟩ := h
  refine List.Pairwise.imp_of_mem (fun {a b} ha hb hne => ?_) h2
  have := h1 a ha
  have := h1 b hb
  exact ncg_of_ne (by omega) (by omega) hne
theorem prod_ne {m : Int} (hp : Pz m) (h1 : ¬ m ∣ 1) (x : Int) : ∀ l : List Int, (∀ k ∈ l, ¬ Cg m x k) → ¬ m ∣ l.foldr (fun k p => (x - k) * p) 1
  | [], _ => h1
  | k :: l, h => fun hd => by
    rw [List.foldr_cons] at hd
    rcases hp _ _ hd with h2 | h2
    · exact h k List.mem_cons_self h2
    · exact prod_ne hp h1 x l (fun j hj => h j (List.mem_cons_of_mem _ hj)) h2
theorem one_R : ¬ ((bR : Nat) : Int) ∣ 1 := by
  intro h
  have := Int.natCast_dvd_natCast.1 (show ((bR : Nat) : Int) ∣ ((1 : Nat) : Int) from h)
  exact absurd (Nat.le_of_dvd (by decide) this) (by decide)
/-- The inverse of the product of differences. -/
def vI (ids : List Int) (j : Int) : Int := (invM bR (prodN ids j j.toNat) : Nat)
theorem cg_inv {a : Nat} (h : a % bR ≠ 0) : Cg bR ((a : Int) * (invM bR a : Nat)) 1 := by
  have := cg_mul bR a (invM bR a)
  rw [invM_mul pr_R h] at this
  exact this.symm
theorem mod_ne_of {a : Nat} {z : Int} (h : Cg bR (a : Int) z) (hz : ¬ ((bR : Nat) : Int) ∣ z) : a % bR ≠ 0 := by
  intro h0
  have h1 : Cg bR (a : Int) 0 := by
    have := cg_of_mod (m := bR) (a := a) (b := 0) (by rw [h0]; rfl)
    exact this
  have h2 := h.symm.trans h1
  unfold Cg at h2
  rw [Int.sub_zero] at h2
  exact hz h2
theorem num_ne {ids : List Int} (h : okP ids) (j : Int) {x : Int} (hx : ∀ k ∈ ids, k ≠ j → ¬ Cg bR x k) : ¬ ((bR : Nat) : Int) ∣ num ids j x := by
  unfold num
  refine prod_ne pz_R one_R x _ fun k hk => ?_
  rw [List.mem_filter] at hk
  exact hx k hk.1 (by simpa using hk.2)
theorem num_self_ne {ids : List Int} (h : okP ids) {j : Int} (hj : j ∈ ids) : ¬ ((bR : Nat) : Int) ∣ num ids j j :=
  num_ne h j fun k hk hne => by
    have := h.1 k hk
    have := h.1 j hj
    exact ncg_of_ne (by omega) (by omega) (Ne.symm hne)
theorem vI_ok {ids : List Int} (h : okP ids) {j : Int} (hj : j ∈ ids) : Cg bR (num ids j j * vI ids j) 1 := by
  have e := (range_facts (h.1 j hj)).1
  have h1 := cg_prod ids j j.toNat h.1
  rw [e] at h1
  exact (h1.symm.mul (Cg.refl _ (vI ids j))).trans (cg_inv (mod_ne_of h1 (num_self_ne h hj)))
theorem cg_at {ids : List Int} (h : okP ids) (j : Int) (x : Nat) : Cg bR (atN ids j x : Nat) (num ids j x * vI ids j) := by
  rw [← wtN_eq]
  exact (cg_mul _ _ _).trans ((cg_prod ids j x h.1).mul (Cg.refl _ _))
theorem at_ne {ids : List Int} (h : okP ids) {j : Int} (hj : j ∈ ids) {x : Nat} (hx : ∀ k ∈ ids, k ≠ j → ¬ Cg bR (x : Int) k) : atN ids j x % bR ≠ 0 := by
  refine mod_ne_of (cg_at h j x) fun hd => ?_
  rcases pz_R _ _ hd with h1 | h1
  · exact num_ne h j hx h1
  · obtain ⟨c, hc⟩ := h1
    obtain ⟨d, hd'⟩ := vI_ok h hj
    refine one_R ⟨num ids j j * c - d, ?_⟩
    rw [hc] at hd'
    grind

/-! ### polynomials -/
def evZ (poly : List Nat) (x : Nat) : Nat := poly.foldr (fun c o => c + x * o) 0
def evI (poly : List Nat) (x : Int) : Int := poly.foldr (fun (c : Nat) (o : Int) => (c : Int) + x * o) 0
theorem evI_cast (poly : List Nat) (x : Nat) : evI poly x = (evZ poly x : Nat) := by
  induction poly with
  | nil => rfl
  | cons c p ih =>
    show (c : Int) + x * evI p x = ((c + x * evZ p x : Nat) : Int)
    rw [ih]; push_cast; rfl
theorem evI_pd (m : Int) : ∀ poly : List Nat, Pd m poly.length (evI poly)
  | [] => (Pd.zero m 0).congr fun x => rfl
  | c :: p => by
    have h1 := ((evI_pd m p).lin 0).add ((Pd.const m (c : Int)).le (Nat.le_add_left 1 p.length))
    exact h1.congr fun x => by show (c : Int) + x * evI p x = (x - 0) * evI p x + c; grind
theorem evZ_zero (c : Nat) (p : List Nat) : evZ (c :: p) 0 = c := by simp [evZ]
theorem evZ_snoc (l : List Nat) (c x : Nat) : evZ (l ++ [c]) x = evZ l x + c * x ^ l.length := by
  induction l with
  | nil => simp [evZ]
  | cons d l ih =>
    show d + x * evZ (l ++ [c]) x = d + x * evZ l x + c * x ^ (l.length + 1)
    rw [ih, Nat.pow_succ]; grind
/-- The program's way: power by power. -/
theorem value_step (p : List Nat) (c x : Nat) : addM bR (evZ p x % bR) (mulM bR c (x ^ p.length % bR)) = evZ (p ++ [c]) x % bR := by
  rw [evZ_snoc]; unfold addM mulM
  rw [← Nat.add_mod]
  conv => lhs; rw [Nat.add_mod, Nat.mul_mod, Nat.mod_mod, ← Nat.mul_mod, ← Nat.add_mod]
theorem shpow_step (x n : Nat) : mulM bR (x ^ n % bR) x = x ^ (n + 1) % bR := by
  unfold mulM; rw [Nat.pow_succ, Nat.mul_mod, Nat.mod_mod, ← Nat.mul_mod]
/-- The document's way: from the last. -/
theorem horner_step (p : List Nat) (c x : Nat) : addM bR (mulM bR (evZ p x % bR) x) c = evZ (c :: p) x % bR := by
  show _ = (c + x * evZ p x) % bR
  unfold addM mulM
  rw [Nat.add_mod, Nat.mod_mod, Nat.mul_mod, Nat.mod_mod, ← Nat.mul_mod, ← Nat.add_mod, Nat.mul_comm, Nat.add_comm]

/-! ### shares -/
def joinN (l : List (Int × Nat)) : Nat := l.foldl (fun o s => addM bR o (mulM bR s.2 (atN (l.map (·.1)) s.1 0))) 0
def sumN (ids : List Int) (x : Nat) (l : List (Int × Nat)) : Nat := l.foldl (fun o s => addM bR o (mulM bR s.2 (atN ids s.1 x))) 0
theorem joinN_eq (l : List (Int × Nat)) : joinN l = sumN (l.map (·.1)) 0 l := rfl
theorem sumN_snoc (ids : List Int) (x : Nat) (l : List (Int × Nat)) (s : Int × Nat) : sumN ids x (l ++ [s]) = addM bR (sumN ids x l) (mulM bR s.2 (atN ids s.1 x)) := by simp [sumN, List.foldl_append]
theorem sumN_lt (ids : List Int) (x : Nat) (l : List (Int × Nat)) : sumN ids x l < bR :=
  foldl_lt _ bR (fun o k ho => addM_lt' (by decide) _ _) l 0 (by decide)
theorem joinN_lt (l : List (Int × Nat)) : joinN l < bR := sumN_lt _ _ _
theorem cg_sum {ids : List Int} (h : okP ids) (x : Nat) (l : List (Int × Nat)) : Cg bR (sumN ids x l : Nat) ((l.map fun s => (s.2 : Int) * (num ids s.1 x * vI ids s.1)).sum) := by
  have key : ∀ (l : List (Int × Nat)) (o : Nat) (p : Int), Cg bR (o : Int) p → Cg bR ((l.foldl (fun o s => addM bR o (mulM bR s.2 (atN ids s.1 x))) o : Nat) : Int) (p + (l.map fun s => (s.2 : Int) * (num ids s.1 x * vI ids s.1)).sum) := by
    intro l
    induction l with
    | nil => intro o p ho; exact ho.trans (Cg.of_eq (by simp))
    | cons s l ih =>
      intro o p ho
      rw [List.foldl_cons, List.map_cons, List.sum_cons]
      have h1 : Cg bR (addM bR o (mulM bR s.2 (atN ids s.1 x)) : Nat) (p + (s.2 : Int) * (num ids s.1 x * vI ids s.1)) :=
        (cg_add _ _ _).trans (ho.add ((cg_mul _ _ _).trans ((Cg.refl _ _).mul (cg_at h s.1 x))))
      exact (ih _ _ h1).trans (Cg.of_eq (by grind))
  exact (key l 0 0 (Cg.refl _ _)).trans (Cg.of_eq (by grind))
theorem cg_list_sum {α : Type} {m : Int} (f g : α → Int) : ∀ l : List α, (∀ x ∈ l, Cg m (f x) (g x)) → Cg m (l.map f).sum (l.map g).sum
  | [], _ => Cg.refl _ _
  | x :: l, h => by
    rw [List.map_cons, List.map_cons, List.sum_cons, List.sum_cons]
    exact (h x List.mem_cons_self).add (cg_list_sum f g l fun y hy => h y (List.mem_cons_of_mem _ hy))
/-- Shares that are of a polynomial make what it is at any number. -/
theorem sum_poly (l : List (Int × Nat)) (h : okP (l.map (·.1))) (f : Int → Int) (hf : Pd bR l.length f) (hl : ∀ s ∈ l, Cg bR (s.2 : Int) (f s.1)) (x : Nat) : Cg bR (sumN (l.map (·.1)) x l : Nat) (f x) := by
  have h1 := cg_sum h x l
  have h2 := cg_list_sum (m := bR) (fun s : Int × Nat => (s.2 : Int) * (num (l.map (·.1)) s.1 x * vI (l.map (·.1)) s.1)) (fun s => f s.1 * (num (l.map (·.1)) s.1 x * vI (l.map (·.1)) s.1)) l fun s hs => (hl s hs).mul (Cg.refl _ _)
  have h3 := lagrange (m := bR) pz_R (l.map (·.1)) (okP_pair h) f (by rw [List.length_map]; exact hf) (vI (l.map (·.1))) (fun j hj => vI_ok h hj) x
  rw [List.map_map] at h3
  exact h1.trans (h2.trans h3)

/-! ### what is public -/
def wantN (ids : List Int) (x : Nat) (l : List (Int × Nat)) : Nat := l.foldl (fun o s => mulM bQ o (powM bQ s.2 (atN ids s.1 x))) 1
theorem wantN_snoc (ids : List Int) (x : Nat) (l : List (Int × Nat)) (s : Int × Nat) : wantN ids x (l ++ [s]) = mulM bQ (wantN ids x l) (powM bQ s.2 (atN ids s.1 x)) := by simp [wantN, List.foldl_append]
theorem wantN_lt (ids : List Int) (x : Nat) (l : List (Int × Nat)) : wantN ids x l < bQ :=
  foldl_lt _ bQ (fun o k ho => mulM_lt (by decide) _ _) l 1 (by decide)
def pubL (l : List (Int × Nat)) : List (Int × Nat) := l.map fun s => (s.1, powM bQ 4 s.2)
theorem pubL_ids (l : List (Int × Nat)) : (pubL l).map (·.1) = l.map (·.1) := by simp [pubL]
theorem pubL_length (l : List (Int × Nat)) : (pubL l).length = l.length := by simp [pubL]
theorem want_pub (ids : List Int) (x : Nat) (l : List (Int × Nat)) : wantN ids x (pubL l) = powM bQ 4 (sumN ids x l) := by
  have key : ∀ (l : List (Int × Nat)) (o : Nat), (pubL l).foldl (fun o s => mulM bQ o (powM bQ s.2 (atN ids s.1 x))) (powM bQ 4 o) = powM bQ 4 (l.foldl (fun o s => addM bR o (mulM bR s.2 (atN ids s.1 x))) o) := by
    intro l
    induction l with
    | nil => intro o; rfl
    | cons s l ih =>
      intro o
      show (pubL l).foldl _ (mulM bQ (powM bQ 4 o) (powM bQ (powM bQ 4 s.2) (atN ids s.1 x))) = _
      rw [← base_mul, ← base_add]
      exact ih _
  have := key l 0
  rw [powM_zero (by decide)] at this
  exact this
def chkN (t : Int) (l : List (Int × Nat)) : Nat :=
  if t < 1 ∨ 7 < t ∨ (0 < l.length ∧ rightB (l.map (·.1)) = false) then 1
  else if l.all (fun s => inB s.2) = false then 1
  else if (l.length : Int) < t then 50
  else if (l.drop t.toNat).all (fun s => decide (wantN ((l.take t.toNat).map (·.1)) s.1.toNat (l.take t.toNat) = s.2)) = true then 0 else 60
def mayB (l : List (Int × Nat)) : Bool := l.all (fun s => decide (s.2 < bR)) && rightB (l.map (·.1))
/-- What shares make, and why nothing. -/
def joinE (l : List (Int × Nat)) : Nat := if l.length = 0 then 50 else if mayB l = true then 0 else 1
def joinV (l : List (Int × Nat)) : Nat := if l.length = 0 then 0 else if mayB l = true then joinN l else 0
def wgtE (ids : List Int) (id : Int) : Nat := if rightB ids = true ∧ id ∈ ids then 0 else 1
def wgtV (ids : List Int) (id : Int) : Nat := if rightB ids = true ∧ id ∈ ids then atN ids id 0 else 0
end Go.Proofs.YtiecfamjnnmpaaaGreat

/- Plain: dividing two words by one, half a word at a time (Knuth's D), as math/bits.Div64 does. No program in sight. -/
namespace Go.Proofs.YtiecfamjnnmpaaaGreat
/-- One half-digit: u*2^32 + d by Y = y1*2^32 + y0. -/
structure DivAt (u d y1 y0 q r : Nat) : Prop where
  hu : u < y1 * 4294967296 + y0
  hd : d < 4294967296
  h1 : 2147483648 ≤ y1
  h2 : y1 < 4294967296
  h3 : y0 < 4294967296
  sum : q * y1 + r = u
  ge : u * 4294967296 + d < (q + 1) * (y1 * 4294967296 + y0)
  top : q ≤ 4294967297
  lo : r < 4294967296

theorem DivAt.start {u d y1 y0 : Nat} (hu : u < y1 * 4294967296 + y0) (hd : d < 4294967296) (h1 : 2147483648 ≤ y1) (h2 : y1 < 4294967296) (h3 : y0 < 4294967296) : DivAt u d y1 y0 (u / y1) (u % y1) := by
  have hs : (u / y1) * y1 + u % y1 = u := by rw [Nat.mul_comm]; exact Nat.div_add_mod u y1
  have hm : u % y1 < y1 := Nat.mod_lt _ (by omega)
  refine ⟨hu, hd, h1, h2, h3, hs, ?_, ?_, by omega⟩
  · have e : (u / y1 + 1) * (y1 * 4294967296 + y0) = (u / y1 * y1 + y1) * 4294967296 + (u / y1 + 1) * y0 := by grind
    rw [e]
    have : u + 1 ≤ u / y1 * y1 + y1 := by omega
    omega
  · have : u / y1 < 4294967298 := by
      rw [Nat.div_lt_iff_lt_mul (by omega)]
      omega
    omega

theorem DivAt.stop {u d y1 y0 q r : Nat} (h : DivAt u d y1 y0 q r) (hb : q * y0 ≤ 4294967296 * r + d) : q = (u * 4294967296 + d) / (y1 * 4294967296 + y0) := by
  have e : q * (y1 * 4294967296 + y0) = q * y1 * 4294967296 + q * y0 := by grind
  have hs := h.sum
  have h1 := h.h1
  symm
  rw [Nat.div_eq_iff (by omega)]
  have hg := h.ge
  rw [Nat.add_mul] at hg
  constructor
  · rw [e]; omega
  · have : u * 4294967296 + d < q * (y1 * 4294967296 + y0) + (y1 * 4294967296 + y0) := by omega
    omega

theorem DivAt.down {u d y1 y0 q r : Nat} (h : DivAt u d y1 y0 q r) (hb : 4294967296 ≤ q ∨ 4294967296 * r + d < q * y0) :
    0 < q ∧ (q - 1) * y1 + (r + y1) = u ∧ u * 4294967296 + d < (q - 1 + 1) * (y1 * 4294967296 + y0) := by
  have hs := h.sum
  have hu := h.hu
  have hd := h.hd
  have h1 := h.h1
  have h3 := h.h3
  have hq : 0 < q := by
    rcases hb with hb | hb
    · omega
    · rcases Nat.eq_zero_or_pos q with rfl | h'
      · simp at hb
      · exact h'
  obtain ⟨p, rfl⟩ : ∃ p, q = p + 1 := ⟨q - 1, by omega⟩
  refine ⟨hq, ?_, ?_⟩
  · rw [Nat.add_sub_cancel]; rw [Nat.add_mul] at hs; omega
  · rw [Nat.add_sub_cancel]
    have e : (p + 1) * (y1 * 4294967296 + y0) = (p + 1) * y1 * 4294967296 + (p + 1) * y0 := by grind
    rcases hb with hb | hb
    · have : 4294967296 * (y1 * 4294967296 + y0) ≤ (p + 1) * (y1 * 4294967296 + y0) := Nat.mul_le_mul_right _ hb
      omega
    · rw [e]; omega

theorem DivAt.next {u d y1 y0 q r : Nat} (h : DivAt u d y1 y0 q r) (hb : 4294967296 ≤ q ∨ 4294967296 * r + d < q * y0) (hr : r + y1 < 4294967296) : DivAt u d y1 y0 (q - 1) (r + y1) := by
  obtain ⟨_, a, b⟩ := h.down hb
  have := h.top
  exact ⟨h.hu, h.hd, h.h1, h.h2, h.h3, a, b, by omega, hr⟩

theorem DivAt.leave {u d y1 y0 q r : Nat} (h : DivAt u d y1 y0 q r) (hb : 4294967296 ≤ q ∨ 4294967296 * r + d < q * y0) (hr : 4294967296 ≤ r + y1) : q - 1 = (u * 4294967296 + d) / (y1 * 4294967296 + y0) := by
  obtain ⟨_, a, b⟩ := h.down hb
  have ht := h.top
  have h1 := h.h1
  have h3 := h.h3
  have e : (q - 1) * (y1 * 4294967296 + y0) = (q - 1) * y1 * 4294967296 + (q - 1) * y0 := by grind
  have hq : (q - 1) * y0 ≤ 4294967296 * 4294967295 := Nat.mul_le_mul (by omega) (by omega)
  symm
  rw [Nat.div_eq_iff (by omega)]
  rw [Nat.add_mul] at b
  constructor
  · rw [e]; omega
  · omega

/-- The quotient's half-digit is one. -/
theorem DivAt.small {u d y1 y0 q r : Nat} (h : DivAt u d y1 y0 q r) : (u * 4294967296 + d) / (y1 * 4294967296 + y0) < 4294967296 := by
  have h1 := h.h1
  have hu := h.hu
  have hd := h.hd
  rw [Nat.div_lt_iff_lt_mul (by omega)]
  omega

/-- The two half-digits together. -/
theorem div_joinB (B u d1 d0 Y : Nat) (hY : 0 < Y) :
    (u * B + d1) / Y * B + ((u * B + d1) % Y * B + d0) / Y = (u * (B * B) + (d1 * B + d0)) / Y ∧
    ((u * B + d1) % Y * B + d0) % Y = (u * (B * B) + (d1 * B + d0)) % Y := by
  have h := Nat.div_add_mod (u * B + d1) Y
  generalize hq : (u * B + d1) / Y = q at *
  generalize hr : (u * B + d1) % Y = r at *
  have e : u * (B * B) + (d1 * B + d0) = r * B + d0 + Y * (q * B) := by grind
  rw [e, Nat.add_mul_div_left _ _ hY, Nat.add_mul_mod_self_left]
  exact ⟨by omega, rfl⟩
theorem div_join (u d1 d0 Y : Nat) (hY : 0 < Y) :
    (u * 4294967296 + d1) / Y * 4294967296 + ((u * 4294967296 + d1) % Y * 4294967296 + d0) / Y = (u * 18446744073709551616 + (d1 * 4294967296 + d0)) / Y ∧
    ((u * 4294967296 + d1) % Y * 4294967296 + d0) % Y = (u * 18446744073709551616 + (d1 * 4294967296 + d0)) % Y :=
  div_joinB 4294967296 u d1 d0 Y hY

/-- The shift away again. -/
theorem div_shift (a y s : Nat) : a * 2 ^ s / (y * 2 ^ s) = a / y ∧ a * 2 ^ s % (y * 2 ^ s) / 2 ^ s = a % y := by
  have hp : 0 < 2 ^ s := Nat.two_pow_pos s
  refine ⟨Nat.mul_div_mul_right a y hp, ?_⟩
  rw [Nat.mul_mod_mul_right, Nat.mul_div_cancel _ hp]

/-- The words, shifted: hi and lo by s places, s less than 64. -/
theorem shift_two (hi lo s : Nat) (hs : s ≤ 64) (hlo : lo < 18446744073709551616) :
    (hi * 18446744073709551616 + lo) * 2 ^ s = (hi * 2 ^ s + lo / 2 ^ (64 - s)) * 18446744073709551616 + lo * 2 ^ s % 18446744073709551616 ∧ hi * 2 ^ s ||| lo / 2 ^ (64 - s) = hi * 2 ^ s + lo / 2 ^ (64 - s) := by
  have e64 : (2 : Nat) ^ s * 2 ^ (64 - s) = 18446744073709551616 := by rw [← Nat.pow_add, show s + (64 - s) = 64 by omega]
  have hp : 0 < 2 ^ s := Nat.two_pow_pos s
  have hp2 : 0 < 2 ^ (64 - s) := Nat.two_pow_pos _
  have hlt : lo / 2 ^ (64 - s) < 2 ^ s := by rw [Nat.div_lt_iff_lt_mul hp2, e64]; exact hlo
  constructor
  · have h1 : lo * 2 ^ s / 18446744073709551616 = lo / 2 ^ (64 - s) := by
      rw [← e64, Nat.mul_comm (2 ^ s), Nat.mul_div_mul_right _ _ hp]
    have h2 := Nat.div_add_mod (lo * 2 ^ s) 18446744073709551616
    rw [h1] at h2
    rw [Nat.add_mul, Nat.add_mul]
    have e2 : hi * 18446744073709551616 * 2 ^ s = hi * 2 ^ s * 18446744073709551616 := by grind
    omega
  · rw [Nat.mul_comm hi, ← Nat.two_pow_add_eq_or_of_lt hlt]

theorem div_fin (n y s Y U T t1 t0 A1 V A0 X : Nat) (hy : 0 < Y) (HY : Y = y * 2 ^ s) (E1 : n * 2 ^ s = U * 18446744073709551616 + T) (HT : T = t1 * 4294967296 + t0) (h1 : A1 = (U * 4294967296 + t1) / Y)
    (h2 : V = (U * 4294967296 + t1) % Y) (h3 : A0 = (V * 4294967296 + t0) / Y) (h4 : X = (V * 4294967296 + t0) % Y) : n / y = A1 * 4294967296 + A0 ∧ n % y = X / 2 ^ s := by
  obtain ⟨a, b⟩ := div_join U t1 t0 Y hy
  rw [← h1, ← h2, ← h3, ← HT, ← E1] at a
  rw [← h2, ← h4, ← HT, ← E1] at b
  obtain ⟨c, d⟩ := div_shift n y s
  rw [← HY] at c d
  exact ⟨by rw [← c, a], by rw [← d, b]⟩
end Go.Proofs.YtiecfamjnnmpaaaGreat

/- Plain: the field of 2^61 - 1. No program in sight. -/
namespace Go.Proofs.YtiecfamjnnmpaaaGreat

theorem and_P (a : Nat) : a &&& 2305843009213693951 = a % 2305843009213693952 := Nat.and_two_pow_sub_one_eq_mod a 61

/-- The two words' number, folded: 2^61 is 1. -/
theorem fold_step (x n m : Nat) (hx : x < 5316911983139663491615228241121378304) (hn : n = x % 2305843009213693952 + x / 2305843009213693952) (hm : m = n % 2305843009213693952 + n / 2305843009213693952) :
    n < 4611686018427387904 ∧ m ≤ 2305843009213693951 ∧ (if 2305843009213693951 ≤ m then m - 2305843009213693951 else m) = x % bP := by
  have h1 : x / 2305843009213693952 < 2305843009213693952 := by
    rw [Nat.div_lt_iff_lt_mul (by omega)]; exact hx
  have h2 : x % 2305843009213693952 < 2305843009213693952 := Nat.mod_lt _ (by omega)
  have h3 := Nat.div_add_mod x 2305843009213693952
  generalize x / 2305843009213693952 = q at *
  generalize x % 2305843009213693952 = r at *
  subst h3
  have h4 : n / 2305843009213693952 ≤ 1 := by omega
  have h5 : m ≤ 2305843009213693951 := by omega
  refine ⟨by omega, h5, ?_⟩
  have e1 : (2305843009213693952 * q + r) % bP = (r + q) % bP := by
    have : 2305843009213693952 * q + r = r + q + bP * q := by unfold bP; omega
    rw [this, Nat.add_mul_mod_self_left]
  have e2 : (r + q) % bP = m % bP := by
    rw [← hn]
    have hd := Nat.div_add_mod n 2305843009213693952
    have : n = m + bP * (n / 2305843009213693952) := by unfold bP; omega
    conv => lhs; rw [this, Nat.add_mul_mod_self_left]
  rw [e1, e2]
  split
  · have : m = bP := by unfold bP; omega
    rw [this, Nat.mod_self]; unfold bP; omega
  · rw [Nat.mod_eq_of_lt (by unfold bP; omega)]

theorem fold_two (hi lo : Nat) (hlo : lo < 18446744073709551616) :
    (hi * 18446744073709551616 + lo) / 2305843009213693952 = hi * 8 + lo / 2305843009213693952 ∧ (hi * 18446744073709551616 + lo) % 2305843009213693952 = lo % 2305843009213693952 ∧ hi * 8 ||| lo / 2305843009213693952 = hi * 8 + lo / 2305843009213693952 := by
  refine ⟨by omega, by omega, ?_⟩
  have h : lo / 2305843009213693952 < 2 ^ 3 := by
    show lo / 2305843009213693952 < 8
    omega
  have e := Nat.two_pow_add_eq_or_of_lt h hi
  rw [show (2 : Nat) ^ 3 = 8 from rfl] at e
  rw [Nat.mul_comm hi 8, ← e]

def subP (a b : Nat) : Nat := (a + (bP - b % bP)) % bP
end Go.Proofs.YtiecfamjnnmpaaaGreat

/- Plain: the hash. No program in sight. -/
namespace Go.Proofs.YtiecfamjnnmpaaaGreat

/-- x, squared k times. -/
def sqs (x : Nat) : Nat → Nat
  | 0 => x
  | k + 1 => mulM bP (sqs x k) (sqs x k)
theorem sqs_lt {x : Nat} (hx : x < 18446744073709551616) (k : Nat) : sqs x k < 18446744073709551616 := by
  cases k with
  | zero => exact hx
  | succ k => exact Nat.lt_of_lt_of_le (mulM_lt (m := bP) (by decide) _ _) (by decide)
theorem sqs_pow (x k : Nat) : sqs x (k + 1) = powM bP x (2 ^ (k + 1)) := by
  induction k with
  | zero => show mulM bP x x = _; unfold mulM powM; rw [show 2 ^ (0 + 1) = 2 from rfl, Nat.pow_two]
  | succ k ih => rw [sqs, ih, powM_add]; congr 1; rw [Nat.pow_succ 2 (k + 1)]; omega
/-- The power 17. -/
def p17 (x : Nat) : Nat := powM bP x 17
theorem sqs_17 (x : Nat) : mulM bP x (sqs x 4) = p17 x := by
  rw [sqs_pow, mulM_comm, powM_succ]; rfl

/-- One element of a round: i of round r. -/
def elem (r i a : Nat) : Nat := p17 (addM bP a ((3 * r + i + 1) * (3 * r + i + 1) * (3 * r + i + 1) + 7))
/-- One round. -/
def rnd (r : Nat) (s : Nat × Nat × Nat) : Nat × Nat × Nat :=
  let x := elem r 0 s.1; let y := elem r 1 s.2.1; let z := elem r 2 s.2.2
  let all := addM bP (addM bP x y) z
  (addM bP x all, addM bP y all, addM bP z all)
/-- The first k rounds. -/
def rnds : Nat → Nat × Nat × Nat → Nat × Nat × Nat
  | 0, s => s
  | k + 1, s => rnd k (rnds k s)
def mix (s : Nat × Nat × Nat) : Nat × Nat × Nat := rnds 8 s
end Go.Proofs.YtiecfamjnnmpaaaGreat

/- Plain: the group's elements are powers of 4; a crew's key by whichever of its parts. No program in sight. -/
namespace Go.Proofs.YtiecfamjnnmpaaaGreat
set_option linter.unusedVariables false

/-! ### an element of the group is a power -/
theorem Pd.mono_pow (m : Int) : ∀ n : Nat, Pd m (n + 1) (fun x => x ^ n)
  | 0 => (Pd.const m 1).congr fun x => by rw [Int.pow_zero]
  | n + 1 => by
    have h := (Pd.mono_pow m n).lin 0
    exact h.congr fun x => by rw [Int.pow_succ, Int.sub_zero, Int.mul_comm]
theorem cg_pow {m a b : Int} (h : Cg m a b) : ∀ n : Nat, Cg m (a ^ n) (b ^ n)
  | 0 => by rw [Int.pow_zero, Int.pow_zero]; exact Cg.refl _ _
  | n + 1 => by rw [Int.pow_succ, Int.pow_succ]; exact (cg_pow h n).mul h
theorem cg_powM (m a n : Nat) : Cg m (powM m a n : Nat) ((a : Int) ^ n) := by
  have := cg_mod m (a ^ n)
  rw [Int.natCast_pow] at this
  exact this
theorem Pr.pz {p : Nat} (hp : Pr p) : Pz (p : Int) := fun a b h => by
  have h1 : p ∣ a.natAbs * b.natAbs := by rw [← Int.natAbs_mul]; exact Int.ofNat_dvd_left.1 h
  rcases hp.mul h1 with h2 | h2
  · exact .inl (Int.ofNat_dvd_left.2 h2)
  · exact .inr (Int.ofNat_dvd_left.2 h2)
/-- As many different powers as the order: whatever is of that order is one of them. -/
theorem dlog {q r g x : Nat} (hq : Pr q) (hr : 0 < r) (hg : powM q g r = 1) (hinj : ∀ i j, i < r → j < r → powM q g i = powM q g j → i = j) (hxq : x < q) (hx : powM q x r = 1) : ∃ e, e < r ∧ x = powM q g e := by
  have h2 := hq.1
  rcases Classical.em (∃ e, e < r ∧ x = powM q g e) with h | h
  · exact h
  exfalso
  have hne : ∀ e, e < r → x ≠ powM q g e := fun e he h' => h ⟨e, he, h'⟩
  obtain ⟨L, hL⟩ : ∃ L : List Int, L = (x : Int) :: (List.range r).map fun i => ((powM q g i : Nat) : Int) := ⟨_, rfl⟩
  have hlen : L.length = r + 1 := by rw [hL]; simp
  have hpd : Pd q L.length (fun y => y ^ r + (-1)) := by
    rw [hlen]
    exact (Pd.mono_pow q r).add ((Pd.const q (-1)).le (by omega))
  have hlt : ∀ a b : Nat, a < q → b < q → Cg q (a : Int) b → a = b := fun a b ha hb hc => eq_of_cg ha hb hc
  have hpw : ∀ i, powM q g i < q := fun i => powM_lt (by omega) _ _
  have hpair : L.Pairwise (fun a b => ¬ Cg q a b) := by
    rw [hL, List.pairwise_cons]
    refine ⟨fun b hb hc => ?_, ?_⟩
    · obtain ⟨i, hi, rfl⟩ := List.mem_map.1 hb
      rw [List.mem_range] at hi
      exact hne i hi (hlt _ _ hxq (hpw i) hc)
    · refine List.Pairwise.map _ (R := fun a b => a ≠ b ∧ a < r ∧ b < r) (fun a b hab hc => hab.1 (hinj a b hab.2.1 hab.2.2 (hlt _ _ (hpw a) (hpw b) hc))) ?_
      exact List.Pairwise.imp_of_mem (fun {a b} ha hb h => ⟨h, List.mem_range.1 ha, List.mem_range.1 hb⟩) List.nodup_range
  have hzero : ∀ y ∈ L, Cg q (y ^ r + (-1)) 0 := by
    intro y hy
    have one : ∀ z : Nat, powM q z r = 1 → Cg q ((z : Int) ^ r + (-1)) 0 := fun z hz => by
      have h1 := cg_powM q z r
      rw [hz] at h1
      exact (h1.symm.add (Cg.refl q (-1))).trans (Cg.of_eq (by decide))
    rw [hL] at hy
    rcases List.mem_cons.1 hy with rfl | hy
    · exact one x hx
    · obtain ⟨i, -, rfl⟩ := List.mem_map.1 hy
      refine one _ ?_
      rw [powM_pow, Nat.mul_comm, ← powM_pow, hg]
      unfold powM
      rw [Nat.one_pow, Nat.mod_eq_of_lt h2]
  have hall := Pd.all_zero hq.pz L hpd hpair hzero 0
  obtain ⟨k, rfl⟩ : ∃ k, r = k + 1 := ⟨r - 1, by omega⟩
  rw [Int.pow_succ, Int.mul_zero, Int.zero_add] at hall
  have hd : (q : Int) ∣ -1 := by unfold Cg at hall; rwa [Int.sub_zero] at hall
  have hd2 : (q : Int) ∣ 1 := by have := Int.dvd_neg.2 hd; simpa using this
  have := Int.natCast_dvd_natCast.1 (show (q : Int) ∣ ((1 : Nat) : Int) from hd2)
  have := Nat.le_of_dvd (by decide) this
  omega
theorem inB_log {x : Nat} (h : inB x = true) : ∃ e, e < bR ∧ x = powM bQ 4 e := by
  obtain ⟨a, b, c⟩ := (inB_iff x).1 h
  refine dlog pr_Q (by decide) gR (fun i j hi hj he => ?_) b c
  have := base_inj he
  rwa [Nat.mod_eq_of_lt hi, Nat.mod_eq_of_lt hj] at this
/-- A list of elements of the group is of powers. -/
theorem logs {l : List (Int × Nat)} (h : ∀ s ∈ l, inB s.2 = true) : ∃ m : List (Int × Nat), l = pubL m ∧ ∀ s ∈ m, s.2 < bR := by
  induction l with
  | nil => exact ⟨[], rfl, by simp⟩
  | cons s l ih =>
    obtain ⟨m, hm, hb⟩ := ih fun r hr => h r (List.mem_cons_of_mem _ hr)
    obtain ⟨e, he, hx⟩ := inB_log (h s List.mem_cons_self)
    refine ⟨(s.1, e) :: m, ?_, fun r hr => ?_⟩
    · rw [hm]
      show s :: pubL m = (s.1, powM bQ 4 e) :: pubL m
      rw [← hx]
    · rcases List.mem_cons.1 hr with rfl | hr
      · exact he
      · exact hb r hr
end Go.Proofs.YtiecfamjnnmpaaaGreat
