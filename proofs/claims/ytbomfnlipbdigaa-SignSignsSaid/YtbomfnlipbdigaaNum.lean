/- Plain number theory, no program in sight: Fermat's little theorem, Pocklington's test, and that P, Q, R are prime. -/
namespace Go.Proofs.Ytbomfnlipbdigaa
/-- A prime number. -/
def Pr (p : Nat) : Prop := 2 ≤ p ∧ ∀ d, d ∣ p → d = 1 ∨ d = p

def ch : Nat → Nat → Nat
  | _, 0 => 1
  | 0, _ + 1 => 0
  | n + 1, k + 1 => ch n k + ch n (k + 1)
def sm (f : Nat → Nat) : Nat → Nat
  | 0 => 0
  | n + 1 => sm f n + f n

theorem ch_zero (n : Nat) : ch n 0 = 1 := by cases n <;> rfl
theorem ch_big : ∀ n k, n < k → ch n k = 0
  | 0, 0, h => by omega
  | 0, _ + 1, _ => rfl
  | n + 1, 0, h => by omega
  | n + 1, k + 1, h => by
    show ch n k + ch n (k + 1) = 0
    rw [ch_big n k (by omega), ch_big n (k + 1) (by omega)]
theorem ch_self : ∀ n, ch n n = 1
  | 0 => rfl
  | n + 1 => by
    show ch n n + ch n (n + 1) = 1
    rw [ch_self n, ch_big n (n + 1) (by omega)]
theorem ch_mul : ∀ n k, (k + 1) * ch (n + 1) (k + 1) = (n + 1) * ch n k
  | 0, 0 => rfl
  | 0, k + 1 => by
    show (k + 2) * (ch 0 (k + 1) + ch 0 (k + 2)) = 1 * ch 0 (k + 1)
    simp [ch]
  | n + 1, 0 => by
    have h := ch_mul n 0
    show (0 + 1) * (ch (n + 1) 0 + ch (n + 1) 1) = (n + 2) * ch (n + 1) 0
    rw [ch_zero] at *
    simp at h ⊢
    rw [h]; omega
  | n + 1, k + 1 => by
    have h1 := ch_mul n k
    have h2 := ch_mul n (k + 1)
    show (k + 1 + 1) * (ch (n + 1) (k + 1) + ch (n + 1) (k + 2)) = (n + 2) * ch (n + 1) (k + 1)
    have e : ch (n + 1) (k + 1) = ch n k + ch n (k + 1) := rfl
    have e2 : ch (n + 1) (k + 1 + 1) = ch n (k + 1) + ch n (k + 2) := rfl
    grind

theorem sm_congr {f g : Nat → Nat} (n : Nat) (h : ∀ k, k < n → f k = g k) : sm f n = sm g n := by
  induction n with
  | zero => rfl
  | succ n ih => rw [sm, sm, ih (fun k hk => h k (by omega)), h n (by omega)]
theorem sm_shift (f : Nat → Nat) (n : Nat) : sm f (n + 1) = f 0 + sm (fun k => f (k + 1)) n := by
  induction n with
  | zero => simp [sm]
  | succ n ih => rw [sm, ih, sm]; omega
theorem sm_add (f g : Nat → Nat) (n : Nat) : sm (fun k => f k + g k) n = sm f n + sm g n := by
  induction n with
  | zero => rfl
  | succ n ih => rw [sm, sm, sm, ih]; omega
theorem sm_mul (f : Nat → Nat) (a n : Nat) : sm (fun k => a * f k) n = a * sm f n := by
  induction n with
  | zero => rfl
  | succ n ih => rw [sm, sm, ih, Nat.mul_add]
theorem sm_dvd (f : Nat → Nat) (p n : Nat) (h : ∀ k, k < n → p ∣ f k) : p ∣ sm f n := by
  induction n with
  | zero => exact Nat.dvd_zero p
  | succ n ih => exact Nat.dvd_add (ih (fun k hk => h k (by omega))) (h n (by omega))

theorem binom (a n : Nat) : (a + 1) ^ n = sm (fun k => ch n k * a ^ k) (n + 1) := by
  induction n with
  | zero => simp [sm, ch]
  | succ n ih =>
    have e1 : sm (fun k => ch (n + 1) k * a ^ k) (n + 1 + 1) = 1 + sm (fun k => ch n k * a ^ (k + 1) + ch n (k + 1) * a ^ (k + 1)) (n + 1) := by
      rw [sm_shift]
      simp only [ch_zero, Nat.pow_zero, Nat.mul_one]
      congr 1
      exact sm_congr _ (fun k _ => by show (ch n k + ch n (k + 1)) * _ = _; rw [Nat.add_mul])
    have e2 : sm (fun k => ch n k * a ^ k) (n + 1) = 1 + sm (fun k => ch n (k + 1) * a ^ (k + 1)) (n + 1) := by
      have h : sm (fun k => ch n k * a ^ k) (n + 1 + 1) = sm (fun k => ch n k * a ^ k) (n + 1) := by
        rw [sm, ch_big n (n + 1) (by omega)]; omega
      rw [← h, sm_shift]
      simp [ch_zero]
    have e3 : sm (fun k => ch n k * a ^ (k + 1)) (n + 1) = a * sm (fun k => ch n k * a ^ k) (n + 1) := by
      rw [← sm_mul]
      exact sm_congr _ (fun k _ => by rw [Nat.pow_succ]; grind)
    rw [e1, sm_add, e3, Nat.pow_succ, ih]
    generalize hX : sm (fun k => ch n k * a ^ k) (n + 1) = X at *
    generalize hY : sm (fun k => ch n (k + 1) * a ^ (k + 1)) (n + 1) = Y at *
    rw [Nat.mul_add, Nat.mul_comm X a]; omega

theorem Pr.cop {p a : Nat} (hp : Pr p) (h : ¬ p ∣ a) : Nat.Coprime p a := by
  have := hp.2 (Nat.gcd p a) (Nat.gcd_dvd_left p a)
  rcases this with h1 | h1
  · exact h1
  · exact absurd (h1 ▸ Nat.gcd_dvd_right p a) h
theorem Pr.mul {p a b : Nat} (hp : Pr p) (h : p ∣ a * b) : p ∣ a ∨ p ∣ b := by
  by_cases ha : p ∣ a
  · exact Or.inl ha
  · exact Or.inr ((hp.cop ha).dvd_of_dvd_mul_left h)
theorem Pr.pow {p a n : Nat} (hp : Pr p) (h : p ∣ a ^ n) : p ∣ a := by
  induction n with
  | zero => rw [Nat.pow_zero] at h; have := Nat.le_of_dvd (by omega) h; have := hp.1; omega
  | succ n ih => rw [Nat.pow_succ] at h; rcases hp.mul h with h | h; exact ih h; exact h

theorem Pr.choose {p k : Nat} (hp : Pr p) (h0 : 0 < k) (h1 : k < p) : p ∣ ch p k := by
  obtain ⟨q, rfl⟩ : ∃ q, p = q + 1 := ⟨p - 1, by omega⟩
  obtain ⟨j, rfl⟩ : ∃ j, k = j + 1 := ⟨k - 1, by omega⟩
  have h := ch_mul q j
  have hd : q + 1 ∣ (j + 1) * ch (q + 1) (j + 1) := ⟨_, h⟩
  rcases hp.mul hd with h2 | h2
  · have := Nat.le_of_dvd (by omega) h2; omega
  · exact h2

theorem fermat0 {p : Nat} (hp : Pr p) (a : Nat) : a ^ p % p = a % p := by
  have h2 := hp.1
  induction a with
  | zero => rw [Nat.zero_pow (by omega)]
  | succ a ih =>
    obtain ⟨q, rfl⟩ : ∃ q, p = q + 1 := ⟨p - 1, by omega⟩
    rw [binom, sm, sm_shift, ch_zero, ch_self, Nat.pow_zero]
    have hd := sm_dvd (fun k => ch (q + 1) (k + 1) * a ^ (k + 1)) (q + 1) q (fun k hk => Nat.dvd_mul_right_of_dvd (hp.choose (by omega) (by omega)) _)
    obtain ⟨t, ht⟩ := hd
    rw [ht, show 1 * 1 + (q + 1) * t + 1 * a ^ (q + 1) = a ^ (q + 1) + 1 + (q + 1) * t by omega, Nat.add_mul_mod_self_left, Nat.add_mod, ih, ← Nat.add_mod]

/-- FERMAT. -/
theorem fermat {p a : Nat} (hp : Pr p) (h : a % p ≠ 0) : a ^ (p - 1) % p = 1 := by
  have h2 := hp.1
  have hf := fermat0 hp a
  have hna : ¬ p ∣ a := fun hd => h (Nat.mod_eq_zero_of_dvd hd)
  have ha : 0 < a := by rcases Nat.eq_zero_or_pos a with rfl | h'; simp at h; exact h'
  have hpos : 0 < a ^ (p - 1) := Nat.pow_pos ha
  have e : a ^ p = a * a ^ (p - 1) := by rw [← Nat.pow_succ']; congr 1; omega
  have hd : p ∣ a * (a ^ (p - 1) - 1) := by
    rw [Nat.mul_sub, ← e, Nat.mul_one]
    exact Nat.dvd_of_mod_eq_zero (Nat.sub_mod_eq_zero_of_mod_eq hf)
  have hd2 := (hp.cop hna).dvd_of_dvd_mul_left hd
  obtain ⟨t, ht⟩ := hd2
  have : a ^ (p - 1) = 1 + p * t := by omega
  rw [this, Nat.add_mul_mod_self_left]
  exact Nat.mod_eq_of_lt (by omega)

/-! ### powers, reckoned -/
/-- a to the n, modulo m, by squaring; f: more than n has bits. -/
def pwm (m : Nat) : Nat → Nat → Nat → Nat
  | 0, _, _ => 1 % m
  | f + 1, a, n => bif n == 0 then 1 % m else bif n % 2 == 1 then a * pwm m f (a * a % m) (n / 2) % m else pwm m f (a * a % m) (n / 2)
theorem pwm_eq (m : Nat) : ∀ f a n, n < 2 ^ f → pwm m f a n = a ^ n % m
  | 0, a, n, h => by
    obtain rfl : n = 0 := by simpa using h
    simp [pwm]
  | f + 1, a, n, h => by
    have ih := pwm_eq m f (a * a % m) (n / 2) (by rw [Nat.pow_succ] at h; omega)
    rw [pwm]
    by_cases h0 : n = 0
    · subst h0; simp
    · have e : (n == 0) = false := by simpa using h0
      rw [e, cond_false, ih, ← Nat.pow_mod, ← Nat.pow_two, ← Nat.pow_mul]
      by_cases h1 : n % 2 = 1
      · have e1 : (n % 2 == 1) = true := by simpa using h1
        have hn : n = 2 * (n / 2) + 1 := by omega
        rw [e1, cond_true]
        conv => rhs; rw [hn, Nat.pow_succ, Nat.mul_comm]
        simp [Nat.mul_mod]
      · have e1 : (n % 2 == 1) = false := by simpa using h1
        have hn : n = 2 * (n / 2) := by omega
        rw [e1, cond_false]
        conv => rhs; rw [hn]

/-! ### orders -/
theorem pow_mod_one {m b : Nat} (hm : 1 < m) (h : b % m = 1) (k : Nat) : b ^ k % m = 1 := by
  rw [Nat.pow_mod, h, Nat.one_pow, Nat.mod_eq_of_lt hm]
theorem pow_split {m b x y : Nat} (hx : b ^ x % m = 1) (h : b ^ (x + y) % m = 1) : b ^ y % m = 1 := by
  rw [Nat.pow_add, Nat.mul_mod, hx, Nat.one_mul, Nat.mod_mod] at h; exact h
theorem pow_gcd {m b : Nat} (hm : 1 < m) (x y : Nat) (hx : b ^ x % m = 1) (hy : b ^ y % m = 1) : b ^ Nat.gcd x y % m = 1 := by
  induction x, y using Nat.gcd.induction with
  | H0 y => rw [Nat.gcd_zero_left]; exact hy
  | H1 x y h ih =>
    rw [Nat.gcd_rec]
    refine ih ?_ hx
    have e : x * (y / x) + y % x = y := Nat.div_add_mod y x
    rw [← e] at hy
    exact pow_split (by rw [Nat.pow_mul]; exact pow_mod_one hm hx _) hy

/-- If b to the q is 1 modulo the prime p, and b is not, the prime q divides p - 1. -/
theorem ord_dvd {p q b : Nat} (hp : Pr p) (hq : Pr q) (h : b ^ q % p = 1) (h1 : b % p ≠ 1) : q ∣ p - 1 := by
  refine Classical.byContradiction fun hn => h1 ?_
  have hp2 : 1 < p := hp.1
  have hb : b % p ≠ 0 := by
    intro h0
    have : b ^ q % p = 0 := by
      rw [Nat.pow_mod, h0, Nat.zero_pow (by have := hq.1; omega)]; simp
    omega
  have hf := fermat hp hb
  have hg := pow_gcd hp2 q (p - 1) h hf
  rw [hq.cop hn] at hg
  simpa using hg

/-- A prime factor of n - 1 divides r - 1, for each prime factor r of n. -/
theorem pock {n q a : Nat} (hn : 1 < n) (hq : Pr q) (hqn : q ∣ n - 1) (h1 : a ^ (n - 1) % n = 1) (hg : Nat.gcd (a ^ ((n - 1) / q) % n + n - 1) n = 1) (r : Nat) (hr : Pr r) (hrn : r ∣ n) : q ∣ r - 1 := by
  obtain ⟨k, hk⟩ := hqn
  have hq0 : 0 < q := by have := hq.1; omega
  have e : (n - 1) / q = k := by rw [hk]; exact Nat.mul_div_cancel_left k hq0
  rw [e] at hg
  have hr2 := hr.1
  have hm : ∀ x, x % n % r = x % r := fun x => Nat.mod_mod_of_dvd x hrn
  refine ord_dvd (b := a ^ k) hr hq ?_ ?_
  · rw [← Nat.pow_mul, Nat.mul_comm, ← hk, ← hm, h1, Nat.mod_eq_of_lt (by omega)]
  · intro h
    have hd : r ∣ a ^ k % n + n - 1 := by
      have h' : a ^ k % n % r = 1 := by rw [hm]; exact h
      have e1 : a ^ k % n = r * (a ^ k % n / r) + 1 := by have := Nat.div_add_mod (a ^ k % n) r; omega
      have e2 : a ^ k % n + n - 1 = r * (a ^ k % n / r) + n := by omega
      rw [e2]; exact Nat.dvd_add (Nat.dvd_mul_right _ _) hrn
    have := Nat.dvd_gcd hd hrn
    rw [hg] at this
    have := Nat.le_of_dvd (by omega) this
    omega

/-- The same, the powers reckoned. -/
theorem pock' {n q a : Nat} (hn : 1 < n) (hn2 : n < 18446744073709551616) (hq : Pr q) (hqn : q ∣ n - 1) (h1 : pwm n 64 a (n - 1) = 1) (hg : Nat.gcd (pwm n 64 a ((n - 1) / q) + n - 1) n = 1) (r : Nat) (hr : Pr r) (hrn : r ∣ n) : q ∣ r - 1 := by
  have e : (2 : Nat) ^ 64 = 18446744073709551616 := rfl
  rw [pwm_eq _ _ _ _ (by omega)] at h1
  rw [pwm_eq _ _ _ _ (by have := Nat.div_le_self (n - 1) q; omega)] at hg
  exact pock hn hq hqn h1 hg r hr hrn

/-- A number that is not prime has a prime factor whose square it is not below. -/
theorem least_factor {n : Nat} (hn : 2 ≤ n) : ∃ r, Pr r ∧ r ∣ n := by
  induction n using Nat.strongRecOn with
  | _ n ih =>
    by_cases h : Pr n
    · exact ⟨n, h, Nat.dvd_refl n⟩
    · have : ∃ d, d ∣ n ∧ d ≠ 1 ∧ d ≠ n := by
        refine Classical.byContradiction fun hc => h ⟨hn, fun d hd => ?_⟩
        by_cases h1 : d = 1
        · exact Or.inl h1
        · by_cases h2 : d = n
          · exact Or.inr h2
          · exact absurd ⟨d, hd, h1, h2⟩ hc
      obtain ⟨d, hd, h1, h2⟩ := this
      have hle := Nat.le_of_dvd (by omega) hd
      have h0 : d ≠ 0 := by rintro rfl; have := Nat.eq_zero_of_zero_dvd hd; omega
      obtain ⟨r, hr, hrd⟩ := ih d (by omega) (by omega)
      exact ⟨r, hr, Nat.dvd_trans hrd hd⟩
theorem small_factor {n : Nat} (hn : 2 ≤ n) (h : ¬ Pr n) : ∃ r, Pr r ∧ r ∣ n ∧ r * r ≤ n := by
  have : ∃ d, d ∣ n ∧ d ≠ 1 ∧ d ≠ n := by
    refine Classical.byContradiction fun hc => h ⟨hn, fun d hd => ?_⟩
    by_cases h1 : d = 1
    · exact Or.inl h1
    · by_cases h2 : d = n
      · exact Or.inr h2
      · exact absurd ⟨d, hd, h1, h2⟩ hc
  obtain ⟨d, ⟨c, hc⟩, h1, h2⟩ := this
  have hd0 : 2 ≤ d := by
    rcases d with _ | _ | d
    · simp at hc; omega
    · exact absurd rfl h1
    · omega
  have hc0 : 2 ≤ c := by
    rcases c with _ | _ | c
    · simp at hc; omega
    · simp at hc; exact absurd hc.symm h2
    · omega
  rcases Nat.le_total d c with hle | hle
  · obtain ⟨r, hr, hrd⟩ := least_factor hd0
    have := Nat.le_of_dvd (by omega) hrd
    exact ⟨r, hr, Nat.dvd_trans hrd ⟨c, hc⟩, by rw [hc]; exact Nat.mul_le_mul this (Nat.le_trans this hle)⟩
  · obtain ⟨r, hr, hrd⟩ := least_factor hc0
    have := Nat.le_of_dvd (by omega) hrd
    exact ⟨r, hr, Nat.dvd_trans hrd ⟨d, by rw [Nat.mul_comm]; exact hc⟩, by rw [hc]; exact Nat.mul_le_mul (Nat.le_trans this hle) this⟩

/-- n is prime, if more than its root divides r - 1 for each prime factor r. -/
theorem prime_of {n F : Nat} (hn : 2 ≤ n) (hF : n < (F + 1) * (F + 1)) (h : ∀ r, Pr r → r ∣ n → F ∣ r - 1) : Pr n := by
  refine Classical.byContradiction fun hc => ?_
  obtain ⟨r, hr, hrn, hrr⟩ := small_factor hn hc
  have h2 := hr.1
  have hle : F ≤ r - 1 := Nat.le_of_dvd (by omega) (h r hr hrn)
  have : (F + 1) * (F + 1) ≤ r * r := Nat.mul_le_mul (by omega) (by omega)
  omega

/-- Trial division by d, d + 2, .. -/
def trial (n : Nat) : Nat → Nat → Bool
  | 0, d => Nat.ble (n + 1) (d * d)
  | f + 1, d => bif Nat.beq (n % d) 0 then false else trial n f (d + 2)
theorem trial_ok {n : Nat} : ∀ f d, trial n f d = true → ∀ k, d ≤ k → k % 2 = d % 2 → k * k ≤ n → n % k ≠ 0
  | 0, d, h, k, hk, _, hkn => by
    have h' := Nat.le_of_ble_eq_true h
    have := Nat.mul_le_mul hk hk
    omega
  | f + 1, d, h, k, hk, hp, hkn => by
    rw [trial] at h
    cases hb : Nat.beq (n % d) 0 with
    | true => rw [hb] at h; cases h
    | false =>
      rw [hb, cond_false] at h
      by_cases e : k = d
      · subst e; intro h0; rw [h0] at hb; cases hb
      · exact trial_ok f (d + 2) h k (by omega) (by omega) hkn
theorem prime_trial {n f : Nat} (hn : 2 ≤ n) (h2 : n % 2 = 1) (h : trial n f 3 = true) : Pr n := by
  refine Classical.byContradiction fun hc => ?_
  obtain ⟨r, hr, hrn, hrr⟩ := small_factor hn hc
  have h0 := Nat.mod_eq_zero_of_dvd hrn
  have hr2 := hr.1
  by_cases e : r % 2 = 0
  · have : 2 ∣ n := Nat.dvd_trans (Nat.dvd_of_mod_eq_zero e) hrn
    omega
  · exact trial_ok f 3 h r (by omega) (by omega) hrr h0

def bP : Nat := 2305843009213693951
def bQ : Nat := 2305843009213691579
def bR : Nat := 1152921504606845789

theorem pr_5671741379 : Pr 5671741379 := prime_trial (f := 37655) (by omega) (by omega) (by decide +kernel)
theorem pr_288230376151711447 : Pr 288230376151711447 :=
  prime_of (F := 5671741379) (by omega) (by omega) (pock' (a := 2) (by omega) (by omega) pr_5671741379 (by omega) (by decide +kernel) (by decide +kernel))
theorem pr_R : Pr bR :=
  prime_of (F := 288230376151711447) (by decide) (by decide) (pock' (a := 2) (by decide) (by decide) pr_288230376151711447 (by decide +kernel) (by decide +kernel) (by decide +kernel))
theorem pr_Q : Pr bQ :=
  prime_of (F := bR) (by decide) (by decide) (pock' (a := 2) (by decide) (by decide) pr_R (by decide +kernel) (by decide +kernel) (by decide +kernel))
theorem pr_61 : Pr 61 := prime_trial (f := 3) (by omega) (by omega) (by decide +kernel)
theorem pr_151 : Pr 151 := prime_trial (f := 5) (by omega) (by omega) (by decide +kernel)
theorem pr_331 : Pr 331 := prime_trial (f := 9) (by omega) (by omega) (by decide +kernel)
theorem pr_1321 : Pr 1321 := prime_trial (f := 18) (by omega) (by omega) (by decide +kernel)
theorem pr_P : Pr bP := by
  refine prime_of (F := 61 * (151 * (331 * 1321))) (by decide) (by decide) fun r hr hrn => ?_
  have h1 := pock' (n := bP) (a := 2) (by decide) (by decide) pr_61 (by decide +kernel) (by decide +kernel) (by decide +kernel) r hr hrn
  have h2 := pock' (n := bP) (a := 3) (by decide) (by decide) pr_151 (by decide +kernel) (by decide +kernel) (by decide +kernel) r hr hrn
  have h3 := pock' (n := bP) (a := 3) (by decide) (by decide) pr_331 (by decide +kernel) (by decide +kernel) (by decide +kernel) r hr hrn
  have h4 := pock' (n := bP) (a := 3) (by decide) (by decide) pr_1321 (by decide +kernel) (by decide +kernel) (by decide +kernel) r hr hrn
  exact Nat.Coprime.mul_dvd_of_dvd_of_dvd (by decide +kernel) h1 (Nat.Coprime.mul_dvd_of_dvd_of_dvd (by decide +kernel) h2 (Nat.Coprime.mul_dvd_of_dvd_of_dvd (by decide +kernel) h3 h4))
#print axioms pr_P
#print axioms pr_Q
end Go.Proofs.Ytbomfnlipbdigaa
