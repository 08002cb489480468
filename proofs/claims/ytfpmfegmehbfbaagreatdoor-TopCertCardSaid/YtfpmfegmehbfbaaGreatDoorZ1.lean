/- Parts of the proofs, put together: CtP, Num, CyMath, CyLaw, Lag, ShMath, Div. -/
/- Plain: items as trees, and their bytes; numbers as bytes. No program in sight. -/
namespace Go.Proofs.YtfpmfegmehbfbaaGreatDoor
set_option linter.unusedVariables false
set_option linter.unusedSimpArgs false

/-- An item: bytes under a tag, or items. -/
inductive It where
  | p (tag : Nat) (b : List Nat)
  | s (l : List It)
/-- What stands ahead of an item's content. -/
def itH (tag n : Nat) : List Nat := if n < 128 then [tag, n] else if n < 256 then [tag, 129, n] else [tag, 130, n / 256, n % 256]
mutual
def itB : It → List Nat
  | .p tag b => itH tag b.length ++ b
  | .s l => itH 48 (itsB l).length ++ itsB l
def itsB : List It → List Nat
  | [] => []
  | t :: l => itB t ++ itsB l
end
theorem itB_p (tag : Nat) (b : List Nat) : itB (.p tag b) = itH tag b.length ++ b := by rw [itB]
theorem itB_s (l : List It) : itB (.s l) = itH 48 (itsB l).length ++ itsB l := by rw [itB]
theorem itsB_nil : itsB [] = [] := by rw [itsB]
theorem itsB_cons (t : It) (l : List It) : itsB (t :: l) = itB t ++ itsB l := by rw [itsB]
theorem itsB_append (l m : List It) : itsB (l ++ m) = itsB l ++ itsB m := by
  induction l with
  | nil => simp [itsB_nil]
  | cons t l ih => simp [itsB_cons, ih]
theorem itH_len (tag n : Nat) : 2 ≤ (itH tag n).length ∧ (itH tag n).length ≤ 4 := by
  unfold itH
  split
  · simp
  · split <;> simp
theorem itB_pos (t : It) : 2 ≤ (itB t).length := by
  cases t with
  | p tag b => rw [itB_p, List.length_append]; have := (itH_len tag b.length).1; omega
  | s l => rw [itB_s, List.length_append]; have := (itH_len 48 (itsB l).length).1; omega
/-- Are they an int's bytes, as few as there have to be? -/
def leastF : List Nat → Bool
  | [] => false
  | [_] => true
  | x :: y :: t => decide (t.length ≤ 6) && (x != (256 - y / 128) % 256)
/-- What bytes under a tag may be (octets left out). -/
def primOk (tag : Nat) (b : List Nat) : Prop :=
  (∀ x ∈ b, x < 256) ∧ ((tag = 1 ∧ (b = [0] ∨ b = [255])) ∨ (tag = 2 ∧ leastF b = true) ∨ (tag = 12 ∧ ∀ x ∈ b, 32 ≤ x ∧ x ≤ 126))
/-- May an item be, that is so deep at most? -/
def itOk : Nat → It → Prop
  | 0, _ => False
  | _ + 1, .p tag b => primOk tag b
  | d + 1, .s l => ∀ t ∈ l, itOk d t
theorem itOk_up : ∀ {d : Nat} {t : It}, itOk d t → itOk (d + 1) t
  | 0, _, h => h.elim
  | _ + 1, .p _ _, h => h
  | _ + 1, .s _, h => fun t ht => itOk_up (h t ht)
theorem itOk_le {d e : Nat} {t : It} (h : itOk d t) (hd : d ≤ e) : itOk e t := by
  induction hd with
  | refl => exact h
  | step _ ih => exact itOk_up ih
theorem primOk_tag {tag : Nat} {b : List Nat} (h : primOk tag b) : tag = 1 ∨ tag = 2 ∨ tag = 12 := by
  rcases h.2 with h | h | h
  · exact .inl h.1
  · exact .inr (.inl h.1)
  · exact .inr (.inr h.1)
theorem itH_byte {tag n : Nat} (ht : tag < 256) (hn : n < 65536) : ∀ x ∈ itH tag n, x < 256 := by
  intro x hx
  unfold itH at hx
  split at hx
  · simp at hx; omega
  · split at hx
    · simp at hx; omega
    · simp at hx; omega
theorem part_le {l : List It} {t : It} (h : t ∈ l) : (itB t).length ≤ (itsB l).length := by
  induction l with
  | nil => simp at h
  | cons u l ih =>
    rw [itsB_cons, List.length_append]
    rcases List.mem_cons.1 h with rfl | h
    · omega
    · have := ih h; omega
theorem itB_byte : ∀ {d : Nat} {t : It}, itOk d t → (itB t).length < 65536 → ∀ x ∈ itB t, x < 256
  | 0, _, h, _ => h.elim
  | _ + 1, .p tag b, h, hl => by
    rw [itB_p, List.length_append] at hl
    rw [itB_p]
    intro x hx
    rcases List.mem_append.1 hx with hx | hx
    · exact itH_byte (by rcases primOk_tag h with h | h | h <;> omega) (by omega) x hx
    · exact h.1 x hx
  | d + 1, .s l, h, hl => by
    rw [itB_s, List.length_append] at hl
    rw [itB_s]
    intro x hx
    rcases List.mem_append.1 hx with hx | hx
    · exact itH_byte (by omega) (by omega) x hx
    · have hd : ∀ (m : List It), (∀ t ∈ m, t ∈ l) → ∀ x ∈ itsB m, x < 256 := by
        intro m
        induction m with
        | nil => intro _ x hx; rw [itsB_nil] at hx; simp at hx
        | cons u m ih =>
          intro hm x hx
          rw [itsB_cons] at hx
          rcases List.mem_append.1 hx with hx | hx
          · have hu := hm u (List.mem_cons_self ..)
            exact itB_byte (h u hu) (by have := part_le hu; omega) x hx
          · exact ih (fun t ht => hm t (List.mem_cons_of_mem _ ht)) x hx
      exact hd l (fun _ h => h) x hx

/- Numbers. -/
def beV (l : List Nat) : Nat := l.foldl (fun n x => n * 256 + x) 0
def stripB : List Nat → List Nat
  | [] => []
  | [x] => [x]
  | x :: y :: t => if leastF (x :: y :: t) then x :: y :: t else stripB (y :: t)
def ctB8 (n : Nat) : List Nat := [n / 72057594037927936 % 256, n / 281474976710656 % 256, n / 1099511627776 % 256, n / 4294967296 % 256, n / 16777216 % 256, n / 65536 % 256, n / 256 % 256, n % 256]
def intB (n : Nat) : List Nat := stripB (ctB8 n)
theorem ctB8_v {n : Nat} (h : n < 9223372036854775808) : beV (ctB8 n) = n := by
  unfold ctB8 beV
  simp only [List.foldl]
  omega
theorem be_zero (y : Nat) (t : List Nat) : beV (0 :: y :: t) = beV (y :: t) := by simp [beV]
/-- What is stripped is noughts, as long as the first byte has no sign. -/
theorem strip_all : ∀ (l : List Nat), l ≠ [] → l.length ≤ 8 → (∀ x ∈ l, x < 256) → (∀ x ∈ l.head?, x < 128) →
    leastF (stripB l) = true ∧ beV (stripB l) = beV l ∧ (∀ x ∈ stripB l, x < 256) ∧ (stripB l).length ≤ 8 ∧ stripB l ≠ [] ∧ (∀ x ∈ (stripB l).head?, x < 128)
  | [], h, _, _, _ => absurd rfl h
  | [x], _, _, hb, hh => ⟨rfl, rfl, hb, by simp [stripB], by simp [stripB], hh⟩
  | x :: y :: t, _, hl, hb, hh => by
    have hx : x < 128 := hh x rfl
    have hy : y < 256 := hb y (by simp)
    by_cases h : leastF (x :: y :: t) = true
    · rw [stripB, if_pos h]
      exact ⟨h, rfl, hb, hl, by simp, hh⟩
    · rw [stripB, if_neg h]
      have h6 : t.length ≤ 6 := by simp at hl; omega
      have hx0 : x = 0 ∧ y < 128 := by
        unfold leastF at h
        simp [h6] at h
        have h2 : y / 128 = 0 ∨ y / 128 = 1 := by omega
        rcases h2 with h2 | h2 <;> rw [h2] at h <;> omega
      obtain ⟨rfl, hy1⟩ := hx0
      have := strip_all (y :: t) (by simp) (by simp at hl ⊢; omega) (fun z hz => hb z (List.mem_cons_of_mem _ hz)) (fun z hz => by simp at hz; omega)
      rw [be_zero]
      exact this
theorem strip_least {l : List Nat} (h : leastF l = true) : stripB l = l := by
  match l, h with
  | [x], _ => rfl
  | x :: y :: t, h => rw [stripB, if_pos h]
theorem strip_tail {x y : Nat} {t : List Nat} (h : leastF (x :: y :: t) = false) : stripB (x :: y :: t) = stripB (y :: t) := by rw [stripB, if_neg (by rw [h]; decide)]
theorem ctB8_byte (n : Nat) : ∀ x ∈ ctB8 n, x < 256 := by
  intro x hx
  simp [ctB8] at hx
  omega
theorem intB_all {n : Nat} (h : n < 9223372036854775808) : leastF (intB n) = true ∧ beV (intB n) = n ∧ (∀ x ∈ intB n, x < 256) ∧ (intB n).length ≤ 8 ∧ intB n ≠ [] ∧ (∀ x ∈ (intB n).head?, x < 128) := by
  have := strip_all (ctB8 n) (by simp [ctB8]) (by simp [ctB8]) (ctB8_byte n) (fun x hx => by simp [ctB8] at hx; omega)
  rw [ctB8_v h] at this
  exact this
theorem intB_ok {n : Nat} (h : n < 9223372036854775808) : primOk 2 (intB n) := ⟨(intB_all h).2.2.1, .inr (.inl ⟨rfl, (intB_all h).1⟩)⟩
/-- What int's bytes say, from the second one on. -/
theorem be_fold (l : List Nat) : ∀ a : Nat, l.foldl (fun n x => n * 256 + x) a = a * 256 ^ l.length + beV l := by
  induction l with
  | nil => intro a; simp [beV]
  | cons x l ih =>
    intro a
    have h1 := ih (a * 256 + x)
    have h2 := ih x
    unfold beV at *
    simp only [List.foldl, List.length_cons] at *
    rw [h1]
    simp only [Nat.zero_mul, Nat.zero_add] at *
    rw [h2, Nat.pow_succ, Nat.add_mul, Nat.mul_assoc, Nat.mul_comm 256 (256 ^ l.length)]
    omega
theorem be_snoc (l : List Nat) (x : Nat) : beV (l ++ [x]) = beV l * 256 + x := by simp [beV]
theorem beV_lt : ∀ (l : List Nat), (∀ x ∈ l, x < 256) → beV l < 256 ^ l.length := by
  intro l
  induction l with
  | nil => intro _; simp [beV]
  | cons x l ih =>
    intro h
    have h1 := ih (fun y hy => h y (List.mem_cons_of_mem _ hy))
    have h2 : x < 256 := h x (List.mem_cons_self ..)
    have h3 := be_fold l x
    have h4 : beV (x :: l) = x * 256 ^ l.length + beV l := by rw [← h3]; simp [beV]
    rw [h4, List.length_cons, Nat.pow_succ]
    have := Nat.mul_le_mul_right (256 ^ l.length) (show x + 1 ≤ 256 by omega)
    rw [Nat.add_mul, Nat.one_mul, Nat.mul_comm 256] at this
    omega
end Go.Proofs.YtfpmfegmehbfbaaGreatDoor

/- Plain number theory, no program in sight: Fermat's little theorem, Pocklington's test, and that P, Q, R are prime. -/
namespace Go.Proofs.YtfpmfegmehbfbaaGreatDoor
/-- A prime number. -/
def Pr (p : Nat) : Prop := 2 ≤ p ∧ ∀ d, d ∣ p → d = 1 ∨ d = p

def ch : Nat → Nat → Nat
  | _, 0 => 1
  | 0, _ + 1 => 0
  | n + 1, k + 1 => ch n k + ch n (k + 1)
def sm (f : Nat → Nat) : Nat → Nat
  | 0 => 0
  | n + 1 => sm f n + f n

theorem ch_zero (n : Nat) : ch n 0 = 1 := by cases n <;> rfl
theorem ch_big : ∀ n k, n < k → ch n k = 0
  | 0, 0, h => by omega
  | 0, _ + 1, _ => rfl
  | n + 1, 0, h => by omega
  | n + 1, k + 1, h => by
    show ch n k + ch n (k + 1) = 0
    rw [ch_big n k (by omega), ch_big n (k + 1) (by omega)]
theorem ch_self : ∀ n, ch n n = 1
  | 0 => rfl
  | n + 1 => by
    show ch n n + ch n (n + 1) = 1
    rw [ch_self n, ch_big n (n + 1) (by omega)]
theorem ch_mul : ∀ n k, (k + 1) * ch (n + 1) (k + 1) = (n + 1) * ch n k
  | 0, 0 => rfl
  | 0, k + 1 => by
    show (k + 2) * (ch 0 (k + 1) + ch 0 (k + 2)) = 1 * ch 0 (k + 1)
    simp [ch]
  | n + 1, 0 => by
    have h := ch_mul n 0
    show (0 + 1) * (ch (n + 1) 0 + ch (n + 1) 1) = (n + 2) * ch (n + 1) 0
    rw [ch_zero] at *
    simp at h ⊢
    rw [h]; omega
  | n + 1, k + 1 => by
    have h1 := ch_mul n k
    have h2 := ch_mul n (k + 1)
    show (k + 1 + 1) * (ch (n + 1) (k + 1) + ch (n + 1) (k + 2)) = (n + 2) * ch (n + 1) (k + 1)
    have e : ch (n + 1) (k + 1) = ch n k + ch n (k + 1) := rfl
    have e2 : ch (n + 1) (k + 1 + 1) = ch n (k + 1) + ch n (k + 2) := rfl
    grind

theorem sm_congr {f g : Nat → Nat} (n : Nat) (h : ∀ k, k < n → f k = g k) : sm f n = sm g n := by
  induction n with
  | zero => rfl
  | succ n ih => rw [sm, sm, ih (fun k hk => h k (by omega)), h n (by omega)]
theorem sm_shift (f : Nat → Nat) (n : Nat) : sm f (n + 1) = f 0 + sm (fun k => f (k + 1)) n := by
  induction n with
  | zero => simp [sm]
  | succ n ih => rw [sm, ih, sm]; omega
theorem sm_add (f g : Nat → Nat) (n : Nat) : sm (fun k => f k + g k) n = sm f n + sm g n := by
  induction n with
  | zero => rfl
  | succ n ih => rw [sm, sm, sm, ih]; omega
theorem sm_mul (f : Nat → Nat) (a n : Nat) : sm (fun k => a * f k) n = a * sm f n := by
  induction n with
  | zero => rfl
  | succ n ih => rw [sm, sm, ih, Nat.mul_add]
theorem sm_dvd (f : Nat → Nat) (p n : Nat) (h : ∀ k, k < n → p ∣ f k) : p ∣ sm f n := by
  induction n with
  | zero => exact Nat.dvd_zero p
  | succ n ih => exact Nat.dvd_add (ih (fun k hk => h k (by omega))) (h n (by omega))

theorem binom (a n : Nat) : (a + 1) ^ n = sm (fun k => ch n k * a ^ k) (n + 1) := by
  induction n with
  | zero => simp [sm, ch]
  | succ n ih =>
    have e1 : sm (fun k => ch (n + 1) k * a ^ k) (n + 1 + 1) = 1 + sm (fun k => ch n k * a ^ (k + 1) + ch n (k + 1) * a ^ (k + 1)) (n + 1) := by
      rw [sm_shift]
      simp only [ch_zero, Nat.pow_zero, Nat.mul_one]
      congr 1
      exact sm_congr _ (fun k _ => by show (ch n k + ch n (k + 1)) * _ = _; rw [Nat.add_mul])
    have e2 : sm (fun k => ch n k * a ^ k) (n + 1) = 1 + sm (fun k => ch n (k + 1) * a ^ (k + 1)) (n + 1) := by
      have h : sm (fun k => ch n k * a ^ k) (n + 1 + 1) = sm (fun k => ch n k * a ^ k) (n + 1) := by
        rw [sm, ch_big n (n + 1) (by omega)]; omega
      rw [← h, sm_shift]
      simp [ch_zero]
    have e3 : sm (fun k => ch n k * a ^ (k + 1)) (n + 1) = a * sm (fun k => ch n k * a ^ k) (n + 1) := by
      rw [← sm_mul]
      exact sm_congr _ (fun k _ => by rw [Nat.pow_succ]; grind)
    rw [e1, sm_add, e3, Nat.pow_succ, ih]
    generalize hX : sm (fun k => ch n k * a ^ k) (n + 1) = X at *
    generalize hY : sm (fun k => ch n (k + 1) * a ^ (k + 1)) (n + 1) = Y at *
    rw [Nat.mul_add, Nat.mul_comm X a]; omega

theorem Pr.cop {p a : Nat} (hp : Pr p) (h : ¬ p ∣ a) : Nat.Coprime p a := by
  have := hp.2 (Nat.gcd p a) (Nat.gcd_dvd_left p a)
  rcases this with h1 | h1
  · exact h1
  · exact absurd (h1 ▸ Nat.gcd_dvd_right p a) h
theorem Pr.mul {p a b : Nat} (hp : Pr p) (h : p ∣ a * b) : p ∣ a ∨ p ∣ b := by
  by_cases ha : p ∣ a
  · exact Or.inl ha
  · exact Or.inr ((hp.cop ha).dvd_of_dvd_mul_left h)
theorem Pr.pow {p a n : Nat} (hp : Pr p) (h : p ∣ a ^ n) : p ∣ a := by
  induction n with
  | zero => rw [Nat.pow_zero] at h; have := Nat.le_of_dvd (by omega) h; have := hp.1; omega
  | succ n ih => rw [Nat.pow_succ] at h; rcases hp.mul h with h | h; exact ih h; exact h

theorem Pr.choose {p k : Nat} (hp : Pr p) (h0 : 0 < k) (h1 : k < p) : p ∣ ch p k := by
  obtain ⟨q, rfl⟩ : ∃ q, p = q + 1 := ⟨p - 1, by omega⟩
  obtain ⟨j, rfl⟩ : ∃ j, k = j + 1 := ⟨k - 1, by omega⟩
  have h := ch_mul q j
  have hd : q + 1 ∣ (j + 1) * ch (q + 1) (j + 1) := ⟨_, h⟩
  rcases hp.mul hd with h2 | h2
  · have := Nat.le_of_dvd (by omega) h2; omega
  · exact h2

theorem fermat0 {p : Nat} (hp : Pr p) (a : Nat) : a ^ p % p = a % p := by
  have h2 := hp.1
  induction a with
  | zero => rw [Nat.zero_pow (by omega)]
  | succ a ih =>
    obtain ⟨q, rfl⟩ : ∃ q, p = q + 1 := ⟨p - 1, by omega⟩
    rw [binom, sm, sm_shift, ch_zero, ch_self, Nat.pow_zero]
    have hd := sm_dvd (fun k => ch (q + 1) (k + 1) * a ^ (k + 1)) (q + 1) q (fun k hk => Nat.dvd_mul_right_of_dvd (hp.choose (by omega) (by omega)) _)
    obtain ⟨t, ht⟩ := hd
    rw [ht, show 1 * 1 + (q + 1) * t + 1 * a ^ (q + 1) = a ^ (q + 1) + 1 + (q + 1) * t by omega, Nat.add_mul_mod_self_left, Nat.add_mod, ih, ← Nat.add_mod]

/-- FERMAT. -/
theorem fermat {p a : Nat} (hp : Pr p) (h : a % p ≠ 0) : a ^ (p - 1) % p = 1 := by
  have h2 := hp.1
  have hf := fermat0 hp a
  have hna : ¬ p ∣ a := fun hd => h (Nat.mod_eq_zero_of_dvd hd)
  have ha : 0 < a := by rcases Nat.eq_zero_or_pos a with rfl | h'; simp at h; exact h'
  have hpos : 0 < a ^ (p - 1) := Nat.pow_pos ha
  have e : a ^ p = a * a ^ (p - 1) := by rw [← Nat.pow_succ']; congr 1; omega
  have hd : p ∣ a * (a ^ (p - 1) - 1) := by
    rw [Nat.mul_sub, ← e, Nat.mul_one]
    exact Nat.dvd_of_mod_eq_zero (Nat.sub_mod_eq_zero_of_mod_eq hf)
  have hd2 := (hp.cop hna).dvd_of_dvd_mul_left hd
  obtain ⟨t, ht⟩ := hd2
  have : a ^ (p - 1) = 1 + p * t := by omega
  rw [this, Nat.add_mul_mod_self_left]
  exact Nat.mod_eq_of_lt (by omega)

/-! ### powers, reckoned -/
/-- a to the n, modulo m, by squaring; f: more than n has bits. -/
def pwm (m : Nat) : Nat → Nat → Nat → Nat
  | 0, _, _ => 1 % m
  | f + 1, a, n => bif n == 0 then 1 % m else bif n % 2 == 1 then a * pwm m f (a * a % m) (n / 2) % m else pwm m f (a * a % m) (n / 2)
theorem pwm_eq (m : Nat) : ∀ f a n, n < 2 ^ f → pwm m f a n = a ^ n % m
  | 0, a, n, h => by
    obtain rfl : n = 0 := by simpa using h
    simp [pwm]
  | f + 1, a, n, h => by
    have ih := pwm_eq m f (a * a % m) (n / 2) (by rw [Nat.pow_succ] at h; omega)
    rw [pwm]
    by_cases h0 : n = 0
    · subst h0; simp
    · have e : (n == 0) = false := by simpa using h0
      rw [e, cond_false, ih, ← Nat.pow_mod, ← Nat.pow_two, ← Nat.pow_mul]
      by_cases h1 : n % 2 = 1
      · have e1 : (n % 2 == 1) = true := by simpa using h1
        have hn : n = 2 * (n / 2) + 1 := by omega
        rw [e1, cond_true]
        conv => rhs; rw [hn, Nat.pow_succ, Nat.mul_comm]
        simp [Nat.mul_mod]
      · have e1 : (n % 2 == 1) = false := by simpa using h1
        have hn : n = 2 * (n / 2) := by omega
        rw [e1, cond_false]
        conv => rhs; rw [hn]

/-! ### orders -/
theorem pow_mod_one {m b : Nat} (hm : 1 < m) (h : b % m = 1) (k : Nat) : b ^ k % m = 1 := by
  rw [Nat.pow_mod, h, Nat.one_pow, Nat.mod_eq_of_lt hm]
theorem pow_split {m b x y : Nat} (hx : b ^ x % m = 1) (h : b ^ (x + y) % m = 1) : b ^ y % m = 1 := by
  rw [Nat.pow_add, Nat.mul_mod, hx, Nat.one_mul, Nat.mod_mod] at h; exact h
theorem pow_gcd {m b : Nat} (hm : 1 < m) (x y : Nat) (hx : b ^ x % m = 1) (hy : b ^ y % m = 1) : b ^ Nat.gcd x y % m = 1 := by
  induction x, y using Nat.gcd.induction with
  | H0 y => rw [Nat.gcd_zero_left]; exact hy
  | H1 x y h ih =>
    rw [Nat.gcd_rec]
    refine ih ?_ hx
    have e : x * (y / x) + y % x = y := Nat.div_add_mod y x
    rw [← e] at hy
    exact pow_split (by rw [Nat.pow_mul]; exact pow_mod_one hm hx _) hy

/-- If b to the q is 1 modulo the prime p, and b is not, the prime q divides p - 1. -/
theorem ord_dvd {p q b : Nat} (hp : Pr p) (hq : Pr q) (h : b ^ q % p = 1) (h1 : b % p ≠ 1) : q ∣ p - 1 := by
  refine Classical.byContradiction fun hn => h1 ?_
  have hp2 : 1 < p := hp.1
  have hb : b % p ≠ 0 := by
    intro h0
    have : b ^ q % p = 0 := by
      rw [Nat.pow_mod, h0, Nat.zero_pow (by have := hq.1; omega)]; simp
    omega
  have hf := fermat hp hb
  have hg := pow_gcd hp2 q (p - 1) h hf
  rw [hq.cop hn] at hg
  simpa using hg

/-- A prime factor of n - 1 divides r - 1, for each prime factor r of n. -/
theorem pock {n q a : Nat} (hn : 1 < n) (hq : Pr q) (hqn : q ∣ n - 1) (h1 : a ^ (n - 1) % n = 1) (hg : Nat.gcd (a ^ ((n - 1) / q) % n + n - 1) n = 1) (r : Nat) (hr : Pr r) (hrn : r ∣ n) : q ∣ r - 1 := by
  obtain ⟨k, hk⟩ := hqn
  have hq0 : 0 < q := by have := hq.1; omega
  have e : (n - 1) / q = k := by rw [hk]; exact Nat.mul_div_cancel_left k hq0
  rw [e] at hg
  have hr2 := hr.1
  have hm : ∀ x, x % n % r = x % r := fun x => Nat.mod_mod_of_dvd x hrn
  refine ord_dvd (b := a ^ k) hr hq ?_ ?_
  · rw [← Nat.pow_mul, Nat.mul_comm, ← hk, ← hm, h1, Nat.mod_eq_of_lt (by omega)]
  · intro h
    have hd : r ∣ a ^ k % n + n - 1 := by
      have h' : a ^ k % n % r = 1 := by rw [hm]; exact h
      have e1 : a ^ k % n = r * (a ^ k % n / r) + 1 := by have := Nat.div_add_mod (a ^ k % n) r; omega
      have e2 : a ^ k % n + n - 1 = r * (a ^ k % n / r) + n := by omega
      rw [e2]; exact Nat.dvd_add (Nat.dvd_mul_right _ _) hrn
    have := Nat.dvd_gcd hd hrn
    rw [hg] at this
    have := Nat.le_of_dvd (by omega) this
    omega

/-- The same, the powers reckoned. -/
theorem pock' {n q a : Nat} (hn : 1 < n) (hn2 : n < 18446744073709551616) (hq : Pr q) (hqn : q ∣ n - 1) (h1 : pwm n 64 a (n - 1) = 1) (hg : Nat.gcd (pwm n 64 a ((n - 1) / q) + n - 1) n = 1) (r : Nat) (hr : Pr r) (hrn : r ∣ n) : q ∣ r - 1 := by
  have e : (2 : Nat) ^ 64 = 18446744073709551616 := rfl
  rw [pwm_eq _ _ _ _ (by omega)] at h1
  rw [pwm_eq _ _ _ _ (by have := Nat.div_le_self (n - 1) q; omega)] at hg
  exact pock hn hq hqn h1 hg r hr hrn

/-- A number that is not prime has a prime factor whose square it is not below. -/
theorem least_factor {n : Nat} (hn : 2 ≤ n) : ∃ r, Pr r ∧ r ∣ n := by
  induction n using Nat.strongRecOn with
  | _ n ih =>
    by_cases h : Pr n
    · exact ⟨n, h, Nat.dvd_refl n⟩
    · have : ∃ d, d ∣ n ∧ d ≠ 1 ∧ d ≠ n := by
        refine Classical.byContradiction fun hc => h ⟨hn, fun d hd => ?_⟩
        by_cases h1 : d = 1
        · exact Or.inl h1
        · by_cases h2 : d = n
          · exact Or.inr h2
          · exact absurd ⟨d, hd, h1, h2⟩ hc
      obtain ⟨d, hd, h1, h2⟩ := this
      have hle := Nat.le_of_dvd (by omega) hd
      have h0 : d ≠ 0 := by rintro rfl; have := Nat.eq_zero_of_zero_dvd hd; omega
      obtain ⟨r, hr, hrd⟩ := ih d (by omega) (by omega)
      exact ⟨r, hr, Nat.dvd_trans hrd hd⟩
theorem small_factor {n : Nat} (hn : 2 ≤ n) (h : ¬ Pr n) : ∃ r, Pr r ∧ r ∣ n ∧ r * r ≤ n := by
  have : ∃ d, d ∣ n ∧ d ≠ 1 ∧ d ≠ n := by
    refine Classical.byContradiction fun hc => h ⟨hn, fun d hd => ?_⟩
    by_cases h1 : d = 1
    · exact Or.inl h1
    · by_cases h2 : d = n
      · exact Or.inr h2
      · exact absurd ⟨d, hd, h1, h2⟩ hc
  obtain ⟨d, ⟨c, hc⟩, h1, h2⟩ := this
  have hd0 : 2 ≤ d := by
    rcases d with _ | _ | d
    · simp at hc; omega
    · exact absurd rfl h1
    · omega
  have hc0 : 2 ≤ c := by
    rcases c with _ | _ | c
    · simp at hc; omega
    · simp at hc; exact absurd hc.symm h2
    · omega
  rcases Nat.le_total d c with hle | hle
  · obtain ⟨r, hr, hrd⟩ := least_factor hd0
    have := Nat.le_of_dvd (by omega) hrd
    exact ⟨r, hr, Nat.dvd_trans hrd ⟨c, hc⟩, by rw [hc]; exact Nat.mul_le_mul this (Nat.le_trans this hle)⟩
  · obtain ⟨r, hr, hrd⟩ := least_factor hc0
    have := Nat.le_of_dvd (by omega) hrd
    exact ⟨r, hr, Nat.dvd_trans hrd ⟨d, by rw [Nat.mul_comm]; exact hc⟩, by rw [hc]; exact Nat.mul_le_mul (Nat.le_trans this hle) this⟩

/-- n is prime, if more than its root divides r - 1 for each prime factor r. -/
theorem prime_of {n F : Nat} (hn : 2 ≤ n) (hF : n < (F + 1) * (F + 1)) (h : ∀ r, Pr r → r ∣ n → F ∣ r - 1) : Pr n := by
  refine Classical.byContradiction fun hc => ?_
  obtain ⟨r, hr, hrn, hrr⟩ := small_factor hn hc
  have h2 := hr.1
  have hle : F ≤ r - 1 := Nat.le_of_dvd (by omega) (h r hr hrn)
  have : (F + 1) * (F + 1) ≤ r * r := Nat.mul_le_mul (by omega) (by omega)
  omega

/-- Trial division by d, d + 2, .. -/
def trial (n : Nat) : Nat → Nat → Bool
  | 0, d => Nat.ble (n + 1) (d * d)
  | f + 1, d => bif Nat.beq (n % d) 0 then false else trial n f (d + 2)
theorem trial_ok {n : Nat} : ∀ f d, trial n f d = true → ∀ k, d ≤ k → k % 2 = d % 2 → k * k ≤ n → n % k ≠ 0
  | 0, d, h, k, hk, _, hkn => by
    have h' := Nat.le_of_ble_eq_true h
    have := Nat.mul_le_mul hk hk
    omega
  | f + 1, d, h, k, hk, hp, hkn => by
    rw [trial] at h
    cases hb : Nat.beq (n % d) 0 with
    | true => rw [hb] at h; cases h
    | false =>
      rw [hb, cond_false] at h
      by_cases e : k = d
      · subst e; intro h0; rw [h0] at hb; cases hb
      · exact trial_ok f (d + 2) h k (by omega) (by omega) hkn
theorem prime_trial {n f : Nat} (hn : 2 ≤ n) (h2 : n % 2 = 1) (h : trial n f 3 = true) : Pr n := by
  refine Classical.byContradiction fun hc => ?_
  obtain ⟨r, hr, hrn, hrr⟩ := small_factor hn hc
  have h0 := Nat.mod_eq_zero_of_dvd hrn
  have hr2 := hr.1
  by_cases e : r % 2 = 0
  · have : 2 ∣ n := Nat.dvd_trans (Nat.dvd_of_mod_eq_zero e) hrn
    omega
  · exact trial_ok f 3 h r (by omega) (by omega) hrr h0

def bP : Nat := 2305843009213693951
def bQ : Nat := 2305843009213691579
def bR : Nat := 1152921504606845789

theorem pr_5671741379 : Pr 5671741379 := prime_trial (f := 37655) (by omega) (by omega) (by decide +kernel)
theorem pr_288230376151711447 : Pr 288230376151711447 :=
  prime_of (F := 5671741379) (by omega) (by omega) (pock' (a := 2) (by omega) (by omega) pr_5671741379 (by omega) (by decide +kernel) (by decide +kernel))
theorem pr_R : Pr bR :=
  prime_of (F := 288230376151711447) (by decide) (by decide) (pock' (a := 2) (by decide) (by decide) pr_288230376151711447 (by decide +kernel) (by decide +kernel) (by decide +kernel))
theorem pr_Q : Pr bQ :=
  prime_of (F := bR) (by decide) (by decide) (pock' (a := 2) (by decide) (by decide) pr_R (by decide +kernel) (by decide +kernel) (by decide +kernel))
theorem pr_61 : Pr 61 := prime_trial (f := 3) (by omega) (by omega) (by decide +kernel)
theorem pr_151 : Pr 151 := prime_trial (f := 5) (by omega) (by omega) (by decide +kernel)
theorem pr_331 : Pr 331 := prime_trial (f := 9) (by omega) (by omega) (by decide +kernel)
theorem pr_1321 : Pr 1321 := prime_trial (f := 18) (by omega) (by omega) (by decide +kernel)
theorem pr_P : Pr bP := by
  refine prime_of (F := 61 * (151 * (331 * 1321))) (by decide) (by decide) fun r hr hrn => ?_
  have h1 := pock' (n := bP) (a := 2) (by decide) (by decide) pr_61 (by decide +kernel) (by decide +kernel) (by decide +kernel) r hr hrn
  have h2 := pock' (n := bP) (a := 3) (by decide) (by decide) pr_151 (by decide +kernel) (by decide +kernel) (by decide +kernel) r hr hrn
  have h3 := pock' (n := bP) (a := 3) (by decide) (by decide) pr_331 (by decide +kernel) (by decide +kernel) (by decide +kernel) r hr hrn
  have h4 := pock' (n := bP) (a := 3) (by decide) (by decide) pr_1321 (by decide +kernel) (by decide +kernel) (by decide +kernel) r hr hrn
  exact Nat.Coprime.mul_dvd_of_dvd_of_dvd (by decide +kernel) h1 (Nat.Coprime.mul_dvd_of_dvd_of_dvd (by decide +kernel) h2 (Nat.Coprime.mul_dvd_of_dvd_of_dvd (by decide +kernel) h3 h4))
#print axioms pr_P
#print axioms pr_Q
end Go.Proofs.YtfpmfegmehbfbaaGreatDoor

/- Plain: what the functions of the layer 'cyclic' come to. No program in sight. -/
namespace Go.Proofs.YtfpmfegmehbfbaaGreatDoor

def mulM (m a b : Nat) : Nat := a * b % m
def addM (m a b : Nat) : Nat := (a + b) % m
def powM (m a n : Nat) : Nat := a ^ n % m
/-- The inverse; 0 of a multiple of m. -/
def invM (m a : Nat) : Nat := if a % m = 0 then 0 else a ^ (m - 2) % m
/-- ErrZero, or OK. -/
def invE (m a : Nat) : Nat := if a % m = 0 then 10 else 0
def inB (x : Nat) : Bool := decide (0 < x) && decide (x < bQ) && powM bQ x bR == 1

/-! ### the powers' loop, the highest bit first -/
def upto {α : Type} (f : Nat → α) (k : Nat) : List α := (List.range k).map f
theorem upto_succ {α : Type} (f : Nat → α) (k : Nat) : upto f (k + 1) = upto f k ++ [f k] := by simp [upto, List.range_succ]
theorem upto_length {α : Type} (f : Nat → α) (k : Nat) : (upto f k).length = k := by simp [upto]

def stepM (m a out : Nat) (b : Bool) : Nat := if b then out * out % m * a % m else out * out % m
def horner (m a : Nat) (bs : List Bool) : Nat := bs.foldl (stepM m a) 1
theorem horner_snoc (m a : Nat) (bs : List Bool) (b : Bool) : horner m a (bs ++ [b]) = stepM m a (horner m a bs) b := by simp [horner]

theorem stepM_pow (m a e : Nat) (b : Bool) : stepM m a (a ^ e % m) b = a ^ (2 * e + b.toNat) % m := by
  have h : a ^ e % m * (a ^ e % m) % m = a ^ (2 * e) % m := by rw [← Nat.mul_mod, ← Nat.pow_add]; congr 2; omega
  cases b with
  | false => simp [stepM, h]
  | true =>
    simp only [stepM, h, if_true, Bool.toNat_true]
    rw [Nat.pow_succ, Nat.mul_mod, Nat.mod_mod, ← Nat.mul_mod]

theorem and_two_pow (x j : Nat) : x &&& 2 ^ j = (x.testBit j).toNat * 2 ^ j := by
  refine Nat.eq_of_testBit_eq fun i => ?_
  rw [Nat.testBit_and, Nat.testBit_two_pow]
  by_cases h : j = i
  · subst h
    cases x.testBit j with
    | false => simp
    | true => simp
  · cases x.testBit j with
    | false => simp [h]
    | true => simp [h]

theorem half_bit (n j : Nat) : n / 2 ^ j = 2 * (n / 2 ^ (j + 1)) + (n.testBit j).toNat := by
  have h : (n.testBit j).toNat = n / 2 ^ j % 2 := Nat.toNat_testBit n j
  rw [h, Nat.pow_succ, ← Nat.div_div_eq_div_mul]
  omega

theorem horner_upto (m a n L : Nat) (hm : 1 < m) (hn : n < 2 ^ L) : ∀ k, k ≤ L → horner m a (upto (fun j => n.testBit (L - 1 - j)) k) = a ^ (n / 2 ^ (L - k)) % m
  | 0, _ => by
    rw [Nat.sub_zero, Nat.div_eq_of_lt hn, Nat.pow_zero, Nat.mod_eq_of_lt hm]; rfl
  | k + 1, hk => by
    rw [upto_succ, horner_snoc, horner_upto m a n L hm hn k (by omega), stepM_pow]
    have h := half_bit n (L - 1 - k)
    rw [show L - 1 - k + 1 = L - k by omega] at h
    rw [← h, show L - 1 - k = L - (k + 1) by omega]
theorem horner_all (m a n L : Nat) (hm : 1 < m) (hn : n < 2 ^ L) : horner m a (upto (fun j => n.testBit (L - 1 - j)) L) = powM m a n := by
  rw [horner_upto m a n L hm hn L (Nat.le_refl _)]
  simp [powM]

/-! ### the inverse: the steps of the greatest common divisor -/
/-- x and y are u and v times a, modulo m; u and v are of unlike signs, and small. -/
structure GcdAt (m a x y : Nat) (u v : Int) : Prop where
  xu : (m : Int) ∣ u * a - x
  yv : (m : Int) ∣ v * a - y
  gcd : Nat.gcd x y = 1
  sg : (0 ≤ u ∧ v ≤ 0 ∧ u * y - v * x = m) ∨ (u ≤ 0 ∧ 0 ≤ v ∧ v * x - u * y = m)
  x0 : 0 < x
  xm : x ≤ m
  ym : y ≤ m

theorem GcdAt.start {m a : Nat} (hm : 1 < m) (hp : Pr m) (ha : a % m ≠ 0) : GcdAt m a (a % m) m 1 0 := by
  have hlt : a % m < m := Nat.mod_lt _ (by omega)
  refine ⟨?_, ?_, ?_, Or.inl ⟨by omega, by omega, by omega⟩, by omega, by omega, by omega⟩
  · rw [Int.one_mul]
    have := Nat.div_add_mod a m
    refine ⟨((a / m : Nat) : Int), ?_⟩
    have e : (a : Int) = ((m * (a / m) + a % m : Nat) : Int) := by rw [this]
    have e2 : ((m * (a / m) + a % m : Nat) : Int) = (m : Int) * ((a / m : Nat) : Int) + ((a % m : Nat) : Int) := by simp
    omega
  · exact ⟨-1, by omega⟩
  · rw [Nat.gcd_comm]
    exact hp.cop (fun hd => by have := Nat.le_of_dvd (by omega) hd; omega)

theorem GcdAt.next {m a x y : Nat} {u v : Int} (h : GcdAt m a x y u v) (hy : 0 < y) :
    GcdAt m a y (x - x / y * y) v (u - ((x / y : Nat) : Int) * v) ∧ x / y * y ≤ x ∧ x - x / y * y < y := by
  have hle : x / y * y ≤ x := Nat.div_mul_le_self x y
  have he : x - x / y * y = x % y := by have := Nat.mod_add_div x y; rw [Nat.mul_comm] at this; omega
  have hlt : x % y < y := Nat.mod_lt _ hy
  have hdm : (x : Int) = ((x / y : Nat) : Int) * (y : Int) + ((x % y : Nat) : Int) := by
    have := Nat.div_add_mod x y
    rw [Nat.mul_comm] at this
    have e : ((x / y * y + x % y : Nat) : Int) = ((x / y : Nat) : Int) * (y : Int) + ((x % y : Nat) : Int) := by simp
    omega
  refine ⟨?_, hle, by omega⟩
  rw [he]
  generalize hq : x / y = q at *
  generalize hr : x % y = r at *
  obtain ⟨s, hs⟩ := h.xu
  obtain ⟨t, ht⟩ := h.yv
  refine ⟨h.yv, ⟨s - q * t, ?_⟩, ?_, ?_, hy, h.ym, ?_⟩
  · grind
  · rw [← hr, Nat.gcd_comm, ← Nat.gcd_rec, Nat.gcd_comm]; exact h.gcd
  · have hq0 : (0 : Int) ≤ (q : Int) := by omega
    rcases h.sg with ⟨a1, a2, a3⟩ | ⟨a1, a2, a3⟩
    · right
      refine ⟨a2, ?_, ?_⟩
      · have := Int.mul_nonpos_of_nonneg_of_nonpos hq0 a2; omega
      · grind
    · left
      refine ⟨a2, ?_, ?_⟩
      · have := Int.mul_nonneg hq0 a2; omega
      · grind
  · have := h.ym; omega

theorem GcdAt.bounds {m a x y : Nat} {u v : Int} (h : GcdAt m a x y u v) : -(m : Int) ≤ v ∧ v ≤ m := by
  have h0 := h.x0
  have h1 : (1 : Int) ≤ x := by omega
  rcases h.sg with ⟨a1, a2, a3⟩ | ⟨a1, a2, a3⟩
  · have b1 : 0 ≤ u * (y : Int) := Int.mul_nonneg a1 (by omega)
    have b2 : -v * 1 ≤ -v * (x : Int) := Int.mul_le_mul_of_nonneg_left h1 (by omega)
    rw [Int.neg_mul v x] at b2
    omega
  · have b1 : u * (y : Int) ≤ 0 := Int.mul_nonpos_of_nonpos_of_nonneg a1 (by omega)
    have b2 : v * 1 ≤ v * (x : Int) := Int.mul_le_mul_of_nonneg_left h1 (by omega)
    omega

/-- At the end: u is the inverse. -/
theorem GcdAt.done {m a x : Nat} {u v : Int} (h : GcdAt m a x 0 u v) (hm : 1 < m) (hp : Pr m) (ha : a % m ≠ 0) (hu : -(m : Int) ≤ u ∧ u ≤ m) :
    (u < 0 → 0 ≤ u + m) ∧ (if u < 0 then u + m else u) = ((invM m a : Nat) : Int) := by
  have hx : x = 1 := by have := h.gcd; simpa using this
  subst hx
  have hlt : a ^ (m - 2) % m < m := Nat.mod_lt _ (by omega)
  have hf := fermat hp ha
  refine ⟨fun _ => by omega, ?_⟩
  unfold invM
  rw [if_neg ha]
  -- both times a are 1
  have hd : (m : Int) ∣ (if u < 0 then u + m else u) * a - 1 := by
    have := h.xu
    split
    · obtain ⟨t, ht⟩ := this
      exact ⟨t + a, by rw [Int.add_mul, Int.mul_add]; omega⟩
    · exact this
  have hd2 : (m : Int) ∣ ((a ^ (m - 2) % m : Nat) : Int) * a - 1 := by
    have e : a ^ (m - 2) % m * a % m = 1 := by
      rw [Nat.mul_mod, Nat.mod_mod, ← Nat.mul_mod, ← Nat.pow_succ, show (m - 2).succ = m - 1 by omega]; exact hf
    have := Nat.div_add_mod (a ^ (m - 2) % m * a) m
    rw [e] at this
    refine ⟨((a ^ (m - 2) % m * a / m : Nat) : Int), ?_⟩
    have e2 : ((a ^ (m - 2) % m * a : Nat) : Int) = ((a ^ (m - 2) % m : Nat) : Int) * a := Int.natCast_mul _ _
    have e3 : ((m * (a ^ (m - 2) % m * a / m) + 1 : Nat) : Int) = (m : Int) * ((a ^ (m - 2) % m * a / m : Nat) : Int) + 1 := by rw [Int.natCast_add, Int.natCast_mul]; rfl
    omega
  generalize ha1 : a ^ (m - 2) % m = i at *
  generalize hu1 : (if u < 0 then u + (m : Int) else u) = w at *
  have hw0 : 0 ≤ w ∧ w ≤ m := by subst hu1; split <;> omega
  have hdd : (m : Int) ∣ (w - i) * a := by
    have := Int.dvd_sub hd hd2
    have e : w * (a : Int) - 1 - ((i : Int) * a - 1) = (w - i) * a := by rw [Int.sub_mul]; omega
    rwa [e] at this
  obtain ⟨k, hk⟩ : ∃ k : Nat, (w - i).natAbs = k := ⟨_, rfl⟩
  have hmk : m ∣ k * a := by
    have := Int.natAbs_dvd_natAbs.2 hdd
    rw [Int.natAbs_mul, hk] at this
    simpa using this
  have hna : ¬ m ∣ a := fun hd => ha (Nat.mod_eq_zero_of_dvd hd)
  have hmk2 : m ∣ k := (hp.mul hmk).resolve_right hna
  rcases Nat.eq_zero_or_pos k with h0 | h0
  · omega
  · have := Nat.le_of_dvd h0 hmk2
    -- then w is m and i is 0: but m does not divide 0 - 1
    have hwm : w = m ∧ i = 0 := by omega
    obtain ⟨rfl, rfl⟩ := hwm
    obtain ⟨t, ht⟩ := hd2
    exfalso
    have h1 : (m : Int) ∣ 1 := ⟨-t, by rw [Int.mul_neg]; omega⟩
    have := Int.le_of_dvd (by omega) h1
    omega

end Go.Proofs.YtfpmfegmehbfbaaGreatDoor

/- Plain laws of the layer 'cyclic': a group of prime order, modulo Q; and counting modulo R. No program in sight. -/
namespace Go.Proofs.YtfpmfegmehbfbaaGreatDoor

theorem mulM_lt {m : Nat} (h : 0 < m) (a b : Nat) : mulM m a b < m := Nat.mod_lt _ h
theorem addM_lt' {m : Nat} (h : 0 < m) (a b : Nat) : addM m a b < m := Nat.mod_lt _ h
theorem powM_lt {m : Nat} (h : 0 < m) (a b : Nat) : powM m a b < m := Nat.mod_lt _ h
theorem invM_lt {m : Nat} (h : 0 < m) (a : Nat) : invM m a < m := by
  unfold invM; split
  · exact h
  · exact Nat.mod_lt _ h

theorem mulM_comm (m a b : Nat) : mulM m a b = mulM m b a := by unfold mulM; rw [Nat.mul_comm]
theorem mulM_assoc (m a b c : Nat) : mulM m (mulM m a b) c = mulM m a (mulM m b c) := by
  unfold mulM
  rw [Nat.mul_mod, Nat.mod_mod, ← Nat.mul_mod, Nat.mul_mod a, Nat.mod_mod, ← Nat.mul_mod, Nat.mul_assoc]
theorem powM_add (m a x y : Nat) : mulM m (powM m a x) (powM m a y) = powM m a (x + y) := by
  unfold mulM powM; rw [← Nat.mul_mod, Nat.pow_add]
theorem powM_succ (m a x : Nat) : mulM m (powM m a x) a = powM m a (x + 1) := by
  unfold mulM powM; rw [Nat.mul_mod, Nat.mod_mod, ← Nat.mul_mod, Nat.pow_succ]
theorem powM_pow (m a x y : Nat) : powM m (powM m a x) y = powM m a (x * y) := by
  unfold powM; rw [← Nat.pow_mod, Nat.pow_mul]
/-- Whose power is 1 depends on the exponent modulo the order alone. -/
theorem powM_period {m a r : Nat} (hm : 1 < m) (h : powM m a r = 1) (x : Nat) : powM m a (x % r) = powM m a x := by
  have e := Nat.div_add_mod x r
  conv => rhs; rw [← e]
  rw [← powM_add, ← powM_pow, h]
  unfold mulM powM
  rw [Nat.one_pow, Nat.mod_eq_of_lt hm, Nat.one_mul, Nat.mod_mod]

theorem invM_mul {m a : Nat} (hp : Pr m) (ha : a % m ≠ 0) : mulM m a (invM m a) = 1 := by
  have h1 := hp.1
  unfold mulM invM
  rw [if_neg ha, Nat.mul_mod, Nat.mod_mod, ← Nat.mul_mod, ← Nat.pow_succ', show (m - 2).succ = m - 1 by omega]
  exact fermat hp ha
/-- The inverse is one alone. -/
theorem inv_unique {m a b c : Nat} (hp : Pr m) (ha : a % m ≠ 0) (h : mulM m a b = mulM m a c) : b % m = c % m := by
  have e : mulM m (invM m a) (mulM m a b) = mulM m (invM m a) (mulM m a c) := by rw [h]
  rw [← mulM_assoc, ← mulM_assoc, mulM_comm m (invM m a), invM_mul hp ha] at e
  unfold mulM at e
  rwa [Nat.one_mul, Nat.one_mul] at e
theorem invE_ok {m a : Nat} (ha : a % m ≠ 0) : invE m a = 0 := by unfold invE; rw [if_neg ha]
/-! ### the group -/
theorem inB_iff (x : Nat) : inB x = true ↔ 0 < x ∧ x < bQ ∧ powM bQ x bR = 1 := by
  unfold inB; simp [and_assoc]
theorem inB_ne {x : Nat} (h : inB x = true) : x % bQ ≠ 0 := by
  obtain ⟨a, b, _⟩ := (inB_iff x).1 h
  rw [Nat.mod_eq_of_lt b]; omega
theorem pow_ne {m a x : Nat} (hp : Pr m) (ha : a % m ≠ 0) : powM m a x ≠ 0 := by
  intro h
  have : m ∣ a ^ x := Nat.dvd_of_mod_eq_zero h
  exact ha (Nat.mod_eq_zero_of_dvd (hp.pow this))
theorem powM_eq (m a n : Nat) (h : n < 18446744073709551616) : powM m a n = pwm m 64 a n := (pwm_eq m 64 a n h).symm
theorem gR : powM bQ 4 bR = 1 := by rw [powM_eq _ _ _ (by decide)]; decide +kernel
theorem inB_pow {x : Nat} (h : inB x = true) (n : Nat) : inB (powM bQ x n) = true := by
  obtain ⟨a, b, c⟩ := (inB_iff x).1 h
  refine (inB_iff _).2 ⟨Nat.pos_of_ne_zero (pow_ne pr_Q (inB_ne h)), powM_lt (by decide) _ _, ?_⟩
  rw [powM_pow, Nat.mul_comm, ← powM_pow, c]
  unfold powM; rw [Nat.one_pow]; decide
theorem inB_four : inB 4 = true := (inB_iff 4).2 ⟨by decide, by decide, gR⟩
theorem inB_base (n : Nat) : inB (powM bQ 4 n) = true := inB_pow inB_four n
theorem base_period (x : Nat) : powM bQ 4 (x % bR) = powM bQ 4 x := powM_period (by decide) gR x
end Go.Proofs.YtfpmfegmehbfbaaGreatDoor

/- Plain: what is like a polynomial modulo a prime; as many places of 0 as coefficients; Lagrange. No program in sight. -/
namespace Go.Proofs.YtfpmfegmehbfbaaGreatDoor
set_option linter.unusedVariables false
set_option linter.unusedSimpArgs false

/-- The product of the differences to all but one. -/
def num (l : List Int) (j x : Int) : Int := (l.filter (fun k => k != j)).foldr (fun k p => (x - k) * p) 1
end Go.Proofs.YtfpmfegmehbfbaaGreatDoor

/- Plain: shares of a secret: what the functions come to, and what follows. No program in sight. -/
namespace Go.Proofs.YtfpmfegmehbfbaaGreatDoor
set_option linter.unusedVariables false
set_option linter.unusedSimpArgs false

/-! ### ids -/
def okP (l : List Int) : Prop := (∀ i ∈ l, 1 ≤ i ∧ i < 1152921504606845789) ∧ l.Nodup
instance (l : List Int) : Decidable (okP l) := by unfold okP; infer_instance
end Go.Proofs.YtfpmfegmehbfbaaGreatDoor

/- Plain: dividing two words by one, half a word at a time (Knuth's D), as math/bits.Div64 does. No program in sight. -/
namespace Go.Proofs.YtfpmfegmehbfbaaGreatDoor
/-- One half-digit: u*2^32 + d by Y = y1*2^32 + y0. -/
structure DivAt (u d y1 y0 q r : Nat) : Prop where
  hu : u < y1 * 4294967296 + y0
  hd : d < 4294967296
  h1 : 2147483648 ≤ y1
  h2 : y1 < 4294967296
  h3 : y0 < 4294967296
  sum : q * y1 + r = u
  ge : u * 4294967296 + d < (q + 1) * (y1 * 4294967296 + y0)
  top : q ≤ 4294967297
  lo : r < 4294967296

theorem DivAt.start {u d y1 y0 : Nat} (hu : u < y1 * 4294967296 + y0) (hd : d < 4294967296) (h1 : 2147483648 ≤ y1) (h2 : y1 < 4294967296) (h3 : y0 < 4294967296) : DivAt u d y1 y0 (u / y1) (u % y1) := by
  have hs : (u / y1) * y1 + u % y1 = u := by rw [Nat.mul_comm]; exact Nat.div_add_mod u y1
  have hm : u % y1 < y1 := Nat.mod_lt _ (by omega)
  refine ⟨hu, hd, h1, h2, h3, hs, ?_, ?_, by omega⟩
  · have e : (u / y1 + 1) * (y1 * 4294967296 + y0) = (u / y1 * y1 + y1) * 4294967296 + (u / y1 + 1) * y0 := by grind
    rw [e]
    have : u + 1 ≤ u / y1 * y1 + y1 := by omega
    omega
  · have : u / y1 < 4294967298 := by
      rw [Nat.div_lt_iff_lt_mul (by omega)]
      omega
    omega

theorem DivAt.stop {u d y1 y0 q r : Nat} (h : DivAt u d y1 y0 q r) (hb : q * y0 ≤ 4294967296 * r + d) : q = (u * 4294967296 + d) / (y1 * 4294967296 + y0) := by
  have e : q * (y1 * 4294967296 + y0) = q * y1 * 4294967296 + q * y0 := by grind
  have hs := h.sum
  have h1 := h.h1
  symm
  rw [Nat.div_eq_iff (by omega)]
  have hg := h.ge
  rw [Nat.add_mul] at hg
  constructor
  · rw [e]; omega
  · have : u * 4294967296 + d < q * (y1 * 4294967296 + y0) + (y1 * 4294967296 + y0) := by omega
    omega

theorem DivAt.down {u d y1 y0 q r : Nat} (h : DivAt u d y1 y0 q r) (hb : 4294967296 ≤ q ∨ 4294967296 * r + d < q * y0) :
    0 < q ∧ (q - 1) * y1 + (r + y1) = u ∧ u * 4294967296 + d < (q - 1 + 1) * (y1 * 4294967296 + y0) := by
  have hs := h.sum
  have hu := h.hu
  have hd := h.hd
  have h1 := h.h1
  have h3 := h.h3
  have hq : 0 < q := by
    rcases hb with hb | hb
    · omega
    · rcases Nat.eq_zero_or_pos q with rfl | h'
      · simp at hb
      · exact h'
  obtain ⟨p, rfl⟩ : ∃ p, q = p + 1 := ⟨q - 1, by omega⟩
  refine ⟨hq, ?_, ?_⟩
  · rw [Nat.add_sub_cancel]; rw [Nat.add_mul] at hs; omega
  · rw [Nat.add_sub_cancel]
    have e : (p + 1) * (y1 * 4294967296 + y0) = (p + 1) * y1 * 4294967296 + (p + 1) * y0 := by grind
    rcases hb with hb | hb
    · have : 4294967296 * (y1 * 4294967296 + y0) ≤ (p + 1) * (y1 * 4294967296 + y0) := Nat.mul_le_mul_right _ hb
      omega
    · rw [e]; omega

theorem DivAt.next {u d y1 y0 q r : Nat} (h : DivAt u d y1 y0 q r) (hb : 4294967296 ≤ q ∨ 4294967296 * r + d < q * y0) (hr : r + y1 < 4294967296) : DivAt u d y1 y0 (q - 1) (r + y1) := by
  obtain ⟨_, a, b⟩ := h.down hb
  have := h.top
  exact ⟨h.hu, h.hd, h.h1, h.h2, h.h3, a, b, by omega, hr⟩

theorem DivAt.leave {u d y1 y0 q r : Nat} (h : DivAt u d y1 y0 q r) (hb : 4294967296 ≤ q ∨ 4294967296 * r + d < q * y0) (hr : 4294967296 ≤ r + y1) : q - 1 = (u * 4294967296 + d) / (y1 * 4294967296 + y0) := by
  obtain ⟨_, a, b⟩ := h.down hb
  have ht := h.top
  have h1 := h.h1
  have h3 := h.h3
  have e : (q - 1) * (y1 * 4294967296 + y0) = (q - 1) * y1 * 4294967296 + (q - 1) * y0 := by grind
  have hq : (q - 1) * y0 ≤ 4294967296 * 4294967295 := Nat.mul_le_mul (by omega) (by omega)
  symm
  rw [Nat.div_eq_iff (by omega)]
  rw [Nat.add_mul] at b
  constructor
  · rw [e]; omega
  · omega

/-- The quotient's half-digit is one. -/
theorem DivAt.small {u d y1 y0 q r : Nat} (h : DivAt u d y1 y0 q r) : (u * 4294967296 + d) / (y1 * 4294967296 + y0) < 4294967296 := by
  have h1 := h.h1
  have hu := h.hu
  have hd := h.hd
  rw [Nat.div_lt_iff_lt_mul (by omega)]
  omega

/-- The two half-digits together. -/
theorem div_joinB (B u d1 d0 Y : Nat) (hY : 0 < Y) :
    (u * B + d1) / Y * B + ((u * B + d1) % Y * B + d0) / Y = (u * (B * B) + (d1 * B + d0)) / Y ∧
    ((u * B + d1) % Y * B + d0) % Y = (u * (B * B) + (d1 * B + d0)) % Y := by
  have h := Nat.div_add_mod (u * B + d1) Y
  generalize hq : (u * B + d1) / Y = q at *
  generalize hr : (u * B + d1) % Y = r at *
  have e : u * (B * B) + (d1 * B + d0) = r * B + d0 + Y * (q * B) := by grind
  rw [e, Nat.add_mul_div_left _ _ hY, Nat.add_mul_mod_self_left]
  exact ⟨by omega, rfl⟩
theorem div_join (u d1 d0 Y : Nat) (hY : 0 < Y) :
    (u * 4294967296 + d1) / Y * 4294967296 + ((u * 4294967296 + d1) % Y * 4294967296 + d0) / Y = (u * 18446744073709551616 + (d1 * 4294967296 + d0)) / Y ∧
    ((u * 4294967296 + d1) % Y * 4294967296 + d0) % Y = (u * 18446744073709551616 + (d1 * 4294967296 + d0)) % Y :=
  div_joinB 4294967296 u d1 d0 Y hY

/-- The shift away again. -/
theorem div_shift (a y s : Nat) : a * 2 ^ s / (y * 2 ^ s) = a / y ∧ a * 2 ^ s % (y * 2 ^ s) / 2 ^ s = a % y := by
  have hp : 0 < 2 ^ s := Nat.two_pow_pos s
  refine ⟨Nat.mul_div_mul_right a y hp, ?_⟩
  rw [Nat.mul_mod_mul_right, Nat.mul_div_cancel _ hp]

/-- The words, shifted: hi and lo by s places, s less than 64. -/
theorem shift_two (hi lo s : Nat) (hs : s ≤ 64) (hlo : lo < 18446744073709551616) :
    (hi * 18446744073709551616 + lo) * 2 ^ s = (hi * 2 ^ s + lo / 2 ^ (64 - s)) * 18446744073709551616 + lo * 2 ^ s % 18446744073709551616 ∧ hi * 2 ^ s ||| lo / 2 ^ (64 - s) = hi * 2 ^ s + lo / 2 ^ (64 - s) := by
  have e64 : (2 : Nat) ^ s * 2 ^ (64 - s) = 18446744073709551616 := by rw [← Nat.pow_add, show s + (64 - s) = 64 by omega]
  have hp : 0 < 2 ^ s := Nat.two_pow_pos s
  have hp2 : 0 < 2 ^ (64 - s) := Nat.two_pow_pos _
  have hlt : lo / 2 ^ (64 - s) < 2 ^ s := by rw [Nat.div_lt_iff_lt_mul hp2, e64]; exact hlo
  constructor
  · have h1 : lo * 2 ^ s / 18446744073709551616 = lo / 2 ^ (64 - s) := by
      rw [← e64, Nat.mul_comm (2 ^ s), Nat.mul_div_mul_right _ _ hp]
    have h2 := Nat.div_add_mod (lo * 2 ^ s) 18446744073709551616
    rw [h1] at h2
    rw [Nat.add_mul, Nat.add_mul]
    have e2 : hi * 18446744073709551616 * 2 ^ s = hi * 2 ^ s * 18446744073709551616 := by grind
    omega
  · rw [Nat.mul_comm hi, ← Nat.two_pow_add_eq_or_of_lt hlt]

theorem div_fin (n y s Y U T t1 t0 A1 V A0 X : Nat) (hy : 0 < Y) (HY : Y = y * 2 ^ s) (E1 : n * 2 ^ s = U * 18446744073709551616 + T) (HT : T = t1 * 4294967296 + t0) (h1 : A1 = (U * 4294967296 + t1) / Y)
    (h2 : V = (U * 4294967296 + t1) % Y) (h3 : A0 = (V * 4294967296 + t0) / Y) (h4 : X = (V * 4294967296 + t0) % Y) : n / y = A1 * 4294967296 + A0 ∧ n % y = X / 2 ^ s := by
  obtain ⟨a, b⟩ := div_join U t1 t0 Y hy
  rw [← h1, ← h2, ← h3, ← HT, ← E1] at a
  rw [← h2, ← h4, ← HT, ← E1] at b
  obtain ⟨c, d⟩ := div_shift n y s
  rw [← HY] at c d
  exact ⟨by rw [← c, a], by rw [← d, b]⟩
end Go.Proofs.YtfpmfegmehbfbaaGreatDoor
