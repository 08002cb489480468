/- Plain: what the functions of the layer 'cyclic' come to. No program in sight. -/
import Derived.Test.YtbomfnlipbdigaaNum
namespace Go.Proofs.Ytbomfnlipbdigaa

def mulM (m a b : Nat) : Nat := a * b % m
def addM (m a b : Nat) : Nat := (a + b) % m
def subM (m a b : Nat) : Nat := (a + (m - b % m)) % m
def powM (m a n : Nat) : Nat := a ^ n % m
/-- The inverse; 0 of a multiple of m. -/
def invM (m a : Nat) : Nat := if a % m = 0 then 0 else a ^ (m - 2) % m
/-- ErrZero, or OK. -/
def invE (m a : Nat) : Nat := if a % m = 0 then 10 else 0
def inB (x : Nat) : Bool := decide (0 < x) && decide (x < bQ) && powM bQ x bR == 1

/-! ### the powers' loop, the highest bit first -/
def upto {α : Type} (f : Nat → α) (k : Nat) : List α := (List.range k).map f
theorem upto_succ {α : Type} (f : Nat → α) (k : Nat) : upto f (k + 1) = upto f k ++ [f k] := by simp [upto, List.range_succ]
theorem upto_length {α : Type} (f : Nat → α) (k : Nat) : (upto f k).length = k := by simp [upto]

def stepM (m a out : Nat) (b : Bool) : Nat := if b then out * out % m * a % m else out * out % m
def horner (m a : Nat) (bs : List Bool) : Nat := bs.foldl (stepM m a) 1
theorem horner_snoc (m a : Nat) (bs : List Bool) (b : Bool) : horner m a (bs ++ [b]) = stepM m a (horner m a bs) b := by simp [horner]

theorem stepM_pow (m a e : Nat) (b : Bool) : stepM m a (a ^ e % m) b = a ^ (2 * e + b.toNat) % m := by
  have h : a ^ e % m * (a ^ e % m) % m = a ^ (2 * e) % m := by rw [← Nat.mul_mod, ← Nat.pow_add]; congr 2; omega
  cases b with
  | false => simp [stepM, h]
  | true =>
    simp only [stepM, h, if_true, Bool.toNat_true]
    rw [Nat.pow_succ, Nat.mul_mod, Nat.mod_mod, ← Nat.mul_mod]

theorem and_two_pow (x j : Nat) : x &&& 2 ^ j = (x.testBit j).toNat * 2 ^ j := by
  refine Nat.eq_of_testBit_eq fun i => ?_
  rw [Nat.testBit_and, Nat.testBit_two_pow]
  by_cases h : j = i
  · subst h
    cases x.testBit j with
    | false => simp
    | true => simp
  · cases x.testBit j with
    | false => simp [h]
    | true => simp [h]

theorem half_bit (n j : Nat) : n / 2 ^ j = 2 * (n / 2 ^ (j + 1)) + (n.testBit j).toNat := by
  have h : (n.testBit j).toNat = n / 2 ^ j % 2 := Nat.toNat_testBit n j
  rw [h, Nat.pow_succ, ← Nat.div_div_eq_div_mul]
  omega

theorem horner_upto (m a n L : Nat) (hm : 1 < m) (hn : n < 2 ^ L) : ∀ k, k ≤ L → horner m a (upto (fun j => n.testBit (L - 1 - j)) k) = a ^ (n / 2 ^ (L - k)) % m
  | 0, _ => by
    rw [Nat.sub_zero, Nat.div_eq_of_lt hn, Nat.pow_zero, Nat.mod_eq_of_lt hm]; rfl
  | k + 1, hk => by
    rw [upto_succ, horner_snoc, horner_upto m a n L hm hn k (by omega), stepM_pow]
    have h := half_bit n (L - 1 - k)
    rw [show L - 1 - k + 1 = L - k by omega] at h
    rw [← h, show L - 1 - k = L - (k + 1) by omega]
theorem horner_all (m a n L : Nat) (hm : 1 < m) (hn : n < 2 ^ L) : horner m a (upto (fun j => n.testBit (L - 1 - j)) L) = powM m a n := by
  rw [horner_upto m a n L hm hn L (Nat.le_refl _)]
  simp [powM]

/-! ### the inverse: the steps of the greatest common divisor -/
/-- x and y are u and v times a, modulo m; u and v are of unlike signs, and small. -/
structure GcdAt (m a x y : Nat) (u v : Int) : Prop where
  xu : (m : Int) ∣ u * a - x
  yv : (m : Int) ∣ v * a - y
  gcd : Nat.gcd x y = 1
  sg : (0 ≤ u ∧ v ≤ 0 ∧ u * y - v * x = m) ∨ (u ≤ 0 ∧ 0 ≤ v ∧ v * x - u * y = m)
  x0 : 0 < x
  xm : x ≤ m
  ym : y ≤ m

theorem GcdAt.start {m a : Nat} (hm : 1 < m) (hp : Pr m) (ha : a % m ≠ 0) : GcdAt m a (a % m) m 1 0 := by
  have hlt : a % m < m := Nat.mod_lt _ (by omega)
  refine ⟨?_, ?_, ?_, Or.inl ⟨by omega, by omega, by omega⟩, by omega, by omega, by omega⟩
  · rw [Int.one_mul]
    have := Nat.div_add_mod a m
    refine ⟨((a / m : Nat) : Int), ?_⟩
    have e : (a : Int) = ((m * (a / m) + a % m : Nat) : Int) := by rw [this]
    have e2 : ((m * (a / m) + a % m : Nat) : Int) = (m : Int) * ((a / m : Nat) : Int) + ((a % m : Nat) : Int) := by simp
    omega
  · exact ⟨-1, by omega⟩
  · rw [Nat.gcd_comm]
    exact hp.cop (fun hd => by have := Nat.le_of_dvd (by omega) hd; omega)

theorem GcdAt.next {m a x y : Nat} {u v : Int} (h : GcdAt m a x y u v) (hy : 0 < y) :
    GcdAt m a y (x - x / y * y) v (u - ((x / y : Nat) : Int) * v) ∧ x / y * y ≤ x ∧ x - x / y * y < y := by
  have hle : x / y * y ≤ x := Nat.div_mul_le_self x y
  have he : x - x / y * y = x % y := by have := Nat.mod_add_div x y; rw [Nat.mul_comm] at this; omega
  have hlt : x % y < y := Nat.mod_lt _ hy
  have hdm : (x : Int) = ((x / y : Nat) : Int) * (y : Int) + ((x % y : Nat) : Int) := by
    have := Nat.div_add_mod x y
    rw [Nat.mul_comm] at this
    have e : ((x / y * y + x % y : Nat) : Int) = ((x / y : Nat) : Int) * (y : Int) + ((x % y : Nat) : Int) := by simp
    omega
  refine ⟨?_, hle, by omega⟩
  rw [he]
  generalize hq : x / y = q at *
  generalize hr : x % y = r at *
  obtain ⟨s, hs⟩ := h.xu
  obtain ⟨t, ht⟩ := h.yv
  refine ⟨h.yv, ⟨s - q * t, ?_⟩, ?_, ?_, hy, h.ym, ?_⟩
  · grind
  · rw [← hr, Nat.gcd_comm, ← Nat.gcd_rec, Nat.gcd_comm]; exact h.gcd
  · have hq0 : (0 : Int) ≤ (q : Int) := by omega
    rcases h.sg with ⟨a1, a2, a3⟩ | ⟨a1, a2, a3⟩
    · right
      refine ⟨a2, ?_, ?_⟩
      · have := Int.mul_nonpos_of_nonneg_of_nonpos hq0 a2; omega
      · grind
    · left
      refine ⟨a2, ?_, ?_⟩
      · have := Int.mul_nonneg hq0 a2; omega
      · grind
  · have := h.ym; omega

theorem GcdAt.bounds {m a x y : Nat} {u v : Int} (h : GcdAt m a x y u v) : -(m : Int) ≤ v ∧ v ≤ m := by
  have h0 := h.x0
  have h1 : (1 : Int) ≤ x := by omega
  rcases h.sg with ⟨a1, a2, a3⟩ | ⟨a1, a2, a3⟩
  · have b1 : 0 ≤ u * (y : Int) := Int.mul_nonneg a1 (by omega)
    have b2 : -v * 1 ≤ -v * (x : Int) := Int.mul_le_mul_of_nonneg_left h1 (by omega)
    rw [Int.neg_mul v x] at b2
    omega
  · have b1 : u * (y : Int) ≤ 0 := Int.mul_nonpos_of_nonpos_of_nonneg a1 (by omega)
    have b2 : v * 1 ≤ v * (x : Int) := Int.mul_le_mul_of_nonneg_left h1 (by omega)
    omega

/-- At the end: u is the inverse. -/
theorem GcdAt.done {m a x : Nat} {u v : Int} (h : GcdAt m a x 0 u v) (hm : 1 < m) (hp : Pr m) (ha : a % m ≠ 0) (hu : -(m : Int) ≤ u ∧ u ≤ m) :
    (u < 0 → 0 ≤ u + m) ∧ (if u < 0 then u + m else u) = ((invM m a : Nat) : Int) := by
  have hx : x = 1 := by have := h.gcd; simpa using this
  subst hx
  have hlt : a ^ (m - 2) % m < m := Nat.mod_lt _ (by omega)
  have hf := fermat hp ha
  refine ⟨fun _ => by omega, ?_⟩
  unfold invM
  rw [if_neg ha]
  -- both times a are 1
  have hd : (m : Int) ∣ (if u < 0 then u + m else u) * a - 1 := by
    have := h.xu
    split
    · obtain ⟨t, ht⟩ := this
      exact ⟨t + a, by rw [Int.add_mul, Int.mul_add]; omega⟩
    · exact this
  have hd2 : (m : Int) ∣ ((a ^ (m - 2) % m : Nat) : Int) * a - 1 := by
    have e : a ^ (m - 2) % m * a % m = 1 := by
      rw [Nat.mul_mod, Nat.mod_mod, ← Nat.mul_mod, ← Nat.pow_succ, show (m - 2).succ = m - 1 by omega]; exact hf
    have := Nat.div_add_mod (a ^ (m - 2) % m * a) m
    rw [e] at this
    refine ⟨((a ^ (m - 2) % m * a / m : Nat) : Int), ?_⟩
    have e2 : ((a ^ (m - 2) % m * a : Nat) : Int) = ((a ^ (m - 2) % m : Nat) : Int) * a := Int.natCast_mul _ _
    have e3 : ((m * (a ^ (m - 2) % m * a / m) + 1 : Nat) : Int) = (m : Int) * ((a ^ (m - 2) % m * a / m : Nat) : Int) + 1 := by rw [Int.natCast_add, Int.natCast_mul]; rfl
    omega
  generalize ha1 : a ^ (m - 2) % m = i at *
  generalize hu1 : (if u < 0 then u + (m : Int) else u) = w at *
  have hw0 : 0 ≤ w ∧ w ≤ m := by subst hu1; split <;> omega
  have hdd : (m : Int) ∣ (w - i) * a := by
    have := Int.dvd_sub hd hd2
    have e : w * (a : Int) - 1 - ((i : Int) * a - 1) = (w - i) * a := by rw [Int.sub_mul]; omega
    rwa [e] at this
  obtain ⟨k, hk⟩ : ∃ k : Nat, (w - i).natAbs = k := ⟨_, rfl⟩
  have hmk : m ∣ k * a := by
    have := Int.natAbs_dvd_natAbs.2 hdd
    rw [Int.natAbs_mul, hk] at this
    simpa using this
  have hna : ¬ m ∣ a := fun hd => ha (Nat.mod_eq_zero_of_dvd hd)
  have hmk2 : m ∣ k := (hp.mul hmk).resolve_right hna
  rcases Nat.eq_zero_or_pos k with h0 | h0
  · omega
  · have := Nat.le_of_dvd h0 hmk2
    -- then w is m and i is 0: but m does not divide 0 - 1
    have hwm : w = m ∧ i = 0 := by omega
    obtain ⟨rfl, rfl⟩ := hwm
    obtain ⟨t, ht⟩ := hd2
    exfalso
    have h1 : (m : Int) ∣ 1 := ⟨-t, by rw [Int.mul_neg]; omega⟩
    have := Int.le_of_dvd (by omega) h1
    omega

end Go.Proofs.Ytbomfnlipbdigaa
