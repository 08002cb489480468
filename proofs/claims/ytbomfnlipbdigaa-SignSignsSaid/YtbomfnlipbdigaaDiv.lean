/- Plain: dividing two words by one, half a word at a time (Knuth's D), as math/bits.Div64 does. No program in sight. -/
namespace Go.Proofs.Ytbomfnlipbdigaa
/-- One half-digit: u*2^32 + d by Y = y1*2^32 + y0. -/
structure DivAt (u d y1 y0 q r : Nat) : Prop where
  hu : u < y1 * 4294967296 + y0
  hd : d < 4294967296
  h1 : 2147483648 ≤ y1
  h2 : y1 < 4294967296
  h3 : y0 < 4294967296
  sum : q * y1 + r = u
  ge : u * 4294967296 + d < (q + 1) * (y1 * 4294967296 + y0)
  top : q ≤ 4294967297
  lo : r < 4294967296

theorem DivAt.start {u d y1 y0 : Nat} (hu : u < y1 * 4294967296 + y0) (hd : d < 4294967296) (h1 : 2147483648 ≤ y1) (h2 : y1 < 4294967296) (h3 : y0 < 4294967296) : DivAt u d y1 y0 (u / y1) (u % y1) := by
  have hs : (u / y1) * y1 + u % y1 = u := by rw [Nat.mul_comm]; exact Nat.div_add_mod u y1
  have hm : u % y1 < y1 := Nat.mod_lt _ (by omega)
  refine ⟨hu, hd, h1, h2, h3, hs, ?_, ?_, by omega⟩
  · have e : (u / y1 + 1) * (y1 * 4294967296 + y0) = (u / y1 * y1 + y1) * 4294967296 + (u / y1 + 1) * y0 := by grind
    rw [e]
    have : u + 1 ≤ u / y1 * y1 + y1 := by omega
    omega
  · have : u / y1 < 4294967298 := by
      rw [Nat.div_lt_iff_lt_mul (by omega)]
      omega
    omega

theorem DivAt.stop {u d y1 y0 q r : Nat} (h : DivAt u d y1 y0 q r) (hb : q * y0 ≤ 4294967296 * r + d) : q = (u * 4294967296 + d) / (y1 * 4294967296 + y0) := by
  have e : q * (y1 * 4294967296 + y0) = q * y1 * 4294967296 + q * y0 := by grind
  have hs := h.sum
  have h1 := h.h1
  symm
  rw [Nat.div_eq_iff (by omega)]
  have hg := h.ge
  rw [Nat.add_mul] at hg
  constructor
  · rw [e]; omega
  · have : u * 4294967296 + d < q * (y1 * 4294967296 + y0) + (y1 * 4294967296 + y0) := by omega
    omega

theorem DivAt.down {u d y1 y0 q r : Nat} (h : DivAt u d y1 y0 q r) (hb : 4294967296 ≤ q ∨ 4294967296 * r + d < q * y0) :
    0 < q ∧ (q - 1) * y1 + (r + y1) = u ∧ u * 4294967296 + d < (q - 1 + 1) * (y1 * 4294967296 + y0) := by
  have hs := h.sum
  have hu := h.hu
  have hd := h.hd
  have h1 := h.h1
  have h3 := h.h3
  have hq : 0 < q := by
    rcases hb with hb | hb
    · omega
    · rcases Nat.eq_zero_or_pos q with rfl | h'
      · simp at hb
      · exact h'
  obtain ⟨p, rfl⟩ : ∃ p, q = p + 1 := ⟨q - 1, by omega⟩
  refine ⟨hq, ?_, ?_⟩
  · rw [Nat.add_sub_cancel]; rw [Nat.add_mul] at hs; omega
  · rw [Nat.add_sub_cancel]
    have e : (p + 1) * (y1 * 4294967296 + y0) = (p + 1) * y1 * 4294967296 + (p + 1) * y0 := by grind
    rcases hb with hb | hb
    · have : 4294967296 * (y1 * 4294967296 + y0) ≤ (p + 1) * (y1 * 4294967296 + y0) := Nat.mul_le_mul_right _ hb
      omega
    · rw [e]; omega

theorem DivAt.next {u d y1 y0 q r : Nat} (h : DivAt u d y1 y0 q r) (hb : 4294967296 ≤ q ∨ 4294967296 * r + d < q * y0) (hr : r + y1 < 4294967296) : DivAt u d y1 y0 (q - 1) (r + y1) := by
  obtain ⟨_, a, b⟩ := h.down hb
  have := h.top
  exact ⟨h.hu, h.hd, h.h1, h.h2, h.h3, a, b, by omega, hr⟩

theorem DivAt.leave {u d y1 y0 q r : Nat} (h : DivAt u d y1 y0 q r) (hb : 4294967296 ≤ q ∨ 4294967296 * r + d < q * y0) (hr : 4294967296 ≤ r + y1) : q - 1 = (u * 4294967296 + d) / (y1 * 4294967296 + y0) := by
  obtain ⟨_, a, b⟩ := h.down hb
  have ht := h.top
  have h1 := h.h1
  have h3 := h.h3
  have e : (q - 1) * (y1 * 4294967296 + y0) = (q - 1) * y1 * 4294967296 + (q - 1) * y0 := by grind
  have hq : (q - 1) * y0 ≤ 4294967296 * 4294967295 := Nat.mul_le_mul (by omega) (by omega)
  symm
  rw [Nat.div_eq_iff (by omega)]
  rw [Nat.add_mul] at b
  constructor
  · rw [e]; omega
  · omega

/-- The quotient's half-digit is one. -/
theorem DivAt.small {u d y1 y0 q r : Nat} (h : DivAt u d y1 y0 q r) : (u * 4294967296 + d) / (y1 * 4294967296 + y0) < 4294967296 := by
  have h1 := h.h1
  have hu := h.hu
  have hd := h.hd
  rw [Nat.div_lt_iff_lt_mul (by omega)]
  omega

/-- The two half-digits together. -/
theorem div_joinB (B u d1 d0 Y : Nat) (hY : 0 < Y) :
    (u * B + d1) / Y * B + ((u * B + d1) % Y * B + d0) / Y = (u * (B * B) + (d1 * B + d0)) / Y ∧
    ((u * B + d1) % Y * B + d0) % Y = (u * (B * B) + (d1 * B + d0)) % Y := by
  have h := Nat.div_add_mod (u * B + d1) Y
  generalize hq : (u * B + d1) / Y = q at *
  generalize hr : (u * B + d1) % Y = r at *
  have e : u * (B * B) + (d1 * B + d0) = r * B + d0 + Y * (q * B) := by grind
  rw [e, Nat.add_mul_div_left _ _ hY, Nat.add_mul_mod_self_left]
  exact ⟨by omega, rfl⟩
theorem div_join (u d1 d0 Y : Nat) (hY : 0 < Y) :
    (u * 4294967296 + d1) / Y * 4294967296 + ((u * 4294967296 + d1) % Y * 4294967296 + d0) / Y = (u * 18446744073709551616 + (d1 * 4294967296 + d0)) / Y ∧
    ((u * 4294967296 + d1) % Y * 4294967296 + d0) % Y = (u * 18446744073709551616 + (d1 * 4294967296 + d0)) % Y :=
  div_joinB 4294967296 u d1 d0 Y hY

/-- The shift away again. -/
theorem div_shift (a y s : Nat) : a * 2 ^ s / (y * 2 ^ s) = a / y ∧ a * 2 ^ s % (y * 2 ^ s) / 2 ^ s = a % y := by
  have hp : 0 < 2 ^ s := Nat.two_pow_pos s
  refine ⟨Nat.mul_div_mul_right a y hp, ?_⟩
  rw [Nat.mul_mod_mul_right, Nat.mul_div_cancel _ hp]

/-- The words, shifted: hi and lo by s places, s less than 64. -/
theorem shift_two (hi lo s : Nat) (hs : s ≤ 64) (hlo : lo < 18446744073709551616) :
    (hi * 18446744073709551616 + lo) * 2 ^ s = (hi * 2 ^ s + lo / 2 ^ (64 - s)) * 18446744073709551616 + lo * 2 ^ s % 18446744073709551616 ∧ hi * 2 ^ s ||| lo / 2 ^ (64 - s) = hi * 2 ^ s + lo / 2 ^ (64 - s) := by
  have e64 : (2 : Nat) ^ s * 2 ^ (64 - s) = 18446744073709551616 := by rw [← Nat.pow_add, show s + (64 - s) = 64 by omega]
  have hp : 0 < 2 ^ s := Nat.two_pow_pos s
  have hp2 : 0 < 2 ^ (64 - s) := Nat.two_pow_pos _
  have hlt : lo / 2 ^ (64 - s) < 2 ^ s := by rw [Nat.div_lt_iff_lt_mul hp2, e64]; exact hlo
  constructor
  · have h1 : lo * 2 ^ s / 18446744073709551616 = lo / 2 ^ (64 - s) := by
      rw [← e64, Nat.mul_comm (2 ^ s), Nat.mul_div_mul_right _ _ hp]
    have h2 := Nat.div_add_mod (lo * 2 ^ s) 18446744073709551616
    rw [h1] at h2
    rw [Nat.add_mul, Nat.add_mul]
    have e2 : hi * 18446744073709551616 * 2 ^ s = hi * 2 ^ s * 18446744073709551616 := by grind
    omega
  · rw [Nat.mul_comm hi, ← Nat.two_pow_add_eq_or_of_lt hlt]

theorem div_fin (n y s Y U T t1 t0 A1 V A0 X : Nat) (hy : 0 < Y) (HY : Y = y * 2 ^ s) (E1 : n * 2 ^ s = U * 18446744073709551616 + T) (HT : T = t1 * 4294967296 + t0) (h1 : A1 = (U * 4294967296 + t1) / Y)
    (h2 : V = (U * 4294967296 + t1) % Y) (h3 : A0 = (V * 4294967296 + t0) / Y) (h4 : X = (V * 4294967296 + t0) % Y) : n / y = A1 * 4294967296 + A0 ∧ n % y = X / 2 ^ s := by
  obtain ⟨a, b⟩ := div_join U t1 t0 Y hy
  rw [← h1, ← h2, ← h3, ← HT, ← E1] at a
  rw [← h2, ← h4, ← HT, ← E1] at b
  obtain ⟨c, d⟩ := div_shift n y s
  rw [← HY] at c d
  exact ⟨by rw [← c, a], by rw [← d, b]⟩
end Go.Proofs.Ytbomfnlipbdigaa
