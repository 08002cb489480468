/- Parts of the proofs, put together: MkP. -/
/- Plain: trees of hashes: roots, what proves that a leaf is in a tree, or that a tree has grown. No program in sight. -/
namespace Go.Proofs.YtfpmfegmehbfbaaGreatDoor
set_option linter.unusedVariables false
set_option linter.unusedSimpArgs false

/-- The greatest power of two below n. -/
def halfN : Nat → Nat → Nat
  | 0, _ => 1
  | d + 1, n => if n ≤ 2 ^ (d + 1) then halfN d n else 2 ^ (d + 1)
def halfF (n : Nat) : Nat := halfN n n
theorem half_le : ∀ (d n : Nat), 2 ≤ n → halfN d n < n
  | 0, n, h => by unfold halfN; omega
  | d + 1, n, h => by unfold halfN; split; exact half_le d n h; omega
theorem half_pow : ∀ (d n : Nat), ∃ e, halfN d n = 2 ^ e
  | 0, n => ⟨0, rfl⟩
  | d + 1, n => by unfold halfN; split; exact half_pow d n; exact ⟨_, rfl⟩
theorem half_two : ∀ (d n : Nat), n ≤ 2 ^ (d + 1) → n ≤ 2 * halfN d n
  | 0, n, h => by unfold halfN; omega
  | d + 1, n, h => by
    unfold halfN
    split
    · exact half_two d n (by assumption)
    · rw [Nat.pow_succ] at h; omega
theorem halfF_lt {n : Nat} (h : 2 ≤ n) : halfF n < n := half_le n n h
theorem halfF_two (n : Nat) : n ≤ 2 * halfF n := half_two n n (Nat.le_of_lt (Nat.lt_of_lt_of_le Nat.lt_two_pow_self (Nat.pow_le_pow_right (by omega) (Nat.le_succ n))))
theorem halfF_pow (n : Nat) : ∃ e, halfF n = 2 ^ e := half_pow n n
theorem halfF_pos (n : Nat) : 0 < halfF n := by obtain ⟨e, h⟩ := halfF_pow n; rw [h]; exact Nat.two_pow_pos e
theorem pow_one_of {a b n : Nat} (h1 : 2 ^ a < n) (h2 : n ≤ 2 * 2 ^ a) (h3 : 2 ^ b < n) (h4 : n ≤ 2 * 2 ^ b) : a = b := by
  rcases Nat.lt_trichotomy a b with h | h | h
  · have := Nat.pow_le_pow_right (n := 2) (by omega) h; rw [Nat.pow_succ] at this; omega
  · exact h
  · have := Nat.pow_le_pow_right (n := 2) (by omega) h; rw [Nat.pow_succ] at this; omega
theorem halfF_of {a n : Nat} (h1 : 2 ^ a < n) (h2 : n ≤ 2 * 2 ^ a) : halfF n = 2 ^ a := by
  obtain ⟨e, he⟩ := halfF_pow n
  have hn : 2 ≤ n := by have := Nat.two_pow_pos a; omega
  have a1 := halfF_lt hn
  have a2 := halfF_two n
  rw [he] at a1 a2 ⊢
  rw [pow_one_of a1 a2 h1 h2]

section
variable {S : Type} (pr : S → S → S) (z : S)
/-- A tree's root. -/
def rootF : List S → S
  | [] => z
  | [x] => x
  | x :: y :: t => pr (rootF ((x :: y :: t).take (halfF (t.length + 2)))) (rootF ((x :: y :: t).drop (halfF (t.length + 2))))
termination_by l => l.length
decreasing_by
  · have := halfF_lt (n := t.length + 2) (by omega); simp; omega
  · have := halfF_pos (t.length + 2); simp; omega
theorem rootF_two {l : List S} (h : 2 ≤ l.length) : rootF pr z l = pr (rootF pr z (l.take (halfF l.length))) (rootF pr z (l.drop (halfF l.length))) := by
  match l, h with
  | x :: y :: t, _ => rw [rootF]; rfl
/-- The two roads shift until one is odd. -/
def strip (a l : Nat) : Nat × Nat := if a % 2 = 0 ∧ a ≠ 0 then strip (a / 2) (l / 2) else (a, l)
termination_by a
decreasing_by omega
variable {α : Type} (le ri : α → S → α)
/-- Climbing from a place, hash by hash. -/
def climbF : List S → Nat → Nat → α → α
  | [], _, _, x => x
  | p :: ps, a, l, x => if a % 2 = 0 ∧ a ≠ l then climbF ps (a / 2) (l / 2) (ri x p) else climbF ps ((strip a l).1 / 2) ((strip a l).2 / 2) (le x p)
/-- Where it ends. -/
def endF : Nat → Nat → Nat → Nat × Nat
  | 0, a, l => (a, l)
  | n + 1, a, l => if a % 2 = 0 ∧ a ≠ l then endF n (a / 2) (l / 2) else endF n ((strip a l).1 / 2) ((strip a l).2 / 2)
theorem climb_append : ∀ (ps qs : List S) (a l : Nat) (x : α), climbF le ri (ps ++ qs) a l x = climbF le ri qs (endF ps.length a l).1 (endF ps.length a l).2 (climbF le ri ps a l x)
  | [], qs, a, l, x => rfl
  | p :: ps, qs, a, l, x => by
    simp only [List.cons_append, climbF, List.length_cons, endF]
    split
    · exact climb_append ps qs _ _ _
    · exact climb_append ps qs _ _ _
theorem end_add : ∀ (m n a l : Nat), endF (m + n) a l = endF n (endF m a l).1 (endF m a l).2
  | 0, n, a, l => by rw [Nat.zero_add]; rfl
  | m + 1, n, a, l => by
    rw [show m + 1 + n = (m + n) + 1 by omega]
    simp only [endF]
    split
    · exact end_add m n _ _
    · exact end_add m n _ _
theorem strip_odd {a l : Nat} (h : a % 2 = 1) : strip a l = (a, l) := by unfold strip; rw [if_neg (by omega)]
theorem strip_pow : ∀ (j a : Nat), a % 2 = 1 → strip (2 ^ j * a) (2 ^ j * a) = (a, a)
  | 0, a, h => by rw [Nat.pow_zero, Nat.one_mul]; exact strip_odd h
  | j + 1, a, h => by
    unfold strip
    have e : 2 ^ (j + 1) * a = 2 * (2 ^ j * a) := by rw [Nat.pow_succ]; grind
    have hp : 0 < 2 ^ j * a := Nat.mul_pos (Nat.two_pow_pos j) (by omega)
    rw [if_pos (by omega), e, show 2 * (2 ^ j * a) / 2 = 2 ^ j * a by omega]
    exact strip_pow j a h

/-- Where a climb through a whole part ends: o: the part's place, 2 ^ h its size at most, L: the last place. -/
def Fin (o h L : Nat) (s : Nat × Nat) : Prop := if o + 2 ^ h ≤ L then s = (o / 2 ^ h, L / 2 ^ h) else ∃ j, j ≤ h ∧ s = (o / 2 ^ j, o / 2 ^ j)
/-- A part of a tree: its place and its last one. -/
def PartAt (o n h L : Nat) : Prop := 0 < n ∧ 2 ^ h ∣ o ∧ n ≤ 2 ^ h ∧ (h = 0 ∨ 2 ^ (h - 1) < n) ∧ ((n = 2 ^ h ∧ o + n ≤ L) ∨ L = o + n - 1)
theorem fin_of (o n h L : Nat) (hP : PartAt o n h L) : Fin o h L (o / 2 ^ h, L / 2 ^ h) := by
  obtain ⟨p1, ⟨q, rfl⟩, p3, p4, p5⟩ := hP
  have hp := Nat.two_pow_pos h
  unfold Fin
  split
  · rfl
  · next hn =>
    refine ⟨h, Nat.le_refl _, ?_⟩
    rcases p5 with ⟨rfl, h2⟩ | rfl
    · exact absurd h2 hn
    · have : (2 ^ h * q + n - 1) / 2 ^ h = q := by
        rw [show 2 ^ h * q + n - 1 = n - 1 + 2 ^ h * q by omega, Nat.add_mul_div_left _ _ hp, Nat.div_eq_of_lt (by omega), Nat.zero_add]
      rw [this, Nat.mul_div_cancel_left _ hp]
theorem part_half {o n h L : Nat} (hP : PartAt o n h L) (h2 : 2 ≤ n) : ∃ g, h = g + 1 ∧ halfF n = 2 ^ g ∧ PartAt o (2 ^ g) g L ∧ o + 2 ^ g ≤ L ∧ ∃ g', PartAt (o + 2 ^ g) (n - 2 ^ g) g' L := by
  obtain ⟨p1, hd, p3, p4, p5⟩ := hP
  cases h with
  | zero => simp at p3; omega
  | succ g =>
    have p4 : 2 ^ g < n := by rcases p4 with h | h; exact absurd h (by omega); simpa using h
    have p3' := p3
    rw [Nat.pow_succ] at p3'
    have hp := Nat.two_pow_pos g
    have hL : o + 2 ^ g ≤ L := by rcases p5 with ⟨_, h⟩ | h <;> omega
    have hd' : 2 ^ g ∣ o := Nat.dvd_trans ⟨2, by rw [Nat.pow_succ]⟩ hd
    refine ⟨g, rfl, halfF_of p4 (by omega), ⟨hp, hd', Nat.le_refl _, by cases g <;> simp [Nat.pow_succ]; have := Nat.two_pow_pos (by assumption); omega, .inl ⟨rfl, hL⟩⟩, hL, ?_⟩
    have hm : ∀ m, 0 < m → ∃ e, m ≤ 2 ^ e ∧ (e = 0 ∨ 2 ^ (e - 1) < m) := by
      intro m hm
      by_cases h1 : m = 1
      · exact ⟨0, by omega, .inl rfl⟩
      · obtain ⟨e, he⟩ := halfF_pow m
        have := halfF_lt (n := m) (by omega)
        have := halfF_two m
        exact ⟨e + 1, by rw [Nat.pow_succ]; omega, .inr (by simp; omega)⟩
    obtain ⟨e, e1, e2⟩ := hm (n - 2 ^ g) (by omega)
    have heg : e ≤ g := by
      rcases e2 with rfl | e2
      · omega
      · by_cases hh : e ≤ g
        · exact hh
        · have := Nat.pow_le_pow_right (n := 2) (by omega) (show g ≤ e - 1 by omega); omega
    refine ⟨e, by omega, ?_, e1, e2, ?_⟩
    · exact Nat.dvd_trans (Nat.pow_dvd_pow 2 heg) (Nat.dvd_add hd' ⟨1, by omega⟩)
    · rcases p5 with ⟨rfl, h⟩ | h
      · refine .inl ⟨?_, by omega⟩
        have : e = g := by
          rcases Nat.lt_or_eq_of_le heg with hlt | h
          · exfalso
            have := Nat.pow_le_pow_right (n := 2) (by omega) hlt
            rw [Nat.pow_succ] at this
            omega
          · exact h
        subst this; omega
      · exact .inr (by omega)
/-- A step behind the left half. -/
theorem step_left {o g L : Nat} {s : Nat × Nat} (hd : 2 ^ (g + 1) ∣ o) (hL : o + 2 ^ g ≤ L) (h : Fin o g L s) : (s.1 % 2 = 0 ∧ s.1 ≠ s.2) ∧ (s.1 / 2, s.2 / 2) = (o / 2 ^ (g + 1), L / 2 ^ (g + 1)) := by
  unfold Fin at h
  rw [if_pos hL] at h
  subst h
  obtain ⟨q, rfl⟩ := hd
  have hp := Nat.two_pow_pos g
  have e : 2 ^ (g + 1) * q / 2 ^ g = 2 * q := by rw [Nat.pow_succ, Nat.mul_assoc, Nat.mul_div_cancel_left _ hp]
  have hl : 2 * q + 1 ≤ L / 2 ^ g := by
    rw [Nat.le_div_iff_mul_le hp]
    rw [Nat.pow_succ] at hL
    grind
  refine ⟨⟨?_, ?_⟩, ?_⟩
  · show (2 ^ (g + 1) * q / 2 ^ g) % 2 = 0; rw [e]; omega
  · show 2 ^ (g + 1) * q / 2 ^ g ≠ L / 2 ^ g; rw [e]; omega
  · rw [Nat.div_div_eq_div_mul, Nat.div_div_eq_div_mul, ← Nat.pow_succ]
/-- A step behind the right half. -/
theorem step_right {o n g g' L : Nat} {s : Nat × Nat} (hP : PartAt o n (g + 1) L) (hR : PartAt (o + 2 ^ g) (n - 2 ^ g) g' L) (h : Fin (o + 2 ^ g) g' L s) :
    ¬ (s.1 % 2 = 0 ∧ s.1 ≠ s.2) ∧ ((strip s.1 s.2).1 / 2, (strip s.1 s.2).2 / 2) = (o / 2 ^ (g + 1), L / 2 ^ (g + 1)) := by
  obtain ⟨p1, ⟨q, rfl⟩, p3, p4, p5⟩ := hP
  obtain ⟨r1, r2, r3, r4, r5⟩ := hR
  have p4 : 2 ^ g < n := by rcases p4 with h | h; exact absurd h (by omega); simpa using h
  have hp := Nat.two_pow_pos g
  have hp' := Nat.two_pow_pos g'
  have eo : 2 ^ (g + 1) * q + 2 ^ g = 2 ^ g * (2 * q + 1) := by rw [Nat.pow_succ]; grind
  have ed : 2 ^ (g + 1) * q / 2 ^ (g + 1) = q := Nat.mul_div_cancel_left _ (Nat.two_pow_pos _)
  have hg : g' ≤ g := by
    rw [Nat.pow_succ] at p3
    rcases r4 with rfl | h
    · omega
    · by_cases hh : g' ≤ g
      · exact hh
      · have := Nat.pow_le_pow_right (n := 2) (by omega) (show g ≤ g' - 1 by omega); omega
  rw [ed]
  unfold Fin at h
  rw [eo] at h
  split at h
  · next hf =>
    -- the whole part lies ahead of the last place
    have hn : n = 2 ^ (g + 1) := by
      rcases p5 with ⟨h, _⟩ | h
      · exact h
      · exfalso; rw [h] at hf; omega
    have hgg : g' = g := by
      rcases Nat.lt_or_eq_of_le hg with hlt | h
      · exfalso
        have := Nat.pow_le_pow_right (n := 2) (by omega) hlt
        rw [hn, Nat.pow_succ] at r3
        rw [Nat.pow_succ] at this
        omega
      · exact h
    subst hgg
    rw [Nat.mul_div_cancel_left _ hp] at h
    subst h
    have odd : (2 * q + 1) % 2 = 1 := by omega
    refine ⟨fun h => by have := h.1; simp only at this; omega, ?_⟩
    rw [strip_odd (by simp)]
    simp only
    rw [Nat.div_div_eq_div_mul, ← Nat.pow_succ, show (2 * q + 1) / 2 = q by omega]
  · next hf =>
    have hLn : L = 2 ^ (g + 1) * q + n - 1 := by
      rcases p5 with ⟨h1, h2⟩ | h
      · exfalso
        rcases r5 with ⟨h3, h4⟩ | h3
        · rw [h3] at h4; rw [← eo] at hf; omega
        · omega
      · exact h
    obtain ⟨j, hj, h⟩ := h
    obtain ⟨i, rfl⟩ : ∃ i, g = i + j := ⟨g - j, by omega⟩
    have e1 : 2 ^ (i + j) * (2 * q + 1) / 2 ^ j = 2 ^ i * (2 * q + 1) := by
      rw [Nat.pow_add, show 2 ^ i * 2 ^ j * (2 * q + 1) = 2 ^ j * (2 ^ i * (2 * q + 1)) by grind, Nat.mul_div_cancel_left _ (Nat.two_pow_pos j)]
    rw [e1] at h
    subst h
    refine ⟨fun h => h.2 rfl, ?_⟩
    simp only
    rw [strip_pow i (2 * q + 1) (by omega)]
    have : L / 2 ^ (i + j + 1) = q := by
      rw [hLn, show 2 ^ (i + j + 1) * q + n - 1 = n - 1 + 2 ^ (i + j + 1) * q by omega, Nat.add_mul_div_left _ _ (Nat.two_pow_pos _), Nat.div_eq_of_lt (by omega), Nat.zero_add]
    rw [this]
    simp only [Prod.mk.injEq]
    omega
/-- What proves that a leaf is in a tree. -/
def proveF (l : List S) (i : Nat) : List S :=
  if 2 ≤ l.length then
    if i < halfF l.length then proveF (l.take (halfF l.length)) i ++ [rootF pr z (l.drop (halfF l.length))]
    else proveF (l.drop (halfF l.length)) (i - halfF l.length) ++ [rootF pr z (l.take (halfF l.length))]
  else []
termination_by l.length
decreasing_by
  · have := halfF_lt (n := l.length) (by omega); simp; omega
  · have := halfF_pos l.length; simp; omega
theorem climb_prove : ∀ (N : Nat) (l : List S) (o h L i : Nat) (x : S), l.length ≤ N → PartAt o l.length h L → l[i]? = some x →
    climbF (fun x p => pr p x) pr (proveF pr z l i) (o + i) L x = rootF pr z l ∧ Fin o h L (endF (proveF pr z l i).length (o + i) L)
  | 0, l, o, h, L, i, x, hN, hP, hx => by have := hP.1; omega
  | N + 1, l, o, h, L, i, x, hN, hP, hx => by
    have hi := (List.getElem?_eq_some_iff.1 hx).1
    by_cases h2 : 2 ≤ l.length
    · obtain ⟨g, rfl, hk, hPl, hL, g', hPr⟩ := part_half hP h2
      have hlt := halfF_lt h2
      have hpos := halfF_pos l.length
      rw [hk] at hlt hpos
      rw [proveF, if_pos h2, rootF_two pr z h2, hk]
      by_cases hl : i < 2 ^ g
      · rw [if_pos hl]
        obtain ⟨c, f⟩ := climb_prove N (l.take (2 ^ g)) o g L i x (by simp; omega) (by rw [List.length_take, Nat.min_eq_left (by omega)]; exact hPl) (by rw [List.getElem?_take, if_pos hl]; exact hx)
        obtain ⟨s1, s2⟩ := step_left hP.2.1 hL f
        rw [climb_append, c, List.length_append, List.length_singleton, end_add]
        simp only [climbF, endF]
        rw [if_pos s1, if_pos s1, s2]
        exact ⟨rfl, fin_of _ _ _ _ hP⟩
      · rw [if_neg hl]
        obtain ⟨c, f⟩ := climb_prove N (l.drop (2 ^ g)) (o + 2 ^ g) g' L (i - 2 ^ g) x (by simp; omega) (by rw [List.length_drop]; exact hPr) (by rw [List.getElem?_drop, show 2 ^ g + (i - 2 ^ g) = i by omega]; exact hx)
        rw [show o + 2 ^ g + (i - 2 ^ g) = o + i by omega] at c f
        obtain ⟨s1, s2⟩ := step_right hP hPr f
        rw [climb_append, c, List.length_append, List.length_singleton, end_add]
        simp only [climbF, endF]
        rw [if_neg s1, if_neg s1, s2]
        exact ⟨rfl, fin_of _ _ _ _ hP⟩
    · have h1 : l.length = 1 := by omega
      match l, h1 with
      | [y], _ =>
        have : i = 0 := by simpa using hi
        subst this
        cases hx
        rw [proveF, if_neg (by simp)]
        simp only [climbF, endF, List.length_nil, rootF]
        refine ⟨trivial, ?_⟩
        have := fin_of _ _ _ _ hP
        have hh : h = 0 := by
          rcases hP.2.2.2.1 with h' | h'
          · exact h'
          · have := Nat.two_pow_pos (h - 1); simp only [List.length_singleton] at h'; omega
        subst hh
        simp at this ⊢; exact this
end

/-- How many bits of a number are 1. -/
def onesF (n : Nat) : Nat := if n = 0 then 0 else n % 2 + onesF (n / 2)
decreasing_by omega
/-- From which bit on two numbers are alike. -/
def InnerP (a b e : Nat) : Prop := a / 2 ^ e = b / 2 ^ e ∧ (e = 0 ∨ a / 2 ^ (e - 1) ≠ b / 2 ^ (e - 1))
theorem ones_zero : onesF 0 = 0 := by unfold onesF; rfl
theorem ones_top : ∀ (j n : Nat), n < 2 ^ j → onesF (n + 2 ^ j) = onesF n + 1
  | 0, n, h => by
    have : n = 0 := by simpa using h
    subst this
    rw [onesF, if_neg (by simp)]; simp [ones_zero]
  | j + 1, n, h => by
    have hp := Nat.two_pow_pos j
    rw [Nat.pow_succ] at h ⊢
    have e1 : (n + 2 ^ j * 2) / 2 = n / 2 + 2 ^ j := by omega
    have e2 : (n + 2 ^ j * 2) % 2 = n % 2 := by omega
    rw [onesF, if_neg (by omega), e1, e2, ones_top j (n / 2) (by omega)]
    rw [onesF.eq_def n]
    split
    · next h0 => subst h0; simp [ones_zero]
    · omega
theorem inner_low {a b e g : Nat} (h : InnerP a b e) (ha : a < 2 ^ g) (hb : b < 2 ^ g) : e ≤ g := by
  by_cases hh : e ≤ g
  · exact hh
  · exfalso
    have := Nat.pow_le_pow_right (n := 2) (by omega) (show g ≤ e - 1 by omega)
    rcases h.2 with h | h
    · omega
    · exact h (by rw [Nat.div_eq_of_lt (by omega), Nat.div_eq_of_lt (by omega)])
theorem inner_top {a b e g : Nat} (h : InnerP a b e) (ha : a < 2 ^ g) (hb : 2 ^ g ≤ b) (hb2 : b < 2 ^ (g + 1)) : e = g + 1 := by
  have h1 := inner_low h (Nat.lt_of_lt_of_le ha (Nat.pow_le_pow_right (by omega) (Nat.le_succ g))) hb2
  by_cases hh : e = g + 1
  · exact hh
  · exfalso
    have hle : e ≤ g := by omega
    have hp := Nat.two_pow_pos e
    have hd := h.1
    obtain ⟨c, rfl⟩ := Nat.le.dest hle
    rw [Nat.pow_add] at ha hb
    have h3 : 2 ^ c ≤ b / 2 ^ e := by rw [Nat.le_div_iff_mul_le hp, Nat.mul_comm]; exact hb
    have h4 : a / 2 ^ e < 2 ^ c := by rw [Nat.div_lt_iff_lt_mul hp, Nat.mul_comm]; exact ha
    omega
theorem div_top {x e g : Nat} (he : e ≤ g) : (x + 2 ^ g) / 2 ^ e = x / 2 ^ e + 2 ^ (g - e) := by
  obtain ⟨c, rfl⟩ := Nat.le.dest he
  rw [Nat.pow_add, Nat.add_sub_cancel_left, Nat.add_mul_div_left _ _ (Nat.two_pow_pos e)]
theorem inner_sub {a b e g : Nat} (h : InnerP a b e) (ha : 2 ^ g ≤ a) (hb : 2 ^ g ≤ b) (ha2 : a < 2 ^ (g + 1)) (hb2 : b < 2 ^ (g + 1)) :
    e ≤ g ∧ InnerP (a - 2 ^ g) (b - 2 ^ g) e ∧ onesF (a / 2 ^ e) = onesF ((a - 2 ^ g) / 2 ^ e) + 1 := by
  rw [Nat.pow_succ] at ha2 hb2
  obtain ⟨x, rfl⟩ : ∃ x, a = x + 2 ^ g := ⟨a - 2 ^ g, by omega⟩
  obtain ⟨y, rfl⟩ : ∃ y, b = y + 2 ^ g := ⟨b - 2 ^ g, by omega⟩
  have hx : x < 2 ^ g := by omega
  have hy : y < 2 ^ g := by omega
  have he : e ≤ g := by
    have h1 := inner_low (g := g + 1) h (by rw [Nat.pow_succ]; omega) (by rw [Nat.pow_succ]; omega)
    by_cases hh : e = g + 1
    · exfalso
      subst hh
      rcases h.2 with h | h
      · omega
      · apply h
        have hp := Nat.two_pow_pos g
        show (x + 2 ^ g) / 2 ^ g = (y + 2 ^ g) / 2 ^ g
        rw [Nat.add_div_right _ hp, Nat.add_div_right _ hp, Nat.div_eq_of_lt hx, Nat.div_eq_of_lt hy]
    · omega
  rw [Nat.add_sub_cancel, Nat.add_sub_cancel]
  refine ⟨he, ⟨?_, ?_⟩, ?_⟩
  · have := h.1
    rw [div_top he, div_top he] at this
    omega
  · rcases h.2 with h | h
    · exact .inl h
    · refine .inr fun hh => h ?_
      rw [div_top (by omega), div_top (by omega), hh]
  · rw [div_top he]
    refine ones_top _ _ ?_
    obtain ⟨c, rfl⟩ := Nat.le.dest he
    rw [Nat.pow_add] at hx
    rw [Nat.add_sub_cancel_left, Nat.div_lt_iff_lt_mul (Nat.two_pow_pos e), Nat.mul_comm]
    exact hx
section
variable {S : Type} (pr : S → S → S) (z : S)
theorem len_full : ∀ (g : Nat) (l : List S) (i : Nat), l.length = 2 ^ g → (proveF pr z l i).length = g
  | 0, l, i, h => by rw [proveF, if_neg (by rw [h]; simp)]; rfl
  | g + 1, l, i, h => by
    have hp := Nat.two_pow_pos g
    have h2 : l.length = 2 ^ g * 2 := by rw [h, Nat.pow_succ]
    have hk : halfF l.length = 2 ^ g := halfF_of (by omega) (by omega)
    rw [proveF, if_pos (by omega), hk]
    split
    · rw [List.length_append, len_full g _ _ (by rw [List.length_take]; omega)]; rfl
    · rw [List.length_append, len_full g _ _ (by rw [List.length_drop]; omega)]; rfl
theorem half_facts {n : Nat} (h : 2 ≤ n) : ∃ g, halfF n = 2 ^ g ∧ 2 ^ g < n ∧ n ≤ 2 ^ (g + 1) ∧ 0 < 2 ^ g := by
  obtain ⟨g, hg⟩ := halfF_pow n
  have h1 := halfF_lt h
  have h2 := halfF_two n
  rw [hg] at h1 h2
  exact ⟨g, hg, h1, by rw [Nat.pow_succ]; omega, Nat.two_pow_pos g⟩
theorem len_prove : ∀ (N : Nat) (l : List S) (i e : Nat), l.length ≤ N → i < l.length → InnerP i (l.length - 1) e → (proveF pr z l i).length = e + onesF (i / 2 ^ e)
  | 0, l, i, e, hN, hi, he => by omega
  | N + 1, l, i, e, hN, hi, he => by
    by_cases h2 : 2 ≤ l.length
    · obtain ⟨g, hk, g1, g2, g3⟩ := half_facts h2
      rw [proveF, if_pos h2, hk]
      split
      · next h =>
        rw [List.length_append, len_full pr z g _ _ (by rw [List.length_take]; omega)]
        have := inner_top he h (by omega) (by omega)
        subst this
        rw [Nat.div_eq_of_lt (by rw [Nat.pow_succ]; omega), ones_zero]; rfl
      · next h =>
        obtain ⟨_, e1, e2⟩ := inner_sub (g := g) he (by omega) (by omega) (by omega) (by omega)
        have := len_prove N (l.drop (2 ^ g)) (i - 2 ^ g) e (by rw [List.length_drop]; omega) (by rw [List.length_drop]; omega) (by rw [List.length_drop, show l.length - 2 ^ g - 1 = l.length - 1 - 2 ^ g by omega]; exact e1)
        rw [List.length_append, this, e2]; rfl
    · have hi0 : i = 0 := by omega
      have : e = 0 := by
        rcases he.2 with h | h
        · exact h
        · exact absurd (by rw [hi0, show l.length - 1 = 0 by omega]) h
      subst this hi0
      rw [proveF, if_neg h2]; simp [ones_zero]
/-- The greatest power of two up to n. -/
def topF (n : Nat) : Nat := if n ≤ 1 then n else if 2 * halfF n = n then n else halfF n
theorem topF_le (n : Nat) : topF n ≤ n := by
  unfold topF
  split
  · exact Nat.le_refl _
  · split
    · exact Nat.le_refl _
    · exact Nat.le_of_lt (halfF_lt (by omega))
theorem topF_pos {n : Nat} (h : 0 < n) : 0 < topF n := by
  unfold topF
  split
  · exact h
  · split
    · exact h
    · exact halfF_pos n
/-- The whole trees that leaves make, the greatest first. -/
def partsF (l : List S) : List S := if 0 < l.length then rootF pr z (l.take (topF l.length)) :: partsF (l.drop (topF l.length)) else []
termination_by l.length
decreasing_by have := topF_pos (n := l.length) (by omega); simp; omega
def foldF : List S → S
  | [] => z
  | [x] => x
  | x :: y :: t => pr x (foldF (y :: t))
theorem root_parts : ∀ (N : Nat) (l : List S), l.length ≤ N → foldF pr z (partsF pr z l) = rootF pr z l
  | 0, l, h => by
    have : l = [] := List.length_eq_zero_iff.1 (by omega)
    subst this
    rw [partsF, if_neg (by simp), rootF]; rfl
  | N + 1, l, h => by
    by_cases h0 : 0 < l.length
    · rw [partsF, if_pos h0]
      by_cases ht : topF l.length = l.length
      · rw [ht, List.take_length, List.drop_length, partsF, if_neg (by simp)]; rfl
      · have hp := topF_pos h0
        have hle := topF_le l.length
        have h2 : 2 ≤ l.length := by omega
        have he : topF l.length = halfF l.length := by
          unfold topF at ht ⊢
          rw [if_neg (by omega)] at ht ⊢
          split at ht
          · exact absurd rfl ht
          · next h => rw [if_neg h]
        have ih := root_parts N (l.drop (topF l.length)) (by rw [List.length_drop]; omega)
        rw [rootF_two pr z h2, ← he, ← ih]
        rw [partsF, if_pos (by rw [List.length_drop]; omega)]
        rfl
    · have : l = [] := List.length_eq_zero_iff.1 (by omega)
      subst this
      rw [partsF, if_neg (by simp), rootF]; rfl
/-- A row's pairs. -/
def rowF : List S → List S
  | a :: b :: t => pr a b :: rowF t
  | _ => []
theorem row_len : ∀ l : List S, (rowF pr l).length = l.length / 2
  | [] => by simp [rowF]
  | [a] => by simp [rowF]
  | a :: b :: t => by rw [rowF, List.length_cons, row_len t, List.length_cons, List.length_cons]; omega
theorem row_take : ∀ (k : Nat) (l : List S), rowF pr (l.take (2 * k)) = (rowF pr l).take k
  | 0, l => by simp [rowF]
  | k + 1, [] => by simp [rowF]
  | k + 1, [a] => by rw [show 2 * (k + 1) = (2 * k + 1) + 1 by omega]; simp [rowF]
  | k + 1, a :: b :: t => by
    rw [show 2 * (k + 1) = (2 * k + 1) + 1 by omega, List.take_succ_cons, List.take_succ_cons, rowF, rowF, List.take_succ_cons, row_take k t]
theorem row_drop : ∀ (k : Nat) (l : List S), rowF pr (l.drop (2 * k)) = (rowF pr l).drop k
  | 0, l => by simp
  | k + 1, [] => by simp [rowF]
  | k + 1, [a] => by rw [show 2 * (k + 1) = (2 * k + 1) + 1 by omega]; simp [rowF]
  | k + 1, a :: b :: t => by
    rw [show 2 * (k + 1) = (2 * k + 1) + 1 by omega, List.drop_succ_cons, List.drop_succ_cons, rowF, List.drop_succ_cons, row_drop k t]
theorem row_at {l : List S} {i : Nat} {a b : S} (h1 : l[2 * i]? = some a) (h2 : l[2 * i + 1]? = some b) : (rowF pr l)[i]? = some (pr a b) := by
  induction i generalizing l with
  | zero =>
    match l, h1, h2 with
    | x :: y :: t, h1, h2 => simp at h1 h2; subst h1 h2; rfl
    | [x], h1, h2 => simp at h2
  | succ i ih =>
    match l, h1, h2 with
    | x :: y :: t, h1, h2 =>
      rw [show 2 * (i + 1) = 2 * i + 1 + 1 by omega, List.getElem?_cons_succ, List.getElem?_cons_succ] at h1
      rw [show 2 * (i + 1) + 1 = 2 * i + 1 + 1 + 1 by omega, List.getElem?_cons_succ, List.getElem?_cons_succ] at h2
      rw [rowF, List.getElem?_cons_succ]
      exact ih h1 h2
    | [x], h1, h2 => rw [show 2 * (i + 1) = 2 * i + 1 + 1 by omega] at h1; simp at h1
    | [], h1, h2 => simp at h1
theorem root_row : ∀ (g : Nat) (l : List S), l.length = 2 ^ (g + 1) → rootF pr z (rowF pr l) = rootF pr z l
  | 0, l, h => by
    match l, h with
    | [a, b], _ =>
      rw [rootF_two pr z (l := [a, b]) (by simp), show halfF [a, b].length = 2 ^ 0 from halfF_of (by simp) (by simp)]
      simp [rowF, rootF]
  | g + 1, l, h => by
    have hp := Nat.two_pow_pos g
    have h' : l.length = 2 * (2 ^ g * 2) := by rw [h, Nat.pow_succ, Nat.pow_succ]; omega
    have hk : halfF l.length = 2 * 2 ^ g := by rw [halfF_of (a := g + 1) (by rw [Nat.pow_succ]; omega) (by rw [Nat.pow_succ]; omega), Nat.pow_succ]; omega
    have hr : (rowF pr l).length = 2 ^ g * 2 := by rw [row_len]; omega
    have hkr : halfF (rowF pr l).length = 2 ^ g := halfF_of (by omega) (by omega)
    rw [rootF_two pr z (l := l) (by omega), rootF_two pr z (l := rowF pr l) (by omega), hk, hkr, ← row_take, ← row_drop,
      root_row g _ (by rw [List.length_take, Nat.pow_succ]; omega), root_row g _ (by rw [List.length_drop, Nat.pow_succ]; omega)]
end
end Go.Proofs.YtfpmfegmehbfbaaGreatDoor
