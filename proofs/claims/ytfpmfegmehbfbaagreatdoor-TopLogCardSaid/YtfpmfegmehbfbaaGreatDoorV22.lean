/- Parts of the proofs, put together: MkQ, LgP. -/
import Derived.Lib.BitFns
import Derived.Lib.TrailingZeros
import Derived.Test.YtfpmfegmehbfbaaGreatDoorV21
/- Plain: trees of hashes: how many steps lead up, what shows that a tree has grown as it is made, how a root is folded. No program in sight. -/
namespace Go.Proofs.YtfpmfegmehbfbaaGreatDoor
set_option linter.unusedVariables false
set_option linter.unusedSimpArgs false

/-- How many bits are 1, of a number below a power of two. -/
def onesG : Nat → Nat → Nat
  | 0, _ => 0
  | f + 1, n => n % 2 + onesG f (n / 2)
theorem onesG_zero : ∀ f, onesG f 0 = 0
  | 0 => rfl
  | f + 1 => by show 0 % 2 + onesG f (0 / 2) = 0; rw [Nat.zero_div, onesG_zero f]
theorem ones_fuel : ∀ (f n : Nat), n < 2 ^ f → onesF n = onesG f n
  | 0, n, h => by
    have : n = 0 := by simpa using h
    subst this; rw [ones_zero]; rfl
  | f + 1, n, h => by
    rw [Nat.pow_succ] at h
    rw [onesF]
    split
    · next h0 => subst h0; rw [onesG_zero]
    · rw [ones_fuel f (n / 2) (by omega)]; rfl
/-- How many steps lead from a place to a tree's root, that lie beside. -/
def innerN (a b : Nat) : Nat := Go.Lib.bitLen (a ^^^ b)
theorem inner_bits : ∀ a < 64, ∀ b < 64, InnerP a b (innerN a b) := by unfold InnerP innerN; decide +kernel
theorem inner_le : ∀ a < 64, ∀ b < 64, innerN a b ≤ 6 := by unfold innerN; decide +kernel
theorem top_bits : ∀ n < 64, 0 < n → topF n = 2 ^ (Go.Lib.bitLen n - 1) := by unfold topF halfF; decide +kernel
theorem half_bits : ∀ n < 64, 2 ≤ n → halfF n = 2 ^ (Go.Lib.bitLen (n - 1) - 1) := by unfold halfF; decide +kernel
theorem bitLen_pos : ∀ n < 64, 0 < n → 1 ≤ Go.Lib.bitLen n ∧ Go.Lib.bitLen n ≤ 6 := by decide +kernel
section
variable {S : Type} (pr : S → S → S) (z : S)
/-- A tree of its own. -/
theorem part_whole {n : Nat} (h : 0 < n) : ∃ g, PartAt 0 n g (n - 1) := by
  by_cases h1 : n = 1
  · subst h1; exact ⟨0, by omega, ⟨0, rfl⟩, by simp, .inl rfl, .inr rfl⟩
  · obtain ⟨g, hk, g1, g2, g3⟩ := half_facts (n := n) (by omega)
    exact ⟨g + 1, h, ⟨0, by simp⟩, g2, .inr (by simpa using g1), .inr (by omega)⟩
/-- Who checks that a leaf is in a tree finds the root. -/
theorem prove_checks (l : List S) (i : Nat) (x : S) (hl : l.length < 64) (hx : l[i]? = some x) :
    (proveF pr z l i).length = innerN i (l.length - 1) + onesF (i / 2 ^ innerN i (l.length - 1)) ∧ climbF (fun x p => pr p x) pr (proveF pr z l i) i (l.length - 1) x = rootF pr z l := by
  have hi := (List.getElem?_eq_some_iff.1 hx).1
  refine ⟨len_prove pr z _ l i _ (Nat.le_refl _) hi (inner_bits i (by omega) _ (by omega)), ?_⟩
  obtain ⟨g, hP⟩ := part_whole (n := l.length) (by omega)
  have := (climb_prove pr z l.length l 0 g (l.length - 1) i x (Nat.le_refl _) hP hx).1
  rwa [Nat.zero_add] at this
/-- The whole trees that leaves make, and their sizes. -/
def pieceF (l : List S) : List (Nat × S) := if 0 < l.length then (topF l.length, rootF pr z (l.take (topF l.length))) :: pieceF (l.drop (topF l.length)) else []
termination_by l.length
decreasing_by have := topF_pos (n := l.length) (by omega); simp; omega
theorem piece_parts : ∀ (N : Nat) (l : List S), l.length ≤ N → (pieceF pr z l).map (·.2) = partsF pr z l
  | 0, l, h => by rw [pieceF, partsF, if_neg (by omega), if_neg (by omega)]; rfl
  | N + 1, l, h => by
    rw [pieceF, partsF]
    split
    · next h0 =>
      have := topF_pos h0
      rw [List.map_cons, piece_parts N _ (by rw [List.length_drop]; omega)]
    · rfl
theorem fold_snoc : ∀ (l : List S) (x : S), foldF pr z (l ++ [x]) = l.foldr pr x
  | [], x => rfl
  | [a], x => rfl
  | a :: b :: l, x => by
    show pr a (foldF pr z (b :: l ++ [x])) = _
    rw [fold_snoc (b :: l) x]; rfl
/-- A root is folded from the smallest part on. -/
theorem root_fold (l : List S) {r : S} {rs : List S} (h : (partsF pr z l).reverse = r :: rs) : rootF pr z l = rs.foldl (fun x p => pr p x) r := by
  rw [← root_parts pr z _ l (Nat.le_refl _), ← List.reverse_reverse (partsF pr z l), h, List.reverse_cons, fold_snoc, List.foldr_reverse]
end
end Go.Proofs.YtfpmfegmehbfbaaGreatDoor

/- Plain: logs: what they hold, what they have promised. No program in sight. -/
namespace Go.Proofs.YtfpmfegmehbfbaaGreatDoor
set_option linter.unusedVariables false
set_option linter.unusedSimpArgs false

/-- What a log holds: bytes, and since when. -/
structure EntR where
  b : List Nat
  t : Nat
/-- What a log holds that is asked to take bytes in, and when they are said to have come. -/
def lgAdd (k : List EntR) (b : List Nat) (now : Nat) : List EntR × Nat :=
  match k.find? (fun x => x.b == b) with
  | some x => (k, x.t)
  | none => (k ++ [⟨b, now⟩], now)
def lgStep (s : List EntR × List Nat) (b : List Nat) : List EntR × List Nat := ((lgAdd s.1 b s.2.length).1, s.2 ++ [(lgAdd s.1 b s.2.length).2])
def lgFill (bs : List (List Nat)) : List EntR × List Nat := bs.foldl lgStep ([], [])
theorem fill_nil : lgFill [] = ([], []) := rfl
theorem fill_snoc (bs : List (List Nat)) (b : List Nat) : lgFill (bs ++ [b]) = lgStep (lgFill bs) b := by unfold lgFill; rw [List.foldl_append]; rfl
theorem fill_take {bs : List (List Nat)} {j : Nat} {b : List Nat} (h : bs[j]? = some b) : lgFill (bs.take (j + 1)) = lgStep (lgFill (bs.take j)) b := by
  rw [List.take_add_one, h]; exact fill_snoc _ _
theorem snoc_ind {α : Type} {P : List α → Prop} (h0 : P []) (hs : ∀ l x, P l → P (l ++ [x])) (l : List α) : P l := by
  have : ∀ n (l : List α), l.length = n → P l := by
    intro n
    induction n with
    | zero => intro l h; rw [List.length_eq_zero_iff.1 h]; exact h0
    | succ n ih =>
      intro l h
      have hl : l ≠ [] := by intro e; rw [e] at h; simp at h
      rw [← List.dropLast_concat_getLast hl]
      exact hs _ _ (ih _ (by rw [List.length_dropLast]; omega))
  exact this _ l rfl
theorem fill_len (bs : List (List Nat)) : (lgFill bs).2.length = bs.length := by
  refine snoc_ind (P := fun bs => (lgFill bs).2.length = bs.length) rfl (fun l x ih => ?_) bs
  rw [fill_snoc]; show ((lgFill l).2 ++ [_]).length = _; rw [List.length_append, ih, List.length_append]; rfl
/-- What may be held. -/
def EntOk (x : EntR) : Prop := 0 < x.b.length ∧ x.b.length ≤ 500 ∧ (∀ y ∈ x.b, y < 256) ∧ x.t ≤ 30
def GoodE (l : List EntR) : Prop := (l.map (·.b)).Nodup ∧ ∀ x ∈ l, EntOk x
def BodyOk (b : List Nat) : Prop := 0 < b.length ∧ b.length ≤ 500 ∧ ∀ y ∈ b, y < 256
theorem good_nil : GoodE [] := ⟨List.nodup_nil, fun _ h => by cases h⟩
theorem lgFind_none {k : List EntR} {b : List Nat} (h : k.find? (fun x => x.b == b) = none) : b ∉ k.map (·.b) := by
  intro hm
  obtain ⟨x, hx, rfl⟩ := List.mem_map.1 hm
  have := List.find?_eq_none.1 h x hx
  simp at this
theorem lgAdd_some {k : List EntR} {b : List Nat} {now : Nat} {x : EntR} (h : k.find? (fun x => x.b == b) = some x) : lgAdd k b now = (k, x.t) := by unfold lgAdd; rw [h]
theorem lgAdd_none {k : List EntR} {b : List Nat} {now : Nat} (h : k.find? (fun x => x.b == b) = none) : lgAdd k b now = (k ++ [⟨b, now⟩], now) := by unfold lgAdd; rw [h]
theorem lgAdd_good {k : List EntR} {b : List Nat} {now : Nat} (hk : GoodE k) (hb : BodyOk b) (hn : now ≤ 30) :
    GoodE (lgAdd k b now).1 ∧ (lgAdd k b now).2 ≤ 30 ∧ (lgAdd k b now).1.length ≤ k.length + 1 ∧ (∃ x ∈ (lgAdd k b now).1, x.b = b) ∧ ∀ x ∈ k, x ∈ (lgAdd k b now).1 := by
  rcases h : k.find? (fun x => x.b == b) with _ | x
  · rw [lgAdd_none h]
    refine ⟨⟨?_, ?_⟩, hn, by simp, ⟨⟨b, now⟩, by simp, rfl⟩, fun x hx => List.mem_append_left _ hx⟩
    · rw [List.map_append, List.nodup_append]
      refine ⟨hk.1, by simp, fun a ha c hc => ?_⟩
      simp at hc
      subst hc
      exact fun e => lgFind_none h (e ▸ ha)
    · intro x hx
      rcases List.mem_append.1 hx with hx | hx
      · exact hk.2 x hx
      · rw [List.mem_singleton] at hx; subst hx; exact ⟨hb.1, hb.2.1, hb.2.2, hn⟩
  · rw [lgAdd_some h]
    have hm := List.mem_of_find?_eq_some h
    have he := List.find?_some h
    exact ⟨hk, (hk.2 x hm).2.2.2, by simp, ⟨x, hm, by simpa using he⟩, fun x hx => hx⟩
theorem fill_good (bs : List (List Nat)) (hn : bs.length ≤ 30) (hb : ∀ b ∈ bs, BodyOk b) :
    GoodE (lgFill bs).1 ∧ (∀ t ∈ (lgFill bs).2, t ≤ 30) ∧ (lgFill bs).1.length ≤ bs.length ∧ ∀ b ∈ bs, ∃ x ∈ (lgFill bs).1, x.b = b := by
  revert hn hb
  refine snoc_ind (P := fun bs => bs.length ≤ 30 → (∀ b ∈ bs, BodyOk b) → GoodE (lgFill bs).1 ∧ (∀ t ∈ (lgFill bs).2, t ≤ 30) ∧ (lgFill bs).1.length ≤ bs.length ∧ ∀ b ∈ bs, ∃ x ∈ (lgFill bs).1, x.b = b) ?_ (fun l b ih => ?_) bs
  · intro _ _; rw [fill_nil]; exact ⟨good_nil, by simp, Nat.le_refl _, by simp⟩
  · intro hn hb
    rw [List.length_append, List.length_singleton] at hn
    obtain ⟨i1, i2, i3, i4⟩ := ih (by omega) fun c hc => hb c (List.mem_append_left _ hc)
    obtain ⟨a1, a2, a3, a4, a5⟩ := lgAdd_good (now := (lgFill l).2.length) i1 (hb b (by simp)) (by rw [fill_len]; omega)
    rw [fill_snoc]
    refine ⟨a1, ?_, ?_, ?_⟩
    · intro t ht
      rcases List.mem_append.1 ht with ht | ht
      · exact i2 t ht
      · rw [List.mem_singleton] at ht; subst ht; exact a2
    · show (lgAdd (lgFill l).1 b (lgFill l).2.length).1.length ≤ _; rw [List.length_append, List.length_singleton]; omega
    · intro c hc
      rcases List.mem_append.1 hc with hc | hc
      · obtain ⟨x, hx, e⟩ := i4 c hc; exact ⟨x, a5 x hx, e⟩
      · rw [List.mem_singleton] at hc; subst hc; exact a4
end Go.Proofs.YtfpmfegmehbfbaaGreatDoor
