/- Parts of the proofs, put together: ShP, ShP2, Qu15, QuR7, QuR8, QuP, QuP2, QuP3. -/
import Derived.Test.YtiecfamjnnmpaaaGreatR10
import Derived.Test.YtiecfamjnnmpaaaGreatR17
/- Plain: what follows of shares (back, hides, sums, public, spoilt, ones). No walk here. -/
namespace Go.Proofs.YtiecfamjnnmpaaaGreat
set_option linter.unusedVariables false
attribute [local irreducible] mix hSum hNum coefN

def idOf (s : Int × Nat) : Int := s.1
theorem may_of {L : List (Int × Nat)} (h0 : 0 < L.length) (h7 : L.length ≤ 7) (hr : ∀ s ∈ L, (1 ≤ s.1 ∧ s.1 < 1152921504606845789) ∧ s.2 < bR) (hn : (L.map fun s : Int × Nat => s.1).Nodup) : mayB L = true := by
  rw [mayB_eq, Bool.and_eq_true]
  refine ⟨List.all_eq_true.2 fun s hs => by simpa using (hr s hs).2, (rightB_iff _).2 ⟨⟨fun i hi => ?_, hn⟩, by simpa using h0, by simpa using h7⟩⟩
  obtain ⟨s, hs, rfl⟩ := List.mem_map.1 hi
  exact (hr s hs).1
theorem ok_of_may {L : List (Int × Nat)} (h : mayB L = true) : okP (L.map fun s : Int × Nat => s.1) := by
  rw [mayB_eq, Bool.and_eq_true] at h
  exact ((rightB_iff _).1 h.2).1
/-- Shares on a polynomial make what it is at 0. -/
theorem join_on {L : List (Int × Nat)} (h : mayB L = true) {P : Int → Int} (hP : Pd bR L.length P) (hL : ∀ s ∈ L, Cg bR (s.2 : Int) (P s.1)) {v : Nat} (hv : v < bR) (h0 : Cg bR (v : Int) (P 0)) : sumN (L.map fun s : Int × Nat => s.1) 0 L = v :=
  eq_of_cg (sumN_lt _ _ _) hv ((sum_poly L (ok_of_may h) P hP hL 0).trans h0.symm)
theorem joinR_on {L : List (Int × Nat)} (h : mayB L = true) {P : Int → Int} (hP : Pd bR L.length P) (hL : ∀ s ∈ L, Cg bR (s.2 : Int) (P s.1)) {v : Nat} (hv : v < bR) (h0 : Cg bR (v : Int) (P 0)) : joinR L = .tuple #[.int .u64 (v : Int), .int .i64 0] := by
  have h7 := may_facts h
  have hne : L.length ≠ 0 := by
    intro he
    have := (rightB_iff _).1 h7.1
    rw [List.length_map] at this
    omega
  rw [joinR_ok hne h, join_on h hP hL hv h0]

/-- A share of a polynomial. -/
def OnP (poly : List Nat) (s : Int × Nat) : Prop := (1 ≤ s.1 ∧ s.1 ≤ 7) ∧ s.2 = evZ poly s.1.toNat % bR
theorem OnP.cg {poly : List Nat} {s : Int × Nat} (h : OnP poly s) : Cg bR (s.2 : Int) (evI poly s.1) := by
  obtain ⟨h1, h2⟩ := h
  rw [h2]
  have e : evI poly s.1 = (evZ poly s.1.toNat : Nat) := by rw [← evI_cast]; congr 1; omega
  rw [e]
  exact cg_mod _ _
theorem OnP.range {poly : List Nat} {s : Int × Nat} (h : OnP poly s) : (1 ≤ s.1 ∧ s.1 < 1152921504606845789) ∧ s.2 < bR := by
  obtain ⟨h1, h2⟩ := h
  refine ⟨by omega, ?_⟩
  rw [h2]
  exact Nat.mod_lt _ (by decide)
theorem split_onP {secret tn nn : Nat} {seed : List Nat} (h7 : nn ≤ 7) : ∀ s ∈ splitL secret tn nn seed, OnP (polyN secret tn seed) s := by
  intro s hs
  obtain ⟨k, hk, rfl⟩ := List.mem_map.1 hs
  rw [List.mem_range] at hk
  refine ⟨by dsimp only; omega, ?_⟩
  show _ = evZ _ (((k + 1 : Nat) : Int)).toNat % bR
  rw [Int.toNat_natCast]
theorem split_ids {secret tn nn : Nat} {seed : List Nat} : (splitL secret tn nn seed).map (fun s : Int × Nat => s.1) = (List.range nn).map fun k => ((k + 1 : Nat) : Int) := by
  simp [splitL, List.map_map]
theorem split_nodup {secret tn nn : Nat} {seed : List Nat} : ((splitL secret tn nn seed).map fun s : Int × Nat => s.1).Nodup := by
  rw [split_ids]
  exact List.Pairwise.map _ (fun a b (h : a ≠ b) e => h (by have : ((a + 1 : Nat) : Int) = ((b + 1 : Nat) : Int) := e; omega)) List.nodup_range
theorem poly_zero {secret tn : Nat} {seed : List Nat} (h : 1 ≤ tn) : evI (polyN secret tn seed) 0 = secret := by
  obtain ⟨k, rfl⟩ : ∃ k, tn = k + 1 := ⟨tn - 1, by omega⟩
  unfold polyN
  rw [List.range_succ_eq_map, List.map_cons]
  show ((if 0 = 0 then secret else coefN seed 0 : Nat) : Int) + 0 * _ = _
  rw [if_pos rfl]; omega
theorem poly_pd (secret tn : Nat) (seed : List Nat) {k : Nat} (h : tn ≤ k) : Pd bR k (evI (polyN secret tn seed)) := by
  have := evI_pd bR (polyN secret tn seed)
  rw [polyN_length] at this
  exact this.le h
/-- As many as are enough make the secret. -/
theorem join_split {secret tn : Nat} {seed : List Nat} (h1 : 1 ≤ tn) (hs : secret < bR) {L : List (Int × Nat)} (hL : ∀ s ∈ L, OnP (polyN secret tn seed) s) (hn : (L.map fun s : Int × Nat => s.1).Nodup) (ht : tn ≤ L.length) (h7 : L.length ≤ 7) :
    joinR L = .tuple #[.int .u64 (secret : Int), .int .i64 0] :=
  joinR_on (may_of (by omega) h7 (fun s hs => (hL s hs).range) hn) (poly_pd secret tn seed ht) (fun s hs => (hL s hs).cg) hs (Cg.of_eq (poly_zero h1).symm)

/-! ### some of them -/
def pickL (l : List (Int × Nat)) (f n : Nat) : List (Int × Nat) := (List.range n).map fun i => l.getD ((f + i) % l.length) (0, 0)
def someL (l : List (Int × Nat)) (f n : Nat) (turned : Bool) : List (Int × Nat) := if turned then (pickL l f n).reverse else pickL l f n
theorem pickL_length (l : List (Int × Nat)) (f n : Nat) : (pickL l f n).length = n := by simp [pickL]
theorem someL_length (l : List (Int × Nat)) (f n : Nat) (t : Bool) : (someL l f n t).length = n := by unfold someL; split <;> simp [pickL_length]
theorem pickL_succ (l : List (Int × Nat)) (f n : Nat) : pickL l f (n + 1) = pickL l f n ++ [l.getD ((f + n) % l.length) (0, 0)] := by simp [pickL, List.range_succ]
theorem someL_succ_f (l : List (Int × Nat)) (f n : Nat) : someL l f (n + 1) false = someL l f n false ++ [l.getD ((f + n) % l.length) (0, 0)] := pickL_succ l f n
theorem someL_succ_t (l : List (Int × Nat)) (f n : Nat) : someL l f (n + 1) true = l.getD ((f + n) % l.length) (0, 0) :: someL l f n true := by
  show (pickL l f (n + 1)).reverse = _
  rw [pickL_succ, List.reverse_append]; rfl
theorem mem_pick {l : List (Int × Nat)} (h : 0 < l.length) {f n : Nat} {s : Int × Nat} (hs : s ∈ pickL l f n) : s ∈ l := by
  obtain ⟨i, -, rfl⟩ := List.mem_map.1 hs
  have hlt : (f + i) % l.length < l.length := Nat.mod_lt _ h
  rw [List.getD_eq_getElem?_getD, List.getElem?_eq_getElem hlt]
  exact List.getElem_mem hlt
theorem mem_some {l : List (Int × Nat)} (h : 0 < l.length) {f n : Nat} {t : Bool} {s : Int × Nat} (hs : s ∈ someL l f n t) : s ∈ l := by
  unfold someL at hs
  split at hs
  · exact mem_pick h (List.mem_reverse.1 hs)
  · exact mem_pick h hs
theorem mod_inj {f i j n : Nat} (hi : i < n) (hj : j < n) (h : (f + i) % n = (f + j) % n) : i = j := by
  have e1 := Nat.div_add_mod (f + i) n
  have e2 := Nat.div_add_mod (f + j) n
  rw [h] at e1
  have hr := Nat.mod_lt (f + j) (show 0 < n by omega)
  obtain ⟨a, ha⟩ : ∃ a, a = (f + i) / n := ⟨_, rfl⟩
  obtain ⟨b, hb⟩ : ∃ a, a = (f + j) / n := ⟨_, rfl⟩
  rw [← ha] at e1
  rw [← hb] at e2
  rcases Nat.lt_trichotomy a b with hlt | rfl | hlt
  · have := Nat.mul_le_mul_left n (show a + 1 ≤ b from hlt)
    rw [Nat.mul_add, Nat.mul_one] at this
    omega
  · omega
  · have := Nat.mul_le_mul_left n (show b + 1 ≤ a from hlt)
    rw [Nat.mul_add, Nat.mul_one] at this
    omega
theorem nodup_inj {l : List Int} (h : l.Nodup) {i j : Nat} {x : Int} (hi : l[i]? = some x) (hj : l[j]? = some x) : i = j := by
  induction l generalizing i j with
  | nil => cases hi
  | cons a l ih =>
    rw [List.nodup_cons] at h
    cases i with
    | zero =>
      cases j with
      | zero => rfl
      | succ j =>
        rw [List.getElem?_cons_zero] at hi
        rw [List.getElem?_cons_succ] at hj
        cases hi
        exact absurd (List.mem_of_getElem? hj) h.1
    | succ i =>
      cases j with
      | zero =>
        rw [List.getElem?_cons_zero] at hj
        rw [List.getElem?_cons_succ] at hi
        cases hj
        exact absurd (List.mem_of_getElem? hi) h.1
      | succ j =>
        rw [List.getElem?_cons_succ] at hi hj
        rw [ih h.2 hi hj]
theorem nodup_rev {l : List Int} (h : l.Nodup) : l.reverse.Nodup := by
  unfold List.Nodup at *
  rw [List.pairwise_reverse]
  exact h.imp fun {a b} hne => Ne.symm hne
theorem pick_nodup {l : List (Int × Nat)} (hn : (l.map fun s : Int × Nat => s.1).Nodup) {f n : Nat} (h : n ≤ l.length) : ((pickL l f n).map fun s : Int × Nat => s.1).Nodup := by
  unfold pickL
  rw [List.map_map]
  refine List.Pairwise.map _ (R := fun a b => a ≠ b ∧ a < n ∧ b < n) (fun a b hab e => ?_) ?_
  · obtain ⟨hne, ha, hb⟩ := hab
    have hl : 0 < l.length := by omega
    have hla : (f + a) % l.length < l.length := Nat.mod_lt _ hl
    have hlb : (f + b) % l.length < l.length := Nat.mod_lt _ hl
    have e1 : (l.map fun s : Int × Nat => s.1)[(f + a) % l.length]? = some (l.getD ((f + a) % l.length) (0, 0)).1 := by
      rw [List.getElem?_map, List.getD_eq_getElem?_getD, List.getElem?_eq_getElem hla]; rfl
    have e2 : (l.map fun s : Int × Nat => s.1)[(f + b) % l.length]? = some (l.getD ((f + b) % l.length) (0, 0)).1 := by
      rw [List.getElem?_map, List.getD_eq_getElem?_getD, List.getElem?_eq_getElem hlb]; rfl
    have e' : (l.getD ((f + a) % l.length) (0, 0)).1 = (l.getD ((f + b) % l.length) (0, 0)).1 := e
    rw [← e'] at e2
    exact hne (mod_inj (by omega) (by omega) (nodup_inj hn e1 e2))
  · exact List.Pairwise.imp_of_mem (fun {a b} ha hb h => ⟨h, List.mem_range.1 ha, List.mem_range.1 hb⟩) List.nodup_range
theorem some_nodup {l : List (Int × Nat)} (hn : (l.map fun s : Int × Nat => s.1).Nodup) {f n : Nat} {t : Bool} (h : n ≤ l.length) : ((someL l f n t).map fun s : Int × Nat => s.1).Nodup := by
  unfold someL
  split
  · rw [List.map_reverse]; exact nodup_rev (pick_nodup hn h)
  · exact pick_nodup hn h
/-- The stage's theorem. -/
theorem back_plain {secret tn nn : Nat} {seed : List Nat} (h1 : 1 ≤ tn) (h2 : tn ≤ nn) (h7 : nn ≤ 7) (hs : secret < bR) (f k : Nat) (t : Bool) (hk : tn ≤ k) (hkn : k ≤ nn) :
    joinR (someL (splitL secret tn nn seed) f k t) = .tuple #[.int .u64 (secret : Int), .int .i64 0] :=
  join_split h1 hs (fun s hs => split_onP h7 s (mem_some (by rw [splitL_length]; omega) hs)) (some_nodup split_nodup (by rw [splitL_length]; exact hkn)) (by rw [someL_length]; exact hk) (by rw [someL_length]; omega)
end Go.Proofs.YtiecfamjnnmpaaaGreat

/- Plain: what follows of shares: hides, sums, public, spoilt, ones. No walk here. -/
namespace Go.Proofs.YtiecfamjnnmpaaaGreat
set_option linter.unusedVariables false
attribute [local irreducible] mix hSum hNum coefN

theorem split_take (secret tn nn : Nat) (seed : List Nat) {k : Nat} (h : k ≤ nn) : (splitL secret tn nn seed).take k = splitL secret tn k seed := by
  unfold splitL
  rw [← List.map_take]
  congr 1
  refine List.ext_getElem? fun i => ?_
  rw [List.getElem?_take]
  split
  · rw [List.getElem?_range (by omega), List.getElem?_range (by omega)]
  · rw [List.getElem?_eq_none (by simp; omega)]
theorem split_succ (secret tn k : Nat) (seed : List Nat) : splitL secret tn (k + 1) seed = splitL secret tn k seed ++ [(((k + 1 : Nat) : Int), evZ (polyN secret tn seed) (k + 1) % bR)] := by
  simp [splitL, List.range_succ]
theorem split_mem (secret tn seed) {nn k : Nat} (h : k < nn) : (((k + 1 : Nat) : Int), evZ (polyN secret tn seed) (k + 1) % bR) ∈ splitL secret tn nn seed := List.mem_of_getElem? (splitL_at secret tn nn seed h)
theorem split_may {secret tn nn : Nat} {seed : List Nat} (h0 : 1 ≤ nn) (h7 : nn ≤ 7) : mayB (splitL secret tn nn seed) = true :=
  may_of (by rw [splitL_length]; omega) (by rw [splitL_length]; exact h7) (fun s hs => (split_onP h7 s hs).range) split_nodup
theorem split_sum {secret tn nn : Nat} {seed : List Nat} (h1 : 1 ≤ tn) (h2 : tn ≤ nn) (h7 : nn ≤ 7) (x : Nat) : sumN ((splitL secret tn nn seed).map fun s : Int × Nat => s.1) x (splitL secret tn nn seed) = evZ (polyN secret tn seed) x % bR := by
  refine eq_of_cg (sumN_lt _ _ _) (Nat.mod_lt _ (by decide)) ?_
  refine (sum_poly _ (ok_of_may (split_may (by omega) h7)) (evI (polyN secret tn seed)) (poly_pd _ _ _ (by rw [splitL_length]; exact h2)) (fun s hs => (split_onP h7 s hs).cg) x).trans ?_
  rw [evI_cast]
  exact (cg_mod _ _).symm
theorem cg_range {x k : Nat} (h : x ≤ 7) (hk : k ≤ 7) (hne : x ≠ k) : ¬ Cg bR (x : Int) (k : Int) := ncg_of_ne (by omega) (by omega) (by omega)

/-- Fewer tell nothing. -/
theorem hides_plain {secret other tn : Nat} {seed : List Nat} (h1 : 1 ≤ tn) (h7 : tn ≤ 7) (hs : secret < bR) (ho : other < bR) :
    ∃ (pre : List (Int × Nat)) (x w : Nat) (ids : List Int), splitL secret tn tn seed = pre ++ [((tn : Int), x)] ∧ pre.length = tn - 1 ∧ x < bR ∧ w < bR ∧ ids = (pre ++ [((tn : Int), x)]).map (fun s : Int × Nat => s.1) ∧ wgtR ids tn = .tuple #[.int .u64 (w : Int), .int .i64 0] ∧ invE bR w = 0 ∧
      ∀ x', x' = addM bR x (mulM bR (subM bR other secret) (invM bR w)) → joinR (pre ++ [((tn : Int), x')]) = .tuple #[.int .u64 (other : Int), .int .i64 0] := by
  obtain ⟨k, rfl⟩ : ∃ k, tn = k + 1 := ⟨tn - 1, by omega⟩
  have hsum := split_sum (secret := secret) (seed := seed) h1 (Nat.le_refl _) h7 0
  have hmay := split_may (secret := secret) (tn := k + 1) (seed := seed) h1 h7
  rw [split_succ] at hsum hmay
  have hz : evZ (polyN secret (k + 1) seed) 0 % bR = secret := by
    have h := poly_zero (secret := secret) (seed := seed) h1
    have h' := evI_cast (polyN secret (k + 1) seed) 0
    have : (evZ (polyN secret (k + 1) seed) 0 : Int) = secret := by rw [← h', ← h]; rfl
    have : evZ (polyN secret (k + 1) seed) 0 = secret := by exact_mod_cast this
    rw [this, Nat.mod_eq_of_lt hs]
  rw [hz] at hsum
  obtain ⟨pre, hpre⟩ : ∃ p, p = splitL secret (k + 1) k seed := ⟨_, rfl⟩
  obtain ⟨x, hx⟩ : ∃ p, p = evZ (polyN secret (k + 1) seed) (k + 1) % bR := ⟨_, rfl⟩
  rw [← hpre, ← hx] at hsum hmay
  have hok := ok_of_may hmay
  have hmf := may_facts hmay
  obtain ⟨ids, hids⟩ : ∃ i, i = (pre ++ [(((k + 1 : Nat) : Int), x)]).map fun s : Int × Nat => s.1 := ⟨_, rfl⟩
  rw [← hids] at hsum hok hmf
  have hmem : ((k + 1 : Nat) : Int) ∈ ids := by rw [hids]; simp
  have hxb : x < bR := by rw [hx]; exact Nat.mod_lt _ (by decide)
  have hw : atN ids ((k + 1 : Nat) : Int) 0 % bR ≠ 0 := at_ne hok hmem fun j hj hne => ncg_of_ne (by omega) (by have := hok.1 j hj; omega) (by have := hok.1 j hj; omega)
  refine ⟨pre, x, atN ids ((k + 1 : Nat) : Int) 0, ids, by rw [split_succ, ← hpre, ← hx], by rw [hpre, splitL_length]; omega, hxb, atN_lt _ _ _, hids, ?_, invE_ok hw, ?_⟩
  · unfold wgtR wgtV wgtE
    rw [if_pos ⟨hmf.1, hmem⟩, if_pos ⟨hmf.1, hmem⟩]; rfl
  · intro x' hx'
    have hids' : ids = (pre ++ [(((k + 1 : Nat) : Int), x')]).map fun s : Int × Nat => s.1 := by rw [hids]; simp
    have hmay' : mayB (pre ++ [(((k + 1 : Nat) : Int), x')]) = true := by
      refine may_of (by simp) ?_ ?_ ?_
      · have := hmf.2.2.2; simp at this ⊢; exact this
      · intro s hs
        rcases List.mem_append.1 hs with h | h
        · exact ⟨hmf.2.2.1 s (List.mem_append.2 (.inl h)), hmf.2.1 s (List.mem_append.2 (.inl h))⟩
        · rw [List.mem_singleton] at h
          subst h
          exact ⟨hmf.2.2.1 ((((k + 1 : Nat) : Int), x)) (by simp), by rw [hx']; exact addM_lt' (by decide) _ _⟩
      · rw [← hids']; exact hok.2
    rw [joinR_ok (by simp) hmay', ← hids', sumN_snoc]
    rw [sumN_snoc] at hsum
    have hlt := addM_lt' (m := bR) (by decide) (sumN ids 0 pre) (mulM bR x' (atN ids ((k + 1 : Nat) : Int) 0))
    have key : addM bR (sumN ids 0 pre) (mulM bR x' (atN ids ((k + 1 : Nat) : Int) 0)) = other := by
      refine eq_of_cg hlt ho ?_
      have a1 := (cg_add bR (sumN ids 0 pre) (mulM bR x (atN ids ((k + 1 : Nat) : Int) 0))).trans ((Cg.refl _ _).add (cg_mul _ _ _))
      have e1 : ((addM bR (sumN ids 0 pre) (mulM bR x (atN ids ((k + 1 : Nat) : Int) 0)) : Nat) : Int) = secret := by exact_mod_cast hsum
      rw [e1] at a1
      have a2 := (cg_add bR (sumN ids 0 pre) (mulM bR x' (atN ids ((k + 1 : Nat) : Int) 0))).trans ((Cg.refl _ _).add (cg_mul _ _ _))
      have a3 : Cg bR (x' : Int) ((x : Int) + ((other : Int) - secret) * (invM bR (atN ids ((k + 1 : Nat) : Int) 0) : Nat)) := by
        rw [hx']
        exact (cg_add _ _ _).trans ((Cg.refl _ _).add ((cg_mul _ _ _).trans ((cg_sub _ _ _ (by decide)).mul (Cg.refl _ _))))
      have a4 := cg_inv hw
      have a5 := a2.trans ((Cg.refl _ _).add (a3.mul (Cg.refl _ _)))
      have a6 := ((Cg.refl bR ((other : Int) - secret)).mul a4)
      have a7 := a1.symm.add a6
      exact a5.trans ((Cg.of_eq (by grind)).trans (a7.trans (Cg.of_eq (by grind))))
    rw [key]

/-! ### sums -/
def sumsL (l m : List (Int × Nat)) (times : Nat) : List (Int × Nat) := l.zipWith (fun s r => (s.1, addM bR s.2 (mulM bR r.2 times))) m
theorem sums_plain {a b tn nn : Nat} {seed seed2 : List Nat} (times : Nat) (h1 : 1 ≤ tn) (h2 : tn ≤ nn) (h7 : nn ≤ 7) (ha : a < bR) (hb : b < bR) :
    joinR (sumsL ((splitL a tn nn seed).drop (nn - tn)) ((splitL b tn nn seed2).drop (nn - tn)) times) = .tuple #[.int .u64 ((addM bR a (mulM bR b times) : Nat) : Int), .int .i64 0] := by
  have hd : ∀ (c : Nat) (sd : List Nat), (splitL c tn nn sd).drop (nn - tn) = (List.range tn).map fun i => (((nn - tn + i + 1 : Nat) : Int), evZ (polyN c tn sd) (nn - tn + i + 1) % bR) := fun c sd => by
    refine List.ext_getElem? fun i => ?_
    rw [List.getElem?_drop]
    by_cases hi : i < tn
    · rw [splitL_at c tn nn sd (by omega)]; simp [hi]
    · rw [List.getElem?_eq_none (by rw [splitL_length]; omega), List.getElem?_eq_none (by simp; omega)]
  have e : sumsL ((splitL a tn nn seed).drop (nn - tn)) ((splitL b tn nn seed2).drop (nn - tn)) times = (List.range tn).map fun i => (((nn - tn + i + 1 : Nat) : Int), addM bR (evZ (polyN a tn seed) (nn - tn + i + 1) % bR) (mulM bR (evZ (polyN b tn seed2) (nn - tn + i + 1) % bR) times)) := by
    rw [hd, hd]
    unfold sumsL
    rw [List.zipWith_map]
    refine List.ext_getElem? fun i => ?_
    by_cases hi : i < tn
    · simp [hi]
    · rw [List.getElem?_eq_none (by simp; omega), List.getElem?_eq_none (by simp; omega)]
  rw [e]
  refine joinR_on (P := fun x => evI (polyN a tn seed) x + (times : Int) * evI (polyN b tn seed2) x) (may_of (by simp; omega) (by simp; omega) ?_ ?_) ?_ ?_ (addM_lt' (by decide) _ _) ?_
  · intro s hs
    obtain ⟨i, hi, rfl⟩ := List.mem_map.1 hs
    rw [List.mem_range] at hi
    exact ⟨by dsimp only; omega, addM_lt' (by decide) _ _⟩
  · rw [List.map_map]
    exact List.Pairwise.map _ (fun a b (h : a ≠ b) e => h (by have : ((nn - tn + a + 1 : Nat) : Int) = ((nn - tn + b + 1 : Nat) : Int) := e; omega)) List.nodup_range
  · rw [List.length_map, List.length_range]
    exact (poly_pd a tn seed (Nat.le_refl _)).add ((poly_pd b tn seed2 (Nat.le_refl _)).scale times)
  · intro s hs
    obtain ⟨i, hi, rfl⟩ := List.mem_map.1 hs
    rw [evI_cast, evI_cast]
    refine (cg_add _ _ _).trans ((cg_mod _ _).add ((cg_mul _ _ _).trans (((cg_mod _ _).mul (Cg.refl _ _)).trans (Cg.of_eq (by grind)))))
  · rw [poly_zero h1, poly_zero h1]
    exact (cg_add _ _ _).trans ((Cg.refl _ _).add ((cg_mul _ _ _).trans (Cg.of_eq (by grind))))

/-! ### what is public -/
theorem pub_at {l : List (Int × Nat)} {k : Nat} {s : Int × Nat} (h : l[k]? = some s) : (pubL l)[k]? = some (s.1, powM bQ 4 s.2) := by simp [pubL, h]
theorem pick_pub {l : List (Int × Nat)} (h : 0 < l.length) (f n : Nat) : pickL (pubL l) f n = pubL (pickL l f n) := by
  unfold pickL
  rw [pubL_length]
  show _ = ((List.range n).map _).map _
  rw [List.map_map]
  refine List.map_congr_left fun i hi => ?_
  have hlt : (f + i) % l.length < l.length := Nat.mod_lt _ h
  have e := pub_at (l := l) (List.getElem?_eq_getElem hlt)
  rw [List.getD_eq_getElem?_getD, e]
  simp only [Function.comp_apply, List.getD_eq_getElem?_getD, List.getElem?_eq_getElem hlt, Option.getD_some]
theorem public_x {secret tn nn : Nat} {seed : List Nat} (h1 : 1 ≤ tn) (h2 : tn ≤ nn) (h7 : nn ≤ 7) (hs : secret < bR) (f : Nat) :
    rightB ((pickL (splitL secret tn nn seed) f tn).map fun s : Int × Nat => s.1) = true ∧ wantN ((pickL (splitL secret tn nn seed) f tn).map fun s : Int × Nat => s.1) 0 (pubL (pickL (splitL secret tn nn seed) f tn)) = powM bQ 4 secret := by
  have hl : 0 < (splitL secret tn nn seed).length := by rw [splitL_length]; omega
  have hon : ∀ s ∈ pickL (splitL secret tn nn seed) f tn, OnP (polyN secret tn seed) s := fun s hs => split_onP h7 s (mem_pick hl hs)
  have hmay : mayB (pickL (splitL secret tn nn seed) f tn) = true := may_of (by rw [pickL_length]; omega) (by rw [pickL_length]; omega) (fun s hs => (hon s hs).range) (pick_nodup split_nodup (by rw [splitL_length]; exact h2))
  refine ⟨(may_facts hmay).1, ?_⟩
  rw [want_pub, join_on hmay (poly_pd secret tn seed (by rw [pickL_length]; exact Nat.le_refl _)) (fun s hs => (hon s hs).cg) hs (Cg.of_eq (poly_zero h1).symm)]
/-- What Check says of public shares whose exponents are known. -/
theorem chk_pub {tn : Nat} {l : List (Int × Nat)} (h1 : 1 ≤ tn) (h7 : tn ≤ 7) (ht : tn ≤ l.length) (hr : rightB (l.map fun s : Int × Nat => s.1) = true) :
    chkN tn (pubL l) = if (∀ s ∈ l.drop tn, sumN ((l.take tn).map fun s : Int × Nat => s.1) s.1.toNat (l.take tn) % bR = s.2 % bR) then 0 else 60 := by
  have hid : (pubL l).map (fun s : Int × Nat => s.1) = l.map fun s : Int × Nat => s.1 := pubL_ids l
  have hall : (pubL l).all (fun s => inB s.2) = true := by
    refine List.all_eq_true.2 fun s hs => ?_
    obtain ⟨r, -, rfl⟩ := List.mem_map.1 hs
    exact inB_base _
  rw [chk_rest (by omega) (by omega) (by rw [hid]; exact hr) hall (by rw [pubL_length]; omega), Int.toNat_natCast]
  have e1 : (pubL l).take tn = pubL (l.take tn) := by unfold pubL; rw [List.map_take]
  have e2 : (pubL l).drop tn = pubL (l.drop tn) := by unfold pubL; rw [List.map_drop]
  have e3 : (pubL (l.take tn)).map (fun x : Int × Nat => x.1) = (l.take tn).map fun s : Int × Nat => s.1 := pubL_ids _
  rw [e1, e2, e3]
  have hiff : ((pubL (l.drop tn)).all fun s => decide (wantN ((l.take tn).map fun s : Int × Nat => s.1) s.1.toNat (pubL (l.take tn)) = s.2)) = true ↔ (∀ s ∈ l.drop tn, sumN ((l.take tn).map fun s : Int × Nat => s.1) s.1.toNat (l.take tn) % bR = s.2 % bR) := by
    rw [List.all_eq_true]
    constructor
    · intro h s hs
      have := h (s.1, powM bQ 4 s.2) (List.mem_map.2 ⟨s, hs, rfl⟩)
      rw [decide_eq_true_eq, want_pub] at this
      exact base_inj this
    · intro h r hr
      obtain ⟨s, hs, rfl⟩ := List.mem_map.1 hr
      rw [decide_eq_true_eq, want_pub]
      show powM bQ 4 _ = powM bQ 4 s.2
      rw [← base_period, h s hs, base_period]
  by_cases hc : (∀ s ∈ l.drop tn, sumN ((l.take tn).map fun s : Int × Nat => s.1) s.1.toNat (l.take tn) % bR = s.2 % bR)
  · rw [if_pos hc, if_pos (hiff.2 hc)]
  · rw [if_neg hc, if_neg (fun h => hc (hiff.1 h))]
theorem public_chk {secret tn nn : Nat} {seed : List Nat} (h1 : 1 ≤ tn) (h2 : tn ≤ nn) (h7 : nn ≤ 7) : chkN tn (pubL (splitL secret tn nn seed)) = 0 := by
  rw [chk_pub h1 (by omega) (by rw [splitL_length]; exact h2) (may_facts (split_may (by omega) h7)).1, if_pos]
  intro s hs
  have hon := split_onP h7 s (List.mem_of_mem_drop hs)
  rw [split_take _ _ _ _ h2, split_sum h1 (Nat.le_refl _) (by omega), hon.2]

/-! ### one that is another -/
theorem sum_parts {ids : List Int} (h : okP ids) (x : Nat) (pre post : List (Int × Nat)) : ∃ A : Int, ∀ (id : Int) (v : Nat), Cg bR (sumN ids x (pre ++ (id, v) :: post) : Nat) (A + (v : Int) * (num ids id x * vI ids id)) :=
  ⟨(pre.map fun s => (s.2 : Int) * (num ids s.1 x * vI ids s.1)).sum + (post.map fun s => (s.2 : Int) * (num ids s.1 x * vI ids s.1)).sum, fun id v => by
    refine (cg_sum h x _).trans (Cg.of_eq ?_)
    rw [List.map_append, List.sum_append, List.map_cons, List.sum_cons]
    show _ + ((v : Int) * (num ids id x * vI ids id) + _) = _
    omega⟩
theorem spoilt_plain {secret tn nn other k : Nat} {seed : List Nat} (h1 : 1 ≤ tn) (h2 : tn < nn) (h7 : nn ≤ 7) (hk : k < nn) (hne : other % bR ≠ evZ (polyN secret tn seed) (k + 1) % bR) :
    chkN tn (pubL ((splitL secret tn nn seed).set k (((k + 1 : Nat) : Int), other))) = 60 := by
  have hlen : ((splitL secret tn nn seed).set k (((k + 1 : Nat) : Int), other)).length = nn := by rw [List.length_set, splitL_length]
  have hids : ((splitL secret tn nn seed).set k (((k + 1 : Nat) : Int), other)).map (fun s : Int × Nat => s.1) = (splitL secret tn nn seed).map fun s : Int × Nat => s.1 := by
    rw [List.map_set]
    refine List.ext_getElem? fun i => ?_
    rw [List.getElem?_set]
    split
    · rename_i hi
      subst hi
      rw [List.getElem?_map, splitL_at secret tn nn seed hk]
      simp [splitL_length, hk]
    · rfl
  have hright := (may_facts (split_may (secret := secret) (tn := tn) (seed := seed) (show 1 ≤ nn by omega) h7)).1
  rw [chk_pub h1 (by omega) (by rw [hlen]; omega) (by rw [hids]; exact hright), if_neg]
  intro hall
  have hmay := split_may (secret := secret) (tn := tn) (seed := seed) h1 (show tn ≤ 7 by omega)
  have hok := ok_of_may hmay
  have hidst : (((splitL secret tn nn seed).set k (((k + 1 : Nat) : Int), other)).take tn).map (fun s : Int × Nat => s.1) = (splitL secret tn tn seed).map fun s : Int × Nat => s.1 := by
    rw [List.map_take, hids, ← List.map_take, split_take _ _ _ _ (by omega)]
  rw [hidst] at hall
  rcases Nat.lt_or_ge k tn with hlt | hge
  · -- a share among the first: the next one does not fit
    have htk : ((splitL secret tn nn seed).set k (((k + 1 : Nat) : Int), other)).take tn = (splitL secret tn tn seed).set k (((k + 1 : Nat) : Int), other) := by
      rw [List.take_set, split_take _ _ _ _ (by omega)]
    rw [htk] at hall
    have hmem : (((tn + 1 : Nat) : Int), evZ (polyN secret tn seed) (tn + 1) % bR) ∈ ((splitL secret tn nn seed).set k (((k + 1 : Nat) : Int), other)).drop tn := by
      refine List.mem_of_getElem? (i := 0) ?_
      rw [List.getElem?_drop, List.getElem?_set, if_neg (by omega)]
      exact splitL_at secret tn nn seed h2
    have h := hall _ hmem
    rw [Int.toNat_natCast, Nat.mod_mod] at h
    have hsum := split_sum (secret := secret) (seed := seed) h1 (Nat.le_refl tn) (by omega) (tn + 1)
    -- the list, parted at k
    have hat := splitL_at secret tn tn seed hlt
    obtain ⟨pre, post, hpp⟩ : ∃ pre post, splitL secret tn tn seed = pre ++ (((k + 1 : Nat) : Int), evZ (polyN secret tn seed) (k + 1) % bR) :: post ∧ pre.length = k := by
      refine ⟨(splitL secret tn tn seed).take k, (splitL secret tn tn seed).drop (k + 1), ?_, by rw [List.length_take, splitL_length]; omega⟩
      have hkl : k < (splitL secret tn tn seed).length := by rw [splitL_length]; exact hlt
      have hg : (splitL secret tn tn seed)[k] = (((k + 1 : Nat) : Int), evZ (polyN secret tn seed) (k + 1) % bR) := by
        have := List.getElem?_eq_getElem hkl
        rw [hat] at this
        exact (Option.some.inj this).symm
      conv => lhs; rw [← List.take_append_drop k (splitL secret tn tn seed), List.drop_eq_getElem_cons hkl, hg]
    obtain ⟨hpp, hpl⟩ := hpp
    have hset : (splitL secret tn tn seed).set k (((k + 1 : Nat) : Int), other) = pre ++ (((k + 1 : Nat) : Int), other) :: post := by
      rw [hpp, List.set_append_right _ _ (by omega), hpl, Nat.sub_self, List.set_cons_zero]
    obtain ⟨ids, hid⟩ : ∃ i, i = (splitL secret tn tn seed).map fun s : Int × Nat => s.1 := ⟨_, rfl⟩
    rw [← hid] at h hsum hok
    obtain ⟨S, hS⟩ := sum_parts hok (tn + 1) pre post
    have c1 := hS ((k + 1 : Nat) : Int) (evZ (polyN secret tn seed) (k + 1) % bR)
    rw [← hpp, hsum] at c1
    have c2 := hS ((k + 1 : Nat) : Int) other
    rw [← hset] at c2
    have c3 := cg_of_mod (m := bR) (a := sumN ids (tn + 1) ((splitL secret tn tn seed).set k (((k + 1 : Nat) : Int), other))) (b := evZ (polyN secret tn seed) (tn + 1) % bR) (by rw [h, Nat.mod_mod])
    have c4 := (c2.symm.trans c3).trans c1
    have hmi : ((k + 1 : Nat) : Int) ∈ ids := by rw [hid]; exact List.mem_map.2 ⟨_, split_mem secret tn seed hlt, rfl⟩
    have hin : ∀ j ∈ ids, 1 ≤ j ∧ j ≤ tn := fun j hj => by
      rw [hid, split_ids] at hj
      obtain ⟨i, hi, rfl⟩ := List.mem_map.1 hj
      rw [List.mem_range] at hi
      omega
    have hw := at_ne hok hmi (x := tn + 1) fun j hj hne => ncg_of_ne (by omega) (by have := hin j hj; omega) (by have := hin j hj; omega)
    have hW := cg_at hok ((k + 1 : Nat) : Int) (tn + 1)
    obtain ⟨W, hWd⟩ : ∃ W, W = num ids ((k + 1 : Nat) : Int) ((tn + 1 : Nat) : Int) * vI ids ((k + 1 : Nat) : Int) := ⟨_, rfl⟩
    rw [← hWd] at c4 hW
    have c5 : ((bR : Nat) : Int) ∣ ((other : Int) - (evZ (polyN secret tn seed) (k + 1) % bR : Nat)) * W := by
      obtain ⟨q, hq⟩ := c4
      exact ⟨q, by grind⟩
    rcases pz_R _ _ c5 with hd | hd
    · exact hne ((mod_of_cg (by decide) (show Cg bR (other : Int) ((evZ (polyN secret tn seed) (k + 1) % bR : Nat) : Int) from hd)).trans (Nat.mod_mod _ _))
    · refine hw ?_
      have : Cg bR (W : Int) 0 := by unfold Cg; rwa [Int.sub_zero]
      have := mod_of_cg (m := bR) (a := atN ids ((k + 1 : Nat) : Int) (tn + 1)) (b := 0) (by decide) (hW.trans this)
      rw [this]; rfl
  · -- a share behind them
    have htk : ((splitL secret tn nn seed).set k (((k + 1 : Nat) : Int), other)).take tn = splitL secret tn tn seed := by
      rw [List.take_set_of_le hge, split_take _ _ _ _ (by omega)]
    rw [htk] at hall
    have hmem : (((k + 1 : Nat) : Int), other) ∈ ((splitL secret tn nn seed).set k (((k + 1 : Nat) : Int), other)).drop tn := by
      refine List.mem_of_getElem? (i := k - tn) ?_
      rw [List.getElem?_drop, show tn + (k - tn) = k by omega, List.getElem?_set, if_pos rfl, if_pos (by rw [splitL_length]; exact hk)]
    have h := hall _ hmem
    rw [Int.toNat_natCast, split_sum h1 (Nat.le_refl tn) (by omega), Nat.mod_mod] at h
    exact hne h.symm
theorem set_self {l : List (Int × Nat)} {k : Nat} {s : Int × Nat} (h : l[k]? = some s) : l.set k s = l := by
  refine List.ext_getElem? fun i => ?_
  rw [List.getElem?_set]
  split
  · rename_i hi
    subst hi
    rw [if_pos (List.getElem?_eq_some_iff.1 h).1, h]
  · rfl
theorem pub_set (l : List (Int × Nat)) (k : Nat) (id : Int) (v : Nat) : (pubL l).set k (id, powM bQ 4 v) = pubL (l.set k (id, v)) := by
  unfold pubL; rw [List.map_set]

/-! ### weights of all together -/
def onesL (ids : List Int) (x : Nat) : List (Int × Nat) := ids.map fun i => (i, x)
theorem ones_ids (ids : List Int) (x : Nat) : (onesL ids x).map (fun s : Int × Nat => s.1) = ids := by
  unfold onesL; rw [List.map_map]; exact List.map_id _
theorem ones_length (ids : List Int) (x : Nat) : (onesL ids x).length = ids.length := by simp [onesL]
theorem ones_may {ids : List Int} {x : Nat} (h : rightB ids = true) (hx : x < bR) : mayB (onesL ids x) = true := by
  rw [mayB_eq, ones_ids, h, Bool.and_true]
  refine List.all_eq_true.2 fun s hs => ?_
  obtain ⟨i, -, rfl⟩ := List.mem_map.1 hs
  simpa using hx
theorem ones_join {ids : List Int} {x : Nat} (h : rightB ids = true) (hx : x < bR) : joinR (onesL ids x) = .tuple #[.int .u64 (x : Int), .int .i64 0] := by
  have hl := ((rightB_iff ids).1 h).2.1
  refine joinR_on (P := fun _ => (x : Int)) (ones_may h hx) ((Pd.const _ _).le (by rw [ones_length]; omega)) ?_ hx (Cg.refl _ _)
  intro s hs
  obtain ⟨i, -, rfl⟩ := List.mem_map.1 hs
  exact Cg.refl _ _
theorem ones_high {ids : List Int} {x : Nat} (h : 0 < ids.length) (hx : bR ≤ x) : joinR (onesL ids x) = .tuple #[.int .u64 0, .int .i64 1] := by
  refine joinR_bad (by rw [ones_length]; omega) ?_
  rw [mayB_eq]
  have : lowB (onesL ids x) = false := by
    obtain ⟨i, hi⟩ : ∃ i, ids[0]? = some i := ⟨_, List.getElem?_eq_getElem h⟩
    exact lowB_not (s := (i, x)) (List.mem_map.2 ⟨i, List.mem_of_getElem? hi, rfl⟩) hx
  rw [this]; rfl
/-- The sum of the first weights. -/
def wsum (ids : List Int) (j : Nat) : Nat := sumN ids 0 (onesL (ids.take j) 1)
theorem wsum_succ {ids : List Int} {j : Nat} {i : Int} (h : ids[j]? = some i) : addM bR (wsum ids j) (atN ids i 0) = wsum ids (j + 1) := by
  unfold wsum
  have e : onesL (ids.take (j + 1)) 1 = onesL (ids.take j) 1 ++ [(i, 1)] := by rw [List.take_add_one, h]; simp [onesL]
  rw [e, sumN_snoc]
  congr 1
  unfold mulM
  rw [Nat.one_mul, Nat.mod_eq_of_lt (atN_lt _ _ _)]
theorem wsum_all {ids : List Int} (h : rightB ids = true) : wsum ids ids.length = 1 := by
  unfold wsum
  rw [List.take_length]
  have := join_on (L := onesL ids 1) (ones_may h (by decide)) (P := fun _ => 1) ((Pd.const _ _).le (by have := ((rightB_iff ids).1 h).2.1; rw [ones_length]; omega)) (fun s hs => by
    obtain ⟨i, -, rfl⟩ := List.mem_map.1 hs
    exact Cg.refl _ _) (v := 1) (by decide) (Cg.refl _ _)
  rw [ones_ids] at this
  exact this
theorem wgt_ok {ids : List Int} (h : rightB ids = true) {i : Int} (hi : i ∈ ids) : wgtR ids i = .tuple #[.int .u64 (atN ids i 0 : Nat), .int .i64 0] := by
  unfold wgtR wgtV wgtE; rw [if_pos ⟨h, hi⟩, if_pos ⟨h, hi⟩]; rfl
theorem wgt_bad {ids : List Int} (h : rightB ids = false) (i : Int) : wgtR ids i = .tuple #[.int .u64 0, .int .i64 1] := by
  have hc : ¬ (rightB ids = true ∧ i ∈ ids) := fun ⟨h1, _⟩ => by rw [h] at h1; cases h1
  unfold wgtR wgtV wgtE; rw [if_neg hc, if_neg hc]; rfl
/-- Of ids that are not right: the first one alone. -/
theorem ones_first {ids : List Int} (h : rightB ids = false) {i : Int} (hi : ids[0]? = some i) (x : Nat) : joinR [(i, x)] = .tuple #[.int .u64 0, .int .i64 1] ∨ (1 < ids.length ∧ joinR [(i, x)] = .tuple #[.int .u64 (x : Int), .int .i64 0]) := by
  have e : [(i, x)] = onesL [i] x := rfl
  rcases Nat.lt_or_ge x bR with hx | hx
  · cases hr : rightB [i] with
    | true =>
      right
      refine ⟨?_, by rw [e]; exact ones_join hr hx⟩
      rcases Nat.lt_or_ge 1 ids.length with h1 | h1
      · exact h1
      · have hl : ids = [i] := by
          match ids, hi, h1 with
          | [a], hi, _ => simp at hi; rw [hi]
        rw [hl, hr] at h
        cases h
    | false =>
      left
      refine joinR_bad (by simp) ?_
      rw [mayB_eq]
      show (lowB _ && rightB [i]) = false
      rw [hr]; simp
  · left
    rw [e]; exact ones_high (by simp) hx
end Go.Proofs.YtiecfamjnnmpaaaGreat

/- Crews, walked: Deal. -/
namespace Go.Proofs.YtiecfamjnnmpaaaGreat
set_option linter.unusedVariables false
open Go.RowKit Go.Shelf Go.Maps
attribute [local irreducible] atN prodN sumN wantN chkN mix hSum hNum chalN chN scN qnN crewN enN rightN allN comE comS splitL

theorem qsplit_wf {secret tn nn : Nat} {seed : List Nat} (h7 : nn ≤ 7) : idsWf (splitL secret tn nn seed) := by
  intro i hi
  obtain ⟨s, hs, rfl⟩ := List.mem_map.1 hi
  have := (split_onP h7 s hs).1
  simp [Lit.wf, IntKind.min, IntKind.max, IntKind.signed, IntKind.bits]; omega
theorem qpub_wf {l : List (Int × Nat)} (h : idsWf l) : idsWf (pubL l) := by
  intro i hi
  rw [show (pubL l).map (fun s : Int × Nat => s.1) = l.map fun s : Int × Nat => s.1 from pubL_ids l] at hi
  exact h i hi
theorem qpub_64 (l : List (Int × Nat)) : ∀ s ∈ pubL l, s.2 < 18446744073709551616 := by
  intro s hs
  obtain ⟨r, -, rfl⟩ := List.mem_map.1 hs
  exact lt64_Q (powM_lt (by decide) _ _)
theorem qpubO_split {secret tn nn : Nat} {seed : List Nat} (h0 : 1 ≤ nn) (h7 : nn ≤ 7) : pubO (splitL secret tn nn seed) = pubL (splitL secret tn nn seed) ∧ pubE (splitL secret tn nn seed) = 0 := by
  have h := split_may (secret := secret) (tn := tn) (seed := seed) h0 h7
  unfold pubO pubE
  rw [h]; exact ⟨rfl, rfl⟩
theorem qsplit_cases (secret : Nat) (t n : Int) (seed : List Nat) : (spO secret t n seed = [] ∧ spE secret t n = 1) ∨ ∃ tn nn : Nat, t = tn ∧ n = nn ∧ 1 ≤ tn ∧ tn ≤ nn ∧ nn ≤ 7 ∧ secret < bR ∧ spO secret t n seed = splitL secret tn nn seed ∧ spE secret t n = 0 := by
  cases hb : spB secret t n with
  | false => left; unfold spO spE; rw [hb]; exact ⟨rfl, rfl⟩
  | true =>
    right
    obtain ⟨h1, h2, h3, h4⟩ := of_decide_eq_true hb
    refine ⟨t.toNat, n.toNat, by omega, by omega, by omega, by omega, by omega, h4, ?_, ?_⟩
    · unfold spO; rw [hb]; rfl
    · unfold spE; rw [hb]; rfl
theorem setCell_far (w : World) (g i : Nat) (u : Value) (q : Addr) (hq : q.block ≠ g) : (w.setCell ⟨g, i, none⟩ u).cell? q = w.cell? q := by
  unfold World.cell?
  simp only [Below.heap_setCell w ⟨g, i, none⟩ u q.block hq]
theorem reads_far {w : World} {B size n : Nat} {A : Option Addr} {xs : List Value} (h : Reads w B size A n xs) {g : Nat} (hA : ∀ ad, A = some ad → ad.block ≠ g) (i : Nat) (u : Value) : Reads (w.setCell ⟨g, i, none⟩ u) B size A n xs := by
  refine ⟨h.1, fun hn => ?_⟩
  obtain ⟨ad, rfl, hb, hc⟩ := h.2 hn
  exact ⟨ad, rfl, hb, fun j v hj => by rw [setCell_far _ _ _ _ _ (by rw [show (ad.add j).block = ad.block by unfold Addr.add; split <;> rfl]; exact hA ad rfl)]; exact hc j v hj⟩
theorem reads_far2 {w : World} {size n : Nat} {A : Option Addr} {xs : List Value} (h : Reads w w.heap.size size A n xs) {g : Nat} (hA : ∀ ad, A = some ad → ad.block ≠ g) (i : Nat) (u : Value) : Reads (w.setCell ⟨g, i, none⟩ u) (w.setCell ⟨g, i, none⟩ u).heap.size size A n xs := by
  rw [World.size_setCell]; exact reads_far h hA i u
theorem blk4_01 {w : World} {g : Nat} {T : TypeId} {a b c d : Value} (h : Blk w g T #[a, b, c, d]) (x y : Value) : Blk ((w.setCell ⟨g, 0, none⟩ x).setCell ⟨g, 1, none⟩ y) g T #[x, y, c, d] := (h.set_ 0 x).set_ 1 y
theorem blk4_2 {w : World} {g : Nat} {T : TypeId} {a b c d : Value} (h : Blk w g T #[a, b, c, d]) (x : Value) : Blk (w.setCell ⟨g, 2, none⟩ x) g T #[a, b, x, d] := h.set_ 2 x
theorem blk4_3 {w : World} {g : Nat} {T : TypeId} {a b c d : Value} (h : Blk w g T #[a, b, c, d]) (x : Value) : Blk (w.setCell ⟨g, 3, none⟩ x) g T #[a, b, c, x] := h.set_ 3 x
theorem own_fresh {w : World} {base n size c : Nat} {e : TypeId} {A : Option Addr} {xs : List Value} (h : w.ownsRow base e size (.slice A n c) n xs) : ∀ ad, A = some ad → base ≤ ad.block := by
  intro ad e
  subst e
  rcases h.2 with ⟨h0, _⟩ | ⟨g', cap, cur, e1, hb, _⟩
  · cases h0
  · injection e1 with e1 _ _
    injection e1 with e1
    subst e1
    exact hb
theorem secN_odd (seed : List Nat) : oddN (secN seed) = false := oddN_some _ _
theorem secN_lt (seed : List Nat) : secN seed < bR := someN_lt _ _

set_option maxRecDepth 100000 in
set_option maxHeartbeats 4000000 in
theorem Deal_bad (seed : List Nat) (hseed : ∀ x ∈ seed, x < 256) (hl : seed.length ≤ 1000) (t n : Int) (hb : spB (secN seed) t n = false) (A : Option Addr) (c : Nat) (hc : seed.length ≤ c) (w : World) (hr : Reads w w.heap.size 1 A seed.length (bv seed)) :
    Calls Tryz.prog 9 #[.slice A seed.length c, .int .i64 t, .int .i64 n] w fun e w' => e = .returned (.tuple #[.agg #[.int .i64 0, .int .i64 0, .int .u64 0, .slice none 0 0], .slice none 0 0, .int .i64 1]) ∧ Ext w w' := by
  have x0 : Ext w (w.alloc (.cells #[.int .i64 0, .int .i64 0, .int .u64 0, .slice none 0 0] 26)) := (Ext.refl w).alloc _
  have c1 := fun (W : World) (x : Ext w W) => Secret_any seed hseed hl A c hc W ((hr.below x.out).more x.size)
  have c2 := fun (W : World) (x : Ext w W) => Split_any (secN seed) t n seed hseed hl A c hc W ((hr.below x.out).more x.size)
  have e1 : spO (secN seed) t n seed = [] := by unfold spO; rw [hb]; rfl
  have e2 : spE (secN seed) t n = 1 := by unfold spE; rw [hb]; rfl
  rw [e1, e2] at c2
  obtain ⟨u, hu⟩ : ∃ u, u = secN seed := ⟨_, rfl⟩
  rw [← hu] at c1 c2
  have HB := Lib.hid (Blk.new w 26 #[.int .i64 0, .int .i64 0, .int .u64 0, .slice none 0 0])
  clear hr hseed hl hc e1 e2 hb hu
  go_enter Tryz.func9, Tryz.ntmps9
  go_wp2_with (first
    | (go_at_call 26; refine (c1 _ x0).mono ?_; clear c1; rintro e w1 ⟨rfl, x1⟩)
    | (go_at_call 27; refine (c2 _ (x0.trans x1)).mono ?_; clear c2; rintro e w2 ⟨A2, d2, rfl, -, -, x2⟩; have hb := ext_blk (x1.trans x2) HB.out; obtain ⟨p0, p1, p2, p3⟩ := arr4 hb; have f0 := hb.frozen 0; have f1 := hb.frozen 1; have f2 := hb.frozen 2; have f3 := hb.frozen 3; clear hb))
  refine bodyPost_ret (v := .tuple #[.agg #[.int .i64 0, .int .i64 0, .int .u64 0, .slice none 0 0], .slice none 0 0, .int .i64 1]) (by simp [results, Tryz.results9, go_sem, p0, p1, p2, p3]) rfl ⟨rfl, ?_⟩
  exact ((((((x0.trans x1).trans x2).setCell (p := ⟨w.heap.size, 0, none⟩) (Nat.le_refl _) _).setCell (p := ⟨w.heap.size, 1, none⟩) (Nat.le_refl _) _).setCell (p := ⟨w.heap.size, 2, none⟩) (Nat.le_refl _) _).setCell (p := ⟨w.heap.size, 3, none⟩) (Nat.le_refl _) _)

set_option maxRecDepth 100000 in
set_option maxHeartbeats 4000000 in
theorem Deal_ok (seed : List Nat) (hseed : ∀ x ∈ seed, x < 256) (hl : seed.length ≤ 1000) (tn nn : Nat) (h1 : 1 ≤ tn) (h2 : tn ≤ nn) (h3 : nn ≤ 7) (A : Option Addr) (c : Nat) (hc : seed.length ≤ c) (w : World) (hr : Reads w w.heap.size 1 A seed.length (bv seed)) :
    Calls Tryz.prog 9 #[.slice A seed.length c, .int .i64 (tn : Int), .int .i64 (nn : Int)] w fun e w' => ∃ P c1 L c2, e = .returned (.tuple #[.agg #[.int .i64 (tn : Int), .int .i64 (nn : Int), .int .u64 (powM bQ 4 (secN seed) : Nat), .slice P nn c1], .slice L nn c2, .int .i64 0]) ∧ nn ≤ c1 ∧ nn ≤ c2 ∧ Reads w' w'.heap.size 2 P nn (sv (pubL (splitL (secN seed) tn nn seed))) ∧ Reads w' w'.heap.size 2 L nn (sv (splitL (secN seed) tn nn seed)) ∧ Ext w w' := by
  have x0 : Ext w (w.alloc (.cells #[.int .i64 0, .int .i64 0, .int .u64 0, .slice none 0 0] 26)) := (Ext.refl w).alloc _
  have hb : spB (secN seed) tn nn = true := by unfold spB; exact decide_eq_true ⟨by omega, by omega, by omega, secN_lt seed⟩
  have c1 := fun (W : World) (x : Ext w W) => Secret_any seed hseed hl A c hc W ((hr.below x.out).more x.size)
  have c2 := fun (W : World) (x : Ext w W) => Split_okF (secN seed) tn nn seed h1 h2 h3 (secN_lt seed) hseed hl A c hc W ((hr.below x.out).more x.size)
  have e1 : spO (secN seed) tn nn seed = splitL (secN seed) tn nn seed := by unfold spO; rw [hb]; rfl
  have e2 : spE (secN seed) tn nn = 0 := by unfold spE; rw [hb]; rfl
  have c3 := fun W => Public_any (secN seed) (r64 (secN_lt seed)) W
  rw [if_neg (by rw [secN_odd]; decide)] at c3
  obtain ⟨q1, q2⟩ := qpubO_split (secret := secN seed) (tn := tn) (seed := seed) (show 1 ≤ nn by omega) h3
  have c4 := fun A c (W : World) hq => shPublic_any (splitL (secN seed) tn nn seed) (qsplit_wf h3) (fun s hs => lt64_R (split_onP h3 s hs).range.2) A c (by rw [splitL_length]; omega) W hq
  rw [q1, q2, pubL_length, splitL_length] at c4
  obtain ⟨ls, hls⟩ : ∃ u, u = splitL (secN seed) tn nn seed := ⟨_, rfl⟩
  rw [← hls] at c2 c4 ⊢
  have hmay : mayB ls = true := by rw [hls]; exact split_may (by omega) h3
  obtain ⟨u, hu⟩ : ∃ u, u = secN seed := ⟨_, rfl⟩
  rw [← hu] at c1 c2 c3 ⊢
  have HM := Lib.hid hmay
  obtain ⟨k, hk⟩ : ∃ k, k = powM bQ 4 u := ⟨_, rfl⟩
  rw [← hk] at c3 ⊢
  have HB := Lib.hid (Blk.new w 26 #[.int .i64 0, .int .i64 0, .int .u64 0, .slice none 0 0])
  clear hr hseed hl hc e1 e2 hb hu hls hk q1 q2 h1 h2 h3
  go_enter Tryz.func9, Tryz.ntmps9
  go_wp2_with (first
    | (go_at_call 26; refine (c1 _ x0).mono ?_; clear c1; rintro e w1 ⟨rfl, x1⟩)
    | (go_at_call 27; refine (c2 _ (x0.trans x1)).mono ?_; clear c2; rintro e w2 ⟨A2, d2, rfl, hd2, r2, x2, n2⟩; have X2 := Lib.hid ((((x0.trans x1).trans x2).setCell (p := ⟨w.heap.size, 0, none⟩) (Nat.le_refl _) (.int .i64 (tn : Int))).setCell (p := ⟨w.heap.size, 1, none⟩) (Nat.le_refl _) (.int .i64 (nn : Int))); have N2 := Lib.hid (fun ad h => Nat.ne_of_gt (Nat.lt_of_lt_of_le (by rw [World.size_alloc]; omega) (Nat.le_trans x1.size (n2 ad h))) : ∀ ad, A2 = some ad → ad.block ≠ w.heap.size); have Z2 := Lib.hid (Nat.lt_of_lt_of_le (by rw [World.size_alloc]; omega) (Nat.le_trans x1.size x2.size) : w.heap.size < w2.heap.size); have hb := ext_blk (x1.trans x2) HB.out; obtain ⟨p0, p1, p2, p3⟩ := arr4 hb; have f0 := hb.frozen 0; have f1 := hb.frozen 1; have HB2 := Lib.hid (blk4_01 hb (.int .i64 (tn : Int)) (.int .i64 (nn : Int))); have R2 := Lib.hid (reads_far2 (reads_far2 r2 N2.out 0 (.int .i64 (tn : Int))) N2.out 1 (.int .i64 (nn : Int))); clear hb r2 n2 x1 x2)
    | (go_at_call 28; refine (c3 _).mono ?_; clear c3; rintro e w3 ⟨rfl, x3⟩; have X3 := Lib.hid ((X2.out.trans x3).setCell (p := ⟨w.heap.size, 2, none⟩) (Nat.le_refl _) (.int .u64 (k : Int))); have hb := ext_blk x3 HB2.out; have g2 := hb.cell 2; have f2 := hb.frozen 2; have HB3 := Lib.hid (blk4_2 hb (.int .u64 (k : Int))); have Z3 := Lib.hid (Nat.lt_of_lt_of_le Z2.out (by have := x3.size; simpa using this) : w.heap.size < w3.heap.size); have R3 := Lib.hid (reads_far2 ((R2.out.below x3.out).more x3.size) N2.out 2 (.int .u64 (k : Int))); clear hb x3)
    | (go_at_call 29; refine (c4 _ _ _ R3.out).mono ?_; clear c4; rintro e w4 ⟨P, c1', rfl, hc1, r4, x4, o4⟩; have o4 := o4 HM.out; have N4 := Lib.hid (fun ad h => Nat.ne_of_gt (Nat.lt_of_lt_of_le (by rw [World.size_setCell]; exact Z3.out) (own_fresh o4 ad h)) : ∀ ad, P = some ad → ad.block ≠ w.heap.size); have X4 := Lib.hid (X3.out.trans x4); have hb := ext_blk x4 HB3.out; have g3 := hb.cell 3; have f3 := hb.frozen 3; have hb5 := blk4_3 hb (.slice P nn c1'); have k0 := hb5.cell 0; have k1 := hb5.cell 1; have k2 := hb5.cell 2; have k3 := hb5.cell 3; have m0 := hb5.frozen 0; have m1 := hb5.frozen 1; have m2 := hb5.frozen 2; have m3 := hb5.frozen 3; have HB5 := Lib.hid hb5; have R4 := Lib.hid (reads_far2 r4 N4.out 3 (.slice P nn c1')); have R5 := Lib.hid (reads_far2 ((R3.out.below x4.out).more x4.size) N2.out 3 (.slice P nn c1')); clear hb hb5 x4 o4 r4))
  have hb6 := blk4_3 (blk4_2 (blk4_01 HB5.out (.int .i64 (tn : Int)) (.int .i64 (nn : Int))) (.int .u64 (k : Int))) (.slice P nn c1')
  obtain ⟨z0, z1, z2, z3⟩ := arr4 hb6
  have R6 := reads_far2 (reads_far2 (reads_far2 (reads_far2 R4.out N4.out 0 (.int .i64 (tn : Int))) N4.out 1 (.int .i64 (nn : Int))) N4.out 2 (.int .u64 (k : Int))) N4.out 3 (.slice P nn c1')
  have R7 := reads_far2 (reads_far2 (reads_far2 (reads_far2 R5.out N2.out 0 (.int .i64 (tn : Int))) N2.out 1 (.int .i64 (nn : Int))) N2.out 2 (.int .u64 (k : Int))) N2.out 3 (.slice P nn c1')
  have X7 := ((((X4.out.setCell (p := ⟨w.heap.size, 3, none⟩) (Nat.le_refl _) (.slice P nn c1')).setCell (p := ⟨w.heap.size, 0, none⟩) (Nat.le_refl _) (.int .i64 (tn : Int))).setCell (p := ⟨w.heap.size, 1, none⟩) (Nat.le_refl _) (.int .i64 (nn : Int))).setCell (p := ⟨w.heap.size, 2, none⟩) (Nat.le_refl _) (.int .u64 (k : Int))).setCell (p := ⟨w.heap.size, 3, none⟩) (Nat.le_refl _) (.slice P nn c1')
  exact bodyPost_ret (v := .tuple #[.agg #[.int .i64 (tn : Int), .int .i64 (nn : Int), .int .u64 (k : Int), .slice P nn c1'], .slice A2 nn d2, .int .i64 0]) (by simp [results, Tryz.results9, go_sem, z0, z1, z2, z3]) rfl ⟨P, c1', A2, d2, rfl, hc1, hd2, R6, R7, X7⟩
end Go.Proofs.YtiecfamjnnmpaaaGreat

/- Crews by the document, walked: Deal, Shares, Same. -/
namespace Go.Proofs.YtiecfamjnnmpaaaGreat
set_option linter.unusedVariables false
open Go.RowKit Go.Shelf Go.Maps
attribute [local irreducible] atN prodN sumN wantN mix hSum hNum coefN

set_option maxRecDepth 100000 in
set_option maxHeartbeats 4000000 in
theorem rSplit_okF (secret tn nn : Nat) (seed : List Nat) (h1 : 1 ≤ tn) (h2 : tn ≤ nn) (h3 : nn ≤ 7) (hs : secret < bR) (hseed : ∀ x ∈ seed, x < 256) (hl : seed.length ≤ 1000) (A : Option Addr) (c : Nat) (hc : seed.length ≤ c) (w : World) (hr : Reads w w.heap.size 1 A seed.length (bv seed)) :
    Calls Tryz.prog 31 #[.int .u64 (secret : Int), .int .i64 (tn : Int), .int .i64 (nn : Int), .slice A seed.length c] w fun e w' => ∃ A' c', e = .returned (.tuple #[.slice A' nn c', .int .i64 0]) ∧ nn ≤ c' ∧ Reads w' w'.heap.size 2 A' nn (sv (splitL secret tn nn seed)) ∧ Ext w w' ∧ ∀ ad, A' = some ad → w.heap.size ≤ ad.block := by
  obtain ⟨i0, hi, hz0, hz1, hz2⟩ := info_parts Tryz.infoU64
  obtain ⟨i1, hi1, hz3, hz4, hz5⟩ := info_parts Tryz.infoSh
  have z1 : ¬ (tn : Int) < 1 := by omega
  have z2 : ¬ (nn : Int) < (tn : Int) := by omega
  have z3 : ¬ (7 : Int) < (nn : Int) := by omega
  have z4 : decide ((1152921504606845789 : Int) ≤ (secret : Int)) = false := dec_nge (by unfold bR at hs; omega)
  have ht7 : tn ≤ 7 := by omega
  have HR := Lib.hid hr
  have HSD := Lib.hid hseed
  have HL := Lib.hid hl
  have HC := Lib.hid hc
  have HS := Lib.hid hs
  have H1 := Lib.hid h1
  clear hr hseed hl hc hs h1 h2
  go_enter Tryz.func31, Tryz.ntmps31
  go_wp2
  clear z1 z2 z4
  go_loopg [10, 11] tn (fun m s10 s11 wr => ∃ j : Nat, 1 ≤ j ∧ j + m = tn + 1 ∧ s11 = .int .i64 j ∧ wr.ownsRow w.heap.size 23 1 s10 ((polyN secret tn seed).take j).length (uv ((polyN secret tn seed).take j)) ∧ Ext w wr)
  case atStart =>
    refine ⟨1, Nat.le_refl _, by omega, rfl, ?_, (Ext.refl w).alloc _⟩
    have e : (polyN secret tn seed).take 1 = [secret] := by rw [List.take_add_one, polyN_at secret tn seed (by have := H1.out; omega)]; rfl
    rw [e]
    exact own_new w w.heap.size w.heap.size rfl (Nat.le_refl _) 23 (.int .u64 (secret : Int))
  case round =>
    obtain ⟨j, hj1, hj, rfl, hown, hx⟩ := hrel
    have hlen : ((polyN secret tn seed).take j).length ≤ 7 := by rw [List.length_take, polyN_length]; omega
    by_cases h : j < tn
    · have hjb : (j : Int) ≤ 7 := by omega
      have hjt : (j : Int) < tn := by omega
      have pa := polyN_at secret tn seed h
      rw [if_neg (by omega)] at pa
      have e1 : (polyN secret tn seed).take (j + 1) = (polyN secret tn seed).take j ++ [coefN seed j] := by rw [List.take_add_one, pa]; rfl
      obtain ⟨ta, tb, ha, hb', hnm, cT⟩ := rTagShare seed HSD.out HL.out j (by omega)
      have cN := fun W => rNum_any ta tb bR (by decide) W
      rw [hnm, show bR = 1152921504606845789 from rfl] at cN
      simp only [Int.cast_ofNat_Int] at cN
      have kw : IntKind.u8.wrap (j : Int) = (j : Int) := by rw [IntKind.wrap_u8]; omega
      obtain ⟨co, hco⟩ : ∃ q, q = coefN seed j := ⟨_, rfl⟩
      rw [← hco] at cN e1
      obtain ⟨pre, hpre⟩ : ∃ q, q = (polyN secret tn seed).take j := ⟨_, rfl⟩
      rw [← hpre] at hlen e1 hown
      unfold shareS at cT
      have xV : Ext w (wr.alloc (.cells #[.int .u8 (j : Int)] 5)) := hx.alloc _
      have pT := fun T => parts_share (T := T) HC.out ((HR.out.below xV.out).more xV.size) (Nat.le_refl 1) (byte_reads wr 5 j)
      rw [World.size_alloc] at pT
      have cT1 := fun T => cT _ _ (pT T)
      have HP := Lib.hid xV
      have HE := Lib.hid e1
      have HX := Lib.hid hx
      have HJ := Lib.hid hj
      have HLEN := Lib.hid hlen
      clear ha hb' hnm hco cT pT xV hj hx pa e1 hlen hpre
      go_wp2_with (first
        | (go_at_call 82; refine (cT1 _).mono ?_; clear cT1; rintro e w2 ⟨rfl, x2⟩; have O2 := own_ext ((hown.alloc _).alloc _) x2; have X2 := Lib.hid ((HP.out.alloc _).trans x2))
        | (go_at_call 81; refine (cN _).mono ?_; clear cN; rintro e w3 ⟨rfl, x3⟩; have O3 := own_ext O2 x3; have X3 := Lib.hid (X2.out.trans x3))
        | (at_builtin; refine wpList_append_own _ rfl (.tmp 36) (.tmp 44) 90 rfl w.heap.size 23 i0 (.int .u64 0) 1 8 Tryz.underlying90 hi hz0 hz1 hz2 rfl (by decide) _ _ _ rfl (O3.alloc _) ⟨w3.heap.size, 0, none⟩ 1 1 [.int .u64 (co : Int)] rfl rfl (cell_one_new _ _ _) (by simp [Value.oneCell']) (by have := HLEN.out; simp only [maxLen]; omega) (by have := HLEN.out; omega) (by have := X3.out.size; simp; omega) ?_; intro v4 w4 hown4 hg4 _))
      have X4 := ext_grown (X3.out.alloc _) (O3.alloc _) hg4
      have O4 : Hid (w4.ownsRow w.heap.size 23 1 v4 ((polyN secret tn seed).take (j + 1)).length (uv ((polyN secret tn seed).take (j + 1)))) := by
        show World.ownsRow _ _ _ _ _ _ _
        rw [HE.out, List.length_append, uv_append]
        exact hown4
      clear hown4 hg4 O3 O2 hown
      have hj := HJ.out
      go_wp2
      go_roundg (gk - 1)
      case measure => omega
      case rel => exact ⟨j + 1, by omega, by omega, int_congr (by omega), O4.out, X4⟩
    · have hjt : ¬ (j : Int) < tn := by omega
      have e1 : (polyN secret tn seed).take j = polyN secret tn seed := List.take_of_length_le (by rw [polyN_length]; omega)
      rw [e1] at hown
      obtain ⟨wo, hwo⟩ : ∃ wo : World, wo = wr := ⟨_, rfl⟩
      rw [← hwo] at hown hx ⊢
      clear hwo
      obtain ⟨A', c', rfl, hc', hr'⟩ := own_slice hown
      have hpl := polyN_length secret tn seed
      have hpr := polyN_lt HS.out tn seed
      have hsp : ∀ k, k < nn → (splitL secret tn nn seed)[k]? = some (((k + 1 : Nat) : Int), evZ (polyN secret tn seed) (k + 1) % bR) := fun k hk => splitL_at secret tn nn seed hk
      have hsl := splitL_length secret tn nn seed
      obtain ⟨poly, hpoly⟩ : ∃ q, q = polyN secret tn seed := ⟨_, rfl⟩
      obtain ⟨sl, hslq⟩ : ∃ q, q = splitL secret tn nn seed := ⟨_, rfl⟩
      rw [← hpoly] at hpl hpr hsp hr' hc' ⊢
      rw [← hslq] at hsp hsl
      have HSLQ := Lib.hid hslq
      have HSP := Lib.hid hsp
      have HSL := Lib.hid hsl
      have HRP := Lib.hid hr'
      have HPL := Lib.hid hpl
      have HPR := Lib.hid hpr
      have HX := Lib.hid hx
      clear hown hr' hpl hpr hsp hsl hx hj hlen e1 hslq hpoly
      go_wp2
      go_loopg [12, 13] nn (fun m s12 s13 wz => ∃ k : Nat, k + m = nn ∧ s13 = .int .i64 ((k + 1 : Nat) : Int) ∧ wz.ownsRow wo.heap.size 37 2 s12 (sl.take k).length (sv (sl.take k)) ∧ Ext wo wz)
      case atStart => exact ⟨0, by omega, rfl, own_empty wo _ _ rfl (Nat.le_refl _) _ _, (Ext.refl wo).alloc _⟩
      case round =>
        obtain ⟨k, hk, rfl, hown, hx⟩ := hrel
        by_cases h' : k < nn
        · have e1 : sl.take (k + 1) = sl.take k ++ [(((k + 1 : Nat) : Int), evZ poly (k + 1) % bR)] := by rw [List.take_add_one, HSP.out k h']; rfl
          have hlen : (sl.take k).length ≤ 7 := by rw [List.length_take, HSL.out]; omega
          obtain ⟨x, hxk⟩ : ∃ x, x = k + 1 := ⟨_, rfl⟩
          rw [← hxk]
          have hxb : x < bR := by unfold bR; omega
          have hxn : (x : Int) ≤ nn := by omega
          have hn7 : (nn : Int) ≤ 7 := by omega
          have kx : IntKind.u64.wrap (x : Int) = (x : Int) := by rw [IntKind.wrap_u64]; omega
          have cv := fun (W : World) (xW : Ext wo W) => value_any poly HPR.out x hxb A' c' (by rw [HPL.out]; exact ht7) W ((HRP.out.below xW.out).more xW.size)
          have e2 : sl.take x = sl.take k ++ [((x : Int), evZ poly x % bR)] := by rw [hxk]; exact e1
          obtain ⟨v, hv⟩ : ∃ t, t = evZ poly x % bR := ⟨_, rfl⟩
          rw [← hv] at cv e2
          obtain ⟨pre, hpre⟩ : ∃ q, q = sl.take k := ⟨_, rfl⟩
          rw [← hpre] at hlen e2 hown
          have HE := Lib.hid e2
          have HX2 := Lib.hid hx
          have HK := Lib.hid hk
          have HLEN := Lib.hid hlen
          have HXK := Lib.hid hxk
          clear e1 e2 hx hk hlen hxk hxb hv hpre
          go_wp2_with (first
            | (go_at_call 83; refine (cv _ HX2.out).mono ?_; clear cv; rintro e w2 ⟨rfl, x2⟩; have O2 := own_ext hown x2; have X2 := Lib.hid (HX2.out.trans x2))
            | (at_builtin; refine wpList_append_own _ rfl (.tmp 52) (.tmp 59) 24 rfl wo.heap.size 37 i1 (.agg #[.int .i64 0, .int .u64 0]) 2 16 Tryz.underlying24 hi1 hz3 hz4 hz5 rfl (by decide) _ _ _ rfl (O2.alloc _) ⟨w2.heap.size, 0, none⟩ 1 1 [.int .i64 (x : Int), .int .u64 (v : Int)] rfl rfl (cell_two_new _ _ _ _) (by simp [Value.oneCell']) (by have := HLEN.out; simp only [maxLen]; omega) (by have := HLEN.out; omega) (by have := X2.out.size; simp; omega) ?_; intro v4 w4 hown4 hg4 _))
          have X4 := ext_grown (X2.out.alloc _) (O2.alloc _) hg4
          have O4 : Hid (w4.ownsRow wo.heap.size 37 2 v4 (sl.take (k + 1)).length (sv (sl.take (k + 1)))) := by
            show World.ownsRow _ _ _ _ _ _ _
            rw [← HXK.out, HE.out, List.length_append, sv_append]
            exact hown4
          clear hown4 hg4 O2 hown
          have hk := HK.out
          have hxk := HXK.out
          go_wp2
          go_roundg (gk - 1)
          case measure => omega
          case rel => exact ⟨k + 1, by omega, int_congr (by omega), O4.out, X4⟩
        · have hkk : ¬ (((k + 1 : Nat)) : Int) ≤ (nn : Int) := by omega
          obtain rfl : k = nn := by omega
          rw [List.take_of_length_le (by rw [HSL.out]; exact Nat.le_refl _)] at hown
          rw [HSL.out] at hown
          obtain ⟨A2, c2, rfl, hc2, hr2⟩ := own_slice2 hown
          have HRR := Lib.hid hr2
          have HX5 := Lib.hid (HX.out.trans hx)
          have HFR := Lib.hid (fun ad e => Nat.le_trans HX.out.size (own_fresh hown ad e) : ∀ ad, A2 = some ad → w.heap.size ≤ ad.block)
          clear hown hr2 hx hk
          go_wp2
          go_ret2
          exact ⟨_, _, rfl, hc2, by rw [← HSLQ.out]; exact HRR.out, HX5.out, HFR.out⟩
set_option maxRecDepth 100000 in
set_option maxHeartbeats 2000000 in
theorem rshPublic_anyF (l : List (Int × Nat)) (hX : ∀ s ∈ l, s.2 < 18446744073709551616) (A : Option Addr) (c : Nat) (hn : l.length ≤ 1099511627776) (w : World) (hr : Reads w w.heap.size 2 A l.length (sv l)) :
    Calls Tryz.prog 32 #[.slice A l.length c] w fun e w' => ∃ A' c', e = .returned (.tuple #[.slice A' (pubO l).length c', .int .i64 (pubE l : Nat)]) ∧ (pubO l).length ≤ c' ∧ Reads w' w'.heap.size 2 A' (pubO l).length (sv (pubO l)) ∧ Ext w w' ∧ ∀ ad, A' = some ad → w.heap.size ≤ ad.block := by
  have ci := fun (W : World) (x : Ext w W) => Ids_any l A c hn W ((hr.below x.out).more x.size)
  have cb := fun (W : World) (x : Ext w W) => below_any l A c hn W ((hr.below x.out).more x.size)
  have cr := fun (W : World) A' c' (hr : Reads W W.heap.size 1 A' (l.map fun s : Int × Nat => s.1).length (iv (l.map fun s : Int × Nat => s.1))) => Right_any (l.map fun s : Int × Nat => s.1) A' c' (by rw [List.length_map]; exact hn) W hr
  rw [List.length_map] at cr
  have x0 := Ext.refl w
  cases hri : rightB (l.map fun s : Int × Nat => s.1) with
  | false =>
    have hm : mayB l = false := by rw [mayB_eq, hri]; simp
    have e1 : pubO l = [] := by unfold pubO; rw [hm]; rfl
    have e2 : pubE l = 1 := by unfold pubE; rw [hm]; rfl
    rw [hri] at cr
    rw [e1, e2]
    clear hr hm hn hri cb e1 e2
    go_enter Tryz.func32, Tryz.ntmps32
    go_wp2_with (first
      | (go_at_call 85; refine (ci _ x0).mono ?_; clear ci; rintro e w1 ⟨A', c', rfl, _, r1, x1⟩)
      | (go_at_call 84; refine (cr _ _ _ r1).mono ?_; clear cr; rintro e w2 ⟨rfl, x2⟩))
    go_ret2
    exact ⟨none, 0, rfl, Nat.le_refl _, Reads.none_, x1.trans x2, fun ad h => by cases h⟩
  | true =>
    rw [hri] at cr
    cases hlo : lowB l with
    | false =>
      have hm : mayB l = false := by rw [mayB_eq, hlo]; rfl
      have e1 : pubO l = [] := by unfold pubO; rw [hm]; rfl
      have e2 : pubE l = 1 := by unfold pubE; rw [hm]; rfl
      rw [hlo] at cb
      rw [e1, e2]
      clear hr hm hn hri hlo e1 e2
      go_enter Tryz.func32, Tryz.ntmps32
      go_wp2_with (first
        | (go_at_call 85; refine (ci _ x0).mono ?_; clear ci; rintro e w1 ⟨A', c', rfl, _, r1, x1⟩)
        | (go_at_call 84; refine (cr _ _ _ r1).mono ?_; clear cr; rintro e w2 ⟨rfl, x2⟩)
        | (go_at_call 86; refine (cb _ (x1.trans x2)).mono ?_; clear cb; rintro e w3 ⟨rfl, x3⟩))
      go_ret2
      exact ⟨none, 0, rfl, Nat.le_refl _, Reads.none_, (x1.trans x2).trans x3, fun ad h => by cases h⟩
    | true =>
      have hm : mayB l = true := by rw [mayB_eq, hlo, hri]; rfl
      have e1 : pubO l = pubL l := by unfold pubO; rw [hm]; rfl
      have e2 : pubE l = 0 := by unfold pubE; rw [hm]; rfl
      rw [hlo] at cb
      rw [e1, e2, pubL_length]
      obtain ⟨i0, hi, hz0, hz1, hz2⟩ := info_parts Tryz.infoSh
      have hr0 : Hid (Reads w w.heap.size 2 A l.length (sv l)) := Lib.hid hr
      have HN := Lib.hid hn
      have HXL := Lib.hid hX
      clear hr hm hn hri hlo hX e1 e2
      go_enter Tryz.func32, Tryz.ntmps32
      go_wp2_with (first
        | (go_at_call 85; refine (ci _ x0).mono ?_; clear ci; rintro e w1 ⟨A', c', rfl, _, r1, x1⟩)
        | (go_at_call 84; refine (cr _ _ _ r1).mono ?_; clear cr; rintro e w2 ⟨rfl, x2⟩)
        | (go_at_call 86; refine (cb _ (x1.trans x2)).mono ?_; clear cb; rintro e w3 ⟨rfl, x3⟩))
      have X3 := Lib.hid ((x1.trans x2).trans x3)
      clear r1 x1 x2 x3
      go_loopg [4, 5] l.length (fun m s4 s5 wr => ∃ j : Nat, j + m = l.length ∧ s5 = .int .i64 j ∧ wr.ownsRow w.heap.size 37 2 s4 (l.take j).length (sv (pubL (l.take j))) ∧ Ext w wr)
      case atStart => exact ⟨0, by omega, rfl, own_empty w3 _ _ rfl X3.out.size _ _, X3.out.alloc _⟩
      case round =>
        obtain ⟨j, hj, rfl, hown, hx⟩ := hrel
        by_cases h : j < l.length
        · obtain ⟨s, hs⟩ : ∃ s, l[j]? = some s := ⟨_, List.getElem?_eq_getElem h⟩
          obtain ⟨ad, rfl, hlt, q0, q1⟩ := reads_share (hr0.out.below hx.out) hs
          have e1 : l.take (j + 1) = l.take j ++ [s] := by rw [List.take_add_one, hs]; rfl
          have hjb : (j : Int) ≤ 1099511627776 := by have := HN.out; omega
          have cB := fun W => rBase_any s.2 (HXL.out s (List.mem_of_getElem? hs)) W
          obtain ⟨p, hp⟩ : ∃ p, p = powM bQ 4 s.2 := ⟨_, rfl⟩
          rw [← hp] at cB
          have HE := Lib.hid e1
          have HX := Lib.hid hx
          have HJ := Lib.hid hj
          have HP := Lib.hid hp
          have hqs : Hid (∀ W, Ext w W → W.cell? (ad.add (j * 2)) = some (.int .i64 s.1) ∧ W.cell? ⟨(ad.add (j * 2)).block, (ad.add (j * 2)).off + 1, none⟩ = some (.int .u64 (s.2 : Int))) := fun W x => by
            obtain ⟨ad', e', _, a, b⟩ := reads_share (hr0.out.below x.out) hs
            cases e'
            exact ⟨a, b⟩
          clear e1 hx hj hs hp
          go_wp2
          go_region_held3 (fun w' => w'.cell? (ad.add (j * 2)) = some (.int .i64 s.1) ∧ w'.cell? ⟨(ad.add (j * 2)).block, (ad.add (j * 2)).off + 1, none⟩ = some (.int .u64 (s.2 : Int))) (go_keep) (first
            | (go_at_call 45; refine (cB _).mono ?_; clear cB; rintro e w' ⟨rfl, rfl⟩)
            | (refine step_append_any _ rfl (.tmp 22) (.tmp 35) 24 rfl w.heap.size 37 i0 (.agg #[.int .i64 0, .int .u64 0]) 2 16 Tryz.underlying24 hi hz0 hz1 hz2 rfl (by decide) _ _ _ rfl (hown.drew.alloc _) _ _ 1 1 [.int .i64 s.1, .int .u64 (p : Int)] rfl (new_reads2 _ _ _ _) (by simp [Value.oneCell']) (by have := HN.out; have := HJ.out; simp only [maxLen, List.length_take]; omega) (by have := HN.out; simp only [List.length_take]; omega) (by have := HX.out.size; simp; omega) ?_; intro v2 w2 hown2 hg2 _; have X2 := ext_grown (HX.out.drew.alloc _) (hown.drew.alloc _) hg2; obtain ⟨z0, z1⟩ := hqs.out w2 X2))
          have O2 : Hid (w2.ownsRow w.heap.size 37 2 v2 (l.take (j + 1)).length (sv (pubL (l.take (j + 1))))) := by
            show World.ownsRow _ _ _ _ _ _ _
            have e3 : sv (pubL (l.take j ++ [s])) = sv (pubL (l.take j)) ++ [.int .i64 s.1, .int .u64 (p : Int)] := by
              rw [show pubL (l.take j ++ [s]) = pubL (l.take j) ++ [(s.1, p)] by simp [pubL, HP.out], sv_append]; rfl
            rw [HE.out, List.length_append, e3]
            exact hown2
          clear hown2 hg2 hown z0 z1
          have hj := HJ.out
          go_wp2
          go_roundg (gk - 1)
          case measure => omega
          case rel => exact ⟨j + 1, by omega, int_congr (by omega), O2.out, X2⟩
        · obtain rfl : j = l.length := by omega
          rw [List.take_length] at hown
          obtain ⟨A', c', rfl, hc', hr'⟩ := own_slice2 hown
          have HR := Lib.hid hr'
          have HX := Lib.hid hx
          have HFR := Lib.hid (own_fresh hown)
          clear hr' hx hown hj h
          go_wp2
          go_ret2
          exact ⟨A', c', rfl, hc', HR.out, HX.out, HFR.out⟩

set_option maxRecDepth 100000 in
set_option maxHeartbeats 4000000 in
theorem rDeal_bad (seed : List Nat) (hseed : ∀ x ∈ seed, x < 256) (hl : seed.length ≤ 1000) (t n : Int) (hb : spB (secN seed) t n = false) (A : Option Addr) (c : Nat) (hc : seed.length ≤ c) (w : World) (hr : Reads w w.heap.size 1 A seed.length (bv seed)) :
    Calls Tryz.prog 10 #[.slice A seed.length c, .int .i64 t, .int .i64 n] w fun e w' => e = .returned (.tuple #[.agg #[.int .i64 0, .int .i64 0, .int .u64 0, .slice none 0 0], .slice none 0 0, .int .i64 1]) ∧ Ext w w' := by
  have x0 : Ext w (w.alloc (.cells #[.int .i64 0, .int .i64 0, .int .u64 0, .slice none 0 0] 26)) := (Ext.refl w).alloc _
  have c1 := fun (W : World) (x : Ext w W) => rSecret_any seed hseed hl A c hc W ((hr.below x.out).more x.size)
  have c2 := fun (W : World) (x : Ext w W) => rSplit_any (secN seed) t n seed hseed hl A c hc W ((hr.below x.out).more x.size)
  have e1 : spO (secN seed) t n seed = [] := by unfold spO; rw [hb]; rfl
  have e2 : spE (secN seed) t n = 1 := by unfold spE; rw [hb]; rfl
  rw [e1, e2] at c2
  obtain ⟨u, hu⟩ : ∃ u, u = secN seed := ⟨_, rfl⟩
  rw [← hu] at c1 c2
  have HB := Lib.hid (Blk.new w 26 #[.int .i64 0, .int .i64 0, .int .u64 0, .slice none 0 0])
  clear hr hseed hl hc e1 e2 hb hu
  go_enter Tryz.func10, Tryz.ntmps10
  go_wp2_with (first
    | (go_at_call 30; refine (c1 _ x0).mono ?_; clear c1; rintro e w1 ⟨rfl, x1⟩)
    | (go_at_call 31; refine (c2 _ (x0.trans x1)).mono ?_; clear c2; rintro e w2 ⟨A2, d2, rfl, -, -, x2⟩; have hb := ext_blk (x1.trans x2) HB.out; obtain ⟨p0, p1, p2, p3⟩ := arr4 hb; have f0 := hb.frozen 0; have f1 := hb.frozen 1; have f2 := hb.frozen 2; have f3 := hb.frozen 3; clear hb))
  refine bodyPost_ret (v := .tuple #[.agg #[.int .i64 0, .int .i64 0, .int .u64 0, .slice none 0 0], .slice none 0 0, .int .i64 1]) (by simp [results, Tryz.results10, go_sem, p0, p1, p2, p3]) rfl ⟨rfl, ?_⟩
  exact ((((((x0.trans x1).trans x2).setCell (p := ⟨w.heap.size, 0, none⟩) (Nat.le_refl _) _).setCell (p := ⟨w.heap.size, 1, none⟩) (Nat.le_refl _) _).setCell (p := ⟨w.heap.size, 2, none⟩) (Nat.le_refl _) _).setCell (p := ⟨w.heap.size, 3, none⟩) (Nat.le_refl _) _)

set_option maxRecDepth 100000 in
set_option maxHeartbeats 4000000 in
theorem rDeal_ok (seed : List Nat) (hseed : ∀ x ∈ seed, x < 256) (hl : seed.length ≤ 1000) (tn nn : Nat) (h1 : 1 ≤ tn) (h2 : tn ≤ nn) (h3 : nn ≤ 7) (A : Option Addr) (c : Nat) (hc : seed.length ≤ c) (w : World) (hr : Reads w w.heap.size 1 A seed.length (bv seed)) :
    Calls Tryz.prog 10 #[.slice A seed.length c, .int .i64 (tn : Int), .int .i64 (nn : Int)] w fun e w' => ∃ P c1 L c2, e = .returned (.tuple #[.agg #[.int .i64 (tn : Int), .int .i64 (nn : Int), .int .u64 (powM bQ 4 (secN seed) : Nat), .slice P nn c1], .slice L nn c2, .int .i64 0]) ∧ nn ≤ c1 ∧ nn ≤ c2 ∧ Reads w' w'.heap.size 2 P nn (sv (pubL (splitL (secN seed) tn nn seed))) ∧ Reads w' w'.heap.size 2 L nn (sv (splitL (secN seed) tn nn seed)) ∧ Ext w w' := by
  have x0 : Ext w (w.alloc (.cells #[.int .i64 0, .int .i64 0, .int .u64 0, .slice none 0 0] 26)) := (Ext.refl w).alloc _
  have c1 := fun (W : World) (x : Ext w W) => rSecret_any seed hseed hl A c hc W ((hr.below x.out).more x.size)
  have c2 := fun (W : World) (x : Ext w W) => rSplit_okF (secN seed) tn nn seed h1 h2 h3 (secN_lt seed) hseed hl A c hc W ((hr.below x.out).more x.size)
  have c3 := fun W => rPublic_any (secN seed) (r64 (secN_lt seed)) W
  rw [if_neg (by rw [secN_odd]; decide)] at c3
  obtain ⟨q1, q2⟩ := qpubO_split (secret := secN seed) (tn := tn) (seed := seed) (show 1 ≤ nn by omega) h3
  have c4 := fun A c (W : World) hq => rshPublic_anyF (splitL (secN seed) tn nn seed) (fun s hs => lt64_R (split_onP h3 s hs).range.2) A c (by rw [splitL_length]; omega) W hq
  rw [q1, q2, pubL_length, splitL_length] at c4
  obtain ⟨ls, hls⟩ : ∃ u, u = splitL (secN seed) tn nn seed := ⟨_, rfl⟩
  rw [← hls] at c2 c4 ⊢
  obtain ⟨u, hu⟩ : ∃ u, u = secN seed := ⟨_, rfl⟩
  rw [← hu] at c1 c2 c3 ⊢
  obtain ⟨k, hk⟩ : ∃ k, k = powM bQ 4 u := ⟨_, rfl⟩
  rw [← hk] at c3 ⊢
  have HB := Lib.hid (Blk.new w 26 #[.int .i64 0, .int .i64 0, .int .u64 0, .slice none 0 0])
  clear hr hseed hl hc hu hls hk q1 q2 h1 h2 h3
  go_enter Tryz.func10, Tryz.ntmps10
  go_wp2_with (first
    | (go_at_call 30; refine (c1 _ x0).mono ?_; clear c1; rintro e w1 ⟨rfl, x1⟩)
    | (go_at_call 31; refine (c2 _ (x0.trans x1)).mono ?_; clear c2; rintro e w2 ⟨A2, d2, rfl, hd2, r2, x2, n2⟩; have X2 := Lib.hid ((x0.trans x1).trans x2); have N2 := Lib.hid (fun ad h => Nat.ne_of_gt (Nat.lt_of_lt_of_le (by rw [World.size_alloc]; omega) (Nat.le_trans x1.size (n2 ad h))) : ∀ ad, A2 = some ad → ad.block ≠ w.heap.size); have HB2 := Lib.hid (ext_blk (x1.trans x2) HB.out); have Z2 := Lib.hid (Nat.lt_of_lt_of_le (by rw [World.size_alloc]; omega) (Nat.le_trans x1.size x2.size) : w.heap.size < w2.heap.size); have R2 := Lib.hid r2; clear r2 n2 x1 x2)
    | (go_at_call 32; refine (c4 _ _ _ R2.out).mono ?_; clear c4; rintro e w3 ⟨P, c1', rfl, hc1, r3, x3, n3⟩; have N3 := Lib.hid (fun ad h => Nat.ne_of_gt (Nat.lt_of_lt_of_le Z2.out (n3 ad h)) : ∀ ad, P = some ad → ad.block ≠ w.heap.size); have X3 := Lib.hid (X2.out.trans x3); have HB3 := Lib.hid (ext_blk x3 HB2.out); have R3 := Lib.hid ((R2.out.below x3.out).more x3.size); have P3 := Lib.hid r3; clear r3 n3 x3)
    | (go_at_call 33; refine (c3 _).mono ?_; clear c3; rintro e w4 ⟨rfl, x4⟩; have X4 := Lib.hid (X3.out.trans x4); have hb := ext_blk x4 HB3.out; obtain ⟨p0, p1, p2, p3⟩ := arr4 hb; have f0 := hb.frozen 0; have f1 := hb.frozen 1; have f2 := hb.frozen 2; have f3 := hb.frozen 3; have HB4 := Lib.hid hb; have R4 := Lib.hid ((R3.out.below x4.out).more x4.size); have P4 := Lib.hid ((P3.out.below x4.out).more x4.size); clear hb x4))
  have hb6 := blk4_3 (blk4_2 (blk4_01 HB4.out (.int .i64 (tn : Int)) (.int .i64 (nn : Int))) (.int .u64 (k : Int))) (.slice P nn c1')
  obtain ⟨z0, z1, z2, z3⟩ := arr4 hb6
  have R6 := reads_far2 (reads_far2 (reads_far2 (reads_far2 P4.out N3.out 0 (.int .i64 (tn : Int))) N3.out 1 (.int .i64 (nn : Int))) N3.out 2 (.int .u64 (k : Int))) N3.out 3 (.slice P nn c1')
  have R7 := reads_far2 (reads_far2 (reads_far2 (reads_far2 R4.out N2.out 0 (.int .i64 (tn : Int))) N2.out 1 (.int .i64 (nn : Int))) N2.out 2 (.int .u64 (k : Int))) N2.out 3 (.slice P nn c1')
  have X7 := (((X4.out.setCell (p := ⟨w.heap.size, 0, none⟩) (Nat.le_refl _) (.int .i64 (tn : Int))).setCell (p := ⟨w.heap.size, 1, none⟩) (Nat.le_refl _) (.int .i64 (nn : Int))).setCell (p := ⟨w.heap.size, 2, none⟩) (Nat.le_refl _) (.int .u64 (k : Int))).setCell (p := ⟨w.heap.size, 3, none⟩) (Nat.le_refl _) (.slice P nn c1')
  exact bodyPost_ret (v := .tuple #[.agg #[.int .i64 (tn : Int), .int .i64 (nn : Int), .int .u64 (k : Int), .slice P nn c1'], .slice A2 nn d2, .int .i64 0]) (by simp [results, Tryz.results10, go_sem, z0, z1, z2, z3]) rfl ⟨P, c1', A2, d2, rfl, hc1, hd2, R6, R7, X7⟩

set_option maxRecDepth 100000 in
set_option maxHeartbeats 2000000 in
theorem Shares_any (l m : List (Int × Nat)) (A B : Option Addr) (c d : Nat) (hn : l.length ≤ 1099511627776) (w : World) (hr : Reads w w.heap.size 2 A l.length (sv l)) (hs : Reads w w.heap.size 2 B m.length (sv m)) :
    Calls Tryz.prog 12 #[.slice A l.length c, .slice B m.length d] w fun e w' => e = .returned (.bool (decide (l = m))) ∧ Ext w w' := by
  by_cases hl : l.length = m.length
  · have hr0 : Hid (Reads w w.heap.size 2 A l.length (sv l)) := Lib.hid hr
    have hs0 : Hid (Reads w w.heap.size 2 B m.length (sv m)) := Lib.hid hs
    have HN := Lib.hid hn
    have HL := Lib.hid hl
    rw [← hl]
    clear hr hs hn hl
    have hse := eqSh
    go_enter Tryz.func12, Tryz.ntmps12
    go_wp2
    go_loopg [5] l.length (fun g s5 wr => ∃ j : Nat, j + g = l.length ∧ s5 = .int .i64 j ∧ l.take j = m.take j ∧ Ext w wr)
    case atStart => exact ⟨0, by omega, rfl, by simp, Ext.refl w⟩
    case round =>
      obtain ⟨j, hj, rfl, hok, hx⟩ := hrel
      by_cases h : j < l.length
      · obtain ⟨s, hs⟩ : ∃ s, l[j]? = some s := ⟨_, List.getElem?_eq_getElem h⟩
        obtain ⟨t, ht⟩ : ∃ s, m[j]? = some s := ⟨_, List.getElem?_eq_getElem (by rw [← HL.out]; exact h)⟩
        obtain ⟨ad, rfl, hlt, q0, q1⟩ := reads_share (hr0.out.below hx.out) hs
        obtain ⟨bd, rfl, hlt', r0, r1⟩ := reads_share (hs0.out.below hx.out) ht
        have hjb : (j : Int) ≤ 1099511627776 := by have := HN.out; omega
        have HX := Lib.hid hx
        have HJ := Lib.hid hj
        have e1 : l.take (j + 1) = l.take j ++ [s] := by rw [List.take_add_one, hs]; rfl
        have e2 : m.take (j + 1) = m.take j ++ [t] := by rw [List.take_add_one, ht]; rfl
        have q0' := fun n : Nat => show (wr.drewN n).cell? _ = _ from q0
        have q1' := fun n : Nat => show (wr.drewN n).cell? _ = _ from q1
        have r0' := fun n : Nat => show (wr.drewN n).cell? _ = _ from r0
        have r1' := fun n : Nat => show (wr.drewN n).cell? _ = _ from r1
        by_cases hst : s = t
        · have hok' : Hid (l.take (j + 1) = m.take (j + 1)) := by show _ = _; rw [e1, e2, hok, hst]
          subst hst
          have hse := fun w => (eqSh s.1 s.1 s.2 s.2 w).trans (by rw [decide_eq_true ⟨rfl, rfl⟩])
          clear hx hj hok hs ht e1 e2
          go_wp2
          go_region
          all_goals go_wp2
          have hj := HJ.out
          all_goals go_roundg (gk - 1)
          case measure => omega
          case rel => exact ⟨j + 1, by omega, int_congr (by omega), hok'.out, HX.out.drew⟩
        · have k : decide (l = m) = false := decide_eq_false fun e => hst (by rw [e, ht] at hs; exact (Option.some.inj hs).symm)
          clear hx hj hok hs ht e1 e2
          by_cases h1 : s.1 = t.1
          · have d1 : decide (s.1 = t.1) = true := decide_eq_true h1
            have d2 : decide ((s.2 : Int) = (t.2 : Int)) = false := decide_eq_false fun h2 => hst (Prod.ext h1 (Int.ofNat_inj.1 h2))
            clear hst h1
            go_wp2
            go_region
            all_goals go_wp2
            all_goals go_ret
            all_goals first | exact ⟨ret_bool k.symm, HX.out.drew⟩ | exact ⟨rfl, HX.out.drew⟩
          · have d1 : decide (s.1 = t.1) = false := decide_eq_false h1
            clear hst h1
            go_wp2
            go_region
            all_goals go_wp2
            all_goals go_ret
            all_goals first | exact ⟨ret_bool k.symm, HX.out.drew⟩ | exact ⟨rfl, HX.out.drew⟩
      · obtain rfl : j = l.length := by omega
        have k : decide (l = m) = true := decide_eq_true (by rw [List.take_length] at hok; rw [hok, HL.out, List.take_length])
        have HX := Lib.hid hx
        clear hx hok hj
        go_wp2
        go_ret
        first | exact ⟨ret_bool k.symm, HX.out⟩ | exact ⟨rfl, HX.out⟩
  · have k : decide (l = m) = false := decide_eq_false fun e => hl (by rw [e])
    have d1 : ((l.length : Int) != (m.length : Int)) = true := by simp; omega
    clear hr hs hn
    go_enter Tryz.func12, Tryz.ntmps12
    go_wp2
    go_ret
    first | exact ⟨ret_bool k.symm, Ext.refl w⟩ | exact ⟨rfl, Ext.refl w⟩


set_option maxRecDepth 100000 in
set_option maxHeartbeats 4000000 in
theorem Same6_same (t n : Int) (k : Nat) (p : List (Int × Nat)) (A B : Option Addr) (c d : Nat) (hn : p.length ≤ 1099511627776) (w : World) (hr : Reads w w.heap.size 2 A p.length (sv p)) (hs : Reads w w.heap.size 2 B p.length (sv p)) :
    Calls Tryz.prog 11 #[.agg #[.int .i64 t, .int .i64 n, .int .u64 (k : Int), .slice A p.length c], .agg #[.int .i64 t, .int .i64 n, .int .u64 (k : Int), .slice B p.length d]] w fun e w' => e = .returned (.bool true) ∧ Ext w w' := by
  obtain ⟨W0, e0, b1, b2, x0⟩ := start_two' w #[.int .i64 t, .int .i64 n, .int .u64 (k : Int), .slice A p.length c] #[.int .i64 t, .int .i64 n, .int .u64 (k : Int), .slice B p.length d] 26 26
  obtain ⟨a0, a1, a2, a3⟩ := arr4 b1
  obtain ⟨a4, a5, a6, a7⟩ := arr4 b2
  have cS := Shares_any p p A B c d hn W0 ((hr.below x0.out).more x0.size) ((hs.below x0.out).more x0.size)
  rw [decide_eq_true rfl] at cS
  rw [← e0] at a0 a1 a2 a3 a4 a5 a6 a7 cS x0
  clear e0 b1 b2 hr hs hn
  go_enter Tryz.func11, Tryz.ntmps11
  go_wp2_with (go_at_call 12; refine cS.mono ?_; clear cS; rintro e w1 ⟨rfl, x1⟩)
  go_ret
  exact ⟨rfl, x0.trans x1⟩
end Go.Proofs.YtiecfamjnnmpaaaGreat

/- Crews by the document, walked: Combine. -/
namespace Go.Proofs.YtiecfamjnnmpaaaGreat
set_option linter.unusedVariables false
open Go.RowKit Go.Shelf Go.Maps
attribute [local irreducible] atN prodN sumN wantN chkN mix hSum hNum chalN chN scN qnN crewN enN rightN allN wgtV wgtE inB okC

/-- A row's first zeros. -/
theorem ids_take_succ {l q : List (Int × Nat)} {j : Nat} {s r : Int × Nat} (hs : q[j]? = some s) (hr : l[j]? = some r) (h : (q.take j).map (fun s : Int × Nat => s.1) = (l.take j).map (fun s : Int × Nat => s.1)) (he : s.1 = r.1) :
    (q.take (j + 1)).map (fun s : Int × Nat => s.1) = (l.take (j + 1)).map (fun s : Int × Nat => s.1) := by
  rw [List.take_add_one, List.take_add_one, hs, hr, List.map_append, List.map_append, h]
  show _ ++ [s.1] = _ ++ [r.1]
  rw [he]
theorem ids_differ {l q : List (Int × Nat)} {j : Nat} {s r : Int × Nat} (hs : q[j]? = some s) (hr : l[j]? = some r) (he : s.1 ≠ r.1) : q.map (fun s : Int × Nat => s.1) ≠ l.map (fun s : Int × Nat => s.1) := fun h => he (by
  have h1 : (q.map (fun s : Int × Nat => s.1))[j]? = some s.1 := by rw [List.getElem?_map, hs]; rfl
  rw [h, List.getElem?_map, hr] at h1
  exact (Option.some.inj h1).symm)

set_option maxRecDepth 100000 in
set_option maxHeartbeats 8000000 in
theorem rCombine6_any (t n : Int) (k : Nat) (p : List (Int × Nat)) (m : List Nat) (l : List (Int × Nat)) (v : SesV k p m l) (q : List (Int × Nat)) (hqX : ∀ s ∈ q, s.2 < 18446744073709551616) (hqn : q.length ≤ 1099511627776) (A M B D : Option Addr) (c d e f : Nat) (hc : p.length ≤ c) (hd : m.length ≤ d) (w : World) (hp : Reads w w.heap.size 2 A p.length (sv p)) (hm : Reads w w.heap.size 1 M m.length (bv m)) (hl : Reads w w.heap.size 2 B l.length (sv l)) (hq : Reads w w.heap.size 2 D q.length (sv q)) :
    Calls Tryz.prog 18 #[.agg #[.int .i64 t, .int .i64 n, .int .u64 (k : Int), .slice A p.length c], .slice M m.length d, .slice B l.length e, .slice D q.length f] w fun e w' => e = .returned (cmbV t n k p m l q) ∧ Ext w w' := by
  obtain ⟨W0, e0, b1, b2, x0⟩ := start_two' w #[.int .i64 t, .int .i64 n, .int .u64 (k : Int), .slice A p.length c] #[.int .u64 0, .int .u64 0] 26 42
  have HB := Lib.hid fun (W : World) (x : Ext W0 W) => arr4 (ext_blk x b1)
  have HS := Lib.hid fun (W : World) (x : Ext W0 W) => arr2 (ext_blk x b2)
  have c1 := fun (W : World) (x : Ext w W) => rquCheck_any t n k v.k64 p v.p64 A c hc v.pn W ((hp.below x.out).more x.size)
  have c2 := fun (W : World) (x : Ext w W) => rmay6_any t n (.int .u64 (k : Int)) (.slice A p.length c) l v.l64 v.ln B e W ((hl.below x.out).more x.size)
  have HCP := Lib.hid fun (W : World) (x : Ext w W) (id : Int) (y : Nat) (hy : y < 18446744073709551616) => rCheckPart6_any t n k p m l v id y hy A M B c d e hc hd W ((hp.below x.out).more x.size) ((hm.below x.out).more x.size) ((hl.below x.out).more x.size)
  have HCC := Lib.hid fun (W : World) (x : Ext w W) => rchallenge6_any (.int .i64 t) (.int .i64 n) k v.k64 (.slice A p.length c) m v.mb v.mn l v.l64 v.ln M B d e hd W ((hm.below x.out).more x.size) ((hl.below x.out).more x.size)
  unfold cpN at HCP
  unfold cmbV cmbS cmbE
  obtain ⟨E1, hE1⟩ : ∃ E, E = crewN t n k p := ⟨_, rfl⟩
  obtain ⟨E2, hE2⟩ : ∃ E, E = enN t n l := ⟨_, rfl⟩
  rw [← hE1] at c1 HCP ⊢
  rw [← hE2] at c2 HCP ⊢
  obtain ⟨a0, a1, a2, a3⟩ := HB.out W0 (Ext.refl W0)
  have HX0 := Lib.hid x0
  by_cases h1 : E1 = 0
  case neg =>
    have hrw : rowN E1 E2 (allN k p m l q) = E1 := by unfold rowN; rw [if_neg h1]
    rw [hrw, if_neg h1]
    have d1 : ((E1 : Int) != 0) = true := by simp; omega
    rw [← e0] at a0 a1 a2 a3 x0 HS
    clear v hd hp hm hl c2 hE1 hE2 b1 b2 HB e0 hq hqX hqn HCP HCC h1 hrw hc
    go_enter Tryz.func18, Tryz.ntmps18
    go_wp2_with (go_at_call 14; refine (c1 _ x0).mono ?_; clear c1; rintro e w1 ⟨rfl, x1⟩; obtain ⟨p0, p1, f0, f1⟩ := HS.out _ x1)
    refine bodyPost_ret (v := .tuple #[.agg #[.int .u64 0, .int .u64 0], .int .i64 (E1 : Int)]) (by simp [results, Tryz.results18, go_sem, p0, p1]) rfl ⟨rfl, ?_⟩
    exact ((x0.trans x1).setCell (p := ⟨w.heap.size + 1, 0, none⟩) (by simp only; omega) _).setCell (p := ⟨w.heap.size + 1, 1, none⟩) (by simp only; omega) _
  subst h1
  have c1 : ∀ (W : World), Ext w W → Calls Tryz.prog 14 #[.agg #[.int .i64 t, .int .i64 n, .int .u64 (k : Int), .slice A p.length c]] W fun e w' => e = .returned (.int .i64 0) ∧ Ext W w' := c1
  by_cases h2 : E2 = 0
  case neg =>
    have hrw : rowN 0 E2 (allN k p m l q) = E2 := by unfold rowN; rw [if_pos rfl, if_neg h2]
    rw [hrw, if_neg h2]
    have d1 : ((E2 : Int) != 0) = true := by simp; omega
    rw [← e0] at a0 a1 a2 a3 x0 HS HB
    clear v hd hp hm hl hE1 hE2 b1 b2 e0 hq hqX hqn HCP HCC h2 hrw hc
    go_enter Tryz.func18, Tryz.ntmps18
    go_wp2_with (first
      | (go_at_call 14; refine (c1 _ x0).mono ?_; clear c1; rintro e w1 ⟨rfl, x1⟩; obtain ⟨i0, i1, i2, i3⟩ := HB.out _ x1)
      | (go_at_call 57; refine (c2 _ (x0.trans x1)).mono ?_; clear c2; rintro e w2 ⟨rfl, x2⟩; obtain ⟨p0, p1, f0, f1⟩ := HS.out _ (x1.trans x2)))
    refine bodyPost_ret (v := .tuple #[.agg #[.int .u64 0, .int .u64 0], .int .i64 (E2 : Int)]) (by simp [results, Tryz.results18, go_sem, p0, p1]) rfl ⟨rfl, ?_⟩
    exact (((x0.trans x1).trans x2).setCell (p := ⟨w.heap.size + 1, 0, none⟩) (by simp only; omega) _).setCell (p := ⟨w.heap.size + 1, 1, none⟩) (by simp only; omega) _
  subst h2
  have c2 : ∀ (W : World), Ext w W → Calls Tryz.prog 57 #[.agg #[.int .i64 t, .int .i64 n, .int .u64 (k : Int), .slice A p.length c], .slice B l.length e] W fun e w' => e = .returned (.int .i64 0) ∧ Ext W w' := c2
  have hrw : rowN 0 0 (allN k p m l q) = allN k p m l q := by unfold rowN; rw [if_pos rfl, if_pos rfl]
  rw [hrw]
  have hrw3 : ∀ z, rowN 0 0 z = z := fun z => by unfold rowN; rw [if_pos rfl, if_pos rfl]
  simp only [hrw3] at HCP
  have HAI := Lib.hid fun (h : q.map (fun s : Int × Nat => s.1) ≠ l.map (fun s : Int × Nat => s.1)) => all_ids (k := k) (p := p) (m := m) h
  have HAB := Lib.hid fun (h : q.map (fun s : Int × Nat => s.1) = l.map (fun s : Int × Nat => s.1)) (j : Nat) (s : Int × Nat) hs h0 h1 => all_bad (k := k) (p := p) (m := m) h (j := j) (s := s) hs h0 h1
  have HAO := Lib.hid fun (h : q.map (fun s : Int × Nat => s.1) = l.map (fun s : Int × Nat => s.1)) h0 => all_ok (k := k) (p := p) (m := m) h h0
  have HSQ : Hid (sumQ q = q.foldl (fun o s => addM bR o s.2) 0) := Lib.hid rfl
  by_cases hlen : q.length = l.length
  case neg =>
    have hne : q.map (fun s : Int × Nat => s.1) ≠ l.map (fun s : Int × Nat => s.1) := fun h => hlen (by have := congrArg List.length h; rwa [List.length_map, List.length_map] at this)
    rw [HAI.out hne, if_neg (by decide)]
    have d1 : ((q.length : Int) != (l.length : Int)) = true := by simp; omega
    rw [← e0] at a0 a1 a2 a3 x0 HS HB
    clear v hd hp hm hl hE1 hE2 b1 b2 e0 hq hqX hqn HCP HCC hrw hrw3 hc HAI HAB HAO HSQ hne hlen
    go_enter Tryz.func18, Tryz.ntmps18
    go_wp2_with (first
      | (go_at_call 14; refine (c1 _ x0).mono ?_; clear c1; rintro e w1 ⟨rfl, x1⟩; obtain ⟨i0, i1, i2, i3⟩ := HB.out _ x1)
      | (go_at_call 57; refine (c2 _ (x0.trans x1)).mono ?_; clear c2; rintro e w2 ⟨rfl, x2⟩; obtain ⟨p0, p1, f0, f1⟩ := HS.out _ (x1.trans x2)))
    refine bodyPost_ret (v := .tuple #[.agg #[.int .u64 0, .int .u64 0], .int .i64 1]) (by simp [results, Tryz.results18, go_sem, p0, p1]) rfl ⟨rfl, ?_⟩
    exact (((x0.trans x1).trans x2).setCell (p := ⟨w.heap.size + 1, 0, none⟩) (by simp only; omega) _).setCell (p := ⟨w.heap.size + 1, 1, none⟩) (by simp only; omega) _
  have dlen : ((q.length : Int) != (l.length : Int)) = false := by simp [hlen]
  obtain ⟨V, hV⟩ : ∃ V : Value, V = Value.tuple #[.agg #[.int .u64 (((if allN k p m l q = 0 then (chN k m l, sumQ q) else (0, 0)).1 : Nat) : Int), .int .u64 (((if allN k p m l q = 0 then (chN k m l, sumQ q) else (0, 0)).2 : Nat) : Int)], .int .i64 (allN k p m l q : Nat)] := ⟨_, rfl⟩
  rw [← hV]
  have HV1 : Hid (∀ E : Nat, allN k p m l q = E → E ≠ 0 → V = .tuple #[.agg #[.int .u64 0, .int .u64 0], .int .i64 (E : Int)]) := Lib.hid fun E h h0 => by rw [hV, h, if_neg h0]; rfl
  have HV2 : Hid (allN k p m l q = 0 → V = .tuple #[.agg #[.int .u64 (chN k m l : Nat), .int .u64 (sumQ q : Nat)], .int .i64 0]) := Lib.hid fun h => by rw [hV, h, if_pos rfl]; rfl
  have HQX := Lib.hid hqX
  have HRQ := Lib.hid fun (W : World) (x : Ext W0 W) => (hq.below (x0.trans x).out).more (x0.trans x).size
  have HRL := Lib.hid fun (W : World) (x : Ext W0 W) => (hl.below (x0.trans x).out).more (x0.trans x).size
  have HQN := Lib.hid hqn
  have HLN := Lib.hid hlen
  rw [← e0] at x0 a0 a1 a2 a3
  have HE0 := Lib.hid e0
  clear v hd hp hm hl hE1 hE2 b1 b2 e0 hq hqX hqn hrw hrw3 hc hlen hV
  go_enter Tryz.func18, Tryz.ntmps18
  go_wp2_with (first
    | (go_at_call 14; refine (c1 _ x0).mono ?_; clear c1; rintro e w1 ⟨rfl, x1⟩; rw [HE0.out] at x1; obtain ⟨i0, i1, i2, i3⟩ := HB.out _ x1)
    | (go_at_call 57; refine (c2 _ (HX0.out.trans x1)).mono ?_; clear c2; rintro e w2 ⟨rfl, x2⟩; have X2 := Lib.hid (x1.trans x2)))
  clear a0 a1 a2 a3 i0 i1 i2 i3 x0 x1 x2 HE0
  go_loopg [12] q.length (fun g s12 wr => ∃ j : Nat, j + g = q.length ∧ s12 = .int .i64 j ∧ (q.take j).map (fun s : Int × Nat => s.1) = (l.take j).map (fun s : Int × Nat => s.1) ∧ Ext W0 wr)
  case atStart => exact ⟨0, by omega, rfl, by simp, X2.out⟩
  case round =>
    obtain ⟨j, hj, rfl, hok, hx⟩ := hrel
    by_cases h : j < q.length
    · obtain ⟨s, hs⟩ : ∃ s, q[j]? = some s := ⟨_, List.getElem?_eq_getElem h⟩
      obtain ⟨r, hr⟩ : ∃ s, l[j]? = some s := ⟨_, List.getElem?_eq_getElem (by rw [← HLN.out]; exact h)⟩
      obtain ⟨ad, rfl, -, q0, -⟩ := reads_share (HRQ.out wr hx) hs
      obtain ⟨bd, rfl, -, r0, -⟩ := reads_share (HRL.out wr hx) hr
      have hjb : (j : Int) ≤ 1099511627776 := by have := HQN.out; omega
      have hjl : (j : Int) < (l.length : Int) := by have := HLN.out; omega
      have q0' := fun n : Nat => show (wr.drewN n).cell? _ = _ from q0
      have r0' := fun n : Nat => show (wr.drewN n).cell? _ = _ from r0
      have HX := Lib.hid hx
      have HJ := Lib.hid hj
      by_cases he : s.1 = r.1
      · have hok' := Lib.hid (ids_take_succ hs hr hok he)
        have d1 : (s.1 != r.1) = false := by simp [he]
        clear hj hok hx hs hr he
        go_wp2
        go_region
        all_goals go_wp2
        have hj := HJ.out
        all_goals go_roundg (gk - 1)
        case measure => omega
        case rel => exact ⟨j + 1, by omega, int_congr (by omega), hok'.out, HX.out.drew⟩
      · have hv := HV1.out 1 (HAI.out (ids_differ hs hr he)) (by decide)
        have d1 : (s.1 != r.1) = true := by simp [he]
        obtain ⟨p0, p1, f0, f1⟩ := HS.out wr hx
        have HVV := Lib.hid hv
        clear hj hok hx hs hr he hv
        go_wp2
        go_region
        all_goals go_wp2
        refine bodyPost_ret (v := .tuple #[.agg #[.int .u64 0, .int .u64 0], .int .i64 1]) (by simp [results, Tryz.results18, go_sem, p0, p1]) rfl ⟨by rw [HVV.out]; rfl, ?_⟩
        exact ((HX0.out.trans HX.out.drew).setCell (p := ⟨w.heap.size + 1, 0, none⟩) (by simp only; omega) _).setCell (p := ⟨w.heap.size + 1, 1, none⟩) (by simp only; omega) _
    · obtain rfl : j = q.length := by omega
      rw [List.take_of_length_le (Nat.le_refl _), List.take_of_length_le (by rw [HLN.out]; exact Nat.le_refl _)] at hok
      have HID := Lib.hid hok
      have HX1 := Lib.hid hx
      obtain ⟨W1, e1⟩ : ∃ W, W = wr := ⟨_, rfl⟩
      subst e1
      clear hj hok hx h
      go_wp2
      go_loopg [13, 14] q.length (fun g s13 s14 wr => ∃ j : Nat, j + g = q.length ∧ s14 = .int .i64 j ∧ s13 = .int .u64 ((q.take j).foldl (fun o s => addM bR o s.2) 0 : Nat) ∧ (∀ s ∈ q.take j, rightN k p m l s.1 s.2 = 0) ∧ Ext W0 wr)
      case atStart => exact ⟨0, by omega, rfl, rfl, by simp, HX1.out⟩
      case round =>
        obtain ⟨j, hj, rfl, rfl, hok, hx⟩ := hrel
        obtain ⟨a0, a1, a2, a3⟩ := HB.out wr hx
        by_cases h : j < q.length
        · obtain ⟨s, hs⟩ : ∃ s, q[j]? = some s := ⟨_, List.getElem?_eq_getElem h⟩
          have hrd := HRQ.out wr hx
          obtain ⟨ad, rfl, -, q0, q1⟩ := reads_share hrd hs
          have hjb : (j : Int) ≤ 1099511627776 := by have := HQN.out; omega
          have hjl : (j : Int) < (q.length : Int) := by omega
          have cP := fun (W : World) (x : Ext W0 W) => HCP.out W (HX0.out.trans x) s.1 s.2 (HQX.out s (List.mem_of_getElem? hs))
          have hft := foldl_take hs (fun o s => addM bR o s.2) 0
          obtain ⟨o, ho⟩ : ∃ o, o = (q.take j).foldl (fun o s => addM bR o s.2) 0 := ⟨_, rfl⟩
          rw [← ho] at hft ⊢
          have cA := fun W => rAddR_any o s.2 W
          obtain ⟨E, hE⟩ : ∃ E, E = rightN k p m l s.1 s.2 := ⟨_, rfl⟩
          rw [← hE] at cP
          have HX := Lib.hid hx
          have HJ := Lib.hid hj
          have HFT := Lib.hid hft
          by_cases h0 : E = 0
          · have hok' : Hid (∀ s ∈ q.take (j + 1), rightN k p m l s.1 s.2 = 0) := Lib.hid fun r hr => by
              rw [List.take_add_one, hs] at hr
              rcases List.mem_append.1 hr with hr | hr
              · exact hok r hr
              · have : r = s := by simpa using hr
                rw [this, ← hE]; exact h0
            have hqs := Lib.hid fun (W : World) (x : Ext wr W) => x.cell q1
            rw [h0] at cP
            clear hj hok hx hs hft ho hE hrd h h0
            go_wp2
            go_region_held3 (fun w' => w'.cell? ⟨w.heap.size, 0, none⟩ = some (.int .i64 t) ∧ w'.cell? ⟨w.heap.size, 1, none⟩ = some (.int .i64 n) ∧ w'.cell? ⟨w.heap.size, 2, none⟩ = some (.int .u64 (k : Int)) ∧ w'.cell? ⟨w.heap.size, 3, none⟩ = some (.slice A p.length c) ∧ w'.cell? (ad.add (j * 2)) = some (.int .i64 s.1) ∧ w'.cell? ⟨(ad.add (j * 2)).block, (ad.add (j * 2)).off + 1, none⟩ = some (.int .u64 (s.2 : Int))) (go_keep) (first
              | (go_at_call 22; refine (cP _ (HX.out.trans (Ext.refl wr).drew)).mono ?_; clear cP; rintro e w4 ⟨rfl, x4⟩; have X4 := (Ext.refl wr).drew.trans x4; have y0 := X4.cell a0; have y1 := X4.cell a1; have y2 := X4.cell a2; have y3 := X4.cell a3; have y4 := X4.cell q0; have y5 := X4.cell q1))
            clear a0 a1 a2 a3 q0 q1 y0 y1 y2 y3 y4
            go_wp2_with (go_at_call 58; refine (cA _).mono ?_; clear cA; rintro e w5 ⟨rfl, rfl⟩)
            have hj := HJ.out
            go_roundg (gk - 1)
            case measure => omega
            case rel => exact ⟨j + 1, by omega, int_congr (by omega), by rw [HFT.out], hok'.out, HX.out.trans X4⟩
          · have hv := HV1.out E ((HAB.out HID.out j s hs hok (by rw [← hE]; exact h0)).trans hE.symm) h0
            have d1 : ((E : Int) != 0) = true := by simp; omega
            have HVV := Lib.hid hv
            clear hj hok hx hs hft ho hE hrd h h0 hv cA
            go_wp2
            go_region_held3 (fun w' => w'.cell? ⟨w.heap.size, 0, none⟩ = some (.int .i64 t) ∧ w'.cell? ⟨w.heap.size, 1, none⟩ = some (.int .i64 n) ∧ w'.cell? ⟨w.heap.size, 2, none⟩ = some (.int .u64 (k : Int)) ∧ w'.cell? ⟨w.heap.size, 3, none⟩ = some (.slice A p.length c) ∧ w'.cell? (ad.add (j * 2)) = some (.int .i64 s.1) ∧ w'.cell? ⟨(ad.add (j * 2)).block, (ad.add (j * 2)).off + 1, none⟩ = some (.int .u64 (s.2 : Int))) (go_keep) (first
              | (go_at_call 22; refine (cP _ (HX.out.trans (Ext.refl wr).drew)).mono ?_; clear cP; rintro e w4 ⟨rfl, x4⟩; have X4 := (Ext.refl wr).drew.trans x4; have y0 := X4.cell a0; have y1 := X4.cell a1; have y2 := X4.cell a2; have y3 := X4.cell a3; have y4 := X4.cell q0; have y5 := X4.cell q1))
            clear a0 a1 a2 a3 q0 q1 y0 y1 y2 y3 y4 y5
            obtain ⟨p0, p1, f0, f1⟩ := HS.out w4 (HX.out.trans X4)
            go_wp2
            refine bodyPost_ret (v := .tuple #[.agg #[.int .u64 0, .int .u64 0], .int .i64 (E : Int)]) (by simp [results, Tryz.results18, go_sem, p0, p1]) rfl ⟨by rw [HVV.out], ?_⟩
            exact ((HX0.out.trans (HX.out.trans X4)).setCell (p := ⟨w.heap.size + 1, 0, none⟩) (by simp only; omega) _).setCell (p := ⟨w.heap.size + 1, 1, none⟩) (by simp only; omega) _
        · obtain rfl : j = q.length := by omega
          have e1 : q.take q.length = q := List.take_length
          rw [e1] at hok
          have hv := HV2.out (HAO.out HID.out hok)
          rw [e1, ← HSQ.out]
          have HVV := Lib.hid hv
          have cC := fun (W : World) (x : Ext W0 W) => HCC.out W (HX0.out.trans x)
          obtain ⟨y, hy⟩ : ∃ y, y = chN k m l := ⟨_, rfl⟩
          obtain ⟨z, hz⟩ : ∃ z, z = sumQ q := ⟨_, rfl⟩
          rw [← hz] at HVV ⊢
          rw [← hy] at HVV cC
          have HX := Lib.hid hx
          clear hj hok hx h hv e1 hy hz
          go_wp2_with (go_at_call 59; refine (cC _ HX.out).mono ?_; clear cC; rintro e w5 ⟨rfl, x5⟩; obtain ⟨p0, p1, f0, f1⟩ := HS.out w5 (HX.out.trans x5))
          refine bodyPost_ret (v := .tuple #[.agg #[.int .u64 (y : Int), .int .u64 (z : Int)], .int .i64 0]) (by simp [results, Tryz.results18, go_sem, p0, p1]) rfl ⟨by rw [HVV.out], ?_⟩
          exact ((HX0.out.trans (HX.out.trans x5)).setCell (p := ⟨w.heap.size + 1, 0, none⟩) (by simp only; omega) _).setCell (p := ⟨w.heap.size + 1, 1, none⟩) (by simp only; omega) _
end Go.Proofs.YtiecfamjnnmpaaaGreat

/- Crews, plain: a crew that is right has a polynomial. No walk here. -/
namespace Go.Proofs.YtiecfamjnnmpaaaGreat
set_option linter.unusedVariables false
attribute [local irreducible] mix hSum hNum coefN chalN

theorem sum_pdA {α : Type} (m : Int) (n : Nat) (g : α → Int → Int) : ∀ l : List α, (∀ j ∈ l, Pd m n (g j)) → Pd m n (fun x => (l.map fun j => g j x).sum)
  | [], _ => (Pd.zero m n).congr fun x => by simp
  | j :: l, h => ((h j List.mem_cons_self).add (sum_pdA m n g l fun i hi => h i (List.mem_cons_of_mem _ hi))).congr fun x => by simp
theorem sum_zeroA {α : Type} (g : α → Int) : ∀ l : List α, (∀ j ∈ l, g j = 0) → (l.map g).sum = 0
  | [], _ => rfl
  | j :: l, h => by
    rw [List.map_cons, List.sum_cons, h j List.mem_cons_self, sum_zeroA g l fun i hi => h i (List.mem_cons_of_mem _ hi)]; rfl
/-- Of a sum but one is 0. -/
theorem sum_atA {m : Int} (g : Int × Nat → Int) (i : Int × Nat) (c : Int) (h1 : Cg m (g i) c) : ∀ l : List (Int × Nat), (l.map fun s : Int × Nat => s.1).Nodup → i ∈ l → (∀ j ∈ l, j.1 ≠ i.1 → g j = 0) → Cg m (l.map g).sum c
  | [], _, hi, _ => absurd hi (by simp)
  | j :: l, hd, hi, h0 => by
    rw [List.map_cons, List.nodup_cons] at hd
    rw [List.map_cons, List.sum_cons]
    rcases List.mem_cons.1 hi with rfl | hi
    · have hz : (l.map g).sum = 0 := sum_zeroA g l fun r hr => h0 r (List.mem_cons_of_mem _ hr) fun e => hd.1 (List.mem_map.2 ⟨r, hr, e⟩)
      rw [hz, Int.add_zero]; exact h1
    · have hj : g j = 0 := h0 j List.mem_cons_self fun e => hd.1 (List.mem_map.2 ⟨i, hi, e.symm⟩)
      rw [hj, Int.zero_add]
      exact sum_atA g i c h1 l hd.2 hi fun r hr => h0 r (List.mem_cons_of_mem _ hr)
/-- The polynomial through some shares. -/
def fI (L : List (Int × Nat)) (x : Int) : Int := (L.map fun s => (s.2 : Int) * (num (L.map fun s : Int × Nat => s.1) s.1 x * vI (L.map fun s : Int × Nat => s.1) s.1)).sum
theorem fI_pd {L : List (Int × Nat)} (h : okP (L.map fun s : Int × Nat => s.1)) : Pd bR L.length (fI L) := by
  have := sum_pdA (bR : Int) L.length (fun (s : Int × Nat) x => (s.2 : Int) * (num (L.map fun s : Int × Nat => s.1) s.1 x * vI (L.map fun s : Int × Nat => s.1) s.1)) L fun s hs => by
    have h1 := num_pd (bR : Int) h.2 (List.mem_map.2 ⟨s, hs, rfl⟩)
    rw [List.length_map] at h1
    exact (h1.scale ((s.2 : Int) * vI (L.map fun s : Int × Nat => s.1) s.1)).congr fun x => by grind
  exact this
theorem fI_at {L : List (Int × Nat)} (h : okP (L.map fun s : Int × Nat => s.1)) {s : Int × Nat} (hs : s ∈ L) : Cg bR (fI L s.1) s.2 := by
  refine sum_atA (m := bR) (fun r : Int × Nat => (r.2 : Int) * (num (L.map fun s : Int × Nat => s.1) r.1 s.1 * vI (L.map fun s : Int × Nat => s.1) r.1)) s s.2 ?_ L h.2 hs fun r hr hne => ?_
  · have h1 := vI_ok h (List.mem_map.2 ⟨s, hs, rfl⟩)
    exact ((Cg.refl bR (s.2 : Int)).mul h1).trans (Cg.of_eq (by rw [Int.mul_one]))
  · have h1 : num (L.map fun s : Int × Nat => s.1) r.1 s.1 = 0 := num_zero (List.mem_map.2 ⟨s, hs, rfl⟩) fun e => hne e.symm
    show (r.2 : Int) * (num _ r.1 s.1 * _) = 0
    rw [h1]; grind
theorem fI_sum {L : List (Int × Nat)} (h : okP (L.map fun s : Int × Nat => s.1)) (x : Nat) : Cg bR (sumN (L.map fun s : Int × Nat => s.1) x L : Nat) (fI L x) := cg_sum h x L

theorem idsN_mem {n : Nat} {i : Int} (h : i ∈ idsN n) : 1 ≤ i ∧ i ≤ n := by
  obtain ⟨j, hj, rfl⟩ := List.mem_map.1 h
  rw [List.mem_range] at hj
  omega
theorem idsN_nodup (n : Nat) : (idsN n).Nodup := by
  unfold idsN
  refine List.Pairwise.map _ (R := fun a b => a ≠ b) (fun a b h e => h (by omega)) ?_
  exact List.nodup_range
theorem idsN_ok {n : Nat} (h : n ≤ 7) : okP (idsN n) := ⟨fun i hi => by have := idsN_mem hi; omega, idsN_nodup n⟩
/-- Product and weights: as the exponents' sum. -/
theorem joint_want {l : List (Int × Nat)} (h : rightB (l.map fun s : Int × Nat => s.1) = true) : jointN l = wantN (l.map fun s : Int × Nat => s.1) 0 l := by
  have key : ∀ (m : List (Int × Nat)) (o : Nat), (∀ s ∈ m, s ∈ l) → m.foldl (fun o s => mulM bQ o (powM bQ s.2 (wgtV (l.map (·.1)) s.1))) o = m.foldl (fun o s => mulM bQ o (powM bQ s.2 (atN (l.map fun s : Int × Nat => s.1) s.1 0))) o := by
    intro m
    induction m with
    | nil => intro o _; rfl
    | cons s m ih =>
      intro o hm
      rw [List.foldl_cons, List.foldl_cons]
      have : wgtV (l.map (·.1)) s.1 = atN (l.map fun s : Int × Nat => s.1) s.1 0 := by
        unfold wgtV
        rw [if_pos ⟨h, List.mem_map.2 ⟨s, hm s List.mem_cons_self, rfl⟩⟩]
      rw [this]
      exact ih _ fun r hr => hm r (List.mem_cons_of_mem _ hr)
  exact key l 1 fun s hs => hs
/-- A crew that is right: exponents on a polynomial, the key at 0. -/
theorem crew_poly {t n : Int} {k : Nat} {p : List (Int × Nat)} (h : crewN t n k p = 0) : ∃ (f : Int → Int) (y : List (Int × Nat)) (z : Nat), Pd bR t.toNat f ∧ p = pubL y ∧ (∀ s ∈ y, s.2 < bR ∧ Cg bR (s.2 : Int) (f s.1)) ∧ z < bR ∧ k = powM bQ 4 z ∧ Cg bR (z : Int) (f 0) := by
  obtain ⟨h1, h2, h3, h4, h5, ⟨h6, h6'⟩, h7, h8⟩ := crew_zero h
  obtain ⟨y, rfl, hy⟩ := logs (l := p) fun s hs => List.all_eq_true.1 h6' s hs
  have hyids : y.map (fun s : Int × Nat => s.1) = idsN y.length := by
    have := h6
    rw [pubL_length] at this
    rw [← this]; exact (pubL_ids y).symm
  rw [pubL_length] at h4
  obtain ⟨tn, rfl⟩ : ∃ m : Nat, t = m := ⟨t.toNat, by omega⟩
  rw [Int.toNat_natCast] at h8 ⊢
  have hlen : (y.take tn).length = tn := by rw [List.length_take]; omega
  have hids : (y.take tn).map (fun s : Int × Nat => s.1) = idsN tn := by
    rw [List.map_take, hyids]
    unfold idsN
    rw [← List.map_take]
    congr 1
    rw [List.take_range]; congr 1; omega
  have hok : okP ((y.take tn).map fun s : Int × Nat => s.1) := by rw [hids]; exact idsN_ok (by omega)
  have htk : (pubL y).take tn = pubL (y.take tn) := by unfold pubL; rw [List.map_take]
  have hri : rightB ((y.take tn).map fun s : Int × Nat => s.1) = true := (rightB_iff _).2 ⟨hok, by rw [List.length_map, hlen]; omega, by rw [List.length_map, hlen]; omega⟩
  refine ⟨fI (y.take tn), y, sumN ((y.take tn).map fun s : Int × Nat => s.1) 0 (y.take tn), by have := fI_pd hok; rwa [hlen] at this, rfl, fun s hs => ⟨hy s hs, ?_⟩, sumN_lt _ _ _, ?_, fI_sum hok 0⟩
  · have hsid : 1 ≤ s.1 ∧ s.1 ≤ y.length := idsN_mem (by rw [← hyids]; exact List.mem_map.2 ⟨s, hs, rfl⟩)
    rw [← List.take_append_drop tn y] at hs
    rcases List.mem_append.1 hs with hs | hs
    · exact (fI_at hok hs).symm
    · have e0 : (pubL y).map (fun s : Int × Nat => s.1) = idsN y.length := by rw [← hyids]; exact pubL_ids y
      have hrA : rightB ((pubL y).map fun s : Int × Nat => s.1) = true := by
        rw [e0]
        exact (rightB_iff _).2 ⟨idsN_ok (by omega), by rw [idsN_length]; omega, by rw [idsN_length]; omega⟩
      have hc := chk_rest (t := (tn : Int)) (l := pubL y) h1 (by omega) hrA h6' (by rw [pubL_length]; omega)
      rw [h7, Int.toNat_natCast, htk] at hc
      have hall : ((pubL y).drop tn).all (fun s => decide (wantN ((pubL (y.take tn)).map (·.1)) s.1.toNat (pubL (y.take tn)) = s.2)) = true := by
        split at hc
        · assumption
        · cases hc
      have hm : (s.1, powM bQ 4 s.2) ∈ (pubL y).drop tn := by
        unfold pubL
        rw [← List.map_drop]
        exact List.mem_map.2 ⟨s, hs, rfl⟩
      have hw := List.all_eq_true.1 hall _ hm
      have hw := of_decide_eq_true hw
      have e1 : (pubL (y.take tn)).map (·.1) = (y.take tn).map fun s : Int × Nat => s.1 := pubL_ids _
      rw [e1, want_pub] at hw
      have hw := base_inj hw
      have hx : (s.1.toNat : Int) = s.1 := by omega
      have hf := fI_sum hok s.1.toNat
      rw [hx] at hf
      exact (cg_of_mod hw).symm.trans hf
  · rw [htk] at h8
    have e1 : (pubL (y.take tn)).map (fun s : Int × Nat => s.1) = (y.take tn).map fun s : Int × Nat => s.1 := pubL_ids _
    rw [joint_want (by rw [e1]; exact hri), e1, want_pub] at h8
    exact h8.symm
end Go.Proofs.YtiecfamjnnmpaaaGreat

/- Crews, plain: what is combined is a signature. No walk here. -/
namespace Go.Proofs.YtiecfamjnnmpaaaGreat
set_option linter.unusedVariables false
attribute [local irreducible] mix hSum hNum coefN chalN atN

theorem row_zero {a b c : Nat} (h : rowN a b c = 0) : a = 0 ∧ b = 0 ∧ c = 0 := by
  unfold rowN at h
  split at h
  · split at h
    · exact ⟨by assumption, by assumption, h⟩
    · exact absurd h (by assumption)
  · exact absurd h (by assumption)
theorem all_zero' {k : Nat} {p : List (Int × Nat)} {m : List Nat} {l q : List (Int × Nat)} (h : allN k p m l q = 0) : q.map (fun s : Int × Nat => s.1) = l.map (fun s : Int × Nat => s.1) ∧ ∀ r ∈ q, rightN k p m l r.1 r.2 = 0 := by
  unfold allN at h
  split at h
  · rename_i hi
    refine ⟨hi, fun r hr => Classical.byContradiction fun hne => ?_⟩
    split at h
    · rename_i s hs
      have := List.find?_some hs
      simp at this
      exact this h
    · rename_i hn
      have := List.find?_eq_none.1 hn r hr
      simp at this
      exact hne this
  · cases h
theorem inc_len {n : Int} : ∀ (l : List (Int × Nat)) (a : Int), l.Pairwise (fun a b => a.1 < b.1) → (∀ s ∈ l, a < s.1 ∧ s.1 ≤ n) → a ≤ n → (l.length : Int) ≤ n - a
  | [], a, _, _, h => by simp; omega
  | s :: l, a, hp, hb, h => by
    rw [List.pairwise_cons] at hp
    have h1 := hb s List.mem_cons_self
    have := inc_len l s.1 hp.2 (fun r hr => ⟨hp.1 r hr, (hb r (List.mem_cons_of_mem _ hr)).2⟩) h1.2
    rw [List.length_cons]
    push_cast
    omega
theorem okC_ids {n : Int} {l : List (Int × Nat)} (h : okC n l) (h7 : n ≤ 7) : okP (l.map fun s : Int × Nat => s.1) ∧ l.length ≤ 7 := by
  refine ⟨⟨fun i hi => ?_, ?_⟩, ?_⟩
  · obtain ⟨s, hs, rfl⟩ := List.mem_map.1 hi
    have := h.2 s hs
    omega
  · exact List.Pairwise.map _ (fun a b hab e => by omega) h.1
  · cases l with
    | nil => simp
    | cons s l =>
      have h0 := h.2 s List.mem_cons_self
      have := inc_len (n := n) (s :: l) 0 h.1 (fun r hr => by have := h.2 r hr; omega) (by omega)
      omega
theorem ofC_at {l : List (Int × Nat)} (hd : (l.map fun s : Int × Nat => s.1).Nodup) {s : Int × Nat} (hs : s ∈ l) : ofC l s.1 = some s := by
  cases h : ofC l s.1 with
  | none =>
    have := List.find?_eq_none.1 h s hs
    simp at this
  | some r =>
    obtain ⟨h1, h2, -⟩ := ofC_some h
    obtain ⟨i, hi⟩ := List.mem_iff_getElem?.1 hs
    obtain ⟨j, hj⟩ := List.mem_iff_getElem?.1 h2
    have := nodup_inj hd (i := i) (j := j) (x := s.1) (by rw [List.getElem?_map, hi]; rfl) (by rw [List.getElem?_map, hj, ← h1]; rfl)
    subst this
    rw [hi] at hj
    exact hj.symm
theorem prod_pub (l : List (Int × Nat)) : prodBy (fun s => s.2) (pubL l) = powM bQ 4 (l.foldl (fun o s => addM bR o s.2) 0) := by
  have key : ∀ (l : List (Int × Nat)) (o : Nat), (pubL l).foldl (fun o s => mulM bQ o s.2) (powM bQ 4 o) = powM bQ 4 (l.foldl (fun o s => addM bR o s.2) o) := by
    intro l
    induction l with
    | nil => intro o; rfl
    | cons s l ih =>
      intro o
      show (pubL l).foldl _ (mulM bQ (powM bQ 4 o) (powM bQ 4 s.2)) = _
      rw [← base_add]
      exact ih _
  have := key l 0
  rw [powM_zero (by decide)] at this
  exact this
/-- The sum of parts: of nonces, and the challenge times the weighted shares. -/
theorem sum_partsQ (c : Nat) (I : List Int) (Y : Int → Nat) : ∀ (l : List (Int × Nat)) (a b d : Nat), Cg bR (a : Int) ((b : Int) + c * d) →
    Cg bR ((((l.map fun s => (s.1, addM bR s.2 (mulM bR (Y s.1) (mulM bR c (atN I s.1 0))))).foldl (fun o s => addM bR o s.2) a : Nat) : Int)) (((l.foldl (fun o s => addM bR o s.2) b : Nat) : Int) + c * ((l.map fun s => (s.1, Y s.1)).foldl (fun o s => addM bR o (mulM bR s.2 (atN I s.1 0))) d : Nat))
  | [], a, b, d, h => h
  | s :: l, a, b, d, h => by
    refine sum_partsQ c I Y l _ _ _ ?_
    have h1 := cg_add bR a (addM bR s.2 (mulM bR (Y s.1) (mulM bR c (atN I s.1 0))))
    have h2 := cg_add bR s.2 (mulM bR (Y s.1) (mulM bR c (atN I s.1 0)))
    have h3 := (cg_mul bR (Y s.1) (mulM bR c (atN I s.1 0))).trans ((Cg.refl _ _).mul (cg_mul bR c (atN I s.1 0)))
    have h4 := cg_add bR b s.2
    have h5 := (cg_add bR d (mulM bR (Y s.1) (atN I s.1 0))).trans ((Cg.refl _ _).add (cg_mul bR (Y s.1) (atN I s.1 0)))
    refine (h1.trans (h.add (h2.trans ((Cg.refl _ _).add h3)))).trans (Cg.trans ?_ (h4.add ((Cg.refl bR (c : Int)).mul h5)).symm)
    exact Cg.of_eq (by grind)
end Go.Proofs.YtiecfamjnnmpaaaGreat

/- Crews, plain: what is combined is a signature by the crew's key. -/
namespace Go.Proofs.YtiecfamjnnmpaaaGreat
set_option linter.unusedVariables false
attribute [local irreducible] mix hSum hNum coefN chalN atN

theorem right_zero {k : Nat} {p : List (Int × Nat)} {m : List Nat} {l : List (Int × Nat)} {id : Int} {x : Nat} {s : Int × Nat} (ho : ofC l id = some s) (h : rightN k p m l id x = 0) : x < bR ∧ powM bQ 4 x = mulM bQ s.2 (powM bQ (partX p id) (scN k m l id)) := by
  unfold rightN at h
  rw [ho] at h
  simp only at h
  split at h
  · cases h
  · split at h
    · exact ⟨by omega, by assumption⟩
    · cases h

theorem signs_plain {t n : Int} {k : Nat} {p : List (Int × Nat)} {m : List Nat} {l q : List (Int × Nat)} (h : cmbE t n k p m l q = 0) : checkN k m (chN k m l) (sumQ q) = 0 := by
  obtain ⟨hc, he, ha⟩ := row_zero h
  obtain ⟨f, y, z, hf, hp, hy, hz, hk, hz0⟩ := crew_poly hc
  obtain ⟨g1, g2, g3, g4, g5, ⟨g6, -⟩, -, -⟩ := crew_zero hc
  obtain ⟨o1, o2⟩ := en_zero he
  obtain ⟨i1, i2⟩ := okC_ids o1 g3
  obtain ⟨q1, q2⟩ := all_zero' ha
  obtain ⟨le, hle, hl⟩ := logs (l := l) fun s hs => (o1.2 s hs).2.2
  obtain ⟨c, hcc⟩ : ∃ c, c = chN k m l := ⟨_, rfl⟩
  have hcl : c < bR := by rw [hcc]; exact chN_lt _ _ _
  obtain ⟨I, hI⟩ : ∃ I, I = l.map (fun s : Int × Nat => s.1) := ⟨_, rfl⟩
  have hIe : I = le.map (fun s : Int × Nat => s.1) := by rw [hI, hle]; exact pubL_ids le
  rw [← hI] at i1 q1
  have hlen : le.length = l.length := by rw [hle, pubL_length]
  have hri : 0 < l.length → rightB I = true := fun h0 => (rightB_iff _).2 ⟨i1, by rw [hI, List.length_map]; exact h0, by rw [hI, List.length_map]; exact i2⟩
  -- the share of each signer
  let Y : Int → Nat := fun id => match y[id.toNat - 1]? with | some r => r.2 | none => 0
  have hyids : y.map (fun s : Int × Nat => s.1) = idsN y.length := by
    have := g6
    rw [hp, pubL_length] at this
    rw [← this]; exact (pubL_ids y).symm
  have hpy : p.length = y.length := by rw [hp, pubL_length]
  have hYof : ∀ id : Int, 1 ≤ id → id ≤ n → ∃ r, y[id.toNat - 1]? = some r ∧ r.1 = id ∧ r ∈ y := fun id h1 h2 => by
    have hlt : id.toNat - 1 < y.length := by omega
    refine ⟨y[id.toNat - 1], List.getElem?_eq_getElem hlt, ?_, List.getElem_mem _⟩
    have e1 : (y.map (fun s : Int × Nat => s.1))[id.toNat - 1]? = some (y[id.toNat - 1]).1 := by rw [List.getElem?_map, List.getElem?_eq_getElem hlt]; rfl
    rw [hyids] at e1
    have e2 : (idsN y.length)[id.toNat - 1]? = some (((id.toNat - 1 + 1 : Nat) : Int)) := by simp [idsN, hlt]
    rw [e2] at e1
    have := Option.some.inj e1
    omega
  have hrange : ∀ s ∈ le, 1 ≤ s.1 ∧ s.1 ≤ n := fun s hs => by
    have : (s.1, powM bQ 4 s.2) ∈ l := by rw [hle]; exact List.mem_map.2 ⟨s, hs, rfl⟩
    have := o1.2 _ this
    exact ⟨this.1, this.2.1⟩
  have hYp : ∀ s ∈ le, partX p s.1 = powM bQ 4 (Y s.1) ∧ Cg bR (Y s.1 : Int) (f s.1) := fun s hs => by
    obtain ⟨r1, r2⟩ := hrange s hs
    obtain ⟨r, hr, hr1, hr2⟩ := hYof s.1 r1 r2
    have hYr : Y s.1 = r.2 := by simp only [Y]; rw [hr]
    rw [hYr]
    constructor
    · have : p[s.1.toNat - 1]? = some (r.1, powM bQ 4 r.2) := by rw [hp]; unfold pubL; rw [List.getElem?_map, hr]; rfl
      unfold partX; rw [this]
    · have := (hy r hr2).2
      rwa [hr1] at this
  -- each part
  have hq : q = le.map fun s => (s.1, addM bR s.2 (mulM bR (Y s.1) (mulM bR c (atN I s.1 0)))) := by
    refine List.ext_getElem? fun i => ?_
    have hql : q.length = le.length := by
      have := congrArg List.length q1
      rw [hIe, List.length_map, List.length_map] at this
      exact this
    rw [List.getElem?_map]
    by_cases hi : i < le.length
    · have e1 := List.getElem?_eq_getElem hi
      have e2 : q[i]? = some q[i] := List.getElem?_eq_getElem (by omega)
      rw [e1, e2]
      obtain ⟨s, hs⟩ : ∃ s, s = le[i] := ⟨_, rfl⟩
      obtain ⟨r, hr⟩ : ∃ r, r = q[i] := ⟨_, rfl⟩
      rw [← hs, ← hr]
      have hid : r.1 = s.1 := by
        have h1 : (q.map (fun s : Int × Nat => s.1))[i]? = some r.1 := by rw [List.getElem?_map, e2, hr]; rfl
        rw [q1, hIe, List.getElem?_map, e1, ← hs] at h1
        exact (Option.some.inj h1).symm
      have hsm : s ∈ le := by rw [hs]; exact List.getElem_mem _
      have hrm : r ∈ q := by rw [hr]; exact List.getElem_mem _
      have hlm : (s.1, powM bQ 4 s.2) ∈ l := by rw [hle]; exact List.mem_map.2 ⟨s, hsm, rfl⟩
      have ho := ofC_at (by rw [← hI]; exact i1.2) hlm
      have h0 := q2 r hrm
      rw [hid] at h0
      obtain ⟨x1, x2⟩ := right_zero ho h0
      obtain ⟨p1, -⟩ := hYp s hsm
      have hw : scN k m l s.1 = mulM bR c (atN I s.1 0) := by
        have hI' : l.map (·.1) = I := hI.symm
        unfold scN wgtV
        rw [hI', if_pos ⟨hri (List.length_pos_of_mem hlm), by rw [hIe]; exact List.mem_map.2 ⟨s, hsm, rfl⟩⟩, ← hcc]
      rw [p1, hw] at x2
      simp only at x2
      rw [← base_mul, ← base_add] at x2
      have hx := base_inj x2
      rw [Nat.mod_eq_of_lt x1, Nat.mod_eq_of_lt (addM_lt' (by decide) _ _)] at hx
      exact congrArg some (Prod.ext hid hx)
    · rw [List.getElem?_eq_none (by omega), List.getElem?_eq_none (by omega)]; rfl
  -- the sum
  have hsum := sum_partsQ c I Y le 0 0 0 (Cg.of_eq (by simp))
  rw [← hq] at hsum
  obtain ⟨E, hE⟩ : ∃ E, E = le.foldl (fun o s => addM bR o s.2) 0 := ⟨_, rfl⟩
  rw [← hE] at hsum
  have hwz : (le.map fun s => (s.1, Y s.1)).foldl (fun o s => addM bR o (mulM bR s.2 (atN I s.1 0))) 0 = z := by
    have hids : (le.map fun s => (s.1, Y s.1)).map (fun s : Int × Nat => s.1) = I := by rw [hIe, List.map_map]; rfl
    have h1 := sum_poly (le.map fun s => (s.1, Y s.1)) (by rw [hids]; exact i1) f (hf.le (by rw [List.length_map, hlen]; omega)) (fun s hs => by
      obtain ⟨r, hr, rfl⟩ := List.mem_map.1 hs
      exact (hYp r hr).2) 0
    rw [hids] at h1
    exact eq_of_cg (sumN_lt I 0 _) hz (h1.trans hz0.symm)
  rw [hwz] at hsum
  have hX : prodBy (fun s => s.2) l = powM bQ 4 E := by rw [hle, prod_pub, hE]
  have hS : powM bQ 4 (sumQ q) = mulM bQ (powM bQ 4 E) (powM bQ k c) := by
    have hm : sumQ q % bR = addM bR E (mulM bR z c) % bR := by
      refine mod_of_cg (by decide) (hsum.trans (Cg.trans ?_ ((cg_add bR E (mulM bR z c)).trans ((Cg.refl _ _).add (cg_mul bR z c))).symm))
      exact Cg.of_eq (by grind)
    rw [← base_period (sumQ q), hm, base_period, base_add, base_mul, ← hk]
  rw [checkN_ref g5 m (chN_lt k m l) (sumQ_lt q), ← hcc, hS, mulM_assoc, powM_add]
  have e1 : powM bQ k (c + (bR - c)) = 1 := by
    rw [show c + (bR - c) = bR by omega]
    exact ((inB_iff k).1 g5).2.2
  rw [e1, mulM_one, ← hX, Nat.mod_eq_of_lt (prodBy_lt _ _)]
  have : chalN (prodBy (fun s => s.2) l) k m = c := by rw [hcc]; rfl
  rw [if_pos this]
end Go.Proofs.YtiecfamjnnmpaaaGreat
