/- Parts of the proofs, put together: ShP2, Sh15, ShLaw2, ShLaw3, ShLaw4, ShLaw6, ShLaw8, ShLaw7. -/
import Derived.Test.YtaibpldolbemfaaH16
/- Plain: what follows of shares: hides, sums, public, spoilt, ones. No walk here. -/
namespace Go.Proofs.Ytaibpldolbemfaa
set_option linter.unusedVariables false
attribute [local irreducible] mix hSum hNum coefN

theorem split_take (secret tn nn : Nat) (seed : List Nat) {k : Nat} (h : k ≤ nn) : (splitL secret tn nn seed).take k = splitL secret tn k seed := by
  unfold splitL
  rw [← List.map_take]
  congr 1
  refine List.ext_getElem? fun i => ?_
  rw [List.getElem?_take]
  split
  · rw [List.getElem?_range (by omega), List.getElem?_range (by omega)]
  · rw [List.getElem?_eq_none (by simp; omega)]
theorem split_succ (secret tn k : Nat) (seed : List Nat) : splitL secret tn (k + 1) seed = splitL secret tn k seed ++ [(((k + 1 : Nat) : Int), evZ (polyN secret tn seed) (k + 1) % bR)] := by
  simp [splitL, List.range_succ]
theorem split_mem (secret tn seed) {nn k : Nat} (h : k < nn) : (((k + 1 : Nat) : Int), evZ (polyN secret tn seed) (k + 1) % bR) ∈ splitL secret tn nn seed := List.mem_of_getElem? (splitL_at secret tn nn seed h)
theorem split_may {secret tn nn : Nat} {seed : List Nat} (h0 : 1 ≤ nn) (h7 : nn ≤ 7) : mayB (splitL secret tn nn seed) = true :=
  may_of (by rw [splitL_length]; omega) (by rw [splitL_length]; exact h7) (fun s hs => (split_onP h7 s hs).range) split_nodup
theorem split_sum {secret tn nn : Nat} {seed : List Nat} (h1 : 1 ≤ tn) (h2 : tn ≤ nn) (h7 : nn ≤ 7) (x : Nat) : sumN ((splitL secret tn nn seed).map fun s : Int × Nat => s.1) x (splitL secret tn nn seed) = evZ (polyN secret tn seed) x % bR := by
  refine eq_of_cg (sumN_lt _ _ _) (Nat.mod_lt _ (by decide)) ?_
  refine (sum_poly _ (ok_of_may (split_may (by omega) h7)) (evI (polyN secret tn seed)) (poly_pd _ _ _ (by rw [splitL_length]; exact h2)) (fun s hs => (split_onP h7 s hs).cg) x).trans ?_
  rw [evI_cast]
  exact (cg_mod _ _).symm
theorem cg_range {x k : Nat} (h : x ≤ 7) (hk : k ≤ 7) (hne : x ≠ k) : ¬ Cg bR (x : Int) (k : Int) := ncg_of_ne (by omega) (by omega) (by omega)

/-- Fewer tell nothing. -/
theorem hides_plain {secret other tn : Nat} {seed : List Nat} (h1 : 1 ≤ tn) (h7 : tn ≤ 7) (hs : secret < bR) (ho : other < bR) :
    ∃ (pre : List (Int × Nat)) (x w : Nat) (ids : List Int), splitL secret tn tn seed = pre ++ [((tn : Int), x)] ∧ pre.length = tn - 1 ∧ x < bR ∧ w < bR ∧ ids = (pre ++ [((tn : Int), x)]).map (fun s : Int × Nat => s.1) ∧ wgtR ids tn = .tuple #[.int .u64 (w : Int), .int .i64 0] ∧ invE bR w = 0 ∧
      ∀ x', x' = addM bR x (mulM bR (subM bR other secret) (invM bR w)) → joinR (pre ++ [((tn : Int), x')]) = .tuple #[.int .u64 (other : Int), .int .i64 0] := by
  obtain ⟨k, rfl⟩ : ∃ k, tn = k + 1 := ⟨tn - 1, by omega⟩
  have hsum := split_sum (secret := secret) (seed := seed) h1 (Nat.le_refl _) h7 0
  have hmay := split_may (secret := secret) (tn := k + 1) (seed := seed) h1 h7
  rw [split_succ] at hsum hmay
  have hz : evZ (polyN secret (k + 1) seed) 0 % bR = secret := by
    have h := poly_zero (secret := secret) (seed := seed) h1
    have h' := evI_cast (polyN secret (k + 1) seed) 0
    have : (evZ (polyN secret (k + 1) seed) 0 : Int) = secret := by rw [← h', ← h]; rfl
    have : evZ (polyN secret (k + 1) seed) 0 = secret := by exact_mod_cast this
    rw [this, Nat.mod_eq_of_lt hs]
  rw [hz] at hsum
  obtain ⟨pre, hpre⟩ : ∃ p, p = splitL secret (k + 1) k seed := ⟨_, rfl⟩
  obtain ⟨x, hx⟩ : ∃ p, p = evZ (polyN secret (k + 1) seed) (k + 1) % bR := ⟨_, rfl⟩
  rw [← hpre, ← hx] at hsum hmay
  have hok := ok_of_may hmay
  have hmf := may_facts hmay
  obtain ⟨ids, hids⟩ : ∃ i, i = (pre ++ [(((k + 1 : Nat) : Int), x)]).map fun s : Int × Nat => s.1 := ⟨_, rfl⟩
  rw [← hids] at hsum hok hmf
  have hmem : ((k + 1 : Nat) : Int) ∈ ids := by rw [hids]; simp
  have hxb : x < bR := by rw [hx]; exact Nat.mod_lt _ (by decide)
  have hw : atN ids ((k + 1 : Nat) : Int) 0 % bR ≠ 0 := at_ne hok hmem fun j hj hne => ncg_of_ne (by omega) (by have := hok.1 j hj; omega) (by have := hok.1 j hj; omega)
  refine ⟨pre, x, atN ids ((k + 1 : Nat) : Int) 0, ids, by rw [split_succ, ← hpre, ← hx], by rw [hpre, splitL_length]; omega, hxb, atN_lt _ _ _, hids, ?_, invE_ok hw, ?_⟩
  · unfold wgtR wgtV wgtE
    rw [if_pos ⟨hmf.1, hmem⟩, if_pos ⟨hmf.1, hmem⟩]; rfl
  · intro x' hx'
    have hids' : ids = (pre ++ [(((k + 1 : Nat) : Int), x')]).map fun s : Int × Nat => s.1 := by rw [hids]; simp
    have hmay' : mayB (pre ++ [(((k + 1 : Nat) : Int), x')]) = true := by
      refine may_of (by simp) ?_ ?_ ?_
      · have := hmf.2.2.2; simp at this ⊢; exact this
      · intro s hs
        rcases List.mem_append.1 hs with h | h
        · exact ⟨hmf.2.2.1 s (List.mem_append.2 (.inl h)), hmf.2.1 s (List.mem_append.2 (.inl h))⟩
        · rw [List.mem_singleton] at h
          subst h
          exact ⟨hmf.2.2.1 ((((k + 1 : Nat) : Int), x)) (by simp), by rw [hx']; exact addM_lt' (by decide) _ _⟩
      · rw [← hids']; exact hok.2
    rw [joinR_ok (by simp) hmay', ← hids', sumN_snoc]
    rw [sumN_snoc] at hsum
    have hlt := addM_lt' (m := bR) (by decide) (sumN ids 0 pre) (mulM bR x' (atN ids ((k + 1 : Nat) : Int) 0))
    have key : addM bR (sumN ids 0 pre) (mulM bR x' (atN ids ((k + 1 : Nat) : Int) 0)) = other := by
      refine eq_of_cg hlt ho ?_
      have a1 := (cg_add bR (sumN ids 0 pre) (mulM bR x (atN ids ((k + 1 : Nat) : Int) 0))).trans ((Cg.refl _ _).add (cg_mul _ _ _))
      have e1 : ((addM bR (sumN ids 0 pre) (mulM bR x (atN ids ((k + 1 : Nat) : Int) 0)) : Nat) : Int) = secret := by exact_mod_cast hsum
      rw [e1] at a1
      have a2 := (cg_add bR (sumN ids 0 pre) (mulM bR x' (atN ids ((k + 1 : Nat) : Int) 0))).trans ((Cg.refl _ _).add (cg_mul _ _ _))
      have a3 : Cg bR (x' : Int) ((x : Int) + ((other : Int) - secret) * (invM bR (atN ids ((k + 1 : Nat) : Int) 0) : Nat)) := by
        rw [hx']
        exact (cg_add _ _ _).trans ((Cg.refl _ _).add ((cg_mul _ _ _).trans ((cg_sub _ _ _ (by decide)).mul (Cg.refl _ _))))
      have a4 := cg_inv hw
      have a5 := a2.trans ((Cg.refl _ _).add (a3.mul (Cg.refl _ _)))
      have a6 := ((Cg.refl bR ((other : Int) - secret)).mul a4)
      have a7 := a1.symm.add a6
      exact a5.trans ((Cg.of_eq (by grind)).trans (a7.trans (Cg.of_eq (by grind))))
    rw [key]

/-! ### sums -/
def sumsL (l m : List (Int × Nat)) (times : Nat) : List (Int × Nat) := l.zipWith (fun s r => (s.1, addM bR s.2 (mulM bR r.2 times))) m
theorem sums_plain {a b tn nn : Nat} {seed seed2 : List Nat} (times : Nat) (h1 : 1 ≤ tn) (h2 : tn ≤ nn) (h7 : nn ≤ 7) (ha : a < bR) (hb : b < bR) :
    joinR (sumsL ((splitL a tn nn seed).drop (nn - tn)) ((splitL b tn nn seed2).drop (nn - tn)) times) = .tuple #[.int .u64 ((addM bR a (mulM bR b times) : Nat) : Int), .int .i64 0] := by
  have hd : ∀ (c : Nat) (sd : List Nat), (splitL c tn nn sd).drop (nn - tn) = (List.range tn).map fun i => (((nn - tn + i + 1 : Nat) : Int), evZ (polyN c tn sd) (nn - tn + i + 1) % bR) := fun c sd => by
    refine List.ext_getElem? fun i => ?_
    rw [List.getElem?_drop]
    by_cases hi : i < tn
    · rw [splitL_at c tn nn sd (by omega)]; simp [hi]
    · rw [List.getElem?_eq_none (by rw [splitL_length]; omega), List.getElem?_eq_none (by simp; omega)]
  have e : sumsL ((splitL a tn nn seed).drop (nn - tn)) ((splitL b tn nn seed2).drop (nn - tn)) times = (List.range tn).map fun i => (((nn - tn + i + 1 : Nat) : Int), addM bR (evZ (polyN a tn seed) (nn - tn + i + 1) % bR) (mulM bR (evZ (polyN b tn seed2) (nn - tn + i + 1) % bR) times)) := by
    rw [hd, hd]
    unfold sumsL
    rw [List.zipWith_map]
    refine List.ext_getElem? fun i => ?_
    by_cases hi : i < tn
    · simp [hi]
    · rw [List.getElem?_eq_none (by simp; omega), List.getElem?_eq_none (by simp; omega)]
  rw [e]
  refine joinR_on (P := fun x => evI (polyN a tn seed) x + (times : Int) * evI (polyN b tn seed2) x) (may_of (by simp; omega) (by simp; omega) ?_ ?_) ?_ ?_ (addM_lt' (by decide) _ _) ?_
  · intro s hs
    obtain ⟨i, hi, rfl⟩ := List.mem_map.1 hs
    rw [List.mem_range] at hi
    exact ⟨by dsimp only; omega, addM_lt' (by decide) _ _⟩
  · rw [List.map_map]
    exact List.Pairwise.map _ (fun a b (h : a ≠ b) e => h (by have : ((nn - tn + a + 1 : Nat) : Int) = ((nn - tn + b + 1 : Nat) : Int) := e; omega)) List.nodup_range
  · rw [List.length_map, List.length_range]
    exact (poly_pd a tn seed (Nat.le_refl _)).add ((poly_pd b tn seed2 (Nat.le_refl _)).scale times)
  · intro s hs
    obtain ⟨i, hi, rfl⟩ := List.mem_map.1 hs
    rw [evI_cast, evI_cast]
    refine (cg_add _ _ _).trans ((cg_mod _ _).add ((cg_mul _ _ _).trans (((cg_mod _ _).mul (Cg.refl _ _)).trans (Cg.of_eq (by grind)))))
  · rw [poly_zero h1, poly_zero h1]
    exact (cg_add _ _ _).trans ((Cg.refl _ _).add ((cg_mul _ _ _).trans (Cg.of_eq (by grind))))

/-! ### what is public -/
theorem pub_at {l : List (Int × Nat)} {k : Nat} {s : Int × Nat} (h : l[k]? = some s) : (pubL l)[k]? = some (s.1, powM bQ 4 s.2) := by simp [pubL, h]
theorem pick_pub {l : List (Int × Nat)} (h : 0 < l.length) (f n : Nat) : pickL (pubL l) f n = pubL (pickL l f n) := by
  unfold pickL
  rw [pubL_length]
  show _ = ((List.range n).map _).map _
  rw [List.map_map]
  refine List.map_congr_left fun i hi => ?_
  have hlt : (f + i) % l.length < l.length := Nat.mod_lt _ h
  have e := pub_at (l := l) (List.getElem?_eq_getElem hlt)
  rw [List.getD_eq_getElem?_getD, e]
  simp only [Function.comp_apply, List.getD_eq_getElem?_getD, List.getElem?_eq_getElem hlt, Option.getD_some]
theorem public_x {secret tn nn : Nat} {seed : List Nat} (h1 : 1 ≤ tn) (h2 : tn ≤ nn) (h7 : nn ≤ 7) (hs : secret < bR) (f : Nat) :
    rightB ((pickL (splitL secret tn nn seed) f tn).map fun s : Int × Nat => s.1) = true ∧ wantN ((pickL (splitL secret tn nn seed) f tn).map fun s : Int × Nat => s.1) 0 (pubL (pickL (splitL secret tn nn seed) f tn)) = powM bQ 4 secret := by
  have hl : 0 < (splitL secret tn nn seed).length := by rw [splitL_length]; omega
  have hon : ∀ s ∈ pickL (splitL secret tn nn seed) f tn, OnP (polyN secret tn seed) s := fun s hs => split_onP h7 s (mem_pick hl hs)
  have hmay : mayB (pickL (splitL secret tn nn seed) f tn) = true := may_of (by rw [pickL_length]; omega) (by rw [pickL_length]; omega) (fun s hs => (hon s hs).range) (pick_nodup split_nodup (by rw [splitL_length]; exact h2))
  refine ⟨(may_facts hmay).1, ?_⟩
  rw [want_pub, join_on hmay (poly_pd secret tn seed (by rw [pickL_length]; exact Nat.le_refl _)) (fun s hs => (hon s hs).cg) hs (Cg.of_eq (poly_zero h1).symm)]
/-- What Check says of public shares whose exponents are known. -/
theorem chk_pub {tn : Nat} {l : List (Int × Nat)} (h1 : 1 ≤ tn) (h7 : tn ≤ 7) (ht : tn ≤ l.length) (hr : rightB (l.map fun s : Int × Nat => s.1) = true) :
    chkN tn (pubL l) = if (∀ s ∈ l.drop tn, sumN ((l.take tn).map fun s : Int × Nat => s.1) s.1.toNat (l.take tn) % bR = s.2 % bR) then 0 else 60 := by
  have hid : (pubL l).map (fun s : Int × Nat => s.1) = l.map fun s : Int × Nat => s.1 := pubL_ids l
  have hall : (pubL l).all (fun s => inB s.2) = true := by
    refine List.all_eq_true.2 fun s hs => ?_
    obtain ⟨r, -, rfl⟩ := List.mem_map.1 hs
    exact inB_base _
  rw [chk_rest (by omega) (by omega) (by rw [hid]; exact hr) hall (by rw [pubL_length]; omega), Int.toNat_natCast]
  have e1 : (pubL l).take tn = pubL (l.take tn) := by unfold pubL; rw [List.map_take]
  have e2 : (pubL l).drop tn = pubL (l.drop tn) := by unfold pubL; rw [List.map_drop]
  have e3 : (pubL (l.take tn)).map (fun x : Int × Nat => x.1) = (l.take tn).map fun s : Int × Nat => s.1 := pubL_ids _
  rw [e1, e2, e3]
  have hiff : ((pubL (l.drop tn)).all fun s => decide (wantN ((l.take tn).map fun s : Int × Nat => s.1) s.1.toNat (pubL (l.take tn)) = s.2)) = true ↔ (∀ s ∈ l.drop tn, sumN ((l.take tn).map fun s : Int × Nat => s.1) s.1.toNat (l.take tn) % bR = s.2 % bR) := by
    rw [List.all_eq_true]
    constructor
    · intro h s hs
      have := h (s.1, powM bQ 4 s.2) (List.mem_map.2 ⟨s, hs, rfl⟩)
      rw [decide_eq_true_eq, want_pub] at this
      exact base_inj this
    · intro h r hr
      obtain ⟨s, hs, rfl⟩ := List.mem_map.1 hr
      rw [decide_eq_true_eq, want_pub]
      show powM bQ 4 _ = powM bQ 4 s.2
      rw [← base_period, h s hs, base_period]
  by_cases hc : (∀ s ∈ l.drop tn, sumN ((l.take tn).map fun s : Int × Nat => s.1) s.1.toNat (l.take tn) % bR = s.2 % bR)
  · rw [if_pos hc, if_pos (hiff.2 hc)]
  · rw [if_neg hc, if_neg (fun h => hc (hiff.1 h))]
theorem public_chk {secret tn nn : Nat} {seed : List Nat} (h1 : 1 ≤ tn) (h2 : tn ≤ nn) (h7 : nn ≤ 7) : chkN tn (pubL (splitL secret tn nn seed)) = 0 := by
  rw [chk_pub h1 (by omega) (by rw [splitL_length]; exact h2) (may_facts (split_may (by omega) h7)).1, if_pos]
  intro s hs
  have hon := split_onP h7 s (List.mem_of_mem_drop hs)
  rw [split_take _ _ _ _ h2, split_sum h1 (Nat.le_refl _) (by omega), hon.2]

/-! ### one that is another -/
theorem sum_parts {ids : List Int} (h : okP ids) (x : Nat) (pre post : List (Int × Nat)) : ∃ A : Int, ∀ (id : Int) (v : Nat), Cg bR (sumN ids x (pre ++ (id, v) :: post) : Nat) (A + (v : Int) * (num ids id x * vI ids id)) :=
  ⟨(pre.map fun s => (s.2 : Int) * (num ids s.1 x * vI ids s.1)).sum + (post.map fun s => (s.2 : Int) * (num ids s.1 x * vI ids s.1)).sum, fun id v => by
    refine (cg_sum h x _).trans (Cg.of_eq ?_)
    rw [List.map_append, List.sum_append, List.map_cons, List.sum_cons]
    show _ + ((v : Int) * (num ids id x * vI ids id) + _) = _
    omega⟩
theorem spoilt_plain {secret tn nn other k : Nat} {seed : List Nat} (h1 : 1 ≤ tn) (h2 : tn < nn) (h7 : nn ≤ 7) (hk : k < nn) (hne : other % bR ≠ evZ (polyN secret tn seed) (k + 1) % bR) :
    chkN tn (pubL ((splitL secret tn nn seed).set k (((k + 1 : Nat) : Int), other))) = 60 := by
  have hlen : ((splitL secret tn nn seed).set k (((k + 1 : Nat) : Int), other)).length = nn := by rw [List.length_set, splitL_length]
  have hids : ((splitL secret tn nn seed).set k (((k + 1 : Nat) : Int), other)).map (fun s : Int × Nat => s.1) = (splitL secret tn nn seed).map fun s : Int × Nat => s.1 := by
    rw [List.map_set]
    refine List.ext_getElem? fun i => ?_
    rw [List.getElem?_set]
    split
    · rename_i hi
      subst hi
      rw [List.getElem?_map, splitL_at secret tn nn seed hk]
      simp [splitL_length, hk]
    · rfl
  have hright := (may_facts (split_may (secret := secret) (tn := tn) (seed := seed) (show 1 ≤ nn by omega) h7)).1
  rw [chk_pub h1 (by omega) (by rw [hlen]; omega) (by rw [hids]; exact hright), if_neg]
  intro hall
  have hmay := split_may (secret := secret) (tn := tn) (seed := seed) h1 (show tn ≤ 7 by omega)
  have hok := ok_of_may hmay
  have hidst : (((splitL secret tn nn seed).set k (((k + 1 : Nat) : Int), other)).take tn).map (fun s : Int × Nat => s.1) = (splitL secret tn tn seed).map fun s : Int × Nat => s.1 := by
    rw [List.map_take, hids, ← List.map_take, split_take _ _ _ _ (by omega)]
  rw [hidst] at hall
  rcases Nat.lt_or_ge k tn with hlt | hge
  · -- a share among the first: the next one does not fit
    have htk : ((splitL secret tn nn seed).set k (((k + 1 : Nat) : Int), other)).take tn = (splitL secret tn tn seed).set k (((k + 1 : Nat) : Int), other) := by
      rw [List.take_set, split_take _ _ _ _ (by omega)]
    rw [htk] at hall
    have hmem : (((tn + 1 : Nat) : Int), evZ (polyN secret tn seed) (tn + 1) % bR) ∈ ((splitL secret tn nn seed).set k (((k + 1 : Nat) : Int), other)).drop tn := by
      refine List.mem_of_getElem? (i := 0) ?_
      rw [List.getElem?_drop, List.getElem?_set, if_neg (by omega)]
      exact splitL_at secret tn nn seed h2
    have h := hall _ hmem
    rw [Int.toNat_natCast, Nat.mod_mod] at h
    have hsum := split_sum (secret := secret) (seed := seed) h1 (Nat.le_refl tn) (by omega) (tn + 1)
    -- the list, parted at k
    have hat := splitL_at secret tn tn seed hlt
    obtain ⟨pre, post, hpp⟩ : ∃ pre post, splitL secret tn tn seed = pre ++ (((k + 1 : Nat) : Int), evZ (polyN secret tn seed) (k + 1) % bR) :: post ∧ pre.length = k := by
      refine ⟨(splitL secret tn tn seed).take k, (splitL secret tn tn seed).drop (k + 1), ?_, by rw [List.length_take, splitL_length]; omega⟩
      have hkl : k < (splitL secret tn tn seed).length := by rw [splitL_length]; exact hlt
      have hg : (splitL secret tn tn seed)[k] = (((k + 1 : Nat) : Int), evZ (polyN secret tn seed) (k + 1) % bR) := by
        have := List.getElem?_eq_getElem hkl
        rw [hat] at this
        exact (Option.some.inj this).symm
      conv => lhs; rw [← List.take_append_drop k (splitL secret tn tn seed), List.drop_eq_getElem_cons hkl, hg]
    obtain ⟨hpp, hpl⟩ := hpp
    have hset : (splitL secret tn tn seed).set k (((k + 1 : Nat) : Int), other) = pre ++ (((k + 1 : Nat) : Int), other) :: post := by
      rw [hpp, List.set_append_right _ _ (by omega), hpl, Nat.sub_self, List.set_cons_zero]
    obtain ⟨ids, hid⟩ : ∃ i, i = (splitL secret tn tn seed).map fun s : Int × Nat => s.1 := ⟨_, rfl⟩
    rw [← hid] at h hsum hok
    obtain ⟨S, hS⟩ := sum_parts hok (tn + 1) pre post
    have c1 := hS ((k + 1 : Nat) : Int) (evZ (polyN secret tn seed) (k + 1) % bR)
    rw [← hpp, hsum] at c1
    have c2 := hS ((k + 1 : Nat) : Int) other
    rw [← hset] at c2
    have c3 := cg_of_mod (m := bR) (a := sumN ids (tn + 1) ((splitL secret tn tn seed).set k (((k + 1 : Nat) : Int), other))) (b := evZ (polyN secret tn seed) (tn + 1) % bR) (by rw [h, Nat.mod_mod])
    have c4 := (c2.symm.trans c3).trans c1
    have hmi : ((k + 1 : Nat) : Int) ∈ ids := by rw [hid]; exact List.mem_map.2 ⟨_, split_mem secret tn seed hlt, rfl⟩
    have hin : ∀ j ∈ ids, 1 ≤ j ∧ j ≤ tn := fun j hj => by
      rw [hid, split_ids] at hj
      obtain ⟨i, hi, rfl⟩ := List.mem_map.1 hj
      rw [List.mem_range] at hi
      omega
    have hw := at_ne hok hmi (x := tn + 1) fun j hj hne => ncg_of_ne (by omega) (by have := hin j hj; omega) (by have := hin j hj; omega)
    have hW := cg_at hok ((k + 1 : Nat) : Int) (tn + 1)
    obtain ⟨W, hWd⟩ : ∃ W, W = num ids ((k + 1 : Nat) : Int) ((tn + 1 : Nat) : Int) * vI ids ((k + 1 : Nat) : Int) := ⟨_, rfl⟩
    rw [← hWd] at c4 hW
    have c5 : ((bR : Nat) : Int) ∣ ((other : Int) - (evZ (polyN secret tn seed) (k + 1) % bR : Nat)) * W := by
      obtain ⟨q, hq⟩ := c4
      exact ⟨q, by grind⟩
    rcases pz_R _ _ c5 with hd | hd
    · exact hne ((mod_of_cg (by decide) (show Cg bR (other : Int) ((evZ (polyN secret tn seed) (k + 1) % bR : Nat) : Int) from hd)).trans (Nat.mod_mod _ _))
    · refine hw ?_
      have : Cg bR (W : Int) 0 := by unfold Cg; rwa [Int.sub_zero]
      have := mod_of_cg (m := bR) (a := atN ids ((k + 1 : Nat) : Int) (tn + 1)) (b := 0) (by decide) (hW.trans this)
      rw [this]; rfl
  · -- a share behind them
    have htk : ((splitL secret tn nn seed).set k (((k + 1 : Nat) : Int), other)).take tn = splitL secret tn tn seed := by
      rw [List.take_set_of_le hge, split_take _ _ _ _ (by omega)]
    rw [htk] at hall
    have hmem : (((k + 1 : Nat) : Int), other) ∈ ((splitL secret tn nn seed).set k (((k + 1 : Nat) : Int), other)).drop tn := by
      refine List.mem_of_getElem? (i := k - tn) ?_
      rw [List.getElem?_drop, show tn + (k - tn) = k by omega, List.getElem?_set, if_pos rfl, if_pos (by rw [splitL_length]; exact hk)]
    have h := hall _ hmem
    rw [Int.toNat_natCast, split_sum h1 (Nat.le_refl tn) (by omega), Nat.mod_mod] at h
    exact hne h.symm
theorem set_self {l : List (Int × Nat)} {k : Nat} {s : Int × Nat} (h : l[k]? = some s) : l.set k s = l := by
  refine List.ext_getElem? fun i => ?_
  rw [List.getElem?_set]
  split
  · rename_i hi
    subst hi
    rw [if_pos (List.getElem?_eq_some_iff.1 h).1, h]
  · rfl
theorem pub_set (l : List (Int × Nat)) (k : Nat) (id : Int) (v : Nat) : (pubL l).set k (id, powM bQ 4 v) = pubL (l.set k (id, v)) := by
  unfold pubL; rw [List.map_set]

/-! ### weights of all together -/
def onesL (ids : List Int) (x : Nat) : List (Int × Nat) := ids.map fun i => (i, x)
theorem ones_ids (ids : List Int) (x : Nat) : (onesL ids x).map (fun s : Int × Nat => s.1) = ids := by
  unfold onesL; rw [List.map_map]; exact List.map_id _
theorem ones_length (ids : List Int) (x : Nat) : (onesL ids x).length = ids.length := by simp [onesL]
theorem ones_may {ids : List Int} {x : Nat} (h : rightB ids = true) (hx : x < bR) : mayB (onesL ids x) = true := by
  rw [mayB_eq, ones_ids, h, Bool.and_true]
  refine List.all_eq_true.2 fun s hs => ?_
  obtain ⟨i, -, rfl⟩ := List.mem_map.1 hs
  simpa using hx
theorem ones_join {ids : List Int} {x : Nat} (h : rightB ids = true) (hx : x < bR) : joinR (onesL ids x) = .tuple #[.int .u64 (x : Int), .int .i64 0] := by
  have hl := ((rightB_iff ids).1 h).2.1
  refine joinR_on (P := fun _ => (x : Int)) (ones_may h hx) ((Pd.const _ _).le (by rw [ones_length]; omega)) ?_ hx (Cg.refl _ _)
  intro s hs
  obtain ⟨i, -, rfl⟩ := List.mem_map.1 hs
  exact Cg.refl _ _
theorem ones_high {ids : List Int} {x : Nat} (h : 0 < ids.length) (hx : bR ≤ x) : joinR (onesL ids x) = .tuple #[.int .u64 0, .int .i64 1] := by
  refine joinR_bad (by rw [ones_length]; omega) ?_
  rw [mayB_eq]
  have : lowB (onesL ids x) = false := by
    obtain ⟨i, hi⟩ : ∃ i, ids[0]? = some i := ⟨_, List.getElem?_eq_getElem h⟩
    exact lowB_not (s := (i, x)) (List.mem_map.2 ⟨i, List.mem_of_getElem? hi, rfl⟩) hx
  rw [this]; rfl
/-- The sum of the first weights. -/
def wsum (ids : List Int) (j : Nat) : Nat := sumN ids 0 (onesL (ids.take j) 1)
theorem wsum_succ {ids : List Int} {j : Nat} {i : Int} (h : ids[j]? = some i) : addM bR (wsum ids j) (atN ids i 0) = wsum ids (j + 1) := by
  unfold wsum
  have e : onesL (ids.take (j + 1)) 1 = onesL (ids.take j) 1 ++ [(i, 1)] := by rw [List.take_add_one, h]; simp [onesL]
  rw [e, sumN_snoc]
  congr 1
  unfold mulM
  rw [Nat.one_mul, Nat.mod_eq_of_lt (atN_lt _ _ _)]
theorem wsum_all {ids : List Int} (h : rightB ids = true) : wsum ids ids.length = 1 := by
  unfold wsum
  rw [List.take_length]
  have := join_on (L := onesL ids 1) (ones_may h (by decide)) (P := fun _ => 1) ((Pd.const _ _).le (by have := ((rightB_iff ids).1 h).2.1; rw [ones_length]; omega)) (fun s hs => by
    obtain ⟨i, -, rfl⟩ := List.mem_map.1 hs
    exact Cg.refl _ _) (v := 1) (by decide) (Cg.refl _ _)
  rw [ones_ids] at this
  exact this
theorem wgt_ok {ids : List Int} (h : rightB ids = true) {i : Int} (hi : i ∈ ids) : wgtR ids i = .tuple #[.int .u64 (atN ids i 0 : Nat), .int .i64 0] := by
  unfold wgtR wgtV wgtE; rw [if_pos ⟨h, hi⟩, if_pos ⟨h, hi⟩]; rfl
theorem wgt_bad {ids : List Int} (h : rightB ids = false) (i : Int) : wgtR ids i = .tuple #[.int .u64 0, .int .i64 1] := by
  have hc : ¬ (rightB ids = true ∧ i ∈ ids) := fun ⟨h1, _⟩ => by rw [h] at h1; cases h1
  unfold wgtR wgtV wgtE; rw [if_neg hc, if_neg hc]; rfl
/-- Of ids that are not right: the first one alone. -/
theorem ones_first {ids : List Int} (h : rightB ids = false) {i : Int} (hi : ids[0]? = some i) (x : Nat) : joinR [(i, x)] = .tuple #[.int .u64 0, .int .i64 1] ∨ (1 < ids.length ∧ joinR [(i, x)] = .tuple #[.int .u64 (x : Int), .int .i64 0]) := by
  have e : [(i, x)] = onesL [i] x := rfl
  rcases Nat.lt_or_ge x bR with hx | hx
  · cases hr : rightB [i] with
    | true =>
      right
      refine ⟨?_, by rw [e]; exact ones_join hr hx⟩
      rcases Nat.lt_or_ge 1 ids.length with h1 | h1
      · exact h1
      · have hl : ids = [i] := by
          match ids, hi, h1 with
          | [a], hi, _ => simp at hi; rw [hi]
        rw [hl, hr] at h
        cases h
    | false =>
      left
      refine joinR_bad (by simp) ?_
      rw [mayB_eq]
      show (lowB _ && rightB [i]) = false
      rw [hr]; simp
  · left
    rw [e]; exact ones_high (by simp) hx
end Go.Proofs.Ytaibpldolbemfaa

/- Shares, walked: the chapter's examples (greatseallaw05.live). -/
namespace Go.Proofs.Ytaibpldolbemfaa
set_option linter.unusedVariables false
open Go.RowKit Go.Shelf Go.Maps

theorem at_calc1 : atN [1, 2] 1 0 = 2 := by
  unfold atN
  rw [List.foldl_cons, List.foldl_cons, List.foldl_nil, if_pos rfl, if_neg (by decide), invM_eq bR _ (by decide)]; decide +kernel
theorem at_calc2 : atN [1, 2] 2 0 = 1152921504606845788 := by
  unfold atN
  rw [List.foldl_cons, List.foldl_cons, List.foldl_nil, if_pos rfl, if_neg (by decide), invM_eq bR _ (by decide)]; decide +kernel
theorem live_w1 : wgtR [1, 2] 1 = .tuple #[.int .u64 2, .int .i64 0] := by
  unfold wgtR wgtV wgtE; rw [if_pos (by decide), if_pos (by decide), at_calc1]; rfl
theorem live_w2 : wgtR [1, 2] 2 = .tuple #[.int .u64 1152921504606845788, .int .i64 0] := by
  unfold wgtR wgtV wgtE; rw [if_pos (by decide), if_pos (by decide), at_calc2]; rfl
theorem live_j : joinR [(1, 5), (2, 7)] = .tuple #[.int .u64 3, .int .i64 0] := by
  rw [joinR_ok (by decide) (by decide)]
  show Value.tuple #[.int .u64 ((sumN [1, 2] 0 [(1, 5), (2, 7)] : Nat) : Int), .int .i64 0] = _
  unfold sumN
  rw [List.foldl_cons, List.foldl_cons, List.foldl_nil]
  show Value.tuple #[.int .u64 ((addM bR (addM bR 0 (mulM bR 5 (atN [1, 2] 1 0))) (mulM bR 7 (atN [1, 2] 2 0)) : Nat) : Int), .int .i64 0] = _
  rw [at_calc1, at_calc2]; rfl
theorem live_s : spO 9 1 2 [] = [(1, 9), (2, 9)] := by
  have h : spB 9 1 2 = true := by decide
  unfold spO
  rw [if_pos h]
  simp [splitL, polyN, evZ, bR, List.range_succ]
theorem live_se : spE 9 1 2 = 0 := by decide
theorem live_p : pubO [(1, 3)] = [(1, 64)] := by
  have h : mayB [(1, 3)] = true := by decide
  unfold pubO pubL; rw [if_pos h]; rfl
theorem live_pe : pubE [(1, 3)] = 0 := by decide
theorem in_64 : inB 64 = true := inB_base 3
theorem live_c1 : chkN 1 [(1, 64)] = 0 := by
  have e := chk_rest (t := 1) (l := [(1, 64)]) (by decide) (by decide) (by decide) (by simp [in_64]) (by decide)
  rw [e]; rfl
theorem live_c2 : chkN 2 [(1, 64)] = 50 := chk_few (t := 2) (l := [(1, 64)]) (by decide) (by decide) (.inr (by decide)) (by simp [in_64]) (by decide)
theorem ids_new (W : World) (T : TypeId) (a b : Int) : Reads (W.alloc (.cells #[.int .i64 a, .int .i64 b] T)) (W.alloc (.cells #[.int .i64 a, .int .i64 b] T)).heap.size 1 (some ⟨W.heap.size, 0, none⟩) 2 (iv [a, b]) := blk_reads (Blk.new W T #[.int .i64 a, .int .i64 b])
theorem shares_new (W : World) (T : TypeId) (l : List (Int × Nat)) : Reads (W.alloc (.cells (sv l).toArray T)) (W.alloc (.cells (sv l).toArray T)).heap.size 2 (some ⟨W.heap.size, 0, none⟩) l.length (sv l) := blk_reads2 (Blk.new W T _)

theorem add_two_eq (a : Addr) : a.add 2 = ⟨a.block, a.off + 2, none⟩ := by unfold Addr.add; simp
set_option maxRecDepth 100000 in
set_option maxHeartbeats 4000000 in
theorem live5_any (w : World) : Calls Try.prog 12 #[] w fun e w' => e = .returned (.bool true) ∧ Ext w w' := by
  have c1 := fun W => Split_any 9 1 2 [] (by simp) (by simp) none 0 (Nat.le_refl _) W Reads.none_
  rw [live_s, live_se] at c1
  have c2 := fun (W : World) T => Weight_any [1, 2] (by decide) 1 _ 2 (by decide) _ (ids_new W T 1 2)
  rw [live_w1] at c2
  have c3 := fun (W : World) T => Weight_any [1, 2] (by decide) 2 _ 2 (by decide) _ (ids_new W T 1 2)
  rw [live_w2] at c3
  have c4 := fun (W : World) T => Join_any [(1, 5), (2, 7)] (by unfold idsWf; decide) _ 2 (by decide) _ (shares_new W T [(1, 5), (2, 7)])
  rw [live_j] at c4
  have c5 := fun (W : World) T => shPublic_any [(1, 3)] (by unfold idsWf; decide) (by decide) _ 1 (by decide) _ (shares_new W T [(1, 3)])
  rw [live_p, live_pe] at c5
  have c6 := fun (W : World) => Join_any [] (by unfold idsWf; decide) none 0 (by decide) W Reads.none_
  rw [joinR_none] at c6
  have c7 := fun (W : World) A c hc hr => Check_any 1 [(1, 64)] (by unfold idsWf; decide) (by decide) A c hc (by decide) W hr
  rw [live_c1] at c7
  have c8 := fun (W : World) A c hc hr => Check_any 2 [(1, 64)] (by unfold idsWf; decide) (by decide) A c hc (by decide) W hr
  rw [live_c2] at c8
  simp only [Int.cast_ofNat_Int, List.length_cons, List.length_nil, Nat.reduceAdd, Nat.zero_add] at c1 c2 c3 c4 c5 c6 c7 c8
  have s4 : (sv [(1, 5), (2, 7)]).toArray = #[.int .i64 1, .int .u64 5, .int .i64 2, .int .u64 7] := rfl
  have s5 : (sv [(1, 3)]).toArray = #[.int .i64 1, .int .u64 3] := rfl
  rw [s4] at c4
  rw [s5] at c5
  clear s4 s5
  have x0 := Ext.refl w
  have hse := eqSh
  go_enter Try.func12, Try.ntmps12
  go_wp2_with (first
    | (go_at_call 13; refine (c1 _).mono ?_; clear c1; rintro e w1 ⟨A1, k1, rfl, hk1, r1, x1⟩; obtain ⟨ad1, rfl, -, -, -⟩ := reads_share r1 (k := 0) rfl)
    | (go_at_call 20; refine (c2 _ _).mono ?_; clear c2; rintro e w2 ⟨rfl, x2⟩)
    | (go_at_call 20; refine (c3 _ _).mono ?_; clear c3; rintro e w3 ⟨rfl, x3⟩)
    | (go_at_call 18; refine (c4 _ _).mono ?_; clear c4; rintro e w4 ⟨rfl, x4⟩)
    | (go_at_call 15; refine (c5 _ _).mono ?_; clear c5; rintro e w5 ⟨A5, k5, rfl, hk5, r5, x5, -⟩; obtain ⟨ad5, rfl, -, -, -⟩ := reads_share r5 (k := 0) rfl)
    | (go_at_call 18; refine (c6 _).mono ?_; clear c6; rintro e w6 ⟨rfl, x6⟩; have z6 := Lib.hid (((((((Ext.refl w1).alloc _).trans x2).alloc _).trans x3).alloc _).trans x4 |>.alloc _ |>.trans x5 |>.trans x6); have R1 := Lib.hid (r1.below z6.out.out); have R5 := Lib.hid (r5.below x6.out); obtain ⟨_, e', -, q0, q1⟩ := reads_share R1.out (k := 0) rfl; cases e'; obtain ⟨_, e', -, q2, q3⟩ := reads_share R1.out (k := 1) rfl; cases e'; obtain ⟨_, e', -, q4, q5⟩ := reads_share R5.out (k := 0) rfl; cases e'; simp only [Nat.zero_mul, add_zero', Nat.one_mul, add_two_eq, Int.cast_ofNat_Int] at q0 q1 q2 q3 q4 q5; have y7 := Lib.hid (x1.trans z6.out))
    | (go_at_call 22; refine (c7 _ _ _ hk5 (R5.out.more x6.size)).mono ?_; clear c7; rintro e w7 ⟨rfl, x7⟩)
    | (go_at_call 22; refine (c8 _ _ _ hk5 ((R5.out.below (x7.out.mono x6.size)).more (Nat.le_trans x6.size x7.size))).mono ?_; clear c8; rintro e w8 ⟨rfl, x8⟩))
  go_ret
  exact ⟨rfl, (y7.out.trans x7).trans x8⟩
end Go.Proofs.Ytaibpldolbemfaa

/- Statements of shares, walked: some; ShareBack. -/
namespace Go.Proofs.Ytaibpldolbemfaa
set_option linter.unusedVariables false
open Go.RowKit Go.Shelf Go.Maps
attribute [local irreducible] atN prodN sumN wantN mix hSum hNum coefN evZ spO spE pubO pubE joinR wgtR chkN splitL

theorem own_new2 (w : World) (base g : Nat) (hg : g = w.heap.size) (hb : base ≤ g) (e : TypeId) (x y : Value) : (w.alloc (.cells #[x, y] e)).ownsRow base e 2 (.slice (some ⟨g, 0, none⟩) 1 1) 1 [x, y] := by
  subst hg
  exact ⟨rfl, .inr ⟨w.heap.size, 1, #[x, y], rfl, hb, heap_alloc_new w _, Nat.le_refl _, by simp [maxLen], rfl, rfl⟩⟩

set_option maxRecDepth 100000 in
set_option maxHeartbeats 2000000 in
theorem some5_any (l : List (Int × Nat)) (h0 : 0 < l.length) (h7 : l.length ≤ 7) (f n : Nat) (hf : f ≤ 255) (hn : n ≤ 7) (turned : Bool) (A : Option Addr) (c : Nat) (w : World) (hr : Reads w w.heap.size 2 A l.length (sv l)) :
    Calls Try.prog 24 #[.slice A l.length c, .int .i64 (f : Int), .int .i64 (n : Int), .bool turned] w fun e w' => ∃ A' c', e = .returned (.slice A' n c') ∧ n ≤ c' ∧ Reads w' w'.heap.size 2 A' n (sv (someL l f n turned)) ∧ Ext w w' := by
  obtain ⟨i1, hi1, hz3, hz4, hz5⟩ := info_parts Try.infoSh
  have hr0 : Hid (Reads w w.heap.size 2 A l.length (sv l)) := Lib.hid hr
  have H0 := Lib.hid h0
  have H7 := Lib.hid h7
  have hl0 : (0 : Int) < (l.length : Int) := by omega
  have hl7 : (l.length : Int) ≤ 7 := by omega
  have hfI : (f : Int) ≤ 255 := by omega
  have hnI : (n : Int) ≤ 7 := by omega
  clear hr h0 h7
  go_enter Try.func24, Try.ntmps24
  go_wp2
  go_loopg [9, 10] n (fun m s9 s10 wr => ∃ j : Nat, j + m = n ∧ s10 = .int .i64 j ∧ wr.ownsRow w.heap.size 43 2 s9 j (sv (someL l f j turned)) ∧ Ext w wr)
  case atStart =>
    have e : someL l f 0 turned = [] := by unfold someL pickL; split <;> rfl
    exact ⟨0, by omega, rfl, by rw [e]; exact own_empty w _ _ rfl (Nat.le_refl _) _ _, (Ext.refl w).alloc _⟩
  case round =>
    obtain ⟨j, hj, rfl, hown, hx⟩ := hrel
    by_cases h : j < n
    · have hjn : (j : Int) < n := by omega
      obtain ⟨q, hq⟩ : ∃ q, q = (f + j) % l.length := ⟨_, rfl⟩
      have hql : q < l.length := by rw [hq]; exact Nat.mod_lt _ H0.out
      have kq : ((f : Int) + (j : Int)).tmod (l.length : Int) = (q : Int) := by
        rw [Int.tmod_eq_emod_of_nonneg (by omega), hq]; push_cast; rfl
      have hqI : (q : Int) < l.length := by omega
      obtain ⟨s, hs⟩ : ∃ s, l[q]? = some s := ⟨_, List.getElem?_eq_getElem hql⟩
      obtain ⟨ad, rfl, hlt, q0, q1⟩ := reads_share (hr0.out.below hx.out) hs
      have hg : l.getD ((f + j) % l.length) (0, 0) = s := by rw [← hq, List.getD_eq_getElem?_getD, hs]; rfl
      have hsl := someL_length l f j turned
      have hse : sv [s] = [.int .i64 s.1, .int .u64 (s.2 : Int)] := rfl
      have HX := Lib.hid hx
      have HJ := Lib.hid hj
      have HG := Lib.hid hg
      have HSL := Lib.hid hsl
      cases turned with
      | false =>
        clear hx hj hs hq hql hg hsl
        go_wp2_with (at_builtin; refine wpList_append_own _ rfl (.tmp 37) (.tmp 39) 24 rfl w.heap.size 43 i1 (.agg #[.int .i64 0, .int .u64 0]) 2 16 Try.underlying24 hi1 hz3 hz4 hz5 rfl (by decide) _ _ _ rfl ((hown.alloc _).alloc _) ⟨wr.heap.size + 1, 0, none⟩ 1 1 [.int .i64 s.1, .int .u64 (s.2 : Int)] rfl rfl (by have := cell_two_new (wr.alloc (.cells #[.int .i64 s.1, .int .u64 (s.2 : Int)] 43)) (.int .i64 s.1) (.int .u64 (s.2 : Int)) 43; rw [World.size_alloc] at this; exact this) (by simp [Value.oneCell']) (by simp only [maxLen]; omega) (by omega) (by have := HX.out.size; simp; omega) ?_; intro v4 w4 hown4 hg4 _)
        have X4 := ext_grown ((HX.out.alloc _).alloc _) ((hown.alloc _).alloc _) hg4
        have O4 : Hid (w4.ownsRow w.heap.size 43 2 v4 (j + 1) (sv (someL l f (j + 1) false))) := by
          show World.ownsRow _ _ _ _ _ _ _
          rw [someL_succ_f, HG.out, sv_append, hse]
          exact hown4
        clear hown4 hg4 hown
        have hj := HJ.out
        go_wp2
        go_roundg (gk - 1)
        case measure => omega
        case rel => exact ⟨j + 1, by omega, int_congr (by omega), O4.out, X4⟩
      | true =>
        obtain ⟨A', c', rfl, hc', hr'⟩ := own_slice2 hown
        have HR' := Lib.hid hr'
        clear hx hj hs hq hql hg hsl hr'
        go_wp2_with (at_builtin; refine wpList_append_any _ rfl (.tmp 34) (.tmp 35) 24 rfl w.heap.size 43 i1 (.agg #[.int .i64 0, .int .u64 0]) 2 16 Try.underlying24 hi1 hz3 hz4 hz5 rfl (by decide) _ _ _ rfl (own_new2 (wr.alloc (.cells #[.int .i64 s.1, .int .u64 (s.2 : Int)] 43)) w.heap.size (wr.heap.size + 1) (by simp) (by have := HX.out.size; omega) _ _ _) wr.heap.size A' j c' (sv (someL l f j true)) rfl ((HR'.out.alloc (Nat.le_refl _) _).alloc (by simp) _) (sv_one _) (by simp only [maxLen]; omega) (by omega) (by have := HX.out.size; simp; omega) ?_; intro v4 w4 hown4 hg4 _)
        have X4 := ext_grown ((HX.out.alloc _).alloc _) (own_new2 (wr.alloc (.cells #[.int .i64 s.1, .int .u64 (s.2 : Int)] 43)) w.heap.size (wr.heap.size + 1) (by simp) (by have := HX.out.size; omega) _ _ _) hg4
        have O4 : Hid (w4.ownsRow w.heap.size 43 2 v4 (j + 1) (sv (someL l f (j + 1) true))) := by
          show World.ownsRow _ _ _ _ _ _ _
          rw [someL_succ_t, HG.out, Nat.add_comm j 1]
          exact hown4
        clear hown4 hg4 hown
        have hj := HJ.out
        go_wp2
        go_roundg (gk - 1)
        case measure => omega
        case rel => exact ⟨j + 1, by omega, int_congr (by omega), O4.out, X4⟩
    · have hjn : ¬ (j : Int) < n := by omega
      obtain rfl : j = n := by omega
      obtain ⟨A', c', rfl, hc', hr'⟩ := own_slice2 hown
      have HR := Lib.hid hr'
      have HX := Lib.hid hx
      clear hr' hx hown hj h
      go_wp2
      go_ret
      exact ⟨A', c', rfl, hc', HR.out, HX.out⟩
end Go.Proofs.Ytaibpldolbemfaa

/- Statements of shares, walked: ShareBack. -/
namespace Go.Proofs.Ytaibpldolbemfaa
set_option linter.unusedVariables false
open Go.RowKit Go.Shelf Go.Maps
attribute [local irreducible] atN prodN sumN wantN mix hSum hNum coefN evZ pubO pubE joinR wgtR chkN splitL

theorem u8_of_wf {a : Int} (h : (Lit.int .u8 a).wf = true) : ∃ n : Nat, a = n ∧ n ≤ 255 := by
  simp [Lit.wf, IntKind.min, IntKind.max, IntKind.signed, IntKind.bits] at h
  exact ⟨a.toNat, by omega, by omega⟩
/-- The shares of a secret, or none. -/
theorem split_cases (secret : Nat) (t n : Int) (seed : List Nat) : (spO secret t n seed = [] ∧ spE secret t n = 1) ∨ ∃ tn nn : Nat, t = tn ∧ n = nn ∧ 1 ≤ tn ∧ tn ≤ nn ∧ nn ≤ 7 ∧ secret < bR ∧ spO secret t n seed = splitL secret tn nn seed ∧ spE secret t n = 0 := by
  cases hb : spB secret t n with
  | false => left; unfold spO spE; rw [hb]; exact ⟨rfl, rfl⟩
  | true =>
    right
    obtain ⟨h1, h2, h3, h4⟩ := of_decide_eq_true hb
    refine ⟨t.toNat, n.toNat, by omega, by omega, by omega, by omega, by omega, h4, ?_, ?_⟩
    · unfold spO; rw [hb]; rfl
    · unfold spE; rw [hb]; rfl

set_option maxRecDepth 100000 in
set_option maxHeartbeats 2000000 in
theorem walk_ShareBack (secret : Nat) (t n : Int) (A : Option Addr) (c : Nat) (seed : List Nat) (fr mo : Int) (turned : Bool) (hs : secret < 18446744073709551616) (ht : (Lit.int .i64 t).wf = true) (hn : (Lit.int .i64 n).wf = true) (hc : seed.length ≤ c) (hcr : c ≤ 140737488351232) (hseed : ∀ x ∈ seed, x < 256) (hfr : (Lit.int .u8 fr).wf = true) (hmo : (Lit.int .u8 mo).wf = true) (w : World) (hr : Reads w w.heap.size 1 A seed.length (bv seed)) :
    Calls Try.prog 6 #[.int .u64 secret, .int .i64 t, .int .i64 n, .slice A seed.length c, .int .u8 fr, .int .u8 mo, .bool turned] w fun e w' => e = .returned (.bool true) ∧ Ext w w' := by
  have cl := fun W => live5_any W
  by_cases h : seed.length ≤ 300
  · have k1 : ¬ (300 : Int) < (seed.length : Int) := by omega
    have c1 := fun (W : World) (x : Ext w W) => Split_any secret t n seed hseed (by omega) A c hc W ((hr.below x.out).more x.size)
    rcases split_cases secret t n seed with ⟨e1, e2⟩ | ⟨tn, nn, rfl, rfl, h1, h2, h3, h4, e1, e2⟩
    · rw [e1, e2] at c1
      clear hr hc hcr hseed h e1 e2 hs ht hn hfr hmo
      go_enter Try.func6, Try.ntmps6
      go_wp2_with (first
        | (go_at_call 12; refine (cl _).mono ?_; clear cl; rintro e w1 ⟨rfl, x1⟩)
        | (go_at_call 13; refine (c1 _ x1).mono ?_; clear c1; rintro e w2 ⟨A2, d2, rfl, -, r2, x2⟩; have y2 := x1.trans x2))
      go_ret
      exact ⟨rfl, y2⟩
    · rw [e1, e2, splitL_length] at c1
      obtain ⟨f, rfl, hf⟩ := u8_of_wf hfr
      obtain ⟨m, rfl, hm⟩ := u8_of_wf hmo
      obtain ⟨r, hr'⟩ : ∃ r, r = m % (nn - tn + 1) := ⟨_, rfl⟩
      have hrl : r < nn - tn + 1 := by rw [hr']; exact Nat.mod_lt _ (by omega)
      have kr : (m : Int).tmod ((nn : Int) - (tn : Int) + 1) = (r : Int) := by
        rw [Int.tmod_eq_emod_of_nonneg (by omega), hr', show ((nn : Int) - (tn : Int) + 1) = ((nn - tn + 1 : Nat) : Int) by omega]; rfl
      have cs := fun A c (W : World) (hq : Reads W W.heap.size 2 A nn (sv (splitL secret tn nn seed))) => some5_any (splitL secret tn nn seed) (by rw [splitL_length]; omega) (by rw [splitL_length]; omega) f (tn + r) hf (by omega) turned A c W (by rw [splitL_length]; exact hq)
      rw [splitL_length, Int.natCast_add] at cs
      have hpl := back_plain (seed := seed) h1 h2 h3 h4 f (tn + r) turned (by omega) (by omega)
      have hln := someL_length (splitL secret tn nn seed) f (tn + r) turned
      have hw : idsWf (someL (splitL secret tn nn seed) f (tn + r) turned) := by
        intro i hi
        obtain ⟨s, hs, rfl⟩ := List.mem_map.1 hi
        have := (split_onP (secret := secret) (tn := tn) (seed := seed) h3 s (mem_some (by rw [splitL_length]; omega) hs)).1
        simp [Lit.wf, IntKind.min, IntKind.max, IntKind.signed, IntKind.bits]; omega
      have cj := fun A c (W : World) hq => Join_any (someL (splitL secret tn nn seed) f (tn + r) turned) hw A c (by rw [hln]; omega) W hq
      rw [hpl, hln] at cj
      have n1 : ((nn : Int) != (nn : Int)) = false := by simp
      have t1 : ¬ (tn : Int) < 1 := by omega
      have t2 : ¬ (nn : Int) < (tn : Int) := by omega
      have t3 : (nn : Int) ≤ 7 := by omega
      have t4 : (m : Int) ≤ 255 := by omega
      have t5 : (f : Int) ≤ 255 := by omega
      have t6 : (r : Int) ≤ (nn : Int) - tn := by omega
      clear hr hc hcr hseed h e1 e2 hs ht hn hfr hmo hpl hln hw hr' hrl h1 h2 h3 h4 hf hm
      go_enter Try.func6, Try.ntmps6
      go_wp2_with (first
        | (go_at_call 12; refine (cl _).mono ?_; clear cl; rintro e w1 ⟨rfl, x1⟩)
        | (go_at_call 13; refine (c1 _ x1).mono ?_; clear c1; rintro e w2 ⟨A2, d2, rfl, -, r2, x2⟩; have y2 := x1.trans x2)
        | (go_at_call 24; refine (cs _ _ _ r2).mono ?_; clear cs; rintro e w3 ⟨A3, d3, rfl, -, r3, x3⟩; have y3 := y2.trans x3)
        | (go_at_call 18; refine (cj _ _ _ r3).mono ?_; clear cj; rintro e w4 ⟨rfl, x4⟩; have y4 := y3.trans x4))
      go_ret
      exact ⟨rfl, y4⟩
  · have k1 : (300 : Int) < (seed.length : Int) := by omega
    clear hr hc hcr hseed h hs ht hn hfr hmo
    go_enter Try.func6, Try.ntmps6
    go_wp2_with (go_at_call 12; refine (cl _).mono ?_; clear cl; rintro e w1 ⟨rfl, x1⟩)
    go_ret
    exact ⟨rfl, x1⟩
end Go.Proofs.Ytaibpldolbemfaa

/- Statements of shares, walked: ShareHides. -/
namespace Go.Proofs.Ytaibpldolbemfaa
set_option linter.unusedVariables false
open Go.RowKit Go.Shelf Go.Maps
attribute [local irreducible] atN prodN sumN wantN mix hSum hNum coefN evZ pubO pubE joinR wgtR chkN splitL

theorem sv_set_last (l : List (Int × Nat)) (k : Nat) (hl : l.length = k) (x : Int) (u v : Nat) : (sv (l ++ [(x, u)])).set (k * 2 + 1) (.int .u64 (v : Int)) = sv (l ++ [(x, v)]) := by
  rw [sv_append, sv_append, List.set_append_right _ _ (by rw [sv_length, hl]; omega), sv_length, hl, show k * 2 + 1 - k * 2 = 1 by omega]
  rfl
theorem own_cells2 {w : World} {base g n cap : Nat} {e : TypeId} {l : List (Int × Nat)} (h : w.ownsRow base e 2 (.slice (some ⟨g, 0, none⟩) n cap) n (sv l)) {k : Nat} {s : Int × Nat} (hs : l[k]? = some s) :
    w.cell? ⟨g, k * 2, none⟩ = some (.int .i64 s.1) ∧ w.cell? ⟨g, k * 2 + 1, none⟩ = some (.int .u64 (s.2 : Int)) := by
  have e1 : ∀ j, (Addr.mk g 0 none).add j = ⟨g, j, none⟩ := fun j => by
    unfold Addr.add
    split <;> simp_all
  have h0 := h.cells (g := g) rfl (k * 2) _ (sv_at hs).1
  have h1 := h.cells (g := g) rfl (k * 2 + 1) _ (sv_at hs).2
  rw [e1] at h0 h1
  exact ⟨h0, h1⟩
theorem own_reads2 {w : World} {base n cap size : Nat} {A : Option Addr} {e : TypeId} {xs : List Value} (h : w.ownsRow base e size (.slice A n cap) n xs) : n ≤ cap ∧ Reads w w.heap.size size A n xs := by
  obtain ⟨A', c', e1, h1, h2⟩ := own_slice2 h
  injection e1 with e2 e3 e4
  subst e2; subst e4
  exact ⟨h1, h2⟩

set_option maxRecDepth 100000 in
set_option maxHeartbeats 4000000 in
theorem walk_ShareHides (secret other : Nat) (t n : Int) (A : Option Addr) (c : Nat) (seed : List Nat) (hs : secret < 18446744073709551616) (hot : other < 18446744073709551616) (ht : (Lit.int .i64 t).wf = true) (hn : (Lit.int .i64 n).wf = true) (hc : seed.length ≤ c) (hcr : c ≤ 140737488351232) (hseed : ∀ x ∈ seed, x < 256) (w : World) (hr : Reads w w.heap.size 1 A seed.length (bv seed)) :
    Calls Try.prog 7 #[.int .u64 secret, .int .u64 other, .int .i64 t, .int .i64 n, .slice A seed.length c] w fun e w' => e = .returned (.bool true) ∧ Ext w w' := by
  have cl := fun W => live5_any W
  by_cases h : seed.length ≤ 300
  · have k1 : ¬ (300 : Int) < (seed.length : Int) := by omega
    by_cases ho : bR ≤ other
    · have d1 : decide ((other : Int) ≥ 1152921504606845789) = true := dec_ge (by unfold bR at ho; omega)
      have d2 : (1152921504606845789 : Int) ≤ (other : Int) := by unfold bR at ho; omega
      clear hr hc hcr hseed h hs ht hn hot ho
      go_enter Try.func7, Try.ntmps7
      go_wp2_with (go_at_call 12; refine (cl _).mono ?_; clear cl; rintro e w1 ⟨rfl, x1⟩)
      go_ret
      exact ⟨rfl, x1⟩
    have d1 : decide ((1152921504606845789 : Int) ≤ (other : Int)) = false := dec_nge (by unfold bR at ho; omega)
    have c1 := fun (W : World) (x : Ext w W) => Split_any secret t n seed hseed (by omega) A c hc W ((hr.below x.out).more x.size)
    rcases split_cases secret t n seed with ⟨e1, e2⟩ | ⟨tn, nn, rfl, rfl, h1, h2, h3, h4, e1, e2⟩
    · rw [e1, e2] at c1
      clear hr hc hcr hseed h e1 e2 hs ht hn hot ho
      go_enter Try.func7, Try.ntmps7
      go_wp2_with (first
        | (go_at_call 12; refine (cl _).mono ?_; clear cl; rintro e w1 ⟨rfl, x1⟩)
        | (go_at_call 13; refine (c1 _ x1).mono ?_; clear c1; rintro e w2 ⟨A2, d2, rfl, -, r2, x2⟩; have y2 := x1.trans x2))
      go_ret
      exact ⟨rfl, y2⟩
    · rw [e1, e2, splitL_length] at c1
      obtain ⟨i1, hi1, hz3, hz4, hz5⟩ := info_parts Try.infoSh
      obtain ⟨pre, x, wt, ids, g1, g2, g3, g4, g5, g6, g7, g8⟩ := hides_plain (seed := seed) h1 (by omega) h4 (show other < bR by omega)
      have htk := split_take secret tn nn seed h2
      rw [g1] at htk
      have hon := fun s hs => (split_onP (secret := secret) (tn := tn) (nn := tn) (seed := seed) (by omega) s hs).1
      rw [g1] at hon
      obtain ⟨k, hk⟩ : ∃ k, k = tn - 1 := ⟨_, rfl⟩
      have kt : (tn : Int) - 1 = (k : Int) := by omega
      have hkt : (k : Int) < tn := by omega
      have hk0 : (0 : Int) ≤ k := by omega
      have kw : IntKind.i64.wrap ((tn : Int) - 1) = (k : Int) := by
        rw [kt, IntKind.wrap_i64]; omega
      have k64 : wrap64 ((tn : Int) - 1) = (k : Int) := by unfold wrap64; omega
      rw [← hk] at g2
      have hids : ids.length = tn := by rw [g5, List.length_map, List.length_append, g2]; simp; omega
      have hwi : ∀ i ∈ ids, (Lit.int .i64 i).wf = true := by
        intro i hi
        rw [g5] at hi
        obtain ⟨s, hs, rfl⟩ := List.mem_map.1 hi
        have := hon s hs
        simp [Lit.wf, IntKind.min, IntKind.max, IntKind.signed, IntKind.bits]; omega
      have hfl : (pre ++ [((tn : Int), x)]).length = tn := by rw [List.length_append, g2]; simp; omega
      have hat : ∀ s : Int × Nat, (pre ++ [s])[k]? = some s := fun s => by rw [List.getElem?_append_right (by omega), g2, Nat.sub_self]; rfl
      -- the calls
      have cI := fun A c (W : World) hq => Ids_any (pre ++ [((tn : Int), x)]) A c (by rw [hfl]; omega) W hq
      rw [hfl, ← g5] at cI
      have cW := fun A c (W : World) hq => Weight_any ids hwi (tn : Int) A c (by rw [hids]; omega) W hq
      rw [hids, g6] at cW
      have cV := fun W => InvR_any wt W
      rw [g7, show ((0 : Nat) : Int) = 0 from rfl] at cV
      have cS := fun W => SubRE other secret W
      have cM := fun W => MulRE (subM bR other secret) (invM bR wt) (lt64_R (subM_lt (by decide) _ _)) (lt64_R (invM_lt (by decide) _)) W
      have cA := fun W => AddRE x (mulM bR (subM bR other secret) (invM bR wt)) W
      obtain ⟨x', hx'⟩ : ∃ x', x' = addM bR x (mulM bR (subM bR other secret) (invM bR wt)) := ⟨_, rfl⟩
      have gj := g8 x' hx'
      rw [← hx'] at cA
      have hfl' : (pre ++ [((tn : Int), x')]).length = tn := by rw [List.length_append, g2]; simp; omega
      have hw' : idsWf (pre ++ [((tn : Int), x')]) := by
        intro i hi
        refine hwi i ?_
        rw [g5]
        simpa using hi
      have cJ := fun A c (W : World) hq => Join_any (pre ++ [((tn : Int), x')]) hw' A c (by rw [hfl']; omega) W hq
      rw [gj, hfl'] at cJ
      obtain ⟨mm, hmm⟩ : ∃ t, t = mulM bR (subM bR other secret) (invM bR wt) := ⟨_, rfl⟩
      obtain ⟨dd, hdd⟩ : ∃ t, t = subM bR other secret := ⟨_, rfl⟩
      obtain ⟨vv, hvv⟩ : ∃ t, t = invM bR wt := ⟨_, rfl⟩
      rw [← hmm] at cA cM
      rw [← hdd] at cS cM
      rw [← hvv] at cV cM
      -- the slice
      have hfr := fun (A : Option Addr) (d : Nat) (W : World) (hd : nn ≤ d) (hq : Reads W W.heap.size 2 A nn (sv (splitL secret tn nn seed))) =>
        first_reads (l := splitL secret tn nn seed) (k := tn) (c := d) (by rw [splitL_length]; exact hq) (by rw [splitL_length]; exact h2) (by rw [splitL_length]; exact hd)
      rw [htk, hfl] at hfr
      have hsl := fun (A : Option Addr) (d : Nat) (hd : nn ≤ d) => slice_hS A nn d tn (by omega)
      have n1 : ((nn : Int) != (nn : Int)) = false := by simp
      have t1 : ¬ (tn : Int) < 1 := by omega
      have t2 : ¬ (nn : Int) < (tn : Int) := by omega
      have t3 : (nn : Int) ≤ 7 := by omega
      have HK2 := Lib.hid (sv_set_last pre k g2 (tn : Int) x x')
      have HAT := Lib.hid hat
      have ht7 : tn ≤ 7 := by omega
      clear hr hc hcr hseed h e1 e2 hs ht hn hot ho g1 g2 g3 g4 g5 g6 g7 g8 htk hon hk hids hwi hfl gj hx' hfl' hw' hmm hdd hvv h1 h2 h3 h4 hat
      go_enter Try.func7, Try.ntmps7
      go_wp2_with (first
        | (go_at_call 12; refine (cl _).mono ?_; clear cl; rintro e w1 ⟨rfl, x1⟩)
        | (go_at_call 13; refine (c1 _ x1).mono ?_; clear c1; rintro e w2 ⟨A2, d2, rfl, hd2, r2, x2⟩; have y2 := x1.trans x2; obtain ⟨A3, e3, r3⟩ := hfr A2 d2 w2 hd2 r2; have s1 := hsl A2 d2 hd2; rw [e3] at s1; clear e3 hsl hfr r2)
        | (at_builtin; refine wpList_append_any _ rfl (.tmp 55) (.tmp 58) 24 rfl w2.heap.size 43 i1 (.agg #[.int .i64 0, .int .u64 0]) 2 16 Try.underlying24 hi1 hz3 hz4 hz5 rfl (by decide) _ _ _ rfl (own_empty w2 w2.heap.size w2.heap.size rfl (Nat.le_refl _) _ _) w2.heap.size A3 tn d2 (sv (pre ++ [((tn : Int), x)])) rfl (r3.alloc (Nat.le_refl _) _) (sv_one _) (by simp only [maxLen]; omega) (by omega) (by simp) ?_; intro v4 w4 hown4 hg4 _))
      have X4 := ext_grown ((Ext.refl w2).alloc _) (own_empty w2 w2.heap.size w2.heap.size rfl (Nat.le_refl _) 43 2) hg4
      rw [Nat.zero_add, List.nil_append] at hown4
      clear hg4 r3 s1
      obtain ⟨g, cap, rfl, hgb, hgl⟩ := hown4.form (by omega)
      have O4 := Lib.hid hown4
      have q4 := (own_cells2 hown4 (HAT.out _)).1
      have Y4 := Lib.hid (y2.trans X4)
      have hgw : w.heap.size ≤ g := Nat.le_trans y2.size hgb
      clear hown4 X4 y2 x2 x1
      have ki : IntKind.i64.wrap (k : Int) = (k : Int) := by rw [IntKind.wrap_i64]; omega
      clear kw k64
      go_region_held3 (fun w' => w'.cell? ⟨g, k * 2, none⟩ = some (.int .i64 (tn : Int))) (go_keep) (first
        | (go_at_call 25; refine (cI _ _ _ (own_reads2 O4.out.drew).2).mono ?_; clear cI; rintro e w5 ⟨A5, d5, rfl, -, r5, x5⟩; have O5 := Lib.hid (own_ext O4.out.drew x5); have q5 := (own_cells2 O5.out (HAT.out _)).1)
        | (go_at_call 20; refine (cW _ _ _ r5).mono ?_; clear cW; rintro e w6 ⟨rfl, x6⟩; have O6 := Lib.hid (own_ext O5.out x6); have q6 := (own_cells2 O6.out (HAT.out _)).1))
      go_wp2_with (go_at_call 26; refine (cV _).mono ?_; clear cV; rintro e w' ⟨rfl, rfl⟩)
      have z6 := (own_cells2 O6.out (HAT.out _)).2
      have f6 := O6.out.frozenAt (k * 2 + 1)
      have Y6 := Lib.hid ((Y4.out.drew.trans x5).trans x6)
      clear q4 q5 q6 r5
      go_region_with (first
        | (go_at_call 29; refine (cS _).mono ?_; clear cS; rintro e w7 ⟨rfl, x7⟩; have O7 := Lib.hid (own_ext (by first | exact O6.out.drew | exact O6.out | exact own_drewN O6.out _) x7); have z7 := (own_cells2 O7.out (HAT.out _)).2; have f7 := O7.out.frozenAt (k * 2 + 1))
        | (go_at_call 28; refine (cM _).mono ?_; clear cM; rintro e w8 ⟨rfl, x8⟩; have O8 := Lib.hid (own_ext O7.out x8); have z8 := (own_cells2 O8.out (HAT.out _)).2; have f8 := O8.out.frozenAt (k * 2 + 1))
        | (go_at_call 27; refine (cA _).mono ?_; clear cA; rintro e w9 ⟨rfl, x9⟩; have O9 := Lib.hid (own_ext O8.out x9); have z9 := (own_cells2 O9.out (HAT.out _)).2; have f9 := O9.out.frozenAt (k * 2 + 1)))
      all_goals (
        have o10 := (O9.out.stored (k * 2 + 1) (.int .u64 (x' : Int))).1
        rw [HK2.out] at o10
        have r10 := Lib.hid (own_reads2 o10).2
        have y10 := (((Y6.out.drew.trans x7).trans x8).trans x9).setCell (p := ⟨g, k * 2 + 1, none⟩) hgw (.int .u64 (x' : Int))
        have Y10 := Lib.hid y10
        clear o10 y10
        go_wp2_with (go_at_call 18; refine (cJ _ _ _ r10.out).mono ?_; clear cJ; rintro e w11 ⟨rfl, x11⟩)
        go_ret
        exact ⟨rfl, Y10.out.trans x11⟩)
  · have k1 : (300 : Int) < (seed.length : Int) := by omega
    clear hr hc hcr hseed h hs ht hn hot
    go_enter Try.func7, Try.ntmps7
    go_wp2_with (go_at_call 12; refine (cl _).mono ?_; clear cl; rintro e w1 ⟨rfl, x1⟩)
    go_ret
    exact ⟨rfl, x1⟩
end Go.Proofs.Ytaibpldolbemfaa

/- Statements of shares, walked: SharePublic. -/
namespace Go.Proofs.Ytaibpldolbemfaa
set_option linter.unusedVariables false
open Go.RowKit Go.Shelf Go.Maps
attribute [local irreducible] atN prodN sumN wantN mix hSum hNum coefN evZ pubO pubE joinR wgtR chkN splitL

theorem split_wf {secret tn nn : Nat} {seed : List Nat} (h7 : nn ≤ 7) : idsWf (splitL secret tn nn seed) := by
  intro i hi
  obtain ⟨s, hs, rfl⟩ := List.mem_map.1 hi
  have := (split_onP h7 s hs).1
  simp [Lit.wf, IntKind.min, IntKind.max, IntKind.signed, IntKind.bits]; omega
theorem pub_wf {l : List (Int × Nat)} (h : idsWf l) : idsWf (pubL l) := by
  intro i hi
  rw [show (pubL l).map (fun s : Int × Nat => s.1) = l.map fun s : Int × Nat => s.1 from pubL_ids l] at hi
  exact h i hi
theorem pub_64 (l : List (Int × Nat)) : ∀ s ∈ pubL l, s.2 < 18446744073709551616 := by
  intro s hs
  obtain ⟨r, -, rfl⟩ := List.mem_map.1 hs
  exact lt64_Q (powM_lt (by decide) _ _)
theorem pubO_split {secret tn nn : Nat} {seed : List Nat} (h0 : 1 ≤ nn) (h7 : nn ≤ 7) : pubO (splitL secret tn nn seed) = pubL (splitL secret tn nn seed) ∧ pubE (splitL secret tn nn seed) = 0 := by
  have h := split_may (secret := secret) (tn := tn) (seed := seed) h0 h7
  unfold pubO pubE
  rw [h]; exact ⟨rfl, rfl⟩

set_option maxRecDepth 100000 in
set_option maxHeartbeats 4000000 in
theorem walk_SharePublic (secret : Nat) (t n : Int) (A : Option Addr) (c : Nat) (seed : List Nat) (fr : Int) (hs : secret < 18446744073709551616) (ht : (Lit.int .i64 t).wf = true) (hn : (Lit.int .i64 n).wf = true) (hc : seed.length ≤ c) (hcr : c ≤ 140737488351232) (hseed : ∀ x ∈ seed, x < 256) (hfr : (Lit.int .u8 fr).wf = true) (w : World) (hr : Reads w w.heap.size 1 A seed.length (bv seed)) :
    Calls Try.prog 9 #[.int .u64 secret, .int .i64 t, .int .i64 n, .slice A seed.length c, .int .u8 fr] w fun e w' => e = .returned (.bool true) ∧ Ext w w' := by
  have cl := fun W => live5_any W
  by_cases h : seed.length ≤ 300
  · have k1 : ¬ (300 : Int) < (seed.length : Int) := by omega
    have c1 := fun (W : World) (x : Ext w W) => Split_any secret t n seed hseed (by omega) A c hc W ((hr.below x.out).more x.size)
    rcases split_cases secret t n seed with ⟨e1, e2⟩ | ⟨tn, nn, rfl, rfl, h1, h2, h3, h4, e1, e2⟩
    · rw [e1, e2] at c1
      clear hr hc hcr hseed h e1 e2 hs ht hn hfr
      go_enter Try.func9, Try.ntmps9
      go_wp2_with (first
        | (go_at_call 12; refine (cl _).mono ?_; clear cl; rintro e w1 ⟨rfl, x1⟩)
        | (go_at_call 13; refine (c1 _ x1).mono ?_; clear c1; rintro e w2 ⟨A2, d2, rfl, -, r2, x2⟩; have y2 := x1.trans x2))
      go_ret
      exact ⟨rfl, y2⟩
    · rw [e1, e2, splitL_length] at c1
      obtain ⟨f, rfl, hf⟩ := u8_of_wf hfr
      obtain ⟨p1, p2⟩ := pubO_split (secret := secret) (tn := tn) (seed := seed) (show 1 ≤ nn by omega) h3
      have hX : ∀ s ∈ splitL secret tn nn seed, s.2 < 18446744073709551616 := fun s hs => lt64_R (split_onP h3 s hs).range.2
      have cP := fun A c (W : World) hq => shPublic_any (splitL secret tn nn seed) (split_wf h3) hX A c (by rw [splitL_length]; omega) W hq
      rw [p1, p2, pubL_length, splitL_length] at cP
      have hl0 : 0 < (splitL secret tn nn seed).length := by rw [splitL_length]; omega
      have cs := fun A c (W : World) hq => some5_any (pubL (splitL secret tn nn seed)) (by rw [pubL_length]; exact hl0) (by rw [pubL_length, splitL_length]; exact h3) f tn hf (by omega) false A c W hq
      have hsp : someL (pubL (splitL secret tn nn seed)) f tn false = pubL (pickL (splitL secret tn nn seed) f tn) := pick_pub hl0 f tn
      rw [hsp, pubL_length, splitL_length] at cs
      have cC := fun A c (W : World) hcc hq => Check_any (tn : Int) (pubL (splitL secret tn nn seed)) (pub_wf (split_wf h3)) (pub_64 _) A c hcc (by rw [pubL_length, splitL_length]; omega) W hq
      rw [public_chk h1 h2 h3, pubL_length, splitL_length] at cC
      have cB := fun W => Base_any secret (lt64_R h4) W
      obtain ⟨g1, g2⟩ := public_x (seed := seed) h1 h2 h3 h4 f
      have hpk := pickL_length (splitL secret tn nn seed) f tn
      have hmem : ∀ s ∈ pickL (splitL secret tn nn seed) f tn, s ∈ splitL secret tn nn seed := fun s hs => mem_pick hl0 hs
      obtain ⟨L, hL⟩ : ∃ L, L = pickL (splitL secret tn nn seed) f tn := ⟨_, rfl⟩
      rw [← hL] at cs g1 g2 hpk hmem
      obtain ⟨ids, hids⟩ : ∃ i, i = L.map fun s : Int × Nat => s.1 := ⟨_, rfl⟩
      rw [← hids] at g1 g2
      have hil : ids.length = tn := by rw [hids, List.length_map, hpk]
      have hfl : (pubL L).length = tn := by rw [pubL_length, hpk]
      have hidf : (pubL L).map (fun s : Int × Nat => s.1) = ids := by rw [hids]; exact pubL_ids L
      have hwi : ∀ i ∈ ids, (Lit.int .i64 i).wf = true := fun i hi => by
        rw [hids] at hi
        obtain ⟨s, hs, rfl⟩ := List.mem_map.1 hi
        exact split_wf h3 _ (List.mem_map.2 ⟨s, hmem s hs, rfl⟩)
      have cI := fun A c (W : World) hq => Ids_any (pubL L) A c (by rw [hfl]; omega) W hq
      rw [hidf, hfl] at cI
      have cW := fun i A c (W : World) hq => Weight_any ids hwi i A c (by rw [hil]; omega) W hq
      rw [hil] at cW
      have hwo : ∀ i ∈ ids, wgtR ids i = .tuple #[.int .u64 (atN ids i 0 : Nat), .int .i64 0] := fun i hi => wgt_ok g1 hi
      have hft := pub_64 L
      have hfm : ∀ s ∈ pubL L, s.1 ∈ ids := fun s hs => by rw [← hidf]; exact List.mem_map.2 ⟨s, hs, rfl⟩
      obtain ⟨few, hfew⟩ : ∃ q, q = pubL L := ⟨_, rfl⟩
      rw [← hfew] at cs cI g2 hfl hft hfm
      obtain ⟨pl, hpl⟩ : ∃ q, q = pubL (splitL secret tn nn seed) := ⟨_, rfl⟩
      rw [← hpl] at cP cs cC
      obtain ⟨bs, hbs⟩ : ∃ q, q = powM bQ 4 secret := ⟨_, rfl⟩
      rw [← hbs] at cB g2
      have n1 : ((nn : Int) != (nn : Int)) = false := by simp
      have t3 : (nn : Int) ≤ 7 := by omega
      have t5 : (f : Int) ≤ 255 := by omega
      have ht7 : tn ≤ 7 := by omega
      have HWO := Lib.hid hwo
      have HFT := Lib.hid hft
      have HFM := Lib.hid hfm
      have HFL := Lib.hid hfl
      have HG2 := Lib.hid g2
      clear hr hc hcr hseed h e1 e2 hs ht hn hfr p1 p2 hX hl0 hsp g1 g2 hpk hmem hL hids hil hfl hidf hwi hwo hft hfm hfew hpl hbs h1 h2 h3 h4 hf
      go_enter Try.func9, Try.ntmps9
      go_wp2_with (first
        | (go_at_call 12; refine (cl _).mono ?_; clear cl; rintro e w1 ⟨rfl, x1⟩)
        | (go_at_call 13; refine (c1 _ x1).mono ?_; clear c1; rintro e w2 ⟨A2, d2, rfl, -, r2, x2⟩; have y2 := x1.trans x2)
        | (go_at_call 15; refine (cP _ _ _ r2).mono ?_; clear cP; rintro e w3 ⟨A3, d3, rfl, hd3, r3, x3, -⟩; have y3 := y2.trans x3)
        | (go_at_call 24; refine (cs _ _ _ r3).mono ?_; clear cs; rintro e w4 ⟨A4, d4, rfl, -, r4, x4⟩; have y4 := y3.trans x4))
      have R3 := Lib.hid ((r3.below x4.out).more x4.size)
      have R4 := Lib.hid r4
      have Y4 := Lib.hid y4
      clear r2 r3 r4 x1 x2 x3 x4 y2 y3 y4
      go_loopg [16, 17] tn (fun m s16 s17 wr => ∃ j : Nat, j + m = tn ∧ s17 = .int .i64 j ∧ s16 = .int .u64 (wantN ids 0 (few.take j) : Nat) ∧ Ext w4 wr)
      case atStart => exact ⟨0, by omega, rfl, by unfold wantN; rfl, Ext.refl _⟩
      case round =>
        obtain ⟨j, hj, rfl, rfl, hx⟩ := hrel
        by_cases h : j < tn
        · obtain ⟨s, hs⟩ : ∃ s, few[j]? = some s := ⟨_, List.getElem?_eq_getElem (by rw [HFL.out]; exact h)⟩
          have hjb : (j : Int) ≤ 7 := by omega
          have hjt : (j : Int) < tn := by omega
          obtain ⟨ad, rfl, hlt, q0, q1⟩ := reads_share (R4.out.below hx.out) hs
          have hqs : Hid (∀ W, Ext w4 W → W.cell? (ad.add (j * 2)) = some (.int .i64 s.1) ∧ W.cell? ⟨(ad.add (j * 2)).block, (ad.add (j * 2)).off + 1, none⟩ = some (.int .u64 (s.2 : Int))) := fun W x => by
            obtain ⟨ad', e', _, a, b⟩ := reads_share (R4.out.below x.out) hs
            cases e'
            exact ⟨a, b⟩
          have hm := List.mem_of_getElem? hs
          have cW1 := fun A c (W : World) hq => cW s.1 A c W hq
          rw [HWO.out s.1 (HFM.out s hm)] at cW1
          have c2 := fun W => Pow_any s.2 (atN ids s.1 0) (HFT.out s hm) (lt64_R (atN_lt _ _ _)) W
          have c3 := fun W => MulE (wantN ids 0 (few.take j)) (powM bQ s.2 (atN ids s.1 0)) (lt64_Q (wantN_lt _ _ _)) (lt64_Q (powM_lt (by decide) _ _)) W
          have e1 := wantN_take (ids := ids) hs 0
          obtain ⟨v, hv⟩ : ∃ t, t = atN ids s.1 0 := ⟨_, rfl⟩
          obtain ⟨u, hu⟩ : ∃ t, t = wantN ids 0 (few.take j) := ⟨_, rfl⟩
          rw [← hv] at cW1 c2 c3 e1
          rw [← hu] at c3 e1 ⊢
          have HE := Lib.hid e1
          have HX := Lib.hid hx
          have HJ := Lib.hid hj
          have HR4 := Lib.hid ((R4.out.below hx.out.drew).more hx.drew.size)
          clear e1 hx hj hs hv hu hm cW
          go_wp2
          go_region_held3 (fun w' => w'.cell? (ad.add (j * 2)) = some (.int .i64 s.1)) (go_keep) (first
            | (go_at_call 25; refine (cI _ _ _ HR4.out).mono ?_; clear cI; rintro e w5 ⟨A5, d5, rfl, -, r5, x5⟩; have X5 := Lib.hid (HX.out.drew.trans x5); have k5 := (hqs.out w5 X5.out).1)
            | (go_at_call 20; refine (cW1 _ _ _ r5).mono ?_; clear cW1; rintro e w6 ⟨rfl, x6⟩; have X6 := Lib.hid (X5.out.trans x6); have k6 := (hqs.out w6 X6.out).1; have k7 := (hqs.out w6 X6.out).2))
          clear q0 q1
          go_wp2_with (first
            | (go_at_call 31; refine (c2 _).mono ?_; clear c2; rintro e w7 ⟨rfl, x7⟩)
            | (go_at_call 30; refine (c3 _).mono ?_; clear c3; rintro e w8 ⟨rfl, x8⟩))
          have hj := HJ.out
          go_roundg (gk - 1)
          case measure => omega
          case rel => exact ⟨j + 1, by omega, int_congr (by omega), by rw [HE.out], (X6.out.trans x7).trans x8⟩
        · have hjt : ¬ (j : Int) < tn := by omega
          obtain rfl : j = tn := by omega
          rw [List.take_of_length_le (by rw [HFL.out]; exact Nat.le_refl _), HG2.out]
          have HX := Lib.hid hx
          have HR3 := Lib.hid ((R3.out.below hx.out).more hx.size)
          clear hx hj cW cI
          go_wp2_with (first
            | (go_at_call 22; refine (cC _ _ _ hd3 HR3.out).mono ?_; clear cC; rintro e w5 ⟨rfl, x5⟩)
            | (go_at_call 32; refine (cB _).mono ?_; clear cB; rintro e w6 ⟨rfl, x6⟩))
          go_ret
          exact ⟨rfl, ((Y4.out.trans HX.out).trans x5).trans x6⟩
  · have k1 : (300 : Int) < (seed.length : Int) := by omega
    clear hr hc hcr hseed h hs ht hn hfr
    go_enter Try.func9, Try.ntmps9
    go_wp2_with (go_at_call 12; refine (cl _).mono ?_; clear cl; rintro e w1 ⟨rfl, x1⟩)
    go_ret
    exact ⟨rfl, x1⟩
end Go.Proofs.Ytaibpldolbemfaa

/- Statements of shares, walked: ShareSums. -/
namespace Go.Proofs.Ytaibpldolbemfaa
set_option linter.unusedVariables false
open Go.RowKit Go.Shelf Go.Maps
attribute [local irreducible] atN prodN sumN wantN mix hSum hNum coefN evZ pubO pubE joinR wgtR chkN splitL sumsL

theorem sums_at {l m : List (Int × Nat)} {d j : Nat} {s r : Int × Nat} (hs : l[d + j]? = some s) (hr : m[d + j]? = some r) (times : Nat) : (sumsL (l.drop d) (m.drop d) times)[j]? = some (s.1, addM bR s.2 (mulM bR r.2 times)) := by
  unfold sumsL
  rw [List.getElem?_zipWith, List.getElem?_drop, List.getElem?_drop, hs, hr]
theorem sums_length (a b tn nn : Nat) (seed seed2 : List Nat) (times : Nat) (h : tn ≤ nn) : (sumsL ((splitL a tn nn seed).drop (nn - tn)) ((splitL b tn nn seed2).drop (nn - tn)) times).length = tn := by
  unfold sumsL
  rw [List.length_zipWith, List.length_drop, List.length_drop, splitL_length, splitL_length]; omega

set_option maxRecDepth 100000 in
set_option maxHeartbeats 4000000 in
theorem walk_ShareSums (a b : Nat) (t n : Int) (A : Option Addr) (c : Nat) (seed : List Nat) (times : Nat) (ha : a < 18446744073709551616) (hb : b < 18446744073709551616) (ht : (Lit.int .i64 t).wf = true) (hn : (Lit.int .i64 n).wf = true) (hc : seed.length ≤ c) (hcr : c ≤ 140737488351232) (hseed : ∀ x ∈ seed, x < 256) (hti : times < 18446744073709551616) (w : World) (hr : Reads w w.heap.size 1 A seed.length (bv seed)) :
    Calls Try.prog 8 #[.int .u64 a, .int .u64 b, .int .i64 t, .int .i64 n, .slice A seed.length c, .int .u64 times] w fun e w' => e = .returned (.bool true) ∧ Ext w w' := by
  have cl := fun W => live5_any W
  by_cases h : seed.length ≤ 300
  · have k1 : ¬ (300 : Int) < (seed.length : Int) := by omega
    obtain ⟨i0, hi, hz0, hz1, hz2⟩ := info_parts Try.infoU8
    have c1 := fun (W : World) (x : Ext w W) => Split_any a t n seed hseed (by omega) A c hc W ((hr.below x.out).more x.size)
    have hs2 : ∀ x ∈ (1 :: seed), x < 256 := by
      intro x hx
      rcases List.mem_cons.1 hx with rfl | h'
      · decide
      · exact hseed x h'
    have hl2 : (1 :: seed).length = 1 + seed.length := by rw [List.length_cons, Nat.add_comm]
    have c2 := fun A c (W : World) hcc hq => Split_any b t n (1 :: seed) hs2 (by rw [hl2]; omega) A c hcc W hq
    rw [hl2] at c2
    have hl300 : seed.length ≤ 1000 := by omega
    have hbv : bv (1 :: seed) = [.int .u8 1] ++ bv seed := rfl
    rw [hbv] at c2
    have HRS := Lib.hid (fun (W : World) (x : Ext w W) => (hr.below x.out).more x.size)
    rcases split_cases a t n seed with ⟨e1, e2⟩ | ⟨tn, nn, rfl, rfl, h1, h2, h3, h4, e1, e2⟩
    · rw [e1, e2] at c1
      obtain ⟨eb, heb⟩ : ∃ q, q = spE b t n := ⟨_, rfl⟩
      obtain ⟨ob, hob⟩ : ∃ q, q = spO b t n (1 :: seed) := ⟨_, rfl⟩
      rw [← heb, ← hob] at c2
      clear hr hc hcr hseed h e1 e2 ha hb ht hn hti hs2 hl2 hbv heb hob
      go_enter Try.func8, Try.ntmps8
      go_wp2_with (first
        | (go_at_call 12; refine (cl _).mono ?_; clear cl; rintro e w1 ⟨rfl, x1⟩)
        | (go_at_call 13; refine (c1 _ x1).mono ?_; clear c1; rintro e w2 ⟨A2, d2, rfl, -, r2, x2⟩; have y2 := x1.trans x2)
        | (at_builtin; refine wpList_append_any _ rfl (.tmp 38) (.tmp 39) 23 rfl w2.heap.size 5 i0 (.int .u8 0) 1 1 Try.underlying23 hi hz0 hz1 hz2 rfl (by decide) _ _ _ rfl (own_new w2 w2.heap.size w2.heap.size rfl (Nat.le_refl _) 5 (.int .u8 1)) w2.heap.size A seed.length c (bv seed) rfl ((HRS.out w2 y2).alloc (Nat.le_refl _) _) (bv_one _) (by simp only [maxLen]; omega) (by omega) (by simp) ?_; intro v4 w4 hown4 hg4 _; have x4 := ext_grown ((Ext.refl w2).alloc _) (own_new w2 w2.heap.size w2.heap.size rfl (Nat.le_refl _) 5 (.int .u8 1)) hg4; have y4 := y2.trans x4; obtain ⟨A4, c4, rfl, hc4, r4⟩ := own_slice hown4; clear hg4 hown4)
        | (go_at_call 13; refine (c2 _ _ _ hc4 r4).mono ?_; clear c2; rintro e w5 ⟨A5, d5, rfl, -, r5, x5⟩; have y5 := y4.trans x5))
      go_ret
      exact ⟨rfl, y5⟩
    · rw [e1, e2, splitL_length] at c1
      rcases split_cases b (tn : Int) (nn : Int) (1 :: seed) with ⟨e3, e4⟩ | ⟨tn', nn', q1, q2, g1, g2, g3, g4, e3, e4⟩
      · rw [e3, e4] at c2
        clear hr hc hcr hseed h e1 e2 ha hb ht hn hti hs2 hl2 hbv h1 h2 h3 h4 e3 e4
        go_enter Try.func8, Try.ntmps8
        go_wp2_with (first
          | (go_at_call 12; refine (cl _).mono ?_; clear cl; rintro e w1 ⟨rfl, x1⟩)
          | (go_at_call 13; refine (c1 _ x1).mono ?_; clear c1; rintro e w2 ⟨A2, d2, rfl, -, r2, x2⟩; have y2 := x1.trans x2)
          | (at_builtin; refine wpList_append_any _ rfl (.tmp 38) (.tmp 39) 23 rfl w2.heap.size 5 i0 (.int .u8 0) 1 1 Try.underlying23 hi hz0 hz1 hz2 rfl (by decide) _ _ _ rfl (own_new w2 w2.heap.size w2.heap.size rfl (Nat.le_refl _) 5 (.int .u8 1)) w2.heap.size A seed.length c (bv seed) rfl ((HRS.out w2 y2).alloc (Nat.le_refl _) _) (bv_one _) (by simp only [maxLen]; omega) (by omega) (by simp) ?_; intro v4 w4 hown4 hg4 _; have x4 := ext_grown ((Ext.refl w2).alloc _) (own_new w2 w2.heap.size w2.heap.size rfl (Nat.le_refl _) 5 (.int .u8 1)) hg4; have y4 := y2.trans x4; obtain ⟨A4, c4, rfl, hc4, r4⟩ := own_slice hown4; clear hg4 hown4)
          | (go_at_call 13; refine (c2 _ _ _ hc4 r4).mono ?_; clear c2; rintro e w5 ⟨A5, d5, rfl, -, r5, x5⟩; have y5 := y4.trans x5))
        go_ret
        exact ⟨rfl, y5⟩
      · obtain rfl : tn = tn' := by omega
        obtain rfl : nn = nn' := by omega
        rw [e3, e4, splitL_length] at c2
        obtain ⟨i1, hi1, hz3, hz4, hz5⟩ := info_parts Try.infoSh
        have hplain := sums_plain (seed := seed) (seed2 := 1 :: seed) times h1 h2 h3 h4 g4
        have hTl := sums_length a b tn nn seed (1 :: seed) times h2
        have hTa : ∀ j, j < tn → ∃ s r : Int × Nat, (splitL a tn nn seed)[nn - tn + j]? = some s ∧ (splitL b tn nn (1 :: seed))[nn - tn + j]? = some r ∧ (sumsL ((splitL a tn nn seed).drop (nn - tn)) ((splitL b tn nn (1 :: seed)).drop (nn - tn)) times)[j]? = some (s.1, addM bR s.2 (mulM bR r.2 times)) ∧ s.2 < bR ∧ r.2 < bR := fun j hj => by
          have z1 := splitL_at a tn nn seed (k := nn - tn + j) (by omega)
          have z2 := splitL_at b tn nn (1 :: seed) (k := nn - tn + j) (by omega)
          exact ⟨_, _, z1, z2, sums_at z1 z2 times, Nat.mod_lt _ (by decide), Nat.mod_lt _ (by decide)⟩
        have hTw : idsWf (sumsL ((splitL a tn nn seed).drop (nn - tn)) ((splitL b tn nn (1 :: seed)).drop (nn - tn)) times) := by
          intro i hi
          obtain ⟨s, hs, rfl⟩ := List.mem_map.1 hi
          obtain ⟨j, hj, hjs⟩ := List.mem_iff_getElem.1 hs
          obtain ⟨s', r', z1, z2, z3, -, -⟩ := hTa j (by omega)
          rw [List.getElem?_eq_getElem hj, hjs] at z3
          have := (split_onP h3 s' (List.mem_of_getElem? z1)).1
          have e : s.1 = s'.1 := by rw [Option.some.inj z3]
          rw [e]
          simp [Lit.wf, IntKind.min, IntKind.max, IntKind.signed, IntKind.bits]; omega
        obtain ⟨T, hT⟩ : ∃ T, T = sumsL ((splitL a tn nn seed).drop (nn - tn)) ((splitL b tn nn (1 :: seed)).drop (nn - tn)) times := ⟨_, rfl⟩
        rw [← hT] at hplain hTl hTa hTw
        have cJ := fun A c (W : World) hq => Join_any T hTw A c (by rw [hTl]; omega) W hq
        rw [hplain, hTl] at cJ
        obtain ⟨sl, hsl⟩ : ∃ q, q = splitL a tn nn seed := ⟨_, rfl⟩
        obtain ⟨sm, hsm⟩ : ∃ q, q = splitL b tn nn (1 :: seed) := ⟨_, rfl⟩
        have hll : sl.length = nn := by rw [hsl, splitL_length]
        have hml : sm.length = nn := by rw [hsm, splitL_length]
        rw [← hsl] at c1 hTa
        rw [← hsm] at c2 hTa
        have cM := fun W => MulRE b times hb hti W
        have cA := fun W => AddRE a (mulM bR b times) W
        obtain ⟨fin, hfin⟩ : ∃ q, q = addM bR a (mulM bR b times) := ⟨_, rfl⟩
        rw [← hfin] at cA cJ
        obtain ⟨bt, hbt⟩ : ∃ q, q = mulM bR b times := ⟨_, rfl⟩
        rw [← hbt] at cA cM
        have n1 : ((nn : Int) != (nn : Int)) = false := by simp
        have t1 : decide ((tn : Int) < 1) = false := by rw [decide_eq_false_iff_not]; omega
        have t2 : decide (nn < tn) = false := by rw [decide_eq_false_iff_not]; omega
        have t3 : (nn : Int) ≤ 7 := by omega
        have hsub : (nn : Int) - (tn : Int) = ((nn - tn : Nat) : Int) := by omega
        obtain ⟨d, hd⟩ : ∃ d, d = nn - tn := ⟨_, rfl⟩
        rw [← hd] at hsub hTa
        have hdt : d + tn = nn := by omega
        have HTA := Lib.hid hTa
        have HTL := Lib.hid hTl
        have HDT := Lib.hid hdt
        have HLL := Lib.hid hll
        have HML := Lib.hid hml
        have HTI := Lib.hid hti
        have H3 := Lib.hid h3
        clear hr hc hcr hseed h e1 e2 ha hb ht hn hs2 hl2 hbv h1 h2 h3 h4 e3 e4 q1 q2 g1 g2 g3 g4 hplain hTl hTa hTw hT hsl hsm hfin hbt hd hdt hll hml hti
        go_enter Try.func8, Try.ntmps8
        go_wp2_with (first
          | (go_at_call 12; refine (cl _).mono ?_; clear cl; rintro e w1 ⟨rfl, x1⟩)
          | (go_at_call 13; refine (c1 _ x1).mono ?_; clear c1; rintro e w2 ⟨A2, d2, rfl, -, r2, x2⟩; have y2 := x1.trans x2)
          | (at_builtin; refine wpList_append_any _ rfl (.tmp 38) (.tmp 39) 23 rfl w2.heap.size 5 i0 (.int .u8 0) 1 1 Try.underlying23 hi hz0 hz1 hz2 rfl (by decide) _ _ _ rfl (own_new w2 w2.heap.size w2.heap.size rfl (Nat.le_refl _) 5 (.int .u8 1)) w2.heap.size A seed.length c (bv seed) rfl ((HRS.out w2 y2).alloc (Nat.le_refl _) _) (bv_one _) (by simp only [maxLen]; omega) (by omega) (by simp) ?_; intro v4 w4 hown4 hg4 _; have x4 := ext_grown ((Ext.refl w2).alloc _) (own_new w2 w2.heap.size w2.heap.size rfl (Nat.le_refl _) 5 (.int .u8 1)) hg4; have y4 := y2.trans x4; obtain ⟨A4, c4, rfl, hc4, r4⟩ := own_slice hown4; clear hg4 hown4)
          | (go_at_call 13; refine (c2 _ _ _ hc4 r4).mono ?_; clear c2; rintro e w5 ⟨A5, d5, rfl, -, r5, x5⟩; have y5 := y4.trans x5))
        have RL := Lib.hid ((r2.below (x4.trans x5).out).more (x4.trans x5).size)
        have RM := Lib.hid r5
        have Y5 := Lib.hid y5
        clear r2 r4 r5 x1 x2 x4 x5 y2 y4 y5
        go_loopg [17, 18] tn (fun m s17 s18 wr => ∃ j : Nat, j + m = tn ∧ s18 = .int .i64 ((d + j : Nat) : Int) ∧ wr.ownsRow w5.heap.size 43 2 s17 j (sv (T.take j)) ∧ Ext w5 wr)
        case atStart => exact ⟨0, by omega, rfl, own_empty w5 _ _ rfl (Nat.le_refl _) _ _, (Ext.refl w5).alloc _⟩
        case round =>
          obtain ⟨j, hj, rfl, hown, hx⟩ := hrel
          obtain ⟨q, hq⟩ : ∃ q, q = d + j := ⟨_, rfl⟩
          rw [← hq]
          by_cases h : j < tn
          · obtain ⟨s, r, z1, z2, z3, z4, z5⟩ := HTA.out j h
            rw [← hq] at z1 z2
            have hqn : (q : Int) < nn := by have := HDT.out; omega
            have hqb : (q : Int) ≤ 7 := by have := H3.out; omega
            obtain ⟨ad, rfl, hlt, q0, q1⟩ := reads_share (RL.out.below hx.out) z1
            obtain ⟨bd, rfl, hlt', p0, p1⟩ := reads_share (RM.out.below hx.out) z2
            have hqs : Hid (∀ W, Ext w5 W → W.cell? (ad.add (q * 2)) = some (.int .i64 s.1) ∧ W.cell? ⟨(ad.add (q * 2)).block, (ad.add (q * 2)).off + 1, none⟩ = some (.int .u64 (s.2 : Int)) ∧ W.cell? ⟨(bd.add (q * 2)).block, (bd.add (q * 2)).off + 1, none⟩ = some (.int .u64 (r.2 : Int))) := fun W x => by
              obtain ⟨ad', e', _, a, b⟩ := reads_share (RL.out.below x.out) z1
              cases e'
              obtain ⟨bd', e', _, _, b'⟩ := reads_share (RM.out.below x.out) z2
              cases e'
              exact ⟨a, b, b'⟩
            have cM1 := fun W => MulRE r.2 times (lt64_R z5) HTI.out W
            have cA1 := fun W => AddRE s.2 (mulM bR r.2 times) W
            have e1 : T.take (j + 1) = T.take j ++ [(s.1, addM bR s.2 (mulM bR r.2 times))] := by rw [List.take_add_one, z3]; rfl
            obtain ⟨v, hv⟩ : ∃ v, v = addM bR s.2 (mulM bR r.2 times) := ⟨_, rfl⟩
            rw [← hv] at cA1 e1
            obtain ⟨mm, hmm⟩ : ∃ v, v = mulM bR r.2 times := ⟨_, rfl⟩
            rw [← hmm] at cA1 cM1
            have HE := Lib.hid e1
            have HX := Lib.hid hx
            have HJ := Lib.hid hj
            have HQ := Lib.hid hq
            have HOW := Lib.hid hown
            clear e1 hx hj hq z1 z2 z3 z4 z5 hv hmm p0 hown
            go_wp2
            go_region_held3 (fun w' => w'.cell? (ad.add (q * 2)) = some (.int .i64 s.1) ∧ w'.cell? ⟨(ad.add (q * 2)).block, (ad.add (q * 2)).off + 1, none⟩ = some (.int .u64 (s.2 : Int)) ∧ w'.cell? ⟨(bd.add (q * 2)).block, (bd.add (q * 2)).off + 1, none⟩ = some (.int .u64 (r.2 : Int))) (go_keep) (first
              | (go_at_call 28; refine (cM1 _).mono ?_; clear cM1; rintro e w6 ⟨rfl, x6⟩; have X6 := Lib.hid (HX.out.drew.trans x6); have O6 := Lib.hid (own_ext HOW.out.drew x6); obtain ⟨a6, b6, d6⟩ := hqs.out w6 X6.out)
              | (go_at_call 27; refine (cA1 _).mono ?_; clear cA1; rintro e w7 ⟨rfl, x7⟩; have X7 := Lib.hid (X6.out.trans x7); have O7 := Lib.hid (own_ext O6.out x7); obtain ⟨a7, b7, d7⟩ := hqs.out w7 X7.out)
              | (refine step_append_any _ rfl (.tmp 78) (.tmp 98) 24 rfl w5.heap.size 43 i1 (.agg #[.int .i64 0, .int .u64 0]) 2 16 Try.underlying24 hi1 hz3 hz4 hz5 rfl (by decide) _ _ _ rfl (O7.out.alloc _) _ _ 1 1 [.int .i64 s.1, .int .u64 (v : Int)] rfl (new_reads2 _ _ _ _) (by simp [Value.oneCell']) (by simp only [maxLen]; omega) (by omega) (by have := X7.out.size; simp; omega) ?_; intro v8 w8 hown8 hg8 _; have X8 := Lib.hid (ext_grown (X7.out.alloc _) (O7.out.alloc _) hg8); obtain ⟨a8, b8, d8⟩ := hqs.out w8 X8.out))
            have O8 : Hid (w8.ownsRow w5.heap.size 43 2 v8 (j + 1) (sv (T.take (j + 1)))) := by
              show World.ownsRow _ _ _ _ _ _ _
              rw [HE.out, sv_append]
              exact hown8
            clear hown8 hg8 a6 b6 d6 a7 b7 d7 a8 b8 d8 q0 q1 p1
            have hj := HJ.out
            go_wp2
            go_roundg (gk - 1)
            case measure => omega
            case rel => exact ⟨j + 1, by omega, int_congr (by have := HQ.out; omega), O8.out, X8.out⟩
          · obtain rfl : j = tn := by omega
            have hqn : ¬ (q : Int) < nn := by have := HDT.out; omega
            rw [List.take_of_length_le (by rw [HTL.out]; exact Nat.le_refl _)] at hown
            obtain ⟨A', c', rfl, hc', hr'⟩ := own_slice2 hown
            have HX := Lib.hid hx
            have HR := Lib.hid hr'
            clear hx hj hown hr' hq
            go_wp2_with (first
              | (go_at_call 18; refine (cJ _ _ _ HR.out).mono ?_; clear cJ; rintro e w6 ⟨rfl, x6⟩)
              | (go_at_call 28; refine (cM _).mono ?_; clear cM; rintro e w7 ⟨rfl, x7⟩)
              | (go_at_call 27; refine (cA _).mono ?_; clear cA; rintro e w8 ⟨rfl, x8⟩))
            go_ret
            exact ⟨rfl, (((Y5.out.trans HX.out).trans x6).trans x7).trans x8⟩
  · have k1 : (300 : Int) < (seed.length : Int) := by omega
    clear hr hc hcr hseed h ha hb ht hn hti
    go_enter Try.func8, Try.ntmps8
    go_wp2_with (go_at_call 12; refine (cl _).mono ?_; clear cl; rintro e w1 ⟨rfl, x1⟩)
    go_ret
    exact ⟨rfl, x1⟩
end Go.Proofs.Ytaibpldolbemfaa

/- Statements of shares, walked: ShareSpoilt. -/
namespace Go.Proofs.Ytaibpldolbemfaa
set_option linter.unusedVariables false
open Go.RowKit Go.Shelf Go.Maps
attribute [local irreducible] atN prodN sumN wantN mix hSum hNum coefN evZ pubO pubE joinR wgtR chkN splitL

theorem sv_set_at {l : List (Int × Nat)} {k : Nat} {s : Int × Nat} (h : l[k]? = some s) (v : Nat) : (sv l).set (k * 2 + 1) (.int .u64 (v : Int)) = sv (l.set k (s.1, v)) := by
  have hk := (List.getElem?_eq_some_iff.1 h).1
  have hl : (l.take k).length = k := by rw [List.length_take]; omega
  have e : l = l.take k ++ s :: l.drop (k + 1) := by
    conv => lhs; rw [← List.take_append_drop k l, List.drop_eq_getElem_cons hk, (List.getElem?_eq_some_iff.1 h).2]
  have e2 : l.set k (s.1, v) = l.take k ++ (s.1, v) :: l.drop (k + 1) := by
    conv => lhs; rw [e]
    rw [List.set_append_right _ _ (by omega), hl, Nat.sub_self, List.set_cons_zero]
  rw [e2]
  conv => lhs; rw [e]
  rw [sv_append, sv_append, List.set_append_right _ _ (by rw [sv_length, hl]; omega), sv_length, hl, show k * 2 + 1 - k * 2 = 1 by omega]
  rfl

/-- Public shares of a secret, as what the call itself has made. -/
theorem pubSplit_any {secret tn nn : Nat} {seed : List Nat} (h0 : 1 ≤ nn) (h3 : nn ≤ 7) (A : Option Addr) (c : Nat) (W : World) (hq : Reads W W.heap.size 2 A nn (sv (splitL secret tn nn seed))) :
    Calls Try.prog 15 #[.slice A nn c] W fun e w' => ∃ A' c', e = .returned (.tuple #[.slice A' nn c', .int .i64 0]) ∧ w'.ownsRow W.heap.size 43 2 (.slice A' nn c') nn (sv (pubL (splitL secret tn nn seed))) ∧ Ext W w' := by
  obtain ⟨p1, p2⟩ := pubO_split (secret := secret) (tn := tn) (seed := seed) h0 h3
  have hX : ∀ s ∈ splitL secret tn nn seed, s.2 < 18446744073709551616 := fun s hs => lt64_R (split_onP h3 s hs).range.2
  have h := shPublic_any (splitL secret tn nn seed) (split_wf h3) hX A c (by rw [splitL_length]; omega) W (by rw [splitL_length]; exact hq)
  rw [p1, p2, pubL_length, splitL_length] at h
  refine h.mono ?_
  rintro e w' ⟨A', c', he, hc', hr', hx', ho'⟩
  exact ⟨A', c', he, ho' (split_may h0 h3), hx'⟩

set_option maxRecDepth 100000 in
set_option maxHeartbeats 4000000 in
theorem walk_ShareSpoilt (secret : Nat) (t n : Int) (A : Option Addr) (c : Nat) (seed : List Nat) (wh : Int) (other : Nat) (hs : secret < 18446744073709551616) (ht : (Lit.int .i64 t).wf = true) (hn : (Lit.int .i64 n).wf = true) (hc : seed.length ≤ c) (hcr : c ≤ 140737488351232) (hseed : ∀ x ∈ seed, x < 256) (hwh : (Lit.int .u8 wh).wf = true) (hot : other < 18446744073709551616) (w : World) (hr : Reads w w.heap.size 1 A seed.length (bv seed)) :
    Calls Try.prog 10 #[.int .u64 secret, .int .i64 t, .int .i64 n, .slice A seed.length c, .int .u8 wh, .int .u64 other] w fun e w' => e = .returned (.bool true) ∧ Ext w w' := by
  have cl := fun W => live5_any W
  by_cases h : seed.length ≤ 300
  · have k1 : ¬ (300 : Int) < (seed.length : Int) := by omega
    by_cases hnt : n ≤ t
    · clear hr hc hcr hseed h hs ht hn hwh hot
      go_enter Try.func10, Try.ntmps10
      go_wp2_with (go_at_call 12; refine (cl _).mono ?_; clear cl; rintro e w1 ⟨rfl, x1⟩)
      go_ret
      exact ⟨rfl, x1⟩
    have c1 := fun (W : World) (x : Ext w W) => Split_any secret t n seed hseed (by omega) A c hc W ((hr.below x.out).more x.size)
    rcases split_cases secret t n seed with ⟨e1, e2⟩ | ⟨tn, nn, rfl, rfl, h1, h2, h3, h4, e1, e2⟩
    · rw [e1, e2] at c1
      clear hr hc hcr hseed h e1 e2 hs ht hn hwh hot
      go_enter Try.func10, Try.ntmps10
      go_wp2_with (first
        | (go_at_call 12; refine (cl _).mono ?_; clear cl; rintro e w1 ⟨rfl, x1⟩)
        | (go_at_call 13; refine (c1 _ x1).mono ?_; clear c1; rintro e w2 ⟨A2, d2, rfl, -, r2, x2⟩; have y2 := x1.trans x2))
      go_ret
      exact ⟨rfl, y2⟩
    · rw [e1, e2, splitL_length] at c1
      obtain ⟨m, rfl, hm⟩ := u8_of_wf hwh
      have cP := fun A c (W : World) hq => pubSplit_any (secret := secret) (tn := tn) (seed := seed) (show 1 ≤ nn by omega) h3 A c W hq
      have cB := fun W => Base_any other hot W
      obtain ⟨k, hkd⟩ : ∃ k, k = m % nn := ⟨_, rfl⟩
      have hkn : k < nn := by rw [hkd]; exact Nat.mod_lt _ (by omega)
      have kr : (m : Int).tmod (nn : Int) = (k : Int) := by
        rw [Int.tmod_eq_emod_of_nonneg (by omega), hkd]; rfl
      have hkI : (k : Int) < nn := by omega
      have hpk : (pubL (splitL secret tn nn seed))[k]? = some (((k + 1 : Nat) : Int), powM bQ 4 (evZ (polyN secret tn seed) (k + 1) % bR)) := pub_at (splitL_at secret tn nn seed hkn)
      have hset : (pubL (splitL secret tn nn seed)).set k (((k + 1 : Nat) : Int), powM bQ 4 other) = pubL ((splitL secret tn nn seed).set k (((k + 1 : Nat) : Int), other)) := pub_set _ _ _ _
      have hsv := sv_set_at hpk (powM bQ 4 other)
      have hw' : idsWf ((pubL (splitL secret tn nn seed)).set k (((k + 1 : Nat) : Int), powM bQ 4 other)) := by
        intro i hi
        obtain ⟨s, hs, rfl⟩ := List.mem_map.1 hi
        rcases List.mem_or_eq_of_mem_set hs with h' | rfl
        · exact pub_wf (split_wf h3) _ (List.mem_map.2 ⟨s, h', rfl⟩)
        · simp [Lit.wf, IntKind.min, IntKind.max, IntKind.signed, IntKind.bits]; omega
      have hX' : ∀ s ∈ (pubL (splitL secret tn nn seed)).set k (((k + 1 : Nat) : Int), powM bQ 4 other), s.2 < 18446744073709551616 := by rw [hset]; exact pub_64 _
      have hln : ((pubL (splitL secret tn nn seed)).set k (((k + 1 : Nat) : Int), powM bQ 4 other)).length = nn := by rw [List.length_set, pubL_length, splitL_length]
      have cC := fun A c (W : World) hcc hq => Check_any (tn : Int) ((pubL (splitL secret tn nn seed)).set k (((k + 1 : Nat) : Int), powM bQ 4 other)) hw' hX' A c hcc (by rw [hln]; omega) W hq
      rw [hln] at cC
      have hchk : (powM bQ 4 (evZ (polyN secret tn seed) (k + 1) % bR) = powM bQ 4 other → chkN tn ((pubL (splitL secret tn nn seed)).set k (((k + 1 : Nat) : Int), powM bQ 4 other)) = 0) ∧ (powM bQ 4 (evZ (polyN secret tn seed) (k + 1) % bR) ≠ powM bQ 4 other → chkN tn ((pubL (splitL secret tn nn seed)).set k (((k + 1 : Nat) : Int), powM bQ 4 other)) = 60) := by
        constructor
        · intro he
          rw [← he, set_self hpk]
          exact public_chk h1 h2 h3
        · intro hne
          rw [hset]
          exact spoilt_plain h1 (by omega) h3 hkn fun he => hne (by rw [← base_period, ← he, Nat.mod_mod, base_period])
      obtain ⟨old, hold⟩ : ∃ q, q = powM bQ 4 (evZ (polyN secret tn seed) (k + 1) % bR) := ⟨_, rfl⟩
      obtain ⟨new, hnew⟩ : ∃ q, q = powM bQ 4 other := ⟨_, rfl⟩
      rw [← hnew] at cB hsv cC hchk
      rw [← hold] at hchk hpk
      obtain ⟨pl, hpl⟩ : ∃ q, q = pubL (splitL secret tn nn seed) := ⟨_, rfl⟩
      rw [← hpl] at cP cC hsv hchk hpk
      obtain ⟨pl', hpl'⟩ : ∃ q, q = pl.set k (((k + 1 : Nat) : Int), new) := ⟨_, rfl⟩
      have hsv' : (sv pl).set (k * 2 + 1) (.int .u64 (new : Int)) = sv pl' := by rw [hpl']; exact hsv
      rw [← hpl'] at cC hchk
      have n1 : ((nn : Int) != (nn : Int)) = false := by simp
      have t3 : (nn : Int) ≤ 7 := by omega
      have t4 : (m : Int) ≤ 255 := by omega
      have t5 : (1 : Int) ≤ nn := by omega
      have h0n : 0 < nn := by omega
      have HPK := Lib.hid hpk
      have HSV := Lib.hid hsv'
      by_cases hsame : old = new
      · have d1 : ((old : Int) == (new : Int)) = true := by simp [hsame]
        rw [hchk.1 hsame] at cC
        have cC2 := cC
        clear hr hc hcr hseed h e1 e2 hs ht hn hwh hot hpk hset hsv hw' hX' hln hchk hold hnew hpl hpl' hsv' h1 h2 h3 h4 hm hkd hsame hkn
        go_enter Try.func10, Try.ntmps10
        go_wp2_with (first
          | (go_at_call 12; refine (cl _).mono ?_; clear cl; rintro e w1 ⟨rfl, x1⟩)
          | (go_at_call 13; refine (c1 _ x1).mono ?_; clear c1; rintro e w2 ⟨A2, d2, rfl, -, r2, x2⟩; have y2 := x1.trans x2)
          | (go_at_call 15; refine (cP _ _ _ r2).mono ?_; clear cP; rintro e w3 ⟨A3, d3, rfl, o3, x3⟩; have y3 := y2.trans x3; obtain ⟨g, cap, e', hgb, -⟩ := o3.form h0n; cases e')
          | (go_at_call 32; refine (cB _).mono ?_; clear cB; rintro e w4 ⟨rfl, x4⟩; have y4 := y3.trans x4; have O4 := Lib.hid (own_ext o3 x4); have q4 := (own_cells2 O4.out HPK.out).2; have f4 := O4.out.frozenAt (k * 2 + 1); have o5 := (O4.out.stored (k * 2 + 1) (.int .u64 (new : Int))).1; rw [HSV.out] at o5; obtain ⟨hc5, r5⟩ := own_reads2 o5; have R5 := Lib.hid r5; have Y5 := Lib.hid (y4.setCell (p := ⟨g, k * 2 + 1, none⟩) (Nat.le_trans y2.size hgb) (.int .u64 (new : Int))); clear o5 r5)
          | (go_at_call 22; refine (cC _ _ _ hc5 R5.out).mono ?_; clear cC; rintro e w6 ⟨rfl, x6⟩))
        go_ret
        exact ⟨rfl, Y5.out.trans x6⟩
      · have d1 : ((old : Int) == (new : Int)) = false := by rw [beq_eq_false_iff_ne]; exact fun he => hsame (Int.ofNat_inj.1 he)
        rw [hchk.2 hsame] at cC
        have cC2 := cC
        clear hr hc hcr hseed h e1 e2 hs ht hn hwh hot hpk hset hsv hw' hX' hln hchk hold hnew hpl hpl' hsv' h1 h2 h3 h4 hm hkd hsame hkn
        go_enter Try.func10, Try.ntmps10
        go_wp2_with (first
          | (go_at_call 12; refine (cl _).mono ?_; clear cl; rintro e w1 ⟨rfl, x1⟩)
          | (go_at_call 13; refine (c1 _ x1).mono ?_; clear c1; rintro e w2 ⟨A2, d2, rfl, -, r2, x2⟩; have y2 := x1.trans x2)
          | (go_at_call 15; refine (cP _ _ _ r2).mono ?_; clear cP; rintro e w3 ⟨A3, d3, rfl, o3, x3⟩; have y3 := y2.trans x3; obtain ⟨g, cap, e', hgb, -⟩ := o3.form h0n; cases e')
          | (go_at_call 32; refine (cB _).mono ?_; clear cB; rintro e w4 ⟨rfl, x4⟩; have y4 := y3.trans x4; have O4 := Lib.hid (own_ext o3 x4); have q4 := (own_cells2 O4.out HPK.out).2; have f4 := O4.out.frozenAt (k * 2 + 1); have o5 := (O4.out.stored (k * 2 + 1) (.int .u64 (new : Int))).1; rw [HSV.out] at o5; obtain ⟨hc5, r5⟩ := own_reads2 o5; have R5 := Lib.hid r5; have Y5 := Lib.hid (y4.setCell (p := ⟨g, k * 2 + 1, none⟩) (Nat.le_trans y2.size hgb) (.int .u64 (new : Int))); clear o5 r5)
          | (go_at_call 22; refine (cC _ _ _ hc5 R5.out).mono ?_; clear cC; rintro e w6 ⟨rfl, x6⟩)
          | (go_at_call 22; refine (cC2 _ _ _ hc5 ((R5.out.below x6.out).more x6.size)).mono ?_; clear cC2; rintro e w7 ⟨rfl, x7⟩))
        go_ret
        exact ⟨rfl, (Y5.out.trans x6).trans x7⟩
  · have k1 : (300 : Int) < (seed.length : Int) := by omega
    clear hr hc hcr hseed h hs ht hn hwh hot
    go_enter Try.func10, Try.ntmps10
    go_wp2_with (go_at_call 12; refine (cl _).mono ?_; clear cl; rintro e w1 ⟨rfl, x1⟩)
    go_ret
    exact ⟨rfl, x1⟩
end Go.Proofs.Ytaibpldolbemfaa
