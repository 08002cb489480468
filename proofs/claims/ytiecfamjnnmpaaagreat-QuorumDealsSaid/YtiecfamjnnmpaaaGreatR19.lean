/- Parts of the proofs, put together: QuP4, Qu16. -/
import Derived.StillTailTactics
import Derived.Test.YtiecfamjnnmpaaaGreatR18
/- Crews, plain: of a crew that was dealt whoever is enough signs; another part is found out. No walk here. -/
namespace Go.Proofs.YtiecfamjnnmpaaaGreat
set_option linter.unusedVariables false
attribute [local irreducible] mix hSum hNum coefN chalN atN qnN

theorem poly_zeroN {u tn : Nat} {seed : List Nat} (h : 1 ≤ tn) (hu : u < bR) : evZ (polyN u tn seed) 0 % bR = u := by
  have h1 := poly_zero (secret := u) (seed := seed) h
  have h2 := evI_cast (polyN u tn seed) 0
  have : (evZ (polyN u tn seed) 0 : Int) = u := by rw [← h2, ← h1]; rfl
  have : evZ (polyN u tn seed) 0 = u := by exact_mod_cast this
  rw [this, Nat.mod_eq_of_lt hu]
theorem split_idsN (u tn nn : Nat) (seed : List Nat) : (splitL u tn nn seed).map (fun s : Int × Nat => s.1) = idsN nn := split_ids
/-- A crew that was dealt is right. -/
theorem deal_crew {u tn nn : Nat} {seed : List Nat} (h1 : 1 ≤ tn) (h2 : tn ≤ nn) (h7 : nn ≤ 7) (hu : u < bR) : crewN tn nn (powM bQ 4 u) (pubL (splitL u tn nn seed)) = 0 := by
  have hids : (pubL (splitL u tn nn seed)).map (fun s : Int × Nat => s.1) = idsN nn := (pubL_ids _).trans (split_idsN u tn nn seed)
  have hrow : rowP (pubL (splitL u tn nn seed)) := by
    refine ⟨?_, List.all_eq_true.2 fun r hr => ?_⟩
    · rw [pubL_length, splitL_length]; exact hids
    · obtain ⟨s, hs, rfl⟩ := List.mem_map.1 hr
      exact inB_base s.2
  rw [crew_rest (by omega) (by omega) (by omega) (by rw [pubL_length, splitL_length]) (inB_base u) hrow, if_neg (by rw [public_chk h1 h2 h7]; simp), if_pos]
  rw [Int.toNat_natCast]
  have e : (pubL (splitL u tn nn seed)).take tn = pubL (splitL u tn tn seed) := by unfold pubL; rw [← List.map_take, split_take _ _ _ _ h2]
  have e1 : (pubL (splitL u tn tn seed)).map (fun s : Int × Nat => s.1) = (splitL u tn tn seed).map fun s : Int × Nat => s.1 := pubL_ids _
  have hri : rightB ((pubL (splitL u tn tn seed)).map fun s : Int × Nat => s.1) = true := by
    rw [e1]; exact (may_facts (split_may h1 (by omega))).1
  rw [e, joint_want hri, e1, want_pub, split_sum h1 (Nat.le_refl _) (by omega), poly_zeroN h1 hu]

/-! ### who takes part -/
def pickB (b : Nat → Bool) (l : List (Int × Nat)) (n : Nat) : List (Int × Nat) := (List.range n).filterMap fun i => if b i = true then l[i]? else none
theorem pickB_succ (b : Nat → Bool) (l : List (Int × Nat)) {n : Nat} {s : Int × Nat} (h : l[n]? = some s) : pickB b l (n + 1) = pickB b l n ++ if b n = true then [s] else [] := by
  unfold pickB
  rw [List.range_succ, List.filterMap_append]
  congr 1
  by_cases hb : b n = true
  · simp [hb, h]
  · simp [hb]
theorem pickB_sub (b : Nat → Bool) (l : List (Int × Nat)) : ∀ n, n ≤ l.length → List.Sublist (pickB b l n) (l.take n)
  | 0, _ => by simp [pickB]
  | n + 1, h => by
    have hs : l[n]? = some l[n] := List.getElem?_eq_getElem (by omega)
    rw [pickB_succ b l hs, List.take_add_one, hs]
    refine List.Sublist.append (pickB_sub b l n (by omega)) ?_
    split
    · exact List.Sublist.refl _
    · simp
theorem pickB_sub' (b : Nat → Bool) (l : List (Int × Nat)) {n : Nat} (h : n ≤ l.length) : List.Sublist (pickB b l n) l := (pickB_sub b l n h).trans (List.take_sublist _ _)
theorem pickB_all {b : Nat → Bool} {l : List (Int × Nat)} (h : ∀ i, i < l.length → b i = true) : pickB b l l.length = l := by
  have key : ∀ n, n ≤ l.length → pickB b l n = l.take n := by
    intro n
    induction n with
    | zero => intro _; simp [pickB]
    | succ n ih =>
      intro hn
      have hs : l[n]? = some l[n] := List.getElem?_eq_getElem (by omega)
      rw [pickB_succ b l hs, List.take_add_one, hs, ih (by omega), if_pos (h n (by omega))]; rfl
  rw [key _ (Nat.le_refl _), List.take_length]

/-- What some commit to, and their parts. -/
def comL (m : List Nat) (ss : Int) (S : List (Int × Nat)) : List (Int × Nat) := S.map fun s => (s.1, powM bQ 4 (qnN s.2 s.1.toNat ss.toNat m))
def parL (k : Nat) (m : List Nat) (ss : Int) (l S : List (Int × Nat)) : List (Int × Nat) := S.map fun s => (s.1, partS k m l s.1 s.2 ss)
theorem comL_ids (m : List Nat) (ss : Int) (S : List (Int × Nat)) : (comL m ss S).map (fun s : Int × Nat => s.1) = S.map fun s : Int × Nat => s.1 := by unfold comL; rw [List.map_map]; rfl
theorem parL_ids (k : Nat) (m : List Nat) (ss : Int) (l S : List (Int × Nat)) : (parL k m ss l S).map (fun s : Int × Nat => s.1) = S.map fun s : Int × Nat => s.1 := by unfold parL; rw [List.map_map]; rfl
theorem comL_length (m : List Nat) (ss : Int) (S : List (Int × Nat)) : (comL m ss S).length = S.length := List.length_map _
theorem parL_length (k : Nat) (m : List Nat) (ss : Int) (l S : List (Int × Nat)) : (parL k m ss l S).length = S.length := List.length_map _
theorem comL_append (m : List Nat) (ss : Int) (S T : List (Int × Nat)) : comL m ss (S ++ T) = comL m ss S ++ comL m ss T := List.map_append
theorem parL_append (k : Nat) (m : List Nat) (ss : Int) (l S T : List (Int × Nat)) : parL k m ss l (S ++ T) = parL k m ss l S ++ parL k m ss l T := List.map_append
theorem split_asc (u tn nn : Nat) (seed : List Nat) : (splitL u tn nn seed).Pairwise fun a b => a.1 < b.1 := by
  unfold splitL
  refine List.Pairwise.map _ (R := fun a b => a < b) (fun a b h => ?_) List.pairwise_lt_range
  simp only; omega
theorem split_id7 {u tn nn : Nat} {seed : List Nat} {s : Int × Nat} (h : s ∈ splitL u tn nn seed) : 1 ≤ s.1 ∧ s.1 ≤ nn := by
  obtain ⟨i, hi, rfl⟩ := List.mem_map.1 h
  rw [List.mem_range] at hi
  simp only; omega
theorem com_okC {u tn nn : Nat} {seed : List Nat} (m : List Nat) (ss : Int) {S : List (Int × Nat)} (hS : List.Sublist S (splitL u tn nn seed)) : okC nn (comL m ss S) := by
  refine ⟨List.pairwise_map.2 ((split_asc u tn nn seed).sublist hS), fun r hr => ?_⟩
  obtain ⟨s, hs, rfl⟩ := List.mem_map.1 hr
  have := split_id7 (hS.subset hs)
  exact ⟨this.1, this.2, inB_base _⟩
theorem com_en {u tn nn : Nat} {seed : List Nat} (m : List Nat) (ss : Int) {S : List (Int × Nat)} (hS : List.Sublist S (splitL u tn nn seed)) : enN tn nn (comL m ss S) = if S.length < tn then 50 else 0 := by
  unfold enN
  rw [if_pos (com_okC m ss hS), comL_length]
  by_cases h : S.length < tn
  · rw [if_pos h, if_pos (by omega)]
  · rw [if_neg h, if_neg (by omega)]
theorem com_of {u tn nn : Nat} {seed : List Nat} (m : List Nat) (ss : Int) {S : List (Int × Nat)} (hS : List.Sublist S (splitL u tn nn seed)) {s : Int × Nat} (hs : s ∈ S) : ofC (comL m ss S) s.1 = some (s.1, powM bQ 4 (qnN s.2 s.1.toNat ss.toNat m)) := by
  have hm : (s.1, powM bQ 4 (qnN s.2 s.1.toNat ss.toNat m)) ∈ comL m ss S := List.mem_map.2 ⟨s, hs, rfl⟩
  refine ofC_at (s := (s.1, powM bQ 4 (qnN s.2 s.1.toNat ss.toNat m))) ?_ hm
  rw [comL_ids]
  exact List.Pairwise.map _ (fun a b (hab : a.1 < b.1) e => by omega) ((split_asc u tn nn seed).sublist hS)
theorem share_com {u tn nn : Nat} {seed : List Nat} (h7 : nn ≤ 7) {ss : Int} (h0 : 0 ≤ ss) (ht : ss ≤ 1099511627776) {s : Int × Nat} (hs : s ∈ splitL u tn nn seed) (m : List Nat) : comE s.1 s.2 ss = 0 ∧ comS s.1 s.2 ss m = (s.1, powM bQ 4 (qnN s.2 s.1.toNat ss.toNat m)) := by
  have h1 := split_id7 hs
  have h2 := (split_onP h7 s hs).range.2
  have h3 : comE s.1 s.2 ss = 0 := by unfold comE; rw [if_neg (by omega)]
  refine ⟨h3, ?_⟩
  unfold comS; rw [if_pos h3]
theorem deal_partX {u tn nn : Nat} {seed : List Nat} {s : Int × Nat} (hs : s ∈ splitL u tn nn seed) : partX (pubL (splitL u tn nn seed)) s.1 = powM bQ 4 s.2 := by
  obtain ⟨i, hi, rfl⟩ := List.mem_map.1 hs
  rw [List.mem_range] at hi
  have h := pub_at (splitL_at u tn nn seed hi)
  unfold partX
  simp only
  rw [show (((i + 1 : Nat) : Int)).toNat - 1 = i by omega, h]
/-- A signer's part is right. -/
theorem part_right {u tn nn : Nat} {seed : List Nat} (m : List Nat) (ss : Int) {S : List (Int × Nat)} (hS : List.Sublist S (splitL u tn nn seed)) {s : Int × Nat} (hs : s ∈ S) (k : Nat) :
    rightN k (pubL (splitL u tn nn seed)) m (comL m ss S) s.1 (partS k m (comL m ss S) s.1 s.2 ss) = 0 := by
  unfold rightN
  rw [com_of m ss hS hs, deal_partX (hS.subset hs)]
  have hlt : partS k m (comL m ss S) s.1 s.2 ss < bR := addM_lt' (by decide) _ _
  simp only
  rw [if_neg (by omega), if_pos]
  unfold partS
  rw [base_add, mulM_comm bR, base_mul]
/-- Another one is not. -/
theorem part_wrong {u tn nn : Nat} {seed : List Nat} (m : List Nat) (ss : Int) {S : List (Int × Nat)} (hS : List.Sublist S (splitL u tn nn seed)) {s : Int × Nat} (hs : s ∈ S) (k : Nat) {by_ : Nat} (hb : by_ % bR ≠ 0) :
    rightN k (pubL (splitL u tn nn seed)) m (comL m ss S) s.1 (addM bR (partS k m (comL m ss S) s.1 s.2 ss) (by_ % bR)) = 60 := by
  have h := part_right m ss hS hs k
  unfold rightN at h ⊢
  rw [com_of m ss hS hs, deal_partX (hS.subset hs)] at h ⊢
  simp only at h ⊢
  obtain ⟨x, hx⟩ : ∃ x, x = partS k m (comL m ss S) s.1 s.2 ss := ⟨_, rfl⟩
  have hlt : x < bR := by rw [hx]; exact addM_lt' (by decide) _ _
  rw [← hx] at h ⊢
  rw [if_neg (by omega)] at h
  have h1 : powM bQ 4 x = mulM bQ (powM bQ 4 (qnN s.2 s.1.toNat ss.toNat m)) (powM bQ (powM bQ 4 s.2) (scN k m (comL m ss S) s.1)) := by
    split at h
    · assumption
    · cases h
  rw [← h1, if_neg (by have := addM_lt' (m := bR) (by decide) x (by_ % bR); omega), if_neg]
  intro he
  have he := base_inj he
  rw [Nat.mod_eq_of_lt (addM_lt' (by decide) _ _), Nat.mod_eq_of_lt hlt] at he
  unfold addM at he
  have hy : by_ % bR < bR := Nat.mod_lt _ (by decide)
  by_cases hc : x + by_ % bR < bR
  · rw [Nat.mod_eq_of_lt hc] at he; omega
  · rw [Nat.mod_eq_sub_mod (by omega), Nat.mod_eq_of_lt (by omega)] at he; omega
theorem deal_partE {u tn nn : Nat} {seed : List Nat} (h1 : 1 ≤ tn) (h2 : tn ≤ nn) (h7 : nn ≤ 7) (hu : u < bR) (m : List Nat) {ss : Int} (h0 : 0 ≤ ss) (ht : ss ≤ 1099511627776) {S : List (Int × Nat)} (hS : List.Sublist S (splitL u tn nn seed)) {s : Int × Nat} (hs : s ∈ S) :
    partE tn nn (powM bQ 4 u) (pubL (splitL u tn nn seed)) m (comL m ss S) s.1 s.2 ss = if S.length < tn then 50 else 0 := by
  obtain ⟨c1, c2⟩ := share_com h7 h0 ht (hS.subset hs) m
  have hp : preE tn nn (powM bQ 4 u) (pubL (splitL u tn nn seed)) (comL m ss S) s.1 s.2 ss = if S.length < tn then 50 else 0 := by
    unfold preE rowN
    rw [deal_crew h1 h2 h7 hu, if_pos rfl, c1, if_pos rfl]
    exact com_en m ss hS
  unfold partE
  rw [hp]
  by_cases h : S.length < tn
  · rw [if_pos h, if_neg (by decide)]
  · rw [if_neg h, if_pos rfl, com_of m ss hS hs, c2, if_pos rfl]
theorem deal_cmbE {u tn nn : Nat} {seed : List Nat} (h1 : 1 ≤ tn) (h2 : tn ≤ nn) (h7 : nn ≤ 7) (hu : u < bR) (m : List Nat) (ss : Int) {S : List (Int × Nat)} (hS : List.Sublist S (splitL u tn nn seed)) (q : List (Int × Nat)) :
    cmbE tn nn (powM bQ 4 u) (pubL (splitL u tn nn seed)) m (comL m ss S) q = if S.length < tn then 50 else allN (powM bQ 4 u) (pubL (splitL u tn nn seed)) m (comL m ss S) q := by
  unfold cmbE rowN
  rw [deal_crew h1 h2 h7 hu, if_pos rfl, com_en m ss hS]
  by_cases h : S.length < tn
  · rw [if_pos h, if_neg (by decide), if_pos h]
  · rw [if_neg h, if_pos rfl, if_neg h]
theorem deal_all {u tn nn : Nat} {seed : List Nat} (m : List Nat) (ss : Int) {S : List (Int × Nat)} (hS : List.Sublist S (splitL u tn nn seed)) (k : Nat) :
    allN k (pubL (splitL u tn nn seed)) m (comL m ss S) (parL k m ss (comL m ss S) S) = 0 := by
  refine all_ok ((parL_ids _ _ _ _ _).trans (comL_ids _ _ _).symm) fun r hr => ?_
  obtain ⟨s, hs, rfl⟩ := List.mem_map.1 hr
  exact part_right m ss hS hs k
/-- One part that is another one is found out. -/
theorem deal_wrong {u tn nn : Nat} {seed : List Nat} (m : List Nat) (ss : Int) {S : List (Int × Nat)} (hS : List.Sublist S (splitL u tn nn seed)) (k : Nat) {j : Nat} {s : Int × Nat} (hj : S[j]? = some s) {by_ : Nat} (hb : by_ % bR ≠ 0) :
    allN k (pubL (splitL u tn nn seed)) m (comL m ss S) ((parL k m ss (comL m ss S) S).set j (s.1, addM bR (partS k m (comL m ss S) s.1 s.2 ss) (by_ % bR))) = 60 := by
  have hjl : j < S.length := (List.getElem?_eq_some_iff.1 hj).1
  have hs : s ∈ S := List.mem_of_getElem? hj
  have hw := part_wrong m ss hS hs k hb
  have hids : ((parL k m ss (comL m ss S) S).set j (s.1, addM bR (partS k m (comL m ss S) s.1 s.2 ss) (by_ % bR))).map (fun s : Int × Nat => s.1) = (comL m ss S).map fun s : Int × Nat => s.1 := by
    rw [List.map_set, parL_ids, comL_ids]
    refine List.ext_getElem? fun i => ?_
    rw [List.getElem?_set]
    by_cases hi : j = i
    · subst hi
      rw [if_pos rfl, List.length_map, if_pos hjl, List.getElem?_map, hj]; rfl
    · rw [if_neg hi]
  rw [all_bad (j := j) (s := (s.1, addM bR (partS k m (comL m ss S) s.1 s.2 ss) (by_ % bR))) hids ?_ ?_ ?_]
  · exact hw
  · rw [List.getElem?_set, if_pos rfl, if_pos (by rw [parL_length]; exact hjl)]
  · intro r hr
    rw [List.take_set_of_le (Nat.le_refl _)] at hr
    obtain ⟨s', hs', rfl⟩ := List.mem_map.1 (List.mem_of_mem_take hr)
    exact part_right m ss hS hs' k
  · rw [hw]; exact fun h => by cases h
/-- Of a signer just one part is right. -/
theorem holds_plain {t n : Int} {k : Nat} {p : List (Int × Nat)} {m : List Nat} {l : List (Int × Nat)} {id : Int} {a : Nat} (ha : a < bR) :
    (cpN t n k p m l id a = 0 ∧ cpN t n k p m l id (addM bR a 1) = 60) ∨ cpN t n k p m l id a = 60 ∨ (cpN t n k p m l id a ≠ 0 ∧ cpN t n k p m l id a = cpN t n k p m l id (addM bR a 1)) := by
  unfold cpN rowN
  by_cases h1 : crewN t n k p = 0
  · rw [if_pos h1, if_pos h1]
    by_cases h2 : enN t n l = 0
    · rw [if_pos h2, if_pos h2]
      unfold rightN
      cases ofC l id with
      | none => exact .inr (.inr ⟨Nat.one_ne_zero, rfl⟩)
      | some s =>
        simp only
        have hlt := addM_lt' (m := bR) (by decide) a 1
        rw [if_neg (show ¬ bR ≤ a by omega), if_neg (show ¬ bR ≤ addM bR a 1 by omega)]
        split
        · rename_i he
          refine .inl ⟨rfl, ?_⟩
          rw [if_neg]
          intro h
          rw [← he] at h
          have h := base_inj h
          rw [Nat.mod_eq_of_lt hlt, Nat.mod_eq_of_lt ha] at h
          unfold addM at h
          by_cases hc : a + 1 < bR
          · rw [Nat.mod_eq_of_lt hc] at h; omega
          · rw [show a + 1 = bR by omega, Nat.mod_self] at h
            have : bR = 1 := by omega
            exact absurd this (by decide)
        · exact .inr (.inl rfl)
    · rw [if_neg h2, if_neg h2]; exact .inr (.inr ⟨h2, rfl⟩)
  · rw [if_neg h1, if_neg h1]; exact .inr (.inr ⟨h1, rfl⟩)
end Go.Proofs.YtiecfamjnnmpaaaGreat

/- Statements of crews, walked: signed. -/
namespace Go.Proofs.YtiecfamjnnmpaaaGreat
set_option linter.unusedVariables false
open Go.RowKit Go.Shelf Go.Maps
attribute [local irreducible] atN prodN sumN wantN chkN mix hSum hNum chalN chN scN qnN crewN enN rightN allN comE comS splitL

/-- A bit of who takes part. -/
def bitI (who : Int) (j : Nat) : Int := bits .and .i64 (who / 2 ^ j) 1
theorem bitI_cases (who : Int) (j : Nat) : bitI who j = 0 ∨ bitI who j = 1 := by
  unfold bitI bits
  simp only
  have h : (BitVec.ofInt IntKind.i64.bits (who / 2 ^ j) &&& BitVec.ofInt IntKind.i64.bits 1).toNat = (BitVec.ofInt IntKind.i64.bits (who / 2 ^ j)).toNat % 2 := by
    rw [BitVec.toNat_and, show (BitVec.ofInt IntKind.i64.bits 1).toNat = 1 by decide, Nat.and_one_is_mod]
  rw [h]
  have h2 : (BitVec.ofInt IntKind.i64.bits (who / 2 ^ j)).toNat % 2 < 2 := Nat.mod_lt _ (by decide)
  obtain ⟨x, hx⟩ : ∃ x, x = (BitVec.ofInt IntKind.i64.bits (who / 2 ^ j)).toNat % 2 := ⟨_, rfl⟩
  rw [← hx] at h2 ⊢
  have : x = 0 ∨ x = 1 := by omega
  rcases this with rfl | rfl
  · exact .inl (by decide)
  · exact .inr (by decide)
def bitB (who : Int) (j : Nat) : Bool := decide (bitI who j = 1)
/-- Who takes part. -/
def whoL (u tn nn : Nat) (seed : List Nat) (who : Int) : List (Int × Nat) := pickB (bitB who) (splitL u tn nn seed) nn
theorem whoL_sub (u tn nn : Nat) (seed : List Nat) (who : Int) : List.Sublist (whoL u tn nn seed who) (splitL u tn nn seed) := pickB_sub' _ _ (by rw [splitL_length]; exact Nat.le_refl _)
theorem whoL_len (u tn nn : Nat) (seed : List Nat) (who : Int) : (whoL u tn nn seed who).length ≤ nn := by
  have := (whoL_sub u tn nn seed who).length_le
  rwa [splitL_length] at this
/-- What is made of whoever takes part. -/
def qsC (u tn nn : Nat) (seed m : List Nat) (who ss : Int) : List (Int × Nat) := comL m ss (whoL u tn nn seed who)
def qsP (u tn nn : Nat) (seed m : List Nat) (who ss : Int) : List (Int × Nat) := if (whoL u tn nn seed who).length < tn then [] else parL (powM bQ 4 u) m ss (qsC u tn nn seed m who ss) (whoL u tn nn seed who)
def qsS (u tn nn : Nat) (seed m : List Nat) (who ss : Int) : Nat × Nat := if (whoL u tn nn seed who).length < tn then (0, 0) else (chN (powM bQ 4 u) m (qsC u tn nn seed m who ss), sumQ (qsP u tn nn seed m who ss))
def qsE (u tn nn : Nat) (seed : List Nat) (who : Int) : Nat := if (whoL u tn nn seed who).length < tn then 50 else 0

theorem cpub_wf {u tn nn : Nat} {seed : List Nat} (h7 : nn ≤ 7) (m : List Nat) (ss : Int) {S : List (Int × Nat)} (hS : List.Sublist S (splitL u tn nn seed)) : idsWf (comL m ss S) := by
  intro i hi
  rw [show (comL m ss S).map (fun s : Int × Nat => s.1) = S.map fun s : Int × Nat => s.1 from comL_ids _ _ _] at hi
  obtain ⟨s, hs, rfl⟩ := List.mem_map.1 hi
  exact qsplit_wf h7 _ (List.mem_map.2 ⟨s, hS.subset hs, rfl⟩)
theorem com_64 (m : List Nat) (ss : Int) (S : List (Int × Nat)) : ∀ s ∈ comL m ss S, s.2 < 18446744073709551616 := by
  intro s hs
  obtain ⟨r, -, rfl⟩ := List.mem_map.1 hs
  exact lt64_Q (powM_lt (by decide) _ _)
theorem par_64 (k : Nat) (m : List Nat) (ss : Int) (l S : List (Int × Nat)) : ∀ s ∈ parL k m ss l S, s.2 < 18446744073709551616 := by
  intro s hs
  obtain ⟨r, -, rfl⟩ := List.mem_map.1 hs
  exact lt64_R (addM_lt' (by decide) _ _)
theorem deal_sesV {u tn nn : Nat} {seed : List Nat} (h7 : nn ≤ 7) {m : List Nat} (hm : ∀ y ∈ m, y < 256) (hl : m.length ≤ 1000) (ss : Int) {S : List (Int × Nat)} (hS : List.Sublist S (splitL u tn nn seed)) : SesV (powM bQ 4 u) (pubL (splitL u tn nn seed)) m (comL m ss S) where
  k64 := lt64_Q (powM_lt (by decide) _ _)
  pw := qpub_wf (qsplit_wf h7)
  p64 := qpub_64 _
  pn := by rw [pubL_length, splitL_length]; omega
  mb := hm
  mn := hl
  lw := cpub_wf h7 m ss hS
  l64 := com_64 m ss S
  ln := by have := hS.length_le; rw [splitL_length] at this; rw [comL_length]; omega

/-- What is handed back. -/
def SgPost (u tn nn : Nat) (seed m : List Nat) (who ss : Int) (w : World) (e : Ending) (w' : World) : Prop :=
  ∃ A a B b, e = .returned (.tuple #[.slice A (whoL u tn nn seed who).length a, .slice B (qsP u tn nn seed m who ss).length b, .agg #[.int .u64 ((qsS u tn nn seed m who ss).1 : Int), .int .u64 ((qsS u tn nn seed m who ss).2 : Int)], .int .i64 (qsE u tn nn seed who : Nat)]) ∧
        (whoL u tn nn seed who).length ≤ a ∧ (qsP u tn nn seed m who ss).length ≤ b ∧ Reads w' w'.heap.size 2 A (whoL u tn nn seed who).length (sv (qsC u tn nn seed m who ss)) ∧ Reads w' w'.heap.size 2 B (qsP u tn nn seed m who ss).length (sv (qsP u tn nn seed m who ss)) ∧ Ext w w'
theorem SgPost.few {u tn nn : Nat} {seed m : List Nat} {who ss : Int} {w w' : World} {S C : List (Int × Nat)} (hS : S = whoL u tn nn seed who) (hC : C = comL m ss S) (hf : S.length < tn) {A B : Option Addr} {a b : Nat} (ha : S.length ≤ a) (hr : Reads w' w'.heap.size 2 A S.length (sv C)) (x : Ext w w') :
    SgPost u tn nn seed m who ss w (.returned (.tuple #[.slice A S.length a, .slice B 0 b, .agg #[.int .u64 0, .int .u64 0], .int .i64 50])) w' := by
  subst hS hC
  refine ⟨A, a, B, b, ?_, ha, ?_, hr, ?_, x⟩ <;> unfold qsP
  · unfold qsS qsE
    rw [if_pos hf, if_pos hf, if_pos hf]; rfl
  · rw [if_pos hf]; exact Nat.zero_le _
  · rw [if_pos hf]; exact ⟨rfl, fun h => absurd h (by simp)⟩
theorem SgPost.ok {u tn nn : Nat} {seed m : List Nat} {who ss : Int} {w w' : World} {S C q : List (Int × Nat)} {k : Nat} (hS : S = whoL u tn nn seed who) (hC : C = comL m ss S) (hk : k = powM bQ 4 u) (hq : q = parL k m ss C S) (hf : ¬ S.length < tn) {A B : Option Addr} {a b : Nat} (ha : S.length ≤ a) (hb : S.length ≤ b) (hr : Reads w' w'.heap.size 2 A S.length (sv C)) (hr2 : Reads w' w'.heap.size 2 B S.length (sv q)) (x : Ext w w') :
    SgPost u tn nn seed m who ss w (.returned (.tuple #[.slice A S.length a, .slice B S.length b, .agg #[.int .u64 (chN k m C : Nat), .int .u64 (sumQ q : Nat)], .int .i64 0])) w' := by
  subst hS hC hk hq
  refine ⟨A, a, B, b, ?_, ha, ?_, hr, ?_, x⟩ <;> unfold qsP
  · unfold qsS qsE
    rw [if_neg hf, if_neg hf, if_neg hf, parL_length]; unfold qsP; rw [if_neg hf]; rfl
  · rw [if_neg hf, parL_length]; exact hb
  · rw [if_neg hf, parL_length]; exact hr2

set_option maxRecDepth 100000 in
set_option maxHeartbeats 4000000 in
theorem signed_any (u tn nn : Nat) (seed : List Nat) (h1 : 1 ≤ tn) (h2 : tn ≤ nn) (h3 : nn ≤ 7) (hu : u < bR) (m : List Nat) (hm : ∀ y ∈ m, y < 256) (hl : m.length ≤ 1000) (who ss : Int) (hs0 : 0 ≤ ss) (hst : ss ≤ 1099511627776) (P L M : Option Addr) (c1 c2 c3 : Nat) (k1 : nn ≤ c1) (k2 : nn ≤ c2) (k3 : m.length ≤ c3) (w : World)
    (rp : Reads w w.heap.size 2 P nn (sv (pubL (splitL u tn nn seed)))) (rl : Reads w w.heap.size 2 L nn (sv (splitL u tn nn seed))) (rm : Reads w w.heap.size 1 M m.length (bv m)) :
    Calls Tryz.prog 23 #[.agg #[.int .i64 (tn : Int), .int .i64 (nn : Int), .int .u64 (powM bQ 4 u : Nat), .slice P nn c1], .slice L nn c2, .int .i64 who, .int .i64 ss, .slice M m.length c3] w fun e w' =>
      SgPost u tn nn seed m who ss w e w' := by
  obtain ⟨i1, hi1, hz3, hz4, hz5⟩ := info_parts Tryz.infoSh
  have HcC := Lib.hid fun (W : World) (x : Ext w W) (s : Int × Nat) (hs : s ∈ splitL u tn nn seed) => Commit_any s.1 s.2 (lt64_R (split_onP h3 s hs).range.2) ss m hm hl M c3 k3 W ((rm.below x.out).more x.size)
  have HcP := Lib.hid fun (W : World) (x : Ext w W) (s : Int × Nat) (hs : s ∈ splitL u tn nn seed) (S : List (Int × Nat)) (hS : List.Sublist S (splitL u tn nn seed)) (B : Option Addr) (e : Nat) (he : (comL m ss S).length ≤ e) (hq : Reads W W.heap.size 2 B (comL m ss S).length (sv (comL m ss S))) =>
    Part_any tn nn (powM bQ 4 u) (pubL (splitL u tn nn seed)) m (comL m ss S) (deal_sesV h3 hm hl ss hS) s.1 s.2 (lt64_R (split_onP h3 s hs).range.2) ss P M B c1 c3 e (by rw [pubL_length, splitL_length]; exact k1) k3 he W (by rw [pubL_length, splitL_length]; exact (rp.below x.out).more x.size) ((rm.below x.out).more x.size) hq
  have HcX := Lib.hid fun (W : World) (x : Ext w W) (S : List (Int × Nat)) (hS : List.Sublist S (splitL u tn nn seed)) (q : List (Int × Nat)) (hq64 : ∀ s ∈ q, s.2 < 18446744073709551616) (hqn : q.length ≤ 1099511627776) (B D : Option Addr) (e f : Nat) (he : (comL m ss S).length ≤ e) (hb : Reads W W.heap.size 2 B (comL m ss S).length (sv (comL m ss S))) (hd : Reads W W.heap.size 2 D q.length (sv q)) =>
    Combine_any tn nn (powM bQ 4 u) (pubL (splitL u tn nn seed)) m (comL m ss S) (deal_sesV h3 hm hl ss hS) q hq64 hqn P M B D c1 c3 e f (by rw [pubL_length, splitL_length]; exact k1) k3 he W (by rw [pubL_length, splitL_length]; exact (rp.below x.out).more x.size) ((rm.below x.out).more x.size) hb hd
  have HpE := Lib.hid fun (S : List (Int × Nat)) (hS : List.Sublist S (splitL u tn nn seed)) (s : Int × Nat) (hs : s ∈ S) => deal_partE h1 h2 h3 hu m hs0 hst hS hs
  have HxE := Lib.hid fun (S : List (Int × Nat)) (hS : List.Sublist S (splitL u tn nn seed)) (q : List (Int × Nat)) => deal_cmbE h1 h2 h3 hu m ss hS q
  have HSC := Lib.hid fun (s : Int × Nat) (hs : s ∈ splitL u tn nn seed) => share_com h3 hs0 hst hs m
  have HLN := Lib.hid (splitL_length u tn nn seed)
  have HWL := Lib.hid (whoL_len u tn nn seed who)
  have RL := Lib.hid rl
  have h7 : (nn : Int) ≤ 7 := by omega
  clear rm rp rl h1 h2 hu hm hl hs0 hst k1 k2 k3
  go_enter Tryz.func23, Tryz.ntmps23
  go_wp2
  obtain ⟨W0, e0⟩ : ∃ W, W = (w.alloc (.cells #[.int .i64 (tn : Int), .int .i64 (nn : Int), .int .u64 (powM bQ 4 u : Nat), .slice P nn c1] 26)).alloc (.cells #[.int .u64 0, .int .u64 0] 42) := ⟨_, rfl⟩
  have HX0 : Hid (Ext w W0) := Lib.hid (by rw [e0]; exact ((Ext.refl w).alloc _).alloc _)
  have HB0 : Hid (Blk W0 w.heap.size 26 #[.int .i64 (tn : Int), .int .i64 (nn : Int), .int .u64 (powM bQ 4 u : Nat), .slice P nn c1]) := Lib.hid (by rw [e0]; exact (Blk.new w _ _).alloc _)
  have HB1 : Hid (Blk W0 (w.heap.size + 1) 42 #[.int .u64 0, .int .u64 0]) := Lib.hid (by rw [e0]; have := Blk.new (w.alloc (.cells #[.int .i64 (tn : Int), .int .i64 (nn : Int), .int .u64 (powM bQ 4 u : Nat), .slice P nn c1] 26)) 42 #[.int .u64 0, .int .u64 0]; rw [World.size_alloc] at this; exact this)
  rw [← e0]
  clear e0
  go_loopg [14, 16] nn (fun q s14 s16 wr => ∃ j : Nat, j + q = nn ∧ s16 = .int .i64 j ∧ wr.ownsRow W0.heap.size 37 2 s14 (pickB (bitB who) (splitL u tn nn seed) j).length (sv (comL m ss (pickB (bitB who) (splitL u tn nn seed) j))) ∧ Ext W0 wr)
  case atStart => exact ⟨0, by omega, rfl, own_nil W0 _ _ _, Ext.refl W0⟩
  case round =>
    obtain ⟨j, hj, rfl, hown, hx⟩ := hrel
    by_cases h : j < nn
    · have hjn : (j : Int) < nn := by omega
      have hj7 : (j : Int) < 7 := by omega
      obtain ⟨s, hs⟩ : ∃ s, (splitL u tn nn seed)[j]? = some s := ⟨_, List.getElem?_eq_getElem (by rw [HLN.out]; exact h)⟩
      have hsm := List.mem_of_getElem? hs
      obtain ⟨ad, rfl, hlt, q0, q1⟩ := reads_share (RL.out.below (HX0.out.trans hx).out) hs
      have cC := fun (W : World) (x : Ext w W) => HcC.out W x s hsm
      unfold comV at cC
      rw [(HSC.out s hsm).1, (HSC.out s hsm).2] at cC
      simp only at cC
      have hsucc := pickB_succ (bitB who) (splitL u tn nn seed) hs
      obtain ⟨y, hy⟩ : ∃ y, y = powM bQ 4 (qnN s.2 s.1.toNat ss.toNat m) := ⟨_, rfl⟩
      have hcl : comL m ss [s] = [(s.1, y)] := by rw [hy]; rfl
      rw [← hy] at cC
      obtain ⟨S, hS⟩ : ∃ S, S = pickB (bitB who) (splitL u tn nn seed) j := ⟨_, rfl⟩
      have hSl : S.length ≤ 7 := by
        have := (pickB_sub (bitB who) (splitL u tn nn seed) j (by rw [HLN.out]; omega)).length_le
        rw [← hS, List.length_take, HLN.out] at this
        omega
      rw [← hS] at hown hsucc
      have hse : sv [(s.1, y)] = [.int .i64 s.1, .int .u64 (y : Int)] := rfl
      have HX := Lib.hid hx
      have HJ := Lib.hid hj
      have HSE := Lib.hid hse
      have HSU := Lib.hid hsucc
      have HCL := Lib.hid hcl
      have HOW := Lib.hid hown
      have HSLL := Lib.hid hSl
      rcases bitI_cases who j with hb | hb
      · have t1 : (bits .and .i64 (who / 2 ^ j) 1 == 1) = false := by unfold bitI at hb; rw [hb]; rfl
        have e2 : bitB who j = false := by unfold bitB; rw [hb]; rfl
        have HE2 := Lib.hid e2
        clear hx hj hs hsm hown hS hSl hse hsucc hcl hy hb e2
        go_wp2_with (go_at_call 15; refine (cC _ (HX0.out.trans HX.out)).mono ?_; clear cC; rintro e w1 ⟨rfl, x1⟩)
        have hj := HJ.out
        go_roundg (gk - 1)
        case measure => omega
        case rel => exact ⟨j + 1, by omega, int_congr (by omega), by rw [HSU.out, if_neg (by rw [HE2.out]; exact Bool.false_ne_true), List.append_nil]; exact own_ext HOW.out (x1.alloc _), HX.out.trans (x1.alloc _)⟩
      · have t1 : (bits .and .i64 (who / 2 ^ j) 1 == 1) = true := by unfold bitI at hb; rw [hb]; rfl
        have e2 : bitB who j = true := by unfold bitB; rw [hb]; rfl
        have HE2 := Lib.hid e2
        clear hx hj hs hsm hown hS hSl hse hsucc hcl hy hb e2
        go_wp2_with (first
          | (go_at_call 15; refine (cC _ (HX0.out.trans HX.out)).mono ?_; clear cC; rintro e w1 ⟨rfl, x1⟩; have q2 := fun o => (two ((Blk.new w1 37 #[.int .i64 s.1, .int .u64 (y : Int)]).alloc o)).1; have q3 := fun o => (two ((Blk.new w1 37 #[.int .i64 s.1, .int .u64 (y : Int)]).alloc o)).2)
          | (at_builtin; refine wpList_append_own _ rfl (.tmp 54) (.tmp 56) 24 rfl W0.heap.size 37 i1 (.agg #[.int .i64 0, .int .u64 0]) 2 16 Tryz.underlying24 hi1 hz3 hz4 hz5 rfl (by decide) _ _ _ rfl (own_ext HOW.out ((x1.alloc _).alloc _)) ⟨w1.heap.size + 1, 0, none⟩ 1 1 [.int .i64 s.1, .int .u64 (y : Int)] rfl rfl (by have := cell_two_new (w1.alloc (.cells #[.int .i64 s.1, .int .u64 (y : Int)] 37)) (.int .i64 s.1) (.int .u64 (y : Int)) 37; rw [World.size_alloc] at this; exact this) (by simp [Value.oneCell']) (by have := HSLL.out; simp only [maxLen]; omega) (by have := HSLL.out; omega) (by have := (HX.out.trans x1).size; simp; omega) ?_; intro v4 w4 hown4 hg4 _))
        have X4 := ext_grown (HX.out.trans ((x1.alloc _).alloc _)) (own_ext HOW.out ((x1.alloc _).alloc _)) hg4
        have hj := HJ.out
        go_wp2
        go_roundg (gk - 1)
        case measure => omega
        case rel => exact ⟨j + 1, by omega, int_congr (by omega), by rw [HSU.out, if_pos HE2.out, comL_append, HCL.out, sv_append, HSE.out, List.length_append]; exact hown4, X4⟩
    · obtain rfl : j = nn := by omega
      obtain ⟨A, a, rfl, ha, hr⟩ := own_slice2 hown
      have hSsub := whoL_sub u tn j seed who
      have hSe : pickB (bitB who) (splitL u tn j seed) j = whoL u tn j seed who := rfl
      rw [hSe] at ha hr ⊢
      have hpe := HpE.out _ hSsub
      have hxe := HxE.out _ hSsub
      have hcx := fun (W : World) (x : Ext w W) => HcX.out W x _ hSsub
      have hcp := fun (W : World) (x : Ext w W) s hs => HcP.out W x s hs _ hSsub
      have hlen := HWL.out
      have hd1 := deal_all (u := u) (tn := tn) (nn := j) (seed := seed) m ss hSsub (powM bQ 4 u)
      obtain ⟨S, hS⟩ : ∃ S, S = whoL u tn j seed who := ⟨_, rfl⟩
      rw [← hS] at ha hr hpe hxe hcx hcp hlen hd1 ⊢
      have hcl := comL_length m ss S
      have h64 := com_64 m ss S
      obtain ⟨C, hC⟩ : ∃ C, C = comL m ss S := ⟨_, rfl⟩
      rw [← hC] at hr hpe hxe hcx hcp hcl hd1
      simp only [hcl, pubL_length, HLN.out] at hcx hcp
      obtain ⟨k, hk⟩ : ∃ k, k = powM bQ 4 u := ⟨_, rfl⟩
      have HB0' := HB0.out
      rw [← hk] at hpe hxe hcx hcp hd1 HB0' ⊢
      have HB0 := Lib.hid HB0'
      have HR := Lib.hid hr
      have HX1 := Lib.hid hx
      have HS := Lib.hid hS
      have HC := Lib.hid hC
      have HK := Lib.hid hk
      have HPE := Lib.hid hpe
      have HXE := Lib.hid hxe
      have HCX := Lib.hid hcx
      have HCP := Lib.hid hcp
      have HLEN := Lib.hid hlen
      have HD1 := Lib.hid hd1
      have HA := Lib.hid ha
      have HAF := Lib.hid (own_fresh hown)
      have hl7 : (S.length : Int) ≤ 7 := by omega
      obtain ⟨W1, e1⟩ : ∃ W, W = wr := ⟨_, rfl⟩
      subst e1
      clear hr hx hS hC hk hpe hxe hcx hcp hlen hd1 hcl h64 hSsub hSe hown hj h HB0' ha HcC HcP HcX HpE HxE HWL HSC
      go_wp2
      go_loopg [15, 19] j (fun q s15 s19 wr => ∃ i : Nat, i + q = j ∧ s19 = .int .i64 i ∧ wr.ownsRow W1.heap.size 37 2 s15 (pickB (bitB who) (splitL u tn j seed) i).length (sv (parL k m ss C (pickB (bitB who) (splitL u tn j seed) i))) ∧ Ext W1 wr ∧ (S.length < tn → pickB (bitB who) (splitL u tn j seed) i = []))
      case atStart => exact ⟨0, by omega, rfl, own_nil W1 _ _ _, Ext.refl W1, fun _ => rfl⟩
      case round =>
        obtain ⟨i, hi, rfl, hown, hx, hfw⟩ := hrel
        by_cases h : i < j
        · have hin : (i : Int) < j := by omega
          have hi7 : (i : Int) < 7 := by omega
          obtain ⟨s, hs⟩ : ∃ s, (splitL u tn j seed)[i]? = some s := ⟨_, List.getElem?_eq_getElem (by rw [HLN.out]; exact h)⟩
          have hsm := List.mem_of_getElem? hs
          have hsucc := pickB_succ (bitB who) (splitL u tn j seed) hs
          have hX2 := HX1.out.trans hx
          have HJ := Lib.hid hi
          have HX := Lib.hid hx
          have HOW := Lib.hid hown
          have HFW := Lib.hid hfw
          have HSU := Lib.hid hsucc
          rcases bitI_cases who i with hb | hb
          · have t1 : (bits .and .i64 (who / 2 ^ i) 1 == 0) = true := by unfold bitI at hb; rw [hb]; rfl
            have e2 : bitB who i = false := by unfold bitB; rw [hb]; rfl
            have HE2 := Lib.hid e2
            clear hx hi hs hsm hown hfw hsucc hX2 hb e2
            go_wp2
            have hj := HJ.out
            go_roundg (gk - 1)
            case measure => omega
            case rel =>
              have e3 : pickB (bitB who) (splitL u tn j seed) (i + 1) = pickB (bitB who) (splitL u tn j seed) i := by rw [HSU.out, if_neg (by rw [HE2.out]; exact Bool.false_ne_true), List.append_nil]
              exact ⟨i + 1, by omega, int_congr (by omega), by rw [e3]; exact HOW.out, HX.out, by rw [e3]; exact HFW.out⟩
          · have t1 : (bits .and .i64 (who / 2 ^ i) 1 == 0) = false := by unfold bitI at hb; rw [hb]; rfl
            have e2 : bitB who i = true := by unfold bitB; rw [hb]; rfl
            have hsS : s ∈ S := by
              rw [HS.out]
              refine List.mem_filterMap.2 ⟨i, List.mem_range.2 h, ?_⟩
              rw [if_pos e2]; exact hs
            obtain ⟨ad, rfl, hlt, q0, q1⟩ := reads_share (RL.out.below (HX0.out.trans hX2).out) hs
            have hpeS := HPE.out s hsS
            have hb0 := ext_blk hX2 HB0.out
            obtain ⟨p0, p1, p2, p3⟩ := arr4 hb0
            have hr1 := (HR.out.below HX.out.out).more HX.out.size
            have cP := fun (W : World) (x : Ext wr W) => HCP.out W ((HX0.out.trans hX2).trans x) s hsm A a HA.out ((hr1.below x.out).more x.size)
            unfold partV at cP
            rw [hpeS] at cP
            have HX2 := Lib.hid hX2
            have HR1 := Lib.hid hr1
            have HBB1 := Lib.hid (ext_blk hX2 HB1.out)
            have fA := Lib.hid (fun ad e => Nat.ne_of_gt (Nat.lt_of_lt_of_le HB1.out.lt (HAF.out ad e)) : ∀ ad, A = some ad → ad.block ≠ w.heap.size + 1)
            by_cases hf : S.length < tn
            · rw [if_pos hf, if_neg (by decide)] at cP
              have HF := Lib.hid hf
              clear hx hi hs hsm hown hfw hsucc hX2 hb e2 hsS hpeS hb0 hr1 hf
              go_wp2
              have n0 := World.new_ne wr ⟨w.heap.size, 0, none⟩ p0
              have n4 := World.new_ne wr _ q0
              simp only at n0
              go_region_held3 (fun w' => w'.cell? ⟨w.heap.size, 0, none⟩ = some (.int .i64 (tn : Int)) ∧ w'.cell? ⟨w.heap.size, 1, none⟩ = some (.int .i64 (j : Int)) ∧ w'.cell? ⟨w.heap.size, 2, none⟩ = some (.int .u64 (k : Int)) ∧ w'.cell? ⟨w.heap.size, 3, none⟩ = some (.slice P j c1) ∧ w'.cell? (ad.add (i * 2)) = some (.int .i64 s.1) ∧ w'.cell? ⟨(ad.add (i * 2)).block, (ad.add (i * 2)).off + 1, none⟩ = some (.int .u64 (s.2 : Int))) (go_keep) (first
                | (go_at_call 19; (with_reducible refine (cP _ (Ext.refl wr).drew).mono ?_); clear cP; rintro e w1 ⟨rfl, x1⟩; have X1 := (Ext.refl wr).drew.trans x1; have r0 := X1.cell p0; have r1 := X1.cell p1; have r2 := X1.cell p2; have r3 := X1.cell p3; have r4 := X1.cell q0; have r5 := X1.cell q1; have n1 := World.new_ne w1 ⟨w.heap.size, 0, none⟩ r0; have n5 := World.new_ne w1 _ r4; simp only at n1)
                | (go_at_call 19; (with_reducible refine (cP _ ((Ext.refl wr).alloc (.cells #[.int .i64 0, .int .u64 0] 37)).drew).mono ?_); clear cP; rintro e w1 ⟨rfl, x1⟩; have X1 := ((Ext.refl wr).alloc (.cells #[.int .i64 0, .int .u64 0] 37)).drew.trans x1; have r0 := X1.cell p0; have r1 := X1.cell p1; have r2 := X1.cell p2; have r3 := X1.cell p3; have r4 := X1.cell q0; have r5 := X1.cell q1; have hbn := ext_blk x1 (Blk.new wr 37 #[.int .i64 0, .int .u64 0]).drew; have y0 := (two hbn).1; have y1 := (two hbn).2; have y2 := hbn.frozen 0; have y3 := hbn.frozen 1))
              all_goals first
                | (obtain ⟨W2, e2⟩ : ∃ W, W = w1.alloc (.cells #[.int .i64 0, .int .u64 0] 37) := ⟨_, rfl⟩
                   have X2 : Ext wr W2 := by rw [e2]; exact X1.alloc _
                   have b2 : Blk W2 w1.heap.size 37 #[.int .i64 0, .int .u64 0] := by rw [e2]; exact Blk.new _ _ _
                   rw [← e2]
                   obtain ⟨g, hg⟩ : ∃ g, g = w1.heap.size := ⟨_, rfl⟩
                   rw [← hg] at b2 ⊢
                   clear e2 hg X1 x1 r0 r1 r2 r3 r4 r5 n0 n4 n1 n5 p0 p1 p2 p3 q0 q1)
                | (obtain ⟨W2, e2⟩ : ∃ W, W = (w1.setCell ⟨wr.heap.size, 0, none⟩ (.int .i64 0)).setCell ⟨wr.heap.size, 1, none⟩ (.int .u64 0) := ⟨_, rfl⟩
                   have X2 : Ext wr W2 := by rw [e2]; exact (X1.setCell (p := ⟨wr.heap.size, 0, none⟩) (Nat.le_refl _) _).setCell (p := ⟨wr.heap.size, 1, none⟩) (Nat.le_refl _) _
                   have b2 : Blk W2 wr.heap.size 37 #[.int .i64 0, .int .u64 0] := by rw [e2]; exact (hbn.set_ 0 _).set_ 1 _
                   rw [← e2]
                   obtain ⟨g, hg⟩ : ∃ g, g = wr.heap.size := ⟨_, rfl⟩
                   rw [← hg] at b2 ⊢
                   clear e2 hg X1 x1 r0 r1 r2 r3 r4 r5 n0 n4 hbn y0 y1 y2 y3 p0 p1 p2 p3 q0 q1)
              all_goals
                have b3 := ext_blk X2 HBB1.out
                obtain ⟨z0, z1⟩ := two b3
                have f0 := b3.frozen 0
                have f1 := b3.frozen 1
                have HB5 := Lib.hid (((b3.set_ 0 (.int .u64 0)).set_ 1 (.int .u64 0)))
                have HR3 := Lib.hid ((HR1.out.below X2.out).more X2.size)
                have HX3 := Lib.hid ((HX0.out.trans HX2.out).trans X2)
                clear b2 b3 X2
                go_wp2
                obtain ⟨z2, z3⟩ := two HB5.out
                refine bodyPost_ret (v := .tuple #[.slice A S.length a, .slice none 0 0, .agg #[.int .u64 0, .int .u64 0], .int .i64 50]) (by simp [results, Tryz.results23, go_sem, z2, z3]) rfl ?_
                exact SgPost.few HS.out HC.out HF.out HA.out (reads_far2 (reads_far2 HR3.out fA.out 0 _) fA.out 1 _) ((HX3.out.setCell (p := ⟨w.heap.size + 1, 0, none⟩) (by simp only; omega) _).setCell (p := ⟨w.heap.size + 1, 1, none⟩) (by simp only; omega) _)
            · rw [if_neg hf, if_pos rfl] at cP
              have HF := Lib.hid hf
              obtain ⟨y, hy⟩ : ∃ y, y = partS k m C s.1 s.2 ss := ⟨_, rfl⟩
              have hcl : parL k m ss C [s] = [(s.1, y)] := by rw [hy]; rfl
              rw [← hy] at cP
              have hse : sv [(s.1, y)] = [.int .i64 s.1, .int .u64 (y : Int)] := rfl
              have hTl : (pickB (bitB who) (splitL u tn j seed) i).length ≤ 7 := by
                have := (pickB_sub (bitB who) (splitL u tn j seed) i (by rw [HLN.out]; omega)).length_le
                rw [List.length_take, HLN.out] at this
                omega
              have HCL := Lib.hid hcl
              have HSE := Lib.hid hse
              have HTL := Lib.hid hTl
              have HE2 := Lib.hid e2
              clear hx hi hs hsm hown hfw hsucc hX2 hb e2 hsS hpeS hb0 hr1 hf hy hcl hse hTl
              go_wp2
              have n0 := World.new_ne wr ⟨w.heap.size, 0, none⟩ p0
              have n4 := World.new_ne wr _ q0
              simp only at n0
              go_region_held3 (fun w' => w'.cell? ⟨w.heap.size, 0, none⟩ = some (.int .i64 (tn : Int)) ∧ w'.cell? ⟨w.heap.size, 1, none⟩ = some (.int .i64 (j : Int)) ∧ w'.cell? ⟨w.heap.size, 2, none⟩ = some (.int .u64 (k : Int)) ∧ w'.cell? ⟨w.heap.size, 3, none⟩ = some (.slice P j c1) ∧ w'.cell? (ad.add (i * 2)) = some (.int .i64 s.1) ∧ w'.cell? ⟨(ad.add (i * 2)).block, (ad.add (i * 2)).off + 1, none⟩ = some (.int .u64 (s.2 : Int))) (go_keep) (first
                | (go_at_call 19; (with_reducible refine (cP _ (Ext.refl wr).drew).mono ?_); clear cP; rintro e w1 ⟨rfl, x1⟩; have X1 := (Ext.refl wr).drew.trans x1; have r0 := X1.cell p0; have r1 := X1.cell p1; have r2 := X1.cell p2; have r3 := X1.cell p3; have r4 := X1.cell q0; have r5 := X1.cell q1; have n1 := World.new_ne w1 ⟨w.heap.size, 0, none⟩ r0; have n5 := World.new_ne w1 _ r4; simp only at n1)
                | (go_at_call 19; (with_reducible refine (cP _ ((Ext.refl wr).alloc (.cells #[.int .i64 0, .int .u64 0] 37)).drew).mono ?_); clear cP; rintro e w1 ⟨rfl, x1⟩; have X1 := ((Ext.refl wr).alloc (.cells #[.int .i64 0, .int .u64 0] 37)).drew.trans x1; have r0 := X1.cell p0; have r1 := X1.cell p1; have r2 := X1.cell p2; have r3 := X1.cell p3; have r4 := X1.cell q0; have r5 := X1.cell q1; have hbn := ext_blk x1 (Blk.new wr 37 #[.int .i64 0, .int .u64 0]).drew; have y0 := (two hbn).1; have y1 := (two hbn).2; have y2 := hbn.frozen 0; have y3 := hbn.frozen 1))
              all_goals first
                | (obtain ⟨W2, e2⟩ : ∃ W, W = w1.alloc (.cells #[.int .i64 s.1, .int .u64 (y : Int)] 37) := ⟨_, rfl⟩
                   have X2 : Ext wr W2 := by rw [e2]; exact X1.alloc _
                   have b2 : Blk W2 w1.heap.size 37 #[.int .i64 s.1, .int .u64 (y : Int)] := by rw [e2]; exact Blk.new _ _ _
                   rw [← e2]
                   obtain ⟨g, hg⟩ : ∃ g, g = w1.heap.size := ⟨_, rfl⟩
                   rw [← hg] at b2 ⊢
                   clear e2 hg X1 x1 r0 r1 r2 r3 r4 r5 n0 n4 n1 n5 p0 p1 p2 p3 q0 q1)
                | (obtain ⟨W2, e2⟩ : ∃ W, W = (w1.setCell ⟨wr.heap.size, 0, none⟩ (.int .i64 s.1)).setCell ⟨wr.heap.size, 1, none⟩ (.int .u64 (y : Int)) := ⟨_, rfl⟩
                   have X2 : Ext wr W2 := by rw [e2]; exact (X1.setCell (p := ⟨wr.heap.size, 0, none⟩) (Nat.le_refl _) _).setCell (p := ⟨wr.heap.size, 1, none⟩) (Nat.le_refl _) _
                   have b2 : Blk W2 wr.heap.size 37 #[.int .i64 s.1, .int .u64 (y : Int)] := by rw [e2]; exact (hbn.set_ 0 _).set_ 1 _
                   rw [← e2]
                   obtain ⟨g, hg⟩ : ∃ g, g = wr.heap.size := ⟨_, rfl⟩
                   rw [← hg] at b2 ⊢
                   clear e2 hg X1 x1 r0 r1 r2 r3 r4 r5 n0 n4 hbn y0 y1 y2 y3 p0 p1 p2 p3 q0 q1)
              all_goals
                have q2 := fun o => (two (b2.alloc o)).1
                have q3 := fun o => (two (b2.alloc o)).2
                obtain ⟨q4, q5⟩ := two b2
                clear b2
                go_wp2_with (at_builtin; refine wpList_append_own _ rfl (.tmp 91) (.tmp 93) 24 rfl W1.heap.size 37 i1 (.agg #[.int .i64 0, .int .u64 0]) 2 16 Tryz.underlying24 hi1 hz3 hz4 hz5 rfl (by decide) _ _ _ rfl (own_ext HOW.out (X2.alloc _)) ⟨W2.heap.size, 0, none⟩ 1 1 [.int .i64 s.1, .int .u64 (y : Int)] rfl rfl (cell_two_new W2 (.int .i64 s.1) (.int .u64 (y : Int)) 37) (by simp [Value.oneCell']) (by have := HTL.out; simp only [maxLen]; omega) (by have := HTL.out; omega) (by have := (HX.out.trans X2).size; simp; omega) ?_; intro v4 w4 hown4 hg4 _)
                have X4 := ext_grown (HX.out.trans (X2.alloc _)) (own_ext HOW.out (X2.alloc _)) hg4
                have hj := HJ.out
                go_wp2
                go_roundg (gk - 1)
                case measure => omega
                case rel => exact ⟨i + 1, by omega, int_congr (by omega), by rw [HSU.out, if_pos HE2.out, parL_append, HCL.out, sv_append, HSE.out, List.length_append]; exact hown4, X4, fun h => absurd h HF.out⟩
        · obtain rfl : i = j := by omega
          have hSe : pickB (bitB who) (splitL u tn i seed) i = whoL u tn i seed who := rfl
          rw [hSe, ← HS.out] at hown hfw
          obtain ⟨B, b, rfl, hb, hr2⟩ := own_slice2 hown
          have hx2 := HX1.out.trans hx
          have hr1 := (HR.out.below hx.out).more hx.size
          have hb0 := ext_blk hx2 HB0.out
          obtain ⟨p0, p1, p2, p3⟩ := arr4 hb0
          have hb1 := ext_blk hx2 HB1.out
          obtain ⟨q, hq⟩ : ∃ q, q = parL k m ss C S := ⟨_, rfl⟩
          have hq64 : ∀ s ∈ q, s.2 < 18446744073709551616 := by rw [hq]; exact par_64 _ _ _ _ _
          have hql : q.length = S.length := by rw [hq]; exact parL_length _ _ _ _ _
          rw [← hq] at hr2
          have cX := fun (hd : Reads wr wr.heap.size 2 B q.length (sv q)) => HCX.out wr (HX0.out.trans hx2) q hq64 (by rw [hql]; omega) A B a b HA.out hr1 hd
          rw [hql] at cX
          have cX := cX hr2
          obtain ⟨x, y, E, hcv, hfin⟩ : ∃ x y E : Nat, cmbV tn i k (pubL (splitL u tn i seed)) m C q = .tuple #[.agg #[.int .u64 (x : Int), .int .u64 (y : Int)], .int .i64 (E : Int)] ∧ ∀ W, Ext w W → Reads W W.heap.size 2 A S.length (sv C) → Reads W W.heap.size 2 B S.length (sv q) → SgPost u tn i seed m who ss w (.returned (.tuple #[.slice A S.length a, .slice B S.length b, .agg #[.int .u64 (x : Int), .int .u64 (y : Int)], .int .i64 (E : Int)])) W := by
            unfold cmbV cmbS
            rw [HXE.out]
            by_cases hf : S.length < tn
            · refine ⟨0, 0, 50, by rw [if_pos hf, if_neg (by decide)], fun W xx r1 r2 => ?_⟩
              have hSn : S.length = 0 := by rw [hfw hf]; rfl
              have := SgPost.few (B := B) (b := b) HS.out HC.out hf HA.out r1 xx
              rw [hSn] at this ⊢
              exact this
            · refine ⟨chN k m C, sumQ q, 0, by rw [if_neg hf, hq, HD1.out, if_pos rfl], fun W xx r1 r2 => SgPost.ok HS.out HC.out HK.out hq hf HA.out hb r1 r2 xx⟩
          rw [hcv] at cX
          have fA := Lib.hid (fun ad e => Nat.ne_of_gt (Nat.lt_of_lt_of_le HB1.out.lt (HAF.out ad e)) : ∀ ad, A = some ad → ad.block ≠ w.heap.size + 1)
          have fB := Lib.hid (fun ad e => Nat.ne_of_gt (Nat.lt_of_lt_of_le (Nat.lt_of_lt_of_le HB1.out.lt HX1.out.size) (own_fresh hown ad e)) : ∀ ad, B = some ad → ad.block ≠ w.heap.size + 1)
          have HR1 := Lib.hid hr1
          have HR2 := Lib.hid hr2
          have HX2 := Lib.hid (HX0.out.trans hx2)
          have HBB1 := Lib.hid hb1
          have HFIN := Lib.hid hfin
          clear hr1 hr2 hx2 hb1 hb hfw hown hx hi h hq64 hql hSe hb0 hq hcv hfin
          go_wp2_with (go_at_call 17; refine cX.mono ?_; clear cX; rintro e w1 ⟨rfl, x1⟩)
          have b1 := (ext_blk x1 HBB1.out).alloc (.cells #[.int .u64 (x : Int), .int .u64 (y : Int)] 42)
          have b2 := Blk.new w1 42 #[.int .u64 (x : Int), .int .u64 (y : Int)]
          have x2 := x1.alloc (.cells #[.int .u64 (x : Int), .int .u64 (y : Int)] 42)
          obtain ⟨g2, hg2⟩ : ∃ g, g = w1.heap.size := ⟨_, rfl⟩
          rw [← hg2] at b2 ⊢
          obtain ⟨W2, e2⟩ : ∃ W, W = w1.alloc (.cells #[.int .u64 (x : Int), .int .u64 (y : Int)] 42) := ⟨_, rfl⟩
          rw [← e2] at b1 b2 x2 ⊢
          obtain ⟨o0, o1⟩ := two b2
          obtain ⟨p0, p1⟩ := two b1
          have f0 := b1.frozen 0
          have f1 := b1.frozen 1
          have HR3 := Lib.hid ((HR1.out.below x2.out).more x2.size)
          have HR4 := Lib.hid ((HR2.out.below x2.out).more x2.size)
          have HX3 := Lib.hid (HX2.out.trans x2)
          have HB5 := Lib.hid (((b1.set_ 0 (.int .u64 (x : Int))).set_ 1 (.int .u64 (y : Int))).drew)
          clear e2 hg2 x1 b1 b2 x2
          go_region
          go_wp2
          obtain ⟨z0, z1⟩ := two HB5.out
          refine bodyPost_ret (v := .tuple #[.slice A S.length a, .slice B S.length b, .agg #[.int .u64 (x : Int), .int .u64 (y : Int)], .int .i64 (E : Int)]) (by simp [results, Tryz.results23, go_sem, z0, z1]) rfl ?_
          refine HFIN.out _ (Ext.drew ((HX3.out.setCell (p := ⟨w.heap.size + 1, 0, none⟩) (by simp only; omega) _).setCell (p := ⟨w.heap.size + 1, 1, none⟩) (by simp only; omega) _)) ?_ ?_
          · exact reads_far2 (reads_far2 HR3.out fA.out 0 _) fA.out 1 _
          · exact reads_far2 (reads_far2 HR4.out fB.out 0 _) fB.out 1 _
end Go.Proofs.YtiecfamjnnmpaaaGreat
