/- Parts of the proofs, put together: OrS, OrE, OrF. -/
import Derived.Deep.RegionLaw
import Derived.Deep.DrawnRows
import Derived.StillTail
import Derived.Test.YtfpmfegmehbfbaaGreatDoorZ15
import Derived.Test.YtfpmfegmehbfbaaGreatDoorZ20
/- A step of a region that draws its order: a call of a function, by its contract. -/
namespace Go.Proofs.YtfpmfegmehbfbaaGreatDoor
set_option linter.unusedVariables false
set_option linter.unusedSimpArgs false
set_option linter.unusedSimpArgs false
open Go.RowKit Go.Shelf Go.Maps

end Go.Proofs.YtfpmfegmehbfbaaGreatDoor

/- A region that draws its order and ends in a store into what it has read: the reads are taken first; the last operation, which waits for all, need not keep what they read. -/
namespace Go.Proofs.YtfpmfegmehbfbaaGreatDoor
set_option linter.unusedVariables false
set_option linter.unusedSimpArgs false
set_option linter.unusedSimpArgs false
open Go.RowKit

section
variable {P : Program} {ops : Array Oper} {Q : Exit → Act → World → Prop} {md : Region.Mode} {S : World → Prop} {L : Nat}
def wpAnyE (P : Program) (md : Region.Mode) (ops : Array Oper) (Q : Exit → Act → World → Prop) (S : World → Prop) (L : Nat) : Nat → Array Bool → Act → World → Prop
  | 0, listed, a, w => Region.ready md ops listed = [] ∧ Q .normal a w
  | fuel + 1, listed, a, w =>
    (Region.ready md ops listed = [] → Q .normal a w) ∧
    ∀ i ∈ Region.ready md ops listed, wpOp P ops Q i (fun a' w' => (i ≠ L → S w') ∧ wpAnyE P md ops Q S L fuel (listed.setIfInBounds i true) a' w') a w
theorem any_of_E : ∀ (fuel : Nat) (listed : Array Bool) (a : Act) (w : World), wpAnyE P md ops Q S L fuel listed a w → wpAny P md ops Q fuel listed a w
  | 0, _, _, _, h => h
  | fuel + 1, _, _, _, h => ⟨h.1, fun i hi => wpOp_mono (fun a' w' h' => any_of_E fuel _ a' w' h'.2) (h.2 i hi)⟩
theorem E_first {i : Nat} {oi : Oper} {v : Value} (hi : ops[i]? = some oi) (hsel : ∀ (j : Nat) (o : Oper) cs b, ops[j]? = some o → o.op ≠ .select cs b)
    (hQ : ∀ c a w, Q (.panic c) (a.put oi.dst v) w → Q (.panic c) a w) (hL : Region.waitsFor md ops L i = true) :
    ∀ (fuel : Nat) (listed : Array Bool) (a : Act) (w : World),
      (∀ j oj, ops[j]? = some oj → j ≠ i → listed.getD j true = false → (∀ e ∈ oj.after, Region.binds md e = true → e.on ≠ i) → oi.apart ops oj = true) →
      i ∈ Region.ready md ops listed → YieldsIf P ops S oi v a → S w →
      wpAnyE P md ops Q S L fuel (listed.setIfInBounds i true) (a.put oi.dst v) w → wpAnyE P md ops Q S L (fuel + 1) listed a w := by
  intro fuel
  induction fuel with
  | zero =>
    intro listed a w _ hr hy hS H
    refine ⟨fun h => (by rw [h] at hr; cases hr), fun j hj => ?_⟩
    by_cases hji : j = i
    · subst hji; exact hy.wpOp hi hS ⟨fun _ => hS, H⟩
    · have := ready_mono hj hji
      rw [H.1] at this
      cases this
  | succ fuel ih =>
    intro listed a w hfree hr hy hS H
    refine ⟨fun h => (by rw [h] at hr; cases hr), fun j hj => ?_⟩
    by_cases hji : j = i
    · subst hji; exact hy.wpOp hi hS ⟨fun _ => hS, H⟩
    · have h1 := H.2 j (ready_mono hj hji)
      obtain ⟨hjun, oj, hoj, hall⟩ := mem_ready.1 hj
      have hnot : ∀ e ∈ oj.after, Region.binds md e = true → e.on ≠ i := fun e he hb heq => by
        have h1 := hall e he hb
        have h0 := (mem_ready.1 hr).1
        rw [heq] at h1
        rcases Nat.lt_or_ge i listed.size with h' | h'
        · simp [h'] at h0 h1; rw [h0] at h1; cases h1
        · simp [Array.getElem?_eq_none h'] at h1
      have hjL : j ≠ L := fun e => by
        obtain ⟨ol, hol, x, hx, hb, hon⟩ := Region.waitsFor_spec hL
        rw [← e, hoj] at hol
        cases hol
        exact hnot x hx hb hon
      have h2 := wpOp_putIf hoj (hfree j oj hoj hji hjun hnot) (fun cs b => hsel i oi cs b hi) (fun cs b => hsel j oj cs b hoj) hQ hy h1
      have hfree' : ∀ k ok, ops[k]? = some ok → k ≠ i → (listed.setIfInBounds j true).getD k true = false →
          (∀ e ∈ ok.after, Region.binds md e = true → e.on ≠ i) → oi.apart ops ok = true := fun k ok hk hki hun hno => by
        refine hfree k ok hk hki ?_ hno
        by_cases hjk : j = k
        · subst hjk; exact hjun
        · rw [getD_set_ne true hjk] at hun; exact hun
      refine wpOp_mono (fun a' w' h3 => ⟨fun _ => h3.2.1 hjL, ih (listed.setIfInBounds j true) a' w' hfree' (ready_mono hr (Ne.symm hji)) h3.1 (h3.2.1 hjL) ?_⟩) h2
      rw [Array.setIfInBounds_comm _ _ hji]
      exact h3.2.2
theorem E_start {id n : Nat} {ls : Array Bool} {a : Act} {w : World} (S : World → Prop) (L : Nat) (hm : P.follows .mixedOrders = true) (hn : ops.size = n) (h0 : Array.replicate ops.size false = ls) (hS : S w.drew)
    (h : S w.drew → wpAnyE P .any ops (NoPanic Q) S L n ls a w.drew) : (Code.region id ops true).wp P Q a w := by
  refine wp_region_noPanic (wp_region_any hm (any_of_E (S := S) (L := L) _ _ _ _ ?_))
  rw [h0, hn]
  exact h hS
theorem E_take {i : Nat} {oi : Oper} (d : Option Tmp) {v : Value} {fuel : Nat} {ls ls' : Array Bool} {a : Act} {w : World} (hi : ops[i]? = some oi) (hd : oi.dst = d) (hs : Region.noSelect ops = true) (hf : Region.free .any ops ls i = true) (hr : (Region.ready .any ops ls).contains i = true) (hL : Region.waitsFor .any ops L i = true)
    (hl : ls.setIfInBounds i true = ls') (hw : Region.wanted oi (yielded ops a.tmps) = true) (hy : ∀ w, S w → (execOp a.eval oi).run P w = .ok (.value v) w) (hS : S w) (h : wpAnyE P .any ops (NoPanic Q) S L fuel ls' (a.put d v) w) :
    wpAnyE P .any ops (NoPanic Q) S L (fuel + 1) ls a w := by
  subst hl hd
  exact E_first hi (Region.noSelect_spec hs) (fun _ _ _ h => h) hL fuel ls a w (Region.free_spec hi hf) (by simpa using hr) (.inl ⟨hw, hy⟩) hS h
/-- One alone may come up: a call, an alloc, an append. -/
theorem E_one {i : Nat} {o : Oper} {fuel : Nat} {ls ls' : Array Bool} {a : Act} {w : World} (hi : ops[i]? = some o) (hr : Region.ready .any ops ls = [i]) (hl : ls.setIfInBounds i true = ls') (hw : Region.wanted o (yielded ops a.tmps) = true)
    (h : ∀ K : Act → World → Prop, (∀ a w, (i ≠ L → S w) → wpAnyE P .any ops (NoPanic Q) S L fuel ls' a w → K a w) → o.wp P a w K (NoPanic Q)) : wpAnyE P .any ops (NoPanic Q) S L (fuel + 1) ls a w := by
  subst hl
  refine ⟨(fun h0 => by rw [hr] at h0; cases h0), (fun j hj => ?_)⟩
  rw [hr] at hj
  obtain rfl : j = i := by simpa using hj
  unfold wpOp
  simp only [hi, hw, if_true]
  exact .inl (h _ fun a w h1 h2 => ⟨h1, h2⟩)
/-- Two may come up. -/
theorem E_two {i k : Nat} {o o' : Oper} {fuel : Nat} {ls ls1 ls2 : Array Bool} {a : Act} {w : World} (hi : ops[i]? = some o) (hk : ops[k]? = some o') (hr : Region.ready .any ops ls = [i, k]) (hl : ls.setIfInBounds i true = ls1) (hl' : ls.setIfInBounds k true = ls2)
    (hw : Region.wanted o (yielded ops a.tmps) = true) (hw' : Region.wanted o' (yielded ops a.tmps) = true)
    (h : ∀ K : Act → World → Prop, (∀ a w, (i ≠ L → S w) → wpAnyE P .any ops (NoPanic Q) S L fuel ls1 a w → K a w) → o.wp P a w K (NoPanic Q))
    (h' : ∀ K : Act → World → Prop, (∀ a w, (k ≠ L → S w) → wpAnyE P .any ops (NoPanic Q) S L fuel ls2 a w → K a w) → o'.wp P a w K (NoPanic Q)) : wpAnyE P .any ops (NoPanic Q) S L (fuel + 1) ls a w := by
  subst hl hl'
  refine ⟨(fun h0 => by rw [hr] at h0; cases h0), (fun j hj => ?_)⟩
  rw [hr] at hj
  rcases List.mem_cons.1 hj with rfl | hj
  · unfold wpOp
    simp only [hi, hw, if_true]
    exact .inl (h _ fun a w h1 h2 => ⟨h1, h2⟩)
  · obtain rfl : j = k := by simpa using hj
    unfold wpOp
    simp only [hk, hw', if_true]
    exact .inl (h' _ fun a w h1 h2 => ⟨h1, h2⟩)
theorem E_done {fuel : Nat} {ls : Array Bool} {a : Act} {w : World} (hr : Region.ready .any ops ls = []) (h : Q .normal a w) : wpAnyE P .any ops (NoPanic Q) S L fuel ls a w := by
  cases fuel with
  | zero => exact ⟨hr, NoPanic.normal h⟩
  | succ n => exact ⟨fun _ => NoPanic.normal h, by rw [hr]; simp⟩
end
section
variable {P : Program} {ops : Array Oper} {Q : Exit → Act → World → Prop} {S : World → Prop} {L : Nat}
theorem E_tk {i : Nat} {oi : Oper} (d : Option Tmp) {v : Value} {fuel : Nat} {ls : Array Bool} {a : Act} {w : World} (hi : ops[i]? = some oi) (hd : oi.dst = d)
    (hb : (Region.noSelect ops && Region.free .any ops ls i && (Region.ready .any ops ls).contains i && Region.waitsFor .any ops L i && Region.wanted oi (yielded ops a.tmps)) = true) (hS : S w)
    (hy : ∀ w, S w → (execOp a.eval oi).run P w = .ok (.value v) w) (h : wpAnyE P .any ops (NoPanic Q) S L fuel (ls.setIfInBounds i true) (a.put d v) w) :
    wpAnyE P .any ops (NoPanic Q) S L (fuel + 1) ls a w := by
  simp only [Bool.and_eq_true] at hb
  obtain ⟨⟨⟨⟨h1, h2⟩, h3⟩, h4⟩, h5⟩ := hb
  exact E_take d hi hd h1 h2 h3 h4 rfl h5 hy hS h
theorem E_on {i : Nat} {o : Oper} {fuel : Nat} {ls : Array Bool} {a : Act} {w : World} (hi : ops[i]? = some o) (hr : Region.ready .any ops ls = [i]) (hw : Region.wanted o (yielded ops a.tmps) = true)
    (h : ∀ K : Act → World → Prop, (∀ a w, (i ≠ L → S w) → wpAnyE P .any ops (NoPanic Q) S L fuel (ls.setIfInBounds i true) a w → K a w) → o.wp P a w K (NoPanic Q)) : wpAnyE P .any ops (NoPanic Q) S L (fuel + 1) ls a w :=
  E_one hi hr rfl hw h
theorem E_tw {i k : Nat} {o o' : Oper} {fuel : Nat} {ls : Array Bool} {a : Act} {w : World} (hi : ops[i]? = some o) (hk : ops[k]? = some o') (hr : Region.ready .any ops ls = [i, k])
    (hw : Region.wanted o (yielded ops a.tmps) = true) (hw' : Region.wanted o' (yielded ops a.tmps) = true)
    (h : ∀ K : Act → World → Prop, (∀ a w, (i ≠ L → S w) → wpAnyE P .any ops (NoPanic Q) S L fuel (ls.setIfInBounds i true) a w → K a w) → o.wp P a w K (NoPanic Q))
    (h' : ∀ K : Act → World → Prop, (∀ a w, (k ≠ L → S w) → wpAnyE P .any ops (NoPanic Q) S L fuel (ls.setIfInBounds k true) a w → K a w) → o'.wp P a w K (NoPanic Q)) : wpAnyE P .any ops (NoPanic Q) S L (fuel + 1) ls a w :=
  E_two hi hk hr rfl rfl hw hw' h h'
end
end Go.Proofs.YtfpmfegmehbfbaaGreatDoor

/- A region that draws its order and ends in a row of stores into what it has read: the reads are taken first; from place L on each operation waits for all that was read, and need not keep it. -/
namespace Go.Proofs.YtfpmfegmehbfbaaGreatDoor
set_option linter.unusedVariables false
set_option linter.unusedSimpArgs false
set_option linter.unusedSimpArgs false
open Go.RowKit

section
variable {P : Program} {ops : Array Oper} {Q : Exit → Act → World → Prop} {md : Region.Mode} {S : World → Prop} {L : Nat}
def wpAnyF (P : Program) (md : Region.Mode) (ops : Array Oper) (Q : Exit → Act → World → Prop) (S : World → Prop) (L : Nat) : Nat → Array Bool → Act → World → Prop
  | 0, listed, a, w => Region.ready md ops listed = [] ∧ Q .normal a w
  | fuel + 1, listed, a, w =>
    (Region.ready md ops listed = [] → Q .normal a w) ∧
    ∀ i ∈ Region.ready md ops listed, wpOp P ops Q i (fun a' w' => (i < L → S w → S w') ∧ wpAnyF P md ops Q S L fuel (listed.setIfInBounds i true) a' w') a w
/-- Whatever the world. -/
theorem F_pure_first {i : Nat} {oi : Oper} {v : Value} (hi : ops[i]? = some oi) (hsel : ∀ (j : Nat) (o : Oper) cs b, ops[j]? = some o → o.op ≠ .select cs b)
    (hQ : ∀ c a w, Q (.panic c) (a.put oi.dst v) w → Q (.panic c) a w) :
    ∀ (fuel : Nat) (listed : Array Bool) (a : Act) (w : World),
      (∀ j oj, ops[j]? = some oj → j ≠ i → listed.getD j true = false → (∀ e ∈ oj.after, Region.binds md e = true → e.on ≠ i) → oi.apart ops oj = true) →
      i ∈ Region.ready md ops listed → YieldsIf P ops (fun _ => True) oi v a →
      wpAnyF P md ops Q S L fuel (listed.setIfInBounds i true) (a.put oi.dst v) w → wpAnyF P md ops Q S L (fuel + 1) listed a w := by
  intro fuel
  induction fuel with
  | zero =>
    intro listed a w _ hr hy H
    refine ⟨fun h => (by rw [h] at hr; cases hr), fun j hj => ?_⟩
    by_cases hji : j = i
    · subst hji; exact hy.wpOp hi trivial ⟨fun _ h => h, H⟩
    · have := ready_mono hj hji
      rw [H.1] at this
      cases this
  | succ fuel ih =>
    intro listed a w hfree hr hy H
    refine ⟨fun h => (by rw [h] at hr; cases hr), fun j hj => ?_⟩
    by_cases hji : j = i
    · subst hji; exact hy.wpOp hi trivial ⟨fun _ h => h, H⟩
    · have h1 := H.2 j (ready_mono hj hji)
      obtain ⟨hjun, oj, hoj, hall⟩ := mem_ready.1 hj
      have hnot : ∀ e ∈ oj.after, Region.binds md e = true → e.on ≠ i := fun e he hb heq => by
        have h1 := hall e he hb
        have h0 := (mem_ready.1 hr).1
        rw [heq] at h1
        rcases Nat.lt_or_ge i listed.size with h' | h'
        · simp [h'] at h0 h1; rw [h0] at h1; cases h1
        · simp [Array.getElem?_eq_none h'] at h1
      have h2 := wpOp_putIf hoj (hfree j oj hoj hji hjun hnot) (fun cs b => hsel i oi cs b hi) (fun cs b => hsel j oj cs b hoj) hQ hy h1
      have hfree' : ∀ k ok, ops[k]? = some ok → k ≠ i → (listed.setIfInBounds j true).getD k true = false →
          (∀ e ∈ ok.after, Region.binds md e = true → e.on ≠ i) → oi.apart ops ok = true := fun k ok hk hki hun hno => by
        refine hfree k ok hk hki ?_ hno
        by_cases hjk : j = k
        · subst hjk; exact hjun
        · rw [getD_set_ne true hjk] at hun; exact hun
      refine wpOp_mono (fun a' w' h3 => ⟨h3.2.1, ih (listed.setIfInBounds j true) a' w' hfree' (ready_mono hr (Ne.symm hji)) h3.1 ?_⟩) h2
      rw [Array.setIfInBounds_comm _ _ hji]
      exact h3.2.2
theorem F_pure {i : Nat} {oi : Oper} (d : Option Tmp) {v : Value} {fuel : Nat} {ls ls' : Array Bool} {a : Act} {w : World} (hi : ops[i]? = some oi) (hd : oi.dst = d) (hs : Region.noSelect ops = true) (hf : Region.free .any ops ls i = true) (hr : (Region.ready .any ops ls).contains i = true)
    (hl : ls.setIfInBounds i true = ls') (hw : Region.wanted oi (yielded ops a.tmps) = true) (hy : ∀ w, (execOp a.eval oi).run P w = .ok (.value v) w) (h : wpAnyF P .any ops (NoPanic Q) S L fuel ls' (a.put d v) w) :
    wpAnyF P .any ops (NoPanic Q) S L (fuel + 1) ls a w := by
  subst hl hd
  exact F_pure_first hi (Region.noSelect_spec hs) (fun _ _ _ h => h) fuel ls a w (Region.free_spec hi hf) (by simpa using hr) (.inl ⟨hw, fun w _ => hy w⟩) h
theorem F_pr {i : Nat} {oi : Oper} (d : Option Tmp) {v : Value} {fuel : Nat} {ls : Array Bool} {a : Act} {w : World} (hi : ops[i]? = some oi) (hd : oi.dst = d)
    (hb : (Region.noSelect ops && Region.free .any ops ls i && (Region.ready .any ops ls).contains i && Region.wanted oi (yielded ops a.tmps)) = true)
    (hy : ∀ w, (execOp a.eval oi).run P w = .ok (.value v) w) (h : wpAnyF P .any ops (NoPanic Q) S L fuel (ls.setIfInBounds i true) (a.put d v) w) :
    wpAnyF P .any ops (NoPanic Q) S L (fuel + 1) ls a w := by
  simp only [Bool.and_eq_true] at hb
  obtain ⟨⟨⟨h1, h2⟩, h3⟩, h4⟩ := hb
  exact F_pure d hi hd h1 h2 h3 rfl h4 hy h
theorem F_wy {fuel : Nat} {ls : Array Bool} {a : Act} {w : World} {i : Nat} {o : Oper} (hi : ops[i]? = some o) (hw : Region.wanted o (yielded ops a.tmps) = true)
    (h : ∀ K : Act → World → Prop, (∀ a w', (i < L → S w → S w') → wpAnyF P .any ops (NoPanic Q) S L fuel (ls.setIfInBounds i true) a w' → K a w') → o.wp P a w K (NoPanic Q)) :
    ∃ o, ops[i]? = some o ∧ Region.wanted o (yielded ops a.tmps) = true ∧ ∀ K : Act → World → Prop, (∀ a w', (i < L → S w → S w') → wpAnyF P .any ops (NoPanic Q) S L fuel (ls.setIfInBounds i true) a w' → K a w') → o.wp P a w K (NoPanic Q) :=
  ⟨o, hi, hw, h⟩
end
end Go.Proofs.YtfpmfegmehbfbaaGreatDoor
