/- Parts of the proofs, put together: Range, Range3. -/
import Derived.RangeFuncWrites
import Derived.RangeFuncStops
/- A range over a function whose iterator writes a variable of its own (a captured text): the law of the walk. No program in sight. -/
namespace Go.Proofs.YtfpmfegmehbfbaaGreatDoor
open Go.RowKit

/-- What abides new blocks and stores into one given block. -/
def AbB {β : Type} (b : Nat) (J : β → World → Prop) : Prop :=
  ∀ (s : β) (X Y : World) (row : Option Nat), J s X → X.grownBy Y row → (∀ r, row = some r → r = b) → J s Y
/-- The contract of such an iterator: b is the block that it writes; what lay below B lies as it lay behind a round. -/
def SeqB {α : Type} (F : Fence) (n : Nat) (P : Program) (g : Nat) (lb : Array Value) (en : α → Array Value) (b B : Nat) (S Sp : List α → Prop) (w : World) : Prop :=
  ∀ (l : Nat) (J Jx : List α → World → Prop) (W : World), Below B w W → AbB b J → AbB b Jx →
    (∀ pre x X, J pre X → YieldAt F (n - 1) P l (en x) X fun e Y =>
      (e = .returned (.bool true) ∧ J (pre ++ [x]) Y ∧ Below B X Y) ∨ (e = .returned (.bool false) ∧ Jx (pre ++ [x]) Y)) →
    J [] W →
    CallsIn F n P g (#[.func (.yield l) #[] #[]] ++ lb) W fun e Y => (∃ v, e = .returned v) ∧ ((∃ xs, S xs ∧ J xs Y) ∨ (∃ pre, Sp pre ∧ Jx pre Y))
/-- How a round may be left: it goes on, or the function returns. -/
def postB {α : Type} (B : Nat) (I Ix : List α → World → Prop) (xs : List α) (W : World) : Exit → Act → World → Prop
  | .normal, _, Y => KeepsOthers W Y ∧ Below B W Y ∧ I xs Y
  | .ret, _, Y => KeepsOthers W Y ∧ Ix xs Y
  | _, _, _ => False
/-- What abides stores into one block, and turns of whatever is no cells and lies from B on. -/
def AbO {β : Type} (b B : Nat) (I : β → World → Prop) : Prop :=
  ∀ (s : β) (X Y : World) (row : Option Nat), I s X → X.grownBy Y row → (∀ r, row = some r → r = b ∨ (B ≤ r ∧ ∃ o : Obj, X.heap[r]? = some o ∧ o.isCells = false)) → I s Y

variable {F : Fence} {n : Nat} {P : Program}
theorem wpIn_range_box {α : Type} {g : Operand} {ps : Array Tmp} {assign body : Code} {Q : Exit → Act → World → Prop} {a : Act} {w : World}
    (hro : F.round = none) (h1 : 1 ≤ n) {gf : Nat} {lb : Array Value} (hg : a.eval g = .func (.func gf) #[] lb) (hFg : F.fn gf) (eg : ∀ args w, (callFunc gf args).run P w = .ok (.enter gf args) w)
    {en : α → Array Value} {b : Nat} (hb : b < w.heap.size) {S Sp : List α → Prop} (hseq : SeqB F (n - 1) P gf lb en b w.heap.size S Sp w) (hps : ∀ x, (en x).size = ps.size)
    (I Ix : List α → World → Prop) (hI : AbO b w.heap.size I) (hIx : AbO b w.heap.size Ix) (h0 : I [] w) (a₁ : α → Act)
    (hassign : ∀ (l : Nat) (x : α) (W : World) (K : Act → World → Prop), K (a₁ x) W →
      assign.wpIn (F.inRound l) (n - 1 - 1) P (Exit.then K (fun _ _ _ => False)) { tmps := (ps.zip (en x)).foldl (fun t (p, v) => t.setIfInBounds p v) a.tmps, defers := [] } W)
    (hbody : ∀ (l : Nat) (pre : List α) (x : α) (W : World), I pre W → body.wpIn (F.inRound l) (n - 1 - 1) P (postB w.heap.size I Ix (pre ++ [x]) W) (a₁ x) W)
    (hdone : ∀ (D : Nat) (xs : List α) (W : World), w.heap.size ≤ D → S xs → I xs W → W.heap[D]? = some (.deferred (some [])) → Q .normal { a with defers := { target := .collected D, args := #[] } :: a.defers } W)
    (hstop : ∀ (D : Nat) (pre : List α) (W : World), w.heap.size ≤ D → Sp pre → Ix pre W → W.heap[D]? = some (.deferred (some [])) → Code.ret.wpIn F n P Q { a with defers := { target := .collected D, args := #[] } :: a.defers } W) :
    (Code.rangeFunc g ps assign body).wpIn F n P Q a w := by
  refine wpIn_rangeFunc fun fn hfn => ?_
  rw [hro]
  have e0 := run_enterLoop_outer (P := P) (w := w) fn a.tmps ps assign body
  obtain ⟨rec, hrec⟩ : ∃ rec : LoopState → Option Code → Loop, ∀ st pe, rec st pe = { state := st, pending := pe, fn, tmps := a.tmps, params := ps, assign, body, defers := w.heap.size } := ⟨_, fun _ _ => rfl⟩
  rw [← hrec] at e0
  obtain ⟨D, hD⟩ : ∃ D, D = w.heap.size := ⟨_, rfl⟩
  obtain ⟨V, hV⟩ : ∃ V, V = (w.alloc (.deferred (some []))).alloc (.loop (rec .ready none)) := ⟨_, rfl⟩
  rw [← hV] at e0
  have sV : V.heap.size = D + 2 := by rw [hV, hD]; simp
  have gV : w.grownBy V none := by
    rw [hV]
    exact ⟨rfl, rfl, rfl, by simp; omega, fun k hk _ => (Below.heap_alloc _ _ _ (by simp; omega)).trans (Below.heap_alloc _ _ _ hk)⟩
  have lV : V.heap[D + 1]? = some (.loop (rec .ready none)) := by
    rw [hV, hD]; have := World.alloc_heap_new (w.alloc (.deferred (some []))) (.loop (rec .ready none)); rwa [World.size_alloc] at this
  have dV : V.heap[D]? = some (.deferred (some [])) := by
    rw [hV, hD]; exact (Below.heap_alloc _ _ _ (by simp)).trans (World.alloc_heap_new w _)
  have iV : I [] V := hI _ _ _ none h0 gV (fun r e => by cases e)
  -- the loop's record: it stands ready, or is busy, or has done
  obtain ⟨Rec, hRec⟩ : ∃ Rec : LoopState → Option Code → World → Prop, ∀ st pe X, Rec st pe X = (X.heap[D + 1]? = some (.loop (rec st pe)) ∧ X.heap[D]? = some (.deferred (some []))) := ⟨_, fun _ _ _ => rfl⟩
  have recG : ∀ {st pe X Y} {row : Option Nat}, Rec st pe X → X.grownBy Y row → (∀ r, row = some r → r ≠ D + 1 ∧ r ≠ D) → Rec st pe Y := by
    intro st pe X Y row h hg hr
    rw [hRec] at h ⊢
    have l1 := (Array.getElem?_eq_some_iff.1 h.1).1
    exact ⟨(hg.block _ l1 fun e => (hr _ e.symm).1 rfl).trans h.1, (hg.block _ (by omega) fun e => (hr _ e.symm).2 rfl).trans h.2⟩
  have recB : ∀ {st pe X Y} {row : Option Nat}, Rec st pe X → X.grownBy Y row → (∀ r, row = some r → r = b) → Rec st pe Y := fun h hg hr => recG h hg fun r e => by have := hr r e; omega
  have recK : ∀ {st pe X Y}, Rec st pe X → KeepsOthers X Y → Rec st pe Y := fun {st pe X Y} h k => by
    rw [hRec] at h ⊢
    exact ⟨k.same _ _ h.1 rfl, k.same _ _ h.2 rfl⟩
  have put : ∀ {st pe st' pe' X}, Rec st pe X → Rec st' pe' (X.putObj (D + 1) (.loop (rec st' pe'))) ∧ X.grownBy (X.putObj (D + 1) (.loop (rec st' pe'))) (some (D + 1)) := fun {st pe st' pe' X} h => by
    rw [hRec] at h
    refine ⟨?_, grownBy_putObj' X _ _⟩
    rw [hRec]
    exact ⟨World.putObj_heap_same (Array.getElem?_eq_some_iff.1 h.1).1, (World.putObj_heap_other (by omega)).trans h.2⟩
  have turn : ∀ {st pe X} {s : List α} {K : List α → World → Prop} (st' : LoopState) (pe' : Option Code), AbO b w.heap.size K → Rec st pe X → K s X → K s (X.putObj (D + 1) (.loop (rec st' pe'))) := fun {st pe X s K} st' pe' hK h hk =>
    hK _ _ _ _ hk (put (st' := st') (pe' := pe') h).2 fun r e => by cases e; rw [hRec] at h; exact .inr ⟨by omega, _, h.1, rfl⟩
  have far : ∀ {st pe X} (st' : LoopState) (pe' : Option Code), Rec st pe X → Below w.heap.size X (X.putObj (D + 1) (.loop (rec st' pe'))) := fun {st pe X} st' pe' h =>
    (Below.refl _ X).grown (put (st' := st') (pe' := pe') h).2 (by rw [hRec] at h; have := (Array.getElem?_eq_some_iff.1 h.1).1; omega) (fun k e => by cases e; omega)
  refine ⟨D + 1, [{ target := .collected D, args := #[] }], V, { target := .fn (.func gf) lb, args := #[.func (.yield (D + 1)) #[] #[]] }, V, gf, #[.func (.yield (D + 1)) #[] #[]] ++ lb, V, by rw [hD] at *; exact e0, ?_, ?_, ?_, fun _ => h1, ?_⟩
  · simp only [resolve, hg]; simp [go_sem]
  · intro f' hf'; simp [Target.leads] at hf'; subst hf'; exact hFg
  · simp [invoke, go_sem, eg]
  refine (hseq (D + 1) (fun pre X => I pre X ∧ Rec .ready none X) (fun pre X => Ix pre X ∧ Rec .done (some .ret) X) V ?_ ?_ ?_ ?_ ⟨iV, by rw [hRec]; exact ⟨lV, dV⟩⟩).mono ?_
  · exact (Below.refl _ w).grown gV (Nat.le_refl _) (fun k e => by cases e)
  · exact fun s X Y row h hg hr => ⟨hI _ _ _ _ h.1 hg fun r e => .inl (hr r e), recB h.2 hg hr⟩
  · exact fun s X Y row h hg hr => ⟨hIx _ _ _ _ h.1 hg fun r e => .inl (hr r e), recB h.2 hg hr⟩
  · rintro pre x X ⟨hi, hr⟩
    have hr' := hr
    rw [hRec] at hr'
    have hy := run_yield (P := P) (args := en x) hr'.1 (by rw [hrec]; exact hps x)
    rw [hrec] at hy
    have hbeg := run_beginRound (P := P) hr'.1 (by rw [hrec])
    rw [show ({ rec .ready none with state := .busy } : Loop) = rec .busy none by rw [hrec, hrec]] at hbeg
    refine ⟨fn, _, assign, body, hy, roundIn_of_wpIn hfn (hassign _ x X _ ⟨_, hbeg, ?_⟩)⟩
    have rb := (put (st' := .busy) (pe' := none) hr).1
    refine wpIn_mono (hbody _ pre x _ (turn _ _ hI hr hi)) ?_
    rintro e a3 Y hp
    cases e with
    | normal =>
      obtain ⟨k, kb, ki⟩ := hp
      have ry := recK rb k
      have ry' := ry
      rw [hRec] at ry'
      have he := run_endRound (P := P) none ry'.1
      rw [show ({ rec .busy none with state := if (none : Option Code).isNone then .ready else .done, pending := none } : Loop) = rec .ready none by rw [hrec, hrec]; rfl] at he
      exact ⟨_, _, he, .inl ⟨rfl, ⟨turn _ _ hI ry ki, (put ry).1⟩, ((far _ _ hr).trans kb).trans (far _ _ ry)⟩⟩
    | ret =>
      obtain ⟨k, ki⟩ := hp
      have ry := recK rb k
      have ry' := ry
      rw [hRec] at ry'
      have he := run_endRound (P := P) (some .ret) ry'.1
      rw [show ({ rec .busy none with state := if (some Code.ret : Option Code).isNone then .ready else .done, pending := some .ret } : Loop) = rec .done (some .ret) by rw [hrec, hrec]; rfl] at he
      exact ⟨_, _, he, .inr ⟨rfl, turn _ _ hIx ry ki, (put ry).1⟩⟩
    | exit id => exact hp.elim
    | goto t => exact hp.elim
    | panic ch => exact hp.elim
    | outgrown => exact hp.elim
  · rintro e Y ⟨⟨v, rfl⟩, (⟨xs, hS, hi, hr⟩ | ⟨pre, hS, hi, hr⟩)⟩
    · have hr' := hr
      rw [hRec] at hr'
      have he := run_endLoop (P := P) hr'.1 (by rw [hrec]; simp)
      rw [show ({ rec .ready none with state := .exhausted } : Loop) = rec .exhausted none by rw [hrec, hrec], show (rec .ready none).pending = none by rw [hrec]] at he
      have pe := (put (st' := .exhausted) (pe' := none) hr).1
      rw [hRec] at pe
      exact ⟨none, _, he, hdone _ xs _ (by omega) hS (turn _ _ hI hr hi) pe.2⟩
    · have hr' := hr
      rw [hRec] at hr'
      have he := run_endLoop (P := P) hr'.1 (by rw [hrec]; simp)
      rw [show ({ rec .done (some .ret) with state := .exhausted } : Loop) = rec .exhausted (some .ret) by rw [hrec, hrec], show (rec .done (some .ret)).pending = some .ret by rw [hrec]] at he
      have pe := (put (st' := .exhausted) (pe' := some .ret) hr).1
      rw [hRec] at pe
      exact ⟨some .ret, _, he, hstop _ pre _ (by omega) hS (turn _ _ hIx hr hi) pe.2⟩
end Go.Proofs.YtfpmfegmehbfbaaGreatDoor

/- A range over a function whose iterator writes a variable of its own, and whose body writes a variable that lies ahead of the loop: what the iterator reads lies below B. No program in sight. -/
namespace Go.Proofs.YtfpmfegmehbfbaaGreatDoor
open Go.RowKit

/-- As SeqB, and told what may come: T: whether an item may come behind others. -/
def SeqC {α : Type} (F : Fence) (n : Nat) (P : Program) (g : Nat) (lb : Array Value) (en : α → Array Value) (b B : Nat) (T : List α → α → Prop) (S Sp : List α → Prop) (w : World) : Prop :=
  ∀ (l : Nat) (J Jx : List α → World → Prop) (W : World), Below B w W → AbB b J → AbB b Jx →
    (∀ pre x X, T pre x → J pre X → YieldAt F (n - 1) P l (en x) X fun e Y =>
      (e = .returned (.bool true) ∧ J (pre ++ [x]) Y ∧ Below B X Y) ∨ (e = .returned (.bool false) ∧ Jx (pre ++ [x]) Y)) →
    J [] W →
    CallsIn F n P g (#[.func (.yield l) #[] #[]] ++ lb) W fun e Y => (∃ v, e = .returned v) ∧ ((∃ xs, S xs ∧ J xs Y) ∨ (∃ pre, Sp pre ∧ Jx pre Y))
variable {F : Fence} {n : Nat} {P : Program}
theorem wpIn_range_boxA {α : Type} {g : Operand} {ps : Array Tmp} {assign body : Code} {Q : Exit → Act → World → Prop} {a : Act} {w : World}
    (hro : F.round = none) (h1 : 1 ≤ n) {gf : Nat} {lb : Array Value} (hg : a.eval g = .func (.func gf) #[] lb) (hFg : F.fn gf) (eg : ∀ args w, (callFunc gf args).run P w = .ok (.enter gf args) w)
    {en : α → Array Value} {b B : Nat} (hb : b < w.heap.size) (hB : B ≤ w.heap.size) {T : List α → α → Prop} {S Sp : List α → Prop} (hseq : SeqC F (n - 1) P gf lb en b B T S Sp w) (hps : ∀ x, (en x).size = ps.size)
    (I Ix : List α → World → Prop) (hI : AbO b w.heap.size I) (hIx : AbO b w.heap.size Ix) (h0 : I [] w) (a₁ : α → World → Act) (f₁ : α → World → World) (hf₁ : ∀ (x : α) (W : World), W.grownBy (f₁ x W) none)
    (hassign : ∀ (l : Nat) (x : α) (W : World) (K : Act → World → Prop), K (a₁ x W) (f₁ x W) →
      assign.wpIn (F.inRound l) (n - 1 - 1) P (Exit.then K (fun _ _ _ => False)) { tmps := (ps.zip (en x)).foldl (fun t (p, v) => t.setIfInBounds p v) a.tmps, defers := [] } W)
    (hbody : ∀ (l : Nat) (pre : List α) (x : α) (W V : World) (r : Nat), T pre x → I pre V → (f₁ x W).grownBy V (some r) → (∃ o : Obj, (f₁ x W).heap[r]? = some o ∧ o.isCells = false) → body.wpIn (F.inRound l) (n - 1 - 1) P (postB B I Ix (pre ++ [x]) V) (a₁ x W) V)
    (hdone : ∀ (D : Nat) (xs : List α) (W : World), w.heap.size ≤ D → S xs → I xs W → W.heap[D]? = some (.deferred (some [])) → Q .normal { a with defers := { target := .collected D, args := #[] } :: a.defers } W)
    (hstop : ∀ (D : Nat) (pre : List α) (W : World), w.heap.size ≤ D → Sp pre → Ix pre W → W.heap[D]? = some (.deferred (some [])) → Code.ret.wpIn F n P Q { a with defers := { target := .collected D, args := #[] } :: a.defers } W) :
    (Code.rangeFunc g ps assign body).wpIn F n P Q a w := by
  refine wpIn_rangeFunc fun fn hfn => ?_
  rw [hro]
  have e0 := run_enterLoop_outer (P := P) (w := w) fn a.tmps ps assign body
  obtain ⟨rec, hrec⟩ : ∃ rec : LoopState → Option Code → Loop, ∀ st pe, rec st pe = { state := st, pending := pe, fn, tmps := a.tmps, params := ps, assign, body, defers := w.heap.size } := ⟨_, fun _ _ => rfl⟩
  rw [← hrec] at e0
  obtain ⟨D, hD⟩ : ∃ D, D = w.heap.size := ⟨_, rfl⟩
  obtain ⟨V, hV⟩ : ∃ V, V = (w.alloc (.deferred (some []))).alloc (.loop (rec .ready none)) := ⟨_, rfl⟩
  rw [← hV] at e0
  have sV : V.heap.size = D + 2 := by rw [hV, hD]; simp
  have gV : w.grownBy V none := by
    rw [hV]
    exact ⟨rfl, rfl, rfl, by simp; omega, fun k hk _ => (Below.heap_alloc _ _ _ (by simp; omega)).trans (Below.heap_alloc _ _ _ hk)⟩
  have lV : V.heap[D + 1]? = some (.loop (rec .ready none)) := by
    rw [hV, hD]; have := World.alloc_heap_new (w.alloc (.deferred (some []))) (.loop (rec .ready none)); rwa [World.size_alloc] at this
  have dV : V.heap[D]? = some (.deferred (some [])) := by
    rw [hV, hD]; exact (Below.heap_alloc _ _ _ (by simp)).trans (World.alloc_heap_new w _)
  have iV : I [] V := hI _ _ _ none h0 gV (fun r e => by cases e)
  -- the loop's record: it stands ready, or is busy, or has done
  obtain ⟨Rec, hRec⟩ : ∃ Rec : LoopState → Option Code → World → Prop, ∀ st pe X, Rec st pe X = (X.heap[D + 1]? = some (.loop (rec st pe)) ∧ X.heap[D]? = some (.deferred (some []))) := ⟨_, fun _ _ _ => rfl⟩
  have recG : ∀ {st pe X Y} {row : Option Nat}, Rec st pe X → X.grownBy Y row → (∀ r, row = some r → r ≠ D + 1 ∧ r ≠ D) → Rec st pe Y := by
    intro st pe X Y row h hg hr
    rw [hRec] at h ⊢
    have l1 := (Array.getElem?_eq_some_iff.1 h.1).1
    exact ⟨(hg.block _ l1 fun e => (hr _ e.symm).1 rfl).trans h.1, (hg.block _ (by omega) fun e => (hr _ e.symm).2 rfl).trans h.2⟩
  have recB : ∀ {st pe X Y} {row : Option Nat}, Rec st pe X → X.grownBy Y row → (∀ r, row = some r → r = b) → Rec st pe Y := fun h hg hr => recG h hg fun r e => by have := hr r e; omega
  have recK : ∀ {st pe X Y}, Rec st pe X → KeepsOthers X Y → Rec st pe Y := fun {st pe X Y} h k => by
    rw [hRec] at h ⊢
    exact ⟨k.same _ _ h.1 rfl, k.same _ _ h.2 rfl⟩
  have put : ∀ {st pe st' pe' X}, Rec st pe X → Rec st' pe' (X.putObj (D + 1) (.loop (rec st' pe'))) ∧ X.grownBy (X.putObj (D + 1) (.loop (rec st' pe'))) (some (D + 1)) := fun {st pe st' pe' X} h => by
    rw [hRec] at h
    refine ⟨?_, grownBy_putObj' X _ _⟩
    rw [hRec]
    exact ⟨World.putObj_heap_same (Array.getElem?_eq_some_iff.1 h.1).1, (World.putObj_heap_other (by omega)).trans h.2⟩
  have turn : ∀ {st pe X} {s : List α} {K : List α → World → Prop} (st' : LoopState) (pe' : Option Code), AbO b w.heap.size K → Rec st pe X → K s X → K s (X.putObj (D + 1) (.loop (rec st' pe'))) := fun {st pe X s K} st' pe' hK h hk =>
    hK _ _ _ _ hk (put (st' := st') (pe' := pe') h).2 fun r e => by cases e; rw [hRec] at h; exact .inr ⟨by omega, _, h.1, rfl⟩
  have far : ∀ {st pe X} (st' : LoopState) (pe' : Option Code), Rec st pe X → Below B X (X.putObj (D + 1) (.loop (rec st' pe'))) := fun {st pe X} st' pe' h =>
    (Below.refl _ X).grown (put (st' := st') (pe' := pe') h).2 (by rw [hRec] at h; have := (Array.getElem?_eq_some_iff.1 h.1).1; omega) (fun k e => by cases e; omega)
  refine ⟨D + 1, [{ target := .collected D, args := #[] }], V, { target := .fn (.func gf) lb, args := #[.func (.yield (D + 1)) #[] #[]] }, V, gf, #[.func (.yield (D + 1)) #[] #[]] ++ lb, V, by rw [hD] at *; exact e0, ?_, ?_, ?_, fun _ => h1, ?_⟩
  · simp only [resolve, hg]; simp [go_sem]
  · intro f' hf'; simp [Target.leads] at hf'; subst hf'; exact hFg
  · simp [invoke, go_sem, eg]
  refine (hseq (D + 1) (fun pre X => I pre X ∧ Rec .ready none X) (fun pre X => Ix pre X ∧ Rec .done (some .ret) X) V ?_ ?_ ?_ ?_ ⟨iV, by rw [hRec]; exact ⟨lV, dV⟩⟩).mono ?_
  · exact (Below.refl _ w).grown gV hB (fun k e => by cases e)
  · exact fun s X Y row h hg hr => ⟨hI _ _ _ _ h.1 hg fun r e => .inl (hr r e), recB h.2 hg hr⟩
  · exact fun s X Y row h hg hr => ⟨hIx _ _ _ _ h.1 hg fun r e => .inl (hr r e), recB h.2 hg hr⟩
  · rintro pre x X0 hT ⟨hi0, hr0⟩
    have hr0' := hr0
    rw [hRec] at hr0'
    have hy := run_yield (P := P) (args := en x) hr0'.1 (by rw [hrec]; exact hps x)
    rw [hrec] at hy
    obtain ⟨X, hX⟩ : ∃ X, X = f₁ x X0 := ⟨_, rfl⟩
    have hg0 : X0.grownBy X none := by rw [hX]; exact hf₁ x X0
    have hi : I pre X := hI _ _ _ none hi0 hg0 (fun r e => by cases e)
    have hr : Rec .ready none X := recG hr0 hg0 (fun r e => by cases e)
    have hr' := hr
    rw [hRec] at hr'
    have hw0 : Below B X0 X := (Below.refl _ X0).grown hg0 (by rw [hRec] at hr0; have := (Array.getElem?_eq_some_iff.1 hr0.1).1; omega) (fun k e => by cases e)
    have hbeg := run_beginRound (P := P) hr'.1 (by rw [hrec])
    rw [show ({ rec .ready none with state := .busy } : Loop) = rec .busy none by rw [hrec, hrec]] at hbeg
    refine ⟨fn, _, assign, body, hy, roundIn_of_wpIn hfn (hassign _ x X0 _ ?_)⟩
    rw [← hX]
    refine ⟨_, hbeg, ?_⟩
    have rb := (put (st' := .busy) (pe' := none) hr).1
    refine wpIn_mono (hbody _ pre x X0 _ (D + 1) hT (turn _ _ hI hr hi) (by rw [← hX]; exact (put hr).2) (by rw [← hX]; exact ⟨_, hr'.1, rfl⟩)) ?_
    rintro e a3 Y hp
    cases e with
    | normal =>
      obtain ⟨k, kb, ki⟩ := hp
      have ry := recK rb k
      have ry' := ry
      rw [hRec] at ry'
      have he := run_endRound (P := P) none ry'.1
      rw [show ({ rec .busy none with state := if (none : Option Code).isNone then .ready else .done, pending := none } : Loop) = rec .ready none by rw [hrec, hrec]; rfl] at he
      exact ⟨_, _, he, .inl ⟨rfl, ⟨turn _ _ hI ry ki, (put ry).1⟩, ((hw0.trans (far _ _ hr)).trans kb).trans (far _ _ ry)⟩⟩
    | ret =>
      obtain ⟨k, ki⟩ := hp
      have ry := recK rb k
      have ry' := ry
      rw [hRec] at ry'
      have he := run_endRound (P := P) (some .ret) ry'.1
      rw [show ({ rec .busy none with state := if (some Code.ret : Option Code).isNone then .ready else .done, pending := some .ret } : Loop) = rec .done (some .ret) by rw [hrec, hrec]; rfl] at he
      exact ⟨_, _, he, .inr ⟨rfl, turn _ _ hIx ry ki, (put ry).1⟩⟩
    | exit id => exact hp.elim
    | goto t => exact hp.elim
    | panic ch => exact hp.elim
    | outgrown => exact hp.elim
  · rintro e Y ⟨⟨v, rfl⟩, (⟨xs, hS, hi, hr⟩ | ⟨pre, hS, hi, hr⟩)⟩
    · have hr' := hr
      rw [hRec] at hr'
      have he := run_endLoop (P := P) hr'.1 (by rw [hrec]; simp)
      rw [show ({ rec .ready none with state := .exhausted } : Loop) = rec .exhausted none by rw [hrec, hrec], show (rec .ready none).pending = none by rw [hrec]] at he
      have pe := (put (st' := .exhausted) (pe' := none) hr).1
      rw [hRec] at pe
      exact ⟨none, _, he, hdone _ xs _ (by omega) hS (turn _ _ hI hr hi) pe.2⟩
    · have hr' := hr
      rw [hRec] at hr'
      have he := run_endLoop (P := P) hr'.1 (by rw [hrec]; simp)
      rw [show ({ rec .done (some .ret) with state := .exhausted } : Loop) = rec .exhausted (some .ret) by rw [hrec, hrec], show (rec .done (some .ret)).pending = some .ret by rw [hrec]] at he
      have pe := (put (st' := .exhausted) (pe' := some .ret) hr).1
      rw [hRec] at pe
      exact ⟨some .ret, _, he, hstop _ pre _ (by omega) hS (turn _ _ hIx hr hi) pe.2⟩
end Go.Proofs.YtfpmfegmehbfbaaGreatDoor
