/- Parts of the proofs, put together: OrP4, OrP6, OrP8, OrP9, OrP7, TdP. -/
import Derived.Test.YtfpmfegmehbfbaaGreatDoorD12
/- Plain: scripts of what is done at a door. No program in sight. -/
namespace Go.Proofs.YtfpmfegmehbfbaaGreatDoor
set_option linter.unusedVariables false
set_option linter.unusedSimpArgs false

/-- What is wrong with a signature, and how one signs with the key of a seed; its public key. -/
structure SigR where
  (sg : Nat → List Nat → Nat → Nat → Nat) (sgn : Nat → List Nat → Nat × Nat) (pk : Nat → Nat)
/-- A request with a new nonce, signed and done. -/
def asksF (S : SigR) (f : FroR) (q : QueR) (seed : Nat) (now : Int) : FroR × QueR × Int × Nat :=
  if (nonF f now).2.2 ≠ 0 then (f, q, 0, (nonF f now).2.2)
  else
    let q1 : QueR := { q with nonce := (nonF f now).2.1 }
    if byteE q1 ≠ 0 then (f, q1, 0, 1)
    else
      let s : QueR := { q1 with e := (S.sgn seed (byteL q1)).1, s := (S.sgn seed (byteL q1)).2 }
      let d := doF S.sg (nonF f now).1 s now
      if d.2.2 ≠ 0 then ((nonF f now).1, s, 0, d.2.2) else (d.1, s, d.2.1, 0)
/-- How an authorization, an order may change. -/
def autG (a b : AutR) : Prop := b.acc = a.acc ∧ b.name = a.name ∧ (a.st = 3 → b = a)
def ordG (a b : OrdR) : Prop := (a.st = 5 → b = a) ∧ (b.st = 5 → a.st ≠ 1)
theorem autG.refl (a : AutR) : autG a a := ⟨rfl, rfl, fun _ => rfl⟩
theorem ordG.refl (a : OrdR) : ordG a a := ⟨fun _ => rfl, fun h h' => by omega⟩
/-- What one does at a door, of which x comes. -/
structure OpS (f x : FroR) : Prop where
  chk : chkF x = 0
  autL : f.auts.length ≤ x.auts.length
  ordL : f.ords.length ≤ x.ords.length
  aut : ∀ i (h : i < f.auts.length) (h' : i < x.auts.length), autG f.auts[i] x.auts[i]
  ord : ∀ i (h : i < f.ords.length) (h' : i < x.ords.length), ordG f.ords[i] x.ords[i]
theorem OpS.refl {f : FroR} (h : chkF f = 0) : OpS f f := ⟨h, Nat.le_refl _, Nat.le_refl _, fun _ _ _ => autG.refl _, fun _ _ _ => ordG.refl _⟩
/-- The same but for nonces. -/
def butF (f x : FroR) : Prop := x.accs = f.accs ∧ x.auts = f.auts ∧ x.ords = f.ords ∧ x.ser = f.ser
theorem butF.refl (f : FroR) : butF f f := ⟨rfl, rfl, rfl, rfl⟩
theorem butF.ops {f x : FroR} (h : butF f x) (hc : chkF x = 0) : OpS f x := by
  obtain ⟨h1, h2, h3, h4⟩ := h
  refine ⟨hc, by rw [h2]; exact Nat.le_refl _, by rw [h3]; exact Nat.le_refl _, fun i a b => ?_, fun i a b => ?_⟩
  · simp only [h2]; exact autG.refl _
  · simp only [h3]; exact ordG.refl _
theorem non_but {f : FroR} {now : Int} (h : (nonF f now).2.2 = 0) : butF f (nonF f now).1 := by
  obtain ⟨_, _, h3⟩ := non_steps h
  rw [h3]; exact butF.refl f
theorem StepS.ops {f x : FroR} {q : QueR} (h : StepS f x q) (hc : chkF x = 0) : OpS f x := by
  refine ⟨hc, h.autL, h.ordL, fun i a b => ?_, fun i a b => ?_⟩
  · rcases h.autO i b a with e | ⟨e1, e2, e3⟩
    · rw [e]; exact autG.refl _
    · rw [e3]; exact ⟨rfl, rfl, fun h => absurd h e2⟩
  · rcases h.ordO i b a with e | ⟨e1, e2, e3⟩
    · rw [e]; exact ordG.refl _
    · rw [e3]; exact ⟨fun h => by omega, fun h => by simp at h⟩
/-- No authorization becomes valid but by what is seen. -/
def noNew (f x : FroR) : Prop := ∀ a ∈ x.auts, a.st = 3 → a ∈ f.auts
theorem StepS.no {f x : FroR} {q : QueR} (h : StepS f x q) : noNew f x := by
  intro a ha hst
  obtain ⟨i, hi, rfl⟩ := List.getElem_of_mem ha
  by_cases h1 : i < f.auts.length
  · rcases h.autO i hi h1 with e | ⟨e1, e2, e3⟩
    · rw [e]; exact List.getElem_mem h1
    · rw [e3] at hst; simp at hst
  · have := (h.autN i hi h1).2; omega
theorem butF.no {f x : FroR} (h : butF f x) : noNew f x := fun a ha _ => by rw [← h.2.1]; exact ha
theorem do_step {S : SigR} (hsg : ∀ k l e s, S.sg k l e s = 0 → inB k = true) {f : FroR} {q : QueR} {now : Int} (h : (doF S.sg f q now).2.2 = 0) : OpS f (doF S.sg f q now).1 ∧ noNew f (doF S.sg f q now).1 := by
  have hok := do_ok hsg h
  obtain ⟨h1, h2, h3, h4, h5, _, h8⟩ := do_steps h
  obtain ⟨st, _⟩ := step_steps (h8 ▸ h)
  rw [h8] at hok ⊢
  exact ⟨⟨hok, (st.ops hok).autL, (st.ops hok).ordL, (st.ops hok).aut, (st.ops hok).ord⟩, st.no⟩
theorem OpS.trans_but {f x y : FroR} (h : butF f x) (k : OpS x y) : OpS f y := by
  obtain ⟨h1, h2, h3, h4⟩ := h
  obtain ⟨a, b, c, d, e⟩ := k
  refine ⟨a, by rw [← h2]; exact b, by rw [← h3]; exact c, fun i p q => ?_, fun i p q => ?_⟩
  · have := d i (by rw [h2]; exact p) q; simpa only [h2] using this
  · have := e i (by rw [h3]; exact p) q; simpa only [h3] using this
theorem asks_step {S : SigR} (hsg : ∀ k l e s, S.sg k l e s = 0 → inB k = true) {f : FroR} (hf : chkF f = 0) (q : QueR) (seed : Nat) (now : Int) :
    OpS f (asksF S f q seed now).1 ∧ noNew f (asksF S f q seed now).1 ∧ ((asksF S f q seed now).2.2.2 ≠ 0 → butF f (asksF S f q seed now).1) := by
  unfold asksF
  split
  · exact ⟨OpS.refl hf, (butF.refl f).no, fun _ => butF.refl f⟩
  next h1 =>
  replace h1 := Decidable.not_not.1 h1
  have hb := non_but h1
  have hc := non_ok h1
  dsimp only
  split
  · exact ⟨OpS.refl hf, (butF.refl f).no, fun _ => butF.refl f⟩
  split
  · exact ⟨hb.ops hc, hb.no, fun _ => hb⟩
  next h2 =>
  replace h2 := Decidable.not_not.1 h2
  obtain ⟨k1, k2⟩ := do_step hsg h2
  exact ⟨OpS.trans_but hb k1, fun a ha hs => by rw [← hb.2.1]; exact k2 a ha hs, fun h => absurd rfl h⟩
theorem chk_new : chkF froZ = 0 := by
  refine chkF_zero.2 ⟨⟨fenN_zero.2 ⟨⟨List.Pairwise.nil, by simp [froZ], by simp [froZ, numP]⟩, by simp [froZ]⟩, by simp [froZ, numP], ⟨by simp [froZ], by simp [froZ]⟩, fun i h => by simp [froZ] at h, ⟨fun i h => by simp [froZ] at h, by simp [froZ, issued]⟩⟩, by simp [froZ], by simp [froZ], by simp [froZ]⟩
end Go.Proofs.YtfpmfegmehbfbaaGreatDoor

/- Plain: what one asks for with a fresh nonce and a right signature is done; the chapter's example. No program in sight. -/
namespace Go.Proofs.YtfpmfegmehbfbaaGreatDoor
set_option linter.unusedVariables false
set_option linter.unusedSimpArgs false

/-- One who has the key of a seed signs rightly. -/
structure SigOk (S : SigR) : Prop where
  inb : ∀ k l e s, S.sg k l e s = 0 → inB k = true
  ok : ∀ seed < 256, ∀ l : List Nat, S.sg (S.pk seed) l (S.sgn seed l).1 (S.sgn seed l).2 = 0
theorem SigOk.pk {S : SigR} (h : SigOk S) {seed : Nat} (hs : seed < 256) : inB (S.pk seed) = true := h.inb _ _ _ _ (h.ok seed hs [])
theorem tell_zero {next now : Int} {l : List NonR} (h1 : fenN next l = 0) (h2 : 0 ≤ now) (h3 : now + 20 ≤ 1099511627776) (h4 : l.length < 64) (h5 : next < 1099511627776) : tellE next l now 20 = 0 := by
  have := (trimF_sub l now).length_le
  unfold tellE
  rw [if_neg (by rw [h1]; simp), if_neg, if_neg (by omega)]
  rintro (h | h | h)
  · exact h ⟨h2, by omega⟩
  · omega
  · omega
theorem use_tell {next now : Int} {l : List NonR} (h : tellE next l now 20 = 0) : useE (next + 1) (tellL next l now 20) next now = 0 ∧ useL (tellL next l now 20) next = trimF l now := by
  obtain ⟨h1, h2, h3, h4, h5, h6, h7⟩ := tell_ok h
  constructor
  · unfold useE
    rw [if_neg (by rw [tell_fen h]; simp), if_neg (by simpa using h2), if_pos]
    exact ⟨⟨next, now + 20⟩, by simp [tellL], rfl, by simp; omega⟩
  · unfold useL tellL
    rw [List.filter_append, List.filter_eq_self.2]
    · simp
    · intro x hx
      have := ((fen_sub (fenN_zero.1 h1).1 (trimF_sub l now)).2.1 x hx).2.1
      simp; omega
/-- The request as it is sent. -/
def sentQ (S : SigR) (f : FroR) (q : QueR) (seed : Nat) : QueR :=
  { q with nonce := f.next, e := (S.sgn seed (byteL { q with nonce := f.next })).1, s := (S.sgn seed (byteL { q with nonce := f.next })).2 }
theorem asks_eq {S : SigR} (hS : SigOk S) {f : FroR} {q : QueR} {seed : Nat} (hs : seed < 256) {now : Int} (hf : chkF f = 0) (ht : tellE f.next f.opn now 20 = 0)
    (hb : byteE { q with nonce := f.next } = 0) (hq : fitsP q) (hk : keyF f q = some (S.pk seed)) :
    asksF S f q seed now = if (stepF { f with next := f.next + 1, opn := trimF f.opn now } q now).2.2 ≠ 0
      then ({ f with next := f.next + 1, opn := tellL f.next f.opn now 20 }, sentQ S f q seed, 0, (stepF { f with next := f.next + 1, opn := trimF f.opn now } q now).2.2)
      else ((stepF { f with next := f.next + 1, opn := trimF f.opn now } q now).1, sentQ S f q seed, (stepF { f with next := f.next + 1, opn := trimF f.opn now } q now).2.1, 0) := by
  have hn : nonF f now = ({ f with next := f.next + 1, opn := tellL f.next f.opn now 20 }, f.next, 0) := by
    unfold nonF
    rw [if_neg (by rw [hf]; simp), if_neg (by rw [ht]; simp)]
  have hd : doF S.sg { f with next := f.next + 1, opn := tellL f.next f.opn now 20 } (sentQ S f q seed) now = stepF { f with next := f.next + 1, opn := trimF f.opn now } q now := by
    have hc : chkF { f with next := f.next + 1, opn := tellL f.next f.opn now 20 } = 0 := by
      have := non_ok (f := f) (now := now) (by rw [hn])
      rw [hn] at this; exact this
    obtain ⟨u1, u2⟩ := use_tell ht
    have hk2 : keyF { f with next := f.next + 1, opn := tellL f.next f.opn now 20 } (sentQ S f q seed) = some (S.pk seed) := hk
    have hb2 : byteE (sentQ S f q seed) = 0 := hb
    have hq2 : fitsP (sentQ S f q seed) := hq
    unfold doF
    rw [if_neg (by rw [hc]; simp), if_neg (by simp [hb2, hq2, (tell_ok ht).2.1])]
    rw [show useE (FroR.next { f with next := f.next + 1, opn := tellL f.next f.opn now 20 }) (FroR.opn { f with next := f.next + 1, opn := tellL f.next f.opn now 20 }) (sentQ S f q seed).nonce now = 0 from u1]
    rw [if_neg (by simp), hk2]
    dsimp only
    rw [show S.sg (S.pk seed) (byteL (sentQ S f q seed)) (sentQ S f q seed).e (sentQ S f q seed).s = 0 from hS.ok seed hs _]
    rw [if_neg (by simp)]
    rw [show (sentQ S f q seed).nonce = f.next from rfl, u2]
    rfl
  unfold asksF
  rw [hn]
  rw [if_neg (by simp)]
  dsimp only
  rw [if_neg (by rw [hb]; simp)]
  rw [show ({ q with nonce := f.next, e := (S.sgn seed (byteL { q with nonce := f.next })).1, s := (S.sgn seed (byteL { q with nonce := f.next })).2 } : QueR) = sentQ S f q seed from rfl, hd]
theorem asks_ok {S : SigR} (hS : SigOk S) {f x : FroR} {q : QueR} {seed : Nat} {now n : Int} (hs : seed < 256) (hf : chkF f = 0) (ht : tellE f.next f.opn now 20 = 0)
    (hb : byteE { q with nonce := f.next } = 0) (hq : fitsP q) (hk : keyF f q = some (S.pk seed)) (h : stepF { f with next := f.next + 1, opn := trimF f.opn now } q now = (x, n, 0)) :
    asksF S f q seed now = (x, sentQ S f q seed, n, 0) ∧ chkF x = 0 := by
  have e := asks_eq hS hs hf ht hb hq hk
  rw [h, if_neg (by simp)] at e
  refine ⟨e, ?_⟩
  have := (asks_step hS.inb hf q seed now).1.chk
  rw [e] at this; exact this
theorem byte_zero {q : QueR} (h : headP q) (hs : ∀ s ∈ q.names, s.size ≤ 64) : byteE q = 0 := by unfold byteE; rw [if_pos ⟨h, hs⟩]
theorem nam_size {s : ByteArray} (h : namP s) : s.size ≤ 64 := by rw [← txN_length]; exact h.1

variable (S : SigR)
variable {S}
theorem fen_of {f : FroR} (h : chkF f = 0) : fenN f.next f.opn = 0 := (chkF_zero.1 h).1.1
end Go.Proofs.YtfpmfegmehbfbaaGreatDoor

/- Plain: nonces one after the other, as a loop looks at them. No program in sight. -/
namespace Go.Proofs.YtfpmfegmehbfbaaGreatDoor
set_option linter.unusedVariables false
set_option linter.unusedSimpArgs false

def fenTo (next : Int) (l : List NonR) : Prop := l.Pairwise (fun a b => a.n < b.n) ∧ ∀ x ∈ l, 0 ≤ x.n ∧ x.n < next ∧ numP x.u
theorem fenTo_nil (next : Int) : fenTo next [] := ⟨List.Pairwise.nil, by simp⟩
theorem fenP_to {next : Int} {l : List NonR} : fenP next l ↔ fenTo next l ∧ numP next := by
  unfold fenP fenTo
  exact ⟨fun ⟨a, b, c⟩ => ⟨⟨a, b⟩, c⟩, fun ⟨⟨a, b⟩, c⟩ => ⟨a, b, c⟩⟩
def lastF (l : List NonR) : Int := match l.getLast? with | some s => s.n | none => -1
theorem lastF_snoc (l : List NonR) (s : NonR) : lastF (l ++ [s]) = s.n := by simp [lastF]
theorem lastF_ge {next : Int} {l : List NonR} (h : fenTo next l) : -1 ≤ lastF l ∧ ∀ s ∈ l, s.n ≤ lastF l := by
  rcases List.eq_nil_or_concat l with rfl | ⟨m, s, rfl⟩
  · exact ⟨by decide, by simp⟩
  · rw [List.concat_eq_append] at h ⊢
    rw [lastF_snoc]
    obtain ⟨h1, h2⟩ := h
    have := (h2 s (by simp)).1
    refine ⟨by omega, fun t ht => ?_⟩
    rcases List.mem_append.1 ht with ht | ht
    · exact Int.le_of_lt ((List.pairwise_append.1 h1).2.2 t ht s (by simp))
    · rw [List.mem_singleton] at ht; subst ht; exact Int.le_refl _
theorem fenTo_snoc {next : Int} (l : List NonR) (s : NonR) : fenTo next (l ++ [s]) ↔ fenTo next l ∧ lastF l < s.n ∧ s.n < next ∧ numP s.u := by
  constructor
  · rintro ⟨h1, h2⟩
    have h3 := List.pairwise_append.1 h1
    have hl : fenTo next l := ⟨h3.1, fun x hx => h2 x (by simp [hx])⟩
    obtain ⟨a, b, c⟩ := h2 s (by simp)
    refine ⟨hl, ?_, b, c⟩
    rcases List.eq_nil_or_concat l with rfl | ⟨m, t, rfl⟩
    · show (-1 : Int) < s.n; omega
    · rw [List.concat_eq_append, lastF_snoc]
      exact h3.2.2 t (by simp) s (by simp)
  · rintro ⟨h, h1, h2, h3⟩
    obtain ⟨g1, g2⟩ := lastF_ge h
    refine ⟨List.pairwise_append.2 ⟨h.1, by simp, fun a ha b hb => ?_⟩, fun x hx => ?_⟩
    · rw [List.mem_singleton] at hb; subst hb; have := g2 a ha; omega
    · rcases List.mem_append.1 hx with hx | hx
      · exact h.2 x hx
      · rw [List.mem_singleton] at hx; subst hx; exact ⟨by omega, h2, h3⟩
theorem fenTo_take_succ {next : Int} {l : List NonR} {k : Nat} {s : NonR} (hs : l[k]? = some s) : fenTo next (l.take (k + 1)) ↔ fenTo next (l.take k) ∧ lastF (l.take k) < s.n ∧ s.n < next ∧ numP s.u := by
  rw [List.take_add_one, hs]; exact fenTo_snoc _ _
theorem lastF_take_succ {l : List NonR} {k : Nat} {s : NonR} (hs : l[k]? = some s) : lastF (l.take (k + 1)) = s.n := by
  rw [List.take_add_one, hs]; exact lastF_snoc _ _
theorem fenTo_not {next : Int} {l : List NonR} {k : Nat} (h : ¬ fenTo next (l.take k)) : ¬ fenTo next l := fun h' => h ⟨h'.1.sublist (List.take_sublist _ _), fun x hx => h'.2 x (List.mem_of_mem_take hx)⟩
theorem fenN_no {next : Int} {l : List NonR} (h : ¬ fenTo next l) : fenN next l = 1 := by unfold fenN; rw [if_neg (fun h' => h (fenP_to.1 h').1)]
theorem fenN_num {next : Int} {l : List NonR} (h : ¬ numP next) : fenN next l = 1 := by unfold fenN; rw [if_neg (fun h' => h (fenP_to.1 h').2)]
theorem fenN_yes {next : Int} {l : List NonR} (h : fenTo next l) (hn : numP next) : fenN next l = if 64 < l.length then 2 else 0 := by unfold fenN; rw [if_pos (fenP_to.2 ⟨h, hn⟩)]
end Go.Proofs.YtfpmfegmehbfbaaGreatDoor

/- Plain: a door's checks one place after the other, as loops make them. No program in sight. -/
namespace Go.Proofs.YtfpmfegmehbfbaaGreatDoor
set_option linter.unusedVariables false
set_option linter.unusedSimpArgs false

theorem tk_snoc {α : Type} {l : List α} {j : Nat} {x : α} (h : l[j]? = some x) : l.take (j + 1) = l.take j ++ [x] := by rw [List.take_add_one, h]; rfl
theorem tk_get {α : Type} {l : List α} {j i : Nat} (h : i < (l.take j).length) (h' : i < l.length) : (l.take j)[i] = l[i] := by rw [List.getElem_take]
theorem accsP_succ {l : List AccR} {j : Nat} {x : AccR} (h : l[j]? = some x) : accsP (l.take (j + 1)) ↔ accsP (l.take j) ∧ accP j x ∧ x.key ∉ (l.take j).map (·.key) := by
  obtain ⟨hj, rfl⟩ := List.getElem?_eq_some_iff.1 h
  have hlen : (l.take j).length = j := by rw [List.length_take]; omega
  rw [tk_snoc h]
  unfold accsP
  rw [List.map_append, List.nodup_append]
  constructor
  · rintro ⟨h1, h2, h3, h4⟩
    refine ⟨⟨fun i hi => ?_, h2⟩, ?_, fun hm => h4 _ hm l[j].key (by simp) rfl⟩
    · have := h1 i (by rw [List.length_append]; omega)
      rwa [List.getElem_append_left hi] at this
    · have := h1 j (by rw [List.length_append, hlen]; simp)
      rw [List.getElem_append_right (by omega)] at this
      simpa [hlen] using this
  · rintro ⟨⟨h1, h2⟩, h3, h4⟩
    refine ⟨fun i hi => ?_, h2, by simp, fun a ha b hb => ?_⟩
    · by_cases hi' : i < (l.take j).length
      · rw [List.getElem_append_left hi']; exact h1 i hi'
      · have : i = j := by rw [List.length_append, hlen] at hi; simp at hi; omega
        subst this
        rw [List.getElem_append_right (by omega)]
        simpa [hlen] using h3
    · simp at hb; subst hb; intro e; subst e; exact h4 ha
theorem accsP_not {l : List AccR} {j : Nat} (h : ¬ accsP (l.take j)) : ¬ accsP l := fun h' => h ⟨fun i hi => by
    have hi' : i < l.length := by rw [List.length_take] at hi; omega
    rw [tk_get hi hi']; exact h'.1 i hi', by rw [List.map_take]; exact h'.2.sublist (List.take_sublist _ _)⟩
theorem autsP_succ {n : Nat} {l : List AutR} {j : Nat} {x : AutR} (h : l[j]? = some x) : autsP n (l.take (j + 1)) ↔ autsP n (l.take j) ∧ autP n j x := by
  obtain ⟨hj, rfl⟩ := List.getElem?_eq_some_iff.1 h
  have hlen : (l.take j).length = j := by rw [List.length_take]; omega
  rw [tk_snoc h]
  unfold autsP
  constructor
  · intro h1
    refine ⟨fun i hi => ?_, ?_⟩
    · have := h1 i (by rw [List.length_append]; omega)
      rwa [List.getElem_append_left hi] at this
    · have := h1 j (by rw [List.length_append, hlen]; simp)
      rw [List.getElem_append_right (by omega)] at this
      simpa [hlen] using this
  · rintro ⟨h1, h3⟩ i hi
    by_cases hi' : i < (l.take j).length
    · rw [List.getElem_append_left hi']; exact h1 i hi'
    · have : i = j := by rw [List.length_append, hlen] at hi; simp at hi; omega
      subst this
      rw [List.getElem_append_right (by omega)]
      simpa [hlen] using h3
theorem autsP_not {n : Nat} {l : List AutR} {j : Nat} (h : ¬ autsP n (l.take j)) : ¬ autsP n l := fun h' => h fun i hi => by
    have hi' : i < l.length := by rw [List.length_take] at hi; omega
    rw [tk_get hi hi']; exact h' i hi'
theorem issued_add (l : List OrdR) (o : OrdR) : issued (l ++ [o]) = if o.st = 5 then issued l ++ [o.ser] else issued l := by
  unfold issued
  rw [List.filter_append, List.map_append]
  by_cases h : o.st = 5 <;> simp [h]
theorem ordsP_succ {n : Nat} {f : List AutR} {s : Int} {l : List OrdR} {j : Nat} {x : OrdR} (h : l[j]? = some x) : ordsP n f s (l.take (j + 1)) ↔ ordsP n f s (l.take j) ∧ ordP n f j x ∧ serP s x ∧ (x.st = 5 → x.ser ∉ issued (l.take j)) := by
  obtain ⟨hj, rfl⟩ := List.getElem?_eq_some_iff.1 h
  have hlen : (l.take j).length = j := by rw [List.length_take]; omega
  rw [tk_snoc h]
  unfold ordsP
  rw [issued_add]
  constructor
  · rintro ⟨h1, h2⟩
    have hx := h1 j (by rw [List.length_append, hlen]; simp)
    rw [List.getElem_append_right (by omega)] at hx
    simp only [hlen, Nat.sub_self, List.getElem_cons_zero] at hx
    refine ⟨⟨fun i hi => ?_, ?_⟩, hx.1, hx.2, fun h5 hm => ?_⟩
    · have := h1 i (by rw [List.length_append]; omega)
      rwa [List.getElem_append_left hi] at this
    · split at h2
      · exact (List.nodup_append.1 h2).1
      · exact h2
    · rw [if_pos h5, List.nodup_append] at h2
      exact h2.2.2 _ hm l[j].ser (by simp) rfl
  · rintro ⟨⟨h1, h2⟩, h3, h4, h5⟩
    refine ⟨fun i hi => ?_, ?_⟩
    · by_cases hi' : i < (l.take j).length
      · rw [List.getElem_append_left hi']; exact h1 i hi'
      · have : i = j := by rw [List.length_append, hlen] at hi; simp at hi; omega
        subst this
        rw [List.getElem_append_right (by omega)]
        simp only [hlen, Nat.sub_self, List.getElem_cons_zero]
        exact ⟨h3, h4⟩
    · split
      · next e => rw [List.nodup_append]; exact ⟨h2, by simp, fun a ha b hb => by simp at hb; subst hb; intro e'; subst e'; exact h5 e ha⟩
      · exact h2
theorem ordsP_not {n : Nat} {f : List AutR} {s : Int} {l : List OrdR} {j : Nat} (h : ¬ ordsP n f s (l.take j)) : ¬ ordsP n f s l := fun h' => h ⟨fun i hi => by
    have hi' : i < l.length := by rw [List.length_take] at hi; omega
    rw [tk_get hi hi']; exact h'.1 i hi', by
    have e : issued l = issued (l.take j) ++ issued (l.drop j) := by
      unfold issued
      rw [← List.map_append, ← List.filter_append, List.take_append_drop]
    have := h'.2
    rw [e, List.nodup_append] at this
    exact this.1⟩
end Go.Proofs.YtfpmfegmehbfbaaGreatDoor

/- Plain: what holds is not asked for again. No program in sight. -/
namespace Go.Proofs.YtfpmfegmehbfbaaGreatDoor
set_option linter.unusedVariables false
set_option linter.unusedSimpArgs false

/-- Numbers one after the other. -/
def idsF (a n : Nat) : List Int := (List.range n).map fun i => ((a + i : Nat) : Int) + 1
def newsF (a : Nat) (acc : Int) (names : List ByteArray) : List AutR := names.mapIdx fun i s => newA (a + i) acc s
theorem idsF_len (a n : Nat) : (idsF a n).length = n := by simp [idsF]
theorem newsF_len (a : Nat) (acc : Int) (names : List ByteArray) : (newsF a acc names).length = names.length := by simp [newsF]
/-- None of these may be used again. -/
def freshA (now : Int) (l : List AutR) : Prop := ∀ a ∈ l, ¬ (a.st = 3 ∧ now < a.un)
theorem find_none {l : List AutR} {acc now : Int} {s : ByteArray} (h : freshA now l) : findA l acc s now = none := by
  unfold findA
  rw [List.findIdx?_eq_none_iff]
  intro a ha
  have := h a ha
  by_cases h1 : a.st = 3 <;> by_cases h2 : now < a.un <;> simp_all
theorem want_fresh {acc now : Int} : ∀ (names : List ByteArray) (l : List AutR) (ns : List Int), freshA now l →
    names.foldl (wantA acc now) (l, ns) = (l ++ newsF l.length acc names, ns ++ idsF l.length names.length)
  | [], l, ns, _ => by simp [newsF, idsF]
  | s :: names, l, ns, h => by
    rw [List.foldl_cons, wantA_none (find_none h), want_fresh names]
    · congr 1
      · simp [newsF, List.mapIdx_cons, Nat.add_assoc, Nat.add_comm 1]
      · simp only [idsF, List.length_cons, List.range_succ_eq_map, List.map_cons, List.length_append, List.length_nil, List.append_assoc, List.cons_append, List.nil_append, List.map_map]
        congr 1
        simp only [Nat.add_zero, List.cons.injEq, true_and]
        apply List.map_congr_left
        intro i _
        simp only [Function.comp]
        omega
    · intro a ha
      rcases List.mem_append.1 ha with ha | ha
      · exact h a ha
      · simp at ha; subst ha; simp [newA]
theorem want_news {acc now : Int} {names : List ByteArray} {l : List AutR} (h : freshA now l) : wantL l acc now names = (l ++ newsF l.length acc names, idsF l.length names.length) := by
  unfold wantL; rw [want_fresh names l [] h]; simp
variable (S : SigR) (names : List ByteArray)
variable {S names}
end Go.Proofs.YtfpmfegmehbfbaaGreatDoor

/- Plain: who has an account orders, is looked at, and may then have what was ordered (TopDoor). No program in sight. -/
namespace Go.Proofs.YtfpmfegmehbfbaaGreatDoor
set_option linter.unusedVariables false
set_option linter.unusedSimpArgs false

variable (S : SigR) (names : List ByteArray) (key : Nat) (life now : Int)
/-- The first k have shown. -/
def tA (k : Nat) : List AutR := names.mapIdx fun i s => if i < k then { newA i 1 s with st := 3, fr := now, un := now + 50 } else newA i 1 s
def tO (st : Int) : OrdR := ⟨1, 1, names, key, life, idsF 0 names.length, st, 0⟩
def tq1 : QueR := ⟨1, 0, 0, S.pk 0, [], 0, 0, 0, 0⟩
def tq2 : QueR := ⟨2, 1, 0, key, names, life, 0, 0, 0⟩
def tq3 (k : Nat) : QueR := ⟨3, 1, 0, 0, [], 0, (k : Int) + 1, 0, 0⟩
def tq4 : QueR := ⟨4, 1, 0, 0, [], 0, 1, 0, 0⟩
def td1 : FroR := ⟨1, [], [⟨1, S.pk 0⟩], [], [], 0⟩
def td2 (k : Nat) : FroR := ⟨2 + (k : Int), [], [⟨1, S.pk 0⟩], tA names now k, [tO names key life 1], 0⟩
def tdL (k : Nat) : FroR := ⟨3 + (k : Int), [], [⟨1, S.pk 0⟩], (tA names now k).set k { newA k 1 (names.getD k ByteArray.empty) with st := 2 }, [tO names key life 1], 0⟩
def td5 : FroR := ⟨3 + (names.length : Int), [], [⟨1, S.pk 0⟩], tA names now names.length, [tO names key life 2], 0⟩
/-- May what is ordered be ordered? -/
def tMay : Prop := namesP names ∧ inB key = true ∧ 1 ≤ life ∧ life ≤ 1000
/-- Behind the account. -/
structure TopS1 : Prop where
  b1 : asksF S froZ (tq1 S) 0 now = (td1 S, sentQ S froZ (tq1 S) 0, 1, 0)
  c1 : chkF (td1 S) = 0
  r1 : doF S.sg (td1 S) (sentQ S froZ (tq1 S) 0) now = bad 210
  no : ¬ tMay names key life → (asksF S (td1 S) (tq2 names key life) 0 now).2.2.2 ≠ 0
/-- Behind an order that may be. -/
structure TopS2 : Prop where
  b2 : asksF S (td1 S) (tq2 names key life) 0 now = (td2 S names key life now 0, sentQ S (td1 S) (tq2 names key life) 0, 1, 0)
  w1 : (wisF (td2 S names key life now 0) 1 now).2 ≠ 0
  b3 : ∀ k < names.length, asksF S (td2 S names key life now k) (tq3 k) 0 now = (tdL S names key life now k, sentQ S (td2 S names key life now k) (tq3 k) 0, (k : Int) + 1, 0)
  b4 : ∀ k < names.length, sawF (tdL S names key life now k) ((k : Int) + 1) true now = (td2 S names key life now (k + 1), 0)
  b5 : asksF S (td2 S names key life now names.length) tq4 0 now = (td5 S names key life now, sentQ S (td2 S names key life now names.length) tq4 0, 1, 0)
  w2 : wisF (td5 S names key life now) 1 now = ((1, names, key, life), 0)
  cK : ∀ k ≤ names.length, chkF (td2 S names key life now k) = 0
  cL : ∀ k < names.length, chkF (tdL S names key life now k) = 0
  c5 : chkF (td5 S names key life now) = 0
variable {S names key life now}
theorem tA_len (k : Nat) : (tA names now k).length = names.length := by simp [tA]
theorem tA_at {k i : Nat} {s : ByteArray} (h : names[i]? = some s) : (tA names now k)[i]? = some (if i < k then { newA i 1 s with st := 3, fr := now, un := now + 50 } else newA i 1 s) := by
  unfold tA; rw [List.getElem?_mapIdx, h]; rfl
theorem tA_zero : tA names now 0 = newsF 0 1 names := by
  unfold tA newsF; congr 1; funext i s; simp
theorem tA_step {k : Nat} {s : ByteArray} (h : names[k]? = some s) (a : AutR) : ((tA names now k).set k a).set k { newA k 1 s with st := 3, fr := now, un := now + 50 } = tA names now (k + 1) := by
  rw [List.set_set]
  apply List.ext_getElem?
  intro i
  by_cases hi : i < names.length
  · have e : names[i]? = some names[i] := List.getElem?_eq_getElem hi
    rw [tA_at e]
    by_cases hik : k = i
    · subst hik
      rw [List.getElem?_set_self (by rw [tA_len]; exact hi), if_pos (by omega)]
      rw [e] at h; cases h; rfl
    · rw [List.getElem?_set_ne hik, tA_at e]
      by_cases h1 : i < k
      · rw [if_pos h1, if_pos (by omega)]
      · rw [if_neg h1, if_neg (by omega)]
  · rw [List.getElem?_eq_none (by simp [tA_len]; omega), List.getElem?_eq_none (by rw [tA_len]; omega)]
theorem top_one (hS : SigOk S) (h0 : 0 ≤ now) (hM : now ≤ 1000000) : TopS1 S names key life now := by
  have k2 := hS.pk (seed := 0) (by decide)
  obtain ⟨b1, c1⟩ := asks_ok hS (f := froZ) (x := td1 S) (q := tq1 S) (seed := 0) (now := now) (n := 1) (by decide) chk_new (tell_zero (fen_of chk_new) h0 (by omega) (by simp [froZ]) (by simp [froZ])) (byte_zero (by simp [headP, numP, tq1, froZ]) (by simp [tq1])) (by simp [fitsP, tq1]) rfl rfl
  refine ⟨b1, c1, ?_, fun hm => ?_⟩
  · have h := b1
    unfold asksF at h
    split at h
    · next hn => simp only [Prod.mk.injEq] at h; exact absurd h.2.2.2 hn
    · next hn =>
      dsimp only at h
      split at h
      · simp only [Prod.mk.injEq] at h; omega
      · split at h
        · next hd => simp only [Prod.mk.injEq] at h; exact absurd h.2.2.2 hd
        · next hd =>
          simp only [Prod.mk.injEq] at h
          obtain ⟨h1, h2, -, -⟩ := h
          rw [← h1, ← h2]
          exact do_again hS.inb (Classical.not_not.1 hd) ⟨h0, by omega⟩
  · intro he
    apply hm
    unfold asksF at he
    split at he
    · next hn => exact absurd he hn
    · dsimp only at he
      split at he
      · cases he
      · split at he
        · next hd => exact absurd he hd
        · next hd =>
          have hf := (do_steps (Classical.not_not.1 hd)).2.2.2.1
          simp only [fitsP, tq2] at hf
          rw [if_neg (by decide), if_pos trivial] at hf
          exact ⟨hf.2.1, hf.2.2.1, hf.2.2.2.1, hf.2.2.2.2⟩
theorem top_two (hS : SigOk S) (h0 : 0 ≤ now) (hM : now ≤ 1000000) (hm : tMay names key life) : TopS2 S names key life now := by
  have k2 := hS.pk (seed := 0) (by decide)
  obtain ⟨n0, k5, l1, l2⟩ := hm
  obtain ⟨n1, n2, n3, n4⟩ := n0
  have n0 : namesP names := ⟨n1, n2, n3, n4⟩
  have n64 : ∀ s ∈ names, s.size ≤ 64 := fun s hs => nam_size (n1 s hs)
  have c1 := (top_one (names := names) (key := key) (life := life) hS h0 hM).c1
  have w0 : stepF { td1 S with next := (td1 S).next + 1, opn := trimF (td1 S).opn now } (tq2 names key life) now = (td2 S names key life now 0, 1, 0) := by
    unfold stepF
    rw [if_neg (by simp [tq2]), if_pos (by simp [tq2])]
    unfold wantF
    rw [show (tq2 names key life).acc = 1 from rfl, show (tq2 names key life).names = names from rfl, show FroR.auts { td1 S with next := (td1 S).next + 1, opn := trimF (td1 S).opn now } = [] from rfl, want_news (l := []) (by intro a ha; cases ha)]
    dsimp only
    rw [if_neg (by simp [newsF_len, td1]; omega)]
    simp [td2, tA_zero, td1, tO, tq2, trimF]
  obtain ⟨b2, cK0⟩ := asks_ok hS (f := td1 S) (x := td2 S names key life now 0) (q := tq2 names key life) (seed := 0) (now := now) (n := 1) (by decide) c1 (tell_zero (fen_of c1) h0 (by omega) (by simp [td1]) (by simp [td1])) (byte_zero (by simp [headP, numP, tq2, td1]; omega) (by simpa [tq2] using n64)) (by simp [fitsP, tq2, n0, k5, l1, l2]) (by simp [keyF, tq2, td1]) w0
  have look : ∀ k < names.length, stepF { td2 S names key life now k with next := (td2 S names key life now k).next + 1, opn := trimF (td2 S names key life now k).opn now } (tq3 k) now = (tdL S names key life now k, (k : Int) + 1, 0) := fun k hk => by
    have e : names[k]? = some names[k] := List.getElem?_eq_getElem hk
    have ea := tA_at (now := now) (k := k) e
    rw [if_neg (by omega)] at ea
    unfold stepF
    rw [if_neg (by simp [tq3]), if_neg (by simp [tq3]), if_pos (by simp [tq3])]
    unfold lookF
    rw [if_neg (by simp [tq3]; omega), show (tq3 k).id.toNat - 1 = k by simp [tq3]]
    rw [show (FroR.auts { td2 S names key life now k with next := (td2 S names key life now k).next + 1, opn := trimF (td2 S names key life now k).opn now }) = tA names now k from rfl, ea]
    dsimp only
    rw [if_neg (by simp [newA, tq3]), if_neg (by simp [newA])]
    simp [td2, tdL, trimF, tq3, e]
    omega
  have saw : ∀ k < names.length, chkF (tdL S names key life now k) = 0 → sawF (tdL S names key life now k) ((k : Int) + 1) true now = (td2 S names key life now (k + 1), 0) := fun k hk hc => by
    have e : names[k]? = some names[k] := List.getElem?_eq_getElem hk
    unfold sawF
    rw [if_neg (by rw [hc]; simp), if_neg (by omega), if_neg (by omega), show ((k : Int) + 1).toNat - 1 = k by omega]
    rw [show (tdL S names key life now k).auts[k]? = some { newA k 1 names[k] with st := 2 } by
      unfold tdL; dsimp only; rw [List.getElem?_set_self (by rw [tA_len]; exact hk)]; simp [e]]
    dsimp only
    rw [if_neg (by simp), if_pos rfl]
    have := tA_step (now := now) e { newA k 1 (names.getD k ByteArray.empty) with st := 2 }
    simp only [td2, tdL]
    rw [← this]
    simp
    omega
  have all : ∀ k, k ≤ names.length → chkF (td2 S names key life now k) = 0 ∧ ∀ j < k, asksF S (td2 S names key life now j) (tq3 j) 0 now = (tdL S names key life now j, sentQ S (td2 S names key life now j) (tq3 j) 0, (j : Int) + 1, 0) ∧ chkF (tdL S names key life now j) = 0 ∧ sawF (tdL S names key life now j) ((j : Int) + 1) true now = (td2 S names key life now (j + 1), 0) := by
    intro k
    induction k with
    | zero => intro _; exact ⟨cK0, fun j hj => by omega⟩
    | succ k ih =>
      intro hk
      obtain ⟨c, ih⟩ := ih (by omega)
      obtain ⟨b, cl⟩ := asks_ok hS (f := td2 S names key life now k) (x := tdL S names key life now k) (q := tq3 k) (seed := 0) (now := now) (n := (k : Int) + 1) (by decide) c (tell_zero (fen_of c) h0 (by omega) (by simp [td2]) (by simp [td2]; omega)) (byte_zero (by simp [headP, numP, tq3, td2]; omega) (by simp [tq3])) (by simp [fitsP, tq3]) (by simp [keyF, tq3, td2]) (look k (by omega))
      have bs := saw k (by omega) cl
      refine ⟨?_, fun j hj => ?_⟩
      · have := saw_ok (f := tdL S names key life now k) (id := (k : Int) + 1) (now := now) (ok := true) (by rw [bs]); rw [bs] at this; exact this
      · rcases Nat.lt_succ_iff_lt_or_eq.1 hj with hj | rfl
        · exact ih j hj
        · exact ⟨b, cl, bs⟩
  obtain ⟨cN, allN⟩ := all names.length (Nat.le_refl _)
  have hh : holdsF (tA names now names.length) (idsF 0 names.length) now = true := by
    unfold holdsF
    rw [List.all_eq_true]
    intro x hx
    unfold idsF at hx
    obtain ⟨i, hi, rfl⟩ := List.mem_map.1 hx
    rw [List.mem_range] at hi
    rw [show (((0 + i : Nat) : Int) + 1).toNat - 1 = i by omega, tA_at (List.getElem?_eq_getElem hi), if_pos hi]
    simp [holdA]; omega
  have iss : stepF { td2 S names key life now names.length with next := (td2 S names key life now names.length).next + 1, opn := trimF (td2 S names key life now names.length).opn now } tq4 now = (td5 S names key life now, 1, 0) := by
    show issF { td2 S names key life now names.length with next := (td2 S names key life now names.length).next + 1, opn := trimF (td2 S names key life now names.length).opn now } tq4 now = _
    unfold issF
    rw [if_neg (by simp [tq4])]
    rw [show tq4.id.toNat - 1 = 0 from rfl, show (FroR.ords { td2 S names key life now names.length with next := (td2 S names key life now names.length).next + 1, opn := trimF (td2 S names key life now names.length).opn now })[0]? = some (tO names key life 1) from rfl]
    dsimp only
    rw [if_neg (by simp [tq4, tO]), show (td2 S names key life now names.length).auts = tA names now names.length from rfl, show (tO names key life 1).auths = idsF 0 names.length from rfl, if_neg (by rw [hh]; simp [tO])]
    simp [td2, td5, tO, trimF, tq4]
    omega
  obtain ⟨b5, c5⟩ := asks_ok hS (f := td2 S names key life now names.length) (x := td5 S names key life now) (q := tq4) (seed := 0) (now := now) (n := 1) (by decide) cN (tell_zero (fen_of cN) h0 (by omega) (by simp [td2]) (by simp [td2]; omega)) (byte_zero (by simp [headP, numP, tq4, td2]; omega) (by simp [tq4])) (by simp [fitsP, tq4]) (by simp [keyF, tq4, td2]) iss
  refine ⟨b2, ?_, fun k hk => (allN k hk).1, fun k hk => (allN k hk).2.2, b5, ?_, fun k hk => (all k hk).1, fun k hk => (allN k hk).2.1, c5⟩
  · unfold wisF
    rw [if_neg (by rw [cK0]; simp), if_neg (by unfold numP; omega)]
    rw [show askF (td2 S names key life now 0) 1 = (221, none) by
      unfold askF
      rw [if_neg (by decide), show (td2 S names key life now 0).ords[(1 : Int).toNat - 1]? = some (tO names key life 1) from rfl]
      rfl]
    simp
  · unfold wisF
    rw [if_neg (by rw [c5]; simp), if_neg (by unfold numP; omega)]
    rw [show askF (td5 S names key life now) 1 = (0, some (tO names key life 2)) by
      unfold askF
      rw [if_neg (by decide), show (td5 S names key life now).ords[(1 : Int).toNat - 1]? = some (tO names key life 2) from rfl]
      rfl]
    dsimp only
    rw [show (td5 S names key life now).auts = tA names now names.length from rfl, show (tO names key life 2).auths = idsF 0 names.length from rfl, if_neg (by rw [hh]; simp)]
    rfl
end Go.Proofs.YtfpmfegmehbfbaaGreatDoor
