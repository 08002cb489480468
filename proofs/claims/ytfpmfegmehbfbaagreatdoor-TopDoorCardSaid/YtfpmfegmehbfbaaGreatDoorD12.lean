/- Parts of the proofs, put together: OrMath, OrP5, OrP, OrP2, OrP3. -/
import Derived.Lib.ItoaNum
import Derived.Test.YtfpmfegmehbfbaaGreatDoorD1
/- Plain: names, nonces, the door. No program in sight. -/
namespace Go.Proofs.YtfpmfegmehbfbaaGreatDoor
set_option linter.unusedVariables false
set_option linter.unusedSimpArgs false

/-- A text's bytes as numbers. -/
def txN (s : ByteArray) : List Nat := s.data.toList.map (·.toNat)

/-! ### names -/
/-- What stands between the dots. -/
def cuts : List Nat → List (List Nat)
  | [] => [[]]
  | c :: l => if c = 46 then [] :: cuts l else match cuts l with
    | [] => [[c]]
    | h :: t => (c :: h) :: t
theorem cuts_ne : ∀ l : List Nat, cuts l ≠ []
  | [] => by simp [cuts]
  | c :: l => by
    unfold cuts
    split
    · simp
    · split <;> simp
theorem cuts_none : ∀ a : List Nat, (∀ x ∈ a, x ≠ 46) → cuts a = [a]
  | [], _ => rfl
  | c :: a, h => by
    unfold cuts
    rw [if_neg (h c (by simp)), cuts_none a (fun x hx => h x (by simp [hx]))]
theorem cuts_dot : ∀ (a b : List Nat), (∀ x ∈ a, x ≠ 46) → cuts (a ++ 46 :: b) = a :: cuts b
  | [], b, _ => by simp [cuts]
  | c :: a, b, h => by
    show cuts (c :: (a ++ 46 :: b)) = _
    rw [cuts, if_neg (h c (by simp)), cuts_dot a b (fun x hx => h x (by simp [hx]))]
theorem cuts_count : ∀ l : List Nat, (cuts l).length = l.count 46 + 1
  | [] => rfl
  | c :: l => by
    have ih := cuts_count l
    unfold cuts
    split
    · next h => subst h; simp [ih]
    · next h =>
      rw [List.count_cons_of_ne (by simpa using h)]
      split
      · next e => rw [e] at ih; simp at ih
      · next e => rw [e] at ih; simpa using ih
def wordP (c : Nat) : Prop := 97 ≤ c ∧ c ≤ 122 ∨ 48 ≤ c ∧ c ≤ 57
instance (c : Nat) : Decidable (wordP c) := by unfold wordP; infer_instance
/-- May this stand at this place of a label of that length? -/
def okAt (n i c : Nat) : Prop := if i + 1 = n then wordP c else if i = 0 then wordP c ∨ c = 95 else wordP c ∨ c = 45
instance (n i c : Nat) : Decidable (okAt n i c) := by unfold okAt; infer_instance
def labP (l : List Nat) : Prop := 0 < l.length ∧ l.length ≤ 16 ∧ ∀ i (h : i < l.length), okAt l.length i l[i]
instance (l : List Nat) : Decidable (labP l) := by unfold labP; infer_instance
def nameP (l : List Nat) : Prop := l.length ≤ 64 ∧ (cuts l).length ≤ 8 ∧ ∀ x ∈ cuts l, labP x
instance (l : List Nat) : Decidable (nameP l) := by unfold nameP; infer_instance
def namP (s : ByteArray) : Prop := nameP (txN s)
instance (s : ByteArray) : Decidable (namP s) := by unfold namP; infer_instance

/-! ### what a door knows -/
structure NonR where
  (n u : Int)
deriving DecidableEq
structure AccR where
  (id : Int) (key : Nat)
deriving DecidableEq
structure AutR where
  (id acc : Int) (name tok : ByteArray) (st fr un : Int)
deriving DecidableEq
structure OrdR where
  (id acc : Int) (names : List ByteArray) (key : Nat) (life : Int) (auths : List Int) (st ser : Int)
deriving DecidableEq
structure FroR where
  (next : Int) (opn : List NonR) (accs : List AccR) (auts : List AutR) (ords : List OrdR) (ser : Int)
deriving DecidableEq
structure QueR where
  (kind acc nonce : Int) (key : Nat) (names : List ByteArray) (life id : Int) (e s : Nat)
deriving DecidableEq
def froZ : FroR := ⟨0, [], [], [], [], 0⟩

def numP (n : Int) : Prop := 0 ≤ n ∧ n ≤ 1099511627776
instance (n : Int) : Decidable (numP n) := by unfold numP; infer_instance

/-! ### nonces -/
def fenP (next : Int) (l : List NonR) : Prop := l.Pairwise (fun a b => a.n < b.n) ∧ (∀ x ∈ l, 0 ≤ x.n ∧ x.n < next ∧ numP x.u) ∧ numP next
instance (next : Int) (l : List NonR) : Decidable (fenP next l) := by unfold fenP; infer_instance
def fenN (next : Int) (l : List NonR) : Nat := if fenP next l then (if 64 < l.length then 2 else 0) else 1
def trimF (l : List NonR) (now : Int) : List NonR := l.filter fun x => decide (now ≤ x.u)
/-- A nonce is told: the error, and what is open then. -/
def tellE (next : Int) (l : List NonR) (now life : Int) : Nat :=
  if fenN next l ≠ 0 then fenN next l else if ¬ numP now ∨ life < 1 ∨ 1099511627776 - now < life then 1
  else if (trimF l now).length = 64 ∨ next = 1099511627776 then 2 else 0
def tellL (next : Int) (l : List NonR) (now life : Int) : List NonR := trimF l now ++ [⟨next, now + life⟩]
/-- One is used. -/
def useE (next : Int) (l : List NonR) (n now : Int) : Nat :=
  if fenN next l ≠ 0 then fenN next l else if ¬ numP now then 1
  else if ∃ x ∈ l, x.n = n ∧ now ≤ x.u then 0 else 210
def useL (l : List NonR) (n : Int) : List NonR := l.filter fun x => decide (x.n ≠ n)

/-! ### the door's checks -/
def namesP (l : List ByteArray) : Prop := (∀ s ∈ l, namP s) ∧ l.Nodup ∧ 0 < l.length ∧ l.length ≤ 8
instance (l : List ByteArray) : Decidable (namesP l) := by unfold namesP; infer_instance
def tokS (id acc : Int) : ByteArray := ⟨(Lib.itoa id ++ [45] ++ Lib.itoa acc).toArray⟩
def accP (i : Nat) (a : AccR) : Prop := a.id = (i : Int) + 1 ∧ inB a.key = true
instance (i : Nat) (a : AccR) : Decidable (accP i a) := by unfold accP; infer_instance
def accsP (l : List AccR) : Prop := (∀ i (h : i < l.length), accP i l[i]) ∧ (l.map (·.key)).Nodup
instance (l : List AccR) : Decidable (accsP l) := by unfold accsP; infer_instance
/-- An authorization at its place, where there are so many accounts. -/
def autP (n i : Nat) (a : AutR) : Prop :=
  a.id = (i : Int) + 1 ∧ 1 ≤ a.acc ∧ a.acc ≤ n ∧ namP a.name ∧ a.tok = tokS a.id a.acc ∧ 1 ≤ a.st ∧ a.st ≤ 4 ∧
  (if a.st = 3 then numP a.fr ∧ a.un = a.fr + 50 else a.fr = 0 ∧ a.un = 0)
instance (n i : Nat) (a : AutR) : Decidable (autP n i a) := by unfold autP; infer_instance
def autsP (n : Nat) (l : List AutR) : Prop := ∀ i (h : i < l.length), autP n i l[i]
instance (n : Nat) (l : List AutR) : Decidable (autsP n l) := by unfold autsP; infer_instance
/-- One of an order's authorizations. -/
def hasP (f : List AutR) (acc : Int) (n : Int) (s : ByteArray) : Prop := 1 ≤ n ∧ n ≤ f.length ∧ ∀ a ∈ f[n.toNat - 1]?, a.acc = acc ∧ a.name = s
instance (f : List AutR) (acc n : Int) (s : ByteArray) : Decidable (hasP f acc n s) := by unfold hasP; infer_instance
/-- An order at its place, but for its state and serial number. -/
def ordP (n : Nat) (f : List AutR) (i : Nat) (o : OrdR) : Prop :=
  o.id = (i : Int) + 1 ∧ 1 ≤ o.acc ∧ o.acc ≤ n ∧ namesP o.names ∧ inB o.key = true ∧ 1 ≤ o.life ∧ o.life ≤ 1000 ∧ o.auths.length = o.names.length ∧
  ∀ k (h : k < o.auths.length) (h' : k < o.names.length), hasP f o.acc o.auths[k] o.names[k]
instance (n : Nat) (f : List AutR) (i : Nat) (o : OrdR) : Decidable (ordP n f i o) := by unfold ordP; infer_instance
/-- Its state and serial number. -/
def serP (ser : Int) (o : OrdR) : Prop := if o.st = 5 then 1 ≤ o.ser ∧ o.ser ≤ ser else (o.st = 1 ∨ o.st = 2) ∧ o.ser = 0
instance (ser : Int) (o : OrdR) : Decidable (serP ser o) := by unfold serP; infer_instance
/-- The serial numbers of what is issued. -/
def issued (l : List OrdR) : List Int := (l.filter fun o => decide (o.st = 5)).map (·.ser)
def ordsP (n : Nat) (f : List AutR) (ser : Int) (l : List OrdR) : Prop := (∀ i (h : i < l.length), ordP n f i l[i] ∧ serP ser l[i]) ∧ (issued l).Nodup
instance (n : Nat) (f : List AutR) (ser : Int) (l : List OrdR) : Decidable (ordsP n f ser l) := by unfold ordsP; infer_instance
def doorP (f : FroR) : Prop := fenN f.next f.opn = 0 ∧ numP f.ser ∧ accsP f.accs ∧ autsP f.accs.length f.auts ∧ ordsP f.accs.length f.auts f.ser f.ords
instance (f : FroR) : Decidable (doorP f) := by unfold doorP; infer_instance
def chkF (f : FroR) : Nat := if ¬ doorP f then 1 else if 64 < f.accs.length ∨ 256 < f.auts.length ∨ 128 < f.ords.length then 2 else 0

/-! ### requests -/
/-- So many bytes of a number, the highest first. -/
def bigD : Nat → Nat → List Nat
  | 0, _ => []
  | k + 1, n => bigD k (n / 256) ++ [n % 256]
def eightI (n : Int) : List Nat := bigD 8 n.toNat
def namesB : List ByteArray → List Nat
  | [] => []
  | s :: l => eightI s.size ++ txN s ++ namesB l
def headP (q : QueR) : Prop := 1 ≤ q.kind ∧ q.kind ≤ 5 ∧ q.names.length ≤ 8 ∧ numP q.acc ∧ numP q.nonce ∧ numP q.life ∧ numP q.id
instance (q : QueR) : Decidable (headP q) := by unfold headP; infer_instance
def byteE (q : QueR) : Nat := if headP q ∧ ∀ s ∈ q.names, s.size ≤ 64 then 0 else 1
def byteL (q : QueR) : List Nat := eightI q.kind ++ eightI q.acc ++ eightI q.nonce ++ eightI q.key ++ eightI q.life ++ eightI q.id ++ eightI q.names.length ++ namesB q.names
def fitsP (q : QueR) : Prop :=
  if q.kind = 1 then q.names = [] ∧ q.life = 0 ∧ q.acc = 0 ∧ q.id = 0
  else if q.kind = 2 then q.id = 0 ∧ namesP q.names ∧ inB q.key = true ∧ 1 ≤ q.life ∧ q.life ≤ 1000
  else q.names = [] ∧ q.life = 0 ∧ q.key = 0
instance (q : QueR) : Decidable (fitsP q) := by unfold fitsP; infer_instance

/-! ### what is done -/
def holdA (now : Int) (a : AutR) : Bool := decide (a.st = 3) && decide (now ≤ a.un)
def holdsF (f : List AutR) (l : List Int) (now : Int) : Bool := l.all fun n => match f[n.toNat - 1]? with | some a => holdA now a | none => false
/-- Wherever there is one that may be used again. -/
def findA (l : List AutR) (acc : Int) (s : ByteArray) (now : Int) : Option Nat :=
  l.findIdx? fun a => decide (a.acc = acc) && decide (a.name = s) && decide (a.st = 3) && decide (now < a.un)
def newA (n : Nat) (acc : Int) (s : ByteArray) : AutR := ⟨(n : Int) + 1, acc, s, tokS ((n : Int) + 1) acc, 1, 0, 0⟩
def wantA (acc now : Int) : List AutR × List Int → ByteArray → List AutR × List Int := fun (l, ns) s =>
  match findA l acc s now with
  | some i => (l, ns ++ [(i : Int) + 1])
  | none => (l ++ [newA l.length acc s], ns ++ [(l.length : Int) + 1])
def wantL (l : List AutR) (acc now : Int) (names : List ByteArray) : List AutR × List Int := names.foldl (wantA acc now) (l, [])
/-- The outcome: a door, a number, an error. -/
abbrev OutF := FroR × Int × Nat
def bad (e : Nat) : OutF := (froZ, 0, e)
def joinF (f : FroR) (q : QueR) : OutF :=
  match f.accs.findIdx? fun a => decide (a.key = q.key) with
  | some i => (f, (i : Int) + 1, 0)
  | none => if f.accs.length = 64 then bad 2 else ({ f with accs := f.accs ++ [⟨(f.accs.length : Int) + 1, q.key⟩] }, (f.accs.length : Int) + 1, 0)
def wantF (f : FroR) (q : QueR) (now : Int) : OutF :=
  let r := wantL f.auts q.acc now q.names
  if 256 < r.1.length ∨ 128 < f.ords.length + 1 then bad 2
  else ({ f with auts := r.1, ords := f.ords ++ [⟨(f.ords.length : Int) + 1, q.acc, q.names, q.key, q.life, r.2, 1, 0⟩] }, (f.ords.length : Int) + 1, 0)
def lookF (f : FroR) (q : QueR) : OutF :=
  if q.id < 1 then bad 131 else match f.auts[q.id.toNat - 1]? with
  | none => bad 131
  | some a => if a.acc ≠ q.acc then bad 131 else if a.st ≠ 1 ∧ a.st ≠ 4 then bad 221 else ({ f with auts := f.auts.set (q.id.toNat - 1) { a with st := 2 } }, q.id, 0)
def issF (f : FroR) (q : QueR) (now : Int) : OutF :=
  if q.id < 1 then bad 131 else match f.ords[q.id.toNat - 1]? with
  | none => bad 131
  | some o => if o.acc ≠ q.acc then bad 131 else if o.st ≠ 1 ∨ holdsF f.auts o.auths now = false then bad 221 else ({ f with ords := f.ords.set (q.id.toNat - 1) { o with st := 2 } }, q.id, 0)
def revF (f : FroR) (q : QueR) : OutF :=
  if f.ords.any (fun o => decide (o.st = 5) && decide (o.acc = q.acc) && decide (o.ser = q.id)) then (f, q.id, 0) else bad 131
def stepF (f : FroR) (q : QueR) (now : Int) : OutF :=
  if q.kind = 1 then joinF f q else if q.kind = 2 then wantF f q now else if q.kind = 3 then lookF f q else if q.kind = 4 then issF f q now else revF f q
/-- The key by which a request is to be signed. -/
def keyF (f : FroR) (q : QueR) : Option Nat := if q.kind = 1 then some q.key else if q.acc < 1 then none else (f.accs[q.acc.toNat - 1]?).map (·.key)
/-- What is done; 'sg': what is wrong with a signature. -/
def doF (sg : Nat → List Nat → Nat → Nat → Nat) (f : FroR) (q : QueR) (now : Int) : OutF :=
  if chkF f ≠ 0 then bad (chkF f)
  else if byteE q ≠ 0 ∨ ¬ numP now ∨ ¬ fitsP q then bad 1
  else if useE f.next f.opn q.nonce now ≠ 0 then bad (useE f.next f.opn q.nonce now)
  else match keyF f q with
  | none => bad 220
  | some k => if sg k (byteL q) q.e q.s ≠ 0 then bad (sg k (byteL q) q.e q.s) else stepF { f with opn := useL f.opn q.nonce } q now
def nonF (f : FroR) (now : Int) : OutF :=
  if chkF f ≠ 0 then bad (chkF f) else if tellE f.next f.opn now 20 ≠ 0 then bad (tellE f.next f.opn now 20)
  else ({ f with next := f.next + 1, opn := tellL f.next f.opn now 20 }, f.next, 0)
def sawF (f : FroR) (id : Int) (ok : Bool) (now : Int) : FroR × Nat :=
  if chkF f ≠ 0 then (froZ, chkF f) else if ¬ (0 ≤ now ∧ now + 50 ≤ 1099511627776) then (froZ, 1)
  else if id < 1 then (froZ, 131) else match f.auts[id.toNat - 1]? with
  | none => (froZ, 131)
  | some a => if a.st ≠ 2 then (froZ, 221) else ({ f with auts := f.auts.set (id.toNat - 1) (if ok = true then { a with st := 3, fr := now, un := now + 50 } else { a with st := 4 }) }, 0)
/-- An order that is to be issued. -/
def askF (f : FroR) (id : Int) : Nat × Option OrdR :=
  if id < 1 then (131, none) else match f.ords[id.toNat - 1]? with
  | none => (131, none)
  | some o => if o.st ≠ 2 then (221, none) else (0, some o)
/-- A wish: account, names, key, life. -/
abbrev WisR := Int × List ByteArray × Nat × Int
def wisF (f : FroR) (id now : Int) : WisR × Nat :=
  if chkF f ≠ 0 then ((0, [], 0, 0), chkF f) else if ¬ numP now then ((0, [], 0, 0), 1)
  else match askF f id with
  | (e, none) => ((0, [], 0, 0), e)
  | (_, some o) => if holdsF f.auts o.auths now = false then ((0, [], 0, 0), 221) else ((o.acc, o.names, o.key, o.life), 0)
end Go.Proofs.YtfpmfegmehbfbaaGreatDoor

/- Plain: what stands between the dots, as a loop finds it. No program in sight. -/
namespace Go.Proofs.YtfpmfegmehbfbaaGreatDoor
set_option linter.unusedVariables false
set_option linter.unusedSimpArgs false

theorem cuts_step {l : List Nat} {f i : Nat} (h : f ≤ i) (hi : i < l.length) (hn : ∀ k, f ≤ k → k < i → l[k]? ≠ some 46) (hd : l[i]? = some 46) :
    cuts (l.drop f) = (l.drop f).take (i - f) :: cuts (l.drop (i + 1)) := by
  have e : l.drop f = (l.drop f).take (i - f) ++ 46 :: l.drop (i + 1) := by
    conv => lhs; rw [← List.take_append_drop (i - f) (l.drop f)]
    rw [List.drop_drop, show f + (i - f) = i by omega, List.drop_eq_getElem_cons hi]
    rw [List.getElem?_eq_getElem hi] at hd
    injection hd with hd
    rw [hd]
  conv => lhs; rw [e]
  refine cuts_dot _ _ fun x hx e2 => ?_
  subst e2
  obtain ⟨k, hk, ek⟩ := List.getElem_of_mem hx
  rw [List.length_take, List.length_drop] at hk
  rw [List.getElem_take, List.getElem_drop] at ek
  refine hn (f + k) (by omega) (by omega) ?_
  rw [List.getElem?_eq_getElem (by omega), ek]
theorem cuts_last {l : List Nat} {f : Nat} (hn : ∀ k, f ≤ k → k < l.length → l[k]? ≠ some 46) : cuts (l.drop f) = [l.drop f] := by
  refine cuts_none _ fun x hx e2 => ?_
  subst e2
  obtain ⟨k, hk, ek⟩ := List.getElem_of_mem hx
  rw [List.length_drop] at hk
  rw [List.getElem_drop] at ek
  refine hn (f + k) (by omega) (by omega) ?_
  rw [List.getElem?_eq_getElem (by omega), ek]
end Go.Proofs.YtfpmfegmehbfbaaGreatDoor

/- Plain: a door stays one. No program in sight. -/
namespace Go.Proofs.YtfpmfegmehbfbaaGreatDoor
set_option linter.unusedVariables false
set_option linter.unusedSimpArgs false

/-! ### what is checked -/
theorem chkF_zero {f : FroR} : chkF f = 0 ↔ doorP f ∧ f.accs.length ≤ 64 ∧ f.auts.length ≤ 256 ∧ f.ords.length ≤ 128 := by
  unfold chkF
  by_cases h : doorP f
  · rw [if_neg (by simpa using h)]
    by_cases h2 : 64 < f.accs.length ∨ 256 < f.auts.length ∨ 128 < f.ords.length
    · rw [if_pos h2]; simp; omega
    · rw [if_neg h2]; simp [h]; omega
  · rw [if_pos h]; simp [h]
theorem fenN_zero {next : Int} {l : List NonR} : fenN next l = 0 ↔ fenP next l ∧ l.length ≤ 64 := by
  unfold fenN
  by_cases h : fenP next l
  · rw [if_pos h]
    by_cases h2 : 64 < l.length
    · rw [if_pos h2]; simp; omega
    · rw [if_neg h2]; simp [h]; omega
  · rw [if_neg h]; simp [h]
theorem fen_sub {next : Int} {l m : List NonR} (h : fenP next l) (hs : m.Sublist l) : fenP next m := ⟨h.1.sublist hs, fun x hx => h.2.1 x (hs.subset hx), h.2.2⟩
theorem fenN_sub {next : Int} {l m : List NonR} (h : fenN next l = 0) (hs : m.Sublist l) : fenN next m = 0 := by
  rw [fenN_zero] at h ⊢
  exact ⟨fen_sub h.1 hs, Nat.le_trans hs.length_le h.2⟩
theorem useL_sub (l : List NonR) (n : Int) : (useL l n).Sublist l := List.filter_sublist
theorem trimF_sub (l : List NonR) (now : Int) : (trimF l now).Sublist l := List.filter_sublist
theorem tell_ok {next now life : Int} {l : List NonR} (h : tellE next l now life = 0) : fenN next l = 0 ∧ numP now ∧ 1 ≤ life ∧ now + life ≤ 1099511627776 ∧ (trimF l now).length < 64 ∧ next < 1099511627776 ∧ 0 ≤ next := by
  unfold tellE at h
  split at h
  · next h1 => exact absurd h h1
  · next h1 =>
    replace h1 := Decidable.not_not.1 h1
    split at h
    · cases h
    · next h2 =>
      split at h
      · cases h
      · next h3 =>
        have h4 := (fenN_zero.1 h1)
        have h5 := (trimF_sub l now).length_le
        have h6 : numP next := h4.1.2.2
        obtain ⟨g1, g2⟩ := h6
        have h7 : numP now := Decidable.byContradiction fun h' => h2 (.inl h')
        obtain ⟨g3, g4⟩ := h7
        refine ⟨h1, ⟨g3, g4⟩, ?_⟩
        omega
theorem tell_fen {next now life : Int} {l : List NonR} (h : tellE next l now life = 0) : fenN (next + 1) (tellL next l now life) = 0 := by
  obtain ⟨h1, ⟨h2, h3⟩, h4, h5, h6, h7, h8⟩ := tell_ok h
  obtain ⟨g1, g2, g3, g4⟩ := fen_sub (fenN_zero.1 h1).1 (trimF_sub l now)
  refine fenN_zero.2 ⟨⟨List.pairwise_append.2 ⟨g1, List.pairwise_singleton _ _, fun a ha b hb => ?_⟩, fun x hx => ?_, by omega, by omega⟩, ?_⟩
  · rw [List.mem_singleton] at hb; subst hb; exact (g2 a ha).2.1
  · rcases List.mem_append.1 hx with hx | hx
    · obtain ⟨a, b, c⟩ := g2 x hx; exact ⟨a, by omega, c⟩
    · rw [List.mem_singleton] at hx; subst hx; exact ⟨h8, by simp; omega, by simp; omega, by simp; omega⟩
  · simp [tellL]; omega

/-! ### accounts -/
theorem accs_snoc {l : List AccR} {k : Nat} (h : accsP l) (hk : inB k = true) (hn : ∀ a ∈ l, a.key ≠ k) : accsP (l ++ [⟨(l.length : Int) + 1, k⟩]) := by
  refine ⟨fun i hi => ?_, ?_⟩
  · by_cases h1 : i < l.length
    · rw [List.getElem_append_left h1]; exact h.1 i h1
    · have : i = l.length := by simp at hi; omega
      subst this
      simp [accP, hk]
  · rw [List.map_append, List.nodup_append]
    refine ⟨h.2, by simp, fun a ha b hb => ?_⟩
    simp at hb
    subst hb
    obtain ⟨c, hc, rfl⟩ := List.mem_map.1 ha
    exact hn c hc
theorem autP.more {n m i : Nat} {a : AutR} (h : autP n i a) (hm : n ≤ m) : autP m i a := by
  obtain ⟨h1, h2, h3, h4⟩ := h; exact ⟨h1, h2, by omega, h4⟩
theorem autsP.more {n m : Nat} {l : List AutR} (h : autsP n l) (hm : n ≤ m) : autsP m l := fun i hi => (h i hi).more hm
/-- What of authorizations stays: as many, their accounts and names. -/
def keepA (f g : List AutR) : Prop := f.length ≤ g.length ∧ ∀ i (h : i < f.length) (h' : i < g.length), g[i].acc = f[i].acc ∧ g[i].name = f[i].name
theorem keepA.refl (f : List AutR) : keepA f f := ⟨Nat.le_refl _, fun _ _ _ => ⟨rfl, rfl⟩⟩
theorem keepA.trans {f g h : List AutR} (a : keepA f g) (b : keepA g h) : keepA f h := ⟨Nat.le_trans a.1 b.1, fun i h1 h2 => by
  have h3 : i < g.length := Nat.lt_of_lt_of_le h1 a.1
  obtain ⟨x, y⟩ := a.2 i h1 h3
  obtain ⟨z, u⟩ := b.2 i h3 h2
  exact ⟨z.trans x, u.trans y⟩⟩
theorem keepA.snoc (f g : List AutR) : keepA f (f ++ g) := ⟨by simp, fun i h h' => by rw [List.getElem_append_left h]; exact ⟨rfl, rfl⟩⟩
theorem keepA.set {f : List AutR} {i : Nat} {a b : AutR} (h : f[i]? = some a) (h1 : b.acc = a.acc) (h2 : b.name = a.name) : keepA f (f.set i b) := ⟨by simp, fun k hk hk' => by
  obtain ⟨hi, e⟩ := List.getElem?_eq_some_iff.1 h
  by_cases hik : i = k
  · subst hik; rw [List.getElem_set_self]; rw [e]; exact ⟨h1, h2⟩
  · rw [List.getElem_set_ne hik]; exact ⟨rfl, rfl⟩⟩
theorem hasP.keep {f g : List AutR} {acc n : Int} {s : ByteArray} (h : hasP f acc n s) (k : keepA f g) : hasP g acc n s := by
  obtain ⟨h1, h2, h3⟩ := h
  have hk := k.1
  refine ⟨h1, by omega, fun a ha => ?_⟩
  have e1 : n.toNat - 1 < f.length := by omega
  obtain ⟨e2, rfl⟩ := List.getElem?_eq_some_iff.1 (Option.mem_def.1 ha)
  obtain ⟨x, y⟩ := k.2 _ e1 e2
  obtain ⟨z, u⟩ := h3 _ (Option.mem_def.2 (List.getElem?_eq_getElem e1))
  exact ⟨x.trans z, y.trans u⟩
theorem ordP.keep {n m i : Nat} {f g : List AutR} {o : OrdR} (h : ordP n f i o) (hm : n ≤ m) (k : keepA f g) : ordP m g i o := by
  obtain ⟨h1, h2, h3, h4, h5, h6, h7, h8, h9⟩ := h
  exact ⟨h1, h2, by omega, h4, h5, h6, h7, h8, fun j a b => (h9 j a b).keep k⟩
theorem ordsP.keep {n m : Nat} {f g : List AutR} {s : Int} {l : List OrdR} (h : ordsP n f s l) (hm : n ≤ m) (k : keepA f g) : ordsP m g s l :=
  ⟨fun i hi => ⟨(h.1 i hi).1.keep hm k, (h.1 i hi).2⟩, h.2⟩
theorem auts_set {n i : Nat} {l : List AutR} {b : AutR} (h : autsP n l) (hb : autP n i b) : autsP n (l.set i b) := fun k hk => by
  by_cases hik : i = k
  · subst hik; rw [List.getElem_set_self]; exact hb
  · rw [List.getElem_set_ne hik]; exact h k (by simpa using hk)
theorem auts_snoc {n : Nat} {l : List AutR} {b : AutR} (h : autsP n l) (hb : autP n l.length b) : autsP n (l ++ [b]) := fun k hk => by
  by_cases h1 : k < l.length
  · rw [List.getElem_append_left h1]; exact h k h1
  · have : k = l.length := by simp at hk; omega
    subst this
    simpa using hb

/-! ### what is wanted -/
theorem wantA_some {acc now : Int} {l : List AutR} {ns : List Int} {s : ByteArray} {i : Nat} (h : findA l acc s now = some i) : wantA acc now (l, ns) s = (l, ns ++ [(i : Int) + 1]) := by simp [wantA, h]
theorem wantA_none {acc now : Int} {l : List AutR} {ns : List Int} {s : ByteArray} (h : findA l acc s now = none) : wantA acc now (l, ns) s = (l ++ [newA l.length acc s], ns ++ [(l.length : Int) + 1]) := by simp [wantA, h]
theorem findA_some {acc now : Int} {l : List AutR} {s : ByteArray} {i : Nat} (h : findA l acc s now = some i) : ∃ a, l[i]? = some a ∧ a.acc = acc ∧ a.name = s ∧ a.st = 3 ∧ now < a.un := by
  unfold findA at h
  obtain ⟨h1, h2, _⟩ := List.findIdx?_eq_some_iff_getElem.1 h
  simp at h2
  exact ⟨_, List.getElem?_eq_getElem h1, h2.1.1.1, h2.1.1.2, h2.1.2, h2.2⟩
/-- What want keeps, name by name. -/
structure WantI (n : Nat) (f : List AutR) (acc : Int) (names : List ByteArray) (r : List AutR × List Int) : Prop where
  auts : autsP n r.1
  keep : keepA f r.1
  pre : f <+: r.1
  len : r.2.length = names.length
  has : ∀ k (h : k < r.2.length) (h' : k < names.length), hasP r.1 acc r.2[k] names[k]
theorem want_step {n : Nat} {f : List AutR} {acc now : Int} {names : List ByteArray} {r : List AutR × List Int} {s : ByteArray} (h : WantI n f acc names r) (ha : 1 ≤ acc) (ha' : acc ≤ n) (hs : namP s) : WantI n f acc (names ++ [s]) (wantA acc now r s) := by
  obtain ⟨l, ns⟩ := r
  obtain ⟨h1, h2, hp, h3, h4⟩ := h
  have key : ∀ (g : List AutR) (m : Int), autsP n g → keepA l g → l <+: g → hasP g acc m s → WantI n f acc (names ++ [s]) (g, ns ++ [m]) := fun g m hg hk hpre hm => ⟨hg, h2.trans hk, hp.trans hpre, by simpa using h3, fun k hk1 hk2 => by
    have h3' : ns.length = names.length := h3
    by_cases hk3 : k < ns.length
    · have hk4 : k < names.length := by omega
      simp only [List.getElem_append_left hk3, List.getElem_append_left hk4]
      exact (h4 k hk3 hk4).keep hk
    · have : k = ns.length := by simp at hk1; omega
      subst this
      simp [h3']
      exact hm⟩
  cases hf : findA l acc s now with
  | some i =>
    rw [wantA_some hf]
    obtain ⟨a, ea, e1, e2, _⟩ := findA_some hf
    obtain ⟨hi, ei⟩ := List.getElem?_eq_some_iff.1 ea
    refine key l _ h1 (keepA.refl l) List.prefix_rfl ⟨by omega, by omega, fun b hb => ?_⟩
    rw [show ((i : Int) + 1).toNat - 1 = i by omega, ea] at hb
    simp at hb; subst hb
    exact ⟨e1, e2⟩
  | none =>
    rw [wantA_none hf]
    refine key _ _ (auts_snoc h1 ⟨rfl, ha, ha', hs, rfl, by simp [newA], by simp [newA], ⟨rfl, rfl⟩⟩) (keepA.snoc _ _) (List.prefix_append _ _) ⟨by omega, by simp, fun b hb => ?_⟩
    rw [show ((l.length : Int) + 1).toNat - 1 = l.length by omega] at hb
    simp at hb; subst hb
    exact ⟨rfl, rfl⟩
theorem want_all {n : Nat} {f : List AutR} {acc now : Int} (ha : 1 ≤ acc) (ha' : acc ≤ n) : ∀ (todo names : List ByteArray) (r : List AutR × List Int), WantI n f acc names r → (∀ s ∈ todo, namP s) → WantI n f acc (names ++ todo) (todo.foldl (wantA acc now) r)
  | [], names, r, h, _ => by simpa using h
  | s :: todo, names, r, h, hs => by
    have := want_all (now := now) ha ha' todo (names ++ [s]) _ (want_step (now := now) h ha ha' (hs s (by simp))) (fun x hx => hs x (by simp [hx]))
    simpa using this
theorem want_ok {n : Nat} {f : List AutR} {acc now : Int} {names : List ByteArray} (hf : autsP n f) (ha : 1 ≤ acc) (ha' : acc ≤ n) (hs : ∀ s ∈ names, namP s) : WantI n f acc names (wantL f acc now names) := by
  have := want_all (now := now) ha ha' names [] (f, []) ⟨hf, keepA.refl f, List.prefix_rfl, rfl, fun k h => by simp at h⟩ hs
  unfold wantL
  simpa using this

/-! ### orders -/
theorem issued_snoc {l : List OrdR} {o : OrdR} (h : o.st ≠ 5) : issued (l ++ [o]) = issued l := by simp [issued, h]
theorem issued_set : ∀ {l : List OrdR} {i : Nat} {o b : OrdR}, l[i]? = some o → o.st ≠ 5 → b.st ≠ 5 → issued (l.set i b) = issued l
  | [], i, o, b, h, _, _ => by simp at h
  | a :: l, 0, o, b, h, h1, h2 => by
    simp at h; subst h
    simp [issued, h1, h2]
  | a :: l, i + 1, o, b, h, h1, h2 => by
    have ih := issued_set (l := l) (i := i) (o := o) (b := b) (by simpa using h) h1 h2
    unfold issued at ih ⊢
    rw [List.set_cons_succ, List.filter_cons, List.filter_cons]
    split
    · rw [List.map_cons, List.map_cons, ih]
    · exact ih
theorem ords_set {n : Nat} {f : List AutR} {s s' : Int} {l : List OrdR} {i : Nat} {b : OrdR} (h : ordsP n f s l) (hss : s ≤ s') (hb : ordP n f i b) (hs : serP s' b) (hi : (issued (l.set i b)).Nodup) : ordsP n f s' (l.set i b) :=
  ⟨fun k hk => by
    by_cases hik : i = k
    · subst hik; rw [List.getElem_set_self]; exact ⟨hb, hs⟩
    · rw [List.getElem_set_ne hik]
      obtain ⟨h1, h2⟩ := h.1 k (by simpa using hk)
      refine ⟨h1, ?_⟩
      unfold serP at h2 ⊢
      split
      · next e => rw [if_pos e] at h2; omega
      · next e => rwa [if_neg e] at h2, hi⟩
end Go.Proofs.YtfpmfegmehbfbaaGreatDoor

/- Plain: whatever is done, a door stays one. No program in sight. -/
namespace Go.Proofs.YtfpmfegmehbfbaaGreatDoor
set_option linter.unusedVariables false
set_option linter.unusedSimpArgs false

theorem useE_zero {next n now : Int} {l : List NonR} (h : useE next l n now = 0) : fenN next l = 0 ∧ numP now ∧ ∃ x ∈ l, x.n = n ∧ now ≤ x.u := by
  unfold useE at h
  split at h
  · next h1 => exact absurd h h1
  · next h1 =>
    replace h1 := Decidable.not_not.1 h1
    split at h
    · cases h
    · next h2 =>
      split at h
      · next h3 => exact ⟨h1, Decidable.not_not.1 h2, h3⟩
      · cases h
/-- What is said of a step that is done. -/
theorem do_steps {sg : Nat → List Nat → Nat → Nat → Nat} {f : FroR} {q : QueR} {now : Int} (h : (doF sg f q now).2.2 = 0) :
    chkF f = 0 ∧ byteE q = 0 ∧ numP now ∧ fitsP q ∧ useE f.next f.opn q.nonce now = 0 ∧ (∃ k, keyF f q = some k ∧ sg k (byteL q) q.e q.s = 0) ∧ doF sg f q now = stepF { f with opn := useL f.opn q.nonce } q now := by
  unfold doF at h ⊢
  split at h
  · next h1 => exact absurd h h1
  next h1 =>
  rw [if_neg h1]
  replace h1 := Decidable.not_not.1 h1
  split at h
  · cases h
  next h2 =>
  rw [if_neg h2]
  split at h
  · next h3 => exact absurd h h3
  next h3 =>
  rw [if_neg h3]
  replace h3 := Decidable.not_not.1 h3
  split at h
  · cases h
  next k hk =>
  try rw [hk]
  try dsimp only at h ⊢
  split at h
  · next h4 => exact absurd h h4
  next h4 =>
  rw [if_neg h4]
  replace h4 := Decidable.not_not.1 h4
  simp only [not_or, Decidable.not_not] at h2
  exact ⟨h1, h2.1, h2.2.1, h2.2.2, h3, ⟨k, rfl, h4⟩, rfl⟩

theorem ser_state {s : Int} {o : OrdR} {t : Int} (h : serP s o) (h1 : o.st ≠ 5) (ht : t = 1 ∨ t = 2) : serP s { o with st := t } := by
  unfold serP at h ⊢
  rw [if_neg h1] at h
  have : t ≠ 5 := by rcases ht with rfl | rfl <;> omega
  rw [if_neg this]
  exact ⟨ht, h.2⟩

/-- A step at a door that is one. -/
theorem step_ok {f : FroR} {q : QueR} {now : Int} (hf : chkF f = 0) (hq : fitsP q) (hk : q.kind = 1 → inB q.key = true) (ha : q.kind ≠ 1 → 1 ≤ q.acc ∧ q.acc ≤ f.accs.length) (h : (stepF f q now).2.2 = 0) :
    chkF (stepF f q now).1 = 0 := by
  obtain ⟨⟨p1, p2, p3, p4, p5⟩, n1, n2, n3⟩ := chkF_zero.1 hf
  unfold stepF at h ⊢
  split at h
  · next e =>
    rw [if_pos e]
    unfold joinF at h ⊢
    split at h
    · next i hi => simpa [hi] using hf
    · next hi =>
      try rw [hi]
      try dsimp only at h ⊢
      split at h
      · cases h
      next hl =>
      rw [if_neg hl]
      have hn : ∀ a ∈ f.accs, a.key ≠ q.key := fun a ha => by
        have := List.findIdx?_eq_none_iff.1 hi a ha
        simpa using this
      refine chkF_zero.2 ⟨⟨p1, p2, accs_snoc p3 (hk e) hn, ?_, ?_⟩, ?_, n2, n3⟩
      · exact p4.more (by simp)
      · exact p5.keep (by simp) (keepA.refl _)
      · simp; omega
  next e1 =>
  rw [if_neg e1]
  obtain ⟨a1, a2⟩ := ha e1
  split at h
  · next e =>
    rw [if_pos e]
    unfold fitsP at hq
    rw [if_neg e1, if_pos e] at hq
    obtain ⟨q1, q2, q3, q4, q5⟩ := hq
    have hw := want_ok (now := now) p4 a1 a2 q2.1
    unfold wantF at h ⊢
    dsimp only at h ⊢
    split at h
    · cases h
    next hl =>
    rw [if_neg hl]
    obtain ⟨w1, w2, w3, w4, w5⟩ := hw
    refine chkF_zero.2 ⟨⟨p1, p2, p3, w1, fun i hi => ?_, ?_⟩, n1, by dsimp only; omega, by simp; omega⟩
    · by_cases h1 : i < f.ords.length
      · rw [List.getElem_append_left h1]
        exact ⟨(p5.1 i h1).1.keep (Nat.le_refl _) w2, (p5.1 i h1).2⟩
      · have : i = f.ords.length := by simp at hi; omega
        subst this
        simp only [List.getElem_append_right (Nat.le_refl _), Nat.sub_self, List.getElem_cons_zero]
        exact ⟨⟨rfl, a1, a2, q2, q3, q4, q5, w4, w5⟩, by unfold serP; simp⟩
    · rw [issued_snoc (by simp)]; exact p5.2
  next e2 =>
  rw [if_neg e2]
  split at h
  · next e =>
    rw [if_pos e]
    unfold lookF at h ⊢
    split at h
    · cases h
    next hi =>
    rw [if_neg hi]
    split at h
    · cases h
    next a hx =>
    try rw [hx]
    try dsimp only at h ⊢
    split at h
    · cases h
    next hacc =>
    rw [if_neg hacc]
    split at h
    · cases h
    next hst =>
    rw [if_neg hst]
    obtain ⟨hi2, ex⟩ := List.getElem?_eq_some_iff.1 hx
    have hap := p4 _ hi2
    rw [ex] at hap
    obtain ⟨b1, b2, b3, b4, b5, b6, b7, b8⟩ := hap
    have hne : a.st ≠ 3 := by omega
    rw [if_neg hne] at b8
    refine chkF_zero.2 ⟨⟨p1, p2, p3, auts_set p4 ⟨b1, b2, b3, b4, b5, by simp, by simp, ?_⟩, p5.keep (Nat.le_refl _) (keepA.set hx rfl rfl)⟩, n1, by simpa using n2, n3⟩
    simpa using b8
  next e3 =>
  rw [if_neg e3]
  split at h
  · next e =>
    rw [if_pos e]
    unfold issF at h ⊢
    split at h
    · cases h
    next hi =>
    rw [if_neg hi]
    split at h
    · cases h
    next o hx =>
    try rw [hx]
    try dsimp only at h ⊢
    split at h
    · cases h
    next hacc =>
    rw [if_neg hacc]
    split at h
    · cases h
    next hst =>
    rw [if_neg hst]
    obtain ⟨hi2, ex⟩ := List.getElem?_eq_some_iff.1 hx
    obtain ⟨o1, o2⟩ := p5.1 _ hi2
    rw [ex] at o1 o2
    have hne : o.st ≠ 5 := by omega
    refine chkF_zero.2 ⟨⟨p1, p2, p3, p4, ords_set p5 (Int.le_refl _) o1 (ser_state o2 hne (.inr rfl)) ?_⟩, n1, n2, by simpa using n3⟩
    rw [issued_set hx hne (by simp)]
    exact p5.2
  next e4 =>
  rw [if_neg e4]
  unfold revF at h ⊢
  split at h
  · next hx => rw [if_pos hx]; exact hf
  · cases h

/-- What is done leaves a door one. -/
theorem do_ok {sg : Nat → List Nat → Nat → Nat → Nat} (hsg : ∀ k l e s, sg k l e s = 0 → inB k = true) {f : FroR} {q : QueR} {now : Int} (h : (doF sg f q now).2.2 = 0) : chkF (doF sg f q now).1 = 0 := by
  obtain ⟨h1, h2, h3, h4, h5, ⟨k, h6, h7⟩, h8⟩ := do_steps h
  rw [h8] at h ⊢
  obtain ⟨⟨p1, p2, p3, p4, p5⟩, n1, n2, n3⟩ := chkF_zero.1 h1
  refine step_ok (chkF_zero.2 ⟨⟨fenN_sub p1 (useL_sub _ _), p2, p3, p4, p5⟩, n1, n2, n3⟩) h4 (fun e => ?_) (fun e => ?_) h
  · unfold keyF at h6
    rw [if_pos e] at h6
    injection h6 with h6
    subst h6
    exact hsg _ _ _ _ h7
  · unfold keyF at h6
    rw [if_neg e] at h6
    split at h6
    · cases h6
    · next h9 =>
      simp at h6
      obtain ⟨a, ha, _⟩ := h6
      have := (List.getElem?_eq_some_iff.1 ha).1
      dsimp only
      omega
theorem non_steps {f : FroR} {now : Int} (h : (nonF f now).2.2 = 0) : chkF f = 0 ∧ tellE f.next f.opn now 20 = 0 ∧ nonF f now = ({ f with next := f.next + 1, opn := tellL f.next f.opn now 20 }, f.next, 0) := by
  unfold nonF at h ⊢
  split at h
  · next h1 => exact absurd h h1
  next h1 =>
  rw [if_neg h1]
  split at h
  · next h2 => exact absurd h h2
  next h2 =>
  rw [if_neg h2]
  exact ⟨Decidable.not_not.1 h1, Decidable.not_not.1 h2, rfl⟩
theorem non_ok {f : FroR} {now : Int} (h : (nonF f now).2.2 = 0) : chkF (nonF f now).1 = 0 := by
  obtain ⟨h1, h2, h3⟩ := non_steps h
  rw [h3]
  obtain ⟨⟨p1, p2, p3, p4, p5⟩, n1, n2, n3⟩ := chkF_zero.1 h1
  exact chkF_zero.2 ⟨⟨tell_fen h2, p2, p3, p4, p5⟩, n1, n2, n3⟩
/-- Something is seen. -/
theorem saw_steps {f : FroR} {id now : Int} {ok : Bool} (h : (sawF f id ok now).2 = 0) :
    chkF f = 0 ∧ (0 ≤ now ∧ now + 50 ≤ 1099511627776) ∧ 1 ≤ id ∧ ∃ a, f.auts[id.toNat - 1]? = some a ∧ a.st = 2 ∧
      sawF f id ok now = ({ f with auts := f.auts.set (id.toNat - 1) (if ok = true then { a with st := 3, fr := now, un := now + 50 } else { a with st := 4 }) }, 0) := by
  unfold sawF at h ⊢
  split at h
  · next h1 => exact absurd h h1
  next h1 =>
  rw [if_neg h1]
  split at h
  · cases h
  next h2 =>
  rw [if_neg h2]
  split at h
  · cases h
  next h3 =>
  rw [if_neg h3]
  split at h
  · cases h
  next a ha =>
  try rw [ha]
  try dsimp only at h ⊢
  split at h
  · cases h
  next h4 =>
  rw [if_neg h4]
  exact ⟨Decidable.not_not.1 h1, Decidable.not_not.1 h2, by omega, a, rfl, Decidable.not_not.1 h4, rfl⟩
theorem saw_ok {f : FroR} {id now : Int} {ok : Bool} (h : (sawF f id ok now).2 = 0) : chkF (sawF f id ok now).1 = 0 := by
  obtain ⟨h1, h2, h3, a, ha, hst, h4⟩ := saw_steps h
  rw [h4]
  obtain ⟨⟨p1, p2, p3, p4, p5⟩, n1, n2, n3⟩ := chkF_zero.1 h1
  obtain ⟨hi2, ex⟩ := List.getElem?_eq_some_iff.1 ha
  have hap := p4 _ hi2
  rw [ex] at hap
  obtain ⟨b1, b2, b3, b4, b5, b6, b7, b8⟩ := hap
  rw [if_neg (by omega)] at b8
  refine chkF_zero.2 ⟨⟨p1, p2, p3, auts_set p4 ?_, p5.keep (Nat.le_refl _) (keepA.set ha ?_ ?_)⟩, n1, by simpa using n2, n3⟩
  · cases ok
    · exact ⟨b1, b2, b3, b4, b5, by simp, by simp, by simpa using b8⟩
    · refine ⟨b1, b2, b3, b4, b5, by simp, by simp, ?_⟩
      simp [numP]; omega
  · cases ok <;> rfl
  · cases ok <;> rfl
end Go.Proofs.YtfpmfegmehbfbaaGreatDoor

/- Plain: what a step leaves as it was; a request again; what is signed tells the request. No program in sight. -/
namespace Go.Proofs.YtfpmfegmehbfbaaGreatDoor
set_option linter.unusedVariables false
set_option linter.unusedSimpArgs false

/-! ### no step of another kind -/
/-- What a step at a door does to it. -/
structure StepS (f x : FroR) (q : QueR) : Prop where
  next : x.next = f.next
  opn : x.opn = f.opn
  ser : x.ser = f.ser
  accs : f.accs <+: x.accs
  autL : f.auts.length ≤ x.auts.length
  ordL : f.ords.length ≤ x.ords.length
  autN : ∀ i (h : i < x.auts.length), ¬ i < f.auts.length → x.auts[i].acc = q.acc ∧ x.auts[i].st = 1
  autO : ∀ i (h : i < x.auts.length) (h' : i < f.auts.length), x.auts[i] = f.auts[i] ∨ f.auts[i].acc = q.acc ∧ f.auts[i].st ≠ 3 ∧ x.auts[i] = { f.auts[i] with st := 2 }
  ordN : ∀ i (h : i < x.ords.length), ¬ i < f.ords.length → x.ords[i].acc = q.acc ∧ x.ords[i].st = 1
  ordO : ∀ i (h : i < x.ords.length) (h' : i < f.ords.length), x.ords[i] = f.ords[i] ∨ f.ords[i].acc = q.acc ∧ f.ords[i].st = 1 ∧ x.ords[i] = { f.ords[i] with st := 2 }
theorem StepS.refl (f : FroR) (q : QueR) : StepS f f q :=
  ⟨rfl, rfl, rfl, List.prefix_rfl, Nat.le_refl _, Nat.le_refl _, fun i h h' => absurd h h', fun i _ _ => .inl rfl, fun i h h' => absurd h h', fun i _ _ => .inl rfl⟩
/-- All that want adds is the account's own. -/
theorem want_new {f : List AutR} {acc now : Int} : ∀ (todo : List ByteArray) (r : List AutR × List Int), (f <+: r.1 ∧ ∀ i (h : i < r.1.length), ¬ i < f.length → r.1[i].acc = acc ∧ r.1[i].st = 1) →
    f <+: (todo.foldl (wantA acc now) r).1 ∧ ∀ i (h : i < (todo.foldl (wantA acc now) r).1.length), ¬ i < f.length → (todo.foldl (wantA acc now) r).1[i].acc = acc ∧ (todo.foldl (wantA acc now) r).1[i].st = 1
  | [], r, h => h
  | s :: todo, r, h => by
    rw [List.foldl_cons]
    refine want_new todo _ ?_
    obtain ⟨l, ns⟩ := r
    cases hf : findA l acc s now with
    | some i => rw [wantA_some hf]; exact h
    | none =>
      rw [wantA_none hf]
      refine ⟨h.1.trans (List.prefix_append _ _), fun i hi hn => ?_⟩
      by_cases h1 : i < l.length
      · simp only [List.getElem_append_left h1]; exact h.2 i h1 hn
      · have : i = l.length := by simp at hi; omega
        subst this
        simp [newA]
theorem step_steps {f : FroR} {q : QueR} {now : Int} (h : (stepF f q now).2.2 = 0) : StepS f (stepF f q now).1 q ∧ (0 ≤ q.id → 0 ≤ (stepF f q now).2.1) := by
  unfold stepF at h ⊢
  split at h
  · next e =>
    rw [if_pos e]
    unfold joinF at h ⊢
    split at h
    · next i hi => exact ⟨StepS.refl f q, fun _ => by dsimp only; omega⟩
    · next hi =>
      try rw [hi]
      try dsimp only at h ⊢
      split at h
      · cases h
      next hl =>
      rw [if_neg hl]
      exact ⟨⟨rfl, rfl, rfl, List.prefix_append _ _, Nat.le_refl _, Nat.le_refl _, fun i h h' => absurd h h', fun i _ _ => .inl rfl, fun i h h' => absurd h h', fun i _ _ => .inl rfl⟩, fun _ => by dsimp only; omega⟩
  next e1 =>
  rw [if_neg e1]
  split at h
  · next e =>
    rw [if_pos e]
    unfold wantF at h ⊢
    dsimp only at h ⊢
    split at h
    · cases h
    next hl =>
    rw [if_neg hl]
    obtain ⟨w1, w2⟩ := want_new (f := f.auts) (acc := q.acc) (now := now) q.names (f.auts, []) ⟨List.prefix_rfl, fun i h h' => absurd h h'⟩
    refine ⟨⟨rfl, rfl, rfl, List.prefix_rfl, w1.length_le, by simp, fun i hi hn => w2 i hi hn, fun i hi hi' => .inl (w1.getElem hi').symm, fun i hi hn => ?_, fun i hi hi' => .inl ?_⟩, fun _ => by dsimp only; omega⟩
    · have : i = f.ords.length := by simp at hi; omega
      subst this
      simp
    · simp only [List.getElem_append_left hi']
  next e2 =>
  rw [if_neg e2]
  split at h
  · next e =>
    rw [if_pos e]
    unfold lookF at h ⊢
    split at h
    · cases h
    next hi =>
    rw [if_neg hi]
    split at h
    · cases h
    next a hx =>
    try rw [hx]
    try dsimp only at h ⊢
    split at h
    · cases h
    next hacc =>
    rw [if_neg hacc]
    split at h
    · cases h
    next hst =>
    rw [if_neg hst]
    obtain ⟨hi2, ex⟩ := List.getElem?_eq_some_iff.1 hx
    refine ⟨⟨rfl, rfl, rfl, List.prefix_rfl, by simp, Nat.le_refl _, fun i h h' => absurd (by simpa using h) h', fun i h1 h2 => ?_, fun i h h' => absurd h h', fun i _ _ => .inl rfl⟩, fun hq => hq⟩
    by_cases hk : q.id.toNat - 1 = i
    · subst hk
      right
      simp only [List.getElem_set_self]
      rw [ex]
      exact ⟨Decidable.not_not.1 hacc, by omega, rfl⟩
    · left
      simp only [List.getElem_set_ne hk]
  next e3 =>
  rw [if_neg e3]
  split at h
  · next e =>
    rw [if_pos e]
    unfold issF at h ⊢
    split at h
    · cases h
    next hi =>
    rw [if_neg hi]
    split at h
    · cases h
    next o hx =>
    try rw [hx]
    try dsimp only at h ⊢
    split at h
    · cases h
    next hacc =>
    rw [if_neg hacc]
    split at h
    · cases h
    next hst =>
    rw [if_neg hst]
    obtain ⟨hi2, ex⟩ := List.getElem?_eq_some_iff.1 hx
    refine ⟨⟨rfl, rfl, rfl, List.prefix_rfl, Nat.le_refl _, by simp, fun i h h' => absurd h h', fun i _ _ => .inl rfl, fun i h h' => absurd (by simpa using h) h', fun i h1 h2 => ?_⟩, fun hq => hq⟩
    by_cases hk : q.id.toNat - 1 = i
    · subst hk
      right
      simp only [List.getElem_set_self]
      rw [ex]
      exact ⟨Decidable.not_not.1 hacc, by omega, rfl⟩
    · left
      simp only [List.getElem_set_ne hk]
  next e4 =>
  rw [if_neg e4]
  unfold revF at h ⊢
  split at h
  · next hx => rw [if_pos hx]; exact ⟨StepS.refl f q, fun hq => hq⟩
  · cases h

def Bd (o : OutF) : Prop := o.2.2 ≠ 0 → o = bad o.2.2
theorem Bd.bad (e : Nat) : Bd (bad e) := fun _ => rfl
theorem Bd.ok (x : FroR) (n : Int) : Bd (x, n, 0) := fun h => absurd rfl h
theorem step_bd (f : FroR) (q : QueR) (now : Int) : Bd (stepF f q now) := by
  unfold stepF joinF wantF lookF issF revF
  dsimp only
  repeat' split
  all_goals first
    | exact Bd.bad _
    | exact Bd.ok _ _
theorem useE_gone {next now : Int} {l : List NonR} {n : Int} (h : fenN next (useL l n) = 0) (hn : numP now) : useE next (useL l n) n now = 210 := by
  unfold useE
  rw [if_neg (by rw [h]; simp), if_neg (by simpa using hn), if_neg]
  rintro ⟨x, hx, e, _⟩
  unfold useL at hx
  have := (List.mem_filter.1 hx).2
  simp at this
  exact this e
theorem do_again {sg : Nat → List Nat → Nat → Nat → Nat} (hsg : ∀ k l e s, sg k l e s = 0 → inB k = true) {f : FroR} {q : QueR} {now later : Int} (h : (doF sg f q now).2.2 = 0) (hl : numP later) :
    doF sg (doF sg f q now).1 q later = bad 210 := by
  have hok := do_ok hsg h
  obtain ⟨h1, h2, h3, h4, h5, _, h8⟩ := do_steps h
  obtain ⟨st, _⟩ := step_steps (h8 ▸ h)
  have e1 : (doF sg f q now).1.opn = useL f.opn q.nonce := by rw [h8]; exact st.opn
  have hfen := (chkF_zero.1 hok).1.1
  generalize (doF sg f q now).1 = x at hok e1 hfen ⊢
  unfold doF
  rw [if_neg (by rw [hok]; simp), if_neg (by simp [h2, hl, h4])]
  rw [e1] at hfen ⊢
  rw [if_pos (by rw [useE_gone hfen hl]; simp), useE_gone hfen hl]

/-! ### what is signed tells the request -/
theorem bigD_length : ∀ (k n : Nat), (bigD k n).length = k
  | 0, _ => rfl
  | k + 1, n => by rw [bigD, List.length_append, bigD_length k]; rfl
theorem eight_length (n : Int) : (eightI n).length = 8 := bigD_length 8 _
theorem txN_length (s : ByteArray) : (txN s).length = s.size := by unfold txN; rw [List.length_map, Array.length_toList]; rfl
end Go.Proofs.YtfpmfegmehbfbaaGreatDoor
