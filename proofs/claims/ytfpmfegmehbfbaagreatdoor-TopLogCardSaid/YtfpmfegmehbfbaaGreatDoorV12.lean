/- Parts of the proofs, put together: OrMath, OrP5, OrP, OrP2, OrP3, OrP4, OrP6, OrP8, OrP9. -/
import Derived.Lib.ItoaNum
import Derived.Test.YtfpmfegmehbfbaaGreatDoorV1
/- Plain: names, nonces, the door. No program in sight. -/
namespace Go.Proofs.YtfpmfegmehbfbaaGreatDoor
set_option linter.unusedVariables false
set_option linter.unusedSimpArgs false

/-- A text's bytes as numbers. -/
def txN (s : ByteArray) : List Nat := s.data.toList.map (·.toNat)

/-! ### names -/
/-- What stands between the dots. -/
def cuts : List Nat → List (List Nat)
  | [] => [[]]
  | c :: l => if c = 46 then [] :: cuts l else match cuts l with
    | [] => [[c]]
    | h :: t => (c :: h) :: t
theorem cuts_ne : ∀ l : List Nat, cuts l ≠ []
  | [] => by simp [cuts]
  | c :: l => by
    unfold cuts
    split
    · simp
    · split <;> simp
theorem cuts_none : ∀ a : List Nat, (∀ x ∈ a, x ≠ 46) → cuts a = [a]
  | [], _ => rfl
  | c :: a, h => by
    unfold cuts
    rw [if_neg (h c (by simp)), cuts_none a (fun x hx => h x (by simp [hx]))]
theorem cuts_dot : ∀ (a b : List Nat), (∀ x ∈ a, x ≠ 46) → cuts (a ++ 46 :: b) = a :: cuts b
  | [], b, _ => by simp [cuts]
  | c :: a, b, h => by
    show cuts (c :: (a ++ 46 :: b)) = _
    rw [cuts, if_neg (h c (by simp)), cuts_dot a b (fun x hx => h x (by simp [hx]))]
theorem cuts_count : ∀ l : List Nat, (cuts l).length = l.count 46 + 1
  | [] => rfl
  | c :: l => by
    have ih := cuts_count l
    unfold cuts
    split
    · next h => subst h; simp [ih]
    · next h =>
      rw [List.count_cons_of_ne (by simpa using h)]
      split
      · next e => rw [e] at ih; simp at ih
      · next e => rw [e] at ih; simpa using ih
def wordP (c : Nat) : Prop := 97 ≤ c ∧ c ≤ 122 ∨ 48 ≤ c ∧ c ≤ 57
instance (c : Nat) : Decidable (wordP c) := by unfold wordP; infer_instance
/-- May this stand at this place of a label of that length? -/
def okAt (n i c : Nat) : Prop := if i + 1 = n then wordP c else if i = 0 then wordP c ∨ c = 95 else wordP c ∨ c = 45
instance (n i c : Nat) : Decidable (okAt n i c) := by unfold okAt; infer_instance
def labP (l : List Nat) : Prop := 0 < l.length ∧ l.length ≤ 16 ∧ ∀ i (h : i < l.length), okAt l.length i l[i]
instance (l : List Nat) : Decidable (labP l) := by unfold labP; infer_instance
def nameP (l : List Nat) : Prop := l.length ≤ 64 ∧ (cuts l).length ≤ 8 ∧ ∀ x ∈ cuts l, labP x
instance (l : List Nat) : Decidable (nameP l) := by unfold nameP; infer_instance
def namP (s : ByteArray) : Prop := nameP (txN s)
instance (s : ByteArray) : Decidable (namP s) := by unfold namP; infer_instance

/-! ### what a door knows -/
structure NonR where
  (n u : Int)
deriving DecidableEq
structure AccR where
  (id : Int) (key : Nat)
deriving DecidableEq
structure AutR where
  (id acc : Int) (name tok : ByteArray) (st fr un : Int)
deriving DecidableEq
structure OrdR where
  (id acc : Int) (names : List ByteArray) (key : Nat) (life : Int) (auths : List Int) (st ser : Int)
deriving DecidableEq
structure FroR where
  (next : Int) (opn : List NonR) (accs : List AccR) (auts : List AutR) (ords : List OrdR) (ser : Int)
deriving DecidableEq
structure QueR where
  (kind acc nonce : Int) (key : Nat) (names : List ByteArray) (life id : Int) (e s : Nat)
deriving DecidableEq
def numP (n : Int) : Prop := 0 ≤ n ∧ n ≤ 1099511627776
instance (n : Int) : Decidable (numP n) := by unfold numP; infer_instance

/-! ### nonces -/
def fenP (next : Int) (l : List NonR) : Prop := l.Pairwise (fun a b => a.n < b.n) ∧ (∀ x ∈ l, 0 ≤ x.n ∧ x.n < next ∧ numP x.u) ∧ numP next
instance (next : Int) (l : List NonR) : Decidable (fenP next l) := by unfold fenP; infer_instance
def fenN (next : Int) (l : List NonR) : Nat := if fenP next l then (if 64 < l.length then 2 else 0) else 1
/-! ### the door's checks -/
def namesP (l : List ByteArray) : Prop := (∀ s ∈ l, namP s) ∧ l.Nodup ∧ 0 < l.length ∧ l.length ≤ 8
instance (l : List ByteArray) : Decidable (namesP l) := by unfold namesP; infer_instance
def tokS (id acc : Int) : ByteArray := ⟨(Lib.itoa id ++ [45] ++ Lib.itoa acc).toArray⟩
def accP (i : Nat) (a : AccR) : Prop := a.id = (i : Int) + 1 ∧ inB a.key = true
instance (i : Nat) (a : AccR) : Decidable (accP i a) := by unfold accP; infer_instance
def accsP (l : List AccR) : Prop := (∀ i (h : i < l.length), accP i l[i]) ∧ (l.map (·.key)).Nodup
instance (l : List AccR) : Decidable (accsP l) := by unfold accsP; infer_instance
/-- An authorization at its place, where there are so many accounts. -/
def autP (n i : Nat) (a : AutR) : Prop :=
  a.id = (i : Int) + 1 ∧ 1 ≤ a.acc ∧ a.acc ≤ n ∧ namP a.name ∧ a.tok = tokS a.id a.acc ∧ 1 ≤ a.st ∧ a.st ≤ 4 ∧
  (if a.st = 3 then numP a.fr ∧ a.un = a.fr + 50 else a.fr = 0 ∧ a.un = 0)
instance (n i : Nat) (a : AutR) : Decidable (autP n i a) := by unfold autP; infer_instance
def autsP (n : Nat) (l : List AutR) : Prop := ∀ i (h : i < l.length), autP n i l[i]
instance (n : Nat) (l : List AutR) : Decidable (autsP n l) := by unfold autsP; infer_instance
/-- One of an order's authorizations. -/
def hasP (f : List AutR) (acc : Int) (n : Int) (s : ByteArray) : Prop := 1 ≤ n ∧ n ≤ f.length ∧ ∀ a ∈ f[n.toNat - 1]?, a.acc = acc ∧ a.name = s
instance (f : List AutR) (acc n : Int) (s : ByteArray) : Decidable (hasP f acc n s) := by unfold hasP; infer_instance
/-- An order at its place, but for its state and serial number. -/
def ordP (n : Nat) (f : List AutR) (i : Nat) (o : OrdR) : Prop :=
  o.id = (i : Int) + 1 ∧ 1 ≤ o.acc ∧ o.acc ≤ n ∧ namesP o.names ∧ inB o.key = true ∧ 1 ≤ o.life ∧ o.life ≤ 1000 ∧ o.auths.length = o.names.length ∧
  ∀ k (h : k < o.auths.length) (h' : k < o.names.length), hasP f o.acc o.auths[k] o.names[k]
instance (n : Nat) (f : List AutR) (i : Nat) (o : OrdR) : Decidable (ordP n f i o) := by unfold ordP; infer_instance
/-- Its state and serial number. -/
def serP (ser : Int) (o : OrdR) : Prop := if o.st = 5 then 1 ≤ o.ser ∧ o.ser ≤ ser else (o.st = 1 ∨ o.st = 2) ∧ o.ser = 0
instance (ser : Int) (o : OrdR) : Decidable (serP ser o) := by unfold serP; infer_instance
/-- The serial numbers of what is issued. -/
def issued (l : List OrdR) : List Int := (l.filter fun o => decide (o.st = 5)).map (·.ser)
def ordsP (n : Nat) (f : List AutR) (ser : Int) (l : List OrdR) : Prop := (∀ i (h : i < l.length), ordP n f i l[i] ∧ serP ser l[i]) ∧ (issued l).Nodup
instance (n : Nat) (f : List AutR) (ser : Int) (l : List OrdR) : Decidable (ordsP n f ser l) := by unfold ordsP; infer_instance
def doorP (f : FroR) : Prop := fenN f.next f.opn = 0 ∧ numP f.ser ∧ accsP f.accs ∧ autsP f.accs.length f.auts ∧ ordsP f.accs.length f.auts f.ser f.ords
instance (f : FroR) : Decidable (doorP f) := by unfold doorP; infer_instance
def headP (q : QueR) : Prop := 1 ≤ q.kind ∧ q.kind ≤ 5 ∧ q.names.length ≤ 8 ∧ numP q.acc ∧ numP q.nonce ∧ numP q.life ∧ numP q.id
instance (q : QueR) : Decidable (headP q) := by unfold headP; infer_instance
def fitsP (q : QueR) : Prop :=
  if q.kind = 1 then q.names = [] ∧ q.life = 0 ∧ q.acc = 0 ∧ q.id = 0
  else if q.kind = 2 then q.id = 0 ∧ namesP q.names ∧ inB q.key = true ∧ 1 ≤ q.life ∧ q.life ≤ 1000
  else q.names = [] ∧ q.life = 0 ∧ q.key = 0
instance (q : QueR) : Decidable (fitsP q) := by unfold fitsP; infer_instance

end Go.Proofs.YtfpmfegmehbfbaaGreatDoor

/- Plain: what stands between the dots, as a loop finds it. No program in sight. -/
namespace Go.Proofs.YtfpmfegmehbfbaaGreatDoor
set_option linter.unusedVariables false
set_option linter.unusedSimpArgs false

theorem cuts_step {l : List Nat} {f i : Nat} (h : f ≤ i) (hi : i < l.length) (hn : ∀ k, f ≤ k → k < i → l[k]? ≠ some 46) (hd : l[i]? = some 46) :
    cuts (l.drop f) = (l.drop f).take (i - f) :: cuts (l.drop (i + 1)) := by
  have e : l.drop f = (l.drop f).take (i - f) ++ 46 :: l.drop (i + 1) := by
    conv => lhs; rw [← List.take_append_drop (i - f) (l.drop f)]
    rw [List.drop_drop, show f + (i - f) = i by omega, List.drop_eq_getElem_cons hi]
    rw [List.getElem?_eq_getElem hi] at hd
    injection hd with hd
    rw [hd]
  conv => lhs; rw [e]
  refine cuts_dot _ _ fun x hx e2 => ?_
  subst e2
  obtain ⟨k, hk, ek⟩ := List.getElem_of_mem hx
  rw [List.length_take, List.length_drop] at hk
  rw [List.getElem_take, List.getElem_drop] at ek
  refine hn (f + k) (by omega) (by omega) ?_
  rw [List.getElem?_eq_getElem (by omega), ek]
theorem cuts_last {l : List Nat} {f : Nat} (hn : ∀ k, f ≤ k → k < l.length → l[k]? ≠ some 46) : cuts (l.drop f) = [l.drop f] := by
  refine cuts_none _ fun x hx e2 => ?_
  subst e2
  obtain ⟨k, hk, ek⟩ := List.getElem_of_mem hx
  rw [List.length_drop] at hk
  rw [List.getElem_drop] at ek
  refine hn (f + k) (by omega) (by omega) ?_
  rw [List.getElem?_eq_getElem (by omega), ek]
end Go.Proofs.YtfpmfegmehbfbaaGreatDoor

/- Plain: a door stays one. No program in sight. -/
namespace Go.Proofs.YtfpmfegmehbfbaaGreatDoor
set_option linter.unusedVariables false
set_option linter.unusedSimpArgs false

end Go.Proofs.YtfpmfegmehbfbaaGreatDoor

/- Plain: whatever is done, a door stays one. No program in sight. -/
namespace Go.Proofs.YtfpmfegmehbfbaaGreatDoor
set_option linter.unusedVariables false
set_option linter.unusedSimpArgs false

end Go.Proofs.YtfpmfegmehbfbaaGreatDoor

/- Plain: what a step leaves as it was; a request again; what is signed tells the request. No program in sight. -/
namespace Go.Proofs.YtfpmfegmehbfbaaGreatDoor
set_option linter.unusedVariables false
set_option linter.unusedSimpArgs false

end Go.Proofs.YtfpmfegmehbfbaaGreatDoor

/- Plain: scripts of what is done at a door. No program in sight. -/
namespace Go.Proofs.YtfpmfegmehbfbaaGreatDoor
set_option linter.unusedVariables false
set_option linter.unusedSimpArgs false

/-- What is wrong with a signature, and how one signs with the key of a seed; its public key. -/
structure SigR where
  (sg : Nat → List Nat → Nat → Nat → Nat) (sgn : Nat → List Nat → Nat × Nat) (pk : Nat → Nat)
end Go.Proofs.YtfpmfegmehbfbaaGreatDoor

/- Plain: what one asks for with a fresh nonce and a right signature is done; the chapter's example. No program in sight. -/
namespace Go.Proofs.YtfpmfegmehbfbaaGreatDoor
set_option linter.unusedVariables false
set_option linter.unusedSimpArgs false

variable (S : SigR)
variable {S}
end Go.Proofs.YtfpmfegmehbfbaaGreatDoor

/- Plain: nonces one after the other, as a loop looks at them. No program in sight. -/
namespace Go.Proofs.YtfpmfegmehbfbaaGreatDoor
set_option linter.unusedVariables false
set_option linter.unusedSimpArgs false

end Go.Proofs.YtfpmfegmehbfbaaGreatDoor

/- Plain: a door's checks one place after the other, as loops make them. No program in sight. -/
namespace Go.Proofs.YtfpmfegmehbfbaaGreatDoor
set_option linter.unusedVariables false
set_option linter.unusedSimpArgs false

end Go.Proofs.YtfpmfegmehbfbaaGreatDoor
