/- Parts of the proofs, put together: OrMath, CtQ, OrP5, OrP, OrP2, OrP3, OrP4, OrP6, OrP8, OrP9. -/
import Derived.Lib.ItoaNum
import Derived.Test.YtfpmfegmehbfbaaGreatDoorZ1
/- Plain: names, nonces, the door. No program in sight. -/
namespace Go.Proofs.YtfpmfegmehbfbaaGreatDoor
set_option linter.unusedVariables false
set_option linter.unusedSimpArgs false

/-- A text's bytes as numbers. -/
def txN (s : ByteArray) : List Nat := s.data.toList.map (·.toNat)

/-! ### names -/
/-- What stands between the dots. -/
def cuts : List Nat → List (List Nat)
  | [] => [[]]
  | c :: l => if c = 46 then [] :: cuts l else match cuts l with
    | [] => [[c]]
    | h :: t => (c :: h) :: t
theorem cuts_ne : ∀ l : List Nat, cuts l ≠ []
  | [] => by simp [cuts]
  | c :: l => by
    unfold cuts
    split
    · simp
    · split <;> simp
theorem cuts_none : ∀ a : List Nat, (∀ x ∈ a, x ≠ 46) → cuts a = [a]
  | [], _ => rfl
  | c :: a, h => by
    unfold cuts
    rw [if_neg (h c (by simp)), cuts_none a (fun x hx => h x (by simp [hx]))]
theorem cuts_dot : ∀ (a b : List Nat), (∀ x ∈ a, x ≠ 46) → cuts (a ++ 46 :: b) = a :: cuts b
  | [], b, _ => by simp [cuts]
  | c :: a, b, h => by
    show cuts (c :: (a ++ 46 :: b)) = _
    rw [cuts, if_neg (h c (by simp)), cuts_dot a b (fun x hx => h x (by simp [hx]))]
theorem cuts_count : ∀ l : List Nat, (cuts l).length = l.count 46 + 1
  | [] => rfl
  | c :: l => by
    have ih := cuts_count l
    unfold cuts
    split
    · next h => subst h; simp [ih]
    · next h =>
      rw [List.count_cons_of_ne (by simpa using h)]
      split
      · next e => rw [e] at ih; simp at ih
      · next e => rw [e] at ih; simpa using ih
def wordP (c : Nat) : Prop := 97 ≤ c ∧ c ≤ 122 ∨ 48 ≤ c ∧ c ≤ 57
instance (c : Nat) : Decidable (wordP c) := by unfold wordP; infer_instance
/-- May this stand at this place of a label of that length? -/
def okAt (n i c : Nat) : Prop := if i + 1 = n then wordP c else if i = 0 then wordP c ∨ c = 95 else wordP c ∨ c = 45
instance (n i c : Nat) : Decidable (okAt n i c) := by unfold okAt; infer_instance
def labP (l : List Nat) : Prop := 0 < l.length ∧ l.length ≤ 16 ∧ ∀ i (h : i < l.length), okAt l.length i l[i]
instance (l : List Nat) : Decidable (labP l) := by unfold labP; infer_instance
def nameP (l : List Nat) : Prop := l.length ≤ 64 ∧ (cuts l).length ≤ 8 ∧ ∀ x ∈ cuts l, labP x
instance (l : List Nat) : Decidable (nameP l) := by unfold nameP; infer_instance
def namP (s : ByteArray) : Prop := nameP (txN s)
instance (s : ByteArray) : Decidable (namP s) := by unfold namP; infer_instance

/-! ### what a door knows -/
structure NonR where
  (n u : Int)
deriving DecidableEq
structure AccR where
  (id : Int) (key : Nat)
deriving DecidableEq
structure AutR where
  (id acc : Int) (name tok : ByteArray) (st fr un : Int)
deriving DecidableEq
structure OrdR where
  (id acc : Int) (names : List ByteArray) (key : Nat) (life : Int) (auths : List Int) (st ser : Int)
deriving DecidableEq
structure FroR where
  (next : Int) (opn : List NonR) (accs : List AccR) (auts : List AutR) (ords : List OrdR) (ser : Int)
deriving DecidableEq
structure QueR where
  (kind acc nonce : Int) (key : Nat) (names : List ByteArray) (life id : Int) (e s : Nat)
deriving DecidableEq
def numP (n : Int) : Prop := 0 ≤ n ∧ n ≤ 1099511627776
instance (n : Int) : Decidable (numP n) := by unfold numP; infer_instance

/-! ### nonces -/
def fenP (next : Int) (l : List NonR) : Prop := l.Pairwise (fun a b => a.n < b.n) ∧ (∀ x ∈ l, 0 ≤ x.n ∧ x.n < next ∧ numP x.u) ∧ numP next
instance (next : Int) (l : List NonR) : Decidable (fenP next l) := by unfold fenP; infer_instance
def fenN (next : Int) (l : List NonR) : Nat := if fenP next l then (if 64 < l.length then 2 else 0) else 1
/-! ### the door's checks -/
def namesP (l : List ByteArray) : Prop := (∀ s ∈ l, namP s) ∧ l.Nodup ∧ 0 < l.length ∧ l.length ≤ 8
instance (l : List ByteArray) : Decidable (namesP l) := by unfold namesP; infer_instance
def tokS (id acc : Int) : ByteArray := ⟨(Lib.itoa id ++ [45] ++ Lib.itoa acc).toArray⟩
def accP (i : Nat) (a : AccR) : Prop := a.id = (i : Int) + 1 ∧ inB a.key = true
instance (i : Nat) (a : AccR) : Decidable (accP i a) := by unfold accP; infer_instance
def accsP (l : List AccR) : Prop := (∀ i (h : i < l.length), accP i l[i]) ∧ (l.map (·.key)).Nodup
instance (l : List AccR) : Decidable (accsP l) := by unfold accsP; infer_instance
/-- An authorization at its place, where there are so many accounts. -/
def autP (n i : Nat) (a : AutR) : Prop :=
  a.id = (i : Int) + 1 ∧ 1 ≤ a.acc ∧ a.acc ≤ n ∧ namP a.name ∧ a.tok = tokS a.id a.acc ∧ 1 ≤ a.st ∧ a.st ≤ 4 ∧
  (if a.st = 3 then numP a.fr ∧ a.un = a.fr + 50 else a.fr = 0 ∧ a.un = 0)
instance (n i : Nat) (a : AutR) : Decidable (autP n i a) := by unfold autP; infer_instance
def autsP (n : Nat) (l : List AutR) : Prop := ∀ i (h : i < l.length), autP n i l[i]
instance (n : Nat) (l : List AutR) : Decidable (autsP n l) := by unfold autsP; infer_instance
/-- One of an order's authorizations. -/
def hasP (f : List AutR) (acc : Int) (n : Int) (s : ByteArray) : Prop := 1 ≤ n ∧ n ≤ f.length ∧ ∀ a ∈ f[n.toNat - 1]?, a.acc = acc ∧ a.name = s
instance (f : List AutR) (acc n : Int) (s : ByteArray) : Decidable (hasP f acc n s) := by unfold hasP; infer_instance
/-- An order at its place, but for its state and serial number. -/
def ordP (n : Nat) (f : List AutR) (i : Nat) (o : OrdR) : Prop :=
  o.id = (i : Int) + 1 ∧ 1 ≤ o.acc ∧ o.acc ≤ n ∧ namesP o.names ∧ inB o.key = true ∧ 1 ≤ o.life ∧ o.life ≤ 1000 ∧ o.auths.length = o.names.length ∧
  ∀ k (h : k < o.auths.length) (h' : k < o.names.length), hasP f o.acc o.auths[k] o.names[k]
instance (n : Nat) (f : List AutR) (i : Nat) (o : OrdR) : Decidable (ordP n f i o) := by unfold ordP; infer_instance
/-- Its state and serial number. -/
def serP (ser : Int) (o : OrdR) : Prop := if o.st = 5 then 1 ≤ o.ser ∧ o.ser ≤ ser else (o.st = 1 ∨ o.st = 2) ∧ o.ser = 0
instance (ser : Int) (o : OrdR) : Decidable (serP ser o) := by unfold serP; infer_instance
/-- The serial numbers of what is issued. -/
def issued (l : List OrdR) : List Int := (l.filter fun o => decide (o.st = 5)).map (·.ser)
def ordsP (n : Nat) (f : List AutR) (ser : Int) (l : List OrdR) : Prop := (∀ i (h : i < l.length), ordP n f i l[i] ∧ serP ser l[i]) ∧ (issued l).Nodup
instance (n : Nat) (f : List AutR) (ser : Int) (l : List OrdR) : Decidable (ordsP n f ser l) := by unfold ordsP; infer_instance
def doorP (f : FroR) : Prop := fenN f.next f.opn = 0 ∧ numP f.ser ∧ accsP f.accs ∧ autsP f.accs.length f.auts ∧ ordsP f.accs.length f.auts f.ser f.ords
instance (f : FroR) : Decidable (doorP f) := by unfold doorP; infer_instance
def headP (q : QueR) : Prop := 1 ≤ q.kind ∧ q.kind ≤ 5 ∧ q.names.length ≤ 8 ∧ numP q.acc ∧ numP q.nonce ∧ numP q.life ∧ numP q.id
instance (q : QueR) : Decidable (headP q) := by unfold headP; infer_instance
def fitsP (q : QueR) : Prop :=
  if q.kind = 1 then q.names = [] ∧ q.life = 0 ∧ q.acc = 0 ∧ q.id = 0
  else if q.kind = 2 then q.id = 0 ∧ namesP q.names ∧ inB q.key = true ∧ 1 ≤ q.life ∧ q.life ≤ 1000
  else q.names = [] ∧ q.life = 0 ∧ q.key = 0
instance (q : QueR) : Decidable (fitsP q) := by unfold fitsP; infer_instance

end Go.Proofs.YtfpmfegmehbfbaaGreatDoor

/- Plain: certificates, what form they have, and their bytes. No program in sight. -/
namespace Go.Proofs.YtfpmfegmehbfbaaGreatDoor
set_option linter.unusedVariables false
set_option linter.unusedSimpArgs false

structure PrmR where
  (log at_ : Int)
  (l0 l1 e s : Nat)
structure CrtR where
  ser : Int
  (iss sub : ByteArray)
  key : Nat
  names : List ByteArray
  (frm unt : Int)
  ca : Bool
  dep : Int
  perm : List ByteArray
  proms : List PrmR
  (e s : Nat)
def numC (n : Int) : Prop := 0 ≤ n ∧ n ≤ 1099511627776
instance (n : Int) : Decidable (numC n) := by unfold numC; infer_instance
def sigC (e s : Nat) : Prop := e < 1152921504606845789 ∧ s < 1152921504606845789
instance (e s : Nat) : Decidable (sigC e s) := by unfold sigC; infer_instance
/-- Bytes of a text. -/
def textC (s : ByteArray) : Prop := 0 < s.size ∧ s.size ≤ 64 ∧ ∀ x ∈ txN s, 33 ≤ x ∧ x ≤ 126
instance (s : ByteArray) : Decidable (textC s) := by unfold textC; infer_instance
/-- A text that can be put: short, and of bytes that may be in a text. -/
def putC (s : ByteArray) : Prop := s.size ≤ 64 ∧ ∀ x ∈ txN s, 32 ≤ x ∧ x ≤ 126
def prmC (p : PrmR) : Prop := numC p.log ∧ numC p.at_ ∧ p.l0 < 2305843009213693951 ∧ p.l1 < 2305843009213693951 ∧ sigC p.e p.s
instance (p : PrmR) : Decidable (prmC p) := by unfold prmC; infer_instance
def listC (ok : ByteArray → Prop) (l : List ByteArray) (least most : Nat) : Prop := (∀ s ∈ l, ok s) ∧ l.Nodup ∧ least ≤ l.length ∧ l.length ≤ most
instance (ok : ByteArray → Prop) [DecidablePred ok] (l : List ByteArray) (a b : Nat) : Decidable (listC ok l a b) := by unfold listC; infer_instance
def promsC : List PrmR → Int → Prop
  | [], _ => True
  | p :: l, last => prmC p ∧ last < p.log ∧ promsC l p.log
/-- Has a certificate form? N: what a name is, P: what a pattern. -/
def formC (N P : ByteArray → Prop) (c : CrtR) : Prop :=
  promsC c.proms (-1) ∧ (numC c.ser ∧ numC c.frm ∧ numC c.unt ∧ c.frm < c.unt) ∧ (textC c.iss ∧ 0 < c.key ∧ c.key < 2305843009213691579 ∧ c.proms.length ≤ 4 ∧ sigC c.e c.s) ∧
    ((c.ca = true ∧ textC c.sub ∧ c.names = [] ∧ (0 ≤ c.dep ∧ c.dep ≤ 4) ∧ listC P c.perm 0 8) ∨ (c.ca = false ∧ c.sub.size = 0 ∧ listC N c.names 1 8 ∧ c.dep = 0 ∧ c.perm = []))
def bareC (c : CrtR) (pr : Bool) : CrtR := { c with e := 0, s := 0, proms := if pr then c.proms else [] }
theorem form_bare {N P : ByteArray → Prop} {c : CrtR} (h : formC N P c) (pr : Bool) : formC N P (bareC c pr) := by
  obtain ⟨h1, h2, ⟨h3, h4, h5, h6, h7⟩, h8⟩ := h
  refine ⟨?_, h2, ⟨h3, h4, h5, ?_, (show sigC 0 0 by decide)⟩, h8⟩
  · cases pr
    · exact trivial
    · exact h1
  · cases pr
    · exact Nat.zero_le _
    · exact h6
def natT (n : Nat) : It := .p 2 (intB n)
def txtT (s : ByteArray) : It := .p 12 (txN s)
def boolT (b : Bool) : It := .p 1 [if b then 255 else 0]
def preT (c : CrtR) : It := .s [natT c.ser.toNat, txtT c.iss, txtT c.sub, natT c.key, .s (c.names.map txtT), natT c.frm.toNat, natT c.unt.toNat, boolT c.ca, natT c.dep.toNat, .s (c.perm.map txtT)]
def prmT (p : PrmR) : It := .s [natT p.log.toNat, natT p.at_.toNat, natT p.l0, natT p.l1, natT p.e, natT p.s]
def bodT (c : CrtR) : It := .s [preT c, .s (c.proms.map prmT)]
def whoT (c : CrtR) : It := .s [bodT c, .s [natT c.e, natT c.s]]
theorem txN_byte (s : ByteArray) : ∀ x ∈ txN s, x < 256 := by
  intro x hx
  obtain ⟨y, -, rfl⟩ := List.mem_map.1 hx
  exact y.toNat_lt
theorem txN_lenC (s : ByteArray) : (txN s).length = s.size := by unfold txN; rw [List.length_map, Array.length_toList]; rfl
/-- What a certificate's items have to be so that it can be put. -/
structure GoodC (c : CrtR) : Prop where
  ser : numC c.ser
  iss : putC c.iss
  sub : putC c.sub
  key : c.key < 9223372036854775808
  names : (∀ s ∈ c.names, putC s) ∧ c.names.length ≤ 8
  frm : numC c.frm
  unt : numC c.unt
  dep : numC c.dep
  perm : (∀ s ∈ c.perm, putC s) ∧ c.perm.length ≤ 8
  proms : (∀ p ∈ c.proms, prmC p) ∧ c.proms.length ≤ 4
  sig : sigC c.e c.s
theorem proms_all : ∀ {l : List PrmR} {k : Int}, promsC l k → ∀ p ∈ l, prmC p
  | _ :: _, _, h, p, hp => by
    rcases List.mem_cons.1 hp with rfl | hp
    · exact h.1
    · exact proms_all h.2.2 p hp
theorem text_put {s : ByteArray} (h : textC s) : putC s := ⟨h.2.1, fun x hx => ⟨by have := (h.2.2 x hx).1; omega, (h.2.2 x hx).2⟩⟩
theorem empty_put {s : ByteArray} (h : s.size = 0) : putC s := ⟨by omega, fun x hx => by
  have : txN s = [] := List.eq_nil_of_length_eq_zero (by rw [txN_lenC]; exact h)
  rw [this] at hx; simp at hx⟩
theorem form_good {N P : ByteArray → Prop} (hN : ∀ s, N s → putC s) (hP : ∀ s, P s → putC s) {c : CrtR} (h : formC N P c) : GoodC c := by
  obtain ⟨h1, ⟨h2, h3, h4, -⟩, ⟨h5, -, h7, h8, h9⟩, h10⟩ := h
  have hp := proms_all h1
  rcases h10 with ⟨-, hs, hn, hd, hl⟩ | ⟨-, hs, hl, hd, hn⟩
  · exact ⟨h2, text_put h5, text_put hs, by omega, by rw [hn]; simp, h3, h4, ⟨hd.1, by omega⟩, ⟨fun s h => hP s (hl.1 s h), hl.2.2.2⟩, ⟨hp, h8⟩, h9⟩
  · exact ⟨h2, text_put h5, empty_put hs, by omega, ⟨fun s h => hN s (hl.1 s h), hl.2.2.2⟩, h3, h4, by rw [hd]; exact ⟨by decide, by decide⟩, by rw [hn]; simp, ⟨hp, h8⟩, h9⟩
theorem natT_ok {n : Nat} (h : n < 9223372036854775808) : itOk 1 (natT n) := intB_ok h
theorem txtT_ok {s : ByteArray} (h : putC s) : itOk 1 (txtT s) := ⟨txN_byte s, .inr (.inr ⟨rfl, h.2⟩)⟩
theorem boolT_ok (b : Bool) : itOk 1 (boolT b) := ⟨fun x hx => by cases b <;> simp at hx <;> omega, .inl ⟨rfl, by cases b <;> simp⟩⟩
theorem itH_le (tag n : Nat) : (itH tag n).length ≤ 4 := (itH_len tag n).2
theorem itH_two {tag n : Nat} (h : n < 128) : (itH tag n).length = 2 := by unfold itH; rw [if_pos h]; rfl
theorem natT_len {n : Nat} (h : n < 9223372036854775808) : (itB (natT n)).length ≤ 10 := by
  have := (intB_all h).2.2.2.1
  unfold natT
  rw [itB_p, List.length_append, itH_two (by omega)]; omega
theorem txtT_len {s : ByteArray} (h : putC s) : (itB (txtT s)).length ≤ 66 := by
  have := h.1
  unfold txtT
  rw [itB_p, List.length_append, txN_lenC, itH_two (by omega)]; omega
theorem boolT_len (b : Bool) : (itB (boolT b)).length = 3 := by
  unfold boolT
  rw [itB_p]; rfl
theorem itsB_len {l : List It} {k : Nat} (h : ∀ t ∈ l, (itB t).length ≤ k) : (itsB l).length ≤ l.length * k := by
  induction l with
  | nil => rw [itsB_nil]; simp
  | cons t l ih =>
    rw [itsB_cons, List.length_append, List.length_cons, Nat.add_mul, Nat.one_mul]
    have h1 := h t (List.mem_cons_self ..)
    have h2 := ih (fun t ht => h t (List.mem_cons_of_mem _ ht))
    omega
theorem texts_len {l : List ByteArray} (h : ∀ s ∈ l, putC s) (h8 : l.length ≤ 8) : (itB (.s (l.map txtT))).length ≤ 532 := by
  have := itsB_len (l := l.map txtT) (k := 66) (fun t ht => by
    obtain ⟨s, hs, rfl⟩ := List.mem_map.1 ht
    exact txtT_len (h s hs))
  rw [itB_s, List.length_append]
  have h2 := itH_le 48 (itsB (l.map txtT)).length
  rw [List.length_map] at this
  omega
theorem texts_ok {l : List ByteArray} (h : ∀ s ∈ l, putC s) : itOk 2 (.s (l.map txtT)) := fun t ht => by
  obtain ⟨s, hs, rfl⟩ := List.mem_map.1 ht
  exact txtT_ok (h s hs)
theorem num_nat {n : Int} (h : numC n) : n.toNat < 9223372036854775808 := by unfold numC at h; omega
theorem prmT_ok {p : PrmR} (h : prmC p) : itOk 2 (prmT p) := by
  obtain ⟨h1, h2, h3, h4, h5, h6⟩ := h
  intro t ht
  simp only [List.mem_cons, List.not_mem_nil, or_false] at ht
  rcases ht with rfl | rfl | rfl | rfl | rfl | rfl
  · exact natT_ok (num_nat h1)
  · exact natT_ok (num_nat h2)
  · exact natT_ok (by omega)
  · exact natT_ok (by omega)
  · exact natT_ok (by omega)
  · exact natT_ok (by omega)
theorem prmT_len {p : PrmR} (h : prmC p) : (itB (prmT p)).length ≤ 64 := by
  obtain ⟨h1, h2, h3, h4, h5, h6⟩ := h
  have h7 := itsB_len (l := [natT p.log.toNat, natT p.at_.toNat, natT p.l0, natT p.l1, natT p.e, natT p.s]) (k := 10) (fun t ht => by
    simp only [List.mem_cons, List.not_mem_nil, or_false] at ht
    rcases ht with rfl | rfl | rfl | rfl | rfl | rfl
    · exact natT_len (num_nat h1)
    · exact natT_len (num_nat h2)
    · exact natT_len (by omega)
    · exact natT_len (by omega)
    · exact natT_len (by omega)
    · exact natT_len (by omega))
  unfold prmT
  rw [itB_s, List.length_append]
  have h8 := itH_le 48 (itsB [natT p.log.toNat, natT p.at_.toNat, natT p.l0, natT p.l1, natT p.e, natT p.s]).length
  simp only [List.length_cons, List.length_nil] at h7
  omega
theorem preT_ok {c : CrtR} (h : GoodC c) : itOk 3 (preT c) := by
  intro t ht
  simp only [List.mem_cons, List.not_mem_nil, or_false] at ht
  rcases ht with rfl | rfl | rfl | rfl | rfl | rfl | rfl | rfl | rfl | rfl
  · exact itOk_up (natT_ok (num_nat h.ser))
  · exact itOk_up (txtT_ok h.iss)
  · exact itOk_up (txtT_ok h.sub)
  · exact itOk_up (natT_ok h.key)
  · exact texts_ok h.names.1
  · exact itOk_up (natT_ok (num_nat h.frm))
  · exact itOk_up (natT_ok (num_nat h.unt))
  · exact itOk_up (boolT_ok _)
  · exact itOk_up (natT_ok (num_nat h.dep))
  · exact texts_ok h.perm.1
theorem preT_len {c : CrtR} (h : GoodC c) : (itB (preT c)).length ≤ 1253 := by
  unfold preT
  rw [itB_s, List.length_append]
  refine Nat.le_trans (Nat.add_le_add_right (itH_le _ _) _) ?_
  simp only [itsB_cons, itsB_nil, List.length_append, List.length_nil]
  have a1 := natT_len (num_nat h.ser)
  have a2 := txtT_len h.iss
  have a3 := txtT_len h.sub
  have a4 := natT_len h.key
  have a5 := texts_len h.names.1 h.names.2
  have a6 := natT_len (num_nat h.frm)
  have a7 := natT_len (num_nat h.unt)
  have a8 := boolT_len c.ca
  have a9 := natT_len (num_nat h.dep)
  have a10 := texts_len h.perm.1 h.perm.2
  omega
theorem proms_ok {c : CrtR} (h : GoodC c) : itOk 3 (.s (c.proms.map prmT)) := fun t ht => by
  obtain ⟨s, hs, rfl⟩ := List.mem_map.1 ht
  exact prmT_ok (h.proms.1 s hs)
theorem proms_len {c : CrtR} (h : GoodC c) : (itB (.s (c.proms.map prmT))).length ≤ 260 := by
  have := itsB_len (l := c.proms.map prmT) (k := 64) (fun t ht => by
    obtain ⟨s, hs, rfl⟩ := List.mem_map.1 ht
    exact prmT_len (h.proms.1 s hs))
  rw [itB_s, List.length_append]
  have h2 := itH_le 48 (itsB (c.proms.map prmT)).length
  rw [List.length_map] at this
  have := h.proms.2
  omega
theorem bodT_ok {c : CrtR} (h : GoodC c) : itOk 4 (bodT c) := by
  intro t ht
  simp only [List.mem_cons, List.not_mem_nil, or_false] at ht
  rcases ht with rfl | rfl
  · exact preT_ok h
  · exact proms_ok h
theorem bodT_len {c : CrtR} (h : GoodC c) : (itB (bodT c)).length ≤ 1517 := by
  unfold bodT
  rw [itB_s, List.length_append]
  refine Nat.le_trans (Nat.add_le_add_right (itH_le _ _) _) ?_
  simp only [itsB_cons, itsB_nil, List.length_append, List.length_nil]
  have a1 := preT_len h
  have a2 := proms_len h
  omega
theorem sig_ok {c : CrtR} (h : GoodC c) : itOk 2 (.s [natT c.e, natT c.s]) := by
  obtain ⟨h1, h2⟩ := h.sig
  intro t ht
  simp only [List.mem_cons, List.not_mem_nil, or_false] at ht
  rcases ht with rfl | rfl
  · exact natT_ok (by omega)
  · exact natT_ok (by omega)
theorem whoT_ok {c : CrtR} (h : GoodC c) : itOk 5 (whoT c) := by
  intro t ht
  simp only [List.mem_cons, List.not_mem_nil, or_false] at ht
  rcases ht with rfl | rfl
  · exact bodT_ok h
  · exact itOk_up (itOk_up (sig_ok h))
theorem whoT_len {c : CrtR} (h : GoodC c) : (itB (whoT c)).length ≤ 1545 := by
  obtain ⟨h1, h2⟩ := h.sig
  unfold whoT
  rw [itB_s, List.length_append]
  refine Nat.le_trans (Nat.add_le_add_right (itH_le _ _) _) ?_
  simp only [itsB_cons, itsB_nil, List.length_append, List.length_nil]
  have a1 := bodT_len h
  have a2 : (itB (.s [natT c.e, natT c.s])).length ≤ 24 := by
    rw [itB_s, List.length_append]
    refine Nat.le_trans (Nat.add_le_add_right (itH_le _ _) _) ?_
    simp only [itsB_cons, itsB_nil, List.length_append, List.length_nil]
    have b1 := natT_len (n := c.e) (by omega)
    have b2 := natT_len (n := c.s) (by omega)
    omega
  omega
/-- A name can be put. -/
theorem cuts_mem : ∀ (l : List Nat) (x : Nat), x ∈ l → x = 46 ∨ ∃ c ∈ cuts l, x ∈ c
  | [], x, h => by simp at h
  | c :: l, x, h => by
    by_cases h46 : x = 46
    · exact .inl h46
    · refine .inr ?_
      rcases List.mem_cons.1 h with rfl | h
      · unfold cuts
        rw [if_neg h46]
        split
        · exact ⟨[x], by simp, by simp⟩
        · next a b e => exact ⟨x :: a, by simp, by simp⟩
      · rcases cuts_mem l x h with h1 | ⟨d, hd, hx⟩
        · exact absurd h1 h46
        · unfold cuts
          split
          · exact ⟨d, List.mem_cons_of_mem _ hd, hx⟩
          · split
            · next e => rw [e] at hd; simp at hd
            · next a b e =>
              rw [e] at hd
              rcases List.mem_cons.1 hd with rfl | hd
              · exact ⟨c :: d, by simp, List.mem_cons_of_mem _ hx⟩
              · exact ⟨d, List.mem_cons_of_mem _ hd, hx⟩
theorem lab_byte {l : List Nat} (h : labP l) : ∀ x ∈ l, 32 ≤ x ∧ x ≤ 126 := by
  intro x hx
  obtain ⟨i, hi, rfl⟩ := List.getElem_of_mem hx
  have := h.2.2 i hi
  unfold okAt wordP at this
  repeat' split at this
  all_goals omega
theorem cuts_byte {l : List Nat} (h : ∀ x ∈ cuts l, labP x) : ∀ x ∈ l, 32 ≤ x ∧ x ≤ 126 := by
  intro x hx
  rcases cuts_mem l x hx with rfl | ⟨c, hc, hxc⟩
  · decide
  · exact lab_byte (h c hc) x hxc
theorem nam_put {s : ByteArray} (h : namP s) : putC s := ⟨by rw [← txN_lenC]; exact h.1, cuts_byte h.2.2⟩
end Go.Proofs.YtfpmfegmehbfbaaGreatDoor

/- Plain: what stands between the dots, as a loop finds it. No program in sight. -/
namespace Go.Proofs.YtfpmfegmehbfbaaGreatDoor
set_option linter.unusedVariables false
set_option linter.unusedSimpArgs false

theorem cuts_step {l : List Nat} {f i : Nat} (h : f ≤ i) (hi : i < l.length) (hn : ∀ k, f ≤ k → k < i → l[k]? ≠ some 46) (hd : l[i]? = some 46) :
    cuts (l.drop f) = (l.drop f).take (i - f) :: cuts (l.drop (i + 1)) := by
  have e : l.drop f = (l.drop f).take (i - f) ++ 46 :: l.drop (i + 1) := by
    conv => lhs; rw [← List.take_append_drop (i - f) (l.drop f)]
    rw [List.drop_drop, show f + (i - f) = i by omega, List.drop_eq_getElem_cons hi]
    rw [List.getElem?_eq_getElem hi] at hd
    injection hd with hd
    rw [hd]
  conv => lhs; rw [e]
  refine cuts_dot _ _ fun x hx e2 => ?_
  subst e2
  obtain ⟨k, hk, ek⟩ := List.getElem_of_mem hx
  rw [List.length_take, List.length_drop] at hk
  rw [List.getElem_take, List.getElem_drop] at ek
  refine hn (f + k) (by omega) (by omega) ?_
  rw [List.getElem?_eq_getElem (by omega), ek]
theorem cuts_last {l : List Nat} {f : Nat} (hn : ∀ k, f ≤ k → k < l.length → l[k]? ≠ some 46) : cuts (l.drop f) = [l.drop f] := by
  refine cuts_none _ fun x hx e2 => ?_
  subst e2
  obtain ⟨k, hk, ek⟩ := List.getElem_of_mem hx
  rw [List.length_drop] at hk
  rw [List.getElem_drop] at ek
  refine hn (f + k) (by omega) (by omega) ?_
  rw [List.getElem?_eq_getElem (by omega), ek]
end Go.Proofs.YtfpmfegmehbfbaaGreatDoor

/- Plain: a door stays one. No program in sight. -/
namespace Go.Proofs.YtfpmfegmehbfbaaGreatDoor
set_option linter.unusedVariables false
set_option linter.unusedSimpArgs false

end Go.Proofs.YtfpmfegmehbfbaaGreatDoor

/- Plain: whatever is done, a door stays one. No program in sight. -/
namespace Go.Proofs.YtfpmfegmehbfbaaGreatDoor
set_option linter.unusedVariables false
set_option linter.unusedSimpArgs false

end Go.Proofs.YtfpmfegmehbfbaaGreatDoor

/- Plain: what a step leaves as it was; a request again; what is signed tells the request. No program in sight. -/
namespace Go.Proofs.YtfpmfegmehbfbaaGreatDoor
set_option linter.unusedVariables false
set_option linter.unusedSimpArgs false

end Go.Proofs.YtfpmfegmehbfbaaGreatDoor

/- Plain: scripts of what is done at a door. No program in sight. -/
namespace Go.Proofs.YtfpmfegmehbfbaaGreatDoor
set_option linter.unusedVariables false
set_option linter.unusedSimpArgs false

/-- What is wrong with a signature, and how one signs with the key of a seed; its public key. -/
structure SigR where
  (sg : Nat → List Nat → Nat → Nat → Nat) (sgn : Nat → List Nat → Nat × Nat) (pk : Nat → Nat)
end Go.Proofs.YtfpmfegmehbfbaaGreatDoor

/- Plain: what one asks for with a fresh nonce and a right signature is done; the chapter's example. No program in sight. -/
namespace Go.Proofs.YtfpmfegmehbfbaaGreatDoor
set_option linter.unusedVariables false
set_option linter.unusedSimpArgs false

variable (S : SigR)
variable {S}
end Go.Proofs.YtfpmfegmehbfbaaGreatDoor

/- Plain: nonces one after the other, as a loop looks at them. No program in sight. -/
namespace Go.Proofs.YtfpmfegmehbfbaaGreatDoor
set_option linter.unusedVariables false
set_option linter.unusedSimpArgs false

end Go.Proofs.YtfpmfegmehbfbaaGreatDoor

/- Plain: a door's checks one place after the other, as loops make them. No program in sight. -/
namespace Go.Proofs.YtfpmfegmehbfbaaGreatDoor
set_option linter.unusedVariables false
set_option linter.unusedSimpArgs false

end Go.Proofs.YtfpmfegmehbfbaaGreatDoor
