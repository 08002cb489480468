/- Parts of the proofs, put together: Open5. -/
import Derived.Deep.Strs
import Derived.Test.YtfpmfegmehbfbaaGreatDoorZ13
/- What comes in, opened: whatever nests, a type at a time. -/
namespace Go.Proofs.YtfpmfegmehbfbaaGreatDoor
set_option linter.unusedVariables false
set_option linter.unusedSimpArgs false
open Go.ChangeShapes Go.WideShapes Go.ChangeAt Go.RowKit

section
variable {H : Type} (enc : TypeId × Value → H) (P : Program) (W : World)
/-- Cells that read as something of a type, that is no greater than a machine's memory. -/
def Tw (t : TypeId) (cs : List Value) (d : DataW H) : Prop := (∃ fuel p, DataW.trod enc P W 0 (fun _ => true) true fuel t cs = some (d, p)) ∧ ∀ m ∈ d.weights P t, m ≤ reachBytes
/-- Whatever reads so is one of these. -/
def Dec {α : Type} (t : TypeId) (en : α → List Value) (wf : α → Prop) : Prop := ∀ cs d, Tw enc P W t cs d → ∃ a, cs = en a ∧ wf a
variable {enc P W}
theorem tw_int {t : TypeId} {k : IntKind} {cs : List Value} {d : DataW H} (ht : P.underlying t = some (.int k)) (h : Tw enc P W t cs d) : ∃ n, cs = [.int k n] ∧ (Lit.int k n).wf = true := by
  obtain ⟨⟨fuel, p, hf⟩, _⟩ := h
  obtain ⟨n, h1, _, h3⟩ := DataW.trod_int ht hf
  exact ⟨n, h1, h3⟩
theorem tw_u64 {t : TypeId} {cs : List Value} {d : DataW H} (ht : P.underlying t = some (.int .u64)) (h : Tw enc P W t cs d) : ∃ n : Nat, cs = [.int .u64 (n : Int)] ∧ n < 18446744073709551616 := by
  obtain ⟨n, e, hw⟩ := tw_int ht h
  obtain ⟨h1, h2⟩ := word_of_wf hw
  exact ⟨n.toNat, by rw [← h1]; exact e, h2⟩
theorem tw_bool {t : TypeId} {cs : List Value} {d : DataW H} (ht : P.underlying t = some .bool) (h : Tw enc P W t cs d) : ∃ b, cs = [.bool b] := by
  obtain ⟨⟨fuel, p, hf⟩, _⟩ := h
  obtain ⟨b, h1, _⟩ := DataW.trod_bool ht hf
  exact ⟨b, h1⟩
theorem tw_string {t : TypeId} {cs : List Value} {d : DataW H} (ht : P.underlying t = some .string) (h : Tw enc P W t cs d) : ∃ s : ByteArray, cs = [.string s] ∧ s.size ≤ 140737488351232 := by
  obtain ⟨⟨fuel, p, hf⟩, hw⟩ := h
  obtain ⟨s, h1, h2, _⟩ := DataW.trod_string ht hf
  simp only [Prod.mk.injEq] at h2
  refine ⟨s, h1, ?_⟩
  have := hw s.data.toList.length (by rw [h2.1]; simp [DataW.weights])
  simpa [reachBytes] using this
theorem tw_struct {t : TypeId} {fs : Array Field} {cs : List Value} {d : DataW H} (ht : P.underlying t = some (.struct fs)) (h : Tw enc P W t cs d) :
    cs.length = P.cellsOf t ∧ ∀ (i : Nat) (f : Field), fs[i]? = some f → ∃ d', Tw enc P W f.type ((cs.drop f.offset).take (P.cellsOf f.type)) d' := by
  obtain ⟨⟨fuel, p, hf⟩, hw⟩ := h
  obtain ⟨xs, n, _, hx, hl, hlen, hall⟩ := DataW.trod_struct ht hf
  simp only [Prod.mk.injEq] at hx
  refine ⟨hl, fun i f hi => ?_⟩
  have hi' : i < xs.length := by rw [hlen]; exact (Array.getElem?_eq_some_iff.1 hi).1
  have h1 := hall i f hi
  rw [List.getElem?_eq_getElem hi'] at h1
  refine ⟨xs[i].1, ⟨n, xs[i].2, h1⟩, fun m hm => hw m ?_⟩
  rw [hx.1, DataW.weights]
  simp only [ht]
  exact DataW.weights_mem_each (j := i) (by simp [hi]) (by simp [hi']) m hm
theorem tw_field {t : TypeId} {fs : Array Field} {cs : List Value} {d : DataW H} (ht : P.underlying t = some (.struct fs)) (h : Tw enc P W t cs d) (i : Nat) {f : Field} (hi : fs[i]? = some f) (ty : TypeId) (o c : Nat)
    (e1 : f.type = ty) (e2 : f.offset = o) (e3 : P.cellsOf ty = c) : ∃ d', Tw enc P W ty ((cs.drop o).take c) d' := by
  obtain ⟨d', h'⟩ := (tw_struct ht h).2 i f hi
  rw [e1, e2, e3] at h'
  exact ⟨d', h'⟩
theorem tw_slice {t e : TypeId} {cs : List Value} {d : DataW H} (ht : P.underlying t = some (.slice e)) (h : Tw enc P W t cs d) : ∃ (A : Option Addr) (n c : Nat), cs = [.slice A n c] ∧ n ≤ c ∧ c * P.bytesOf e ≤ 140737488351232 ∧
    ∀ i, i < n → ∃ ad cs' d', A = some ad ∧ Tw enc P W e cs' d' ∧ cs'.length = P.cellsOf e ∧ ∀ (j : Nat) (u : Value), cs'[j]? = some u → W.cell? (ad.add (i * P.cellsOf e + j)) = some u := by
  obtain ⟨⟨fuel, p, hf⟩, hw⟩ := h
  rcases Go.Deep.open_slice ht hf with ⟨rfl, hx⟩ | ⟨a, len, cap, m, n, D, Pl, rfl, _, hl, _, hm, hx, hr⟩
  · exact ⟨none, 0, 0, rfl, Nat.le_refl _, by simp, fun i hi => absurd hi (by omega)⟩
  · simp only [Prod.mk.injEq, if_true] at hx hm
    subst hm
    have hwd : d.weights P t = (len + (m - len)) * P.bytesOf e :: (DataW.weightsAll P e ((List.range len).map D) ++ DataW.weightsAll P e ((List.range (m - len)).map fun j => D (len + j))) := by
      rw [hx.1, DataW.weights]
      simp only [ht, List.length_map, List.length_range]
    refine ⟨some a, len, m, rfl, hl, ?_, fun i hi => ?_⟩
    · have := hw _ (by rw [hwd]; exact List.mem_cons_self)
      rw [show len + (m - len) = m by omega] at this
      exact this
    · obtain ⟨cs', h1, h2⟩ := hr i (by omega)
      obtain ⟨_, h3, h4⟩ := World.cells?_some h1
      refine ⟨a, cs', D i, rfl, ⟨⟨n, Pl i, h2⟩, fun k hk => hw k ?_⟩, h3, fun j u hu => ?_⟩
      · rw [hwd]
        exact List.mem_cons_of_mem _ (List.mem_append.2 (.inl (mem_weightsAll (List.mem_map.2 ⟨i, by simpa using hi, rfl⟩) k hk)))
      · have hj := (List.getElem?_eq_some_iff.1 hu).1
        rw [← add_of_add, h4 j (by omega)]
        exact hu
theorem list_of {α : Type} {p : Nat → α → Prop} : ∀ n : Nat, (∀ i, i < n → ∃ a, p i a) → ∃ l : List α, l.length = n ∧ ∀ i a, l[i]? = some a → p i a
  | 0, _ => ⟨[], rfl, fun i a h => by simp at h⟩
  | n + 1, h => by
    obtain ⟨l, h1, h2⟩ := list_of n (fun i hi => h i (by omega))
    obtain ⟨a, ha⟩ := h n (by omega)
    refine ⟨l ++ [a], by simp [h1], fun i b hb => ?_⟩
    by_cases hi : i < l.length
    · rw [List.getElem?_append_left hi] at hb; exact h2 i b hb
    · have hlt := (List.getElem?_eq_some_iff.1 hb).1
      simp only [List.length_append, List.length_singleton] at hlt
      have : i = l.length := by omega
      subst this
      simp at hb
      subst hb
      rw [h1]; exact ha
theorem dec_slice {α : Type} {en : α → List Value} {wf : α → Prop} {t e : TypeId} {cs : List Value} {d : DataW H} {k : Nat} (ht : P.underlying t = some (.slice e)) (hk : P.cellsOf e = k) (h0 : 0 < k) (hen : ∀ a, (en a).length = k) (hd : Dec enc P W e en wf)
    (h : Tw enc P W t cs d) : ∃ (A : Option Addr) (c : Nat) (l : List α), cs = [.slice A l.length c] ∧ l.length ≤ c ∧ c * P.bytesOf e ≤ 140737488351232 ∧ (∀ a ∈ l, wf a) ∧ Reads W W.heap.size k A l.length (l.flatMap en) := by
  obtain ⟨A, n, c, rfl, hnc, hcb, hall⟩ := tw_slice ht h
  rw [hk] at hall
  obtain ⟨l, hl, hp⟩ := list_of (p := fun i a => wf a ∧ ∃ ad, A = some ad ∧ ∀ (j : Nat) (u : Value), (en a)[j]? = some u → W.cell? (ad.add (i * k + j)) = some u) n (fun i hi => by
    obtain ⟨ad, cs', d', hA, htw, _, hc⟩ := hall i hi
    obtain ⟨a, rfl, ha⟩ := hd cs' d' htw
    exact ⟨a, ha, ad, hA, hc⟩)
  subst hl
  refine ⟨A, c, l, rfl, hnc, hcb, fun a ha => ?_, fm_length en hen l, fun hn => ?_⟩
  · obtain ⟨i, hi⟩ := List.mem_iff_getElem?.1 ha
    exact (hp i a hi).1
  · obtain ⟨x, hx⟩ : ∃ x, l[0]? = some x := ⟨_, List.getElem?_eq_getElem hn⟩
    obtain ⟨_, ad, hA, hc0⟩ := hp 0 x hx
    refine ⟨ad, hA, ?_, fun j u hu => ?_⟩
    · have hx0 : 0 < (en x).length := by rw [hen]; exact h0
      have := cell_lt (hc0 0 _ (List.getElem?_eq_getElem hx0))
      rwa [block_of_add] at this
    · have hj := (List.getElem?_eq_some_iff.1 hu).1
      rw [fm_length en hen] at hj
      have hi : j / k < l.length := Nat.div_lt_of_lt_mul (by rw [Nat.mul_comm]; exact hj)
      obtain ⟨y, hy⟩ : ∃ y, l[j / k]? = some y := ⟨_, List.getElem?_eq_getElem hi⟩
      obtain ⟨_, ad', hA', hc⟩ := hp _ y hy
      rw [hA] at hA'
      cases hA'
      have hjk : j / k * k + j % k = j := Nat.div_add_mod' j k
      have := fm_at en hen hy (Nat.mod_lt j h0)
      rw [hjk, hu] at this
      have h2 := hc (j % k) u this.symm
      rwa [hjk] at h2
theorem dec_string {t : TypeId} (ht : P.underlying t = some .string) : Dec enc P W t (fun s => [Value.string s]) (fun s => s.size ≤ 140737488351232) := fun cs d h => tw_string ht h
theorem fm_single {α : Type} (f : α → Value) : ∀ l : List α, l.flatMap (fun a => [f a]) = l.map f
  | [] => rfl
  | a :: l => by rw [List.flatMap_cons, fm_single f l]; rfl
theorem open_strs {t e : TypeId} {cs : List Value} {d : DataW H} (ht : P.underlying t = some (.slice e)) (he : P.underlying e = some .string) (ce : P.cellsOf e = 1) (be : P.bytesOf e = 16) (h : Tw enc P W t cs d) :
    ∃ (A : Option Addr) (c : Nat) (l : List ByteArray), cs = [.slice A l.length c] ∧ l.length ≤ c ∧ c ≤ 140737488351232 ∧ (∀ s ∈ l, s.size ≤ 140737488351232) ∧ Reads W W.heap.size 1 A l.length (tv l) := by
  obtain ⟨A, c, l, h1, h2, h3, h4, h5⟩ := dec_slice ht ce (by decide) (fun _ => rfl) (dec_string he) h
  rw [be] at h3
  refine ⟨A, c, l, h1, h2, by omega, h4, ?_⟩
  have e : (l.flatMap fun s => [Value.string s]) = tv l := fm_single _ l
  rwa [e] at h5
end
end Go.Proofs.YtfpmfegmehbfbaaGreatDoor
