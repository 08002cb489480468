/- Parts of the proofs, put together: Open3. -/
import Derived.Deep.SlicePairs
import Derived.Test.YtaibpldolbemfaaH10
import Derived.Test.YtaibpldolbemfaaH18
/- What comes in, opened: lists of ids, lists of shares. -/
namespace Go.Proofs.Ytaibpldolbemfaa
set_option linter.unusedVariables false
open Go.ChangeShapes Go.WideShapes Go.ChangeAt Go.RowKit

section
variable {H : Type} {enc : TypeId × Value → H} {P : Program} {W : World}
theorem open_ids {t e : TypeId} {A : Option Addr} {n c : Nat} {d : DataW H} {p : List MemPlace} (ht : P.underlying t = some (.slice e)) (he : P.underlying e = some (.int .i64)) (hc : P.cellsOf e = 1)
    (h : DataW.Trod enc P W 0 (fun _ => true) true t (.slice A n c) d p) :
    ∃ l : List Int, l.length = n ∧ n ≤ c ∧ (∀ x ∈ l, (Lit.int .i64 x).wf = true) ∧ Reads W W.heap.size 1 A n (iv l) ∧ CapOf d c := by
  obtain ⟨fuel, hf⟩ := h
  rcases open_ints ht he hc hf with ⟨hcs, hx⟩ | ⟨a, n', c', zs, hcs, _, hl, _, hz, hx, hcell, hwz⟩
  · simp [Value.cells] at hcs
    obtain ⟨rfl, rfl, rfl⟩ := hcs
    simp only [Prod.mk.injEq] at hx
    exact ⟨[], rfl, Nat.le_refl _, by simp, Reads.none_, .inl ⟨hx.1, rfl⟩⟩
  · simp [Value.cells] at hcs
    obtain ⟨rfl, rfl, rfl⟩ := hcs
    simp only [Prod.mk.injEq, if_true] at hx hz
    exact ⟨zs.take n, by simp; omega, hl, fun x hx => hwz x (List.mem_of_mem_take hx), reads_of (n := n) (by omega) hcell, .inr ⟨_, _, hx.1, by simp [lits]; omega⟩⟩

theorem sv_range (f : Nat → Int × Nat) : ∀ n : Nat, ∀ j : Nat, ∀ u : Value, (sv ((List.range n).map f))[j]? = some u → j / 2 < n ∧ (j % 2 = 0 ∧ u = .int .i64 (f (j / 2)).1 ∨ j % 2 = 1 ∧ u = .int .u64 ((f (j / 2)).2 : Int)) := by
  intro n j u h
  have hj := (List.getElem?_eq_some_iff.1 h).1
  rw [sv_length, List.length_map, List.length_range] at hj
  have hk : j / 2 < n := by omega
  have hs : ((List.range n).map f)[j / 2]? = some (f (j / 2)) := by simp [hk]
  obtain ⟨h0, h1⟩ := sv_at hs
  refine ⟨hk, ?_⟩
  rcases Nat.mod_two_eq_zero_or_one j with hm | hm
  · rw [show j / 2 * 2 = j by omega] at h0
    rw [h0] at h
    exact .inl ⟨hm, (Option.some.inj h).symm⟩
  · rw [show j / 2 * 2 + 1 = j by omega] at h1
    rw [h1] at h
    exact .inr ⟨hm, (Option.some.inj h).symm⟩
theorem open_shares {t e : TypeId} {f0 f1 : Field} {A : Option Addr} {n c : Nat} {d : DataW H} {p : List MemPlace} (ht : P.underlying t = some (.slice e)) (he : P.underlying e = some (.struct #[f0, f1]))
    (ce : P.cellsOf e = 2) (o0 : f0.offset = 0) (o1 : f1.offset = 1) (c0 : P.cellsOf f0.type = 1) (c1 : P.cellsOf f1.type = 1) (u0 : P.underlying f0.type = some (.int .i64)) (u1 : P.underlying f1.type = some (.int .u64))
    (h : DataW.Trod enc P W 0 (fun _ => true) true t (.slice A n c) d p) :
    ∃ l : List (Int × Nat), l.length = n ∧ n ≤ c ∧ idsWf l ∧ (∀ s ∈ l, s.2 < 18446744073709551616) ∧ Reads W W.heap.size 2 A n (sv l) ∧ CapOf d c := by
  obtain ⟨fuel, hf⟩ := h
  rcases Go.Deep.open_slice_pairs ht he ce o0 o1 c0 c1 hf with ⟨hcs, hx⟩ | ⟨a, n', c', m, k, V0, V1, D0, D1, P0, P1, hcs, _, hl, _, hm, hx, hr⟩
  · simp [Value.cells] at hcs
    obtain ⟨rfl, rfl, rfl⟩ := hcs
    simp only [Prod.mk.injEq] at hx
    exact ⟨[], rfl, Nat.le_refl _, by unfold idsWf; simp, by simp, Reads.none_, .inl ⟨hx.1, rfl⟩⟩
  · simp [Value.cells] at hcs
    obtain ⟨rfl, rfl, rfl⟩ := hcs
    simp only [Prod.mk.injEq, if_true] at hx hm
    subst hm
    have hone : ∀ i, i < n → ∃ s : Int × Nat, (Lit.int .i64 s.1).wf = true ∧ s.2 < 18446744073709551616 ∧ W.cell? (a.add (i * 2)) = some (.int .i64 s.1) ∧ W.cell? (a.add (i * 2 + 1)) = some (.int .u64 (s.2 : Int)) := by
      intro i hi
      obtain ⟨h1, h2, h3, h4⟩ := hr i (by omega)
      obtain ⟨x, ex, _, wx⟩ := DataW.trod_int u0 h3
      obtain ⟨y, ey, _, wy⟩ := DataW.trod_int u1 h4
      simp only [List.cons.injEq, and_true] at ex ey
      obtain ⟨y1, y2⟩ := word_of_wf wy
      exact ⟨(x, y.toNat), wx, y2, by rw [h1, ex], by rw [h2, ey, ← y1]⟩
    obtain ⟨f, hf'⟩ := Go.Deep.choose_lt hone
    refine ⟨(List.range n).map f, by simp, hl, ?_, ?_, ⟨by rw [sv_length]; simp, fun h0 => ⟨a, rfl, ?_, fun j u hj => ?_⟩⟩, .inr ⟨_, _, hx.1, by simp; omega⟩⟩
    · intro i hi
      simp only [List.map_map, List.mem_map, List.mem_range] at hi
      obtain ⟨k, hk, rfl⟩ := hi
      exact (hf' k hk).1
    · intro s hs
      obtain ⟨k, hk, rfl⟩ := List.mem_map.1 hs
      exact (hf' k (List.mem_range.1 hk)).2.1
    · have := cell_lt (hf' 0 h0).2.2.1
      rwa [block_of_add] at this
    · obtain ⟨hk, h3 | h3⟩ := sv_range f n j u hj
      · have := (hf' (j / 2) hk).2.2.1
        rw [show j / 2 * 2 = j by omega] at this
        rw [this, h3.2]
      · have := (hf' (j / 2) hk).2.2.2
        rw [show j / 2 * 2 + 1 = j by omega] at this
        rw [this, h3.2]
end
end Go.Proofs.Ytaibpldolbemfaa
