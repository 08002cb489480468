/- Parts of the proofs, put together: Open3, Open4. -/
import Derived.Deep.SlicePairs
import Derived.Test.YtiecfamjnnmpaaaGreatR10
import Derived.Test.YtiecfamjnnmpaaaGreatR21
/- What comes in, opened: lists of ids, lists of shares. -/
namespace Go.Proofs.YtiecfamjnnmpaaaGreat
set_option linter.unusedVariables false
open Go.ChangeShapes Go.WideShapes Go.ChangeAt Go.RowKit

section
variable {H : Type} {enc : TypeId × Value → H} {P : Program} {W : World}
theorem open_ids {t e : TypeId} {A : Option Addr} {n c : Nat} {d : DataW H} {p : List MemPlace} (ht : P.underlying t = some (.slice e)) (he : P.underlying e = some (.int .i64)) (hc : P.cellsOf e = 1)
    (h : DataW.Trod enc P W 0 (fun _ => true) true t (.slice A n c) d p) :
    ∃ l : List Int, l.length = n ∧ n ≤ c ∧ (∀ x ∈ l, (Lit.int .i64 x).wf = true) ∧ Reads W W.heap.size 1 A n (iv l) ∧ CapOf d c := by
  obtain ⟨fuel, hf⟩ := h
  rcases open_ints ht he hc hf with ⟨hcs, hx⟩ | ⟨a, n', c', zs, hcs, _, hl, _, hz, hx, hcell, hwz⟩
  · simp [Value.cells] at hcs
    obtain ⟨rfl, rfl, rfl⟩ := hcs
    simp only [Prod.mk.injEq] at hx
    exact ⟨[], rfl, Nat.le_refl _, by simp, Reads.none_, .inl ⟨hx.1, rfl⟩⟩
  · simp [Value.cells] at hcs
    obtain ⟨rfl, rfl, rfl⟩ := hcs
    simp only [Prod.mk.injEq, if_true] at hx hz
    exact ⟨zs.take n, by simp; omega, hl, fun x hx => hwz x (List.mem_of_mem_take hx), reads_of (n := n) (by omega) hcell, .inr ⟨_, _, hx.1, by simp [lits]; omega⟩⟩

theorem sv_range (f : Nat → Int × Nat) : ∀ n : Nat, ∀ j : Nat, ∀ u : Value, (sv ((List.range n).map f))[j]? = some u → j / 2 < n ∧ (j % 2 = 0 ∧ u = .int .i64 (f (j / 2)).1 ∨ j % 2 = 1 ∧ u = .int .u64 ((f (j / 2)).2 : Int)) := by
  intro n j u h
  have hj := (List.getElem?_eq_some_iff.1 h).1
  rw [sv_length, List.length_map, List.length_range] at hj
  have hk : j / 2 < n := by omega
  have hs : ((List.range n).map f)[j / 2]? = some (f (j / 2)) := by simp [hk]
  obtain ⟨h0, h1⟩ := sv_at hs
  refine ⟨hk, ?_⟩
  rcases Nat.mod_two_eq_zero_or_one j with hm | hm
  · rw [show j / 2 * 2 = j by omega] at h0
    rw [h0] at h
    exact .inl ⟨hm, (Option.some.inj h).symm⟩
  · rw [show j / 2 * 2 + 1 = j by omega] at h1
    rw [h1] at h
    exact .inr ⟨hm, (Option.some.inj h).symm⟩
theorem open_shares {t e : TypeId} {f0 f1 : Field} {A : Option Addr} {n c : Nat} {d : DataW H} {p : List MemPlace} (ht : P.underlying t = some (.slice e)) (he : P.underlying e = some (.struct #[f0, f1]))
    (ce : P.cellsOf e = 2) (o0 : f0.offset = 0) (o1 : f1.offset = 1) (c0 : P.cellsOf f0.type = 1) (c1 : P.cellsOf f1.type = 1) (u0 : P.underlying f0.type = some (.int .i64)) (u1 : P.underlying f1.type = some (.int .u64))
    (h : DataW.Trod enc P W 0 (fun _ => true) true t (.slice A n c) d p) :
    ∃ l : List (Int × Nat), l.length = n ∧ n ≤ c ∧ idsWf l ∧ (∀ s ∈ l, s.2 < 18446744073709551616) ∧ Reads W W.heap.size 2 A n (sv l) ∧ CapOf d c := by
  obtain ⟨fuel, hf⟩ := h
  rcases Go.Deep.open_slice_pairs ht he ce o0 o1 c0 c1 hf with ⟨hcs, hx⟩ | ⟨a, n', c', m, k, V0, V1, D0, D1, P0, P1, hcs, _, hl, _, hm, hx, hr⟩
  · simp [Value.cells] at hcs
    obtain ⟨rfl, rfl, rfl⟩ := hcs
    simp only [Prod.mk.injEq] at hx
    exact ⟨[], rfl, Nat.le_refl _, by unfold idsWf; simp, by simp, Reads.none_, .inl ⟨hx.1, rfl⟩⟩
  · simp [Value.cells] at hcs
    obtain ⟨rfl, rfl, rfl⟩ := hcs
    simp only [Prod.mk.injEq, if_true] at hx hm
    subst hm
    have hone : ∀ i, i < n → ∃ s : Int × Nat, (Lit.int .i64 s.1).wf = true ∧ s.2 < 18446744073709551616 ∧ W.cell? (a.add (i * 2)) = some (.int .i64 s.1) ∧ W.cell? (a.add (i * 2 + 1)) = some (.int .u64 (s.2 : Int)) := by
      intro i hi
      obtain ⟨h1, h2, h3, h4⟩ := hr i (by omega)
      obtain ⟨x, ex, _, wx⟩ := DataW.trod_int u0 h3
      obtain ⟨y, ey, _, wy⟩ := DataW.trod_int u1 h4
      simp only [List.cons.injEq, and_true] at ex ey
      obtain ⟨y1, y2⟩ := word_of_wf wy
      exact ⟨(x, y.toNat), wx, y2, by rw [h1, ex], by rw [h2, ey, ← y1]⟩
    obtain ⟨f, hf'⟩ := Go.Deep.choose_lt hone
    refine ⟨(List.range n).map f, by simp, hl, ?_, ?_, ⟨by rw [sv_length]; simp, fun h0 => ⟨a, rfl, ?_, fun j u hj => ?_⟩⟩, .inr ⟨_, _, hx.1, by simp; omega⟩⟩
    · intro i hi
      simp only [List.map_map, List.mem_map, List.mem_range] at hi
      obtain ⟨k, hk, rfl⟩ := hi
      exact (hf' k hk).1
    · intro s hs
      obtain ⟨k, hk, rfl⟩ := List.mem_map.1 hs
      exact (hf' k (List.mem_range.1 hk)).2.1
    · have := cell_lt (hf' 0 h0).2.2.1
      rwa [block_of_add] at this
    · obtain ⟨hk, h3 | h3⟩ := sv_range f n j u hj
      · have := (hf' (j / 2) hk).2.2.1
        rw [show j / 2 * 2 = j by omega] at this
        rw [this, h3.2]
      · have := (hf' (j / 2) hk).2.2.2
        rw [show j / 2 * 2 + 1 = j by omega] at this
        rw [this, h3.2]
end
end Go.Proofs.YtiecfamjnnmpaaaGreat

/- What comes in, opened: one share, one crew. -/
namespace Go.Proofs.YtiecfamjnnmpaaaGreat
set_option linter.unusedVariables false
open Go.ChangeShapes Go.WideShapes Go.ChangeAt Go.RowKit

section
variable {H : Type} {enc : TypeId × Value → H} {P : Program} {W : World}
/-- A struct of a number and a word. -/
theorem open_share1 {t : TypeId} {f0 f1 : Field} {v : Value} {d : DataW H} {p : List MemPlace} {r : Reach} {b0 : Nat} (ht : P.underlying t = some (.struct #[f0, f1])) (u0 : P.underlying f0.type = some (.int .i64)) (u1 : P.underlying f1.type = some (.int .u64)) (c0 : P.cellsOf f0.type = 1) (c1 : P.cellsOf f1.type = 1) (ct : P.cellsOf t = 2)
    (o0 : f0.offset = 0) (o1 : f1.offset = 1) (hv : Value.okWide P W r b0 t v) (h : DataW.Trod enc P W 0 (fun _ => true) true t v d p) :
    ∃ (x : Int) (y : Nat), v = .agg #[.int .i64 x, .int .u64 (y : Int)] ∧ (Lit.int .i64 x).wf = true ∧ y < 18446744073709551616 := by
  obtain ⟨cs, rfl, hsz⟩ := okWide_struct ht hv
  obtain ⟨fuel, hf⟩ := h
  obtain ⟨y0, y1, n, _, hl, ha, hb⟩ := trod_struct2 ht hf
  rw [c0, o0] at ha
  rw [c1, o1] at hb
  rw [ct] at hl
  obtain ⟨a, ea, _, wa⟩ := DataW.trod_int u0 ha
  obtain ⟨b, eb, _, wb⟩ := DataW.trod_int u1 hb
  obtain ⟨b1, b2⟩ := word_of_wf wb
  simp only [Value.cells] at hl ea eb
  obtain ⟨l⟩ := cs
  match l, hl with
  | [u, v], _ =>
    simp at ea eb
    subst ea; subst eb
    exact ⟨a, b.toNat, by rw [← b1], wa, b2⟩
/-- A crew: two numbers, a word, a list of shares. -/
theorem open_crew {t e : TypeId} {f0 f1 f2 f3 g0 g1 : Field} {v : Value} {d : DataW H} {p : List MemPlace} {r : Reach} {b0 : Nat} (ht : P.underlying t = some (.struct #[f0, f1, f2, f3])) (u0 : P.underlying f0.type = some (.int .i64)) (u1 : P.underlying f1.type = some (.int .i64)) (u2 : P.underlying f2.type = some (.int .u64)) (u3 : P.underlying f3.type = some (.slice e))
    (c0 : P.cellsOf f0.type = 1) (c1 : P.cellsOf f1.type = 1) (c2 : P.cellsOf f2.type = 1) (c3 : P.cellsOf f3.type = 1) (ct : P.cellsOf t = 4) (o0 : f0.offset = 0) (o1 : f1.offset = 1) (o2 : f2.offset = 2) (o3 : f3.offset = 3)
    (he : P.underlying e = some (.struct #[g0, g1])) (ce : P.cellsOf e = 2) (q0 : g0.offset = 0) (q1 : g1.offset = 1) (d0 : P.cellsOf g0.type = 1) (d1 : P.cellsOf g1.type = 1) (w0 : P.underlying g0.type = some (.int .i64)) (w1 : P.underlying g1.type = some (.int .u64))
    (hv : Value.okWide P W r b0 t v) (h : DataW.Trod enc P W 0 (fun _ => true) true t v d p) :
    ∃ (x y : Int) (k : Nat) (A : Option Addr) (c : Nat) (l : List (Int × Nat)), v = .agg #[.int .i64 x, .int .i64 y, .int .u64 (k : Int), .slice A l.length c] ∧ (Lit.int .i64 x).wf = true ∧ (Lit.int .i64 y).wf = true ∧ k < 18446744073709551616 ∧ l.length ≤ c ∧ idsWf l ∧ (∀ s ∈ l, s.2 < 18446744073709551616) ∧ Reads W W.heap.size 2 A l.length (sv l) := by
  obtain ⟨cs, rfl, hsz⟩ := okWide_struct ht hv
  obtain ⟨fuel, hf⟩ := h
  obtain ⟨y0, y1, y2, y3, n, _, hl, h0, h1, h2, h3⟩ := Go.Joins.trod_struct4 ht hf
  rw [c0, o0] at h0
  rw [c1, o1] at h1
  rw [c2, o2] at h2
  rw [c3, o3] at h3
  rw [ct] at hl
  obtain ⟨a, ea, _, wa⟩ := DataW.trod_int u0 h0
  obtain ⟨b, eb, _, wb⟩ := DataW.trod_int u1 h1
  obtain ⟨k, ek, _, wk⟩ := DataW.trod_int u2 h2
  obtain ⟨k1, k2⟩ := word_of_wf wk
  simp only [Value.cells] at h3
  obtain ⟨A, ln, c, eA⟩ : ∃ (A : Option Addr) (ln c : Nat), (cs.toList.drop 3).take 1 = [.slice A ln c] := by
    rcases Go.Deep.open_slice_pairs u3 he ce q0 q1 d0 d1 h3 with ⟨hcs, _⟩ | ⟨a, n', c', m, k, V0, V1, D0, D1, P0, P1, hcs, _⟩
    · exact ⟨_, _, _, hcs⟩
    · exact ⟨_, _, _, hcs⟩
  rw [eA] at h3
  obtain ⟨l, hll, hlc, hw, h64, hr, _⟩ := open_shares (W := W) (A := A) (n := ln) (c := c) (d := y3.1) (p := y3.2) u3 he ce q0 q1 d0 d1 w0 w1 ⟨n, h3⟩
  simp only [Value.cells] at hl ea eb ek
  obtain ⟨z⟩ := cs
  match z, hl with
  | [v0, v1, v2, v3], _ =>
    simp at ea eb ek eA
    subst ea; subst eb; subst ek; subst eA
    subst hll
    exact ⟨a, b, k.toNat, A, c, l, by rw [← k1], wa, wb, k2, hlc, hw, h64, hr⟩
end
end Go.Proofs.YtiecfamjnnmpaaaGreat
