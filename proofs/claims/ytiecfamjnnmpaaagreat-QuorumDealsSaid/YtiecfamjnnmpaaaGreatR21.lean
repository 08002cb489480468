/- Parts of the proofs, put together: Open, Open2. -/
import Derived.ProofKit
import Derived.OpenShut
import Derived.ShutString
import Derived.ChangeOld
import Derived.SizedLaws
import Derived.Lib.SmallJoins
import Derived.Deep.Matrix
import Derived.ChangeSame
import Derived.Test.YtiecfamjnnmpaaaGreatR10
/- What comes in, opened: bytes, lists of bytes, arrays and structs of numbers; and how great it is at most. -/
namespace Go.Proofs.YtiecfamjnnmpaaaGreat
set_option linter.unusedVariables false
open Go.ChangeShapes Go.WideShapes Go.ChangeAt Go.RowKit

section
variable {H : Type} {enc : TypeId × Value → H} {P : Program} {W : World}

theorem cell_lt {w : World} {p : Addr} {v : Value} (hc : w.cell? p = some v) : p.block < w.heap.size := by
  refine Nat.lt_of_not_le fun hle => ?_
  have : w.heap[p.block]? = none := Array.getElem?_eq_none hle
  unfold World.cell? at hc
  simp [this] at hc

/-- How many places a slice that came in has. -/
def CapOf (d : DataW H) (c : Nat) : Prop := (d = .nil ∧ c = 0) ∨ ∃ es sp, d = .slice es sp ∧ es.length + sp.length = c

theorem cap_reach {ts : List TypeId} {ds : List (DataW H)} (hsz : (DataW.weightsEach P ts ds).all (· ≤ reachBytes) = true) {j : Nat} {t e : TypeId} {d : DataW H} {c B : Nat} (ht : ts[j]? = some t) (hd : ds[j]? = some d)
    (hu : P.underlying t = some (.slice e)) (hB : P.bytesOf e = B) (h : CapOf d c) : c * B ≤ 140737488351232 := by
  rcases h with ⟨rfl, rfl⟩ | ⟨es, sp, rfl, rfl⟩
  · omega
  · have := sized_slice hsz ht hd hu
    rw [hB] at this
    simp only [reachBytes] at this
    exact this
theorem str_reach {ts : List TypeId} {ds : List (DataW H)} (hsz : (DataW.weightsEach P ts ds).all (· ≤ reachBytes) = true) {j : Nat} {t : TypeId} {s : ByteArray} (ht : ts[j]? = some t) (hd : ds[j]? = some (.lit (.string s.data.toList))) : s.size ≤ 140737488351232 := by
  have := sized_string hsz ht hd
  simp only [reachBytes, Array.length_toList] at this
  exact this

theorem byte_of_wf {n : Int} (h : (Lit.int .u8 n).wf = true) : n = ((n.toNat : Nat) : Int) ∧ n.toNat < 256 := by
  simp [Lit.wf, IntKind.min, IntKind.max, IntKind.signed, IntKind.bits] at h
  omega
theorem word_of_wf {n : Int} (h : (Lit.int .u64 n).wf = true) : n = ((n.toNat : Nat) : Int) ∧ n.toNat < 18446744073709551616 := by
  simp [Lit.wf, IntKind.min, IntKind.max, IntKind.signed, IntKind.bits] at h
  omega

/-- Numbers that lie from a place on, as a slice that reads. -/
theorem reads_of {k : IntKind} {a : Addr} {n : Nat} {zs : List Int} (hn : n ≤ zs.length) (hc : ∀ i, i < zs.length → W.cell? (a.add i) = some (.int k (zs.getD i 0))) :
    Reads W W.heap.size 1 (some a) n ((zs.take n).map (Value.int k)) := by
  refine ⟨by simp [hn], fun h0 => ⟨a, rfl, ?_, fun j u hj => ?_⟩⟩
  · have := cell_lt (hc 0 (by omega))
    rwa [block_of_add] at this
  · rw [List.getElem?_map, List.getElem?_take] at hj
    split at hj
    · rename_i hjn
      have hjl : j < zs.length := by omega
      rw [List.getElem?_eq_getElem hjl] at hj
      simp at hj
      subst hj
      rw [hc j hjl]
      simp [hjl]
    · cases hj
theorem bv_of {zs : List Int} (hw : ∀ n ∈ zs, (Lit.int .u8 n).wf = true) : zs.map (Value.int .u8) = bv (zs.map Int.toNat) ∧ ∀ x ∈ zs.map Int.toNat, x < 256 := by
  refine ⟨?_, fun x hx => ?_⟩
  · unfold bv
    rw [List.map_map]
    refine List.map_congr_left fun n hn => ?_
    show Value.int .u8 n = Value.int .u8 ((n.toNat : Nat) : Int)
    rw [← (byte_of_wf (hw n hn)).1]
  · obtain ⟨n, hn, rfl⟩ := List.mem_map.1 hx
    exact (byte_of_wf (hw n hn)).2

/-- Bytes that came in. -/
theorem open_bytes {t e : TypeId} {A : Option Addr} {n c : Nat} {d : DataW H} {p : List MemPlace} (ht : P.underlying t = some (.slice e)) (he : P.underlying e = some (.int .u8)) (hc : P.cellsOf e = 1)
    (h : DataW.Trod enc P W 0 (fun _ => true) true t (.slice A n c) d p) :
    ∃ l : List Nat, l.length = n ∧ n ≤ c ∧ (∀ x ∈ l, x < 256) ∧ Reads W W.heap.size 1 A n (bv l) ∧ CapOf d c := by
  obtain ⟨fuel, hf⟩ := h
  rcases open_ints ht he hc hf with ⟨hcs, hx⟩ | ⟨a, n', c', zs, hcs, _, hl, _, hz, hx, hcell, hwz⟩
  · simp [Value.cells] at hcs
    obtain ⟨rfl, rfl, rfl⟩ := hcs
    simp only [Prod.mk.injEq] at hx
    exact ⟨[], rfl, Nat.le_refl _, by simp, Reads.none_, .inl ⟨hx.1, rfl⟩⟩
  · simp [Value.cells] at hcs
    obtain ⟨rfl, rfl, rfl⟩ := hcs
    simp only [Prod.mk.injEq, if_true] at hx hz
    obtain ⟨e1, e2⟩ := bv_of (zs := zs.take n) (fun m hm => hwz m (List.mem_of_mem_take hm))
    have hr := reads_of (n := n) (by omega) hcell
    rw [e1] at hr
    exact ⟨(zs.take n).map Int.toNat, by simp; omega, hl, e2, hr, .inr ⟨_, _, hx.1, by simp [lits]; omega⟩⟩

theorem mem_weightsAll {e : TypeId} {d : DataW H} : ∀ {l : List (DataW H)}, d ∈ l → ∀ n ∈ d.weights P e, n ∈ DataW.weightsAll P e l
  | x :: l, hd, n, hn => by
    rw [DataW.weightsAll, List.mem_append]
    rcases List.mem_cons.1 hd with rfl | hd
    · exact .inl hn
    · exact .inr (mem_weightsAll hd n hn)

/-- Lists of bytes that came in. -/
theorem open_parts {t e q : TypeId} {A : Option Addr} {n c : Nat} {d : DataW H} {p : List MemPlace} (ht : P.underlying t = some (.slice e)) (he : P.underlying e = some (.slice q)) (hq : P.underlying q = some (.int .u8)) (ce : P.cellsOf e = 1) (cq : P.cellsOf q = 1) (bq : P.bytesOf q = 1)
    (h : DataW.Trod enc P W 0 (fun _ => true) true t (.slice A n c) d p) :
    ∃ ps : List (List Nat), ps.length = n ∧ n ≤ c ∧ (∀ l ∈ ps, ∀ x ∈ l, x < 256) ∧ Parts W W.heap.size A ps ∧ CapOf d c ∧ ∀ l ∈ ps, ∃ m ∈ d.weights P t, l.length ≤ m := by
  obtain ⟨fuel, hf⟩ := h
  rcases Go.Deep.open_int_rows ht he hq ce cq hf with ⟨hcs, hx⟩ | ⟨a, n', c', R, L, C, Z, hcs, _, hl, _, hx, hr⟩
  · simp [Value.cells] at hcs
    obtain ⟨rfl, rfl, rfl⟩ := hcs
    simp only [Prod.mk.injEq] at hx
    exact ⟨[], rfl, Nat.le_refl _, by simp, ⟨[], Reads.none_, fun j p hj => by simp at hj⟩, .inl ⟨hx.1, rfl⟩, by simp⟩
  · simp [Value.cells] at hcs
    obtain ⟨rfl, rfl, rfl⟩ := hcs
    simp only [Prod.mk.injEq] at hx
    have hone : ∀ r, r < n → ∃ l : List Nat, (Z r).take (L r) = l.map (fun x : Nat => (x : Int)) ∧ l.length = L r ∧ (∀ x ∈ l, x < 256) ∧ Reads W W.heap.size 1 (R r) (L r) (bv l) ∧ L r ≤ C r ∧ W.cell? (a.add r) = some (.slice (R r) (L r) (C r)) ∧ (∃ m ∈ d.weights P t, L r ≤ m) := by
      intro r hrn
      obtain ⟨h1, h2, h3, h4, h5, h6, h7⟩ := hr r (by omega)
      obtain ⟨e1, e2⟩ := bv_of (zs := (Z r).take (L r)) (fun m hm => h5 m (List.mem_of_mem_take hm))
      refine ⟨((Z r).take (L r)).map Int.toNat, ?_, by simp; omega, e2, ?_, h2, h1, ?_⟩
      · rw [List.map_map]
        refine (List.map_id _).symm.trans (List.map_congr_left fun m hm => ?_)
        exact (byte_of_wf (h5 m (List.mem_of_mem_take hm))).1
      · rcases hR : R r with _ | a'
        · have h0 : C r = 0 := h6 hR
          have hL : L r = 0 := by omega
          rw [hL]
          have : ((Z r).take 0).map Int.toNat = [] := by simp
          rw [this]
          exact Reads.none_
        · have h8 := (h7 a' hR).2
          have := reads_of (W := W) (k := .u8) (a := a') (n := L r) (zs := Z r) (by omega) (fun i hi => h8 i (by omega))
          rw [e1] at this
          exact this
      · rcases hR : R r with _ | a'
        · have h0 : C r = 0 := h6 hR
          exact ⟨n * 0 + (n + (c - n)) * P.bytesOf e, by rw [hx.1, DataW.weights]; simp [ht], by omega⟩
        · refine ⟨C r * 1, ?_, by omega⟩
          rw [hx.1, DataW.weights]
          simp only [ht]
          refine List.mem_cons_of_mem _ (List.mem_append.2 (.inl (mem_weightsAll (d := Go.Deep.intRow .u8 (R r) (L r) (Z r)) (List.mem_map.2 ⟨r, by simpa using hrn, rfl⟩) _ ?_)))
          rw [hR]
          unfold Go.Deep.intRow
          rw [DataW.weights]
          simp only [he, bq, lits, List.length_map, List.length_take, List.length_drop]
          refine List.mem_cons.2 (.inl ?_)
          omega
    refine ⟨(List.range n).map fun r => ((Z r).take (L r)).map Int.toNat, by simp, hl, ?_, ?_, .inr ⟨_, _, hx.1, by simp; omega⟩, ?_⟩
    · intro l hl x hx
      obtain ⟨r, hr', rfl⟩ := List.mem_map.1 hl
      obtain ⟨l, e1, e2, e3, _⟩ := hone r (by simpa using hr')
      rw [e1, List.map_map] at hx
      have : (Int.toNat ∘ fun x : Nat => (x : Int)) = id := by funext x; simp
      rw [this, List.map_id] at hx
      exact e3 x hx
    · refine ⟨(List.range n).map fun r => .slice (R r) (L r) (C r), ⟨by simp, fun h0 => ⟨a, rfl, ?_, fun j u hj => ?_⟩⟩, fun j l hj => ?_⟩
      · obtain ⟨l, _, _, _, _, _, h1, _⟩ := hone 0 (by simpa using h0)
        have := cell_lt h1
        rwa [block_of_add] at this
      · have hjn : j < n := by simpa using (List.getElem?_eq_some_iff.1 hj).1
        obtain ⟨l, _, _, _, _, _, h1, _⟩ := hone j hjn
        rw [h1]
        simp [hjn] at hj
        rw [hj]
      · have hjn : j < n := by simpa using (List.getElem?_eq_some_iff.1 hj).1
        obtain ⟨l', e1, e2, e3, e4, e5, _⟩ := hone j hjn
        have hl' : l = l' := by
          simp [hjn] at hj
          rw [← hj, ← List.map_take, e1, List.map_map]
          have : (Int.toNat ∘ fun x : Nat => (x : Int)) = id := by funext x; simp
          rw [this, List.map_id]
        subst hl'
        exact ⟨R j, C j, by simp [hjn, e2], by omega, by rw [e2]; exact e4⟩
    · intro l hl
      obtain ⟨r, hr', rfl⟩ := List.mem_map.1 hl
      obtain ⟨l', e1, e2, _, _, _, _, m, hm, hle⟩ := hone r (by simpa using hr')
      refine ⟨m, hm, ?_⟩
      rw [e1]
      simp
      omega

/-- Arrays of words. -/
theorem arr_cells {t e : TypeId} {m : Nat} {v : Value} {d : DataW H} {p : List MemPlace} {r : Reach} {b0 : Nat} (ht : P.underlying t = some (.array m e)) (he : P.underlying e = some (.int .u64)) (ce : P.cellsOf e = 1) (ct : P.cellsOf t = m) (hv : Value.okWide P W r b0 t v) (h : DataW.Trod enc P W 0 (fun _ => true) true t v d p) :
    ∃ cs : List Value, v = .agg cs.toArray ∧ cs.length = m ∧ ∀ i, i < m → ∃ n : Nat, cs[i]? = some (.int .u64 (n : Int)) ∧ n < 18446744073709551616 := by
  obtain ⟨cs, rfl, hsz⟩ : ∃ cs, v = .agg cs ∧ cs.size = P.cellsOf t := by
    simp only [Value.okWide, ht] at hv
    obtain ⟨cs, h1, h2, _⟩ := hv
    exact ⟨cs, h1, h2⟩
  obtain ⟨fuel, hf⟩ := h
  obtain ⟨xs, n, _, _, hlen, hxl, hx⟩ := DataW.trod_array ht hf
  rw [ct] at hsz
  refine ⟨cs.toList, rfl, by simpa using hsz, fun i hi => ?_⟩
  have h1 := hx i hi
  rw [ce, Nat.mul_one, List.getElem?_eq_getElem (by omega)] at h1
  simp only [Value.cells] at h1
  obtain ⟨a, ea, _, wa⟩ := DataW.trod_int he h1
  have hil : i < cs.toList.length := by simp; omega
  rw [List.drop_eq_getElem_cons hil] at ea
  simp only [List.take_succ_cons, List.take_zero, List.cons.injEq, and_true] at ea
  obtain ⟨e1, e2⟩ := word_of_wf wa
  exact ⟨a.toNat, by rw [List.getElem?_eq_getElem hil, ea, ← e1], e2⟩
theorem open_arr3 {t e : TypeId} {v : Value} {d : DataW H} {p : List MemPlace} {r : Reach} {b0 : Nat} (ht : P.underlying t = some (.array 3 e)) (he : P.underlying e = some (.int .u64)) (ce : P.cellsOf e = 1) (ct : P.cellsOf t = 3) (hv : Value.okWide P W r b0 t v) (h : DataW.Trod enc P W 0 (fun _ => true) true t v d p) :
    ∃ x y z : Nat, v = .agg #[.int .u64 (x : Int), .int .u64 (y : Int), .int .u64 (z : Int)] ∧ x < 18446744073709551616 ∧ y < 18446744073709551616 ∧ z < 18446744073709551616 := by
  obtain ⟨cs, rfl, hl, hc⟩ := arr_cells ht he ce ct hv h
  match cs, hl with
  | [a, b, c], _ =>
    obtain ⟨x, hx, bx⟩ := hc 0 (by decide)
    obtain ⟨y, hy, by'⟩ := hc 1 (by decide)
    obtain ⟨z, hz, bz⟩ := hc 2 (by decide)
    cases hx; cases hy; cases hz
    exact ⟨x, y, z, rfl, bx, by', bz⟩
theorem open_arr2 {t e : TypeId} {v : Value} {d : DataW H} {p : List MemPlace} {r : Reach} {b0 : Nat} (ht : P.underlying t = some (.array 2 e)) (he : P.underlying e = some (.int .u64)) (ce : P.cellsOf e = 1) (ct : P.cellsOf t = 2) (hv : Value.okWide P W r b0 t v) (h : DataW.Trod enc P W 0 (fun _ => true) true t v d p) :
    ∃ x y : Nat, v = .agg #[.int .u64 (x : Int), .int .u64 (y : Int)] ∧ x < 18446744073709551616 ∧ y < 18446744073709551616 := by
  obtain ⟨cs, rfl, hl, hc⟩ := arr_cells ht he ce ct hv h
  match cs, hl with
  | [a, b], _ =>
    obtain ⟨x, hx, bx⟩ := hc 0 (by decide)
    obtain ⟨y, hy, by'⟩ := hc 1 (by decide)
    cases hx; cases hy
    exact ⟨x, y, rfl, bx, by'⟩
end
end Go.Proofs.YtiecfamjnnmpaaaGreat

/- Opening an argument that is a struct of two words. -/
namespace Go.Proofs.YtiecfamjnnmpaaaGreat
set_option linter.unusedVariables false
open Go.RowKit Go.WideShapes Go.ChangeShapes

section
variable {P : Program} {H : Type} {enc : TypeId × Value → H} {W : World}
theorem open_words2 {t e : TypeId} {f0 f1 : Field} {v : Value} {d : DataW H} {p : List MemPlace} {r : Reach} {b0 : Nat} (ht : P.underlying t = some (.struct #[f0, f1])) (he : P.underlying e = some (.int .u64)) (ce : P.cellsOf e = 1) (ct : P.cellsOf t = 2)
    (t0 : f0.type = e) (t1 : f1.type = e) (o0 : f0.offset = 0) (o1 : f1.offset = 1) (hv : Value.okWide P W r b0 t v) (h : DataW.Trod enc P W 0 (fun _ => true) true t v d p) :
    ∃ x y : Nat, v = .agg #[.int .u64 (x : Int), .int .u64 (y : Int)] ∧ x < 18446744073709551616 ∧ y < 18446744073709551616 := by
  obtain ⟨cs, rfl, hsz⟩ := okWide_struct ht hv
  obtain ⟨fuel, hf⟩ := h
  obtain ⟨y0, y1, n, _, hl, ha, hb⟩ := trod_struct2 ht hf
  rw [t0, ce, o0] at ha
  rw [t1, ce, o1] at hb
  rw [ct] at hl
  obtain ⟨a, ea, _, wa⟩ := DataW.trod_int he ha
  obtain ⟨b, eb, _, wb⟩ := DataW.trod_int he hb
  obtain ⟨a1, a2⟩ := word_of_wf wa
  obtain ⟨b1, b2⟩ := word_of_wf wb
  simp only [Value.cells] at hl ea eb
  obtain ⟨l⟩ := cs
  match l, hl with
  | [u, v], _ =>
    simp at ea eb
    subst ea; subst eb
    exact ⟨a.toNat, b.toNat, by rw [← a1, ← b1], a2, b2⟩
end
end Go.Proofs.YtiecfamjnnmpaaaGreat
