/- Parts of the proofs, put together: Lg3, LgM, Lg5. -/
import Derived.Deep.AppendSrc
import Derived.Laws.IdiomCopy
import Derived.Laws.IdiomStrings
import Derived.Lib.ConvBytes
import Derived.LoopNIn
import Derived.Deep.RegionWith
import Derived.BigRegion
import Derived.StillTailTactics
import Derived.Test.YtfpmfegmehbfbaaGreatDoorV4
import Derived.Test.YtfpmfegmehbfbaaGreatDoorV10
import Derived.Test.YtfpmfegmehbfbaaGreatDoorV20
/- Logs, walked: New, Merge, Leaves, first. -/
namespace Go.Proofs.YtfpmfegmehbfbaaGreatDoor
set_option linter.unusedVariables false
set_option linter.unusedSimpArgs false
set_option linter.unusedSimpArgs false
open Go.RowKit Go.Shelf Go.Maps
section
variable {w W : World} {g : Nat} {T : TypeId} {a b c d e f : Value}
theorem lst6 (k : Blk W g T #[a, b, c, d, e, f]) : W.cell? ⟨g, 0, none⟩ = some a ∧ W.cell? ⟨g, 1, none⟩ = some b ∧ W.cell? ⟨g, 2, none⟩ = some c ∧ W.cell? ⟨g, 3, none⟩ = some d ∧ W.cell? ⟨g, 4, none⟩ = some e ∧ W.cell? ⟨g, 5, none⟩ = some f ∧
    W.frozen? ⟨g, 0, none⟩ = false ∧ W.frozen? ⟨g, 1, none⟩ = false ∧ W.frozen? ⟨g, 2, none⟩ = false ∧ W.frozen? ⟨g, 3, none⟩ = false ∧ W.frozen? ⟨g, 4, none⟩ = false ∧ W.frozen? ⟨g, 5, none⟩ = false :=
  ⟨k.cell 0, k.cell 1, k.cell 2, k.cell 3, k.cell 4, k.cell 5, k.frozen 0, k.frozen 1, k.frozen 2, k.frozen 3, k.frozen 4, k.frozen 5⟩
theorem lblk6 (k : Blk W g T #[a, b, c, d, e, f]) (a' b' c' d' e' f' : Value) : Blk ((((((W.setCell ⟨g, 0, none⟩ a').setCell ⟨g, 1, none⟩ b').setCell ⟨g, 2, none⟩ c').setCell ⟨g, 3, none⟩ d').setCell ⟨g, 4, none⟩ e').setCell ⟨g, 5, none⟩ f') g T #[a', b', c', d', e', f'] :=
  ((((((k.set_ 0 a').set_ 1 b').set_ 2 c').set_ 3 d').set_ 4 e').set_ 5 f')
theorem lext6 (h : Ext w W) (hg : w.heap.size ≤ g) (a' b' c' d' e' f' : Value) : Ext w ((((((W.setCell ⟨g, 0, none⟩ a').setCell ⟨g, 1, none⟩ b').setCell ⟨g, 2, none⟩ c').setCell ⟨g, 3, none⟩ d').setCell ⟨g, 4, none⟩ e').setCell ⟨g, 5, none⟩ f') :=
  (((((h.setCell (p := ⟨g, 0, none⟩) hg _).setCell (p := ⟨g, 1, none⟩) hg _).setCell (p := ⟨g, 2, none⟩) hg _).setCell (p := ⟨g, 3, none⟩) hg _).setCell (p := ⟨g, 4, none⟩) hg _).setCell (p := ⟨g, 5, none⟩) hg _
end
theorem own_farL {w : World} {base : Nat} {e : TypeId} {size n : Nat} {v : Value} {xs : List Value} (h : w.ownsRow base e size v n xs) {g : Nat} (hg : g < base) (i : Nat) (u : Value) : (w.setCell ⟨g, i, none⟩ u).ownsRow base e size v n xs := by
  refine own_keepL h fun k hk => ?_
  have := (h.lt k hk).1
  exact Below.heap_setCell w ⟨g, i, none⟩ u k (by simp; omega)
theorem own_farL6 {w : World} {base : Nat} {e : TypeId} {size n : Nat} {v : Value} {xs : List Value} (h : w.ownsRow base e size v n xs) {g : Nat} (hg : g < base) (a b c d x y : Value) :
    ((((((w.setCell ⟨g, 0, none⟩ a).setCell ⟨g, 1, none⟩ b).setCell ⟨g, 2, none⟩ c).setCell ⟨g, 3, none⟩ d).setCell ⟨g, 4, none⟩ x).setCell ⟨g, 5, none⟩ y).ownsRow base e size v n xs :=
  own_farL (own_farL (own_farL (own_farL (own_farL (own_farL h hg 0 a) hg 1 b) hg 2 c) hg 3 d) hg 4 x) hg 5 y
/-- A new log. -/
def newL (k : Nat) : LogX := ⟨k, none, [], 0, none, [], 0⟩
theorem newL_ok (w : World) (B : Nat) {k : Nat} (h : oddN k = false) : LogW w B (newL k) :=
  ⟨h, Reads.none_, Nat.le_refl _, Reads.none_, Nat.le_refl _, fun x hx => (by cases hx), good_nil, Nat.zero_le _⟩
set_option maxRecDepth 100000 in
set_option maxHeartbeats 2000000 in
theorem lNew_any (l : List Nat) (hl : ∀ x ∈ l, x < 256) (h : l.length ≤ 1000) (A : Option Addr) (c : Nat) (hc : l.length ≤ c) (w : World) (hr : Reads w w.heap.size 1 A l.length (bv l)) :
    Calls Tryz.prog 47 #[.int .i64 0, .slice A l.length c, .int .i64 20] w fun e w' => e = .returned (.tuple #[logV (newL (secN l)), .int .i64 0]) ∧ Ext w w' := by
  obtain ⟨W0, e0⟩ : ∃ W, w.alloc (.cells #[.int .i64 0, .int .u64 0, .int .i64 0, .slice none 0 0, .slice none 0 0, .slice none 0 0] 29) = W := ⟨_, rfl⟩
  have b0 : Blk W0 w.heap.size 29 #[.int .i64 0, .int .u64 0, .int .i64 0, .slice none 0 0, .slice none 0 0, .slice none 0 0] := by rw [← e0]; exact Blk.new _ _ _
  have x0 : Ext w W0 := by rw [← e0]; exact (Ext.refl w).alloc _
  have c1 := Secret_any l hl h A c hc W0 ((hr.below x0.out).more x0.size)
  have ho : oddN (secN l) = false := oddN_some _ _
  have c2 := fun W => lCheck_any (newL (secN l)) W (newL_ok W _ ho)
  obtain ⟨k, hk⟩ : ∃ k, secN l = k := ⟨_, rfl⟩
  rw [hk] at c1 c2 ⊢
  unfold logV newL at c2 ⊢
  simp only [List.length_nil] at c2 ⊢
  have HB0 := Lib.hid b0
  have HX0 := Lib.hid x0
  clear b0 x0 hl h hc hr hk ho
  go_enter Tryz.func47, Tryz.ntmps47
  go_upto_region 1 with (fail)
  try rw [e0]
  clear e0
  go_upto_region 2 with (go_at_call 34; refine c1.mono ?_; clear c1; rintro e w1 ⟨rfl, x1⟩)
  obtain ⟨W2, e2⟩ : ∃ W, w1.alloc (.cells #[.int .i64 0, .int .u64 (k : Int), .int .i64 20, .slice none 0 0, .slice none 0 0, .slice none 0 0] 29) = W := ⟨_, rfl⟩
  have b2 : Blk W2 w1.heap.size 29 #[.int .i64 0, .int .u64 (k : Int), .int .i64 20, .slice none 0 0, .slice none 0 0, .slice none 0 0] := by rw [← e2]; exact Blk.new _ _ _
  have x2 : Ext W0 W2 := by rw [← e2]; exact x1.alloc _
  try rw [e2]
  obtain ⟨m0, m1, m2, m3, m4, m5, -, -, -, -, -, -⟩ := lst6 b2
  have HB2 := Lib.hid b2
  have HX2 := Lib.hid x2
  clear e2 x1 b2 x2
  go_upto_region 4 with (go_at_call 60; refine (c2 _).mono ?_; clear c2 m0 m1 m2 m3 m4 m5; rintro e w3 ⟨rfl, x3⟩)
  obtain ⟨m0, m1, m2, m3, m4, m5, -, -, -, -, -, -⟩ := lst6 (ext_blk x3 HB2.out)
  have z6 := ext_blk (HX2.out.trans x3) HB0.out
  obtain ⟨v0, v1, v2, v3, v4, v5, f0, f1, f2, f3, f4, f5⟩ := lst6 z6
  have BB := Lib.hid (lblk6 z6 (.int .i64 0) (.int .u64 (k : Int)) (.int .i64 20) (.slice none 0 0) (.slice none 0 0) (.slice none 0 0))
  have XX := Lib.hid (lext6 (HX0.out.trans (HX2.out.trans x3)) (Nat.le_refl _) (.int .i64 0) (.int .u64 (k : Int)) (.int .i64 20) (.slice none 0 0) (.slice none 0 0) (.slice none 0 0))
  clear z6 x3
  go_wp2
  obtain ⟨r0, r1, r2, r3, r4, r5, -⟩ := lst6 BB.out
  refine bodyPost_ret (v := .tuple #[.agg #[.int .i64 0, .int .u64 (k : Int), .int .i64 20, .slice none 0 0, .slice none 0 0, .slice none 0 0], .int .i64 0]) (by simp [results, Tryz.results47, go_sem, r0, r1, r2, r3, r4, r5]) rfl ⟨rfl, XX.out⟩
/-- What a log is that has taken in what waits. -/
def mrgL (d : LogX) (A : Option Addr) (c : Nat) : LogX := ⟨d.key, A, d.all, c, none, [], 0⟩
set_option maxRecDepth 100000 in
set_option maxHeartbeats 2000000 in
theorem lMerge_any (d : LogX) (w : World) (h : LogW w w.heap.size d) :
    Calls Tryz.prog 49 #[logV d] w fun e w' => ∃ A c, e = .returned (.tuple #[logV (mrgL d A c), .int .i64 0]) ∧ LogW w' w'.heap.size (mrgL d A c) ∧ (∀ ad, A = some ad → w.heap.size ≤ ad.block) ∧ Ext w w' := by
  obtain ⟨W0, e0⟩ : ∃ W, (w.alloc (.cells #[.int .i64 0, .int .u64 (d.key : Int), .int .i64 20, .slice d.lA d.ls.length d.lc, .slice none 0 0, .slice d.wA d.ws.length d.wc] 29)).alloc (.cells #[.int .i64 0, .int .u64 0, .int .i64 0, .slice none 0 0, .slice none 0 0, .slice none 0 0] 29) = W := ⟨_, rfl⟩
  have b0 : Blk W0 w.heap.size 29 #[.int .i64 0, .int .u64 (d.key : Int), .int .i64 20, .slice d.lA d.ls.length d.lc, .slice none 0 0, .slice d.wA d.ws.length d.wc] := by rw [← e0]; exact (Blk.new _ _ _).alloc _
  have b1 : Blk W0 (w.heap.size + 1) 29 #[.int .i64 0, .int .u64 0, .int .i64 0, .slice none 0 0, .slice none 0 0, .slice none 0 0] := by
    rw [← e0]
    have := Blk.new (w.alloc (.cells #[.int .i64 0, .int .u64 (d.key : Int), .int .i64 20, .slice d.lA d.ls.length d.lc, .slice none 0 0, .slice d.wA d.ws.length d.wc] 29)) 29 #[.int .i64 0, .int .u64 0, .int .i64 0, .slice none 0 0, .slice none 0 0, .slice none 0 0]
    simpa using this
  have x0 : Ext w W0 := by rw [← e0]; exact ((Ext.refl w).alloc _).alloc _
  have c1 := lCheck_any d W0 (h.ext x0)
  have c2 := fun W (x : Ext w W) => all_any d W (h.ext x)
  unfold logV at c1 c2 ⊢
  unfold mrgL
  simp only [List.length_nil]
  have HB0 := Lib.hid b0
  have HB1 := Lib.hid b1
  have HX0 := Lib.hid x0
  have HW := Lib.hid h
  obtain ⟨m0, m1, m2, m3, m4, m5, -, -, -, -, -, -⟩ := lst6 b0
  clear b0 b1 x0 h
  go_enter Tryz.func49, Tryz.ntmps49
  go_upto_region 1 with (fail)
  try rw [e0]
  clear e0
  go_upto_region 4 with (go_at_call 60; refine c1.mono ?_; clear c1 m0 m1 m2 m3 m4 m5; rintro e w1 ⟨rfl, x1⟩)
  obtain ⟨m0, m1, m2, m3, m4, m5, -, -, -, -, -, -⟩ := lst6 (ext_blk x1 HB0.out)
  have HX1 := Lib.hid x1
  clear x1
  go_wp2_with (go_at_call 123; refine (c2 _ (HX0.out.trans HX1.out)).mono ?_; clear c2 m0 m1 m2 m3 m4 m5; rintro e w2 ⟨A2, c2, rfl, hc2, hr2, x2, o2⟩; have z0 := ext_blk (HX1.out.trans x2) HB0.out; have z1 := ext_blk (HX1.out.trans x2) HB1.out; obtain ⟨m0, m1, m2, m3, m4, m5, p0, p1, p2, p3, p4, p5⟩ := lst6 z0; obtain ⟨n0, n1, n2, n3, n4, n5, f0, f1, f2, f3, f4, f5⟩ := lst6 z1)
  have hx := HX0.out.trans (HX1.out.trans x2)
  have BB := Lib.hid (lblk6 ((z1.far (p := ⟨w.heap.size, 3, none⟩) (by simp) (.slice A2 d.all.length c2)).far (p := ⟨w.heap.size, 5, none⟩) (by simp) (.slice none 0 0)) (.int .i64 0) (.int .u64 (d.key : Int)) (.int .i64 20) (.slice A2 d.all.length c2) (.slice none 0 0) (.slice none 0 0))
  have XX := Lib.hid (lext6 ((hx.setCell (p := ⟨w.heap.size, 3, none⟩) (Nat.le_refl _) (.slice A2 d.all.length c2)).setCell (p := ⟨w.heap.size, 5, none⟩) (Nat.le_refl _) (.slice none 0 0)) (Nat.le_succ _) (.int .i64 0) (.int .u64 (d.key : Int)) (.int .i64 20) (.slice A2 d.all.length c2) (.slice none 0 0) (.slice none 0 0))
  have hs1 := HX0.out.trans HX1.out
  have hz : w.heap.size + 2 ≤ w1.heap.size := by have := HB1.out.lt; have := HX1.out.size; omega
  have OO := own_farL6 (own_farL (own_farL o2 (show w.heap.size < w1.heap.size by omega) 3 (.slice A2 d.all.length c2)) (show w.heap.size < w1.heap.size by omega) 5 (.slice none 0 0)) (show w.heap.size + 1 < w1.heap.size by omega) (.int .i64 0) (.int .u64 (d.key : Int)) (.int .i64 20) (.slice A2 d.all.length c2) (.slice none 0 0) (.slice none 0 0)
  obtain ⟨r0, r1, r2, r3, r4, r5, -⟩ := lst6 BB.out
  refine bodyPost_ret (v := .tuple #[.agg #[.int .i64 0, .int .u64 (d.key : Int), .int .i64 20, .slice A2 d.all.length c2, .slice none 0 0, .slice none 0 0], .int .i64 0]) (by simp [results, Tryz.results49, go_sem, r0, r1, r2, r3, r4, r5]) rfl ⟨A2, c2, rfl, ⟨HW.out.odd, Reads.of_own OO, hc2, Reads.none_, Nat.le_refl _, ?_, ?_, ?_⟩, fun ad e => by subst e; exact Nat.le_trans hs1.size (own_ge OO ad.block rfl), XX.out⟩
  · show EntsW _ _ (d.all ++ [])
    rw [List.append_nil]
    exact (HW.out.el.below XX.out.out).more XX.out.size
  · show GoodE ((d.all ++ []).map EntX.ent)
    rw [List.append_nil]
    exact HW.out.good
  · show (d.all ++ []).length ≤ 30
    rw [List.append_nil]
    exact HW.out.few
end Go.Proofs.YtfpmfegmehbfbaaGreatDoor

/- Logs, walked: eight bytes of a number; a word, and parts behind it. -/
namespace Go.Proofs.YtfpmfegmehbfbaaGreatDoor
set_option linter.unusedVariables false
set_option linter.unusedSimpArgs false
set_option linter.unusedSimpArgs false
open Go.RowKit Go.Shelf Go.Maps

theorem below_cells {B b : Nat} {a : World} (hb : B ≤ b) : ∀ (vs : List Value) (o : Nat) (w : World), Below B a w → Below B a (w.setCells b o vs)
  | [], _, _, h => h
  | v :: vs, o, w, h => below_cells hb vs (o + 1) _ (h.setCell (p := ⟨b, o, none⟩) hb v)
theorem size_cells (b : Nat) : ∀ (vs : List Value) (o : Nat) (w : World), (w.setCells b o vs).heap.size = w.heap.size
  | [], _, _ => rfl
  | v :: vs, o, w => by
    show ((w.setCell ⟨b, o, none⟩ v).setCells b (o + 1) vs).heap.size = _
    rw [size_cells b vs (o + 1)]; simp
theorem bv_one' (l : List Nat) : ∀ u ∈ bv l, u.oneCell' = true := by
  intro u hu
  obtain ⟨a, _, rfl⟩ := List.mem_map.1 hu
  rfl
theorem bv_len (l : List Nat) : (bv l).length = l.length := by simp [bv]
set_option maxHeartbeats 1000000 in
/-- 'append' behind the bytes of a text that were just made. -/
theorem run_append_conv (w : World) (ty : TypeId) (l l' : List Nat) (h1 : l.length ≤ 1000) (h2 : l'.length ≤ 1000) (h0 : 0 < l'.length) (A' : Option Addr) (c' : Nat) (hr : Reads w w.heap.size 1 A' l'.length (bv l')) (g cap : Nat) (cs : Array Value)
    (hg : w.heap[g]? = some (.cells cs 5 (cs.size, cs.size + 1))) (hcap : cs.size = cap) (hcl : l.length ≤ cap) (hcells : ∀ j, j < l.length → cs[j]? = (bv l)[j]?) :
    ∃ A c w', (Builtin.append_ #[22, 22] ty #[.slice (some ⟨g, 0, none⟩) l.length cap, .slice A' l'.length c']).run Tryz.prog w = .ok (.slice A (l ++ l').length c) w' ∧ (l ++ l').length ≤ c ∧ Reads w' w'.heap.size 1 A (l ++ l').length (bv (l ++ l')) ∧ Below g w w' := by
  obtain ⟨i0, hi, hz0, hz1, hz2⟩ := info_parts Tryz.infoCB
  obtain ⟨ad, rfl, -, hn⟩ := hr.2 h0
  have hS : Src Tryz.prog i0.size 22 (.slice (some ad) l'.length c') l'.length (bv l') w := by
    rw [hz1]
    exact Src.ofSlice w Tryz.underlying22 ad l'.length c' (bv l') (by rw [bv_len, Nat.mul_one]) hn (bv_one' l')
  have hcell : ∀ j, w.cell? ⟨g, j, none⟩ = cs[j]? := fun j => cell_of_row w g j cs 5 _ hg
  have hgl : g < w.heap.size := by
    rcases Nat.lt_or_ge g w.heap.size with h | h
    · exact h
    · rw [Array.getElem?_eq_none h] at hg; cases hg
  have hb : bv (l ++ l') = bv l ++ bv l' := by simp [bv]
  by_cases hroom : l.length + l'.length ≤ cap
  · have hrun : (Builtin.append_ #[22, 22] ty #[.slice (some ⟨g, 0, none⟩) l.length cap, .slice (some ad) l'.length c']).run Tryz.prog w = .ok (.slice (some ⟨g, 0, none⟩) (l ++ l').length cap) (w.setCells g (0 + l.length * i0.size) (bv l')) := by
      rw [List.length_append]
      have := run_append_room_src (P := Tryz.prog) w 22 22 ty 5 i0 Tryz.underlying22 hi g 0 l.length cap (.slice (some ad) l'.length c') l'.length (bv l') hS hroom
        (fun j hj => by rw [hcell, hz1]; rw [bv_len] at hj; rw [Array.getElem?_eq_getElem (by omega)]; rfl)
        (fun j hj => by
          rw [bv_len] at hj
          unfold World.frozen?
          rw [hg, hz1]
          simp only [Bool.and_eq_false_iff, decide_eq_false_iff_not]
          exact .inl (by omega))
      exact this
    refine ⟨_, _, _, hrun, ?_, ?_, ?_⟩
    · rw [List.length_append]; exact hroom
    · rw [hz1]
      refine ⟨by rw [bv_len, Nat.mul_one], fun _ => ⟨_, rfl, by rw [size_cells]; exact hgl, fun j u hj => ?_⟩⟩
      have e : (⟨g, 0, none⟩ : Addr).add j = ⟨g, j, none⟩ := by simp [Addr.add]; exact fun h => h.symm
      rw [e]
      rw [hb] at hj
      by_cases hj1 : j < l.length
      · rw [World.cell?_setCells_out g _ _ _ _ (fun _ _ => .inl (by simp; omega)), hcell, hcells j hj1]
        rwa [List.getElem?_append_left (by rw [bv_len]; exact hj1)] at hj
      · rw [List.getElem?_append_right (by rw [bv_len]; omega), bv_len] at hj
        have hj2 : j - l.length < (bv l').length := (List.getElem?_eq_some_iff.1 hj).1
        have := World.cell?_setCells_in g (bv l') (0 + l.length * 1) w (fun k hk => by rw [hcell]; rw [bv_len] at hk; rw [Array.getElem?_eq_getElem (by omega)]; rfl) (j - l.length) hj2
        rw [show 0 + l.length * 1 + (j - l.length) = j by omega] at this
        rw [this, ← hj, List.getElem?_eq_getElem hj2]
    · exact below_cells (Nat.le_refl _) _ _ _ (Below.refl _ _)
  · have hold : (Builtin.firstCells i0.size l.length (.slice (some ⟨g, 0, none⟩) l.length cap)).run Tryz.prog w.drew = .ok (bv l).toArray w.drew := by
      rw [hz1]
      refine run_firstCells_some w.drew 1 l.length ⟨g, 0, none⟩ l.length cap (bv l) (by rw [bv_len, Nat.mul_one]) (fun j u hj => ?_)
      have e : (⟨g, 0, none⟩ : Addr).add j = ⟨g, j, none⟩ := by simp [Addr.add]; exact fun h => h.symm
      rw [e]
      show w.cell? _ = _
      rw [hcell, hcells j (by have := (List.getElem?_eq_some_iff.1 hj).1; rwa [bv_len] at this)]
      exact hj
    have hrun : (Builtin.append_ #[22, 22] ty #[.slice (some ⟨g, 0, none⟩) l.length cap, .slice (some ad) l'.length c']).run Tryz.prog w = .ok (.slice (some ⟨w.heap.size, 0, none⟩) (l ++ l').length (grownCap w (l.length + l'.length) cap 5))
        (w.drew.alloc (.cells ((bv l ++ bv l').toArray ++ Builtin.zeroCells (Value.int .u8 0).cells (grownCap w (l.length + l'.length) cap 5 - (l.length + l'.length))) 5)) := by
      rw [List.length_append]
      exact run_append_grow_src (P := Tryz.prog) w 22 22 ty 5 i0 _ Tryz.underlying22 hi hz0 (some ⟨g, 0, none⟩) l.length cap (bv l) hold (.slice (some ad) l'.length c') l'.length (bv l') hS (by omega) (by omega) (by rw [hz2]; exact growslice_fits (by omega) (by omega))
    refine ⟨_, _, _, hrun, ?_, ?_, ?_⟩
    · rw [List.length_append]; exact grownCap_ge w _ _ _
    · rw [hb]
      refine ⟨by rw [List.length_append, List.length_append, bv_len, bv_len, Nat.mul_one], fun _ => ⟨_, rfl, by simp, fun j u hj => ?_⟩⟩
      have e : (⟨w.heap.size, 0, none⟩ : Addr).add j = ⟨w.heap.size, j, none⟩ := by simp [Addr.add]; exact fun h => h.symm
      rw [e]
      have hjl := (List.getElem?_eq_some_iff.1 hj).1
      have := (Blk.new w.drew 5 ((bv l ++ bv l').toArray ++ Builtin.zeroCells (Value.int .u8 0).cells (grownCap w (l.length + l'.length) cap 5 - (l.length + l'.length)))).cell j
      rw [show w.drew.heap.size = w.heap.size from rfl] at this
      rw [this, Array.getElem?_append_left (by simpa using hjl)]
      simpa using hj
    · exact ((Below.refl g w).drew).alloc (Nat.le_of_lt hgl) _
theorem wpList_append_run {P : Program} {w w' : World} {ops : Array Oper} {rest : List Oper} {o : Oper} {a : Act} {Q : Exit → Act → World → Prop} {v u v' : Value} (hgd : o.guard = none) (s x : Operand) (t : TypeId)
    (ho : o.op = .call { callee := .builtin .append, args := #[s, x], argTypes := #[t, t] }) (hs : a.eval s = v) (hx : a.eval x = u) (hrun : (Builtin.append_ #[t, t] o.type #[v, u]).run P w = .ok v' w') (h : wpList P ops Q rest (a.put o.dst v') w') : wpList P ops Q (o :: rest) a w := by
  refine wpList_plain hgd fun _ hK => ?_
  unfold Oper.wp execOp
  simp only [ho, resolve, invoke, builtin, Sem.run_bind, Sem.run_pure, Result.andThen_ok, List.map_toArray, List.map_cons, List.map_nil, hs, hx, hrun]
  exact hK _ _ h
set_option maxRecDepth 100000 in
set_option maxHeartbeats 1000000 in
theorem leight_any (n : Nat) (hn : n ≤ 1000) (w : World) :
    Calls Tryz.prog 130 #[.int .i64 n] w fun e w' => ∃ A, e = .returned (.slice A 8 8) ∧ Reads w' w'.heap.size 1 A 8 (bv (be n 8)) ∧ Ext w w' := by
  rw [be8, show n / 72057594037927936 % 256 = n / 72057594037927936 by omega, show n / 281474976710656 % 256 = n / 281474976710656 by omega, show n / 1099511627776 % 256 = n / 1099511627776 by omega, show n / 4294967296 % 256 = n / 4294967296 by omega,
    show n / 16777216 % 256 = n / 16777216 by omega, show n / 65536 % 256 = n / 65536 by omega, show n / 256 % 256 = n / 256 by omega]
  have hnb : (n : Int) ≤ 1000 := by omega
  go_enter Tryz.func130, Tryz.ntmps130
  go_wp2
  refine wp_loop_rounds 9 ?_
  rw [rounds_succ]
  go_wp2
  rw [rounds_succ]
  go_wp2
  rw [rounds_succ]
  go_wp2
  rw [rounds_succ]
  go_wp2
  rw [rounds_succ]
  go_wp2
  rw [rounds_succ]
  go_wp2
  rw [rounds_succ]
  go_wp2
  rw [rounds_succ]
  go_wp2
  rw [rounds_succ]
  go_wp2
  go_ret
  have hb := Blk.new w 198 #[.int .u8 ((n : Int) / 72057594037927936), .int .u8 ((n : Int) / 281474976710656), .int .u8 ((n : Int) / 1099511627776), .int .u8 ((n : Int) / 4294967296), .int .u8 ((n : Int) / 16777216), .int .u8 ((n : Int) / 65536), .int .u8 ((n : Int) / 256), .int .u8 ((n : Int) % 256)]
  have hr := blk_reads hb
  exact ⟨_, rfl, by simpa [bv] using hr, (Ext.refl w).alloc _⟩
/-- Bytes: where, how much room, which. -/
structure BpX where
  A : Option Addr
  c : Nat
  l : List Nat
def BpX.pc (q : BpX) : PcX := ⟨q.A, q.l.length, q.c, bv q.l⟩
def bpF (qs : List BpX) : List Nat := qs.flatMap (·.l)
theorem bp_n (qs : List BpX) : pcN (qs.map BpX.pc) = (bpF qs).length := by
  induction qs with
  | nil => rfl
  | cons q qs ih => simp [pcN, bpF, BpX.pc] at ih ⊢; omega
theorem bp_l (qs : List BpX) : pcL (qs.map BpX.pc) = bv (bpF qs) := by
  induction qs with
  | nil => rfl
  | cons q qs ih => simp [pcL, bpF, BpX.pc, bv] at ih ⊢; exact ih
theorem ext_conv (w : World) (e : TypeId) (s : ByteArray) : Ext w (Lib.bytesWorld w e s) :=
  Ext.of ⟨rfl, rfl, rfl, by rw [Lib.bytesWorld_size]; omega, fun k hk => Lib.bytesWorld_at_old w e s k hk⟩
theorem strN_at (s : ByteArray) (j : Nat) (h : j < (strN s).length) : (s.data.map fun b => Value.int .u8 b.toNat)[j]? = (bv (strN s))[j]? := by
  simp [bv, strN]
  rfl
set_option maxRecDepth 100000 in
set_option maxHeartbeats 2000000 in
theorem lmsg_any (word : ByteArray) (hw : (strN word).length ≤ 100) (qs : List BpX) (hq : qs.length ≤ 100) (hb : (bpF qs).length ≤ 1000) (hb0 : 0 < (bpF qs).length) (P : Option Addr) (c : Nat) (w : World) (hr : Reads w w.heap.size 1 P qs.length (pcV (qs.map BpX.pc)))
    (hp : ∀ q ∈ qs, Reads w w.heap.size 1 q.A q.l.length (bv q.l)) :
    Calls Tryz.prog 129 #[.string word, .slice P qs.length c] w fun e w' => ∃ A c', e = .returned (.slice A (strN word ++ bpF qs).length c') ∧ (strN word ++ bpF qs).length ≤ c' ∧ Reads w' w'.heap.size 1 A (strN word ++ bpF qs).length (bv (strN word ++ bpF qs)) ∧ Ext w w' := by
  have hcv := Lib.run_convert_string_bytes (P := Tryz.prog) w 9 22 5 word Tryz.underlying9 Tryz.underlying22 Tryz.underlying5
  have x1 := ext_conv w 5 word
  have hn := Lib.bytesWorld_at_new w 5 word
  obtain ⟨w1, hw1⟩ : ∃ w1, Lib.bytesWorld w 5 word = w1 := ⟨_, rfl⟩
  obtain ⟨cs, hcs⟩ : ∃ cs, Lib.bytesCells w 5 word = cs := ⟨_, rfl⟩
  obtain ⟨cap, hcap⟩ : ∃ cap, grownCap w word.size 0 5 = cap := ⟨_, rfl⟩
  have hwl : (strN word).length = word.size := strN_length word
  have hge : word.size ≤ cap := by rw [← hcap]; exact grownCap_ge w _ _ _
  have hsz : cs.size = cap := by
    rw [← hcs, ← hcap]
    have : word.data.size = word.size := rfl
    simp only [Lib.bytesCells, Array.size_append, Array.size_map, Array.size_replicate, this]
    have := grownCap_ge w word.size 0 5
    omega
  have hcl : ∀ j, j < (strN word).length → cs[j]? = (bv (strN word))[j]? := fun j hj => by
    rw [← hcs]
    unfold Lib.bytesCells
    rw [Array.getElem?_append_left (by have : word.data.size = word.size := rfl; simp [this]; omega)]
    exact strN_at word j hj
  rw [hw1] at hcv x1 hn
  rw [hcs] at hn
  rw [hcap] at hcv
  rw [← hwl] at hcv hge
  have cC := catB_any (qs.map BpX.pc) (by rw [List.length_map]; exact hq) (by rw [bp_n]; omega) P c w1 (by rw [List.length_map]; exact (hr.below x1.out).more x1.size)
    (fun p hpm => by
      obtain ⟨q, hqm, rfl⟩ := List.mem_map.1 hpm
      exact ⟨((hp q hqm).below x1.out).more x1.size, bv_one' _⟩)
  rw [List.length_map, bp_n, bp_l] at cC
  obtain ⟨F, hF⟩ : ∃ F, bpF qs = F := ⟨_, rfl⟩
  obtain ⟨Wd, hWd⟩ : ∃ F, strN word = F := ⟨_, rfl⟩
  rw [hF] at cC hb hb0 ⊢
  rw [hWd] at hcv hcl hge hw ⊢
  have HX1 := Lib.hid x1
  have HN := Lib.hid hn
  have HF : Hid (cs.size = cap ∧ Wd.length ≤ cap ∧ (∀ j, j < Wd.length → cs[j]? = (bv Wd)[j]?) ∧ F.length ≤ 1000 ∧ 0 < F.length ∧ Wd.length ≤ 100) := Lib.hid ⟨hsz, hge, hcl, hb, hb0, hw⟩
  have HGL : Hid (w.heap.size < w1.heap.size) := Lib.hid (by rw [← hw1, Lib.bytesWorld_size]; omega)
  clear x1 hn hsz hge hcl hb hb0 hr hp hq hF hWd hwl hw1 hcs hcap hw
  go_enter Tryz.func129, Tryz.ntmps129
  go_wp2_with (first
    | (go_at_call 61; refine cC.mono ?_; clear cC hcv; rintro e w2 ⟨v2, rfl, o2, x2⟩; obtain ⟨A2, c2, rfl, hc2, hr2⟩ := own_slice2 o2; have hF := HF.out; obtain ⟨A3, c3, w3, hrun, hc3, hr3, hb3⟩ := run_append_conv w2 22 Wd F (by omega) hF.2.2.2.1 hF.2.2.2.2.1 A2 c2 hr2 w.heap.size cap cs ((x2.out.block _ HGL.out).trans HN.out) hF.1 hF.2.1 hF.2.2.1; have HR3 : Hid ((Wd ++ F).length ≤ c3 ∧ Reads w3 w3.heap.size 1 A3 (Wd ++ F).length (bv (Wd ++ F)) ∧ Ext w w3) := Lib.hid ⟨hc3, hr3, (HX1.out.trans x2).out.trans hb3⟩; clear o2 hr2 hF hc3 hr3 hb3 x2)
    | (at_builtin; refine wpList_append_run rfl (.tmp 6) (.tmp 8) 22 rfl rfl rfl hrun ?_; clear hrun))
  go_ret
  exact ⟨A3, c3, by rw [List.length_append]; rfl, HR3.out⟩
end Go.Proofs.YtfpmfegmehbfbaaGreatDoor

/- Logs, walked: what is signed of a promise, of a head. -/
namespace Go.Proofs.YtfpmfegmehbfbaaGreatDoor
set_option linter.unusedVariables false
set_option linter.unusedSimpArgs false
set_option linter.unusedSimpArgs false
open Go.RowKit Go.Shelf Go.Maps

def promS : ByteArray := { data := #[112, 114, 111, 109, 105, 115, 101] }
def headS : ByteArray := { data := #[104, 101, 97, 100] }
def promL (t : Nat) (s : Nat × Nat) : List Nat := strN promS ++ (be 0 8 ++ (be t 8 ++ (bytes2 s.1 s.2 ++ [])))
def headL (n t : Nat) (s : Nat × Nat) : List Nat := strN headS ++ (be 0 8 ++ (be n 8 ++ (bytes2 s.1 s.2 ++ (be t 8 ++ []))))
theorem promL_len (t : Nat) (s : Nat × Nat) : (promL t s).length = 39 := by
  have : (strN promS).length = 7 := by decide
  simp [promL, be_length, bytes2_length, this]
theorem headL_len (n t : Nat) (s : Nat × Nat) : (headL n t s).length = 44 := by
  have : (strN headS).length = 4 := by decide
  simp [headL, be_length, bytes2_length, this]
theorem promL_lt (t : Nat) (s : Nat × Nat) : ∀ x ∈ promL t s, x < 256 := by
  intro x hx
  simp only [promL, List.mem_append, List.not_mem_nil, or_false] at hx
  rcases hx with h | h | h | h
  · have : ∀ y ∈ strN promS, y < 256 := by decide
    exact this x h
  · exact be_lt _ _ x h
  · exact be_lt _ _ x h
  · exact bytes2_lt _ _ x h
theorem headL_lt (n t : Nat) (s : Nat × Nat) : ∀ x ∈ headL n t s, x < 256 := by
  intro x hx
  simp only [headL, List.mem_append, List.not_mem_nil, or_false] at hx
  rcases hx with h | h | h | h | h
  · have : ∀ y ∈ strN headS, y < 256 := by decide
    exact this x h
  · exact be_lt _ _ x h
  · exact be_lt _ _ x h
  · exact bytes2_lt _ _ x h
  · exact be_lt _ _ x h

theorem msg_ofProm (t : Nat) (s : Nat × Nat) (ht : t ≤ 1000) (W : World) (A0 A1 A2 : Option Addr) (k2 : Nat) (r0 : Reads W W.heap.size 1 A0 8 (bv (be 0 8))) (r1 : Reads W W.heap.size 1 A1 8 (bv (be t 8))) (r2 : Reads W W.heap.size 1 A2 16 (bv (bytes2 s.1 s.2))) :
    Calls Tryz.prog 129 #[.string promS, .slice (some ⟨W.heap.size, 0, none⟩) 3 3] (W.alloc (.cells #[.slice A0 8 8, .slice A1 8 8, .slice A2 16 k2] 22)) fun e w' => ∃ A c', e = .returned (.slice A (promL t s).length c') ∧ (promL t s).length ≤ c' ∧ Reads w' w'.heap.size 1 A (promL t s).length (bv (promL t s)) ∧ Ext (W.alloc (.cells #[.slice A0 8 8, .slice A1 8 8, .slice A2 16 k2] 22)) w' := by
  have hw : (strN promS).length ≤ 100 := by decide
  have xw : Ext W (W.alloc (.cells #[.slice A0 8 8, .slice A1 8 8, .slice A2 16 k2] 22)) := (Ext.refl W).alloc _
  have hF : bpF [⟨A0, 8, be 0 8⟩, ⟨A1, 8, be t 8⟩, ⟨A2, k2, bytes2 s.1 s.2⟩] = be 0 8 ++ (be t 8 ++ (bytes2 s.1 s.2 ++ [])) := rfl
  have hl : (bpF [⟨A0, 8, be 0 8⟩, ⟨A1, 8, be t 8⟩, ⟨A2, k2, bytes2 s.1 s.2⟩]).length = 32 := by rw [hF]; simp [be_length, bytes2_length]
  exact lmsg_any promS hw [⟨A0, 8, be 0 8⟩, ⟨A1, 8, be t 8⟩, ⟨A2, k2, bytes2 s.1 s.2⟩] (by simp) (by rw [hl]; decide) (by rw [hl]; decide) (some ⟨W.heap.size, 0, none⟩) 3 (W.alloc (.cells #[.slice A0 8 8, .slice A1 8 8, .slice A2 16 k2] 22))
    (by
      have := blk_reads (Blk.new W 22 #[.slice A0 8 8, .slice A1 8 8, .slice A2 16 k2])
      simpa [pcV, BpX.pc, be_length, bytes2_length] using this)
    (fun q hq => by
      simp only [List.mem_cons, List.not_mem_nil, or_false] at hq
      rcases hq with rfl | rfl | rfl
      · have := (r0.below xw.out).more xw.size; simpa [be_length, bytes2_length] using this
      · have := (r1.below xw.out).more xw.size; simpa [be_length, bytes2_length] using this
      · have := (r2.below xw.out).more xw.size; simpa [be_length, bytes2_length] using this)
set_option maxRecDepth 100000 in
set_option maxHeartbeats 4000000 in
theorem ofProm_any (t : Nat) (s : Nat × Nat) (ht : t ≤ 1000) (e1 e2 : Value) (w : World) :
    Calls Tryz.prog 67 #[.agg #[.int .i64 0, .int .i64 (t : Int), .int .u64 (s.1 : Int), .int .u64 (s.2 : Int), e1, e2]] w fun e w' => ∃ A c', e = .returned (.slice A (promL t s).length c') ∧ (promL t s).length ≤ c' ∧ Reads w' w'.heap.size 1 A (promL t s).length (bv (promL t s)) ∧ Ext w w' := by
  obtain ⟨W0, e0⟩ : ∃ W, w.alloc (.cells #[.int .i64 0, .int .i64 (t : Int), .int .u64 (s.1 : Int), .int .u64 (s.2 : Int), e1, e2] 55) = W := ⟨_, rfl⟩
  have b0 : Blk W0 w.heap.size 55 #[.int .i64 0, .int .i64 (t : Int), .int .u64 (s.1 : Int), .int .u64 (s.2 : Int), e1, e2] := by rw [← e0]; exact Blk.new _ _ _
  have x0 : Ext w W0 := by rw [← e0]; exact (Ext.refl w).alloc _
  have m0 := b0.cell 0; have m1 := b0.cell 1; have m2 := b0.cell 2; have m3 := b0.cell 3
  have c0 : ∀ W, Calls Tryz.prog 130 #[.int .i64 0] W _ := fun W => leight_any 0 (by omega) W
  have c1 : ∀ W, Calls Tryz.prog 130 #[.int .i64 (t : Nat)] W _ := fun W => leight_any t (by omega) W
  have c2 := fun W => bytes_any s.1 s.2 W
  have cM := msg_ofProm t s ht
  obtain ⟨F, hF⟩ : ∃ F, (promL t s) = F := ⟨_, rfl⟩
  rw [hF] at cM ⊢
  have HB := Lib.hid b0
  have HX := Lib.hid x0
  clear b0 x0 hF
  go_enter Tryz.func67, Tryz.ntmps67
  go_upto_region 1 with (fail)
  try rw [e0]
  clear e0
  go_region_held3 (fun w' => w'.cell? ⟨w.heap.size, 0, none⟩ = some (.int .i64 0) ∧ w'.cell? ⟨w.heap.size, 1, none⟩ = some (.int .i64 (t : Int)) ∧ w'.cell? ⟨w.heap.size, 2, none⟩ = some (.int .u64 (s.1 : Int)) ∧ w'.cell? ⟨w.heap.size, 3, none⟩ = some (.int .u64 (s.2 : Int))) (go_keep) (first
    | (go_at_call 130; (with_reducible refine (c0 _).mono ?_); clear c0; rintro e w0 ⟨A0, rfl, r0, x0⟩; have z0 := Lib.hid (ext_blk x0 (by first | exact HB.out | exact HB.out.drew)); have q0_0 := z0.out.cell 0; have q0_1 := z0.out.cell 1; have q0_2 := z0.out.cell 2; have q0_3 := z0.out.cell 3)
    | (go_at_call 130; (with_reducible refine (c1 _).mono ?_); clear c1; rintro e w1 ⟨A1, rfl, r1, x1⟩; have z1 := Lib.hid (ext_blk x1 (by first | exact z0.out | exact z0.out.drew)); have q1_0 := z1.out.cell 0; have q1_1 := z1.out.cell 1; have q1_2 := z1.out.cell 2; have q1_3 := z1.out.cell 3)
    | (go_at_call 131; refine (c2 _).mono ?_; clear c2; rintro e w2 ⟨v2, rfl, o2, x2⟩; obtain ⟨A2, k2, rfl, hk2, r2⟩ := own_slice o2; clear o2; have z2 := Lib.hid (ext_blk x2 (by first | exact z1.out | exact z1.out.drew)); have q2_0 := z2.out.cell 0; have q2_1 := z2.out.cell 1; have q2_2 := z2.out.cell 2; have q2_3 := z2.out.cell 3)
    | (go_at_call 129; refine (cM w2 A0 A1 A2 k2 (((((r0).below x1.out).more x1.size).below x2.out).more x2.size) (((r1).below x2.out).more x2.size) (r2)).mono ?_; clear cM; rintro e w9 ⟨A9, c9, rfl, hc9, r9, x9⟩; have z9 := Lib.hid (ext_blk x9 (z2.out.alloc _)); have q9_0 := z9.out.cell 0; have q9_1 := z9.out.cell 1; have q9_2 := z9.out.cell 2; have q9_3 := z9.out.cell 3))
  all_goals go_wp2
  all_goals (
    go_ret
    exact ⟨A9, c9, rfl, hc9, r9, (((((HX.out.drew).trans x0).trans x1).trans x2).alloc _).trans x9⟩)

theorem msg_ofHead (n t : Nat) (s : Nat × Nat) (hn : n ≤ 1000) (ht : t ≤ 1000) (W : World) (A0 A1 A2 A3 : Option Addr) (k2 : Nat) (r0 : Reads W W.heap.size 1 A0 8 (bv (be 0 8))) (r1 : Reads W W.heap.size 1 A1 8 (bv (be n 8))) (r2 : Reads W W.heap.size 1 A2 16 (bv (bytes2 s.1 s.2))) (r3 : Reads W W.heap.size 1 A3 8 (bv (be t 8))) :
    Calls Tryz.prog 129 #[.string headS, .slice (some ⟨W.heap.size, 0, none⟩) 4 4] (W.alloc (.cells #[.slice A0 8 8, .slice A1 8 8, .slice A2 16 k2, .slice A3 8 8] 22)) fun e w' => ∃ A c', e = .returned (.slice A (headL n t s).length c') ∧ (headL n t s).length ≤ c' ∧ Reads w' w'.heap.size 1 A (headL n t s).length (bv (headL n t s)) ∧ Ext (W.alloc (.cells #[.slice A0 8 8, .slice A1 8 8, .slice A2 16 k2, .slice A3 8 8] 22)) w' := by
  have hw : (strN headS).length ≤ 100 := by decide
  have xw : Ext W (W.alloc (.cells #[.slice A0 8 8, .slice A1 8 8, .slice A2 16 k2, .slice A3 8 8] 22)) := (Ext.refl W).alloc _
  have hF : bpF [⟨A0, 8, be 0 8⟩, ⟨A1, 8, be n 8⟩, ⟨A2, k2, bytes2 s.1 s.2⟩, ⟨A3, 8, be t 8⟩] = be 0 8 ++ (be n 8 ++ (bytes2 s.1 s.2 ++ (be t 8 ++ []))) := rfl
  have hl : (bpF [⟨A0, 8, be 0 8⟩, ⟨A1, 8, be n 8⟩, ⟨A2, k2, bytes2 s.1 s.2⟩, ⟨A3, 8, be t 8⟩]).length = 40 := by rw [hF]; simp [be_length, bytes2_length]
  exact lmsg_any headS hw [⟨A0, 8, be 0 8⟩, ⟨A1, 8, be n 8⟩, ⟨A2, k2, bytes2 s.1 s.2⟩, ⟨A3, 8, be t 8⟩] (by simp) (by rw [hl]; decide) (by rw [hl]; decide) (some ⟨W.heap.size, 0, none⟩) 4 (W.alloc (.cells #[.slice A0 8 8, .slice A1 8 8, .slice A2 16 k2, .slice A3 8 8] 22))
    (by
      have := blk_reads (Blk.new W 22 #[.slice A0 8 8, .slice A1 8 8, .slice A2 16 k2, .slice A3 8 8])
      simpa [pcV, BpX.pc, be_length, bytes2_length] using this)
    (fun q hq => by
      simp only [List.mem_cons, List.not_mem_nil, or_false] at hq
      rcases hq with rfl | rfl | rfl | rfl
      · have := (r0.below xw.out).more xw.size; simpa [be_length, bytes2_length] using this
      · have := (r1.below xw.out).more xw.size; simpa [be_length, bytes2_length] using this
      · have := (r2.below xw.out).more xw.size; simpa [be_length, bytes2_length] using this
      · have := (r3.below xw.out).more xw.size; simpa [be_length, bytes2_length] using this)
set_option maxRecDepth 100000 in
set_option maxHeartbeats 4000000 in
theorem ofHead_any (n t : Nat) (s : Nat × Nat) (hn : n ≤ 1000) (ht : t ≤ 1000) (e1 e2 : Value) (w : World) :
    Calls Tryz.prog 52 #[.agg #[.int .i64 0, .int .i64 (n : Int), .int .u64 (s.1 : Int), .int .u64 (s.2 : Int), .int .i64 (t : Int), e1, e2]] w fun e w' => ∃ A c', e = .returned (.slice A (headL n t s).length c') ∧ (headL n t s).length ≤ c' ∧ Reads w' w'.heap.size 1 A (headL n t s).length (bv (headL n t s)) ∧ Ext w w' := by
  obtain ⟨W0, e0⟩ : ∃ W, w.alloc (.cells #[.int .i64 0, .int .i64 (n : Int), .int .u64 (s.1 : Int), .int .u64 (s.2 : Int), .int .i64 (t : Int), e1, e2] 38) = W := ⟨_, rfl⟩
  have b0 : Blk W0 w.heap.size 38 #[.int .i64 0, .int .i64 (n : Int), .int .u64 (s.1 : Int), .int .u64 (s.2 : Int), .int .i64 (t : Int), e1, e2] := by rw [← e0]; exact Blk.new _ _ _
  have x0 : Ext w W0 := by rw [← e0]; exact (Ext.refl w).alloc _
  have m0 := b0.cell 0; have m1 := b0.cell 1; have m2 := b0.cell 2; have m3 := b0.cell 3; have m4 := b0.cell 4
  have c0 : ∀ W, Calls Tryz.prog 130 #[.int .i64 0] W _ := fun W => leight_any 0 (by omega) W
  have c1 : ∀ W, Calls Tryz.prog 130 #[.int .i64 (n : Nat)] W _ := fun W => leight_any n (by omega) W
  have c2 := fun W => bytes_any s.1 s.2 W
  have c3 : ∀ W, Calls Tryz.prog 130 #[.int .i64 (t : Nat)] W _ := fun W => leight_any t (by omega) W
  have cM := msg_ofHead n t s hn ht
  obtain ⟨F, hF⟩ : ∃ F, (headL n t s) = F := ⟨_, rfl⟩
  rw [hF] at cM ⊢
  have HB := Lib.hid b0
  have HX := Lib.hid x0
  clear b0 x0 hF
  go_enter Tryz.func52, Tryz.ntmps52
  go_upto_region 1 with (fail)
  try rw [e0]
  clear e0
  go_region_held3 (fun w' => w'.cell? ⟨w.heap.size, 0, none⟩ = some (.int .i64 0) ∧ w'.cell? ⟨w.heap.size, 1, none⟩ = some (.int .i64 (n : Int)) ∧ w'.cell? ⟨w.heap.size, 2, none⟩ = some (.int .u64 (s.1 : Int)) ∧ w'.cell? ⟨w.heap.size, 3, none⟩ = some (.int .u64 (s.2 : Int)) ∧ w'.cell? ⟨w.heap.size, 4, none⟩ = some (.int .i64 (t : Int))) (go_keep) (first
    | (go_at_call 130; (with_reducible refine (c0 _).mono ?_); clear c0; rintro e w0 ⟨A0, rfl, r0, x0⟩; have z0 := Lib.hid (ext_blk x0 (by first | exact HB.out | exact HB.out.drew)); have q0_0 := z0.out.cell 0; have q0_1 := z0.out.cell 1; have q0_2 := z0.out.cell 2; have q0_3 := z0.out.cell 3; have q0_4 := z0.out.cell 4)
    | (go_at_call 130; (with_reducible refine (c1 _).mono ?_); clear c1; rintro e w1 ⟨A1, rfl, r1, x1⟩; have z1 := Lib.hid (ext_blk x1 (by first | exact z0.out | exact z0.out.drew)); have q1_0 := z1.out.cell 0; have q1_1 := z1.out.cell 1; have q1_2 := z1.out.cell 2; have q1_3 := z1.out.cell 3; have q1_4 := z1.out.cell 4)
    | (go_at_call 131; refine (c2 _).mono ?_; clear c2; rintro e w2 ⟨v2, rfl, o2, x2⟩; obtain ⟨A2, k2, rfl, hk2, r2⟩ := own_slice o2; clear o2; have z2 := Lib.hid (ext_blk x2 (by first | exact z1.out | exact z1.out.drew)); have q2_0 := z2.out.cell 0; have q2_1 := z2.out.cell 1; have q2_2 := z2.out.cell 2; have q2_3 := z2.out.cell 3; have q2_4 := z2.out.cell 4)
    | (go_at_call 130; (with_reducible refine (c3 _).mono ?_); clear c3; rintro e w3 ⟨A3, rfl, r3, x3⟩; have z3 := Lib.hid (ext_blk x3 (by first | exact z2.out | exact z2.out.drew)); have q3_0 := z3.out.cell 0; have q3_1 := z3.out.cell 1; have q3_2 := z3.out.cell 2; have q3_3 := z3.out.cell 3; have q3_4 := z3.out.cell 4)
    | (go_at_call 129; refine (cM w3 A0 A1 A2 A3 k2 (((((((r0).below x1.out).more x1.size).below x2.out).more x2.size).below x3.out).more x3.size) (((((r1).below x2.out).more x2.size).below x3.out).more x3.size) (((r2).below x3.out).more x3.size) (r3)).mono ?_; clear cM; rintro e w9 ⟨A9, c9, rfl, hc9, r9, x9⟩; have z9 := Lib.hid (ext_blk x9 (z3.out.alloc _)); have q9_0 := z9.out.cell 0; have q9_1 := z9.out.cell 1; have q9_2 := z9.out.cell 2; have q9_3 := z9.out.cell 3; have q9_4 := z9.out.cell 4))
  all_goals go_wp2
  all_goals (
    go_ret
    exact ⟨A9, c9, rfl, hc9, r9, ((((((HX.out.drew).trans x0).trans x1).trans x2).trans x3).alloc _).trans x9⟩)
end Go.Proofs.YtfpmfegmehbfbaaGreatDoor
