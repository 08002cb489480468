/- Parts of the proofs, put together: HaEach, HaMix, HaNum, HaRefMix. -/
import Derived.BigRegion
import Derived.Deep.RegionHeld3
import Derived.Deep.RegionWith
import Derived.StillTailTactics
import Derived.Deep.LoopGhost
import Derived.Test.YtfpmfegmehbfbaaGreatDoorZ4
import Derived.Test.YtfpmfegmehbfbaaGreatDoorZ7
import Derived.Test.YtfpmfegmehbfbaaGreatDoorZ17
/- The hash, walked: each. -/
namespace Go.Proofs.YtfpmfegmehbfbaaGreatDoor
open Go.RowKit Go.Shelf

/-- Behind one round: a store into the sum's box (or none), a store into the array. -/
theorem step_facts {w : World} {g gr ga : Nat} {T : TypeId} {cs : Array Value} {ur ua0 : Value} (hb : Blk w g T cs) (hgr : w.cell? ⟨gr, 0, none⟩ = some ur) (hga : w.cell? ⟨ga, 0, none⟩ = some ua0) (hf : w.frozen? ⟨ga, 0, none⟩ = false)
    (hne : g ≠ ga) (hne2 : gr ≠ g) (hne3 : gr ≠ ga) (n k : Nat) (ua u : Value) :
    ∃ W, ((w.drewN n).setCell ⟨ga, 0, none⟩ ua).setCell ⟨g, k, none⟩ u = W ∧ Blk W g T (cs.setIfInBounds k u) ∧ W.cell? ⟨gr, 0, none⟩ = some ur ∧ W.cell? ⟨ga, 0, none⟩ = some ua ∧ W.frozen? ⟨ga, 0, none⟩ = false ∧ (∀ B, B ≤ g → B ≤ ga → Below B w W) := by
  refine ⟨_, rfl, ((hb.drewN n).far (p := ⟨ga, 0, none⟩) hne ua).set_ k u, ?_, ?_, ?_, fun B h1 h2 => ?_⟩
  · rw [World.cell?_setCell_other _ _ _ _ (fun h => hne2 (by cases h; rfl)), World.cell?_setCell_other _ _ _ _ (fun h => hne3 (by cases h; rfl))]; exact hgr
  · rw [World.cell?_setCell_other _ _ _ _ (fun h => hne (by cases h; rfl))]
    exact World.cell?_setCell_same' _ _ _ (by rw [World.cell?_drewN, hga]; rfl)
  · rw [World.frozen?_setCell, World.frozen?_setCell]; exact hf
  · exact ((below_drewN (Below.refl B w) n).setCell (p := ⟨ga, 0, none⟩) h2 ua).setCell (p := ⟨g, k, none⟩) h1 u

set_option maxRecDepth 100000 in
set_option maxHeartbeats 1000000 in
theorem each1_any (g gr ga r x y z all : Nat) (hr : r < 8) (hx : x < 18446744073709551616) (hy : y < 18446744073709551616) (hz : z < 18446744073709551616) (hall : all < 18446744073709551616) (w : World)
    (hb : Blk w g 362 #[.int .u64 x, .int .u64 y, .int .u64 z]) (hgr : w.cell? ⟨gr, 0, none⟩ = some (.int .i64 r)) (hga : w.cell? ⟨ga, 0, none⟩ = some (.int .u64 all)) (hf : w.frozen? ⟨ga, 0, none⟩ = false) (hne : g ≠ ga) (hne2 : gr ≠ g) (hne3 : gr ≠ ga) :
    Calls Tryz.prog 266 #[.pointer (some ⟨g, 0, none⟩), .func (.func 267) #[] #[.pointer (some ⟨gr, 0, none⟩), .pointer (some ⟨ga, 0, none⟩)]] w fun e w' => e = .returned (.tuple #[]) ∧
      Blk w' g 362 #[.int .u64 (elem r 0 x : Nat), .int .u64 (elem r 1 y : Nat), .int .u64 (elem r 2 z : Nat)] ∧
      w'.cell? ⟨ga, 0, none⟩ = some (.int .u64 (addM bP (addM bP (addM bP all (elem r 0 x)) (elem r 1 y)) (elem r 2 z) : Nat)) ∧ (∀ B, B ≤ g → B ≤ ga → Below B w w') := by
  have c0 := hb.cell 0
  have c1 := hb.cell 1
  have c2 := hb.cell 2
  have f0 := hb.frozen 0
  simp at c0 c1 c2
  obtain ⟨p, hp⟩ : ∃ p, p = elem r 0 x := ⟨_, rfl⟩
  obtain ⟨q, hq⟩ : ∃ q, q = elem r 1 y := ⟨_, rfl⟩
  obtain ⟨t, ht⟩ : ∃ t, t = elem r 2 z := ⟨_, rfl⟩
  have hp1 : p < bP := by rw [hp]; exact powM_lt (by decide) _ _
  have hq1 : q < bP := by rw [hq]; exact powM_lt (by decide) _ _
  obtain ⟨a1, ha1⟩ : ∃ a, a = addM bP all p := ⟨_, rfl⟩
  obtain ⟨a2, ha2⟩ : ∃ a, a = addM bP a1 q := ⟨_, rfl⟩
  obtain ⟨a3, ha3⟩ : ∃ a, a = addM bP a2 t := ⟨_, rfl⟩
  have l1 : a1 < bP := by rw [ha1]; exact addM_lt' (by decide) _ _
  have l2 : a2 < bP := by rw [ha2]; exact addM_lt' (by decide) _ _
  have m1 := fun W => mix1_any r 0 x all gr ga hr (by omega) hx hall W
  have m2 := fun W => mix1_any r 1 y a1 gr ga hr (by omega) hy (Nat.lt_trans l1 (by decide)) W
  have m3 := fun W => mix1_any r 2 z a2 gr ga hr (by omega) hz (Nat.lt_trans l2 (by decide)) W
  rw [← hp, ← ha1] at m1
  rw [← hq, ← ha2] at m2
  rw [← ht, ← ha3] at m3
  rw [← hp, ← hq, ← ht, ← ha1, ← ha2, ← ha3]
  have HB := Lib.hid hb
  clear hp hq ht ha1 ha2 ha3 hp1 hq1 l1 l2 hr hx hy hz hall hb
  go_enter Tryz.func266, Tryz.ntmps266
  go_wp2
  refine wp_loop_rounds 4 ?_
  rw [rounds_succ]
  go_wp2
  go_quiet (fail)
  go_wp2
  go_region_with (go_at_call 267; refine (m1 _ (by simp [hgr]) (by simp [hga]) (by simp [hf])).mono ?_; rintro e w' ⟨rfl, rfl⟩)
  obtain ⟨W1, e1, b1, r1, a1', f1, l1⟩ := step_facts HB.out hgr hga hf hne hne2 hne3 (nq + 1) 0 (.int .u64 (a1 : Int)) (.int .u64 (p : Int))
  rw [e1]
  have d0 := b1.cell 1
  have d1 := b1.frozen 1
  have d2 := b1.frozen 0
  simp at d0 d1
  have B1 := Lib.hid b1
  clear e1 b1 c0 c1 c2 f0 hgr hga hf m1
  go_wp2
  rw [rounds_succ]
  go_wp2
  go_quiet (fail)
  go_wp2
  go_region_with (go_at_call 267; refine (m2 _ (by simp [r1]) (by simp [a1']) (by simp [f1])).mono ?_; rintro e w' ⟨rfl, rfl⟩)
  obtain ⟨W2, e2, b2, r2, a2', f2, l2⟩ := step_facts B1.out r1 a1' f1 hne hne2 hne3 (nq + 1) 1 (.int .u64 (a2 : Int)) (.int .u64 (q : Int))
  rw [e2]
  have d3 := b2.cell 2
  have d4 := b2.frozen 2
  have d5 := b2.frozen 0
  simp at d3 d4
  have B2 := Lib.hid b2
  clear e2 b2 d0 d1 d2 r1 a1' f1 m2
  go_wp2
  rw [rounds_succ]
  go_wp2
  go_quiet (fail)
  go_wp2
  go_region_with (go_at_call 267; refine (m3 _ (by simp [r2]) (by simp [a2']) (by simp [f2])).mono ?_; rintro e w' ⟨rfl, rfl⟩)
  obtain ⟨W3, e3, b3, r3, a3', f3, l3⟩ := step_facts B2.out r2 a2' f2 hne hne2 hne3 (nq + 1) 2 (.int .u64 (a3 : Int)) (.int .u64 (t : Int))
  rw [e3]
  have B3 := Lib.hid b3
  clear e3 b3 d3 d4 d5 r2 a2' f2 m3
  go_wp2
  rw [rounds_succ]
  go_wp2
  go_end0
  exact ⟨rfl, B3.out, a3', fun B h1 h2 => ((l1 B h1 h2).trans (l2 B h1 h2)).trans (l3 B h1 h2)⟩

/-- Behind one round of the second closure. -/
theorem step_facts2 {w : World} {g ga : Nat} {T : TypeId} {cs : Array Value} {ua0 : Value} (hb : Blk w g T cs) (hga : w.cell? ⟨ga, 0, none⟩ = some ua0) (hne : g ≠ ga) (n k : Nat) (u : Value) :
    ∃ W, (w.drewN n).setCell ⟨g, k, none⟩ u = W ∧ Blk W g T (cs.setIfInBounds k u) ∧ W.cell? ⟨ga, 0, none⟩ = some ua0 ∧ (∀ B, B ≤ g → Below B w W) := by
  refine ⟨_, rfl, (hb.drewN n).set_ k u, ?_, fun B h1 => ?_⟩
  · rw [World.cell?_setCell_other _ _ _ _ (fun h => hne (by cases h; rfl))]; exact hga
  · exact (below_drewN (Below.refl B w) n).setCell (p := ⟨g, k, none⟩) h1 u

set_option maxRecDepth 100000 in
set_option maxHeartbeats 1000000 in
theorem each2_any (g ga x y z all : Nat) (hx : x < 18446744073709551616) (hy : y < 18446744073709551616) (hz : z < 18446744073709551616) (hall : all < 18446744073709551616) (w : World)
    (hb : Blk w g 362 #[.int .u64 x, .int .u64 y, .int .u64 z]) (hga : w.cell? ⟨ga, 0, none⟩ = some (.int .u64 all)) (hne : g ≠ ga) :
    Calls Tryz.prog 266 #[.pointer (some ⟨g, 0, none⟩), .func (.func 269) #[] #[.pointer (some ⟨ga, 0, none⟩)]] w fun e w' => e = .returned (.tuple #[]) ∧
      Blk w' g 362 #[.int .u64 (addM bP x all : Nat), .int .u64 (addM bP y all : Nat), .int .u64 (addM bP z all : Nat)] ∧ (∀ B, B ≤ g → Below B w w') := by
  have c0 := hb.cell 0
  have f0 := hb.frozen 0
  simp at c0
  obtain ⟨p, hp⟩ : ∃ p, p = addM bP x all := ⟨_, rfl⟩
  obtain ⟨q, hq⟩ : ∃ q, q = addM bP y all := ⟨_, rfl⟩
  obtain ⟨t, ht⟩ : ∃ t, t = addM bP z all := ⟨_, rfl⟩
  have m1 := fun i W => mix2_any i x all ga hx hall W
  have m2 := fun i W => mix2_any i y all ga hy hall W
  have m3 := fun i W => mix2_any i z all ga hz hall W
  rw [← hp] at m1
  rw [← hq] at m2
  rw [← ht] at m3
  rw [← hp, ← hq, ← ht]
  have HB := Lib.hid hb
  clear hp hq ht hx hy hz hall hb
  go_enter Tryz.func266, Tryz.ntmps266
  go_wp2
  refine wp_loop_rounds 4 ?_
  rw [rounds_succ]
  go_wp2
  go_quiet (fail)
  go_wp2
  go_region_with (go_at_call 269; refine (m1 _ _ (by simp [hga])).mono ?_; rintro e w' ⟨rfl, rfl⟩)
  obtain ⟨W1, e1, b1, a1', l1⟩ := step_facts2 HB.out hga hne (nq + 1) 0 (.int .u64 (p : Int))
  rw [e1]
  have d0 := b1.cell 1
  have d1 := b1.frozen 1
  have d2 := b1.frozen 0
  simp at d0 d1
  have B1 := Lib.hid b1
  clear e1 b1 c0 f0 hga m1
  go_wp2
  rw [rounds_succ]
  go_wp2
  go_quiet (fail)
  go_wp2
  go_region_with (go_at_call 269; refine (m2 _ _ (by simp [a1'])).mono ?_; rintro e w' ⟨rfl, rfl⟩)
  obtain ⟨W2, e2, b2, a2', l2⟩ := step_facts2 B1.out a1' hne (nq + 1) 1 (.int .u64 (q : Int))
  rw [e2]
  have d3 := b2.cell 2
  have d4 := b2.frozen 2
  have d5 := b2.frozen 0
  simp at d3 d4
  have B2 := Lib.hid b2
  clear e2 b2 d0 d1 d2 a1' m2
  go_wp2
  rw [rounds_succ]
  go_wp2
  go_quiet (fail)
  go_wp2
  go_region_with (go_at_call 269; refine (m3 _ _ (by simp [a2'])).mono ?_; rintro e w' ⟨rfl, rfl⟩)
  obtain ⟨W3, e3, b3, a3', l3⟩ := step_facts2 B2.out a2' hne (nq + 1) 2 (.int .u64 (t : Int))
  rw [e3]
  have B3 := Lib.hid b3
  clear e3 b3 d3 d4 d5 a2' m3
  go_wp2
  rw [rounds_succ]
  go_wp2
  go_end0
  exact ⟨rfl, B3.out, fun B h1 => ((l1 B h1).trans (l2 B h1)).trans (l3 B h1)⟩
end Go.Proofs.YtfpmfegmehbfbaaGreatDoor

/- The hash, walked: Mix. -/
namespace Go.Proofs.YtfpmfegmehbfbaaGreatDoor
open Go.RowKit Go.Shelf

/-- Three elements as a value. -/
def val3 (s : Nat × Nat × Nat) : Array Value := #[.int .u64 (s.1 : Int), .int .u64 (s.2.1 : Int), .int .u64 (s.2.2 : Int)]
def ok3 (s : Nat × Nat × Nat) : Prop := s.1 < 18446744073709551616 ∧ s.2.1 < 18446744073709551616 ∧ s.2.2 < 18446744073709551616
theorem rnd_lt (k : Nat) (s : Nat × Nat × Nat) : (rnd k s).1 < bP ∧ (rnd k s).2.1 < bP ∧ (rnd k s).2.2 < bP := ⟨addM_lt' (by decide) _ _, addM_lt' (by decide) _ _, addM_lt' (by decide) _ _⟩
theorem rnds_ok {s : Nat × Nat × Nat} (h : ok3 s) : ∀ k, ok3 (rnds k s)
  | 0 => h
  | k + 1 => by
    obtain ⟨a, b, c⟩ := rnd_lt k (rnds k s)
    exact ⟨Nat.lt_trans a (by decide), Nat.lt_trans b (by decide), Nat.lt_trans c (by decide)⟩

theorem start3 (w : World) (c1 c2 c3 : Array Value) (T1 T2 T3 : TypeId) : ∃ W, (((w.alloc (.cells c1 T1)).alloc (.cells c2 T2)).alloc (.cells c3 T3)) = W ∧
    Blk W w.heap.size T1 c1 ∧ Blk W (w.heap.size + 1) T2 c2 ∧ Blk W (w.heap.size + 1 + 1) T3 c3 ∧ Ext w W ∧ W.heap.size = w.heap.size + 3 := by
  refine ⟨_, rfl, ((Blk.new w T1 c1).alloc _).alloc _, ?_, ?_, (((Ext.refl w).alloc _).alloc _).alloc _, by simp⟩
  · have := (Blk.new (w.alloc (.cells c1 T1)) T2 c2).alloc (.cells c3 T3)
    simpa using this
  · have := Blk.new ((w.alloc (.cells c1 T1)).alloc (.cells c2 T2)) T3 c3
    simpa using this
theorem sum0 (x : Nat) : addM bP 0 x = x % bP := by unfold addM; rw [Nat.zero_add]

set_option maxRecDepth 100000 in
set_option maxHeartbeats 1000000 in
theorem mix_any (s : Nat × Nat × Nat) (hs : ok3 s) (w : World) :
    Calls Tryz.prog 222 #[.agg (val3 s)] w fun e w' => e = .returned (.agg (val3 (mix s))) ∧ Ext w w' := by
  have hmf : ∀ (fn : Fn) (first cap : Array Value) (w : World), (Instr.makeFunc fn first cap).run Tryz.prog w = .ok (.func fn first cap) w := fun _ _ _ _ => rfl
  unfold val3
  go_enter Tryz.func222, Tryz.ntmps222
  go_wp2
  obtain ⟨W0, e0, -, b1, b2, x0, z0⟩ := start3 w #[.int .u64 (s.1 : Int), .int .u64 (s.2.1 : Int), .int .u64 (s.2.2 : Int)] #[.int .u64 0, .int .u64 0, .int .u64 0] #[.int .u64 (s.1 : Int), .int .u64 (s.2.1 : Int), .int .u64 (s.2.2 : Int)] 310 310 362
  rw [e0]
  obtain ⟨g, hg⟩ : ∃ g, g = w.heap.size + 1 + 1 := ⟨_, rfl⟩
  rw [← hg] at b2 ⊢
  obtain ⟨g1, hg1⟩ : ∃ g1, g1 = w.heap.size + 1 := ⟨_, rfl⟩
  rw [← hg1] at b1 ⊢
  have hgz : w.heap.size < g := by omega
  have hg1g : g1 < g := by omega
  have hg1w : w.heap.size ≤ g1 := by omega
  have hgW : g < W0.heap.size := by omega
  clear e0 hg hg1 z0
  go_loopg [7] 8 (fun n i wr => ∃ k : Nat, k + n = 8 ∧ i = .int .i64 k ∧ Blk wr g 362 (val3 (rnds k s)) ∧ Blk wr g1 310 #[.int .u64 0, .int .u64 0, .int .u64 0] ∧ Ext w wr)
  case atStart => exact ⟨0, rfl, rfl, b2, b1, x0⟩
  case round =>
    obtain ⟨k, hk, rfl, hb, hb1, hx⟩ := hrel
    have hok := rnds_ok hs k
    clear b1 b2
    by_cases h : k < 8
    · obtain ⟨x, hx'⟩ : ∃ x, x = (rnds k s).1 := ⟨_, rfl⟩
      obtain ⟨y, hy'⟩ : ∃ y, y = (rnds k s).2.1 := ⟨_, rfl⟩
      obtain ⟨z, hz'⟩ : ∃ z, z = (rnds k s).2.2 := ⟨_, rfl⟩
      obtain ⟨ox, oy, oz⟩ := hok
      have hnx : rnds (k + 1) s = rnd k (x, y, z) := by rw [hx', hy', hz']; rfl
      have hb : Blk wr g 362 #[.int .u64 (x : Int), .int .u64 (y : Int), .int .u64 (z : Int)] := by rw [hx', hy', hz']; exact hb
      rw [← hx'] at ox
      rw [← hy'] at oy
      rw [← hz'] at oz
      clear hx' hy' hz'
      have hlt := hb.lt
      have k8 := h
      obtain ⟨p, hp⟩ : ∃ p, p = elem k 0 x := ⟨_, rfl⟩
      obtain ⟨q, hq⟩ : ∃ q, q = elem k 1 y := ⟨_, rfl⟩
      obtain ⟨t, ht⟩ : ∃ t, t = elem k 2 z := ⟨_, rfl⟩
      have hp1 : p < bP := by rw [hp]; exact powM_lt (by decide) _ _
      have hq1 : q < bP := by rw [hq]; exact powM_lt (by decide) _ _
      have ht1 : t < bP := by rw [ht]; exact powM_lt (by decide) _ _
      obtain ⟨al, hal⟩ : ∃ al, al = addM bP (addM bP p q) t := ⟨_, rfl⟩
      have hal1 : al < bP := by rw [hal]; exact addM_lt' (by decide) _ _
      have hsum : addM bP (addM bP (addM bP 0 p) q) t = al := by rw [sum0, Nat.mod_eq_of_lt hp1, hal]
      obtain ⟨W2, e2, d1, d2, d3, d4⟩ : ∃ W2, (wr.alloc (.cells #[.int .i64 (k : Int)] 3)).alloc (.cells #[.int .u64 0] 25) = W2 ∧ Blk W2 g 362 #[.int .u64 (x : Int), .int .u64 (y : Int), .int .u64 (z : Int)] ∧ Blk W2 wr.heap.size 3 #[.int .i64 (k : Int)] ∧ Blk W2 (wr.heap.size + 1) 25 #[.int .u64 0] ∧ Ext wr W2 :=
        ⟨_, rfl, (hb.alloc _).alloc _, (Blk.new wr _ _).alloc _, by have := Blk.new (wr.alloc (.cells #[.int .i64 (k : Int)] 3)) 25 #[.int .u64 0]; simpa using this, ((Ext.refl wr).alloc _).alloc _⟩
      have m1 := each1_any g wr.heap.size (wr.heap.size + 1) k x y z 0 h ox oy oz (by decide) W2 d1 (by have := d2.cell 0; simpa using this) (by have := d3.cell 0; simpa using this) (d3.frozen 0) (by omega) (by omega) (by omega)
      rw [← hp, ← hq, ← ht, hsum] at m1
      have m2 := fun W => each2_any g (wr.heap.size + 1) p q t al (Nat.lt_trans hp1 (by decide)) (Nat.lt_trans hq1 (by decide)) (Nat.lt_trans ht1 (by decide)) (Nat.lt_trans hal1 (by decide)) W
      have HR : Hid (val3 (rnds (k + 1) s) = #[.int .u64 (addM bP p al : Nat), .int .u64 (addM bP q al : Nat), .int .u64 (addM bP t al : Nat)]) := by
        show _ = _
        rw [hnx]; unfold rnd; simp only [← hp, ← hq, ← ht, ← hal]; rfl
      have HK := Lib.hid hk
      have hg0 : g ≠ wr.heap.size + 1 := by omega
      clear hk hb hp hq ht hp1 hq1 ht1 hal hal1 hsum hnx d1 d2 d3 ox oy oz
      have hb2 : Blk W2 g1 310 #[.int .u64 0, .int .u64 0, .int .u64 0] := by rw [← e2]; exact (hb1.alloc _).alloc _
      have dk : decide ((k : Int) < 8) = true := by simp; omega
      have hsz := hx.size
      have X2 := Lib.hid (hx.trans d4)
      have HB2 := Lib.hid hb2
      clear hb2 hb1
      go_wp2_with (go_at_call 266; refine m1.mono ?_; clear m1; rintro e W3 ⟨rfl, b3, c3, l3⟩)
      refine (m2 _ b3 c3 hg0).mono ?_
      rintro e W4 ⟨rfl, b4, l4⟩
      have hk := HK.out
      have B1 : Blk W4 g1 310 #[.int .u64 0, .int .u64 0, .int .u64 0] := (HB2.out.below (l3 g (Nat.le_refl _) (by omega)) hg1g).below (l4 g (Nat.le_refl _)) hg1g
      have X4 : Ext w W4 := Ext.of ((X2.out.out.trans (l3 _ (by omega) (by omega))).trans (l4 _ (by omega)))
      have B4 := Lib.hid b4
      clear b3 b4 l3 l4 c3 m2 e2
      go_wp2
      go_roundg (gk - 1)
      case measure => omega
      case rel => exact ⟨k + 1, by omega, int_congr (by omega), by rw [HR.out]; exact B4.out, B1, X4⟩
    · obtain rfl : k = 8 := by omega
      have c0 := hb.cell 0
      have c1 := hb.cell 1
      have c2 := hb.cell 2
      simp [val3] at c0 c1 c2
      have v0 := hb1.cell 0
      have v1 := hb1.cell 1
      have v2 := hb1.cell 2
      have f0 := hb1.frozen 0
      have f1 := hb1.frozen 1
      have f2 := hb1.frozen 2
      simp at v0 v1 v2
      clear hk hok hb hb1
      obtain ⟨u, hu⟩ : ∃ u, u = rnds 8 s := ⟨_, rfl⟩
      rw [← hu] at c0 c1 c2
      have HU := Lib.hid hu
      clear hu
      go_wp2
      refine bodyPost_ret (v := .agg #[.int .u64 (u.1 : Int), .int .u64 (u.2.1 : Int), .int .u64 (u.2.2 : Int)]) (by simp [results, Tryz.results222, go_sem, v0, v1, v2]) rfl ⟨by rw [HU.out]; rfl, ?_⟩
      exact ((hx.setCell (p := ⟨g1, 0, none⟩) hg1w _).setCell (p := ⟨g1, 1, none⟩) hg1w _).setCell (p := ⟨g1, 2, none⟩) hg1w _
end Go.Proofs.YtfpmfegmehbfbaaGreatDoor

/- The hash, walked: Num, and the document's. -/
namespace Go.Proofs.YtfpmfegmehbfbaaGreatDoor
open Go.RowKit Go.Shelf

theorem add64_0 (x y : Nat) (w : World) : (callFunc 237 #[.int .u64 (x : Int), .int .u64 (y : Int), .int .u64 0]).run Tryz.prog w =
    .ok (.value (.tuple #[.int .u64 (((x + y) % 18446744073709551616 : Nat) : Int), .int .u64 (((x + y) / 18446744073709551616 : Nat) : Int)])) w := by
  have h := Any7.bits_Add64 Tryz.lays25 x y 0 (by decide) w
  rw [Nat.add_zero] at h
  exact h

def numM (a b m : Nat) : Nat := if m = 0 then 0 else (a * 2305843009213693952 + b) % m

set_option maxRecDepth 100000 in
theorem Num_any (a b m : Nat) (ha : a < 18446744073709551616) (hb : b < 18446744073709551616) (hm : m < 18446744073709551616) (w : World) :
    Calls Tryz.prog 170 #[.agg #[.int .u64 a, .int .u64 b], .int .u64 m] w fun e w' => e = .returned (.int .u64 (numM a b m : Nat)) ∧ Ext w w' := by
  rcases Nat.eq_zero_or_pos m with rfl | h0
  · have e : numM a b 0 = 0 := rfl
    rw [e]
    clear ha hb hm e
    go_enter Tryz.func170, Tryz.ntmps170
    go_wp2
    go_ret
    exact ⟨rfl, (Ext.refl w).alloc _⟩
  · obtain ⟨hi, hhi⟩ : ∃ hi, hi = a * 2305843009213693952 / 18446744073709551616 := ⟨_, rfl⟩
    obtain ⟨lo, hlo⟩ : ∃ lo, lo = a * 2305843009213693952 % 18446744073709551616 := ⟨_, rfl⟩
    have c1 : ∀ w, Calls Tryz.prog 236 #[.int .u64 (a : Int), .int .u64 2305843009213693952] w fun e w' => e = .returned (.tuple #[.int .u64 (hi : Int), .int .u64 (lo : Int)]) ∧ w = w' := fun w => by
      rw [hhi, hlo]; exact (Tryz.bits_Mul64 a 2305843009213693952 ha (by decide) w).mono fun e w' ⟨he, hw⟩ => ⟨he, hw.symm⟩
    have hhi1 : hi ≤ 2305843009213693952 := by rw [hhi]; omega
    have c2 := fun w => add64_0 lo b w
    obtain ⟨more, hmore⟩ : ∃ x, x = (lo + b) / 18446744073709551616 := ⟨_, rfl⟩
    obtain ⟨lo2, hlo2⟩ : ∃ x, x = (lo + b) % 18446744073709551616 := ⟨_, rfl⟩
    rw [← hmore, ← hlo2] at c2
    have hm1 : more ≤ 1 := by rw [hmore]; omega
    obtain ⟨h2, hh2⟩ : ∃ x, x = (hi + more) % m := ⟨_, rfl⟩
    have k1 : ((hi : Int) + (more : Int)) % (m : Int) = (h2 : Int) := by rw [hh2]; simp
    have hh : h2 < m := by rw [hh2]; exact Nat.mod_lt _ h0
    obtain ⟨q, hq⟩ : ∃ q, q = (h2 * 18446744073709551616 + lo2) / m := ⟨_, rfl⟩
    have E : (h2 * 18446744073709551616 + lo2) % m = numM a b m := by
      unfold numM
      rw [if_neg (by omega)]
      have e1 : a * 2305843009213693952 + b = (hi + more) * 18446744073709551616 + lo2 := by omega
      rw [e1, hh2]
      rw [Nat.add_mod, Nat.mul_mod, Nat.mod_mod, ← Nat.mul_mod, ← Nat.add_mod]
    obtain ⟨r, hr⟩ : ∃ r, r = numM a b m := ⟨_, rfl⟩
    have c3 := fun w => div64 h2 lo2 m hh (by omega) hm w
    rw [E, ← hq, ← hr] at c3
    rw [← hr]
    have m0 : ((m : Int) == 0) = false := by simp; omega
    have hs1 : (hi : Int) + (more : Int) < 18446744073709551616 := by omega
    clear hhi hlo hmore hlo2 hh2 hq hr E ha hb hm hh
    go_enter Tryz.func170, Tryz.ntmps170
    go_wp2_with (first | (go_at_call 236; refine (c1 _).mono ?_; clear c1; rintro e w' ⟨rfl, rfl⟩) | (go_at_call 238; refine (c3 _).mono ?_; clear c3; rintro e w' ⟨rfl, n, rfl⟩))
    go_ret
    exact ⟨rfl, ((Ext.refl w).alloc _).drewN _⟩

end Go.Proofs.YtfpmfegmehbfbaaGreatDoor

/- The document's Mix (greatsealref02), walked. -/
namespace Go.Proofs.YtfpmfegmehbfbaaGreatDoor
open Go.RowKit Go.Shelf

end Go.Proofs.YtfpmfegmehbfbaaGreatDoor
