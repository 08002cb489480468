/- The hash, walked: each. -/
import Derived.Test.YtbomfnlipbdigaaHa
import Derived.Test.YtbomfnlipbdigaaMem
import Derived.BigRegion
import Derived.Deep.RegionHeld3
import Derived.Deep.RegionWith
import Derived.StillTailTactics
namespace Go.Proofs.Ytbomfnlipbdigaa
open Go.RowKit Go.Shelf

/-- Behind one round: a store into the sum's box (or none), a store into the array. -/
theorem step_facts {w : World} {g gr ga : Nat} {T : TypeId} {cs : Array Value} {ur ua0 : Value} (hb : Blk w g T cs) (hgr : w.cell? ⟨gr, 0, none⟩ = some ur) (hga : w.cell? ⟨ga, 0, none⟩ = some ua0) (hf : w.frozen? ⟨ga, 0, none⟩ = false)
    (hne : g ≠ ga) (hne2 : gr ≠ g) (hne3 : gr ≠ ga) (n k : Nat) (ua u : Value) :
    ∃ W, ((w.drewN n).setCell ⟨ga, 0, none⟩ ua).setCell ⟨g, k, none⟩ u = W ∧ Blk W g T (cs.setIfInBounds k u) ∧ W.cell? ⟨gr, 0, none⟩ = some ur ∧ W.cell? ⟨ga, 0, none⟩ = some ua ∧ W.frozen? ⟨ga, 0, none⟩ = false ∧ (∀ B, B ≤ g → B ≤ ga → Below B w W) := by
  refine ⟨_, rfl, ((hb.drewN n).far (p := ⟨ga, 0, none⟩) hne ua).set_ k u, ?_, ?_, ?_, fun B h1 h2 => ?_⟩
  · rw [World.cell?_setCell_other _ _ _ _ (fun h => hne2 (by cases h; rfl)), World.cell?_setCell_other _ _ _ _ (fun h => hne3 (by cases h; rfl))]; exact hgr
  · rw [World.cell?_setCell_other _ _ _ _ (fun h => hne (by cases h; rfl))]
    exact World.cell?_setCell_same' _ _ _ (by rw [World.cell?_drewN, hga]; rfl)
  · rw [World.frozen?_setCell, World.frozen?_setCell]; exact hf
  · exact ((below_drewN (Below.refl B w) n).setCell (p := ⟨ga, 0, none⟩) h2 ua).setCell (p := ⟨g, k, none⟩) h1 u

set_option maxRecDepth 100000 in
set_option maxHeartbeats 1000000 in
theorem each1_any (g gr ga r x y z all : Nat) (hr : r < 8) (hx : x < 18446744073709551616) (hy : y < 18446744073709551616) (hz : z < 18446744073709551616) (hall : all < 18446744073709551616) (w : World)
    (hb : Blk w g 80 #[.int .u64 x, .int .u64 y, .int .u64 z]) (hgr : w.cell? ⟨gr, 0, none⟩ = some (.int .i64 r)) (hga : w.cell? ⟨ga, 0, none⟩ = some (.int .u64 all)) (hf : w.frozen? ⟨ga, 0, none⟩ = false) (hne : g ≠ ga) (hne2 : gr ≠ g) (hne3 : gr ≠ ga) :
    Calls Try.prog 78 #[.pointer (some ⟨g, 0, none⟩), .func (.func 79) #[] #[.pointer (some ⟨gr, 0, none⟩), .pointer (some ⟨ga, 0, none⟩)]] w fun e w' => e = .returned (.tuple #[]) ∧
      Blk w' g 80 #[.int .u64 (elem r 0 x : Nat), .int .u64 (elem r 1 y : Nat), .int .u64 (elem r 2 z : Nat)] ∧
      w'.cell? ⟨ga, 0, none⟩ = some (.int .u64 (addM bP (addM bP (addM bP all (elem r 0 x)) (elem r 1 y)) (elem r 2 z) : Nat)) ∧ (∀ B, B ≤ g → B ≤ ga → Below B w w') := by
  have c0 := hb.cell 0
  have c1 := hb.cell 1
  have c2 := hb.cell 2
  have f0 := hb.frozen 0
  simp at c0 c1 c2
  obtain ⟨p, hp⟩ : ∃ p, p = elem r 0 x := ⟨_, rfl⟩
  obtain ⟨q, hq⟩ : ∃ q, q = elem r 1 y := ⟨_, rfl⟩
  obtain ⟨t, ht⟩ : ∃ t, t = elem r 2 z := ⟨_, rfl⟩
  have hp1 : p < bP := by rw [hp]; exact powM_lt (by decide) _ _
  have hq1 : q < bP := by rw [hq]; exact powM_lt (by decide) _ _
  obtain ⟨a1, ha1⟩ : ∃ a, a = addM bP all p := ⟨_, rfl⟩
  obtain ⟨a2, ha2⟩ : ∃ a, a = addM bP a1 q := ⟨_, rfl⟩
  obtain ⟨a3, ha3⟩ : ∃ a, a = addM bP a2 t := ⟨_, rfl⟩
  have l1 : a1 < bP := by rw [ha1]; exact addM_lt' (by decide) _ _
  have l2 : a2 < bP := by rw [ha2]; exact addM_lt' (by decide) _ _
  have m1 := fun W => mix1_any r 0 x all gr ga hr (by omega) hx hall W
  have m2 := fun W => mix1_any r 1 y a1 gr ga hr (by omega) hy (Nat.lt_trans l1 (by decide)) W
  have m3 := fun W => mix1_any r 2 z a2 gr ga hr (by omega) hz (Nat.lt_trans l2 (by decide)) W
  rw [← hp, ← ha1] at m1
  rw [← hq, ← ha2] at m2
  rw [← ht, ← ha3] at m3
  rw [← hp, ← hq, ← ht, ← ha1, ← ha2, ← ha3]
  have HB := Lib.hid hb
  clear hp hq ht ha1 ha2 ha3 hp1 hq1 l1 l2 hr hx hy hz hall hb
  go_enter Try.func78, Try.ntmps78
  go_wp2
  refine wp_loop_rounds 4 ?_
  rw [rounds_succ]
  go_wp2
  go_quiet (fail)
  go_wp2
  go_region_with (go_at_call 79; refine (m1 _ (by simp [hgr]) (by simp [hga]) (by simp [hf])).mono ?_; rintro e w' ⟨rfl, rfl⟩)
  obtain ⟨W1, e1, b1, r1, a1', f1, l1⟩ := step_facts HB.out hgr hga hf hne hne2 hne3 (nq + 1) 0 (.int .u64 (a1 : Int)) (.int .u64 (p : Int))
  rw [e1]
  have d0 := b1.cell 1
  have d1 := b1.frozen 1
  have d2 := b1.frozen 0
  simp at d0 d1
  have B1 := Lib.hid b1
  clear e1 b1 c0 c1 c2 f0 hgr hga hf m1
  go_wp2
  rw [rounds_succ]
  go_wp2
  go_quiet (fail)
  go_wp2
  go_region_with (go_at_call 79; refine (m2 _ (by simp [r1]) (by simp [a1']) (by simp [f1])).mono ?_; rintro e w' ⟨rfl, rfl⟩)
  obtain ⟨W2, e2, b2, r2, a2', f2, l2⟩ := step_facts B1.out r1 a1' f1 hne hne2 hne3 (nq + 1) 1 (.int .u64 (a2 : Int)) (.int .u64 (q : Int))
  rw [e2]
  have d3 := b2.cell 2
  have d4 := b2.frozen 2
  have d5 := b2.frozen 0
  simp at d3 d4
  have B2 := Lib.hid b2
  clear e2 b2 d0 d1 d2 r1 a1' f1 m2
  go_wp2
  rw [rounds_succ]
  go_wp2
  go_quiet (fail)
  go_wp2
  go_region_with (go_at_call 79; refine (m3 _ (by simp [r2]) (by simp [a2']) (by simp [f2])).mono ?_; rintro e w' ⟨rfl, rfl⟩)
  obtain ⟨W3, e3, b3, r3, a3', f3, l3⟩ := step_facts B2.out r2 a2' f2 hne hne2 hne3 (nq + 1) 2 (.int .u64 (a3 : Int)) (.int .u64 (t : Int))
  rw [e3]
  have B3 := Lib.hid b3
  clear e3 b3 d3 d4 d5 r2 a2' f2 m3
  go_wp2
  rw [rounds_succ]
  go_wp2
  go_end0
  exact ⟨rfl, B3.out, a3', fun B h1 h2 => ((l1 B h1 h2).trans (l2 B h1 h2)).trans (l3 B h1 h2)⟩

/-- Behind one round of the second closure. -/
theorem step_facts2 {w : World} {g ga : Nat} {T : TypeId} {cs : Array Value} {ua0 : Value} (hb : Blk w g T cs) (hga : w.cell? ⟨ga, 0, none⟩ = some ua0) (hne : g ≠ ga) (n k : Nat) (u : Value) :
    ∃ W, (w.drewN n).setCell ⟨g, k, none⟩ u = W ∧ Blk W g T (cs.setIfInBounds k u) ∧ W.cell? ⟨ga, 0, none⟩ = some ua0 ∧ (∀ B, B ≤ g → Below B w W) := by
  refine ⟨_, rfl, (hb.drewN n).set_ k u, ?_, fun B h1 => ?_⟩
  · rw [World.cell?_setCell_other _ _ _ _ (fun h => hne (by cases h; rfl))]; exact hga
  · exact (below_drewN (Below.refl B w) n).setCell (p := ⟨g, k, none⟩) h1 u

set_option maxRecDepth 100000 in
set_option maxHeartbeats 1000000 in
theorem each2_any (g ga x y z all : Nat) (hx : x < 18446744073709551616) (hy : y < 18446744073709551616) (hz : z < 18446744073709551616) (hall : all < 18446744073709551616) (w : World)
    (hb : Blk w g 80 #[.int .u64 x, .int .u64 y, .int .u64 z]) (hga : w.cell? ⟨ga, 0, none⟩ = some (.int .u64 all)) (hne : g ≠ ga) :
    Calls Try.prog 78 #[.pointer (some ⟨g, 0, none⟩), .func (.func 81) #[] #[.pointer (some ⟨ga, 0, none⟩)]] w fun e w' => e = .returned (.tuple #[]) ∧
      Blk w' g 80 #[.int .u64 (addM bP x all : Nat), .int .u64 (addM bP y all : Nat), .int .u64 (addM bP z all : Nat)] ∧ (∀ B, B ≤ g → Below B w w') := by
  have c0 := hb.cell 0
  have f0 := hb.frozen 0
  simp at c0
  obtain ⟨p, hp⟩ : ∃ p, p = addM bP x all := ⟨_, rfl⟩
  obtain ⟨q, hq⟩ : ∃ q, q = addM bP y all := ⟨_, rfl⟩
  obtain ⟨t, ht⟩ : ∃ t, t = addM bP z all := ⟨_, rfl⟩
  have m1 := fun i W => mix2_any i x all ga hx hall W
  have m2 := fun i W => mix2_any i y all ga hy hall W
  have m3 := fun i W => mix2_any i z all ga hz hall W
  rw [← hp] at m1
  rw [← hq] at m2
  rw [← ht] at m3
  rw [← hp, ← hq, ← ht]
  have HB := Lib.hid hb
  clear hp hq ht hx hy hz hall hb
  go_enter Try.func78, Try.ntmps78
  go_wp2
  refine wp_loop_rounds 4 ?_
  rw [rounds_succ]
  go_wp2
  go_quiet (fail)
  go_wp2
  go_region_with (go_at_call 81; refine (m1 _ _ (by simp [hga])).mono ?_; rintro e w' ⟨rfl, rfl⟩)
  obtain ⟨W1, e1, b1, a1', l1⟩ := step_facts2 HB.out hga hne (nq + 1) 0 (.int .u64 (p : Int))
  rw [e1]
  have d0 := b1.cell 1
  have d1 := b1.frozen 1
  have d2 := b1.frozen 0
  simp at d0 d1
  have B1 := Lib.hid b1
  clear e1 b1 c0 f0 hga m1
  go_wp2
  rw [rounds_succ]
  go_wp2
  go_quiet (fail)
  go_wp2
  go_region_with (go_at_call 81; refine (m2 _ _ (by simp [a1'])).mono ?_; rintro e w' ⟨rfl, rfl⟩)
  obtain ⟨W2, e2, b2, a2', l2⟩ := step_facts2 B1.out a1' hne (nq + 1) 1 (.int .u64 (q : Int))
  rw [e2]
  have d3 := b2.cell 2
  have d4 := b2.frozen 2
  have d5 := b2.frozen 0
  simp at d3 d4
  have B2 := Lib.hid b2
  clear e2 b2 d0 d1 d2 a1' m2
  go_wp2
  rw [rounds_succ]
  go_wp2
  go_quiet (fail)
  go_wp2
  go_region_with (go_at_call 81; refine (m3 _ _ (by simp [a2'])).mono ?_; rintro e w' ⟨rfl, rfl⟩)
  obtain ⟨W3, e3, b3, a3', l3⟩ := step_facts2 B2.out a2' hne (nq + 1) 2 (.int .u64 (t : Int))
  rw [e3]
  have B3 := Lib.hid b3
  clear e3 b3 d3 d4 d5 a2' m3
  go_wp2
  rw [rounds_succ]
  go_wp2
  go_end0
  exact ⟨rfl, B3.out, fun B h1 => ((l1 B h1).trans (l2 B h1)).trans (l3 B h1)⟩
end Go.Proofs.Ytbomfnlipbdigaa
