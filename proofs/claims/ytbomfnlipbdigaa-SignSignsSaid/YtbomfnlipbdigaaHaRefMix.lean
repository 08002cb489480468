/- The document's Mix (greatsealref02), walked. -/
import Derived.Test.YtbomfnlipbdigaaHaRef
import Derived.Test.YtbomfnlipbdigaaHaMix
namespace Go.Proofs.Ytbomfnlipbdigaa
open Go.RowKit Go.Shelf

theorem elem_ref (r i a : Nat) : powM bP (addM bP a (addM bP (powM bP (3 * r + i + 1) 3) 7)) 17 = elem r i a := by
  have e : addM bP a (addM bP (powM bP (3 * r + i + 1) 3) 7) = addM bP a ((3 * r + i + 1) * (3 * r + i + 1) * (3 * r + i + 1) + 7) := by
    unfold addM powM
    rw [Nat.pow_succ, Nat.pow_two]
    simp [Nat.add_mod]
  rw [e]; rfl

set_option maxRecDepth 100000 in
set_option maxHeartbeats 2000000 in
theorem round_any (s : Nat × Nat × Nat) (r : Nat) (hr : r < 8) (w : World) :
    Calls Try.prog 75 #[.agg (val3 s), .int .i64 r] w fun e w' => e = .returned (.agg (val3 (rnd r s))) ∧ Ext w w' := by
  obtain ⟨x, y, z⟩ := s
  obtain ⟨p, hp⟩ : ∃ p, p = elem r 0 x := ⟨_, rfl⟩
  obtain ⟨q, hq⟩ : ∃ q, q = elem r 1 y := ⟨_, rfl⟩
  obtain ⟨t, ht⟩ : ∃ t, t = elem r 2 z := ⟨_, rfl⟩
  obtain ⟨u, hu⟩ : ∃ u, u = addM bP p q := ⟨_, rfl⟩
  obtain ⟨al, hal⟩ : ∃ al, al = addM bP u t := ⟨_, rfl⟩
  have HR : Hid (val3 (rnd r (x, y, z)) = #[.int .u64 (addM bP p al : Nat), .int .u64 (addM bP q al : Nat), .int .u64 (addM bP t al : Nat)]) := by
    show _ = _
    unfold rnd; simp only [← hp, ← hq, ← ht, ← hu, ← hal]; rfl
  obtain ⟨n0, hn0⟩ : ∃ n, n = 3 * r + 0 + 1 := ⟨_, rfl⟩
  obtain ⟨n1, hn1⟩ : ∃ n, n = 3 * r + 1 + 1 := ⟨_, rfl⟩
  obtain ⟨n2, hn2⟩ : ∃ n, n = 3 * r + 2 + 1 := ⟨_, rfl⟩
  have hx := elem_ref r 0 x
  have hy := elem_ref r 1 y
  have hz := elem_ref r 2 z
  rw [← hn0, ← hp] at hx
  rw [← hn1, ← hq] at hy
  rw [← hn2, ← ht] at hz
  have a1 := fun w => raised_any n0 3 (by omega) w
  have a2 := fun w => r1Add_any (powM bP n0 3) 7 w
  have a3 := fun w => r1Add_any x (addM bP (powM bP n0 3) 7) w
  have a4 := fun w => raised_any (addM bP x (addM bP (powM bP n0 3) 7)) 17 (by omega) w
  rw [hx] at a4
  have b1 := fun w => raised_any n1 3 (by omega) w
  have b2 := fun w => r1Add_any (powM bP n1 3) 7 w
  have b3 := fun w => r1Add_any y (addM bP (powM bP n1 3) 7) w
  have b4 := fun w => raised_any (addM bP y (addM bP (powM bP n1 3) 7)) 17 (by omega) w
  rw [hy] at b4
  have c1 := fun w => raised_any n2 3 (by omega) w
  have c2 := fun w => r1Add_any (powM bP n2 3) 7 w
  have c3 := fun w => r1Add_any z (addM bP (powM bP n2 3) 7) w
  have c4 := fun w => raised_any (addM bP z (addM bP (powM bP n2 3) 7)) 17 (by omega) w
  rw [hz] at c4
  have sg : ∀ a b w, Calls Try.prog 66 #[.int .u64 (a : Nat), .int .u64 (b : Nat)] w fun e w' => e = .returned (.int .u64 (addM bP a b : Nat)) ∧ w' = w := fun a b w => (r1Add_any a b w).mono fun e w' h => ⟨h.1, h.2.symm⟩
  have g1 : addM bP p q = u := hu.symm
  have g2 : addM bP u t = al := hal.symm
  have d1 := fun w => r1Add_any p al w
  have d2 := fun w => r1Add_any q al w
  have d3 := fun w => r1Add_any t al w
  generalize powM bP n0 3 = m0 at *
  generalize powM bP n1 3 = m1 at *
  generalize powM bP n2 3 = m2 at *
  generalize addM bP m0 7 = v0 at *
  generalize addM bP m1 7 = v1 at *
  generalize addM bP m2 7 = v2 at *
  generalize addM bP x v0 = w0 at *
  generalize addM bP y v1 = w1 at *
  generalize addM bP z v2 = w2 at *
  have z0 : (r : Int) < 8 := by omega
  have k0 : 3 * (r : Int) + 1 = (n0 : Int) := by omega
  have k1 : (n0 : Int) + 1 = (n1 : Int) := by omega
  have k2 : 3 * (r : Int) + 2 + 1 = (n2 : Int) := by omega
  have y0 : (n0 : Int) < 30 := by omega
  have y1 : (n1 : Int) < 30 := by omega
  have y2 : (n2 : Int) < 30 := by omega
  rw [HR.out]
  clear hp hq ht hu hal hn0 hn1 hn2 hx hy hz hr HR
  simp only [val3]
  generalize addM bP p al = o0 at *
  generalize addM bP q al = o1 at *
  generalize addM bP t al = o2 at *
  go_enter Try.func75, Try.ntmps75
  go_wp2
  refine wp_loop_rounds 4 ?_
  rw [rounds_succ]
  go_wp2_with (first | (go_at_call 82; refine (a1 _).mono ?_; clear a1; rintro e w' ⟨rfl, rfl⟩) | (go_at_call 66; refine (a2 _).mono ?_; clear a2; rintro e w' ⟨rfl, rfl⟩) | (go_at_call 66; refine (a3 _).mono ?_; clear a3; rintro e w' ⟨rfl, rfl⟩) | (go_at_call 82; refine (a4 _).mono ?_; clear a4; rintro e w' ⟨rfl, rfl⟩))
  rw [rounds_succ]
  go_wp2_with (first | (go_at_call 82; refine (b1 _).mono ?_; clear b1; rintro e w' ⟨rfl, rfl⟩) | (go_at_call 66; refine (b2 _).mono ?_; clear b2; rintro e w' ⟨rfl, rfl⟩) | (go_at_call 66; refine (b3 _).mono ?_; clear b3; rintro e w' ⟨rfl, rfl⟩) | (go_at_call 82; refine (b4 _).mono ?_; clear b4; rintro e w' ⟨rfl, rfl⟩))
  rw [rounds_succ]
  go_wp2_with (first | (go_at_call 82; refine (c1 _).mono ?_; clear c1; rintro e w' ⟨rfl, rfl⟩) | (go_at_call 66; refine (c2 _).mono ?_; clear c2; rintro e w' ⟨rfl, rfl⟩) | (go_at_call 66; refine (c3 _).mono ?_; clear c3; rintro e w' ⟨rfl, rfl⟩) | (go_at_call 82; refine (c4 _).mono ?_; clear c4; rintro e w' ⟨rfl, rfl⟩))
  rw [rounds_succ]
  go_wp2
  go_quiet ((go_at_call 66; exact Calls.quiet_of_same (sg _ _ _)))
  go_wp2
  refine wp_loop_rounds 4 ?_
  rw [rounds_succ]
  go_wp2_with ((go_at_call 66; refine (d1 _).mono ?_; clear d1; rintro e w' ⟨rfl, rfl⟩))
  rw [rounds_succ]
  go_wp2_with ((go_at_call 66; refine (d2 _).mono ?_; clear d2; rintro e w' ⟨rfl, rfl⟩))
  rw [rounds_succ]
  go_wp2_with ((go_at_call 66; refine (d3 _).mono ?_; clear d3; rintro e w' ⟨rfl, rfl⟩))
  rw [rounds_succ]
  go_wp2
  refine bodyPost_ret (v := .agg #[.int .u64 (o0 : Int), .int .u64 (o1 : Int), .int .u64 (o2 : Int)]) (by simp [results, Try.results75, go_sem]) rfl ⟨rfl, ?_⟩
  exact ((((((((((Ext.refl w).alloc _).alloc _).alloc _).drewN _).setCell (p := ⟨w.heap.size + 1 + 1, 0, none⟩) (by simp; omega) _).setCell (p := ⟨w.heap.size + 1 + 1, 1, none⟩) (by simp; omega) _).setCell (p := ⟨w.heap.size + 1 + 1, 2, none⟩) (by simp; omega) _).setCell (p := ⟨w.heap.size + 1, 0, none⟩) (by simp) _).setCell (p := ⟨w.heap.size + 1, 1, none⟩) (by simp) _).setCell (p := ⟨w.heap.size + 1, 2, none⟩) (by simp) _

theorem start2 (w : World) (c1 c2 : Array Value) (T1 T2 : TypeId) : ∃ W, ((w.alloc (.cells c1 T1)).alloc (.cells c2 T2)) = W ∧
    Blk W w.heap.size T1 c1 ∧ Blk W (w.heap.size + 1) T2 c2 ∧ Ext w W := by
  refine ⟨_, rfl, (Blk.new w T1 c1).alloc _, ?_, ((Ext.refl w).alloc _).alloc _⟩
  have := Blk.new (w.alloc (.cells c1 T1)) T2 c2
  simpa using this

set_option maxRecDepth 100000 in
set_option maxHeartbeats 1000000 in
/-- The document's Mix is Mix. -/
theorem rmix_any (s : Nat × Nat × Nat) (w : World) :
    Calls Try.prog 67 #[.agg (val3 s)] w fun e w' => e = .returned (.agg (val3 (mix s))) ∧ Ext w w' := by
  have cr : ∀ k, k < 8 → ∀ w, Calls Try.prog 75 #[.agg (val3 (rnds k s)), .int .i64 (k : Nat)] w fun e w' => e = .returned (.agg (val3 (rnds (k + 1) s))) ∧ Ext w w' := fun k hk w => round_any (rnds k s) k hk w
  unfold val3 at *
  go_enter Try.func67, Try.ntmps67
  go_wp2
  obtain ⟨W0, e0, b0, b1, x0⟩ := start2 w #[.int .u64 (s.1 : Int), .int .u64 (s.2.1 : Int), .int .u64 (s.2.2 : Int)] #[.int .u64 0, .int .u64 0, .int .u64 0] 70 70
  rw [e0]
  obtain ⟨g, hg⟩ : ∃ g, g = w.heap.size := ⟨_, rfl⟩
  rw [← hg] at b0 b1 ⊢
  have HG := Lib.hid hg
  clear e0 hg
  go_loopg [3] 8 (fun n i wr => ∃ k : Nat, k + n = 8 ∧ i = .int .i64 k ∧ Blk wr g 70 (val3 (rnds k s)) ∧ Blk wr (g + 1) 70 #[.int .u64 0, .int .u64 0, .int .u64 0] ∧ Ext w wr)
  case atStart => exact ⟨0, rfl, rfl, b0, b1, x0⟩
  case round =>
    obtain ⟨k, hk, rfl, hb, hb1, hx⟩ := hrel
    clear b0 b1
    have c0 := hb.cell 0
    have c1 := hb.cell 1
    have c2 := hb.cell 2
    simp [val3] at c0 c1 c2
    by_cases h : k < 8
    · have c := cr k h
      clear cr
      obtain ⟨u, hu⟩ : ∃ u, u = rnds k s := ⟨_, rfl⟩
      obtain ⟨v, hv⟩ : ∃ v, v = rnds (k + 1) s := ⟨_, rfl⟩
      rw [← hu] at c0 c1 c2 c hb
      rw [← hv] at c
      have HV := Lib.hid hv
      have HK := Lib.hid hk
      have HB := Lib.hid hb
      have HB1 := Lib.hid hb1
      have z0 : (k : Int) < 8 := by omega
      clear hu hv hk hb hb1
      go_wp2_with (fail)
      refine (c _).mono ?_
      rintro e W ⟨rfl, hw⟩
      have hb := HB.out.below hw.out HB.out.lt
      have hb1 := HB1.out.below hw.out HB1.out.lt
      have d0 := hb.cell 0
      have d1 := hb.cell 1
      have d2 := hb.cell 2
      have f0 := hb.frozen 0
      have f1 := hb.frozen 1
      have f2 := hb.frozen 2
      simp [val3] at d0 d1 d2
      have hk := HK.out
      have hxw := hx.trans hw
      have HB2 := Lib.hid hb
      have HB3 := Lib.hid hb1
      clear hb hb1 c c0 c1 c2 HB HB1
      go_wp2
      go_roundg (gk - 1)
      case measure => omega
      case rel =>
        refine ⟨k + 1, by omega, int_congr (by omega), ?_, ?_, ?_⟩
        · have := ((HB2.out.set_ 0 (.int .u64 (v.1 : Int))).set_ 1 (.int .u64 (v.2.1 : Int))).set_ 2 (.int .u64 (v.2.2 : Int))
          rw [← HV.out]
          simpa [val3] using this
        · exact ((HB3.out.far (p := ⟨g, 0, none⟩) (by simp) _).far (p := ⟨g, 1, none⟩) (by simp) _).far (p := ⟨g, 2, none⟩) (by simp) _
        · have hg := HG.out
          exact ((hxw.setCell (p := ⟨g, 0, none⟩) (by simp [hg]) _).setCell (p := ⟨g, 1, none⟩) (by simp [hg]) _).setCell (p := ⟨g, 2, none⟩) (by simp [hg]) _
    · obtain rfl : k = 8 := by omega
      have v0 := hb1.cell 0
      have v1 := hb1.cell 1
      have v2 := hb1.cell 2
      have f0 := hb1.frozen 0
      have f1 := hb1.frozen 1
      have f2 := hb1.frozen 2
      simp at v0 v1 v2
      clear hk hb hb1 cr
      obtain ⟨u, hu⟩ : ∃ u, u = rnds 8 s := ⟨_, rfl⟩
      rw [← hu] at c0 c1 c2
      have HU := Lib.hid hu
      clear hu
      go_wp2
      refine bodyPost_ret (v := .agg #[.int .u64 (u.1 : Int), .int .u64 (u.2.1 : Int), .int .u64 (u.2.2 : Int)]) (by simp [results, Try.results67, go_sem, v0, v1, v2]) rfl ⟨by rw [HU.out]; rfl, ?_⟩
      have hg := HG.out
      exact ((hx.setCell (p := ⟨g + 1, 0, none⟩) (by simp [hg]) _).setCell (p := ⟨g + 1, 1, none⟩) (by simp [hg]) _).setCell (p := ⟨g + 1, 2, none⟩) (by simp [hg]) _
end Go.Proofs.Ytbomfnlipbdigaa
