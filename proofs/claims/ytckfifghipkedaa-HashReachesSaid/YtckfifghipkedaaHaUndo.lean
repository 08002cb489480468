/- law02.undone, walked. -/
import Derived.Test.YtckfifghipkedaaHaRefMix
import Derived.Test.YtckfifghipkedaaHaTurn
import Derived.Test.YtckfifghipkedaaFd2
import Derived.Test.YtckfifghipkedaaLater
import Derived.Test.YtckfifghipkedaaHaLive
namespace Go.Proofs.Ytckfifghipkedaa
set_option linter.unusedVariables false
open Go.RowKit Go.Shelf

/-- One element undone: what the calls need. -/
theorem cubes (n v : Nat) (hn : n ≤ 24) (hv : v = n * n * n + 7) :
    v < 18446744073709551616 ∧ (n : Int) * (n : Int) * (n : Int) + 7 = (v : Int) ∧ (n : Int) * (n : Int) ≤ 576 ∧ (n : Int) * (n : Int) * (n : Int) ≤ 13824 ∧ 0 ≤ (n : Int) * (n : Int) ∧ 0 ≤ (n : Int) * (n : Int) * (n : Int) ∧ (n : Int) ≤ 24 := by
  have b1 : n * n ≤ 576 := Nat.mul_le_mul hn hn
  have b2 : n * n * n ≤ 13824 := Nat.mul_le_mul b1 hn
  have e1 : (n : Int) * (n : Int) = ((n * n : Nat) : Int) := (Int.natCast_mul _ _).symm
  have e2 : (n : Int) * (n : Int) * (n : Int) = ((n * n * n : Nat) : Int) := by rw [e1, ← Int.natCast_mul]
  refine ⟨by omega, ?_, ?_, ?_, ?_, ?_, by omega⟩ <;> first | (rw [e2]; omega) | (rw [e1]; omega)

theorem put3 {w W : World} {g h : Nat} {T : TypeId} {xs ys hs : Array Value} (b0 : Blk W g T xs) (b1 : Blk W (g + 1) T ys) (b2 : Blk W h T hs) (x : Ext w W) (hw : w.heap.size ≤ g) (hg : g + 1 < h) (i : Nat) (v : Value) :
    ∃ W', W.setCell ⟨h, i, none⟩ v = W' ∧ Blk W' g T xs ∧ Blk W' (g + 1) T ys ∧ Blk W' h T (hs.setIfInBounds i v) ∧ Ext w W' :=
  ⟨_, rfl, b0.far (p := ⟨h, i, none⟩) (by simp only; omega) v, b1.far (p := ⟨h, i, none⟩) (by simp only; omega) v, b2.set_ i v, x.setCell (p := ⟨h, i, none⟩) (by simp only; omega) v⟩

set_option maxRecDepth 100000 in
set_option maxHeartbeats 2000000 in
theorem undone_any (s : Nat × Nat × Nat) (hs : ok3 s) (r : Nat) (hr : r < 8) (w : World) :
    Calls Try.prog 32 #[.agg (val3 s), .int .i64 r] w fun e w' => e = .returned (.agg (val3 (undo r s))) ∧ Ext w w' := by
  obtain ⟨x, y, z⟩ := s
  obtain ⟨hx, hy, hz⟩ := hs
  simp only at hx hy hz
  obtain ⟨u, hu⟩ : ∃ u, u = addM bP x y := ⟨_, rfl⟩
  obtain ⟨t, ht⟩ : ∃ t, t = addM bP u z := ⟨_, rfl⟩
  obtain ⟨al, hal⟩ : ∃ al, al = mulM bP 576460752303423488 t := ⟨_, rfl⟩
  have lu : u < 18446744073709551616 := by rw [hu]; exact Nat.lt_trans (addP_lt _ _) (by decide)
  have lt : t < 18446744073709551616 := by rw [ht]; exact Nat.lt_trans (addP_lt _ _) (by decide)
  have lal : al < 18446744073709551616 := by rw [hal]; exact Nat.lt_trans (mulM_lt (by decide) _ _) (by decide)
  obtain ⟨n0, hn0⟩ : ∃ n, n = 3 * r + 0 + 1 := ⟨_, rfl⟩
  obtain ⟨v0, hv0⟩ : ∃ v, v = n0 * n0 * n0 + 7 := ⟨_, rfl⟩
  obtain ⟨d0, hd0⟩ : ∃ d, d = subP x al := ⟨_, rfl⟩
  obtain ⟨e0, he0⟩ : ∃ e, e = powM bP d0 1763291712928118903 := ⟨_, rfl⟩
  obtain ⟨o0, ho0⟩ : ∃ o, o = subP e0 v0 := ⟨_, rfl⟩
  have ld0 : d0 < 18446744073709551616 := by rw [hd0]; exact Nat.lt_trans (subP_lt _ _) (by decide)
  have le0 : e0 < 18446744073709551616 := by rw [he0]; exact Nat.lt_trans (powM_lt (by decide) _ _) (by decide)
  obtain ⟨lv0, kv0, y01, y02, y03, y04, y05⟩ := cubes n0 v0 (by omega) hv0
  have hU0 : und r 0 x al = o0 := by unfold und; rw [← hn0, ← hv0, ← hd0, ← he0, ← ho0]
  have a0 := fun w => fSub_any x al hx lal w
  rw [← hd0] at a0
  have b0 := fun w => fPow_any d0 1763291712928118903 ld0 (by decide) w
  rw [← he0] at b0
  simp only [Int.cast_ofNat_Int] at b0
  have c0 := fun w => fSub_any e0 v0 le0 lv0 w
  rw [← ho0] at c0
  obtain ⟨n1, hn1⟩ : ∃ n, n = 3 * r + 1 + 1 := ⟨_, rfl⟩
  obtain ⟨v1, hv1⟩ : ∃ v, v = n1 * n1 * n1 + 7 := ⟨_, rfl⟩
  obtain ⟨d1, hd1⟩ : ∃ d, d = subP y al := ⟨_, rfl⟩
  obtain ⟨e1, he1⟩ : ∃ e, e = powM bP d1 1763291712928118903 := ⟨_, rfl⟩
  obtain ⟨o1, ho1⟩ : ∃ o, o = subP e1 v1 := ⟨_, rfl⟩
  have ld1 : d1 < 18446744073709551616 := by rw [hd1]; exact Nat.lt_trans (subP_lt _ _) (by decide)
  have le1 : e1 < 18446744073709551616 := by rw [he1]; exact Nat.lt_trans (powM_lt (by decide) _ _) (by decide)
  obtain ⟨lv1, kv1, y11, y12, y13, y14, y15⟩ := cubes n1 v1 (by omega) hv1
  have hU1 : und r 1 y al = o1 := by unfold und; rw [← hn1, ← hv1, ← hd1, ← he1, ← ho1]
  have a1 := fun w => fSub_any y al hy lal w
  rw [← hd1] at a1
  have b1 := fun w => fPow_any d1 1763291712928118903 ld1 (by decide) w
  rw [← he1] at b1
  simp only [Int.cast_ofNat_Int] at b1
  have c1 := fun w => fSub_any e1 v1 le1 lv1 w
  rw [← ho1] at c1
  obtain ⟨n2, hn2⟩ : ∃ n, n = 3 * r + 2 + 1 := ⟨_, rfl⟩
  obtain ⟨v2, hv2⟩ : ∃ v, v = n2 * n2 * n2 + 7 := ⟨_, rfl⟩
  obtain ⟨d2, hd2⟩ : ∃ d, d = subP z al := ⟨_, rfl⟩
  obtain ⟨e2, he2⟩ : ∃ e, e = powM bP d2 1763291712928118903 := ⟨_, rfl⟩
  obtain ⟨o2, ho2⟩ : ∃ o, o = subP e2 v2 := ⟨_, rfl⟩
  have ld2 : d2 < 18446744073709551616 := by rw [hd2]; exact Nat.lt_trans (subP_lt _ _) (by decide)
  have le2 : e2 < 18446744073709551616 := by rw [he2]; exact Nat.lt_trans (powM_lt (by decide) _ _) (by decide)
  obtain ⟨lv2, kv2, y21, y22, y23, y24, y25⟩ := cubes n2 v2 (by omega) hv2
  have hU2 : und r 2 z al = o2 := by unfold und; rw [← hn2, ← hv2, ← hd2, ← he2, ← ho2]
  have a2 := fun w => fSub_any z al hz lal w
  rw [← hd2] at a2
  have b2 := fun w => fPow_any d2 1763291712928118903 ld2 (by decide) w
  rw [← he2] at b2
  simp only [Int.cast_ofNat_Int] at b2
  have c2 := fun w => fSub_any e2 v2 le2 lv2 w
  rw [← ho2] at c2
  have HR : Hid (val3 (undo r (x, y, z)) = #[.int .u64 (o0 : Int), .int .u64 (o1 : Int), .int .u64 (o2 : Int)]) := by
    show _ = _
    unfold undo; simp only [← hu, ← ht, ← hal, hU0, hU1, hU2]; rfl
  have m0 := fun w => fInv4_any w
  have s1 : ∀ w, Calls Try.prog 30 #[.int .u64 (x : Nat), .int .u64 (y : Nat)] w fun e w' => e = .returned (.int .u64 (u : Nat)) ∧ w = w' := fun w => (fAdd_any x y hx hy w).mono fun e w' h => ⟨by rw [hu]; exact h.1, h.2⟩
  have s2 : ∀ w, Calls Try.prog 30 #[.int .u64 (u : Nat), .int .u64 (z : Nat)] w fun e w' => e = .returned (.int .u64 (t : Nat)) ∧ w = w' := fun w => (fAdd_any u z lu hz w).mono fun e w' h => ⟨by rw [ht]; exact h.1, h.2⟩
  have s3 : ∀ w, Calls Try.prog 51 #[.int .u64 576460752303423488, .int .u64 (t : Nat)] w fun e w' => e = .returned (.int .u64 (al : Nat)) ∧ w = w' := fun w => (fMul_any 576460752303423488 t (by decide) lt w).mono fun e w' h => ⟨by rw [hal]; exact h.1, h.2⟩
  obtain ⟨qq, hqq⟩ : ∃ qq, qq = quarter := ⟨_, rfl⟩
  rw [← hqq] at m0
  have s3 : ∀ w, Calls Try.prog 51 #[.int .u64 (qq : Nat), .int .u64 (t : Nat)] w fun e w' => e = .returned (.int .u64 (al : Nat)) ∧ w = w' := by rw [hqq]; exact s3
  clear hqq
  have z0 : (r : Int) < 8 := by omega
  have k0 : 3 * (r : Int) + 1 = (n0 : Int) := by omega
  have k1 : (n0 : Int) + 1 = (n1 : Int) := by omega
  have k2 : 3 * (r : Int) + 2 + 1 = (n2 : Int) := by omega
  rw [HR.out]
  clear hu ht hal lu lt lal hx hy hz hr HR hn0 hv0 hd0 he0 ho0 ld0 le0 lv0 hU0 hn1 hv1 hd1 he1 ho1 ld1 le1 lv1 hU1 hn2 hv2 hd2 he2 ho2 ld2 le2 lv2 hU2
  simp only [val3]
  go_enter Try.func32, Try.ntmps32
  go_wp2_with ((go_at_call 50; refine (m0 _).mono ?_; clear m0; rintro e w' ⟨rfl, rfl⟩))
  obtain ⟨W0, e0, b0, b1, x0⟩ := start2 w #[.int .u64 (x : Int), .int .u64 (y : Int), .int .u64 (z : Int)] #[.int .u64 0, .int .u64 0, .int .u64 0] 23 23
  rw [e0]
  obtain ⟨g, hg⟩ : ∃ g, g = w.heap.size := ⟨_, rfl⟩
  rw [← hg] at b0 b1 ⊢
  have HG := Lib.hid hg
  obtain ⟨p0, p1, p2⟩ := arr3 b0
  have k00 := fun i : Later W0 => i.cell p0
  have k01 := fun i : Later W0 => i.cell p1
  have k02 := fun i : Later W0 => i.cell p2
  have B0 := Lib.hid b0
  have B1 := Lib.hid b1
  clear e0 hg b0 b1 p0 p1 p2
  refine wp_region_later (by kernel_rfl) (by kernel_rfl) ?_
  repeat (go_big_quiet_step (fail))
  (go_big_quiet_step ((go_at_call 30; exact Later.same (s1 _))))
  repeat (go_big_quiet_step (fail))
  (go_big_quiet_step ((go_at_call 30; exact Later.same (s2 _))))
  repeat (go_big_quiet_step (fail))
  (go_big_quiet_step ((go_at_call 51; exact Later.same (s3 _))))
  repeat (go_big_quiet_step (fail))
  refine wpQuiet_nil ?_
  rintro W1 ⟨i1, hi1⟩
  have x1 : Ext W0 W1 := by rw [hi1]; exact i1.ext
  clear hi1 i1
  clear s1 s2 s3 k00 k01 k02
  have b0 := ext_blk x1 B0.out
  have b1 := ext_blk x1 B1.out
  obtain ⟨W2, e2, c0, c1', c2', x2⟩ : ∃ W2, W1.alloc (.cells #[.int .u64 0, .int .u64 0, .int .u64 0] 23) = W2 ∧ Blk W2 g 23 #[.int .u64 (x : Int), .int .u64 (y : Int), .int .u64 (z : Int)] ∧ Blk W2 (g + 1) 23 #[.int .u64 0, .int .u64 0, .int .u64 0] ∧ Blk W2 W1.heap.size 23 #[.int .u64 0, .int .u64 0, .int .u64 0] ∧ Ext w W2 :=
    ⟨_, rfl, b0.alloc _, b1.alloc _, Blk.new W1 _ _, (x0.trans x1).alloc _⟩
  have hg1 : g + 1 < W1.heap.size := b1.lt
  obtain ⟨h, hh⟩ : ∃ h, h = W1.heap.size := ⟨_, rfl⟩
  clear b0 b1 B0 B1 x1
  go_wp2
  rw [← hh] at c2' hg1 ⊢
  have hgw : w.heap.size ≤ g := by rw [HG.out]; exact Nat.le_refl _
  clear e2 hh x0
  obtain ⟨q0, q1, q2⟩ := arr3 c0
  have r0 := c2'.cell 0
  have r1 := c2'.frozen 0
  simp at r0
  have C0 := Lib.hid c0
  have C1 := Lib.hid c1'
  have C2 := Lib.hid c2'
  have X2 := Lib.hid x2
  have HW := Lib.hid hgw
  clear c0 c1' c2' x2 hgw HG
  refine wp_loop_rounds 4 ?_
  rw [rounds_succ]
  go_wp2_with (first | (go_at_call 52; (with_reducible refine (a0 _).mono ?_); clear a0; rintro e w' ⟨rfl, rfl⟩) | (go_at_call 53; refine (b0 _).mono ?_; clear b0; rintro e w' ⟨rfl, rfl⟩) | (go_at_call 52; (with_reducible refine (c0 _).mono ?_); clear c0; rintro e w' ⟨rfl, rfl⟩))
  obtain ⟨V0, e0', c0, c1', c2', x2⟩ := put3 C0.out C1.out C2.out X2.out HW.out hg1 0 (.int .u64 (o0 : Int))
  rw [e0']
  simp only [List.setIfInBounds_toArray, List.set_cons_zero] at c2'
  clear e0' q0 q1 q2 r0 r1 C0 C1 C2 X2
  obtain ⟨q0, q1, q2⟩ := arr3 c0
  have r0 := c2'.cell 1
  have r1 := c2'.frozen 1
  simp at r0
  have C0 := Lib.hid c0
  have C1 := Lib.hid c1'
  have C2 := Lib.hid c2'
  have X2 := Lib.hid x2
  clear c0 c1' c2' x2
  rw [rounds_succ]
  go_wp2_with (first | (go_at_call 52; (with_reducible refine (a1 _).mono ?_); clear a1; rintro e w' ⟨rfl, rfl⟩) | (go_at_call 53; refine (b1 _).mono ?_; clear b1; rintro e w' ⟨rfl, rfl⟩) | (go_at_call 52; (with_reducible refine (c1 _).mono ?_); clear c1; rintro e w' ⟨rfl, rfl⟩))
  obtain ⟨V1, e1', c0, c1', c2', x2⟩ := put3 C0.out C1.out C2.out X2.out HW.out hg1 1 (.int .u64 (o1 : Int))
  rw [e1']
  simp only [List.setIfInBounds_toArray, List.set_cons_zero, List.set_cons_succ] at c2'
  clear e1' q0 q1 q2 r0 r1 C0 C1 C2 X2
  obtain ⟨q0, q1, q2⟩ := arr3 c0
  have r0 := c2'.cell 2
  have r1 := c2'.frozen 2
  simp at r0
  have C0 := Lib.hid c0
  have C1 := Lib.hid c1'
  have C2 := Lib.hid c2'
  have X2 := Lib.hid x2
  clear c0 c1' c2' x2
  rw [rounds_succ]
  go_wp2_with (first | (go_at_call 52; (with_reducible refine (a2 _).mono ?_); clear a2; rintro e w' ⟨rfl, rfl⟩) | (go_at_call 53; refine (b2 _).mono ?_; clear b2; rintro e w' ⟨rfl, rfl⟩) | (go_at_call 52; (with_reducible refine (c2 _).mono ?_); clear c2; rintro e w' ⟨rfl, rfl⟩))
  obtain ⟨V2, e2', c0, c1', c2', x2⟩ := put3 C0.out C1.out C2.out X2.out HW.out hg1 2 (.int .u64 (o2 : Int))
  rw [e2']
  simp only [List.setIfInBounds_toArray, List.set_cons_zero, List.set_cons_succ] at c2'
  clear e2' q0 q1 q2 r0 r1 C0 C1 C2 X2
  obtain ⟨q0, q1, q2⟩ := arr3 c0
  have r0 := c2'.cell 0
  have r1 := c2'.frozen 0
  simp at r0
  have r2 := c2'.cell 1
  have r3 := c2'.cell 2
  have t0 := c1'.cell 0
  have t1 := c1'.cell 1
  have t2 := c1'.cell 2
  have t3 := c1'.frozen 0
  have t4 := c1'.frozen 1
  have t5 := c1'.frozen 2
  simp at r2 r3 t0 t1 t2
  have C0 := Lib.hid c0
  have C1 := Lib.hid c1'
  have C2 := Lib.hid c2'
  have X2 := Lib.hid x2
  clear c0 c1' c2' x2
  rw [rounds_succ]
  go_wp2
  have hw1 : w.heap.size ≤ g + 1 := Nat.le_succ_of_le HW.out
  refine bodyPost_ret (v := .agg #[.int .u64 (o0 : Int), .int .u64 (o1 : Int), .int .u64 (o2 : Int)]) (by simp [results, Try.results32, go_sem, t0, t1, t2]) rfl ⟨rfl, ?_⟩
  exact ((X2.out.setCell (p := ⟨g + 1, 0, none⟩) hw1 _).setCell (p := ⟨g + 1, 1, none⟩) hw1 _).setCell (p := ⟨g + 1, 2, none⟩) hw1 _
end Go.Proofs.Ytckfifghipkedaa
