/- Parts of the proofs, put together: MkC. -/
import Derived.Test.YtfpmfegmehbfbaaGreatDoorW26
import Derived.Test.YtfpmfegmehbfbaaGreatDoorW32
import Derived.Test.YtfpmfegmehbfbaaGreatDoorW36
/- Trees of hashes, walked: CheckGrow. -/
namespace Go.Proofs.YtfpmfegmehbfbaaGreatDoor
set_option linter.unusedVariables false
set_option linter.unusedSimpArgs false
set_option linter.unusedSimpArgs false
open Go.RowKit Go.Shelf Go.Maps

set_option maxRecDepth 100000 in
theorem slice_ls (A : Option Addr) (n c m : Nat) (hm : m ≤ n) (w : World) : (Instr.slice 42 (.slice A n c) (some (.int .i64 (m : Int))) none none).run Tryz.prog w = .ok (sliced A m n c 2) w := by
  rw [run_slice_l w 42 A n c Tryz.underlying42 .i64 (m : Int) (by omega) (by omega)]
  have : (sizeOf (Tryz.prog.elem 42)).run Tryz.prog w = .ok 2 w := by kernel_rfl
  rw [this]
  rfl
theorem tab_ext {g : Nat} {tab : List Nat} {w w' : World} (h : TabAt g tab w) (x : Ext w w') : TabAt g tab w' := fun j hj => x.cell (h j hj)
/-- The table that counts zeros at a number's end. -/
def TabW (w : World) : Prop := TabAt (Tryz.lays27_ren.g 1) Lib.deBruijn64tab w
theorem tz_any (m : Nat) (hm : m < 64) (w : World) (h : TabW w) : Calls Tryz.prog 55 #[.int .u64 m] w fun e w' => e = .returned (.int .i64 (lowN m : Nat)) ∧ w = w' :=
  (Any7.bits_TrailingZeros Tryz.lays27 m (by omega) w (fun _ => h)).mono fun e w' ⟨he, hw⟩ => ⟨he, hw.symm⟩
/-- Two sums on the way up. -/
def CgJ (b c : Nat) (x : (Nat × Nat) × (Nat × Nat)) (w : World) : Prop := SBox b x.1 w ∧ SBox c x.2 w
theorem cg_climb (b c B : Nat) (hbc : b ≠ c) (hB : B ≤ b) (hC : B ≤ c) (l : List (Nat × Nat)) (hl : l.length < 64) (a n : Nat) (ha : a < n) (hn : n ≤ 64) (A : Option Addr) (k : Nat) (f : Nat × Nat) (w : World) (hW : B ≤ w.heap.size) (hr : Reads w B 2 A l.length (sumV l)) (h1 : SBox b f w) (h2 : SBox c f w) :
    Calls Tryz.prog 56 #[.int .i64 a, .int .i64 n, .slice A l.length k, .func (.func 57) #[] #[.pointer (some ⟨b, 0, none⟩), .pointer (some ⟨c, 0, none⟩)], .func (.func 59) #[] #[.pointer (some ⟨c, 0, none⟩)]] w fun e w' => e = .returned (.tuple #[]) ∧
      CgJ b c (climbF (fun (x : (Nat × Nat) × (Nat × Nat)) p => (prS p x.1, prS p x.2)) (fun x p => (x.1, prS x.2 p)) l a (n - 1) (f, f)) w' ∧ Below B w w' :=
  climb_any 57 59 cg1_enters cg2_enters #[.pointer (some ⟨b, 0, none⟩), .pointer (some ⟨c, 0, none⟩)] #[.pointer (some ⟨c, 0, none⟩)]
    (fun (x : (Nat × Nat) × (Nat × Nat)) p => (prS p x.1, prS p x.2)) (fun x p => (x.1, prS x.2 p)) B (CgJ b c)
    (fun x W W' h _ e => ⟨h.1.ext e, h.2.ext e⟩)
    (fun x p W h hW => (cg1_any b c hbc x.1 x.2 p B hB hC W hW h.1 h.2).mono fun e w' ⟨h1, h2, h3, h4⟩ => ⟨h1, ⟨h2, h3⟩, h4⟩)
    (fun x p W h hW => (cg2_any c x.2 p B hC W hW h.2).mono fun e w' ⟨h1, h2, h3, h4⟩ => ⟨h1, ⟨h4 b x.1 hbc h.1, h2⟩, h3⟩)
    l hl a n ha hn A k (f, f) w hW hr ⟨h1, h2⟩
set_option maxRecDepth 100000 in
set_option maxHeartbeats 4000000 in
theorem cgS_any (n : Nat) (h0 : 0 < n) (hn : n ≤ 31) (a : Nat × Nat) (A : Option Addr) (c : Nat) (w : World) :
    Calls Tryz.prog 11 #[.int .i64 n, .int .i64 n, .agg #[.int .u64 (a.1 : Int), .int .u64 (a.2 : Int)], .agg #[.int .u64 (a.1 : Int), .int .u64 (a.2 : Int)], .slice A 0 c] w fun e w' => e = .returned (.int .i64 0) ∧ Ext w w' := by
  obtain ⟨W0, e0⟩ : ∃ W, (w.alloc (.cells #[.int .u64 (a.1 : Int), .int .u64 (a.2 : Int)] 34)).alloc (.cells #[.int .u64 (a.1 : Int), .int .u64 (a.2 : Int)] 34) = W := ⟨_, rfl⟩
  have b0 : Blk W0 w.heap.size 34 #[.int .u64 (a.1 : Int), .int .u64 (a.2 : Int)] := by rw [← e0]; exact (Blk.new _ _ _).alloc _
  have b1 : Blk W0 (w.heap.size + 1) 34 #[.int .u64 (a.1 : Int), .int .u64 (a.2 : Int)] := by
    rw [← e0]
    have := Blk.new (w.alloc (.cells #[.int .u64 (a.1 : Int), .int .u64 (a.2 : Int)] 34)) 34 #[.int .u64 (a.1 : Int), .int .u64 (a.2 : Int)]
    simpa using this
  have x0 : Ext w W0 := by rw [← e0]; exact ((Ext.refl w).alloc _).alloc _
  have m0 := b0.cell 0
  have m1 := b0.cell 1
  have m2 := b1.cell 0
  have m3 := b1.cell 1
  have mixed : Tryz.prog.follows .mixedOrders = true := by kernel_rfl
  have q1 := eq2_same (a.1 : Int) (a.2 : Int)
  have d0 : ((n : Int) == 0) = false := by simp; omega
  have d1 : decide ((n : Int) = 0) = false := by simp; omega
  have d2 : decide (0 < (n : Int)) = true := by simp; omega
  have hn0 : ¬ (n : Int) = 0 := by omega
  have hnb : (n : Int) ≤ 31 := by omega
  have HX := Lib.hid x0
  clear b0 b1 x0 h0 hn
  go_enter Tryz.func11, Tryz.ntmps11
  go_upto_region 1 with (fail)
  try rw [e0]
  clear e0
  go_upto_region 6 with (fail)
  go_quiet (fail)
  go_wp2
  go_ret
  exact ⟨rfl, HX.out.drewN _⟩
set_option maxRecDepth 100000 in
set_option maxHeartbeats 8000000 in
theorem cgL_any (l : List (Nat × Nat)) (hl : l.length ≤ 31) (m : Nat) (h0 : 0 < m) (hm : m < l.length) (A : Option Addr) (c : Nat) (hc : (growG prS zS true l m).length ≤ c) (w : World) (hr : Reads w w.heap.size 2 A (growG prS zS true l m).length (sumV (growG prS zS true l m))) (hT : TabW w) :
    Calls Tryz.prog 11 #[.int .i64 m, .int .i64 l.length, .agg #[.int .u64 ((rootF prS zS (l.take m)).1 : Int), .int .u64 ((rootF prS zS (l.take m)).2 : Int)], .agg #[.int .u64 ((rootF prS zS l).1 : Int), .int .u64 ((rootF prS zS l).2 : Int)], .slice A (growG prS zS true l m).length c] w fun e w' => e = .returned (.int .i64 0) ∧ Ext w w' := by
  obtain ⟨ps, f, ⟨h1, h2⟩, hlen, hclimb, hyes, hno⟩ := grow_checks prS zS l m (by omega) h0 hm
  obtain ⟨a, ha⟩ : ∃ a, rootF prS zS (l.take m) = a := ⟨_, rfl⟩
  obtain ⟨b, hb⟩ : ∃ a, rootF prS zS l = a := ⟨_, rfl⟩
  obtain ⟨n, hn⟩ : ∃ n, l.length = n := ⟨_, rfl⟩
  obtain ⟨G, hG⟩ : ∃ G, growG prS zS true l m = G := ⟨_, rfl⟩
  rw [ha, hb] at hclimb
  rw [ha, hG] at hyes
  rw [hG] at hno hr hc
  rw [hn] at hlen hclimb hl hm
  rw [ha, hb, hn, hG]
  clear h1 h2 ha hb hn hG
  obtain ⟨m1, hm1⟩ : ∃ k, m - 1 = k := ⟨_, rfl⟩
  rw [hm1] at hlen hclimb
  have hlw := (low_bits m (by omega) h0).2
  have cTz := fun w h => tz_any m (by omega) w h
  have cS := fun w => steps_any m1 n (by omega) (by omega) (by omega) w
  obtain ⟨lw, hlwe⟩ : ∃ k, lowN m = k := ⟨_, rfl⟩
  obtain ⟨I, hI⟩ : ∃ k, innerN m1 (n - 1) = k := ⟨_, rfl⟩
  obtain ⟨D, hD⟩ : ∃ k, onesF (m1 / 2 ^ I) = k := ⟨_, rfl⟩
  rw [hI, hD] at hlen cS
  rw [hlwe] at hlen hclimb hyes hno hlw cTz
  have hIb : I ≤ 6 := by rw [← hI]; exact inner_le m1 (by omega) (n - 1) (by omega)
  obtain ⟨pw, hpw⟩ : ∃ k, 2 ^ lw = k := ⟨_, rfl⟩
  have hpw' : (2 : Int) ^ lw = (pw : Int) := by rw [← hpw]; push_cast; rfl
  have hpwb : pw ≤ 32 := by
    rw [← hpw]
    have := Nat.pow_le_pow_right (n := 2) (by omega) hlw
    have e : (2 : Nat) ^ 5 = 32 := by decide
    omega
  rw [hpw] at hclimb hyes hno
  obtain ⟨at1, hat1⟩ : ∃ k, m1 / pw = k := ⟨_, rfl⟩
  obtain ⟨la1, hla1⟩ : ∃ k, (n - 1) / pw = k := ⟨_, rfl⟩
  have hle : at1 ≤ la1 := by rw [← hat1, ← hla1]; exact Nat.div_le_div_right (by omega)
  have hlab : la1 ≤ 31 := by rw [← hla1]; exact Nat.le_trans (Nat.div_le_self _ _) (by omega)
  have k1 : (m1 : Int) / (2 : Int) ^ lw = (at1 : Int) := by rw [hpw', ← hat1]; push_cast; rfl
  obtain ⟨n1, hn1⟩ : ∃ k, n - 1 = k := ⟨_, rfl⟩
  have k2 : (n1 : Int) / (2 : Int) ^ lw = (la1 : Int) := by rw [hpw', ← hla1, ← hn1]; push_cast; rfl
  have k1' : (m1 : Int) / (pw : Int) = (at1 : Int) := by rw [← hat1]; push_cast; rfl
  have k2' : (n1 : Int) / (pw : Int) = (la1 : Int) := by rw [← hla1, ← hn1]; push_cast; rfl
  rw [hat1, hla1] at hclimb
  have e1 : (m : Int) - 1 = (m1 : Int) := by omega
  have e2 : (n : Int) - 1 = (n1 : Int) := by omega
  have hpl : ps.length ≤ 40 := by
    have : D ≤ 31 := by
      rw [← hD]
      have : m1 / 2 ^ I < 32 := Nat.lt_of_le_of_lt (Nat.div_le_self _ _) (by omega)
      rw [ones_fuel 5 _ (by simpa using this)]
      have : ∀ k < 32, onesG 5 k ≤ 31 := by decide +kernel
      exact this _ (by omega)
    omega
  have hDb : D ≤ 46 := by omega
  have mixed : Tryz.prog.follows .mixedOrders = true := by kernel_rfl
  have qa := eq2_same (a.1 : Int) (a.2 : Int)
  have qb := eq2_same (b.1 : Int) (b.2 : Int)
  have d0 : ((m : Int) == 0) = false := by simp; omega
  have d1 : ((m : Int) == (n : Int)) = false := by simp; omega
  have d2 : ¬ (m : Int) = 0 := by omega
  have d3 : ¬ (m : Int) = (n : Int) := by omega
  have d4 : (m : Int) ≤ (n : Int) := by omega
  have hnb : (n : Int) ≤ 31 := by omega
  have hIb' : (I : Int) ≤ 6 := by omega
  have hDb' : (D : Int) ≤ 46 := by omega
  have hlb' : (lw : Int) ≤ 5 := by omega
  have hpb' : (pw : Int) ≤ 32 := by omega
  have hlab' : (la1 : Int) ≤ 31 := by omega
  obtain ⟨W0, e0⟩ : ∃ W, (w.alloc (.cells #[.int .u64 (a.1 : Int), .int .u64 (a.2 : Int)] 34)).alloc (.cells #[.int .u64 (b.1 : Int), .int .u64 (b.2 : Int)] 34) = W := ⟨_, rfl⟩
  have b0 : Blk W0 w.heap.size 34 #[.int .u64 (a.1 : Int), .int .u64 (a.2 : Int)] := by rw [← e0]; exact (Blk.new _ _ _).alloc _
  have b1 : Blk W0 (w.heap.size + 1) 34 #[.int .u64 (b.1 : Int), .int .u64 (b.2 : Int)] := by
    rw [← e0]
    have := Blk.new (w.alloc (.cells #[.int .u64 (a.1 : Int), .int .u64 (a.2 : Int)] 34)) 34 #[.int .u64 (b.1 : Int), .int .u64 (b.2 : Int)]
    simpa using this
  have x0 : Ext w W0 := by rw [← e0]; exact ((Ext.refl w).alloc _).alloc _
  have s0 : W0.heap.size = w.heap.size + 2 := by rw [← e0]; simp
  have m0 := b0.cell 0
  have m1' := b0.cell 1
  have HB0 := Lib.hid b0
  have HB1 := Lib.hid b1
  have HX0 := Lib.hid x0
  have HT0 := Lib.hid (tab_ext hT x0)
  obtain ⟨W1, e3⟩ : ∃ W, W0.alloc (.cells #[.int .u64 (a.1 : Int), .int .u64 (a.2 : Int)] 34) = W := ⟨_, rfl⟩
  have b2 : Blk W1 W0.heap.size 34 #[.int .u64 (a.1 : Int), .int .u64 (a.2 : Int)] := by rw [← e3]; exact Blk.new _ _ _
  have x1 : Ext W0 W1 := by rw [← e3]; exact (Ext.refl _).alloc _
  have s1 : W1.heap.size = w.heap.size + 3 := by rw [← e3]; simp; omega
  have HB2 := Lib.hid b2
  have HX1 := Lib.hid x1
  have HS : Hid (W0.heap.size = w.heap.size + 2 ∧ W1.heap.size = w.heap.size + 3) := Lib.hid ⟨s0, s1⟩
  have HCL := Lib.hid hclimb
  have HR := Lib.hid hr
  have HLE : Hid (at1 ≤ la1 ∧ la1 ≤ 31 ∧ ps.length ≤ 40) := Lib.hid ⟨hle, hlab, hpl⟩
  clear b0 b1 x0 b2 x1 s0 s1 hclimb hr hI hD hlwe hpw hat1 hla1 hn1 hT hle hlab hl hlw hIb hpwb hDb hm1
  by_cases hp : m = pw
  · obtain ⟨hG, hfa⟩ := hyes hp
    subst hG
    clear hyes hno
    subst hfa
    have t1 : ((m : Int) != (pw : Int)) = false := by simp; omega
    have t2 : decide ((m : Int) = (pw : Int)) = true := by simp; omega
    have t3 : (m : Int) = (pw : Int) := by omega
    have t4 : (G.length : Int) = (I : Int) - (lw : Int) + (D : Int) := by omega
    have t5 : ((G.length : Int) != (I : Int) - (lw : Int) + (D : Int)) = false := by simp; omega
    have HC := Lib.hid hc
    have HPW : Hid (m = pw) := Lib.hid hp
    clear hp h0 hm hc hlen hpl
    have HT3 := Lib.hid t3
    have HT4 := Lib.hid t4
    clear t3 t4
    go_enter Tryz.func11, Tryz.ntmps11
    go_upto_region 1 with (fail)
    try rw [e0]
    clear e0
    go_upto_region 14 with (first
      | (go_at_call 54; refine (cS _).mono ?_; clear cS; rintro e w' ⟨rfl, rfl⟩)
      | (go_at_call 55; refine (cTz _ HT0.out).mono ?_; clear cTz; rintro e w' ⟨rfl, rfl⟩))
    try rw [e3]
    clear e3 m0 m1'
    have m0 := HB2.out.cell 0
    have m1' := HB2.out.cell 1
    have n0 := fun o => (HB2.out.alloc o).cell 0
    have n1' := fun o => (HB2.out.alloc o).cell 1
    have n2 := fun o o' => ((HB2.out.alloc o).alloc o').cell 0
    have n3 := fun o o' => ((HB2.out.alloc o).alloc o').cell 1
    go_upto_region 20 with (fail)
    go_region
    all_goals
      obtain ⟨V, hV⟩ : ∃ V, ((W1.alloc (.cells #[.int .u64 (f.1 : Int), .int .u64 (f.2 : Int)] 34)).alloc (.cells #[.int .u64 (f.1 : Int), .int .u64 (f.2 : Int)] 34)).drew = V := ⟨_, rfl⟩
      have v1 : SBox W1.heap.size f V := by
        show Blk _ _ _ _
        rw [← hV]
        exact (((Blk.new W1 _ _).alloc _).drew)
      have v2 : SBox (W1.heap.size + 1) f V := by
        show Blk _ _ _ _
        rw [← hV]
        have := Blk.new (W1.alloc (.cells #[.int .u64 (f.1 : Int), .int .u64 (f.2 : Int)] 34)) 34 #[.int .u64 (f.1 : Int), .int .u64 (f.2 : Int)]
        simpa using this.drew
      have xv : Ext W1 V := by rw [← hV]; exact (((Ext.refl W1).alloc _).alloc _).drew
      rw [hV]
      have HXV := Lib.hid xv
      have HSV : Hid (W1.heap.size ≤ V.heap.size) := Lib.hid xv.size
      have HRV : Hid (Reads V W1.heap.size 2 A G.length (sumV G)) := Lib.hid (((HR.out.below HX0.out.out).below (Below.mono HX1.out.out HX0.out.size) |>.more (Nat.le_trans HX0.out.size HX1.out.size)).below xv.out)
      clear hV m0 m1' n0 n1' n2 n3 xv
    · have cCl := fun V' (e : Ext V V') => cg_climb (W1.heap.size) (W1.heap.size + 1) W1.heap.size (by omega) (by omega) (by omega) G (by have := HLE.out; omega) at1 (la1 + 1) (by have := HLE.out; omega) (by have := HLE.out; omega) A c f V' (Nat.le_trans HSV.out e.size) (HRV.out.below (Below.mono e.out HSV.out)) (v1.ext e) (v2.ext e)
      rw [Nat.add_sub_cancel, HCL.out] at cCl
      have ec : ((la1 + 1 : Nat) : Int) = (la1 : Int) + 1 := by omega
      simp only [ec] at cCl
      clear v1 v2
      have u1 : IntKind.i64.wrap (m1 : Int) = (m1 : Int) := by rw [IntKind.wrap_i64]; omega
      have u2 : IntKind.i64.wrap (n1 : Int) = (n1 : Int) := by rw [IntKind.wrap_i64]; omega
      have u3 : IntKind.i64.wrap ((la1 : Int) + 1) = (la1 : Int) + 1 := by rw [IntKind.wrap_i64]; omega
      go_upto_region 21 with (fail)
      refine F_start (n := 13) (ls := #[false, false, false, false, false, false, false, false, false, false, false, false, false]) (fun _ => True) 13 (by kernel_rfl) (by kernel_rfl) (by kernel_rfl) trivial (fun hHeld => ?_)
      refine F_pure (i := 0) (some 92) (ls' := #[true, false, false, false, false, false, false, false, false, false, false, false, false]) rfl rfl (by kernel_rfl) (by kernel_rfl) (by kernel_rfl) (by kernel_rfl) (by rfl) (v := ?_) ?_ ?_
      rotate_left 1
      · intro w; go_simp; try with_reducible rfl
      try simp only [Act.put, List.setIfInBounds_toArray, List.set_cons_zero, List.set_cons_succ]
      refine F_pure (i := 1) (some 93) (ls' := #[true, true, false, false, false, false, false, false, false, false, false, false, false]) rfl rfl (by kernel_rfl) (by kernel_rfl) (by kernel_rfl) (by kernel_rfl) (by rfl) (v := ?_) ?_ ?_
      rotate_left 1
      · intro w; go_simp; try with_reducible rfl
      try simp only [Act.put, List.setIfInBounds_toArray, List.set_cons_zero, List.set_cons_succ]
      refine F_pure (i := 2) (some 94) (ls' := #[true, true, true, false, false, false, false, false, false, false, false, false, false]) rfl rfl (by kernel_rfl) (by kernel_rfl) (by kernel_rfl) (by kernel_rfl) (by rfl) (v := ?_) ?_ ?_
      rotate_left 1
      · intro w; go_simp; try with_reducible rfl
      try simp only [Act.put, List.setIfInBounds_toArray, List.set_cons_zero, List.set_cons_succ]
      refine F_pure (i := 3) (some 95) (ls' := #[true, true, true, true, false, false, false, false, false, false, false, false, false]) rfl rfl (by kernel_rfl) (by kernel_rfl) (by kernel_rfl) (by kernel_rfl) (by rfl) (v := ?_) ?_ ?_
      rotate_left 1
      · intro w; go_simp; try with_reducible rfl
      try simp only [Act.put, List.setIfInBounds_toArray, List.set_cons_zero, List.set_cons_succ]
      refine F_pure (i := 4) (some 96) (ls' := #[true, true, true, true, true, false, false, false, false, false, false, false, false]) rfl rfl (by kernel_rfl) (by kernel_rfl) (by kernel_rfl) (by kernel_rfl) (by rfl) (v := ?_) ?_ ?_
      rotate_left 1
      · intro w; go_simp; try with_reducible rfl
      try simp only [Act.put, List.setIfInBounds_toArray, List.set_cons_zero, List.set_cons_succ]
      refine F_pure (i := 5) (some 97) (ls' := #[true, true, true, true, true, true, false, false, false, false, false, false, false]) rfl rfl (by kernel_rfl) (by kernel_rfl) (by kernel_rfl) (by kernel_rfl) (by rfl) (v := ?_) ?_ ?_
      rotate_left 1
      · intro w; go_simp; try with_reducible rfl
      try simp only [Act.put, List.setIfInBounds_toArray, List.set_cons_zero, List.set_cons_succ]
      refine F_pure (i := 6) (some 98) (ls' := #[true, true, true, true, true, true, true, false, false, false, false, false, false]) rfl rfl (by kernel_rfl) (by kernel_rfl) (by kernel_rfl) (by kernel_rfl) (by rfl) (v := ?_) ?_ ?_
      rotate_left 1
      · intro w; go_simp; try with_reducible rfl
      try simp only [Act.put, List.setIfInBounds_toArray, List.set_cons_zero, List.set_cons_succ]
      refine F_pure (i := 7) (some 99) (ls' := #[true, true, true, true, true, true, true, true, false, false, false, false, false]) rfl rfl (by kernel_rfl) (by kernel_rfl) (by kernel_rfl) (by kernel_rfl) (by rfl) (v := ?_) ?_ ?_
      rotate_left 1
      · intro w; go_simp; try with_reducible rfl
      try simp only [Act.put, List.setIfInBounds_toArray, List.set_cons_zero, List.set_cons_succ]
      refine F_pure (i := 8) (some 100) (ls' := #[true, true, true, true, true, true, true, true, true, false, false, false, false]) rfl rfl (by kernel_rfl) (by kernel_rfl) (by kernel_rfl) (by kernel_rfl) (by rfl) (v := ?_) ?_ ?_
      rotate_left 1
      · intro w; go_simp; try with_reducible rfl
      try simp only [Act.put, List.setIfInBounds_toArray, List.set_cons_zero, List.set_cons_succ]
      refine F_pure (i := 9) (some 101) (ls' := #[true, true, true, true, true, true, true, true, true, true, false, false, false]) rfl rfl (by kernel_rfl) (by kernel_rfl) (by kernel_rfl) (by kernel_rfl) (by rfl) (v := ?_) ?_ ?_
      rotate_left 1
      · intro w; go_simp; try with_reducible rfl
      try simp only [Act.put, List.setIfInBounds_toArray, List.set_cons_zero, List.set_cons_succ]
      refine F_pure (i := 10) (some 102) (ls' := #[true, true, true, true, true, true, true, true, true, true, true, false, false]) rfl rfl (by kernel_rfl) (by kernel_rfl) (by kernel_rfl) (by kernel_rfl) (by rfl) (v := ?_) ?_ ?_
      rotate_left 1
      · intro w; go_simp; try with_reducible rfl
      try simp only [Act.put, List.setIfInBounds_toArray, List.set_cons_zero, List.set_cons_succ]
      refine F_pure (i := 11) (some 103) (ls' := #[true, true, true, true, true, true, true, true, true, true, true, true, false]) rfl rfl (by kernel_rfl) (by kernel_rfl) (by kernel_rfl) (by kernel_rfl) (by rfl) (v := ?_) ?_ ?_
      rotate_left 1
      · intro w; go_simp; try with_reducible rfl
      try simp only [Act.put, List.setIfInBounds_toArray, List.set_cons_zero, List.set_cons_succ]
      refine F_some (is := [12]) (by kernel_rfl) (by simp) (fun i hi => ?_)
      obtain rfl : i = 12 := by simpa using hi
      refine F_way (S := fun _ => True) (L := 13) (o := _) rfl (ls' := #[true, true, true, true, true, true, true, true, true, true, true, true, true]) (by kernel_rfl) (by rfl) (fun K hK => ?_)
      go_simp
      go_at_call 56
      refine (cCl _ (Ext.refl _).drew).mono ?_
      clear cCl
      rintro e w5 ⟨rfl, ⟨j1, j2⟩, hb5⟩
      have hb6 : Below W1.heap.size V w5 := ((Below.refl _ V).drew).trans hb5
      have hHeld2 := trivial
      clear hHeld
      have hHeld := hHeld2
      clear hHeld2
      refine hK _ _ (fun _ _ => hHeld) ?_
      clear hK K
      try simp only [Act.put, List.setIfInBounds_toArray, List.set_cons_zero, List.set_cons_succ]
      refine F_done (by kernel_rfl) ?_
      have k7 := Blk.below (ext_blk (HX1.out.trans HXV.out) HB0.out) hb6 (by have := HS.out; omega)
      have k8 := Blk.below (ext_blk (HX1.out.trans HXV.out) HB1.out) hb6 (by have := HS.out; omega)
      have p0 := j1.cell 0
      have p1 := j1.cell 1
      have p2 := j2.cell 0
      have p3 := j2.cell 1
      have p4 := k7.cell 0
      have p5 := k7.cell 1
      have p6 := k8.cell 0
      have p7 := k8.cell 1
      have hxx := Lib.hid ((HX0.out.trans (HX1.out.trans HXV.out)).out.trans (Below.mono hb6 (by have := HS.out; omega)))
      clear j1 j2 k7 k8 hb5 hb6 hHeld
      go_wp2
      go_ret
      exact ⟨rfl, hxx.out⟩
    · have cCl := fun V' (e : Ext V V') => cg_climb (W1.heap.size + 1) (W1.heap.size) W1.heap.size (by omega) (by omega) (by omega) G (by have := HLE.out; omega) at1 (la1 + 1) (by have := HLE.out; omega) (by have := HLE.out; omega) A c f V' (Nat.le_trans HSV.out e.size) (HRV.out.below (Below.mono e.out HSV.out)) (v2.ext e) (v1.ext e)
      rw [Nat.add_sub_cancel, HCL.out] at cCl
      have ec : ((la1 + 1 : Nat) : Int) = (la1 : Int) + 1 := by omega
      simp only [ec] at cCl
      clear v1 v2
      have u1 : IntKind.i64.wrap (m1 : Int) = (m1 : Int) := by rw [IntKind.wrap_i64]; omega
      have u2 : IntKind.i64.wrap (n1 : Int) = (n1 : Int) := by rw [IntKind.wrap_i64]; omega
      have u3 : IntKind.i64.wrap ((la1 : Int) + 1) = (la1 : Int) + 1 := by rw [IntKind.wrap_i64]; omega
      go_upto_region 21 with (fail)
      refine F_start (n := 13) (ls := #[false, false, false, false, false, false, false, false, false, false, false, false, false]) (fun _ => True) 13 (by kernel_rfl) (by kernel_rfl) (by kernel_rfl) trivial (fun hHeld => ?_)
      refine F_pure (i := 0) (some 92) (ls' := #[true, false, false, false, false, false, false, false, false, false, false, false, false]) rfl rfl (by kernel_rfl) (by kernel_rfl) (by kernel_rfl) (by kernel_rfl) (by rfl) (v := ?_) ?_ ?_
      rotate_left 1
      · intro w; go_simp; try with_reducible rfl
      try simp only [Act.put, List.setIfInBounds_toArray, List.set_cons_zero, List.set_cons_succ]
      refine F_pure (i := 1) (some 93) (ls' := #[true, true, false, false, false, false, false, false, false, false, false, false, false]) rfl rfl (by kernel_rfl) (by kernel_rfl) (by kernel_rfl) (by kernel_rfl) (by rfl) (v := ?_) ?_ ?_
      rotate_left 1
      · intro w; go_simp; try with_reducible rfl
      try simp only [Act.put, List.setIfInBounds_toArray, List.set_cons_zero, List.set_cons_succ]
      refine F_pure (i := 2) (some 94) (ls' := #[true, true, true, false, false, false, false, false, false, false, false, false, false]) rfl rfl (by kernel_rfl) (by kernel_rfl) (by kernel_rfl) (by kernel_rfl) (by rfl) (v := ?_) ?_ ?_
      rotate_left 1
      · intro w; go_simp; try with_reducible rfl
      try simp only [Act.put, List.setIfInBounds_toArray, List.set_cons_zero, List.set_cons_succ]
      refine F_pure (i := 3) (some 95) (ls' := #[true, true, true, true, false, false, false, false, false, false, false, false, false]) rfl rfl (by kernel_rfl) (by kernel_rfl) (by kernel_rfl) (by kernel_rfl) (by rfl) (v := ?_) ?_ ?_
      rotate_left 1
      · intro w; go_simp; try with_reducible rfl
      try simp only [Act.put, List.setIfInBounds_toArray, List.set_cons_zero, List.set_cons_succ]
      refine F_pure (i := 4) (some 96) (ls' := #[true, true, true, true, true, false, false, false, false, false, false, false, false]) rfl rfl (by kernel_rfl) (by kernel_rfl) (by kernel_rfl) (by kernel_rfl) (by rfl) (v := ?_) ?_ ?_
      rotate_left 1
      · intro w; go_simp; try with_reducible rfl
      try simp only [Act.put, List.setIfInBounds_toArray, List.set_cons_zero, List.set_cons_succ]
      refine F_pure (i := 5) (some 97) (ls' := #[true, true, true, true, true, true, false, false, false, false, false, false, false]) rfl rfl (by kernel_rfl) (by kernel_rfl) (by kernel_rfl) (by kernel_rfl) (by rfl) (v := ?_) ?_ ?_
      rotate_left 1
      · intro w; go_simp; try with_reducible rfl
      try simp only [Act.put, List.setIfInBounds_toArray, List.set_cons_zero, List.set_cons_succ]
      refine F_pure (i := 6) (some 98) (ls' := #[true, true, true, true, true, true, true, false, false, false, false, false, false]) rfl rfl (by kernel_rfl) (by kernel_rfl) (by kernel_rfl) (by kernel_rfl) (by rfl) (v := ?_) ?_ ?_
      rotate_left 1
      · intro w; go_simp; try with_reducible rfl
      try simp only [Act.put, List.setIfInBounds_toArray, List.set_cons_zero, List.set_cons_succ]
      refine F_pure (i := 7) (some 99) (ls' := #[true, true, true, true, true, true, true, true, false, false, false, false, false]) rfl rfl (by kernel_rfl) (by kernel_rfl) (by kernel_rfl) (by kernel_rfl) (by rfl) (v := ?_) ?_ ?_
      rotate_left 1
      · intro w; go_simp; try with_reducible rfl
      try simp only [Act.put, List.setIfInBounds_toArray, List.set_cons_zero, List.set_cons_succ]
      refine F_pure (i := 8) (some 100) (ls' := #[true, true, true, true, true, true, true, true, true, false, false, false, false]) rfl rfl (by kernel_rfl) (by kernel_rfl) (by kernel_rfl) (by kernel_rfl) (by rfl) (v := ?_) ?_ ?_
      rotate_left 1
      · intro w; go_simp; try with_reducible rfl
      try simp only [Act.put, List.setIfInBounds_toArray, List.set_cons_zero, List.set_cons_succ]
      refine F_pure (i := 9) (some 101) (ls' := #[true, true, true, true, true, true, true, true, true, true, false, false, false]) rfl rfl (by kernel_rfl) (by kernel_rfl) (by kernel_rfl) (by kernel_rfl) (by rfl) (v := ?_) ?_ ?_
      rotate_left 1
      · intro w; go_simp; try with_reducible rfl
      try simp only [Act.put, List.setIfInBounds_toArray, List.set_cons_zero, List.set_cons_succ]
      refine F_pure (i := 10) (some 102) (ls' := #[true, true, true, true, true, true, true, true, true, true, true, false, false]) rfl rfl (by kernel_rfl) (by kernel_rfl) (by kernel_rfl) (by kernel_rfl) (by rfl) (v := ?_) ?_ ?_
      rotate_left 1
      · intro w; go_simp; try with_reducible rfl
      try simp only [Act.put, List.setIfInBounds_toArray, List.set_cons_zero, List.set_cons_succ]
      refine F_pure (i := 11) (some 103) (ls' := #[true, true, true, true, true, true, true, true, true, true, true, true, false]) rfl rfl (by kernel_rfl) (by kernel_rfl) (by kernel_rfl) (by kernel_rfl) (by rfl) (v := ?_) ?_ ?_
      rotate_left 1
      · intro w; go_simp; try with_reducible rfl
      try simp only [Act.put, List.setIfInBounds_toArray, List.set_cons_zero, List.set_cons_succ]
      refine F_some (is := [12]) (by kernel_rfl) (by simp) (fun i hi => ?_)
      obtain rfl : i = 12 := by simpa using hi
      refine F_way (S := fun _ => True) (L := 13) (o := _) rfl (ls' := #[true, true, true, true, true, true, true, true, true, true, true, true, true]) (by kernel_rfl) (by rfl) (fun K hK => ?_)
      go_simp
      go_at_call 56
      refine (cCl _ (Ext.refl _).drew).mono ?_
      clear cCl
      rintro e w5 ⟨rfl, ⟨j1, j2⟩, hb5⟩
      have hb6 : Below W1.heap.size V w5 := ((Below.refl _ V).drew).trans hb5
      have hHeld2 := trivial
      clear hHeld
      have hHeld := hHeld2
      clear hHeld2
      refine hK _ _ (fun _ _ => hHeld) ?_
      clear hK K
      try simp only [Act.put, List.setIfInBounds_toArray, List.set_cons_zero, List.set_cons_succ]
      refine F_done (by kernel_rfl) ?_
      have k7 := Blk.below (ext_blk (HX1.out.trans HXV.out) HB0.out) hb6 (by have := HS.out; omega)
      have k8 := Blk.below (ext_blk (HX1.out.trans HXV.out) HB1.out) hb6 (by have := HS.out; omega)
      have p0 := j1.cell 0
      have p1 := j1.cell 1
      have p2 := j2.cell 0
      have p3 := j2.cell 1
      have p4 := k7.cell 0
      have p5 := k7.cell 1
      have p6 := k8.cell 0
      have p7 := k8.cell 1
      have hxx := Lib.hid ((HX0.out.trans (HX1.out.trans HXV.out)).out.trans (Below.mono hb6 (by have := HS.out; omega)))
      clear j1 j2 k7 k8 hb5 hb6 hHeld
      go_wp2
      go_ret
      exact ⟨rfl, hxx.out⟩
  · have hG := hno hp
    subst hG
    clear hyes hno
    obtain ⟨N, hN⟩ : ∃ N, (f :: ps).length = N := ⟨_, rfl⟩
    have hN2 : N = ps.length + 1 := by rw [← hN]; simp
    rw [hN]
    have hRN : Reads w w.heap.size 2 A N (sumV (f :: ps)) := by rw [← hN]; exact HR.out
    rw [hN] at hc
    obtain ⟨ad, rfl, hadb, q0, q1⟩ := reads_sum (j := 0) hRN (x := f) rfl
    have q0 : w.cell? ad = some (.int .u64 (f.1 : Int)) := by simpa [Addr.add] using q0
    have q1 : w.cell? ⟨ad.block, ad.off + 1, none⟩ = some (.int .u64 (f.2 : Int)) := by simpa [Addr.add] using q1
    have hcut := hRN.cut (k := 1) (cap := c) (by omega) hc
    have esl := sumV_drop (f :: ps) 1
    obtain ⟨A', hsl, hR1⟩ : ∃ A', (∀ w : World, (Instr.slice 42 (.slice (some ad) N c) (some (.int .i64 1)) none none).run Tryz.prog w = .ok (.slice A' ps.length (c - 1)) w) ∧ Reads w w.heap.size 2 A' ps.length (sumV ps) := by
      refine ⟨_, fun w => ?_, by rw [esl] at hcut; rw [show N - 1 = ps.length by omega] at hcut; exact hcut⟩
      rw [show (1 : Int) = ((1 : Nat) : Int) from rfl, slice_ls (some ad) N c 1 (by omega) w]
      unfold sliced
      rw [show N - 1 = ps.length by omega]
    obtain ⟨c', hc'⟩ : ∃ c', c - 1 = c' := ⟨_, rfl⟩
    rw [hc'] at hsl
    have hcc : ps.length ≤ c' := by omega
    have t1 : ((m : Int) != (pw : Int)) = true := by simp; omega
    have t2 : decide ((m : Int) = (pw : Int)) = false := by simp; omega
    have t3 : ¬ (m : Int) = (pw : Int) := by omega
    have t4 : (N : Int) = (I : Int) - (lw : Int) + (D : Int) + 1 := by omega
    have t5 : ((N : Int) != (I : Int) - (lw : Int) + (D : Int) + 1) = false := by simp; omega
    have t6 : (0 : Int) < (N : Int) := by omega
    have t7 : 0 < N := by omega
    have hNb : (N : Int) ≤ 41 := by have := HLE.out; omega
    have HR := Lib.hid hR1
    have q0' := (HX0.out.trans HX1.out).cell q0
    have q1' := (HX0.out.trans HX1.out).cell q1
    clear hp h0 hm hc hlen hpl hN hN2 hRN hcut esl hR1 hc' hadb q0 q1 hcc
    have HT3 := Lib.hid t3
    have HT4 := Lib.hid t4
    clear t4
    go_enter Tryz.func11, Tryz.ntmps11
    go_upto_region 1 with (fail)
    try rw [e0]
    clear e0
    go_upto_region 14 with (first
      | (go_at_call 54; refine (cS _).mono ?_; clear cS; rintro e w' ⟨rfl, rfl⟩)
      | (go_at_call 55; refine (cTz _ HT0.out).mono ?_; clear cTz; rintro e w' ⟨rfl, rfl⟩))
    try rw [e3]
    clear e3 m0 m1'
    have b0 := HB2.out.cell 0
    have b1 := HB2.out.cell 1
    have f0 := HB2.out.frozen 0
    have f1 := HB2.out.frozen 1
    go_upto_region 19 with (fail)
    go_region
    obtain ⟨W2, e4⟩ : ∃ W, ((W1.setCell ⟨W0.heap.size, 0, none⟩ (.int .u64 (f.1 : Int))).setCell ⟨W0.heap.size, 1, none⟩ (.int .u64 (f.2 : Int))).drew = W := ⟨_, rfl⟩
    rw [e4]
    have b3 : Blk W2 W0.heap.size 34 #[.int .u64 (f.1 : Int), .int .u64 (f.2 : Int)] := by rw [← e4]; exact ((HB2.out.set_ 0 (.int .u64 (f.1 : Int))).set_ 1 (.int .u64 (f.2 : Int))).drew
    have x2 : Ext W0 W2 := by rw [← e4]; exact ((HX1.out.setCell (p := ⟨W0.heap.size, 0, none⟩) (Nat.le_refl _) _).setCell (p := ⟨W0.heap.size, 1, none⟩) (Nat.le_refl _) _).drew
    have s2 : W2.heap.size = w.heap.size + 3 := by rw [← e4]; simpa using HS.out.2
    have HS2 : Hid (W0.heap.size = w.heap.size + 2 ∧ W2.heap.size = w.heap.size + 3) := Lib.hid ⟨HS.out.1, s2⟩
    have HB3 := Lib.hid b3
    have HX2 := Lib.hid x2
    clear e4 b3 x2 s2 HB2 HX1 HS b0 b1 f0 f1 q0' q1' hsl
    have m0 := HB3.out.cell 0
    have m1' := HB3.out.cell 1
    have n0 := fun o => (HB3.out.alloc o).cell 0
    have n1' := fun o => (HB3.out.alloc o).cell 1
    have n2 := fun o o' => ((HB3.out.alloc o).alloc o').cell 0
    have n3 := fun o o' => ((HB3.out.alloc o).alloc o').cell 1
    go_upto_region 20 with (fail)
    go_region
    all_goals
      obtain ⟨V, hV⟩ : ∃ V, ((W2.alloc (.cells #[.int .u64 (f.1 : Int), .int .u64 (f.2 : Int)] 34)).alloc (.cells #[.int .u64 (f.1 : Int), .int .u64 (f.2 : Int)] 34)).drew = V := ⟨_, rfl⟩
      have v1 : SBox W2.heap.size f V := by
        show Blk _ _ _ _
        rw [← hV]
        exact (((Blk.new W2 _ _).alloc _).drew)
      have v2 : SBox (W2.heap.size + 1) f V := by
        show Blk _ _ _ _
        rw [← hV]
        have := Blk.new (W2.alloc (.cells #[.int .u64 (f.1 : Int), .int .u64 (f.2 : Int)] 34)) 34 #[.int .u64 (f.1 : Int), .int .u64 (f.2 : Int)]
        simpa using this.drew
      have xv : Ext W2 V := by rw [← hV]; exact (((Ext.refl W2).alloc _).alloc _).drew
      rw [hV]
      have HXV := Lib.hid xv
      have HSV : Hid (W2.heap.size ≤ V.heap.size) := Lib.hid xv.size
      have HRV : Hid (Reads V W2.heap.size 2 A' ps.length (sumV ps)) := Lib.hid (((HR.out.below HX0.out.out).below (Below.mono HX2.out.out HX0.out.size) |>.more (Nat.le_trans HX0.out.size HX2.out.size)).below xv.out)
      clear hV m0 m1' n0 n1' n2 n3 xv
    · have cCl := fun V' (e : Ext V V') => cg_climb (W2.heap.size) (W2.heap.size + 1) W2.heap.size (by omega) (by omega) (by omega) ps (by have := HLE.out; omega) at1 (la1 + 1) (by have := HLE.out; omega) (by have := HLE.out; omega) A' c' f V' (Nat.le_trans HSV.out e.size) (HRV.out.below (Below.mono e.out HSV.out)) (v1.ext e) (v2.ext e)
      rw [Nat.add_sub_cancel, HCL.out] at cCl
      have ec : ((la1 + 1 : Nat) : Int) = (la1 : Int) + 1 := by omega
      simp only [ec] at cCl
      clear v1 v2
      have u1 : IntKind.i64.wrap (m1 : Int) = (m1 : Int) := by rw [IntKind.wrap_i64]; omega
      have u2 : IntKind.i64.wrap (n1 : Int) = (n1 : Int) := by rw [IntKind.wrap_i64]; omega
      have u3 : IntKind.i64.wrap ((la1 : Int) + 1) = (la1 : Int) + 1 := by rw [IntKind.wrap_i64]; omega
      go_upto_region 21 with (fail)
      refine F_start (n := 13) (ls := #[false, false, false, false, false, false, false, false, false, false, false, false, false]) (fun _ => True) 13 (by kernel_rfl) (by kernel_rfl) (by kernel_rfl) trivial (fun hHeld => ?_)
      refine F_pure (i := 0) (some 92) (ls' := #[true, false, false, false, false, false, false, false, false, false, false, false, false]) rfl rfl (by kernel_rfl) (by kernel_rfl) (by kernel_rfl) (by kernel_rfl) (by rfl) (v := ?_) ?_ ?_
      rotate_left 1
      · intro w; go_simp; try with_reducible rfl
      try simp only [Act.put, List.setIfInBounds_toArray, List.set_cons_zero, List.set_cons_succ]
      refine F_pure (i := 1) (some 93) (ls' := #[true, true, false, false, false, false, false, false, false, false, false, false, false]) rfl rfl (by kernel_rfl) (by kernel_rfl) (by kernel_rfl) (by kernel_rfl) (by rfl) (v := ?_) ?_ ?_
      rotate_left 1
      · intro w; go_simp; try with_reducible rfl
      try simp only [Act.put, List.setIfInBounds_toArray, List.set_cons_zero, List.set_cons_succ]
      refine F_pure (i := 2) (some 94) (ls' := #[true, true, true, false, false, false, false, false, false, false, false, false, false]) rfl rfl (by kernel_rfl) (by kernel_rfl) (by kernel_rfl) (by kernel_rfl) (by rfl) (v := ?_) ?_ ?_
      rotate_left 1
      · intro w; go_simp; try with_reducible rfl
      try simp only [Act.put, List.setIfInBounds_toArray, List.set_cons_zero, List.set_cons_succ]
      refine F_pure (i := 3) (some 95) (ls' := #[true, true, true, true, false, false, false, false, false, false, false, false, false]) rfl rfl (by kernel_rfl) (by kernel_rfl) (by kernel_rfl) (by kernel_rfl) (by rfl) (v := ?_) ?_ ?_
      rotate_left 1
      · intro w; go_simp; try with_reducible rfl
      try simp only [Act.put, List.setIfInBounds_toArray, List.set_cons_zero, List.set_cons_succ]
      refine F_pure (i := 4) (some 96) (ls' := #[true, true, true, true, true, false, false, false, false, false, false, false, false]) rfl rfl (by kernel_rfl) (by kernel_rfl) (by kernel_rfl) (by kernel_rfl) (by rfl) (v := ?_) ?_ ?_
      rotate_left 1
      · intro w; go_simp; try with_reducible rfl
      try simp only [Act.put, List.setIfInBounds_toArray, List.set_cons_zero, List.set_cons_succ]
      refine F_pure (i := 5) (some 97) (ls' := #[true, true, true, true, true, true, false, false, false, false, false, false, false]) rfl rfl (by kernel_rfl) (by kernel_rfl) (by kernel_rfl) (by kernel_rfl) (by rfl) (v := ?_) ?_ ?_
      rotate_left 1
      · intro w; go_simp; try with_reducible rfl
      try simp only [Act.put, List.setIfInBounds_toArray, List.set_cons_zero, List.set_cons_succ]
      refine F_pure (i := 6) (some 98) (ls' := #[true, true, true, true, true, true, true, false, false, false, false, false, false]) rfl rfl (by kernel_rfl) (by kernel_rfl) (by kernel_rfl) (by kernel_rfl) (by rfl) (v := ?_) ?_ ?_
      rotate_left 1
      · intro w; go_simp; try with_reducible rfl
      try simp only [Act.put, List.setIfInBounds_toArray, List.set_cons_zero, List.set_cons_succ]
      refine F_pure (i := 7) (some 99) (ls' := #[true, true, true, true, true, true, true, true, false, false, false, false, false]) rfl rfl (by kernel_rfl) (by kernel_rfl) (by kernel_rfl) (by kernel_rfl) (by rfl) (v := ?_) ?_ ?_
      rotate_left 1
      · intro w; go_simp; try with_reducible rfl
      try simp only [Act.put, List.setIfInBounds_toArray, List.set_cons_zero, List.set_cons_succ]
      refine F_pure (i := 8) (some 100) (ls' := #[true, true, true, true, true, true, true, true, true, false, false, false, false]) rfl rfl (by kernel_rfl) (by kernel_rfl) (by kernel_rfl) (by kernel_rfl) (by rfl) (v := ?_) ?_ ?_
      rotate_left 1
      · intro w; go_simp; try with_reducible rfl
      try simp only [Act.put, List.setIfInBounds_toArray, List.set_cons_zero, List.set_cons_succ]
      refine F_pure (i := 9) (some 101) (ls' := #[true, true, true, true, true, true, true, true, true, true, false, false, false]) rfl rfl (by kernel_rfl) (by kernel_rfl) (by kernel_rfl) (by kernel_rfl) (by rfl) (v := ?_) ?_ ?_
      rotate_left 1
      · intro w; go_simp; try with_reducible rfl
      try simp only [Act.put, List.setIfInBounds_toArray, List.set_cons_zero, List.set_cons_succ]
      refine F_pure (i := 10) (some 102) (ls' := #[true, true, true, true, true, true, true, true, true, true, true, false, false]) rfl rfl (by kernel_rfl) (by kernel_rfl) (by kernel_rfl) (by kernel_rfl) (by rfl) (v := ?_) ?_ ?_
      rotate_left 1
      · intro w; go_simp; try with_reducible rfl
      try simp only [Act.put, List.setIfInBounds_toArray, List.set_cons_zero, List.set_cons_succ]
      refine F_pure (i := 11) (some 103) (ls' := #[true, true, true, true, true, true, true, true, true, true, true, true, false]) rfl rfl (by kernel_rfl) (by kernel_rfl) (by kernel_rfl) (by kernel_rfl) (by rfl) (v := ?_) ?_ ?_
      rotate_left 1
      · intro w; go_simp; try with_reducible rfl
      try simp only [Act.put, List.setIfInBounds_toArray, List.set_cons_zero, List.set_cons_succ]
      refine F_some (is := [12]) (by kernel_rfl) (by simp) (fun i hi => ?_)
      obtain rfl : i = 12 := by simpa using hi
      refine F_way (S := fun _ => True) (L := 13) (o := _) rfl (ls' := #[true, true, true, true, true, true, true, true, true, true, true, true, true]) (by kernel_rfl) (by rfl) (fun K hK => ?_)
      go_simp
      go_at_call 56
      refine (cCl _ (Ext.refl _).drew).mono ?_
      clear cCl
      rintro e w5 ⟨rfl, ⟨j1, j2⟩, hb5⟩
      have hb6 : Below W2.heap.size V w5 := ((Below.refl _ V).drew).trans hb5
      have hHeld2 := trivial
      clear hHeld
      have hHeld := hHeld2
      clear hHeld2
      refine hK _ _ (fun _ _ => hHeld) ?_
      clear hK K
      try simp only [Act.put, List.setIfInBounds_toArray, List.set_cons_zero, List.set_cons_succ]
      refine F_done (by kernel_rfl) ?_
      have k7 := Blk.below (ext_blk (HX2.out.trans HXV.out) HB0.out) hb6 (by have := HS2.out; omega)
      have k8 := Blk.below (ext_blk (HX2.out.trans HXV.out) HB1.out) hb6 (by have := HS2.out; omega)
      have p0 := j1.cell 0
      have p1 := j1.cell 1
      have p2 := j2.cell 0
      have p3 := j2.cell 1
      have p4 := k7.cell 0
      have p5 := k7.cell 1
      have p6 := k8.cell 0
      have p7 := k8.cell 1
      have hxx := Lib.hid ((HX0.out.trans (HX2.out.trans HXV.out)).out.trans (Below.mono hb6 (by have := HS2.out; omega)))
      clear j1 j2 k7 k8 hb5 hb6 hHeld
      go_wp2
      go_ret
      exact ⟨rfl, hxx.out⟩
    · have cCl := fun V' (e : Ext V V') => cg_climb (W2.heap.size + 1) (W2.heap.size) W2.heap.size (by omega) (by omega) (by omega) ps (by have := HLE.out; omega) at1 (la1 + 1) (by have := HLE.out; omega) (by have := HLE.out; omega) A' c' f V' (Nat.le_trans HSV.out e.size) (HRV.out.below (Below.mono e.out HSV.out)) (v2.ext e) (v1.ext e)
      rw [Nat.add_sub_cancel, HCL.out] at cCl
      have ec : ((la1 + 1 : Nat) : Int) = (la1 : Int) + 1 := by omega
      simp only [ec] at cCl
      clear v1 v2
      have u1 : IntKind.i64.wrap (m1 : Int) = (m1 : Int) := by rw [IntKind.wrap_i64]; omega
      have u2 : IntKind.i64.wrap (n1 : Int) = (n1 : Int) := by rw [IntKind.wrap_i64]; omega
      have u3 : IntKind.i64.wrap ((la1 : Int) + 1) = (la1 : Int) + 1 := by rw [IntKind.wrap_i64]; omega
      go_upto_region 21 with (fail)
      refine F_start (n := 13) (ls := #[false, false, false, false, false, false, false, false, false, false, false, false, false]) (fun _ => True) 13 (by kernel_rfl) (by kernel_rfl) (by kernel_rfl) trivial (fun hHeld => ?_)
      refine F_pure (i := 0) (some 92) (ls' := #[true, false, false, false, false, false, false, false, false, false, false, false, false]) rfl rfl (by kernel_rfl) (by kernel_rfl) (by kernel_rfl) (by kernel_rfl) (by rfl) (v := ?_) ?_ ?_
      rotate_left 1
      · intro w; go_simp; try with_reducible rfl
      try simp only [Act.put, List.setIfInBounds_toArray, List.set_cons_zero, List.set_cons_succ]
      refine F_pure (i := 1) (some 93) (ls' := #[true, true, false, false, false, false, false, false, false, false, false, false, false]) rfl rfl (by kernel_rfl) (by kernel_rfl) (by kernel_rfl) (by kernel_rfl) (by rfl) (v := ?_) ?_ ?_
      rotate_left 1
      · intro w; go_simp; try with_reducible rfl
      try simp only [Act.put, List.setIfInBounds_toArray, List.set_cons_zero, List.set_cons_succ]
      refine F_pure (i := 2) (some 94) (ls' := #[true, true, true, false, false, false, false, false, false, false, false, false, false]) rfl rfl (by kernel_rfl) (by kernel_rfl) (by kernel_rfl) (by kernel_rfl) (by rfl) (v := ?_) ?_ ?_
      rotate_left 1
      · intro w; go_simp; try with_reducible rfl
      try simp only [Act.put, List.setIfInBounds_toArray, List.set_cons_zero, List.set_cons_succ]
      refine F_pure (i := 3) (some 95) (ls' := #[true, true, true, true, false, false, false, false, false, false, false, false, false]) rfl rfl (by kernel_rfl) (by kernel_rfl) (by kernel_rfl) (by kernel_rfl) (by rfl) (v := ?_) ?_ ?_
      rotate_left 1
      · intro w; go_simp; try with_reducible rfl
      try simp only [Act.put, List.setIfInBounds_toArray, List.set_cons_zero, List.set_cons_succ]
      refine F_pure (i := 4) (some 96) (ls' := #[true, true, true, true, true, false, false, false, false, false, false, false, false]) rfl rfl (by kernel_rfl) (by kernel_rfl) (by kernel_rfl) (by kernel_rfl) (by rfl) (v := ?_) ?_ ?_
      rotate_left 1
      · intro w; go_simp; try with_reducible rfl
      try simp only [Act.put, List.setIfInBounds_toArray, List.set_cons_zero, List.set_cons_succ]
      refine F_pure (i := 5) (some 97) (ls' := #[true, true, true, true, true, true, false, false, false, false, false, false, false]) rfl rfl (by kernel_rfl) (by kernel_rfl) (by kernel_rfl) (by kernel_rfl) (by rfl) (v := ?_) ?_ ?_
      rotate_left 1
      · intro w; go_simp; try with_reducible rfl
      try simp only [Act.put, List.setIfInBounds_toArray, List.set_cons_zero, List.set_cons_succ]
      refine F_pure (i := 6) (some 98) (ls' := #[true, true, true, true, true, true, true, false, false, false, false, false, false]) rfl rfl (by kernel_rfl) (by kernel_rfl) (by kernel_rfl) (by kernel_rfl) (by rfl) (v := ?_) ?_ ?_
      rotate_left 1
      · intro w; go_simp; try with_reducible rfl
      try simp only [Act.put, List.setIfInBounds_toArray, List.set_cons_zero, List.set_cons_succ]
      refine F_pure (i := 7) (some 99) (ls' := #[true, true, true, true, true, true, true, true, false, false, false, false, false]) rfl rfl (by kernel_rfl) (by kernel_rfl) (by kernel_rfl) (by kernel_rfl) (by rfl) (v := ?_) ?_ ?_
      rotate_left 1
      · intro w; go_simp; try with_reducible rfl
      try simp only [Act.put, List.setIfInBounds_toArray, List.set_cons_zero, List.set_cons_succ]
      refine F_pure (i := 8) (some 100) (ls' := #[true, true, true, true, true, true, true, true, true, false, false, false, false]) rfl rfl (by kernel_rfl) (by kernel_rfl) (by kernel_rfl) (by kernel_rfl) (by rfl) (v := ?_) ?_ ?_
      rotate_left 1
      · intro w; go_simp; try with_reducible rfl
      try simp only [Act.put, List.setIfInBounds_toArray, List.set_cons_zero, List.set_cons_succ]
      refine F_pure (i := 9) (some 101) (ls' := #[true, true, true, true, true, true, true, true, true, true, false, false, false]) rfl rfl (by kernel_rfl) (by kernel_rfl) (by kernel_rfl) (by kernel_rfl) (by rfl) (v := ?_) ?_ ?_
      rotate_left 1
      · intro w; go_simp; try with_reducible rfl
      try simp only [Act.put, List.setIfInBounds_toArray, List.set_cons_zero, List.set_cons_succ]
      refine F_pure (i := 10) (some 102) (ls' := #[true, true, true, true, true, true, true, true, true, true, true, false, false]) rfl rfl (by kernel_rfl) (by kernel_rfl) (by kernel_rfl) (by kernel_rfl) (by rfl) (v := ?_) ?_ ?_
      rotate_left 1
      · intro w; go_simp; try with_reducible rfl
      try simp only [Act.put, List.setIfInBounds_toArray, List.set_cons_zero, List.set_cons_succ]
      refine F_pure (i := 11) (some 103) (ls' := #[true, true, true, true, true, true, true, true, true, true, true, true, false]) rfl rfl (by kernel_rfl) (by kernel_rfl) (by kernel_rfl) (by kernel_rfl) (by rfl) (v := ?_) ?_ ?_
      rotate_left 1
      · intro w; go_simp; try with_reducible rfl
      try simp only [Act.put, List.setIfInBounds_toArray, List.set_cons_zero, List.set_cons_succ]
      refine F_some (is := [12]) (by kernel_rfl) (by simp) (fun i hi => ?_)
      obtain rfl : i = 12 := by simpa using hi
      refine F_way (S := fun _ => True) (L := 13) (o := _) rfl (ls' := #[true, true, true, true, true, true, true, true, true, true, true, true, true]) (by kernel_rfl) (by rfl) (fun K hK => ?_)
      go_simp
      go_at_call 56
      refine (cCl _ (Ext.refl _).drew).mono ?_
      clear cCl
      rintro e w5 ⟨rfl, ⟨j1, j2⟩, hb5⟩
      have hb6 : Below W2.heap.size V w5 := ((Below.refl _ V).drew).trans hb5
      have hHeld2 := trivial
      clear hHeld
      have hHeld := hHeld2
      clear hHeld2
      refine hK _ _ (fun _ _ => hHeld) ?_
      clear hK K
      try simp only [Act.put, List.setIfInBounds_toArray, List.set_cons_zero, List.set_cons_succ]
      refine F_done (by kernel_rfl) ?_
      have k7 := Blk.below (ext_blk (HX2.out.trans HXV.out) HB0.out) hb6 (by have := HS2.out; omega)
      have k8 := Blk.below (ext_blk (HX2.out.trans HXV.out) HB1.out) hb6 (by have := HS2.out; omega)
      have p0 := j1.cell 0
      have p1 := j1.cell 1
      have p2 := j2.cell 0
      have p3 := j2.cell 1
      have p4 := k7.cell 0
      have p5 := k7.cell 1
      have p6 := k8.cell 0
      have p7 := k8.cell 1
      have hxx := Lib.hid ((HX0.out.trans (HX2.out.trans HXV.out)).out.trans (Below.mono hb6 (by have := HS2.out; omega)))
      clear j1 j2 k7 k8 hb5 hb6 hHeld
      go_wp2
      go_ret
      exact ⟨rfl, hxx.out⟩
end Go.Proofs.YtfpmfegmehbfbaaGreatDoor
