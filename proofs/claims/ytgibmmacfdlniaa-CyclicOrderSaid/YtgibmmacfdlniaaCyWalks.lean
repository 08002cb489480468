/- The nine laws of greatseallaw03, walked. -/
import Derived.Test.YtgibmmacfdlniaaCyLive
namespace Go.Proofs.Ytgibmmacfdlniaa
open Go.RowKit Go.Shelf

theorem InvE' (a : Nat) (w : World) :
    Calls Try.prog 19 #[.int .u64 a] w fun e w' => e = .returned (.tuple #[.int .u64 (invM bQ a : Nat), .int .i64 (invE bQ a : Nat)]) ∧ Ext w w' :=
  (Inv_any a w).mono fun _ _ ⟨he, hw⟩ => ⟨he, by rw [hw]; exact Ext.refl _⟩
/-- The inverse of what is not 0. -/
theorem Inv_ok (a : Nat) (h : a % bQ ≠ 0) (w : World) :
    Calls Try.prog 19 #[.int .u64 a] w fun e w' => e = .returned (.tuple #[.int .u64 (invM bQ a : Nat), .int .i64 0]) ∧ w = w' :=
  (Inv_any a w).mono fun _ _ ⟨he, hw⟩ => ⟨by rw [he, invE_ok h]; rfl, hw⟩
theorem Inv_no (a : Nat) (h : a % bQ = 0) (w : World) :
    Calls Try.prog 19 #[.int .u64 a] w fun e w' => e = .returned (.tuple #[.int .u64 0, .int .i64 10]) ∧ w = w' :=
  (Inv_any a w).mono fun _ _ ⟨he, hw⟩ => ⟨by rw [he, invE_zero h, invM_zero h]; rfl, hw⟩
theorem InvR_ok (a : Nat) (h : a % bR ≠ 0) (w : World) :
    Calls Try.prog 23 #[.int .u64 a] w fun e w' => e = .returned (.tuple #[.int .u64 (invM bR a : Nat), .int .i64 0]) ∧ w = w' :=
  (InvR_any a w).mono fun _ _ ⟨he, hw⟩ => ⟨by rw [he, invE_ok h]; rfl, hw⟩
theorem InvR_no (a : Nat) (h : a % bR = 0) (w : World) :
    Calls Try.prog 23 #[.int .u64 a] w fun e w' => e = .returned (.tuple #[.int .u64 0, .int .i64 10]) ∧ w = w' :=
  (InvR_any a w).mono fun _ _ ⟨he, hw⟩ => ⟨by rw [he, invE_zero h, invM_zero h]; rfl, hw⟩
theorem lt64 {m n : Nat} (h : n < m) (hm : m ≤ 18446744073709551616) : n < 18446744073709551616 := Nat.lt_of_lt_of_le h hm

set_option maxRecDepth 100000 in
set_option maxHeartbeats 1000000 in
theorem walk_CyclicTells (a : Nat) (b : Nat) (ha : a < 18446744073709551616) (hb : b < 18446744073709551616) (w : World) :
    Calls Try.prog 3 #[.int .u64 a, .int .u64 b] w fun e w' => e = .returned (.bool true) ∧ Ext w w' := by
  have c1 := fun w => In_any a ha w
  have c2 := fun w => rIn_any a ha w
  have c3 := fun w => MulE a b ha hb w
  have c4 := fun w => rMul_any a b hb w
  have c5 := fun w => Pow_any a b ha hb w
  have c6 := fun w => rPow_any a b ha hb w
  clear ha hb
  go_enter Try.func3, Try.ntmps3
  go_wp2_with (first | (go_at_call 12; refine (live03 _).mono ?_; rintro e w' ⟨rfl, hw⟩) | (go_at_call 13; refine (c1 _).mono ?_; rintro e w' ⟨rfl, hw⟩) | (go_at_call 14; refine (c2 _).mono ?_; rintro e w' ⟨rfl, rfl⟩) | (go_at_call 15; refine (c3 _).mono ?_; rintro e w' ⟨rfl, hw⟩) | (go_at_call 16; refine (c4 _).mono ?_; rintro e w' ⟨rfl, rfl⟩) | (go_at_call 17; refine (c5 _).mono ?_; rintro e w' ⟨rfl, hw⟩) | (go_at_call 18; refine (c6 _).mono ?_; rintro e w' ⟨rfl, rfl⟩))
  go_ret
  refine ⟨rfl, ?_⟩
  repeat (first | exact Ext.refl _ | assumption | (apply Ext.trans; rotate_left; assumption))

set_option maxRecDepth 100000 in
set_option maxHeartbeats 1000000 in
theorem walk_CyclicTurns (a : Nat) (n : Nat) (ha : a < 18446744073709551616) (hn : n < 18446744073709551616) (w : World) :
    Calls Try.prog 4 #[.int .u64 a, .int .u64 n] w fun e w' => e = .returned (.bool true) ∧ Ext w w' := by
  have c1 := fun w => Inv_any a w
  have c2 := fun w => rInv_any a ha w
  have c3 := fun w => Base_any n hn w
  have c4 := fun w => rBase_any n hn w
  clear ha hn
  go_enter Try.func4, Try.ntmps4
  go_wp2_with (first | (go_at_call 12; refine (live03 _).mono ?_; rintro e w' ⟨rfl, hw⟩) | (go_at_call 19; refine (c1 _).mono ?_; rintro e w' ⟨rfl, rfl⟩) | (go_at_call 20; refine (c2 _).mono ?_; rintro e w' ⟨rfl, rfl⟩) | (go_at_call 21; refine (c3 _).mono ?_; rintro e w' ⟨rfl, hw⟩) | (go_at_call 22; refine (c4 _).mono ?_; rintro e w' ⟨rfl, rfl⟩))
  go_ret
  refine ⟨rfl, ?_⟩
  repeat (first | exact Ext.refl _ | assumption | (apply Ext.trans; rotate_left; assumption))

set_option maxRecDepth 100000 in
set_option maxHeartbeats 1000000 in
theorem walk_CyclicCounts (a : Nat) (b : Nat) (ha : a < 18446744073709551616) (hb : b < 18446744073709551616) (w : World) :
    Calls Try.prog 5 #[.int .u64 a, .int .u64 b] w fun e w' => e = .returned (.bool true) ∧ Ext w w' := by
  have c1 := fun w => InvR_any a w
  have c2 := fun w => rInvR_any a ha w
  have c3 := fun w => AddRE a b w
  have c4 := fun w => rAddR_any a b w
  have c5 := fun w => SubRE a b w
  have c6 := fun w => rSubR_any a b w
  have c7 := fun w => MulRE a b ha hb w
  have c8 := fun w => rMulR_any a b hb w
  clear ha hb
  go_enter Try.func5, Try.ntmps5
  go_wp2_with (first | (go_at_call 12; refine (live03 _).mono ?_; rintro e w' ⟨rfl, hw⟩) | (go_at_call 23; refine (c1 _).mono ?_; rintro e w' ⟨rfl, rfl⟩) | (go_at_call 24; refine (c2 _).mono ?_; rintro e w' ⟨rfl, rfl⟩) | (go_at_call 25; refine (c3 _).mono ?_; rintro e w' ⟨rfl, hw⟩) | (go_at_call 26; refine (c4 _).mono ?_; rintro e w' ⟨rfl, rfl⟩) | (go_at_call 27; refine (c5 _).mono ?_; rintro e w' ⟨rfl, hw⟩) | (go_at_call 28; refine (c6 _).mono ?_; rintro e w' ⟨rfl, rfl⟩) | (go_at_call 29; refine (c7 _).mono ?_; rintro e w' ⟨rfl, hw⟩) | (go_at_call 30; refine (c8 _).mono ?_; rintro e w' ⟨rfl, rfl⟩))
  go_ret
  refine ⟨rfl, ?_⟩
  repeat (first | exact Ext.refl _ | assumption | (apply Ext.trans; rotate_left; assumption))

set_option maxRecDepth 100000 in
set_option maxHeartbeats 1000000 in
theorem walk_CyclicGroup (a : Nat) (b : Nat) (c : Nat) (ha : a < 18446744073709551616) (hb : b < 18446744073709551616) (hc : c < 18446744073709551616) (w : World) :
    Calls Try.prog 6 #[.int .u64 a, .int .u64 b, .int .u64 c] w fun e w' => e = .returned (.bool true) ∧ Ext w w' := by
  obtain ⟨x, hx⟩ : ∃ x, x = (if inB a then a else powM bQ 4 a) := ⟨_, rfl⟩
  have hxin : inB x = true := by rw [hx]; split; assumption; exact inB_base a
  obtain ⟨y, hy⟩ : ∃ y, y = powM bQ 4 b := ⟨_, rfl⟩
  have hyin : inB y = true := by rw [hy]; exact inB_base b
  obtain ⟨z, hz⟩ : ∃ z, z = powM bQ 4 c := ⟨_, rfl⟩
  have hzin : inB z = true := by rw [hz]; exact inB_base c
  have hx1 := ((inB_iff x).1 hxin).2.1
  have hy1 := ((inB_iff y).1 hyin).2.1
  have hz1 := ((inB_iff z).1 hzin).2.1
  have b64 : ∀ {n : Nat}, n < bQ → n < 18446744073709551616 := fun h => lt64 h (by decide)
  obtain ⟨p, hp⟩ : ∃ p, p = mulM bQ x y := ⟨_, rfl⟩
  have hp1 : p < bQ := by rw [hp]; exact mulM_lt (by decide) _ _
  have hpin : inB p = true := by rw [hp]; exact inB_mul hxin hyin
  obtain ⟨q, hq⟩ : ∃ q, q = mulM bQ y z := ⟨_, rfl⟩
  have hq1 : q < bQ := by rw [hq]; exact mulM_lt (by decide) _ _
  obtain ⟨r, hr⟩ : ∃ r, r = mulM bQ p z := ⟨_, rfl⟩
  have hr2 : mulM bQ x q = r := by rw [hr, hp, hq, mulM_assoc]
  obtain ⟨i, hi⟩ : ∃ i, i = invM bQ x := ⟨_, rfl⟩
  have hi1 : i < bQ := by rw [hi]; exact invM_lt (by decide) _
  have hiin : inB i = true := by rw [hi]; exact inB_inv hxin
  have e1 : mulM bQ x i = 1 := by rw [hi]; exact invM_mul pr_Q (inB_ne hxin)
  have ca := fun w => In_any a ha w
  have cba := fun w => Base_any a ha w
  have cbb := fun w => Base_any b hb w
  have cbc := fun w => Base_any c hc w
  rw [← hy] at cbb
  rw [← hz] at cbc
  have ci := fun w => Inv_ok x (inB_ne hxin) w
  rw [← hi] at ci
  have cxy := fun w => MulE x y (b64 hx1) (b64 hy1) w
  rw [← hp] at cxy
  have cyx := fun w => MulE y x (b64 hy1) (b64 hx1) w
  rw [mulM_comm, ← hp] at cyx
  have cpz := fun w => MulE p z (b64 hp1) (b64 hz1) w
  rw [← hr] at cpz
  have cyz := fun w => MulE y z (b64 hy1) (b64 hz1) w
  rw [← hq] at cyz
  have cxq := fun w => MulE x q (b64 hx1) (b64 hq1) w
  rw [hr2] at cxq
  have cx1 := fun w => MulE x 1 (b64 hx1) (by decide) w
  rw [mulM_one, Nat.mod_eq_of_lt hx1] at cx1
  have cxi := fun w => MulE x i (b64 hx1) (b64 hi1) w
  rw [e1] at cxi
  have ix := fun w => In_any x (b64 hx1) w
  rw [hxin] at ix
  have iy := fun w => In_any y (b64 hy1) w
  rw [hyin] at iy
  have ip := fun w => In_any p (b64 hp1) w
  rw [hpin] at ip
  have ii := fun w => In_any i (b64 hi1) w
  rw [hiin] at ii
  by_cases hin : inB a = true
  · rw [if_pos hin] at hx
    rw [hin] at ca
    subst hx
    clear hxin hyin hzin hpin hiin hy hz hp hq hr hi hr2 e1 hin ha hb hc hx1 hy1 hz1 hp1 hq1 hi1 b64
    go_enter Try.func6, Try.ntmps6
    go_wp2_with (first | (go_at_call 12; refine (live03 _).mono ?_; rintro e w' ⟨rfl, hw⟩) | (go_at_call 21; refine (cba _).mono ?_; clear cba; rintro e w' ⟨rfl, hw⟩) | (go_at_call 21; refine (cbb _).mono ?_; clear cbb; rintro e w' ⟨rfl, hw⟩) | (go_at_call 21; refine (cbc _).mono ?_; clear cbc; rintro e w' ⟨rfl, hw⟩) | (go_at_call 13; refine (ca _).mono ?_; clear ca; rintro e w' ⟨rfl, hw⟩) | (go_at_call 19; refine (ci _).mono ?_; clear ci; rintro e w' ⟨rfl, rfl⟩) | (go_at_call 15; refine (cxy _).mono ?_; clear cxy; rintro e w' ⟨rfl, hw⟩) | (go_at_call 13; refine (ix _).mono ?_; clear ix; rintro e w' ⟨rfl, hw⟩) | (go_at_call 13; refine (iy _).mono ?_; clear iy; rintro e w' ⟨rfl, hw⟩) | (go_at_call 13; refine (ip _).mono ?_; clear ip; rintro e w' ⟨rfl, hw⟩) | (go_at_call 15; refine (cyx _).mono ?_; clear cyx; rintro e w' ⟨rfl, hw⟩) | (go_at_call 15; refine (cpz _).mono ?_; clear cpz; rintro e w' ⟨rfl, hw⟩) | (go_at_call 15; refine (cyz _).mono ?_; clear cyz; rintro e w' ⟨rfl, hw⟩) | (go_at_call 15; refine (cxq _).mono ?_; clear cxq; rintro e w' ⟨rfl, hw⟩) | (go_at_call 15; refine (cx1 _).mono ?_; clear cx1; rintro e w' ⟨rfl, hw⟩) | (go_at_call 13; refine (ii _).mono ?_; clear ii; rintro e w' ⟨rfl, hw⟩) | (go_at_call 15; refine (cxi _).mono ?_; clear cxi; rintro e w' ⟨rfl, hw⟩))
    go_ret
    refine ⟨rfl, ?_⟩
    repeat (first | exact Ext.refl _ | assumption | (apply Ext.trans; rotate_left; assumption))
  · rw [if_neg hin] at hx
    have hin : inB a = false := by simpa using hin
    rw [hin] at ca
    rw [← hx] at cba
    clear hxin hyin hzin hpin hiin hy hz hp hq hr hi hr2 e1 hin ha hb hc hx1 hy1 hz1 hp1 hq1 hi1 b64 hx
    go_enter Try.func6, Try.ntmps6
    go_wp2_with (first | (go_at_call 12; refine (live03 _).mono ?_; rintro e w' ⟨rfl, hw⟩) | (go_at_call 21; refine (cba _).mono ?_; clear cba; rintro e w' ⟨rfl, hw⟩) | (go_at_call 21; refine (cbb _).mono ?_; clear cbb; rintro e w' ⟨rfl, hw⟩) | (go_at_call 21; refine (cbc _).mono ?_; clear cbc; rintro e w' ⟨rfl, hw⟩) | (go_at_call 13; refine (ca _).mono ?_; clear ca; rintro e w' ⟨rfl, hw⟩) | (go_at_call 19; refine (ci _).mono ?_; clear ci; rintro e w' ⟨rfl, rfl⟩) | (go_at_call 15; refine (cxy _).mono ?_; clear cxy; rintro e w' ⟨rfl, hw⟩) | (go_at_call 13; refine (ix _).mono ?_; clear ix; rintro e w' ⟨rfl, hw⟩) | (go_at_call 13; refine (iy _).mono ?_; clear iy; rintro e w' ⟨rfl, hw⟩) | (go_at_call 13; refine (ip _).mono ?_; clear ip; rintro e w' ⟨rfl, hw⟩) | (go_at_call 15; refine (cyx _).mono ?_; clear cyx; rintro e w' ⟨rfl, hw⟩) | (go_at_call 15; refine (cpz _).mono ?_; clear cpz; rintro e w' ⟨rfl, hw⟩) | (go_at_call 15; refine (cyz _).mono ?_; clear cyz; rintro e w' ⟨rfl, hw⟩) | (go_at_call 15; refine (cxq _).mono ?_; clear cxq; rintro e w' ⟨rfl, hw⟩) | (go_at_call 15; refine (cx1 _).mono ?_; clear cx1; rintro e w' ⟨rfl, hw⟩) | (go_at_call 13; refine (ii _).mono ?_; clear ii; rintro e w' ⟨rfl, hw⟩) | (go_at_call 15; refine (cxi _).mono ?_; clear cxi; rintro e w' ⟨rfl, hw⟩))
    go_ret
    refine ⟨rfl, ?_⟩
    repeat (first | exact Ext.refl _ | assumption | (apply Ext.trans; rotate_left; assumption))

set_option maxRecDepth 100000 in
set_option maxHeartbeats 1000000 in
theorem walk_CyclicOrder (m : Nat) (n : Nat) (hm : m < 18446744073709551616) (hn : n < 18446744073709551616) (w : World) :
    Calls Try.prog 7 #[.int .u64 m, .int .u64 n] w fun e w' => e = .returned (.bool true) ∧ Ext w w' := by
  have b64 : ∀ {n : Nat}, n < bQ → n < 18446744073709551616 := fun h => lt64 h (by decide)
  have r64 : ∀ {n : Nat}, n < bR → n < 18446744073709551616 := fun h => lt64 h (by decide)
  obtain ⟨x, hx⟩ : ∃ x, x = powM bQ 4 m := ⟨_, rfl⟩
  obtain ⟨y, hy⟩ : ∃ y, y = powM bQ 4 n := ⟨_, rfl⟩
  obtain ⟨s, hs⟩ : ∃ s, s = subM bR m n := ⟨_, rfl⟩
  obtain ⟨u, hu⟩ : ∃ u, u = addM bR m n := ⟨_, rfl⟩
  obtain ⟨v, hv⟩ : ∃ v, v = mulM bR m n := ⟨_, rfl⟩
  obtain ⟨t, ht⟩ : ∃ t, t = addM bR m 0 := ⟨_, rfl⟩
  have hx1 : x < bQ := by rw [hx]; exact powM_lt (by decide) _ _
  have hy1 : y < bQ := by rw [hy]; exact powM_lt (by decide) _ _
  have hu1 : u < bR := by rw [hu]; exact addM_lt' (by decide) _ _
  have hv1 : v < bR := by rw [hv]; exact mulM_lt (by decide) _ _
  have ht1 : t < bR := by rw [ht]; exact addM_lt' (by decide) _ _
  have hiff : x = y ↔ s = 0 := by rw [hx, hy, hs]; exact base_eq_iff m n
  have cm := fun w => Base_any m hm w
  rw [← hx] at cm
  have cn := fun w => Base_any n hn w
  rw [← hy] at cn
  have cs := fun w => SubRE m n w
  rw [← hs] at cs
  have cu := fun w => AddRE m n w
  rw [← hu] at cu
  have cv := fun w => MulRE m n hm hn w
  rw [← hv] at cv
  have ct := fun w => AddRE m 0 w
  rw [← ht] at ct
  have cxy := fun w => MulE x y (b64 hx1) (b64 hy1) w
  have cbu := fun w => Base_any u (r64 hu1) w
  rw [hu, base_add, ← hx, ← hy, ← hu] at cbu
  have cbv := fun w => Base_any v (r64 hv1) w
  rw [hv, base_mul, ← hx, ← hv] at cbv
  have cxn := fun w => Pow_any x n (b64 hx1) hn w
  have cbt := fun w => Base_any t (r64 ht1) w
  rw [ht, base_add0, ← hx, ← ht] at cbt
  have ix := fun w => In_any x (b64 hx1) w
  rw [hx, inB_base, ← hx] at ix
  clear hx hy hs hu hv ht hx1 hy1 hu1 hv1 ht1 b64 r64 hm hn
  by_cases h0 : s = 0
  · have hxy : x = y := hiff.2 h0
    subst h0 hxy
    clear hiff
    go_enter Try.func7, Try.ntmps7
    go_wp2_with (first | (go_at_call 12; refine (live03 _).mono ?_; rintro e w' ⟨rfl, hw⟩) | (go_at_call 21; refine (cm _).mono ?_; clear cm; rintro e w' ⟨rfl, hw⟩) | (go_at_call 21; refine (cn _).mono ?_; clear cn; rintro e w' ⟨rfl, hw⟩) | (go_at_call 27; refine (cs _).mono ?_; clear cs; rintro e w' ⟨rfl, hw⟩) | (go_at_call 13; refine (ix _).mono ?_; clear ix; rintro e w' ⟨rfl, hw⟩) | (go_at_call 25; refine (cu _).mono ?_; clear cu; rintro e w' ⟨rfl, hw⟩) | (go_at_call 21; refine (cbu _).mono ?_; clear cbu; rintro e w' ⟨rfl, hw⟩) | (go_at_call 15; refine (cxy _).mono ?_; clear cxy; rintro e w' ⟨rfl, hw⟩) | (go_at_call 29; refine (cv _).mono ?_; clear cv; rintro e w' ⟨rfl, hw⟩) | (go_at_call 21; refine (cbv _).mono ?_; clear cbv; rintro e w' ⟨rfl, hw⟩) | (go_at_call 17; refine (cxn _).mono ?_; clear cxn; rintro e w' ⟨rfl, hw⟩) | (go_at_call 25; refine (ct _).mono ?_; clear ct; rintro e w' ⟨rfl, hw⟩) | (go_at_call 21; refine (cbt _).mono ?_; clear cbt; rintro e w' ⟨rfl, hw⟩))
    go_ret
    refine ⟨rfl, ?_⟩
    repeat (first | exact Ext.refl _ | assumption | (apply Ext.trans; rotate_left; assumption))
  · have d1 : ((s : Int) == 0) = false := by simp; omega
    have d2 : ((x : Int) == (y : Int)) = false := by
      have : x ≠ y := fun h => h0 (hiff.1 h)
      simp; omega
    clear hiff h0
    go_enter Try.func7, Try.ntmps7
    go_wp2_with (first | (go_at_call 12; refine (live03 _).mono ?_; rintro e w' ⟨rfl, hw⟩) | (go_at_call 21; refine (cm _).mono ?_; clear cm; rintro e w' ⟨rfl, hw⟩) | (go_at_call 21; refine (cn _).mono ?_; clear cn; rintro e w' ⟨rfl, hw⟩) | (go_at_call 27; refine (cs _).mono ?_; clear cs; rintro e w' ⟨rfl, hw⟩) | (go_at_call 13; refine (ix _).mono ?_; clear ix; rintro e w' ⟨rfl, hw⟩) | (go_at_call 25; refine (cu _).mono ?_; clear cu; rintro e w' ⟨rfl, hw⟩) | (go_at_call 21; refine (cbu _).mono ?_; clear cbu; rintro e w' ⟨rfl, hw⟩) | (go_at_call 15; refine (cxy _).mono ?_; clear cxy; rintro e w' ⟨rfl, hw⟩) | (go_at_call 29; refine (cv _).mono ?_; clear cv; rintro e w' ⟨rfl, hw⟩) | (go_at_call 21; refine (cbv _).mono ?_; clear cbv; rintro e w' ⟨rfl, hw⟩) | (go_at_call 17; refine (cxn _).mono ?_; clear cxn; rintro e w' ⟨rfl, hw⟩) | (go_at_call 25; refine (ct _).mono ?_; clear ct; rintro e w' ⟨rfl, hw⟩) | (go_at_call 21; refine (cbt _).mono ?_; clear cbt; rintro e w' ⟨rfl, hw⟩))
    go_ret
    refine ⟨rfl, ?_⟩
    repeat (first | exact Ext.refl _ | assumption | (apply Ext.trans; rotate_left; assumption))

set_option maxRecDepth 100000 in
set_option maxHeartbeats 1000000 in
theorem walk_CyclicSquares (a : Nat) (ha : a < 18446744073709551616) (w : World) :
    Calls Try.prog 8 #[.int .u64 a] w fun e w' => e = .returned (.bool true) ∧ Ext w w' := by
  have b64 : ∀ {n : Nat}, n < bQ → n < 18446744073709551616 := fun h => lt64 h (by decide)
  obtain ⟨x, hx⟩ : ∃ x, x = a % bQ := ⟨_, rfl⟩
  have hx1 : x < bQ := by rw [hx]; exact Nat.mod_lt _ (by decide)
  have k1 : (a : Int) % 2305843009213691579 = (x : Int) := by rw [hx]; simp [bQ]
  obtain ⟨q, hq⟩ : ∃ q, q = mulM bQ a a := ⟨_, rfl⟩
  have hq1 : q < bQ := by rw [hq]; exact mulM_lt (by decide) _ _
  have cq := fun w => MulE a a ha ha w
  rw [← hq] at cq
  have iq := fun w => In_any q (b64 hq1) w
  rw [hq, inB_sq, ← hx, ← hq] at iq
  have c1 := fun w => MulE a 1 ha (by decide) w
  rw [mulM_one, ← hx] at c1
  by_cases h0 : x = 0
  · subst h0
    have iq : ∀ w, Calls Try.prog 13 #[.int .u64 (q : Nat)] w fun e w' => e = .returned (.bool false) ∧ Ext w w' := iq
    have ix : True := trivial
    have iy : True := trivial
    clear hx hq hx1 hq1 b64 ha
    go_enter Try.func8, Try.ntmps8
    go_wp2_with (first | (go_at_call 12; refine (live03 _).mono ?_; rintro e w' ⟨rfl, hw⟩) | (go_at_call 15; refine (cq _).mono ?_; clear cq; rintro e w' ⟨rfl, hw⟩) | (go_at_call 13; refine (iq _).mono ?_; clear iq; rintro e w' ⟨rfl, hw⟩) | (go_at_call 13; refine (ix _).mono ?_; clear ix; rintro e w' ⟨rfl, hw⟩) | (go_at_call 13; refine (iy _).mono ?_; clear iy; rintro e w' ⟨rfl, hw⟩) | (go_at_call 15; refine (c1 _).mono ?_; clear c1; rintro e w' ⟨rfl, hw⟩))
    go_ret
    refine ⟨rfl, ?_⟩
    repeat (first | exact Ext.refl _ | assumption | (apply Ext.trans; rotate_left; assumption))
  · obtain ⟨y, hy⟩ : ∃ y, y = bQ - x := ⟨_, rfl⟩
    have hy1 : y < bQ := by omega
    have k2 : (2305843009213691579 : Int) - (x : Int) = (y : Int) := by rw [hy]; unfold bQ at *; omega
    have z0 : (x : Int) < 2305843009213691579 := by unfold bQ at *; omega
    have d0 : ((x : Int) == 0) = false := by simp; omega
    have d0' : ((x : Int) != 0) = true := by simp; omega
    have e : (x != 0) = true := by simpa using h0
    rw [e] at iq
    have ix := fun w => In_any x (b64 hx1) w
    have iy := fun w => In_any y (b64 hy1) w
    have hne := inB_neg (Nat.pos_of_ne_zero h0) hx1
    rw [← hy] at hne
    clear hx hq hx1 hq1 hy1 b64 ha e h0 hy
    cases hb : inB x with
    | true =>
      have hb2 : inB y = false := by rw [hb] at hne; cases h : inB y; rfl; exact absurd h.symm hne
      rw [hb] at ix
      rw [hb2] at iy
      clear hb hb2 hne
      go_enter Try.func8, Try.ntmps8
      go_wp2_with (first | (go_at_call 12; refine (live03 _).mono ?_; rintro e w' ⟨rfl, hw⟩) | (go_at_call 15; refine (cq _).mono ?_; clear cq; rintro e w' ⟨rfl, hw⟩) | (go_at_call 13; refine (iq _).mono ?_; clear iq; rintro e w' ⟨rfl, hw⟩) | (go_at_call 13; refine (ix _).mono ?_; clear ix; rintro e w' ⟨rfl, hw⟩) | (go_at_call 13; refine (iy _).mono ?_; clear iy; rintro e w' ⟨rfl, hw⟩) | (go_at_call 15; refine (c1 _).mono ?_; clear c1; rintro e w' ⟨rfl, hw⟩))
      go_ret
      refine ⟨rfl, ?_⟩
      repeat (first | exact Ext.refl _ | assumption | (apply Ext.trans; rotate_left; assumption))
    | false =>
      have hb2 : inB y = true := by rw [hb] at hne; cases h : inB y; exact absurd h.symm hne; rfl
      rw [hb] at ix
      rw [hb2] at iy
      clear hb hb2 hne
      go_enter Try.func8, Try.ntmps8
      go_wp2_with (first | (go_at_call 12; refine (live03 _).mono ?_; rintro e w' ⟨rfl, hw⟩) | (go_at_call 15; refine (cq _).mono ?_; clear cq; rintro e w' ⟨rfl, hw⟩) | (go_at_call 13; refine (iq _).mono ?_; clear iq; rintro e w' ⟨rfl, hw⟩) | (go_at_call 13; refine (ix _).mono ?_; clear ix; rintro e w' ⟨rfl, hw⟩) | (go_at_call 13; refine (iy _).mono ?_; clear iy; rintro e w' ⟨rfl, hw⟩) | (go_at_call 15; refine (c1 _).mono ?_; clear c1; rintro e w' ⟨rfl, hw⟩))
      go_ret
      refine ⟨rfl, ?_⟩
      repeat (first | exact Ext.refl _ | assumption | (apply Ext.trans; rotate_left; assumption))

set_option maxRecDepth 100000 in
set_option maxHeartbeats 1000000 in
theorem walk_CyclicPowers (a : Nat) (m : Nat) (n : Nat) (ha : a < 18446744073709551616) (hm : m < 18446744073709551616) (hn : n < 18446744073709551616) (w : World) :
    Calls Try.prog 9 #[.int .u64 a, .int .u64 m, .int .u64 n] w fun e w' => e = .returned (.bool true) ∧ Ext w w' := by
  have b64 : ∀ {n : Nat}, n < bQ → n < 18446744073709551616 := fun h => lt64 h (by decide)
  obtain ⟨p, hp⟩ : ∃ p, p = powM bQ a m := ⟨_, rfl⟩
  obtain ⟨q, hq⟩ : ∃ q, q = powM bQ a n := ⟨_, rfl⟩
  have hp1 : p < bQ := by rw [hp]; exact powM_lt (by decide) _ _
  have hq1 : q < bQ := by rw [hq]; exact powM_lt (by decide) _ _
  have cm := fun w => Pow_any a m ha hm w
  rw [← hp] at cm
  have cn := fun w => Pow_any a n ha hn w
  rw [← hq] at cn
  have c0 := fun w => Pow_any a 0 ha (by decide) w
  rw [powM_zero (by decide)] at c0
  obtain ⟨r, hr⟩ : ∃ r, r = powM bQ a (m + n) := ⟨_, rfl⟩
  have cpq := fun w => MulE p q (b64 hp1) (b64 hq1) w
  rw [hp, hq, powM_add, ← hp, ← hq, ← hr] at cpq
  obtain ⟨s, hs⟩ : ∃ s, s = powM bQ a (m + 1) := ⟨_, rfl⟩
  have cpa := fun w => MulE p a (b64 hp1) ha w
  rw [hp, powM_succ, ← hp, ← hs] at cpa
  have z1 : decide ((p : Int) < 2305843009213691579) = true := by unfold bQ at *; simp; omega
  have z2 : decide (p < 2305843009213691579) = true := by unfold bQ at *; simp; omega
  obtain ⟨v, hv⟩ : ∃ v, v = (m + n) % 18446744073709551616 := ⟨_, rfl⟩
  have k1 : IntKind.u64.wrap ((m : Int) + (n : Int)) = (v : Int) := by rw [IntKind.wrap_u64, hv]; omega
  have x1 : (m : Int) < 18446744073709551616 := by omega
  by_cases ho : m + n < 18446744073709551616
  · have hvm : v = m + n := by rw [hv, Nat.mod_eq_of_lt ho]
    have cv := fun w => Pow_any a v ha (by omega) w
    rw [hvm, ← hr, ← hvm] at cv
    have d1 : decide ((m : Int) ≤ (v : Int)) = true := by simp; omega
    have d2 : decide (m ≤ v) = true := by simp; omega
    by_cases hmax : m = 18446744073709551615
    · have d3 : ((m : Int) == 18446744073709551615) = true := by simp; omega
      clear hp hq hr hs hp1 hq1 hv hvm hmax b64 ha hm hn ho
      go_enter Try.func9, Try.ntmps9
      go_wp2_with (first | (go_at_call 12; refine (live03 _).mono ?_; rintro e w' ⟨rfl, hw⟩) | (go_at_call 17; refine (cm _).mono ?_; clear cm; rintro e w' ⟨rfl, hw⟩) | (go_at_call 17; refine (cn _).mono ?_; clear cn; rintro e w' ⟨rfl, hw⟩) | (go_at_call 15; refine (cpq _).mono ?_; clear cpq; rintro e w' ⟨rfl, hw⟩) | (go_at_call 17; refine (cv _).mono ?_; clear cv; rintro e w' ⟨rfl, hw⟩) | (go_at_call 17; refine (c0 _).mono ?_; clear c0; rintro e w' ⟨rfl, hw⟩) | (go_at_call 15; refine (cpa _).mono ?_; clear cpa; rintro e w' ⟨rfl, hw⟩) | (go_at_call 17; refine (cs _).mono ?_; clear cs; rintro e w' ⟨rfl, hw⟩))
      go_ret
      refine ⟨rfl, ?_⟩
      repeat (first | exact Ext.refl _ | assumption | (apply Ext.trans; rotate_left; assumption))
    · have d3 : ((m : Int) == 18446744073709551615) = false := by simp; omega
      have x2 : (m : Int) + 1 < 18446744073709551616 := by omega
      have cs := fun w => Pow_any a (m + 1) ha (by omega) w
      rw [← hs] at cs
      clear hp hq hr hs hp1 hq1 hv hvm hmax b64 ha hm hn ho
      go_enter Try.func9, Try.ntmps9
      go_wp2_with (first | (go_at_call 12; refine (live03 _).mono ?_; rintro e w' ⟨rfl, hw⟩) | (go_at_call 17; refine (cm _).mono ?_; clear cm; rintro e w' ⟨rfl, hw⟩) | (go_at_call 17; refine (cn _).mono ?_; clear cn; rintro e w' ⟨rfl, hw⟩) | (go_at_call 15; refine (cpq _).mono ?_; clear cpq; rintro e w' ⟨rfl, hw⟩) | (go_at_call 17; refine (cv _).mono ?_; clear cv; rintro e w' ⟨rfl, hw⟩) | (go_at_call 17; refine (c0 _).mono ?_; clear c0; rintro e w' ⟨rfl, hw⟩) | (go_at_call 15; refine (cpa _).mono ?_; clear cpa; rintro e w' ⟨rfl, hw⟩) | (go_at_call 17; refine (cs _).mono ?_; clear cs; rintro e w' ⟨rfl, hw⟩))
      go_ret
      refine ⟨rfl, ?_⟩
      repeat (first | exact Ext.refl _ | assumption | (apply Ext.trans; rotate_left; assumption))
  · have hvm : v = m + n - 18446744073709551616 := by omega
    have d1 : decide ((m : Int) ≤ (v : Int)) = false := by simp; omega
    have d2 : decide (m ≤ v) = false := by simp; omega
    by_cases hmax : m = 18446744073709551615
    · have d3 : ((m : Int) == 18446744073709551615) = true := by simp; omega
      clear hp hq hr hs hp1 hq1 hv hvm hmax b64 ha hm hn ho
      go_enter Try.func9, Try.ntmps9
      go_wp2_with (first | (go_at_call 12; refine (live03 _).mono ?_; rintro e w' ⟨rfl, hw⟩) | (go_at_call 17; refine (cm _).mono ?_; clear cm; rintro e w' ⟨rfl, hw⟩) | (go_at_call 17; refine (cn _).mono ?_; clear cn; rintro e w' ⟨rfl, hw⟩) | (go_at_call 15; refine (cpq _).mono ?_; clear cpq; rintro e w' ⟨rfl, hw⟩) | (go_at_call 17; refine (cv _).mono ?_; clear cv; rintro e w' ⟨rfl, hw⟩) | (go_at_call 17; refine (c0 _).mono ?_; clear c0; rintro e w' ⟨rfl, hw⟩) | (go_at_call 15; refine (cpa _).mono ?_; clear cpa; rintro e w' ⟨rfl, hw⟩) | (go_at_call 17; refine (cs _).mono ?_; clear cs; rintro e w' ⟨rfl, hw⟩))
      go_ret
      refine ⟨rfl, ?_⟩
      repeat (first | exact Ext.refl _ | assumption | (apply Ext.trans; rotate_left; assumption))
    · have d3 : ((m : Int) == 18446744073709551615) = false := by simp; omega
      have x2 : (m : Int) + 1 < 18446744073709551616 := by omega
      have cs := fun w => Pow_any a (m + 1) ha (by omega) w
      rw [← hs] at cs
      clear hp hq hr hs hp1 hq1 hv hvm hmax b64 ha hm hn ho
      go_enter Try.func9, Try.ntmps9
      go_wp2_with (first | (go_at_call 12; refine (live03 _).mono ?_; rintro e w' ⟨rfl, hw⟩) | (go_at_call 17; refine (cm _).mono ?_; clear cm; rintro e w' ⟨rfl, hw⟩) | (go_at_call 17; refine (cn _).mono ?_; clear cn; rintro e w' ⟨rfl, hw⟩) | (go_at_call 15; refine (cpq _).mono ?_; clear cpq; rintro e w' ⟨rfl, hw⟩) | (go_at_call 17; refine (cv _).mono ?_; clear cv; rintro e w' ⟨rfl, hw⟩) | (go_at_call 17; refine (c0 _).mono ?_; clear c0; rintro e w' ⟨rfl, hw⟩) | (go_at_call 15; refine (cpa _).mono ?_; clear cpa; rintro e w' ⟨rfl, hw⟩) | (go_at_call 17; refine (cs _).mono ?_; clear cs; rintro e w' ⟨rfl, hw⟩))
      go_ret
      refine ⟨rfl, ?_⟩
      repeat (first | exact Ext.refl _ | assumption | (apply Ext.trans; rotate_left; assumption))

set_option maxRecDepth 100000 in
set_option maxHeartbeats 1000000 in
theorem walk_CyclicRing (a : Nat) (b : Nat) (c : Nat) (ha : a < 18446744073709551616) (hb : b < 18446744073709551616) (hc : c < 18446744073709551616) (w : World) :
    Calls Try.prog 10 #[.int .u64 a, .int .u64 b, .int .u64 c] w fun e w' => e = .returned (.bool true) ∧ Ext w w' := by
  have b64 : ∀ {n : Nat}, n < bR → n < 18446744073709551616 := fun h => lt64 h (by decide)
  obtain ⟨x, hx⟩ : ∃ x, x = a % bR := ⟨_, rfl⟩
  obtain ⟨y, hy⟩ : ∃ y, y = b % bR := ⟨_, rfl⟩
  have k1 : (a : Int) % 1152921504606845789 = (x : Int) := by rw [hx]; simp [bR]
  have k2 : (b : Int) % 1152921504606845789 = (y : Int) := by rw [hy]; simp [bR]
  obtain ⟨s, hs⟩ : ∃ s, s = addM bR a b := ⟨_, rfl⟩
  have hs1 : s < bR := by rw [hs]; exact addM_lt' (by decide) _ _
  have z1 : decide ((s : Int) < 1152921504606845789) = true := by unfold bR at *; simp; omega
  have z2 : decide (s < 1152921504606845789) = true := by unfold bR at *; simp; omega
  obtain ⟨l, hl⟩ : ∃ l, l = mulM bR s c := ⟨_, rfl⟩
  obtain ⟨p, hp⟩ : ∃ p, p = mulM bR a c := ⟨_, rfl⟩
  obtain ⟨q, hq⟩ : ∃ q, q = mulM bR b c := ⟨_, rfl⟩
  have hp1 : p < bR := by rw [hp]; exact mulM_lt (by decide) _ _
  have hq1 : q < bR := by rw [hq]; exact mulM_lt (by decide) _ _
  obtain ⟨u, hu⟩ : ∃ u, u = mulM bR a b := ⟨_, rfl⟩
  have hu1 : u < bR := by rw [hu]; exact mulM_lt (by decide) _ _
  have c1 := fun w => AddRE a b w
  rw [← hs] at c1
  have c2 := fun w => MulRE s c (b64 hs1) hc w
  rw [← hl] at c2
  have c3 := fun w => MulRE a c ha hc w
  rw [← hp] at c3
  have c4 := fun w => MulRE b c hb hc w
  rw [← hq] at c4
  have c5 := fun w => AddRE p q w
  rw [hp, hq, ← mulM_addM, ← hs, ← hl, ← hp, ← hq] at c5
  have c6 := fun w => AddRE b a w
  rw [addM_comm, ← hs] at c6
  have c7 := fun w => MulRE a b ha hb w
  rw [← hu] at c7
  have c8 := fun w => MulRE b a hb ha w
  rw [mulM_comm, ← hu] at c8
  have c9 := fun w => SubRE s b w
  rw [hs, subM_addM _ _ _ (by decide), ← hx, ← hs] at c9
  by_cases h0 : y = 0
  · subst h0
    have ci := fun w => InvR_no b hy.symm w
    clear hx hs hl hp hq hu hs1 hp1 hq1 hu1 b64 ha hb hc hy
    go_enter Try.func10, Try.ntmps10
    go_wp2_with (first | (go_at_call 12; refine (live03 _).mono ?_; rintro e w' ⟨rfl, hw⟩) | (go_at_call 25; refine (c1 _).mono ?_; clear c1; rintro e w' ⟨rfl, hw⟩) | (go_at_call 29; refine (c2 _).mono ?_; clear c2; rintro e w' ⟨rfl, hw⟩) | (go_at_call 29; refine (c3 _).mono ?_; clear c3; rintro e w' ⟨rfl, hw⟩) | (go_at_call 29; refine (c4 _).mono ?_; clear c4; rintro e w' ⟨rfl, hw⟩) | (go_at_call 25; refine (c5 _).mono ?_; clear c5; rintro e w' ⟨rfl, hw⟩) | (go_at_call 23; refine (ci _).mono ?_; clear ci; rintro e w' ⟨rfl, rfl⟩) | (go_at_call 25; refine (c6 _).mono ?_; clear c6; rintro e w' ⟨rfl, hw⟩) | (go_at_call 29; refine (c7 _).mono ?_; clear c7; rintro e w' ⟨rfl, hw⟩) | (go_at_call 29; refine (c8 _).mono ?_; clear c8; rintro e w' ⟨rfl, hw⟩) | (go_at_call 27; refine (c9 _).mono ?_; clear c9; rintro e w' ⟨rfl, hw⟩) | (go_at_call 29; refine (c7b _).mono ?_; rintro e w' ⟨rfl, hw⟩) | (go_at_call 29; refine (c10 _).mono ?_; clear c10; rintro e w' ⟨rfl, hw⟩))
    go_ret
    refine ⟨rfl, ?_⟩
    repeat (first | exact Ext.refl _ | assumption | (apply Ext.trans; rotate_left; assumption))
  · have hy0 : b % bR ≠ 0 := hy ▸ h0
    have d0 : ((y : Int) == 0) = false := by simp; omega
    obtain ⟨i, hi⟩ : ∃ i, i = invM bR b := ⟨_, rfl⟩
    have hi1 : i < bR := by rw [hi]; exact invM_lt (by decide) _
    have ci := fun w => InvR_ok b hy0 w
    rw [← hi] at ci
    have c7b := c7
    have c10 := fun w => MulRE u i (b64 hu1) (b64 hi1) w
    rw [hu, hi, mul_inv_back pr_R hy0, ← hx, ← hi, ← hu] at c10
    clear hx hs hl hp hq hu hs1 hp1 hq1 hu1 b64 ha hb hc hy hy0 h0 hi hi1
    go_enter Try.func10, Try.ntmps10
    go_wp2_with (first | (go_at_call 12; refine (live03 _).mono ?_; rintro e w' ⟨rfl, hw⟩) | (go_at_call 25; refine (c1 _).mono ?_; clear c1; rintro e w' ⟨rfl, hw⟩) | (go_at_call 29; refine (c2 _).mono ?_; clear c2; rintro e w' ⟨rfl, hw⟩) | (go_at_call 29; refine (c3 _).mono ?_; clear c3; rintro e w' ⟨rfl, hw⟩) | (go_at_call 29; refine (c4 _).mono ?_; clear c4; rintro e w' ⟨rfl, hw⟩) | (go_at_call 25; refine (c5 _).mono ?_; clear c5; rintro e w' ⟨rfl, hw⟩) | (go_at_call 23; refine (ci _).mono ?_; clear ci; rintro e w' ⟨rfl, rfl⟩) | (go_at_call 25; refine (c6 _).mono ?_; clear c6; rintro e w' ⟨rfl, hw⟩) | (go_at_call 29; refine (c7 _).mono ?_; clear c7; rintro e w' ⟨rfl, hw⟩) | (go_at_call 29; refine (c8 _).mono ?_; clear c8; rintro e w' ⟨rfl, hw⟩) | (go_at_call 27; refine (c9 _).mono ?_; clear c9; rintro e w' ⟨rfl, hw⟩) | (go_at_call 29; refine (c7b _).mono ?_; rintro e w' ⟨rfl, hw⟩) | (go_at_call 29; refine (c10 _).mono ?_; clear c10; rintro e w' ⟨rfl, hw⟩))
    go_ret
    refine ⟨rfl, ?_⟩
    repeat (first | exact Ext.refl _ | assumption | (apply Ext.trans; rotate_left; assumption))

set_option maxRecDepth 100000 in
set_option maxHeartbeats 1000000 in
theorem walk_CyclicField (a : Nat) (b : Nat) (ha : a < 18446744073709551616) (hb : b < 18446744073709551616) (w : World) :
    Calls Try.prog 11 #[.int .u64 a, .int .u64 b] w fun e w' => e = .returned (.bool true) ∧ Ext w w' := by
  have b64 : ∀ {n : Nat}, n < bQ → n < 18446744073709551616 := fun h => lt64 h (by decide)
  obtain ⟨x, hx⟩ : ∃ x, x = a % bQ := ⟨_, rfl⟩
  obtain ⟨y, hy⟩ : ∃ y, y = b % bQ := ⟨_, rfl⟩
  have k1 : (a : Int) % 2305843009213691579 = (x : Int) := by rw [hx]; simp [bQ]
  have k2 : (b : Int) % 2305843009213691579 = (y : Int) := by rw [hy]; simp [bQ]
  by_cases h0 : x = 0
  · subst h0
    have ci := fun w => Inv_no a hx.symm w
    clear hx hy ha hb b64
    go_enter Try.func11, Try.ntmps11
    go_wp2_with (first | (go_at_call 12; refine (live03 _).mono ?_; rintro e w' ⟨rfl, hw⟩) | (go_at_call 19; refine (ci _).mono ?_; clear ci; rintro e w' ⟨rfl, rfl⟩) | (go_at_call 19; refine (cj _).mono ?_; clear cj; rintro e w' ⟨rfl, rfl⟩) | (go_at_call 17; refine (cp _).mono ?_; clear cp; rintro e w' ⟨rfl, hw⟩) | (go_at_call 15; refine (c1 _).mono ?_; clear c1; rintro e w' ⟨rfl, hw⟩) | (go_at_call 15; refine (c2 _).mono ?_; clear c2; rintro e w' ⟨rfl, hw⟩))
    go_ret
    refine ⟨rfl, ?_⟩
    repeat (first | exact Ext.refl _ | assumption | (apply Ext.trans; rotate_left; assumption))
  · have hx0 : a % bQ ≠ 0 := hx ▸ h0
    have d0 : ((x : Int) == 0) = false := by simp; omega
    obtain ⟨i, hi⟩ : ∃ i, i = invM bQ a := ⟨_, rfl⟩
    have hi1 : i < bQ := by rw [hi]; exact invM_lt (by decide) _
    have hi0 : i ≠ 0 := by rw [hi]; exact invM_ne pr_Q hx0
    have hi2 : i % bQ ≠ 0 := by rw [Nat.mod_eq_of_lt hi1]; exact hi0
    have z1 : decide ((i : Int) < 2305843009213691579) = true := by unfold bQ at *; simp; omega
    have z2 : decide (i < 2305843009213691579) = true := by unfold bQ at *; simp; omega
    have z3 : decide (0 < (i : Int)) = true := by simp; omega
    have z4 : decide (0 < i) = true := by simp; omega
    have ci := fun w => Inv_ok a hx0 w
    rw [← hi] at ci
    have cj := fun w => Inv_ok i hi2 w
    rw [hi, invM_invM pr_Q hx0, ← hx, ← hi] at cj
    have cp := fun w => Pow_any a (bQ - 2) ha (by decide) w
    rw [show powM bQ a (bQ - 2) = i by rw [hi]; unfold invM; rw [if_neg hx0]; rfl] at cp
    obtain ⟨u, hu⟩ : ∃ u, u = mulM bQ b a := ⟨_, rfl⟩
    have hu1 : u < bQ := by rw [hu]; exact mulM_lt (by decide) _ _
    have c1 := fun w => MulE b a hb ha w
    rw [← hu] at c1
    have c2 := fun w => MulE u i (b64 hu1) (b64 hi1) w
    rw [hu, hi, mul_inv_back pr_Q hx0, ← hy, ← hi, ← hu] at c2
    clear hx hy ha hb b64 hx0 h0 hi hi1 hi0 hi2 hu hu1
    go_enter Try.func11, Try.ntmps11
    go_wp2_with (first | (go_at_call 12; refine (live03 _).mono ?_; rintro e w' ⟨rfl, hw⟩) | (go_at_call 19; refine (ci _).mono ?_; clear ci; rintro e w' ⟨rfl, rfl⟩) | (go_at_call 19; refine (cj _).mono ?_; clear cj; rintro e w' ⟨rfl, rfl⟩) | (go_at_call 17; refine (cp _).mono ?_; clear cp; rintro e w' ⟨rfl, hw⟩) | (go_at_call 15; refine (c1 _).mono ?_; clear c1; rintro e w' ⟨rfl, hw⟩) | (go_at_call 15; refine (c2 _).mono ?_; clear c2; rintro e w' ⟨rfl, hw⟩))
    go_ret
    refine ⟨rfl, ?_⟩
    repeat (first | exact Ext.refl _ | assumption | (apply Ext.trans; rotate_left; assumption))
end Go.Proofs.Ytgibmmacfdlniaa
