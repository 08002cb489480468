/- Statements of signing, walked (5): SignTwice, SignSays. Printed by gen_says.py. -/
import Derived.Test.YtbomfnlipbdigaaSiLaw2
namespace Go.Proofs.Ytbomfnlipbdigaa
set_option linter.unusedVariables false
open Go.RowKit Go.Shelf
attribute [local irreducible] mix hSum hNum someN chalN

set_option maxRecDepth 100000 in
set_option maxHeartbeats 4000000 in
theorem walk_SignTwice (n k : Nat) (A : Option Addr) (c : Nat) (l : List Nat) (A' : Option Addr) (c' : Nat) (m : List Nat) (hn : n < 18446744073709551616) (hk : k < 18446744073709551616) (hc : l.length ≤ c) (hcr : c ≤ 140737488351232) (hl : ∀ x ∈ l, x < 256) (hc' : m.length ≤ c') (hcr' : c' ≤ 140737488351232) (hm : ∀ x ∈ m, x < 256) (w : World) (hr : Reads w w.heap.size 1 A l.length (bv l)) (hr' : Reads w w.heap.size 1 A' m.length (bv m)) :
    Calls Try.prog 10 #[.int .u64 n, .int .u64 k, .slice A l.length c, .slice A' m.length c'] w fun e w' => e = .returned (.bool true) ∧ Ext w w' := by
  have cl := fun W => live_any W
  have cf := fun W => few_any A l.length c W
  have cf' := fun W => few_any A' m.length c' W
  by_cases h : l.length ≤ 1000
  · rw [decide_eq_true h] at cf
    by_cases h' : m.length ≤ 1000
    · rw [decide_eq_true h'] at cf'
      have cs := fun W => secret_any n W
      have s2 := secretN_lt n
      have ho := oddN_secret n
      obtain ⟨s, hs⟩ : ∃ s, s = secretN n := ⟨_, rfl⟩
      rw [← hs] at cs s2 ho
      have cp := fun W => Public_any s (r64 s2) W
      rw [if_neg (by rw [ho]; decide)] at cp
      have cb := fun W => Base_any k hk W
      have cc := fun W (x : Ext w W) => Challenge_any (powM bQ 4 k) (powM bQ 4 s) (pw64 _ _) (pw64 _ _) l hl h A c hc W ((hr.below x.out).more x.size)
      have cd := fun W (x : Ext w W) => Challenge_any (powM bQ 4 k) (powM bQ 4 s) (pw64 _ _) (pw64 _ _) m hm h' A' c' hc' W ((hr'.below x.out).more x.size)
      have hu1 := chalN_lt (powM bQ 4 k) (powM bQ 4 s) l
      have hv1 := chalN_lt (powM bQ 4 k) (powM bQ 4 s) m
      obtain ⟨u, hu⟩ : ∃ u, u = chalN (powM bQ 4 k) (powM bQ 4 s) l := ⟨_, rfl⟩
      obtain ⟨v, hv⟩ : ∃ v, v = chalN (powM bQ 4 k) (powM bQ 4 s) m := ⟨_, rfl⟩
      rw [← hu] at cc hu1
      rw [← hv] at cd hv1
      have cm := fun W => MulRE u s (r64 hu1) (r64 s2) W
      have ca := fun W => AddRE k (mulM bR u s) W
      have cm' := fun W => MulRE v s (r64 hv1) (r64 s2) W
      have ca' := fun W => AddRE k (mulM bR v s) W
      by_cases hne : u = v
      · rw [← hne] at cd cm' ca'
        obtain ⟨b, hb⟩ : ∃ b, b = powM bQ 4 k := ⟨_, rfl⟩
        obtain ⟨p, hp⟩ : ∃ p, p = powM bQ 4 s := ⟨_, rfl⟩
        rw [← hb] at cb cc cd
        rw [← hp] at cp cc cd
        obtain ⟨z, hz⟩ : ∃ z, z = addM bR k (mulM bR u s) := ⟨_, rfl⟩
        obtain ⟨q, hq⟩ : ∃ q, q = mulM bR u s := ⟨_, rfl⟩
        rw [← hz, ← hq] at ca ca'
        rw [← hq] at cm cm'
        have cb' := cb
        clear hne hu hv hb hp hz hq hs s2 ho hr hl h hc hcr hr' hm h' hc' hcr' hn hk hu1 hv1
        go_enter Try.func10, Try.ntmps10
        go_wp2_with (first
          | (go_at_call 11; refine (cl _).mono ?_; clear cl; rintro e w1 ⟨rfl, x1⟩)
          | (go_at_call 12; refine (cf _).mono ?_; clear cf; rintro e w' ⟨rfl, rfl⟩)
          | (go_at_call 12; refine (cf' _).mono ?_; clear cf'; rintro e w' ⟨rfl, rfl⟩)
          | (go_at_call 23; refine (cs _).mono ?_; clear cs; rintro e w' ⟨rfl, rfl⟩)
          | (go_at_call 13; refine (cp _).mono ?_; clear cp; rintro e w2 ⟨rfl, x2⟩; have y2 := x1.trans x2)
          | (go_at_call 25; refine (cb _).mono ?_; clear cb; rintro e w3 ⟨rfl, x3⟩; have y3 := y2.trans x3)
          | (go_at_call 17; refine (cc _ y3).mono ?_; clear cc; rintro e w4 ⟨rfl, x4⟩; have y4 := y3.trans x4)
          | (go_at_call 25; refine (cb' _).mono ?_; clear cb'; rintro e w5 ⟨rfl, x5⟩; have y5 := y4.trans x5)
          | (go_at_call 17; refine (cd _ y5).mono ?_; clear cd; rintro e w6 ⟨rfl, x6⟩; have y6 := y5.trans x6)
          | (go_at_call 27; refine (cm _).mono ?_; clear cm; rintro e w7 ⟨rfl, x7⟩; have y7 := y6.trans x7)
          | (go_at_call 26; refine (ca _).mono ?_; clear ca; rintro e w8 ⟨rfl, x8⟩; have y8 := y7.trans x8)
          | (go_at_call 27; refine (cm' _).mono ?_; clear cm'; rintro e w9 ⟨rfl, x9⟩; have y9 := y8.trans x9)
          | (go_at_call 26; refine (ca' _).mono ?_; clear ca'; rintro e w10 ⟨rfl, x10⟩; have y10 := y9.trans x10))
        go_ret
        exact ⟨rfl, y10⟩
      · have k1 : ((u : Int) == (v : Int)) = false := by simp; omega
        have cu := fun W => SubRE u v W
        have cu' := fun W => SubRE (addM bR k (mulM bR u s)) (addM bR k (mulM bR v s)) W
        have hD : subM bR u v % bR ≠ 0 := by
          intro h0
          rw [Nat.mod_eq_of_lt (subM_lt (by decide) _ _), subM_zero_iff _ _ _ (by decide), Nat.mod_eq_of_lt hu1, Nat.mod_eq_of_lt hv1] at h0
          exact hne h0
        have ci : ∀ W, Calls Try.prog 30 #[.int .u64 (subM bR u v : Nat)] W fun e w' => e = .returned (.tuple #[.int .u64 (invM bR (subM bR u v) : Nat), .int .i64 0]) ∧ Ext W w' := fun W => by
          have := InvR_any (subM bR u v) W
          rw [invE_ok hD] at this
          exact toExt this
        have ck := fun W (x : Ext w W) => Check_any (powM bQ 4 s) (pw64 _ _) u (addM bR k (mulM bR u s)) (r64 hu1) (r64 (addM_lt' (by decide) _ _)) l hl h A c hc W ((hr.below x.out).more x.size)
        rw [check_nonce s k l u hu] at ck
        have ck' := fun W (x : Ext w W) => Check_any (powM bQ 4 s) (pw64 _ _) v (addM bR k (mulM bR v s)) (r64 hv1) (r64 (addM_lt' (by decide) _ _)) m hm h' A' c' hc' W ((hr'.below x.out).more x.size)
        rw [check_nonce s k m v hv] at ck'
        have cv := fun W => MulRE (subM bR (addM bR k (mulM bR u s)) (addM bR k (mulM bR v s))) (invM bR (subM bR u v)) (r64 (subM_lt (by decide) _ _)) (r64 (invM_lt (by decide) _)) W
        rw [twice k s u v s2 hu1 hv1 hne] at cv
        obtain ⟨b, hb⟩ : ∃ b, b = powM bQ 4 k := ⟨_, rfl⟩
        obtain ⟨p, hp⟩ : ∃ p, p = powM bQ 4 s := ⟨_, rfl⟩
        rw [← hb] at cb cc cd
        rw [← hp] at cp cc cd ck ck'
        obtain ⟨z, hz⟩ : ∃ z, z = addM bR k (mulM bR u s) := ⟨_, rfl⟩
        obtain ⟨y, hy⟩ : ∃ y, y = addM bR k (mulM bR v s) := ⟨_, rfl⟩
        rw [← hz] at ca ck cu' cv
        rw [← hy] at ca' ck' cu' cv
        obtain ⟨q, hq⟩ : ∃ q, q = mulM bR u s := ⟨_, rfl⟩
        obtain ⟨r, hr2⟩ : ∃ r, r = mulM bR v s := ⟨_, rfl⟩
        rw [← hq] at ca cm
        rw [← hr2] at ca' cm'
        obtain ⟨d, hd⟩ : ∃ d, d = subM bR z y := ⟨_, rfl⟩
        obtain ⟨i, hi⟩ : ∃ i, i = invM bR (subM bR u v) := ⟨_, rfl⟩
        rw [← hd] at cu' cv
        rw [← hi] at ci cv
        obtain ⟨f, hf⟩ : ∃ f, f = subM bR u v := ⟨_, rfl⟩
        rw [← hf] at cu ci
        have cb' := cb
        clear hD hne hu hv hb hp hz hy hq hr2 hd hi hf hs s2 ho hr hl h hc hcr hr' hm h' hc' hcr' hn hk hu1 hv1
        go_enter Try.func10, Try.ntmps10
        go_wp2_with (first
          | (go_at_call 11; refine (cl _).mono ?_; clear cl; rintro e w1 ⟨rfl, x1⟩)
          | (go_at_call 12; refine (cf _).mono ?_; clear cf; rintro e w' ⟨rfl, rfl⟩)
          | (go_at_call 12; refine (cf' _).mono ?_; clear cf'; rintro e w' ⟨rfl, rfl⟩)
          | (go_at_call 23; refine (cs _).mono ?_; clear cs; rintro e w' ⟨rfl, rfl⟩)
          | (go_at_call 13; refine (cp _).mono ?_; clear cp; rintro e w2 ⟨rfl, x2⟩; have y2 := x1.trans x2)
          | (go_at_call 25; refine (cb _).mono ?_; clear cb; rintro e w3 ⟨rfl, x3⟩; have y3 := y2.trans x3)
          | (go_at_call 17; refine (cc _ y3).mono ?_; clear cc; rintro e w4 ⟨rfl, x4⟩; have y4 := y3.trans x4)
          | (go_at_call 25; refine (cb' _).mono ?_; clear cb'; rintro e w5 ⟨rfl, x5⟩; have y5 := y4.trans x5)
          | (go_at_call 17; refine (cd _ y5).mono ?_; clear cd; rintro e w6 ⟨rfl, x6⟩; have y6 := y5.trans x6)
          | (go_at_call 27; refine (cm _).mono ?_; clear cm; rintro e w7 ⟨rfl, x7⟩; have y7 := y6.trans x7)
          | (go_at_call 26; refine (ca _).mono ?_; clear ca; rintro e w8 ⟨rfl, x8⟩; have y8 := y7.trans x8)
          | (go_at_call 27; refine (cm' _).mono ?_; clear cm'; rintro e w9 ⟨rfl, x9⟩; have y9 := y8.trans x9)
          | (go_at_call 26; refine (ca' _).mono ?_; clear ca'; rintro e w10 ⟨rfl, x10⟩; have y10 := y9.trans x10)
          | (go_at_call 31; refine (cu _).mono ?_; clear cu; rintro e w11 ⟨rfl, x11⟩; have y11 := y10.trans x11)
          | (go_at_call 30; refine (ci _).mono ?_; clear ci; rintro e w12 ⟨rfl, x12⟩; have y12 := y11.trans x12)
          | (go_at_call 21; refine (ck _ y12).mono ?_; clear ck; rintro e w13 ⟨rfl, x13⟩; have y13 := y12.trans x13)
          | (go_at_call 21; refine (ck' _ y13).mono ?_; clear ck'; rintro e w14 ⟨rfl, x14⟩; have y14 := y13.trans x14)
          | (go_at_call 31; refine (cu' _).mono ?_; clear cu'; rintro e w15 ⟨rfl, x15⟩; have y15 := y14.trans x15)
          | (go_at_call 27; refine (cv _).mono ?_; clear cv; rintro e w16 ⟨rfl, x16⟩; have y16 := y15.trans x16))
        go_ret
        exact ⟨rfl, y16⟩
    · rw [decide_eq_false h'] at cf'
      clear hr hl h hc hcr hr' hm h' hc' hcr' hn hk
      go_enter Try.func10, Try.ntmps10
      go_wp2_with (first
        | (go_at_call 11; refine (cl _).mono ?_; clear cl; rintro e w1 ⟨rfl, x1⟩)
        | (go_at_call 12; refine (cf _).mono ?_; clear cf; rintro e w' ⟨rfl, rfl⟩)
        | (go_at_call 12; refine (cf' _).mono ?_; clear cf'; rintro e w' ⟨rfl, rfl⟩))
      go_ret
      exact ⟨rfl, x1⟩
  · rw [decide_eq_false h] at cf
    clear hr hl h hc hcr hr' hm hc' hcr' cf' hn hk
    go_enter Try.func10, Try.ntmps10
    go_wp2_with (first
      | (go_at_call 11; refine (cl _).mono ?_; clear cl; rintro e w1 ⟨rfl, x1⟩)
      | (go_at_call 12; refine (cf _).mono ?_; clear cf; rintro e w' ⟨rfl, rfl⟩))
    go_ret
    exact ⟨rfl, x1⟩

set_option maxRecDepth 100000 in
set_option maxHeartbeats 4000000 in
theorem walk_SignSays (p : Nat) (A : Option Addr) (c : Nat) (l : List Nat) (E S : Nat) (hp : p < 18446744073709551616) (hc : l.length ≤ c) (hcr : c ≤ 140737488351232) (hl : ∀ x ∈ l, x < 256) (hE : E < 18446744073709551616) (hS : S < 18446744073709551616) (w : World) (hr : Reads w w.heap.size 1 A l.length (bv l)) :
    Calls Try.prog 8 #[.int .u64 p, .slice A l.length c, .agg #[.int .u64 E, .int .u64 S]] w fun e w' => e = .returned (.bool true) ∧ Ext w w' := by
  have cl := fun W => live_any W
  have cf := fun W => few_any A l.length c W
  by_cases h : l.length ≤ 1000
  · rw [decide_eq_true h] at cf
    have c1 := fun W (x : Ext w W) => Check_any p hp E S hE hS l hl h A c hc W ((hr.below x.out).more x.size)
    have c2 := fun W => In_any p hp W
    rcases hi : inB p
    · rw [hi] at c2
      rw [checkN_out hi] at c1
      clear hi hr hl h hc hcr hp hE hS
      go_enter Try.func8, Try.ntmps8
      have x0 : Ext w (w.alloc (.cells #[.int .u64 (E : Int), .int .u64 (S : Int)] 33)) := (Ext.refl w).alloc _
      have B0 := Lib.hid (Blk.new w 33 #[.int .u64 (E : Int), .int .u64 (S : Int)])
      go_wp2_with (first
        | (go_at_call 11; refine (cl _).mono ?_; clear cl; rintro e w1 ⟨rfl, x1⟩; have y1 := x0.trans x1; have B1 := Lib.hid (ext_blk x1 B0.out); obtain ⟨p0, p1⟩ := two B1.out)
        | (go_at_call 12; refine (cf _).mono ?_; clear cf; rintro e w' ⟨rfl, rfl⟩)
        | (go_at_call 21; refine (c1 _ y1).mono ?_; clear c1; rintro e w2 ⟨rfl, x2⟩; have y2 := y1.trans x2)
        | (go_at_call 24; refine (c2 _).mono ?_; clear c2; rintro e w3 ⟨rfl, x3⟩; have y3 := y2.trans x3; have B3 := Lib.hid (ext_blk (x2.trans x3) B1.out); obtain ⟨p2, p3⟩ := two B3.out))
      go_ret
      exact ⟨rfl, y3⟩
    · rw [hi] at c2
      by_cases hh : bR ≤ E ∨ bR ≤ S
      · rw [checkN_high hi l hh] at c1
        by_cases h2 : bR ≤ E
        · have k0 : decide ((1152921504606845789 : Int) ≤ (E : Int)) = true := by unfold bR at h2; simp; omega
          clear hi hr hl h hc hcr hp hE hS hh h2
          go_enter Try.func8, Try.ntmps8
          have x0 : Ext w (w.alloc (.cells #[.int .u64 (E : Int), .int .u64 (S : Int)] 33)) := (Ext.refl w).alloc _
          have B0 := Lib.hid (Blk.new w 33 #[.int .u64 (E : Int), .int .u64 (S : Int)])
          go_wp2_with (first
            | (go_at_call 11; refine (cl _).mono ?_; clear cl; rintro e w1 ⟨rfl, x1⟩; have y1 := x0.trans x1; have B1 := Lib.hid (ext_blk x1 B0.out); obtain ⟨p0, p1⟩ := two B1.out)
            | (go_at_call 12; refine (cf _).mono ?_; clear cf; rintro e w' ⟨rfl, rfl⟩)
            | (go_at_call 21; refine (c1 _ y1).mono ?_; clear c1; rintro e w2 ⟨rfl, x2⟩; have y2 := y1.trans x2)
            | (go_at_call 24; refine (c2 _).mono ?_; clear c2; rintro e w3 ⟨rfl, x3⟩; have y3 := y2.trans x3; have B3 := Lib.hid (ext_blk (x2.trans x3) B1.out); obtain ⟨p2, p3⟩ := two B3.out))
          go_ret
          exact ⟨rfl, y3⟩
        · have k0 : decide ((1152921504606845789 : Int) ≤ (E : Int)) = false := by unfold bR at h2; simp; omega
          have k1 : decide ((1152921504606845789 : Int) ≤ (S : Int)) = true := by unfold bR at hh h2; simp; omega
          clear hi hr hl h hc hcr hp hE hS hh h2
          go_enter Try.func8, Try.ntmps8
          have x0 : Ext w (w.alloc (.cells #[.int .u64 (E : Int), .int .u64 (S : Int)] 33)) := (Ext.refl w).alloc _
          have B0 := Lib.hid (Blk.new w 33 #[.int .u64 (E : Int), .int .u64 (S : Int)])
          go_wp2_with (first
            | (go_at_call 11; refine (cl _).mono ?_; clear cl; rintro e w1 ⟨rfl, x1⟩; have y1 := x0.trans x1; have B1 := Lib.hid (ext_blk x1 B0.out); obtain ⟨p0, p1⟩ := two B1.out)
            | (go_at_call 12; refine (cf _).mono ?_; clear cf; rintro e w' ⟨rfl, rfl⟩)
            | (go_at_call 21; refine (c1 _ y1).mono ?_; clear c1; rintro e w2 ⟨rfl, x2⟩; have y2 := y1.trans x2)
            | (go_at_call 24; refine (c2 _).mono ?_; clear c2; rintro e w3 ⟨rfl, x3⟩; have y3 := y2.trans x3; have B3 := Lib.hid (ext_blk (x2.trans x3) B1.out); obtain ⟨p2, p3⟩ := two B3.out))
          go_ret
          exact ⟨rfl, y3⟩
      have lE : E < bR := by omega
      have lS : S < bR := by omega
      clear hh
      rw [checkN_ref hi l lE lS] at c1
      have k0 : decide ((1152921504606845789 : Int) ≤ (E : Int)) = false := by unfold bR at lE; simp; omega
      have k1 : decide ((1152921504606845789 : Int) ≤ (S : Int)) = false := by unfold bR at lS; simp; omega
      obtain ⟨d, hd⟩ : ∃ d, d = bR - E := ⟨_, rfl⟩
      have ld : d < 18446744073709551616 := by unfold bR at hd; omega
      have k2 : IntKind.u64.wrap (1152921504606845789 - (E : Int)) = (d : Int) := by unfold bR at hd lE; rw [IntKind.wrap_u64]; omega
      have k3 : (1152921504606845789 : Int) - (E : Int) = (d : Int) := by unfold bR at hd lE; omega
      rw [← hd] at c1
      have c3 := fun W => Base_any S hS W
      have c4 := fun W => Pow_any p d hp ld W
      have c5 := fun W => MulE (powM bQ 4 S) (powM bQ p d) (pw64 _ _) (pw64 _ _) W
      obtain ⟨m, hm⟩ : ∃ m, m = mulM bQ (powM bQ 4 S) (powM bQ p d) := ⟨_, rfl⟩
      have lm : m < 18446744073709551616 := by rw [hm]; exact Nat.lt_trans (mulM_lt (by decide) _ _) (by decide)
      have c6 := fun W (x : Ext w W) => Challenge_any m p lm hp l hl h A c hc W ((hr.below x.out).more x.size)
      rw [← hm] at c1 c5
      obtain ⟨b, hb⟩ : ∃ b, b = powM bQ 4 S := ⟨_, rfl⟩
      obtain ⟨v, hv⟩ : ∃ v, v = powM bQ p d := ⟨_, rfl⟩
      rw [← hb] at c3 c5
      rw [← hv] at c4 c5
      obtain ⟨ch, hch⟩ : ∃ ch, ch = chalN m p l := ⟨_, rfl⟩
      rw [← hch] at c1 c6
      clear hch lm hm hb hv hl h hc hr hp hE hS lE lS hd ld hcr hi
      rcases Nat.decEq ch E with hne | heq
      · rw [if_neg hne] at c1
        have q1 : ((ch : Int) == (E : Int)) = false := by simp; omega
        clear hne
        go_enter Try.func8, Try.ntmps8
        have x0 : Ext w (w.alloc (.cells #[.int .u64 (E : Int), .int .u64 (S : Int)] 33)) := (Ext.refl w).alloc _
        have B0 := Lib.hid (Blk.new w 33 #[.int .u64 (E : Int), .int .u64 (S : Int)])
        go_wp2_with (first
          | (go_at_call 11; refine (cl _).mono ?_; clear cl; rintro e w1 ⟨rfl, x1⟩; have y1 := x0.trans x1; have B1 := Lib.hid (ext_blk x1 B0.out); obtain ⟨p0, p1⟩ := two B1.out)
          | (go_at_call 12; refine (cf _).mono ?_; clear cf; rintro e w' ⟨rfl, rfl⟩)
          | (go_at_call 21; refine (c1 _ y1).mono ?_; clear c1; rintro e w2 ⟨rfl, x2⟩; have y2 := y1.trans x2)
          | (go_at_call 24; refine (c2 _).mono ?_; clear c2; rintro e w3 ⟨rfl, x3⟩; have y3 := y2.trans x3; have B3 := Lib.hid (ext_blk (x2.trans x3) B1.out); obtain ⟨p2, p3⟩ := two B3.out))
        have i0 := fun i : Later w3 => i.cell p2
        have i1 := fun i : Later w3 => i.cell p3
        clear p0 p1 p2 p3
        refine wp_region_later (by kernel_rfl) (by kernel_rfl) ?_
        repeat (go_big_quiet_step (first
          | (go_at_call 25; exact Later.calls (c3 _))
          | (go_at_call 29; exact Later.calls (c4 _))
          | (go_at_call 28; exact Later.calls (c5 _))))
        refine wpQuiet_nil ?_
        rintro w4 ⟨i, hi⟩
        have x4 : Ext w3 w4 := by rw [hi]; exact i.ext
        clear hi i i0 i1
        have hb := ext_blk x4 B3.out
        obtain ⟨p4, p5⟩ := two hb
        have y4 := y3.trans x4
        clear hb
        go_wp2
        have i0 := fun i : Later w4 => i.cell p4
        have i1 := fun i : Later w4 => i.cell p5
        clear p4 p5
        refine wp_region_later (by kernel_rfl) (by kernel_rfl) ?_
        repeat (go_big_quiet_step ((go_at_call 17; exact Later.calls (c6 _ (y4.trans (Later.ext _))))))
        refine wpQuiet_nil ?_
        rintro w5 ⟨i, hi⟩
        have x5 : Ext w4 w5 := by rw [hi]; exact i.ext
        clear hi i i0 i1
        go_wp2
        go_ret
        exact ⟨rfl, y4.trans x5⟩
      · subst heq
        rw [if_pos rfl] at c1
        go_enter Try.func8, Try.ntmps8
        have x0 : Ext w (w.alloc (.cells #[.int .u64 (ch : Int), .int .u64 (S : Int)] 33)) := (Ext.refl w).alloc _
        have B0 := Lib.hid (Blk.new w 33 #[.int .u64 (ch : Int), .int .u64 (S : Int)])
        go_wp2_with (first
          | (go_at_call 11; refine (cl _).mono ?_; clear cl; rintro e w1 ⟨rfl, x1⟩; have y1 := x0.trans x1; have B1 := Lib.hid (ext_blk x1 B0.out); obtain ⟨p0, p1⟩ := two B1.out)
          | (go_at_call 12; refine (cf _).mono ?_; clear cf; rintro e w' ⟨rfl, rfl⟩)
          | (go_at_call 21; refine (c1 _ y1).mono ?_; clear c1; rintro e w2 ⟨rfl, x2⟩; have y2 := y1.trans x2)
          | (go_at_call 24; refine (c2 _).mono ?_; clear c2; rintro e w3 ⟨rfl, x3⟩; have y3 := y2.trans x3; have B3 := Lib.hid (ext_blk (x2.trans x3) B1.out); obtain ⟨p2, p3⟩ := two B3.out))
        have i0 := fun i : Later w3 => i.cell p2
        have i1 := fun i : Later w3 => i.cell p3
        clear p0 p1 p2 p3
        refine wp_region_later (by kernel_rfl) (by kernel_rfl) ?_
        repeat (go_big_quiet_step (first
          | (go_at_call 25; exact Later.calls (c3 _))
          | (go_at_call 29; exact Later.calls (c4 _))
          | (go_at_call 28; exact Later.calls (c5 _))))
        refine wpQuiet_nil ?_
        rintro w4 ⟨i, hi⟩
        have x4 : Ext w3 w4 := by rw [hi]; exact i.ext
        clear hi i i0 i1
        have hb := ext_blk x4 B3.out
        obtain ⟨p4, p5⟩ := two hb
        have y4 := y3.trans x4
        clear hb
        go_wp2
        have i0 := fun i : Later w4 => i.cell p4
        have i1 := fun i : Later w4 => i.cell p5
        clear p4 p5
        refine wp_region_later (by kernel_rfl) (by kernel_rfl) ?_
        repeat (go_big_quiet_step ((go_at_call 17; exact Later.calls (c6 _ (y4.trans (Later.ext _))))))
        refine wpQuiet_nil ?_
        rintro w5 ⟨i, hi⟩
        have x5 : Ext w4 w5 := by rw [hi]; exact i.ext
        clear hi i i0 i1
        go_wp2
        go_ret
        exact ⟨rfl, y4.trans x5⟩
  · rw [decide_eq_false h] at cf
    clear hr hl h hc hcr hp hE hS
    go_enter Try.func8, Try.ntmps8
    have x0 : Ext w (w.alloc (.cells #[.int .u64 (E : Int), .int .u64 (S : Int)] 33)) := (Ext.refl w).alloc _
    have B0 := Lib.hid (Blk.new w 33 #[.int .u64 (E : Int), .int .u64 (S : Int)])
    go_wp2_with (first
      | (go_at_call 11; refine (cl _).mono ?_; clear cl; rintro e w1 ⟨rfl, x1⟩; have y1 := x0.trans x1; have B1 := Lib.hid (ext_blk x1 B0.out); obtain ⟨p0, p1⟩ := two B1.out)
      | (go_at_call 12; refine (cf _).mono ?_; clear cf; rintro e w' ⟨rfl, rfl⟩))
    go_ret
    exact ⟨rfl, y1⟩
end Go.Proofs.Ytbomfnlipbdigaa
