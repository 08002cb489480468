/- Statements of signing, walked (2). -/
import Derived.Test.YtbomfnlipbdigaaSiLaw
namespace Go.Proofs.Ytbomfnlipbdigaa
set_option linter.unusedVariables false
open Go.RowKit Go.Shelf
attribute [local irreducible] mix hSum hNum someN chalN

set_option maxRecDepth 100000 in
set_option maxHeartbeats 2000000 in
theorem walk_SignSeed (A : Option Addr) (c : Nat) (l : List Nat) (A' : Option Addr) (c' : Nat) (m : List Nat) (hc : l.length ≤ c) (hcr : c ≤ 140737488351232) (hl : ∀ x ∈ l, x < 256) (hc' : m.length ≤ c') (hcr' : c' ≤ 140737488351232) (hm : ∀ x ∈ m, x < 256) (w : World) (hr : Reads w w.heap.size 1 A l.length (bv l)) (hr' : Reads w w.heap.size 1 A' m.length (bv m)) :
    Calls Try.prog 6 #[.slice A l.length c, .slice A' m.length c'] w fun e w' => e = .returned (.bool true) ∧ Ext w w' := by
  have cl := fun W => live_any W
  have cf := fun W => few_any A l.length c W
  have cf' := fun W => few_any A' m.length c' W
  by_cases h : l.length ≤ 1000
  · rw [decide_eq_true h] at cf
    by_cases h' : m.length ≤ 1000
    · rw [decide_eq_true h'] at cf'
      have cs := fun W (x : Ext w W) => Secret_any l hl h A c hc W ((hr.below x.out).more x.size)
      have s1 : 1 ≤ secN l := someN_pos _ _
      have s2 : secN l < bR := someN_lt _ _
      have ho : oddN (secN l) = false := oddN_some _ _
      obtain ⟨s, hs⟩ : ∃ s, s = secN l := ⟨_, rfl⟩
      rw [← hs] at cs s1 s2 ho
      have cp := fun W => Public_any s (r64 s2) W
      rw [if_neg (by rw [ho]; decide)] at cp
      have cg := fun W (x : Ext w W) => Sign_any s ho m hm h' A' c' hc' W ((hr'.below x.out).more x.size)
      have ck := fun W (x : Ext w W) => Check_any (powM bQ 4 s) (pw64 _ _) (sgE s m) (sgS s m) (r64 (sgE_lt s m)) (r64 (sgS_lt s m)) m hm h' A' c' hc' W ((hr'.below x.out).more x.size)
      rw [check_sign] at ck
      have ci := fun W => In_any (powM bQ 4 s) (pw64 _ _) W
      rw [inB_base] at ci
      have cb := fun W => Base_any s (r64 s2) W
      have t1 : decide ((1 : Int) ≤ (s : Int)) = true := by simp; omega
      have t2 := lt_dec s2
      obtain ⟨u, hu⟩ : ∃ u, u = sgE s m := ⟨_, rfl⟩
      obtain ⟨z, hz⟩ : ∃ z, z = sgS s m := ⟨_, rfl⟩
      obtain ⟨p, hp⟩ : ∃ p, p = powM bQ 4 s := ⟨_, rfl⟩
      rw [← hu] at cg ck
      rw [← hz] at cg ck
      rw [← hp] at cp ck ci cb
      clear hu hz hp hs s1 s2 ho hr hl h hc hcr hr' hm h' hc' hcr'
      go_enter Try.func6, Try.ntmps6
      go_wp2_with (first
        | (go_at_call 11; refine (cl _).mono ?_; clear cl; rintro e w1 ⟨rfl, x1⟩)
        | (go_at_call 12; refine (cf _).mono ?_; clear cf; rintro e w' ⟨rfl, rfl⟩)
        | (go_at_call 12; refine (cf' _).mono ?_; clear cf'; rintro e w' ⟨rfl, rfl⟩)
        | (go_at_call 15; refine (cs _ x1).mono ?_; clear cs; rintro e w2 ⟨rfl, x2⟩; have y2 := x1.trans x2)
        | (go_at_call 13; refine (cp _).mono ?_; clear cp; rintro e w3 ⟨rfl, x3⟩; have y3 := y2.trans x3)
        | (go_at_call 19; refine (cg _ y3).mono ?_; clear cg; rintro e w4 ⟨rfl, x4⟩; have y4 := (y3.trans x4); have B4 := Lib.hid (Blk.new w4 33 #[.int .u64 (u : Int), .int .u64 (z : Int)]))
        | (go_at_call 24; refine (ci _).mono ?_; clear ci; rintro e w5 ⟨rfl, x5⟩; have y5 := (y4.alloc _).trans x5)
        | (go_at_call 25; refine (cb _).mono ?_; clear cb; rintro e w6 ⟨rfl, x6⟩; have y6 := y5.trans x6; have b6 := ext_blk (x5.trans x6) B4.out; obtain ⟨g1, g2⟩ := two b6; clear b6)
        | (go_at_call 21; refine (ck _ y6).mono ?_; clear ck; rintro e w7 ⟨rfl, x7⟩; have y7 := y6.trans x7))
      go_ret
      exact ⟨rfl, y7⟩
    · rw [decide_eq_false h'] at cf'
      clear hr hl h hc hcr hr' hm h' hc' hcr'
      go_enter Try.func6, Try.ntmps6
      go_wp2_with (first
        | (go_at_call 11; refine (cl _).mono ?_; clear cl; rintro e w1 ⟨rfl, x1⟩)
        | (go_at_call 12; refine (cf _).mono ?_; clear cf; rintro e w' ⟨rfl, rfl⟩)
        | (go_at_call 12; refine (cf' _).mono ?_; clear cf'; rintro e w' ⟨rfl, rfl⟩))
      go_ret
      exact ⟨rfl, x1⟩
  · rw [decide_eq_false h] at cf
    clear hr hl h hc hcr hr' hm hc' hcr' cf'
    go_enter Try.func6, Try.ntmps6
    go_wp2_with (first
      | (go_at_call 11; refine (cl _).mono ?_; clear cl; rintro e w1 ⟨rfl, x1⟩)
      | (go_at_call 12; refine (cf _).mono ?_; clear cf; rintro e w' ⟨rfl, rfl⟩))
    go_ret
    exact ⟨rfl, x1⟩

/-- Public, whichever. -/
def pubV (s : Nat) : Nat := if oddN s = true then 0 else powM bQ 4 s
def pubE (s : Nat) : Nat := if oddN s = true then 1 else 0
theorem pub_eq (s : Nat) : (if oddN s = true then Value.tuple #[.int .u64 0, .int .i64 1] else .tuple #[.int .u64 (powM bQ 4 s : Nat), .int .i64 0]) = .tuple #[.int .u64 (pubV s : Nat), .int .i64 (pubE s : Nat)] := by
  unfold pubV pubE; split <;> rfl

set_option maxRecDepth 100000 in
set_option maxHeartbeats 2000000 in
theorem walk_SignKeys (A : Option Addr) (c : Nat) (l : List Nat) (a b : Nat) (hc : l.length ≤ c) (hcr : c ≤ 140737488351232) (hl : ∀ x ∈ l, x < 256) (ha : a < 18446744073709551616) (hb : b < 18446744073709551616) (w : World) (hr : Reads w w.heap.size 1 A l.length (bv l)) :
    Calls Try.prog 3 #[.slice A l.length c, .int .u64 a, .int .u64 b] w fun e w' => e = .returned (.bool true) ∧ Ext w w' := by
  have cl := fun W => live_any W
  have cf := fun W => few_any A l.length c W
  by_cases h : l.length ≤ 1000
  · rw [decide_eq_true h] at cf
    have c1 := fun W => Public_any a ha W
    have c2 := fun W => rPublic_any a ha W
    have c3 := fun W (x : Ext w W) => Secret_any l hl h A c hc W ((hr.below x.out).more x.size)
    have c4 := fun W (x : Ext w W) => rSecret_any l hl h A c hc W ((hr.below x.out).more x.size)
    have c5 := fun W (x : Ext w W) => Challenge_any a b ha hb l hl h A c hc W ((hr.below x.out).more x.size)
    have c6 := fun W (x : Ext w W) => rChallenge_any a b ha hb l hl h A c hc W ((hr.below x.out).more x.size)
    rw [pub_eq] at c1 c2
    obtain ⟨u, hu⟩ : ∃ u, u = pubV a := ⟨_, rfl⟩
    obtain ⟨v, hv⟩ : ∃ v, v = pubE a := ⟨_, rfl⟩
    obtain ⟨s, hs⟩ : ∃ s, s = secN l := ⟨_, rfl⟩
    obtain ⟨k, hk⟩ : ∃ k, k = chalN a b l := ⟨_, rfl⟩
    rw [← hu, ← hv] at c1 c2
    rw [← hs] at c3 c4
    rw [← hk] at c5 c6
    clear hu hv hs hk hr hl h hc hcr ha hb
    go_enter Try.func3, Try.ntmps3
    go_wp2_with (first
      | (go_at_call 11; refine (cl _).mono ?_; clear cl; rintro e w1 ⟨rfl, x1⟩)
      | (go_at_call 12; refine (cf _).mono ?_; clear cf; rintro e w' ⟨rfl, rfl⟩)
      | (go_at_call 13; refine (c1 _).mono ?_; clear c1; rintro e w2 ⟨rfl, x2⟩; have y2 := x1.trans x2)
      | (go_at_call 14; refine (c2 _).mono ?_; clear c2; rintro e w3 ⟨rfl, x3⟩; have y3 := y2.trans x3)
      | (go_at_call 15; refine (c3 _ y3).mono ?_; clear c3; rintro e w4 ⟨rfl, x4⟩; have y4 := y3.trans x4)
      | (go_at_call 16; refine (c4 _ y4).mono ?_; clear c4; rintro e w5 ⟨rfl, x5⟩; have y5 := y4.trans x5)
      | (go_at_call 17; refine (c5 _ y5).mono ?_; clear c5; rintro e w6 ⟨rfl, x6⟩; have y6 := y5.trans x6)
      | (go_at_call 18; refine (c6 _ y6).mono ?_; clear c6; rintro e w7 ⟨rfl, x7⟩; have y7 := y6.trans x7))
    go_ret
    exact ⟨rfl, y7⟩
  · rw [decide_eq_false h] at cf
    clear hr hl h hc hcr ha hb
    go_enter Try.func3, Try.ntmps3
    go_wp2_with (first
      | (go_at_call 11; refine (cl _).mono ?_; clear cl; rintro e w1 ⟨rfl, x1⟩)
      | (go_at_call 12; refine (cf _).mono ?_; clear cf; rintro e w' ⟨rfl, rfl⟩))
    go_ret
    exact ⟨rfl, x1⟩
end Go.Proofs.Ytbomfnlipbdigaa
