/- Statements of signing, walked. -/
import Derived.Test.YtbomfnlipbdigaaSiLive
namespace Go.Proofs.Ytbomfnlipbdigaa
set_option linter.unusedVariables false
open Go.RowKit Go.Shelf
attribute [local irreducible] mix hSum hNum someN chalN

theorem lt_dec {x : Nat} (h : x < bR) : decide ((x : Int) < 1152921504606845789) = true := by unfold bR at h; simp; omega

set_option maxRecDepth 100000 in
set_option maxHeartbeats 2000000 in
theorem walk_SignRight (n : Nat) (A : Option Addr) (c : Nat) (l : List Nat) (hn : n < 18446744073709551616) (hc : l.length ≤ c) (hcr : c ≤ 140737488351232) (hl : ∀ x ∈ l, x < 256) (w : World) (hr : Reads w w.heap.size 1 A l.length (bv l)) :
    Calls Try.prog 5 #[.int .u64 n, .slice A l.length c] w fun e w' => e = .returned (.bool true) ∧ Ext w w' := by
  have cl := fun W => live_any W
  have cf := fun W => few_any A l.length c W
  by_cases h : l.length ≤ 1000
  · rw [decide_eq_true h] at cf
    have cs := fun W => secret_any n W
    have s2 := secretN_lt n
    have ho := oddN_secret n
    obtain ⟨s, hs⟩ : ∃ s, s = secretN n := ⟨_, rfl⟩
    rw [← hs] at cs s2 ho
    have cp := fun W => Public_any s (r64 s2) W
    rw [if_neg (by rw [ho]; decide)] at cp
    have cg := fun W (x : Ext w W) => Sign_any s ho l hl h A c hc W ((hr.below x.out).more x.size)
    have ck := fun W (x : Ext w W) => Check_any (powM bQ 4 s) (pw64 _ _) (sgE s l) (sgS s l) (r64 (sgE_lt s l)) (r64 (sgS_lt s l)) l hl h A c hc W ((hr.below x.out).more x.size)
    rw [check_sign] at ck
    have t1 := lt_dec (sgE_lt s l)
    have t2 := lt_dec (sgS_lt s l)
    obtain ⟨u, hu⟩ : ∃ u, u = sgE s l := ⟨_, rfl⟩
    obtain ⟨z, hz⟩ : ∃ z, z = sgS s l := ⟨_, rfl⟩
    obtain ⟨p, hp⟩ : ∃ p, p = powM bQ 4 s := ⟨_, rfl⟩
    rw [← hu] at cg ck t1
    rw [← hz] at cg ck t2
    rw [← hp] at cp ck
    clear hu hz hp hs s2 ho hr hl h hc hcr hn
    go_enter Try.func5, Try.ntmps5
    have cg2 := cg
    go_wp2_with (first
      | (go_at_call 11; refine (cl _).mono ?_; clear cl; rintro e w1 ⟨rfl, x1⟩)
      | (go_at_call 12; refine (cf _).mono ?_; clear cf; rintro e w' ⟨rfl, rfl⟩)
      | (go_at_call 23; refine (cs _).mono ?_; rintro e w' ⟨rfl, rfl⟩)
      | (go_at_call 13; refine (cp _).mono ?_; clear cp; rintro e w2 ⟨rfl, x2⟩; have y2 := x1.trans x2)
      | (go_at_call 19; refine (cg _ y2).mono ?_; clear cg; rintro e w3 ⟨rfl, x3⟩; have y3 := y2.trans x3; have B3 := Lib.hid (Blk.new w3 33 #[.int .u64 (u : Int), .int .u64 (z : Int)]))
      | (go_at_call 19; refine (cg2 _ (y3.alloc _)).mono ?_; clear cg2; rintro e w4 ⟨rfl, x4⟩; have y4 := (y3.alloc _).trans x4; have B4 := Lib.hid (ext_blk x4 B3.out); have g1 := fun o => (two (B4.out.alloc o)).1; have g2 := fun o => (two (B4.out.alloc o)).2)
      | (go_at_call 21; refine (ck _ (y4.alloc _)).mono ?_; clear ck; rintro e w5 ⟨rfl, x5⟩; have y5 := (y4.alloc _).trans x5))
    go_ret
    exact ⟨rfl, y5⟩
  · rw [decide_eq_false h] at cf
    clear hr hl h hc hcr hn
    go_enter Try.func5, Try.ntmps5
    go_wp2_with (first
      | (go_at_call 11; refine (cl _).mono ?_; clear cl; rintro e w1 ⟨rfl, x1⟩)
      | (go_at_call 12; refine (cf _).mono ?_; clear cf; rintro e w' ⟨rfl, rfl⟩))
    go_ret
    exact ⟨rfl, x1⟩

set_option maxRecDepth 100000 in
set_option maxHeartbeats 2000000 in
theorem walk_SignNonce (n k : Nat) (A : Option Addr) (c : Nat) (l : List Nat) (hn : n < 18446744073709551616) (hk : k < 18446744073709551616) (hc : l.length ≤ c) (hcr : c ≤ 140737488351232) (hl : ∀ x ∈ l, x < 256) (w : World) (hr : Reads w w.heap.size 1 A l.length (bv l)) :
    Calls Try.prog 7 #[.int .u64 n, .int .u64 k, .slice A l.length c] w fun e w' => e = .returned (.bool true) ∧ Ext w w' := by
  have cl := fun W => live_any W
  have cf := fun W => few_any A l.length c W
  by_cases h : l.length ≤ 1000
  · rw [decide_eq_true h] at cf
    have cs := fun W => secret_any n W
    have s2 := secretN_lt n
    have ho := oddN_secret n
    obtain ⟨s, hs⟩ : ∃ s, s = secretN n := ⟨_, rfl⟩
    rw [← hs] at cs s2 ho
    have cp := fun W => Public_any s (r64 s2) W
    rw [if_neg (by rw [ho]; decide)] at cp
    have cb := fun W => Base_any k hk W
    have cc := fun W (x : Ext w W) => Challenge_any (powM bQ 4 k) (powM bQ 4 s) (pw64 _ _) (pw64 _ _) l hl h A c hc W ((hr.below x.out).more x.size)
    have hu1 := chalN_lt (powM bQ 4 k) (powM bQ 4 s) l
    obtain ⟨u, hu⟩ : ∃ u, u = chalN (powM bQ 4 k) (powM bQ 4 s) l := ⟨_, rfl⟩
    rw [← hu] at cc hu1
    have t1 := lt_dec hu1
    have cm := fun W => MulRE u s (r64 hu1) (r64 s2) W
    have ca := fun W => AddRE k (mulM bR u s) W
    have ck := fun W (x : Ext w W) => Check_any (powM bQ 4 s) (pw64 _ _) u (addM bR k (mulM bR u s)) (r64 hu1) (r64 (addM_lt' (by decide) _ _)) l hl h A c hc W ((hr.below x.out).more x.size)
    rw [check_nonce s k l u hu] at ck
    obtain ⟨z, hz⟩ : ∃ z, z = addM bR k (mulM bR u s) := ⟨_, rfl⟩
    obtain ⟨m, hm⟩ : ∃ m, m = mulM bR u s := ⟨_, rfl⟩
    rw [← hz] at ca ck
    rw [← hm] at ca cm
    obtain ⟨p, hp⟩ : ∃ p, p = powM bQ 4 s := ⟨_, rfl⟩
    obtain ⟨b, hb⟩ : ∃ b, b = powM bQ 4 k := ⟨_, rfl⟩
    rw [← hb] at cb cc
    rw [← hp] at cp ck cc
    clear hu hz hp hs s2 ho hr hl h hc hcr hn hk hb hm hu1
    go_enter Try.func7, Try.ntmps7
    go_wp2_with (first
      | (go_at_call 11; refine (cl _).mono ?_; clear cl; rintro e w1 ⟨rfl, x1⟩)
      | (go_at_call 12; refine (cf _).mono ?_; clear cf; rintro e w' ⟨rfl, rfl⟩)
      | (go_at_call 23; refine (cs _).mono ?_; rintro e w' ⟨rfl, rfl⟩)
      | (go_at_call 13; refine (cp _).mono ?_; clear cp; rintro e w2 ⟨rfl, x2⟩; have y2 := x1.trans x2)
      | (go_at_call 25; refine (cb _).mono ?_; clear cb; rintro e w3 ⟨rfl, x3⟩; have y3 := y2.trans x3)
      | (go_at_call 17; refine (cc _ y3).mono ?_; clear cc; rintro e w4 ⟨rfl, x4⟩; have y4 := y3.trans x4)
      | (go_at_call 27; refine (cm _).mono ?_; clear cm; rintro e w5 ⟨rfl, x5⟩; have y5 := y4.trans x5)
      | (go_at_call 26; refine (ca _).mono ?_; clear ca; rintro e w6 ⟨rfl, x6⟩; have y6 := y5.trans x6)
      | (go_at_call 21; refine (ck _ (y6.alloc _)).mono ?_; clear ck; rintro e w7 ⟨rfl, x7⟩; have y7 := (y6.alloc _).trans x7))
    go_ret
    exact ⟨rfl, y7⟩
  · rw [decide_eq_false h] at cf
    clear hr hl h hc hcr hn hk
    go_enter Try.func7, Try.ntmps7
    go_wp2_with (first
      | (go_at_call 11; refine (cl _).mono ?_; clear cl; rintro e w1 ⟨rfl, x1⟩)
      | (go_at_call 12; refine (cf _).mono ?_; clear cf; rintro e w' ⟨rfl, rfl⟩))
    go_ret
    exact ⟨rfl, x1⟩
end Go.Proofs.Ytbomfnlipbdigaa
