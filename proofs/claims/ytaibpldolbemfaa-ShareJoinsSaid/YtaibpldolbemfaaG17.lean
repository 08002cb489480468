/- Parts of the proofs, put together: ShLaw. -/
import Derived.Test.YtaibpldolbemfaaG16
/- Statements of shares, walked: those that ask for the document's answer. -/
namespace Go.Proofs.Ytaibpldolbemfaa
set_option linter.unusedVariables false
open Go.RowKit Go.Shelf Go.Maps
attribute [local irreducible] atN prodN sumN wantN mix hSum hNum coefN evZ spO spE pubO pubE joinR wgtR chkN

theorem errno_same (n : Nat) (w : World) : ((n : Int) == (n : Int)) = true := by simp

set_option maxRecDepth 100000 in
set_option maxHeartbeats 2000000 in
theorem walk_ShareSplits (secret : Nat) (t n : Int) (A : Option Addr) (c : Nat) (seed : List Nat) (B : Option Addr) (d : Nat) (l : List (Int × Nat)) (hs : secret < 18446744073709551616) (ht : (Lit.int .i64 t).wf = true) (hn : (Lit.int .i64 n).wf = true) (hc : seed.length ≤ c) (hcr : c ≤ 140737488351232) (hseed : ∀ x ∈ seed, x < 256) (hd : l.length ≤ d) (hdr : d * 16 ≤ 140737488351232) (hw : idsWf l) (hX : ∀ s ∈ l, s.2 < 18446744073709551616) (w : World) (hr : Reads w w.heap.size 1 A seed.length (bv seed)) (hr2 : Reads w w.heap.size 2 B l.length (sv l)) :
    Calls Try.prog 3 #[.int .u64 secret, .int .i64 t, .int .i64 n, .slice A seed.length c, .slice B l.length d] w fun e w' => e = .returned (.bool true) ∧ Ext w w' := by
  have cl := fun W => live5_any W
  by_cases h : seed.length ≤ 300
  · have k1 : ¬ (300 : Int) < (seed.length : Int) := by omega
    by_cases h2 : l.length ≤ 10
    · have k2 : ¬ (10 : Int) < (l.length : Int) := by omega
      have c1 := fun (W : World) (x : Ext w W) => Split_any secret t n seed hseed (by omega) A c hc W ((hr.below x.out).more x.size)
      have c2 := fun (W : World) (x : Ext w W) => rSplit_any secret t n seed hseed (by omega) A c hc W ((hr.below x.out).more x.size)
      have c3 := fun (W : World) (x : Ext w W) => shPublic_any l hw hX B d (by omega) W ((hr2.below x.out).more x.size)
      have c4 := fun (W : World) (x : Ext w W) => rshPublic_any l hX B d (by omega) W ((hr2.below x.out).more x.size)
      have hpl : (spO secret t n seed).length ≤ 1099511627776 := by
        unfold spO
        split
        · rename_i hb
          obtain ⟨g1, g2, g3, g4⟩ := of_decide_eq_true hb
          rw [splitL_length]; omega
        · simp
      have hql : (pubO l).length ≤ 1099511627776 := by
        unfold pubO
        split
        · rw [pubL_length]; omega
        · simp
      obtain ⟨p, hp⟩ : ∃ p, p = spO secret t n seed := ⟨_, rfl⟩
      obtain ⟨q, hq⟩ : ∃ p, p = pubO l := ⟨_, rfl⟩
      obtain ⟨e1, he1⟩ : ∃ p, p = spE secret t n := ⟨_, rfl⟩
      obtain ⟨e2, he2⟩ : ∃ p, p = pubE l := ⟨_, rfl⟩
      rw [← hp, ← he1] at c1 c2
      rw [← hq, ← he2] at c3 c4
      rw [← hp] at hpl
      rw [← hq] at hql
      have c5 := fun A B c d (W : World) h h' => Same_any p p A B c d hpl W h h'
      have c6 := fun A B c d (W : World) h h' => Same_any q q A B c d hql W h h'
      rw [decide_eq_true rfl] at c5 c6
      clear hr hr2 hc hcr hseed hd hdr hw hX h h2 hp hq he1 he2 hs ht hn hpl hql
      go_enter Try.func3, Try.ntmps3
      go_wp2_with (first
        | (go_at_call 12; refine (cl _).mono ?_; clear cl; rintro e w1 ⟨rfl, x1⟩)
        | (go_at_call 13; refine (c1 _ x1).mono ?_; clear c1; rintro e w2 ⟨A2, d2, rfl, -, r2, x2⟩; have y2 := x1.trans x2)
        | (go_at_call 14; refine (c2 _ y2).mono ?_; clear c2; rintro e w3 ⟨A3, d3, rfl, -, r3, x3⟩; have y3 := y2.trans x3)
        | (go_at_call 15; refine (c3 _ y3).mono ?_; clear c3; rintro e w4 ⟨A4, d4, rfl, -, r4, x4⟩; have y4 := y3.trans x4)
        | (go_at_call 16; refine (c4 _ y4).mono ?_; clear c4; rintro e w5 ⟨A5, d5, rfl, -, r5, x5⟩; have y5 := y4.trans x5)
        | (go_at_call 17; refine (c5 _ _ _ _ _ ((r2.below ((x3.trans x4).trans x5).out).more ((x3.trans x4).trans x5).size) ((r3.below (x4.trans x5).out).more (x4.trans x5).size)).mono ?_; clear c5; rintro e w6 ⟨rfl, x6⟩)
        | (go_at_call 17; refine (c6 _ _ _ _ _ ((r4.below (x5.trans x6).out).more (x5.trans x6).size) ((r5.below x6.out).more x6.size)).mono ?_; clear c6; rintro e w7 ⟨rfl, x7⟩))
      go_ret
      exact ⟨rfl, (y5.trans x6).trans x7⟩
    · have k2 : (10 : Int) < (l.length : Int) := by omega
      clear hr hr2 hc hcr hseed hd hdr hw hX h h2 hs ht hn
      go_enter Try.func3, Try.ntmps3
      go_wp2_with (go_at_call 12; refine (cl _).mono ?_; clear cl; rintro e w1 ⟨rfl, x1⟩)
      go_ret
      exact ⟨rfl, x1⟩
  · have k1 : (300 : Int) < (seed.length : Int) := by omega
    clear hr hr2 hc hcr hseed hd hdr hw hX h hs ht hn
    go_enter Try.func3, Try.ntmps3
    go_wp2_with (go_at_call 12; refine (cl _).mono ?_; clear cl; rintro e w1 ⟨rfl, x1⟩)
    go_ret
    exact ⟨rfl, x1⟩

set_option maxRecDepth 100000 in
set_option maxHeartbeats 2000000 in
theorem walk_ShareJoins (A : Option Addr) (c : Nat) (l : List (Int × Nat)) (B : Option Addr) (d : Nat) (ids : List Int) (id : Int) (hc : l.length ≤ c) (hcr : c * 16 ≤ 140737488351232) (hw : idsWf l) (hX : ∀ s ∈ l, s.2 < 18446744073709551616) (hd : ids.length ≤ d) (hdr : d * 8 ≤ 140737488351232) (hwi : ∀ i ∈ ids, (Lit.int .i64 i).wf = true) (hid : (Lit.int .i64 id).wf = true) (w : World) (hr : Reads w w.heap.size 2 A l.length (sv l)) (hr2 : Reads w w.heap.size 1 B ids.length (iv ids)) :
    Calls Try.prog 4 #[.slice A l.length c, .slice B ids.length d, .int .i64 id] w fun e w' => e = .returned (.bool true) ∧ Ext w w' := by
  have cl := fun W => live5_any W
  by_cases h : l.length ≤ 10
  · have k1 : ¬ (10 : Int) < (l.length : Int) := by omega
    by_cases h2 : ids.length ≤ 10
    · have k2 : ¬ (10 : Int) < (ids.length : Int) := by omega
      have c1 := fun (W : World) (x : Ext w W) => Join_any l hw A c (by omega) W ((hr.below x.out).more x.size)
      have c2 := fun (W : World) (x : Ext w W) => rJoin_any l A c (by omega) W ((hr.below x.out).more x.size)
      have c3 := fun (W : World) (x : Ext w W) => Weight_any ids hwi id B d (by omega) W ((hr2.below x.out).more x.size)
      have c4 := fun (W : World) (x : Ext w W) => rWeight_any ids id B d (by omega) W ((hr2.below x.out).more x.size)
      obtain ⟨v1, e1, he1⟩ : ∃ v e : Nat, joinR l = .tuple #[.int .u64 (v : Int), .int .i64 (e : Int)] := ⟨_, _, by unfold joinR; rfl⟩
      obtain ⟨v2, e2, he2⟩ : ∃ v e : Nat, wgtR ids id = .tuple #[.int .u64 (v : Int), .int .i64 (e : Int)] := ⟨_, _, by unfold wgtR; rfl⟩
      rw [he1] at c1 c2
      rw [he2] at c3 c4
      clear hr hr2 hc hcr hd hdr hw hX h h2 he1 he2 hwi hid
      go_enter Try.func4, Try.ntmps4
      go_wp2_with (first
        | (go_at_call 12; refine (cl _).mono ?_; clear cl; rintro e w1 ⟨rfl, x1⟩)
        | (go_at_call 18; refine (c1 _ x1).mono ?_; clear c1; rintro e w2 ⟨rfl, x2⟩; have y2 := x1.trans x2)
        | (go_at_call 19; refine (c2 _ y2).mono ?_; clear c2; rintro e w3 ⟨rfl, x3⟩; have y3 := y2.trans x3)
        | (go_at_call 20; refine (c3 _ y3).mono ?_; clear c3; rintro e w4 ⟨rfl, x4⟩; have y4 := y3.trans x4)
        | (go_at_call 21; refine (c4 _ y4).mono ?_; clear c4; rintro e w5 ⟨rfl, x5⟩; have y5 := y4.trans x5))
      go_ret
      exact ⟨rfl, y5⟩
    · have k2 : (10 : Int) < (ids.length : Int) := by omega
      clear hr hr2 hc hcr hd hdr hw hX h h2 hwi hid
      go_enter Try.func4, Try.ntmps4
      go_wp2_with (go_at_call 12; refine (cl _).mono ?_; clear cl; rintro e w1 ⟨rfl, x1⟩)
      go_ret
      exact ⟨rfl, x1⟩
  · have k1 : (10 : Int) < (l.length : Int) := by omega
    clear hr hr2 hc hcr hd hdr hw hX h hwi hid
    go_enter Try.func4, Try.ntmps4
    go_wp2_with (go_at_call 12; refine (cl _).mono ?_; clear cl; rintro e w1 ⟨rfl, x1⟩)
    go_ret
    exact ⟨rfl, x1⟩

set_option maxRecDepth 100000 in
set_option maxHeartbeats 2000000 in
theorem walk_ShareChecks (t : Int) (A : Option Addr) (c : Nat) (l : List (Int × Nat)) (ht : (Lit.int .i64 t).wf = true) (hc : l.length ≤ c) (hcr : c * 16 ≤ 140737488351232) (hw : idsWf l) (hX : ∀ s ∈ l, s.2 < 18446744073709551616) (w : World) (hr : Reads w w.heap.size 2 A l.length (sv l)) :
    Calls Try.prog 5 #[.int .i64 t, .slice A l.length c] w fun e w' => e = .returned (.bool true) ∧ Ext w w' := by
  have cl := fun W => live5_any W
  by_cases h : l.length ≤ 10
  · have k1 : ¬ (10 : Int) < (l.length : Int) := by omega
    have c1 := fun (W : World) (x : Ext w W) => Check_any t l hw hX A c hc (by omega) W ((hr.below x.out).more x.size)
    have c2 := fun (W : World) (x : Ext w W) => rCheck_any t l hX A c hc (by omega) W ((hr.below x.out).more x.size)
    obtain ⟨e1, he1⟩ : ∃ p, p = chkN t l := ⟨_, rfl⟩
    rw [← he1] at c1 c2
    clear hr hc hcr hw hX h he1 ht
    go_enter Try.func5, Try.ntmps5
    go_wp2_with (first
      | (go_at_call 12; refine (cl _).mono ?_; clear cl; rintro e w1 ⟨rfl, x1⟩)
      | (go_at_call 22; refine (c1 _ x1).mono ?_; clear c1; rintro e w2 ⟨rfl, x2⟩; have y2 := x1.trans x2)
      | (go_at_call 23; refine (c2 _ y2).mono ?_; clear c2; rintro e w3 ⟨rfl, x3⟩; have y3 := y2.trans x3))
    go_ret
    exact ⟨rfl, y3⟩
  · have k1 : (10 : Int) < (l.length : Int) := by omega
    clear hr hc hcr hw hX h ht
    go_enter Try.func5, Try.ntmps5
    go_wp2_with (go_at_call 12; refine (cl _).mono ?_; clear cl; rintro e w1 ⟨rfl, x1⟩)
    go_ret
    exact ⟨rfl, x1⟩
end Go.Proofs.Ytaibpldolbemfaa
