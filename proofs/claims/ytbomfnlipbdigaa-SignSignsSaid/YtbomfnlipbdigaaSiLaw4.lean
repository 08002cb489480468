/- Statements of signing, walked (4): SignSigns, SignTwice. -/
import Derived.Test.YtbomfnlipbdigaaSiLaw2
namespace Go.Proofs.Ytbomfnlipbdigaa
set_option linter.unusedVariables false
open Go.RowKit Go.Shelf
attribute [local irreducible] mix hSum hNum someN chalN

/-- What both sign. -/
theorem both_sign (s : Nat) (hs : s < 18446744073709551616) (l : List Nat) (hl : ∀ x ∈ l, x < 256) (h : l.length ≤ 1000) (A : Option Addr) (c : Nat) (hc : l.length ≤ c) (w : World) (hr : Reads w w.heap.size 1 A l.length (bv l)) : ∃ u z v : Nat,
    (∀ W, Ext w W → Calls Try.prog 19 #[.int .u64 s, .slice A l.length c] W fun e w' => e = .returned (.tuple #[.agg #[.int .u64 (u : Int), .int .u64 (z : Int)], .int .i64 (v : Int)]) ∧ Ext W w') ∧
    (∀ W, Ext w W → Calls Try.prog 20 #[.int .u64 s, .slice A l.length c] W fun e w' => e = .returned (.tuple #[.agg #[.int .u64 (u : Int), .int .u64 (z : Int)], .int .i64 (v : Int)]) ∧ Ext W w') := by
  rcases ho : oddN s
  · exact ⟨sgE s l, sgS s l, 0, fun W x => Sign_any s ho l hl h A c hc W ((hr.below x.out).more x.size), fun W x => rSign_any s ho l hl h A c hc W ((hr.below x.out).more x.size)⟩
  · exact ⟨0, 0, 1, fun W _ => Sign_odd s ho hs A l.length c W, fun W _ => rSign_odd s ho hs A l.length c W⟩

set_option maxRecDepth 100000 in
set_option maxHeartbeats 2000000 in
theorem walk_SignSigns (s p : Nat) (A : Option Addr) (c : Nat) (l : List Nat) (E S : Nat) (hs : s < 18446744073709551616) (hp : p < 18446744073709551616) (hc : l.length ≤ c) (hcr : c ≤ 140737488351232) (hl : ∀ x ∈ l, x < 256) (hE : E < 18446744073709551616) (hS : S < 18446744073709551616) (w : World) (hr : Reads w w.heap.size 1 A l.length (bv l)) :
    Calls Try.prog 4 #[.int .u64 s, .int .u64 p, .slice A l.length c, .agg #[.int .u64 E, .int .u64 S]] w fun e w' => e = .returned (.bool true) ∧ Ext w w' := by
  have cl := fun W => live_any W
  have cf := fun W => few_any A l.length c W
  by_cases h : l.length ≤ 1000
  · rw [decide_eq_true h] at cf
    obtain ⟨u, z, v, c1, c2⟩ := both_sign s hs l hl h A c hc w hr
    have c3 := fun W (x : Ext w W) => Check_any p hp E S hE hS l hl h A c hc W ((hr.below x.out).more x.size)
    have c4 := fun W (x : Ext w W) => rCheck_any p hp E S hE hS l hl h A c hc W ((hr.below x.out).more x.size)
    obtain ⟨k, hk⟩ : ∃ k, k = checkN p l E S := ⟨_, rfl⟩
    rw [← hk] at c3 c4
    clear hk hr hl h hc hcr hs hp hE hS
    go_enter Try.func4, Try.ntmps4
    have x0 : Ext w (w.alloc (.cells #[.int .u64 (E : Int), .int .u64 (S : Int)] 33)) := (Ext.refl w).alloc _
    have B0 := Lib.hid (Blk.new w 33 #[.int .u64 (E : Int), .int .u64 (S : Int)])
    go_wp2_with (first
      | (go_at_call 11; refine (cl _).mono ?_; clear cl; rintro e w1 ⟨rfl, x1⟩; have y1 := x0.trans x1)
      | (go_at_call 12; refine (cf _).mono ?_; clear cf; rintro e w' ⟨rfl, rfl⟩)
      | (go_at_call 19; refine (c1 _ y1).mono ?_; clear c1; rintro e w2 ⟨rfl, x2⟩; have y2 := y1.trans x2; have B2 := Lib.hid (Blk.new w2 33 #[.int .u64 (u : Int), .int .u64 (z : Int)]))
      | (go_at_call 20; refine (c2 _ (y2.alloc _)).mono ?_; clear c2; rintro e w3 ⟨rfl, x3⟩; have y3 := (y2.alloc _).trans x3))
    obtain ⟨W7, hW7⟩ : ∃ W7, w3.alloc (.cells #[.int .u64 (u : Int), .int .u64 (z : Int)] 33) = W7 := ⟨_, rfl⟩
    have y7 : Ext w W7 := by rw [← hW7]; exact y3.alloc _
    have b0 : Blk W7 w.heap.size 33 #[.int .u64 (E : Int), .int .u64 (S : Int)] := by rw [← hW7]; exact (ext_blk x3 ((ext_blk x2 (ext_blk x1 B0.out)).alloc _)).alloc _
    have b2 : Blk W7 w2.heap.size 33 #[.int .u64 (u : Int), .int .u64 (z : Int)] := by rw [← hW7]; exact (ext_blk x3 B2.out).alloc _
    have b3 : Blk W7 w3.heap.size 33 #[.int .u64 (u : Int), .int .u64 (z : Int)] := by rw [← hW7]; exact Blk.new w3 _ _
    rw [hW7]
    obtain ⟨p0, p1⟩ := two b0
    obtain ⟨p2, p3⟩ := two b2
    obtain ⟨p4, p5⟩ := two b3
    have i0 := fun i : Later W7 => i.cell p0
    have i1 := fun i : Later W7 => i.cell p1
    have i2 := fun i : Later W7 => i.cell p2
    have i3 := fun i : Later W7 => i.cell p3
    have i4 := fun i : Later W7 => i.cell p4
    have i5 := fun i : Later W7 => i.cell p5
    clear hW7 b0 b2 b3 p0 p1 p2 p3 p4 p5 B0 B2
    refine wp_region_later (by kernel_rfl) (by kernel_rfl) ?_
    repeat (go_big_quiet_step (first
      | (go_at_call 21; exact Later.calls (c3 _ (y7.trans (Later.ext _))))
      | (go_at_call 22; exact Later.calls (c4 _ (y7.trans (Later.ext _))))))
    refine wpQuiet_nil ?_
    rintro w8 ⟨i, hi⟩
    have x8 : Ext W7 w8 := by rw [hi]; exact i.ext
    clear hi i i0 i1 i2 i3 i4 i5
    go_wp2
    go_ret
    exact ⟨rfl, y7.trans x8⟩
  · rw [decide_eq_false h] at cf
    clear hr hl h hc hcr hs hp hE hS
    have x0 : Ext w (w.alloc (.cells #[.int .u64 (E : Int), .int .u64 (S : Int)] 33)) := (Ext.refl w).alloc _
    go_enter Try.func4, Try.ntmps4
    go_wp2_with (first
      | (go_at_call 11; refine (cl _).mono ?_; clear cl; rintro e w1 ⟨rfl, x1⟩)
      | (go_at_call 12; refine (cf _).mono ?_; clear cf; rintro e w' ⟨rfl, rfl⟩))
    go_ret
    exact ⟨rfl, x0.trans x1⟩
end Go.Proofs.Ytbomfnlipbdigaa
