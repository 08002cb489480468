/- The statements of the hash, walked: HashTells. -/
import Derived.Test.YtckfifghipkedaaHaLaw
import Derived.Test.YtckfifghipkedaaHeld
namespace Go.Proofs.Ytckfifghipkedaa
set_option linter.unusedVariables false
open Go.RowKit Go.Shelf
attribute [local irreducible] mix

theorem blk2 {W : World} {g : Nat} {T : TypeId} {a b : Value} (h : Blk W g T #[a, b]) : W.cell? ⟨g, 0, none⟩ = some a ∧ W.cell? ⟨g, 1, none⟩ = some b ∧ W.frozen? ⟨g, 0, none⟩ = false ∧ W.frozen? ⟨g, 1, none⟩ = false := arr2 h

theorem six {w w' : World} (x : Ext w w') {p1 p2 p3 p4 p5 p6 : Addr} {v1 v2 v3 v4 v5 v6 : Value} (h : w.cell? p1 = some v1 ∧ w.cell? p2 = some v2 ∧ w.cell? p3 = some v3 ∧ w.cell? p4 = some v4 ∧ w.cell? p5 = some v5 ∧ w.cell? p6 = some v6) :
    w'.cell? p1 = some v1 ∧ w'.cell? p2 = some v2 ∧ w'.cell? p3 = some v3 ∧ w'.cell? p4 = some v4 ∧ w'.cell? p5 = some v5 ∧ w'.cell? p6 = some v6 :=
  ⟨x.cell h.1, x.cell h.2.1, x.cell h.2.2.1, x.cell h.2.2.2.1, x.cell h.2.2.2.2.1, x.cell h.2.2.2.2.2⟩

set_option maxRecDepth 100000 in
set_option maxHeartbeats 2000000 in
theorem walk_HashTells (s0 s1 : Nat) (A : Option Addr) (c : Nat) (l : List Nat) (m : Nat) (hs0 : s0 < 18446744073709551616) (hs1 : s1 < 18446744073709551616) (hc : l.length ≤ c) (_hcr : c ≤ 140737488351232) (hl : ∀ x ∈ l, x < 256) (hm : m < 18446744073709551616)
    (w : World) (hr : Reads w w.heap.size 1 A l.length (bv l)) :
    Calls Try.prog 6 #[.agg #[.int .u64 s0, .int .u64 s1], .slice A l.length c, .int .u64 m] w fun e w' => e = .returned (.bool true) ∧ Ext w w' := by
  have cl := fun W => live_any W
  by_cases h4 : 400 < l.length
  · have z1 : (400 : Int) < (l.length : Int) := by omega
    clear hr hl
    go_enter Try.func6, Try.ntmps6
    go_wp2_with (go_at_call 13; refine (cl _).mono ?_; clear cl; rintro e w1 ⟨rfl, x1⟩)
    go_ret
    exact ⟨rfl, ((Ext.refl w).alloc _).trans x1⟩
  · have c1 := fun W (x : Ext w W) => Of_any l hl A c hc (by omega) W ((hr.below x.out).more x.size)
    have c2 := fun W (x : Ext w W) => rOf_any l hl A c hc (by omega) W ((hr.below x.out).more x.size)
    obtain ⟨⟨⟨y0, y1⟩, ye⟩, hy⟩ : ∃ r, r = ofS l := ⟨_, rfl⟩
    rw [← hy] at c1 c2
    unfold ofV at c1 c2
    simp only at c1 c2
    have c3 := fun W => bytes_any s0 s1 W
    have c4 := fun W => rBytes_any s0 s1 W
    have c5 := fun W => Num_any s0 s1 m hs0 hs1 hm W
    have c6 := fun W => rNum_any s0 s1 m hm W
    obtain ⟨n, hn⟩ : ∃ n, n = numM s0 s1 m := ⟨_, rfl⟩
    rw [← hn] at c5 c6
    have hbl := bytes2_lt s0 s1
    have hb16 : (bytes2 s0 s1).length = 16 := bytes2_length s0 s1
    obtain ⟨bs, hbs⟩ : ∃ bs, bs = bytes2 s0 s1 := ⟨_, rfl⟩
    rw [← hbs] at c3 c4 hbl hb16
    have kc : ∀ (W : World) (A : Option Addr) (c B : Nat), Reads W B 1 A 16 (bv bs) → (convert 27 9 (.slice A 16 c)).run Try.prog W = .ok (.string (strOf bs)) W := fun W A c B h => by
      have := str_convert (c := c) hbl (by omega) (by rw [hb16]; exact h)
      rw [hb16] at this
      exact this
    have KC := Lib.hid kc
    have z1 : ¬ (400 : Int) < (l.length : Int) := by omega
    obtain ⟨S, hS⟩ : ∃ S, S = strOf bs := ⟨_, rfl⟩
    rw [← hS] at KC
    have q1 := eq2_same (y0 : Int) (y1 : Int)
    clear hr hl h4 hy hn hbl hb16 hbs hS kc hs0 hs1 hm
    go_enter Try.func6, Try.ntmps6
    go_wp2_with (first
      | (go_at_call 13; refine (cl _).mono ?_; clear cl; rintro e w1 ⟨rfl, xl⟩; have x1 := ((Ext.refl w).alloc _).trans xl; have HA := Lib.hid (ext_blk xl (Blk.new w _ _)))
      | (go_at_call 23; refine (c1 _ x1).mono ?_; clear c1; rintro e w2 ⟨rfl, x2⟩)
      | (go_at_call 24; refine (c2 _ (((x1.trans x2).alloc _))).mono ?_; clear c2; rintro e w3 ⟨rfl, x3⟩))
    have hX := (ext_blk x3 (Blk.new w2 29 #[.int .u64 (y0 : Int), .int .u64 (y1 : Int)])).alloc (.cells #[.int .u64 (y0 : Int), .int .u64 (y1 : Int)] 29)
    have hY := Blk.new w3 29 #[.int .u64 (y0 : Int), .int .u64 (y1 : Int)]
    have hA := ((ext_blk ((x2.alloc _).trans x3) HA.out)).alloc (.cells #[.int .u64 (y0 : Int), .int .u64 (y1 : Int)] 29)
    have x4 := (((x1.trans x2).alloc _).trans x3).alloc (.cells #[.int .u64 (y0 : Int), .int .u64 (y1 : Int)] 29)
    obtain ⟨W, eW⟩ : ∃ W, w3.alloc (.cells #[.int .u64 (y0 : Int), .int .u64 (y1 : Int)] 29) = W := ⟨_, rfl⟩
    rw [eW] at hX hY hA x4 ⊢
    obtain ⟨p0, p1, -, -⟩ := blk2 hA
    obtain ⟨p2, p3, -, -⟩ := blk2 hX
    obtain ⟨p4, p5, -, -⟩ := blk2 hY
    have ZA := Lib.hid hA
    have ZX := Lib.hid hX
    have ZY := Lib.hid hY
    clear hA hX hY eW HA
    refine held_start (n := 30) (ls := #[false, false, false, false, false, false, false, false, false, false, false, false, false, false, false, false, false, false, false, false, false, false, false, false, false, false, false, false, false, false]) (fun w' => w'.cell? ⟨w.heap.size, 0, none⟩ = some (.int .u64 (s0 : Int)) ∧ w'.cell? ⟨w.heap.size, 1, none⟩ = some (.int .u64 (s1 : Int)) ∧ w'.cell? ⟨w2.heap.size, 0, none⟩ = some (.int .u64 (y0 : Int)) ∧ w'.cell? ⟨w2.heap.size, 1, none⟩ = some (.int .u64 (y1 : Int)) ∧ w'.cell? ⟨w3.heap.size, 0, none⟩ = some (.int .u64 (y0 : Int)) ∧ w'.cell? ⟨w3.heap.size, 1, none⟩ = some (.int .u64 (y1 : Int))) (by kernel_rfl) (by kernel_rfl) (by kernel_rfl) ⟨p0, p1, p2, p3, p4, p5⟩ (fun hHeld => ?_)
    refine held_take (i := 0) (some 29) (ls' := #[true, false, false, false, false, false, false, false, false, false, false, false, false, false, false, false, false, false, false, false, false, false, false, false, false, false, false, false, false, false]) rfl rfl (by kernel_rfl) (by kernel_rfl) (by kernel_rfl) (by kernel_rfl) (by rfl) (v := ?_) ?_ hHeld ?_
    rotate_left 1
    · intro w hSw; (try dsimp only at hSw); go_simp; try with_reducible rfl
    try simp only [Act.put, List.setIfInBounds_toArray, List.set_cons_zero, List.set_cons_succ]
    refine held_take (i := 1) (some 30) (ls' := #[true, true, false, false, false, false, false, false, false, false, false, false, false, false, false, false, false, false, false, false, false, false, false, false, false, false, false, false, false, false]) rfl rfl (by kernel_rfl) (by kernel_rfl) (by kernel_rfl) (by kernel_rfl) (by rfl) (v := ?_) ?_ hHeld ?_
    rotate_left 1
    · intro w hSw; (try dsimp only at hSw); go_simp; try with_reducible rfl
    try simp only [Act.put, List.setIfInBounds_toArray, List.set_cons_zero, List.set_cons_succ]
    refine held_take (i := 2) (some 31) (ls' := #[true, true, true, false, false, false, false, false, false, false, false, false, false, false, false, false, false, false, false, false, false, false, false, false, false, false, false, false, false, false]) rfl rfl (by kernel_rfl) (by kernel_rfl) (by kernel_rfl) (by kernel_rfl) (by rfl) (v := ?_) ?_ hHeld ?_
    rotate_left 1
    · intro w hSw; (try dsimp only at hSw); go_simp; try with_reducible rfl
    try simp only [Act.put, List.setIfInBounds_toArray, List.set_cons_zero, List.set_cons_succ]
    refine held_take (i := 5) (some 34) (ls' := #[true, true, true, false, false, true, false, false, false, false, false, false, false, false, false, false, false, false, false, false, false, false, false, false, false, false, false, false, false, false]) rfl rfl (by kernel_rfl) (by kernel_rfl) (by kernel_rfl) (by kernel_rfl) (by rfl) (v := ?_) ?_ hHeld ?_
    rotate_left 1
    · intro w hSw; (try dsimp only at hSw); go_simp; try with_reducible rfl
    try simp only [Act.put, List.setIfInBounds_toArray, List.set_cons_zero, List.set_cons_succ]
    refine held_call (i := 3) (ls' := #[true, true, true, true, false, true, false, false, false, false, false, false, false, false, false, false, false, false, false, false, false, false, false, false, false, false, false, false, false, false]) rfl (by kernel_rfl) (by kernel_rfl) (by rfl) (fun K hK => ?_)
    have HH := Lib.hid hHeld
    clear hHeld
    go_simp
    go_at_call 25; refine (c3 _).mono ?_; clear c3; rintro e wA ⟨vA, rfl, oA, xA⟩; obtain ⟨AA, kA, rfl, hkA, rA⟩ := own_slice oA; clear oA
    have hHeld := six xA HH.out
    clear HH
    refine hK _ _ hHeld ?_
    clear hK K
    try simp only [Act.put, List.setIfInBounds_toArray, List.set_cons_zero, List.set_cons_succ]
    refine held_more (fun w' => (w'.cell? ⟨w.heap.size, 0, none⟩ = some (.int .u64 (s0 : Int)) ∧ w'.cell? ⟨w.heap.size, 1, none⟩ = some (.int .u64 (s1 : Int)) ∧ w'.cell? ⟨w2.heap.size, 0, none⟩ = some (.int .u64 (y0 : Int)) ∧ w'.cell? ⟨w2.heap.size, 1, none⟩ = some (.int .u64 (y1 : Int)) ∧ w'.cell? ⟨w3.heap.size, 0, none⟩ = some (.int .u64 (y0 : Int)) ∧ w'.cell? ⟨w3.heap.size, 1, none⟩ = some (.int .u64 (y1 : Int))) ∧ (convert 27 9 (.slice AA 16 kA)).run Try.prog w' = .ok (.string S) w') (fun _ h => h.1) ?_
    replace hHeld := And.intro hHeld (KC.out wA AA kA _ rA)
    refine held_take (i := 4) (some 33) (ls' := #[true, true, true, true, true, true, false, false, false, false, false, false, false, false, false, false, false, false, false, false, false, false, false, false, false, false, false, false, false, false]) rfl rfl (by kernel_rfl) (by kernel_rfl) (by kernel_rfl) (by kernel_rfl) (by rfl) (v := ?_) ?_ hHeld ?_
    rotate_left 1
    · intro w hSw; (try dsimp only at hSw); go_simp; try with_reducible rfl
    try simp only [Act.put, List.setIfInBounds_toArray, List.set_cons_zero, List.set_cons_succ]
    refine held_call (i := 6) (ls' := #[true, true, true, true, true, true, true, false, false, false, false, false, false, false, false, false, false, false, false, false, false, false, false, false, false, false, false, false, false, false]) rfl (by kernel_rfl) (by kernel_rfl) (by rfl) (fun K hK => ?_)
    have HH := Lib.hid hHeld
    clear hHeld
    go_simp
    go_at_call 26; refine (c4 _).mono ?_; clear c4; rintro e wB ⟨vB, rfl, oB, xB⟩; obtain ⟨AB, kB, rfl, hkB, rB⟩ := own_slice oB; clear oB
    have hHeld := And.intro (six xB HH.out.1) (KC.out wB AA kA _ (rA.below xB.out))
    clear HH
    refine hK _ _ hHeld ?_
    clear hK K
    try simp only [Act.put, List.setIfInBounds_toArray, List.set_cons_zero, List.set_cons_succ]
    refine held_more (fun w' => ((w'.cell? ⟨w.heap.size, 0, none⟩ = some (.int .u64 (s0 : Int)) ∧ w'.cell? ⟨w.heap.size, 1, none⟩ = some (.int .u64 (s1 : Int)) ∧ w'.cell? ⟨w2.heap.size, 0, none⟩ = some (.int .u64 (y0 : Int)) ∧ w'.cell? ⟨w2.heap.size, 1, none⟩ = some (.int .u64 (y1 : Int)) ∧ w'.cell? ⟨w3.heap.size, 0, none⟩ = some (.int .u64 (y0 : Int)) ∧ w'.cell? ⟨w3.heap.size, 1, none⟩ = some (.int .u64 (y1 : Int))) ∧ (convert 27 9 (.slice AA 16 kA)).run Try.prog w' = .ok (.string S) w') ∧ (convert 27 9 (.slice AB 16 kB)).run Try.prog w' = .ok (.string S) w') (fun _ h => h.1) ?_
    replace hHeld := And.intro hHeld (KC.out wB AB kB _ rB)
    refine held_take (i := 7) (some 36) (ls' := #[true, true, true, true, true, true, true, true, false, false, false, false, false, false, false, false, false, false, false, false, false, false, false, false, false, false, false, false, false, false]) rfl rfl (by kernel_rfl) (by kernel_rfl) (by kernel_rfl) (by kernel_rfl) (by rfl) (v := ?_) ?_ hHeld ?_
    rotate_left 1
    · intro w hSw; (try dsimp only at hSw); go_simp; try with_reducible rfl
    try simp only [Act.put, List.setIfInBounds_toArray, List.set_cons_zero, List.set_cons_succ]
    refine held_take (i := 8) (some 37) (ls' := #[true, true, true, true, true, true, true, true, true, false, false, false, false, false, false, false, false, false, false, false, false, false, false, false, false, false, false, false, false, false]) rfl rfl (by kernel_rfl) (by kernel_rfl) (by kernel_rfl) (by kernel_rfl) (by rfl) (v := ?_) ?_ hHeld ?_
    rotate_left 1
    · intro w hSw; (try dsimp only at hSw); go_simp; try with_reducible rfl
    try simp only [Act.put, List.setIfInBounds_toArray, List.set_cons_zero, List.set_cons_succ]
    refine held_take (i := 9) (some 38) (ls' := #[true, true, true, true, true, true, true, true, true, true, false, false, false, false, false, false, false, false, false, false, false, false, false, false, false, false, false, false, false, false]) rfl rfl (by kernel_rfl) (by kernel_rfl) (by kernel_rfl) (by kernel_rfl) (by rfl) (v := ?_) ?_ hHeld ?_
    rotate_left 1
    · intro w hSw; (try dsimp only at hSw); go_simp; try with_reducible rfl
    try simp only [Act.put, List.setIfInBounds_toArray, List.set_cons_zero, List.set_cons_succ]
    refine held_take (i := 10) (some 39) (ls' := #[true, true, true, true, true, true, true, true, true, true, true, false, false, false, false, false, false, false, false, false, false, false, false, false, false, false, false, false, false, false]) rfl rfl (by kernel_rfl) (by kernel_rfl) (by kernel_rfl) (by kernel_rfl) (by rfl) (v := ?_) ?_ hHeld ?_
    rotate_left 1
    · intro w hSw; (try dsimp only at hSw); go_simp; try with_reducible rfl
    try simp only [Act.put, List.setIfInBounds_toArray, List.set_cons_zero, List.set_cons_succ]
    refine held_take (i := 11) (some 40) (ls' := #[true, true, true, true, true, true, true, true, true, true, true, true, false, false, false, false, false, false, false, false, false, false, false, false, false, false, false, false, false, false]) rfl rfl (by kernel_rfl) (by kernel_rfl) (by kernel_rfl) (by kernel_rfl) (by rfl) (v := ?_) ?_ hHeld ?_
    rotate_left 1
    · intro w hSw; (try dsimp only at hSw); go_simp; try with_reducible rfl
    try simp only [Act.put, List.setIfInBounds_toArray, List.set_cons_zero, List.set_cons_succ]
    refine held_take (i := 12) (some 41) (ls' := #[true, true, true, true, true, true, true, true, true, true, true, true, true, false, false, false, false, false, false, false, false, false, false, false, false, false, false, false, false, false]) rfl rfl (by kernel_rfl) (by kernel_rfl) (by kernel_rfl) (by kernel_rfl) (by rfl) (v := ?_) ?_ hHeld ?_
    rotate_left 1
    · intro w hSw; (try dsimp only at hSw); go_simp; try with_reducible rfl
    try simp only [Act.put, List.setIfInBounds_toArray, List.set_cons_zero, List.set_cons_succ]
    refine held_take (i := 13) (some 42) (ls' := #[true, true, true, true, true, true, true, true, true, true, true, true, true, true, false, false, false, false, false, false, false, false, false, false, false, false, false, false, false, false]) rfl rfl (by kernel_rfl) (by kernel_rfl) (by kernel_rfl) (by kernel_rfl) (by rfl) (v := ?_) ?_ hHeld ?_
    rotate_left 1
    · intro w hSw; (try dsimp only at hSw); go_simp; try with_reducible rfl
    try simp only [Act.put, List.setIfInBounds_toArray, List.set_cons_zero, List.set_cons_succ]
    refine held_take (i := 14) (some 43) (ls' := #[true, true, true, true, true, true, true, true, true, true, true, true, true, true, true, false, false, false, false, false, false, false, false, false, false, false, false, false, false, false]) rfl rfl (by kernel_rfl) (by kernel_rfl) (by kernel_rfl) (by kernel_rfl) (by rfl) (v := ?_) ?_ hHeld ?_
    rotate_left 1
    · intro w hSw; (try dsimp only at hSw); go_simp; try with_reducible rfl
    try simp only [Act.put, List.setIfInBounds_toArray, List.set_cons_zero, List.set_cons_succ]
    refine held_take (i := 15) (some 44) (ls' := #[true, true, true, true, true, true, true, true, true, true, true, true, true, true, true, true, false, false, false, false, false, false, false, false, false, false, false, false, false, false]) rfl rfl (by kernel_rfl) (by kernel_rfl) (by kernel_rfl) (by kernel_rfl) (by rfl) (v := ?_) ?_ hHeld ?_
    rotate_left 1
    · intro w hSw; (try dsimp only at hSw); go_simp; try with_reducible rfl
    try simp only [Act.put, List.setIfInBounds_toArray, List.set_cons_zero, List.set_cons_succ]
    refine held_take (i := 16) (some 45) (ls' := #[true, true, true, true, true, true, true, true, true, true, true, true, true, true, true, true, true, false, false, false, false, false, false, false, false, false, false, false, false, false]) rfl rfl (by kernel_rfl) (by kernel_rfl) (by kernel_rfl) (by kernel_rfl) (by rfl) (v := ?_) ?_ hHeld ?_
    rotate_left 1
    · intro w hSw; (try dsimp only at hSw); go_simp; try with_reducible rfl
    try simp only [Act.put, List.setIfInBounds_toArray, List.set_cons_zero, List.set_cons_succ]
    refine held_take (i := 17) (some 46) (ls' := #[true, true, true, true, true, true, true, true, true, true, true, true, true, true, true, true, true, true, false, false, false, false, false, false, false, false, false, false, false, false]) rfl rfl (by kernel_rfl) (by kernel_rfl) (by kernel_rfl) (by kernel_rfl) (by rfl) (v := ?_) ?_ hHeld ?_
    rotate_left 1
    · intro w hSw; (try dsimp only at hSw); go_simp; try with_reducible rfl
    try simp only [Act.put, List.setIfInBounds_toArray, List.set_cons_zero, List.set_cons_succ]
    refine held_take (i := 18) (some 47) (ls' := #[true, true, true, true, true, true, true, true, true, true, true, true, true, true, true, true, true, true, true, false, false, false, false, false, false, false, false, false, false, false]) rfl rfl (by kernel_rfl) (by kernel_rfl) (by kernel_rfl) (by kernel_rfl) (by rfl) (v := ?_) ?_ hHeld ?_
    rotate_left 1
    · intro w hSw; (try dsimp only at hSw); go_simp; try with_reducible rfl
    try simp only [Act.put, List.setIfInBounds_toArray, List.set_cons_zero, List.set_cons_succ]
    refine held_take (i := 19) (some 48) (ls' := #[true, true, true, true, true, true, true, true, true, true, true, true, true, true, true, true, true, true, true, true, false, false, false, false, false, false, false, false, false, false]) rfl rfl (by kernel_rfl) (by kernel_rfl) (by kernel_rfl) (by kernel_rfl) (by rfl) (v := ?_) ?_ hHeld ?_
    rotate_left 1
    · intro w hSw; (try dsimp only at hSw); go_simp; try with_reducible rfl
    try simp only [Act.put, List.setIfInBounds_toArray, List.set_cons_zero, List.set_cons_succ]
    refine held_take (i := 20) (some 49) (ls' := #[true, true, true, true, true, true, true, true, true, true, true, true, true, true, true, true, true, true, true, true, true, false, false, false, false, false, false, false, false, false]) rfl rfl (by kernel_rfl) (by kernel_rfl) (by kernel_rfl) (by kernel_rfl) (by rfl) (v := ?_) ?_ hHeld ?_
    rotate_left 1
    · intro w hSw; (try dsimp only at hSw); go_simp; try with_reducible rfl
    try simp only [Act.put, List.setIfInBounds_toArray, List.set_cons_zero, List.set_cons_succ]
    refine held_take (i := 21) (some 50) (ls' := #[true, true, true, true, true, true, true, true, true, true, true, true, true, true, true, true, true, true, true, true, true, true, false, false, false, false, false, false, false, false]) rfl rfl (by kernel_rfl) (by kernel_rfl) (by kernel_rfl) (by kernel_rfl) (by rfl) (v := ?_) ?_ hHeld ?_
    rotate_left 1
    · intro w hSw; (try dsimp only at hSw); go_simp; try with_reducible rfl
    try simp only [Act.put, List.setIfInBounds_toArray, List.set_cons_zero, List.set_cons_succ]
    refine held_take (i := 22) (some 51) (ls' := #[true, true, true, true, true, true, true, true, true, true, true, true, true, true, true, true, true, true, true, true, true, true, true, false, false, false, false, false, false, false]) rfl rfl (by kernel_rfl) (by kernel_rfl) (by kernel_rfl) (by kernel_rfl) (by rfl) (v := ?_) ?_ hHeld ?_
    rotate_left 1
    · intro w hSw; (try dsimp only at hSw); go_simp; try with_reducible rfl
    try simp only [Act.put, List.setIfInBounds_toArray, List.set_cons_zero, List.set_cons_succ]
    refine held_take (i := 24) (some 53) (ls' := #[true, true, true, true, true, true, true, true, true, true, true, true, true, true, true, true, true, true, true, true, true, true, true, false, true, false, false, false, false, false]) rfl rfl (by kernel_rfl) (by kernel_rfl) (by kernel_rfl) (by kernel_rfl) (by rfl) (v := ?_) ?_ hHeld ?_
    rotate_left 1
    · intro w hSw; (try dsimp only at hSw); go_simp; try with_reducible rfl
    try simp only [Act.put, List.setIfInBounds_toArray, List.set_cons_zero, List.set_cons_succ]
    refine held_take (i := 25) (some 54) (ls' := #[true, true, true, true, true, true, true, true, true, true, true, true, true, true, true, true, true, true, true, true, true, true, true, false, true, true, false, false, false, false]) rfl rfl (by kernel_rfl) (by kernel_rfl) (by kernel_rfl) (by kernel_rfl) (by rfl) (v := ?_) ?_ hHeld ?_
    rotate_left 1
    · intro w hSw; (try dsimp only at hSw); go_simp; try with_reducible rfl
    try simp only [Act.put, List.setIfInBounds_toArray, List.set_cons_zero, List.set_cons_succ]
    refine held_call (i := 23) (ls' := #[true, true, true, true, true, true, true, true, true, true, true, true, true, true, true, true, true, true, true, true, true, true, true, true, true, true, false, false, false, false]) rfl (by kernel_rfl) (by kernel_rfl) (by rfl) (fun K hK => ?_)
    have HH := Lib.hid hHeld
    clear hHeld
    go_simp
    go_at_call 27; refine (c5 _).mono ?_; clear c5; rintro e wC ⟨rfl, xC⟩
    have hHeld := And.intro (And.intro (six xC HH.out.1.1) (KC.out wC AA kA _ (rA.below (xB.trans xC).out))) (KC.out wC AB kB _ (rB.below xC.out))
    clear HH
    refine hK _ _ hHeld ?_
    clear hK K
    try simp only [Act.put, List.setIfInBounds_toArray, List.set_cons_zero, List.set_cons_succ]
    refine held_call (i := 26) (ls' := #[true, true, true, true, true, true, true, true, true, true, true, true, true, true, true, true, true, true, true, true, true, true, true, true, true, true, true, false, false, false]) rfl (by kernel_rfl) (by kernel_rfl) (by rfl) (fun K hK => ?_)
    have HH := Lib.hid hHeld
    clear hHeld
    go_simp
    go_at_call 28; refine (c6 _).mono ?_; clear c6; rintro e wD ⟨rfl, xD⟩
    have hHeld := And.intro (And.intro (six xD HH.out.1.1) (KC.out wD AA kA _ (rA.below ((xB.trans xC).trans xD).out))) (KC.out wD AB kB _ (rB.below (xC.trans xD).out))
    clear HH
    refine hK _ _ hHeld ?_
    clear hK K
    try simp only [Act.put, List.setIfInBounds_toArray, List.set_cons_zero, List.set_cons_succ]
    refine held_take (i := 27) (some 56) (ls' := #[true, true, true, true, true, true, true, true, true, true, true, true, true, true, true, true, true, true, true, true, true, true, true, true, true, true, true, true, false, false]) rfl rfl (by kernel_rfl) (by kernel_rfl) (by kernel_rfl) (by kernel_rfl) (by rfl) (v := ?_) ?_ hHeld ?_
    rotate_left 1
    · intro w hSw; (try dsimp only at hSw); go_simp; try with_reducible rfl
    try simp only [Act.put, List.setIfInBounds_toArray, List.set_cons_zero, List.set_cons_succ]
    refine held_take (i := 28) (some 57) (ls' := #[true, true, true, true, true, true, true, true, true, true, true, true, true, true, true, true, true, true, true, true, true, true, true, true, true, true, true, true, true, false]) rfl rfl (by kernel_rfl) (by kernel_rfl) (by kernel_rfl) (by kernel_rfl) (by rfl) (v := ?_) ?_ hHeld ?_
    rotate_left 1
    · intro w hSw; (try dsimp only at hSw); go_simp; try with_reducible rfl
    try simp only [Act.put, List.setIfInBounds_toArray, List.set_cons_zero, List.set_cons_succ]
    refine held_take (i := 29) (some 6) (ls' := #[true, true, true, true, true, true, true, true, true, true, true, true, true, true, true, true, true, true, true, true, true, true, true, true, true, true, true, true, true, true]) rfl rfl (by kernel_rfl) (by kernel_rfl) (by kernel_rfl) (by kernel_rfl) (by rfl) (v := ?_) ?_ hHeld ?_
    rotate_left 1
    · intro w hSw; (try dsimp only at hSw); go_simp; try with_reducible rfl
    try simp only [Act.put, List.setIfInBounds_toArray, List.set_cons_zero, List.set_cons_succ]
    refine held_done (by kernel_rfl) ?_
    clear hHeld
    go_wp2
    go_ret
    exact ⟨rfl, (((x4.drew.trans xA).trans xB).trans xC).trans xD⟩
end Go.Proofs.Ytckfifghipkedaa
