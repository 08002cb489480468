/- The statements of the hash, walked: HashBack. -/
import Derived.Test.YtckfifghipkedaaHaLive
import Derived.Test.YtckfifghipkedaaHeld
namespace Go.Proofs.Ytckfifghipkedaa
set_option linter.unusedVariables false
open Go.RowKit Go.Shelf
attribute [local irreducible] mix

theorem num8_be (n : Nat) (h : n < 18446744073709551616) : num8 (be n 8) = n := by
  simp [be, beN, List.range_succ, num8]
  omega
theorem be_num8 (l : List Nat) (hl : l.length = 8) (h : ∀ x ∈ l, x < 256) : be (num8 l) 8 = l := by
  match l, hl with
  | [a, b, c, d, e, f, g, i], _ =>
    simp only [List.mem_cons, List.not_mem_nil, or_false, forall_eq_or_imp, forall_eq] at h
    obtain ⟨ha, hb, hc, hd, he, hf, hg, hi⟩ := h
    simp [be, beN, List.range_succ, num8]
    omega
theorem ofS_bytes2 (a b : Nat) (ha : a < 18446744073709551616) (hb : b < 18446744073709551616) : ofS (bytes2 a b) = if a < bP ∧ b < bP then ((a, b), 0) else ((0, 0), 71) := by
  have e1 : (bytes2 a b).take 8 = be a 8 := by unfold bytes2; rw [List.take_left' (be_length a 8)]
  have e2 : ((bytes2 a b).drop 8).take 8 = be b 8 := by unfold bytes2; rw [List.drop_left' (be_length a 8), List.take_of_length_le (by rw [be_length]; exact Nat.le_refl _)]
  unfold ofS
  rw [bytes2_length, if_neg (by decide), e1, e2, num8_be a ha, num8_be b hb]
  by_cases h : a < bP ∧ b < bP
  · rw [if_neg (by omega), if_pos h]
  · rw [if_pos (by omega), if_neg h]
theorem ofS_cases (l : List Nat) (hl : ∀ x ∈ l, x < 256) : (ofS l = ((0, 0), 70) ∧ l.length < 16) ∨ (ofS l = ((0, 0), 71) ∧ 16 ≤ l.length) ∨ ∃ x y, ofS l = ((x, y), 0) ∧ l.length = 16 ∧ bytes2 x y = l := by
  unfold ofS
  by_cases h1 : l.length < 16
  · rw [if_pos h1]; exact .inl ⟨rfl, h1⟩
  · rw [if_neg h1]
    split
    · exact .inr (.inl ⟨rfl, by omega⟩)
    · rename_i h
      have h16 : l.length = 16 := by omega
      refine .inr (.inr ⟨_, _, rfl, h16, ?_⟩)
      unfold bytes2
      rw [be_num8 _ (by rw [List.length_take, h16]; rfl) (fun x hx => hl x (List.mem_of_mem_take hx)), be_num8 _ (by rw [List.length_take, List.length_drop, h16]; rfl) (fun x hx => hl x (List.mem_of_mem_drop (List.mem_of_mem_take hx)))]
      rw [List.take_of_length_le (l := l.drop 8) (by rw [List.length_drop, h16]; decide), List.take_append_drop]

/-- Whether a word is below P, out of the walk's sight. -/
structure LtP (x : Nat) (b : Bool) : Prop where
  out : decide ((x : Int) < 2305843009213693951) = b

set_option maxRecDepth 100000 in
set_option maxHeartbeats 4000000 in
theorem walk_HashBack (s0 s1 : Nat) (A : Option Addr) (c : Nat) (l : List Nat) (hs0 : s0 < 18446744073709551616) (hs1 : s1 < 18446744073709551616) (hc : l.length ≤ c) (_hcr : c ≤ 140737488351232) (hl : ∀ x ∈ l, x < 256)
    (w : World) (hr : Reads w w.heap.size 1 A l.length (bv l)) :
    Calls Try.prog 9 #[.agg #[.int .u64 s0, .int .u64 s1], .slice A l.length c] w fun e w' => e = .returned (.bool true) ∧ Ext w w' := by
  have cl := fun W => live_any W
  by_cases h4 : 400 < l.length
  · have z1 : (400 : Int) < (l.length : Int) := by omega
    clear hr hl
    go_enter Try.func9, Try.ntmps9
    go_wp2_with (go_at_call 13; refine (cl _).mono ?_; clear cl; rintro e w1 ⟨rfl, x1⟩)
    go_ret
    exact ⟨rfl, ((Ext.refl w).alloc _).trans x1⟩
  · have c0 := fun W => bytes_any s0 s1 W
    have c1 := fun A c W hc h => Of_any (bytes2 s0 s1) (bytes2_lt _ _) A c hc (by rw [bytes2_length]; decide) W h
    have c2 := fun W (x : Ext w W) => Of_any l hl A c hc (by omega) W ((hr.below x.out).more x.size)
    rw [bytes2_length] at c1
    obtain ⟨x0, x1, e0, hx, hcase⟩ : ∃ x0 x1 e0 : Nat, ofS (bytes2 s0 s1) = ((x0, x1), e0) ∧ ((s0 < bP ∧ s1 < bP ∧ x0 = s0 ∧ x1 = s1 ∧ e0 = 0) ∨ (¬ s0 < bP ∧ x0 = 0 ∧ x1 = 0 ∧ e0 = 71) ∨ (s0 < bP ∧ ¬ s1 < bP ∧ x0 = 0 ∧ x1 = 0 ∧ e0 = 71)) := by
      rw [ofS_bytes2 s0 s1 hs0 hs1]
      by_cases h : s0 < bP ∧ s1 < bP
      · exact ⟨s0, s1, 0, by rw [if_pos h], .inl ⟨h.1, h.2, rfl, rfl, rfl⟩⟩
      · refine ⟨0, 0, 71, by rw [if_neg h], .inr ?_⟩
        by_cases h' : s0 < bP
        · exact .inr ⟨h', by omega, rfl, rfl, rfl⟩
        · exact .inl ⟨h', rfl, rfl, rfl⟩
    rw [hx] at c1
    unfold ofV at c1 c2
    simp only at c1
    have z1 : ¬ (400 : Int) < (l.length : Int) := by omega
    have hcap : (l.length : Int) ≤ c := by omega
    have q0 := eq2_same (s0 : Int) (s1 : Int)
    have q1 := eq2_same 0 0
    have hS : ∃ d0 d1 : Bool, decide ((s0 : Int) < 2305843009213693951) = d0 ∧ decide ((s1 : Int) < 2305843009213693951) = d1 ∧ ((d0 = true ∧ d1 = true ∧ x0 = s0 ∧ x1 = s1 ∧ e0 = 0) ∨ (d0 = false ∧ x0 = 0 ∧ x1 = 0 ∧ e0 = 71) ∨ (d0 = true ∧ d1 = false ∧ x0 = 0 ∧ x1 = 0 ∧ e0 = 71)) := by
      refine ⟨_, _, rfl, rfl, ?_⟩
      unfold bP at hcase
      simp only [decide_eq_true_eq, decide_eq_false_iff_not]
      omega
    obtain ⟨d0, d1, hd0, hd1, hcase'⟩ := hS
    clear hcase hx hs0 hs1
    rcases ofS_cases l hl with ⟨ho, hlen⟩ | ⟨ho, hlen⟩ | ⟨y0, y1, ho, hlen, hbl⟩
    · rw [ho] at c2
      simp only [Int.cast_ofNat_Int] at c2
      have z2 : (l.length : Int) < 16 := by omega
      clear hr hl h4 ho hlen
      rcases hcase' with ⟨rfl, rfl, rfl, rfl, rfl⟩ | ⟨rfl, rfl, rfl, rfl⟩ | ⟨rfl, rfl, rfl, rfl, rfl⟩
      all_goals (
        simp only [Int.cast_ofNat_Int] at c1
        have D0 : LtP _ _ := ⟨hd0⟩
        have D1 : LtP _ _ := ⟨hd1⟩
        have Z2 := Lib.hid z2
        clear hd0 hd1 z2 hcap
        go_enter Try.func9, Try.ntmps9
        go_wp2_with (go_at_call 13; refine (cl _).mono ?_; clear cl; rintro e w1 ⟨rfl, xl⟩; have xx1 := ((Ext.refl w).alloc _).trans xl; have ha := ext_blk xl (Blk.new w _ _); obtain ⟨p0, p1⟩ := arr2' ha; have HA := Lib.hid ha; clear ha)
        refine (c0 _).mono ?_
        clear c0
        rintro e wB ⟨vB, rfl, oB, xB⟩
        obtain ⟨AB, kB, rfl, hkB, rB⟩ := own_slice oB
        clear oB
        go_wp2_with (fail)
        (with_reducible refine (c1 _ _ _ hkB rB).mono ?_)
        clear c1
        rintro e w3 ⟨rfl, x3⟩
        have HB := Lib.hid (ext_blk (xB.trans x3) HA.out)
        have p0 := fun o => (arr2' (HB.out.alloc o)).1
        have p1 := fun o => (arr2' (HB.out.alloc o)).2
        have hd0 := D0.out
        have hd1 := D1.out
        have xx4 := fun o => ((xx1.trans xB).trans x3).alloc o
        go_wp2_with (fail)
        (with_reducible refine (c2 _ (xx4 _)).mono ?_)
        clear c2
        rintro e w4 ⟨rfl, x4⟩
        have HX := Lib.hid (ext_blk x4 (Blk.new _ _ _))
        have HC := Lib.hid (ext_blk x4 (HB.out.alloc _))
        have r0 := fun o => (arr2' (HX.out.alloc o)).1
        have r1 := fun o => (arr2' (HX.out.alloc o)).2
        have r2 := fun o => (arr2' (HC.out.alloc o)).1
        have r3 := fun o => (arr2' (HC.out.alloc o)).2
        have z2 := Z2.out
        clear hd0 hd1
        go_wp2_with (fail)
        go_ret
        exact ⟨rfl, ((xx4 _).trans x4).alloc _⟩)
    · rw [ho] at c2
      simp only [Int.cast_ofNat_Int] at c2
      have z2 : decide ((l.length : Int) < 16) = false := by simp; omega
      clear hr hl h4 ho hlen
      rcases hcase' with ⟨rfl, rfl, rfl, rfl, rfl⟩ | ⟨rfl, rfl, rfl, rfl⟩ | ⟨rfl, rfl, rfl, rfl, rfl⟩
      all_goals (
        simp only [Int.cast_ofNat_Int] at c1
        have D0 : LtP _ _ := ⟨hd0⟩
        have D1 : LtP _ _ := ⟨hd1⟩
        have Z2 := Lib.hid z2
        clear hd0 hd1 z2 hcap
        go_enter Try.func9, Try.ntmps9
        go_wp2_with (go_at_call 13; refine (cl _).mono ?_; clear cl; rintro e w1 ⟨rfl, xl⟩; have xx1 := ((Ext.refl w).alloc _).trans xl; have ha := ext_blk xl (Blk.new w _ _); obtain ⟨p0, p1⟩ := arr2' ha; have HA := Lib.hid ha; clear ha)
        refine (c0 _).mono ?_
        clear c0
        rintro e wB ⟨vB, rfl, oB, xB⟩
        obtain ⟨AB, kB, rfl, hkB, rB⟩ := own_slice oB
        clear oB
        go_wp2_with (fail)
        (with_reducible refine (c1 _ _ _ hkB rB).mono ?_)
        clear c1
        rintro e w3 ⟨rfl, x3⟩
        have HB := Lib.hid (ext_blk (xB.trans x3) HA.out)
        have p0 := fun o => (arr2' (HB.out.alloc o)).1
        have p1 := fun o => (arr2' (HB.out.alloc o)).2
        have hd0 := D0.out
        have hd1 := D1.out
        have xx4 := fun o => ((xx1.trans xB).trans x3).alloc o
        go_wp2_with (fail)
        (with_reducible refine (c2 _ (xx4 _)).mono ?_)
        clear c2
        rintro e w4 ⟨rfl, x4⟩
        have HX := Lib.hid (ext_blk x4 (Blk.new _ _ _))
        have HC := Lib.hid (ext_blk x4 (HB.out.alloc _))
        have r0 := fun o => (arr2' (HX.out.alloc o)).1
        have r1 := fun o => (arr2' (HX.out.alloc o)).2
        have r2 := fun o => (arr2' (HC.out.alloc o)).1
        have r3 := fun o => (arr2' (HC.out.alloc o)).2
        have z2 := Z2.out
        clear hd0 hd1
        go_wp2_with (fail)
        go_ret
        exact ⟨rfl, ((xx4 _).trans x4).alloc _⟩)
    · rw [ho] at c2
      have kc : ∀ (W : World) (A : Option Addr) (c B : Nat), Reads W B 1 A 16 (bv l) → (convert 27 9 (.slice A 16 c)).run Try.prog W = .ok (.string (strOf l)) W := fun W A c B h => by
        have := str_convert (c := c) hl (by omega) (by rw [hlen]; exact h)
        rw [hlen] at this
        exact this
      have ka : ∀ W, Ext w W → (convert 27 9 (.slice A 16 c)).run Try.prog W = .ok (.string (strOf l)) W := fun W x => kc W A c _ (by have := hr.below x.out; rw [hlen] at this; exact this)
      have c3 := fun W => bytes_any y0 y1 W
      rw [hbl] at c3
      obtain ⟨S, hS⟩ : ∃ S, S = strOf l := ⟨_, rfl⟩
      rw [← hS] at kc ka
      have KC := Lib.hid kc
      have KA := Lib.hid ka
      rw [hlen] at c2 hcap hc z1 ⊢
      simp only [Int.cast_ofNat_Int] at c2 hcap z1
      have z2 : True := trivial
      clear hr hl h4 ho hlen hbl hS kc ka z1
      rcases hcase' with ⟨rfl, rfl, rfl, rfl, rfl⟩ | ⟨rfl, rfl, rfl, rfl⟩ | ⟨rfl, rfl, rfl, rfl, rfl⟩
      all_goals (
        simp only [Int.cast_ofNat_Int] at c1
        have D0 : LtP _ _ := ⟨hd0⟩
        have D1 : LtP _ _ := ⟨hd1⟩
        have Z2 := Lib.hid z2
        clear hd0 hd1 z2 hcap
        go_enter Try.func9, Try.ntmps9
        go_wp2_with (go_at_call 13; refine (cl _).mono ?_; clear cl; rintro e w1 ⟨rfl, xl⟩; have xx1 := ((Ext.refl w).alloc _).trans xl; have ha := ext_blk xl (Blk.new w _ _); obtain ⟨p0, p1⟩ := arr2' ha; have HA := Lib.hid ha; clear ha)
        refine (c0 _).mono ?_
        clear c0
        rintro e wB ⟨vB, rfl, oB, xB⟩
        obtain ⟨AB, kB, rfl, hkB, rB⟩ := own_slice oB
        clear oB
        go_wp2_with (fail)
        (with_reducible refine (c1 _ _ _ hkB rB).mono ?_)
        clear c1
        rintro e w3 ⟨rfl, x3⟩
        have HB := Lib.hid (ext_blk (xB.trans x3) HA.out)
        have p0 := fun o => (arr2' (HB.out.alloc o)).1
        have p1 := fun o => (arr2' (HB.out.alloc o)).2
        have hd0 := D0.out
        have hd1 := D1.out
        have xx4 := fun o => ((xx1.trans xB).trans x3).alloc o
        go_wp2_with (fail)
        (with_reducible refine (c2 _ (xx4 _)).mono ?_)
        clear c2
        rintro e w4 ⟨rfl, x4⟩
        have HX := Lib.hid (ext_blk x4 (Blk.new _ _ _))
        have HC := Lib.hid (ext_blk x4 (HB.out.alloc _))
        have r0 := fun o => (arr2' (HX.out.alloc o)).1
        have r1 := fun o => (arr2' (HX.out.alloc o)).2
        have r2 := fun o => (arr2' (HC.out.alloc o)).1
        have r3 := fun o => (arr2' (HC.out.alloc o)).2
        have z2 := Z2.out
        clear hd0 hd1
        go_wp2_with (fail)
        have x4' := x4
        obtain ⟨W, eW⟩ : ∃ W, w4.alloc (.cells #[.int .u64 (y0 : Int), .int .u64 (y1 : Int)] 29) = W := ⟨_, rfl⟩
        have hY := Blk.new w4 29 #[.int .u64 (y0 : Int), .int .u64 (y1 : Int)]
        have x5 := ((xx4 _).trans x4).alloc (.cells #[.int .u64 (y0 : Int), .int .u64 (y1 : Int)] 29)
        rw [eW] at hY x5 ⊢
        obtain ⟨p0, p1⟩ := arr2' hY
        obtain ⟨g, hg⟩ : ∃ g, g = w4.heap.size := ⟨_, rfl⟩
        rw [← hg] at p0 p1 ⊢
        clear r0 r1 r2 r3 hY eW hg x4'
        refine held_start (n := 10) (ls := #[false, false, false, false, false, false, false, false, false, false]) (fun w' => w'.cell? ⟨g, 0, none⟩ = some (.int .u64 (y0 : Int)) ∧ w'.cell? ⟨g, 1, none⟩ = some (.int .u64 (y1 : Int)) ∧ (convert 27 9 (.slice A 16 c)).run Try.prog w' = .ok (.string S) w') (by kernel_rfl) (by kernel_rfl) (by kernel_rfl) ⟨p0, p1, KA.out _ x5.drew⟩ (fun hHeld => ?_)
        refine held_take (i := 0) (some 59) (ls' := #[true, false, false, false, false, false, false, false, false, false]) rfl rfl (by kernel_rfl) (by kernel_rfl) (by kernel_rfl) (by kernel_rfl) (by rfl) (v := ?_) ?_ hHeld ?_
        rotate_left 1
        · intro w hSw; (try dsimp only at hSw); go_simp; try with_reducible rfl
        try simp only [Act.put, List.setIfInBounds_toArray, List.set_cons_zero, List.set_cons_succ]
        refine held_take (i := 1) (some 60) (ls' := #[true, true, false, false, false, false, false, false, false, false]) rfl rfl (by kernel_rfl) (by kernel_rfl) (by kernel_rfl) (by kernel_rfl) (by rfl) (v := ?_) ?_ hHeld ?_
        rotate_left 1
        · intro w hSw; (try dsimp only at hSw); go_simp; try with_reducible rfl
        try simp only [Act.put, List.setIfInBounds_toArray, List.set_cons_zero, List.set_cons_succ]
        refine held_take (i := 2) (some 61) (ls' := #[true, true, true, false, false, false, false, false, false, false]) rfl rfl (by kernel_rfl) (by kernel_rfl) (by kernel_rfl) (by kernel_rfl) (by rfl) (v := ?_) ?_ hHeld ?_
        rotate_left 1
        · intro w hSw; (try dsimp only at hSw); go_simp; try with_reducible rfl
        try simp only [Act.put, List.setIfInBounds_toArray, List.set_cons_zero, List.set_cons_succ]
        refine held_take (i := 5) (some 64) (ls' := #[true, true, true, false, false, true, false, false, false, false]) rfl rfl (by kernel_rfl) (by kernel_rfl) (by kernel_rfl) (by kernel_rfl) (by rfl) (v := ?_) ?_ hHeld ?_
        rotate_left 1
        · intro w hSw; (try dsimp only at hSw); go_simp; try with_reducible rfl
        try simp only [Act.put, List.setIfInBounds_toArray, List.set_cons_zero, List.set_cons_succ]
        refine held_take (i := 6) (some 65) (ls' := #[true, true, true, false, false, true, true, false, false, false]) rfl rfl (by kernel_rfl) (by kernel_rfl) (by kernel_rfl) (by kernel_rfl) (by rfl) (v := ?_) ?_ hHeld ?_
        rotate_left 1
        · intro w hSw; (try dsimp only at hSw); go_simp; try with_reducible rfl
        try simp only [Act.put, List.setIfInBounds_toArray, List.set_cons_zero, List.set_cons_succ]
        refine held_call (i := 3) (ls' := #[true, true, true, true, false, true, true, false, false, false]) rfl (by kernel_rfl) (by kernel_rfl) (by rfl) (fun K hK => ?_)
        have HH := Lib.hid hHeld
        clear hHeld
        go_simp
        go_at_call 25; refine (c3 _).mono ?_; clear c3; rintro e wA ⟨vA, rfl, oA, xA⟩; obtain ⟨AA, kA, rfl, hkA, rA⟩ := own_slice oA; clear oA
        have hHeld := (show (fun w' => w'.cell? ⟨g, 0, none⟩ = some (.int .u64 (y0 : Int)) ∧ w'.cell? ⟨g, 1, none⟩ = some (.int .u64 (y1 : Int)) ∧ (convert 27 9 (.slice A 16 c)).run Try.prog w' = .ok (.string S) w') wA from ⟨xA.cell HH.out.1, xA.cell HH.out.2.1, KA.out wA (x5.drew.trans xA)⟩)
        clear HH
        refine hK _ _ hHeld ?_
        clear hK K
        try simp only [Act.put, List.setIfInBounds_toArray, List.set_cons_zero, List.set_cons_succ]
        refine held_more (fun w' => (w'.cell? ⟨g, 0, none⟩ = some (.int .u64 (y0 : Int)) ∧ w'.cell? ⟨g, 1, none⟩ = some (.int .u64 (y1 : Int)) ∧ (convert 27 9 (.slice A 16 c)).run Try.prog w' = .ok (.string S) w') ∧ (convert 27 9 (.slice AA 16 kA)).run Try.prog w' = .ok (.string S) w') (fun _ h => h.1) ?_
        replace hHeld := And.intro hHeld (KC.out wA AA kA _ rA)
        refine held_take (i := 4) (some 63) (ls' := #[true, true, true, true, true, true, true, false, false, false]) rfl rfl (by kernel_rfl) (by kernel_rfl) (by kernel_rfl) (by kernel_rfl) (by rfl) (v := ?_) ?_ hHeld ?_
        rotate_left 1
        · intro w hSw; (try dsimp only at hSw); go_simp; try with_reducible rfl
        try simp only [Act.put, List.setIfInBounds_toArray, List.set_cons_zero, List.set_cons_succ]
        refine held_take (i := 7) (some 66) (ls' := #[true, true, true, true, true, true, true, true, false, false]) rfl rfl (by kernel_rfl) (by kernel_rfl) (by kernel_rfl) (by kernel_rfl) (by rfl) (v := ?_) ?_ hHeld ?_
        rotate_left 1
        · intro w hSw; (try dsimp only at hSw); go_simp; try with_reducible rfl
        try simp only [Act.put, List.setIfInBounds_toArray, List.set_cons_zero, List.set_cons_succ]
        refine held_take (i := 8) (some 67) (ls' := #[true, true, true, true, true, true, true, true, true, false]) rfl rfl (by kernel_rfl) (by kernel_rfl) (by kernel_rfl) (by kernel_rfl) (by rfl) (v := ?_) ?_ hHeld ?_
        rotate_left 1
        · intro w hSw; (try dsimp only at hSw); go_simp; try with_reducible rfl
        try simp only [Act.put, List.setIfInBounds_toArray, List.set_cons_zero, List.set_cons_succ]
        refine held_take (i := 9) (some 4) (ls' := #[true, true, true, true, true, true, true, true, true, true]) rfl rfl (by kernel_rfl) (by kernel_rfl) (by kernel_rfl) (by kernel_rfl) (by rfl) (v := ?_) ?_ hHeld ?_
        rotate_left 1
        · intro w hSw; (try dsimp only at hSw); go_simp; try with_reducible rfl
        try simp only [Act.put, List.setIfInBounds_toArray, List.set_cons_zero, List.set_cons_succ]
        refine held_done (by kernel_rfl) ?_
        clear hHeld
        go_wp2
        go_ret
        exact ⟨rfl, (x5.drew.trans xA)⟩)
end Go.Proofs.Ytckfifghipkedaa
