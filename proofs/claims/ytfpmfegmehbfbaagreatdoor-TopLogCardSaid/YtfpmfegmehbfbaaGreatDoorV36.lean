/- Parts of the proofs, put together: Rd5, Rd6, Der. -/
import Derived.Recover
import Derived.Test.YtfpmfegmehbfbaaGreatDoorV15
import Derived.Test.YtfpmfegmehbfbaaGreatDoorV27
/- Rules, read: a rule (of the one text that 'up' reads): the walk. -/
namespace Go.Proofs.YtfpmfegmehbfbaaGreatDoor
set_option linter.unusedVariables false
set_option linter.unusedSimpArgs false
set_option linter.unusedSimpArgs false
open Go.RowKit Go.Shelf

theorem boxes2 (w : World) (x y : Array Value) (T U : TypeId) : ∃ W, (w.alloc (.cells x T)).alloc (.cells y U) = W ∧ Blk W w.heap.size T x ∧ Blk W (w.heap.size + 1) U y ∧ Ext w W := by
  refine ⟨_, rfl, (Blk.new w T x).alloc _, ?_, ((Ext.refl w).alloc _).alloc _⟩
  have := Blk.new (w.alloc (.cells x T)) U y
  rwa [World.size_alloc] at this
theorem reads_oneR (W : World) (T : TypeId) (x : Value) : Reads (W.alloc (.cells #[x] T)) (W.alloc (.cells #[x] T)).heap.size 1 (some ⟨W.heap.size, 0, none⟩) 1 [x] :=
  ⟨by simp, fun _ => ⟨_, rfl, by simp, fun j u hj => by
    rw [show (⟨W.heap.size, 0, none⟩ : Addr).add j = ⟨W.heap.size, j, none⟩ by simp [Addr.add]; exact fun h => h.symm, (Blk.new W T #[x]).cell j]
    simpa using hj⟩⟩
theorem cells7 {W : World} {g : Nat} {T : TypeId} {v0 v1 v2 v3 v4 v5 v6 : Value} (h : Blk W g T #[v0, v1, v2, v3, v4, v5, v6]) : (W.cell? ⟨g, 0, none⟩ = some v0 ∧ W.cell? ⟨g, 1, none⟩ = some v1 ∧ W.cell? ⟨g, 2, none⟩ = some v2 ∧ W.cell? ⟨g, 3, none⟩ = some v3 ∧ W.cell? ⟨g, 4, none⟩ = some v4 ∧ W.cell? ⟨g, 5, none⟩ = some v5 ∧ W.cell? ⟨g, 6, none⟩ = some v6) ∧
    W.frozen? ⟨g, 0, none⟩ = false ∧ W.frozen? ⟨g, 1, none⟩ = false ∧ W.frozen? ⟨g, 2, none⟩ = false ∧ W.frozen? ⟨g, 3, none⟩ = false ∧ W.frozen? ⟨g, 4, none⟩ = false ∧ W.frozen? ⟨g, 5, none⟩ = false ∧ W.frozen? ⟨g, 6, none⟩ = false :=
  ⟨⟨h.cell 0, h.cell 1, h.cell 2, h.cell 3, h.cell 4, h.cell 5, h.cell 6⟩, h.frozen 0, h.frozen 1, h.frozen 2, h.frozen 3, h.frozen 4, h.frozen 5, h.frozen 6⟩
set_option maxRecDepth 100000 in
set_option maxHeartbeats 8000000 in
theorem rule_any (p b c : Nat) (w : World) (hr : Rd w p b rdT c 0 ⟨#[97, 108, 108, 111, 119]⟩) (ht : Lib.Bytes w b 0 rdT) (hp : b ≠ p) (hc : rdT.size ≤ c ∧ c ≤ 9223372036854775807) :
    Calls Tryz.prog 114 #[.pointer (some ⟨p, 0, none⟩), .slice none 0 0] w fun e w' => ∃ A cp, e = .returned (.agg #[.string ⟨#[119, 101, 98]⟩, .bool true, .slice A 1 cp, .int .u64 0, .int .i64 9, .int .i64 0, .int .i64 0]) ∧ Rd w' p b rdT c 26 ⟨#[]⟩ ∧ Lib.Bytes w' b 0 rdT ∧ w.grownBy w' (some p) := by
  obtain ⟨W0, e0, bq, bx, x0⟩ := boxes2 w #[.slice none 0 0] #[.string ⟨#[]⟩, .bool false, .slice none 0 0, .int .u64 0, .int .i64 0, .int .i64 0, .int .i64 0] 116 121
  have hs0 : RuS w W0 p b c #[.string ⟨#[]⟩, .bool false, .slice none 0 0, .int .u64 0, .int .i64 0, .int .i64 0, .int .i64 0] 0 ⟨#[97, 108, 108, 111, 119]⟩ :=
    ⟨bq, bx, Blk.below hr x0.out (Blk.lt hr), bytes_grown ht (grown_extN x0) (by simp), grown_extR x0 _, Blk.lt hr, World.block_lt_of_cell? _ _ (ht 0 (by decide)), hp, hc⟩
  have HS0 := Lib.hid hs0
  obtain ⟨-, -, m2, -, -, f2⟩ := hs0.rd.cells
  obtain ⟨⟨v0, v1, v2, v3, v4, v5, v6⟩, z0, z1, z2, z3, z4, z5, z6⟩ := cells7 hs0.bx
  have q0 := hs0.bq.cell 0
  clear hr ht hp hc bq bx x0 hs0
  go_enter Tryz.func114, Tryz.ntmps114
  go_upto_region 1 with (fail)
  try rw [e0]
  clear e0
  go_upto_region 2 with (fail)
  obtain ⟨W1, e1⟩ : ∃ W, W = W0.setCell ⟨w.heap.size + 1, 1, none⟩ (.bool true) := ⟨_, rfl⟩
  have hs1 : RuS w W1 p b c #[.string ⟨#[]⟩, .bool true, .slice none 0 0, .int .u64 0, .int .i64 0, .int .i64 0, .int .i64 0] 0 ⟨#[97, 108, 108, 111, 119]⟩ := by rw [e1]; exact HS0.out.put 1 _
  try rw [← e1]
  clear e1
  clear m2 f2 v0 v1 v2 v3 v4 v5 v6 z0 z1 z2 z3 z4 z5 z6 q0
  have HS1 := Lib.hid hs1
  obtain ⟨-, -, m2, -, -, f2⟩ := hs1.rd.cells
  obtain ⟨⟨v0, v1, v2, v3, v4, v5, v6⟩, z0, z1, z2, z3, z4, z5, z6⟩ := cells7 hs1.bx
  have q0 := hs1.bq.cell 0
  clear hs1
  go_upto_region 6 with (fail)
  go_upto_region 7 with (go_at_call 113; refine (next_T tk1 HS1.out).mono ?_; rintro e w2 ⟨rfl, hs2⟩; clear m2 f2 v0 v1 v2 v3 v4 v5 v6 z0 z1 z2 z3 z4 z5 z6 q0)
  have HS2 := Lib.hid hs2
  obtain ⟨-, -, m2, -, -, f2⟩ := hs2.rd.cells
  obtain ⟨⟨v0, v1, v2, v3, v4, v5, v6⟩, z0, z1, z2, z3, z4, z5, z6⟩ := cells7 hs2.bx
  have q0 := hs2.bq.cell 0
  clear hs2
  go_upto_region 8 with (go_at_call 200; refine (take_T 201 rule1_enters #[.pointer (some ⟨w.heap.size, 0, none⟩)] tk2 HS2.out (rule1_any w.heap.size w2 q0)).mono ?_; rintro e w3 ⟨rfl, hs3⟩; clear m2 f2 v0 v1 v2 v3 v4 v5 v6 z0 z1 z2 z3 z4 z5 z6 q0; obtain ⟨-, -, m2, -, -, f2⟩ := hs3.rd.cells; obtain ⟨⟨v0, v1, v2, v3, v4, v5, v6⟩, z0, z1, z2, z3, z4, z5, z6⟩ := cells7 hs3.bx; have q0 := hs3.bq.cell 0)
  obtain ⟨W4, e4⟩ : ∃ W, W = w3.setCell ⟨w.heap.size + 1, 0, none⟩ (.string ⟨#[119, 101, 98]⟩) := ⟨_, rfl⟩
  have hs4 : RuS w W4 p b c #[.string ⟨#[119, 101, 98]⟩, .bool true, .slice none 0 0, .int .u64 0, .int .i64 0, .int .i64 0, .int .i64 0] 10 ⟨#[123]⟩ := by rw [e4]; exact hs3.put 0 _
  try rw [← e4]
  clear e4
  clear m2 f2 v0 v1 v2 v3 v4 v5 v6 z0 z1 z2 z3 z4 z5 z6 q0
  clear hs3
  have HS4 := Lib.hid hs4
  obtain ⟨-, -, m2, -, -, f2⟩ := hs4.rd.cells
  obtain ⟨⟨v0, v1, v2, v3, v4, v5, v6⟩, z0, z1, z2, z3, z4, z5, z6⟩ := cells7 hs4.bx
  have q0 := hs4.bq.cell 0
  clear hs4
  go_wp2_with (go_at_call 205; refine (want_T tk3 HS4.out).mono ?_; rintro e w5 ⟨rfl, hs5⟩; clear m2 f2 v0 v1 v2 v3 v4 v5 v6 z0 z1 z2 z3 z4 z5 z6 q0)
  have HS5 := Lib.hid hs5
  obtain ⟨-, -, m2, -, -, f2⟩ := hs5.rd.cells
  obtain ⟨⟨v0, v1, v2, v3, v4, v5, v6⟩, z0, z1, z2, z3, z4, z5, z6⟩ := cells7 hs5.bx
  have q0 := hs5.bq.cell 0
  clear hs5
  go_loopg [40] 0 (fun m s40 wr => w5 = wr)
  case atStart => rfl
  case round =>
    subst hrel
    obtain ⟨i0, hi, hz0, hz1, hz2⟩ := info_parts Tryz.infoStr
    have hd : RuS w w5.drew p b c #[.string ⟨#[119, 101, 98]⟩, .bool true, .slice none 0 0, .int .u64 0, .int .i64 0, .int .i64 0, .int .i64 0] 12 ⟨#[42, 46, 97]⟩ := HS5.out.ext (Ext.refl _).drew
    have HD := Lib.hid hd
    clear hd
    clear m2 f2 v0 v1 v2 v3 v4 v5 v6 z0 z1 z2 z3 z4 z5 z6 q0
    go_upto_region 9 with (fail)
    refine E_start (n := 9) (ls := #[false, false, false, false, false, false, false, false, false]) (fun w' => w'.cell? ⟨w.heap.size + 1, 2, none⟩ = some (.slice none 0 0)) 8 (by kernel_rfl) (by kernel_rfl) (by kernel_rfl) (HD.out.bx.cell 2) (fun hHeld => ?_)
    refine E_take (i := 0) (some 40) (ls' := #[true, false, false, false, false, false, false, false, false]) rfl rfl (by kernel_rfl) (by kernel_rfl) (by kernel_rfl) (by kernel_rfl) (by kernel_rfl) (by rfl) (v := ?_) ?_ hHeld ?_
    rotate_left 1
    · intro w hSw; (try dsimp only at hSw); go_simp; try with_reducible rfl
    try simp only [Act.put, List.setIfInBounds_toArray, List.set_cons_zero, List.set_cons_succ]
    refine E_take (i := 1) (some 41) (ls' := #[true, true, false, false, false, false, false, false, false]) rfl rfl (by kernel_rfl) (by kernel_rfl) (by kernel_rfl) (by kernel_rfl) (by kernel_rfl) (by rfl) (v := ?_) ?_ hHeld ?_
    rotate_left 1
    · intro w hSw; (try dsimp only at hSw); go_simp; try with_reducible rfl
    try simp only [Act.put, List.setIfInBounds_toArray, List.set_cons_zero, List.set_cons_succ]
    refine E_take (i := 2) (some 42) (ls' := #[true, true, true, false, false, false, false, false, false]) rfl rfl (by kernel_rfl) (by kernel_rfl) (by kernel_rfl) (by kernel_rfl) (by kernel_rfl) (by rfl) (v := ?_) ?_ hHeld ?_
    rotate_left 1
    · intro w hSw; (try dsimp only at hSw); go_simp; try with_reducible rfl
    try simp only [Act.put, List.setIfInBounds_toArray, List.set_cons_zero, List.set_cons_succ]
    refine E_take (i := 3) (some 43) (ls' := #[true, true, true, true, false, false, false, false, false]) rfl rfl (by kernel_rfl) (by kernel_rfl) (by kernel_rfl) (by kernel_rfl) (by kernel_rfl) (by rfl) (v := ?_) ?_ hHeld ?_
    rotate_left 1
    · intro w hSw; (try dsimp only at hSw); go_simp; try with_reducible rfl
    try simp only [Act.put, List.setIfInBounds_toArray, List.set_cons_zero, List.set_cons_succ]
    refine E_one (i := 4) (ls' := #[true, true, true, true, true, false, false, false, false]) rfl (by kernel_rfl) (by kernel_rfl) (by rfl) (fun K hK => ?_)
    go_simp
    go_at_call 200
    refine (take_T 206 rule2_enters #[.pointer (some ⟨w.heap.size + 1, 0, none⟩)] tk4 HD.out (rule2_any (w.heap.size + 1) w5.drew (HD.out.bx.cell 2))).mono ?_
    rintro e w6 ⟨rfl, hs6⟩
    have HS6 := Lib.hid hs6
    have hH1 : w6.cell? ⟨w.heap.size + 1, 2, none⟩ = some (.slice none 0 0) := hs6.bx.cell 2
    clear hs6
    have hHeld2 := hH1
    clear hHeld
    have hHeld := hHeld2
    clear hHeld2
    refine hK _ _ (fun _ => hHeld) ?_
    clear hK K
    try simp only [Act.put, List.setIfInBounds_toArray, List.set_cons_zero, List.set_cons_succ]
    refine E_one (i := 5) (ls' := #[true, true, true, true, true, true, false, false, false]) rfl (by kernel_rfl) (by kernel_rfl) (by rfl) (fun K hK => ?_)
    go_simp
    have hH2 : (w6.alloc (.cells #[.string ⟨#[42, 46, 97]⟩] 9)).cell? ⟨w.heap.size + 1, 2, none⟩ = some (.slice none 0 0) := (Blk.alloc HS6.out.bx _).cell 2
    have hHeld2 := hH2
    clear hHeld
    have hHeld := hHeld2
    clear hHeld2
    refine hK _ _ (fun _ => hHeld) ?_
    clear hK K
    try simp only [Act.put, List.setIfInBounds_toArray, List.set_cons_zero, List.set_cons_succ]
    refine E_one (i := 6) (ls' := #[true, true, true, true, true, true, true, false, false]) rfl (by kernel_rfl) (by kernel_rfl) (by rfl) (fun K hK => ?_)
    clear hHeld
    refine wp_append_any _ (.tmp 41) (.tmp 45) 65 rfl w6.heap.size 9 i0 (.string ⟨#[]⟩) 1 16 Tryz.underlying65 hi hz0 hz1 hz2 rfl (by decide) (.slice none 0 0) 0 [] rfl (World.ownsRow_nil _ _ _ _) _ (some ⟨w6.heap.size, 0, none⟩) 1 1 [.string ⟨#[42, 46, 97]⟩] rfl (reads_oneR w6 9 _) (by simp [Value.oneCell']) (by simp [maxLen]) (by decide) (by simp) ?_
    intro v7 w7 hown7 hg7 _
    obtain ⟨A7, c7, rfl, -, -⟩ := own_slice hown7
    have X7 : Ext w6 w7 := ext_grown ((Ext.refl w6).alloc _) (World.ownsRow_nil _ _ 9 1) hg7
    have hs7 := HS6.out.ext X7
    have HS7 := Lib.hid hs7
    have hH3 : w7.cell? ⟨w.heap.size + 1, 2, none⟩ = some (.slice none 0 0) := hs7.bx.cell 2
    have f7 := hs7.bx.frozen 2
    have hHeld := hH3
    clear hown7 hg7 X7 hs7
    have hHeld2 := hH3
    clear hHeld
    have hHeld := hHeld2
    clear hHeld2
    refine hK _ _ (fun _ => hHeld) ?_
    clear hK K
    try simp only [Act.put, List.setIfInBounds_toArray, List.set_cons_zero, List.set_cons_succ]
    refine E_one (i := 7) (ls' := #[true, true, true, true, true, true, true, true, false]) rfl (by kernel_rfl) (by kernel_rfl) (by rfl) (fun K hK => ?_)
    go_simp
    refine hK _ _ (fun _ => hHeld) ?_
    clear hK K
    try simp only [Act.put, List.setIfInBounds_toArray, List.set_cons_zero, List.set_cons_succ]
    refine E_one (i := 8) (ls' := #[true, true, true, true, true, true, true, true, true]) rfl (by kernel_rfl) (by kernel_rfl) (by rfl) (fun K hK => ?_)
    clear hHeld
    go_simp
    refine hK _ _ (fun h => absurd rfl h) ?_
    clear hK K
    try simp only [Act.put, List.setIfInBounds_toArray, List.set_cons_zero, List.set_cons_succ]
    refine E_done (by kernel_rfl) ?_
    obtain ⟨W7, e7⟩ : ∃ W, W = w7.setCell ⟨w.heap.size + 1, 2, none⟩ (.slice A7 1 c7) := ⟨_, rfl⟩
    have hs7 : RuS w W7 p b c #[.string ⟨#[119, 101, 98]⟩, .bool true, .slice A7 1 c7, .int .u64 0, .int .i64 0, .int .i64 0, .int .i64 0] 15 ⟨#[59]⟩ := by rw [e7]; exact HS7.out.put 2 _
    try rw [← e7]
    clear e7
    clear hH1 hH2 hH3 f7
    have HS7 := Lib.hid hs7
    obtain ⟨-, -, m2, -, -, f2⟩ := hs7.rd.cells
    obtain ⟨⟨v0, v1, v2, v3, v4, v5, v6⟩, z0, z1, z2, z3, z4, z5, z6⟩ := cells7 hs7.bx
    have q0 := hs7.bq.cell 0
    clear hs7
    go_upto_region 12 with (fail)
    go_upto_region 13 with (go_at_call 205; refine (want_T tk5 HS7.out).mono ?_; rintro e w8 ⟨rfl, hs8⟩; clear m2 f2 v0 v1 v2 v3 v4 v5 v6 z0 z1 z2 z3 z4 z5 z6 q0)
    have HS8 := Lib.hid hs8
    obtain ⟨-, -, m2, -, -, f2⟩ := hs8.rd.cells
    obtain ⟨⟨v0, v1, v2, v3, v4, v5, v6⟩, z0, z1, z2, z3, z4, z5, z6⟩ := cells7 hs8.bx
    have q0 := hs8.bq.cell 0
    clear hs8
    go_upto_region 18 with (fail)
    go_upto_region 19 with (go_at_call 205; refine (want_T tk6 HS8.out).mono ?_; rintro e w9 ⟨rfl, hs9⟩; clear m2 f2 v0 v1 v2 v3 v4 v5 v6 z0 z1 z2 z3 z4 z5 z6 q0)
    have HS9 := Lib.hid hs9
    obtain ⟨-, -, m2, -, -, f2⟩ := hs9.rd.cells
    obtain ⟨⟨v0, v1, v2, v3, v4, v5, v6⟩, z0, z1, z2, z3, z4, z5, z6⟩ := cells7 hs9.bx
    have q0 := hs9.bq.cell 0
    clear hs9
    go_upto_region 20 with (go_at_call 209; refine (number_T tk7 HS9.out).mono ?_; rintro e w10 ⟨rfl, hs10⟩; clear m2 f2 v0 v1 v2 v3 v4 v5 v6 z0 z1 z2 z3 z4 z5 z6 q0; obtain ⟨-, -, m2, -, -, f2⟩ := hs10.rd.cells; obtain ⟨⟨v0, v1, v2, v3, v4, v5, v6⟩, z0, z1, z2, z3, z4, z5, z6⟩ := cells7 hs10.bx; have q0 := hs10.bq.cell 0)
    obtain ⟨W11, e11⟩ : ∃ W, W = w10.setCell ⟨w.heap.size + 1, 4, none⟩ (.int .i64 9) := ⟨_, rfl⟩
    have hs11 : RuS w W11 p b c #[.string ⟨#[119, 101, 98]⟩, .bool true, .slice A7 1 c7, .int .u64 0, .int .i64 9, .int .i64 0, .int .i64 0] 23 ⟨#[59]⟩ := by rw [e11]; exact hs10.put 4 _
    try rw [← e11]
    clear e11
    clear m2 f2 v0 v1 v2 v3 v4 v5 v6 z0 z1 z2 z3 z4 z5 z6 q0
    clear hs10
    have HS11 := Lib.hid hs11
    obtain ⟨-, -, m2, -, -, f2⟩ := hs11.rd.cells
    obtain ⟨⟨v0, v1, v2, v3, v4, v5, v6⟩, z0, z1, z2, z3, z4, z5, z6⟩ := cells7 hs11.bx
    have q0 := hs11.bq.cell 0
    clear hs11
    go_upto_region 21 with (go_at_call 205; refine (want_T tk8 HS11.out).mono ?_; rintro e w12 ⟨rfl, hs12⟩; clear m2 f2 v0 v1 v2 v3 v4 v5 v6 z0 z1 z2 z3 z4 z5 z6 q0)
    have HS12 := Lib.hid hs12
    obtain ⟨-, -, m2, -, -, f2⟩ := hs12.rd.cells
    obtain ⟨⟨v0, v1, v2, v3, v4, v5, v6⟩, z0, z1, z2, z3, z4, z5, z6⟩ := cells7 hs12.bx
    have q0 := hs12.bq.cell 0
    clear hs12
    go_upto_region 27 with (fail)
    go_upto_region 28 with (go_at_call 205; refine (want_T tk9 HS12.out).mono ?_; rintro e w13 ⟨rfl, hs13⟩; clear m2 f2 v0 v1 v2 v3 v4 v5 v6 z0 z1 z2 z3 z4 z5 z6 q0)
    have HS13 := Lib.hid hs13
    obtain ⟨-, -, m2, -, -, f2⟩ := hs13.rd.cells
    obtain ⟨⟨v0, v1, v2, v3, v4, v5, v6⟩, z0, z1, z2, z3, z4, z5, z6⟩ := cells7 hs13.bx
    have q0 := hs13.bq.cell 0
    clear hs13
    have hsF : RuS w (((((((w13.setCell ⟨w.heap.size + 1, 0, none⟩ (.string ⟨#[119, 101, 98]⟩)).setCell ⟨w.heap.size + 1, 1, none⟩ (.bool true)).setCell ⟨w.heap.size + 1, 2, none⟩ (.slice A7 1 c7)).setCell ⟨w.heap.size + 1, 3, none⟩ (.int .u64 0)).setCell ⟨w.heap.size + 1, 4, none⟩ (.int .i64 9)).setCell ⟨w.heap.size + 1, 5, none⟩ (.int .i64 0)).setCell ⟨w.heap.size + 1, 6, none⟩ (.int .i64 0)) p b c #[.string ⟨#[119, 101, 98]⟩, .bool true, .slice A7 1 c7, .int .u64 0, .int .i64 9, .int .i64 0, .int .i64 0] 26 ⟨#[]⟩ := ((((((HS13.out.put 0 (.string ⟨#[119, 101, 98]⟩)).put 1 (.bool true)).put 2 (.slice A7 1 c7)).put 3 (.int .u64 0)).put 4 (.int .i64 9)).put 5 (.int .i64 0)).put 6 (.int .i64 0)
    have HSF := Lib.hid hsF
    clear hsF
    go_wp2
    obtain ⟨⟨v0, v1, v2, v3, v4, v5, v6⟩, -⟩ := cells7 HSF.out.bx
    refine bodyPost_ret (v := .agg #[.string ⟨#[119, 101, 98]⟩, .bool true, .slice A7 1 c7, .int .u64 0, .int .i64 9, .int .i64 0, .int .i64 0]) (by simp [results, Tryz.results114, go_sem, v0, v1, v2, v3, v4, v5, v6]) rfl ⟨A7, c7, rfl, HSF.out.rd, HSF.out.tx, HSF.out.gr⟩
end Go.Proofs.YtfpmfegmehbfbaaGreatDoor

/- Rules, read: Parse (of the one text that 'up' reads). -/
namespace Go.Proofs.YtfpmfegmehbfbaaGreatDoor
set_option linter.unusedVariables false
set_option linter.unusedSimpArgs false
set_option linter.unusedSimpArgs false
open Go.RowKit Go.Shelf

theorem parse1_idle (x y z : Value) (w : World) :
    CallsD Tryz.prog 112 #[x, y, z] .returning w fun e u' w' => e = .returned (.tuple #[]) ∧ u' = .returning ∧ w' = w := by
  refine callsD_of_wpS Tryz.func112 rfl fun c₀ cs hu => ?_
  apply wpS_seq
  apply wpS_region
  simp [wpOpsS, go_sem, recoverD, hu, Tryz.ntmps112, Exit.thenS]
  refine wpS_of_wp ?_
  go_wp2
  cases c₀
  simp_all [bodyPostS, results, Tryz.results112]
theorem Tryz.infoRule : (Tryz.prog.info? 121).map (fun i => (i.zero, i.size, i.bytes)) = some (some (.agg #[.string ⟨#[]⟩, .bool false, .slice none 0 0, .int .u64 0, .int .i64 0, .int .i64 0, .int .i64 0]), 7, 80) := by kernel_rfl
theorem reads_rows (W : World) (T : TypeId) (xs : List Value) : Reads (W.alloc (.cells xs.toArray T)) (W.alloc (.cells xs.toArray T)).heap.size xs.length (some ⟨W.heap.size, 0, none⟩) 1 xs :=
  ⟨by simp, fun _ => ⟨_, rfl, by simp, fun j u hj => by
    rw [show (⟨W.heap.size, 0, none⟩ : Addr).add j = ⟨W.heap.size, j, none⟩ by simp [Addr.add]; exact fun h => h.symm, (Blk.new W T xs.toArray).cell j]
    simpa using hj⟩⟩
theorem own_rule {w : World} {base : Nat} {e : TypeId} {v : Value} {u0 u1 u2 u3 u4 u5 u6 : Value} (h : w.ownsRow base e 7 v (0 + 1) ([] ++ [u0, u1, u2, u3, u4, u5, u6])) : ∃ g c, v = .slice (some ⟨g, 0, none⟩) 1 c ∧ base ≤ g ∧ w.cell? ⟨g, 4, none⟩ = some u4 := by
  obtain ⟨A, c, hv, hc, hr⟩ := own_slice2 h
  obtain ⟨ad, rfl, hlt, hcell⟩ := hr.2 (by decide)
  rcases h.2 with ⟨rfl, h0⟩ | ⟨g, cap, cur, rfl, hbg, _⟩
  · cases hv
  · cases hv
    exact ⟨g, c, rfl, hbg, hcell 4 u4 rfl⟩
theorem boxes3R (w : World) (x y z : Array Value) (T U V : TypeId) : ∃ W, ((w.alloc (.cells x T)).alloc (.cells y U)).alloc (.cells z V) = W ∧ Blk W w.heap.size T x ∧ Blk W (w.heap.size + 1) U y ∧ Blk W (w.heap.size + 1 + 1) V z ∧ Ext w W ∧ W.heap.size = w.heap.size + 3 := by
  refine ⟨_, rfl, ((Blk.new w T x).alloc _).alloc _, ?_, ?_, (((Ext.refl w).alloc _).alloc _).alloc _, by simp⟩
  · have := (Blk.new (w.alloc (.cells x T)) U y).alloc (.cells z V)
    rwa [World.size_alloc] at this
  · have := Blk.new ((w.alloc (.cells x T)).alloc (.cells y U)) V z
    rwa [World.size_alloc, World.size_alloc] at this
/-- The world while a text is read. -/
structure PaS (w W : World) (b c : Nat) (v : Value) (a : Nat) (tok : ByteArray) : Prop where
  b0 : Blk W w.heap.size 116 #[v]
  b1 : Blk W (w.heap.size + 1) 3 #[.int .i64 0]
  b2 : Blk W (w.heap.size + 1 + 1) 39 #[.int .i64 0]
  rd : Rd W (w.heap.size + 3) b rdT c a tok
  tx : Lib.Bytes W b 0 rdT
  x : Ext w W
  bl : b < w.heap.size
  cc : rdT.size ≤ c ∧ c ≤ 9223372036854775807
variable {w W W' : World} {b c a a1 : Nat} {v : Value} {tok tok1 : ByteArray}
theorem PaS.ne (h : PaS w W b c v a tok) : b ≠ w.heap.size + 3 := by have := h.bl; omega
theorem PaS.step (h : PaS w W b c v a tok) (g : W.grownBy W' (some (w.heap.size + 3))) (r : Rd W' (w.heap.size + 3) b rdT c a1 tok1) : PaS w W' b c v a1 tok1 :=
  ⟨Blk.grown h.b0 g (by simp), Blk.grown h.b1 g (by simp), Blk.grown h.b2 g (by simp), r, bytes_grown h.tx g (by have := h.ne; simp; omega), Ext.of (h.x.out.grown g h.x.size (fun k e => by cases e; omega)), h.bl, h.cc⟩
theorem PaS.ext (h : PaS w W b c v a tok) (x : Ext W W') : PaS w W' b c v a tok :=
  ⟨Blk.below h.b0 x.out h.b0.lt, Blk.below h.b1 x.out h.b1.lt, Blk.below h.b2 x.out h.b2.lt, Blk.below h.rd x.out (Blk.lt h.rd), bytes_grown h.tx (grown_extN x) (by simp), h.x.trans x, h.bl, h.cc⟩
theorem PaS.put (h : PaS w W b c v a tok) (u : Value) : PaS w (W.setCell ⟨w.heap.size, 0, none⟩ u) b c u a tok := by
  have hg := grown_cell W w.heap.size 0 u
  exact ⟨Blk.set_ h.b0 0 u, Blk.grown h.b1 hg (by simp), Blk.grown h.b2 hg (by simp; omega), Blk.grown h.rd hg (by simp), bytes_grown h.tx hg (by have := h.bl; simp; omega), h.x.setCell (p := ⟨w.heap.size, 0, none⟩) (Nat.le_refl _) _, h.bl, h.cc⟩
set_option maxRecDepth 100000 in
set_option maxHeartbeats 8000000 in
theorem Parse_any (b c : Nat) (w : World) (ht : Lib.Bytes w b 0 rdT) (hc : rdT.size ≤ c ∧ c ≤ 9223372036854775807) :
    Calls Tryz.prog 43 #[.slice (some ⟨b, 0, none⟩) 26 c] w fun e w' => ∃ g cp, e = .returned (.tuple #[.slice (some ⟨g, 0, none⟩) 1 cp, .int .i64 0, .int .i64 0]) ∧ w'.cell? ⟨g, 4, none⟩ = some (.int .i64 9) ∧ Ext w w' := by
  obtain ⟨W0, e0, b0, b1, b2, x0, s0⟩ := boxes3R w #[.slice none 0 0] #[.int .i64 0] #[.int .i64 0] 116 3 39
  have hmf : ∀ (fn : Fn) (first cap : Array Value) (w : World), (Instr.makeFunc fn first cap).run Tryz.prog w = .ok (.func fn first cap) w := fun _ _ _ _ => rfl
  obtain ⟨W1, e1⟩ : ∃ W, W0.alloc (.cells #[.slice (some ⟨b, 0, none⟩) 26 c, .int .i64 0, .string ⟨#[]⟩] 205) = W := ⟨_, rfl⟩
  have hs1 : PaS w W1 b c (.slice none 0 0) 0 ⟨#[]⟩ := by
    rw [← e1]
    have hr := Blk.new W0 205 #[.slice (some ⟨b, 0, none⟩) 26 c, .int .i64 0, .string ⟨#[]⟩]
    rw [s0] at hr
    exact ⟨b0.alloc _, b1.alloc _, b2.alloc _, hr, bytes_grown ht (grown_extN (x0.alloc _)) (by simp), x0.alloc _, World.block_lt_of_cell? _ _ (ht 0 (by decide)), hc⟩
  have c1 := (next_any rdT (by decide) b c (w.heap.size + 3) 0 0 ⟨#[]⟩ W1 hs1.ne hc.1 hc.2 hs1.tx hs1.rd tk0.h1 tk0.h2 tk0.sk tk0.st)
  rw [tk0.he] at c1
  have HS1 := Lib.hid hs1
  have HS0 := Lib.hid s0
  have m0 := b0.cell 0
  have m1 := b1.cell 0
  have m2 := b2.cell 0
  clear b0 b1 b2 x0 ht hs1 hc
  go_enter_defers Tryz.func43, Tryz.ntmps43
  go_upto_region 5 with (fail)
  try rw [e1]
  try rw [HS0.out]
  clear e0 e1 m0 m1 m2
  go_wp2_with (go_at_call 113; refine c1.mono ?_; clear c1; rintro e w2 ⟨rfl, r2, g2⟩)
  have hs2 := HS1.out.step g2 r2
  clear r2 g2
  go_loopg [20] 1 (fun m s20 wr => (m = 1 ∧ PaS w wr b c (.slice none 0 0) 0 ⟨#[97, 108, 108, 111, 119]⟩) ∨ (m = 0 ∧ ∃ g cp, PaS w wr b c (.slice (some ⟨g, 0, none⟩) 1 cp) 26 ⟨#[]⟩ ∧ wr.cell? ⟨g, 4, none⟩ = some (.int .i64 9)))
  case atStart => exact .inl ⟨rfl, hs2⟩
  case round =>
    clear hs2
    rcases hrel with ⟨rfl, hs⟩ | ⟨rfl, g, cp, hs, hc9⟩
    · obtain ⟨i0, hi, hz0, hz1, hz2⟩ := info_parts Tryz.infoRule
      have hd : PaS w wr.drew b c (.slice none 0 0) 0 ⟨#[97, 108, 108, 111, 119]⟩ := hs.ext (Ext.refl _).drew
      have HD := Lib.hid hd
      obtain ⟨-, -, n2, -, -, k2⟩ := hs.rd.cells
      clear hs hd
      go_upto_region 7 with (fail)
      clear n2 k2
      refine E_start (n := 7) (ls := #[false, false, false, false, false, false, false]) (fun w' => w'.cell? ⟨w.heap.size, 0, none⟩ = some (.slice none 0 0)) 6 (by kernel_rfl) (by kernel_rfl) (by kernel_rfl) (HD.out.b0.cell 0) (fun hHeld => ?_)
      refine E_take (i := 0) (some 20) (ls' := #[true, false, false, false, false, false, false]) rfl rfl (by kernel_rfl) (by kernel_rfl) (by kernel_rfl) (by kernel_rfl) (by kernel_rfl) (by rfl) (v := ?_) ?_ hHeld ?_
      rotate_left 1
      · intro w hSw; (try dsimp only at hSw); go_simp; try with_reducible rfl
      try simp only [Act.put, List.setIfInBounds_toArray, List.set_cons_zero, List.set_cons_succ]
      refine E_take (i := 1) (some 21) (ls' := #[true, true, false, false, false, false, false]) rfl rfl (by kernel_rfl) (by kernel_rfl) (by kernel_rfl) (by kernel_rfl) (by kernel_rfl) (by rfl) (v := ?_) ?_ hHeld ?_
      rotate_left 1
      · intro w hSw; (try dsimp only at hSw); go_simp; try with_reducible rfl
      try simp only [Act.put, List.setIfInBounds_toArray, List.set_cons_zero, List.set_cons_succ]
      refine E_take (i := 2) (some 22) (ls' := #[true, true, true, false, false, false, false]) rfl rfl (by kernel_rfl) (by kernel_rfl) (by kernel_rfl) (by kernel_rfl) (by kernel_rfl) (by rfl) (v := ?_) ?_ hHeld ?_
      rotate_left 1
      · intro w hSw; (try dsimp only at hSw); go_simp; try with_reducible rfl
      try simp only [Act.put, List.setIfInBounds_toArray, List.set_cons_zero, List.set_cons_succ]
      refine E_one (i := 3) (ls' := #[true, true, true, true, false, false, false]) rfl (by kernel_rfl) (by kernel_rfl) (by rfl) (fun K hK => ?_)
      go_simp
      go_at_call 114
      refine (rule_any (w.heap.size + 3) b c wr.drew HD.out.rd HD.out.tx HD.out.ne HD.out.cc).mono ?_
      rintro e w6 ⟨A6, c6, rfl, r6, t6, g6⟩
      have hs6 := HD.out.step g6 r6
      have HS6 := Lib.hid hs6
      have hH1 := hs6.b0.cell 0
      clear hs6 r6 t6 g6
      have hHeld2 := hH1
      clear hHeld
      have hHeld := hHeld2
      clear hHeld2
      refine hK _ _ (fun _ => hHeld) ?_
      clear hK K
      try simp only [Act.put, List.setIfInBounds_toArray, List.set_cons_zero, List.set_cons_succ]
      refine E_one (i := 4) (ls' := #[true, true, true, true, true, false, false]) rfl (by kernel_rfl) (by kernel_rfl) (by rfl) (fun K hK => ?_)
      go_simp
      have hH2 : (w6.alloc (.cells #[.string ⟨#[119, 101, 98]⟩, .bool true, .slice A6 1 c6, .int .u64 0, .int .i64 9, .int .i64 0, .int .i64 0] 121)).cell? ⟨w.heap.size, 0, none⟩ = some (.slice none 0 0) := (Blk.alloc HS6.out.b0 _).cell 0
      have hHeld2 := hH2
      clear hHeld
      have hHeld := hHeld2
      clear hHeld2
      refine hK _ _ (fun _ => hHeld) ?_
      clear hK K
      try simp only [Act.put, List.setIfInBounds_toArray, List.set_cons_zero, List.set_cons_succ]
      refine E_one (i := 5) (ls' := #[true, true, true, true, true, true, false]) rfl (by kernel_rfl) (by kernel_rfl) (by rfl) (fun K hK => ?_)
      clear hHeld
      refine wp_append_any _ (.tmp 20) (.tmp 24) 116 rfl w6.heap.size 121 i0 (.agg #[.string ⟨#[]⟩, .bool false, .slice none 0 0, .int .u64 0, .int .i64 0, .int .i64 0, .int .i64 0]) 7 80 Tryz.underlying116 hi hz0 hz1 hz2 rfl (by decide) (.slice none 0 0) 0 [] rfl (World.ownsRow_nil _ _ _ _) _ (some ⟨w6.heap.size, 0, none⟩) 1 1 [.string ⟨#[119, 101, 98]⟩, .bool true, .slice A6 1 c6, .int .u64 0, .int .i64 9, .int .i64 0, .int .i64 0] rfl (reads_rows w6 121 _) (by simp [Value.oneCell']) (by simp [maxLen]) (by decide) (by simp) ?_
      intro v7 w7 hown7 hg7 _
      obtain ⟨g7, c7, rfl, hb7, hc7⟩ := own_rule hown7
      have X7 : Ext w6 w7 := ext_grown ((Ext.refl w6).alloc _) (World.ownsRow_nil _ _ 121 7) hg7
      have hs7 := HS6.out.ext X7
      have HS7 := Lib.hid hs7
      have hH3 := hs7.b0.cell 0
      have f7 := hs7.b0.frozen 0
      have HC7 := Lib.hid hc7
      have HB7 := Lib.hid hb7
      have hHeld := hH3
      clear hown7 hg7 X7 hs7 hc7 hb7
      have hHeld2 := hH3
      clear hHeld
      have hHeld := hHeld2
      clear hHeld2
      refine hK _ _ (fun _ => hHeld) ?_
      clear hK K
      try simp only [Act.put, List.setIfInBounds_toArray, List.set_cons_zero, List.set_cons_succ]
      refine E_one (i := 6) (ls' := #[true, true, true, true, true, true, true]) rfl (by kernel_rfl) (by kernel_rfl) (by rfl) (fun K hK => ?_)
      clear hHeld
      go_simp
      refine hK _ _ (fun h => absurd rfl h) ?_
      clear hK K
      try simp only [Act.put, List.setIfInBounds_toArray, List.set_cons_zero, List.set_cons_succ]
      refine E_done (by kernel_rfl) ?_

      obtain ⟨W8, e8⟩ : ∃ W, W = w7.setCell ⟨w.heap.size, 0, none⟩ (.slice (some ⟨g7, 0, none⟩) 1 c7) := ⟨_, rfl⟩
      have hs8 : PaS w W8 b c (.slice (some ⟨g7, 0, none⟩) 1 c7) 26 ⟨#[]⟩ := by rw [e8]; exact HS7.out.put _
      have hc8 : W8.cell? ⟨g7, 4, none⟩ = some (.int .i64 9) := by
        rw [e8]
        exact (World.cell?_setCell_other _ _ _ _ (fun h => by cases h)).trans HC7.out
      try rw [← e8]
      clear e8 hH1 hH2 hH3 f7
      go_wp2
      go_roundg 0
      case measure => omega
      case rel => exact .inr ⟨rfl, g7, c7, hs8, hc8⟩
    · obtain ⟨-, -, n2, -, -, k2⟩ := hs.rd.cells
      have m0 := hs.b0.cell 0
      have m1 := hs.b1.cell 0
      have m2 := hs.b2.cell 0
      have f0 := hs.b0.frozen 0
      have f1 := hs.b1.frozen 0
      have f2 := hs.b2.frozen 0
      have HS := Lib.hid hs
      have HC := Lib.hid hc9
      clear hs hc9
      go_wp2
      obtain ⟨W9, e9⟩ : ∃ W, W = (((wr.setCell ⟨w.heap.size, 0, none⟩ (.slice (some ⟨g, 0, none⟩) 1 cp)).setCell ⟨w.heap.size + 1, 0, none⟩ (.int .i64 0)).setCell ⟨w.heap.size + 1 + 1, 0, none⟩ (.int .i64 0)) := ⟨_, rfl⟩
      have y0 : Blk W9 w.heap.size 116 #[.slice (some ⟨g, 0, none⟩) 1 cp] := by
        rw [e9]; exact ((Blk.set_ HS.out.b0 0 _).far (by simp) _).far (by simp; omega) _
      have y1 : Blk W9 (w.heap.size + 1) 3 #[.int .i64 0] := by
        rw [e9]; exact (Blk.set_ (HS.out.b1.far (by simp) _) 0 _).far (by simp) _
      have y2 : Blk W9 (w.heap.size + 1 + 1) 39 #[.int .i64 0] := by
        rw [e9]; exact Blk.set_ ((HS.out.b2.far (by simp; omega) _).far (by simp) _) 0 _
      have yx : Ext w W9 := by
        rw [e9]; exact ((HS.out.x.setCell (p := ⟨w.heap.size, 0, none⟩) (Nat.le_refl _) _).setCell (p := ⟨w.heap.size + 1, 0, none⟩) (Nat.le_succ _) _).setCell (p := ⟨w.heap.size + 1 + 1, 0, none⟩) (by simp; omega) _
      have yc : W9.cell? ⟨g, 4, none⟩ = some (.int .i64 9) := by
        rw [e9]
        exact (World.cell?_setCell_other _ _ _ _ (fun h => by cases h)).trans ((World.cell?_setCell_other _ _ _ _ (fun h => by cases h)).trans ((World.cell?_setCell_other _ _ _ _ (fun h => by cases h)).trans HC.out))
      try rw [← e9]
      have n0 := y0.cell 0
      have n1 := y1.cell 0
      have n2 := y2.cell 0
      clear e9 m0 m1 m2 f0 f1 f2
      refine leaves_cons (f := 112) (args := #[.pointer (some ⟨w.heap.size, 0, none⟩), .pointer (some ⟨w.heap.size + 1, 0, none⟩), .pointer (some ⟨w.heap.size + 1 + 1, 0, none⟩)]) (by simp) (by simp [go_sem]) ?_
      refine (parse1_idle _ _ _ _).mono ?_
      rintro e u' w'' ⟨rfl, rfl, rfl⟩
      refine ⟨.tuple #[.slice (some ⟨g, 0, none⟩) 1 cp, .int .i64 0, .int .i64 0], by simp [results, Tryz.results43, go_sem, n0, n1, n2], g, cp, rfl, yc, yx⟩
end Go.Proofs.YtfpmfegmehbfbaaGreatDoor

/- Items, walked: the bytes of the one number that 'up' writes. -/
namespace Go.Proofs.YtfpmfegmehbfbaaGreatDoor
set_option linter.unusedVariables false
set_option linter.unusedSimpArgs false
set_option linter.unusedSimpArgs false
open Go.RowKit Go.Shelf Go.Maps

set_option maxRecDepth 100000 in
set_option maxHeartbeats 1000000 in
theorem cloneB_any (A : Option Addr) (n c : Nat) (xs : List Value) (h1 : ∀ u ∈ xs, u.oneCell' = true) (hn : n ≤ 1099511627776) (w : World) (hr : Reads w w.heap.size 1 A n xs) :
    Calls Tryz.prog 111 #[.slice A n c] w fun e w' => ∃ v, e = .returned v ∧ w'.ownsRow w.heap.size 5 1 v n xs ∧ Ext w w' := by
  obtain ⟨i0, hi, hz0, hz1, hz2⟩ := info_parts Tryz.infoU8
  have hq := fun (w : World) (a : Option Addr) (n c : Nat) => Lib.run_eql_slice_nil (P := Tryz.prog) w 22 5 a n c 0 0 Tryz.underlying22
  go_enter Tryz.func111, Tryz.ntmps111
  rcases A with _ | ad
  · have h0 : n = 0 := by
      rcases Nat.eq_zero_or_pos n with h0 | h0
      · exact h0
      · obtain ⟨_, e, _⟩ := hr.2 h0; cases e
    subst h0
    have hx : xs = [] := List.eq_nil_of_length_eq_zero (by simpa using hr.1)
    subst hx
    clear hr h1 hn
    go_wp2
    go_ret
    exact ⟨_, rfl, World.ownsRow_nil _ _ _ _, Ext.refl w⟩
  · have HR := Lib.hid (hr.alloc (Nat.le_refl _) (.cells #[] 5))
    have HN := Lib.hid hn
    have HO := Lib.hid h1
    clear hr h1 hn
    go_wp2_with (at_builtin; refine wpList_append_any _ rfl (.tmp 5) (.tmp 6) 22 rfl w.heap.size 5 i0 (.int .u8 0) 1 1 Tryz.underlying22 hi hz0 hz1 hz2 rfl (by decide) _ 0 [] rfl (own_empty w _ _ rfl (Nat.le_refl _) _ _) w.heap.size _ _ _ xs rfl HR.out HO.out (by have := HN.out; simp only [maxLen]; omega) (by have := HN.out; omega) (by simp) ?_; intro v2 w2 hown2 hg2 _)
    go_ret
    rw [Nat.zero_add, List.nil_append] at hown2
    exact ⟨_, rfl, hown2, ext_grown ((Ext.refl w).alloc _) (own_empty w _ _ rfl (Nat.le_refl _) 5 1) hg2⟩
/-- What least tells of bytes that begin with two noughts, and of the two at the end. -/
theorem least_00 (g k n c : Nat) (hn : 2 ≤ n) (w : World) (h0 : w.cell? ⟨g, k, none⟩ = some (.int .u8 0)) (h1 : w.cell? ⟨g, k + 1, none⟩ = some (.int .u8 0)) :
    Calls Tryz.prog 110 #[.slice (some ⟨g, k, none⟩) n c] w fun e w' => e = .returned (.bool false) ∧ w = w' := by
  have e0 : ((n : Int) == 0) = false := by rw [beq_eq_false_iff_ne]; omega
  have e1 : ((n : Int) == 1) = false := by rw [beq_eq_false_iff_ne]; omega
  have hn1 : (1 : Int) < n := by omega
  have hn0 : (0 : Int) < n := by omega
  by_cases h8 : n ≤ 8
  · have h8' : (n : Int) ≤ 8 := by omega
    go_enter Tryz.func110, Tryz.ntmps110
    go_wp2
    go_ret
    exact ⟨rfl, rfl⟩
  · have h8' : ¬ (n : Int) ≤ 8 := by omega
    go_enter Tryz.func110, Tryz.ntmps110
    go_wp2
    go_ret
    exact ⟨rfl, rfl⟩
theorem least_80 (g k c : Nat) (w : World) (h0 : w.cell? ⟨g, k, none⟩ = some (.int .u8 0)) (h1 : w.cell? ⟨g, k + 1, none⟩ = some (.int .u8 128)) :
    Calls Tryz.prog 110 #[.slice (some ⟨g, k, none⟩) 2 c] w fun e w' => e = .returned (.bool true) ∧ w = w' := by
  go_enter Tryz.func110, Tryz.ntmps110
  go_wp2
  go_ret
  exact ⟨rfl, rfl⟩
def derZ (j : Nat) : Array Value := if j = 8 then #[.int .u8 0, .int .u8 0, .int .u8 0, .int .u8 0, .int .u8 0, .int .u8 0, .int .u8 0, .int .u8 128] else #[.int .u8 0, .int .u8 0, .int .u8 0, .int .u8 0, .int .u8 0, .int .u8 0, .int .u8 0, .int .u8 0]
theorem derZ_at {j i : Nat} (hj : j < 8) (hi : i < 8) : (derZ j)[i]? = some (.int .u8 0) := by
  unfold derZ
  rw [if_neg (by omega)]
  have : i = 0 ∨ i = 1 ∨ i = 2 ∨ i = 3 ∨ i = 4 ∨ i = 5 ∨ i = 6 ∨ i = 7 := by omega
  rcases this with rfl | rfl | rfl | rfl | rfl | rfl | rfl | rfl <;> rfl
theorem derZ_step {j : Nat} (hj : j < 8) : (derZ j).setIfInBounds j (.int .u8 (if j = 7 then 128 else 0)) = derZ (j + 1) := by
  have : j = 0 ∨ j = 1 ∨ j = 2 ∨ j = 3 ∨ j = 4 ∨ j = 5 ∨ j = 6 ∨ j = 7 := by omega
  rcases this with rfl | rfl | rfl | rfl | rfl | rfl | rfl | rfl <;> rfl
theorem derZ_blk {W : World} {g j : Nat} {T : TypeId} {u : Value} (h : Blk W g T (derZ j)) (hj : j < 8) (hu : .int .u8 (if j = 7 then 128 else 0) = u) : Blk (W.setCell ⟨g, j, none⟩ u) g T (derZ (j + 1)) := by
  rw [← derZ_step hj, hu]; exact Blk.set_ h j u
set_option maxRecDepth 100000 in
set_option maxHeartbeats 4000000 in
theorem Int128_any (w : World) : Calls Tryz.prog 42 #[.int .i64 128] w fun e w' => ∃ A c, e = .returned (.agg #[.int .i64 2, .slice A 2 c, .slice none 0 0]) ∧ Reads w' w'.heap.size 1 A 2 [.int .u8 0, .int .u8 128] ∧ Ext w w' := by
  obtain ⟨W0, e0, b0, b1, x0⟩ := boxes2 w #[.int .i64 0, .slice none 0 0, .slice none 0 0] #[.int .u8 0, .int .u8 0, .int .u8 0, .int .u8 0, .int .u8 0, .int .u8 0, .int .u8 0, .int .u8 0] 77 198
  have HX0 := Lib.hid x0
  have HB0 := Lib.hid b0
  have HB1 := Lib.hid b1
  clear b0 b1 x0
  go_enter Tryz.func42, Tryz.ntmps42
  go_upto_region 2 with (fail)
  try rw [e0]
  clear e0
  go_wp2
  go_loopg [6] 8 (fun m s6 wr => ∃ j : Nat, j + m = 8 ∧ s6 = .int .i64 j ∧ Blk wr w.heap.size 77 #[.int .i64 0, .slice none 0 0, .slice none 0 0] ∧ Blk wr (w.heap.size + 1) 198 (derZ j) ∧ Ext w wr)
  case atStart => exact ⟨0, rfl, rfl, HB0.out, HB1.out, HX0.out⟩
  case round =>
    obtain ⟨j, hj, rfl, b0, b1, hx⟩ := hrel
    by_cases h : j < 8
    · have c1 := (b1.cell j).trans (derZ_at h h)
      have f1 := b1.frozen j
      have HB0 := Lib.hid b0
      have HB1 := Lib.hid b1
      have HX := Lib.hid hx
      clear b0 b1 hx
      have : j = 0 ∨ j = 1 ∨ j = 2 ∨ j = 3 ∨ j = 4 ∨ j = 5 ∨ j = 6 ∨ j = 7 := by omega
      rcases this with rfl | rfl | rfl | rfl | rfl | rfl | rfl | rfl
      all_goals
        go_wp2
        go_roundg (gk - 1)
        case measure => omega
        case rel => exact ⟨_ + 1, by omega, rfl, HB0.out.far (by simp) _, derZ_blk HB1.out (by decide) rfl, HX.out.setCell (p := ⟨w.heap.size + 1, _, none⟩) (Nat.le_succ _) _⟩
    · obtain rfl : j = 8 := by omega
      have HB0 := Lib.hid b0
      have HB1 := Lib.hid b1
      have HX := Lib.hid hx
      clear b0 b1 hx h
      go_wp2
      go_loopg [5] 6 (fun m s5 wz => ∃ k : Nat, k + m = 6 ∧ s5 = .slice (some ⟨w.heap.size + 1, k, none⟩) (8 - k) (8 - k) ∧ wz = wr)
      case atStart => exact ⟨0, rfl, rfl, rfl⟩
      case round =>
        obtain ⟨k, hk, rfl, rfl⟩ := hrel
        by_cases h : k < 6
        · have hc : ∀ i, i < 7 → wr.cell? ⟨w.heap.size + 1, i, none⟩ = some (.int .u8 0) := fun i hi => by
            rw [HB1.out.cell i]
            have : i = 0 ∨ i = 1 ∨ i = 2 ∨ i = 3 ∨ i = 4 ∨ i = 5 ∨ i = 6 := by omega
            rcases this with rfl | rfl | rfl | rfl | rfl | rfl | rfl <;> rfl
          have cL := least_00 (w.heap.size + 1) k (8 - k) (8 - k) (by omega) wr (hc k (by omega)) (hc (k + 1) (by omega))
          have h8 : ((8 - k : Nat) : Int) > 1 := by omega
          have h8' : (1 : Int) ≤ ((8 - k : Nat) : Int) := by omega
          clear hc
          go_wp2_with (go_at_call 110; refine cL.mono ?_; clear cL; rintro e w' ⟨rfl, rfl⟩)
          go_roundg (gk - 1)
          case measure => omega
          case rel => exact ⟨k + 1, by omega, rfl, rfl⟩
        · obtain rfl : k = 6 := by omega
          have c6 : wr.cell? ⟨w.heap.size + 1, 6, none⟩ = some (.int .u8 0) := HB1.out.cell 6
          have c7 : wr.cell? ⟨w.heap.size + 1, 7, none⟩ = some (.int .u8 128) := HB1.out.cell 7
          have cL := least_80 (w.heap.size + 1) 6 2 wr c6 c7
          have hR : Reads wr wr.heap.size 1 (some ⟨w.heap.size + 1, 6, none⟩) 2 [.int .u8 0, .int .u8 128] :=
            ⟨rfl, fun _ => ⟨_, rfl, HB1.out.lt, fun j u hj => by
              match j, hj with
              | 0, hj => cases hj; exact c6
              | 1, hj => cases hj; exact c7⟩⟩
          have cC := cloneB_any (some ⟨w.heap.size + 1, 6, none⟩) 2 2 _ (by simp [Value.oneCell']) (by decide) wr hR
          clear hR c6 c7 h hk
          go_wp2_with (first | (go_at_call 110; refine cL.mono ?_; clear cL; rintro e w' ⟨rfl, rfl⟩) | (go_at_call 111; refine cC.mono ?_; clear cC; rintro e w2 ⟨v2, rfl, ho2, x2⟩; obtain ⟨A2, c2, rfl, -, hr2⟩ := own_slice ho2; have z0 := ext_blk x2 HB0.out; have y0 := z0.cell 0; have y1 := z0.cell 1; have y2 := z0.cell 2; have f0 := z0.frozen 0; have f1 := z0.frozen 1; have f2 := z0.frozen 2))
          have hlt := HB0.out.lt
          have ho3 := own_far (own_far (own_far ho2 hlt 0 (.int .i64 2)) hlt 1 (.slice A2 2 c2)) hlt 2 (.slice none 0 0)
          obtain ⟨W3, e3⟩ : ∃ W, W = ((w2.setCell ⟨w.heap.size, 0, none⟩ (.int .i64 2)).setCell ⟨w.heap.size, 1, none⟩ (.slice A2 2 c2)).setCell ⟨w.heap.size, 2, none⟩ (.slice none 0 0) := ⟨_, rfl⟩
          have b3 : Blk W3 w.heap.size 77 #[.int .i64 2, .slice A2 2 c2, .slice none 0 0] := by rw [e3]; exact ((z0.set_ 0 _).set_ 1 _).set_ 2 _
          have hx3 : Ext w W3 := by rw [e3]; exact (((HX.out.trans x2).setCell (p := ⟨w.heap.size, 0, none⟩) (Nat.le_refl _) _).setCell (p := ⟨w.heap.size, 1, none⟩) (Nat.le_refl _) _).setCell (p := ⟨w.heap.size, 2, none⟩) (Nat.le_refl _) _
          rw [← e3] at ho3 ⊢
          clear e3 y0 y1 y2 f0 f1 f2 z0 hr2 ho2 x2
          have y0 := b3.cell 0
          have y1 := b3.cell 1
          have y2 := b3.cell 2
          obtain ⟨A3, c3, he3, -, hr3⟩ := own_slice ho3
          cases he3
          refine bodyPost_ret (v := .agg #[.int .i64 2, .slice A2 2 c2, .slice none 0 0]) (by simp [results, Tryz.results42, go_sem, y0, y1, y2]) rfl ⟨A2, c2, rfl, hr3, hx3⟩
end Go.Proofs.YtfpmfegmehbfbaaGreatDoor
