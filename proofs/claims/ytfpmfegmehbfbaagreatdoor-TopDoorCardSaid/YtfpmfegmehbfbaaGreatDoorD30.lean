/- Parts of the proofs, put together: Or32. -/
import Derived.Test.YtfpmfegmehbfbaaGreatDoorD29
/- The door, walked: wants. -/
namespace Go.Proofs.YtfpmfegmehbfbaaGreatDoor
set_option linter.unusedVariables false
set_option linter.unusedSimpArgs false
set_option linter.unusedSimpArgs false
open Go.RowKit Go.Shelf Go.Maps

set_option maxRecDepth 100000 in
set_option maxHeartbeats 32000000 in
theorem wants_any (b : Nat) (d : DoorX) (now : Int) (q : QueR) (A : Option Addr) (c : Nat) (w : World) (hw : DoorW w w.heap.size d) (hL : DoorL (fun k => k ≠ b) d) (h : DoorB w b d now) (hq : QueW w w.heap.size q A c) (hQ : Lies (fun k => k ≠ b) A q.names.length)
    (hacc : 0 ≤ q.acc ∧ q.acc < 100) (hlen : d.auts.length + q.names.length < 99) (hol : d.ords.length < 100) :
    Calls Tryz.prog 98 #[.pointer (some ⟨b, 0, none⟩), queV q A c] w (methPost b d now (wantF d.fro q now) w) := by
  unfold queV
  obtain ⟨W0, e0, bp, bq, x0, s0⟩ := startP w #[.pointer (some ⟨b, 0, none⟩)] #[.int .i64 q.kind, .int .i64 q.acc, .int .i64 q.nonce, .int .u64 (q.key : Int), .slice A q.names.length c, .int .i64 q.life, .int .i64 q.id, .int .u64 (q.e : Int), .int .u64 (q.s : Int)] 178 98
  have hbw : b < w.heap.size := Blk.lt h
  have HW := Lib.hid hw
  have HL := Lib.hid hL
  have HD := Lib.hid h
  have HQ := Lib.hid hq
  have HQL := Lib.hid hQ
  have HBP := Lib.hid bp
  have HBQ := Lib.hid bq
  have HX := Lib.hid x0
  have HS0 := Lib.hid s0
  have HBW := Lib.hid hbw
  have HLEN := Lib.hid hlen
  have HOL := Lib.hid hol
  have HACC := Lib.hid hacc
  have cN : ∀ W, Ext W0 W → Calls Tryz.prog 104 #[.slice A q.names.length c] W fun e w' => ∃ nA nc, e = .returned (.slice nA q.names.length nc) ∧ w'.ownsRow W0.heap.size 9 1 (.slice nA q.names.length nc) q.names.length (tv q.names) ∧ Ext W w' := fun W x =>
    (cloneT_any A q.names.length c (tv q.names) (tv_one _) hq.nl W (hq.ext (x0.trans x)).names).mono fun e w' ⟨v, h1, h2, h3⟩ => by
      obtain ⟨nA, nc, rfl, hc, hr⟩ := own_slice h2
      exact ⟨nA, nc, h1, own_base h2 x.size, h3⟩
  have HC : Hid (∀ W, Ext W0 W → (W.cell? ⟨w.heap.size, 0, none⟩ = some (.pointer (some ⟨b, 0, none⟩)) ∧ W.cell? ⟨b, 4, none⟩ = some (.slice d.rA d.ords.length d.rc) ∧ W.cell? ⟨w.heap.size + 1, 1, none⟩ = some (.int .i64 q.acc) ∧ W.cell? ⟨w.heap.size + 1, 4, none⟩ = some (.slice A q.names.length c) ∧ W.cell? ⟨w.heap.size + 1, 3, none⟩ = some (.int .u64 (q.key : Int)) ∧ W.cell? ⟨w.heap.size + 1, 5, none⟩ = some (.int .i64 q.life))) := Lib.hid fun W x =>
    ⟨(ext_blk x bp).cell 0, (DoorB.ext h (x0.trans x)).cell 4, (ext_blk x bq).cell 1, (ext_blk x bq).cell 4, (ext_blk x bq).cell 3, (ext_blk x bq).cell 5⟩
  have hob : (d.ords.length : Int) ≤ 100 := by omega
  clear hw hL h hq hQ bp bq x0 s0 hbw hlen hol hacc
  go_enter Tryz.func98, Tryz.ntmps98
  go_upto_region 1 with (fail)
  try rw [e0]
  clear e0
  go_cut [6] (fun s6 wx => ∃ g6 nA nc, s6 = .pointer (some ⟨g6, 0, none⟩) ∧ Blk wx g6 109 #[.int .i64 ((d.ords.length : Int) + 1), .int .i64 q.acc, .slice nA q.names.length nc, .int .u64 (q.key : Int), .int .i64 q.life, .slice none 0 0, .int .i64 1, .int .i64 0] ∧ wx.ownsRow W0.heap.size 9 1 (.slice nA q.names.length nc) q.names.length (tv q.names) ∧ W0.heap.size ≤ g6 ∧ Ext W0 wx)
  case first =>
    have hsum : IntKind.i64.wrap ((d.ords.length : Int) + 1) = (d.ords.length : Int) + 1 := by rw [IntKind.wrap_i64]; omega
    obtain ⟨c0, c1, c2, c3, c4, c5⟩ := HC.out W0 (Ext.refl W0)
    refine E_start (n := 19) (ls := #[false, false, false, false, false, false, false, false, false, false, false, false, false, false, false, false, false, false, false]) (fun w' => w'.cell? ⟨w.heap.size, 0, none⟩ = some (.pointer (some ⟨b, 0, none⟩)) ∧ w'.cell? ⟨b, 4, none⟩ = some (.slice d.rA d.ords.length d.rc) ∧ w'.cell? ⟨w.heap.size + 1, 1, none⟩ = some (.int .i64 q.acc) ∧ w'.cell? ⟨w.heap.size + 1, 4, none⟩ = some (.slice A q.names.length c) ∧ w'.cell? ⟨w.heap.size + 1, 3, none⟩ = some (.int .u64 (q.key : Int)) ∧ w'.cell? ⟨w.heap.size + 1, 5, none⟩ = some (.int .i64 q.life)) 18 (by kernel_rfl) (by kernel_rfl) (by kernel_rfl) (HC.out _ (Ext.refl W0).drew) (fun hHeld => ?_)
    refine E_take (i := 0) (some 10) (ls' := #[true, false, false, false, false, false, false, false, false, false, false, false, false, false, false, false, false, false, false]) rfl rfl (by kernel_rfl) (by kernel_rfl) (by kernel_rfl) (by kernel_rfl) (by kernel_rfl) (by rfl) (v := ?_) ?_ hHeld ?_
    rotate_left 1
    · intro w hSw; (try dsimp only at hSw); go_simp; try with_reducible rfl
    try simp only [Act.put, List.setIfInBounds_toArray, List.set_cons_zero, List.set_cons_succ]
    refine E_take (i := 1) (some 11) (ls' := #[true, true, false, false, false, false, false, false, false, false, false, false, false, false, false, false, false, false, false]) rfl rfl (by kernel_rfl) (by kernel_rfl) (by kernel_rfl) (by kernel_rfl) (by kernel_rfl) (by rfl) (v := ?_) ?_ hHeld ?_
    rotate_left 1
    · intro w hSw; (try dsimp only at hSw); go_simp; try with_reducible rfl
    try simp only [Act.put, List.setIfInBounds_toArray, List.set_cons_zero, List.set_cons_succ]
    refine E_take (i := 2) (some 12) (ls' := #[true, true, true, false, false, false, false, false, false, false, false, false, false, false, false, false, false, false, false]) rfl rfl (by kernel_rfl) (by kernel_rfl) (by kernel_rfl) (by kernel_rfl) (by kernel_rfl) (by rfl) (v := ?_) ?_ hHeld ?_
    rotate_left 1
    · intro w hSw; (try dsimp only at hSw); go_simp; try with_reducible rfl
    try simp only [Act.put, List.setIfInBounds_toArray, List.set_cons_zero, List.set_cons_succ]
    refine E_take (i := 3) (some 13) (ls' := #[true, true, true, true, false, false, false, false, false, false, false, false, false, false, false, false, false, false, false]) rfl rfl (by kernel_rfl) (by kernel_rfl) (by kernel_rfl) (by kernel_rfl) (by kernel_rfl) (by rfl) (v := ?_) ?_ hHeld ?_
    rotate_left 1
    · intro w hSw; (try dsimp only at hSw); go_simp; try with_reducible rfl
    try simp only [Act.put, List.setIfInBounds_toArray, List.set_cons_zero, List.set_cons_succ]
    refine E_take (i := 4) (some 14) (ls' := #[true, true, true, true, true, false, false, false, false, false, false, false, false, false, false, false, false, false, false]) rfl rfl (by kernel_rfl) (by kernel_rfl) (by kernel_rfl) (by kernel_rfl) (by kernel_rfl) (by rfl) (v := ?_) ?_ hHeld ?_
    rotate_left 1
    · intro w hSw; (try dsimp only at hSw); go_simp; try with_reducible rfl
    try simp only [Act.put, List.setIfInBounds_toArray, List.set_cons_zero, List.set_cons_succ]
    refine E_take (i := 5) (some 15) (ls' := #[true, true, true, true, true, true, false, false, false, false, false, false, false, false, false, false, false, false, false]) rfl rfl (by kernel_rfl) (by kernel_rfl) (by kernel_rfl) (by kernel_rfl) (by kernel_rfl) (by rfl) (v := ?_) ?_ hHeld ?_
    rotate_left 1
    · intro w hSw; (try dsimp only at hSw); go_simp; try with_reducible rfl
    try simp only [Act.put, List.setIfInBounds_toArray, List.set_cons_zero, List.set_cons_succ]
    refine E_take (i := 6) (some 16) (ls' := #[true, true, true, true, true, true, true, false, false, false, false, false, false, false, false, false, false, false, false]) rfl rfl (by kernel_rfl) (by kernel_rfl) (by kernel_rfl) (by kernel_rfl) (by kernel_rfl) (by rfl) (v := ?_) ?_ hHeld ?_
    rotate_left 1
    · intro w hSw; (try dsimp only at hSw); go_simp; try with_reducible rfl
    try simp only [Act.put, List.setIfInBounds_toArray, List.set_cons_zero, List.set_cons_succ]
    refine E_take (i := 7) (some 17) (ls' := #[true, true, true, true, true, true, true, true, false, false, false, false, false, false, false, false, false, false, false]) rfl rfl (by kernel_rfl) (by kernel_rfl) (by kernel_rfl) (by kernel_rfl) (by kernel_rfl) (by rfl) (v := ?_) ?_ hHeld ?_
    rotate_left 1
    · intro w hSw; (try dsimp only at hSw); go_simp; try with_reducible rfl
    try simp only [Act.put, List.setIfInBounds_toArray, List.set_cons_zero, List.set_cons_succ]
    refine E_take (i := 8) (some 18) (ls' := #[true, true, true, true, true, true, true, true, true, false, false, false, false, false, false, false, false, false, false]) rfl rfl (by kernel_rfl) (by kernel_rfl) (by kernel_rfl) (by kernel_rfl) (by kernel_rfl) (by rfl) (v := ?_) ?_ hHeld ?_
    rotate_left 1
    · intro w hSw; (try dsimp only at hSw); go_simp; try with_reducible rfl
    try simp only [Act.put, List.setIfInBounds_toArray, List.set_cons_zero, List.set_cons_succ]
    refine E_take (i := 9) (some 19) (ls' := #[true, true, true, true, true, true, true, true, true, true, false, false, false, false, false, false, false, false, false]) rfl rfl (by kernel_rfl) (by kernel_rfl) (by kernel_rfl) (by kernel_rfl) (by kernel_rfl) (by rfl) (v := ?_) ?_ hHeld ?_
    rotate_left 1
    · intro w hSw; (try dsimp only at hSw); go_simp; try with_reducible rfl
    try simp only [Act.put, List.setIfInBounds_toArray, List.set_cons_zero, List.set_cons_succ]
    refine E_take (i := 10) (some 20) (ls' := #[true, true, true, true, true, true, true, true, true, true, true, false, false, false, false, false, false, false, false]) rfl rfl (by kernel_rfl) (by kernel_rfl) (by kernel_rfl) (by kernel_rfl) (by kernel_rfl) (by rfl) (v := ?_) ?_ hHeld ?_
    rotate_left 1
    · intro w hSw; (try dsimp only at hSw); go_simp; try with_reducible rfl
    try simp only [Act.put, List.setIfInBounds_toArray, List.set_cons_zero, List.set_cons_succ]
    refine E_take (i := 12) (some 22) (ls' := #[true, true, true, true, true, true, true, true, true, true, true, false, true, false, false, false, false, false, false]) rfl rfl (by kernel_rfl) (by kernel_rfl) (by kernel_rfl) (by kernel_rfl) (by kernel_rfl) (by rfl) (v := ?_) ?_ hHeld ?_
    rotate_left 1
    · intro w hSw; (try dsimp only at hSw); go_simp; try with_reducible rfl
    try simp only [Act.put, List.setIfInBounds_toArray, List.set_cons_zero, List.set_cons_succ]
    refine E_take (i := 13) (some 23) (ls' := #[true, true, true, true, true, true, true, true, true, true, true, false, true, true, false, false, false, false, false]) rfl rfl (by kernel_rfl) (by kernel_rfl) (by kernel_rfl) (by kernel_rfl) (by kernel_rfl) (by rfl) (v := ?_) ?_ hHeld ?_
    rotate_left 1
    · intro w hSw; (try dsimp only at hSw); go_simp; try with_reducible rfl
    try simp only [Act.put, List.setIfInBounds_toArray, List.set_cons_zero, List.set_cons_succ]
    refine E_take (i := 14) (some 24) (ls' := #[true, true, true, true, true, true, true, true, true, true, true, false, true, true, true, false, false, false, false]) rfl rfl (by kernel_rfl) (by kernel_rfl) (by kernel_rfl) (by kernel_rfl) (by kernel_rfl) (by rfl) (v := ?_) ?_ hHeld ?_
    rotate_left 1
    · intro w hSw; (try dsimp only at hSw); go_simp; try with_reducible rfl
    try simp only [Act.put, List.setIfInBounds_toArray, List.set_cons_zero, List.set_cons_succ]
    refine E_take (i := 15) (some 25) (ls' := #[true, true, true, true, true, true, true, true, true, true, true, false, true, true, true, true, false, false, false]) rfl rfl (by kernel_rfl) (by kernel_rfl) (by kernel_rfl) (by kernel_rfl) (by kernel_rfl) (by rfl) (v := ?_) ?_ hHeld ?_
    rotate_left 1
    · intro w hSw; (try dsimp only at hSw); go_simp; try with_reducible rfl
    try simp only [Act.put, List.setIfInBounds_toArray, List.set_cons_zero, List.set_cons_succ]
    refine E_two (i := 11) (k := 17) (ls1 := #[true, true, true, true, true, true, true, true, true, true, true, true, true, true, true, true, false, false, false]) (ls2 := #[true, true, true, true, true, true, true, true, true, true, true, false, true, true, true, true, false, true, false]) rfl rfl (by kernel_rfl) (by kernel_rfl) (by kernel_rfl) (by rfl) (by rfl) (fun K hK => ?_) (fun K hK => ?_)
    · go_simp
      go_at_call 104
      refine (cN _ (Ext.refl W0).drew).mono ?_
      clear cN
      rintro e w2 ⟨nA, nc, rfl, ho2, x2⟩
      have X2 : Ext W0 w2 := (Ext.refl W0).drew.trans x2
      have HO2 := Lib.hid ho2
      clear ho2 x2
      have hHeld2 := HC.out _ X2
      clear hHeld
      have hHeld := hHeld2
      clear hHeld2
      refine hK _ _ (fun _ => hHeld) ?_
      clear hK K
      try simp only [Act.put, List.setIfInBounds_toArray, List.set_cons_zero, List.set_cons_succ]
      refine E_take (i := 16) (some 26) (ls' := #[true, true, true, true, true, true, true, true, true, true, true, true, true, true, true, true, true, false, false]) rfl rfl (by kernel_rfl) (by kernel_rfl) (by kernel_rfl) (by kernel_rfl) (by kernel_rfl) (by rfl) (v := ?_) ?_ hHeld ?_
      rotate_left 1
      · intro w hSw; (try dsimp only at hSw); go_simp; try with_reducible rfl
      try simp only [Act.put, List.setIfInBounds_toArray, List.set_cons_zero, List.set_cons_succ]
      refine E_one (i := 17) (ls' := #[true, true, true, true, true, true, true, true, true, true, true, true, true, true, true, true, true, true, false]) rfl (by kernel_rfl) (by kernel_rfl) (by rfl) (fun K hK => ?_)
      go_simp
      have hHeld2 := HC.out _ (X2.alloc (.cells #[.int .i64 0, .int .i64 0, .slice none 0 0, .int .u64 0, .int .i64 0, .slice none 0 0, .int .i64 0, .int .i64 0] 109))
      clear hHeld
      have hHeld := hHeld2
      clear hHeld2
      refine hK _ _ (fun _ => hHeld) ?_
      clear hK K
      try simp only [Act.put, List.setIfInBounds_toArray, List.set_cons_zero, List.set_cons_succ]
      refine E_one (i := 18) (ls' := #[true, true, true, true, true, true, true, true, true, true, true, true, true, true, true, true, true, true, true]) rfl (by kernel_rfl) (by kernel_rfl) (by rfl) (fun K hK => ?_)
      clear hHeld
      go_simp
      refine hK _ _ (fun h => absurd rfl h) ?_
      clear hK K
      try simp only [Act.put, List.setIfInBounds_toArray, List.set_cons_zero, List.set_cons_succ]
      refine E_done (by kernel_rfl) ?_
      go_wp2
      go_meet
      exact ⟨w2.heap.size, nA, nc, rfl, Blk.new _ _ _, HO2.out.alloc _, X2.size, X2.alloc _⟩
    · go_simp
      have hHeld2 := HC.out _ (((Ext.refl W0).alloc (.cells #[.int .i64 0, .int .i64 0, .slice none 0 0, .int .u64 0, .int .i64 0, .slice none 0 0, .int .i64 0, .int .i64 0] 109)).drew)
      clear hHeld
      have hHeld := hHeld2
      clear hHeld2
      refine hK _ _ (fun _ => hHeld) ?_
      clear hK K
      try simp only [Act.put, List.setIfInBounds_toArray, List.set_cons_zero, List.set_cons_succ]
      refine E_one (i := 11) (ls' := #[true, true, true, true, true, true, true, true, true, true, true, true, true, true, true, true, false, true, false]) rfl (by kernel_rfl) (by kernel_rfl) (by rfl) (fun K hK => ?_)
      go_simp
      go_at_call 104
      refine (cN _ (((Ext.refl W0).alloc _).drew)).mono ?_
      clear cN
      rintro e w2 ⟨nA, nc, rfl, ho2, x2⟩
      have X2 : Ext W0 w2 := (((Ext.refl W0).alloc _).drew).trans x2
      have hz := ext_blk x2 (Blk.drew (Blk.new W0 109 #[.int .i64 0, .int .i64 0, .slice none 0 0, .int .u64 0, .int .i64 0, .slice none 0 0, .int .i64 0, .int .i64 0]))
      have HO2 := Lib.hid ho2
      clear ho2 x2
      have hHeld2 := HC.out _ X2
      clear hHeld
      have hHeld := hHeld2
      clear hHeld2
      refine hK _ _ (fun _ => hHeld) ?_
      clear hK K
      try simp only [Act.put, List.setIfInBounds_toArray, List.set_cons_zero, List.set_cons_succ]
      refine E_take (i := 16) (some 26) (ls' := #[true, true, true, true, true, true, true, true, true, true, true, true, true, true, true, true, true, true, false]) rfl rfl (by kernel_rfl) (by kernel_rfl) (by kernel_rfl) (by kernel_rfl) (by kernel_rfl) (by rfl) (v := ?_) ?_ hHeld ?_
      rotate_left 1
      · intro w hSw; (try dsimp only at hSw); go_simp; try with_reducible rfl
      try simp only [Act.put, List.setIfInBounds_toArray, List.set_cons_zero, List.set_cons_succ]
      refine E_one (i := 18) (ls' := #[true, true, true, true, true, true, true, true, true, true, true, true, true, true, true, true, true, true, true]) rfl (by kernel_rfl) (by kernel_rfl) (by rfl) (fun K hK => ?_)
      clear hHeld
      obtain ⟨z0, z1, z2, z3, z4, z5, z6, z7⟩ := arr8 hz
      have f0 := hz.frozen 0
      have f1 := hz.frozen 1
      have f2 := hz.frozen 2
      have f3 := hz.frozen 3
      have f4 := hz.frozen 4
      have f5 := hz.frozen 5
      have f6 := hz.frozen 6
      have f7 := hz.frozen 7
      have HZ := Lib.hid hz
      clear hz
      go_simp
      refine hK _ _ (fun h => absurd rfl h) ?_
      clear hK K
      try simp only [Act.put, List.setIfInBounds_toArray, List.set_cons_zero, List.set_cons_succ]
      refine E_done (by kernel_rfl) ?_
      go_wp2
      go_meet
      exact ⟨W0.heap.size, nA, nc, rfl, set8_blk HZ.out _ _ _ _ _ _ _ _, set8_own HO2.out HZ.out (by decide) _ _ _ _ _ _ _ _, Nat.le_refl _, set8_ext X2 (Nat.le_refl _) _ _ _ _ _ _ _ _⟩
  case rest =>
    obtain ⟨g6, nA, nc, rfl, ho6, hn6, hg6, hx6⟩ := hcut
    obtain ⟨W1, hW1⟩ : ∃ W, W = wc := ⟨_, rfl⟩
    rw [← hW1] at ho6 hn6 hx6 ⊢
    clear hW1 cN
    have X1 := HX.out.trans hx6
    have hs1 : w.heap.size + 2 ≤ W1.heap.size := by have := hx6.size; have := HS0.out; omega
    have h61 : g6 < W1.heap.size := Blk.lt ho6
    have cU : ∀ W, Ext W1 W → Calls Tryz.prog 187 #[.slice d.uA d.auts.length d.uc] W fun e w' => ∃ uA uc, e = .returned (.slice uA d.auts.length uc) ∧ w'.ownsRow W1.heap.size 192 7 (.slice uA d.auts.length uc) d.auts.length (autV d.auts) ∧ Ext W w' := fun W x =>
      (cloneU_any d.uA d.auts.length d.uc (autV d.auts) (autV_one _) HW.out.ul W ((HW.out.aut.below (X1.trans x).out).more (X1.trans x).size)).mono fun e w' ⟨v, h1, h2, h3⟩ => by
        obtain ⟨uA, uc, rfl, hc, hr⟩ := own_slice2 h2
        exact ⟨uA, uc, h1, own_base h2 x.size, h3⟩
    have HBP1 := Lib.hid (ext_blk hx6 HBP.out)
    have HBQ1 := Lib.hid (ext_blk hx6 HBQ.out)
    have HD1 := Lib.hid (DoorB.ext HD.out X1)
    have HO1 := Lib.hid ho6
    have HN1 := Lib.hid hn6
    have HG6 := Lib.hid hg6
    have HX1 := Lib.hid X1
    have HS1 := Lib.hid hs1
    have H61 := Lib.hid h61
    have HC2 : Hid (∀ W, Ext W1 W → (W.cell? ⟨w.heap.size, 0, none⟩ = some (.pointer (some ⟨b, 0, none⟩)) ∧ W.cell? ⟨b, 3, none⟩ = some (.slice d.uA d.auts.length d.uc))) := Lib.hid fun W x => ⟨(ext_blk x HBP1.out).cell 0, (DoorB.ext HD1.out x).cell 3⟩
    clear ho6 hn6 hg6 hx6 X1 hs1 h61 HC
    go_upto_region 2 with (fail)
    refine E_start (n := 11) (ls := #[false, false, false, false, false, false, false, false, false, false, false]) (fun w' => w'.cell? ⟨w.heap.size, 0, none⟩ = some (.pointer (some ⟨b, 0, none⟩)) ∧ w'.cell? ⟨b, 3, none⟩ = some (.slice d.uA d.auts.length d.uc)) 10 (by kernel_rfl) (by kernel_rfl) (by kernel_rfl) (HC2.out _ (Ext.refl W1).drew) (fun hHeld => ?_)
    refine E_take (i := 0) (some 27) (ls' := #[true, false, false, false, false, false, false, false, false, false, false]) rfl rfl (by kernel_rfl) (by kernel_rfl) (by kernel_rfl) (by kernel_rfl) (by kernel_rfl) (by rfl) (v := ?_) ?_ hHeld ?_
    rotate_left 1
    · intro w hSw; (try dsimp only at hSw); go_simp; try with_reducible rfl
    try simp only [Act.put, List.setIfInBounds_toArray, List.set_cons_zero, List.set_cons_succ]
    refine E_take (i := 1) (some 28) (ls' := #[true, true, false, false, false, false, false, false, false, false, false]) rfl rfl (by kernel_rfl) (by kernel_rfl) (by kernel_rfl) (by kernel_rfl) (by kernel_rfl) (by rfl) (v := ?_) ?_ hHeld ?_
    rotate_left 1
    · intro w hSw; (try dsimp only at hSw); go_simp; try with_reducible rfl
    try simp only [Act.put, List.setIfInBounds_toArray, List.set_cons_zero, List.set_cons_succ]
    refine E_take (i := 2) (some 29) (ls' := #[true, true, true, false, false, false, false, false, false, false, false]) rfl rfl (by kernel_rfl) (by kernel_rfl) (by kernel_rfl) (by kernel_rfl) (by kernel_rfl) (by rfl) (v := ?_) ?_ hHeld ?_
    rotate_left 1
    · intro w hSw; (try dsimp only at hSw); go_simp; try with_reducible rfl
    try simp only [Act.put, List.setIfInBounds_toArray, List.set_cons_zero, List.set_cons_succ]
    refine E_take (i := 3) (some 30) (ls' := #[true, true, true, true, false, false, false, false, false, false, false]) rfl rfl (by kernel_rfl) (by kernel_rfl) (by kernel_rfl) (by kernel_rfl) (by kernel_rfl) (by rfl) (v := ?_) ?_ hHeld ?_
    rotate_left 1
    · intro w hSw; (try dsimp only at hSw); go_simp; try with_reducible rfl
    try simp only [Act.put, List.setIfInBounds_toArray, List.set_cons_zero, List.set_cons_succ]
    refine E_take (i := 4) (some 31) (ls' := #[true, true, true, true, true, false, false, false, false, false, false]) rfl rfl (by kernel_rfl) (by kernel_rfl) (by kernel_rfl) (by kernel_rfl) (by kernel_rfl) (by rfl) (v := ?_) ?_ hHeld ?_
    rotate_left 1
    · intro w hSw; (try dsimp only at hSw); go_simp; try with_reducible rfl
    try simp only [Act.put, List.setIfInBounds_toArray, List.set_cons_zero, List.set_cons_succ]
    refine E_take (i := 5) (some 32) (ls' := #[true, true, true, true, true, true, false, false, false, false, false]) rfl rfl (by kernel_rfl) (by kernel_rfl) (by kernel_rfl) (by kernel_rfl) (by kernel_rfl) (by rfl) (v := ?_) ?_ hHeld ?_
    rotate_left 1
    · intro w hSw; (try dsimp only at hSw); go_simp; try with_reducible rfl
    try simp only [Act.put, List.setIfInBounds_toArray, List.set_cons_zero, List.set_cons_succ]
    refine E_one (i := 6) (ls' := #[true, true, true, true, true, true, true, false, false, false, false]) rfl (by kernel_rfl) (by kernel_rfl) (by rfl) (fun K hK => ?_)
    go_simp
    go_at_call 187
    refine (cU _ (Ext.refl W1).drew).mono ?_
    clear cU
    rintro e w2 ⟨uA, uc, rfl, ho2, x2⟩
    have X2 : Ext W1 w2 := (Ext.refl W1).drew.trans x2
    have HO2 := Lib.hid ho2
    have HX2 := Lib.hid X2
    clear ho2 x2
    have hHeld2 := HC2.out _ X2
    clear hHeld
    have hHeld := hHeld2
    clear hHeld2
    refine hK _ _ (fun _ => hHeld) ?_
    clear hK K
    try simp only [Act.put, List.setIfInBounds_toArray, List.set_cons_zero, List.set_cons_succ]
    refine E_one (i := 7) (ls' := #[true, true, true, true, true, true, true, true, false, false, false]) rfl (by kernel_rfl) (by kernel_rfl) (by rfl) (fun K hK => ?_)
    go_simp
    refine hK _ _ (fun _ => hHeld) ?_
    clear hK K
    try simp only [Act.put, List.setIfInBounds_toArray, List.set_cons_zero, List.set_cons_succ]
    refine E_one (i := 8) (ls' := #[true, true, true, true, true, true, true, true, true, false, false]) rfl (by kernel_rfl) (by kernel_rfl) (by rfl) (fun K hK => ?_)
    go_simp
    refine hK _ _ (fun _ => hHeld) ?_
    clear hK K
    try simp only [Act.put, List.setIfInBounds_toArray, List.set_cons_zero, List.set_cons_succ]
    refine E_one (i := 9) (ls' := #[true, true, true, true, true, true, true, true, true, true, false]) rfl (by kernel_rfl) (by kernel_rfl) (by rfl) (fun K hK => ?_)
    go_simp
    refine hK _ _ (fun _ => hHeld) ?_
    clear hK K
    try simp only [Act.put, List.setIfInBounds_toArray, List.set_cons_zero, List.set_cons_succ]
    refine E_one (i := 10) (ls' := #[true, true, true, true, true, true, true, true, true, true, true]) rfl (by kernel_rfl) (by kernel_rfl) (by rfl) (fun K hK => ?_)
    have f3 := (DoorB.ext HD1.out X2).frozen 3
    go_simp
    refine hK _ _ (fun h => absurd rfl h) ?_
    clear hK K
    try simp only [Act.put, List.setIfInBounds_toArray, List.set_cons_zero, List.set_cons_succ]
    refine E_done (by kernel_rfl) ?_
    clear hHeld f3
    obtain ⟨W2, hW2⟩ : ∃ W, W = w2.setCell ⟨b, 3, none⟩ (.slice uA d.auts.length uc) := ⟨_, rfl⟩
    have HST : Hid (wantSt W1 b g6 d now q nA nc 0 W2) := Lib.hid (by
      have hs1 := HS1.out
      have hgx := HG6.out
      have hs0 := HS0.out
      have hbw := HBW.out
      rw [hW2]
      refine ⟨d.auts, [], uA, uc, none, 0, rfl, ⟨((But.refl b g6 W1).ext HX2.out).set (.inl rfl) _, (DoorB.ext HD1.out HX2.out).set_ 3 _, own_far HO2.out (by omega) 3 _, Blk.far (ext_blk HX2.out HO1.out) (show g6 ≠ b by omega) _, ⟨rfl, .inl ⟨rfl, rfl⟩⟩⟩, by omega, HW.out.uw, by simp, rfl⟩)
    rw [← hW2]
    clear hW2 HO2 HX2 X2
    have hbW := HBW.out
    have q4 : W2.cell? ⟨w.heap.size + 1, 4, none⟩ = some (.slice A q.names.length c) := by
      obtain ⟨L, ns, uA, uc, aA, ac, -, hb, -⟩ := HST.out
      exact (hb.but.blk HBQ1.out (by have := HBW.out; omega) (by have := HG6.out; have := HS0.out; omega)).cell 4
    clear hbW
    go_wp2
    clear q4
    go_loopg [40] q.names.length (fun g s40 wr => ∃ j : Nat, j + g = q.names.length ∧ s40 = .int .i64 j ∧ wantSt W1 b g6 d now q nA nc j wr)
    case atStart => exact ⟨0, by omega, rfl, HST.out⟩
    case round =>
      obtain ⟨j, hj, rfl, L, ns, uA2, uc2, aA, ac, hfo, hbu, hLl, hLw, hns, hnl⟩ := hrel
      have hjb : (j : Int) ≤ 1099511627776 := by have := HQ.out.nl; omega
      have hgx := HG6.out
      have hs0 := HS0.out
      have hs1 := HS1.out
      have hbw := HBW.out
      have h61 := H61.out
      have hgw : w.grownBy wr (some b) := hbu.but.from HX1.out (by omega)
      have bq3 := hbu.but.blk HBQ1.out (by omega) (by omega)
      have bp3 := hbu.but.blk HBP1.out (by omega) (by omega)
      have hLn : L.length < 99 := by have := HLEN.out; omega
      have HJ := Lib.hid hj
      have HFO := Lib.hid hfo
      have HST3 := Lib.hid hbu
      have HLL := Lib.hid hLl
      have HLW := Lib.hid hLw
      have HNS := Lib.hid hns
      have HNL := Lib.hid hnl
      have HLN := Lib.hid hLn
      have HGW := Lib.hid hgw
      have HB3 := Lib.hid bq3
      have HP3 := Lib.hid bp3
      have HBS : Hid (b < W1.heap.size) := Lib.hid (by omega)
      have HBG : Hid (b ≠ g6) := Lib.hid (by omega)
      have hso : Hid (w.heap.size + 2 ≤ wr.heap.size) := Lib.hid (by have := hbu.but.size; omega)
      by_cases hjl : j < q.names.length
      · obtain ⟨s, hs⟩ : ∃ s, q.names[j]? = some s := ⟨_, List.getElem?_eq_getElem hjl⟩
        have hN := HQ.out.names.stay HQL.out hgw.size (fun k hk hb => hgw.block k hb (by simpa using hk))
        obtain ⟨ad, hA, p1⟩ := reads_text hN hs
        subst hA
        have HSN : Hid (s.size ≤ 140737488355328) := Lib.hid (HQ.out.ns s (List.mem_of_getElem? hs))
        have HHS := Lib.hid (tk_snoc hs)
        clear hs hN hj hfo hLl hLw hns hnl hgx hs0 hs1 hbw h61 hgw bq3 bp3 hLn
        go_upto_region 6 with (fail)
        obtain ⟨W3, e3⟩ : ∃ W, wr.alloc (.cells #[.string s] 9) = W := ⟨_, rfl⟩
        try rw [e3]
        have X3 : Ext wr W3 := by rw [← e3]; exact (Ext.refl wr).alloc _
        have BS : Blk W3 wr.heap.size 9 #[.string s] := by rw [← e3]; exact Blk.new _ _ _
        clear e3 p1
        have c1 := indexU_any _ wants1_enters #[.pointer (some ⟨w.heap.size + 1, 0, none⟩), .pointer (some ⟨wr.heap.size, 0, none⟩), .pointer (some ⟨w.heap.size, 0, none⟩)] (sameA q.acc now s) L (by have := HLN.out; omega) uA2 uc2 W3 (Reads.of_own (own_ext hbu.own X3))
          (fun W x hx xx => wants1_any x q.acc now s (w.heap.size + 1) wr.heap.size w.heap.size b W ((ext_blk (X3.trans xx) HB3.out).cell 1) ((ext_blk xx BS).cell 0) ((ext_blk (X3.trans xx) HP3.out).cell 0) ((DoorB.ext hbu.door (X3.trans xx)).cell 6))
        have a0 := (ext_blk X3 HP3.out).cell 0
        have a3 : W3.cell? ⟨b, 3, none⟩ = some (.slice uA2 L.length uc2) := (DoorB.ext hbu.door X3).cell 3
        have HX3 := Lib.hid X3
        have HBS3 := Lib.hid BS
        clear X3 BS hbu
        go_upto_region 7 with (go_at_call 188; refine c1.mono ?_; clear c1 a0 a3; rintro e w5 ⟨rfl, x5⟩)
        have HT5 := Lib.hid (HST3.out.ext (HX3.out.trans x5))
        have HX5 := Lib.hid (HX3.out.trans x5)
        have HBS5 := Lib.hid (ext_blk x5 HBS3.out)
        clear x5
        obtain ⟨i0, hi, hz0, hz1, hz2⟩ := info_parts Tryz.infoInt
        cases hf : findA L q.acc s now with
        | some i =>
          have hil : i < L.length := (List.findIdx?_eq_some_iff_getElem.1 hf).1
          have hix : ixG (sameA q.acc now s) L = (i : Int) := by unfold ixG; rw [show L.findIdx? (sameA q.acc now s) = some i from hf]
          rw [hix]
          have hib : (i : Int) < 99 := by have := HLN.out; omega
          have f5 := HT5.out.ord.cell 5
          have HF := Lib.hid (wantA_some (ns := ns) hf)
          have HIL := Lib.hid hil
          clear hix hil hf
          go_wp2_with (at_builtin; refine wpList_append_own _ rfl (.tmp 82) (.tmp 85) 27 rfl W1.heap.size 3 i0 (.int .i64 0) 1 8 Tryz.underlying27 hi hz0 hz1 hz2 rfl (by decide) _ _ _ rfl (HT5.out.num.alloc _) ⟨w5.heap.size, 0, none⟩ 1 1 [.int .i64 ((i : Int) + 1)] rfl rfl (cell_one_new _ _ _) (by simp [Value.oneCell']) (by have := HNL.out; simp only [maxLen]; omega) (by have := HNL.out; omega) (by have := HT5.out.but.size; simp; omega) ?_; intro v6 w6 hown6 hg6 _; obtain ⟨b6, A6, c6, rfl, ht6⟩ := (HT5.out.ext ((Ext.refl _).alloc _)).addN HBS.out H61.out HBG.out ((i : Int) + 1) hown6 hg6; have f5 := b6.cell 5; have f6 := b6.frozen 5; have HT6 := Lib.hid ht6; clear b6 hown6 hg6 ht6)
          have hlen6 : (ns ++ [((i : Int) + 1)]).length = ns.length + 1 := by simp
          have hj := HJ.out
          have hll := HLL.out
          have hnl := HNL.out
          go_roundg (gk - 1)
          case measure => omega
          case rel => exact ⟨j + 1, by omega, int_congr (by omega), L, ns ++ [((i : Int) + 1)], _, _, A6, c6, by rw [HHS.out, List.foldl_append, HFO.out]; exact HF.out, HT6.out, (by omega), (fun x hx => HLW.out x hx), fun n hn => (by rcases List.mem_append.1 hn with hn | hn; exact HNS.out n hn; rw [List.mem_singleton] at hn; subst hn; have := HIL.out; omega), by rw [hlen6]; omega⟩
        | none =>
          have hix : ixG (sameA q.acc now s) L = -1 := by unfold ixG; rw [show L.findIdx? (sameA q.acc now s) = none from hf]
          rw [hix]
          have HF := Lib.hid (wantA_none (ns := ns) hf)
          have a0 := (ext_blk HX5.out HP3.out).cell 0
          have a3 : w5.cell? ⟨b, 3, none⟩ = some (.slice uA2 L.length uc2) := HT5.out.door.cell 3
          have hLb : (L.length : Int) < 99 := by have := HLN.out; omega
          have hsum : IntKind.i64.wrap ((L.length : Int) + 1) = (L.length : Int) + 1 := by rw [IntKind.wrap_i64]; omega
          have cT := fun W => token_any ((L.length : Int) + 1) q.acc (by omega) (by omega) HACC.out.1 HACC.out.2 W
          clear hix hf
          go_upto_region 9 with (fail)
          clear a0 a3
          have HC9 : Hid (∀ W, Ext w5 W → (W.cell? ⟨w.heap.size, 0, none⟩ = some (.pointer (some ⟨b, 0, none⟩)) ∧ W.cell? ⟨b, 3, none⟩ = some (.slice uA2 L.length uc2) ∧ W.cell? ⟨w.heap.size + 1, 1, none⟩ = some (.int .i64 q.acc) ∧ W.cell? ⟨wr.heap.size, 0, none⟩ = some (.string s))) := Lib.hid fun W x =>
            ⟨(ext_blk (HX5.out.trans x) HP3.out).cell 0, (DoorB.ext HT5.out.door x).cell 3, (ext_blk (HX5.out.trans x) HB3.out).cell 1, (ext_blk x HBS5.out).cell 0⟩
          obtain ⟨i1, hj1, hy0, hy1, hy2⟩ := info_parts Tryz.infoAut
          refine E_start (n := 23) (ls := #[false, false, false, false, false, false, false, false, false, false, false, false, false, false, false, false, false, false, false, false, false, false, false]) (fun w' => w'.cell? ⟨w.heap.size, 0, none⟩ = some (.pointer (some ⟨b, 0, none⟩)) ∧ w'.cell? ⟨b, 3, none⟩ = some (.slice uA2 L.length uc2) ∧ w'.cell? ⟨w.heap.size + 1, 1, none⟩ = some (.int .i64 q.acc) ∧ w'.cell? ⟨wr.heap.size, 0, none⟩ = some (.string s)) 22 (by kernel_rfl) (by kernel_rfl) (by kernel_rfl) (HC9.out _ (Ext.refl w5).drew) (fun hHeld => ?_)
          refine E_take (i := 0) (some 59) (ls' := #[true, false, false, false, false, false, false, false, false, false, false, false, false, false, false, false, false, false, false, false, false, false, false]) rfl rfl (by kernel_rfl) (by kernel_rfl) (by kernel_rfl) (by kernel_rfl) (by kernel_rfl) (by rfl) (v := ?_) ?_ hHeld ?_
          rotate_left 1
          · intro w hSw; (try dsimp only at hSw); go_simp; try with_reducible rfl
          try simp only [Act.put, List.setIfInBounds_toArray, List.set_cons_zero, List.set_cons_succ]
          refine E_take (i := 1) (some 60) (ls' := #[true, true, false, false, false, false, false, false, false, false, false, false, false, false, false, false, false, false, false, false, false, false, false]) rfl rfl (by kernel_rfl) (by kernel_rfl) (by kernel_rfl) (by kernel_rfl) (by kernel_rfl) (by rfl) (v := ?_) ?_ hHeld ?_
          rotate_left 1
          · intro w hSw; (try dsimp only at hSw); go_simp; try with_reducible rfl
          try simp only [Act.put, List.setIfInBounds_toArray, List.set_cons_zero, List.set_cons_succ]
          refine E_take (i := 2) (some 61) (ls' := #[true, true, true, false, false, false, false, false, false, false, false, false, false, false, false, false, false, false, false, false, false, false, false]) rfl rfl (by kernel_rfl) (by kernel_rfl) (by kernel_rfl) (by kernel_rfl) (by kernel_rfl) (by rfl) (v := ?_) ?_ hHeld ?_
          rotate_left 1
          · intro w hSw; (try dsimp only at hSw); go_simp; try with_reducible rfl
          try simp only [Act.put, List.setIfInBounds_toArray, List.set_cons_zero, List.set_cons_succ]
          refine E_take (i := 3) (some 62) (ls' := #[true, true, true, true, false, false, false, false, false, false, false, false, false, false, false, false, false, false, false, false, false, false, false]) rfl rfl (by kernel_rfl) (by kernel_rfl) (by kernel_rfl) (by kernel_rfl) (by kernel_rfl) (by rfl) (v := ?_) ?_ hHeld ?_
          rotate_left 1
          · intro w hSw; (try dsimp only at hSw); go_simp; try with_reducible rfl
          try simp only [Act.put, List.setIfInBounds_toArray, List.set_cons_zero, List.set_cons_succ]
          refine E_take (i := 4) (some 63) (ls' := #[true, true, true, true, true, false, false, false, false, false, false, false, false, false, false, false, false, false, false, false, false, false, false]) rfl rfl (by kernel_rfl) (by kernel_rfl) (by kernel_rfl) (by kernel_rfl) (by kernel_rfl) (by rfl) (v := ?_) ?_ hHeld ?_
          rotate_left 1
          · intro w hSw; (try dsimp only at hSw); go_simp; try with_reducible rfl
          try simp only [Act.put, List.setIfInBounds_toArray, List.set_cons_zero, List.set_cons_succ]
          refine E_take (i := 5) (some 64) (ls' := #[true, true, true, true, true, true, false, false, false, false, false, false, false, false, false, false, false, false, false, false, false, false, false]) rfl rfl (by kernel_rfl) (by kernel_rfl) (by kernel_rfl) (by kernel_rfl) (by kernel_rfl) (by rfl) (v := ?_) ?_ hHeld ?_
          rotate_left 1
          · intro w hSw; (try dsimp only at hSw); go_simp; try with_reducible rfl
          try simp only [Act.put, List.setIfInBounds_toArray, List.set_cons_zero, List.set_cons_succ]
          refine E_take (i := 6) (some 65) (ls' := #[true, true, true, true, true, true, true, false, false, false, false, false, false, false, false, false, false, false, false, false, false, false, false]) rfl rfl (by kernel_rfl) (by kernel_rfl) (by kernel_rfl) (by kernel_rfl) (by kernel_rfl) (by rfl) (v := ?_) ?_ hHeld ?_
          rotate_left 1
          · intro w hSw; (try dsimp only at hSw); go_simp; try with_reducible rfl
          try simp only [Act.put, List.setIfInBounds_toArray, List.set_cons_zero, List.set_cons_succ]
          refine E_take (i := 7) (some 66) (ls' := #[true, true, true, true, true, true, true, true, false, false, false, false, false, false, false, false, false, false, false, false, false, false, false]) rfl rfl (by kernel_rfl) (by kernel_rfl) (by kernel_rfl) (by kernel_rfl) (by kernel_rfl) (by rfl) (v := ?_) ?_ hHeld ?_
          rotate_left 1
          · intro w hSw; (try dsimp only at hSw); go_simp; try with_reducible rfl
          try simp only [Act.put, List.setIfInBounds_toArray, List.set_cons_zero, List.set_cons_succ]
          refine E_take (i := 8) (some 67) (ls' := #[true, true, true, true, true, true, true, true, true, false, false, false, false, false, false, false, false, false, false, false, false, false, false]) rfl rfl (by kernel_rfl) (by kernel_rfl) (by kernel_rfl) (by kernel_rfl) (by kernel_rfl) (by rfl) (v := ?_) ?_ hHeld ?_
          rotate_left 1
          · intro w hSw; (try dsimp only at hSw); go_simp; try with_reducible rfl
          try simp only [Act.put, List.setIfInBounds_toArray, List.set_cons_zero, List.set_cons_succ]
          refine E_take (i := 9) (some 68) (ls' := #[true, true, true, true, true, true, true, true, true, true, false, false, false, false, false, false, false, false, false, false, false, false, false]) rfl rfl (by kernel_rfl) (by kernel_rfl) (by kernel_rfl) (by kernel_rfl) (by kernel_rfl) (by rfl) (v := ?_) ?_ hHeld ?_
          rotate_left 1
          · intro w hSw; (try dsimp only at hSw); go_simp; try with_reducible rfl
          try simp only [Act.put, List.setIfInBounds_toArray, List.set_cons_zero, List.set_cons_succ]
          refine E_take (i := 10) (some 69) (ls' := #[true, true, true, true, true, true, true, true, true, true, true, false, false, false, false, false, false, false, false, false, false, false, false]) rfl rfl (by kernel_rfl) (by kernel_rfl) (by kernel_rfl) (by kernel_rfl) (by kernel_rfl) (by rfl) (v := ?_) ?_ hHeld ?_
          rotate_left 1
          · intro w hSw; (try dsimp only at hSw); go_simp; try with_reducible rfl
          try simp only [Act.put, List.setIfInBounds_toArray, List.set_cons_zero, List.set_cons_succ]
          refine E_take (i := 11) (some 70) (ls' := #[true, true, true, true, true, true, true, true, true, true, true, true, false, false, false, false, false, false, false, false, false, false, false]) rfl rfl (by kernel_rfl) (by kernel_rfl) (by kernel_rfl) (by kernel_rfl) (by kernel_rfl) (by rfl) (v := ?_) ?_ hHeld ?_
          rotate_left 1
          · intro w hSw; (try dsimp only at hSw); go_simp; try with_reducible rfl
          try simp only [Act.put, List.setIfInBounds_toArray, List.set_cons_zero, List.set_cons_succ]
          refine E_take (i := 12) (some 71) (ls' := #[true, true, true, true, true, true, true, true, true, true, true, true, true, false, false, false, false, false, false, false, false, false, false]) rfl rfl (by kernel_rfl) (by kernel_rfl) (by kernel_rfl) (by kernel_rfl) (by kernel_rfl) (by rfl) (v := ?_) ?_ hHeld ?_
          rotate_left 1
          · intro w hSw; (try dsimp only at hSw); go_simp; try with_reducible rfl
          try simp only [Act.put, List.setIfInBounds_toArray, List.set_cons_zero, List.set_cons_succ]
          refine E_take (i := 13) (some 72) (ls' := #[true, true, true, true, true, true, true, true, true, true, true, true, true, true, false, false, false, false, false, false, false, false, false]) rfl rfl (by kernel_rfl) (by kernel_rfl) (by kernel_rfl) (by kernel_rfl) (by kernel_rfl) (by rfl) (v := ?_) ?_ hHeld ?_
          rotate_left 1
          · intro w hSw; (try dsimp only at hSw); go_simp; try with_reducible rfl
          try simp only [Act.put, List.setIfInBounds_toArray, List.set_cons_zero, List.set_cons_succ]
          refine E_take (i := 14) (some 73) (ls' := #[true, true, true, true, true, true, true, true, true, true, true, true, true, true, true, false, false, false, false, false, false, false, false]) rfl rfl (by kernel_rfl) (by kernel_rfl) (by kernel_rfl) (by kernel_rfl) (by kernel_rfl) (by rfl) (v := ?_) ?_ hHeld ?_
          rotate_left 1
          · intro w hSw; (try dsimp only at hSw); go_simp; try with_reducible rfl
          try simp only [Act.put, List.setIfInBounds_toArray, List.set_cons_zero, List.set_cons_succ]
          refine E_one (i := 15) (ls' := #[true, true, true, true, true, true, true, true, true, true, true, true, true, true, true, true, false, false, false, false, false, false, false]) rfl (by kernel_rfl) (by kernel_rfl) (by rfl) (fun K hK => ?_)
          go_simp
          go_at_call 190
          refine (cT _).mono ?_
          clear cT
          rintro e w6 ⟨rfl, rfl⟩
          have hHeld2 := HC9.out _ (Ext.refl w5).drew
          clear hHeld
          have hHeld := hHeld2
          clear hHeld2
          refine hK _ _ (fun _ => hHeld) ?_
          clear hK K
          try simp only [Act.put, List.setIfInBounds_toArray, List.set_cons_zero, List.set_cons_succ]
          refine E_take (i := 16) (some 75) (ls' := #[true, true, true, true, true, true, true, true, true, true, true, true, true, true, true, true, true, false, false, false, false, false, false]) rfl rfl (by kernel_rfl) (by kernel_rfl) (by kernel_rfl) (by kernel_rfl) (by kernel_rfl) (by rfl) (v := ?_) ?_ hHeld ?_
          rotate_left 1
          · intro w hSw; (try dsimp only at hSw); go_simp; try with_reducible rfl
          try simp only [Act.put, List.setIfInBounds_toArray, List.set_cons_zero, List.set_cons_succ]
          refine E_one (i := 17) (ls' := #[true, true, true, true, true, true, true, true, true, true, true, true, true, true, true, true, true, true, false, false, false, false, false]) rfl (by kernel_rfl) (by kernel_rfl) (by rfl) (fun K hK => ?_)
          go_simp
          have hHeld2 := HC9.out _ ((Ext.refl w5).drew.alloc (.cells #[.int .i64 ((L.length : Int) + 1), .int .i64 q.acc, .string s, .string (tokS ((L.length : Int) + 1) q.acc), .int .i64 1, .int .i64 0, .int .i64 0] 192))
          clear hHeld
          have hHeld := hHeld2
          clear hHeld2
          refine hK _ _ (fun _ => hHeld) ?_
          clear hK K
          try simp only [Act.put, List.setIfInBounds_toArray, List.set_cons_zero, List.set_cons_succ]
          refine E_one (i := 18) (ls' := #[true, true, true, true, true, true, true, true, true, true, true, true, true, true, true, true, true, true, true, false, false, false, false]) rfl (by kernel_rfl) (by kernel_rfl) (by rfl) (fun K hK => ?_)
          clear hHeld
          refine wp_append_any _ (.tmp 64) (.tmp 76) 93 rfl W1.heap.size 192 i1 (.agg #[.int .i64 0, .int .i64 0, .string ⟨#[]⟩, .string ⟨#[]⟩, .int .i64 0, .int .i64 0, .int .i64 0]) 7 72 Tryz.underlying93 hj1 hy0 hy1 hy2 rfl (by decide) _ L.length (autV L) rfl ((HT5.out.own.drew).alloc _) _ (some ⟨w5.heap.size, 0, none⟩) 1 1 [.int .i64 ((L.length : Int) + 1), .int .i64 q.acc, .string s, .string (tokS ((L.length : Int) + 1) q.acc), .int .i64 1, .int .i64 0, .int .i64 0] rfl (reads_newL w5.drew _ _) (by simp [Value.oneCell']) (by have := HLN.out; simp only [maxLen]; omega) (by have := HLN.out; omega) (by have := HT5.out.but.size; simp; omega) ?_
          intro v7 w7 hown7 hg7 _
          have X7 : Ext w5 (w5.drew.alloc (.cells #[.int .i64 ((L.length : Int) + 1), .int .i64 q.acc, .string s, .string (tokS ((L.length : Int) + 1) q.acc), .int .i64 1, .int .i64 0, .int .i64 0] 192)) := (Ext.refl w5).drew.alloc _
          have s1 : Blk w7 w.heap.size 178 #[.pointer (some ⟨b, 0, none⟩)] := Blk.grown (ext_blk (HX5.out.trans X7) HP3.out) hg7 (own_apart HT5.out.own (by have := HS1.out; omega))
          have s2 := Blk.grown (ext_blk (HX5.out.trans X7) HB3.out) hg7 (own_apart HT5.out.own (by have := HS1.out; omega))
          have s3 := Blk.grown (ext_blk X7 HBS5.out) hg7 (fun e => own_blk_ne HT5.out.own HBS5.out (by decide) e.symm)
          obtain ⟨d7, A7, c7, rfl, ht7⟩ := (HT5.out.ext X7).addU HBS.out H61.out HBG.out (newA L.length q.acc s) hown7 hg7
          have hH7 : w7.cell? ⟨w.heap.size, 0, none⟩ = some (.pointer (some ⟨b, 0, none⟩)) ∧ w7.cell? ⟨b, 3, none⟩ = some (.slice uA2 L.length uc2) ∧ w7.cell? ⟨w.heap.size + 1, 1, none⟩ = some (.int .i64 q.acc) ∧ w7.cell? ⟨wr.heap.size, 0, none⟩ = some (.string s) := ⟨s1.cell 0, d7.cell 3, s2.cell 1, s3.cell 0⟩
          have f3 := d7.frozen 3
          have HT7 := Lib.hid ht7
          have hHeld := hH7
          clear s1 s2 s3 d7 ht7 hown7 hg7 X7
          have hHeld2 := hH7
          clear hHeld
          have hHeld := hHeld2
          clear hHeld2
          refine hK _ _ (fun _ => hHeld) ?_
          clear hK K
          try simp only [Act.put, List.setIfInBounds_toArray, List.set_cons_zero, List.set_cons_succ]
          refine E_one (i := 19) (ls' := #[true, true, true, true, true, true, true, true, true, true, true, true, true, true, true, true, true, true, true, true, false, false, false]) rfl (by kernel_rfl) (by kernel_rfl) (by rfl) (fun K hK => ?_)
          go_simp
          refine hK _ _ (fun _ => hHeld) ?_
          clear hK K
          try simp only [Act.put, List.setIfInBounds_toArray, List.set_cons_zero, List.set_cons_succ]
          refine E_one (i := 20) (ls' := #[true, true, true, true, true, true, true, true, true, true, true, true, true, true, true, true, true, true, true, true, true, false, false]) rfl (by kernel_rfl) (by kernel_rfl) (by rfl) (fun K hK => ?_)
          go_simp
          refine hK _ _ (fun _ => hHeld) ?_
          clear hK K
          try simp only [Act.put, List.setIfInBounds_toArray, List.set_cons_zero, List.set_cons_succ]
          refine E_one (i := 21) (ls' := #[true, true, true, true, true, true, true, true, true, true, true, true, true, true, true, true, true, true, true, true, true, true, false]) rfl (by kernel_rfl) (by kernel_rfl) (by rfl) (fun K hK => ?_)
          go_simp
          refine hK _ _ (fun _ => hHeld) ?_
          clear hK K
          try simp only [Act.put, List.setIfInBounds_toArray, List.set_cons_zero, List.set_cons_succ]
          refine E_one (i := 22) (ls' := #[true, true, true, true, true, true, true, true, true, true, true, true, true, true, true, true, true, true, true, true, true, true, true]) rfl (by kernel_rfl) (by kernel_rfl) (by rfl) (fun K hK => ?_)
          go_simp
          refine hK _ _ (fun h => absurd rfl h) ?_
          clear hK K
          try simp only [Act.put, List.setIfInBounds_toArray, List.set_cons_zero, List.set_cons_succ]
          refine E_done (by kernel_rfl) ?_
          clear hHeld f3 hH7 HC9
          obtain ⟨W8, hW8⟩ : ∃ W, W = w7.setCell ⟨b, 3, none⟩ (.slice A7 (L.length + 1) c7) := ⟨_, rfl⟩
          rw [← hW8] at HT7 ⊢
          clear hW8
          have f5 := HT7.out.ord.cell 5
          go_wp2_with (at_builtin; refine wpList_append_own _ rfl (.tmp 82) (.tmp 85) 27 rfl W1.heap.size 3 i0 (.int .i64 0) 1 8 Tryz.underlying27 hi hz0 hz1 hz2 rfl (by decide) _ _ _ rfl (HT7.out.num.alloc _) ⟨W8.heap.size, 0, none⟩ 1 1 [.int .i64 ((L.length : Int) + 1)] rfl rfl (cell_one_new _ _ _) (by simp [Value.oneCell']) (by have := HNL.out; simp only [maxLen]; omega) (by have := HNL.out; omega) (by have := HT7.out.but.size; simp; omega) ?_; intro v6 w6 hown6 hg6 _; obtain ⟨b6, A6, c6, rfl, ht6⟩ := (HT7.out.ext ((Ext.refl _).alloc _)).addN HBS.out H61.out HBG.out ((L.length : Int) + 1) hown6 hg6; have f5 := b6.cell 5; have f6 := b6.frozen 5; have HT6 := Lib.hid ht6; clear b6 hown6 hg6 ht6)
          have hlen6 : (ns ++ [((L.length : Int) + 1)]).length = ns.length + 1 := by simp
          have hj := HJ.out
          have hll := HLL.out
          have hnl := HNL.out
          go_roundg (gk - 1)
          case measure => omega
          case rel => exact ⟨j + 1, by omega, int_congr (by omega), L ++ [newA L.length q.acc s], ns ++ [((L.length : Int) + 1)], _, _, A6, c6, by rw [HHS.out, List.foldl_append, HFO.out]; exact HF.out, HT6.out, (by rw [List.length_append]; simp; omega), (fun x hx => (by rcases List.mem_append.1 hx with hx | hx; exact HLW.out x hx; rw [List.mem_singleton] at hx; subst hx; exact newA_w HLN.out HACC.out HSN.out)), fun n hn => (by rw [List.length_append]; rcases List.mem_append.1 hn with hn | hn; have := HNS.out n hn; simp; omega; rw [List.mem_singleton] at hn; subst hn; simp; omega), by rw [hlen6]; omega⟩
      · obtain rfl : j = q.names.length := by omega
        have HFO2 : Hid (q.names.foldl (wantA q.acc now) (d.auts, []) = (L, ns)) := Lib.hid (by rw [List.take_length] at hfo; exact hfo)
        have cO : ∀ W, Ext wr W → Calls Tryz.prog 191 #[.slice d.rA d.ords.length d.rc] W fun e w' => ∃ v, e = .returned v ∧ w'.ownsRow wr.heap.size 109 8 v d.ords.length (ordV d.ords) ∧ Ext W w' := fun W x =>
          (cloneO_any d.rA d.ords.length d.rc (ordV d.ords) (ordV_one _) HW.out.rl W (((HW.out.ord.stay HL.out.r HGW.out.size (fun k hk hb => HGW.out.block k hb (by simpa using hk))).below x.out).more x.size)).mono fun e w' ⟨v, h1, h2, h3⟩ => ⟨v, h1, own_base h2 x.size, h3⟩
        have HC12 : Hid (∀ W, Ext wr W → (W.cell? ⟨w.heap.size, 0, none⟩ = some (.pointer (some ⟨b, 0, none⟩)) ∧ W.cell? ⟨b, 4, none⟩ = some (.slice d.rA d.ords.length d.rc) ∧ W.cell? ⟨g6, 0, none⟩ = some (.int .i64 ((d.ords.length : Int) + 1)) ∧ W.cell? ⟨g6, 1, none⟩ = some (.int .i64 q.acc) ∧ W.cell? ⟨g6, 2, none⟩ = some (.slice nA q.names.length nc) ∧ W.cell? ⟨g6, 3, none⟩ = some (.int .u64 (q.key : Int)) ∧ W.cell? ⟨g6, 4, none⟩ = some (.int .i64 q.life) ∧ W.cell? ⟨g6, 5, none⟩ = some (.slice aA ns.length ac) ∧ W.cell? ⟨g6, 6, none⟩ = some (.int .i64 1) ∧ W.cell? ⟨g6, 7, none⟩ = some (.int .i64 0))) := Lib.hid fun W x =>
          ⟨(ext_blk x HP3.out).cell 0, (DoorB.ext HST3.out.door x).cell 4, (ext_blk x HST3.out.ord).cell 0, (ext_blk x HST3.out.ord).cell 1, (ext_blk x HST3.out.ord).cell 2, (ext_blk x HST3.out.ord).cell 3, (ext_blk x HST3.out.ord).cell 4, (ext_blk x HST3.out.ord).cell 5, (ext_blk x HST3.out.ord).cell 6, (ext_blk x HST3.out.ord).cell 7⟩
        obtain ⟨i2, hj1, hy0, hy1, hy2⟩ := info_parts Tryz.infoOrd
        clear hj hfo hbu hLl hLw hns hnl hgx hs0 hs1 hbw h61 hgw bq3 bp3 hLn
        go_upto_region 12 with (fail)
        refine E_start (n := 14) (ls := #[false, false, false, false, false, false, false, false, false, false, false, false, false, false]) (fun w' => w'.cell? ⟨w.heap.size, 0, none⟩ = some (.pointer (some ⟨b, 0, none⟩)) ∧ w'.cell? ⟨b, 4, none⟩ = some (.slice d.rA d.ords.length d.rc) ∧ w'.cell? ⟨g6, 0, none⟩ = some (.int .i64 ((d.ords.length : Int) + 1)) ∧ w'.cell? ⟨g6, 1, none⟩ = some (.int .i64 q.acc) ∧ w'.cell? ⟨g6, 2, none⟩ = some (.slice nA q.names.length nc) ∧ w'.cell? ⟨g6, 3, none⟩ = some (.int .u64 (q.key : Int)) ∧ w'.cell? ⟨g6, 4, none⟩ = some (.int .i64 q.life) ∧ w'.cell? ⟨g6, 5, none⟩ = some (.slice aA ns.length ac) ∧ w'.cell? ⟨g6, 6, none⟩ = some (.int .i64 1) ∧ w'.cell? ⟨g6, 7, none⟩ = some (.int .i64 0)) 13 (by kernel_rfl) (by kernel_rfl) (by kernel_rfl) (HC12.out _ (Ext.refl wr).drew) (fun hHeld => ?_)
        refine E_take (i := 0) (some 89) (ls' := #[true, false, false, false, false, false, false, false, false, false, false, false, false, false]) rfl rfl (by kernel_rfl) (by kernel_rfl) (by kernel_rfl) (by kernel_rfl) (by kernel_rfl) (by rfl) (v := ?_) ?_ hHeld ?_
        rotate_left 1
        · intro w hSw; (try dsimp only at hSw); go_simp; try with_reducible rfl
        try simp only [Act.put, List.setIfInBounds_toArray, List.set_cons_zero, List.set_cons_succ]
        refine E_take (i := 1) (some 90) (ls' := #[true, true, false, false, false, false, false, false, false, false, false, false, false, false]) rfl rfl (by kernel_rfl) (by kernel_rfl) (by kernel_rfl) (by kernel_rfl) (by kernel_rfl) (by rfl) (v := ?_) ?_ hHeld ?_
        rotate_left 1
        · intro w hSw; (try dsimp only at hSw); go_simp; try with_reducible rfl
        try simp only [Act.put, List.setIfInBounds_toArray, List.set_cons_zero, List.set_cons_succ]
        refine E_take (i := 2) (some 91) (ls' := #[true, true, true, false, false, false, false, false, false, false, false, false, false, false]) rfl rfl (by kernel_rfl) (by kernel_rfl) (by kernel_rfl) (by kernel_rfl) (by kernel_rfl) (by rfl) (v := ?_) ?_ hHeld ?_
        rotate_left 1
        · intro w hSw; (try dsimp only at hSw); go_simp; try with_reducible rfl
        try simp only [Act.put, List.setIfInBounds_toArray, List.set_cons_zero, List.set_cons_succ]
        refine E_take (i := 3) (some 92) (ls' := #[true, true, true, true, false, false, false, false, false, false, false, false, false, false]) rfl rfl (by kernel_rfl) (by kernel_rfl) (by kernel_rfl) (by kernel_rfl) (by kernel_rfl) (by rfl) (v := ?_) ?_ hHeld ?_
        rotate_left 1
        · intro w hSw; (try dsimp only at hSw); go_simp; try with_reducible rfl
        try simp only [Act.put, List.setIfInBounds_toArray, List.set_cons_zero, List.set_cons_succ]
        refine E_take (i := 4) (some 93) (ls' := #[true, true, true, true, true, false, false, false, false, false, false, false, false, false]) rfl rfl (by kernel_rfl) (by kernel_rfl) (by kernel_rfl) (by kernel_rfl) (by kernel_rfl) (by rfl) (v := ?_) ?_ hHeld ?_
        rotate_left 1
        · intro w hSw; (try dsimp only at hSw); go_simp; try with_reducible rfl
        try simp only [Act.put, List.setIfInBounds_toArray, List.set_cons_zero, List.set_cons_succ]
        refine E_take (i := 5) (some 94) (ls' := #[true, true, true, true, true, true, false, false, false, false, false, false, false, false]) rfl rfl (by kernel_rfl) (by kernel_rfl) (by kernel_rfl) (by kernel_rfl) (by kernel_rfl) (by rfl) (v := ?_) ?_ hHeld ?_
        rotate_left 1
        · intro w hSw; (try dsimp only at hSw); go_simp; try with_reducible rfl
        try simp only [Act.put, List.setIfInBounds_toArray, List.set_cons_zero, List.set_cons_succ]
        refine E_take (i := 7) (some 96) (ls' := #[true, true, true, true, true, true, false, true, false, false, false, false, false, false]) rfl rfl (by kernel_rfl) (by kernel_rfl) (by kernel_rfl) (by kernel_rfl) (by kernel_rfl) (by rfl) (v := ?_) ?_ hHeld ?_
        rotate_left 1
        · intro w hSw; (try dsimp only at hSw); go_simp; try with_reducible rfl
        try simp only [Act.put, List.setIfInBounds_toArray, List.set_cons_zero, List.set_cons_succ]
        refine E_two (i := 6) (k := 8) (ls1 := #[true, true, true, true, true, true, true, true, false, false, false, false, false, false]) (ls2 := #[true, true, true, true, true, true, false, true, true, false, false, false, false, false]) rfl rfl (by kernel_rfl) (by kernel_rfl) (by kernel_rfl) (by rfl) (by rfl) (fun K hK => ?_) (fun K hK => ?_)
        · go_simp
          go_at_call 191
          refine (cO _ (Ext.refl wr).drew).mono ?_
          clear cO
          rintro e w2 ⟨v, rfl, ho2, x2⟩
          have X2 : Ext wr w2 := (Ext.refl wr).drew.trans x2
          have HO2 := Lib.hid ho2
          have HX2 := Lib.hid X2
          clear ho2 x2
          have hHeld2 := HC12.out _ X2
          clear hHeld
          have hHeld := hHeld2
          clear hHeld2
          refine hK _ _ (fun _ => hHeld) ?_
          clear hK K
          try simp only [Act.put, List.setIfInBounds_toArray, List.set_cons_zero, List.set_cons_succ]
          refine E_one (i := 8) (ls' := #[true, true, true, true, true, true, true, true, true, false, false, false, false, false]) rfl (by kernel_rfl) (by kernel_rfl) (by rfl) (fun K hK => ?_)
          go_simp
          have hHeld2 := HC12.out _ (X2.alloc (.cells #[.int .i64 ((d.ords.length : Int) + 1), .int .i64 q.acc, .slice nA q.names.length nc, .int .u64 (q.key : Int), .int .i64 q.life, .slice aA ns.length ac, .int .i64 1, .int .i64 0] 109))
          clear hHeld
          have hHeld := hHeld2
          clear hHeld2
          refine hK _ _ (fun _ => hHeld) ?_
          clear hK K
          try simp only [Act.put, List.setIfInBounds_toArray, List.set_cons_zero, List.set_cons_succ]
          refine E_one (i := 9) (ls' := #[true, true, true, true, true, true, true, true, true, true, false, false, false, false]) rfl (by kernel_rfl) (by kernel_rfl) (by rfl) (fun K hK => ?_)
          clear hHeld
          refine wp_append_any _ (.tmp 95) (.tmp 97) 94 rfl wr.heap.size 109 i2 (.agg #[.int .i64 0, .int .i64 0, .slice none 0 0, .int .u64 0, .int .i64 0, .slice none 0 0, .int .i64 0, .int .i64 0]) 8 96 Tryz.underlying94 hj1 hy0 hy1 hy2 rfl (by decide) v d.ords.length (ordV d.ords) rfl (HO2.out.alloc _) _ (some ⟨w2.heap.size, 0, none⟩) 1 1 [.int .i64 ((d.ords.length : Int) + 1), .int .i64 q.acc, .slice nA q.names.length nc, .int .u64 (q.key : Int), .int .i64 q.life, .slice aA ns.length ac, .int .i64 1, .int .i64 0] rfl (reads_newL w2 _ _) (by simp [Value.oneCell']) (by have := HOL.out; simp only [maxLen]; omega) (by have := HOL.out; omega) (by have := HX2.out.size; simp; omega) ?_
          intro v9 w9 hown9 hg9 _
          have X9 : Ext wr w9 := ext_grown (HX2.out.alloc _) (HO2.out.alloc _) hg9
          have hH9 := HC12.out _ X9
          have f4 := (DoorB.ext HST3.out.door X9).frozen 4
          obtain ⟨A9, c9, rfl, z3, z4, z0, hbut9, hfin⟩ := (HST3.out.ext X9).fin HBW.out (by have := HG6.out; have := HS0.out; omega) H61.out HX1.out HW.out HL.out HQ.out HO1.out HN1.out (by have := HS0.out; omega) HST3.out.but.size HFO2.out HLL.out HLW.out HNS.out HNL.out HLEN.out HOL.out hown9
          have Z3 := Lib.hid z3
          have Z4 := Lib.hid z4
          have Z0 := Lib.hid z0
          have HB9 := Lib.hid hbut9
          have HFI := Lib.hid hfin
          have hHeld := hH9
          clear z3 z4 z0 hbut9 hfin hown9 hg9 X9
          have hHeld2 := hH9
          clear hHeld
          have hHeld := hHeld2
          clear hHeld2
          refine hK _ _ (fun _ => hHeld) ?_
          clear hK K
          try simp only [Act.put, List.setIfInBounds_toArray, List.set_cons_zero, List.set_cons_succ]
          refine E_one (i := 10) (ls' := #[true, true, true, true, true, true, true, true, true, true, true, false, false, false]) rfl (by kernel_rfl) (by kernel_rfl) (by rfl) (fun K hK => ?_)
          go_simp
          refine hK _ _ (fun _ => hHeld) ?_
          clear hK K
          try simp only [Act.put, List.setIfInBounds_toArray, List.set_cons_zero, List.set_cons_succ]
          refine E_one (i := 11) (ls' := #[true, true, true, true, true, true, true, true, true, true, true, true, false, false]) rfl (by kernel_rfl) (by kernel_rfl) (by rfl) (fun K hK => ?_)
          go_simp
          refine hK _ _ (fun _ => hHeld) ?_
          clear hK K
          try simp only [Act.put, List.setIfInBounds_toArray, List.set_cons_zero, List.set_cons_succ]
          refine E_one (i := 12) (ls' := #[true, true, true, true, true, true, true, true, true, true, true, true, true, false]) rfl (by kernel_rfl) (by kernel_rfl) (by rfl) (fun K hK => ?_)
          go_simp
          refine hK _ _ (fun _ => hHeld) ?_
          clear hK K
          try simp only [Act.put, List.setIfInBounds_toArray, List.set_cons_zero, List.set_cons_succ]
          refine E_one (i := 13) (ls' := #[true, true, true, true, true, true, true, true, true, true, true, true, true, true]) rfl (by kernel_rfl) (by kernel_rfl) (by rfl) (fun K hK => ?_)
          go_simp
          refine hK _ _ (fun h => absurd rfl h) ?_
          clear hK K
          try simp only [Act.put, List.setIfInBounds_toArray, List.set_cons_zero, List.set_cons_succ]
          refine E_done (by kernel_rfl) ?_
          clear hHeld f4 hH9
          obtain ⟨W9, hW9⟩ : ∃ W, W = w9.setCell ⟨b, 4, none⟩ (.slice A9 (d.ords.length + 1) c9) := ⟨_, rfl⟩
          rw [← hW9] at Z3 Z4 Z0 HB9 HFI ⊢
          clear hW9
          have z3 := Z3.out
          have z4 := Z4.out
          have z0 := Z0.out
          have zp := (HB9.out.blk HBP1.out (by have := HBW.out; omega) (by have := HG6.out; have := HS0.out; omega)).cell 0
          have d1 : decide ((256 : Int) < (L.length : Int)) = false := decide_eq_false (by have := HLN.out; omega)
          have d2 : decide ((128 : Int) < (d.ords.length : Int) + 1) = false := decide_eq_false (by have := HOL.out; omega)
          clear X2
          go_wp2
          go_ret2
          exact HFI.out
        · go_simp
          have hHeld2 := HC12.out _ ((Ext.refl wr).drew.alloc (.cells #[.int .i64 ((d.ords.length : Int) + 1), .int .i64 q.acc, .slice nA q.names.length nc, .int .u64 (q.key : Int), .int .i64 q.life, .slice aA ns.length ac, .int .i64 1, .int .i64 0] 109))
          clear hHeld
          have hHeld := hHeld2
          clear hHeld2
          refine hK _ _ (fun _ => hHeld) ?_
          clear hK K
          try simp only [Act.put, List.setIfInBounds_toArray, List.set_cons_zero, List.set_cons_succ]
          refine E_one (i := 6) (ls' := #[true, true, true, true, true, true, true, true, true, false, false, false, false, false]) rfl (by kernel_rfl) (by kernel_rfl) (by rfl) (fun K hK => ?_)
          go_simp
          go_at_call 191
          refine (cO _ ((Ext.refl wr).drew.alloc (.cells #[.int .i64 ((d.ords.length : Int) + 1), .int .i64 q.acc, .slice nA q.names.length nc, .int .u64 (q.key : Int), .int .i64 q.life, .slice aA ns.length ac, .int .i64 1, .int .i64 0] 109))).mono ?_
          clear cO
          rintro e w2 ⟨v, rfl, ho2, x2⟩
          have X2 : Ext wr w2 := ((Ext.refl wr).drew.alloc _).trans x2
          have HO2 := Lib.hid ho2
          have HX2 := Lib.hid X2
          have HY2 := Lib.hid x2
          clear ho2 x2
          have hHeld2 := HC12.out _ X2
          clear hHeld
          have hHeld := hHeld2
          clear hHeld2
          refine hK _ _ (fun _ => hHeld) ?_
          clear hK K
          try simp only [Act.put, List.setIfInBounds_toArray, List.set_cons_zero, List.set_cons_succ]
          refine E_one (i := 9) (ls' := #[true, true, true, true, true, true, true, true, true, true, false, false, false, false]) rfl (by kernel_rfl) (by kernel_rfl) (by rfl) (fun K hK => ?_)
          clear hHeld
          refine wp_append_any _ (.tmp 95) (.tmp 97) 94 rfl wr.heap.size 109 i2 (.agg #[.int .i64 0, .int .i64 0, .slice none 0 0, .int .u64 0, .int .i64 0, .slice none 0 0, .int .i64 0, .int .i64 0]) 8 96 Tryz.underlying94 hj1 hy0 hy1 hy2 rfl (by decide) v d.ords.length (ordV d.ords) rfl HO2.out _ (some ⟨wr.heap.size, 0, none⟩) 1 1 [.int .i64 ((d.ords.length : Int) + 1), .int .i64 q.acc, .slice nA q.names.length nc, .int .u64 (q.key : Int), .int .i64 q.life, .slice aA ns.length ac, .int .i64 1, .int .i64 0] rfl (((reads_newL wr.drew _ _).below HY2.out.out).more HY2.out.size) (by simp [Value.oneCell']) (by have := HOL.out; simp only [maxLen]; omega) (by have := HOL.out; omega) (by have := HX2.out.size; simp; omega) ?_
          intro v9 w9 hown9 hg9 _
          have X9 : Ext wr w9 := ext_grown HX2.out HO2.out hg9
          have hH9 := HC12.out _ X9
          have f4 := (DoorB.ext HST3.out.door X9).frozen 4
          obtain ⟨A9, c9, rfl, z3, z4, z0, hbut9, hfin⟩ := (HST3.out.ext X9).fin HBW.out (by have := HG6.out; have := HS0.out; omega) H61.out HX1.out HW.out HL.out HQ.out HO1.out HN1.out (by have := HS0.out; omega) HST3.out.but.size HFO2.out HLL.out HLW.out HNS.out HNL.out HLEN.out HOL.out hown9
          have Z3 := Lib.hid z3
          have Z4 := Lib.hid z4
          have Z0 := Lib.hid z0
          have HB9 := Lib.hid hbut9
          have HFI := Lib.hid hfin
          have hHeld := hH9
          clear z3 z4 z0 hbut9 hfin hown9 hg9 X9
          have hHeld2 := hH9
          clear hHeld
          have hHeld := hHeld2
          clear hHeld2
          refine hK _ _ (fun _ => hHeld) ?_
          clear hK K
          try simp only [Act.put, List.setIfInBounds_toArray, List.set_cons_zero, List.set_cons_succ]
          refine E_one (i := 10) (ls' := #[true, true, true, true, true, true, true, true, true, true, true, false, false, false]) rfl (by kernel_rfl) (by kernel_rfl) (by rfl) (fun K hK => ?_)
          go_simp
          refine hK _ _ (fun _ => hHeld) ?_
          clear hK K
          try simp only [Act.put, List.setIfInBounds_toArray, List.set_cons_zero, List.set_cons_succ]
          refine E_one (i := 11) (ls' := #[true, true, true, true, true, true, true, true, true, true, true, true, false, false]) rfl (by kernel_rfl) (by kernel_rfl) (by rfl) (fun K hK => ?_)
          go_simp
          refine hK _ _ (fun _ => hHeld) ?_
          clear hK K
          try simp only [Act.put, List.setIfInBounds_toArray, List.set_cons_zero, List.set_cons_succ]
          refine E_one (i := 12) (ls' := #[true, true, true, true, true, true, true, true, true, true, true, true, true, false]) rfl (by kernel_rfl) (by kernel_rfl) (by rfl) (fun K hK => ?_)
          go_simp
          refine hK _ _ (fun _ => hHeld) ?_
          clear hK K
          try simp only [Act.put, List.setIfInBounds_toArray, List.set_cons_zero, List.set_cons_succ]
          refine E_one (i := 13) (ls' := #[true, true, true, true, true, true, true, true, true, true, true, true, true, true]) rfl (by kernel_rfl) (by kernel_rfl) (by rfl) (fun K hK => ?_)
          go_simp
          refine hK _ _ (fun h => absurd rfl h) ?_
          clear hK K
          try simp only [Act.put, List.setIfInBounds_toArray, List.set_cons_zero, List.set_cons_succ]
          refine E_done (by kernel_rfl) ?_
          clear hHeld f4 hH9
          obtain ⟨W9, hW9⟩ : ∃ W, W = w9.setCell ⟨b, 4, none⟩ (.slice A9 (d.ords.length + 1) c9) := ⟨_, rfl⟩
          rw [← hW9] at Z3 Z4 Z0 HB9 HFI ⊢
          clear hW9
          have z3 := Z3.out
          have z4 := Z4.out
          have z0 := Z0.out
          have zp := (HB9.out.blk HBP1.out (by have := HBW.out; omega) (by have := HG6.out; have := HS0.out; omega)).cell 0
          have d1 : decide ((256 : Int) < (L.length : Int)) = false := decide_eq_false (by have := HLN.out; omega)
          have d2 : decide ((128 : Int) < (d.ords.length : Int) + 1) = false := decide_eq_false (by have := HOL.out; omega)
          clear X2
          go_wp2
          go_ret2
          exact HFI.out
end Go.Proofs.YtfpmfegmehbfbaaGreatDoor
