/- Parts of the proofs, put together: CtG7, CtG8. -/
import Derived.Recover
import Derived.Test.YtfpmfegmehbfbaaGreatDoorZ41
/- A certificate's readers, walked: whole. -/
namespace Go.Proofs.YtfpmfegmehbfbaaGreatDoor
set_option linter.unusedVariables false
set_option linter.unusedSimpArgs false
set_option linter.unusedSimpArgs false
open Go.RowKit Go.Shelf Go.Maps

set_option maxRecDepth 100000 in
set_option maxHeartbeats 16000000 in
theorem rwhole_any (c : CrtR) (hg : GoodC c) (P : List Nat) (p : Nat) (w : World) (h : RdrW w P p [bodT c, .s [natT c.e, natT c.s]]) :
    Calls Tryz.prog 77 #[.pointer (some ⟨p, 0, none⟩)] w fun e w' => ∃ nA nc pA pc mA mc, e = .returned (crtV ⟨c, nA, nc, pA, pc, mA, mc⟩) ∧ RdS w' (fun b => w.heap.size ≤ b ∧ Mut P w' b) 1 nA c.names.length (c.names.map .string) ∧ RdS w' (fun b => w.heap.size ≤ b ∧ Mut P w' b) 1 pA c.perm.length (c.perm.map .string) ∧ RdS w' (fun b => w.heap.size ≤ b ∧ Mut P w' b) 6 mA c.proms.length (prmV c.proms) ∧ RdrW w' P p [] ∧ w.grownBy w' (some p) := by
  obtain ⟨ser, iss, sub, key, names, frm, unt, ca, dep, perm, proms, e, s⟩ := c
  have hpw := h.pl p h.pm
  have HPL := Lib.hid h.pl
  have HPM := Lib.hid h.pm
  have hsg := hg.sig
  have hs0 := PrS.new #[.int .i64 0, .string ⟨#[]⟩, .string ⟨#[]⟩, .int .u64 0, .slice none 0 0, .int .i64 0, .int .i64 0, .bool false, .int .i64 0, .slice none 0 0, .slice none 0 0, .int .u64 0, .int .u64 0] h
  obtain ⟨W0, e0⟩ : ∃ W, w.alloc (.cells #[.int .i64 0, .string ⟨#[]⟩, .string ⟨#[]⟩, .int .u64 0, .slice none 0 0, .int .i64 0, .int .i64 0, .bool false, .int .i64 0, .slice none 0 0, .slice none 0 0, .int .u64 0, .int .u64 0] 67) = W := ⟨_, rfl⟩
  have hsz : W0.heap.size = w.heap.size + 1 := by rw [← e0]; exact World.size_alloc _ _
  have g0 : w.grownBy W0 (some p) := by rw [← e0]; exact World.grownBy_alloc _ _ _
  rw [e0] at hs0
  have c1 := sub_any [preT ⟨ser, iss, sub, key, names, frm, unt, ca, dep, perm, proms, e, s⟩, .s (proms.map prmT)] [.s [natT e, natT s]] (w.heap.size :: P) p W0 hs0.rd
  have c2 := fun (P : List Nat) (p : Nat) (w : World) (h : RdrW w P p [preT ⟨ser, iss, sub, key, names, frm, unt, ca, dep, perm, proms, e, s⟩, .s (proms.map prmT)]) => rbody_any ⟨ser, iss, sub, key, names, frm, unt, ca, dep, perm, proms, e, s⟩ hg P p w h
  unfold crtV crtC bareC at c2
  unfold crtV crtC
  dsimp only at c2 hsg ⊢
  simp only [if_true] at c2
  have hk1 : e < 9223372036854775808 := by have := hsg.1; omega
  have hk2 : s < 9223372036854775808 := by have := hsg.2; omega
  have HB0 := Lib.hid hs0.b
  have HG0 := Lib.hid g0
  have HSZ := Lib.hid hsz
  have HPW := Lib.hid hpw
  clear h hg hs0 g0 hsz hsg hpw
  go_enter Tryz.func77, Tryz.ntmps77
  go_upto_region 1 with (fail)
  try rw [e0]
  clear e0
  go_upto_region 2 with (first | (go_at_call 151; refine c1.mono ?_; clear c1; rintro e w1 ⟨q1, rfl, hq1, hq1', h1, hp1, g1⟩; have c3 := c2 _ q1 w1 h1; clear c2) | (go_at_call 79; refine c3.mono ?_; clear c3; rintro e w2 ⟨nA, nc, pA, pc, mA, mc, rfl, r1, r2, r3, -, g2⟩))
  have hqp : q1 ≠ p := by have := HPW.out; have := HSZ.out; omega
  have hp2 := hp1.to g2 (fun k e => by cases e; exact ⟨List.mem_cons_self .., hqp⟩) (fun b hb => .inl hb) hp1.pm
  have t12 := PrS.new #[.int .i64 ser, .string iss, .string sub, .int .u64 (key : Int), .slice nA names.length nc, .int .i64 frm, .int .i64 unt, .bool ca, .int .i64 dep, .slice pA perm.length pc, .slice mA proms.length mc, .int .u64 0, .int .u64 0] hp2
  obtain ⟨U12, eU⟩ : ∃ W, w2.alloc (.cells #[.int .i64 ser, .string iss, .string sub, .int .u64 (key : Int), .slice nA names.length nc, .int .i64 frm, .int .i64 unt, .bool ca, .int .i64 dep, .slice pA perm.length pc, .slice mA proms.length mc, .int .u64 0, .int .u64 0] 67) = W := ⟨_, rfl⟩
  try rw [eU]
  rw [eU] at t12
  clear eU
  have c4 := sub_any [natT e, natT s] [] _ p U12 t12.rd
  go_upto_region 3 with (go_at_call 151; refine c4.mono ?_; clear c4; rintro e w4 ⟨q2, rfl, hq2, hq2', h4, hp4, g4⟩; have c5 := rbig_any e hk1 _ _ q2 w4 h4)
  have z1 := g1.size
  have z2 := g2.size
  have z3 := t12.b.lt
  have z4 := g4.size
  have hsz := HSZ.out
  have hpw := HPW.out
  have q2p : q2 ≠ p := by omega
  have n1p : some w2.heap.size ≠ some p := fun e => by injection e with e; omega
  have n12 : some w2.heap.size ≠ some q2 := fun e => by injection e with e; omega
  have n0p : some w.heap.size ≠ some p := fun e => by injection e with e; omega
  have n0q : some w.heap.size ≠ some q1 := fun e => by injection e with e; omega
  have n02 : some w.heap.size ≠ some q2 := fun e => by injection e with e; omega
  have n01 : some w.heap.size ≠ some w2.heap.size := fun e => by injection e with e; omega
  have bq1 : w.heap.size ≤ q1 := by omega
  have bq2 : w.heap.size ≤ q2 := by omega
  have bc1 : w.heap.size ≤ w2.heap.size := by omega
  have ZZ := Lib.hid (And.intro z1 (And.intro hsz (And.intro hpw (And.intro hq1 (And.intro hq2 z4)))))
  have BQ := Lib.hid (And.intro q2p (And.intro bq1 (And.intro bq2 bc1)))
  have NN := Lib.hid (And.intro n1p (And.intro n12 (And.intro n0p (And.intro n0q (And.intro n02 n01)))))
  have T12 := Lib.hid t12
  have HP4 := Lib.hid hp4
  clear z1 z2 z3 z4 hsz hpw q2p bq1 bq2 bc1 n1p n12 n0p n0q n02 n01 hq1 hq1' hq2 hq2' hqp t12 hp4 hp1 h1 h4
  go_upto_region 4 with (go_at_call 152; first | (refine c5.mono ?_; clear c5; rintro e w5 ⟨rfl, h5, g5⟩; have c6 := rbig_any s hk2 _ _ q2 w5 h5; clear h5) | (refine c6.mono ?_; clear c6; rintro e w6 ⟨rfl, h6, g6⟩; have b6 := Blk.grown (Blk.grown (Blk.grown T12.out.b g4 NN.out.1) g5 NN.out.2.1) g6 NN.out.2.1; have B6 := Lib.hid b6; have y11 := b6.cell 11; have y12 := b6.cell 12; have f11 := b6.frozen 11; have f12 := b6.frozen 12; clear b6))
  clear y11 y12 f11 f12
  obtain ⟨W7, e7⟩ : ∃ W, (w6.setCell ⟨w2.heap.size, 11, none⟩ (.int .u64 (e : Int))).setCell ⟨w2.heap.size, 12, none⟩ (.int .u64 (s : Int)) = W := ⟨_, rfl⟩
  have g7 : w6.grownBy W7 (some w2.heap.size) := by rw [← e7]; exact (grown_cell _ _ _ _).trans (grown_cell _ _ _ _)
  have b7 : Blk W7 w2.heap.size 67 #[.int .i64 ser, .string iss, .string sub, .int .u64 (key : Int), .slice nA names.length nc, .int .i64 frm, .int .i64 unt, .bool ca, .int .i64 dep, .slice pA perm.length pc, .slice mA proms.length mc, .int .u64 (e : Int), .int .u64 (s : Int)] := by rw [← e7]; exact (B6.out.set_ 11 _).set_ 12 _
  rw [e7]
  clear e7
  have hP3 := h6.pm
  have m1 : w2.heap.size ∈ (q2 :: w2.heap.size :: q1 :: w.heap.size :: P) := List.mem_cons_of_mem _ (List.mem_cons_self ..)
  have h7 := h6.to g7 (fun k e => by cases e; exact ⟨m1, fun e => NN.out.2.1 (by rw [e])⟩) (fun b hb => .inl hb) h6.pm
  have p5 := HP4.out.to g5 (fun k e => by cases e; exact ⟨h6.pm, BQ.out.1⟩) (fun b hb => .inl hb) HP4.out.pm
  have p6 := p5.to g6 (fun k e => by cases e; exact ⟨h6.pm, BQ.out.1⟩) (fun b hb => .inl hb) HP4.out.pm
  have p7 := p6.to g7 (fun k e => by cases e; exact ⟨m1, fun e => NN.out.1 (by rw [e])⟩) (fun b hb => .inl hb) HP4.out.pm
  have b0 := Blk.grown (Blk.grown (Blk.grown (Blk.grown (Blk.grown (Blk.grown (Blk.grown HB0.out g1 NN.out.2.2.1) g2 NN.out.2.2.2.1) T12.out.g NN.out.2.2.1) g4 NN.out.2.2.1) g5 NN.out.2.2.2.2.1) g6 NN.out.2.2.2.2.1) g7 NN.out.2.2.2.2.2
  have gt := (((((((HG0.out.trans g1).andThen g2 (fun j e => by cases e; exact .inl BQ.out.2.1)).trans T12.out.g).trans g4).andThen g5 (fun j e => by cases e; exact .inl BQ.out.2.2.1)).andThen g6 (fun j e => by cases e; exact .inl BQ.out.2.2.1)).andThen g7 (fun j e => by cases e; exact .inl BQ.out.2.2.2))
  have key : ∀ (sz : Nat) (A : Option Addr) (n : Nat) (xs : List Value), RdS w2 (fun b => w1.heap.size ≤ b ∧ Mut (q1 :: w.heap.size :: P) w2 b) sz A n xs → RdS W7 (fun b => w.heap.size ≤ b ∧ Mut (q2 :: w2.heap.size :: q1 :: w.heap.size :: P) W7 b) sz A n xs := fun sz A n xs h5 => by
    obtain ⟨z1, hsz, -, -, hq2, -⟩ := ZZ.out
    have h6 : RdS w2 (fun b => w.heap.size ≤ b ∧ Mut (q1 :: w.heap.size :: P) w2 b) sz A n xs := h5.keep (fun _ _ => rfl) (fun b hb => ⟨by have := hb.1; omega, hb.2⟩)
    have h7 : RdS U12 (fun b => w.heap.size ≤ b ∧ Mut (w2.heap.size :: q1 :: w.heap.size :: P) U12 b) sz A n xs := h6.fresh T12.out.g (fun k e => by cases e; exact hp2.pm) (fun b hb => by
      rcases List.mem_cons.1 hb with e | e
      · exact .inr (by omega)
      · exact .inl e)
    have h8 : RdS w4 (fun b => w.heap.size ≤ b ∧ Mut (q2 :: w2.heap.size :: q1 :: w.heap.size :: P) w4 b) sz A n xs := h7.fresh g4 (fun k e => by cases e; exact T12.out.rd.pm) (fun b hb => by
      rcases List.mem_cons.1 hb with e | e
      · exact .inr (by omega)
      · exact .inl e)
    exact ((h8.grown g5 (fun k e => by cases e; exact hP3)).grown g6 (fun k e => by cases e; exact hP3)).grown g7 (fun k e => by cases e; exact m1)
  have R1 := Lib.hid (key _ _ _ _ r1)
  have R2 := Lib.hid (key _ _ _ _ r2)
  have R3 := Lib.hid (key _ _ _ _ r3)
  have cE := end_any _ q2 W7 h7
  have cF := end_any _ p W7 p7
  have P7 := Lib.hid p7
  have GT := Lib.hid gt
  have BB := Lib.hid b0
  have k0 := b7.cell 0
  have z0 := b0.cell 0
  have f0 := b0.frozen 0
  have k1 := b7.cell 1
  have z1 := b0.cell 1
  have f1 := b0.frozen 1
  have k2 := b7.cell 2
  have z2 := b0.cell 2
  have f2 := b0.frozen 2
  have k3 := b7.cell 3
  have z3 := b0.cell 3
  have f3 := b0.frozen 3
  have k4 := b7.cell 4
  have z4 := b0.cell 4
  have f4 := b0.frozen 4
  have k5 := b7.cell 5
  have z5 := b0.cell 5
  have f5 := b0.frozen 5
  have k6 := b7.cell 6
  have z6 := b0.cell 6
  have f6 := b0.frozen 6
  have k7 := b7.cell 7
  have z7 := b0.cell 7
  have f7 := b0.frozen 7
  have k8 := b7.cell 8
  have z8 := b0.cell 8
  have f8 := b0.frozen 8
  have k9 := b7.cell 9
  have z9 := b0.cell 9
  have f9 := b0.frozen 9
  have k10 := b7.cell 10
  have z10 := b0.cell 10
  have f10 := b0.frozen 10
  have k11 := b7.cell 11
  have z11 := b0.cell 11
  have f11 := b0.frozen 11
  have k12 := b7.cell 12
  have z12 := b0.cell 12
  have f12 := b0.frozen 12
  clear key r1 r2 r3 gt b0 p7 p6 p5 h7 b7 g7 g6 g5 g4 g2 g1 h6 hP3 hp2
  go_wp2_with (go_at_call 153; first | (refine cE.mono ?_; clear cE; rintro e w9 ⟨rfl, rfl⟩) | (refine cF.mono ?_; clear cF; rintro e w9 ⟨rfl, rfl⟩))
  clear k0 z0 f0 k1 z1 f1 k2 z2 f2 k3 z3 f3 k4 z4 f4 k5 z5 f5 k6 z6 f6 k7 z7 f7 k8 z8 f8 k9 z9 f9 k10 z10 f10 k11 z11 f11 k12 z12 f12
  have bb := BB.out
  have gg : W7.grownBy W7 (some w.heap.size) := ⟨rfl, rfl, rfl, Nat.le_refl _, fun _ _ _ => rfl⟩
  obtain ⟨V0, eV0⟩ : ∃ W, W7.setCell ⟨w.heap.size, 0, none⟩ (.int .i64 ser) = W := ⟨_, rfl⟩
  have bb0 : Blk V0 w.heap.size 67 #[.int .i64 ser, .string ⟨#[]⟩, .string ⟨#[]⟩, .int .u64 0, .slice none 0 0, .int .i64 0, .int .i64 0, .bool false, .int .i64 0, .slice none 0 0, .slice none 0 0, .int .u64 0, .int .u64 0] := by rw [← eV0]; exact bb.set_ 0 _
  have gg0 : W7.grownBy V0 (some w.heap.size) := by rw [← eV0]; exact gg.trans (grown_cell _ _ _ _)
  clear bb gg
  rw [eV0]
  clear eV0
  obtain ⟨V1, eV1⟩ : ∃ W, V0.setCell ⟨w.heap.size, 1, none⟩ (.string iss) = W := ⟨_, rfl⟩
  have bb1 : Blk V1 w.heap.size 67 #[.int .i64 ser, .string iss, .string ⟨#[]⟩, .int .u64 0, .slice none 0 0, .int .i64 0, .int .i64 0, .bool false, .int .i64 0, .slice none 0 0, .slice none 0 0, .int .u64 0, .int .u64 0] := by rw [← eV1]; exact bb0.set_ 1 _
  have gg1 : W7.grownBy V1 (some w.heap.size) := by rw [← eV1]; exact gg0.trans (grown_cell _ _ _ _)
  clear bb0 gg0
  rw [eV1]
  clear eV1
  obtain ⟨V2, eV2⟩ : ∃ W, V1.setCell ⟨w.heap.size, 2, none⟩ (.string sub) = W := ⟨_, rfl⟩
  have bb2 : Blk V2 w.heap.size 67 #[.int .i64 ser, .string iss, .string sub, .int .u64 0, .slice none 0 0, .int .i64 0, .int .i64 0, .bool false, .int .i64 0, .slice none 0 0, .slice none 0 0, .int .u64 0, .int .u64 0] := by rw [← eV2]; exact bb1.set_ 2 _
  have gg2 : W7.grownBy V2 (some w.heap.size) := by rw [← eV2]; exact gg1.trans (grown_cell _ _ _ _)
  clear bb1 gg1
  rw [eV2]
  clear eV2
  obtain ⟨V3, eV3⟩ : ∃ W, V2.setCell ⟨w.heap.size, 3, none⟩ (.int .u64 (key : Int)) = W := ⟨_, rfl⟩
  have bb3 : Blk V3 w.heap.size 67 #[.int .i64 ser, .string iss, .string sub, .int .u64 (key : Int), .slice none 0 0, .int .i64 0, .int .i64 0, .bool false, .int .i64 0, .slice none 0 0, .slice none 0 0, .int .u64 0, .int .u64 0] := by rw [← eV3]; exact bb2.set_ 3 _
  have gg3 : W7.grownBy V3 (some w.heap.size) := by rw [← eV3]; exact gg2.trans (grown_cell _ _ _ _)
  clear bb2 gg2
  rw [eV3]
  clear eV3
  obtain ⟨V4, eV4⟩ : ∃ W, V3.setCell ⟨w.heap.size, 4, none⟩ (.slice nA names.length nc) = W := ⟨_, rfl⟩
  have bb4 : Blk V4 w.heap.size 67 #[.int .i64 ser, .string iss, .string sub, .int .u64 (key : Int), .slice nA names.length nc, .int .i64 0, .int .i64 0, .bool false, .int .i64 0, .slice none 0 0, .slice none 0 0, .int .u64 0, .int .u64 0] := by rw [← eV4]; exact bb3.set_ 4 _
  have gg4 : W7.grownBy V4 (some w.heap.size) := by rw [← eV4]; exact gg3.trans (grown_cell _ _ _ _)
  clear bb3 gg3
  rw [eV4]
  clear eV4
  obtain ⟨V5, eV5⟩ : ∃ W, V4.setCell ⟨w.heap.size, 5, none⟩ (.int .i64 frm) = W := ⟨_, rfl⟩
  have bb5 : Blk V5 w.heap.size 67 #[.int .i64 ser, .string iss, .string sub, .int .u64 (key : Int), .slice nA names.length nc, .int .i64 frm, .int .i64 0, .bool false, .int .i64 0, .slice none 0 0, .slice none 0 0, .int .u64 0, .int .u64 0] := by rw [← eV5]; exact bb4.set_ 5 _
  have gg5 : W7.grownBy V5 (some w.heap.size) := by rw [← eV5]; exact gg4.trans (grown_cell _ _ _ _)
  clear bb4 gg4
  rw [eV5]
  clear eV5
  obtain ⟨V6, eV6⟩ : ∃ W, V5.setCell ⟨w.heap.size, 6, none⟩ (.int .i64 unt) = W := ⟨_, rfl⟩
  have bb6 : Blk V6 w.heap.size 67 #[.int .i64 ser, .string iss, .string sub, .int .u64 (key : Int), .slice nA names.length nc, .int .i64 frm, .int .i64 unt, .bool false, .int .i64 0, .slice none 0 0, .slice none 0 0, .int .u64 0, .int .u64 0] := by rw [← eV6]; exact bb5.set_ 6 _
  have gg6 : W7.grownBy V6 (some w.heap.size) := by rw [← eV6]; exact gg5.trans (grown_cell _ _ _ _)
  clear bb5 gg5
  rw [eV6]
  clear eV6
  obtain ⟨V7, eV7⟩ : ∃ W, V6.setCell ⟨w.heap.size, 7, none⟩ (.bool ca) = W := ⟨_, rfl⟩
  have bb7 : Blk V7 w.heap.size 67 #[.int .i64 ser, .string iss, .string sub, .int .u64 (key : Int), .slice nA names.length nc, .int .i64 frm, .int .i64 unt, .bool ca, .int .i64 0, .slice none 0 0, .slice none 0 0, .int .u64 0, .int .u64 0] := by rw [← eV7]; exact bb6.set_ 7 _
  have gg7 : W7.grownBy V7 (some w.heap.size) := by rw [← eV7]; exact gg6.trans (grown_cell _ _ _ _)
  clear bb6 gg6
  rw [eV7]
  clear eV7
  obtain ⟨V8, eV8⟩ : ∃ W, V7.setCell ⟨w.heap.size, 8, none⟩ (.int .i64 dep) = W := ⟨_, rfl⟩
  have bb8 : Blk V8 w.heap.size 67 #[.int .i64 ser, .string iss, .string sub, .int .u64 (key : Int), .slice nA names.length nc, .int .i64 frm, .int .i64 unt, .bool ca, .int .i64 dep, .slice none 0 0, .slice none 0 0, .int .u64 0, .int .u64 0] := by rw [← eV8]; exact bb7.set_ 8 _
  have gg8 : W7.grownBy V8 (some w.heap.size) := by rw [← eV8]; exact gg7.trans (grown_cell _ _ _ _)
  clear bb7 gg7
  rw [eV8]
  clear eV8
  obtain ⟨V9, eV9⟩ : ∃ W, V8.setCell ⟨w.heap.size, 9, none⟩ (.slice pA perm.length pc) = W := ⟨_, rfl⟩
  have bb9 : Blk V9 w.heap.size 67 #[.int .i64 ser, .string iss, .string sub, .int .u64 (key : Int), .slice nA names.length nc, .int .i64 frm, .int .i64 unt, .bool ca, .int .i64 dep, .slice pA perm.length pc, .slice none 0 0, .int .u64 0, .int .u64 0] := by rw [← eV9]; exact bb8.set_ 9 _
  have gg9 : W7.grownBy V9 (some w.heap.size) := by rw [← eV9]; exact gg8.trans (grown_cell _ _ _ _)
  clear bb8 gg8
  rw [eV9]
  clear eV9
  obtain ⟨V10, eV10⟩ : ∃ W, V9.setCell ⟨w.heap.size, 10, none⟩ (.slice mA proms.length mc) = W := ⟨_, rfl⟩
  have bb10 : Blk V10 w.heap.size 67 #[.int .i64 ser, .string iss, .string sub, .int .u64 (key : Int), .slice nA names.length nc, .int .i64 frm, .int .i64 unt, .bool ca, .int .i64 dep, .slice pA perm.length pc, .slice mA proms.length mc, .int .u64 0, .int .u64 0] := by rw [← eV10]; exact bb9.set_ 10 _
  have gg10 : W7.grownBy V10 (some w.heap.size) := by rw [← eV10]; exact gg9.trans (grown_cell _ _ _ _)
  clear bb9 gg9
  rw [eV10]
  clear eV10
  obtain ⟨V11, eV11⟩ : ∃ W, V10.setCell ⟨w.heap.size, 11, none⟩ (.int .u64 (e : Int)) = W := ⟨_, rfl⟩
  have bb11 : Blk V11 w.heap.size 67 #[.int .i64 ser, .string iss, .string sub, .int .u64 (key : Int), .slice nA names.length nc, .int .i64 frm, .int .i64 unt, .bool ca, .int .i64 dep, .slice pA perm.length pc, .slice mA proms.length mc, .int .u64 (e : Int), .int .u64 0] := by rw [← eV11]; exact bb10.set_ 11 _
  have gg11 : W7.grownBy V11 (some w.heap.size) := by rw [← eV11]; exact gg10.trans (grown_cell _ _ _ _)
  clear bb10 gg10
  rw [eV11]
  clear eV11
  obtain ⟨V12, eV12⟩ : ∃ W, V11.setCell ⟨w.heap.size, 12, none⟩ (.int .u64 (s : Int)) = W := ⟨_, rfl⟩
  have bb12 : Blk V12 w.heap.size 67 #[.int .i64 ser, .string iss, .string sub, .int .u64 (key : Int), .slice nA names.length nc, .int .i64 frm, .int .i64 unt, .bool ca, .int .i64 dep, .slice pA perm.length pc, .slice mA proms.length mc, .int .u64 (e : Int), .int .u64 (s : Int)] := by rw [← eV12]; exact bb11.set_ 12 _
  have gg12 : W7.grownBy V12 (some w.heap.size) := by rw [← eV12]; exact gg11.trans (grown_cell _ _ _ _)
  clear bb11 gg11
  rw [eV12]
  clear eV12
  have n0 := bb12.cell 0
  have n1 := bb12.cell 1
  have n2 := bb12.cell 2
  have n3 := bb12.cell 3
  have n4 := bb12.cell 4
  have n5 := bb12.cell 5
  have n6 := bb12.cell 6
  have n7 := bb12.cell 7
  have n8 := bb12.cell 8
  have n9 := bb12.cell 9
  have n10 := bb12.cell 10
  have n11 := bb12.cell 11
  have n12 := bb12.cell 12
  refine bodyPost_ret (v := .agg #[.int .i64 ser, .string iss, .string sub, .int .u64 (key : Int), .slice nA names.length nc, .int .i64 frm, .int .i64 unt, .bool ca, .int .i64 dep, .slice pA perm.length pc, .slice mA proms.length mc, .int .u64 (e : Int), .int .u64 (s : Int)]) (by simp [results, Tryz.results77, go_sem, n0, n1, n2, n3, n4, n5, n6, n7, n8, n9, n10, n11, n12]) rfl ?_
  have m0 : ∀ k, some w.heap.size = some k → k ∈ (q2 :: w2.heap.size :: q1 :: w.heap.size :: P) := fun k e => by cases e; simp
  have sub1 : ∀ b ∈ P, b ∈ (q2 :: w2.heap.size :: q1 :: w.heap.size :: P) ∨ W7.heap.size ≤ b := fun b hb => .inl (by simp [hb])
  exact ⟨nA, nc, pA, pc, mA, mc, rfl, R1.out.fresh gg12 m0 sub1, R2.out.fresh gg12 m0 sub1, R3.out.fresh gg12 m0 sub1, P7.out.to gg12 (fun k e => by cases e; exact ⟨m0 _ rfl, fun e => NN.out.2.2.1 (by rw [e])⟩) (fun b hb => .inl (by simp [hb])) HPM.out, GT.out.andThen gg12 (fun k e => by cases e; exact .inl (Nat.le_refl _))⟩
end Go.Proofs.YtfpmfegmehbfbaaGreatDoor

/- Certificates, walked: get. -/
namespace Go.Proofs.YtfpmfegmehbfbaaGreatDoor
set_option linter.unusedVariables false
set_option linter.unusedSimpArgs false
set_option linter.unusedSimpArgs false
open Go.RowKit Go.Shelf Go.Maps

theorem few_of {c : CrtR} (h : GoodC c) : fewC c := by
  have h1 := h.iss.1
  have h2 := h.sub.1
  have h3 := h.names.2
  have h4 := h.perm.2
  have h5 := h.proms.2
  refine ⟨by omega, by omega, ⟨by omega, fun s hs => ?_⟩, ⟨by omega, fun s hs => ?_⟩, by omega⟩
  · have := (h.names.1 s hs).1; omega
  · have := (h.perm.1 s hs).1; omega
/-- A certificate in memory, told where. -/
structure CrtS (w : World) (S : Nat → Prop) (x : CrtX) : Prop where
  names : RdS w S 1 x.nA x.r.names.length (tv x.r.names)
  perm : RdS w S 1 x.pA x.r.perm.length (tv x.r.perm)
  proms : RdS w S 6 x.mA x.r.proms.length (prmV x.r.proms)
  few : fewC x.r
theorem CrtS.keep {w w' : World} {S S' : Nat → Prop} {x : CrtX} (h : CrtS w S x) (hk : ∀ p : Addr, S p.block → w'.cell? p = w.cell? p) (hS : ∀ b, S b → S' b) : CrtS w' S' x := ⟨h.names.keep hk hS, h.perm.keep hk hS, h.proms.keep hk hS, h.few⟩
theorem CrtS.crtW {w : World} {S : Nat → Prop} {B : Nat} {x : CrtX} (h : CrtS w S x) (hS : ∀ b, S b → b < B) : CrtW w B x := ⟨h.names.reads hS, h.perm.reads hS, h.proms.reads hS, h.few⟩
theorem CrtS.ext {w0 w w' : World} {x : CrtX} (h : CrtS w (fun b => w0.heap.size ≤ b ∧ b < w.heap.size) x) (k : Ext w w') : CrtS w' (fun b => w0.heap.size ≤ b ∧ b < w'.heap.size) x :=
  h.keep (fun p hp => k.out.cell hp.2) (fun b hb => ⟨hb.1, Nat.lt_of_lt_of_le hb.2 k.size⟩)
theorem get1_idle (x y : Value) (w : World) :
    CallsD Tryz.prog 148 #[x, y] .returning w fun e u' w' => e = .returned (.tuple #[]) ∧ u' = .returning ∧ w' = w := by
  refine callsD_of_wpS Tryz.func148 rfl fun c₀ cs hu => ?_
  apply wpS_seq
  apply wpS_region
  simp [wpOpsS, go_sem, recoverD, hu, Tryz.ntmps148, Exit.thenS]
  refine wpS_of_wp ?_
  go_wp2
  cases c₀
  simp_all [bodyPostS, results, Tryz.results148]
/-- A reader's function that reads a certificate. -/
def RdF (F : FuncId) (l : List It) (c : CrtR) : Prop := ∀ (P : List Nat) (p : Nat) (w : World), RdrW w P p l → Calls Tryz.prog F #[.pointer (some ⟨p, 0, none⟩)] w fun e w' => ∃ nA nc pA pc mA mc, e = .returned (crtV ⟨c, nA, nc, pA, pc, mA, mc⟩) ∧ RdS w' (fun b => w.heap.size ≤ b ∧ Mut P w' b) 1 nA c.names.length (c.names.map .string) ∧ RdS w' (fun b => w.heap.size ≤ b ∧ Mut P w' b) 1 pA c.perm.length (c.perm.map .string) ∧ RdS w' (fun b => w.heap.size ≤ b ∧ Mut P w' b) 6 mA c.proms.length (prmV c.proms) ∧ RdrW w' P p [] ∧ w.grownBy w' (some p)
set_option maxRecDepth 100000 in
set_option maxHeartbeats 16000000 in
theorem get_any (F : FuncId) (hE : Enters Tryz.prog F) (l : List It) (hok : itOk 8 (.s l)) (hl : (itB (.s l)).length ≤ 8192) (c : CrtR) (hf : formC namP patP c) (hF : RdF F l c) (A : Option Addr) (cap B : Nat) (w : World) (hc : (itB (.s l)).length ≤ cap) (hk : KindsW w) (hB : B ≤ w.heap.size) (hr : Reads w B 1 A (itB (.s l)).length (bv (itB (.s l)))) :
    Calls Tryz.prog 76 #[.slice A (itB (.s l)).length cap, .func (.func F) #[] #[]] w fun e w' => ∃ nA nc pA pc mA mc, e = .returned (.tuple #[crtV ⟨c, nA, nc, pA, pc, mA, mc⟩, .int .i64 0]) ∧ CrtS w' (fun b => w.heap.size ≤ b ∧ b < w'.heap.size) ⟨c, nA, nc, pA, pc, mA, mc⟩ ∧ Ext w w' := by
  have hfw := few_of (good_of hf)
  obtain ⟨ser, iss, sub, key, names, frm, unt, ca, dep, perm, proms, e, s⟩ := c
  obtain ⟨W0, e0, b1, b2, x0⟩ := boxes2 w #[.int .i64 0, .string ⟨#[]⟩, .string ⟨#[]⟩, .int .u64 0, .slice none 0 0, .int .i64 0, .int .i64 0, .bool false, .int .i64 0, .slice none 0 0, .slice none 0 0, .int .u64 0, .int .u64 0] #[.int .i64 0] 67 39
  have hmf : ∀ (fn : Fn) (first cap : Array Value) (w : World), (Instr.makeFunc fn first cap).run Tryz.prog w = .ok (.func fn first cap) w := fun _ _ _ _ => rfl
  have c1 := dGet_any (.s l) A cap B W0 hok hl hc (hk.ext x0) (Nat.le_trans hB x0.size) (hr.below (Below.mono x0.out hB))
  have cM := must_any
  unfold itV at c1
  obtain ⟨N, hN⟩ : ∃ N, (itB (.s l)).length = N := ⟨_, rfl⟩
  rw [hN] at c1 ⊢
  have hNc : N ≤ cap := by omega
  have B1 := Lib.hid b1
  have B2 := Lib.hid b2
  have X0 := Lib.hid x0
  have HK := Lib.hid hk
  have HFW := Lib.hid hfw
  have HFM := Lib.hid hf
  have HLO := Lib.hid (And.intro hok hl)
  have HFF := Lib.hid hF
  unfold Enters at hE
  clear b1 b2 x0 hr hk hfw hf hok hl hF hc hB hN
  go_enter_defers Tryz.func76, Tryz.ntmps76
  go_upto_region 1 with (fail)
  try rw [e0]
  clear e0
  go_upto_region 2 with (go_at_call 29; refine c1.mono ?_; clear c1; rintro e w1 ⟨v, rfl, hv, x1⟩; have k2 := ext_blk x1 B2.out; have y0 := k2.cell 0; have f0 := k2.frozen 0; have z0 := (k2.alloc (.cells #[.int .i64 (v.tag : Int), .slice v.A v.n v.c, .slice v.A2 v.n2 v.c2] 77)).cell 0; have zf := (k2.alloc (.cells #[.int .i64 (v.tag : Int), .slice v.A v.n v.c, .slice v.A2 v.n2 v.c2] 77)).frozen 0)
  obtain ⟨W2, e2⟩ : ∃ W, w1.alloc (.cells #[.int .i64 (v.tag : Int), .slice v.A v.n v.c, .slice v.A2 v.n2 v.c2] 77) = W := ⟨_, rfl⟩
  have k3 := k2.alloc (.cells #[.int .i64 (v.tag : Int), .slice v.A v.n v.c, .slice v.A2 v.n2 v.c2] 77)
  have b3 : Blk W2 w1.heap.size 77 #[.int .i64 (v.tag : Int), .slice v.A v.n v.c, .slice v.A2 v.n2 v.c2] := by rw [← e2]; exact Blk.new _ _ _
  have x2 : Ext w1 W2 := by rw [← e2]; exact (Ext.refl w1).alloc _
  rw [e2] at k3 ⊢
  rw [setCell_id (.int .i64 0) k3 rfl]
  clear e2 z0 zf y0 f0 k2
  have xw2 : Ext w W2 := X0.out.trans (x1.trans x2)
  have y0 := k3.cell 0
  have i0 := b3.cell 0
  have i1 := b3.cell 1
  have i2 := b3.cell 2
  have c3 := in_any l HLO.out.1 HLO.out.2 v W2 (hv.ext x2) (HK.out.ext xw2)
  unfold itV at c3
  have XW2 := Lib.hid xw2
  have X12 := Lib.hid (x1.trans x2)
  clear k3 b3 x1 x2 xw2 hv
  go_upto_region 7 with (first | (go_at_call 149; refine (cM _).mono ?_; rintro e w9 ⟨rfl, rfl⟩) | (go_at_call 150; refine c3.mono ?_; clear c3 i0 i1 i2 y0; rintro e w3 ⟨q, rfl, hq, hR, x3⟩; have c4 := HFF.out [q] q w3 hR; unfold crtV crtC at c4; dsimp only at c4) | (go_at_fn F; refine c4.mono ?_; clear c4; rintro e w4 ⟨nA, nc, pA, pc, mA, mc, rfl, r1, r2, r3, -, g4⟩; have xw4 : Ext w w4 := Ext.of ((XW2.out.trans x3).out.grown g4 (XW2.out.trans x3).size (fun k e => by cases e; have := XW2.out.size; omega)); have k4 := Blk.grown (ext_blk x3 (ext_blk X12.out B1.out)) g4 (fun e => by injection e with e; have := X12.out.size; have := B1.out.lt; omega); have K4 := Lib.hid k4; have K5 := Lib.hid (Blk.grown (ext_blk x3 (ext_blk X12.out B2.out)) g4 (fun e => by injection e with e; have := X12.out.size; have := B2.out.lt; omega)); obtain ⟨m0, m1, m2, m3, m4, m5, m6, m7, m8, m9, m10, m11, m12⟩ := lst13 k4; obtain ⟨f0, f1, f2, f3, f4, f5, f6, f7, f8, f9, f10, f11, f12⟩ := frz13 k4; clear hR k4))
  clear m0 m1 m2 m3 m4 m5 m6 m7 m8 m9 m10 m11 m12 f0 f1 f2 f3 f4 f5 f6 f7 f8 f9 f10 f11 f12
  have bb := K4.out
  have gg : w4.grownBy w4 (some w.heap.size) := ⟨rfl, rfl, rfl, Nat.le_refl _, fun _ _ _ => rfl⟩
  obtain ⟨V0, eV0⟩ : ∃ W, w4.setCell ⟨w.heap.size, 0, none⟩ (.int .i64 ser) = W := ⟨_, rfl⟩
  have bb0 : Blk V0 w.heap.size 67 #[.int .i64 ser, .string ⟨#[]⟩, .string ⟨#[]⟩, .int .u64 0, .slice none 0 0, .int .i64 0, .int .i64 0, .bool false, .int .i64 0, .slice none 0 0, .slice none 0 0, .int .u64 0, .int .u64 0] := by rw [← eV0]; exact bb.set_ 0 _
  have gg0 : w4.grownBy V0 (some w.heap.size) := by rw [← eV0]; exact gg.trans (grown_cell _ _ _ _)
  clear bb gg
  rw [eV0]
  clear eV0
  obtain ⟨V1, eV1⟩ : ∃ W, V0.setCell ⟨w.heap.size, 1, none⟩ (.string iss) = W := ⟨_, rfl⟩
  have bb1 : Blk V1 w.heap.size 67 #[.int .i64 ser, .string iss, .string ⟨#[]⟩, .int .u64 0, .slice none 0 0, .int .i64 0, .int .i64 0, .bool false, .int .i64 0, .slice none 0 0, .slice none 0 0, .int .u64 0, .int .u64 0] := by rw [← eV1]; exact bb0.set_ 1 _
  have gg1 : w4.grownBy V1 (some w.heap.size) := by rw [← eV1]; exact gg0.trans (grown_cell _ _ _ _)
  clear bb0 gg0
  rw [eV1]
  clear eV1
  obtain ⟨V2, eV2⟩ : ∃ W, V1.setCell ⟨w.heap.size, 2, none⟩ (.string sub) = W := ⟨_, rfl⟩
  have bb2 : Blk V2 w.heap.size 67 #[.int .i64 ser, .string iss, .string sub, .int .u64 0, .slice none 0 0, .int .i64 0, .int .i64 0, .bool false, .int .i64 0, .slice none 0 0, .slice none 0 0, .int .u64 0, .int .u64 0] := by rw [← eV2]; exact bb1.set_ 2 _
  have gg2 : w4.grownBy V2 (some w.heap.size) := by rw [← eV2]; exact gg1.trans (grown_cell _ _ _ _)
  clear bb1 gg1
  rw [eV2]
  clear eV2
  obtain ⟨V3, eV3⟩ : ∃ W, V2.setCell ⟨w.heap.size, 3, none⟩ (.int .u64 (key : Int)) = W := ⟨_, rfl⟩
  have bb3 : Blk V3 w.heap.size 67 #[.int .i64 ser, .string iss, .string sub, .int .u64 (key : Int), .slice none 0 0, .int .i64 0, .int .i64 0, .bool false, .int .i64 0, .slice none 0 0, .slice none 0 0, .int .u64 0, .int .u64 0] := by rw [← eV3]; exact bb2.set_ 3 _
  have gg3 : w4.grownBy V3 (some w.heap.size) := by rw [← eV3]; exact gg2.trans (grown_cell _ _ _ _)
  clear bb2 gg2
  rw [eV3]
  clear eV3
  obtain ⟨V4, eV4⟩ : ∃ W, V3.setCell ⟨w.heap.size, 4, none⟩ (.slice nA names.length nc) = W := ⟨_, rfl⟩
  have bb4 : Blk V4 w.heap.size 67 #[.int .i64 ser, .string iss, .string sub, .int .u64 (key : Int), .slice nA names.length nc, .int .i64 0, .int .i64 0, .bool false, .int .i64 0, .slice none 0 0, .slice none 0 0, .int .u64 0, .int .u64 0] := by rw [← eV4]; exact bb3.set_ 4 _
  have gg4 : w4.grownBy V4 (some w.heap.size) := by rw [← eV4]; exact gg3.trans (grown_cell _ _ _ _)
  clear bb3 gg3
  rw [eV4]
  clear eV4
  obtain ⟨V5, eV5⟩ : ∃ W, V4.setCell ⟨w.heap.size, 5, none⟩ (.int .i64 frm) = W := ⟨_, rfl⟩
  have bb5 : Blk V5 w.heap.size 67 #[.int .i64 ser, .string iss, .string sub, .int .u64 (key : Int), .slice nA names.length nc, .int .i64 frm, .int .i64 0, .bool false, .int .i64 0, .slice none 0 0, .slice none 0 0, .int .u64 0, .int .u64 0] := by rw [← eV5]; exact bb4.set_ 5 _
  have gg5 : w4.grownBy V5 (some w.heap.size) := by rw [← eV5]; exact gg4.trans (grown_cell _ _ _ _)
  clear bb4 gg4
  rw [eV5]
  clear eV5
  obtain ⟨V6, eV6⟩ : ∃ W, V5.setCell ⟨w.heap.size, 6, none⟩ (.int .i64 unt) = W := ⟨_, rfl⟩
  have bb6 : Blk V6 w.heap.size 67 #[.int .i64 ser, .string iss, .string sub, .int .u64 (key : Int), .slice nA names.length nc, .int .i64 frm, .int .i64 unt, .bool false, .int .i64 0, .slice none 0 0, .slice none 0 0, .int .u64 0, .int .u64 0] := by rw [← eV6]; exact bb5.set_ 6 _
  have gg6 : w4.grownBy V6 (some w.heap.size) := by rw [← eV6]; exact gg5.trans (grown_cell _ _ _ _)
  clear bb5 gg5
  rw [eV6]
  clear eV6
  obtain ⟨V7, eV7⟩ : ∃ W, V6.setCell ⟨w.heap.size, 7, none⟩ (.bool ca) = W := ⟨_, rfl⟩
  have bb7 : Blk V7 w.heap.size 67 #[.int .i64 ser, .string iss, .string sub, .int .u64 (key : Int), .slice nA names.length nc, .int .i64 frm, .int .i64 unt, .bool ca, .int .i64 0, .slice none 0 0, .slice none 0 0, .int .u64 0, .int .u64 0] := by rw [← eV7]; exact bb6.set_ 7 _
  have gg7 : w4.grownBy V7 (some w.heap.size) := by rw [← eV7]; exact gg6.trans (grown_cell _ _ _ _)
  clear bb6 gg6
  rw [eV7]
  clear eV7
  obtain ⟨V8, eV8⟩ : ∃ W, V7.setCell ⟨w.heap.size, 8, none⟩ (.int .i64 dep) = W := ⟨_, rfl⟩
  have bb8 : Blk V8 w.heap.size 67 #[.int .i64 ser, .string iss, .string sub, .int .u64 (key : Int), .slice nA names.length nc, .int .i64 frm, .int .i64 unt, .bool ca, .int .i64 dep, .slice none 0 0, .slice none 0 0, .int .u64 0, .int .u64 0] := by rw [← eV8]; exact bb7.set_ 8 _
  have gg8 : w4.grownBy V8 (some w.heap.size) := by rw [← eV8]; exact gg7.trans (grown_cell _ _ _ _)
  clear bb7 gg7
  rw [eV8]
  clear eV8
  obtain ⟨V9, eV9⟩ : ∃ W, V8.setCell ⟨w.heap.size, 9, none⟩ (.slice pA perm.length pc) = W := ⟨_, rfl⟩
  have bb9 : Blk V9 w.heap.size 67 #[.int .i64 ser, .string iss, .string sub, .int .u64 (key : Int), .slice nA names.length nc, .int .i64 frm, .int .i64 unt, .bool ca, .int .i64 dep, .slice pA perm.length pc, .slice none 0 0, .int .u64 0, .int .u64 0] := by rw [← eV9]; exact bb8.set_ 9 _
  have gg9 : w4.grownBy V9 (some w.heap.size) := by rw [← eV9]; exact gg8.trans (grown_cell _ _ _ _)
  clear bb8 gg8
  rw [eV9]
  clear eV9
  obtain ⟨V10, eV10⟩ : ∃ W, V9.setCell ⟨w.heap.size, 10, none⟩ (.slice mA proms.length mc) = W := ⟨_, rfl⟩
  have bb10 : Blk V10 w.heap.size 67 #[.int .i64 ser, .string iss, .string sub, .int .u64 (key : Int), .slice nA names.length nc, .int .i64 frm, .int .i64 unt, .bool ca, .int .i64 dep, .slice pA perm.length pc, .slice mA proms.length mc, .int .u64 0, .int .u64 0] := by rw [← eV10]; exact bb9.set_ 10 _
  have gg10 : w4.grownBy V10 (some w.heap.size) := by rw [← eV10]; exact gg9.trans (grown_cell _ _ _ _)
  clear bb9 gg9
  rw [eV10]
  clear eV10
  obtain ⟨V11, eV11⟩ : ∃ W, V10.setCell ⟨w.heap.size, 11, none⟩ (.int .u64 (e : Int)) = W := ⟨_, rfl⟩
  have bb11 : Blk V11 w.heap.size 67 #[.int .i64 ser, .string iss, .string sub, .int .u64 (key : Int), .slice nA names.length nc, .int .i64 frm, .int .i64 unt, .bool ca, .int .i64 dep, .slice pA perm.length pc, .slice mA proms.length mc, .int .u64 (e : Int), .int .u64 0] := by rw [← eV11]; exact bb10.set_ 11 _
  have gg11 : w4.grownBy V11 (some w.heap.size) := by rw [← eV11]; exact gg10.trans (grown_cell _ _ _ _)
  clear bb10 gg10
  rw [eV11]
  clear eV11
  obtain ⟨V12, eV12⟩ : ∃ W, V11.setCell ⟨w.heap.size, 12, none⟩ (.int .u64 (s : Int)) = W := ⟨_, rfl⟩
  have bb12 : Blk V12 w.heap.size 67 #[.int .i64 ser, .string iss, .string sub, .int .u64 (key : Int), .slice nA names.length nc, .int .i64 frm, .int .i64 unt, .bool ca, .int .i64 dep, .slice pA perm.length pc, .slice mA proms.length mc, .int .u64 (e : Int), .int .u64 (s : Int)] := by rw [← eV12]; exact bb11.set_ 12 _
  have gg12 : w4.grownBy V12 (some w.heap.size) := by rw [← eV12]; exact gg11.trans (grown_cell _ _ _ _)
  clear bb11 gg11
  rw [eV12]
  clear eV12
  have hkp : ∀ a : Addr, a.block ≠ w.heap.size → a.block < w4.heap.size → V12.cell? a = w4.cell? a := fun a ha hb => World.cell?_of_block (gg12.block _ hb (fun e => ha (by injection e)))
  have xw5 : Ext w V12 := Ext.of (xw4.out.grown gg12 xw4.size (fun k e => by cases e; exact Nat.le_refl _))
  have h34 : w.heap.size < w3.heap.size := by have := X12.out.size; have := B1.out.lt; have := x3.size; omega
  have kyR : ∀ (sz : Nat) (A : Option Addr) (n : Nat) (xs : List Value), RdS w4 (fun b => w3.heap.size ≤ b ∧ Mut [q] w4 b) sz A n xs → RdS V12 (fun b => w.heap.size ≤ b ∧ b < V12.heap.size) sz A n xs := fun sz A n xs h => h.keep (fun a ha => hkp a (by have := ha.1; omega) ha.2.1) (fun b hb => ⟨by have := hb.1; omega, Nat.lt_of_lt_of_le hb.2.1 gg12.size⟩)
  have hcs : CrtS V12 (fun b => w.heap.size ≤ b ∧ b < V12.heap.size) ⟨⟨ser, iss, sub, key, names, frm, unt, ca, dep, perm, proms, e, s⟩, nA, nc, pA, pc, mA, mc⟩ := ⟨kyR _ _ _ _ r1, kyR _ _ _ _ r2, kyR _ _ _ _ r3, HFW.out⟩
  have hcw := hcs.crtW (fun b hb => hb.2)
  have c5 := cCheck_yes ⟨⟨ser, iss, sub, key, names, frm, unt, ca, dep, perm, proms, e, s⟩, nA, nc, pA, pc, mA, mc⟩ HFM.out V12 hcw (HK.out.ext xw5)
  unfold crtV crtC at c5
  dsimp only at c5
  have HCS := Lib.hid hcs
  have XW5 := Lib.hid xw5
  have BB := Lib.hid bb12
  have B5 := Lib.hid (Blk.grown K5.out gg12 (fun e => by simp at e))
  obtain ⟨m0, m1, m2, m3, m4, m5, m6, m7, m8, m9, m10, m11, m12⟩ := lst13 bb12
  clear kyR hkp hcw hcs xw5 xw4 h34 r1 r2 r3 g4 x3 bb12 gg12
  go_upto_region 8 with (first | (go_at_call 149; refine (cM _).mono ?_; rintro e w9 ⟨rfl, rfl⟩) | (go_at_call 145; refine c5.mono ?_; clear c5 m0 m1 m2 m3 m4 m5 m6 m7 m8 m9 m10 m11 m12; rintro e w6 ⟨rfl, x6⟩; have b6 := ext_blk x6 BB.out; have B6 := Lib.hid b6; have b7 := ext_blk x6 B5.out; have B7 := Lib.hid b7; obtain ⟨m0, m1, m2, m3, m4, m5, m6, m7, m8, m9, m10, m11, m12⟩ := lst13 b6; obtain ⟨f0, f1, f2, f3, f4, f5, f6, f7, f8, f9, f10, f11, f12⟩ := frz13 b6; have y7 := b7.cell 0; have f7' := b7.frozen 0; clear b6 b7))
  go_wp2
  rw [setCell_id (i := 0) (.int .i64 ser) B6.out rfl, setCell_id (i := 1) (.string iss) B6.out rfl, setCell_id (i := 2) (.string sub) B6.out rfl, setCell_id (i := 3) (.int .u64 (key : Int)) B6.out rfl, setCell_id (i := 4) (.slice nA names.length nc) B6.out rfl, setCell_id (i := 5) (.int .i64 frm) B6.out rfl, setCell_id (i := 6) (.int .i64 unt) B6.out rfl, setCell_id (i := 7) (.bool ca) B6.out rfl, setCell_id (i := 8) (.int .i64 dep) B6.out rfl, setCell_id (i := 9) (.slice pA perm.length pc) B6.out rfl, setCell_id (i := 10) (.slice mA proms.length mc) B6.out rfl, setCell_id (i := 11) (.int .u64 (e : Int)) B6.out rfl, setCell_id (i := 12) (.int .u64 (s : Int)) B6.out rfl, setCell_id (.int .i64 0) B7.out rfl]
  have nx := B7.out.cell 0
  refine leaves_cons (f := 148) (args := #[.pointer (some ⟨w.heap.size, 0, none⟩), .pointer (some ⟨w.heap.size + 1, 0, none⟩)]) (by simp) (by simp [go_sem]) ?_
  refine (get1_idle _ _ _).mono ?_
  rintro e u' w'' ⟨rfl, rfl, rfl⟩
  exact ⟨.tuple #[.agg #[.int .i64 ser, .string iss, .string sub, .int .u64 (key : Int), .slice nA names.length nc, .int .i64 frm, .int .i64 unt, .bool ca, .int .i64 dep, .slice pA perm.length pc, .slice mA proms.length mc, .int .u64 (e : Int), .int .u64 (s : Int)], .int .i64 0], by simp [results, Tryz.results76, go_sem, m0, m1, m2, m3, m4, m5, m6, m7, m8, m9, m10, m11, m12, nx], nA, nc, pA, pc, mA, mc, rfl, HCS.out.ext x6, XW5.out.trans x6⟩
end Go.Proofs.YtfpmfegmehbfbaaGreatDoor
