/- Parts of the proofs, put together: CtG9, CtH1. -/
import Derived.Test.YtfpmfegmehbfbaaGreatDoorZ25
import Derived.Test.YtfpmfegmehbfbaaGreatDoorZ42
/- Certificates, walked: Get, GetBody, GetPre, Leaf. -/
namespace Go.Proofs.YtfpmfegmehbfbaaGreatDoor
set_option linter.unusedVariables false
set_option linter.unusedSimpArgs false
set_option linter.unusedSimpArgs false
open Go.RowKit Go.Shelf Go.Maps

theorem rwhole_enters : Enters Tryz.prog 77 := enters_of Tryz.func77 (by kernel_rfl) rfl
theorem rbody_enters : Enters Tryz.prog 79 := enters_of Tryz.func79 (by kernel_rfl) rfl
theorem rpre_enters : Enters Tryz.prog 81 := enters_of Tryz.func81 (by kernel_rfl) rfl
theorem rdF_whole {c : CrtR} (hg : GoodC c) : RdF 77 [bodT c, .s [natT c.e, natT c.s]] c := fun P p w h => rwhole_any c hg P p w h
theorem rdF_body {c : CrtR} (hg : GoodC c) : RdF 79 [preT c, .s (c.proms.map prmT)] (bareC c true) := fun P p w h => rbody_any c hg P p w h
theorem rdF_pre {c : CrtR} (hg : GoodC c) : RdF 81 (preL c) (bareC c false) := fun P p w h =>
  (rpre_any c hg P p w h).mono fun e w' ⟨nA, nc, pA, pc, he, h1, h2, h3, h4⟩ => ⟨nA, nc, pA, pc, none, 0, he, h1, h2, ⟨rfl, fun h => absurd h (Nat.lt_irrefl 0)⟩, h3, h4⟩
set_option maxRecDepth 100000 in
set_option maxHeartbeats 8000000 in
theorem cGet_yes (c : CrtR) (hf : formC namP patP c) (A : Option Addr) (cap B : Nat) (w : World) (hc : (itB (whoT c)).length ≤ cap) (hk : KindsW w) (hB : B ≤ w.heap.size) (hr : Reads w B 1 A (itB (whoT c)).length (bv (itB (whoT c)))) :
    Calls Tryz.prog 23 #[.slice A (itB (whoT c)).length cap] w fun e w' => ∃ nA nc pA pc mA mc, e = .returned (.tuple #[crtV ⟨c, nA, nc, pA, pc, mA, mc⟩, .int .i64 0]) ∧ CrtW w' w'.heap.size ⟨c, nA, nc, pA, pc, mA, mc⟩ ∧ Ext w w' := by
  have hg := good_of hf
  obtain ⟨W0, e0⟩ : ∃ W, w.alloc (.cells #[.int .i64 0, .string ⟨#[]⟩, .string ⟨#[]⟩, .int .u64 0, .slice none 0 0, .int .i64 0, .int .i64 0, .bool false, .int .i64 0, .slice none 0 0, .slice none 0 0, .int .u64 0, .int .u64 0] 67) = W := ⟨_, rfl⟩
  have b0 : Blk W0 w.heap.size 67 #[.int .i64 0, .string ⟨#[]⟩, .string ⟨#[]⟩, .int .u64 0, .slice none 0 0, .int .i64 0, .int .i64 0, .bool false, .int .i64 0, .slice none 0 0, .slice none 0 0, .int .u64 0, .int .u64 0] := by rw [← e0]; exact Blk.new _ _ _
  have x0 : Ext w W0 := by rw [← e0]; exact (Ext.refl w).alloc _
  have c1 := get_any 77 rwhole_enters [bodT c, .s [natT c.e, natT c.s]] (itOk_le (whoT_ok hg) (by decide)) (Nat.le_trans (whoT_len hg) (by decide)) c hf (rdF_whole hg) A cap B W0 hc (hk.ext x0) (Nat.le_trans hB x0.size) (hr.below (Below.mono x0.out hB))
  have et : It.s [bodT c, .s [natT c.e, natT c.s]] = whoT c := rfl
  rw [et] at c1
  obtain ⟨N, hN⟩ : ∃ N, (itB (whoT c)).length = N := ⟨_, rfl⟩
  rw [hN] at c1 ⊢
  clear et hN hc hr hf hg
  obtain ⟨C, hC⟩ : ∃ C, c = C := ⟨_, rfl⟩
  rw [hC] at c1 ⊢
  clear hC c
  obtain ⟨ser, iss, sub, key, names, frm, unt, ca, dep, perm, proms, e, s⟩ := C
  unfold crtV crtC at c1 ⊢
  dsimp only at c1 ⊢
  have HB0 := Lib.hid b0
  have HX0 := Lib.hid x0
  clear b0 x0 hk hB
  go_enter Tryz.func23, Tryz.ntmps23
  go_upto_region 1 with (fail)
  try rw [e0]
  clear e0
  go_wp2_with (go_at_call 76; refine c1.mono ?_; clear c1; rintro e w1 ⟨nA, nc, pA, pc, mA, mc, rfl, hw1, x1⟩; have b1 := ext_blk x1 HB0.out; have B1 := Lib.hid b1; obtain ⟨m0, m1, m2, m3, m4, m5, m6, m7, m8, m9, m10, m11, m12⟩ := lst13 b1; obtain ⟨f0, f1, f2, f3, f4, f5, f6, f7, f8, f9, f10, f11, f12⟩ := frz13 b1; have HW1 := Lib.hid hw1; clear b1 hw1)
  clear m0 m1 m2 m3 m4 m5 m6 m7 m8 m9 m10 m11 m12 f0 f1 f2 f3 f4 f5 f6 f7 f8 f9 f10 f11 f12
  have bb := B1.out
  have gg : w1.grownBy w1 (some w.heap.size) := ⟨rfl, rfl, rfl, Nat.le_refl _, fun _ _ _ => rfl⟩
  obtain ⟨V0, eV0⟩ : ∃ W, w1.setCell ⟨w.heap.size, 0, none⟩ (.int .i64 ser) = W := ⟨_, rfl⟩
  have bb0 : Blk V0 w.heap.size 67 #[.int .i64 ser, .string ⟨#[]⟩, .string ⟨#[]⟩, .int .u64 0, .slice none 0 0, .int .i64 0, .int .i64 0, .bool false, .int .i64 0, .slice none 0 0, .slice none 0 0, .int .u64 0, .int .u64 0] := by rw [← eV0]; exact bb.set_ 0 _
  have gg0 : w1.grownBy V0 (some w.heap.size) := by rw [← eV0]; exact gg.trans (grown_cell _ _ _ _)
  clear bb gg
  rw [eV0]
  clear eV0
  obtain ⟨V1, eV1⟩ : ∃ W, V0.setCell ⟨w.heap.size, 1, none⟩ (.string iss) = W := ⟨_, rfl⟩
  have bb1 : Blk V1 w.heap.size 67 #[.int .i64 ser, .string iss, .string ⟨#[]⟩, .int .u64 0, .slice none 0 0, .int .i64 0, .int .i64 0, .bool false, .int .i64 0, .slice none 0 0, .slice none 0 0, .int .u64 0, .int .u64 0] := by rw [← eV1]; exact bb0.set_ 1 _
  have gg1 : w1.grownBy V1 (some w.heap.size) := by rw [← eV1]; exact gg0.trans (grown_cell _ _ _ _)
  clear bb0 gg0
  rw [eV1]
  clear eV1
  obtain ⟨V2, eV2⟩ : ∃ W, V1.setCell ⟨w.heap.size, 2, none⟩ (.string sub) = W := ⟨_, rfl⟩
  have bb2 : Blk V2 w.heap.size 67 #[.int .i64 ser, .string iss, .string sub, .int .u64 0, .slice none 0 0, .int .i64 0, .int .i64 0, .bool false, .int .i64 0, .slice none 0 0, .slice none 0 0, .int .u64 0, .int .u64 0] := by rw [← eV2]; exact bb1.set_ 2 _
  have gg2 : w1.grownBy V2 (some w.heap.size) := by rw [← eV2]; exact gg1.trans (grown_cell _ _ _ _)
  clear bb1 gg1
  rw [eV2]
  clear eV2
  obtain ⟨V3, eV3⟩ : ∃ W, V2.setCell ⟨w.heap.size, 3, none⟩ (.int .u64 (key : Int)) = W := ⟨_, rfl⟩
  have bb3 : Blk V3 w.heap.size 67 #[.int .i64 ser, .string iss, .string sub, .int .u64 (key : Int), .slice none 0 0, .int .i64 0, .int .i64 0, .bool false, .int .i64 0, .slice none 0 0, .slice none 0 0, .int .u64 0, .int .u64 0] := by rw [← eV3]; exact bb2.set_ 3 _
  have gg3 : w1.grownBy V3 (some w.heap.size) := by rw [← eV3]; exact gg2.trans (grown_cell _ _ _ _)
  clear bb2 gg2
  rw [eV3]
  clear eV3
  obtain ⟨V4, eV4⟩ : ∃ W, V3.setCell ⟨w.heap.size, 4, none⟩ (.slice nA names.length nc) = W := ⟨_, rfl⟩
  have bb4 : Blk V4 w.heap.size 67 #[.int .i64 ser, .string iss, .string sub, .int .u64 (key : Int), .slice nA names.length nc, .int .i64 0, .int .i64 0, .bool false, .int .i64 0, .slice none 0 0, .slice none 0 0, .int .u64 0, .int .u64 0] := by rw [← eV4]; exact bb3.set_ 4 _
  have gg4 : w1.grownBy V4 (some w.heap.size) := by rw [← eV4]; exact gg3.trans (grown_cell _ _ _ _)
  clear bb3 gg3
  rw [eV4]
  clear eV4
  obtain ⟨V5, eV5⟩ : ∃ W, V4.setCell ⟨w.heap.size, 5, none⟩ (.int .i64 frm) = W := ⟨_, rfl⟩
  have bb5 : Blk V5 w.heap.size 67 #[.int .i64 ser, .string iss, .string sub, .int .u64 (key : Int), .slice nA names.length nc, .int .i64 frm, .int .i64 0, .bool false, .int .i64 0, .slice none 0 0, .slice none 0 0, .int .u64 0, .int .u64 0] := by rw [← eV5]; exact bb4.set_ 5 _
  have gg5 : w1.grownBy V5 (some w.heap.size) := by rw [← eV5]; exact gg4.trans (grown_cell _ _ _ _)
  clear bb4 gg4
  rw [eV5]
  clear eV5
  obtain ⟨V6, eV6⟩ : ∃ W, V5.setCell ⟨w.heap.size, 6, none⟩ (.int .i64 unt) = W := ⟨_, rfl⟩
  have bb6 : Blk V6 w.heap.size 67 #[.int .i64 ser, .string iss, .string sub, .int .u64 (key : Int), .slice nA names.length nc, .int .i64 frm, .int .i64 unt, .bool false, .int .i64 0, .slice none 0 0, .slice none 0 0, .int .u64 0, .int .u64 0] := by rw [← eV6]; exact bb5.set_ 6 _
  have gg6 : w1.grownBy V6 (some w.heap.size) := by rw [← eV6]; exact gg5.trans (grown_cell _ _ _ _)
  clear bb5 gg5
  rw [eV6]
  clear eV6
  obtain ⟨V7, eV7⟩ : ∃ W, V6.setCell ⟨w.heap.size, 7, none⟩ (.bool ca) = W := ⟨_, rfl⟩
  have bb7 : Blk V7 w.heap.size 67 #[.int .i64 ser, .string iss, .string sub, .int .u64 (key : Int), .slice nA names.length nc, .int .i64 frm, .int .i64 unt, .bool ca, .int .i64 0, .slice none 0 0, .slice none 0 0, .int .u64 0, .int .u64 0] := by rw [← eV7]; exact bb6.set_ 7 _
  have gg7 : w1.grownBy V7 (some w.heap.size) := by rw [← eV7]; exact gg6.trans (grown_cell _ _ _ _)
  clear bb6 gg6
  rw [eV7]
  clear eV7
  obtain ⟨V8, eV8⟩ : ∃ W, V7.setCell ⟨w.heap.size, 8, none⟩ (.int .i64 dep) = W := ⟨_, rfl⟩
  have bb8 : Blk V8 w.heap.size 67 #[.int .i64 ser, .string iss, .string sub, .int .u64 (key : Int), .slice nA names.length nc, .int .i64 frm, .int .i64 unt, .bool ca, .int .i64 dep, .slice none 0 0, .slice none 0 0, .int .u64 0, .int .u64 0] := by rw [← eV8]; exact bb7.set_ 8 _
  have gg8 : w1.grownBy V8 (some w.heap.size) := by rw [← eV8]; exact gg7.trans (grown_cell _ _ _ _)
  clear bb7 gg7
  rw [eV8]
  clear eV8
  obtain ⟨V9, eV9⟩ : ∃ W, V8.setCell ⟨w.heap.size, 9, none⟩ (.slice pA perm.length pc) = W := ⟨_, rfl⟩
  have bb9 : Blk V9 w.heap.size 67 #[.int .i64 ser, .string iss, .string sub, .int .u64 (key : Int), .slice nA names.length nc, .int .i64 frm, .int .i64 unt, .bool ca, .int .i64 dep, .slice pA perm.length pc, .slice none 0 0, .int .u64 0, .int .u64 0] := by rw [← eV9]; exact bb8.set_ 9 _
  have gg9 : w1.grownBy V9 (some w.heap.size) := by rw [← eV9]; exact gg8.trans (grown_cell _ _ _ _)
  clear bb8 gg8
  rw [eV9]
  clear eV9
  obtain ⟨V10, eV10⟩ : ∃ W, V9.setCell ⟨w.heap.size, 10, none⟩ (.slice mA proms.length mc) = W := ⟨_, rfl⟩
  have bb10 : Blk V10 w.heap.size 67 #[.int .i64 ser, .string iss, .string sub, .int .u64 (key : Int), .slice nA names.length nc, .int .i64 frm, .int .i64 unt, .bool ca, .int .i64 dep, .slice pA perm.length pc, .slice mA proms.length mc, .int .u64 0, .int .u64 0] := by rw [← eV10]; exact bb9.set_ 10 _
  have gg10 : w1.grownBy V10 (some w.heap.size) := by rw [← eV10]; exact gg9.trans (grown_cell _ _ _ _)
  clear bb9 gg9
  rw [eV10]
  clear eV10
  obtain ⟨V11, eV11⟩ : ∃ W, V10.setCell ⟨w.heap.size, 11, none⟩ (.int .u64 (e : Int)) = W := ⟨_, rfl⟩
  have bb11 : Blk V11 w.heap.size 67 #[.int .i64 ser, .string iss, .string sub, .int .u64 (key : Int), .slice nA names.length nc, .int .i64 frm, .int .i64 unt, .bool ca, .int .i64 dep, .slice pA perm.length pc, .slice mA proms.length mc, .int .u64 (e : Int), .int .u64 0] := by rw [← eV11]; exact bb10.set_ 11 _
  have gg11 : w1.grownBy V11 (some w.heap.size) := by rw [← eV11]; exact gg10.trans (grown_cell _ _ _ _)
  clear bb10 gg10
  rw [eV11]
  clear eV11
  obtain ⟨V12, eV12⟩ : ∃ W, V11.setCell ⟨w.heap.size, 12, none⟩ (.int .u64 (s : Int)) = W := ⟨_, rfl⟩
  have bb12 : Blk V12 w.heap.size 67 #[.int .i64 ser, .string iss, .string sub, .int .u64 (key : Int), .slice nA names.length nc, .int .i64 frm, .int .i64 unt, .bool ca, .int .i64 dep, .slice pA perm.length pc, .slice mA proms.length mc, .int .u64 (e : Int), .int .u64 (s : Int)] := by rw [← eV12]; exact bb11.set_ 12 _
  have gg12 : w1.grownBy V12 (some w.heap.size) := by rw [← eV12]; exact gg11.trans (grown_cell _ _ _ _)
  clear bb11 gg11
  rw [eV12]
  clear eV12
  obtain ⟨m0, m1, m2, m3, m4, m5, m6, m7, m8, m9, m10, m11, m12⟩ := lst13 bb12
  have h0 : w.heap.size < W0.heap.size := HB0.out.lt
  have xw : Ext w V12 := Ext.of ((HX0.out.trans x1).out.grown gg12 (HX0.out.trans x1).size (fun k e => by cases e; exact Nat.le_refl _))
  have hcs := HW1.out.keep (w' := V12) (S' := fun b => b < V12.heap.size) (fun a ha => World.cell?_of_block (gg12.block _ ha.2 (fun e => by injection e with e; have := ha.1; omega))) (fun b hb => Nat.lt_of_lt_of_le hb.2 gg12.size)
  exact bodyPost_ret (v := .tuple #[.agg #[.int .i64 ser, .string iss, .string sub, .int .u64 (key : Int), .slice nA names.length nc, .int .i64 frm, .int .i64 unt, .bool ca, .int .i64 dep, .slice pA perm.length pc, .slice mA proms.length mc, .int .u64 (e : Int), .int .u64 (s : Int)], .int .i64 0]) (by simp [results, Tryz.results23, go_sem, m0, m1, m2, m3, m4, m5, m6, m7, m8, m9, m10, m11, m12]) rfl ⟨nA, nc, pA, pc, mA, mc, rfl, hcs.crtW (fun b hb => hb), xw⟩
set_option maxRecDepth 100000 in
set_option maxHeartbeats 8000000 in
theorem cGetB_yes (c : CrtR) (hf : formC namP patP c) (A : Option Addr) (cap B : Nat) (w : World) (hc : (itB (bodT c)).length ≤ cap) (hk : KindsW w) (hB : B ≤ w.heap.size) (hr : Reads w B 1 A (itB (bodT c)).length (bv (itB (bodT c)))) :
    Calls Tryz.prog 25 #[.slice A (itB (bodT c)).length cap] w fun e w' => ∃ nA nc pA pc mA mc, e = .returned (.tuple #[crtV ⟨(bareC c true), nA, nc, pA, pc, mA, mc⟩, .int .i64 0]) ∧ CrtW w' w'.heap.size ⟨(bareC c true), nA, nc, pA, pc, mA, mc⟩ ∧ Ext w w' := by
  have hg := good_of hf
  obtain ⟨W0, e0⟩ : ∃ W, w.alloc (.cells #[.int .i64 0, .string ⟨#[]⟩, .string ⟨#[]⟩, .int .u64 0, .slice none 0 0, .int .i64 0, .int .i64 0, .bool false, .int .i64 0, .slice none 0 0, .slice none 0 0, .int .u64 0, .int .u64 0] 67) = W := ⟨_, rfl⟩
  have b0 : Blk W0 w.heap.size 67 #[.int .i64 0, .string ⟨#[]⟩, .string ⟨#[]⟩, .int .u64 0, .slice none 0 0, .int .i64 0, .int .i64 0, .bool false, .int .i64 0, .slice none 0 0, .slice none 0 0, .int .u64 0, .int .u64 0] := by rw [← e0]; exact Blk.new _ _ _
  have x0 : Ext w W0 := by rw [← e0]; exact (Ext.refl w).alloc _
  have c1 := get_any 79 rbody_enters [preT c, .s (c.proms.map prmT)] (itOk_le (bodT_ok hg) (by decide)) (Nat.le_trans (bodT_len hg) (by decide)) (bareC c true) (form_bare hf _) (rdF_body hg) A cap B W0 hc (hk.ext x0) (Nat.le_trans hB x0.size) (hr.below (Below.mono x0.out hB))
  have et : It.s [preT c, .s (c.proms.map prmT)] = bodT c := rfl
  rw [et] at c1
  obtain ⟨N, hN⟩ : ∃ N, (itB (bodT c)).length = N := ⟨_, rfl⟩
  rw [hN] at c1 ⊢
  clear et hN hc hr hf hg
  obtain ⟨C, hC⟩ : ∃ C, (bareC c true) = C := ⟨_, rfl⟩
  rw [hC] at c1 ⊢
  clear hC c
  obtain ⟨ser, iss, sub, key, names, frm, unt, ca, dep, perm, proms, e, s⟩ := C
  unfold crtV crtC at c1 ⊢
  dsimp only at c1 ⊢
  have HB0 := Lib.hid b0
  have HX0 := Lib.hid x0
  clear b0 x0 hk hB
  go_enter Tryz.func25, Tryz.ntmps25
  go_upto_region 1 with (fail)
  try rw [e0]
  clear e0
  go_wp2_with (go_at_call 76; refine c1.mono ?_; clear c1; rintro e w1 ⟨nA, nc, pA, pc, mA, mc, rfl, hw1, x1⟩; have b1 := ext_blk x1 HB0.out; have B1 := Lib.hid b1; obtain ⟨m0, m1, m2, m3, m4, m5, m6, m7, m8, m9, m10, m11, m12⟩ := lst13 b1; obtain ⟨f0, f1, f2, f3, f4, f5, f6, f7, f8, f9, f10, f11, f12⟩ := frz13 b1; have HW1 := Lib.hid hw1; clear b1 hw1)
  clear m0 m1 m2 m3 m4 m5 m6 m7 m8 m9 m10 m11 m12 f0 f1 f2 f3 f4 f5 f6 f7 f8 f9 f10 f11 f12
  have bb := B1.out
  have gg : w1.grownBy w1 (some w.heap.size) := ⟨rfl, rfl, rfl, Nat.le_refl _, fun _ _ _ => rfl⟩
  obtain ⟨V0, eV0⟩ : ∃ W, w1.setCell ⟨w.heap.size, 0, none⟩ (.int .i64 ser) = W := ⟨_, rfl⟩
  have bb0 : Blk V0 w.heap.size 67 #[.int .i64 ser, .string ⟨#[]⟩, .string ⟨#[]⟩, .int .u64 0, .slice none 0 0, .int .i64 0, .int .i64 0, .bool false, .int .i64 0, .slice none 0 0, .slice none 0 0, .int .u64 0, .int .u64 0] := by rw [← eV0]; exact bb.set_ 0 _
  have gg0 : w1.grownBy V0 (some w.heap.size) := by rw [← eV0]; exact gg.trans (grown_cell _ _ _ _)
  clear bb gg
  rw [eV0]
  clear eV0
  obtain ⟨V1, eV1⟩ : ∃ W, V0.setCell ⟨w.heap.size, 1, none⟩ (.string iss) = W := ⟨_, rfl⟩
  have bb1 : Blk V1 w.heap.size 67 #[.int .i64 ser, .string iss, .string ⟨#[]⟩, .int .u64 0, .slice none 0 0, .int .i64 0, .int .i64 0, .bool false, .int .i64 0, .slice none 0 0, .slice none 0 0, .int .u64 0, .int .u64 0] := by rw [← eV1]; exact bb0.set_ 1 _
  have gg1 : w1.grownBy V1 (some w.heap.size) := by rw [← eV1]; exact gg0.trans (grown_cell _ _ _ _)
  clear bb0 gg0
  rw [eV1]
  clear eV1
  obtain ⟨V2, eV2⟩ : ∃ W, V1.setCell ⟨w.heap.size, 2, none⟩ (.string sub) = W := ⟨_, rfl⟩
  have bb2 : Blk V2 w.heap.size 67 #[.int .i64 ser, .string iss, .string sub, .int .u64 0, .slice none 0 0, .int .i64 0, .int .i64 0, .bool false, .int .i64 0, .slice none 0 0, .slice none 0 0, .int .u64 0, .int .u64 0] := by rw [← eV2]; exact bb1.set_ 2 _
  have gg2 : w1.grownBy V2 (some w.heap.size) := by rw [← eV2]; exact gg1.trans (grown_cell _ _ _ _)
  clear bb1 gg1
  rw [eV2]
  clear eV2
  obtain ⟨V3, eV3⟩ : ∃ W, V2.setCell ⟨w.heap.size, 3, none⟩ (.int .u64 (key : Int)) = W := ⟨_, rfl⟩
  have bb3 : Blk V3 w.heap.size 67 #[.int .i64 ser, .string iss, .string sub, .int .u64 (key : Int), .slice none 0 0, .int .i64 0, .int .i64 0, .bool false, .int .i64 0, .slice none 0 0, .slice none 0 0, .int .u64 0, .int .u64 0] := by rw [← eV3]; exact bb2.set_ 3 _
  have gg3 : w1.grownBy V3 (some w.heap.size) := by rw [← eV3]; exact gg2.trans (grown_cell _ _ _ _)
  clear bb2 gg2
  rw [eV3]
  clear eV3
  obtain ⟨V4, eV4⟩ : ∃ W, V3.setCell ⟨w.heap.size, 4, none⟩ (.slice nA names.length nc) = W := ⟨_, rfl⟩
  have bb4 : Blk V4 w.heap.size 67 #[.int .i64 ser, .string iss, .string sub, .int .u64 (key : Int), .slice nA names.length nc, .int .i64 0, .int .i64 0, .bool false, .int .i64 0, .slice none 0 0, .slice none 0 0, .int .u64 0, .int .u64 0] := by rw [← eV4]; exact bb3.set_ 4 _
  have gg4 : w1.grownBy V4 (some w.heap.size) := by rw [← eV4]; exact gg3.trans (grown_cell _ _ _ _)
  clear bb3 gg3
  rw [eV4]
  clear eV4
  obtain ⟨V5, eV5⟩ : ∃ W, V4.setCell ⟨w.heap.size, 5, none⟩ (.int .i64 frm) = W := ⟨_, rfl⟩
  have bb5 : Blk V5 w.heap.size 67 #[.int .i64 ser, .string iss, .string sub, .int .u64 (key : Int), .slice nA names.length nc, .int .i64 frm, .int .i64 0, .bool false, .int .i64 0, .slice none 0 0, .slice none 0 0, .int .u64 0, .int .u64 0] := by rw [← eV5]; exact bb4.set_ 5 _
  have gg5 : w1.grownBy V5 (some w.heap.size) := by rw [← eV5]; exact gg4.trans (grown_cell _ _ _ _)
  clear bb4 gg4
  rw [eV5]
  clear eV5
  obtain ⟨V6, eV6⟩ : ∃ W, V5.setCell ⟨w.heap.size, 6, none⟩ (.int .i64 unt) = W := ⟨_, rfl⟩
  have bb6 : Blk V6 w.heap.size 67 #[.int .i64 ser, .string iss, .string sub, .int .u64 (key : Int), .slice nA names.length nc, .int .i64 frm, .int .i64 unt, .bool false, .int .i64 0, .slice none 0 0, .slice none 0 0, .int .u64 0, .int .u64 0] := by rw [← eV6]; exact bb5.set_ 6 _
  have gg6 : w1.grownBy V6 (some w.heap.size) := by rw [← eV6]; exact gg5.trans (grown_cell _ _ _ _)
  clear bb5 gg5
  rw [eV6]
  clear eV6
  obtain ⟨V7, eV7⟩ : ∃ W, V6.setCell ⟨w.heap.size, 7, none⟩ (.bool ca) = W := ⟨_, rfl⟩
  have bb7 : Blk V7 w.heap.size 67 #[.int .i64 ser, .string iss, .string sub, .int .u64 (key : Int), .slice nA names.length nc, .int .i64 frm, .int .i64 unt, .bool ca, .int .i64 0, .slice none 0 0, .slice none 0 0, .int .u64 0, .int .u64 0] := by rw [← eV7]; exact bb6.set_ 7 _
  have gg7 : w1.grownBy V7 (some w.heap.size) := by rw [← eV7]; exact gg6.trans (grown_cell _ _ _ _)
  clear bb6 gg6
  rw [eV7]
  clear eV7
  obtain ⟨V8, eV8⟩ : ∃ W, V7.setCell ⟨w.heap.size, 8, none⟩ (.int .i64 dep) = W := ⟨_, rfl⟩
  have bb8 : Blk V8 w.heap.size 67 #[.int .i64 ser, .string iss, .string sub, .int .u64 (key : Int), .slice nA names.length nc, .int .i64 frm, .int .i64 unt, .bool ca, .int .i64 dep, .slice none 0 0, .slice none 0 0, .int .u64 0, .int .u64 0] := by rw [← eV8]; exact bb7.set_ 8 _
  have gg8 : w1.grownBy V8 (some w.heap.size) := by rw [← eV8]; exact gg7.trans (grown_cell _ _ _ _)
  clear bb7 gg7
  rw [eV8]
  clear eV8
  obtain ⟨V9, eV9⟩ : ∃ W, V8.setCell ⟨w.heap.size, 9, none⟩ (.slice pA perm.length pc) = W := ⟨_, rfl⟩
  have bb9 : Blk V9 w.heap.size 67 #[.int .i64 ser, .string iss, .string sub, .int .u64 (key : Int), .slice nA names.length nc, .int .i64 frm, .int .i64 unt, .bool ca, .int .i64 dep, .slice pA perm.length pc, .slice none 0 0, .int .u64 0, .int .u64 0] := by rw [← eV9]; exact bb8.set_ 9 _
  have gg9 : w1.grownBy V9 (some w.heap.size) := by rw [← eV9]; exact gg8.trans (grown_cell _ _ _ _)
  clear bb8 gg8
  rw [eV9]
  clear eV9
  obtain ⟨V10, eV10⟩ : ∃ W, V9.setCell ⟨w.heap.size, 10, none⟩ (.slice mA proms.length mc) = W := ⟨_, rfl⟩
  have bb10 : Blk V10 w.heap.size 67 #[.int .i64 ser, .string iss, .string sub, .int .u64 (key : Int), .slice nA names.length nc, .int .i64 frm, .int .i64 unt, .bool ca, .int .i64 dep, .slice pA perm.length pc, .slice mA proms.length mc, .int .u64 0, .int .u64 0] := by rw [← eV10]; exact bb9.set_ 10 _
  have gg10 : w1.grownBy V10 (some w.heap.size) := by rw [← eV10]; exact gg9.trans (grown_cell _ _ _ _)
  clear bb9 gg9
  rw [eV10]
  clear eV10
  obtain ⟨V11, eV11⟩ : ∃ W, V10.setCell ⟨w.heap.size, 11, none⟩ (.int .u64 (e : Int)) = W := ⟨_, rfl⟩
  have bb11 : Blk V11 w.heap.size 67 #[.int .i64 ser, .string iss, .string sub, .int .u64 (key : Int), .slice nA names.length nc, .int .i64 frm, .int .i64 unt, .bool ca, .int .i64 dep, .slice pA perm.length pc, .slice mA proms.length mc, .int .u64 (e : Int), .int .u64 0] := by rw [← eV11]; exact bb10.set_ 11 _
  have gg11 : w1.grownBy V11 (some w.heap.size) := by rw [← eV11]; exact gg10.trans (grown_cell _ _ _ _)
  clear bb10 gg10
  rw [eV11]
  clear eV11
  obtain ⟨V12, eV12⟩ : ∃ W, V11.setCell ⟨w.heap.size, 12, none⟩ (.int .u64 (s : Int)) = W := ⟨_, rfl⟩
  have bb12 : Blk V12 w.heap.size 67 #[.int .i64 ser, .string iss, .string sub, .int .u64 (key : Int), .slice nA names.length nc, .int .i64 frm, .int .i64 unt, .bool ca, .int .i64 dep, .slice pA perm.length pc, .slice mA proms.length mc, .int .u64 (e : Int), .int .u64 (s : Int)] := by rw [← eV12]; exact bb11.set_ 12 _
  have gg12 : w1.grownBy V12 (some w.heap.size) := by rw [← eV12]; exact gg11.trans (grown_cell _ _ _ _)
  clear bb11 gg11
  rw [eV12]
  clear eV12
  obtain ⟨m0, m1, m2, m3, m4, m5, m6, m7, m8, m9, m10, m11, m12⟩ := lst13 bb12
  have h0 : w.heap.size < W0.heap.size := HB0.out.lt
  have xw : Ext w V12 := Ext.of ((HX0.out.trans x1).out.grown gg12 (HX0.out.trans x1).size (fun k e => by cases e; exact Nat.le_refl _))
  have hcs := HW1.out.keep (w' := V12) (S' := fun b => b < V12.heap.size) (fun a ha => World.cell?_of_block (gg12.block _ ha.2 (fun e => by injection e with e; have := ha.1; omega))) (fun b hb => Nat.lt_of_lt_of_le hb.2 gg12.size)
  exact bodyPost_ret (v := .tuple #[.agg #[.int .i64 ser, .string iss, .string sub, .int .u64 (key : Int), .slice nA names.length nc, .int .i64 frm, .int .i64 unt, .bool ca, .int .i64 dep, .slice pA perm.length pc, .slice mA proms.length mc, .int .u64 (e : Int), .int .u64 (s : Int)], .int .i64 0]) (by simp [results, Tryz.results25, go_sem, m0, m1, m2, m3, m4, m5, m6, m7, m8, m9, m10, m11, m12]) rfl ⟨nA, nc, pA, pc, mA, mc, rfl, hcs.crtW (fun b hb => hb), xw⟩
set_option maxRecDepth 100000 in
set_option maxHeartbeats 8000000 in
theorem cGetP_yes (c : CrtR) (hf : formC namP patP c) (A : Option Addr) (cap B : Nat) (w : World) (hc : (itB (preT c)).length ≤ cap) (hk : KindsW w) (hB : B ≤ w.heap.size) (hr : Reads w B 1 A (itB (preT c)).length (bv (itB (preT c)))) :
    Calls Tryz.prog 27 #[.slice A (itB (preT c)).length cap] w fun e w' => ∃ nA nc pA pc mA mc, e = .returned (.tuple #[crtV ⟨(bareC c false), nA, nc, pA, pc, mA, mc⟩, .int .i64 0]) ∧ CrtW w' w'.heap.size ⟨(bareC c false), nA, nc, pA, pc, mA, mc⟩ ∧ Ext w w' := by
  have hg := good_of hf
  obtain ⟨W0, e0⟩ : ∃ W, w.alloc (.cells #[.int .i64 0, .string ⟨#[]⟩, .string ⟨#[]⟩, .int .u64 0, .slice none 0 0, .int .i64 0, .int .i64 0, .bool false, .int .i64 0, .slice none 0 0, .slice none 0 0, .int .u64 0, .int .u64 0] 67) = W := ⟨_, rfl⟩
  have b0 : Blk W0 w.heap.size 67 #[.int .i64 0, .string ⟨#[]⟩, .string ⟨#[]⟩, .int .u64 0, .slice none 0 0, .int .i64 0, .int .i64 0, .bool false, .int .i64 0, .slice none 0 0, .slice none 0 0, .int .u64 0, .int .u64 0] := by rw [← e0]; exact Blk.new _ _ _
  have x0 : Ext w W0 := by rw [← e0]; exact (Ext.refl w).alloc _
  have c1 := get_any 81 rpre_enters (preL c) (itOk_le (preT_ok hg) (by decide)) (Nat.le_trans (preT_len hg) (by decide)) (bareC c false) (form_bare hf _) (rdF_pre hg) A cap B W0 hc (hk.ext x0) (Nat.le_trans hB x0.size) (hr.below (Below.mono x0.out hB))
  have et : It.s (preL c) = preT c := rfl
  rw [et] at c1
  obtain ⟨N, hN⟩ : ∃ N, (itB (preT c)).length = N := ⟨_, rfl⟩
  rw [hN] at c1 ⊢
  clear et hN hc hr hf hg
  obtain ⟨C, hC⟩ : ∃ C, (bareC c false) = C := ⟨_, rfl⟩
  rw [hC] at c1 ⊢
  clear hC c
  obtain ⟨ser, iss, sub, key, names, frm, unt, ca, dep, perm, proms, e, s⟩ := C
  unfold crtV crtC at c1 ⊢
  dsimp only at c1 ⊢
  have HB0 := Lib.hid b0
  have HX0 := Lib.hid x0
  clear b0 x0 hk hB
  go_enter Tryz.func27, Tryz.ntmps27
  go_upto_region 1 with (fail)
  try rw [e0]
  clear e0
  go_wp2_with (go_at_call 76; refine c1.mono ?_; clear c1; rintro e w1 ⟨nA, nc, pA, pc, mA, mc, rfl, hw1, x1⟩; have b1 := ext_blk x1 HB0.out; have B1 := Lib.hid b1; obtain ⟨m0, m1, m2, m3, m4, m5, m6, m7, m8, m9, m10, m11, m12⟩ := lst13 b1; obtain ⟨f0, f1, f2, f3, f4, f5, f6, f7, f8, f9, f10, f11, f12⟩ := frz13 b1; have HW1 := Lib.hid hw1; clear b1 hw1)
  clear m0 m1 m2 m3 m4 m5 m6 m7 m8 m9 m10 m11 m12 f0 f1 f2 f3 f4 f5 f6 f7 f8 f9 f10 f11 f12
  have bb := B1.out
  have gg : w1.grownBy w1 (some w.heap.size) := ⟨rfl, rfl, rfl, Nat.le_refl _, fun _ _ _ => rfl⟩
  obtain ⟨V0, eV0⟩ : ∃ W, w1.setCell ⟨w.heap.size, 0, none⟩ (.int .i64 ser) = W := ⟨_, rfl⟩
  have bb0 : Blk V0 w.heap.size 67 #[.int .i64 ser, .string ⟨#[]⟩, .string ⟨#[]⟩, .int .u64 0, .slice none 0 0, .int .i64 0, .int .i64 0, .bool false, .int .i64 0, .slice none 0 0, .slice none 0 0, .int .u64 0, .int .u64 0] := by rw [← eV0]; exact bb.set_ 0 _
  have gg0 : w1.grownBy V0 (some w.heap.size) := by rw [← eV0]; exact gg.trans (grown_cell _ _ _ _)
  clear bb gg
  rw [eV0]
  clear eV0
  obtain ⟨V1, eV1⟩ : ∃ W, V0.setCell ⟨w.heap.size, 1, none⟩ (.string iss) = W := ⟨_, rfl⟩
  have bb1 : Blk V1 w.heap.size 67 #[.int .i64 ser, .string iss, .string ⟨#[]⟩, .int .u64 0, .slice none 0 0, .int .i64 0, .int .i64 0, .bool false, .int .i64 0, .slice none 0 0, .slice none 0 0, .int .u64 0, .int .u64 0] := by rw [← eV1]; exact bb0.set_ 1 _
  have gg1 : w1.grownBy V1 (some w.heap.size) := by rw [← eV1]; exact gg0.trans (grown_cell _ _ _ _)
  clear bb0 gg0
  rw [eV1]
  clear eV1
  obtain ⟨V2, eV2⟩ : ∃ W, V1.setCell ⟨w.heap.size, 2, none⟩ (.string sub) = W := ⟨_, rfl⟩
  have bb2 : Blk V2 w.heap.size 67 #[.int .i64 ser, .string iss, .string sub, .int .u64 0, .slice none 0 0, .int .i64 0, .int .i64 0, .bool false, .int .i64 0, .slice none 0 0, .slice none 0 0, .int .u64 0, .int .u64 0] := by rw [← eV2]; exact bb1.set_ 2 _
  have gg2 : w1.grownBy V2 (some w.heap.size) := by rw [← eV2]; exact gg1.trans (grown_cell _ _ _ _)
  clear bb1 gg1
  rw [eV2]
  clear eV2
  obtain ⟨V3, eV3⟩ : ∃ W, V2.setCell ⟨w.heap.size, 3, none⟩ (.int .u64 (key : Int)) = W := ⟨_, rfl⟩
  have bb3 : Blk V3 w.heap.size 67 #[.int .i64 ser, .string iss, .string sub, .int .u64 (key : Int), .slice none 0 0, .int .i64 0, .int .i64 0, .bool false, .int .i64 0, .slice none 0 0, .slice none 0 0, .int .u64 0, .int .u64 0] := by rw [← eV3]; exact bb2.set_ 3 _
  have gg3 : w1.grownBy V3 (some w.heap.size) := by rw [← eV3]; exact gg2.trans (grown_cell _ _ _ _)
  clear bb2 gg2
  rw [eV3]
  clear eV3
  obtain ⟨V4, eV4⟩ : ∃ W, V3.setCell ⟨w.heap.size, 4, none⟩ (.slice nA names.length nc) = W := ⟨_, rfl⟩
  have bb4 : Blk V4 w.heap.size 67 #[.int .i64 ser, .string iss, .string sub, .int .u64 (key : Int), .slice nA names.length nc, .int .i64 0, .int .i64 0, .bool false, .int .i64 0, .slice none 0 0, .slice none 0 0, .int .u64 0, .int .u64 0] := by rw [← eV4]; exact bb3.set_ 4 _
  have gg4 : w1.grownBy V4 (some w.heap.size) := by rw [← eV4]; exact gg3.trans (grown_cell _ _ _ _)
  clear bb3 gg3
  rw [eV4]
  clear eV4
  obtain ⟨V5, eV5⟩ : ∃ W, V4.setCell ⟨w.heap.size, 5, none⟩ (.int .i64 frm) = W := ⟨_, rfl⟩
  have bb5 : Blk V5 w.heap.size 67 #[.int .i64 ser, .string iss, .string sub, .int .u64 (key : Int), .slice nA names.length nc, .int .i64 frm, .int .i64 0, .bool false, .int .i64 0, .slice none 0 0, .slice none 0 0, .int .u64 0, .int .u64 0] := by rw [← eV5]; exact bb4.set_ 5 _
  have gg5 : w1.grownBy V5 (some w.heap.size) := by rw [← eV5]; exact gg4.trans (grown_cell _ _ _ _)
  clear bb4 gg4
  rw [eV5]
  clear eV5
  obtain ⟨V6, eV6⟩ : ∃ W, V5.setCell ⟨w.heap.size, 6, none⟩ (.int .i64 unt) = W := ⟨_, rfl⟩
  have bb6 : Blk V6 w.heap.size 67 #[.int .i64 ser, .string iss, .string sub, .int .u64 (key : Int), .slice nA names.length nc, .int .i64 frm, .int .i64 unt, .bool false, .int .i64 0, .slice none 0 0, .slice none 0 0, .int .u64 0, .int .u64 0] := by rw [← eV6]; exact bb5.set_ 6 _
  have gg6 : w1.grownBy V6 (some w.heap.size) := by rw [← eV6]; exact gg5.trans (grown_cell _ _ _ _)
  clear bb5 gg5
  rw [eV6]
  clear eV6
  obtain ⟨V7, eV7⟩ : ∃ W, V6.setCell ⟨w.heap.size, 7, none⟩ (.bool ca) = W := ⟨_, rfl⟩
  have bb7 : Blk V7 w.heap.size 67 #[.int .i64 ser, .string iss, .string sub, .int .u64 (key : Int), .slice nA names.length nc, .int .i64 frm, .int .i64 unt, .bool ca, .int .i64 0, .slice none 0 0, .slice none 0 0, .int .u64 0, .int .u64 0] := by rw [← eV7]; exact bb6.set_ 7 _
  have gg7 : w1.grownBy V7 (some w.heap.size) := by rw [← eV7]; exact gg6.trans (grown_cell _ _ _ _)
  clear bb6 gg6
  rw [eV7]
  clear eV7
  obtain ⟨V8, eV8⟩ : ∃ W, V7.setCell ⟨w.heap.size, 8, none⟩ (.int .i64 dep) = W := ⟨_, rfl⟩
  have bb8 : Blk V8 w.heap.size 67 #[.int .i64 ser, .string iss, .string sub, .int .u64 (key : Int), .slice nA names.length nc, .int .i64 frm, .int .i64 unt, .bool ca, .int .i64 dep, .slice none 0 0, .slice none 0 0, .int .u64 0, .int .u64 0] := by rw [← eV8]; exact bb7.set_ 8 _
  have gg8 : w1.grownBy V8 (some w.heap.size) := by rw [← eV8]; exact gg7.trans (grown_cell _ _ _ _)
  clear bb7 gg7
  rw [eV8]
  clear eV8
  obtain ⟨V9, eV9⟩ : ∃ W, V8.setCell ⟨w.heap.size, 9, none⟩ (.slice pA perm.length pc) = W := ⟨_, rfl⟩
  have bb9 : Blk V9 w.heap.size 67 #[.int .i64 ser, .string iss, .string sub, .int .u64 (key : Int), .slice nA names.length nc, .int .i64 frm, .int .i64 unt, .bool ca, .int .i64 dep, .slice pA perm.length pc, .slice none 0 0, .int .u64 0, .int .u64 0] := by rw [← eV9]; exact bb8.set_ 9 _
  have gg9 : w1.grownBy V9 (some w.heap.size) := by rw [← eV9]; exact gg8.trans (grown_cell _ _ _ _)
  clear bb8 gg8
  rw [eV9]
  clear eV9
  obtain ⟨V10, eV10⟩ : ∃ W, V9.setCell ⟨w.heap.size, 10, none⟩ (.slice mA proms.length mc) = W := ⟨_, rfl⟩
  have bb10 : Blk V10 w.heap.size 67 #[.int .i64 ser, .string iss, .string sub, .int .u64 (key : Int), .slice nA names.length nc, .int .i64 frm, .int .i64 unt, .bool ca, .int .i64 dep, .slice pA perm.length pc, .slice mA proms.length mc, .int .u64 0, .int .u64 0] := by rw [← eV10]; exact bb9.set_ 10 _
  have gg10 : w1.grownBy V10 (some w.heap.size) := by rw [← eV10]; exact gg9.trans (grown_cell _ _ _ _)
  clear bb9 gg9
  rw [eV10]
  clear eV10
  obtain ⟨V11, eV11⟩ : ∃ W, V10.setCell ⟨w.heap.size, 11, none⟩ (.int .u64 (e : Int)) = W := ⟨_, rfl⟩
  have bb11 : Blk V11 w.heap.size 67 #[.int .i64 ser, .string iss, .string sub, .int .u64 (key : Int), .slice nA names.length nc, .int .i64 frm, .int .i64 unt, .bool ca, .int .i64 dep, .slice pA perm.length pc, .slice mA proms.length mc, .int .u64 (e : Int), .int .u64 0] := by rw [← eV11]; exact bb10.set_ 11 _
  have gg11 : w1.grownBy V11 (some w.heap.size) := by rw [← eV11]; exact gg10.trans (grown_cell _ _ _ _)
  clear bb10 gg10
  rw [eV11]
  clear eV11
  obtain ⟨V12, eV12⟩ : ∃ W, V11.setCell ⟨w.heap.size, 12, none⟩ (.int .u64 (s : Int)) = W := ⟨_, rfl⟩
  have bb12 : Blk V12 w.heap.size 67 #[.int .i64 ser, .string iss, .string sub, .int .u64 (key : Int), .slice nA names.length nc, .int .i64 frm, .int .i64 unt, .bool ca, .int .i64 dep, .slice pA perm.length pc, .slice mA proms.length mc, .int .u64 (e : Int), .int .u64 (s : Int)] := by rw [← eV12]; exact bb11.set_ 12 _
  have gg12 : w1.grownBy V12 (some w.heap.size) := by rw [← eV12]; exact gg11.trans (grown_cell _ _ _ _)
  clear bb11 gg11
  rw [eV12]
  clear eV12
  obtain ⟨m0, m1, m2, m3, m4, m5, m6, m7, m8, m9, m10, m11, m12⟩ := lst13 bb12
  have h0 : w.heap.size < W0.heap.size := HB0.out.lt
  have xw : Ext w V12 := Ext.of ((HX0.out.trans x1).out.grown gg12 (HX0.out.trans x1).size (fun k e => by cases e; exact Nat.le_refl _))
  have hcs := HW1.out.keep (w' := V12) (S' := fun b => b < V12.heap.size) (fun a ha => World.cell?_of_block (gg12.block _ ha.2 (fun e => by injection e with e; have := ha.1; omega))) (fun b hb => Nat.lt_of_lt_of_le hb.2 gg12.size)
  exact bodyPost_ret (v := .tuple #[.agg #[.int .i64 ser, .string iss, .string sub, .int .u64 (key : Int), .slice nA names.length nc, .int .i64 frm, .int .i64 unt, .bool ca, .int .i64 dep, .slice pA perm.length pc, .slice mA proms.length mc, .int .u64 (e : Int), .int .u64 (s : Int)], .int .i64 0]) (by simp [results, Tryz.results27, go_sem, m0, m1, m2, m3, m4, m5, m6, m7, m8, m9, m10, m11, m12]) rfl ⟨nA, nc, pA, pc, mA, mc, rfl, hcs.crtW (fun b hb => hb), xw⟩
end Go.Proofs.YtfpmfegmehbfbaaGreatDoor

/- Certificates, walked: few and short; bare. -/
namespace Go.Proofs.YtfpmfegmehbfbaaGreatDoor
set_option linter.unusedVariables false
set_option linter.unusedSimpArgs false
set_option linter.unusedSimpArgs false
open Go.RowKit Go.Shelf Go.Maps

/-- At most 16 texts, each of at most 200 bytes. -/
def litB (bs : List ByteArray) : Bool := decide (bs.length ≤ 16 ∧ ∀ b ∈ bs, b.size ≤ 200)
set_option maxRecDepth 100000 in
set_option maxHeartbeats 2000000 in
theorem little_any (bs : List ByteArray) (hl : bs.length ≤ 140737488351232) (A : Option Addr) (c : Nat) (w : World) (hr : Reads w w.heap.size 1 A bs.length (tv bs)) :
    Calls Tryz.prog 73 #[.slice A bs.length c] w fun e w' => e = .returned (.bool (litB bs)) ∧ w = w' := by
  have HR := Lib.hid hr
  have HL := Lib.hid hl
  clear hr hl
  go_enter Tryz.func73, Tryz.ntmps73
  go_wp2
  go_loopg [3] 20 (fun m s3 wr => ∃ j : Nat, j + m = 20 ∧ s3 = .int .i64 j ∧ j ≤ bs.length ∧ (∀ b ∈ bs.take j, b.size ≤ 200) ∧ w = wr)
  case atStart => exact ⟨0, by omega, rfl, Nat.zero_le _, by simp, rfl⟩
  case round =>
    obtain ⟨j, hj, rfl, hjl, hok, rfl⟩ := hrel
    have hlb : (bs.length : Int) ≤ 140737488351232 := by have := HL.out; omega
    have hjb : (j : Int) ≤ 20 := by omega
    by_cases h : j < bs.length
    · by_cases h30 : j < 20
      · obtain ⟨p, hp⟩ : ∃ s, bs[j]? = some s := ⟨_, List.getElem?_eq_getElem h⟩
        obtain ⟨g, k, rfl, -, hcl⟩ := reads_form HR.out (by omega)
        have q0 := hcl j (.string p) (by simp [tv, hp])
        have hpm := List.mem_of_getElem? hp
        have d1 : decide ((j : Int) < (bs.length : Int)) = true := by simp; omega
        have d2 : decide ((j : Int) < 20) = true := by simp; omega
        have d3 : (j : Int) < (bs.length : Int) := by omega
        have d4 : (j : Int) < 20 := by omega
        by_cases h5 : 200 < p.size
        · have d5 : decide ((200 : Int) < (p.size : Int)) = true := by simp; omega
          have kk : Hid (litB bs = false) := Lib.hid (decide_eq_false fun hh => by have := hh.2 p hpm; omega)
          clear hj hok hp hcl hpm hjl h30 h5
          go_wp2
          go_ret
          exact ⟨by rw [kk.out]; rfl, rfl⟩
        · have d5 : decide ((200 : Int) < (p.size : Int)) = false := by simp; omega
          have e1 : bs.take (j + 1) = bs.take j ++ [p] := by rw [List.take_add_one, hp]; rfl
          have hok2 : Hid (j + 1 ≤ bs.length ∧ j + 1 + (gk - 1) = 20 ∧ gk - 1 < gk ∧ ∀ b ∈ bs.take (j + 1), b.size ≤ 200) := Lib.hid ⟨by omega, by omega, by omega, fun b hb' => by
            rw [e1] at hb'
            rcases List.mem_append.1 hb' with hb' | hb'
            · exact hok b hb'
            · rw [List.mem_singleton] at hb'; subst hb'; omega⟩
          clear hj hok hp hcl hpm hjl h30 h5 e1
          go_wp2
          have hh := hok2.out
          go_roundg (gk - 1)
          case measure => exact hh.2.2.1
          case rel => exact ⟨j + 1, hh.2.1, int_congr (by omega), hh.1, hh.2.2.2, rfl⟩
      · have d1 : decide ((j : Int) < (bs.length : Int)) = true := by simp; omega
        have d2 : decide ((j : Int) < 20) = false := by simp; omega
        have d4 : ¬ (j : Int) < 20 := by omega
        have d3 : (j : Int) < (bs.length : Int) := by omega
        have d6 : decide ((bs.length : Int) ≤ 16) = false := by simp; omega
        have d7 : ¬ (bs.length : Int) ≤ 16 := by omega
        have kk : Hid (litB bs = false) := Lib.hid (decide_eq_false fun hh => by have := hh.1; omega)
        clear hj hok hjl h30 h
        go_wp2
        go_ret
        exact ⟨by rw [kk.out]; try rfl, rfl⟩
    · obtain rfl : j = bs.length := by omega
      rw [List.take_length] at hok
      have d1 : decide ((bs.length : Int) < (bs.length : Int)) = false := by simp
      by_cases h30 : bs.length ≤ 16
      · have d6 : decide ((bs.length : Int) ≤ 16) = true := by simp; omega
        have d7 : (bs.length : Int) ≤ 16 := by omega
        have kk : Hid (litB bs = true) := Lib.hid (decide_eq_true ⟨h30, hok⟩)
        clear hj hok hjl h h30
        go_wp2
        go_ret
        exact ⟨by rw [kk.out]; try rfl, rfl⟩
      · have d6 : decide ((bs.length : Int) ≤ 16) = false := by simp; omega
        have d7 : ¬ (bs.length : Int) ≤ 16 := by omega
        have kk : Hid (litB bs = false) := Lib.hid (decide_eq_false fun hh => h30 hh.1)
        clear hj hok hjl h h30
        go_wp2
        go_ret
        exact ⟨by rw [kk.out]; try rfl, rfl⟩
set_option maxRecDepth 100000 in
set_option maxHeartbeats 8000000 in
theorem Few_any (x : CrtX) (hn : x.r.names.length ≤ 140737488351232 ∧ x.r.perm.length ≤ 140737488351232) (w : World) (h1 : Reads w w.heap.size 1 x.nA x.r.names.length (tv x.r.names)) (h2 : Reads w w.heap.size 1 x.pA x.r.perm.length (tv x.r.perm)) :
    Calls Tryz.prog 21 #[crtV x] w fun e w' => ∃ b : Bool, e = .returned (.bool b) ∧ (b = true ↔ fewC x.r) ∧ Ext w w' := by
  obtain ⟨⟨ser, iss, sub, key, names, frm, unt, ca, dep, perm, proms, e, s⟩, nA, nc, pA, pc, mA, mc⟩ := x
  obtain ⟨W0, e0⟩ : ∃ W, w.alloc (.cells #[.int .i64 ser, .string iss, .string sub, .int .u64 (key : Int), .slice nA names.length nc, .int .i64 frm, .int .i64 unt, .bool ca, .int .i64 dep, .slice pA perm.length pc, .slice mA proms.length mc, .int .u64 (e : Int), .int .u64 (s : Int)] 67) = W := ⟨_, rfl⟩
  have b0 : Blk W0 w.heap.size 67 #[.int .i64 ser, .string iss, .string sub, .int .u64 (key : Int), .slice nA names.length nc, .int .i64 frm, .int .i64 unt, .bool ca, .int .i64 dep, .slice pA perm.length pc, .slice mA proms.length mc, .int .u64 (e : Int), .int .u64 (s : Int)] := by rw [← e0]; exact Blk.new _ _ _
  have x0 : Ext w W0 := by rw [← e0]; exact (Ext.refl w).alloc _
  unfold crtV crtC
  dsimp only at *
  have cN := little_any names hn.1 nA nc W0 ((h1.below x0.out).more x0.size)
  have cP := little_any perm hn.2 pA pc W0 ((h2.below x0.out).more x0.size)
  have few : fewC ⟨ser, iss, sub, key, names, frm, unt, ca, dep, perm, proms, e, s⟩ ↔ (iss.size ≤ 300 ∧ sub.size ≤ 300 ∧ litB names = true ∧ litB perm = true ∧ proms.length ≤ 8) := by
    unfold fewC litB
    simp
  obtain ⟨lN, hlN⟩ : ∃ b, litB names = b := ⟨_, rfl⟩
  obtain ⟨lP, hlP⟩ : ∃ b, litB perm = b := ⟨_, rfl⟩
  rw [hlN, hlP] at few
  rw [hlN] at cN
  rw [hlP] at cP
  obtain ⟨FC, hFC⟩ : ∃ P, fewC ⟨ser, iss, sub, key, names, frm, unt, ca, dep, perm, proms, e, s⟩ = P := ⟨_, rfl⟩
  rw [hFC] at few ⊢
  clear hFC hlN hlP
  obtain ⟨m0, m1, m2, m3, m4, m5, m6, m7, m8, m9, m10, m11, m12⟩ := lst13 b0
  have HX0 := Lib.hid x0
  clear b0 x0 h1 h2 hn
  by_cases h0 : iss.size ≤ 300
  · skip
    have d0a : decide (iss.size ≤ 300) = true := by simp; omega
    have d0b : decide ((iss.size : Int) ≤ 300) = true := by simp; omega
    have d0c :  (iss.size : Int) ≤ 300 := by omega
    by_cases h1 : sub.size ≤ 300
    · skip
      have d1a : decide (sub.size ≤ 300) = true := by simp; omega
      have d1b : decide ((sub.size : Int) ≤ 300) = true := by simp; omega
      have d1c :  (sub.size : Int) ≤ 300 := by omega
      cases lN with
      | false =>
        have few : FC ↔ False := by rw [few]; simp
        have FEW := Lib.hid few
        clear few
        go_enter Tryz.func21, Tryz.ntmps21
        go_upto_region 1 with (fail)
        try rw [e0]
        clear e0
        go_wp2_with (go_at_call 73; first | (refine cN.mono ?_; clear cN; rintro e w9 ⟨rfl, rfl⟩) | (refine cP.mono ?_; clear cP; rintro e w9 ⟨rfl, rfl⟩))
        go_ret
        first | exact ⟨_, rfl, by simp [FEW.out], HX0.out⟩ | exact ⟨_, rfl, by rw [FEW.out]; simp, HX0.out⟩ | exact ⟨by simp [FEW.out], HX0.out⟩ | exact HX0.out
      | true =>
        cases lP with
        | false =>
          have few : FC ↔ False := by rw [few]; simp
          have FEW := Lib.hid few
          clear few
          go_enter Tryz.func21, Tryz.ntmps21
          go_upto_region 1 with (fail)
          try rw [e0]
          clear e0
          go_wp2_with (go_at_call 73; first | (refine cN.mono ?_; clear cN; rintro e w9 ⟨rfl, rfl⟩) | (refine cP.mono ?_; clear cP; rintro e w9 ⟨rfl, rfl⟩))
          go_ret
          first | exact ⟨_, rfl, by simp [FEW.out], HX0.out⟩ | exact ⟨_, rfl, by rw [FEW.out]; simp, HX0.out⟩ | exact ⟨by simp [FEW.out], HX0.out⟩ | exact HX0.out
        | true =>
          by_cases h4 : proms.length ≤ 8
          · skip
            have d4a : decide (proms.length ≤ 8) = true := by simp; omega
            have d4b : decide ((proms.length : Int) ≤ 8) = true := by simp; omega
            have d4c :  (proms.length : Int) ≤ 8 := by omega
            have few : FC ↔ True := by rw [few]; simp [h0, h1, h4]
            have FEW := Lib.hid few
            clear few
            go_enter Tryz.func21, Tryz.ntmps21
            go_upto_region 1 with (fail)
            try rw [e0]
            clear e0
            go_wp2_with (go_at_call 73; first | (refine cN.mono ?_; clear cN; rintro e w9 ⟨rfl, rfl⟩) | (refine cP.mono ?_; clear cP; rintro e w9 ⟨rfl, rfl⟩))
            go_ret
            first | exact ⟨_, rfl, by simp [FEW.out], HX0.out⟩ | exact ⟨_, rfl, by rw [FEW.out]; simp, HX0.out⟩ | exact ⟨by simp [FEW.out], HX0.out⟩ | exact HX0.out
          · have few : FC ↔ False := by rw [few]; simp [h4]
            have d4a : decide (proms.length ≤ 8) = false := by simp; omega
            have d4b : decide ((proms.length : Int) ≤ 8) = false := by simp; omega
            have d4c : ¬ (proms.length : Int) ≤ 8 := by omega
            have FEW := Lib.hid few
            clear few
            go_enter Tryz.func21, Tryz.ntmps21
            go_upto_region 1 with (fail)
            try rw [e0]
            clear e0
            go_wp2_with (go_at_call 73; first | (refine cN.mono ?_; clear cN; rintro e w9 ⟨rfl, rfl⟩) | (refine cP.mono ?_; clear cP; rintro e w9 ⟨rfl, rfl⟩))
            go_ret
            first | exact ⟨_, rfl, by simp [FEW.out], HX0.out⟩ | exact ⟨_, rfl, by rw [FEW.out]; simp, HX0.out⟩ | exact ⟨by simp [FEW.out], HX0.out⟩ | exact HX0.out
    · have few : FC ↔ False := by rw [few]; simp [h1]
      have d1a : decide (sub.size ≤ 300) = false := by simp; omega
      have d1b : decide ((sub.size : Int) ≤ 300) = false := by simp; omega
      have d1c : ¬ (sub.size : Int) ≤ 300 := by omega
      have FEW := Lib.hid few
      clear few
      go_enter Tryz.func21, Tryz.ntmps21
      go_upto_region 1 with (fail)
      try rw [e0]
      clear e0
      go_wp2_with (go_at_call 73; first | (refine cN.mono ?_; clear cN; rintro e w9 ⟨rfl, rfl⟩) | (refine cP.mono ?_; clear cP; rintro e w9 ⟨rfl, rfl⟩))
      go_ret
      first | exact ⟨_, rfl, by simp [FEW.out], HX0.out⟩ | exact ⟨_, rfl, by rw [FEW.out]; simp, HX0.out⟩ | exact ⟨by simp [FEW.out], HX0.out⟩ | exact HX0.out
  · have few : FC ↔ False := by rw [few]; simp [h0]
    have d0a : decide (iss.size ≤ 300) = false := by simp; omega
    have d0b : decide ((iss.size : Int) ≤ 300) = false := by simp; omega
    have d0c : ¬ (iss.size : Int) ≤ 300 := by omega
    have FEW := Lib.hid few
    clear few
    go_enter Tryz.func21, Tryz.ntmps21
    go_upto_region 1 with (fail)
    try rw [e0]
    clear e0
    go_wp2_with (go_at_call 73; first | (refine cN.mono ?_; clear cN; rintro e w9 ⟨rfl, rfl⟩) | (refine cP.mono ?_; clear cP; rintro e w9 ⟨rfl, rfl⟩))
    go_ret
    first | exact ⟨_, rfl, by simp [FEW.out], HX0.out⟩ | exact ⟨_, rfl, by rw [FEW.out]; simp, HX0.out⟩ | exact ⟨by simp [FEW.out], HX0.out⟩ | exact HX0.out
end Go.Proofs.YtfpmfegmehbfbaaGreatDoor
