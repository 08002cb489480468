/- Parts of the proofs, put together: CtE6, CtE7. -/
import Derived.Test.YtfpmfegmehbfbaaGreatDoorZ36
/- Certificates, walked: what a log is told, as an item. -/
namespace Go.Proofs.YtfpmfegmehbfbaaGreatDoor
set_option linter.unusedVariables false
set_option linter.unusedSimpArgs false
set_option linter.unusedSimpArgs false
open Go.RowKit Go.Shelf Go.Maps

theorem textS (s : ByteArray) (w : World) : Calls Tryz.prog 157 #[.string s] w fun e w' => ∃ v, e = .returned (itV v) ∧ ItS w' (fun b => w.heap.size ≤ b ∧ b < w'.heap.size) (txtT s) v ∧ Ext w w' :=
  (dText_any s w).mono fun e w' ⟨v, he, hv, hf, hx⟩ => ⟨v, he, itS_p hv (fun ad ea hb => ⟨hf ad ea, hb⟩), hx⟩
theorem kid_s {wk w9 : World} {m B : Nat} {t : It} {v : ItV} (hv : ItS wk (fun b => B ≤ b ∧ b < wk.heap.size) t v) (hB : m ≤ B) (x : Ext wk w9) : ItS w9 (fun b => m ≤ b ∧ b < w9.heap.size) t v :=
  hv.keep (fun p hp => x.out.cell hp.2) (fun b hb => ⟨Nat.le_trans hB hb.1, Nat.lt_of_lt_of_le hb.2 x.size⟩)
theorem numC_int {n : Int} (h : numC n) : 0 ≤ n ∧ n < 9223372036854775808 := by unfold numC at h; omega
set_option maxRecDepth 100000 in
set_option maxHeartbeats 8000000 in
theorem pre_any (x : CrtX) (hg : GoodC x.r) (w : World) (hw : CrtW w w.heap.size x) : Calls Tryz.prog 80 #[crtV x] w fun e w' => ∃ v, e = .returned (itV v) ∧ ItS w' (fun b => w.heap.size ≤ b ∧ b < w'.heap.size) (preT x.r) v ∧ Ext w w' := by
  obtain ⟨⟨ser, iss, sub, key, names, frm, unt, ca, dep, perm, proms, e, s⟩, nA, nc, pA, pc, mA, mc⟩ := x
  unfold crtV crtC
  dsimp only at hg hw ⊢
  obtain ⟨W1, e1, b1, b2, x1⟩ := boxes2 w #[.int .i64 ser, .string iss, .string sub, .int .u64 (key : Int), .slice nA names.length nc, .int .i64 frm, .int .i64 unt, .bool ca, .int .i64 dep, .slice pA perm.length pc, .slice mA proms.length mc, .int .u64 (e : Int), .int .u64 (s : Int)] #[.int .i64 0, .slice none 0 0, .slice none 0 0] 67 77
  have hs1 : W1.heap.size = w.heap.size + 2 := by rw [← e1]; simp
  have c5 := dIntZ ser (numC_int hg.ser)
  have c8 := dText_any iss
  have c11 := dText_any sub
  have c14 := big_any key hg.key
  have c17 := fun W (X : Ext W1 W) => seqT_any names (by have := hw.few.2.2.1.1; dsimp only at this; omega) nA nc W (hw.ext (x1.trans X)).names (fun s _ W _ => textS s W)
  have c20 := dIntZ frm (numC_int hg.frm)
  have c23 := dIntZ unt (numC_int hg.unt)
  have c26 := dBool_any ca
  have c29 := dIntZ dep (numC_int hg.dep)
  have c32 := fun W (X : Ext W1 W) => seqT_any perm (by have := hw.few.2.2.2.1.1; dsimp only at this; omega) pA pc W (hw.ext (x1.trans X)).perm (fun s _ W _ => textS s W)
  have cS := dSeq_any 10

  unfold itV at c5 c8 c11 c14 c17 c20 c23 c26 c29 c32 cS
  have HC1 := Lib.hid fun (V : World) (e : Ext W1 V) => And.intro ((ext_blk e b1).cell 0) (And.intro ((ext_blk e b1).cell 1) (And.intro ((ext_blk e b1).cell 2) (And.intro ((ext_blk e b1).cell 3) (And.intro ((ext_blk e b1).cell 4) (And.intro ((ext_blk e b1).cell 5) (And.intro ((ext_blk e b1).cell 6) (And.intro ((ext_blk e b1).cell 7) (And.intro ((ext_blk e b1).cell 8) ((ext_blk e b1).cell 9)))))))))
  have HB2 := Lib.hid b2
  have HX1 := Lib.hid x1
  have HS1 := Lib.hid hs1
  clear b1 b2 x1 hs1 hg hw
  go_enter Tryz.func80, Tryz.ntmps80
  go_upto_region 1 with (fail)
  try rw [e1]
  clear e1
  refine E_start (n := 33) (ls := #[false, false, false, false, false, false, false, false, false, false, false, false, false, false, false, false, false, false, false, false, false, false, false, false, false, false, false, false, false, false, false, false, false]) (fun w' => w'.cell? ⟨w.heap.size, 0, none⟩ = some (.int .i64 ser) ∧ w'.cell? ⟨w.heap.size, 1, none⟩ = some (.string iss) ∧ w'.cell? ⟨w.heap.size, 2, none⟩ = some (.string sub) ∧ w'.cell? ⟨w.heap.size, 3, none⟩ = some (.int .u64 (key : Int)) ∧ w'.cell? ⟨w.heap.size, 4, none⟩ = some (.slice nA names.length nc) ∧ w'.cell? ⟨w.heap.size, 5, none⟩ = some (.int .i64 frm) ∧ w'.cell? ⟨w.heap.size, 6, none⟩ = some (.int .i64 unt) ∧ w'.cell? ⟨w.heap.size, 7, none⟩ = some (.bool ca) ∧ w'.cell? ⟨w.heap.size, 8, none⟩ = some (.int .i64 dep) ∧ w'.cell? ⟨w.heap.size, 9, none⟩ = some (.slice pA perm.length pc)) 32 (by kernel_rfl) (by kernel_rfl) (by kernel_rfl) (HC1.out _ (Ext.refl W1).drew) (fun hHeld => ?_)
  refine E_tk (i := 0) (some 3) (v := ?_) rfl rfl (by kernel_rfl) hHeld (fun w hSw => ?_) ?_; rotate_left 1
  · (try dsimp only at hSw); go_simp; try with_reducible rfl
  try simp only [Act.put, List.setIfInBounds_toArray, List.set_cons_zero, List.set_cons_succ]
  refine E_tk (i := 1) (some 4) (v := ?_) rfl rfl (by kernel_rfl) hHeld (fun w hSw => ?_) ?_; rotate_left 1
  · (try dsimp only at hSw); go_simp; try with_reducible rfl
  try simp only [Act.put, List.setIfInBounds_toArray, List.set_cons_zero, List.set_cons_succ]
  refine E_tk (i := 3) (some 6) (v := ?_) rfl rfl (by kernel_rfl) hHeld (fun w hSw => ?_) ?_; rotate_left 1
  · (try dsimp only at hSw); go_simp; try with_reducible rfl
  try simp only [Act.put, List.setIfInBounds_toArray, List.set_cons_zero, List.set_cons_succ]
  refine E_tk (i := 4) (some 7) (v := ?_) rfl rfl (by kernel_rfl) hHeld (fun w hSw => ?_) ?_; rotate_left 1
  · (try dsimp only at hSw); go_simp; try with_reducible rfl
  try simp only [Act.put, List.setIfInBounds_toArray, List.set_cons_zero, List.set_cons_succ]
  refine E_tk (i := 6) (some 9) (v := ?_) rfl rfl (by kernel_rfl) hHeld (fun w hSw => ?_) ?_; rotate_left 1
  · (try dsimp only at hSw); go_simp; try with_reducible rfl
  try simp only [Act.put, List.setIfInBounds_toArray, List.set_cons_zero, List.set_cons_succ]
  refine E_tk (i := 7) (some 10) (v := ?_) rfl rfl (by kernel_rfl) hHeld (fun w hSw => ?_) ?_; rotate_left 1
  · (try dsimp only at hSw); go_simp; try with_reducible rfl
  try simp only [Act.put, List.setIfInBounds_toArray, List.set_cons_zero, List.set_cons_succ]
  refine E_tk (i := 9) (some 12) (v := ?_) rfl rfl (by kernel_rfl) hHeld (fun w hSw => ?_) ?_; rotate_left 1
  · (try dsimp only at hSw); go_simp; try with_reducible rfl
  try simp only [Act.put, List.setIfInBounds_toArray, List.set_cons_zero, List.set_cons_succ]
  refine E_tk (i := 10) (some 13) (v := ?_) rfl rfl (by kernel_rfl) hHeld (fun w hSw => ?_) ?_; rotate_left 1
  · (try dsimp only at hSw); go_simp; try with_reducible rfl
  try simp only [Act.put, List.setIfInBounds_toArray, List.set_cons_zero, List.set_cons_succ]
  refine E_tk (i := 12) (some 15) (v := ?_) rfl rfl (by kernel_rfl) hHeld (fun w hSw => ?_) ?_; rotate_left 1
  · (try dsimp only at hSw); go_simp; try with_reducible rfl
  try simp only [Act.put, List.setIfInBounds_toArray, List.set_cons_zero, List.set_cons_succ]
  refine E_tk (i := 13) (some 16) (v := ?_) rfl rfl (by kernel_rfl) hHeld (fun w hSw => ?_) ?_; rotate_left 1
  · (try dsimp only at hSw); go_simp; try with_reducible rfl
  try simp only [Act.put, List.setIfInBounds_toArray, List.set_cons_zero, List.set_cons_succ]
  refine E_tk (i := 15) (some 18) (v := ?_) rfl rfl (by kernel_rfl) hHeld (fun w hSw => ?_) ?_; rotate_left 1
  · (try dsimp only at hSw); go_simp; try with_reducible rfl
  try simp only [Act.put, List.setIfInBounds_toArray, List.set_cons_zero, List.set_cons_succ]
  refine E_tk (i := 16) (some 19) (v := ?_) rfl rfl (by kernel_rfl) hHeld (fun w hSw => ?_) ?_; rotate_left 1
  · (try dsimp only at hSw); go_simp; try with_reducible rfl
  try simp only [Act.put, List.setIfInBounds_toArray, List.set_cons_zero, List.set_cons_succ]
  refine E_tk (i := 18) (some 21) (v := ?_) rfl rfl (by kernel_rfl) hHeld (fun w hSw => ?_) ?_; rotate_left 1
  · (try dsimp only at hSw); go_simp; try with_reducible rfl
  try simp only [Act.put, List.setIfInBounds_toArray, List.set_cons_zero, List.set_cons_succ]
  refine E_tk (i := 19) (some 22) (v := ?_) rfl rfl (by kernel_rfl) hHeld (fun w hSw => ?_) ?_; rotate_left 1
  · (try dsimp only at hSw); go_simp; try with_reducible rfl
  try simp only [Act.put, List.setIfInBounds_toArray, List.set_cons_zero, List.set_cons_succ]
  refine E_tk (i := 21) (some 24) (v := ?_) rfl rfl (by kernel_rfl) hHeld (fun w hSw => ?_) ?_; rotate_left 1
  · (try dsimp only at hSw); go_simp; try with_reducible rfl
  try simp only [Act.put, List.setIfInBounds_toArray, List.set_cons_zero, List.set_cons_succ]
  refine E_tk (i := 22) (some 25) (v := ?_) rfl rfl (by kernel_rfl) hHeld (fun w hSw => ?_) ?_; rotate_left 1
  · (try dsimp only at hSw); go_simp; try with_reducible rfl
  try simp only [Act.put, List.setIfInBounds_toArray, List.set_cons_zero, List.set_cons_succ]
  refine E_tk (i := 24) (some 27) (v := ?_) rfl rfl (by kernel_rfl) hHeld (fun w hSw => ?_) ?_; rotate_left 1
  · (try dsimp only at hSw); go_simp; try with_reducible rfl
  try simp only [Act.put, List.setIfInBounds_toArray, List.set_cons_zero, List.set_cons_succ]
  refine E_tk (i := 25) (some 28) (v := ?_) rfl rfl (by kernel_rfl) hHeld (fun w hSw => ?_) ?_; rotate_left 1
  · (try dsimp only at hSw); go_simp; try with_reducible rfl
  try simp only [Act.put, List.setIfInBounds_toArray, List.set_cons_zero, List.set_cons_succ]
  refine E_tk (i := 27) (some 30) (v := ?_) rfl rfl (by kernel_rfl) hHeld (fun w hSw => ?_) ?_; rotate_left 1
  · (try dsimp only at hSw); go_simp; try with_reducible rfl
  try simp only [Act.put, List.setIfInBounds_toArray, List.set_cons_zero, List.set_cons_succ]
  refine E_tk (i := 28) (some 31) (v := ?_) rfl rfl (by kernel_rfl) hHeld (fun w hSw => ?_) ?_; rotate_left 1
  · (try dsimp only at hSw); go_simp; try with_reducible rfl
  try simp only [Act.put, List.setIfInBounds_toArray, List.set_cons_zero, List.set_cons_succ]
  refine E_on (i := 2) rfl (by kernel_rfl) (by kernel_rfl) (fun K hK => ?_)
  go_simp
  go_at_call 42
  refine (c5 _).mono ?_
  clear c5
  rintro e w5 ⟨v5, rfl, hv5, hf5, x5⟩
  have X5 : Ext W1 w5 := (Ext.refl W1).drew.trans x5
  replace hHeld := HC1.out _ X5
  refine hK _ _ (fun _ => hHeld) ?_
  clear hK K
  try simp only [Act.put, List.setIfInBounds_toArray, List.set_cons_zero, List.set_cons_succ]
  refine E_on (i := 5) rfl (by kernel_rfl) (by kernel_rfl) (fun K hK => ?_)
  go_simp
  go_at_call 157
  refine (c8 _).mono ?_
  clear c8
  rintro e w8 ⟨v8, rfl, hv8, hf8, x8⟩
  have X8 : Ext W1 w8 := X5.trans x8
  replace hHeld := HC1.out _ X8
  refine hK _ _ (fun _ => hHeld) ?_
  clear hK K
  try simp only [Act.put, List.setIfInBounds_toArray, List.set_cons_zero, List.set_cons_succ]
  refine E_on (i := 8) rfl (by kernel_rfl) (by kernel_rfl) (fun K hK => ?_)
  go_simp
  go_at_call 157
  refine (c11 _).mono ?_
  clear c11
  rintro e w11 ⟨v11, rfl, hv11, hf11, x11⟩
  have X11 : Ext W1 w11 := X8.trans x11
  replace hHeld := HC1.out _ X11
  refine hK _ _ (fun _ => hHeld) ?_
  clear hK K
  try simp only [Act.put, List.setIfInBounds_toArray, List.set_cons_zero, List.set_cons_succ]
  refine E_on (i := 11) rfl (by kernel_rfl) (by kernel_rfl) (fun K hK => ?_)
  go_simp
  go_at_call 147
  refine (c14 _).mono ?_
  clear c14
  rintro e w14 ⟨v14, rfl, hv14, hf14, x14⟩
  have X14 : Ext W1 w14 := X11.trans x14
  replace hHeld := HC1.out _ X14
  refine hK _ _ (fun _ => hHeld) ?_
  clear hK K
  try simp only [Act.put, List.setIfInBounds_toArray, List.set_cons_zero, List.set_cons_succ]
  refine E_on (i := 14) rfl (by kernel_rfl) (by kernel_rfl) (fun K hK => ?_)
  go_simp
  go_at_call 158
  refine (c17 _ X14).mono ?_
  rintro e w17 ⟨v17, rfl, hv17, x17⟩
  have X17 : Ext W1 w17 := X14.trans x17
  replace hHeld := HC1.out _ X17
  refine hK _ _ (fun _ => hHeld) ?_
  clear hK K
  try simp only [Act.put, List.setIfInBounds_toArray, List.set_cons_zero, List.set_cons_succ]
  refine E_on (i := 17) rfl (by kernel_rfl) (by kernel_rfl) (fun K hK => ?_)
  go_simp
  go_at_call 42
  refine (c20 _).mono ?_
  clear c20
  rintro e w20 ⟨v20, rfl, hv20, hf20, x20⟩
  have X20 : Ext W1 w20 := X17.trans x20
  replace hHeld := HC1.out _ X20
  refine hK _ _ (fun _ => hHeld) ?_
  clear hK K
  try simp only [Act.put, List.setIfInBounds_toArray, List.set_cons_zero, List.set_cons_succ]
  refine E_on (i := 20) rfl (by kernel_rfl) (by kernel_rfl) (fun K hK => ?_)
  go_simp
  go_at_call 42
  refine (c23 _).mono ?_
  clear c23
  rintro e w23 ⟨v23, rfl, hv23, hf23, x23⟩
  have X23 : Ext W1 w23 := X20.trans x23
  replace hHeld := HC1.out _ X23
  refine hK _ _ (fun _ => hHeld) ?_
  clear hK K
  try simp only [Act.put, List.setIfInBounds_toArray, List.set_cons_zero, List.set_cons_succ]
  refine E_on (i := 23) rfl (by kernel_rfl) (by kernel_rfl) (fun K hK => ?_)
  go_simp
  go_at_call 159
  refine (c26 _).mono ?_
  clear c26
  rintro e w26 ⟨v26, rfl, hv26, hf26, x26⟩
  have X26 : Ext W1 w26 := X23.trans x26
  replace hHeld := HC1.out _ X26
  refine hK _ _ (fun _ => hHeld) ?_
  clear hK K
  try simp only [Act.put, List.setIfInBounds_toArray, List.set_cons_zero, List.set_cons_succ]
  refine E_on (i := 26) rfl (by kernel_rfl) (by kernel_rfl) (fun K hK => ?_)
  go_simp
  go_at_call 42
  refine (c29 _).mono ?_
  clear c29
  rintro e w29 ⟨v29, rfl, hv29, hf29, x29⟩
  have X29 : Ext W1 w29 := X26.trans x29
  replace hHeld := HC1.out _ X29
  refine hK _ _ (fun _ => hHeld) ?_
  clear hK K
  try simp only [Act.put, List.setIfInBounds_toArray, List.set_cons_zero, List.set_cons_succ]
  refine E_on (i := 29) rfl (by kernel_rfl) (by kernel_rfl) (fun K hK => ?_)
  go_simp
  go_at_call 158
  refine (c32 _ X29).mono ?_
  rintro e w32 ⟨v32, rfl, hv32, x32⟩
  have X32 : Ext W1 w32 := X29.trans x32
  replace hHeld := HC1.out _ X32
  refine hK _ _ (fun _ => hHeld) ?_
  clear hK K
  try simp only [Act.put, List.setIfInBounds_toArray, List.set_cons_zero, List.set_cons_succ]
  refine E_on (i := 30) rfl (by kernel_rfl) (by kernel_rfl) (fun K hK => ?_)
  go_simp
  replace hHeld := HC1.out _ (X32.alloc (.cells #[.int .i64 (v5.tag : Int), .slice v5.A v5.n v5.c, .slice v5.A2 v5.n2 v5.c2, .int .i64 (v8.tag : Int), .slice v8.A v8.n v8.c, .slice v8.A2 v8.n2 v8.c2, .int .i64 (v11.tag : Int), .slice v11.A v11.n v11.c, .slice v11.A2 v11.n2 v11.c2, .int .i64 (v14.tag : Int), .slice v14.A v14.n v14.c, .slice v14.A2 v14.n2 v14.c2, .int .i64 (v17.tag : Int), .slice v17.A v17.n v17.c, .slice v17.A2 v17.n2 v17.c2, .int .i64 (v20.tag : Int), .slice v20.A v20.n v20.c, .slice v20.A2 v20.n2 v20.c2, .int .i64 (v23.tag : Int), .slice v23.A v23.n v23.c, .slice v23.A2 v23.n2 v23.c2, .int .i64 (v26.tag : Int), .slice v26.A v26.n v26.c, .slice v26.A2 v26.n2 v26.c2, .int .i64 (v29.tag : Int), .slice v29.A v29.n v29.c, .slice v29.A2 v29.n2 v29.c2, .int .i64 (v32.tag : Int), .slice v32.A v32.n v32.c, .slice v32.A2 v32.n2 v32.c2] 77))
  refine hK _ _ (fun _ => hHeld) ?_
  clear hK K
  try simp only [Act.put, List.setIfInBounds_toArray, List.set_cons_zero, List.set_cons_succ]
  refine E_on (i := 31) rfl (by kernel_rfl) (by kernel_rfl) (fun K hK => ?_)
  go_simp
  go_at_call 146
  refine (cS [v5, v8, v11, v14, v17, v20, v23, v26, v29, v32] (by decide) _ _ _ (reads_row3 w32 [v5, v8, v11, v14, v17, v20, v23, v26, v29, v32])).mono ?_
  clear cS
  rintro e w34 ⟨v34, rfl, hv34, hf34, x34⟩
  have X34 : Ext W1 w34 := (X32.alloc _).trans x34
  have XR : Ext w32 w34 := ((Ext.refl w32).alloc _).trans x34
  have k3 := ext_blk X34 HB2.out
  have n0 := k3.cell 0
  have n1 := k3.cell 1
  have n2 := k3.cell 2
  have f0 := k3.frozen 0
  have f1 := k3.frozen 1
  have f2 := k3.frozen 2
  replace hHeld := HC1.out _ X34
  refine hK _ _ (fun _ => hHeld) ?_
  clear hK K
  try simp only [Act.put, List.setIfInBounds_toArray, List.set_cons_zero, List.set_cons_succ]
  refine E_on (i := 32) rfl (by kernel_rfl) (by kernel_rfl) (fun K hK => ?_)
  go_simp
  refine hK _ _ (fun h => absurd rfl h) ?_
  clear hK K
  try simp only [Act.put, List.setIfInBounds_toArray, List.set_cons_zero, List.set_cons_succ]
  refine E_done (by kernel_rfl) ?_
  go_wp2
  obtain ⟨WF, eF, bF, xF, kF, sF⟩ := item_putG (w := w) (Nat.le_succ _) k3 (HX1.out.trans X34) (.int .i64 (v34.tag : Int)) (.slice v34.A v34.n v34.c) (.slice v34.A2 v34.n2 v34.c2)
  rw [← eF]
  clear eF n0 n1 n2 f0 f1 f2 hHeld
  have y0 := bF.cell 0
  have y1 := bF.cell 1
  have y2 := bF.cell 2
  have hs1 := HS1.out
  have g5 := X5.size
  have g8 := X8.size
  have g11 := X11.size
  have g14 := X14.size
  have g17 := X17.size
  have g20 := X20.size
  have g23 := X23.size
  have g26 := X26.size
  have g29 := X29.size
  have g32 := X32.size
  refine bodyPost_ret (v := .agg #[.int .i64 (v34.tag : Int), .slice v34.A v34.n v34.c, .slice v34.A2 v34.n2 v34.c2]) (by simp [results, Tryz.results80, go_sem, y0, y1, y2]) rfl ⟨v34, rfl, ?_, xF⟩
  have hch : ItsS w34 (fun b => w.heap.size + 2 ≤ b ∧ b < w34.heap.size) [natT ser.toNat, txtT iss, txtT sub, natT key, .s (names.map txtT), natT frm.toNat, natT unt.toNat, boolT ca, natT dep.toNat, .s (perm.map txtT)] [v5, v8, v11, v14, v17, v20, v23, v26, v29, v32] := by
    simp only [ItsS_cons, ItsS_nil]
    refine ⟨_, _, rfl, kid_p hv5 hf5 (by show _ ≤ W1.heap.size; omega) (x8.trans (x11.trans (x14.trans (x17.trans (x20.trans (x23.trans (x26.trans (x29.trans (x32.trans XR))))))))), _, _, rfl, kid_p hv8 hf8 (by omega) (x11.trans (x14.trans (x17.trans (x20.trans (x23.trans (x26.trans (x29.trans (x32.trans XR)))))))), _, _, rfl, kid_p hv11 hf11 (by omega) (x14.trans (x17.trans (x20.trans (x23.trans (x26.trans (x29.trans (x32.trans XR))))))), _, _, rfl, kid_p hv14 hf14 (by omega) (x17.trans (x20.trans (x23.trans (x26.trans (x29.trans (x32.trans XR)))))), _, _, rfl, kid_s hv17 (by omega) (x20.trans (x23.trans (x26.trans (x29.trans (x32.trans XR))))), _, _, rfl, kid_p hv20 hf20 (by omega) (x23.trans (x26.trans (x29.trans (x32.trans XR)))), _, _, rfl, kid_p hv23 hf23 (by omega) (x26.trans (x29.trans (x32.trans XR))), _, _, rfl, kid_p hv26 hf26 (by omega) (x29.trans (x32.trans XR)), _, _, rfl, kid_p hv29 hf29 (by omega) (x32.trans XR), _, _, rfl, kid_s hv32 (by omega) XR, rfl⟩
  have hS : ItS w34 (fun b => w.heap.size + 2 ≤ b ∧ b < w34.heap.size) (preT ⟨ser, iss, sub, key, names, frm, unt, ca, dep, perm, proms, e, s⟩) v34 := SeqO.itS hv34 hf34 (fun b h1 h2 => ⟨by rw [World.size_alloc] at h1; omega, h2⟩) hch
  exact hS.keep (fun q hq => kF q (by have := hq.1; omega)) (fun b hb => ⟨by omega, by rw [sF]; exact hb.2⟩)
end Go.Proofs.YtfpmfegmehbfbaaGreatDoor

/- Certificates, walked: what is signed, and all of one, as items. -/
namespace Go.Proofs.YtfpmfegmehbfbaaGreatDoor
set_option linter.unusedVariables false
set_option linter.unusedSimpArgs false
set_option linter.unusedSimpArgs false
open Go.RowKit Go.Shelf Go.Maps

set_option maxRecDepth 100000 in
set_option maxHeartbeats 8000000 in
theorem body_any (x : CrtX) (hg : GoodC x.r) (w : World) (hw : CrtW w w.heap.size x) : Calls Tryz.prog 78 #[crtV x] w fun e w' => ∃ v, e = .returned (itV v) ∧ ItS w' (fun b => w.heap.size ≤ b ∧ b < w'.heap.size) (bodT x.r) v ∧ Ext w w' := by
  obtain ⟨⟨ser, iss, sub, key, names, frm, unt, ca, dep, perm, proms, e, s⟩, nA, nc, pA, pc, mA, mc⟩ := x
  unfold crtV crtC
  dsimp only at hg hw ⊢
  obtain ⟨W1, e1, b1, b2, x1⟩ := boxes2 w #[.int .i64 ser, .string iss, .string sub, .int .u64 (key : Int), .slice nA names.length nc, .int .i64 frm, .int .i64 unt, .bool ca, .int .i64 dep, .slice pA perm.length pc, .slice mA proms.length mc, .int .u64 (e : Int), .int .u64 (s : Int)] #[.int .i64 0, .slice none 0 0, .slice none 0 0] 67 77
  have hs1 : W1.heap.size = w.heap.size + 2 := by rw [← e1]; simp
  have c4 := fun W (X : Ext W1 W) => pre_any ⟨⟨ser, iss, sub, key, names, frm, unt, ca, dep, perm, proms, e, s⟩, nA, nc, pA, pc, mA, mc⟩ hg W (hw.ext (x1.trans X))
  have c7 := fun W (X : Ext W1 W) => seqP_any proms (by have := hw.few.2.2.2.2; dsimp only at this; omega) mA mc W (hw.ext (x1.trans X)).proms (fun p hp W _ => body1_any p (hg.proms.1 p hp) W)
  have cS := dSeq_any 2
  unfold crtV crtC at c4
  dsimp only at c4
  unfold itV at c4 c7 cS
  have HC1 := Lib.hid fun (V : World) (e : Ext W1 V) => And.intro ((ext_blk e b1).cell 0) (And.intro ((ext_blk e b1).cell 1) (And.intro ((ext_blk e b1).cell 2) (And.intro ((ext_blk e b1).cell 3) (And.intro ((ext_blk e b1).cell 4) (And.intro ((ext_blk e b1).cell 5) (And.intro ((ext_blk e b1).cell 6) (And.intro ((ext_blk e b1).cell 7) (And.intro ((ext_blk e b1).cell 8) (And.intro ((ext_blk e b1).cell 9) (And.intro ((ext_blk e b1).cell 10) (And.intro ((ext_blk e b1).cell 11) ((ext_blk e b1).cell 12))))))))))))
  have HB2 := Lib.hid b2
  have HX1 := Lib.hid x1
  have HS1 := Lib.hid hs1
  clear b1 b2 x1 hs1 hg hw
  go_enter Tryz.func78, Tryz.ntmps78
  go_upto_region 1 with (fail)
  try rw [e1]
  clear e1
  refine E_start (n := 8) (ls := #[false, false, false, false, false, false, false, false]) (fun w' => w'.cell? ⟨w.heap.size, 0, none⟩ = some (.int .i64 ser) ∧ w'.cell? ⟨w.heap.size, 1, none⟩ = some (.string iss) ∧ w'.cell? ⟨w.heap.size, 2, none⟩ = some (.string sub) ∧ w'.cell? ⟨w.heap.size, 3, none⟩ = some (.int .u64 (key : Int)) ∧ w'.cell? ⟨w.heap.size, 4, none⟩ = some (.slice nA names.length nc) ∧ w'.cell? ⟨w.heap.size, 5, none⟩ = some (.int .i64 frm) ∧ w'.cell? ⟨w.heap.size, 6, none⟩ = some (.int .i64 unt) ∧ w'.cell? ⟨w.heap.size, 7, none⟩ = some (.bool ca) ∧ w'.cell? ⟨w.heap.size, 8, none⟩ = some (.int .i64 dep) ∧ w'.cell? ⟨w.heap.size, 9, none⟩ = some (.slice pA perm.length pc) ∧ w'.cell? ⟨w.heap.size, 10, none⟩ = some (.slice mA proms.length mc) ∧ w'.cell? ⟨w.heap.size, 11, none⟩ = some (.int .u64 (e : Int)) ∧ w'.cell? ⟨w.heap.size, 12, none⟩ = some (.int .u64 (s : Int))) 7 (by kernel_rfl) (by kernel_rfl) (by kernel_rfl) (HC1.out _ (Ext.refl W1).drew) (fun hHeld => ?_)
  refine E_tk (i := 0) (some 3) (v := ?_) rfl rfl (by kernel_rfl) hHeld (fun w hSw => ?_) ?_; rotate_left 1
  · (try dsimp only at hSw); go_simp; try with_reducible rfl
  try simp only [Act.put, List.setIfInBounds_toArray, List.set_cons_zero, List.set_cons_succ]
  refine E_tk (i := 2) (some 5) (v := ?_) rfl rfl (by kernel_rfl) hHeld (fun w hSw => ?_) ?_; rotate_left 1
  · (try dsimp only at hSw); go_simp; try with_reducible rfl
  try simp only [Act.put, List.setIfInBounds_toArray, List.set_cons_zero, List.set_cons_succ]
  refine E_tk (i := 3) (some 6) (v := ?_) rfl rfl (by kernel_rfl) hHeld (fun w hSw => ?_) ?_; rotate_left 1
  · (try dsimp only at hSw); go_simp; try with_reducible rfl
  try simp only [Act.put, List.setIfInBounds_toArray, List.set_cons_zero, List.set_cons_succ]
  refine E_on (i := 1) rfl (by kernel_rfl) (by kernel_rfl) (fun K hK => ?_)
  go_simp
  go_at_call 80
  refine (c4 _ ((Ext.refl W1).drew)).mono ?_
  rintro e w4 ⟨v4, rfl, hv4, x4⟩
  have X4 : Ext W1 w4 := (Ext.refl W1).drew.trans x4
  replace hHeld := HC1.out _ X4
  refine hK _ _ (fun _ => hHeld) ?_
  clear hK K
  try simp only [Act.put, List.setIfInBounds_toArray, List.set_cons_zero, List.set_cons_succ]
  refine E_on (i := 4) rfl (by kernel_rfl) (by kernel_rfl) (fun K hK => ?_)
  go_simp
  go_at_call 154
  refine (c7 _ X4).mono ?_
  rintro e w7 ⟨v7, rfl, hv7, x7⟩
  have X7 : Ext W1 w7 := X4.trans x7
  replace hHeld := HC1.out _ X7
  refine hK _ _ (fun _ => hHeld) ?_
  clear hK K
  try simp only [Act.put, List.setIfInBounds_toArray, List.set_cons_zero, List.set_cons_succ]
  refine E_on (i := 5) rfl (by kernel_rfl) (by kernel_rfl) (fun K hK => ?_)
  go_simp
  replace hHeld := HC1.out _ (X7.alloc (.cells #[.int .i64 (v4.tag : Int), .slice v4.A v4.n v4.c, .slice v4.A2 v4.n2 v4.c2, .int .i64 (v7.tag : Int), .slice v7.A v7.n v7.c, .slice v7.A2 v7.n2 v7.c2] 77))
  refine hK _ _ (fun _ => hHeld) ?_
  clear hK K
  try simp only [Act.put, List.setIfInBounds_toArray, List.set_cons_zero, List.set_cons_succ]
  refine E_on (i := 6) rfl (by kernel_rfl) (by kernel_rfl) (fun K hK => ?_)
  go_simp
  go_at_call 146
  refine (cS [v4, v7] (by decide) _ _ _ (reads_row3 w7 [v4, v7])).mono ?_
  clear cS
  rintro e w9 ⟨v9, rfl, hv9, hf9, x9⟩
  have X9 : Ext W1 w9 := (X7.alloc _).trans x9
  have XR : Ext w7 w9 := ((Ext.refl w7).alloc _).trans x9
  have k3 := ext_blk X9 HB2.out
  have n0 := k3.cell 0
  have n1 := k3.cell 1
  have n2 := k3.cell 2
  have f0 := k3.frozen 0
  have f1 := k3.frozen 1
  have f2 := k3.frozen 2
  replace hHeld := HC1.out _ X9
  refine hK _ _ (fun _ => hHeld) ?_
  clear hK K
  try simp only [Act.put, List.setIfInBounds_toArray, List.set_cons_zero, List.set_cons_succ]
  refine E_on (i := 7) rfl (by kernel_rfl) (by kernel_rfl) (fun K hK => ?_)
  go_simp
  refine hK _ _ (fun h => absurd rfl h) ?_
  clear hK K
  try simp only [Act.put, List.setIfInBounds_toArray, List.set_cons_zero, List.set_cons_succ]
  refine E_done (by kernel_rfl) ?_
  go_wp2
  obtain ⟨WF, eF, bF, xF, kF, sF⟩ := item_putG (w := w) (Nat.le_succ _) k3 (HX1.out.trans X9) (.int .i64 (v9.tag : Int)) (.slice v9.A v9.n v9.c) (.slice v9.A2 v9.n2 v9.c2)
  rw [← eF]
  clear eF n0 n1 n2 f0 f1 f2 hHeld
  have y0 := bF.cell 0
  have y1 := bF.cell 1
  have y2 := bF.cell 2
  have hs1 := HS1.out
  have g4 := X4.size
  have g7 := X7.size
  refine bodyPost_ret (v := .agg #[.int .i64 (v9.tag : Int), .slice v9.A v9.n v9.c, .slice v9.A2 v9.n2 v9.c2]) (by simp [results, Tryz.results78, go_sem, y0, y1, y2]) rfl ⟨v9, rfl, ?_, xF⟩
  have hch : ItsS w9 (fun b => w.heap.size + 2 ≤ b ∧ b < w9.heap.size) [preT ⟨ser, iss, sub, key, names, frm, unt, ca, dep, perm, proms, e, s⟩, .s (proms.map prmT)] [v4, v7] := by
    simp only [ItsS_cons, ItsS_nil]
    refine ⟨_, _, rfl, kid_s hv4 (by show _ ≤ W1.heap.size; omega) (x7.trans XR), _, _, rfl, kid_s hv7 (by omega) XR, rfl⟩
  have hS : ItS w9 (fun b => w.heap.size + 2 ≤ b ∧ b < w9.heap.size) (bodT ⟨ser, iss, sub, key, names, frm, unt, ca, dep, perm, proms, e, s⟩) v9 := SeqO.itS hv9 hf9 (fun b h1 h2 => ⟨by rw [World.size_alloc] at h1; omega, h2⟩) hch
  exact hS.keep (fun q hq => kF q (by have := hq.1; omega)) (fun b hb => ⟨by omega, by rw [sF]; exact hb.2⟩)
set_option maxRecDepth 100000 in
set_option maxHeartbeats 8000000 in
theorem whole_any (x : CrtX) (hg : GoodC x.r) (w : World) (hw : CrtW w w.heap.size x) : Calls Tryz.prog 75 #[crtV x] w fun e w' => ∃ v, e = .returned (itV v) ∧ ItS w' (fun b => w.heap.size ≤ b ∧ b < w'.heap.size) (whoT x.r) v ∧ Ext w w' := by
  obtain ⟨⟨ser, iss, sub, key, names, frm, unt, ca, dep, perm, proms, e, s⟩, nA, nc, pA, pc, mA, mc⟩ := x
  unfold crtV crtC
  dsimp only at hg hw ⊢
  obtain ⟨W1, e1, b1, b2, x1⟩ := boxes2 w #[.int .i64 ser, .string iss, .string sub, .int .u64 (key : Int), .slice nA names.length nc, .int .i64 frm, .int .i64 unt, .bool ca, .int .i64 dep, .slice pA perm.length pc, .slice mA proms.length mc, .int .u64 (e : Int), .int .u64 (s : Int)] #[.int .i64 0, .slice none 0 0, .slice none 0 0] 67 77
  have hs1 : W1.heap.size = w.heap.size + 2 := by rw [← e1]; simp
  have c4 := fun W (X : Ext W1 W) => body_any ⟨⟨ser, iss, sub, key, names, frm, unt, ca, dep, perm, proms, e, s⟩, nA, nc, pA, pc, mA, mc⟩ hg W (hw.ext (x1.trans X))
  have c8 := big_any e (by have := hg.sig.1; dsimp only at this; omega)
  have c12 := big_any s (by have := hg.sig.2; dsimp only at this; omega)
  have cS := dSeq_any 2
  unfold crtV crtC at c4
  dsimp only at c4
  unfold itV at c4 c8 c12 cS
  have HC1 := Lib.hid fun (V : World) (e : Ext W1 V) => And.intro ((ext_blk e b1).cell 0) (And.intro ((ext_blk e b1).cell 1) (And.intro ((ext_blk e b1).cell 2) (And.intro ((ext_blk e b1).cell 3) (And.intro ((ext_blk e b1).cell 4) (And.intro ((ext_blk e b1).cell 5) (And.intro ((ext_blk e b1).cell 6) (And.intro ((ext_blk e b1).cell 7) (And.intro ((ext_blk e b1).cell 8) (And.intro ((ext_blk e b1).cell 9) (And.intro ((ext_blk e b1).cell 10) (And.intro ((ext_blk e b1).cell 11) ((ext_blk e b1).cell 12))))))))))))
  have HB2 := Lib.hid b2
  have HX1 := Lib.hid x1
  have HS1 := Lib.hid hs1
  clear b1 b2 x1 hs1 hg hw
  go_enter Tryz.func75, Tryz.ntmps75
  go_upto_region 1 with (fail)
  try rw [e1]
  clear e1
  refine E_start (n := 15) (ls := #[false, false, false, false, false, false, false, false, false, false, false, false, false, false, false]) (fun w' => w'.cell? ⟨w.heap.size, 0, none⟩ = some (.int .i64 ser) ∧ w'.cell? ⟨w.heap.size, 1, none⟩ = some (.string iss) ∧ w'.cell? ⟨w.heap.size, 2, none⟩ = some (.string sub) ∧ w'.cell? ⟨w.heap.size, 3, none⟩ = some (.int .u64 (key : Int)) ∧ w'.cell? ⟨w.heap.size, 4, none⟩ = some (.slice nA names.length nc) ∧ w'.cell? ⟨w.heap.size, 5, none⟩ = some (.int .i64 frm) ∧ w'.cell? ⟨w.heap.size, 6, none⟩ = some (.int .i64 unt) ∧ w'.cell? ⟨w.heap.size, 7, none⟩ = some (.bool ca) ∧ w'.cell? ⟨w.heap.size, 8, none⟩ = some (.int .i64 dep) ∧ w'.cell? ⟨w.heap.size, 9, none⟩ = some (.slice pA perm.length pc) ∧ w'.cell? ⟨w.heap.size, 10, none⟩ = some (.slice mA proms.length mc) ∧ w'.cell? ⟨w.heap.size, 11, none⟩ = some (.int .u64 (e : Int)) ∧ w'.cell? ⟨w.heap.size, 12, none⟩ = some (.int .u64 (s : Int))) 14 (by kernel_rfl) (by kernel_rfl) (by kernel_rfl) (HC1.out _ (Ext.refl W1).drew) (fun hHeld => ?_)
  refine E_tk (i := 0) (some 3) (v := ?_) rfl rfl (by kernel_rfl) hHeld (fun w hSw => ?_) ?_; rotate_left 1
  · (try dsimp only at hSw); go_simp; try with_reducible rfl
  try simp only [Act.put, List.setIfInBounds_toArray, List.set_cons_zero, List.set_cons_succ]
  refine E_tk (i := 2) (some 5) (v := ?_) rfl rfl (by kernel_rfl) hHeld (fun w hSw => ?_) ?_; rotate_left 1
  · (try dsimp only at hSw); go_simp; try with_reducible rfl
  try simp only [Act.put, List.setIfInBounds_toArray, List.set_cons_zero, List.set_cons_succ]
  refine E_tk (i := 3) (some 6) (v := ?_) rfl rfl (by kernel_rfl) hHeld (fun w hSw => ?_) ?_; rotate_left 1
  · (try dsimp only at hSw); go_simp; try with_reducible rfl
  try simp only [Act.put, List.setIfInBounds_toArray, List.set_cons_zero, List.set_cons_succ]
  refine E_tk (i := 4) (some 7) (v := ?_) rfl rfl (by kernel_rfl) hHeld (fun w hSw => ?_) ?_; rotate_left 1
  · (try dsimp only at hSw); go_simp; try with_reducible rfl
  try simp only [Act.put, List.setIfInBounds_toArray, List.set_cons_zero, List.set_cons_succ]
  refine E_tk (i := 6) (some 9) (v := ?_) rfl rfl (by kernel_rfl) hHeld (fun w hSw => ?_) ?_; rotate_left 1
  · (try dsimp only at hSw); go_simp; try with_reducible rfl
  try simp only [Act.put, List.setIfInBounds_toArray, List.set_cons_zero, List.set_cons_succ]
  refine E_tk (i := 7) (some 10) (v := ?_) rfl rfl (by kernel_rfl) hHeld (fun w hSw => ?_) ?_; rotate_left 1
  · (try dsimp only at hSw); go_simp; try with_reducible rfl
  try simp only [Act.put, List.setIfInBounds_toArray, List.set_cons_zero, List.set_cons_succ]
  refine E_tk (i := 8) (some 11) (v := ?_) rfl rfl (by kernel_rfl) hHeld (fun w hSw => ?_) ?_; rotate_left 1
  · (try dsimp only at hSw); go_simp; try with_reducible rfl
  try simp only [Act.put, List.setIfInBounds_toArray, List.set_cons_zero, List.set_cons_succ]
  refine E_on (i := 1) rfl (by kernel_rfl) (by kernel_rfl) (fun K hK => ?_)
  go_simp
  go_at_call 78
  refine (c4 _ ((Ext.refl W1).drew)).mono ?_
  rintro e w4 ⟨v4, rfl, hv4, x4⟩
  have X4 : Ext W1 w4 := (Ext.refl W1).drew.trans x4
  replace hHeld := HC1.out _ X4
  refine hK _ _ (fun _ => hHeld) ?_
  clear hK K
  try simp only [Act.put, List.setIfInBounds_toArray, List.set_cons_zero, List.set_cons_succ]
  refine E_on (i := 5) rfl (by kernel_rfl) (by kernel_rfl) (fun K hK => ?_)
  go_simp
  go_at_call 147
  refine (c8 _).mono ?_
  clear c8
  rintro e w8 ⟨v8, rfl, hv8, hf8, x8⟩
  have X8 : Ext W1 w8 := X4.trans x8
  replace hHeld := HC1.out _ X8
  refine hK _ _ (fun _ => hHeld) ?_
  clear hK K
  try simp only [Act.put, List.setIfInBounds_toArray, List.set_cons_zero, List.set_cons_succ]
  refine E_on (i := 9) rfl (by kernel_rfl) (by kernel_rfl) (fun K hK => ?_)
  go_simp
  go_at_call 147
  refine (c12 _).mono ?_
  clear c12
  rintro e w12 ⟨v12, rfl, hv12, hf12, x12⟩
  have X12 : Ext W1 w12 := X8.trans x12
  replace hHeld := HC1.out _ X12
  refine hK _ _ (fun _ => hHeld) ?_
  clear hK K
  try simp only [Act.put, List.setIfInBounds_toArray, List.set_cons_zero, List.set_cons_succ]
  refine E_on (i := 10) rfl (by kernel_rfl) (by kernel_rfl) (fun K hK => ?_)
  go_simp
  replace hHeld := HC1.out _ (X12.alloc (.cells #[.int .i64 (v8.tag : Int), .slice v8.A v8.n v8.c, .slice v8.A2 v8.n2 v8.c2, .int .i64 (v12.tag : Int), .slice v12.A v12.n v12.c, .slice v12.A2 v12.n2 v12.c2] 77))
  refine hK _ _ (fun _ => hHeld) ?_
  clear hK K
  try simp only [Act.put, List.setIfInBounds_toArray, List.set_cons_zero, List.set_cons_succ]
  refine E_on (i := 11) rfl (by kernel_rfl) (by kernel_rfl) (fun K hK => ?_)
  go_simp
  go_at_call 146
  refine (cS [v8, v12] (by decide) _ _ _ (reads_row3 w12 [v8, v12])).mono ?_
  rintro e w14 ⟨v14, rfl, hv14, hf14, x14⟩
  have X14 : Ext W1 w14 := (X12.alloc _).trans x14
  have XQ : Ext w12 w14 := ((Ext.refl w12).alloc _).trans x14
  replace hHeld := HC1.out _ X14
  refine hK _ _ (fun _ => hHeld) ?_
  clear hK K
  try simp only [Act.put, List.setIfInBounds_toArray, List.set_cons_zero, List.set_cons_succ]
  refine E_on (i := 12) rfl (by kernel_rfl) (by kernel_rfl) (fun K hK => ?_)
  go_simp
  replace hHeld := HC1.out _ (X14.alloc (.cells #[.int .i64 (v4.tag : Int), .slice v4.A v4.n v4.c, .slice v4.A2 v4.n2 v4.c2, .int .i64 (v14.tag : Int), .slice v14.A v14.n v14.c, .slice v14.A2 v14.n2 v14.c2] 77))
  refine hK _ _ (fun _ => hHeld) ?_
  clear hK K
  try simp only [Act.put, List.setIfInBounds_toArray, List.set_cons_zero, List.set_cons_succ]
  refine E_on (i := 13) rfl (by kernel_rfl) (by kernel_rfl) (fun K hK => ?_)
  go_simp
  go_at_call 146
  refine (cS [v4, v14] (by decide) _ _ _ (reads_row3 w14 [v4, v14])).mono ?_
  clear cS
  rintro e w16 ⟨v16, rfl, hv16, hf16, x16⟩
  have X16 : Ext W1 w16 := (X14.alloc _).trans x16
  have XR : Ext w14 w16 := ((Ext.refl w14).alloc _).trans x16
  have k3 := ext_blk X16 HB2.out
  have n0 := k3.cell 0
  have n1 := k3.cell 1
  have n2 := k3.cell 2
  have f0 := k3.frozen 0
  have f1 := k3.frozen 1
  have f2 := k3.frozen 2
  replace hHeld := HC1.out _ X16
  refine hK _ _ (fun _ => hHeld) ?_
  clear hK K
  try simp only [Act.put, List.setIfInBounds_toArray, List.set_cons_zero, List.set_cons_succ]
  refine E_on (i := 14) rfl (by kernel_rfl) (by kernel_rfl) (fun K hK => ?_)
  go_simp
  refine hK _ _ (fun h => absurd rfl h) ?_
  clear hK K
  try simp only [Act.put, List.setIfInBounds_toArray, List.set_cons_zero, List.set_cons_succ]
  refine E_done (by kernel_rfl) ?_
  go_wp2
  obtain ⟨WF, eF, bF, xF, kF, sF⟩ := item_putG (w := w) (Nat.le_succ _) k3 (HX1.out.trans X16) (.int .i64 (v16.tag : Int)) (.slice v16.A v16.n v16.c) (.slice v16.A2 v16.n2 v16.c2)
  rw [← eF]
  clear eF n0 n1 n2 f0 f1 f2 hHeld
  have y0 := bF.cell 0
  have y1 := bF.cell 1
  have y2 := bF.cell 2
  have hs1 := HS1.out
  have g4 := X4.size
  have g8 := X8.size
  have g12 := X12.size
  have g14 := X14.size
  refine bodyPost_ret (v := .agg #[.int .i64 (v16.tag : Int), .slice v16.A v16.n v16.c, .slice v16.A2 v16.n2 v16.c2]) (by simp [results, Tryz.results75, go_sem, y0, y1, y2]) rfl ⟨v16, rfl, ?_, xF⟩
  have hc1 : ItsS w14 (fun b => w.heap.size + 2 ≤ b ∧ b < w14.heap.size) [natT e, natT s] [v8, v12] := by
    simp only [ItsS_cons, ItsS_nil]
    refine ⟨_, _, rfl, kid_p hv8 hf8 (by omega) (x12.trans XQ), _, _, rfl, kid_p hv12 hf12 (by omega) XQ, rfl⟩
  have hS1 : ItS w14 (fun b => w.heap.size + 2 ≤ b ∧ b < w14.heap.size) (.s [natT e, natT s]) v14 := SeqO.itS hv14 hf14 (fun b h1 h2 => ⟨by rw [World.size_alloc] at h1; omega, h2⟩) hc1
  have hch : ItsS w16 (fun b => w.heap.size + 2 ≤ b ∧ b < w16.heap.size) [bodT ⟨ser, iss, sub, key, names, frm, unt, ca, dep, perm, proms, e, s⟩, .s [natT e, natT s]] [v4, v14] := by
    simp only [ItsS_cons, ItsS_nil]
    refine ⟨_, _, rfl, kid_s hv4 (by show _ ≤ W1.heap.size; omega) (x8.trans (x12.trans (XQ.trans XR))), _, _, rfl, kid_s hS1 (by omega) XR, rfl⟩
  have hS : ItS w16 (fun b => w.heap.size + 2 ≤ b ∧ b < w16.heap.size) (whoT ⟨ser, iss, sub, key, names, frm, unt, ca, dep, perm, proms, e, s⟩) v16 := SeqO.itS hv16 hf16 (fun b h1 h2 => ⟨by rw [World.size_alloc] at h1; omega, h2⟩) hch
  exact hS.keep (fun q hq => kF q (by have := hq.1; omega)) (fun b hb => ⟨by omega, by rw [sF]; exact hb.2⟩)
end Go.Proofs.YtfpmfegmehbfbaaGreatDoor
