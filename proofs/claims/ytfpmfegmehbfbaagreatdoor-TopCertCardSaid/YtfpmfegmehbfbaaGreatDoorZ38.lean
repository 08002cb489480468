/- Parts of the proofs, put together: CtE8, CtF1, CtF2. -/
import Derived.Test.YtfpmfegmehbfbaaGreatDoorZ25
import Derived.Test.YtfpmfegmehbfbaaGreatDoorZ37
/- Certificates, walked: Check, and the bytes of one. -/
namespace Go.Proofs.YtfpmfegmehbfbaaGreatDoor
set_option linter.unusedVariables false
set_option linter.unusedSimpArgs false
set_option linter.unusedSimpArgs false
open Go.RowKit Go.Shelf Go.Maps

/-- A certificate of form can be put. -/
theorem good_of {c : CrtR} (h : formC namP patP c) : GoodC c := form_good (fun _ h => nam_put h) (fun _ h => pat_put h) h
theorem ItS.fresh {w w' : World} {t : It} {v : ItV} (h : ItS w' (fun b => w.heap.size ≤ b ∧ b < w'.heap.size) t v) : ItW w' w'.heap.size t v := h.itW (fun _ hb => hb.2)
set_option maxRecDepth 100000 in
set_option maxHeartbeats 4000000 in
theorem cCheck_no (x : CrtX) (hf : ¬ formC namP patP x.r) (w : World) (hw : CrtW w w.heap.size x) : Calls Tryz.prog 145 #[crtV x] w fun e w' => e = .returned (.int .i64 1) ∧ Ext w w' := by
  obtain ⟨⟨ser, iss, sub, key, names, frm, unt, ca, dep, perm, proms, e, s⟩, nA, nc, pA, pc, mA, mc⟩ := x
  obtain ⟨W0, e0⟩ : ∃ W, w.alloc (.cells #[.int .i64 ser, .string iss, .string sub, .int .u64 (key : Int), .slice nA names.length nc, .int .i64 frm, .int .i64 unt, .bool ca, .int .i64 dep, .slice pA perm.length pc, .slice mA proms.length mc, .int .u64 (e : Int), .int .u64 (s : Int)] 67) = W := ⟨_, rfl⟩
  have b0 : Blk W0 w.heap.size 67 #[.int .i64 ser, .string iss, .string sub, .int .u64 (key : Int), .slice nA names.length nc, .int .i64 frm, .int .i64 unt, .bool ca, .int .i64 dep, .slice pA perm.length pc, .slice mA proms.length mc, .int .u64 (e : Int), .int .u64 (s : Int)] := by rw [← e0]; exact Blk.new _ _ _
  have x0 : Ext w W0 := by rw [← e0]; exact (Ext.refl w).alloc _
  have c1 := formed_any ⟨⟨ser, iss, sub, key, names, frm, unt, ca, dep, perm, proms, e, s⟩, nA, nc, pA, pc, mA, mc⟩ W0 (hw.ext x0)
  unfold crtV crtC at c1 ⊢
  dsimp only at c1 hf ⊢
  obtain ⟨m0, m1, m2, m3, m4, m5, m6, m7, m8, m9, m10, m11, m12⟩ := lst13 b0
  have HF := Lib.hid hf
  have HX0 := Lib.hid x0
  clear b0 x0 hw hf
  go_enter Tryz.func145, Tryz.ntmps145
  go_upto_region 1 with (fail)
  try rw [e0]
  clear e0
  go_wp2_with (go_at_call 223; refine c1.mono ?_; clear c1; rintro e w1 ⟨b, rfl, hb, x1⟩; obtain rfl : b = false := (by cases b; rfl; exact absurd (hb.1 rfl) HF.out))
  go_ret
  exact ⟨rfl, HX0.out.trans x1⟩
set_option maxRecDepth 100000 in
set_option maxHeartbeats 4000000 in
theorem cCheck_yes (x : CrtX) (hf : formC namP patP x.r) (w : World) (hw : CrtW w w.heap.size x) (hk : KindsW w) : Calls Tryz.prog 145 #[crtV x] w fun e w' => e = .returned (.int .i64 0) ∧ Ext w w' := by
  obtain ⟨⟨ser, iss, sub, key, names, frm, unt, ca, dep, perm, proms, e, s⟩, nA, nc, pA, pc, mA, mc⟩ := x
  obtain ⟨W0, e0⟩ : ∃ W, w.alloc (.cells #[.int .i64 ser, .string iss, .string sub, .int .u64 (key : Int), .slice nA names.length nc, .int .i64 frm, .int .i64 unt, .bool ca, .int .i64 dep, .slice pA perm.length pc, .slice mA proms.length mc, .int .u64 (e : Int), .int .u64 (s : Int)] 67) = W := ⟨_, rfl⟩
  have b0 : Blk W0 w.heap.size 67 #[.int .i64 ser, .string iss, .string sub, .int .u64 (key : Int), .slice nA names.length nc, .int .i64 frm, .int .i64 unt, .bool ca, .int .i64 dep, .slice pA perm.length pc, .slice mA proms.length mc, .int .u64 (e : Int), .int .u64 (s : Int)] := by rw [← e0]; exact Blk.new _ _ _
  have x0 : Ext w W0 := by rw [← e0]; exact (Ext.refl w).alloc _
  have hg := good_of hf
  have hl := whoT_len hg
  have ho := itOk_le (whoT_ok hg) (show 5 ≤ 8 by decide)
  have c1 := formed_any ⟨⟨ser, iss, sub, key, names, frm, unt, ca, dep, perm, proms, e, s⟩, nA, nc, pA, pc, mA, mc⟩ W0 (hw.ext x0)
  have c2 := fun W (X : Ext W0 W) => whole_any ⟨⟨ser, iss, sub, key, names, frm, unt, ca, dep, perm, proms, e, s⟩, nA, nc, pA, pc, mA, mc⟩ hg W (hw.ext (x0.trans X))
  have c3 := fun v W (X : Ext W0 W) (hv : ItW W W.heap.size (whoT ⟨ser, iss, sub, key, names, frm, unt, ca, dep, perm, proms, e, s⟩) v) => dPut_any _ v W ho (Nat.le_trans hl (by decide)) hv (hk.ext (x0.trans X))
  unfold crtV crtC at c1 c2 ⊢
  unfold itV at c2 c3
  dsimp only at c1 c2 c3 hf hl ⊢
  obtain ⟨N, hN⟩ : ∃ N, (itB (whoT ⟨ser, iss, sub, key, names, frm, unt, ca, dep, perm, proms, e, s⟩)).length = N := ⟨_, rfl⟩
  rw [hN] at c3 hl
  have hl2 : ¬ (2048 : Int) < N := by omega
  obtain ⟨m0, m1, m2, m3, m4, m5, m6, m7, m8, m9, m10, m11, m12⟩ := lst13 b0
  have HF := Lib.hid hf
  have HX0 := Lib.hid x0
  have HB0 := Lib.hid b0
  clear b0 x0 hw hf hk hg ho hN hl
  go_enter Tryz.func145, Tryz.ntmps145
  go_upto_region 1 with (fail)
  try rw [e0]
  clear e0
  go_wp2_with (first | (go_at_call 223; refine c1.mono ?_; clear c1; rintro e w1 ⟨b, rfl, hb, x1⟩; obtain rfl : b = true := (hb.2 HF.out); clear hb; clear m0 m1 m2 m3 m4 m5 m6 m7 m8 m9 m10 m11 m12; obtain ⟨m0, m1, m2, m3, m4, m5, m6, m7, m8, m9, m10, m11, m12⟩ := lst13 (ext_blk x1 HB0.out)) | (go_at_call 75; refine (c2 _ x1).mono ?_; clear c2; rintro e w2 ⟨v2, rfl, hv2, x2⟩) | (go_at_call 30; refine (c3 v2 _ (x1.trans x2) hv2.fresh).mono ?_; clear c3; rintro e w3 ⟨A3, k3, rfl, hc3, hr3, x3⟩))
  go_ret
  exact ⟨rfl, HX0.out.trans (x1.trans (x2.trans x3))⟩
set_option maxRecDepth 100000 in
set_option maxHeartbeats 4000000 in
theorem bytes_yes (F : FuncId) (hE : Enters Tryz.prog F) (t : It) (ht : itOk 8 t) (hl : (itB t).length ≤ 8192) (x : CrtX) (hf : formC namP patP x.r) (w : World) (hw : CrtW w w.heap.size x) (hk : KindsW w)
    (hF : ∀ W, Ext w W → Calls Tryz.prog F #[crtV x] W fun e w' => ∃ v, e = .returned (itV v) ∧ ItS w' (fun b => W.heap.size ≤ b ∧ b < w'.heap.size) t v ∧ Ext W w') :
    Calls Tryz.prog 74 #[crtV x, .func (.func F) #[] #[]] w fun e w' => ∃ A c, e = .returned (.tuple #[.slice A (itB t).length c, .int .i64 0]) ∧ (itB t).length ≤ c ∧ Reads w' w'.heap.size 1 A (itB t).length (bv (itB t)) ∧ Ext w w' := by
  obtain ⟨⟨ser, iss, sub, key, names, frm, unt, ca, dep, perm, proms, e, s⟩, nA, nc, pA, pc, mA, mc⟩ := x
  obtain ⟨W0, e0⟩ : ∃ W, w.alloc (.cells #[.int .i64 ser, .string iss, .string sub, .int .u64 (key : Int), .slice nA names.length nc, .int .i64 frm, .int .i64 unt, .bool ca, .int .i64 dep, .slice pA perm.length pc, .slice mA proms.length mc, .int .u64 (e : Int), .int .u64 (s : Int)] 67) = W := ⟨_, rfl⟩
  have b0 : Blk W0 w.heap.size 67 #[.int .i64 ser, .string iss, .string sub, .int .u64 (key : Int), .slice nA names.length nc, .int .i64 frm, .int .i64 unt, .bool ca, .int .i64 dep, .slice pA perm.length pc, .slice mA proms.length mc, .int .u64 (e : Int), .int .u64 (s : Int)] := by rw [← e0]; exact Blk.new _ _ _
  have x0 : Ext w W0 := by rw [← e0]; exact (Ext.refl w).alloc _
  have c1 := cCheck_yes ⟨⟨ser, iss, sub, key, names, frm, unt, ca, dep, perm, proms, e, s⟩, nA, nc, pA, pc, mA, mc⟩ hf W0 (hw.ext x0) (hk.ext x0)
  have c2 := fun W (X : Ext W0 W) => hF W (x0.trans X)
  have c3 := fun v W (X : Ext W0 W) (hv : ItW W W.heap.size t v) => dPut_any t v W ht hl hv (hk.ext (x0.trans X))
  unfold crtV crtC at c1 c2 ⊢
  unfold itV at c2 c3
  dsimp only at c1 c2 c3 ⊢
  obtain ⟨T, hT⟩ : ∃ T, itB t = T := ⟨_, rfl⟩
  rw [hT] at c3 ⊢
  obtain ⟨m0, m1, m2, m3, m4, m5, m6, m7, m8, m9, m10, m11, m12⟩ := lst13 b0
  have HX0 := Lib.hid x0
  have HB0 := Lib.hid b0
  unfold Enters at hE
  clear b0 x0 hw hf hk hF hT hl ht
  go_enter Tryz.func74, Tryz.ntmps74
  go_upto_region 1 with (fail)
  try rw [e0]
  clear e0
  go_wp2_with (first | (go_at_call 145; refine c1.mono ?_; clear c1; rintro e w1 ⟨rfl, x1⟩; clear m0 m1 m2 m3 m4 m5 m6 m7 m8 m9 m10 m11 m12; obtain ⟨m0, m1, m2, m3, m4, m5, m6, m7, m8, m9, m10, m11, m12⟩ := lst13 (ext_blk x1 HB0.out)) | (go_at_fn F; refine (c2 _ x1).mono ?_; clear c2; rintro e w2 ⟨v2, rfl, hv2, x2⟩) | (go_at_call 30; refine (c3 v2 _ (x1.trans x2) hv2.fresh).mono ?_; clear c3; rintro e w3 ⟨A3, k3, rfl, hc3, hr3, x3⟩))
  go_ret2
  exact ⟨A3, k3, rfl, hc3, hr3, HX0.out.trans (x1.trans (x2.trans x3))⟩
set_option maxRecDepth 100000 in
set_option maxHeartbeats 4000000 in
theorem bytes_no (fv : Value) (h1 : fv.oneCell' = true) (x : CrtX) (hf : ¬ formC namP patP x.r) (w : World) (hw : CrtW w w.heap.size x) :
    Calls Tryz.prog 74 #[crtV x, fv] w fun e w' => e = .returned (.tuple #[.slice none 0 0, .int .i64 1]) ∧ Ext w w' := by
  obtain ⟨⟨ser, iss, sub, key, names, frm, unt, ca, dep, perm, proms, e, s⟩, nA, nc, pA, pc, mA, mc⟩ := x
  obtain ⟨W0, e0⟩ : ∃ W, w.alloc (.cells #[.int .i64 ser, .string iss, .string sub, .int .u64 (key : Int), .slice nA names.length nc, .int .i64 frm, .int .i64 unt, .bool ca, .int .i64 dep, .slice pA perm.length pc, .slice mA proms.length mc, .int .u64 (e : Int), .int .u64 (s : Int)] 67) = W := ⟨_, rfl⟩
  have b0 : Blk W0 w.heap.size 67 #[.int .i64 ser, .string iss, .string sub, .int .u64 (key : Int), .slice nA names.length nc, .int .i64 frm, .int .i64 unt, .bool ca, .int .i64 dep, .slice pA perm.length pc, .slice mA proms.length mc, .int .u64 (e : Int), .int .u64 (s : Int)] := by rw [← e0]; exact Blk.new _ _ _
  have x0 : Ext w W0 := by rw [← e0]; exact (Ext.refl w).alloc _
  have c1 := cCheck_no ⟨⟨ser, iss, sub, key, names, frm, unt, ca, dep, perm, proms, e, s⟩, nA, nc, pA, pc, mA, mc⟩ hf W0 (hw.ext x0)
  unfold crtV crtC at c1 ⊢
  dsimp only at c1 ⊢
  obtain ⟨m0, m1, m2, m3, m4, m5, m6, m7, m8, m9, m10, m11, m12⟩ := lst13 b0
  have HX0 := Lib.hid x0
  clear b0 x0 hw hf
  go_enter Tryz.func74, Tryz.ntmps74
  go_upto_region 1 with (fail)
  try rw [e0]
  clear e0
  go_wp2_with (go_at_call 145; refine c1.mono ?_; clear c1; rintro e w1 ⟨rfl, x1⟩)
  go_ret2
  exact ⟨rfl, HX0.out.trans x1⟩
theorem whole_enters : Enters Tryz.prog 75 := enters_of Tryz.func75 (by kernel_rfl) rfl
set_option maxRecDepth 100000 in
set_option maxHeartbeats 2000000 in
theorem cPut_yes (x : CrtX) (hf : formC namP patP x.r) (w : World) (hw : CrtW w w.heap.size x) (hk : KindsW w) :
    Calls Tryz.prog 22 #[crtV x] w fun e w' => ∃ A c, e = .returned (.tuple #[.slice A (itB (whoT x.r)).length c, .int .i64 0]) ∧ (itB (whoT x.r)).length ≤ c ∧ Reads w' w'.heap.size 1 A (itB (whoT x.r)).length (bv (itB (whoT x.r))) ∧ Ext w w' := by
  have hg := good_of hf
  obtain ⟨⟨ser, iss, sub, key, names, frm, unt, ca, dep, perm, proms, e, s⟩, nA, nc, pA, pc, mA, mc⟩ := x
  obtain ⟨W0, e0⟩ : ∃ W, w.alloc (.cells #[.int .i64 ser, .string iss, .string sub, .int .u64 (key : Int), .slice nA names.length nc, .int .i64 frm, .int .i64 unt, .bool ca, .int .i64 dep, .slice pA perm.length pc, .slice mA proms.length mc, .int .u64 (e : Int), .int .u64 (s : Int)] 67) = W := ⟨_, rfl⟩
  have b0 : Blk W0 w.heap.size 67 #[.int .i64 ser, .string iss, .string sub, .int .u64 (key : Int), .slice nA names.length nc, .int .i64 frm, .int .i64 unt, .bool ca, .int .i64 dep, .slice pA perm.length pc, .slice mA proms.length mc, .int .u64 (e : Int), .int .u64 (s : Int)] := by rw [← e0]; exact Blk.new _ _ _
  have x0 : Ext w W0 := by rw [← e0]; exact (Ext.refl w).alloc _
  have c1 := bytes_yes 75 whole_enters (whoT ⟨ser, iss, sub, key, names, frm, unt, ca, dep, perm, proms, e, s⟩) (itOk_le (whoT_ok hg) (by decide)) (Nat.le_trans (whoT_len hg) (by decide)) ⟨⟨ser, iss, sub, key, names, frm, unt, ca, dep, perm, proms, e, s⟩, nA, nc, pA, pc, mA, mc⟩ hf W0 (hw.ext x0) (hk.ext x0) (fun W X => whole_any ⟨⟨ser, iss, sub, key, names, frm, unt, ca, dep, perm, proms, e, s⟩, nA, nc, pA, pc, mA, mc⟩ hg W (hw.ext (x0.trans X)))
  unfold crtV crtC at c1 ⊢
  dsimp only at c1 ⊢
  obtain ⟨T, hT⟩ : ∃ T, itB (whoT ⟨ser, iss, sub, key, names, frm, unt, ca, dep, perm, proms, e, s⟩) = T := ⟨_, rfl⟩
  rw [hT] at c1 ⊢
  obtain ⟨m0, m1, m2, m3, m4, m5, m6, m7, m8, m9, m10, m11, m12⟩ := lst13 b0
  have HX0 := Lib.hid x0
  clear b0 x0 hw hf hk hT hg
  go_enter Tryz.func22, Tryz.ntmps22
  go_upto_region 1 with (fail)
  try rw [e0]
  clear e0
  go_wp2_with (go_at_call 74; refine c1.mono ?_; clear c1; rintro e w1 ⟨A3, k3, rfl, hc3, hr3, x1⟩)
  go_ret2
  exact ⟨A3, k3, rfl, hc3, hr3, HX0.out.trans x1⟩
theorem body_enters : Enters Tryz.prog 78 := enters_of Tryz.func78 (by kernel_rfl) rfl
set_option maxRecDepth 100000 in
set_option maxHeartbeats 2000000 in
theorem cBody_yes (x : CrtX) (hf : formC namP patP x.r) (w : World) (hw : CrtW w w.heap.size x) (hk : KindsW w) :
    Calls Tryz.prog 24 #[crtV x] w fun e w' => ∃ A c, e = .returned (.tuple #[.slice A (itB (bodT x.r)).length c, .int .i64 0]) ∧ (itB (bodT x.r)).length ≤ c ∧ Reads w' w'.heap.size 1 A (itB (bodT x.r)).length (bv (itB (bodT x.r))) ∧ Ext w w' := by
  have hg := good_of hf
  obtain ⟨⟨ser, iss, sub, key, names, frm, unt, ca, dep, perm, proms, e, s⟩, nA, nc, pA, pc, mA, mc⟩ := x
  obtain ⟨W0, e0⟩ : ∃ W, w.alloc (.cells #[.int .i64 ser, .string iss, .string sub, .int .u64 (key : Int), .slice nA names.length nc, .int .i64 frm, .int .i64 unt, .bool ca, .int .i64 dep, .slice pA perm.length pc, .slice mA proms.length mc, .int .u64 (e : Int), .int .u64 (s : Int)] 67) = W := ⟨_, rfl⟩
  have b0 : Blk W0 w.heap.size 67 #[.int .i64 ser, .string iss, .string sub, .int .u64 (key : Int), .slice nA names.length nc, .int .i64 frm, .int .i64 unt, .bool ca, .int .i64 dep, .slice pA perm.length pc, .slice mA proms.length mc, .int .u64 (e : Int), .int .u64 (s : Int)] := by rw [← e0]; exact Blk.new _ _ _
  have x0 : Ext w W0 := by rw [← e0]; exact (Ext.refl w).alloc _
  have c1 := bytes_yes 78 body_enters (bodT ⟨ser, iss, sub, key, names, frm, unt, ca, dep, perm, proms, e, s⟩) (itOk_le (bodT_ok hg) (by decide)) (Nat.le_trans (bodT_len hg) (by decide)) ⟨⟨ser, iss, sub, key, names, frm, unt, ca, dep, perm, proms, e, s⟩, nA, nc, pA, pc, mA, mc⟩ hf W0 (hw.ext x0) (hk.ext x0) (fun W X => body_any ⟨⟨ser, iss, sub, key, names, frm, unt, ca, dep, perm, proms, e, s⟩, nA, nc, pA, pc, mA, mc⟩ hg W (hw.ext (x0.trans X)))
  unfold crtV crtC at c1 ⊢
  dsimp only at c1 ⊢
  obtain ⟨T, hT⟩ : ∃ T, itB (bodT ⟨ser, iss, sub, key, names, frm, unt, ca, dep, perm, proms, e, s⟩) = T := ⟨_, rfl⟩
  rw [hT] at c1 ⊢
  obtain ⟨m0, m1, m2, m3, m4, m5, m6, m7, m8, m9, m10, m11, m12⟩ := lst13 b0
  have HX0 := Lib.hid x0
  clear b0 x0 hw hf hk hT hg
  go_enter Tryz.func24, Tryz.ntmps24
  go_upto_region 1 with (fail)
  try rw [e0]
  clear e0
  go_wp2_with (go_at_call 74; refine c1.mono ?_; clear c1; rintro e w1 ⟨A3, k3, rfl, hc3, hr3, x1⟩)
  go_ret2
  exact ⟨A3, k3, rfl, hc3, hr3, HX0.out.trans x1⟩
theorem pre_enters : Enters Tryz.prog 80 := enters_of Tryz.func80 (by kernel_rfl) rfl
set_option maxRecDepth 100000 in
set_option maxHeartbeats 2000000 in
theorem cPre_yes (x : CrtX) (hf : formC namP patP x.r) (w : World) (hw : CrtW w w.heap.size x) (hk : KindsW w) :
    Calls Tryz.prog 26 #[crtV x] w fun e w' => ∃ A c, e = .returned (.tuple #[.slice A (itB (preT x.r)).length c, .int .i64 0]) ∧ (itB (preT x.r)).length ≤ c ∧ Reads w' w'.heap.size 1 A (itB (preT x.r)).length (bv (itB (preT x.r))) ∧ Ext w w' := by
  have hg := good_of hf
  obtain ⟨⟨ser, iss, sub, key, names, frm, unt, ca, dep, perm, proms, e, s⟩, nA, nc, pA, pc, mA, mc⟩ := x
  obtain ⟨W0, e0⟩ : ∃ W, w.alloc (.cells #[.int .i64 ser, .string iss, .string sub, .int .u64 (key : Int), .slice nA names.length nc, .int .i64 frm, .int .i64 unt, .bool ca, .int .i64 dep, .slice pA perm.length pc, .slice mA proms.length mc, .int .u64 (e : Int), .int .u64 (s : Int)] 67) = W := ⟨_, rfl⟩
  have b0 : Blk W0 w.heap.size 67 #[.int .i64 ser, .string iss, .string sub, .int .u64 (key : Int), .slice nA names.length nc, .int .i64 frm, .int .i64 unt, .bool ca, .int .i64 dep, .slice pA perm.length pc, .slice mA proms.length mc, .int .u64 (e : Int), .int .u64 (s : Int)] := by rw [← e0]; exact Blk.new _ _ _
  have x0 : Ext w W0 := by rw [← e0]; exact (Ext.refl w).alloc _
  have c1 := bytes_yes 80 pre_enters (preT ⟨ser, iss, sub, key, names, frm, unt, ca, dep, perm, proms, e, s⟩) (itOk_le (preT_ok hg) (by decide)) (Nat.le_trans (preT_len hg) (by decide)) ⟨⟨ser, iss, sub, key, names, frm, unt, ca, dep, perm, proms, e, s⟩, nA, nc, pA, pc, mA, mc⟩ hf W0 (hw.ext x0) (hk.ext x0) (fun W X => pre_any ⟨⟨ser, iss, sub, key, names, frm, unt, ca, dep, perm, proms, e, s⟩, nA, nc, pA, pc, mA, mc⟩ hg W (hw.ext (x0.trans X)))
  unfold crtV crtC at c1 ⊢
  dsimp only at c1 ⊢
  obtain ⟨T, hT⟩ : ∃ T, itB (preT ⟨ser, iss, sub, key, names, frm, unt, ca, dep, perm, proms, e, s⟩) = T := ⟨_, rfl⟩
  rw [hT] at c1 ⊢
  obtain ⟨m0, m1, m2, m3, m4, m5, m6, m7, m8, m9, m10, m11, m12⟩ := lst13 b0
  have HX0 := Lib.hid x0
  clear b0 x0 hw hf hk hT hg
  go_enter Tryz.func26, Tryz.ntmps26
  go_upto_region 1 with (fail)
  try rw [e0]
  clear e0
  go_wp2_with (go_at_call 74; refine c1.mono ?_; clear c1; rintro e w1 ⟨A3, k3, rfl, hc3, hr3, x1⟩)
  go_ret2
  exact ⟨A3, k3, rfl, hc3, hr3, HX0.out.trans x1⟩
set_option maxRecDepth 100000 in
set_option maxHeartbeats 2000000 in
theorem cPut_no (x : CrtX) (hf : ¬ formC namP patP x.r) (w : World) (hw : CrtW w w.heap.size x) :
    Calls Tryz.prog 22 #[crtV x] w fun e w' => e = .returned (.tuple #[.slice none 0 0, .int .i64 1]) ∧ Ext w w' := by
  obtain ⟨⟨ser, iss, sub, key, names, frm, unt, ca, dep, perm, proms, e, s⟩, nA, nc, pA, pc, mA, mc⟩ := x
  obtain ⟨W0, e0⟩ : ∃ W, w.alloc (.cells #[.int .i64 ser, .string iss, .string sub, .int .u64 (key : Int), .slice nA names.length nc, .int .i64 frm, .int .i64 unt, .bool ca, .int .i64 dep, .slice pA perm.length pc, .slice mA proms.length mc, .int .u64 (e : Int), .int .u64 (s : Int)] 67) = W := ⟨_, rfl⟩
  have b0 : Blk W0 w.heap.size 67 #[.int .i64 ser, .string iss, .string sub, .int .u64 (key : Int), .slice nA names.length nc, .int .i64 frm, .int .i64 unt, .bool ca, .int .i64 dep, .slice pA perm.length pc, .slice mA proms.length mc, .int .u64 (e : Int), .int .u64 (s : Int)] := by rw [← e0]; exact Blk.new _ _ _
  have x0 : Ext w W0 := by rw [← e0]; exact (Ext.refl w).alloc _
  have c1 := bytes_no (.func (.func 75) #[] #[]) rfl ⟨⟨ser, iss, sub, key, names, frm, unt, ca, dep, perm, proms, e, s⟩, nA, nc, pA, pc, mA, mc⟩ hf W0 (hw.ext x0)
  unfold crtV crtC at c1 ⊢
  dsimp only at c1 ⊢
  obtain ⟨m0, m1, m2, m3, m4, m5, m6, m7, m8, m9, m10, m11, m12⟩ := lst13 b0
  have HX0 := Lib.hid x0
  clear b0 x0 hw hf
  go_enter Tryz.func22, Tryz.ntmps22
  go_upto_region 1 with (fail)
  try rw [e0]
  clear e0
  go_wp2_with (go_at_call 74; refine c1.mono ?_; clear c1; rintro e w1 ⟨rfl, x1⟩)
  go_ret2
  exact ⟨rfl, HX0.out.trans x1⟩
end Go.Proofs.YtfpmfegmehbfbaaGreatDoor

/- Items, walked: what they are of. -/
namespace Go.Proofs.YtfpmfegmehbfbaaGreatDoor
set_option linter.unusedVariables false
set_option linter.unusedSimpArgs false
set_option linter.unusedSimpArgs false
open Go.RowKit Go.Shelf Go.Maps

theorem beV_head {x : Nat} {l : List Nat} (hx : x < 128) (hl : ∀ y ∈ l, y < 256) : beV (x :: l) < 128 * 256 ^ l.length := by
  have h1 := beV_lt l hl
  have h3 := be_fold l x
  have h4 : beV (x :: l) = x * 256 ^ l.length + beV l := by rw [← h3]; simp [beV]
  rw [h4]
  have := Nat.mul_le_mul_right (256 ^ l.length) (show x + 1 ≤ 128 by omega)
  rw [Nat.add_mul, Nat.one_mul] at this
  omega
theorem beV_small {x : Nat} {l : List Nat} (hx : x < 128) (hl : ∀ y ∈ l, y < 256) (h6 : l.length ≤ 6) : beV (x :: l) < 36028797018963968 := by
  have h1 := beV_head hx hl
  have : 256 ^ l.length ≤ 256 ^ 6 := Nat.pow_le_pow_right (by decide) h6
  have h2 : 128 * 256 ^ l.length ≤ 128 * 256 ^ 6 := Nat.mul_le_mul_left _ this
  have h3 : 128 * 256 ^ 6 = 36028797018963968 := by decide
  omega
set_option maxRecDepth 100000 in
set_option maxHeartbeats 4000000 in
theorem asInt1_any (n : Nat) (h : n < 9223372036854775808) (A : Option Addr) (c : Nat) (hc : (intB n).length ≤ c) (w : World) (hr : Reads w w.heap.size 1 A (intB n).length (bv (intB n))) :
    Calls Tryz.prog 278 #[.agg #[.int .i64 2, .slice A (intB n).length c, .slice none 0 0]] w fun e w' => e = .returned (.int .i64 (n : Int)) ∧ Ext w w' := by
  obtain ⟨W0, e0⟩ : ∃ W, w.alloc (.cells #[.int .i64 2, .slice A (intB n).length c, .slice none 0 0] 77) = W := ⟨_, rfl⟩
  have b0 : Blk W0 w.heap.size 77 #[.int .i64 2, .slice A (intB n).length c, .slice none 0 0] := by rw [← e0]; exact Blk.new _ _ _
  have x0 : Ext w W0 := by rw [← e0]; exact (Ext.refl w).alloc _
  obtain ⟨a1, a2, a3, a4, a5, a6⟩ := intB_all h
  have hr0 := (hr.below x0.out).more x0.size
  obtain ⟨L, hL⟩ : ∃ L, intB n = L := ⟨_, rfl⟩
  rw [hL] at a1 a2 a3 a4 a5 a6 hr0 hc b0 e0 ⊢
  match L, a5 with
  | x :: l, _ =>
    have hx : x < 128 := a6 x rfl
    have hl : ∀ y ∈ l, y < 256 := fun y hy => a3 y (List.mem_cons_of_mem _ hy)
    have hl7 : l.length ≤ 7 := by simp at a4; omega
    obtain ⟨N, hN⟩ : ∃ N, (x :: l).length = N := ⟨_, rfl⟩
    have hNl : N = l.length + 1 := by rw [← hN]; rfl
    rw [hN] at hr0 hc b0 e0 ⊢
    obtain ⟨g, k, rfl, hgB, hcl⟩ := reads_form hr0 (by omega)
    have h0 := hcl 0 _ rfl
    rw [Nat.add_zero] at h0
    have hi8 : IntKind.i8.wrap (x : Int) = x := by
      have e : (x : Int) % 2 ^ 8 = x := Int.emod_eq_of_lt (by omega) (by omega)
      simp only [IntKind.wrap, IntKind.bits, IntKind.signed, e]
      rw [if_neg]
      simp
      omega
    have y1 := b0.cell 1
    have e1 : (0 : Int) < N := by omega
    have e2 : (1 : Int) ≤ N := by omega
    have hcell : ∀ (j : Nat) (y : Nat), l[j]? = some y → W0.cell? ⟨g, k + 1 + j, none⟩ = some (.int .u8 (y : Int)) := fun j y hj => by
        have := hcl (j + 1) (.int .u8 (y : Int)) (by simp [bv, hj])
        rw [show k + 1 + j = k + (j + 1) by omega]; exact this
    have HX0 := Lib.hid x0
    have HL := Lib.hid hl
    have HN := Lib.hid hNl
    have HV := Lib.hid a2
    have HCL := Lib.hid hcell
    have HXX := Lib.hid hx
    have HL7 := Lib.hid hl7
    have hM : N - 1 = l.length := by omega
    clear b0 x0 hr hr0 hcl a1 a2 a3 a4 a6 hL hN hcell hNl hl
    go_enter Tryz.func278, Tryz.ntmps278
    go_upto_region 1 with (fail)
    try rw [e0]
    clear e0
    go_upto_region 3 with (fail)
    · try rw [hM]
      clear hM
      go_loopg [3, 16] l.length (fun m s3 s16 wr => ∃ j : Nat, j + m = l.length ∧ s3 = .int .i64 (beV (x :: l.take j) : Nat) ∧ s16 = .int .i64 j ∧ wr = W0)
      case atStart => exact ⟨0, by omega, by simp [beV], rfl, rfl⟩
      case round =>
        obtain ⟨j, hj, rfl, rfl, rfl⟩ := hrel
        by_cases h : j < l.length
        · have := HN.out
          exact absurd h (by omega)
        · obtain rfl : j = l.length := by omega
          rw [List.take_length, HV.out]
          clear hj h
          go_wp2
          go_ret
          exact ⟨rfl, HX0.out⟩
    · try rw [hM]
      clear hM
      go_loopg [3, 16] l.length (fun m s3 s16 wr => ∃ j : Nat, j + m = l.length ∧ s3 = .int .i64 (beV (x :: l.take j) : Nat) ∧ s16 = .int .i64 j ∧ wr = W0)
      case atStart => exact ⟨0, by omega, by simp [beV], rfl, rfl⟩
      case round =>
        obtain ⟨j, hj, rfl, rfl, rfl⟩ := hrel
        by_cases h : j < l.length
        · obtain ⟨y, hy⟩ : ∃ s, l[j]? = some s := ⟨_, List.getElem?_eq_getElem h⟩
          have q0 := HCL.out j y hy
          have hyb := HL.out y (List.mem_of_getElem? hy)
          have htk : beV (x :: l.take (j + 1)) = beV (x :: l.take j) * 256 + y := by rw [List.take_add_one, hy, ← be_snoc]; simp
          have hsm := beV_small HXX.out (l := l.take j) (fun z hz => HL.out z (List.mem_of_mem_take hz)) (by rw [List.length_take]; have := HL7.out; omega)
          have hor := i64_or8 _ y hsm hyb
          rw [← htk] at hor
          obtain ⟨a, ha⟩ : ∃ a, beV (x :: l.take j) = a := ⟨_, rfl⟩
          obtain ⟨b, hb⟩ : ∃ b, beV (x :: l.take (j + 1)) = b := ⟨_, rfl⟩
          rw [ha] at hor hsm ⊢
          rw [hb] at hor
          have HBE := Lib.hid hb
          have hj7 : (j : Int) ≤ 7 := by have := HL7.out; omega
          have hjn : (j : Int) < l.length := by omega
          have HJ := Lib.hid hj
          clear hy htk ha hb hj
          go_wp2
          go_roundg (gk - 1)
          case measure => have := HJ.out; omega
          case rel => exact ⟨j + 1, by have := HJ.out; omega, by rw [HBE.out], int_congr (by omega), rfl⟩
        · obtain rfl : j = l.length := by omega
          rw [List.take_length, HV.out]
          clear hj h
          go_wp2
          go_ret
          exact ⟨rfl, HX0.out⟩
set_option maxRecDepth 100000 in
set_option maxHeartbeats 2000000 in
theorem asText1_any (s : ByteArray) (A : Option Addr) (c : Nat) (w : World) (hr : Reads w w.heap.size 1 A (txN s).length (bv (txN s))) :
    Calls Tryz.prog 230 #[.agg #[.int .i64 12, .slice A (txN s).length c, .slice none 0 0]] w fun e w' => e = .returned (.string s) ∧ Ext w w' := by
  obtain ⟨W0, e0⟩ : ∃ W, w.alloc (.cells #[.int .i64 12, .slice A (txN s).length c, .slice none 0 0] 77) = W := ⟨_, rfl⟩
  have b0 : Blk W0 w.heap.size 77 #[.int .i64 12, .slice A (txN s).length c, .slice none 0 0] := by rw [← e0]; exact Blk.new _ _ _
  have x0 : Ext w W0 := by rw [← e0]; exact (Ext.refl w).alloc _
  have y1 := b0.cell 1
  have cv := conv_txt (c := c) s (hr.below x0.out)
  obtain ⟨N, hN⟩ : ∃ N, (txN s).length = N := ⟨_, rfl⟩
  rw [hN] at cv y1 e0 ⊢
  have HX0 := Lib.hid x0
  clear b0 x0 hr hN
  go_enter Tryz.func230, Tryz.ntmps230
  go_upto_region 1 with (fail)
  try rw [e0]
  clear e0
  go_wp2
  go_ret
  exact ⟨rfl, HX0.out⟩
set_option maxRecDepth 100000 in
set_option maxHeartbeats 2000000 in
theorem asBool1_any (b : Nat) (A : Option Addr) (c : Nat) (w : World) (hr : Reads w w.heap.size 1 A 1 (bv [b])) :
    Calls Tryz.prog 232 #[.agg #[.int .i64 1, .slice A 1 c, .slice none 0 0]] w fun e w' => e = .returned (.bool ((b : Int) != 0)) ∧ Ext w w' := by
  obtain ⟨W0, e0⟩ : ∃ W, w.alloc (.cells #[.int .i64 1, .slice A 1 c, .slice none 0 0] 77) = W := ⟨_, rfl⟩
  have b0 : Blk W0 w.heap.size 77 #[.int .i64 1, .slice A 1 c, .slice none 0 0] := by rw [← e0]; exact Blk.new _ _ _
  have x0 : Ext w W0 := by rw [← e0]; exact (Ext.refl w).alloc _
  have y1 := b0.cell 1
  obtain ⟨g, k, rfl, -, hcl⟩ := reads_form (hr.below x0.out) (by decide)
  have h0 := hcl 0 _ rfl
  rw [Nat.add_zero] at h0
  have HX0 := Lib.hid x0
  clear b0 x0 hr hcl
  go_enter Tryz.func232, Tryz.ntmps232
  go_upto_region 1 with (fail)
  try rw [e0]
  clear e0
  go_wp2
  go_ret
  exact ⟨rfl, HX0.out⟩
set_option maxRecDepth 100000 in
set_option maxHeartbeats 2000000 in
theorem asSeq1_any (n : Nat) (hn : n ≤ 100000) (vs : List ItV) (A2 : Option Addr) (c c2 : Nat) (w : World) (hr : Reads w w.heap.size 3 A2 n (itsV vs)) :
    Calls Tryz.prog 276 #[.agg #[.int .i64 48, .slice none 0 c, .slice A2 n c2]] w fun e w' => ∃ A c', e = .returned (.slice A n c') ∧ n ≤ c' ∧ RdS w' (fun b => w.heap.size ≤ b ∧ b < w'.heap.size) 3 A n (itsV vs) ∧ Ext w w' := by
  obtain ⟨W0, e0⟩ : ∃ W, w.alloc (.cells #[.int .i64 48, .slice none 0 c, .slice A2 n c2] 77) = W := ⟨_, rfl⟩
  have b0 : Blk W0 w.heap.size 77 #[.int .i64 48, .slice none 0 c, .slice A2 n c2] := by rw [← e0]; exact Blk.new _ _ _
  have x0 : Ext w W0 := by rw [← e0]; exact (Ext.refl w).alloc _
  have y2 := b0.cell 2
  have cC := cloneI_any A2 n c2 (itsV vs) (itsV_one vs) hn W0 ((hr.below x0.out).more x0.size)
  have HX0 := Lib.hid x0
  clear b0 x0 hr hn
  go_enter Tryz.func276, Tryz.ntmps276
  go_upto_region 1 with (fail)
  try rw [e0]
  clear e0
  go_wp2_with (go_at_call 224; refine cC.mono ?_; clear cC; rintro e w2 ⟨v2, rfl, ho2, x2⟩; obtain ⟨A3, c3, rfl, hc3, hr3⟩ := own_slice2 ho2)
  go_ret
  exact ⟨A3, c3, rfl, hc3, RdS.of_own ho2 (fun b h1 h2 _ => ⟨Nat.le_trans HX0.out.size h1, h2⟩), HX0.out.trans x2⟩
end Go.Proofs.YtfpmfegmehbfbaaGreatDoor

/- Items, walked: what they are of, by the four that read them. -/
namespace Go.Proofs.YtfpmfegmehbfbaaGreatDoor
set_option linter.unusedVariables false
set_option linter.unusedSimpArgs false
set_option linter.unusedSimpArgs false
open Go.RowKit Go.Shelf Go.Maps
set_option maxRecDepth 100000 in
set_option maxHeartbeats 4000000 in
theorem asInt_as (n0 : Nat) (h : n0 < 9223372036854775808) (v : ItV) (w : World) (hw : ItW w w.heap.size (natT n0) v) (hk : KindsW w) :
    Calls Tryz.prog 277 #[itV v, .int .i64 2, .func (.func 278) #[] #[]] w fun e w' => e = .returned (.tuple #[.int .i64 (n0 : Int), .int .i64 0]) ∧ Ext w w' := by
  obtain ⟨tg, A, n, c, A2, n2, c2⟩ := v
  have hw0 := hw
  unfold natT at hw0
  rw [ItW_p] at hw0
  obtain ⟨h1, h2, h3, h4, h5, h6, h7⟩ := hw0
  dsimp only at h1 h2 h3 h4 h5 h6 h7
  subst h1 h2 h5 h6 h7
  obtain ⟨W0, e0⟩ : ∃ W, w.alloc (.cells #[.int .i64 2, .slice A (intB n0).length c, .slice none 0 0] 77) = W := ⟨_, rfl⟩
  have b0 : Blk W0 w.heap.size 77 #[.int .i64 2, .slice A (intB n0).length c, .slice none 0 0] := by rw [← e0]; exact Blk.new _ _ _
  have x0 : Ext w W0 := by rw [← e0]; exact (Ext.refl w).alloc _
  have c1 := may_all 8 (by decide) (natT n0) ⟨2, A, (intB n0).length, c, none, 0, 0⟩ W0 (itOk_le (natT_ok h) (by decide)) (Nat.le_trans (natT_len h) (by decide)) (hw.ext x0) (hk.ext x0)
  have c2 := fun W (X : Ext W0 W) => asInt1_any n0 h A c h3 W ((h4.below (x0.trans X).out).more (x0.trans X).size)
  unfold itV at c1 ⊢
  dsimp only at c1 ⊢
  have y0 := b0.cell 0
  have y1 := b0.cell 1
  have y2 := b0.cell 2
  have HX0 := Lib.hid x0
  have HB0 := Lib.hid b0
  clear b0 x0 hw hk
  go_enter Tryz.func277, Tryz.ntmps277
  go_upto_region 1 with (fail)
  try rw [e0]
  clear e0
  go_wp2_with (first | (go_at_call 83; refine c1.mono ?_; clear c1; rintro e w1 ⟨rfl, x1⟩; clear y0 y1 y2; have z3 := ext_blk x1 HB0.out; have y0 := z3.cell 0; have y1 := z3.cell 1; have y2 := z3.cell 2) | (go_at_call 278; refine (c2 _ x1).mono ?_; clear c2; rintro e w2 ⟨rfl, x2⟩))
  go_ret2
  exact ⟨rfl, HX0.out.trans (x1.trans x2)⟩
set_option maxRecDepth 100000 in
set_option maxHeartbeats 4000000 in
theorem asText_as (s0 : ByteArray) (h : putC s0) (v : ItV) (w : World) (hw : ItW w w.heap.size (txtT s0) v) (hk : KindsW w) :
    Calls Tryz.prog 229 #[itV v, .int .i64 12, .func (.func 230) #[] #[]] w fun e w' => e = .returned (.tuple #[.string s0, .int .i64 0]) ∧ Ext w w' := by
  obtain ⟨tg, A, n, c, A2, n2, c2⟩ := v
  have hw0 := hw
  unfold txtT at hw0
  rw [ItW_p] at hw0
  obtain ⟨h1, h2, h3, h4, h5, h6, h7⟩ := hw0
  dsimp only at h1 h2 h3 h4 h5 h6 h7
  subst h1 h2 h5 h6 h7
  obtain ⟨W0, e0⟩ : ∃ W, w.alloc (.cells #[.int .i64 12, .slice A (txN s0).length c, .slice none 0 0] 77) = W := ⟨_, rfl⟩
  have b0 : Blk W0 w.heap.size 77 #[.int .i64 12, .slice A (txN s0).length c, .slice none 0 0] := by rw [← e0]; exact Blk.new _ _ _
  have x0 : Ext w W0 := by rw [← e0]; exact (Ext.refl w).alloc _
  have c1 := may_all 8 (by decide) (txtT s0) ⟨12, A, (txN s0).length, c, none, 0, 0⟩ W0 (itOk_le (txtT_ok h) (by decide)) (Nat.le_trans (txtT_len h) (by decide)) (hw.ext x0) (hk.ext x0)
  have c2 := fun W (X : Ext W0 W) => asText1_any s0 A c W ((h4.below (x0.trans X).out).more (x0.trans X).size)
  unfold itV at c1 ⊢
  dsimp only at c1 ⊢
  have y0 := b0.cell 0
  have y1 := b0.cell 1
  have y2 := b0.cell 2
  have HX0 := Lib.hid x0
  have HB0 := Lib.hid b0
  clear b0 x0 hw hk
  go_enter Tryz.func229, Tryz.ntmps229
  go_upto_region 1 with (fail)
  try rw [e0]
  clear e0
  go_wp2_with (first | (go_at_call 83; refine c1.mono ?_; clear c1; rintro e w1 ⟨rfl, x1⟩; clear y0 y1 y2; have z3 := ext_blk x1 HB0.out; have y0 := z3.cell 0; have y1 := z3.cell 1; have y2 := z3.cell 2) | (go_at_call 230; refine (c2 _ x1).mono ?_; clear c2; rintro e w2 ⟨rfl, x2⟩))
  go_ret2
  exact ⟨rfl, HX0.out.trans (x1.trans x2)⟩
set_option maxRecDepth 100000 in
set_option maxHeartbeats 4000000 in
theorem asBool_as (b0' : Bool) (v : ItV) (w : World) (hw : ItW w w.heap.size (boolT b0') v) (hk : KindsW w) :
    Calls Tryz.prog 231 #[itV v, .int .i64 1, .func (.func 232) #[] #[]] w fun e w' => e = .returned (.tuple #[.bool b0', .int .i64 0]) ∧ Ext w w' := by
  obtain ⟨tg, A, n, c, A2, n2, c2⟩ := v
  have hw0 := hw
  unfold boolT at hw0
  rw [ItW_p] at hw0
  obtain ⟨h1, h2, h3, h4, h5, h6, h7⟩ := hw0
  simp only [List.length_cons, List.length_nil, Nat.zero_add] at h2 h3 h4
  dsimp only at h1 h2 h3 h4 h5 h6 h7
  subst h1 h2 h5 h6 h7
  obtain ⟨W0, e0⟩ : ∃ W, w.alloc (.cells #[.int .i64 1, .slice A 1 c, .slice none 0 0] 77) = W := ⟨_, rfl⟩
  have b0 : Blk W0 w.heap.size 77 #[.int .i64 1, .slice A 1 c, .slice none 0 0] := by rw [← e0]; exact Blk.new _ _ _
  have x0 : Ext w W0 := by rw [← e0]; exact (Ext.refl w).alloc _
  have c1 := may_all 8 (by decide) (boolT b0') ⟨1, A, 1, c, none, 0, 0⟩ W0 (itOk_le (boolT_ok _) (by decide)) (by rw [boolT_len]; decide) (hw.ext x0) (hk.ext x0)
  have c2 := fun W (X : Ext W0 W) => asBool1_any (if b0' then 255 else 0) A c W ((h4.below (x0.trans X).out).more (x0.trans X).size)
  have hbb : (((if b0' then 255 else 0 : Nat) : Int) != 0) = b0' := by cases b0' <;> rfl
  rw [hbb] at c2
  unfold itV at c1 ⊢
  dsimp only at c1 ⊢
  have y0 := b0.cell 0
  have y1 := b0.cell 1
  have y2 := b0.cell 2
  have HX0 := Lib.hid x0
  have HB0 := Lib.hid b0
  clear b0 x0 hw hk
  go_enter Tryz.func231, Tryz.ntmps231
  go_upto_region 1 with (fail)
  try rw [e0]
  clear e0
  go_wp2_with (first | (go_at_call 83; refine c1.mono ?_; clear c1; rintro e w1 ⟨rfl, x1⟩; clear y0 y1 y2; have z3 := ext_blk x1 HB0.out; have y0 := z3.cell 0; have y1 := z3.cell 1; have y2 := z3.cell 2) | (go_at_call 232; refine (c2 _ x1).mono ?_; clear c2; rintro e w2 ⟨rfl, x2⟩))
  go_ret2
  exact ⟨rfl, HX0.out.trans (x1.trans x2)⟩
set_option maxRecDepth 100000 in
set_option maxHeartbeats 4000000 in
theorem asSeq_as (l : List It) (hok : itOk 8 (.s l)) (hl : (itB (.s l)).length ≤ 8192) (vs : List ItV) (v : ItV) (w : World) (hw : ItW w w.heap.size (.s l) v) (hr : Reads w w.heap.size 3 v.A2 l.length (itsV vs)) (hk : KindsW w) :
    Calls Tryz.prog 275 #[itV v, .int .i64 48, .func (.func 276) #[] #[]] w fun e w' => ∃ A c', e = .returned (.tuple #[.slice A l.length c', .int .i64 0]) ∧ l.length ≤ c' ∧ RdS w' (fun b => w.heap.size ≤ b ∧ b < w'.heap.size) 3 A l.length (itsV vs) ∧ Ext w w' := by
  obtain ⟨tg, A, n, c, A2, n2, c2⟩ := v
  have hw0 := hw
  rw [ItW_s] at hw0
  obtain ⟨h1, h2, h3, h4, h5, h6, -⟩ := hw0
  dsimp only at h1 h2 h3 h4 h5 h6 hr
  subst h1 h2 h3 h4 h5
  obtain ⟨W0, e0⟩ : ∃ W, w.alloc (.cells #[.int .i64 48,   .slice none 0 0, .slice A2 l.length c2] 77) = W := ⟨_, rfl⟩
  have b0 : Blk W0 w.heap.size 77 #[.int .i64 48,   .slice none 0 0, .slice A2 l.length c2] := by rw [← e0]; exact Blk.new _ _ _
  have x0 : Ext w W0 := by rw [← e0]; exact (Ext.refl w).alloc _
  have c1 := may_all 8 (by decide) (.s l) ⟨48, none, 0, 0, A2, l.length, c2⟩ W0 hok hl (hw.ext x0) (hk.ext x0)
  have hll : l.length ≤ 8192 := by
    have : ∀ l : List It, 2 * l.length ≤ (itsB l).length := by
      intro l
      induction l with
      | nil => simp
      | cons t l ih => rw [itsB_cons, List.length_append, List.length_cons]; have := itB_pos t; omega
    have h2 := this l
    rw [itB_s, List.length_append] at hl
    omega
  have c2 := fun W (X : Ext W0 W) => asSeq1_any l.length (by omega) vs A2 0 c2 W ((hr.below (x0.trans X).out).more (x0.trans X).size)
  unfold itV at c1 ⊢
  dsimp only at c1 ⊢
  have y0 := b0.cell 0
  have y1 := b0.cell 1
  have y2 := b0.cell 2
  have HX0 := Lib.hid x0
  have HB0 := Lib.hid b0
  clear b0 x0 hw hk
  go_enter Tryz.func275, Tryz.ntmps275
  go_upto_region 1 with (fail)
  try rw [e0]
  clear e0
  go_wp2_with (first | (go_at_call 83; refine c1.mono ?_; clear c1; rintro e w1 ⟨rfl, x1⟩; clear y0 y1 y2; have z3 := ext_blk x1 HB0.out; have y0 := z3.cell 0; have y1 := z3.cell 1; have y2 := z3.cell 2) | (go_at_call 276; refine (c2 _ x1).mono ?_; clear c2; rintro e w2 ⟨A5, c5, rfl, hc5, hr5, x2⟩))
  go_ret2
  exact ⟨A5, c5, rfl, hc5, hr5.keep (fun _ _ => rfl) (fun b hb => ⟨Nat.le_trans (HX0.out.trans x1).size hb.1, hb.2⟩), HX0.out.trans (x1.trans x2)⟩
set_option maxRecDepth 100000 in
set_option maxHeartbeats 2000000 in
theorem asInt_any (n0 : Nat) (h : n0 < 9223372036854775808) (v : ItV) (w : World) (hw : ItW w w.heap.size (natT n0) v) (hk : KindsW w) :
    Calls Tryz.prog 228 #[itV v] w fun e w' => e = .returned (.tuple #[.int .i64 (n0 : Int), .int .i64 0]) ∧ Ext w w' := by
  obtain ⟨W0, e0⟩ : ∃ W, w.alloc (.cells #[.int .i64 (v.tag : Int), .slice v.A v.n v.c, .slice v.A2 v.n2 v.c2] 77) = W := ⟨_, rfl⟩
  have b0 : Blk W0 w.heap.size 77 #[.int .i64 (v.tag : Int), .slice v.A v.n v.c, .slice v.A2 v.n2 v.c2] := by rw [← e0]; exact Blk.new _ _ _
  have x0 : Ext w W0 := by rw [← e0]; exact (Ext.refl w).alloc _
  have c1 := asInt_as n0 h v W0 (hw.ext x0) (hk.ext x0)
  unfold itV at c1 ⊢
  have y0 := b0.cell 0
  have y1 := b0.cell 1
  have y2 := b0.cell 2
  have HX0 := Lib.hid x0
  clear b0 x0 hw hk
  go_enter Tryz.func228, Tryz.ntmps228
  go_upto_region 1 with (fail)
  try rw [e0]
  clear e0
  go_wp2_with (go_at_call 277; refine c1.mono ?_; clear c1; rintro e w2 ⟨rfl, x2⟩)
  go_ret2
  exact ⟨rfl, HX0.out.trans x2⟩
set_option maxRecDepth 100000 in
set_option maxHeartbeats 2000000 in
theorem asText_any (s0 : ByteArray) (h : putC s0) (v : ItV) (w : World) (hw : ItW w w.heap.size (txtT s0) v) (hk : KindsW w) :
    Calls Tryz.prog 161 #[itV v] w fun e w' => e = .returned (.tuple #[.string s0, .int .i64 0]) ∧ Ext w w' := by
  obtain ⟨W0, e0⟩ : ∃ W, w.alloc (.cells #[.int .i64 (v.tag : Int), .slice v.A v.n v.c, .slice v.A2 v.n2 v.c2] 77) = W := ⟨_, rfl⟩
  have b0 : Blk W0 w.heap.size 77 #[.int .i64 (v.tag : Int), .slice v.A v.n v.c, .slice v.A2 v.n2 v.c2] := by rw [← e0]; exact Blk.new _ _ _
  have x0 : Ext w W0 := by rw [← e0]; exact (Ext.refl w).alloc _
  have c1 := asText_as s0 h v W0 (hw.ext x0) (hk.ext x0)
  unfold itV at c1 ⊢
  have y0 := b0.cell 0
  have y1 := b0.cell 1
  have y2 := b0.cell 2
  have HX0 := Lib.hid x0
  clear b0 x0 hw hk
  go_enter Tryz.func161, Tryz.ntmps161
  go_upto_region 1 with (fail)
  try rw [e0]
  clear e0
  go_wp2_with (go_at_call 229; refine c1.mono ?_; clear c1; rintro e w2 ⟨rfl, x2⟩)
  go_ret2
  exact ⟨rfl, HX0.out.trans x2⟩
set_option maxRecDepth 100000 in
set_option maxHeartbeats 2000000 in
theorem asBool_any (b0' : Bool) (v : ItV) (w : World) (hw : ItW w w.heap.size (boolT b0') v) (hk : KindsW w) :
    Calls Tryz.prog 164 #[itV v] w fun e w' => e = .returned (.tuple #[.bool b0', .int .i64 0]) ∧ Ext w w' := by
  obtain ⟨W0, e0⟩ : ∃ W, w.alloc (.cells #[.int .i64 (v.tag : Int), .slice v.A v.n v.c, .slice v.A2 v.n2 v.c2] 77) = W := ⟨_, rfl⟩
  have b0 : Blk W0 w.heap.size 77 #[.int .i64 (v.tag : Int), .slice v.A v.n v.c, .slice v.A2 v.n2 v.c2] := by rw [← e0]; exact Blk.new _ _ _
  have x0 : Ext w W0 := by rw [← e0]; exact (Ext.refl w).alloc _
  have c1 := asBool_as b0' v W0 (hw.ext x0) (hk.ext x0)
  unfold itV at c1 ⊢
  have y0 := b0.cell 0
  have y1 := b0.cell 1
  have y2 := b0.cell 2
  have HX0 := Lib.hid x0
  clear b0 x0 hw hk
  go_enter Tryz.func164, Tryz.ntmps164
  go_upto_region 1 with (fail)
  try rw [e0]
  clear e0
  go_wp2_with (go_at_call 231; refine c1.mono ?_; clear c1; rintro e w2 ⟨rfl, x2⟩)
  go_ret2
  exact ⟨rfl, HX0.out.trans x2⟩
set_option maxRecDepth 100000 in
set_option maxHeartbeats 2000000 in
theorem asSeq_any (l : List It) (hok : itOk 8 (.s l)) (hl : (itB (.s l)).length ≤ 8192) (vs : List ItV) (v : ItV) (w : World) (hw : ItW w w.heap.size (.s l) v) (hr : Reads w w.heap.size 3 v.A2 l.length (itsV vs)) (hk : KindsW w) :
    Calls Tryz.prog 225 #[itV v] w fun e w' => ∃ A c', e = .returned (.tuple #[.slice A l.length c', .int .i64 0]) ∧ l.length ≤ c' ∧ RdS w' (fun b => w.heap.size ≤ b ∧ b < w'.heap.size) 3 A l.length (itsV vs) ∧ Ext w w' := by
  obtain ⟨W0, e0⟩ : ∃ W, w.alloc (.cells #[.int .i64 (v.tag : Int), .slice v.A v.n v.c, .slice v.A2 v.n2 v.c2] 77) = W := ⟨_, rfl⟩
  have b0 : Blk W0 w.heap.size 77 #[.int .i64 (v.tag : Int), .slice v.A v.n v.c, .slice v.A2 v.n2 v.c2] := by rw [← e0]; exact Blk.new _ _ _
  have x0 : Ext w W0 := by rw [← e0]; exact (Ext.refl w).alloc _
  have c1 := asSeq_as l hok hl vs v W0 (hw.ext x0) ((hr.below x0.out).more x0.size) (hk.ext x0)
  unfold itV at c1 ⊢
  have y0 := b0.cell 0
  have y1 := b0.cell 1
  have y2 := b0.cell 2
  have HX0 := Lib.hid x0
  clear b0 x0 hw hk
  go_enter Tryz.func225, Tryz.ntmps225
  go_upto_region 1 with (fail)
  try rw [e0]
  clear e0
  go_wp2_with (go_at_call 275; refine c1.mono ?_; clear c1; rintro e w2 ⟨A5, c5, rfl, hc5, hr5, x2⟩)
  go_ret2
  exact ⟨A5, c5, rfl, hc5, hr5.keep (fun _ _ => rfl) (fun b hb => ⟨Nat.le_trans HX0.out.size hb.1, hb.2⟩), HX0.out.trans x2⟩
end Go.Proofs.YtfpmfegmehbfbaaGreatDoor
