/- Parts of the proofs, put together: CtH6, CtH8. -/
import Derived.Test.YtfpmfegmehbfbaaGreatDoorZ18
import Derived.Test.YtfpmfegmehbfbaaGreatDoorZ35
import Derived.Test.YtfpmfegmehbfbaaGreatDoorZ44
import Derived.Test.YtfpmfegmehbfbaaGreatDoorZ45
/- TopCert, walked: a certificate that has form. -/
namespace Go.Proofs.YtfpmfegmehbfbaaGreatDoor
set_option linter.unusedVariables false
set_option linter.unusedSimpArgs false
set_option linter.unusedSimpArgs false
open Go.RowKit Go.Shelf Go.Maps

theorem CrtW.bareT {w : World} {B : Nat} {r : CrtR} {nA : Option Addr} {nc : Nat} {pA : Option Addr} {pc : Nat} {mA : Option Addr} {mc : Nat} (hf : formC namP patP r) (h : CrtW w B ⟨r, nA, nc, pA, pc, mA, mc⟩) : CrtW w B ⟨bareC r true, nA, nc, pA, pc, mA, mc⟩ :=
  ⟨h.names, h.perm, h.proms, few_of (good_of (form_bare hf true))⟩
theorem CrtW.bareF {w : World} {B : Nat} {r : CrtR} {nA : Option Addr} {nc : Nat} {pA : Option Addr} {pc : Nat} {mA : Option Addr} {mc : Nat} (hf : formC namP patP r) (h : CrtW w B ⟨r, nA, nc, pA, pc, mA, mc⟩) : CrtW w B ⟨bareC r false, nA, nc, pA, pc, none, 0⟩ :=
  ⟨h.names, h.perm, Reads.none_, few_of (good_of (form_bare hf false))⟩
theorem txt_of (l : List Nat) (h : ∀ x ∈ l, x < 256) : ∃ S : ByteArray, txN S = l := by
  refine ⟨⟨(l.map UInt8.ofNat).toArray⟩, ?_⟩
  unfold txN
  simp only [List.map_map]
  conv => rhs; rw [← List.map_id l]
  refine List.map_congr_left fun x hx => ?_
  have := h x hx
  simp [Nat.mod_eq_of_lt this]
theorem lat13 {W : World} {g : Nat} {T : TypeId} {a b c d e f h i j k l m n : Value} (z : Blk W g T #[a, b, c, d, e, f, h, i, j, k, l, m, n]) : (∀ x : Later W, x.W.cell? ⟨g, 0, none⟩ = some a) ∧ (∀ x : Later W, x.W.cell? ⟨g, 1, none⟩ = some b) ∧ (∀ x : Later W, x.W.cell? ⟨g, 2, none⟩ = some c) ∧ (∀ x : Later W, x.W.cell? ⟨g, 3, none⟩ = some d) ∧ (∀ x : Later W, x.W.cell? ⟨g, 4, none⟩ = some e) ∧ (∀ x : Later W, x.W.cell? ⟨g, 5, none⟩ = some f) ∧ (∀ x : Later W, x.W.cell? ⟨g, 6, none⟩ = some h) ∧ (∀ x : Later W, x.W.cell? ⟨g, 7, none⟩ = some i) ∧ (∀ x : Later W, x.W.cell? ⟨g, 8, none⟩ = some j) ∧ (∀ x : Later W, x.W.cell? ⟨g, 9, none⟩ = some k) ∧ (∀ x : Later W, x.W.cell? ⟨g, 10, none⟩ = some l) ∧ (∀ x : Later W, x.W.cell? ⟨g, 11, none⟩ = some m) ∧ (∀ x : Later W, x.W.cell? ⟨g, 12, none⟩ = some n) :=
  ⟨fun x => x.cell (z.cell 0), fun x => x.cell (z.cell 1), fun x => x.cell (z.cell 2), fun x => x.cell (z.cell 3), fun x => x.cell (z.cell 4), fun x => x.cell (z.cell 5), fun x => x.cell (z.cell 6), fun x => x.cell (z.cell 7), fun x => x.cell (z.cell 8), fun x => x.cell (z.cell 9), fun x => x.cell (z.cell 10), fun x => x.cell (z.cell 11), fun x => x.cell (z.cell 12)⟩
set_option maxRecDepth 100000 in
set_option maxHeartbeats 16000000 in
theorem tc_yes (r : CrtR) (hf : formC namP patP r) (nA : Option Addr) (nc : Nat) (pA : Option Addr) (pc : Nat) (mA : Option Addr) (mc : Nat) (w : World) (hw : CrtW w w.heap.size ⟨r, nA, nc, pA, pc, mA, mc⟩) (hk : KindsW w) :
    Calls Tryz.prog 5 #[crtV ⟨r, nA, nc, pA, pc, mA, mc⟩] w fun e w' => e = .returned (.bool true) ∧ Ext w w' := by
  have hg := good_of hf
  have few := few_of hg
  obtain ⟨W0, e0⟩ : ∃ W, w.alloc (.cells #[.int .i64 r.ser, .string r.iss, .string r.sub, .int .u64 (r.key : Int), .slice nA r.names.length nc, .int .i64 r.frm, .int .i64 r.unt, .bool r.ca, .int .i64 r.dep, .slice pA r.perm.length pc, .slice mA r.proms.length mc, .int .u64 (r.e : Int), .int .u64 (r.s : Int)] 67) = W := ⟨_, rfl⟩
  have b0 : Blk W0 w.heap.size 67 #[.int .i64 r.ser, .string r.iss, .string r.sub, .int .u64 (r.key : Int), .slice nA r.names.length nc, .int .i64 r.frm, .int .i64 r.unt, .bool r.ca, .int .i64 r.dep, .slice pA r.perm.length pc, .slice mA r.proms.length mc, .int .u64 (r.e : Int), .int .u64 (r.s : Int)] := by rw [← e0]; exact Blk.new _ _ _
  have x0 : Ext w W0 := by rw [← e0]; exact (Ext.refl w).alloc _
  have HW := Lib.hid fun W (X : Ext W0 W) => hw.ext (x0.trans X)
  have HK := Lib.hid fun W (X : Ext W0 W) => hk.ext (x0.trans X)
  have c1 := up_any W0 (hk.ext x0)
  have c2 := fun W (X : Ext W0 W) => Few_any ⟨r, nA, nc, pA, pc, mA, mc⟩ ⟨by have := few.2.2.1.1; dsimp only; omega, by have := few.2.2.2.1.1; dsimp only; omega⟩ W (HW.out W X).names (HW.out W X).perm
  have c3 := fun W (X : Ext W0 W) => cPut_yes ⟨r, nA, nc, pA, pc, mA, mc⟩ hf W (HW.out W X) (HK.out W X)
  have c4 := fun A cap W (X : Ext W0 W) hc hr => cGet_yes r hf A cap W.heap.size W hc (HK.out W X) (Nat.le_refl _) hr
  have c5 := fun W (X : Ext W0 W) => cBody_yes ⟨r, nA, nc, pA, pc, mA, mc⟩ hf W (HW.out W X) (HK.out W X)
  have c6 := fun A cap W (X : Ext W0 W) hc hr => cGetB_yes r hf A cap W.heap.size W hc (HK.out W X) (Nat.le_refl _) hr
  have c7 := fun W (X : Ext W0 W) => cPre_yes ⟨r, nA, nc, pA, pc, mA, mc⟩ hf W (HW.out W X) (HK.out W X)
  have c8 := fun A cap W (X : Ext W0 W) hc hr => cGetP_yes r hf A cap W.heap.size W hc (HK.out W X) (Nat.le_refl _) hr
  have c9 := fun W (X : Ext W0 W) => cLeaf_yes r hf nA nc pA pc mA mc W (HW.out W X) (HK.out W X)
  have ho := itOk_le (whoT_ok hg) (show 5 ≤ 8 by decide)
  have hl := Nat.le_trans (whoT_len hg) (show 1545 ≤ 8192 by decide)
  have c10 := fun A cap W (X : Ext W0 W) hc hr => dGet_any (whoT r) A cap W.heap.size W ho hl hc (HK.out W X) (Nat.le_refl _) hr
  have c11 := fun v W (X : Ext W0 W) hv => dPut_any (whoT r) v W ho hl hv (HK.out W X)
  have c12 := fun A k hk W hr => leafP_any r hg A k hk W hr
  obtain ⟨l1, h1⟩ : ∃ n, (leafC r).1 = n := ⟨_, rfl⟩
  obtain ⟨l2, h2⟩ : ∃ n, (leafC r).2 = n := ⟨_, rfl⟩
  rw [h1, h2] at c9 c12
  dsimp only at c2 c3 c5 c7
  have hby := itB_byte ho (by omega)
  obtain ⟨TW, hTW⟩ : ∃ T, itB (whoT r) = T := ⟨_, rfl⟩
  obtain ⟨TB, hTB⟩ : ∃ T, itB (bodT r) = T := ⟨_, rfl⟩
  obtain ⟨TP, hTP⟩ : ∃ T, itB (preT r) = T := ⟨_, rfl⟩
  rw [hTW] at c3 c4 c10 c11 hl hby
  rw [hTB] at c5 c6
  rw [hTP] at c7 c8 c12
  obtain ⟨tW, htW⟩ : ∃ t, whoT r = t := ⟨_, rfl⟩
  rw [htW] at c10 c11
  obtain ⟨NW, hNW⟩ : ∃ N, TW.length = N := ⟨_, rfl⟩
  obtain ⟨NB, hNB⟩ : ∃ N, TB.length = N := ⟨_, rfl⟩
  obtain ⟨NP, hNP⟩ : ∃ N, TP.length = N := ⟨_, rfl⟩
  rw [hNW] at c3 c4 c10 c11 hl
  rw [hNB] at c5 c6
  rw [hNP] at c7 c8 c12
  have HF := Lib.hid hf
  have HNW := Lib.hid (And.intro hNW hby)
  have FEW := Lib.hid few
  obtain ⟨ser, iss, sub, key, names, frm, unt, ca, dep, perm, proms, e, s⟩ := r
  unfold crtV crtC at c2 c3 c4 c5 c6 c7 c8 c9 ⊢
  unfold bareC at c6 c8
  unfold itV at c10 c11
  dsimp only at c2 c3 c4 c5 c6 c7 c8 c9 b0 e0 ⊢
  simp only [if_true] at c6
  try simp only [Bool.false_eq_true, if_false, List.length_nil] at c8
  have HB1 := Lib.hid b0
  have HX0 := Lib.hid x0
  clear b0 x0 hw hk hf hg few ho hl hby h1 h2 hTW hTB hTP htW hNW hNB hNP
  go_enter Tryz.func5, Tryz.ntmps5
  go_upto_region 1 with (fail)
  try rw [e0]
  clear e0
  go_upto_region 3 with (go_at_call 7; refine c1.mono ?_; clear c1; rintro e w1 ⟨rfl, x1⟩; have X1 := x1; clear x1; obtain ⟨m0, m1, m2, m3, m4, m5, m6, m7, m8, m9, m10, m11, m12⟩ := lst13 (ext_blk X1 HB1.out))
  go_upto_region 5 with (go_at_call 21; refine (c2 _ X1).mono ?_; clear c2; rintro e w2 ⟨b, rfl, hb, x2⟩; obtain rfl : b = true := hb.2 FEW.out; have X2 := X1.trans x2; clear x2 hb X1; clear m0 m1 m2 m3 m4 m5 m6 m7 m8 m9 m10 m11 m12; obtain ⟨m0, m1, m2, m3, m4, m5, m6, m7, m8, m9, m10, m11, m12⟩ := lst13 (ext_blk X2 HB1.out))
  go_upto_region 8 with (go_at_call 22; refine (c3 _ X2).mono ?_; clear c3; rintro e w3 ⟨bA, bc, rfl, hbc, hbr, x3⟩; have X3 := X2.trans x3; clear x3 X2; clear m0 m1 m2 m3 m4 m5 m6 m7 m8 m9 m10 m11 m12; obtain ⟨m0, m1, m2, m3, m4, m5, m6, m7, m8, m9, m10, m11, m12⟩ := lst13 (ext_blk X3 HB1.out))
  go_upto_region 9 with (go_at_call 23; refine (c4 bA bc _ X3 hbc hbr).mono ?_; clear c4; rintro e w4 ⟨anA, anc, apA, apc, amA, amc, rfl, ha, x4⟩)
  have X4 : Ext W0 (w4.alloc (.cells #[.int .i64 ser, .string iss, .string sub, .int .u64 (key : Int), .slice anA names.length anc, .int .i64 frm, .int .i64 unt, .bool ca, .int .i64 dep, .slice apA perm.length apc, .slice amA proms.length amc, .int .u64 (e : Int), .int .u64 (s : Int)] 67)) := (X3.trans x4).alloc _
  have b4 : Blk (w4.alloc (.cells #[.int .i64 ser, .string iss, .string sub, .int .u64 (key : Int), .slice anA names.length anc, .int .i64 frm, .int .i64 unt, .bool ca, .int .i64 dep, .slice apA perm.length apc, .slice amA proms.length amc, .int .u64 (e : Int), .int .u64 (s : Int)] 67)) w4.heap.size 67 #[.int .i64 ser, .string iss, .string sub, .int .u64 (key : Int), .slice anA names.length anc, .int .i64 frm, .int .i64 unt, .bool ca, .int .i64 dep, .slice apA perm.length apc, .slice amA proms.length amc, .int .u64 (e : Int), .int .u64 (s : Int)] := Blk.new _ _ _
  have y4 : Ext w4 (w4.alloc (.cells #[.int .i64 ser, .string iss, .string sub, .int .u64 (key : Int), .slice anA names.length anc, .int .i64 frm, .int .i64 unt, .bool ca, .int .i64 dep, .slice apA perm.length apc, .slice amA proms.length amc, .int .u64 (e : Int), .int .u64 (s : Int)] 67)) := (Ext.refl _).alloc _
  obtain ⟨V4, e4⟩ : ∃ W, w4.alloc (.cells #[.int .i64 ser, .string iss, .string sub, .int .u64 (key : Int), .slice anA names.length anc, .int .i64 frm, .int .i64 unt, .bool ca, .int .i64 dep, .slice apA perm.length apc, .slice amA proms.length amc, .int .u64 (e : Int), .int .u64 (s : Int)] 67) = W := ⟨_, rfl⟩
  rw [e4] at X4 b4 y4
  try rw [e4]
  clear e4 m0 m1 m2 m3 m4 m5 m6 m7 m8 m9 m10 m11 m12
  obtain ⟨m0, m1, m2, m3, m4, m5, m6, m7, m8, m9, m10, m11, m12⟩ := lst13 (ext_blk X4 HB1.out)
  go_upto_region 10 with (go_at_call 24; refine (c5 _ X4).mono ?_; clear c5; rintro e w5 ⟨dA, dc, rfl, hdc, hdr, x5⟩; have X5 := X4.trans x5; have X45 := x5; clear x5; clear m0 m1 m2 m3 m4 m5 m6 m7 m8 m9 m10 m11 m12; obtain ⟨m0, m1, m2, m3, m4, m5, m6, m7, m8, m9, m10, m11, m12⟩ := lst13 (ext_blk X5 HB1.out))
  go_upto_region 11 with (go_at_call 25; refine (c6 dA dc _ X5 hdc hdr).mono ?_; clear c6 hdr; rintro e w6 ⟨bnA, bnc, bpA, bpc, bmA, bmc, rfl, hb, x6⟩)
  have X6 : Ext W0 (w6.alloc (.cells #[.int .i64 ser, .string iss, .string sub, .int .u64 (key : Int), .slice bnA names.length bnc, .int .i64 frm, .int .i64 unt, .bool ca, .int .i64 dep, .slice bpA perm.length bpc, .slice bmA proms.length bmc, .int .u64 0, .int .u64 0] 67)) := (X5.trans x6).alloc _
  have b6 : Blk (w6.alloc (.cells #[.int .i64 ser, .string iss, .string sub, .int .u64 (key : Int), .slice bnA names.length bnc, .int .i64 frm, .int .i64 unt, .bool ca, .int .i64 dep, .slice bpA perm.length bpc, .slice bmA proms.length bmc, .int .u64 0, .int .u64 0] 67)) w6.heap.size 67 #[.int .i64 ser, .string iss, .string sub, .int .u64 (key : Int), .slice bnA names.length bnc, .int .i64 frm, .int .i64 unt, .bool ca, .int .i64 dep, .slice bpA perm.length bpc, .slice bmA proms.length bmc, .int .u64 0, .int .u64 0] := Blk.new _ _ _
  have y6 : Ext w6 (w6.alloc (.cells #[.int .i64 ser, .string iss, .string sub, .int .u64 (key : Int), .slice bnA names.length bnc, .int .i64 frm, .int .i64 unt, .bool ca, .int .i64 dep, .slice bpA perm.length bpc, .slice bmA proms.length bmc, .int .u64 0, .int .u64 0] 67)) := (Ext.refl _).alloc _
  obtain ⟨V6, e6⟩ : ∃ W, w6.alloc (.cells #[.int .i64 ser, .string iss, .string sub, .int .u64 (key : Int), .slice bnA names.length bnc, .int .i64 frm, .int .i64 unt, .bool ca, .int .i64 dep, .slice bpA perm.length bpc, .slice bmA proms.length bmc, .int .u64 0, .int .u64 0] 67) = W := ⟨_, rfl⟩
  rw [e6] at X6 b6 y6
  try rw [e6]
  clear e6 m0 m1 m2 m3 m4 m5 m6 m7 m8 m9 m10 m11 m12
  obtain ⟨m0, m1, m2, m3, m4, m5, m6, m7, m8, m9, m10, m11, m12⟩ := lst13 (ext_blk X6 HB1.out)
  go_upto_region 12 with (go_at_call 26; refine (c7 _ X6).mono ?_; clear c7; rintro e w7 ⟨eA, ec, rfl, hec, her, x7⟩; have X7 := X6.trans x7; have X67 := x7; clear x7; clear m0 m1 m2 m3 m4 m5 m6 m7 m8 m9 m10 m11 m12; obtain ⟨m0, m1, m2, m3, m4, m5, m6, m7, m8, m9, m10, m11, m12⟩ := lst13 (ext_blk X7 HB1.out))
  go_upto_region 13 with (go_at_call 27; refine (c8 eA ec _ X7 hec her).mono ?_; clear c8; rintro e w8 ⟨cnA, cnc, cpA, cpc, cmA, cmc, rfl, hc, x8⟩)
  have X8 : Ext W0 (w8.alloc (.cells #[.int .i64 ser, .string iss, .string sub, .int .u64 (key : Int), .slice cnA names.length cnc, .int .i64 frm, .int .i64 unt, .bool ca, .int .i64 dep, .slice cpA perm.length cpc, .slice cmA 0 cmc, .int .u64 0, .int .u64 0] 67)) := (X7.trans x8).alloc _
  have b8 : Blk (w8.alloc (.cells #[.int .i64 ser, .string iss, .string sub, .int .u64 (key : Int), .slice cnA names.length cnc, .int .i64 frm, .int .i64 unt, .bool ca, .int .i64 dep, .slice cpA perm.length cpc, .slice cmA 0 cmc, .int .u64 0, .int .u64 0] 67)) w8.heap.size 67 #[.int .i64 ser, .string iss, .string sub, .int .u64 (key : Int), .slice cnA names.length cnc, .int .i64 frm, .int .i64 unt, .bool ca, .int .i64 dep, .slice cpA perm.length cpc, .slice cmA 0 cmc, .int .u64 0, .int .u64 0] := Blk.new _ _ _
  have y8 : Ext w8 (w8.alloc (.cells #[.int .i64 ser, .string iss, .string sub, .int .u64 (key : Int), .slice cnA names.length cnc, .int .i64 frm, .int .i64 unt, .bool ca, .int .i64 dep, .slice cpA perm.length cpc, .slice cmA 0 cmc, .int .u64 0, .int .u64 0] 67)) := (Ext.refl _).alloc _
  obtain ⟨V8, e8⟩ : ∃ W, w8.alloc (.cells #[.int .i64 ser, .string iss, .string sub, .int .u64 (key : Int), .slice cnA names.length cnc, .int .i64 frm, .int .i64 unt, .bool ca, .int .i64 dep, .slice cpA perm.length cpc, .slice cmA 0 cmc, .int .u64 0, .int .u64 0] 67) = W := ⟨_, rfl⟩
  rw [e8] at X8 b8 y8
  try rw [e8]
  clear e8 m0 m1 m2 m3 m4 m5 m6 m7 m8 m9 m10 m11 m12
  obtain ⟨m0, m1, m2, m3, m4, m5, m6, m7, m8, m9, m10, m11, m12⟩ := lst13 (ext_blk X8 HB1.out)
  go_upto_region 14 with (go_at_call 28; refine (c9 _ X8).mono ?_; clear c9; rintro e w9 ⟨rfl, x9⟩)
  have X9 : Ext W0 (w9.alloc (.cells #[.int .u64 (l1 : Int), .int .u64 (l2 : Int)] 34)) := (X8.trans x9).alloc _
  have b9 : Blk (w9.alloc (.cells #[.int .u64 (l1 : Int), .int .u64 (l2 : Int)] 34)) w9.heap.size 34 #[.int .u64 (l1 : Int), .int .u64 (l2 : Int)] := Blk.new _ _ _
  have y9 : Ext w9 (w9.alloc (.cells #[.int .u64 (l1 : Int), .int .u64 (l2 : Int)] 34)) := (Ext.refl _).alloc _
  obtain ⟨V9, e9⟩ : ∃ W, w9.alloc (.cells #[.int .u64 (l1 : Int), .int .u64 (l2 : Int)] 34) = W := ⟨_, rfl⟩
  rw [e9] at X9 b9 y9
  try rw [e9]
  clear e9 m0 m1 m2 m3 m4 m5 m6 m7 m8 m9 m10 m11 m12
  have X89 := x9.trans y9
  have X79 := (x8.trans y8).trans X89
  have X69 := (y6.trans X67).trans X79
  have X49 := (y4.trans X45).trans (x6.trans X69)
  have X39 := x4.trans X49
  go_upto_region 15 with (go_at_call 29; refine (c10 bA bc V9 X9 hbc ((hbr.below X39.out).more X39.size)).mono ?_; clear c10; rintro e w10 ⟨v, rfl, hv, x10⟩)
  have X10 : Ext W0 (w10.alloc (.cells #[.int .i64 (v.tag : Int), .slice v.A v.n v.c, .slice v.A2 v.n2 v.c2] 77)) := (X9.trans x10).alloc _
  have b10 : Blk (w10.alloc (.cells #[.int .i64 (v.tag : Int), .slice v.A v.n v.c, .slice v.A2 v.n2 v.c2] 77)) w10.heap.size 77 #[.int .i64 (v.tag : Int), .slice v.A v.n v.c, .slice v.A2 v.n2 v.c2] := Blk.new _ _ _
  have y10 : Ext w10 (w10.alloc (.cells #[.int .i64 (v.tag : Int), .slice v.A v.n v.c, .slice v.A2 v.n2 v.c2] 77)) := (Ext.refl _).alloc _
  obtain ⟨V10, e10⟩ : ∃ W, w10.alloc (.cells #[.int .i64 (v.tag : Int), .slice v.A v.n v.c, .slice v.A2 v.n2 v.c2] 77) = W := ⟨_, rfl⟩
  rw [e10] at X10 b10 y10
  try rw [e10]
  clear e10
  have i0 := b10.cell 0
  have i1 := b10.cell 1
  have i2 := b10.cell 2
  go_upto_region 18 with (go_at_call 30; refine (c11 v V10 X10 (hv.ext y10)).mono ?_; clear c11; rintro e w11 ⟨fA, fc, rfl, hfc, hfr, x11⟩)
  have T := x10.trans (y10.trans x11)
  have X11 := X9.trans T
  have T8 := X89.trans T
  have T6 := (X67.trans X79).trans T
  have T4 := (X45.trans (x6.trans X69)).trans T
  have ha11 := ha.ext (y4.trans T4)
  have hb11 := hb.ext (y6.trans T6)
  have hc11 := hc.ext (y8.trans T8)
  have her11 := (her.below (X79.trans T).out).more (X79.trans T).size
  have hbr11 := (hbr.below (X39.trans T).out).more (X39.trans T).size
  obtain ⟨S, hS⟩ := txt_of TW HNW.out.2
  have hNS : NW = (txN S).length := by rw [hS, HNW.out.1]
  have cV1 := fun i : Later w11 => conv_txt (c := fc) S (w := i.W) (B := i.W.heap.size) (A := fA) (by rw [hS, HNW.out.1]; exact (hfr.below i.ext.out).more i.ext.size)
  have cV2 := fun i : Later w11 => conv_txt (c := bc) S (w := i.W) (B := i.W.heap.size) (A := bA) (by rw [hS, HNW.out.1]; exact (hbr11.below i.ext.out).more i.ext.size)
  rw [← hNS] at cV1 cV2
  have hwi := fun i : Later w11 => HW.out i.W (X11.trans i.ext)
  have cS1 := fun i : Later w11 => Same_any _ anA anc apA apc amA amc nA nc pA pc mA mc i.W (ha11.ext i.ext) (hwi i)
  have cS2 := fun i : Later w11 => Same_any _ bnA bnc bpA bpc bmA bmc nA nc pA pc mA mc i.W (hb11.ext i.ext) (CrtW.bareT HF.out (hwi i))
  have cS3 := fun i : Later w11 => Same_any _ cnA cnc cpA cpc cmA cmc nA nc pA pc none 0 i.W (hc11.ext i.ext) (CrtW.bareF HF.out (hwi i))
  have cB1 := fun i : Later w11 => bare_true ⟨ser, iss, sub, key, names, frm, unt, ca, dep, perm, proms, e, s⟩ nA nc pA pc mA mc i.W
  have cB2 := fun i : Later w11 => bare_false ⟨ser, iss, sub, key, names, frm, unt, ca, dep, perm, proms, e, s⟩ nA nc pA pc mA mc i.W
  have cL := fun i : Later w11 => c12 eA ec hec i.W ((her11.below i.ext.out).more i.ext.size)
  have qe := eqSumC 9997 (l1 : Int) (l2 : Int)
  unfold crtV crtC at cS1 cS2 cS3 cB1 cB2
  try unfold bareC at cS2
  try unfold bareC at cS3
  unfold bareC at cB1 cB2
  dsimp only at cS1 cS2 cS3 cB1 cB2
  try simp only [if_true] at cS2
  simp only [if_true] at cB1
  try simp only [Bool.false_eq_true, if_false, List.length_nil] at cS3
  try simp only [Bool.false_eq_true, if_false, List.length_nil] at cB2
  have BXA := Lib.hid (ext_blk T4 b4)
  have BXB := Lib.hid (ext_blk T6 b6)
  have BXC := Lib.hid (ext_blk T8 b8)
  have BXS := Lib.hid (ext_blk T b9)
  have BXM := Lib.hid (ext_blk X11 HB1.out)
  have CS1 := Lib.hid cS1
  clear cS1
  have CS2 := Lib.hid cS2
  clear cS2
  have CS3 := Lib.hid cS3
  clear cS3
  have CB1 := Lib.hid cB1
  clear cB1
  have CB2 := Lib.hid cB2
  clear cB2
  have CL := Lib.hid cL
  clear cL
  have qeH := Lib.hid qe
  have cV1H := Lib.hid cV1
  have cV2H := Lib.hid cV2
  clear qe cV1 cV2
  have HX11 := Lib.hid X11
  clear T X11 T8 T6 T4 ha ha11 hb hb11 hc hc11 her her11 hbr hbr11 hfr hS hNS hwi c12 X10 X9 X8 X7 X6 X5 X4 X3 X39 X49 X69 X79 X89 X45 X67 x4 y4 x6 y6 x8 y8 x9 y9 x10 y10 x11 b4 b6 b8 b9 b10 i0 i1 i2 hv hbc hdc hec hfc
  refine wp_region_later (by kernel_rfl) (by kernel_rfl) ?_
  obtain ⟨f0, f1, f2, f3, f4, f5, f6, f7, f8, f9, f10, f11, f12⟩ := lat13 BXA.out
  go_big_quiet_step (fail)
  clear f0 f1 f2 f3 f4 f5 f6 f7 f8 f9 f10 f11 f12
  obtain ⟨f0, f1, f2, f3, f4, f5, f6, f7, f8, f9, f10, f11, f12⟩ := lat13 BXM.out
  go_big_quiet_step (fail)
  clear f0 f1 f2 f3 f4 f5 f6 f7 f8 f9 f10 f11 f12
  go_big_quiet_step ((go_at_call 31; exact Later.calls (CS1.out _)))
  clear CS1
  go_big_quiet_step (fail)
  obtain ⟨f0, f1, f2, f3, f4, f5, f6, f7, f8, f9, f10, f11, f12⟩ := lat13 BXB.out
  go_big_quiet_step (fail)
  clear f0 f1 f2 f3 f4 f5 f6 f7 f8 f9 f10 f11 f12
  obtain ⟨f0, f1, f2, f3, f4, f5, f6, f7, f8, f9, f10, f11, f12⟩ := lat13 BXM.out
  go_big_quiet_step (fail)
  clear f0 f1 f2 f3 f4 f5 f6 f7 f8 f9 f10 f11 f12
  go_big_quiet_step ((go_at_call 32; exact Later.calls (CB1.out _)))
  clear CB1
  go_big_quiet_step ((go_at_call 31; exact Later.calls (CS2.out _)))
  clear CS2
  go_big_quiet_step (fail)
  go_big_quiet_step (fail)
  obtain ⟨f0, f1, f2, f3, f4, f5, f6, f7, f8, f9, f10, f11, f12⟩ := lat13 BXC.out
  go_big_quiet_step (fail)
  clear f0 f1 f2 f3 f4 f5 f6 f7 f8 f9 f10 f11 f12
  obtain ⟨f0, f1, f2, f3, f4, f5, f6, f7, f8, f9, f10, f11, f12⟩ := lat13 BXM.out
  go_big_quiet_step (fail)
  clear f0 f1 f2 f3 f4 f5 f6 f7 f8 f9 f10 f11 f12
  go_big_quiet_step ((go_at_call 32; exact Later.calls (CB2.out _)))
  clear CB2
  go_big_quiet_step ((go_at_call 31; exact Later.calls (CS3.out _)))
  clear CS3
  go_big_quiet_step (fail)
  go_big_quiet_step (fail)
  have f0 := fun i : Later w11 => i.cell (BXS.out.cell 0)
  have f1 := fun i : Later w11 => i.cell (BXS.out.cell 1)
  go_big_quiet_step (fail)
  clear f0 f1 BXS
  go_big_quiet_step (fail)
  go_big_quiet_step ((go_at_call 17; exact Later.calls (CL.out _)))
  clear CL
  have qe := qeH.out
  go_big_quiet_step (fail)
  clear qe
  go_big_quiet_step (fail)
  go_big_quiet_step (fail)
  go_big_quiet_step (fail)
  go_big_quiet_step (fail)
  go_big_quiet_step (fail)
  go_big_quiet_step (fail)
  go_big_quiet_step (fail)
  go_big_quiet_step (fail)
  have cV1 := cV1H.out
  go_big_quiet_step (fail)
  go_big_quiet_step (fail)
  clear cV1
  have cV2 := cV2H.out
  go_big_quiet_step (fail)
  go_big_quiet_step (fail)
  clear cV2
  go_big_quiet_step (fail)
  go_big_quiet_step (fail)
  go_big_quiet_step (fail)
  refine wpQuiet_nil ?_
  rintro w14 ⟨i, hi⟩
  have x14 : Ext w11 w14 := by rw [hi]; exact i.ext
  clear hi i
  go_wp2
  go_ret
  exact ⟨rfl, HX0.out.trans (HX11.out.trans x14)⟩
end Go.Proofs.YtfpmfegmehbfbaaGreatDoor

/- TopCert, walked: whatever comes in. -/
namespace Go.Proofs.YtfpmfegmehbfbaaGreatDoor
set_option linter.unusedVariables false
set_option linter.unusedSimpArgs false
open Go.RowKit

theorem walk_TopCert (x : CrtX) (W : World) (h : CrtI W x) (hk : KindsW W) :
    Calls Tryz.prog 5 #[crtV x] W fun e w' => e = .returned (.bool true) ∧ Ext W w' := by
  by_cases hf : fewC x.r
  · have hw : CrtW W W.heap.size x := ⟨h.names, h.perm, h.proms, hf⟩
    by_cases hc : formC namP patP x.r
    · obtain ⟨r, nA, nc, pA, pc, mA, mc⟩ := x
      exact tc_yes r hc nA nc pA pc mA mc W hw hk
    · exact tc_no x hc W hw hk
  · exact tc_many x ⟨h.nl, h.pl⟩ hf W h.names h.perm hk
end Go.Proofs.YtfpmfegmehbfbaaGreatDoor
