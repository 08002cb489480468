/- Parts of the proofs, put together: OrLaw3. -/
import Derived.Test.YtbhdmfijdhcehaaGreatDoorO21
/- OrderSerials, walked: serial numbers rise. -/
namespace Go.Proofs.YtbhdmfijdhcehaaGreatDoor
set_option linter.unusedVariables false
set_option linter.unusedSimpArgs false
set_option linter.unusedSimpArgs false
open Go.RowKit Go.Shelf Go.Maps

set_option maxRecDepth 100000 in
set_option maxHeartbeats 16000000 in
theorem walk_OrderSerials (d : DoorX) (id ser other less : Int) (hid : (Lit.int .i64 id).wf = true) (hser : (Lit.int .i64 ser).wf = true) (hother : (Lit.int .i64 other).wf = true) (hless : (Lit.int .u8 less).wf = true) (w : World) (hd : DoorI w d) :
    Calls Tryz.prog 11 #[frontV d, .int .i64 id, .int .i64 ser, .int .i64 other, .int .u8 less] w fun e w' => e = .returned (.bool true) ∧ Ext w w' := by
  obtain ⟨W0, e0, b0, x0, s0⟩ := start1 w #[.int .i64 d.next, .slice d.oA d.opn.length d.oc, .slice d.cA d.accs.length d.cc, .slice d.uA d.auts.length d.uc, .slice d.rA d.ords.length d.rc, .int .i64 d.ser] 43
  have c0 := fun W => live_any W
  have c1 := fun W (x : Ext W0 W) => Few_any d W (hd.ext (x0.trans x))
  have HD := Lib.hid hd
  have HB0 := Lib.hid b0
  have HX0 := Lib.hid x0
  have HLESS := Lib.hid hless
  unfold frontV at c1 ⊢
  clear b0 x0 s0 hd hless hid hser hother
  go_enter Tryz.func11, Tryz.ntmps11
  go_upto_region 1 with (fail)
  try rw [e0]
  clear e0
  by_cases hfew : fewP d.fro
  case neg =>
    rw [decide_eq_false hfew] at c1
    clear hfew
    go_wp2_with (first
      | (go_at_call 12; refine (c0 _).mono ?_; clear c0; rintro e w1 ⟨rfl, x1⟩; obtain ⟨m0, m1, m2, m3, m4, m5⟩ := arr6f (ext_blk x1 HB0.out))
      | (go_at_call 23; refine (c1 _ x1).mono ?_; clear c1; rintro e w2 ⟨rfl, x2⟩))
    go_ret
    exact ⟨rfl, HX0.out.trans (x1.trans x2)⟩
  rw [decide_eq_true hfew] at c1
  have HDW := Lib.hid (HD.out.door hfew)
  have HL := Lib.hid (DoorI.few_len hfew)
  have c2 := fun W (x : Ext W0 W) => oDone_any d id ser W (HDW.out.ext (HX0.out.trans x)) (by have := HL.out; omega) (by have := HL.out; omega)
  clear hfew
  obtain ⟨E, hE⟩ : ∃ E, (donF d.fro id ser).2 = E := ⟨_, rfl⟩
  unfold outS at c2
  rw [hE] at c2
  unfold frontV at c2
  have HE := Lib.hid hE
  clear hE
  go_upto_region 5 with (first
      | (go_at_call 12; refine (c0 _).mono ?_; clear c0; rintro e w1 ⟨rfl, x1⟩; obtain ⟨m0, m1, m2, m3, m4, m5⟩ := arr6f (ext_blk x1 HB0.out))
      | (go_at_call 23; refine (c1 _ x1).mono ?_; clear c1 m0 m1 m2 m3 m4 m5; rintro e w2 ⟨rfl, x2⟩))
  have HX2 := Lib.hid (x1.trans x2)
  have c2 := c2 _ HX2.out
  obtain ⟨m0, m1, m2, m3, m4, m5⟩ := arr6f (ext_blk HX2.out HB0.out)
  clear x1 x2
  go_upto_region 6 with (go_at_call 30; refine c2.mono ?_; clear c2 m0 m1 m2 m3 m4 m5; rintro e w3 ⟨d3, rfl, hf3, hw3, hl3, x3⟩)
  obtain ⟨W3, e3⟩ : ∃ W, w3.alloc (.cells #[.int .i64 d3.next, .slice d3.oA d3.opn.length d3.oc, .slice d3.cA d3.accs.length d3.cc, .slice d3.uA d3.auts.length d3.uc, .slice d3.rA d3.ords.length d3.rc, .int .i64 d3.ser] 43) = W := ⟨_, rfl⟩
  try rw [e3]
  have HX3 : Hid (Ext W0 W3) := Lib.hid (HX2.out.trans (by rw [← e3]; exact x3.alloc _))
  have HB3 : Hid (Blk W3 w3.heap.size 43 #[.int .i64 d3.next, .slice d3.oA d3.opn.length d3.oc, .slice d3.cA d3.accs.length d3.cc, .slice d3.uA d3.auts.length d3.uc, .slice d3.rA d3.ords.length d3.rc, .int .i64 d3.ser]) := Lib.hid (by rw [← e3]; exact Blk.new _ _ _)
  have HW3 : Hid (DoorW W3 W3.heap.size d3) := Lib.hid (hw3.ext (by rw [← e3]; exact (Ext.refl _).alloc _))
  have HF3 := Lib.hid hf3
  clear e3 hf3 hw3 hl3 x3
  obtain ⟨m0, m1, m2, m3, m4, m5⟩ := arr6f (HB3.out)
  by_cases h0 : E = 0
  case neg =>
    have hb := don_bad d.fro id ser (by rw [HE.out]; exact h0)
    have hz : d3.fro = froZ := by rw [HF3.out, hb]
    have g3 : d3.ords.length = 0 := by have := congrArg (fun f : FroR => f.ords.length) hz; rw [dfro_ords, List.length_map] at this; exact this
    have g4 : d3.ser = 0 := by have := congrArg (fun f : FroR => f.ser) hz; exact this
    have k0 := ne_beq h0
    rw [g3] at m4
    rw [g4] at m5
    clear hb hz h0 g3 g4
    go_wp2
    go_ret
    first | exact ⟨rfl, HX0.out.trans HX3.out⟩ | exact ⟨by rfl, HX0.out.trans HX3.out⟩
  subst h0
  obtain ⟨a, x, hida, hx, hs1, hs2, hst⟩ := don_left HE.out
  rw [dfro_ords, List.getElem?_map] at hx
  obtain ⟨s, hs, rfl⟩ : ∃ s, d.ords[a]? = some s ∧ s.o = x := by
    cases h : d.ords[a]? with
    | none => rw [h] at hx; cases hx
    | some s => rw [h] at hx; exact ⟨s, rfl, Option.some.inj hx⟩
  have hf : d3.fro = { d.fro with ords := d.fro.ords.set a { s.o with st := 5, ser := ser }, ser := ser } := by rw [HF3.out, hst]
  have ho3 : d3.ords.map (·.o) = (d.ords.map (·.o)).set a { s.o with st := 5, ser := ser } := by
    have := congrArg (fun f : FroR => f.ords) hf
    exact this
  have hlen : d3.ords.length = d.ords.length := by
    have := congrArg List.length ho3
    rwa [List.length_set, List.length_map, List.length_map] at this
  have hal : a < d.ords.length := (List.getElem?_eq_some_iff.1 hs).1
  obtain ⟨t, ht⟩ : ∃ t, d3.ords[a]? = some t := ⟨_, List.getElem?_eq_getElem (by rw [hlen]; exact hal)⟩
  have hto : t.o = { s.o with st := 5, ser := ser } := by
    have h1 : (d3.ords.map (·.o))[a]? = some t.o := by rw [List.getElem?_map, ht]; rfl
    rw [ho3, List.getElem?_set_self (by rw [List.length_map]; exact hal)] at h1
    exact (Option.some.inj h1).symm
  have hser3 : d3.ser = ser := by have := congrArg (fun f : FroR => f.ser) hf; exact this
  have hds : d.fro.ser = d.ser := rfl
  have ha3 : d3.auts.length = d.auts.length := by have := congrArg (fun f : FroR => f.auts.length) hf; exact this
  have hc3 : d3.accs.length = d.accs.length := by have := congrArg (fun f : FroR => f.accs.length) hf; exact this
  obtain ⟨lt, rfl, hlt⟩ : ∃ n : Nat, less = (n : Int) ∧ n < 256 := by
    obtain ⟨h1, h2⟩ := byte_of_wf HLESS.out
    exact ⟨less.toNat, h1, h2⟩
  have hag := don_again HE.out (ser + 1)
  have hls := don_less HE.out other (ser - (lt : Int)) (by omega)
  rw [← HF3.out] at hag hls
  obtain ⟨E4, hE4⟩ : ∃ E, (donF d3.fro other (ser - (lt : Int))).2 = E := ⟨_, rfl⟩
  rw [hE4] at hls
  have hll := HL.out
  have cA := fun W (x : Ext W3 W) => oDone_any d3 id (ser + 1) W (HW3.out.ext x) (by omega) (by omega)
  have cB := fun W (x : Ext W3 W) => oDone_any d3 other (ser - (lt : Int)) W (HW3.out.ext x) (by omega) (by omega)
  unfold outS at cA cB
  rw [hag] at cA
  rw [hE4] at cB
  unfold frontV at cA cB
  have k1 : decide (id < 1) = false := decide_eq_false (by omega)
  have k2 : decide ((d.ords.length : Int) < id) = false := decide_eq_false (by omega)
  have k3 : ((d3.ords.length : Int) != (d.ords.length : Int)) = false := by simp [hlen]
  have k3n : (d3.ords.length != d.ords.length) = false := by simp [hlen]
  have k4 : decide (ser ≤ d.ser) = false := decide_eq_false (by omega)
  have k5 : (d3.ser != ser) = false := by simp [hser3]
  have kid : IntKind.i64.wrap (id - 1) = (a : Int) := by rw [IntKind.wrap_i64]; omega
  have ks1 : IntKind.i64.wrap (ser + 1) = ser + 1 := by have := HDW.out.ser; have := wf64_out HDW.out.ser; rw [IntKind.wrap_i64]; omega
  have ks2 : IntKind.i64.wrap (ser - (lt : Int)) = ser - (lt : Int) := by have h0 : numP d.ser := (chkF_zero.1 (don_steps HE.out).1).1.2.1; have := h0.1; rw [IntKind.wrap_i64]; omega
  have kl : IntKind.i64.wrap (lt : Int) = (lt : Int) := by rw [IntKind.wrap_i64]; omega
  have kal : (a : Int) < (d.ords.length : Int) := by omega
  have kal3 : (a : Int) < (d3.ords.length : Int) := by omega
  have k6 := ne_beq hls
  have HSS := Lib.hid hs
  have HTT := Lib.hid ht
  have HTO := Lib.hid hto
  have HO3 := Lib.hid ho3
  have HLEN := Lib.hid hlen
  have HFF := Lib.hid hf
  have HIDA := Lib.hid hida
  have HSB : Hid (d.ser < ser ∧ ser ≤ 1099511627776) := Lib.hid ⟨hs1, hs2⟩
  clear hida hx hs1 hs2 hst hf ho3 hlen hal hto hser3 hds ha3 hc3 hlt hag hls hE4 hll hs ht
  obtain ⟨p0, p1, p2, p3, p4, p5⟩ := arr6f (ext_blk HX3.out HB0.out)
  obtain ⟨ad, hA, hlA, q0, q1, q2, q3, q4, q5, q6, q7⟩ := reads_ord (HDW.out.ext (HX0.out.trans HX3.out)).ord HSS.out
  rw [hA] at p4
  clear hA hlA
  go_upto_region 13 with (fail)
  obtain ⟨W4, e4⟩ : ∃ W, W3.alloc (.cells #[.int .i64 s.o.id, .int .i64 s.o.acc, .slice s.nA s.o.names.length s.nc, .int .u64 (s.o.key : Int), .int .i64 s.o.life, .slice s.aA s.o.auths.length s.ac, .int .i64 5, .int .i64 ser] 78) = W := ⟨_, rfl⟩
  try rw [e4]
  have HX4 : Hid (Ext W3 W4) := Lib.hid (by rw [← e4]; exact (Ext.refl W3).alloc _)
  have HB4 : Hid (Blk W4 W3.heap.size 78 #[.int .i64 s.o.id, .int .i64 s.o.acc, .slice s.nA s.o.names.length s.nc, .int .u64 (s.o.key : Int), .int .i64 s.o.life, .slice s.aA s.o.auths.length s.ac, .int .i64 5, .int .i64 ser]) := Lib.hid (by rw [← e4]; exact Blk.new _ _ _)
  clear e4 q0 q1 q2 q3 q4 q5 q6 q7 p0 p1 p2 p3 p4 p5 m0 m1 m2 m3 m4 m5 k1 k2 k3 k3n k4 k5
  have cA := cA W4 HX4.out
  obtain ⟨m0, m1, m2, m3, m4, m5⟩ := arr6f (ext_blk HX4.out HB3.out)
  go_upto_region 14 with (go_at_call 30; refine cA.mono ?_; clear cA m0 m1 m2 m3 m4 m5; rintro e w5 ⟨d5, rfl, hf5, hw5, hl5, x5⟩)
  obtain ⟨W5, e5⟩ : ∃ W, w5.alloc (.cells #[.int .i64 d5.next, .slice d5.oA d5.opn.length d5.oc, .slice d5.cA d5.accs.length d5.cc, .slice d5.uA d5.auts.length d5.uc, .slice d5.rA d5.ords.length d5.rc, .int .i64 d5.ser] 43) = W := ⟨_, rfl⟩
  try rw [e5]
  have HX5 : Hid (Ext W4 W5) := Lib.hid (by rw [← e5]; exact x5.alloc _)
  clear e5 hf5 hw5 hl5 x5
  have cB := cB W5 (HX4.out.trans HX5.out)
  obtain ⟨m0, m1, m2, m3, m4, m5⟩ := arr6f (ext_blk (HX4.out.trans HX5.out) HB3.out)
  go_upto_region 15 with (go_at_call 30; refine cB.mono ?_; clear cB m0 m1 m2 m3 m4 m5; rintro e w6 ⟨d6, rfl, hf6, hw6, hl6, x6⟩)
  obtain ⟨W6, e6⟩ : ∃ W, w6.alloc (.cells #[.int .i64 d6.next, .slice d6.oA d6.opn.length d6.oc, .slice d6.cA d6.accs.length d6.cc, .slice d6.uA d6.auts.length d6.uc, .slice d6.rA d6.ords.length d6.rc, .int .i64 d6.ser] 43) = W := ⟨_, rfl⟩
  try rw [e6]
  have HX6 : Hid (Ext W3 W6) := Lib.hid (HX4.out.trans (HX5.out.trans (by rw [← e6]; exact x6.alloc _)))
  have HX46 : Hid (Ext W4 W6) := Lib.hid (HX5.out.trans (by rw [← e6]; exact x6.alloc _))
  clear e6 hf6 hw6 hl6 x6
  obtain ⟨m0, m1, m2, m3, m4, m5⟩ := arr6f (ext_blk HX6.out HB3.out)
  go_upto_region 16 with (fail)
  obtain ⟨W7, e7⟩ : ∃ W, W6.alloc (.cells #[.int .i64 d3.next, .slice d3.oA d3.opn.length d3.oc, .slice d3.cA d3.accs.length d3.cc, .slice d3.uA d3.auts.length d3.uc, .slice d3.rA d3.ords.length d3.rc, .int .i64 d3.ser] 43) = W := ⟨_, rfl⟩
  try rw [e7]
  have HX7 : Hid (Ext W3 W7) := Lib.hid (by rw [← e7]; exact HX6.out.alloc _)
  have HX47 : Hid (Ext W4 W7) := Lib.hid (by rw [← e7]; exact HX46.out.alloc _)
  have HB7 : Hid (Blk W7 W6.heap.size 43 #[.int .i64 d3.next, .slice d3.oA d3.opn.length d3.oc, .slice d3.cA d3.accs.length d3.cc, .slice d3.uA d3.auts.length d3.uc, .slice d3.rA d3.ords.length d3.rc, .int .i64 d3.ser]) := Lib.hid (by rw [← e7]; exact Blk.new _ _ _)
  have HX76 : Hid (Ext W6 W7) := Lib.hid (by rw [← e7]; exact (Ext.refl W6).alloc _)
  clear e7 m0 m1 m2 m3 m4 m5
  obtain ⟨i0, hi, hz0, hz1, hz2⟩ := info_parts Tryz.infoOrd
  obtain ⟨m0, m1, m2, m3, m4, m5⟩ := arr6f (ext_blk HX7.out HB3.out)
  have hl3 : d3.ords.length ≤ 30 := by have := HLEN.out; have := HL.out; omega
  have HR3 := Lib.hid (((HW3.out.ext HX7.out).ord).alloc (Nat.le_refl _) (.cells #[] 78))
  have HL3 := Lib.hid hl3
  have HBY := Lib.hid (HB7.out.alloc (.cells #[] 78))
  have m4' := ((ext_blk HX7.out HB3.out).alloc (.cells #[] 78)).cell 4
  clear hl3
  go_upto_region 17 with (at_builtin; refine wpList_append_any _ rfl (.tmp 100) (.tmp 102) 41 rfl W7.heap.size 78 i0 (.agg #[.int .i64 0, .int .i64 0, .slice none 0 0, .int .u64 0, .int .i64 0, .slice none 0 0, .int .i64 0, .int .i64 0]) 8 96 Tryz.underlying41 hi hz0 hz1 hz2 rfl (by decide) _ 0 [] rfl (own_empty W7 _ _ rfl (Nat.le_refl _) _ _) W7.heap.size d3.rA d3.ords.length d3.rc (ordV d3.ords) rfl HR3.out (ordV_one _) (by have := HL3.out; simp only [maxLen]; omega) (by have := HL3.out; omega) (by simp) ?_; intro v8 w8 hown8 hg8 _; rw [Nat.zero_add, List.nil_append] at hown8; obtain ⟨g8, cap8, rfl, hg8b, hg8c, hg8l⟩ := own_form hown8 (by have := HLEN.out; have := (List.getElem?_eq_some_iff.1 HSS.out).1; omega); have HGB : Hid (W7.heap.size ≤ g8 ∧ d3.ords.length ≤ cap8 ∧ g8 < w8.heap.size) := Lib.hid ⟨hg8b, hg8c, hg8l⟩; clear hg8b hg8c hg8l; have X8 := ext_grown ((Ext.refl W7).alloc _) (own_empty W7 _ _ rfl (Nat.le_refl _) 78 8) hg8; have HX8 := Lib.hid X8; have HO8 := Lib.hid hown8; have hf8 := (ext_blk X8 HB7.out).frozen 4; have hc8 := (ext_blk X8 HB7.out).cell 4; clear hown8 hg8 X8 m4' m0 m1 m2 m3 m4 m5)
  obtain ⟨W8, e8⟩ : ∃ W, W = w8.setCell ⟨W6.heap.size, 4, none⟩ (.slice (some ⟨g8, 0, none⟩) d3.ords.length cap8) := ⟨_, rfl⟩
  rw [← e8]
  have hW67 : W6.heap.size < W7.heap.size := Blk.lt HB7.out
  have HBY8 : Hid (Blk W8 W6.heap.size 43 #[.int .i64 d3.next, .slice d3.oA d3.opn.length d3.oc, .slice d3.cA d3.accs.length d3.cc, .slice d3.uA d3.auts.length d3.uc, .slice (some ⟨g8, 0, none⟩) d3.ords.length cap8, .int .i64 d3.ser]) := Lib.hid (by
    have hb := Blk.set_ (ext_blk HX8.out HB7.out) 4 (.slice (some ⟨g8, 0, none⟩) d3.ords.length cap8)
    rw [e8]; exact hb)
  have HX68 : Hid (Ext W6 W8) := Lib.hid (by
    rw [e8]; exact (HX76.out.trans HX8.out).setCell (Nat.le_refl _) _)
  have HO8 : Hid (W8.ownsRow W7.heap.size 78 8 (.slice (some ⟨g8, 0, none⟩) d3.ords.length cap8) d3.ords.length (ordV d3.ords)) := Lib.hid (by
    rw [e8]; exact own_far HO8.out hW67 4 _)
  have hs8 : w8.heap.size = W8.heap.size := by rw [e8]; simp
  have HGB : Hid (W7.heap.size ≤ g8 ∧ d3.ords.length ≤ cap8 ∧ g8 < W8.heap.size) := Lib.hid (by rw [← hs8]; exact HGB.out)
  clear e8 hf8 hc8 hs8
  have HX38 := Lib.hid (HX6.out.trans HX68.out)
  have HX08 := Lib.hid (HX3.out.trans HX38.out)
  obtain ⟨p0, p1, p2, p3, p4, p5⟩ := arr6f (ext_blk HX08.out HB0.out)
  obtain ⟨r0, r1, r2, r3, r4, r5⟩ := arr6f HBY8.out
  obtain ⟨ad, hA, hlA, q0, q1, q2, q3, q4, q5, q6, q7⟩ := reads_ord (HDW.out.ext (HX0.out.trans HX08.out)).ord HSS.out
  rw [hA] at p4
  have o0 := own_fm ordC (fun _ => rfl) HO8.out HTT.out (i := 0) (by decide)
  simp only [ordC, List.getElem?_cons_succ, List.getElem?_cons_zero, Nat.add_zero] at o0
  have f0 := HO8.out.frozenAt (a * 8)
  have o1 := own_fm ordC (fun _ => rfl) HO8.out HTT.out (i := 1) (by decide)
  simp only [ordC, List.getElem?_cons_succ, List.getElem?_cons_zero, Nat.add_zero] at o1
  have f1 := HO8.out.frozenAt (a * 8 + 1)
  have o2 := own_fm ordC (fun _ => rfl) HO8.out HTT.out (i := 2) (by decide)
  simp only [ordC, List.getElem?_cons_succ, List.getElem?_cons_zero, Nat.add_zero] at o2
  have f2 := HO8.out.frozenAt (a * 8 + 2)
  have o3 := own_fm ordC (fun _ => rfl) HO8.out HTT.out (i := 3) (by decide)
  simp only [ordC, List.getElem?_cons_succ, List.getElem?_cons_zero, Nat.add_zero] at o3
  have f3 := HO8.out.frozenAt (a * 8 + 3)
  have o4 := own_fm ordC (fun _ => rfl) HO8.out HTT.out (i := 4) (by decide)
  simp only [ordC, List.getElem?_cons_succ, List.getElem?_cons_zero, Nat.add_zero] at o4
  have f4 := HO8.out.frozenAt (a * 8 + 4)
  have o5 := own_fm ordC (fun _ => rfl) HO8.out HTT.out (i := 5) (by decide)
  simp only [ordC, List.getElem?_cons_succ, List.getElem?_cons_zero, Nat.add_zero] at o5
  have f5 := HO8.out.frozenAt (a * 8 + 5)
  have o6 := own_fm ordC (fun _ => rfl) HO8.out HTT.out (i := 6) (by decide)
  simp only [ordC, List.getElem?_cons_succ, List.getElem?_cons_zero, Nat.add_zero] at o6
  have f6 := HO8.out.frozenAt (a * 8 + 6)
  have o7 := own_fm ordC (fun _ => rfl) HO8.out HTT.out (i := 7) (by decide)
  simp only [ordC, List.getElem?_cons_succ, List.getElem?_cons_zero, Nat.add_zero] at o7
  have f7 := HO8.out.frozenAt (a * 8 + 7)
  have p4' := fun n : Nat => show (W8.drewN n).cell? _ = _ from p4
  have r4' := fun n : Nat => show (W8.drewN n).cell? _ = _ from r4
  have q0' := fun n : Nat => show (W8.drewN n).cell? _ = _ from q0
  have q1' := fun n : Nat => show (W8.drewN n).cell? _ = _ from q1
  have q2' := fun n : Nat => show (W8.drewN n).cell? _ = _ from q2
  have q3' := fun n : Nat => show (W8.drewN n).cell? _ = _ from q3
  have q4' := fun n : Nat => show (W8.drewN n).cell? _ = _ from q4
  have q5' := fun n : Nat => show (W8.drewN n).cell? _ = _ from q5
  have q6' := fun n : Nat => show (W8.drewN n).cell? _ = _ from q6
  have q7' := fun n : Nat => show (W8.drewN n).cell? _ = _ from q7
  have o0' := fun n : Nat => show (W8.drewN n).cell? _ = _ from o0
  have o1' := fun n : Nat => show (W8.drewN n).cell? _ = _ from o1
  have o2' := fun n : Nat => show (W8.drewN n).cell? _ = _ from o2
  have o3' := fun n : Nat => show (W8.drewN n).cell? _ = _ from o3
  have o4' := fun n : Nat => show (W8.drewN n).cell? _ = _ from o4
  have o5' := fun n : Nat => show (W8.drewN n).cell? _ = _ from o5
  have o6' := fun n : Nat => show (W8.drewN n).cell? _ = _ from o6
  have o7' := fun n : Nat => show (W8.drewN n).cell? _ = _ from o7
  have f0' := fun n : Nat => show (W8.drewN n).frozen? _ = _ from f0
  have f1' := fun n : Nat => show (W8.drewN n).frozen? _ = _ from f1
  have f2' := fun n : Nat => show (W8.drewN n).frozen? _ = _ from f2
  have f3' := fun n : Nat => show (W8.drewN n).frozen? _ = _ from f3
  have f4' := fun n : Nat => show (W8.drewN n).frozen? _ = _ from f4
  have f5' := fun n : Nat => show (W8.drewN n).frozen? _ = _ from f5
  have f6' := fun n : Nat => show (W8.drewN n).frozen? _ = _ from f6
  have f7' := fun n : Nat => show (W8.drewN n).frozen? _ = _ from f7
  have hne1 : w.heap.size ≠ g8 := by have := HGB.out.1; have := Blk.lt HB0.out; have := HX38.out.size; have := HX3.out.size; have := HX6.out.size; omega
  have hne2 : W6.heap.size ≠ g8 := by have := HGB.out.1; omega
  have HNE := Lib.hid (And.intro hne1 hne2)
  clear hA hlA p0 p1 p2 p3 p5 r0 r1 r2 r3 r5
  go_region
  obtain ⟨W9, e9⟩ : ∃ W, W = (set8 W8 g8 a s).drew := ⟨_, rfl⟩
  have e9' := e9
  unfold set8 at e9'
  rw [← e9']
  have HBY9 : Hid (Blk W9 W6.heap.size 43 #[.int .i64 d3.next, .slice d3.oA d3.opn.length d3.oc, .slice d3.cA d3.accs.length d3.cc, .slice d3.uA d3.auts.length d3.uc, .slice (some ⟨g8, 0, none⟩) d3.ords.length cap8, .int .i64 d3.ser]) := Lib.hid (by rw [e9]; exact (far_set8 HBY8.out HNE.out.2 a s).drew)
  have HB09 : Hid (Blk W9 w.heap.size 43 #[.int .i64 d.next, .slice d.oA d.opn.length d.oc, .slice d.cA d.accs.length d.cc, .slice d.uA d.auts.length d.uc, .slice d.rA d.ords.length d.rc, .int .i64 d.ser]) := Lib.hid (by rw [e9]; exact (far_set8 (ext_blk HX08.out HB0.out) HNE.out.1 a s).drew)
  have HO9 : Hid (W9.ownsRow W7.heap.size 78 8 (.slice (some ⟨g8, 0, none⟩) d3.ords.length cap8) d3.ords.length (ordV (d3.ords.set a s))) := Lib.hid (by rw [e9]; exact World.ownsRow.drew (ord_put8 HO8.out HTT.out s))
  have HX69 : Hid (Ext W6 W9) := Lib.hid (by
    rw [e9]
    exact (Ext.of (HX68.out.out.grown (grown8 W8 g8 a s) HX68.out.size (fun k hk => by cases hk; have := HGB.out.1; omega))).drew)
  clear e9 e9' hne1 hne2 q0 o0 f0 q0' o0' f0' q1 o1 f1 q1' o1' f1' q2 o2 f2 q2' o2' f2' q3 o3 f3 q3' o3' f3' q4 o4 f4 q4' o4' f4' q5 o5 f5 q5' o5' f5' q6 o6 f6 q6' o6' f6' q7 o7 f7 q7' o7' f7' p4 r4 p4' r4'
  obtain ⟨p0, p1, p2, p3, p4, p5⟩ := arr6f HB09.out
  obtain ⟨r0, r1, r2, r3, r4, r5⟩ := arr6f HBY9.out
  have fr := HBY9.out.frozen 5
  go_upto_region 19 with (fail)
  obtain ⟨W10, e10⟩ : ∃ W, W = W9.setCell ⟨W6.heap.size, 5, none⟩ (.int .i64 d.ser) := ⟨_, rfl⟩
  rw [← e10]
  have HBY10 : Hid (Blk W10 W6.heap.size 43 #[.int .i64 d3.next, .slice d3.oA d3.opn.length d3.oc, .slice d3.cA d3.accs.length d3.cc, .slice d3.uA d3.auts.length d3.uc, .slice (some ⟨g8, 0, none⟩) d3.ords.length cap8, .int .i64 d.ser]) := Lib.hid (by rw [e10]; exact HBY9.out.set_ 5 _)
  have HO10 : Hid (W10.ownsRow W7.heap.size 78 8 (.slice (some ⟨g8, 0, none⟩) d3.ords.length cap8) d3.ords.length (ordV (d3.ords.set a s))) := Lib.hid (by rw [e10]; exact own_far HO9.out hW67 5 _)
  have HX610 : Hid (Ext W6 W10) := Lib.hid (by rw [e10]; exact HX69.out.setCell (Nat.le_refl _) _)
  have HX310 := Lib.hid (HX6.out.trans HX610.out)
  have HX410 := Lib.hid (HX46.out.trans HX610.out)
  clear e10 p0 p1 p2 p3 p4 p5 r0 r1 r2 r3 r4 r5 fr
  obtain ⟨dy, hdy⟩ : ∃ y, y = withS (withO d3 (d3.ords.set a s) (some ⟨g8, 0, none⟩) cap8) d.ser := ⟨_, rfl⟩
  have hyl : (d3.ords.set a s).length = d3.ords.length := List.length_set
  have HDY : Hid (DoorW W10 W10.heap.size dy) := Lib.hid (by
    have hr := Reads.of_own HO10.out
    rw [← hyl] at hr
    have hW3 := HW3.out.ext HX310.out
    have hWd := HDW.out.ext (HX0.out.trans (HX3.out.trans HX310.out))
    rw [hdy]
    refine withS_w (withO_w hW3 hr (by rw [hyl]; exact own_cap HO10.out) (by rw [hyl]; exact hW3.rl) (fun y hy => ?_)) hWd.ser
    rcases List.mem_or_eq_of_mem_set hy with hy | rfl
    · exact hW3.rw y hy
    · exact hWd.rw _ (List.mem_of_getElem? HSS.out))
  have HFY : Hid (dy.fro = d.fro) := Lib.hid (by
    have e1 : (d3.ords.set a s).map (·.o) = d.ords.map (·.o) := by
      rw [map_set_o, HO3.out]
      exact set_back (by rw [List.getElem?_map, HSS.out]; rfl)
    have e2 := HFF.out
    rw [hdy]
    unfold withS withO DoorX.fro at *
    simp only at *
    simp only [FroR.mk.injEq] at e2 ⊢
    exact ⟨e2.1, e2.2.1, e2.2.2.1, e2.2.2.2.1, e1, trivial⟩)
  obtain ⟨bd, hB, RB⟩ := one_ord (HW3.out.ext HX310.out).ord HTT.out
  have HB310 : Hid (Blk W10 w3.heap.size 43 #[.int .i64 d3.next, .slice d3.oA d3.opn.length d3.oc, .slice d3.cA d3.accs.length d3.cc, .slice d3.uA d3.auts.length d3.uc, .slice (some bd) d3.ords.length d3.rc, .int .i64 d3.ser]) := Lib.hid (by rw [← hB]; exact ext_blk HX310.out HB3.out)
  have HB410 := Lib.hid (ext_blk HX410.out HB4.out)
  have HB010 := Lib.hid (ext_blk (HX3.out.trans HX310.out) HB0.out)
  have SX := fun w : World => slice_one bd d3.ords.length d3.rc a (by have := (HW3.out.ext HX310.out).rc; omega) w
  rw [← HIDA.out] at SX
  obtain ⟨o9, ho9⟩ : ∃ y : OrdX, y = { s with o := { s.o with st := 5, ser := ser } } := ⟨_, rfl⟩
  have cO : ∀ W g, Ext W10 W → Blk W g 78 #[.int .i64 s.o.id, .int .i64 s.o.acc, .slice s.nA s.o.names.length s.nc, .int .u64 (s.o.key : Int), .int .i64 s.o.life, .slice s.aA s.o.auths.length s.ac, .int .i64 5, .int .i64 ser] → Calls Tryz.prog 37 #[.slice (some (bd.add (a * 8))) 1 (d3.rc - a), .slice (some ⟨g, 0, none⟩) 1 1] W fun e w' => e = .returned (.bool true) ∧ Ext W w' := fun W g x hg => by
    have hsw := (HDW.out.ext (HX0.out.trans (HX3.out.trans (HX310.out.trans x)))).rw _ (List.mem_of_getElem? HSS.out)
    have k := Orders22_any [t] [o9] (some (bd.add (a * 8))) (some ⟨g, 0, none⟩) (d3.rc - a) 1 W ⟨(RB.below x.out).more x.size, by simp, fun y hy => by rw [List.mem_singleton.1 hy]; exact ((HW3.out.ext HX310.out).rw t (List.mem_of_getElem? HTT.out)).ext x⟩
      ⟨reads_new8 W _ o9 g (by rw [ho9]; exact hg), by simp, fun y hy => by
        rw [List.mem_singleton.1 hy, ho9]
        have hsr : wf64 ser := by
          have h1 := wf64_out HDW.out.ser
          have h2 := HSB.out
          exact wf64_of (by omega) (by omega)
        exact ⟨hsw.id, hsw.acc, hsw.key, hsw.life, wf64_of (by simp) (by simp), hsr, hsw.names, hsw.nc, hsw.nl, hsw.ns, hsw.auths, hsw.ac, hsw.al, hsw.aw⟩⟩
    rw [decide_eq_true (show List.map (·.o) [t] = List.map (·.o) [o9] by rw [List.map_cons, List.map_cons, HTO.out, ho9])] at k
    exact k
  have cS : ∀ W, Ext W10 W → Calls Tryz.prog 20 #[.agg #[.int .i64 d3.next, .slice d3.oA d3.opn.length d3.oc, .slice d3.cA d3.accs.length d3.cc, .slice d3.uA d3.auts.length d3.uc, .slice (some ⟨g8, 0, none⟩) d3.ords.length cap8, .int .i64 d.ser], .agg #[.int .i64 d.next, .slice d.oA d.opn.length d.oc, .slice d.cA d.accs.length d.cc, .slice d.uA d.auts.length d.uc, .slice d.rA d.ords.length d.rc, .int .i64 d.ser]] W fun e w' => e = .returned (.bool true) ∧ Ext W w' := fun W x => by
    have k := Same22_any dy d W (HDY.out.ext x) (HDW.out.ext (HX0.out.trans (HX3.out.trans (HX310.out.trans x))))
    rw [decide_eq_true HFY.out] at k
    unfold frontV at k
    rw [hdy] at k
    unfold withS withO at k
    simp only [List.length_set] at k
    exact k
  have kg : (0 : Int) ≤ (a : Int) := by omega
  have kg2 : (a : Int) ≤ id := by have := HIDA.out; omega
  have kg3 : id ≤ (d3.rc : Int) := by have := HIDA.out; have := (HW3.out.ext HX310.out).rc; omega
  have XR := (Ext.refl W10).drew.alloc (.cells #[.int .i64 s.o.id, .int .i64 s.o.acc, .slice s.nA s.o.names.length s.nc, .int .u64 (s.o.key : Int), .int .i64 s.o.life, .slice s.aA s.o.auths.length s.ac, .int .i64 5, .int .i64 ser] 78)
  have HBN : Hid (Blk (W10.drew.alloc (.cells #[.int .i64 s.o.id, .int .i64 s.o.acc, .slice s.nA s.o.names.length s.nc, .int .u64 (s.o.key : Int), .int .i64 s.o.life, .slice s.aA s.o.auths.length s.ac, .int .i64 5, .int .i64 ser] 78)) W10.heap.size 78 #[.int .i64 s.o.id, .int .i64 s.o.acc, .slice s.nA s.o.names.length s.nc, .int .u64 (s.o.key : Int), .int .i64 s.o.life, .slice s.aA s.o.auths.length s.ac, .int .i64 5, .int .i64 ser]) := Lib.hid (Blk.new W10.drew 78 #[.int .i64 s.o.id, .int .i64 s.o.acc, .slice s.nA s.o.names.length s.nc, .int .u64 (s.o.key : Int), .int .i64 s.o.life, .slice s.aA s.o.auths.length s.ac, .int .i64 5, .int .i64 ser])
  obtain ⟨m0, m1, m2, m3, m4, m5⟩ := arr6f (ext_blk (Ext.refl W10) HB310.out); obtain ⟨n0, n1, n2, n3, n4, n5, n6, n7⟩ := arr8 (ext_blk (Ext.refl W10) HB410.out); obtain ⟨r0, r1, r2, r3, r4, r5⟩ := arr6f (ext_blk (Ext.refl W10) HBY10.out); obtain ⟨p0, p1, p2, p3, p4, p5⟩ := arr6f (ext_blk (Ext.refl W10) HB010.out)
  clear hB RB hdy hyl HDY HFY hW67 kal kal3
  go_region_held3 (fun w' => w'.cell? ⟨w3.heap.size, 0, none⟩ = some (.int .i64 d3.next) ∧ w'.cell? ⟨w3.heap.size, 1, none⟩ = some (.slice d3.oA d3.opn.length d3.oc) ∧ w'.cell? ⟨w3.heap.size, 2, none⟩ = some (.slice d3.cA d3.accs.length d3.cc) ∧ w'.cell? ⟨w3.heap.size, 3, none⟩ = some (.slice d3.uA d3.auts.length d3.uc) ∧ w'.cell? ⟨w3.heap.size, 4, none⟩ = some (.slice (some bd) d3.ords.length d3.rc) ∧ w'.cell? ⟨w3.heap.size, 5, none⟩ = some (.int .i64 d3.ser) ∧ w'.cell? ⟨W3.heap.size, 0, none⟩ = some (.int .i64 s.o.id) ∧ w'.cell? ⟨W3.heap.size, 1, none⟩ = some (.int .i64 s.o.acc) ∧ w'.cell? ⟨W3.heap.size, 2, none⟩ = some (.slice s.nA s.o.names.length s.nc) ∧ w'.cell? ⟨W3.heap.size, 3, none⟩ = some (.int .u64 (s.o.key : Int)) ∧ w'.cell? ⟨W3.heap.size, 4, none⟩ = some (.int .i64 s.o.life) ∧ w'.cell? ⟨W3.heap.size, 5, none⟩ = some (.slice s.aA s.o.auths.length s.ac) ∧ w'.cell? ⟨W3.heap.size, 6, none⟩ = some (.int .i64 5) ∧ w'.cell? ⟨W3.heap.size, 7, none⟩ = some (.int .i64 ser) ∧ w'.cell? ⟨W6.heap.size, 0, none⟩ = some (.int .i64 d3.next) ∧ w'.cell? ⟨W6.heap.size, 1, none⟩ = some (.slice d3.oA d3.opn.length d3.oc) ∧ w'.cell? ⟨W6.heap.size, 2, none⟩ = some (.slice d3.cA d3.accs.length d3.cc) ∧ w'.cell? ⟨W6.heap.size, 3, none⟩ = some (.slice d3.uA d3.auts.length d3.uc) ∧ w'.cell? ⟨W6.heap.size, 4, none⟩ = some (.slice (some ⟨g8, 0, none⟩) d3.ords.length cap8) ∧ w'.cell? ⟨W6.heap.size, 5, none⟩ = some (.int .i64 d.ser) ∧ w'.cell? ⟨w.heap.size, 0, none⟩ = some (.int .i64 d.next) ∧ w'.cell? ⟨w.heap.size, 1, none⟩ = some (.slice d.oA d.opn.length d.oc) ∧ w'.cell? ⟨w.heap.size, 2, none⟩ = some (.slice d.cA d.accs.length d.cc) ∧ w'.cell? ⟨w.heap.size, 3, none⟩ = some (.slice d.uA d.auts.length d.uc) ∧ w'.cell? ⟨w.heap.size, 4, none⟩ = some (.slice d.rA d.ords.length d.rc) ∧ w'.cell? ⟨w.heap.size, 5, none⟩ = some (.int .i64 d.ser)) (first | exact ⟨m0, m1, m2, m3, m4, m5, n0, n1, n2, n3, n4, n5, n6, n7, r0, r1, r2, r3, r4, r5, p0, p1, p2, p3, p4, p5⟩ | go_keep) (first
    | (go_at_call 37; refine (cO _ _ XR HBN.out).mono ?_; clear cO; rintro e w11 ⟨rfl, x11⟩; have X11 := XR.trans x11; clear m0 m1 m2 m3 m4 m5 n0 n1 n2 n3 n4 n5 n6 n7 r0 r1 r2 r3 r4 r5 p0 p1 p2 p3 p4 p5; obtain ⟨m0, m1, m2, m3, m4, m5⟩ := arr6f (ext_blk (X11) HB310.out); obtain ⟨n0, n1, n2, n3, n4, n5, n6, n7⟩ := arr8 (ext_blk (X11) HB410.out); obtain ⟨r0, r1, r2, r3, r4, r5⟩ := arr6f (ext_blk (X11) HBY10.out); obtain ⟨p0, p1, p2, p3, p4, p5⟩ := arr6f (ext_blk (X11) HB010.out))
    | (go_at_call 20; refine (cS _ X11).mono ?_; clear cS; rintro e w12 ⟨rfl, x12⟩; have X12 := X11.trans x12; clear m0 m1 m2 m3 m4 m5 n0 n1 n2 n3 n4 n5 n6 n7 r0 r1 r2 r3 r4 r5 p0 p1 p2 p3 p4 p5; obtain ⟨m0, m1, m2, m3, m4, m5⟩ := arr6f (ext_blk (X12) HB310.out); obtain ⟨n0, n1, n2, n3, n4, n5, n6, n7⟩ := arr8 (ext_blk (X12) HB410.out); obtain ⟨r0, r1, r2, r3, r4, r5⟩ := arr6f (ext_blk (X12) HBY10.out); obtain ⟨p0, p1, p2, p3, p4, p5⟩ := arr6f (ext_blk (X12) HB010.out)))
  all_goals go_wp2
  all_goals go_ret
  all_goals exact ⟨rfl, HX0.out.trans (HX3.out.trans (HX310.out.trans X12))⟩
end Go.Proofs.YtbhdmfijdhcehaaGreatDoor
