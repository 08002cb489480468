/- Parts of the proofs, put together: Td1, TdF. -/
import Derived.Test.YtfpmfegmehbfbaaGreatDoorD34
/- TopDoor, walked: asked. -/
namespace Go.Proofs.YtfpmfegmehbfbaaGreatDoor
set_option linter.unusedVariables false
set_option linter.unusedSimpArgs false
set_option linter.unusedSimpArgs false
open Go.RowKit Go.Shelf Go.Maps

theorem far6' {W : World} {g b : Nat} {T : TypeId} {cs : Array Value} (k : Blk W g T cs) (h : g ≠ b) (y0 y1 y2 y3 y4 y5 : Value) : Blk ((((((W.setCell ⟨b, 0, none⟩ (y0)).setCell ⟨b, 1, none⟩ (y1)).setCell ⟨b, 2, none⟩ (y2)).setCell ⟨b, 3, none⟩ (y3)).setCell ⟨b, 4, none⟩ (y4)).setCell ⟨b, 5, none⟩ (y5)) g T cs :=
  ((((((k.far (p := ⟨b, 0, none⟩) h _).far (p := ⟨b, 1, none⟩) h _).far (p := ⟨b, 2, none⟩) h _).far (p := ⟨b, 3, none⟩) h _).far (p := ⟨b, 4, none⟩) h _).far (p := ⟨b, 5, none⟩) h _)
set_option maxRecDepth 100000 in
set_option maxHeartbeats 16000000 in
theorem asked_any_top (d : DoorX) (q : QueR) (A : Option Addr) (c : Nat) (l : List Nat) (s : Nat) (hs : s = secN l) (now : Int) (w : World) (hw : DoorW w w.heap.size d) (hq : QueW w w.heap.size q A c) (hu9 : d.auts.length + 8 < 99) (ha9 : d.accs.length < 100) (ho9 : d.ords.length < 100) :
    Calls Tryz.prog 36 #[frontV d, .int .u64 (s : Int), queV q A c, .int .i64 now] w (asksPost d A c (askT (topR l) d.fro q now) w) := by
  obtain ⟨W0, e0, b0, b1, b2, b3, x0, s0⟩ := boxes4 w #[.int .i64 d.next, .slice d.oA d.opn.length d.oc, .slice d.cA d.accs.length d.cc, .slice d.uA d.auts.length d.uc, .slice d.rA d.ords.length d.rc, .int .i64 d.ser] #[.int .i64 q.kind, .int .i64 q.acc, .int .i64 q.nonce, .int .u64 (q.key : Int), .slice A q.names.length c, .int .i64 q.life, .int .i64 q.id, .int .u64 (q.e : Int), .int .u64 (q.s : Int)] #[.int .i64 0, .slice none 0 0, .slice none 0 0, .slice none 0 0, .slice none 0 0, .int .i64 0] #[.int .i64 0, .int .i64 0, .int .i64 0, .int .u64 0, .slice none 0 0, .int .i64 0, .int .i64 0, .int .u64 0, .int .u64 0] 96 98 96 98
  have cN := oNonce_any d (by omega) ha9 now W0 (hw.ext x0)
  unfold outD at cN
  obtain ⟨E, hE⟩ : ∃ E, (nonF d.fro now).2.2 = E := ⟨_, rfl⟩
  obtain ⟨nn, hnn⟩ : ∃ n, (nonF d.fro now).2.1 = n := ⟨_, rfl⟩
  obtain ⟨fn, hfn⟩ : ∃ n, (nonF d.fro now).1 = n := ⟨_, rfl⟩
  rw [hE, hnn, hfn] at cN
  have HSEC := Lib.hid hs
  have HW := Lib.hid hw
  have HQ := Lib.hid hq
  have HB0 := Lib.hid b0
  have HB1 := Lib.hid b1
  have HB2 := Lib.hid b2
  have HB3 := Lib.hid b3
  have HX0 := Lib.hid x0
  have HS0 := Lib.hid s0
  have HE := Lib.hid hE
  have HNN := Lib.hid hnn
  have HFN := Lib.hid hfn
  have HU9 := Lib.hid hu9
  have HA9 := Lib.hid ha9
  have HO9 := Lib.hid ho9
  obtain ⟨m0, m1, m2, m3, m4, m5⟩ := arr6f b0
  obtain ⟨n0, n1, n2, n3, n4, n5, n6, n7, n8⟩ := arr9 b1
  unfold frontV queV at ⊢
  unfold frontV at cN
  clear b0 b1 b2 b3 x0 s0 hw hq hE hnn hfn hu9 ha9 ho9 hs
  go_enter Tryz.func36, Tryz.ntmps36
  go_upto_region 1 with (fail)
  try rw [e0]
  clear e0
  go_upto_region 2 with (go_at_call 90; refine cN.mono ?_; clear cN m0 m1 m2 m3 m4 m5; rintro e w1 ⟨dn, rfl, hfn, hwn, hln, x1⟩)
  obtain ⟨W1, e1⟩ : ∃ W, w1.alloc (.cells #[.int .i64 dn.next, .slice dn.oA dn.opn.length dn.oc, .slice dn.cA dn.accs.length dn.cc, .slice dn.uA dn.auts.length dn.uc, .slice dn.rA dn.ords.length dn.rc, .int .i64 dn.ser] 96) = W := ⟨_, rfl⟩
  try rw [e1]
  have HX1 : Hid (Ext W0 W1) := Lib.hid (by rw [← e1]; exact x1.alloc _)
  have HBN : Hid (Blk W1 w1.heap.size 96 #[.int .i64 dn.next, .slice dn.oA dn.opn.length dn.oc, .slice dn.cA dn.accs.length dn.cc, .slice dn.uA dn.auts.length dn.uc, .slice dn.rA dn.ords.length dn.rc, .int .i64 dn.ser]) := Lib.hid (by rw [← e1]; exact Blk.new _ _ _)
  have HWN : Hid (DoorW W1 W1.heap.size dn) := Lib.hid (hwn.ext (by rw [← e1]; exact (Ext.refl w1).alloc _))
  have HLN := Lib.hid hln
  have HF := Lib.hid hfn
  have HS1 : Hid (W0.heap.size ≤ w1.heap.size) := Lib.hid x1.size
  clear e1 hfn hwn hln x1 n0 n1 n2 n3 n4 n5 n6 n7 n8
  by_cases h0 : E = 0
  case neg =>
    have HR := Lib.hid (askT_1 (S := topR l) (q := q) HE.out h0)
    have k0 := ne_beq h0
    clear h0
    obtain ⟨m0, m1, m2, m3, m4, m5⟩ := arr6f (ext_blk HX1.out HB0.out)
    obtain ⟨n0, n1, n2, n3, n4, n5, n6, n7, n8⟩ := arr9 (ext_blk HX1.out HB1.out)
    have z6 := ext_blk (HX1.out) HB2.out
    have z9 := ext_blk (HX1.out) HB3.out
    obtain ⟨v0, v1, v2, v3, v4, v5, f0, f1, f2, f3, f4, f5⟩ := st6 z6
    obtain ⟨⟨g0, g1, g2, g3, g4, g5, g6, g7, g8⟩, e0, e1, e2, e3, e4, e5, e6, e7, e8⟩ := st9 z9
    have BB := Lib.hid (blk6 z6 (.int .i64 d.next) (.slice d.oA d.opn.length d.oc) (.slice d.cA d.accs.length d.cc) (.slice d.uA d.auts.length d.uc) (.slice d.rA d.ords.length d.rc) (.int .i64 d.ser))
    have BC := Lib.hid (set9_blk (z9_far z9 (.int .i64 d.next) (.slice d.oA d.opn.length d.oc) (.slice d.cA d.accs.length d.cc) (.slice d.uA d.auts.length d.uc) (.slice d.rA d.ords.length d.rc) (.int .i64 d.ser)) (.int .i64 q.kind) (.int .i64 q.acc) (.int .i64 q.nonce) (.int .u64 (q.key : Int)) (.slice A q.names.length c) (.int .i64 q.life) (.int .i64 q.id) (.int .u64 (q.e : Int)) (.int .u64 (q.s : Int)))
    have BD := Lib.hid (z6_far BB.out (.int .i64 q.kind) (.int .i64 q.acc) (.int .i64 q.nonce) (.int .u64 (q.key : Int)) (.slice A q.names.length c) (.int .i64 q.life) (.int .i64 q.id) (.int .u64 (q.e : Int)) (.int .u64 (q.s : Int))).drew
    clear BB z6 z9
    go_wp2
    go_region
    go_wp2
    rw [HR.out]
    obtain ⟨r0, r1, r2, r3, r4, r5⟩ := arr6f BD.out
    obtain ⟨⟨k0, k1, k2, k3, k4, k5, k6, k7, k8⟩, -⟩ := st9 BC.out.drew
    obtain ⟨a1, a2, a3⟩ := asks_fin (b2 := w.heap.size + 2) (b3 := w.heap.size + 3) (HX0.out.trans HX1.out) (by omega) (by omega) (HW.out.ext (HX0.out.trans HX1.out)) (HW.out.lies.mono (fun k hk => ⟨by omega, by omega⟩)) (HQ.out)
    refine bodyPost_ret (v := .tuple #[.agg #[.int .i64 d.next, .slice d.oA d.opn.length d.oc, .slice d.cA d.accs.length d.cc, .slice d.uA d.auts.length d.uc, .slice d.rA d.ords.length d.rc, .int .i64 d.ser], .agg #[.int .i64 q.kind, .int .i64 q.acc, .int .i64 q.nonce, .int .u64 (q.key : Int), .slice A q.names.length c, .int .i64 q.life, .int .i64 q.id, .int .u64 (q.e : Int), .int .u64 (q.s : Int)], .int .i64 0, .int .i64 (E : Int)]) (by simp [results, Tryz.results36, go_sem, r0, r1, r2, r3, r4, r5, k0, k1, k2, k3, k4, k5, k6, k7, k8]) rfl ⟨d, rfl, rfl, a1.ext (Ext.refl _).drew, ?_, a2.ext (Ext.refl _).drew, a3.drew⟩
    intro S hS
    exact hS.mono (fun k hk => .inl hk)
  subst h0
  obtain ⟨hc0, ht0, hstep⟩ := non_steps HE.out
  have hn1 : nn = d.next := by have := HNN.out; rw [hstep] at this; exact this.symm
  have hfq : fn = { d.fro with next := d.fro.next + 1, opn := tellL d.fro.next d.fro.opn now 20 } := by have := HFN.out; rw [hstep] at this; exact this.symm
  have hnw : wf64 nn := by rw [hn1]; exact HW.out.non.nx
  obtain ⟨q1, hq1⟩ : ∃ q1 : QueR, q1 = { q with nonce := nn } := ⟨_, rfl⟩
  have HQ1 := Lib.hid hq1
  have HFQ := Lib.hid hfq
  have HNW := Lib.hid hnw
  have b1 := ext_blk HX1.out HB1.out
  have p2 := b1.cell 2
  have f2 := b1.frozen 2
  clear b1 hc0 ht0 hstep hn1 hfq hnw
  go_upto_region 5 with (fail)
  obtain ⟨W2, e2⟩ : ∃ W, W = W1.setCell ⟨w.heap.size + 1, 2, none⟩ (.int .i64 nn) := ⟨_, rfl⟩
  have HX2 : Hid (Ext w W2) := Lib.hid (by rw [e2]; exact (HX0.out.trans HX1.out).setCell (p := ⟨w.heap.size + 1, 2, none⟩) (Nat.le_succ _) _)
  have HC0 : Hid (Blk W2 w.heap.size 96 #[.int .i64 d.next, .slice d.oA d.opn.length d.oc, .slice d.cA d.accs.length d.cc, .slice d.uA d.auts.length d.uc, .slice d.rA d.ords.length d.rc, .int .i64 d.ser]) := Lib.hid (by rw [e2]; exact (ext_blk HX1.out HB0.out).far (by simp) _)
  have HC1 : Hid (Blk W2 (w.heap.size + 1) 98 #[.int .i64 q1.kind, .int .i64 q1.acc, .int .i64 q1.nonce, .int .u64 (q1.key : Int), .slice A q1.names.length c, .int .i64 q1.life, .int .i64 q1.id, .int .u64 (q1.e : Int), .int .u64 (q1.s : Int)]) := Lib.hid (by rw [e2, hq1]; exact (ext_blk HX1.out HB1.out).set_ 2 _)
  have HC2 : Hid (Blk W2 (w.heap.size + 2) 96 #[.int .i64 0, .slice none 0 0, .slice none 0 0, .slice none 0 0, .slice none 0 0, .int .i64 0]) := Lib.hid (by rw [e2]; exact (ext_blk HX1.out HB2.out).far (by simp) _)
  have HC3 : Hid (Blk W2 (w.heap.size + 3) 98 #[.int .i64 0, .int .i64 0, .int .i64 0, .int .u64 0, .slice none 0 0, .int .i64 0, .int .i64 0, .int .u64 0, .int .u64 0]) := Lib.hid (by rw [e2]; exact (ext_blk HX1.out HB3.out).far (by simp) _)
  have HDN : Hid (Blk W2 w1.heap.size 96 #[.int .i64 dn.next, .slice dn.oA dn.opn.length dn.oc, .slice dn.cA dn.accs.length dn.cc, .slice dn.uA dn.auts.length dn.uc, .slice dn.rA dn.ords.length dn.rc, .int .i64 dn.ser]) := Lib.hid (by rw [e2]; have h0 := HS0.out; have h1 := HS1.out; exact HBN.out.far (by simp; omega) _)
  have HLN2 : Hid (DoorL (fun k => k < w.heap.size ∨ w.heap.size + 4 ≤ k) dn) := Lib.hid ((HLN.out _ HW.out.lies).mono fun k hk => by have h0 := HS0.out; rcases hk with hk | hk; exact .inl hk; exact .inr (by omega))
  have HWN2 : Hid (DoorW W2 W2.heap.size dn) := Lib.hid (by rw [e2]; exact HWN.out.grownTo (HLN2.out.mono fun k hk => by omega) (grown_set _ _ _ _))
  have HS2 : Hid (w.heap.size + 4 ≤ W2.heap.size ∧ w1.heap.size < W2.heap.size) := Lib.hid ⟨by have h0 := HS0.out; have h1 := HS1.out; have := HDN.out.lt; omega, HDN.out.lt⟩
  try rw [← e2]
  clear e2 p2 f2 HX1 HBN HB0 HB1 HB2 HB3 HWN
  have HQW : Hid (QueW w w.heap.size q1 A c) := Lib.hid (by rw [HQ1.out]; exact HQ.out.with_ HNW.out HQ.out.e HQ.out.s)
  have cB := oBytes_any q1 A c W2 (HQW.out.ext HX2.out)
  unfold bytPost at cB
  obtain ⟨BE, hBE⟩ : ∃ B, byteE q1 = B := ⟨_, rfl⟩
  rw [hBE] at cB
  have HBE := Lib.hid hBE
  clear hq1 hBE
  obtain ⟨n0, n1, n2, n3, n4, n5, n6, n7, n8⟩ := arr9 HC1.out
  unfold queV at cB
  go_upto_region 6 with (go_at_call 91; refine cB.mono ?_; clear cB n0 n1 n2 n3 n4 n5 n6 n7 n8; rintro e w3 ⟨v3, rfl, ho3, x3⟩)
  obtain ⟨A3, c3, rfl, hc3, hr3⟩ := own_slice2 ho3
  have HX3 := Lib.hid x3
  have HR3 := Lib.hid hr3
  have HC3L := Lib.hid hc3
  clear x3 ho3 hr3 hc3
  by_cases hb : BE = 0
  case neg =>
    have hB1 : BE = 1 := by
      have h := HBE.out
      unfold byteE at h
      split at h
      · exact absurd h.symm hb
      · exact h.symm
    have HR := Lib.hid (askT_2 (S := topR l) (q := q) (q1 := q1) HE.out (by rw [HNN.out]; exact HQ1.out) (by rw [HBE.out]; exact hb))
    subst hB1
    clear hb
    obtain ⟨m0, m1, m2, m3, m4, m5⟩ := arr6f (ext_blk HX3.out HC0.out)
    obtain ⟨n0, n1, n2, n3, n4, n5, n6, n7, n8⟩ := arr9 (ext_blk HX3.out HC1.out)
    have z6 := ext_blk (HX3.out) HC2.out
    have z9 := ext_blk (HX3.out) HC3.out
    obtain ⟨v0, v1, v2, v3, v4, v5, f0, f1, f2, f3, f4, f5⟩ := st6 z6
    obtain ⟨⟨g0, g1, g2, g3, g4, g5, g6, g7, g8⟩, e0, e1, e2, e3, e4, e5, e6, e7, e8⟩ := st9 z9
    have BB := Lib.hid (blk6 z6 (.int .i64 d.next) (.slice d.oA d.opn.length d.oc) (.slice d.cA d.accs.length d.cc) (.slice d.uA d.auts.length d.uc) (.slice d.rA d.ords.length d.rc) (.int .i64 d.ser))
    have BC := Lib.hid (set9_blk (z9_far z9 (.int .i64 d.next) (.slice d.oA d.opn.length d.oc) (.slice d.cA d.accs.length d.cc) (.slice d.uA d.auts.length d.uc) (.slice d.rA d.ords.length d.rc) (.int .i64 d.ser)) (.int .i64 q1.kind) (.int .i64 q1.acc) (.int .i64 q1.nonce) (.int .u64 (q1.key : Int)) (.slice A q1.names.length c) (.int .i64 q1.life) (.int .i64 q1.id) (.int .u64 (q1.e : Int)) (.int .u64 (q1.s : Int)))
    have BD := Lib.hid (z6_far BB.out (.int .i64 q1.kind) (.int .i64 q1.acc) (.int .i64 q1.nonce) (.int .u64 (q1.key : Int)) (.slice A q1.names.length c) (.int .i64 q1.life) (.int .i64 q1.id) (.int .u64 (q1.e : Int)) (.int .u64 (q1.s : Int))).drew
    clear BB z6 z9
    go_wp2
    go_region
    go_wp2
    rw [HR.out]
    obtain ⟨r0, r1, r2, r3, r4, r5⟩ := arr6f BD.out
    obtain ⟨⟨k0, k1, k2, k3, k4, k5, k6, k7, k8⟩, -⟩ := st9 BC.out.drew
    obtain ⟨a1, a2, a3⟩ := asks_fin (b2 := w.heap.size + 2) (b3 := w.heap.size + 3) (HX2.out.trans HX3.out) (by omega) (by omega) (HW.out.ext (HX2.out.trans HX3.out)) (HW.out.lies.mono (fun k hk => ⟨by omega, by omega⟩)) (HQW.out)
    refine bodyPost_ret (v := .tuple #[.agg #[.int .i64 d.next, .slice d.oA d.opn.length d.oc, .slice d.cA d.accs.length d.cc, .slice d.uA d.auts.length d.uc, .slice d.rA d.ords.length d.rc, .int .i64 d.ser], .agg #[.int .i64 q1.kind, .int .i64 q1.acc, .int .i64 q1.nonce, .int .u64 (q1.key : Int), .slice A q1.names.length c, .int .i64 q1.life, .int .i64 q1.id, .int .u64 (q1.e : Int), .int .u64 (q1.s : Int)], .int .i64 0, .int .i64 1]) (by simp [results, Tryz.results36, go_sem, r0, r1, r2, r3, r4, r5, k0, k1, k2, k3, k4, k5, k6, k7, k8]) rfl ⟨d, rfl, rfl, a1.ext (Ext.refl _).drew, ?_, a2.ext (Ext.refl _).drew, a3.drew⟩
    intro S hS
    exact hS.mono (fun k hk => .inl hk)
  subst hb
  have hbq := bytR_ok HBE.out
  obtain ⟨se, hse⟩ : ∃ v, v = sgE (secN l) (byteL q1) := ⟨_, rfl⟩
  obtain ⟨ss, hss⟩ : ∃ v, v = sgS (secN l) (byteL q1) := ⟨_, rfl⟩
  have cS := Sign_any s (by rw [HSEC.out]; exact sec_odd _) (byteL q1) (byteL_lt q1) (byteL_len HBE.out) A3 c3 (by have := HC3L.out; rw [hbq] at this; exact this) w3 (by have := HR3.out; rw [hbq] at this; exact this)
  rw [HSEC.out, ← hse, ← hss, ← HSEC.out, ← hbq] at cS
  obtain ⟨q2, hq2⟩ : ∃ q2 : QueR, q2 = { q1 with e := se, s := ss } := ⟨_, rfl⟩
  have HQ2 := Lib.hid hq2
  have HSE := Lib.hid hse
  have HSS := Lib.hid hss
  have hsl : se < 18446744073709551616 ∧ ss < 18446744073709551616 := ⟨by rw [hse]; exact r64 (sgE_lt _ _), by rw [hss]; exact r64 (sgS_lt _ _)⟩
  have HSL := Lib.hid hsl
  have z1 := ext_blk HX3.out HC1.out
  have HZ1 := Lib.hid z1
  clear hse hss hbq hsl z1
  go_upto_region 9 with (go_at_call 41; refine cS.mono ?_; clear cS; rintro e w5 ⟨rfl, x5⟩; have z1 := ext_blk x5 HZ1.out; have p7 := z1.cell 7; have p8 := z1.cell 8; have f7 := z1.frozen 7; have f8 := z1.frozen 8)
  have HX35 : Hid (Ext W2 w5) := Lib.hid (HX3.out.trans x5)
  obtain ⟨W3, e3⟩ : ∃ W, W = (w5.setCell ⟨w.heap.size + 1, 7, none⟩ (.int .u64 (se : Int))).setCell ⟨w.heap.size + 1, 8, none⟩ (.int .u64 (ss : Int)) := ⟨_, rfl⟩
  have HX4 : Hid (Ext w W3) := Lib.hid (by rw [e3]; exact ((HX2.out.trans HX35.out).setCell (p := ⟨w.heap.size + 1, 7, none⟩) (Nat.le_succ _) _).setCell (p := ⟨w.heap.size + 1, 8, none⟩) (Nat.le_succ _) _)
  have HD0 : Hid (Blk W3 w.heap.size 96 #[.int .i64 d.next, .slice d.oA d.opn.length d.oc, .slice d.cA d.accs.length d.cc, .slice d.uA d.auts.length d.uc, .slice d.rA d.ords.length d.rc, .int .i64 d.ser]) := Lib.hid (by rw [e3]; exact ((ext_blk HX35.out HC0.out).far (by simp) _).far (by simp) _)
  have HD1 : Hid (Blk W3 (w.heap.size + 1) 98 #[.int .i64 q2.kind, .int .i64 q2.acc, .int .i64 q2.nonce, .int .u64 (q2.key : Int), .slice A q2.names.length c, .int .i64 q2.life, .int .i64 q2.id, .int .u64 (q2.e : Int), .int .u64 (q2.s : Int)]) := Lib.hid (by rw [e3, hq2]; exact (z1.set_ 7 _).set_ 8 _)
  have HD2 : Hid (Blk W3 (w.heap.size + 2) 96 #[.int .i64 0, .slice none 0 0, .slice none 0 0, .slice none 0 0, .slice none 0 0, .int .i64 0]) := Lib.hid (by rw [e3]; exact ((ext_blk HX35.out HC2.out).far (by simp) _).far (by simp) _)
  have HD3 : Hid (Blk W3 (w.heap.size + 3) 98 #[.int .i64 0, .int .i64 0, .int .i64 0, .int .u64 0, .slice none 0 0, .int .i64 0, .int .i64 0, .int .u64 0, .int .u64 0]) := Lib.hid (by rw [e3]; exact ((ext_blk HX35.out HC3.out).far (by simp) _).far (by simp) _)
  have HDN3 : Hid (Blk W3 w1.heap.size 96 #[.int .i64 dn.next, .slice dn.oA dn.opn.length dn.oc, .slice dn.cA dn.accs.length dn.cc, .slice dn.uA dn.auts.length dn.uc, .slice dn.rA dn.ords.length dn.rc, .int .i64 dn.ser]) := Lib.hid (by rw [e3]; have h0 := HS0.out; have h1 := HS1.out; exact ((ext_blk HX35.out HDN.out).far (by simp; omega) _).far (by simp; omega) _)
  have HWN3 : Hid (DoorW W3 W3.heap.size dn) := Lib.hid (by
    rw [e3]
    have h1 := HLN2.out.mono (S' := fun k => k ≠ w.heap.size + 1) (fun k hk => by omega)
    exact ((HWN2.out.ext HX35.out).grownTo h1 (grown_set _ _ 7 _)).grownTo h1 (grown_set _ _ 8 _))
  have HS3 : Hid (w.heap.size + 4 ≤ W3.heap.size) := Lib.hid (by have h2 := HS2.out; have h3 := HX35.out.size; rw [e3]; simp; omega)
  try rw [← e3]
  clear e3 p7 p8 f7 f8 z1 x5 hq2 HX35 HX3 HC0 HC1 HC2 HC3 HDN HZ1 HWN2
  have HQW2 : Hid (QueW w w.heap.size q2 A c) := Lib.hid (by rw [HQ2.out]; exact HQW.out.with_ HQW.out.nonce HSL.out.1 HSL.out.2)
  have cD := oDo_any dn q2 A c now W3 HWN3.out (HQW2.out.ext HX4.out) (by have := congrArg (fun f : FroR => f.auts.length) (HF.out.trans HFQ.out); have h := HU9.out; simp only [dfro_auts] at this; omega) (by have := congrArg (fun f : FroR => f.accs.length) (HF.out.trans HFQ.out); have h := HA9.out; simp only [dfro_accs] at this; omega) (by have := congrArg (fun f : FroR => f.ords.length) (HF.out.trans HFQ.out); have h := HO9.out; simp only [dfro_ords, List.length_map] at this; omega)
  unfold outD at cD
  obtain ⟨E2, hE2⟩ : ∃ E, (doF checkN dn.fro q2 now).2.2 = E := ⟨_, rfl⟩
  obtain ⟨mm, hm2⟩ : ∃ E, (doF checkN dn.fro q2 now).2.1 = E := ⟨_, rfl⟩
  rw [hE2, hm2] at cD
  have HE2 := Lib.hid hE2
  have HM2 := Lib.hid hm2
  clear hE2 hm2
  unfold frontV queV at cD
  obtain ⟨m0, m1, m2, m3, m4, m5⟩ := arr6f HDN3.out
  obtain ⟨n0, n1, n2, n3, n4, n5, n6, n7, n8⟩ := arr9 HD1.out
  go_upto_region 12 with (go_at_call 38; refine cD.mono ?_; clear cD m0 m1 m2 m3 m4 m5 n0 n1 n2 n3 n4 n5 n6 n7 n8; rintro e w4 ⟨dd, rfl, hfd, hwd, hld, x4⟩)
  obtain ⟨W4, e4⟩ : ∃ W, w4.alloc (.cells #[.int .i64 dd.next, .slice dd.oA dd.opn.length dd.oc, .slice dd.cA dd.accs.length dd.cc, .slice dd.uA dd.auts.length dd.uc, .slice dd.rA dd.ords.length dd.rc, .int .i64 dd.ser] 96) = W := ⟨_, rfl⟩
  try rw [e4]
  have HY4 : Hid (Ext W3 W4) := Lib.hid (by rw [← e4]; exact x4.alloc _)
  have HBD : Hid (Blk W4 w4.heap.size 96 #[.int .i64 dd.next, .slice dd.oA dd.opn.length dd.oc, .slice dd.cA dd.accs.length dd.cc, .slice dd.uA dd.auts.length dd.uc, .slice dd.rA dd.ords.length dd.rc, .int .i64 dd.ser]) := Lib.hid (by rw [← e4]; exact Blk.new _ _ _)
  have HWD : Hid (DoorW W4 W4.heap.size dd) := Lib.hid (hwd.ext (by rw [← e4]; exact (Ext.refl w4).alloc _))
  have HLD := Lib.hid hld
  have HFD := Lib.hid hfd
  have HS4 : Hid (W3.heap.size ≤ w4.heap.size) := Lib.hid x4.size
  clear e4 hfd hwd hld x4
  have HZ4 : Hid (Ext w W4) := Lib.hid (HX4.out.trans HY4.out)
  by_cases h2 : E2 = 0
  case neg =>
    have HR := Lib.hid (askT_3 (l := l) (q := q) (q1 := q1) (f := d.fro) (now := now) (E := E2) HE.out (by rw [HNN.out]; exact HQ1.out) HBE.out (by rw [← HSE.out, ← HSS.out, ← HQ2.out, HFN.out, ← HF.out]; exact HE2.out) h2)
    have hR := HR.out
    rw [← HSE.out, ← HSS.out, ← HQ2.out] at hR
    have HRR := Lib.hid hR
    have k0 := ne_beq h2
    clear h2 hR
    obtain ⟨m0, m1, m2, m3, m4, m5⟩ := arr6f (ext_blk HY4.out HD0.out)
    obtain ⟨n0, n1, n2, n3, n4, n5, n6, n7, n8⟩ := arr9 (ext_blk HY4.out HD1.out)
    obtain ⟨o0, o1, o2, o3, o4, o5, o6, o7, o8⟩ := arr9 (far6' (ext_blk HY4.out HD1.out) (b := w.heap.size + 2) (by omega) (.int .i64 d.next) (.slice d.oA d.opn.length d.oc) (.slice d.cA d.accs.length d.cc) (.slice d.uA d.auts.length d.uc) (.slice d.rA d.ords.length d.rc) (.int .i64 d.ser))
    have z6 := ext_blk (HY4.out) HD2.out
    have z9 := ext_blk (HY4.out) HD3.out
    obtain ⟨v0, v1, v2, v3, v4, v5, f0, f1, f2, f3, f4, f5⟩ := st6 z6
    obtain ⟨⟨g0, g1, g2, g3, g4, g5, g6, g7, g8⟩, e0, e1, e2, e3, e4, e5, e6, e7, e8⟩ := st9 z9
    have BB := Lib.hid (blk6 z6 (.int .i64 d.next) (.slice d.oA d.opn.length d.oc) (.slice d.cA d.accs.length d.cc) (.slice d.uA d.auts.length d.uc) (.slice d.rA d.ords.length d.rc) (.int .i64 d.ser))
    have BC := Lib.hid (set9_blk (z9_far z9 (.int .i64 d.next) (.slice d.oA d.opn.length d.oc) (.slice d.cA d.accs.length d.cc) (.slice d.uA d.auts.length d.uc) (.slice d.rA d.ords.length d.rc) (.int .i64 d.ser)) (.int .i64 q2.kind) (.int .i64 q2.acc) (.int .i64 q2.nonce) (.int .u64 (q2.key : Int)) (.slice A q2.names.length c) (.int .i64 q2.life) (.int .i64 q2.id) (.int .u64 (q2.e : Int)) (.int .u64 (q2.s : Int)))
    have BD := Lib.hid (z6_far BB.out (.int .i64 q2.kind) (.int .i64 q2.acc) (.int .i64 q2.nonce) (.int .u64 (q2.key : Int)) (.slice A q2.names.length c) (.int .i64 q2.life) (.int .i64 q2.id) (.int .u64 (q2.e : Int)) (.int .u64 (q2.s : Int))).drew
    clear BB z6 z9
    go_wp2
    go_region
    go_wp2
    rw [HRR.out]
    obtain ⟨r0, r1, r2, r3, r4, r5⟩ := arr6f BD.out
    obtain ⟨⟨k0, k1, k2, k3, k4, k5, k6, k7, k8⟩, -⟩ := st9 BC.out.drew
    obtain ⟨a1, a2, a3⟩ := asks_fin (b2 := w.heap.size + 2) (b3 := w.heap.size + 3) (HZ4.out) (by omega) (by omega) (HW.out.ext HZ4.out) (HW.out.lies.mono (fun k hk => ⟨by omega, by omega⟩)) (HQW2.out)
    refine bodyPost_ret (v := .tuple #[.agg #[.int .i64 d.next, .slice d.oA d.opn.length d.oc, .slice d.cA d.accs.length d.cc, .slice d.uA d.auts.length d.uc, .slice d.rA d.ords.length d.rc, .int .i64 d.ser], .agg #[.int .i64 q2.kind, .int .i64 q2.acc, .int .i64 q2.nonce, .int .u64 (q2.key : Int), .slice A q2.names.length c, .int .i64 q2.life, .int .i64 q2.id, .int .u64 (q2.e : Int), .int .u64 (q2.s : Int)], .int .i64 0, .int .i64 (E2 : Int)]) (by simp [results, Tryz.results36, go_sem, r0, r1, r2, r3, r4, r5, k0, k1, k2, k3, k4, k5, k6, k7, k8]) rfl ⟨d, rfl, rfl, a1.ext (Ext.refl _).drew, ?_, a2.ext (Ext.refl _).drew, a3.drew⟩
    intro S hS
    exact hS.mono (fun k hk => .inl hk)
  subst h2
  have hR := askT_4 (l := l) (q := q) (q1 := q1) (f := d.fro) (now := now) HE.out (by rw [HNN.out]; exact HQ1.out) HBE.out (by rw [← HSE.out, ← HSS.out, ← HQ2.out, HFN.out, ← HF.out]; exact HE2.out)
  rw [← HSE.out, ← HSS.out, ← HQ2.out, HFN.out, ← HF.out, HM2.out, ← HFD.out] at hR
  have HRR := Lib.hid hR
  clear hR
  obtain ⟨m0, m1, m2, m3, m4, m5⟩ := arr6f HBD.out
  obtain ⟨n0, n1, n2, n3, n4, n5, n6, n7, n8⟩ := arr9 (ext_blk HY4.out HD1.out)
  obtain ⟨o0, o1, o2, o3, o4, o5, o6, o7, o8⟩ := arr9 (far6' (ext_blk HY4.out HD1.out) (b := w.heap.size + 2) (by omega) (.int .i64 dd.next) (.slice dd.oA dd.opn.length dd.oc) (.slice dd.cA dd.accs.length dd.cc) (.slice dd.uA dd.auts.length dd.uc) (.slice dd.rA dd.ords.length dd.rc) (.int .i64 dd.ser))
  have z6 := ext_blk (HY4.out) HD2.out
  have z9 := ext_blk (HY4.out) HD3.out
  obtain ⟨v0, v1, v2, v3, v4, v5, f0, f1, f2, f3, f4, f5⟩ := st6 z6
  obtain ⟨⟨g0, g1, g2, g3, g4, g5, g6, g7, g8⟩, e0, e1, e2, e3, e4, e5, e6, e7, e8⟩ := st9 z9
  have BB := Lib.hid (blk6 z6 (.int .i64 dd.next) (.slice dd.oA dd.opn.length dd.oc) (.slice dd.cA dd.accs.length dd.cc) (.slice dd.uA dd.auts.length dd.uc) (.slice dd.rA dd.ords.length dd.rc) (.int .i64 dd.ser))
  have BC := Lib.hid (set9_blk (z9_far z9 (.int .i64 dd.next) (.slice dd.oA dd.opn.length dd.oc) (.slice dd.cA dd.accs.length dd.cc) (.slice dd.uA dd.auts.length dd.uc) (.slice dd.rA dd.ords.length dd.rc) (.int .i64 dd.ser)) (.int .i64 q2.kind) (.int .i64 q2.acc) (.int .i64 q2.nonce) (.int .u64 (q2.key : Int)) (.slice A q2.names.length c) (.int .i64 q2.life) (.int .i64 q2.id) (.int .u64 (q2.e : Int)) (.int .u64 (q2.s : Int)))
  have BD := Lib.hid (z6_far BB.out (.int .i64 q2.kind) (.int .i64 q2.acc) (.int .i64 q2.nonce) (.int .u64 (q2.key : Int)) (.slice A q2.names.length c) (.int .i64 q2.life) (.int .i64 q2.id) (.int .u64 (q2.e : Int)) (.int .u64 (q2.s : Int))).drew
  clear BB z6 z9
  go_wp2
  go_region
  go_wp2
  have hl4 : ∀ S, DoorL S d → DoorL (fun k => S k ∨ w.heap.size + 4 ≤ k) dd := fun S hS => (HLD.out _ (HLN.out S hS)).mono (fun k hk => by
    have h0 := HS0.out
    have h3 := HS3.out
    rcases hk with (hk | hk) | hk
    · exact .inl hk
    · exact .inr (by omega)
    · exact .inr (by omega))
  rw [HRR.out]
  obtain ⟨r0, r1, r2, r3, r4, r5⟩ := arr6f BD.out
  obtain ⟨⟨k0, k1, k2, k3, k4, k5, k6, k7, k8⟩, -⟩ := st9 BC.out.drew
  obtain ⟨a1, a2, a3⟩ := asks_fin (b2 := w.heap.size + 2) (b3 := w.heap.size + 3) (HZ4.out) (by omega) (by omega) (HWD.out) ((hl4 _ HW.out.lies).mono (fun k hk => ⟨by omega, by omega⟩)) (HQW2.out)
  refine bodyPost_ret (v := .tuple #[.agg #[.int .i64 dd.next, .slice dd.oA dd.opn.length dd.oc, .slice dd.cA dd.accs.length dd.cc, .slice dd.uA dd.auts.length dd.uc, .slice dd.rA dd.ords.length dd.rc, .int .i64 dd.ser], .agg #[.int .i64 q2.kind, .int .i64 q2.acc, .int .i64 q2.nonce, .int .u64 (q2.key : Int), .slice A q2.names.length c, .int .i64 q2.life, .int .i64 q2.id, .int .u64 (q2.e : Int), .int .u64 (q2.s : Int)], .int .i64 mm, .int .i64 0]) (by simp [results, Tryz.results36, go_sem, r0, r1, r2, r3, r4, r5, k0, k1, k2, k3, k4, k5, k6, k7, k8]) rfl ⟨dd, rfl, rfl, a1.ext (Ext.refl _).drew, ?_, a2.ext (Ext.refl _).drew, a3.drew⟩
  intro S hS
  exact (hl4 S hS).mono (fun k hk => by rcases hk with hk | hk; exact .inl hk; exact .inr (by omega))
end Go.Proofs.YtfpmfegmehbfbaaGreatDoor

/- TopDoor, walked: are the names few. -/
namespace Go.Proofs.YtfpmfegmehbfbaaGreatDoor
set_option linter.unusedVariables false
set_option linter.unusedSimpArgs false
set_option linter.unusedSimpArgs false
open Go.RowKit Go.Shelf Go.Maps

/-- Bytes of the names. -/
def szN (l : List ByteArray) : Nat := (l.map ByteArray.size).sum
theorem szN_snoc (l : List ByteArray) (s : ByteArray) : szN (l ++ [s]) = szN l + s.size := by simp [szN]
theorem szN_take (l : List ByteArray) (k : Nat) : szN (l.take k) ≤ szN l := by
  have e : szN l = szN (l.take k) + szN (l.drop k) := by
    unfold szN
    conv => lhs; rw [← List.take_append_drop k l]
    rw [List.map_append, List.sum_append]
  omega
theorem szN_mem {l : List ByteArray} {s : ByteArray} (h : s ∈ l) : s.size ≤ szN l := by
  unfold szN
  induction l with
  | nil => cases h
  | cons a l ih =>
    rw [List.map_cons, List.sum_cons]
    rcases List.mem_cons.1 h with rfl | h
    · omega
    · have := ih h; omega
set_option maxRecDepth 100000 in
set_option maxHeartbeats 2000000 in
theorem fewWish_any (l : List ByteArray) (A : Option Addr) (c : Nat) (hs : ∀ s ∈ l, s.size ≤ 140737488351232) (hc : l.length ≤ c) (hcr : c ≤ 140737488351232) (w : World) (hr : Reads w w.heap.size 1 A l.length (tv l)) :
    Calls Tryz.prog 33 #[.agg #[.int .i64 0, .slice A l.length c, .int .u64 0, .int .i64 0]] w fun e w' => e = .returned (.bool (decide (szN l ≤ 1000 ∧ l.length ≤ 20))) ∧ Ext w w' := by
  obtain ⟨W0, e0⟩ : ∃ W, w.alloc (.cells #[.int .i64 0, .slice A l.length c, .int .u64 0, .int .i64 0] 85) = W := ⟨_, rfl⟩
  have x0 : Ext w W0 := by rw [← e0]; exact (Ext.refl w).alloc _
  have b0 : Blk W0 w.heap.size 85 #[.int .i64 0, .slice A l.length c, .int .u64 0, .int .i64 0] := by rw [← e0]; exact Blk.new _ _ _
  obtain ⟨m0, m1, m2, m3⟩ := arr4f b0
  have hl' : (l.length : Int) ≤ 140737488351232 := by omega
  have HR := Lib.hid ((hr.below x0.out).more x0.size)
  have HS := Lib.hid hs
  have HX0 := Lib.hid x0
  clear hr hs b0 x0
  go_enter Tryz.func33, Tryz.ntmps33
  go_upto_region 1 with (fail)
  try rw [e0]
  clear e0
  go_wp2
  go_loopg [3, 9] l.length (fun m s3 s9 wr => wr = W0 ∧ ∃ k : Nat, k + m = l.length ∧ s3 = .int .i64 (szN (l.take k) : Nat) ∧ s9 = .int .i64 k ∧ szN (l.take k) ≤ 1000)
  case atStart => exact ⟨rfl, 0, by omega, rfl, rfl, Nat.zero_le _⟩
  case round =>
    obtain ⟨rfl, k, hk, rfl, rfl, hn⟩ := hrel
    by_cases h : k < l.length
    · obtain ⟨s, hsk⟩ : ∃ s, l[k]? = some s := ⟨_, List.getElem?_eq_getElem h⟩
      obtain ⟨ad, rfl, hcell⟩ := reads_text HR.out hsk
      have hsz := HS.out s (List.mem_of_getElem? hsk)
      have e1 : szN (l.take (k + 1)) = szN (l.take k) + s.size := by rw [List.take_add_one, hsk]; exact szN_snoc _ _
      obtain ⟨n, hn0⟩ : ∃ n, n = szN (l.take k) := ⟨_, rfl⟩
      rw [← hn0] at hn e1 ⊢
      have z1 : (n : Int) ≤ 1000 := by omega
      have z2 : (s.size : Int) ≤ 140737488351232 := by omega
      have z3 : (k : Int) < l.length := by omega
      have E1 := Lib.hid e1
      have HK := Lib.hid hk
      by_cases h4 : n + s.size ≤ 1000
      · have z4 : ¬ (1000 : Int) < (n : Int) + s.size := by omega
        have H4 := Lib.hid h4
        clear hn e1 hn0 hk hsz hsk h h4
        go_wp2
        have hk := HK.out
        go_roundg (gk - 1)
        case measure => omega
        case rel => exact ⟨rfl, k + 1, by omega, int_congr (by rw [E1.out]; omega), int_congr (by omega), by rw [E1.out]; exact H4.out⟩
      · have z4 : (1000 : Int) < (n : Int) + s.size := by omega
        have HF : Hid (decide (szN l ≤ 1000 ∧ l.length ≤ 20) = false) := Lib.hid (decide_eq_false fun q => by have := szN_take l (k + 1); omega)
        clear hn e1 hn0 hk hsz hsk h h4
        go_wp2
        go_ret
        exact ⟨ret_bool (by rw [HF.out]), HX0.out⟩
    · obtain rfl : k = l.length := by omega
      rw [List.take_length] at hn ⊢
      have HN := Lib.hid hn
      clear hn hk h
      go_wp2
      go_ret
      refine ⟨ret_bool ?_, HX0.out⟩
      have h1 := HN.out
      rw [decide_eq_decide]
      omega
end Go.Proofs.YtfpmfegmehbfbaaGreatDoor
