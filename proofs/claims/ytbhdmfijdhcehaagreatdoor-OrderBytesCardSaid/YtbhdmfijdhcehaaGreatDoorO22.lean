/- Parts of the proofs, put together: Or46. -/
import Derived.Test.YtbhdmfijdhcehaaGreatDoorO18
import Derived.Test.YtbhdmfijdhcehaaGreatDoorO20
/- The laws of layer 22, walked: op. -/
namespace Go.Proofs.YtbhdmfijdhcehaaGreatDoor
set_option linter.unusedVariables false
set_option linter.unusedSimpArgs false
set_option linter.unusedSimpArgs false
open Go.RowKit Go.Shelf Go.Maps

def opVal (x : OpX) : Value := .agg #[.int .u8 (x.o.kind : Int), .int .u8 (x.o.seed : Int), .int .i64 x.o.acc, .int .i64 x.o.id, .slice x.nA x.o.names.length x.nc, .bool x.o.ok, .int .u8 (x.o.later : Int)]
theorem OpI.ext {w w' : World} {x : OpX} (h : OpI w x) (e : Ext w w') : OpI w' x := ⟨h.kind, h.seed, h.acc, h.id, h.later, (h.names.below e.out).more e.size, h.nc, h.nr, h.ns⟩
theorem op_fin {w W : World} {d : DoorX} {b2 : Nat} (x : Ext w W) (h2 : w.heap.size ≤ b2) (hd : DoorW W W.heap.size d) (hl : DoorL (fun k => k ≠ b2) d) :
    DoorW ((((((W.setCell ⟨b2, 0, none⟩ (.int .i64 d.next)).setCell ⟨b2, 1, none⟩ (.slice d.oA d.opn.length d.oc)).setCell ⟨b2, 2, none⟩ (.slice d.cA d.accs.length d.cc)).setCell ⟨b2, 3, none⟩ (.slice d.uA d.auts.length d.uc)).setCell ⟨b2, 4, none⟩ (.slice d.rA d.ords.length d.rc)).setCell ⟨b2, 5, none⟩ (.int .i64 d.ser)) ((((((W.setCell ⟨b2, 0, none⟩ (.int .i64 d.next)).setCell ⟨b2, 1, none⟩ (.slice d.oA d.opn.length d.oc)).setCell ⟨b2, 2, none⟩ (.slice d.cA d.accs.length d.cc)).setCell ⟨b2, 3, none⟩ (.slice d.uA d.auts.length d.uc)).setCell ⟨b2, 4, none⟩ (.slice d.rA d.ords.length d.rc)).setCell ⟨b2, 5, none⟩ (.int .i64 d.ser)).heap.size d ∧ Ext w ((((((W.setCell ⟨b2, 0, none⟩ (.int .i64 d.next)).setCell ⟨b2, 1, none⟩ (.slice d.oA d.opn.length d.oc)).setCell ⟨b2, 2, none⟩ (.slice d.cA d.accs.length d.cc)).setCell ⟨b2, 3, none⟩ (.slice d.uA d.auts.length d.uc)).setCell ⟨b2, 4, none⟩ (.slice d.rA d.ords.length d.rc)).setCell ⟨b2, 5, none⟩ (.int .i64 d.ser)) :=
  ⟨hd.grownTo hl (grown6 W b2 (.int .i64 d.next) (.slice d.oA d.opn.length d.oc) (.slice d.cA d.accs.length d.cc) (.slice d.uA d.auts.length d.uc) (.slice d.rA d.ords.length d.rc) (.int .i64 d.ser)), ext6 x h2 (.int .i64 d.next) (.slice d.oA d.opn.length d.oc) (.slice d.cA d.accs.length d.cc) (.slice d.uA d.auts.length d.uc) (.slice d.rA d.ords.length d.rc) (.int .i64 d.ser)⟩
theorem opQ_0 (o : OpR) (h : o.kind % 7 = 0) : opQ sigR o = ⟨1, 0, 0, sigR.pk o.seed, [], 0, 0, 0, 0⟩ := by unfold opQ; rw [if_pos h]
theorem opQ_1 (o : OpR) (h : o.kind % 7 = 1) : opQ sigR o = ⟨2, o.acc, 0, sigR.pk ((o.seed + 100) % 256), o.names, 7, 0, 0, 0⟩ := by unfold opQ; rw [if_neg (by omega), if_pos h]
theorem opQ_2 (o : OpR) (h0 : o.kind % 7 ≠ 0) (h1 : o.kind % 7 ≠ 1) : opQ sigR o = ⟨(o.kind % 7 : Nat) + 1, o.acc, 0, 0, [], 0, o.id, 0, 0⟩ := by unfold opQ; rw [if_neg h0, if_neg h1]
theorem opF_5 (f : FroR) (o : OpR) (now : Int) (h : o.kind % 7 = 5) : opF sigR f o now = if (sawF f o.id o.ok now).2 ≠ 0 then (f, (sawF f o.id o.ok now).2) else sawF f o.id o.ok now := by unfold opF; rw [if_pos h]
theorem opF_6 (f : FroR) (o : OpR) (now : Int) (h : o.kind % 7 = 6) : opF sigR f o now = if (donF f o.id (f.ser + 1)).2 ≠ 0 then (f, (donF f o.id (f.ser + 1)).2) else donF f o.id (f.ser + 1) := by unfold opF; rw [if_neg (by omega), if_pos h]
theorem opF_q (f : FroR) (o : OpR) (now : Int) (h5 : o.kind % 7 ≠ 5) (h6 : o.kind % 7 ≠ 6) : opF sigR f o now = ((asksF sigR f (opQ sigR o) o.seed now).1, (asksF sigR f (opQ sigR o) o.seed now).2.2.2) := by unfold opF; rw [if_neg h5, if_neg h6]
set_option maxRecDepth 100000 in
set_option maxHeartbeats 16000000 in
theorem op_any (d : DoorX) (x : OpX) (now : Int) (w : World) (hd : DoorW w w.heap.size d) (hc : chkF d.fro = 0) (hx : OpI w x) (hxn : x.o.names.length ≤ 1000) (hu : d.auts.length + 8 < 99) (ha : d.accs.length < 100) (ho : d.ords.length < 100) :
    Calls Tryz.prog 35 #[frontV d, opVal x, .int .i64 now] w (outS d (opF sigR d.fro x.o now) w) := by
  obtain ⟨W0, e0, b0, b1, b2, x0, s0⟩ := boxes3 w #[.int .i64 d.next, .slice d.oA d.opn.length d.oc, .slice d.cA d.accs.length d.cc, .slice d.uA d.auts.length d.uc, .slice d.rA d.ords.length d.rc, .int .i64 d.ser] #[.int .u8 (x.o.kind : Int), .int .u8 (x.o.seed : Int), .int .i64 x.o.acc, .int .i64 x.o.id, .slice x.nA x.o.names.length x.nc, .bool x.o.ok, .int .u8 (x.o.later : Int)] #[.int .i64 0, .slice none 0 0, .slice none 0 0, .slice none 0 0, .slice none 0 0, .int .i64 0] 43 66 43
  obtain ⟨kind, hkind⟩ : ∃ k, k = x.o.kind := ⟨_, rfl⟩
  obtain ⟨m, hm⟩ : ∃ m, m = kind % 7 := ⟨_, rfl⟩
  have hm7 : m < 7 := by omega
  have km : Int.tmod (kind : Int) 7 = (m : Int) := by rw [Int.tmod_eq_emod_of_nonneg (by omega)]; omega
  have kw : IntKind.i64.wrap (m : Int) = (m : Int) := by rw [IntKind.wrap_i64]; omega
  have kw1 : IntKind.i64.wrap ((m : Int) + 1) = (m : Int) + 1 := by rw [IntKind.wrap_i64]; omega
  have hsr : 0 ≤ d.ser ∧ d.ser ≤ 1099511627776 := (chkF_zero.1 hc).1.2.1
  have kser : IntKind.i64.wrap (d.ser + 1) = d.ser + 1 := by rw [IntKind.wrap_i64]; omega
  have hm' : x.o.kind % 7 = m := by rw [← hkind]; exact hm.symm
  have cA := fun (q : QueR) (A : Option Addr) (c : Nat) (W : World) (y : Ext W0 W) (hq : QueW W W.heap.size q A c) => asks_any d q A c x.o.seed hx.seed now W (hd.ext (x0.trans y)) hq hu ha ho
  have cS := fun (W : World) (y : Ext W0 W) => oSaw_any d x.o.id x.o.ok now W (hd.ext (x0.trans y)) (by omega) ha
  have cD := fun (W : World) (y : Ext W0 W) => oDone_any d x.o.id (d.ser + 1) W (hd.ext (x0.trans y)) (by omega) ha
  have HD := Lib.hid hd
  have HX := Lib.hid hx
  have HXN := Lib.hid hxn
  have HM := Lib.hid hm'
  have HM7 := Lib.hid hm7
  have HB0 := Lib.hid b0
  have HB1 := Lib.hid b1
  have HB2 := Lib.hid b2
  have HX0 := Lib.hid x0
  have HS0 := Lib.hid s0
  rw [← hkind] at HB1 e0
  obtain ⟨a0, a1, a2, a3, a4, a5, a6⟩ := arr7 (HB1.out)
  unfold frontV opVal
  rw [← hkind]
  clear b0 b1 b2 x0 s0 hd hx hxn hkind hm hm' hm7 hu ha ho hsr hc
  go_enter Tryz.func35, Tryz.ntmps35
  go_upto_region 1 with (fail)
  try rw [e0]
  clear e0
  go_upto_region 2 with (fail)
  clear a0 a1 a2 a3 a4 a5 a6
  by_cases h0 : m = 0
  · have k0 : ((m : Int) == 0) = true := by simp; omega
    have cK := fun W => key_any x.o.seed HX.out.seed W
    have hq0 := opQ_0 x.o (by rw [HM.out]; exact h0)
    have HM56 : Hid (m ≠ 5 ∧ m ≠ 6) := Lib.hid (by omega)
    clear h0
    obtain ⟨W1, e1⟩ : ∃ W, W0.alloc (.cells #[.int .i64 ((m : Int) + 1), .int .i64 x.o.acc, .int .i64 0, .int .u64 0, .slice none 0 0, .int .i64 0, .int .i64 x.o.id, .int .u64 0, .int .u64 0] 27) = W := ⟨_, rfl⟩
    try rw [e1]
    have HX1 : Hid (Ext W0 W1) := Lib.hid (by rw [← e1]; exact (Ext.refl W0).alloc _)
    have HBQ : Hid (Blk W1 W0.heap.size 27 #[.int .i64 ((m : Int) + 1), .int .i64 x.o.acc, .int .i64 0, .int .u64 0, .slice none 0 0, .int .i64 0, .int .i64 x.o.id, .int .u64 0, .int .u64 0]) := Lib.hid (by rw [← e1]; exact Blk.new _ _ _)
    clear e1
    obtain ⟨a0, a1, a2, a3, a4, a5, a6⟩ := arr7 (ext_blk HX1.out HB1.out)
    go_upto_region 20 with (go_at_call 39; refine (cK _).mono ?_; clear cK a0 a1 a2 a3 a4 a5 a6; rintro e w2 ⟨rfl, x2⟩; have z9 := ext_blk x2 HBQ.out; obtain ⟨⟨g0, g1, g2, g3, g4, g5, g6, g7, g8⟩, e0, e1, e2, e3, e4, e5, e6, e7, e8⟩ := st9 z9)
    obtain ⟨W2, e2⟩ : ∃ W, W = (((((((((w2.setCell ⟨W0.heap.size, 0, none⟩ (.int .i64 1)).setCell ⟨W0.heap.size, 1, none⟩ (.int .i64 0)).setCell ⟨W0.heap.size, 2, none⟩ (.int .i64 0)).setCell ⟨W0.heap.size, 3, none⟩ (.int .u64 ((sigR.pk x.o.seed : Nat) : Int))).setCell ⟨W0.heap.size, 4, none⟩ (.slice none 0 0)).setCell ⟨W0.heap.size, 5, none⟩ (.int .i64 0)).setCell ⟨W0.heap.size, 6, none⟩ (.int .i64 0)).setCell ⟨W0.heap.size, 7, none⟩ (.int .u64 0)).setCell ⟨W0.heap.size, 8, none⟩ (.int .u64 0)) := ⟨_, rfl⟩
    have HX2 : Hid (Ext W0 W2) := Lib.hid (by rw [e2]; exact set9_ext (HX1.out.trans x2) (Nat.le_refl _) (.int .i64 1) (.int .i64 0) (.int .i64 0) (.int .u64 ((sigR.pk x.o.seed : Nat) : Int)) (.slice none 0 0) (.int .i64 0) (.int .i64 0) (.int .u64 0) (.int .u64 0))
    have HQ2 : Hid (Blk W2 W0.heap.size 27 #[.int .i64 1, .int .i64 0, .int .i64 0, .int .u64 ((sigR.pk x.o.seed : Nat) : Int), .slice none 0 0, .int .i64 0, .int .i64 0, .int .u64 0, .int .u64 0]) := Lib.hid (by rw [e2]; exact set9_blk z9 (.int .i64 1) (.int .i64 0) (.int .i64 0) (.int .u64 ((sigR.pk x.o.seed : Nat) : Int)) (.slice none 0 0) (.int .i64 0) (.int .i64 0) (.int .u64 0) (.int .u64 0))
    try rw [← e2]
    clear z9 g0 g1 g2 g3 g4 g5 g6 g7 g8 e0 e1 e2 e3 e4 e5 e6 e7 e8 x2
    obtain ⟨r, hr⟩ : ∃ r, r = asksF sigR d.fro ⟨1, 0, 0, sigR.pk x.o.seed, [], 0, 0, 0, 0⟩ x.o.seed now := ⟨_, rfl⟩
    have cQ := cA ⟨1, 0, 0, sigR.pk x.o.seed, [], 0, 0, 0, 0⟩ none 0 W2 (HX2.out) (que_lit W2 _ 1 0 0 0 _ (by decide) (by decide) (by decide) (by decide) (pk_lt _))
    unfold asksPost frontV queV at cQ
    rw [← hr] at cQ
    obtain ⟨rf, qs, rn, er⟩ := r
    simp only at cQ
    have hR0 : opF sigR d.fro x.o now = (rf, er) := by rw [opF_q d.fro x.o now (by rw [HM.out]; exact HM56.out.1) (by rw [HM.out]; exact HM56.out.2), hq0, ← hr]
    obtain ⟨m0, m1, m2, m3, m4, m5⟩ := arr6f (ext_blk (HX2.out) HB0.out)
    obtain ⟨a0, a1, a2, a3, a4, a5, a6⟩ := arr7 (ext_blk (HX2.out) HB1.out)
    obtain ⟨n0, n1, n2, n3, n4, n5, n6, n7, n8⟩ := arr9 (HQ2.out)
    clear hr cA cS cD hq0
    go_upto_region 21 with (go_at_call 40; refine cQ.mono ?_; clear cQ m0 m1 m2 m3 m4 m5 n0 n1 n2 n3 n4 n5 n6 n7 n8 a0 a1 a2 a3 a4 a5 a6; rintro e w5 ⟨dd, rfl, hfd, hwd, hld, hqd, x5⟩)
    obtain ⟨W6, e6⟩ : ∃ W, (w5.alloc (.cells #[.int .i64 dd.next, .slice dd.oA dd.opn.length dd.oc, .slice dd.cA dd.accs.length dd.cc, .slice dd.uA dd.auts.length dd.uc, .slice dd.rA dd.ords.length dd.rc, .int .i64 dd.ser] 43)).alloc (.cells #[.int .i64 qs.kind, .int .i64 qs.acc, .int .i64 qs.nonce, .int .u64 (qs.key : Int), .slice none qs.names.length 0, .int .i64 qs.life, .int .i64 qs.id, .int .u64 (qs.e : Int), .int .u64 (qs.s : Int)] 27) = W := ⟨_, rfl⟩
    try rw [e6]
    have x56 : Ext w5 W6 := by rw [← e6]; exact ((Ext.refl _).alloc _).alloc _
    have HX6 : Hid (Ext W0 W6) := Lib.hid (Ext.trans (HX2.out) (x5.trans x56))
    have k6 : Blk W6 w5.heap.size 43 #[.int .i64 dd.next, .slice dd.oA dd.opn.length dd.oc, .slice dd.cA dd.accs.length dd.cc, .slice dd.uA dd.auts.length dd.uc, .slice dd.rA dd.ords.length dd.rc, .int .i64 dd.ser] := by rw [← e6]; exact (Blk.new _ _ _).alloc _
    obtain ⟨m0, m1, m2, m3, m4, m5⟩ := arr6f (k6)
    have HR : Hid (opF sigR d.fro x.o now = (dd.fro, er)) := Lib.hid (by rw [hfd]; exact hR0)
    have HWD := Lib.hid (hwd.ext x56)
    have HLD : Hid (∀ S, DoorL S d → DoorL (fun k => S k ∨ w.heap.size + 3 ≤ k) dd) := Lib.hid fun S hS => (hld S hS).mono fun k hk => by
      have h1 := HS0.out
      have h2 := Ext.size (HX2.out)
      rcases hk with hk | hk
      · exact .inl hk
      · exact .inr (by omega)
    clear e6 hfd hwd hld hqd x5 x56 k6 hR0
    have z6 := ext_blk (HX6.out) HB2.out
    obtain ⟨v0, v1, v2, v3, v4, v5, j0, j1, j2, j3, j4, j5⟩ := st6 z6
    have BB := Lib.hid (blk6 z6 (.int .i64 dd.next) (.slice dd.oA dd.opn.length dd.oc) (.slice dd.cA dd.accs.length dd.cc) (.slice dd.uA dd.auts.length dd.uc) (.slice dd.rA dd.ords.length dd.rc) (.int .i64 dd.ser))
    clear z6
    go_wp2
    rw [HR.out]
    obtain ⟨r0, r1, r2, r3, r4, r5⟩ := arr6f (BB.out)
    obtain ⟨a1_, a2_⟩ := op_fin (b2 := w.heap.size + 2) (HX0.out.trans (HX6.out)) (by omega) (HWD.out) ((HLD.out _ HD.out.lies).mono (fun k hk => by omega))
    refine bodyPost_ret (v := .tuple #[.agg #[.int .i64 dd.next, .slice dd.oA dd.opn.length dd.oc, .slice dd.cA dd.accs.length dd.cc, .slice dd.uA dd.auts.length dd.uc, .slice dd.rA dd.ords.length dd.rc, .int .i64 dd.ser], .int .i64 (er : Int)]) (by simp [results, Tryz.results35, go_sem, r0, r1, r2, r3, r4, r5]) rfl ⟨dd, rfl, rfl, a1_, fun S hS => (HLD.out S hS).mono (fun k hk => by rcases hk with hk | hk; exact .inl hk; exact .inr (by omega)), a2_⟩
  by_cases h1 : m = 1
  · have k0 : ((m : Int) == 0) = false := by simp; omega
    have k1 : ((m : Int) == 1) = true := by simp; omega
    have cK := fun W => key_any ((x.o.seed + 100) % 256) (by omega) W
    have kwr : IntKind.u8.wrap ((x.o.seed : Int) + 100) = (((x.o.seed + 100) % 256 : Nat) : Int) := by rw [IntKind.wrap_u8]; omega
    have hq0 : opQ sigR x.o = ⟨(m : Int) + 1, x.o.acc, 0, sigR.pk ((x.o.seed + 100) % 256), x.o.names, 7, 0, 0, 0⟩ := by rw [opQ_1 x.o (by rw [HM.out]; exact h1), h1]; rfl
    have HM56 : Hid (m ≠ 5 ∧ m ≠ 6) := Lib.hid (by omega)
    have HM1 := Lib.hid h1
    clear h0 h1
    obtain ⟨W1, e1⟩ : ∃ W, W0.alloc (.cells #[.int .i64 ((m : Int) + 1), .int .i64 x.o.acc, .int .i64 0, .int .u64 0, .slice none 0 0, .int .i64 0, .int .i64 x.o.id, .int .u64 0, .int .u64 0] 27) = W := ⟨_, rfl⟩
    try rw [e1]
    have HX1 : Hid (Ext W0 W1) := Lib.hid (by rw [← e1]; exact (Ext.refl W0).alloc _)
    have HBQ : Hid (Blk W1 W0.heap.size 27 #[.int .i64 ((m : Int) + 1), .int .i64 x.o.acc, .int .i64 0, .int .u64 0, .slice none 0 0, .int .i64 0, .int .i64 x.o.id, .int .u64 0, .int .u64 0]) := Lib.hid (by rw [← e1]; exact Blk.new _ _ _)
    clear e1
    obtain ⟨a0, a1, a2, a3, a4, a5, a6⟩ := arr7 (ext_blk HX1.out HB1.out)
    have y1 := HBQ.out.set_ 6 (.int .i64 0)
    have hgn : w.heap.size + 1 ≠ W0.heap.size := by have := HS0.out; omega
    have p6 := HBQ.out.cell 6
    have f6 := HBQ.out.frozen 6
    have p4 := y1.cell 4
    have f4 := y1.frozen 4
    have a4' := ((ext_blk HX1.out HB1.out).far (p := ⟨W0.heap.size, 6, none⟩) hgn (.int .i64 0)).cell 4
    go_upto_region 8 with (fail)
    obtain ⟨W2, e2⟩ : ∃ W, W = (W1.setCell ⟨W0.heap.size, 6, none⟩ (.int .i64 0)).setCell ⟨W0.heap.size, 4, none⟩ (.slice x.nA x.o.names.length x.nc) := ⟨_, rfl⟩
    have HX2 : Hid (Ext W0 W2) := Lib.hid (by rw [e2]; exact (HX1.out.setCell (p := ⟨W0.heap.size, 6, none⟩) (Nat.le_refl _) _).setCell (p := ⟨W0.heap.size, 4, none⟩) (Nat.le_refl _) _)
    have HB4 : Hid (Blk W2 W0.heap.size 27 #[.int .i64 ((m : Int) + 1), .int .i64 x.o.acc, .int .i64 0, .int .u64 0, .slice x.nA x.o.names.length x.nc, .int .i64 0, .int .i64 0, .int .u64 0, .int .u64 0]) := Lib.hid (by rw [e2]; exact y1.set_ 4 _)
    try rw [← e2]
    clear e2 y1 p6 f6 p4 f4 a4' a0 a1 a2 a3 a4 a5 a6
    obtain ⟨a0, a1, a2, a3, a4, a5, a6⟩ := arr7 (ext_blk HX2.out HB1.out)
    go_upto_region 9 with (go_at_call 39; refine (cK _).mono ?_; clear cK a0 a1 a2 a3 a4 a5 a6; rintro e w3 ⟨rfl, x3⟩; have y3 := ext_blk x3 HB4.out; have p3 := y3.cell 3; have f3 := y3.frozen 3)
    obtain ⟨W3, e3⟩ : ∃ W, W = w3.setCell ⟨W0.heap.size, 3, none⟩ (.int .u64 ((sigR.pk ((x.o.seed + 100) % 256) : Nat) : Int)) := ⟨_, rfl⟩
    have HX3 : Hid (Ext W0 W3) := Lib.hid (by rw [e3]; exact (HX2.out.trans x3).setCell (p := ⟨W0.heap.size, 3, none⟩) (Nat.le_refl _) _)
    have y5 : Blk W3 W0.heap.size 27 #[.int .i64 ((m : Int) + 1), .int .i64 x.o.acc, .int .i64 0, .int .u64 ((sigR.pk ((x.o.seed + 100) % 256) : Nat) : Int), .slice x.nA x.o.names.length x.nc, .int .i64 0, .int .i64 0, .int .u64 0, .int .u64 0] := by rw [e3]; exact y3.set_ 3 _
    try rw [← e3]
    clear e3 y3 p3 f3 x3
    have p5 := y5.cell 5
    have f5 := y5.frozen 5
    go_upto_region 20 with (fail)
    obtain ⟨W4, e4⟩ : ∃ W, W = W3.setCell ⟨W0.heap.size, 5, none⟩ (.int .i64 7) := ⟨_, rfl⟩
    have HX4 : Hid (Ext W0 W4) := Lib.hid (by rw [e4]; exact HX3.out.setCell (p := ⟨W0.heap.size, 5, none⟩) (Nat.le_refl _) _)
    have HQ4 : Hid (Blk W4 W0.heap.size 27 #[.int .i64 ((m : Int) + 1), .int .i64 x.o.acc, .int .i64 0, .int .u64 ((sigR.pk ((x.o.seed + 100) % 256) : Nat) : Int), .slice x.nA x.o.names.length x.nc, .int .i64 7, .int .i64 0, .int .u64 0, .int .u64 0]) := Lib.hid (by rw [e4]; exact y5.set_ 5 _)
    try rw [← e4]
    clear e4 y5 p5 f5
    have hm3 : (m : Int) = 1 := by have := HM1.out; omega
    have hqw : QueW W4 W4.heap.size ⟨(m : Int) + 1, x.o.acc, 0, sigR.pk ((x.o.seed + 100) % 256), x.o.names, 7, 0, 0, 0⟩ x.nA x.nc := by
      have hx := HX.out.ext (HX0.out.trans HX4.out)
      exact ⟨wf_small (show -1000 ≤ (m : Int) + 1 by omega) (show (m : Int) + 1 ≤ 1000 by omega), hx.acc, (show wf64 0 from wf_small (by decide) (by decide)), pk_lt _, (show wf64 7 from wf_small (by decide) (by decide)), (show wf64 0 from wf_small (by decide) (by decide)), (show 0 < 18446744073709551616 by decide), (show 0 < 18446744073709551616 by decide), hx.names, hx.nc, (show x.o.names.length ≤ 1099511627776 by have := HXN.out; omega), fun s hs => by have := hx.ns s hs; omega⟩
    clear hm3
    obtain ⟨r, hr⟩ : ∃ r, r = asksF sigR d.fro ⟨(m : Int) + 1, x.o.acc, 0, sigR.pk ((x.o.seed + 100) % 256), x.o.names, 7, 0, 0, 0⟩ x.o.seed now := ⟨_, rfl⟩
    have cQ := cA ⟨(m : Int) + 1, x.o.acc, 0, sigR.pk ((x.o.seed + 100) % 256), x.o.names, 7, 0, 0, 0⟩ x.nA x.nc W4 (HX4.out) (hqw)
    unfold asksPost frontV queV at cQ
    rw [← hr] at cQ
    obtain ⟨rf, qs, rn, er⟩ := r
    simp only at cQ
    have hR0 : opF sigR d.fro x.o now = (rf, er) := by rw [opF_q d.fro x.o now (by rw [HM.out]; exact HM56.out.1) (by rw [HM.out]; exact HM56.out.2), hq0, ← hr]
    obtain ⟨m0, m1, m2, m3, m4, m5⟩ := arr6f (ext_blk (HX4.out) HB0.out)
    obtain ⟨a0, a1, a2, a3, a4, a5, a6⟩ := arr7 (ext_blk (HX4.out) HB1.out)
    obtain ⟨n0, n1, n2, n3, n4, n5, n6, n7, n8⟩ := arr9 (HQ4.out)
    clear hr cA cS cD hq0
    go_upto_region 21 with (go_at_call 40; refine cQ.mono ?_; clear cQ m0 m1 m2 m3 m4 m5 n0 n1 n2 n3 n4 n5 n6 n7 n8 a0 a1 a2 a3 a4 a5 a6; rintro e w5 ⟨dd, rfl, hfd, hwd, hld, hqd, x5⟩)
    obtain ⟨W6, e6⟩ : ∃ W, (w5.alloc (.cells #[.int .i64 dd.next, .slice dd.oA dd.opn.length dd.oc, .slice dd.cA dd.accs.length dd.cc, .slice dd.uA dd.auts.length dd.uc, .slice dd.rA dd.ords.length dd.rc, .int .i64 dd.ser] 43)).alloc (.cells #[.int .i64 qs.kind, .int .i64 qs.acc, .int .i64 qs.nonce, .int .u64 (qs.key : Int), .slice x.nA qs.names.length x.nc, .int .i64 qs.life, .int .i64 qs.id, .int .u64 (qs.e : Int), .int .u64 (qs.s : Int)] 27) = W := ⟨_, rfl⟩
    try rw [e6]
    have x56 : Ext w5 W6 := by rw [← e6]; exact ((Ext.refl _).alloc _).alloc _
    have HX6 : Hid (Ext W0 W6) := Lib.hid (Ext.trans (HX4.out) (x5.trans x56))
    have k6 : Blk W6 w5.heap.size 43 #[.int .i64 dd.next, .slice dd.oA dd.opn.length dd.oc, .slice dd.cA dd.accs.length dd.cc, .slice dd.uA dd.auts.length dd.uc, .slice dd.rA dd.ords.length dd.rc, .int .i64 dd.ser] := by rw [← e6]; exact (Blk.new _ _ _).alloc _
    obtain ⟨m0, m1, m2, m3, m4, m5⟩ := arr6f (k6)
    have HR : Hid (opF sigR d.fro x.o now = (dd.fro, er)) := Lib.hid (by rw [hfd]; exact hR0)
    have HWD := Lib.hid (hwd.ext x56)
    have HLD : Hid (∀ S, DoorL S d → DoorL (fun k => S k ∨ w.heap.size + 3 ≤ k) dd) := Lib.hid fun S hS => (hld S hS).mono fun k hk => by
      have h1 := HS0.out
      have h2 := Ext.size (HX4.out)
      rcases hk with hk | hk
      · exact .inl hk
      · exact .inr (by omega)
    clear e6 hfd hwd hld hqd x5 x56 k6 hR0
    have z6 := ext_blk (HX6.out) HB2.out
    obtain ⟨v0, v1, v2, v3, v4, v5, j0, j1, j2, j3, j4, j5⟩ := st6 z6
    have BB := Lib.hid (blk6 z6 (.int .i64 dd.next) (.slice dd.oA dd.opn.length dd.oc) (.slice dd.cA dd.accs.length dd.cc) (.slice dd.uA dd.auts.length dd.uc) (.slice dd.rA dd.ords.length dd.rc) (.int .i64 dd.ser))
    clear z6
    go_wp2
    rw [HR.out]
    obtain ⟨r0, r1, r2, r3, r4, r5⟩ := arr6f (BB.out)
    obtain ⟨a1_, a2_⟩ := op_fin (b2 := w.heap.size + 2) (HX0.out.trans (HX6.out)) (by omega) (HWD.out) ((HLD.out _ HD.out.lies).mono (fun k hk => by omega))
    refine bodyPost_ret (v := .tuple #[.agg #[.int .i64 dd.next, .slice dd.oA dd.opn.length dd.oc, .slice dd.cA dd.accs.length dd.cc, .slice dd.uA dd.auts.length dd.uc, .slice dd.rA dd.ords.length dd.rc, .int .i64 dd.ser], .int .i64 (er : Int)]) (by simp [results, Tryz.results35, go_sem, r0, r1, r2, r3, r4, r5]) rfl ⟨dd, rfl, rfl, a1_, fun S hS => (HLD.out S hS).mono (fun k hk => by rcases hk with hk | hk; exact .inl hk; exact .inr (by omega)), a2_⟩
  by_cases h5 : m = 5
  · have k0 : ((m : Int) == 0) = false := by simp; omega
    have k1 : ((m : Int) == 1) = false := by simp; omega
    have k5 : ((m : Int) == 5) = true := by simp; omega
    have HMK := Lib.hid h5
    clear h0 h1 h5
    obtain ⟨W1, e1⟩ : ∃ W, W0.alloc (.cells #[.int .i64 ((m : Int) + 1), .int .i64 x.o.acc, .int .i64 0, .int .u64 0, .slice none 0 0, .int .i64 0, .int .i64 x.o.id, .int .u64 0, .int .u64 0] 27) = W := ⟨_, rfl⟩
    try rw [e1]
    have HX1 : Hid (Ext W0 W1) := Lib.hid (by rw [← e1]; exact (Ext.refl W0).alloc _)
    have HBQ : Hid (Blk W1 W0.heap.size 27 #[.int .i64 ((m : Int) + 1), .int .i64 x.o.acc, .int .i64 0, .int .u64 0, .slice none 0 0, .int .i64 0, .int .i64 x.o.id, .int .u64 0, .int .u64 0]) := Lib.hid (by rw [← e1]; exact Blk.new _ _ _)
    clear e1
    obtain ⟨a0, a1, a2, a3, a4, a5, a6⟩ := arr7 (ext_blk HX1.out HB1.out)
    obtain ⟨m0, m1, m2, m3, m4, m5⟩ := arr6f (ext_blk HX1.out HB0.out)
    have cS := cS W1 HX1.out
    obtain ⟨r, hr⟩ : ∃ r, r = sawF d.fro x.o.id x.o.ok now := ⟨_, rfl⟩
    unfold outS frontV at cS
    rw [← hr] at cS
    obtain ⟨rf, er⟩ := r
    simp only at cS
    clear cA cD
    go_upto_region 12 with (go_at_call 26; refine cS.mono ?_; clear cS m0 m1 m2 m3 m4 m5 a0 a1 a2 a3 a4 a5 a6; rintro e w3 ⟨dd, rfl, hfd, hwd, hld, x3⟩)
    obtain ⟨W3, e3⟩ : ∃ W, w3.alloc (.cells #[.int .i64 dd.next, .slice dd.oA dd.opn.length dd.oc, .slice dd.cA dd.accs.length dd.cc, .slice dd.uA dd.auts.length dd.uc, .slice dd.rA dd.ords.length dd.rc, .int .i64 dd.ser] 43) = W := ⟨_, rfl⟩
    try rw [e3]
    have HX3 : Hid (Ext W0 W3) := Lib.hid (HX1.out.trans (by rw [← e3]; exact x3.alloc _))
    have k3 : Blk W3 w3.heap.size 43 #[.int .i64 dd.next, .slice dd.oA dd.opn.length dd.oc, .slice dd.cA dd.accs.length dd.cc, .slice dd.uA dd.auts.length dd.uc, .slice dd.rA dd.ords.length dd.rc, .int .i64 dd.ser] := by rw [← e3]; exact Blk.new _ _ _
    have HWD := Lib.hid (hwd.ext (show Ext w3 W3 by rw [← e3]; exact (Ext.refl _).alloc _))
    have HLD : Hid (∀ S, DoorL S d → DoorL (fun k => S k ∨ w.heap.size + 3 ≤ k) dd) := Lib.hid fun S hS => (hld S hS).mono fun k hk => by
      have h1 := HS0.out
      have h2 := Ext.size HX1.out
      rcases hk with hk | hk
      · exact .inl hk
      · exact .inr (by omega)
    have HFD := Lib.hid hfd
    have HRR := Lib.hid hr
    clear e3 hwd hld x3 hfd hr
    by_cases he : er = 0
    case neg =>
      have HR : Hid (opF sigR d.fro x.o now = (d.fro, er)) := Lib.hid (by rw [opF_5 d.fro x.o now (by rw [HM.out]; exact HMK.out), ← HRR.out, if_pos he])
      have kz := ne_beq he
      clear k3 he
      obtain ⟨m0, m1, m2, m3, m4, m5⟩ := arr6f (ext_blk HX3.out HB0.out)
      have z6 := ext_blk (HX3.out) HB2.out
      obtain ⟨v0, v1, v2, v3, v4, v5, j0, j1, j2, j3, j4, j5⟩ := st6 z6
      have BB := Lib.hid (blk6 z6 (.int .i64 d.next) (.slice d.oA d.opn.length d.oc) (.slice d.cA d.accs.length d.cc) (.slice d.uA d.auts.length d.uc) (.slice d.rA d.ords.length d.rc) (.int .i64 d.ser))
      clear z6
      go_wp2
      rw [HR.out]
      obtain ⟨r0, r1, r2, r3, r4, r5⟩ := arr6f (BB.out)
      obtain ⟨a1_, a2_⟩ := op_fin (b2 := w.heap.size + 2) (HX0.out.trans (HX3.out)) (by omega) (HD.out.ext (HX0.out.trans HX3.out)) (HD.out.lies.mono (fun k hk => by omega))
      refine bodyPost_ret (v := .tuple #[.agg #[.int .i64 d.next, .slice d.oA d.opn.length d.oc, .slice d.cA d.accs.length d.cc, .slice d.uA d.auts.length d.uc, .slice d.rA d.ords.length d.rc, .int .i64 d.ser], .int .i64 (er : Int)]) (by simp [results, Tryz.results35, go_sem, r0, r1, r2, r3, r4, r5]) rfl ⟨d, rfl, rfl, a1_, fun S hS => hS.mono (fun k hk => .inl hk), a2_⟩
    subst he
    have HR : Hid (opF sigR d.fro x.o now = (dd.fro, 0)) := Lib.hid (by rw [opF_5 d.fro x.o now (by rw [HM.out]; exact HMK.out), ← HRR.out, if_neg (by simp), HFD.out])
    obtain ⟨m0, m1, m2, m3, m4, m5⟩ := arr6f (k3)
    clear k3
    have z6 := ext_blk (HX3.out) HB2.out
    obtain ⟨v0, v1, v2, v3, v4, v5, j0, j1, j2, j3, j4, j5⟩ := st6 z6
    have BB := Lib.hid (blk6 z6 (.int .i64 dd.next) (.slice dd.oA dd.opn.length dd.oc) (.slice dd.cA dd.accs.length dd.cc) (.slice dd.uA dd.auts.length dd.uc) (.slice dd.rA dd.ords.length dd.rc) (.int .i64 dd.ser))
    clear z6
    go_wp2
    rw [HR.out]
    obtain ⟨r0, r1, r2, r3, r4, r5⟩ := arr6f (BB.out)
    obtain ⟨a1_, a2_⟩ := op_fin (b2 := w.heap.size + 2) (HX0.out.trans (HX3.out)) (by omega) (HWD.out) ((HLD.out _ HD.out.lies).mono (fun k hk => by omega))
    refine bodyPost_ret (v := .tuple #[.agg #[.int .i64 dd.next, .slice dd.oA dd.opn.length dd.oc, .slice dd.cA dd.accs.length dd.cc, .slice dd.uA dd.auts.length dd.uc, .slice dd.rA dd.ords.length dd.rc, .int .i64 dd.ser], .int .i64 0]) (by simp [results, Tryz.results35, go_sem, r0, r1, r2, r3, r4, r5]) rfl ⟨dd, rfl, rfl, a1_, fun S hS => (HLD.out S hS).mono (fun k hk => by rcases hk with hk | hk; exact .inl hk; exact .inr (by omega)), a2_⟩
  by_cases h6 : m = 6
  · have k0 : ((m : Int) == 0) = false := by simp; omega
    have k1 : ((m : Int) == 1) = false := by simp; omega
    have k5 : ((m : Int) == 5) = false := by simp; omega
    have k6 : ((m : Int) == 6) = true := by simp; omega
    have HMK := Lib.hid h6
    clear h0 h1 h5 h6
    obtain ⟨W1, e1⟩ : ∃ W, W0.alloc (.cells #[.int .i64 ((m : Int) + 1), .int .i64 x.o.acc, .int .i64 0, .int .u64 0, .slice none 0 0, .int .i64 0, .int .i64 x.o.id, .int .u64 0, .int .u64 0] 27) = W := ⟨_, rfl⟩
    try rw [e1]
    have HX1 : Hid (Ext W0 W1) := Lib.hid (by rw [← e1]; exact (Ext.refl W0).alloc _)
    have HBQ : Hid (Blk W1 W0.heap.size 27 #[.int .i64 ((m : Int) + 1), .int .i64 x.o.acc, .int .i64 0, .int .u64 0, .slice none 0 0, .int .i64 0, .int .i64 x.o.id, .int .u64 0, .int .u64 0]) := Lib.hid (by rw [← e1]; exact Blk.new _ _ _)
    clear e1
    obtain ⟨a0, a1, a2, a3, a4, a5, a6⟩ := arr7 (ext_blk HX1.out HB1.out)
    obtain ⟨m0, m1, m2, m3, m4, m5⟩ := arr6f (ext_blk HX1.out HB0.out)
    clear cS
    have cS := cD W1 HX1.out
    obtain ⟨r, hr⟩ : ∃ r, r = donF d.fro x.o.id (d.ser + 1) := ⟨_, rfl⟩
    unfold outS frontV at cS
    rw [← hr] at cS
    obtain ⟨rf, er⟩ := r
    simp only at cS
    clear cA 
    go_upto_region 17 with (go_at_call 30; refine cS.mono ?_; clear cS m0 m1 m2 m3 m4 m5 a0 a1 a2 a3 a4 a5 a6; rintro e w3 ⟨dd, rfl, hfd, hwd, hld, x3⟩)
    obtain ⟨W3, e3⟩ : ∃ W, w3.alloc (.cells #[.int .i64 dd.next, .slice dd.oA dd.opn.length dd.oc, .slice dd.cA dd.accs.length dd.cc, .slice dd.uA dd.auts.length dd.uc, .slice dd.rA dd.ords.length dd.rc, .int .i64 dd.ser] 43) = W := ⟨_, rfl⟩
    try rw [e3]
    have HX3 : Hid (Ext W0 W3) := Lib.hid (HX1.out.trans (by rw [← e3]; exact x3.alloc _))
    have k3 : Blk W3 w3.heap.size 43 #[.int .i64 dd.next, .slice dd.oA dd.opn.length dd.oc, .slice dd.cA dd.accs.length dd.cc, .slice dd.uA dd.auts.length dd.uc, .slice dd.rA dd.ords.length dd.rc, .int .i64 dd.ser] := by rw [← e3]; exact Blk.new _ _ _
    have HWD := Lib.hid (hwd.ext (show Ext w3 W3 by rw [← e3]; exact (Ext.refl _).alloc _))
    have HLD : Hid (∀ S, DoorL S d → DoorL (fun k => S k ∨ w.heap.size + 3 ≤ k) dd) := Lib.hid fun S hS => (hld S hS).mono fun k hk => by
      have h1 := HS0.out
      have h2 := Ext.size HX1.out
      rcases hk with hk | hk
      · exact .inl hk
      · exact .inr (by omega)
    have HFD := Lib.hid hfd
    have HRR := Lib.hid hr
    clear e3 hwd hld x3 hfd hr
    by_cases he : er = 0
    case neg =>
      have HR : Hid (opF sigR d.fro x.o now = (d.fro, er)) := Lib.hid (by rw [opF_6 d.fro x.o now (by rw [HM.out]; exact HMK.out), show d.fro.ser = d.ser from rfl, ← HRR.out, if_pos he])
      have kz := ne_beq he
      clear k3 he
      obtain ⟨m0, m1, m2, m3, m4, m5⟩ := arr6f (ext_blk HX3.out HB0.out)
      have z6 := ext_blk (HX3.out) HB2.out
      obtain ⟨v0, v1, v2, v3, v4, v5, j0, j1, j2, j3, j4, j5⟩ := st6 z6
      have BB := Lib.hid (blk6 z6 (.int .i64 d.next) (.slice d.oA d.opn.length d.oc) (.slice d.cA d.accs.length d.cc) (.slice d.uA d.auts.length d.uc) (.slice d.rA d.ords.length d.rc) (.int .i64 d.ser))
      clear z6
      go_wp2
      rw [HR.out]
      obtain ⟨r0, r1, r2, r3, r4, r5⟩ := arr6f (BB.out)
      obtain ⟨a1_, a2_⟩ := op_fin (b2 := w.heap.size + 2) (HX0.out.trans (HX3.out)) (by omega) (HD.out.ext (HX0.out.trans HX3.out)) (HD.out.lies.mono (fun k hk => by omega))
      refine bodyPost_ret (v := .tuple #[.agg #[.int .i64 d.next, .slice d.oA d.opn.length d.oc, .slice d.cA d.accs.length d.cc, .slice d.uA d.auts.length d.uc, .slice d.rA d.ords.length d.rc, .int .i64 d.ser], .int .i64 (er : Int)]) (by simp [results, Tryz.results35, go_sem, r0, r1, r2, r3, r4, r5]) rfl ⟨d, rfl, rfl, a1_, fun S hS => hS.mono (fun k hk => .inl hk), a2_⟩
    subst he
    have HR : Hid (opF sigR d.fro x.o now = (dd.fro, 0)) := Lib.hid (by rw [opF_6 d.fro x.o now (by rw [HM.out]; exact HMK.out), show d.fro.ser = d.ser from rfl, ← HRR.out, if_neg (by simp), HFD.out])
    obtain ⟨m0, m1, m2, m3, m4, m5⟩ := arr6f (k3)
    clear k3
    have z6 := ext_blk (HX3.out) HB2.out
    obtain ⟨v0, v1, v2, v3, v4, v5, j0, j1, j2, j3, j4, j5⟩ := st6 z6
    have BB := Lib.hid (blk6 z6 (.int .i64 dd.next) (.slice dd.oA dd.opn.length dd.oc) (.slice dd.cA dd.accs.length dd.cc) (.slice dd.uA dd.auts.length dd.uc) (.slice dd.rA dd.ords.length dd.rc) (.int .i64 dd.ser))
    clear z6
    go_wp2
    rw [HR.out]
    obtain ⟨r0, r1, r2, r3, r4, r5⟩ := arr6f (BB.out)
    obtain ⟨a1_, a2_⟩ := op_fin (b2 := w.heap.size + 2) (HX0.out.trans (HX3.out)) (by omega) (HWD.out) ((HLD.out _ HD.out.lies).mono (fun k hk => by omega))
    refine bodyPost_ret (v := .tuple #[.agg #[.int .i64 dd.next, .slice dd.oA dd.opn.length dd.oc, .slice dd.cA dd.accs.length dd.cc, .slice dd.uA dd.auts.length dd.uc, .slice dd.rA dd.ords.length dd.rc, .int .i64 dd.ser], .int .i64 0]) (by simp [results, Tryz.results35, go_sem, r0, r1, r2, r3, r4, r5]) rfl ⟨dd, rfl, rfl, a1_, fun S hS => (HLD.out S hS).mono (fun k hk => by rcases hk with hk | hk; exact .inl hk; exact .inr (by omega)), a2_⟩
  have k0 : ((m : Int) == 0) = false := by simp; omega
  have k1 : ((m : Int) == 1) = false := by simp; omega
  have k5 : ((m : Int) == 5) = false := by simp; omega
  have k6 : ((m : Int) == 6) = false := by simp; omega
  have hq0 : opQ sigR x.o = ⟨(m : Int) + 1, x.o.acc, 0, 0, [], 0, x.o.id, 0, 0⟩ := by rw [opQ_2 x.o (by rw [HM.out]; exact h0) (by rw [HM.out]; exact h1), HM.out]
  have HM56 : Hid (m ≠ 5 ∧ m ≠ 6) := Lib.hid ⟨h5, h6⟩
  clear h0 h1 h5 h6
  obtain ⟨W1, e1⟩ : ∃ W, W0.alloc (.cells #[.int .i64 ((m : Int) + 1), .int .i64 x.o.acc, .int .i64 0, .int .u64 0, .slice none 0 0, .int .i64 0, .int .i64 x.o.id, .int .u64 0, .int .u64 0] 27) = W := ⟨_, rfl⟩
  try rw [e1]
  have HX1 : Hid (Ext W0 W1) := Lib.hid (by rw [← e1]; exact (Ext.refl W0).alloc _)
  have HBQ : Hid (Blk W1 W0.heap.size 27 #[.int .i64 ((m : Int) + 1), .int .i64 x.o.acc, .int .i64 0, .int .u64 0, .slice none 0 0, .int .i64 0, .int .i64 x.o.id, .int .u64 0, .int .u64 0]) := Lib.hid (by rw [← e1]; exact Blk.new _ _ _)
  clear e1
  obtain ⟨a0, a1, a2, a3, a4, a5, a6⟩ := arr7 (ext_blk HX1.out HB1.out)
  have hm3 := HM7.out
  have hqw : QueW W1 W1.heap.size ⟨(m : Int) + 1, x.o.acc, 0, 0, [], 0, x.o.id, 0, 0⟩ none 0 :=
    ⟨wf_small (show -1000 ≤ (m : Int) + 1 by omega) (show (m : Int) + 1 ≤ 1000 by omega), HX.out.acc, (show wf64 0 from wf_small (by decide) (by decide)), (show 0 < 18446744073709551616 by decide), (show wf64 0 from wf_small (by decide) (by decide)), HX.out.id, (show 0 < 18446744073709551616 by decide), (show 0 < 18446744073709551616 by decide), Reads.none_, Nat.le_refl _, (show 0 ≤ 1099511627776 by decide), by simp⟩
  clear hm3
  obtain ⟨r, hr⟩ : ∃ r, r = asksF sigR d.fro ⟨(m : Int) + 1, x.o.acc, 0, 0, [], 0, x.o.id, 0, 0⟩ x.o.seed now := ⟨_, rfl⟩
  have cQ := cA ⟨(m : Int) + 1, x.o.acc, 0, 0, [], 0, x.o.id, 0, 0⟩ none 0 W1 (HX1.out) (hqw)
  unfold asksPost frontV queV at cQ
  rw [← hr] at cQ
  obtain ⟨rf, qs, rn, er⟩ := r
  simp only at cQ
  have hR0 : opF sigR d.fro x.o now = (rf, er) := by rw [opF_q d.fro x.o now (by rw [HM.out]; exact HM56.out.1) (by rw [HM.out]; exact HM56.out.2), hq0, ← hr]
  obtain ⟨m0, m1, m2, m3, m4, m5⟩ := arr6f (ext_blk (HX1.out) HB0.out)
  obtain ⟨a0, a1, a2, a3, a4, a5, a6⟩ := arr7 (ext_blk (HX1.out) HB1.out)
  obtain ⟨n0, n1, n2, n3, n4, n5, n6, n7, n8⟩ := arr9 (HBQ.out)
  clear hr cA cS cD hq0
  go_upto_region 21 with (go_at_call 40; refine cQ.mono ?_; clear cQ m0 m1 m2 m3 m4 m5 n0 n1 n2 n3 n4 n5 n6 n7 n8 a0 a1 a2 a3 a4 a5 a6; rintro e w5 ⟨dd, rfl, hfd, hwd, hld, hqd, x5⟩)
  obtain ⟨W6, e6⟩ : ∃ W, (w5.alloc (.cells #[.int .i64 dd.next, .slice dd.oA dd.opn.length dd.oc, .slice dd.cA dd.accs.length dd.cc, .slice dd.uA dd.auts.length dd.uc, .slice dd.rA dd.ords.length dd.rc, .int .i64 dd.ser] 43)).alloc (.cells #[.int .i64 qs.kind, .int .i64 qs.acc, .int .i64 qs.nonce, .int .u64 (qs.key : Int), .slice none qs.names.length 0, .int .i64 qs.life, .int .i64 qs.id, .int .u64 (qs.e : Int), .int .u64 (qs.s : Int)] 27) = W := ⟨_, rfl⟩
  try rw [e6]
  have x56 : Ext w5 W6 := by rw [← e6]; exact ((Ext.refl _).alloc _).alloc _
  have HX6 : Hid (Ext W0 W6) := Lib.hid (Ext.trans (HX1.out) (x5.trans x56))
  have k6 : Blk W6 w5.heap.size 43 #[.int .i64 dd.next, .slice dd.oA dd.opn.length dd.oc, .slice dd.cA dd.accs.length dd.cc, .slice dd.uA dd.auts.length dd.uc, .slice dd.rA dd.ords.length dd.rc, .int .i64 dd.ser] := by rw [← e6]; exact (Blk.new _ _ _).alloc _
  obtain ⟨m0, m1, m2, m3, m4, m5⟩ := arr6f (k6)
  have HR : Hid (opF sigR d.fro x.o now = (dd.fro, er)) := Lib.hid (by rw [hfd]; exact hR0)
  have HWD := Lib.hid (hwd.ext x56)
  have HLD : Hid (∀ S, DoorL S d → DoorL (fun k => S k ∨ w.heap.size + 3 ≤ k) dd) := Lib.hid fun S hS => (hld S hS).mono fun k hk => by
    have h1 := HS0.out
    have h2 := Ext.size (HX1.out)
    rcases hk with hk | hk
    · exact .inl hk
    · exact .inr (by omega)
  clear e6 hfd hwd hld hqd x5 x56 k6 hR0
  have z6 := ext_blk (HX6.out) HB2.out
  obtain ⟨v0, v1, v2, v3, v4, v5, j0, j1, j2, j3, j4, j5⟩ := st6 z6
  have BB := Lib.hid (blk6 z6 (.int .i64 dd.next) (.slice dd.oA dd.opn.length dd.oc) (.slice dd.cA dd.accs.length dd.cc) (.slice dd.uA dd.auts.length dd.uc) (.slice dd.rA dd.ords.length dd.rc) (.int .i64 dd.ser))
  clear z6
  go_wp2
  rw [HR.out]
  obtain ⟨r0, r1, r2, r3, r4, r5⟩ := arr6f (BB.out)
  obtain ⟨a1_, a2_⟩ := op_fin (b2 := w.heap.size + 2) (HX0.out.trans (HX6.out)) (by omega) (HWD.out) ((HLD.out _ HD.out.lies).mono (fun k hk => by omega))
  refine bodyPost_ret (v := .tuple #[.agg #[.int .i64 dd.next, .slice dd.oA dd.opn.length dd.oc, .slice dd.cA dd.accs.length dd.cc, .slice dd.uA dd.auts.length dd.uc, .slice dd.rA dd.ords.length dd.rc, .int .i64 dd.ser], .int .i64 (er : Int)]) (by simp [results, Tryz.results35, go_sem, r0, r1, r2, r3, r4, r5]) rfl ⟨dd, rfl, rfl, a1_, fun S hS => (HLD.out S hS).mono (fun k hk => by rcases hk with hk | hk; exact .inl hk; exact .inr (by omega)), a2_⟩
end Go.Proofs.YtbhdmfijdhcehaaGreatDoor
