/- Parts of the proofs, put together: OrLaw1. -/
import Derived.Test.YtbhdmfijdhcehaaGreatDoorO21
/- OrderOnce, walked: no request is done twice. -/
namespace Go.Proofs.YtbhdmfijdhcehaaGreatDoor
set_option linter.unusedVariables false
set_option linter.unusedSimpArgs false
set_option linter.unusedSimpArgs false
open Go.RowKit Go.Shelf Go.Maps

set_option maxRecDepth 100000 in
set_option maxHeartbeats 16000000 in
theorem walk_OrderOnce (d : DoorX) (q : QueR) (A : Option Addr) (c : Nat) (now later : Int) (hnow : (Lit.int .i64 now).wf = true) (hlater : (Lit.int .u8 later).wf = true) (w : World) (hd : DoorI w d) (hq : QueI w q A c) :
    Calls Tryz.prog 7 #[frontV d, queV q A c, .int .i64 now, .int .u8 later] w fun e w' => e = .returned (.bool true) ∧ Ext w w' := by
  obtain ⟨W0, e0, b0, b1, x0, s0⟩ := startP w #[.int .i64 d.next, .slice d.oA d.opn.length d.oc, .slice d.cA d.accs.length d.cc, .slice d.uA d.auts.length d.uc, .slice d.rA d.ords.length d.rc, .int .i64 d.ser] #[.int .i64 q.kind, .int .i64 q.acc, .int .i64 q.nonce, .int .u64 (q.key : Int), .slice A q.names.length c, .int .i64 q.life, .int .i64 q.id, .int .u64 (q.e : Int), .int .u64 (q.s : Int)] 43 27
  have c0 := fun W => live_any W
  have c1 := fun W (x : Ext W0 W) => few22_any d q A c W (hd.ext (x0.trans x)) (hq.ext (x0.trans x))
  have HD := Lib.hid hd
  have HQ := Lib.hid hq
  have HB0 := Lib.hid b0
  have HB1 := Lib.hid b1
  have HX0 := Lib.hid x0
  have HNOW := Lib.hid hnow
  have HLAT := Lib.hid hlater
  have hK0 : Hid (∀ W, Ext W0 W → _) := Lib.hid fun W x => arr6f (ext_blk x HB0.out)
  have hK1 : Hid (∀ W, Ext W0 W → _) := Lib.hid fun W x => arr9 (ext_blk x HB1.out)
  unfold frontV queV at c1 ⊢
  clear b0 b1 x0 s0 hd hq hnow hlater
  go_enter Tryz.func7, Tryz.ntmps7
  go_upto_region 1 with (fail)
  try rw [e0]
  clear e0
  by_cases hfew : fewP d.fro ∧ fewQ q
  case neg =>
    rw [decide_eq_false hfew] at c1
    clear hfew
    go_wp2_with (first
      | (go_at_call 12; refine (c0 _).mono ?_; clear c0; rintro e w1 ⟨rfl, x1⟩; obtain ⟨m0, m1, m2, m3, m4, m5⟩ := arr6f (ext_blk x1 HB0.out); obtain ⟨n0, n1, n2, n3, n4, n5, n6, n7, n8⟩ := arr9 (ext_blk x1 HB1.out))
      | (go_at_call 17; refine (c1 _ x1).mono ?_; clear c1; rintro e w2 ⟨rfl, x2⟩))
    go_ret
    exact ⟨rfl, HX0.out.trans (x1.trans x2)⟩
  rw [decide_eq_true hfew] at c1
  have HDW := Lib.hid (HD.out.door hfew.1)
  have HQW := Lib.hid (HQ.out.que hfew.2)
  obtain ⟨z1, z2, z3, z4, z5, z6⟩ := hfew.1
  have hl5 : d.auts.length ≤ 60 := z5
  have hl4 : d.accs.length ≤ 12 := z4
  have hl6 : d.ords.length ≤ 30 := by rw [dfro_ords, List.length_map] at z6; exact z6
  have c2 := fun W (x : Ext W0 W) => oDo_any d q A c now W (HDW.out.ext (HX0.out.trans x)) (HQW.out.ext (HX0.out.trans x)) (by omega) (by omega) (by omega)
  have HL : Hid (d.auts.length ≤ 60 ∧ d.accs.length ≤ 12 ∧ d.ords.length ≤ 30) := Lib.hid ⟨hl5, hl4, hl6⟩
  clear hfew z1 z2 z3 z4 z5 z6 hl5 hl4 hl6
  obtain ⟨E, hE⟩ : ∃ E, (doF checkN d.fro q now).2.2 = E := ⟨_, rfl⟩
  obtain ⟨nn, hnn⟩ : ∃ E, (doF checkN d.fro q now).2.1 = E := ⟨_, rfl⟩
  unfold outD at c2
  rw [hE, hnn] at c2
  unfold frontV queV at c2
  have HE := Lib.hid hE
  have HNN := Lib.hid hnn
  clear hE hnn
  go_upto_region 5 with (first
      | (go_at_call 12; refine (c0 _).mono ?_; clear c0; rintro e w1 ⟨rfl, x1⟩; obtain ⟨m0, m1, m2, m3, m4, m5⟩ := arr6f (ext_blk x1 HB0.out); obtain ⟨n0, n1, n2, n3, n4, n5, n6, n7, n8⟩ := arr9 (ext_blk x1 HB1.out))
      | (go_at_call 17; refine (c1 _ x1).mono ?_; clear c1 m0 m1 m2 m3 m4 m5 n0 n1 n2 n3 n4 n5 n6 n7 n8; rintro e w2 ⟨rfl, x2⟩))
  have HX2 := Lib.hid (x1.trans x2)
  have c2 := c2 _ HX2.out
  obtain ⟨m0, m1, m2, m3, m4, m5⟩ := arr6f (ext_blk HX2.out HB0.out)
  obtain ⟨n0, n1, n2, n3, n4, n5, n6, n7, n8⟩ := arr9 (ext_blk HX2.out HB1.out)
  clear x1 x2
  go_upto_region 6 with (go_at_call 18; refine c2.mono ?_; clear c2 m0 m1 m2 m3 m4 m5 n0 n1 n2 n3 n4 n5 n6 n7 n8; rintro e w3 ⟨d3, rfl, hf3, hw3, hl3, x3⟩)
  obtain ⟨W3, e3⟩ : ∃ W, w3.alloc (.cells #[.int .i64 d3.next, .slice d3.oA d3.opn.length d3.oc, .slice d3.cA d3.accs.length d3.cc, .slice d3.uA d3.auts.length d3.uc, .slice d3.rA d3.ords.length d3.rc, .int .i64 d3.ser] 43) = W := ⟨_, rfl⟩
  try rw [e3]
  have HX3 : Hid (Ext W0 W3) := Lib.hid (HX2.out.trans (by rw [← e3]; exact x3.alloc _))
  have HB3 : Hid (Blk W3 w3.heap.size 43 #[.int .i64 d3.next, .slice d3.oA d3.opn.length d3.oc, .slice d3.cA d3.accs.length d3.cc, .slice d3.uA d3.auts.length d3.uc, .slice d3.rA d3.ords.length d3.rc, .int .i64 d3.ser]) := Lib.hid (by rw [← e3]; exact Blk.new _ _ _)
  have HW3 : Hid (DoorW W3 W3.heap.size d3) := Lib.hid (hw3.ext (by rw [← e3]; exact (Ext.refl _).alloc _))
  have HF3 := Lib.hid hf3
  clear e3 hf3 hw3 hl3 x3
  obtain ⟨m0, m1, m2, m3, m4, m5⟩ := arr6f (HB3.out)
  by_cases h0 : E = 0
  case neg =>
    have hb := do_bad checkN d.fro q now (by rw [HE.out]; exact h0)
    have hz : d3.fro = froZ := by rw [HF3.out, hb]; rfl
    have hn0 : nn = 0 := by rw [← HNN.out, hb]; rfl
    have g1 : d3.accs.length = 0 := by rw [← dfro_accs, hz]; rfl
    have g2 : d3.auts.length = 0 := by rw [← dfro_auts, hz]; rfl
    have g3 : d3.ords.length = 0 := by have := congrArg (fun f : FroR => f.ords.length) hz; rw [dfro_ords, List.length_map] at this; exact this
    have k0 := ne_beq h0
    rw [g1] at m2
    rw [g2] at m3
    rw [g3] at m4
    clear hb hz h0 g1 g2 g3
    subst hn0
    go_wp2
    go_ret
    first | exact ⟨rfl, HX0.out.trans HX3.out⟩ | exact ⟨by rfl, HX0.out.trans HX3.out⟩
  subst h0
  by_cases hbig : (1099511627476 : Int) < now
  · have k1 : decide ((1099511627476 : Int) < now) = true := decide_eq_true hbig
    clear hbig
    go_wp2
    go_ret
    exact ⟨rfl, HX0.out.trans HX3.out⟩
  have k1 : decide ((1099511627476 : Int) < now) = false := decide_eq_false hbig
  obtain ⟨lt, rfl, hlt⟩ : ∃ n : Nat, later = (n : Int) ∧ n < 256 := by
    obtain ⟨h1, h2⟩ := byte_of_wf HLAT.out
    exact ⟨later.toNat, h1, h2⟩
  obtain ⟨hc0, hb0, hnp, hft, hu, hk, hst⟩ := do_steps HE.out
  have hnum : numP (now + lt) := ⟨by have := hnp.1; omega, by omega⟩
  have hag := do_again ck_in HE.out hnum
  rw [← HF3.out] at hag
  have hgr := do_grow checkN d.fro q now
  rw [← HF3.out] at hgr
  have hg1 : d3.auts.length ≤ d.auts.length + 8 := hgr.aut
  have hg2 : d3.accs.length ≤ d.accs.length + 1 := hgr.acc
  have hg3 : d3.ords.length ≤ d.ords.length + 1 := by have := hgr.ord; rw [dfro_ords, dfro_ords, List.length_map, List.length_map] at this; exact this
  have hll := HL.out
  have c3 := oDo_any d3 q A c (now + lt) W3 HW3.out (HQW.out.ext (HX0.out.trans HX3.out)) (by omega) (by omega) (by omega)
  rw [hag] at c3
  unfold outD frontV queV at c3
  have hnn0 : (0 : Int) ≤ nn := by rw [← HNN.out]; exact do_num HE.out
  have kw : IntKind.i64.wrap (now + (lt : Int)) = now + (lt : Int) := by rw [IntKind.wrap_i64]; have := hnp.1; omega
  have kd : decide ((0 : Int) ≤ nn) = true := decide_eq_true hnn0
  have kw2 : IntKind.i64.wrap (lt : Int) = (lt : Int) := by rw [IntKind.wrap_i64]; omega
  obtain ⟨n0, n1, n2, n3, n4, n5, n6, n7, n8⟩ := arr9 (ext_blk HX3.out HB1.out)
  clear hbig hc0 hb0 hnp hft hu hk hst hnum hag hgr hg1 hg2 hg3 hll hnn0 hlt
  go_wp2_with (go_at_call 18; refine c3.mono ?_; clear c3 m0 m1 m2 m3 m4 m5 n0 n1 n2 n3 n4 n5 n6 n7 n8; rintro e w4 ⟨d4, rfl, hf4, hw4, hl4, x4⟩)
  go_ret
  first | exact ⟨rfl, HX0.out.trans (HX3.out.trans (x4.alloc _))⟩ | exact ⟨by rfl, HX0.out.trans (HX3.out.trans (x4.alloc _))⟩
end Go.Proofs.YtbhdmfijdhcehaaGreatDoor
