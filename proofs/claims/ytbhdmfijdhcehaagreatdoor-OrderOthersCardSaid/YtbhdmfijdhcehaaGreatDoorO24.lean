/- Parts of the proofs, put together: OrLaw2. -/
import Derived.Test.YtbhdmfijdhcehaaGreatDoorO21
/- OrderOthers, walked: a request leaves what is another's. -/
namespace Go.Proofs.YtbhdmfijdhcehaaGreatDoor
set_option linter.unusedVariables false
set_option linter.unusedSimpArgs false
set_option linter.unusedSimpArgs false
open Go.RowKit Go.Shelf Go.Maps

set_option maxRecDepth 100000 in
set_option maxHeartbeats 16000000 in
theorem walk_OrderOthers (d : DoorX) (q : QueR) (A : Option Addr) (c : Nat) (now : Int) (hnow : (Lit.int .i64 now).wf = true) (w : World) (hd : DoorI w d) (hq : QueI w q A c) :
    Calls Tryz.prog 8 #[frontV d, queV q A c, .int .i64 now] w fun e w' => e = .returned (.bool true) ∧ Ext w w' := by
  obtain ⟨W0, e0, b0, b1, x0, s0⟩ := startP w #[.int .i64 d.next, .slice d.oA d.opn.length d.oc, .slice d.cA d.accs.length d.cc, .slice d.uA d.auts.length d.uc, .slice d.rA d.ords.length d.rc, .int .i64 d.ser] #[.int .i64 q.kind, .int .i64 q.acc, .int .i64 q.nonce, .int .u64 (q.key : Int), .slice A q.names.length c, .int .i64 q.life, .int .i64 q.id, .int .u64 (q.e : Int), .int .u64 (q.s : Int)] 43 27
  have c0 := fun W => live_any W
  have c1 := fun W (x : Ext W0 W) => few22_any d q A c W (hd.ext (x0.trans x)) (hq.ext (x0.trans x))
  have HD := Lib.hid hd
  have HQ := Lib.hid hq
  have HB0 := Lib.hid b0
  have HB1 := Lib.hid b1
  have HX0 := Lib.hid x0
  have HNOW := Lib.hid hnow
  have hK0 : Hid (∀ W, Ext W0 W → _) := Lib.hid fun W x => arr6f (ext_blk x HB0.out)
  have hK1 : Hid (∀ W, Ext W0 W → _) := Lib.hid fun W x => arr9 (ext_blk x HB1.out)
  unfold frontV queV at c1 ⊢
  clear b0 b1 x0 s0 hd hq hnow
  go_enter Tryz.func8, Tryz.ntmps8
  go_upto_region 1 with (fail)
  try rw [e0]
  clear e0
  by_cases hfew : fewP d.fro ∧ fewQ q
  case neg =>
    rw [decide_eq_false hfew] at c1
    clear hfew
    go_wp2_with (first
      | (go_at_call 12; refine (c0 _).mono ?_; clear c0; rintro e w1 ⟨rfl, x1⟩; obtain ⟨m0, m1, m2, m3, m4, m5⟩ := arr6f (ext_blk x1 HB0.out); obtain ⟨n0, n1, n2, n3, n4, n5, n6, n7, n8⟩ := arr9 (ext_blk x1 HB1.out))
      | (go_at_call 17; refine (c1 _ x1).mono ?_; clear c1; rintro e w2 ⟨rfl, x2⟩))
    go_ret
    exact ⟨rfl, HX0.out.trans (x1.trans x2)⟩
  rw [decide_eq_true hfew] at c1
  have HDW := Lib.hid (HD.out.door hfew.1)
  have HQW := Lib.hid (HQ.out.que hfew.2)
  obtain ⟨z1, z2, z3, z4, z5, z6⟩ := hfew.1
  have hl5 : d.auts.length ≤ 60 := z5
  have hl4 : d.accs.length ≤ 12 := z4
  have hl6 : d.ords.length ≤ 30 := by rw [dfro_ords, List.length_map] at z6; exact z6
  have c2 := fun W (x : Ext W0 W) => oDo_any d q A c now W (HDW.out.ext (HX0.out.trans x)) (HQW.out.ext (HX0.out.trans x)) (by omega) (by omega) (by omega)
  have HL : Hid (d.auts.length ≤ 60 ∧ d.accs.length ≤ 12 ∧ d.ords.length ≤ 30) := Lib.hid ⟨hl5, hl4, hl6⟩
  clear hfew z1 z2 z3 z4 z5 z6 hl5 hl4 hl6
  obtain ⟨E, hE⟩ : ∃ E, (doF checkN d.fro q now).2.2 = E := ⟨_, rfl⟩
  obtain ⟨nn, hnn⟩ : ∃ E, (doF checkN d.fro q now).2.1 = E := ⟨_, rfl⟩
  unfold outD at c2
  rw [hE, hnn] at c2
  unfold frontV queV at c2
  have HE := Lib.hid hE
  have HNN := Lib.hid hnn
  clear hE hnn
  go_upto_region 5 with (first
      | (go_at_call 12; refine (c0 _).mono ?_; clear c0; rintro e w1 ⟨rfl, x1⟩; obtain ⟨m0, m1, m2, m3, m4, m5⟩ := arr6f (ext_blk x1 HB0.out); obtain ⟨n0, n1, n2, n3, n4, n5, n6, n7, n8⟩ := arr9 (ext_blk x1 HB1.out))
      | (go_at_call 17; refine (c1 _ x1).mono ?_; clear c1 m0 m1 m2 m3 m4 m5 n0 n1 n2 n3 n4 n5 n6 n7 n8; rintro e w2 ⟨rfl, x2⟩))
  have HX2 := Lib.hid (x1.trans x2)
  have c2 := c2 _ HX2.out
  obtain ⟨m0, m1, m2, m3, m4, m5⟩ := arr6f (ext_blk HX2.out HB0.out)
  obtain ⟨n0, n1, n2, n3, n4, n5, n6, n7, n8⟩ := arr9 (ext_blk HX2.out HB1.out)
  clear x1 x2
  go_upto_region 6 with (go_at_call 18; refine c2.mono ?_; clear c2 m0 m1 m2 m3 m4 m5 n0 n1 n2 n3 n4 n5 n6 n7 n8; rintro e w3 ⟨d3, rfl, hf3, hw3, hl3, x3⟩)
  obtain ⟨W3, e3⟩ : ∃ W, w3.alloc (.cells #[.int .i64 d3.next, .slice d3.oA d3.opn.length d3.oc, .slice d3.cA d3.accs.length d3.cc, .slice d3.uA d3.auts.length d3.uc, .slice d3.rA d3.ords.length d3.rc, .int .i64 d3.ser] 43) = W := ⟨_, rfl⟩
  try rw [e3]
  have HX3 : Hid (Ext W0 W3) := Lib.hid (HX2.out.trans (by rw [← e3]; exact x3.alloc _))
  have HB3 : Hid (Blk W3 w3.heap.size 43 #[.int .i64 d3.next, .slice d3.oA d3.opn.length d3.oc, .slice d3.cA d3.accs.length d3.cc, .slice d3.uA d3.auts.length d3.uc, .slice d3.rA d3.ords.length d3.rc, .int .i64 d3.ser]) := Lib.hid (by rw [← e3]; exact Blk.new _ _ _)
  have HW3 : Hid (DoorW W3 W3.heap.size d3) := Lib.hid (hw3.ext (by rw [← e3]; exact (Ext.refl _).alloc _))
  have HF3 := Lib.hid hf3
  clear e3 hf3 hw3 hl3 x3
  obtain ⟨m0, m1, m2, m3, m4, m5⟩ := arr6f (HB3.out)
  by_cases h0 : E = 0
  case neg =>
    have hb := do_bad checkN d.fro q now (by rw [HE.out]; exact h0)
    have hz : d3.fro = froZ := by rw [HF3.out, hb]; rfl
    have hn0 : nn = 0 := by rw [← HNN.out, hb]; rfl
    have g1 : d3.accs.length = 0 := by rw [← dfro_accs, hz]; rfl
    have g2 : d3.auts.length = 0 := by rw [← dfro_auts, hz]; rfl
    have g3 : d3.ords.length = 0 := by have := congrArg (fun f : FroR => f.ords.length) hz; rw [dfro_ords, List.length_map] at this; exact this
    have k0 := ne_beq h0
    rw [g1] at m2
    rw [g2] at m3
    rw [g3] at m4
    clear hb hz h0 g1 g2 g3
    subst hn0
    go_wp2
    go_ret
    first | exact ⟨rfl, HX0.out.trans HX3.out⟩ | exact ⟨by rfl, HX0.out.trans HX3.out⟩
  subst h0
  have hst := do_left HE.out
  rw [← HF3.out] at hst
  have hgr := do_grow checkN d.fro q now
  rw [← HF3.out] at hgr
  have hg1 : d3.auts.length ≤ d.auts.length + 8 := hgr.aut
  have hg2 : d3.accs.length ≤ d.accs.length + 1 := hgr.acc
  have hg3 : d3.ords.length ≤ d.ords.length + 1 := by have := hgr.ord; rw [dfro_ords, dfro_ords, List.length_map, List.length_map] at this; exact this
  have hll := HL.out
  have hpre : d.accs <+: d3.accs := hst.accs
  have hp1 : d.accs.length ≤ d3.accs.length := hpre.length_le
  have hp2 : d.auts.length ≤ d3.auts.length := hst.autL
  have hp3 : d.ords.length ≤ d3.ords.length := by have : d.fro.ords.length ≤ d3.fro.ords.length := hst.ordL; rw [dfro_ords, dfro_ords, List.length_map, List.length_map] at this; exact this
  have hse : d3.ser = d.ser := hst.ser
  have k1 : decide (d3.accs.length < d.accs.length) = false := decide_eq_false (by omega)
  have k2 : decide (d3.auts.length < d.auts.length) = false := decide_eq_false (by omega)
  have k3 : decide (d3.ords.length < d.ords.length) = false := decide_eq_false (by omega)
  have k4 : (d3.ser != d.ser) = false := by simp [hse]
  have HST := Lib.hid hst
  have HPRE := Lib.hid hpre
  have HG : Hid (d.auts.length ≤ d3.auts.length ∧ d.ords.length ≤ d3.ords.length ∧ d3.accs.length ≤ 13 ∧ d3.auts.length ≤ 68 ∧ d3.ords.length ≤ 31 ∧ d.accs.length ≤ d3.accs.length) := Lib.hid ⟨hp2, hp3, by omega, by omega, by omega, hp1⟩
  clear hst hgr hg1 hg2 hg3 hll hpre hp1 hp2 hp3 hse
  obtain ⟨p0, p1, p2, p3, p4, p5⟩ := arr6f (ext_blk HX3.out HB0.out)
  go_wp2
  clear k1 k2 k3 k4
  go_loopg [10] d.accs.length (fun g s10 wr => ∃ j : Nat, j + g = d.accs.length ∧ s10 = .int .i64 j ∧ Ext W3 wr)
  case atStart => exact ⟨0, by omega, rfl, Ext.refl W3⟩
  case round =>
    obtain ⟨j, hj, rfl, hx⟩ := hrel
    have XW := Lib.hid hx
    obtain ⟨m0, m1, m2, m3, m4, m5⟩ := arr6f (ext_blk (HX3.out.trans XW.out) HB0.out)
    obtain ⟨n0, n1, n2, n3, n4, n5⟩ := arr6f (ext_blk XW.out HB3.out)
    clear p0 p1 p2 p3 p4 p5
    by_cases h : j < d.accs.length
    · obtain ⟨s, hs⟩ : ∃ s, d.accs[j]? = some s := ⟨_, List.getElem?_eq_getElem h⟩
      have ht := pre_at HPRE.out hs
      obtain ⟨ad, hA, hlA, q0, q1⟩ := reads_acc (HDW.out.ext (HX0.out.trans (HX3.out.trans XW.out))).acc hs
      obtain ⟨bd, hB, hlB, r0, r1⟩ := reads_acc (HW3.out.ext XW.out).acc ht
      rw [hA] at m2
      rw [hB] at n2
      have hjb : (j : Int) ≤ 1099511627776 := by have := HG.out; have := HL.out; omega
      have hjd : (j : Int) < (d.accs.length : Int) := by omega
      have hjf : (j : Int) < (d3.accs.length : Int) := by have := HG.out; omega
      have HJ := Lib.hid hj
      have hXd := Lib.hid hx.drew
      have m2' := fun n : Nat => show (wr.drewN n).cell? _ = _ from m2
      have n2' := fun n : Nat => show (wr.drewN n).cell? _ = _ from n2
      have q0' := fun n : Nat => show (wr.drewN n).cell? _ = _ from q0
      have q1' := fun n : Nat => show (wr.drewN n).cell? _ = _ from q1
      have r0' := fun n : Nat => show (wr.drewN n).cell? _ = _ from r0
      have r1' := fun n : Nat => show (wr.drewN n).cell? _ = _ from r1
      have hse := fun w : World => eqAcc s s w
      rw [decide_eq_true (rfl : s = s)] at hse
      clear hx hj hs ht hA hB hlA hlB
      go_wp2
      go_region
      all_goals go_wp2
      have hj := HJ.out
      all_goals go_roundg (gk - 1)
      case measure => omega
      case rel => exact ⟨j + 1, by omega, int_congr (by omega), hXd.out⟩
    · obtain rfl : j = d.accs.length := by omega
      obtain ⟨W4, hW4⟩ : ∃ W, W = wr := ⟨_, rfl⟩
      rw [← hW4] at XW m0 m1 m2 m3 m4 m5 n0 n1 n2 n3 n4 n5 ⊢
      have X4 := XW
      clear hx hj hW4 h XW
      go_wp2
      go_loopg [11] d3.auts.length (fun g s11 wr => ∃ j : Nat, j + g = d3.auts.length ∧ s11 = .int .i64 j ∧ Ext W4 wr)
      case atStart => exact ⟨0, by omega, rfl, Ext.refl W4⟩
      case round =>
        obtain ⟨j, hj, rfl, hx⟩ := hrel
        have XW := Lib.hid (X4.out.trans hx)
        clear m0 m1 m2 m3 m4 m5 n0 n1 n2 n3 n4 n5
        obtain ⟨m0, m1, m2, m3, m4, m5⟩ := arr6f (ext_blk (HX3.out.trans XW.out) HB0.out)
        obtain ⟨n0, n1, n2, n3, n4, n5⟩ := arr6f (ext_blk XW.out HB3.out)
        obtain ⟨o0, o1, o2, o3, o4, o5, o6, o7, o8⟩ := arr9 (ext_blk (HX3.out.trans XW.out) HB1.out)
        by_cases h : j < d3.auts.length
        · obtain ⟨t, ht⟩ : ∃ s, d3.auts[j]? = some s := ⟨_, List.getElem?_eq_getElem h⟩
          obtain ⟨bd, hB, hlB, r0, r1, r2, r3, r4, r5, r6⟩ := reads_aut (HW3.out.ext XW.out).aut ht
          rw [hB] at n3
          have ht' := (List.getElem?_eq_some_iff.1 ht).2
          have hjb : (j : Int) ≤ 1099511627776 := by have := HG.out; omega
          have hjf : (j : Int) < (d3.auts.length : Int) := by omega
          have hjn : decide (j < d3.auts.length) = true := decide_eq_true h
          have HJ := Lib.hid hj
          have hXd := Lib.hid hx.drew
          have m3' := fun n : Nat => show (wr.drewN n).cell? _ = _ from m3
          have n3' := fun n : Nat => show (wr.drewN n).cell? _ = _ from n3
          have o1' := fun n : Nat => show (wr.drewN n).cell? _ = _ from o1
          have r0' := fun n : Nat => show (wr.drewN n).cell? _ = _ from r0
          have r1' := fun n : Nat => show (wr.drewN n).cell? _ = _ from r1
          have r2' := fun n : Nat => show (wr.drewN n).cell? _ = _ from r2
          have r3' := fun n : Nat => show (wr.drewN n).cell? _ = _ from r3
          have r4' := fun n : Nat => show (wr.drewN n).cell? _ = _ from r4
          have r5' := fun n : Nat => show (wr.drewN n).cell? _ = _ from r5
          have r6' := fun n : Nat => show (wr.drewN n).cell? _ = _ from r6
          by_cases h2 : j < d.auts.length
          · obtain ⟨s, hs⟩ : ∃ s, d.auts[j]? = some s := ⟨_, List.getElem?_eq_getElem h2⟩
            obtain ⟨ad, hA, hlA, q0, q1, q2, q3, q4, q5, q6⟩ := reads_aut (HDW.out.ext (HX0.out.trans (HX3.out.trans XW.out))).aut hs
            rw [hA] at m3
            have hs' := (List.getElem?_eq_some_iff.1 hs).2
            have hjd : (j : Int) < (d.auts.length : Int) := by omega
            have e1 : decide ((d.auts.length : Int) ≤ (j : Int)) = false := decide_eq_false (by omega)
            have e1n : decide (d.auts.length ≤ j) = false := decide_eq_false (by omega)
            have e3 : decide (j < d.auts.length) = true := decide_eq_true h2
            have m3' := fun n : Nat => show (wr.drewN n).cell? _ = _ from m3
            have q0' := fun n : Nat => show (wr.drewN n).cell? _ = _ from q0
            have q1' := fun n : Nat => show (wr.drewN n).cell? _ = _ from q1
            have q2' := fun n : Nat => show (wr.drewN n).cell? _ = _ from q2
            have q3' := fun n : Nat => show (wr.drewN n).cell? _ = _ from q3
            have q4' := fun n : Nat => show (wr.drewN n).cell? _ = _ from q4
            have q5' := fun n : Nat => show (wr.drewN n).cell? _ = _ from q5
            have q6' := fun n : Nat => show (wr.drewN n).cell? _ = _ from q6
            by_cases hac : s.acc = q.acc
            · have e2 : (s.acc != q.acc) = false := by simp [hac]
              clear hx hj ht ht' hB hlB h2 hac h hs hs' hA hlA
              go_wp2
              go_region
              all_goals go_wp2
              have hj := HJ.out
              all_goals go_roundg (gk - 1)
              case measure => omega
              case rel => exact ⟨j + 1, by omega, int_congr (by omega), hXd.out⟩
            · have e2 : (s.acc != q.acc) = true := by simp [hac]
              have hts : t = s := by
                rcases HST.out.autO j h h2 with k | k
                · rw [← ht', ← hs']; exact k
                · exact absurd (by rw [← hs']; exact k.1) hac
              have hse := fun w : World => eqAut t s w
              rw [decide_eq_true hts] at hse
              clear hx hj ht ht' hB hlB h2 hac h hs hs' hA hlA hts
              go_wp2
              go_region
              all_goals go_wp2
              have hj := HJ.out
              all_goals go_roundg (gk - 1)
              case measure => omega
              case rel => exact ⟨j + 1, by omega, int_congr (by omega), hXd.out⟩
          · have hac : t.acc = q.acc := by
              have := (HST.out.autN j h h2).1
              rw [← ht']; exact this
            have e1 : decide ((d.auts.length : Int) ≤ (j : Int)) = true := decide_eq_true (by omega)
            have e1n : decide (d.auts.length ≤ j) = true := decide_eq_true (by omega)
            have e2 : (t.acc != q.acc) = false := by simp [hac]
            have e3 : decide (j < d.auts.length) = false := decide_eq_false h2
            clear hx hj ht ht' hB hlB h2 hac h
            go_wp2
            go_region
            all_goals go_wp2
            have hj := HJ.out
            all_goals go_roundg (gk - 1)
            case measure => omega
            case rel => exact ⟨j + 1, by omega, int_congr (by omega), hXd.out⟩
        · obtain rfl : j = d3.auts.length := by omega
          obtain ⟨W5, hW5⟩ : ∃ W, W = wr := ⟨_, rfl⟩
          rw [← hW5] at XW m0 m1 m2 m3 m4 m5 n0 n1 n2 n3 n4 n5 o0 o1 o2 o3 o4 o5 o6 o7 o8 ⊢
          have X5 := XW
          clear hx hj hW5 h XW
          go_wp2
          go_loopg [12] d.ords.length (fun g s12 wr => ∃ j : Nat, j + g = d.ords.length ∧ s12 = .int .i64 j ∧ Ext W5 wr)
          case atStart => exact ⟨0, by omega, rfl, Ext.refl W5⟩
          case round =>
            obtain ⟨j, hj, rfl, hx⟩ := hrel
            have HX5 := Lib.hid hx
            have XW := Lib.hid (X5.out.trans hx)
            clear m0 m1 m2 m3 m4 m5 n0 n1 n2 n3 n4 n5 o0 o1 o2 o3 o4 o5 o6 o7 o8
            obtain ⟨m0, m1, m2, m3, m4, m5⟩ := arr6f (ext_blk (HX3.out.trans XW.out) HB0.out)
            obtain ⟨n0, n1, n2, n3, n4, n5⟩ := arr6f (ext_blk XW.out HB3.out)
            obtain ⟨o0, o1, o2, o3, o4, o5, o6, o7, o8⟩ := arr9 (ext_blk (HX3.out.trans XW.out) HB1.out)
            by_cases h : j < d.ords.length
            · have h3 : j < d3.ords.length := by have := HG.out; omega
              obtain ⟨s, hs⟩ : ∃ s, d.ords[j]? = some s := ⟨_, List.getElem?_eq_getElem h⟩
              obtain ⟨t, ht⟩ : ∃ s, d3.ords[j]? = some s := ⟨_, List.getElem?_eq_getElem h3⟩
              have HDo := HDW.out.ext (HX0.out.trans (HX3.out.trans XW.out))
              have HWo := HW3.out.ext XW.out
              obtain ⟨ad, hA, hlA, q0, q1, q2, q3, q4, q5, q6, q7⟩ := reads_ord HDo.ord hs
              obtain ⟨ad', hA', RA⟩ := one_ord HDo.ord hs
              obtain ⟨bd, hB, RB⟩ := one_ord HWo.ord ht
              obtain rfl : ad' = ad := by rw [hA] at hA'; exact (Option.some.inj hA').symm
              rw [hA] at m4
              rw [hB] at n4
              have hjb : (j : Int) ≤ 1099511627776 := by have := HL.out; omega
              have hjd : (j : Int) < (d.ords.length : Int) := by omega
              have hjn : decide (j < d.ords.length) = true := decide_eq_true h
              have kw : IntKind.i64.wrap ((j : Int) + 1) = (j : Int) + 1 := by rw [IntKind.wrap_i64]; omega
              have HJ := Lib.hid hj
              have SA := fun w : World => slice_one ad' d.ords.length d.rc j (by have := HDo.rc; omega) w
              have SB := fun w : World => slice_one bd d3.ords.length d3.rc j (by have := HWo.rc; omega) w
              have j1 := fun i : Later wr => i.cell m4
              have j2 := fun i : Later wr => i.cell n4
              have j3 := fun i : Later wr => i.cell o1
              have j4 := fun i : Later wr => i.cell q1
              have RA' := Lib.hid RA
              have RB' := Lib.hid RB
              have EA := Lib.hid (HDo.rw s (List.mem_of_getElem? hs))
              have EB := Lib.hid (HWo.rw t (List.mem_of_getElem? ht))
              by_cases hac : s.o.acc = q.acc
              · have e1 : (s.o.acc != q.acc) = false := by simp [hac]
                clear hx hj h h3 hs ht HDo HWo hA hlA q0 q2 q3 q4 q5 q6 q7 hA' hB RA RB hac SA SB
                go_wp2
                refine wp_region_later (by kernel_rfl) (by kernel_rfl) ?_
                repeat (go_big_quiet_step ((fail)))
                refine wpQuiet_nil ?_
                rintro W6 ⟨z, hz⟩
                have HX6 : Hid (Ext W5 W6) := Lib.hid (by rw [hz]; exact HX5.out.trans z.ext)
                clear hz z j1 j2 j3 j4
                go_wp2
                have hj := HJ.out
                go_roundg (gk - 1)
                case measure => omega
                case rel => exact ⟨j + 1, by omega, int_congr (by omega), HX6.out⟩
              · have e1 : (s.o.acc != q.acc) = true := by simp [hac]
                have hts : t.o = s.o := by
                  have k := HST.out.ordO j (by rw [dfro_ords, List.length_map]; exact h3) (by show j < d.fro.ords.length; rw [dfro_ords, List.length_map]; exact h)
                  rcases k with k | k
                  · have a1 : (d3.fro.ords)[j]? = some t.o := by rw [dfro_ords, List.getElem?_map, ht]; rfl
                    have a2 : (d.fro.ords)[j]? = some s.o := by rw [dfro_ords, List.getElem?_map, hs]; rfl
                    rw [← (List.getElem?_eq_some_iff.1 a1).2, ← (List.getElem?_eq_some_iff.1 a2).2]
                    exact k
                  · have a2 : (d.fro.ords)[j]? = some s.o := by rw [dfro_ords, List.getElem?_map, hs]; rfl
                    exact absurd (by rw [← (List.getElem?_eq_some_iff.1 a2).2]; exact k.1) hac
                have cO := fun i : Later wr => Orders22_any [t] [s] (some (bd.add (j * 8))) (some (ad'.add (j * 8))) (d3.rc - j) (d.rc - j) i.W ⟨(RB'.out.below i.ext.out).more i.ext.size, (show 1 ≤ 140737488355328 by decide), (fun y hy => by rw [List.mem_singleton.1 hy]; exact EB.out.ext i.ext)⟩ ⟨(RA'.out.below i.ext.out).more i.ext.size, (show 1 ≤ 140737488355328 by decide), (fun y hy => by rw [List.mem_singleton.1 hy]; exact EA.out.ext i.ext)⟩
                rw [show decide (List.map (·.o) [t] = List.map (·.o) [s]) = true from decide_eq_true (by rw [List.map_cons, List.map_cons, hts])] at cO
                simp only [List.length_singleton] at cO
                clear hx hj h h3 hs ht HDo HWo hA hlA q0 q2 q3 q4 q5 q6 q7 hA' hB RA RB hac hts
                go_wp2
                refine wp_region_later (by kernel_rfl) (by kernel_rfl) ?_
                repeat (go_big_quiet_step ((go_at_call 37; exact Later.calls (cO _))))
                refine wpQuiet_nil ?_
                rintro W6 ⟨z, hz⟩
                have HX6 : Hid (Ext W5 W6) := Lib.hid (by rw [hz]; exact HX5.out.trans z.ext)
                clear hz z j1 j2 j3 j4
                go_wp2
                have hj := HJ.out
                go_roundg (gk - 1)
                case measure => omega
                case rel => exact ⟨j + 1, by omega, int_congr (by omega), HX6.out⟩
            · obtain rfl : j = d.ords.length := by omega
              have hXd : Hid (Ext w wr.drew) := Lib.hid (HX0.out.trans (HX3.out.trans XW.out)).drew
              have m4' := fun n : Nat => show (wr.drewN n).cell? _ = _ from m4
              have n4' := fun n : Nat => show (wr.drewN n).cell? _ = _ from n4
              have o1' := fun n : Nat => show (wr.drewN n).cell? _ = _ from o1
              by_cases he : d3.ords.length = d.ords.length
              · have e1 : ((d3.ords.length : Int) == (d.ords.length : Int)) = true := by simp [he]
                have e2 : (d3.ords.length == d.ords.length) = true := by simp [he]
                clear hx hj h he
                go_wp2
                go_region
                all_goals go_wp2
                all_goals go_ret
                all_goals exact ⟨rfl, hXd.out⟩
              · have h3 : d.ords.length < d3.ords.length := by have := HG.out; omega
                obtain ⟨t, ht⟩ : ∃ s, d3.ords[d.ords.length]? = some s := ⟨_, List.getElem?_eq_getElem h3⟩
                obtain ⟨bd, hB, hlB, r0, r1, r2, r3, r4, r5, r6, r7⟩ := reads_ord (HW3.out.ext XW.out).ord ht
                rw [hB] at n4 n4'
                have r1' := fun n : Nat => show (wr.drewN n).cell? _ = _ from r1
                have hac : t.o.acc = q.acc := by
                  have a1 : (d3.fro.ords)[d.ords.length]? = some t.o := by rw [dfro_ords, List.getElem?_map, ht]; rfl
                  have k := (HST.out.ordN d.ords.length (List.getElem?_eq_some_iff.1 a1).1 (by show ¬ d.ords.length < d.fro.ords.length; rw [dfro_ords, List.length_map]; omega)).1
                  rw [← (List.getElem?_eq_some_iff.1 a1).2]; exact k
                have e1 : ((d3.ords.length : Int) == (d.ords.length : Int)) = false := by simp; omega
                have e2 : (d3.ords.length == d.ords.length) = false := by simp; omega
                have e3 : (t.o.acc == q.acc) = true := by simp [hac]
                have hjf : (d.ords.length : Int) < (d3.ords.length : Int) := by omega
                clear hx hj h he hac ht hB hlB h3
                go_wp2
                go_region
                all_goals go_wp2
                all_goals go_ret
                all_goals exact ⟨rfl, hXd.out⟩
end Go.Proofs.YtbhdmfijdhcehaaGreatDoor
