/- Parts of the proofs, put together: OrLaw8. -/
import Derived.Test.YtbhdmfijdhcehaaGreatDoorQ28
namespace Go.Proofs.YtbhdmfijdhcehaaGreatDoor
open Go.RowKit Go.Shelf Go.Maps
set_option linter.unusedSimpArgs false
set_option linter.unusedVariables false
set_option maxRecDepth 100000 in
set_option maxHeartbeats 16000000 in
theorem walk_OrderTurns (d : DoorX) (id : Int) (ok : Bool) (now serial : Int) (hid : (Lit.int .i64 id).wf = true) (hnow : (Lit.int .i64 now).wf = true) (hser : (Lit.int .i64 serial).wf = true) (w : World) (hd : DoorI w d) :
    Calls Tryz.prog 5 #[frontV d, .int .i64 id, .bool ok, .int .i64 now, .int .i64 serial] w fun e w' => e = .returned (.bool true) ∧ Ext w w' := by
  obtain ⟨W0, e0, b0, x0⟩ := startF w d
  have c0 := fun W => live_any W
  have cF := fun W (x : Ext W0 W) => Few_any d W (hd.ext (x0.trans x))
  have HD := Lib.hid hd
  have HB0 := Lib.hid b0
  have HX0 := Lib.hid x0
  obtain ⟨m0, m1, m2, m3, m4, m5⟩ := arr6f b0
  unfold frontV at cF ⊢
  clear b0 x0 hd hid hnow hser
  go_enter Tryz.func5, Tryz.ntmps5
  go_upto_region 1 with (fail)
  try rw [e0]
  clear e0
  by_cases hfew : fewP d.fro
  case neg =>
    rw [decide_eq_false hfew] at cF
    clear hfew
    go_wp2_with (first | (go_at_call 12; refine (c0 _).mono ?_; clear c0 m0 m1 m2 m3 m4 m5; rintro e w1 ⟨rfl, x1⟩; obtain ⟨m0, m1, m2, m3, m4, m5⟩ := arr6f (ext_blk x1 HB0.out)) | (go_at_call 23; refine (cF _ x1).mono ?_; clear cF m0 m1 m2 m3 m4 m5; rintro e w2 ⟨rfl, x2⟩))
    go_ret
    exact ⟨rfl, HX0.out.trans (x1.trans x2)⟩
  rw [decide_eq_true hfew] at cF
  have HDW := Lib.hid ((HD.out.door hfew).ext HX0.out)
  obtain ⟨z1, z2, z3, z4, z5, z6⟩ := hfew
  have hl5 : d.auts.length ≤ 60 := z5
  have hl4 : d.accs.length ≤ 12 := z4
  have hl6 : d.ords.length ≤ 30 := by rw [dfro_ords, List.length_map] at z6; exact z6
  have HL : Hid (d.auts.length < 99 ∧ d.accs.length < 100 ∧ d.ords.length < 99) := Lib.hid ⟨by omega, by omega, by omega⟩
  have HM : Hid (d.auts.length < 100) := Lib.hid (by omega)
  clear z1 z2 z3 z4 z5 z6 hl5 hl4 hl6
  go_upto_region 5 with (first | (go_at_call 12; refine (c0 _).mono ?_; clear c0 m0 m1 m2 m3 m4 m5; rintro e w1 ⟨rfl, x1⟩; obtain ⟨m0, m1, m2, m3, m4, m5⟩ := arr6f (ext_blk x1 HB0.out)) | (go_at_call 23; refine (cF _ x1).mono ?_; clear cF m0 m1 m2 m3 m4 m5; rintro e w2 ⟨rfl, x2⟩))
  obtain ⟨V0, hV0⟩ : ∃ W, W = w2 := ⟨_, rfl⟩
  rw [← hV0] at x2 ⊢
  have HZ0 : Hid (Ext W0 V0) := Lib.hid (x1.trans x2)
  clear x1 x2 hV0
  obtain ⟨NN, hNN⟩ : ∃ N, nonF d.fro now = N := ⟨_, rfl⟩
  obtain ⟨SS, hSS⟩ : ∃ N, sawF d.fro id ok now = N := ⟨_, rfl⟩
  obtain ⟨WW, hWW⟩ : ∃ N, wisF d.fro id now = N := ⟨_, rfl⟩
  obtain ⟨DD, hDD⟩ : ∃ N, donF d.fro id serial = N := ⟨_, rfl⟩
  have HNN := Lib.hid hNN
  have HSS := Lib.hid hSS
  have HWW := Lib.hid hWW
  have HDD := Lib.hid hDD
  clear hNN hSS hWW hDD
  obtain ⟨m0, m1, m2, m3, m4, m5⟩ := arr6f (ext_blk HZ0.out HB0.out)
  have cc := oNonce_any d HM.out HL.out.2.1 now V0 (HDW.out.ext HZ0.out)
  rw [HNN.out] at cc
  unfold outD frontV at cc
  go_upto_region 6 with (go_at_call 24; refine cc.mono ?_; clear cc m0 m1 m2 m3 m4 m5; rintro e u1 ⟨d1, rfl, hf, hw, -, x⟩)
  obtain ⟨V1, hV⟩ : ∃ W, u1.alloc (.cells #[.int .i64 d1.next, .slice d1.oA d1.opn.length d1.oc, .slice d1.cA d1.accs.length d1.cc, .slice d1.uA d1.auts.length d1.uc, .slice d1.rA d1.ords.length d1.rc, .int .i64 d1.ser] 43) = W := ⟨_, rfl⟩
  try rw [hV]
  have HY1 : Hid (Ext V0 V1) := Lib.hid (by rw [← hV]; exact x.alloc _)
  have HZ1 : Hid (Ext W0 V1) := Lib.hid (HZ0.out.trans HY1.out)
  have HB1 : Hid (Blk V1 u1.heap.size 43 #[.int .i64 d1.next, .slice d1.oA d1.opn.length d1.oc, .slice d1.cA d1.accs.length d1.cc, .slice d1.uA d1.auts.length d1.uc, .slice d1.rA d1.ords.length d1.rc, .int .i64 d1.ser]) := Lib.hid (by rw [← hV]; exact Blk.new _ _ _)
  have HK1 : Hid (DoorW V1 V1.heap.size d1) := Lib.hid (hw.ext (by rw [← hV]; exact (Ext.refl _).alloc _))
  have HF1 : Hid (d1.fro = NN.1) := Lib.hid hf
  clear hf hw x hV
  obtain ⟨m0, m1, m2, m3, m4, m5⟩ := arr6f (ext_blk HZ1.out HB0.out)
  have cc := rNonce_any22 d HL.out.1 HL.out.2.1 now V1 (HDW.out.ext HZ1.out)
  rw [HNN.out] at cc
  unfold outD frontV at cc
  go_upto_region 7 with (go_at_call 25; refine cc.mono ?_; clear cc m0 m1 m2 m3 m4 m5; rintro e u2 ⟨d2, rfl, hf, hw, -, x⟩)
  obtain ⟨V2, hV⟩ : ∃ W, u2.alloc (.cells #[.int .i64 d2.next, .slice d2.oA d2.opn.length d2.oc, .slice d2.cA d2.accs.length d2.cc, .slice d2.uA d2.auts.length d2.uc, .slice d2.rA d2.ords.length d2.rc, .int .i64 d2.ser] 43) = W := ⟨_, rfl⟩
  try rw [hV]
  have HY2 : Hid (Ext V1 V2) := Lib.hid (by rw [← hV]; exact x.alloc _)
  have HZ2 : Hid (Ext W0 V2) := Lib.hid (HZ1.out.trans HY2.out)
  have HB2 : Hid (Blk V2 u2.heap.size 43 #[.int .i64 d2.next, .slice d2.oA d2.opn.length d2.oc, .slice d2.cA d2.accs.length d2.cc, .slice d2.uA d2.auts.length d2.uc, .slice d2.rA d2.ords.length d2.rc, .int .i64 d2.ser]) := Lib.hid (by rw [← hV]; exact Blk.new _ _ _)
  have HK2 : Hid (DoorW V2 V2.heap.size d2) := Lib.hid (hw.ext (by rw [← hV]; exact (Ext.refl _).alloc _))
  have HF2 : Hid (d2.fro = NN.1) := Lib.hid hf
  clear hf hw x hV
  obtain ⟨m0, m1, m2, m3, m4, m5⟩ := arr6f (ext_blk HZ2.out HB0.out)
  have cc := oSaw_any d id ok now V2 (HDW.out.ext HZ2.out) HM.out HL.out.2.1
  rw [HSS.out] at cc
  unfold outS frontV at cc
  go_upto_region 8 with (go_at_call 26; refine cc.mono ?_; clear cc m0 m1 m2 m3 m4 m5; rintro e u3 ⟨d3, rfl, hf, hw, -, x⟩)
  obtain ⟨V3, hV⟩ : ∃ W, u3.alloc (.cells #[.int .i64 d3.next, .slice d3.oA d3.opn.length d3.oc, .slice d3.cA d3.accs.length d3.cc, .slice d3.uA d3.auts.length d3.uc, .slice d3.rA d3.ords.length d3.rc, .int .i64 d3.ser] 43) = W := ⟨_, rfl⟩
  try rw [hV]
  have HY3 : Hid (Ext V2 V3) := Lib.hid (by rw [← hV]; exact x.alloc _)
  have HZ3 : Hid (Ext W0 V3) := Lib.hid (HZ2.out.trans HY3.out)
  have HB3 : Hid (Blk V3 u3.heap.size 43 #[.int .i64 d3.next, .slice d3.oA d3.opn.length d3.oc, .slice d3.cA d3.accs.length d3.cc, .slice d3.uA d3.auts.length d3.uc, .slice d3.rA d3.ords.length d3.rc, .int .i64 d3.ser]) := Lib.hid (by rw [← hV]; exact Blk.new _ _ _)
  have HK3 : Hid (DoorW V3 V3.heap.size d3) := Lib.hid (hw.ext (by rw [← hV]; exact (Ext.refl _).alloc _))
  have HF3 : Hid (d3.fro = SS.1) := Lib.hid hf
  clear hf hw x hV
  obtain ⟨m0, m1, m2, m3, m4, m5⟩ := arr6f (ext_blk HZ3.out HB0.out)
  have cc := rSaw_any d id ok now V3 (HDW.out.ext HZ3.out) HL.out.1 HL.out.2.1 HL.out.2.2
  rw [HSS.out] at cc
  unfold outS frontV at cc
  go_upto_region 9 with (go_at_call 27; refine cc.mono ?_; clear cc m0 m1 m2 m3 m4 m5; rintro e u4 ⟨d4, rfl, hf, hw, -, x⟩)
  obtain ⟨V4, hV⟩ : ∃ W, u4.alloc (.cells #[.int .i64 d4.next, .slice d4.oA d4.opn.length d4.oc, .slice d4.cA d4.accs.length d4.cc, .slice d4.uA d4.auts.length d4.uc, .slice d4.rA d4.ords.length d4.rc, .int .i64 d4.ser] 43) = W := ⟨_, rfl⟩
  try rw [hV]
  have HY4 : Hid (Ext V3 V4) := Lib.hid (by rw [← hV]; exact x.alloc _)
  have HZ4 : Hid (Ext W0 V4) := Lib.hid (HZ3.out.trans HY4.out)
  have HB4 : Hid (Blk V4 u4.heap.size 43 #[.int .i64 d4.next, .slice d4.oA d4.opn.length d4.oc, .slice d4.cA d4.accs.length d4.cc, .slice d4.uA d4.auts.length d4.uc, .slice d4.rA d4.ords.length d4.rc, .int .i64 d4.ser]) := Lib.hid (by rw [← hV]; exact Blk.new _ _ _)
  have HK4 : Hid (DoorW V4 V4.heap.size d4) := Lib.hid (hw.ext (by rw [← hV]; exact (Ext.refl _).alloc _))
  have HF4 : Hid (d4.fro = SS.1) := Lib.hid hf
  clear hf hw x hV
  obtain ⟨m0, m1, m2, m3, m4, m5⟩ := arr6f (ext_blk HZ4.out HB0.out)
  have cc := oWish_any d id now V4 (HDW.out.ext HZ4.out) HM.out HL.out.2.1
  rw [HWW.out] at cc
  unfold wisPost wisV frontV at cc
  go_upto_region 10 with (go_at_call 28; refine cc.mono ?_; clear cc m0 m1 m2 m3 m4 m5; rintro e u5 ⟨A5, c5, rfl, hr, -, x⟩)
  obtain ⟨V5, hV⟩ : ∃ W, u5.alloc (.cells #[.int .i64 WW.1.1, .slice A5 WW.1.2.1.length c5, .int .u64 (WW.1.2.2.1 : Int), .int .i64 WW.1.2.2.2] 55) = W := ⟨_, rfl⟩
  try rw [hV]
  have HY5 : Hid (Ext V4 V5) := Lib.hid (by rw [← hV]; exact x.alloc _)
  have HZ5 : Hid (Ext W0 V5) := Lib.hid (HZ4.out.trans HY5.out)
  have HB5 : Hid (Blk V5 u5.heap.size 55 #[.int .i64 WW.1.1, .slice A5 WW.1.2.1.length c5, .int .u64 (WW.1.2.2.1 : Int), .int .i64 WW.1.2.2.2]) := Lib.hid (by rw [← hV]; exact Blk.new _ _ _)
  have HK5 : Hid (Reads V5 V5.heap.size 1 A5 WW.1.2.1.length (tv WW.1.2.1)) := Lib.hid (by
    have x' : Ext u5 V5 := by rw [← hV]; exact (Ext.refl _).alloc _
    exact (hr.below x'.out).more x'.size)
  clear hr x hV
  obtain ⟨m0, m1, m2, m3, m4, m5⟩ := arr6f (ext_blk HZ5.out HB0.out)
  have cc := rWish_any d id now V5 (HDW.out.ext HZ5.out) HL.out.1 HL.out.2.1 HL.out.2.2
  rw [HWW.out] at cc
  unfold wisPost wisV frontV at cc
  go_upto_region 11 with (go_at_call 29; refine cc.mono ?_; clear cc m0 m1 m2 m3 m4 m5; rintro e u6 ⟨A6, c6, rfl, hr, -, x⟩)
  obtain ⟨V6, hV⟩ : ∃ W, u6.alloc (.cells #[.int .i64 WW.1.1, .slice A6 WW.1.2.1.length c6, .int .u64 (WW.1.2.2.1 : Int), .int .i64 WW.1.2.2.2] 55) = W := ⟨_, rfl⟩
  try rw [hV]
  have HY6 : Hid (Ext V5 V6) := Lib.hid (by rw [← hV]; exact x.alloc _)
  have HZ6 : Hid (Ext W0 V6) := Lib.hid (HZ5.out.trans HY6.out)
  have HB6 : Hid (Blk V6 u6.heap.size 55 #[.int .i64 WW.1.1, .slice A6 WW.1.2.1.length c6, .int .u64 (WW.1.2.2.1 : Int), .int .i64 WW.1.2.2.2]) := Lib.hid (by rw [← hV]; exact Blk.new _ _ _)
  have HK6 : Hid (Reads V6 V6.heap.size 1 A6 WW.1.2.1.length (tv WW.1.2.1)) := Lib.hid (by
    have x' : Ext u6 V6 := by rw [← hV]; exact (Ext.refl _).alloc _
    exact (hr.below x'.out).more x'.size)
  clear hr x hV
  obtain ⟨m0, m1, m2, m3, m4, m5⟩ := arr6f (ext_blk HZ6.out HB0.out)
  have cc := oDone_any d id serial V6 (HDW.out.ext HZ6.out) HM.out HL.out.2.1
  rw [HDD.out] at cc
  unfold outS frontV at cc
  go_upto_region 12 with (go_at_call 30; refine cc.mono ?_; clear cc m0 m1 m2 m3 m4 m5; rintro e u7 ⟨d7, rfl, hf, hw, -, x⟩)
  obtain ⟨V7, hV⟩ : ∃ W, u7.alloc (.cells #[.int .i64 d7.next, .slice d7.oA d7.opn.length d7.oc, .slice d7.cA d7.accs.length d7.cc, .slice d7.uA d7.auts.length d7.uc, .slice d7.rA d7.ords.length d7.rc, .int .i64 d7.ser] 43) = W := ⟨_, rfl⟩
  try rw [hV]
  have HY7 : Hid (Ext V6 V7) := Lib.hid (by rw [← hV]; exact x.alloc _)
  have HZ7 : Hid (Ext W0 V7) := Lib.hid (HZ6.out.trans HY7.out)
  have HB7 : Hid (Blk V7 u7.heap.size 43 #[.int .i64 d7.next, .slice d7.oA d7.opn.length d7.oc, .slice d7.cA d7.accs.length d7.cc, .slice d7.uA d7.auts.length d7.uc, .slice d7.rA d7.ords.length d7.rc, .int .i64 d7.ser]) := Lib.hid (by rw [← hV]; exact Blk.new _ _ _)
  have HK7 : Hid (DoorW V7 V7.heap.size d7) := Lib.hid (hw.ext (by rw [← hV]; exact (Ext.refl _).alloc _))
  have HF7 : Hid (d7.fro = DD.1) := Lib.hid hf
  clear hf hw x hV
  obtain ⟨m0, m1, m2, m3, m4, m5⟩ := arr6f (ext_blk HZ7.out HB0.out)
  have cc := rDone_any d id serial V7 (HDW.out.ext HZ7.out) HL.out.1 HL.out.2.1 HL.out.2.2
  rw [HDD.out] at cc
  unfold outS frontV at cc
  go_upto_region 13 with (go_at_call 31; refine cc.mono ?_; clear cc m0 m1 m2 m3 m4 m5; rintro e u8 ⟨d8, rfl, hf, hw, -, x⟩)
  obtain ⟨V8, hV⟩ : ∃ W, u8.alloc (.cells #[.int .i64 d8.next, .slice d8.oA d8.opn.length d8.oc, .slice d8.cA d8.accs.length d8.cc, .slice d8.uA d8.auts.length d8.uc, .slice d8.rA d8.ords.length d8.rc, .int .i64 d8.ser] 43) = W := ⟨_, rfl⟩
  try rw [hV]
  have HY8 : Hid (Ext V7 V8) := Lib.hid (by rw [← hV]; exact x.alloc _)
  have HZ8 : Hid (Ext W0 V8) := Lib.hid (HZ7.out.trans HY8.out)
  have HB8 : Hid (Blk V8 u8.heap.size 43 #[.int .i64 d8.next, .slice d8.oA d8.opn.length d8.oc, .slice d8.cA d8.accs.length d8.cc, .slice d8.uA d8.auts.length d8.uc, .slice d8.rA d8.ords.length d8.rc, .int .i64 d8.ser]) := Lib.hid (by rw [← hV]; exact Blk.new _ _ _)
  have HK8 : Hid (DoorW V8 V8.heap.size d8) := Lib.hid (hw.ext (by rw [← hV]; exact (Ext.refl _).alloc _))
  have HF8 : Hid (d8.fro = DD.1) := Lib.hid hf
  clear hf hw x hV
  have HT1 : Hid (Ext V1 V8) := Lib.hid ((((((HY2.out.trans HY3.out).trans HY4.out).trans HY5.out).trans HY6.out).trans HY7.out).trans HY8.out)
  have HT2 : Hid (Ext V2 V8) := Lib.hid (((((HY3.out.trans HY4.out).trans HY5.out).trans HY6.out).trans HY7.out).trans HY8.out)
  have HT3 : Hid (Ext V3 V8) := Lib.hid ((((HY4.out.trans HY5.out).trans HY6.out).trans HY7.out).trans HY8.out)
  have HT4 : Hid (Ext V4 V8) := Lib.hid (((HY5.out.trans HY6.out).trans HY7.out).trans HY8.out)
  have HT5 : Hid (Ext V5 V8) := Lib.hid ((HY6.out.trans HY7.out).trans HY8.out)
  have HT6 : Hid (Ext V6 V8) := Lib.hid (HY7.out.trans HY8.out)
  have HT7 : Hid (Ext V7 V8) := Lib.hid HY8.out
  have HT8 : Hid (Ext V8 V8) := Lib.hid (Ext.refl _)
  have hs1 : d1.fro = d2.fro := HF1.out.trans HF2.out.symm
  have hs3 : d3.fro = d4.fro := HF3.out.trans HF4.out.symm
  have hs7 : d7.fro = d8.fro := HF7.out.trans HF8.out.symm
  have cS1 := Same22_any d1 d2 V8 (HK1.out.ext HT1.out) (HK2.out.ext HT2.out)
  have cS3 := fun W (x : Ext V8 W) => Same22_any d3 d4 W (HK3.out.ext (HT3.out.trans x)) (HK4.out.ext (HT4.out.trans x))
  have hwl : WW.1.2.1.length ≤ 140737488355328 := by
    rw [← HWW.out]
    unfold wisF
    split
    · simp
    · split
      · simp
      · split
        · simp
        · next o_ h_ =>
          split
          · simp
          · show o_.names.length ≤ _
            have ho : o_ ∈ d.fro.ords := by
              unfold askF at h_
              split at h_
              · cases h_
              · split at h_
                · cases h_
                · next hg => split at h_ <;> cases h_; exact List.mem_of_getElem? hg
            rw [dfro_ords] at ho
            obtain ⟨y, hy, rfl⟩ := List.mem_map.1 ho
            have := (HDW.out.rw y hy).nl
            omega
  have cW5 := fun W (x : Ext V8 W) => rWishes_any WW.1 A5 A6 c5 c6 hwl W ((HK5.out.below (HT5.out.trans x).out).more (HT5.out.trans x).size) ((HK6.out.below (HT6.out.trans x).out).more (HT6.out.trans x).size)
  have cS7 := fun W (x : Ext V8 W) => Same22_any d7 d8 W (HK7.out.ext (HT7.out.trans x)) (HK8.out.ext (HT8.out.trans x))
  rw [decide_eq_true hs1] at cS1
  rw [decide_eq_true hs3] at cS3
  rw [decide_eq_true hs7] at cS7
  unfold frontV at cS1 cS3 cS7
  unfold wisV at cW5
  clear hs1 hs3 hs7 hwl
  obtain ⟨m0, m1, m2, m3, m4, m5⟩ := arr6f (ext_blk HT1.out HB1.out)
  obtain ⟨n0, n1, n2, n3, n4, n5⟩ := arr6f (ext_blk HT2.out HB2.out)
  go_wp2_with (first
    | (go_at_call 20; refine cS1.mono ?_; clear cS1 m0 m1 m2 m3 m4 m5 n0 n1 n2 n3 n4 n5; rintro e w11 ⟨rfl, x11⟩; obtain ⟨m0, m1, m2, m3, m4, m5⟩ := arr6f (ext_blk (HT3.out.trans x11) HB3.out); obtain ⟨n0, n1, n2, n3, n4, n5⟩ := arr6f (ext_blk (HT4.out.trans x11) HB4.out))
    | (go_at_call 20; refine (cS3 _ x11).mono ?_; clear cS3 m0 m1 m2 m3 m4 m5 n0 n1 n2 n3 n4 n5; rintro e w12 ⟨rfl, x12⟩; have y12 := x11.trans x12; obtain ⟨m0, m1, m2, m3⟩ := arr4f (ext_blk (HT5.out.trans y12) HB5.out); obtain ⟨n0, n1, n2, n3⟩ := arr4f (ext_blk (HT6.out.trans y12) HB6.out))
    | (go_at_call 32; refine (cW5 _ y12).mono ?_; clear cW5 m0 m1 m2 m3 n0 n1 n2 n3; rintro e w13 ⟨rfl, x13⟩; have y13 := y12.trans x13; obtain ⟨m0, m1, m2, m3, m4, m5⟩ := arr6f (ext_blk (HT7.out.trans y13) HB7.out); obtain ⟨n0, n1, n2, n3, n4, n5⟩ := arr6f (ext_blk (HT8.out.trans y13) HB8.out))
    | (go_at_call 20; refine (cS7 _ y13).mono ?_; clear cS7 m0 m1 m2 m3 m4 m5 n0 n1 n2 n3 n4 n5; rintro e w14 ⟨rfl, x14⟩))
  go_ret
  exact ⟨rfl, HX0.out.trans (HZ8.out.trans (y13.trans x14))⟩
end Go.Proofs.YtbhdmfijdhcehaaGreatDoor
