/- Parts of the proofs, put together: Or22, Or23. -/
import Derived.Test.YtfpmfegmehbfbaaGreatDoorD16
import Derived.Test.YtfpmfegmehbfbaaGreatDoorD24
/- The door, walked: Check. -/
namespace Go.Proofs.YtfpmfegmehbfbaaGreatDoor
set_option linter.unusedVariables false
set_option linter.unusedSimpArgs false
open Go.RowKit Go.Shelf Go.Maps

theorem arr6f {W : World} {g : Nat} {T : TypeId} {a b c d e f : Value} (k : Blk W g T #[a, b, c, d, e, f]) : W.cell? ⟨g, 0, none⟩ = some a ∧ W.cell? ⟨g, 1, none⟩ = some b ∧ W.cell? ⟨g, 2, none⟩ = some c ∧ W.cell? ⟨g, 3, none⟩ = some d ∧ W.cell? ⟨g, 4, none⟩ = some e ∧ W.cell? ⟨g, 5, none⟩ = some f :=
  ⟨k.cell 0, k.cell 1, k.cell 2, k.cell 3, k.cell 4, k.cell 5⟩
theorem issued_len (l : List OrdR) : (issued l).length ≤ l.length := by unfold issued; rw [List.length_map]; exact List.length_filter_le _ _
theorem addI_issued (l : List OrdR) (o : OrdR) : addI (issued l) o = issued (l ++ [o]) := by rw [issued_add]; rfl
set_option maxRecDepth 100000 in
set_option maxHeartbeats 16000000 in
theorem oCheck_any (d : DoorX) (hu9 : d.auts.length < 100) (ha9 : d.accs.length < 100) (w : World) (hw : DoorW w w.heap.size d) :
    Calls Tryz.prog 92 #[frontV d] w fun e w' => e = .returned (.int .i64 (chkF d.fro : Nat)) ∧ Ext w w' := by
  have hmm := @run_makeMap Tryz.prog
  have cN := onum_any d.ser
  unfold frontV
  obtain ⟨W0, e0, b0, b1, x0, s0⟩ := startP w #[.int .i64 d.next, .slice d.oA d.opn.length d.oc, .slice d.cA d.accs.length d.cc, .slice d.uA d.auts.length d.uc, .slice d.rA d.ords.length d.rc, .int .i64 d.ser]
    #[.int .i64 d.next, .slice d.oA d.opn.length d.oc, .slice d.cA d.accs.length d.cc, .slice d.uA d.auts.length d.uc, .slice d.rA d.ords.length d.rc, .int .i64 d.ser, .int .i64 0] 96 180
  have cF := fCheck_any d.next d.opn d.oA d.oc W0 (hw.non.ext x0)
  unfold fenV at cF
  obtain ⟨E, hE⟩ : ∃ E, fenN d.next d.opn = E := ⟨_, rfl⟩
  rw [hE] at cF
  have HW := Lib.hid hw
  have HB0 := Lib.hid b0
  have HB1 := Lib.hid b1
  have HX0 := Lib.hid x0
  have HS0 := Lib.hid s0
  have HE := Lib.hid hE
  have HU9 := Lib.hid hu9
  have HA9 := Lib.hid ha9
  obtain ⟨k0, k1, k2, k3, k4, k5⟩ := arr6f b0
  clear b0 b1 x0 s0 hw hE hu9 ha9
  go_enter Tryz.func92, Tryz.ntmps92
  go_upto_region 2 with (fail)
  try rw [e0]
  clear e0
  go_cut [4] (fun s4 wx => Ext W0 wx ∧ s4 = .bool (decide (E = 0 ∧ numP d.ser)))
  case first =>
    by_cases h1 : E = 0
    · have d1 : ((E : Int) == 0) = true := by simp [h1]
      by_cases h2 : numP d.ser
      · rw [decide_eq_true h2] at cN
        have HH : Hid (E = 0 ∧ numP d.ser) := Lib.hid ⟨h1, h2⟩
        clear h1 h2
        go_wp2_with (first
          | (go_at_call 173; refine cF.mono ?_; clear cF; rintro e w1 ⟨rfl, x1⟩; have k5 := x1.cell k5)
          | (go_at_call 93; refine (cN _).mono ?_; clear cN; rintro e w2 ⟨rfl, rfl⟩))
        go_meet
        exact ⟨x1, by rw [decide_eq_true HH.out]⟩
      · rw [decide_eq_false h2] at cN
        have HH : Hid (¬ (E = 0 ∧ numP d.ser)) := Lib.hid (fun h => h2 h.2)
        clear h1 h2
        go_wp2_with (first
          | (go_at_call 173; refine cF.mono ?_; clear cF; rintro e w1 ⟨rfl, x1⟩; have k5 := x1.cell k5)
          | (go_at_call 93; refine (cN _).mono ?_; clear cN; rintro e w2 ⟨rfl, rfl⟩))
        go_meet
        exact ⟨x1, by rw [decide_eq_false HH.out]⟩
    · have d1 : ((E : Int) == 0) = false := by simp [h1]
      have HH : Hid (¬ (E = 0 ∧ numP d.ser)) := Lib.hid (fun h => h1 h.1)
      clear h1 cN
      go_wp2_with (go_at_call 173; refine cF.mono ?_; clear cF; rintro e w1 ⟨rfl, x1⟩; have k5 := x1.cell k5)
      go_meet
      exact ⟨x1, by rw [decide_eq_false HH.out]⟩
  case rest =>
    obtain ⟨hx, rfl⟩ := hcut
    clear cF cN
    obtain ⟨W1, hW1⟩ : ∃ W, W = wc := ⟨_, rfl⟩
    rw [← hW1] at hx ⊢
    clear hW1
    obtain ⟨ok, hok⟩ : ∃ b, b = decide (E = 0 ∧ numP d.ser) := ⟨_, rfl⟩
    rw [← hok]
    have HOK1 : Hid (ok = true → fenN d.next d.opn = 0 ∧ numP d.ser) := Lib.hid (fun h => by rw [hok] at h; have := of_decide_eq_true h; rw [HE.out]; exact this)
    have HOK2 : Hid (ok = false → ¬ doorP d.fro) := Lib.hid (fun h hd => by rw [hok] at h; exact (of_decide_eq_false h) ⟨HE.out.symm.trans hd.1, hd.2.1⟩)
    have HX1 := Lib.hid hx
    have xa : Ext W1 ((W1.alloc (.map #[] 0)).alloc (.map #[] 0)) := ((Ext.refl W1).alloc _).alloc _
    obtain ⟨k0, k1, k2, k3, k4, k5⟩ := arr6f (ext_blk (hx.trans xa) HB0.out)
    have HM : Hid (w.heap.size + 2 ≤ W1.heap.size) := Lib.hid (by have := hx.size; have := HS0.out; omega)
    clear hok hx xa
    go_wp2
    clear k0 k1 k2 k3 k4 k5 hmm
    go_loopg [4, 27] d.accs.length (fun g s4 s27 wr => ∃ (j : Nat) (ok : Bool), j + g = d.accs.length ∧ s27 = .int .i64 j ∧ s4 = .bool ok ∧ Ext w wr ∧
      Blk wr w.heap.size 96 #[.int .i64 d.next, .slice d.oA d.opn.length d.oc, .slice d.cA d.accs.length d.cc, .slice d.uA d.auts.length d.uc, .slice d.rA d.ords.length d.rc, .int .i64 d.ser] ∧ DoorB wr (w.heap.size + 1) d 0 ∧ SetIs wr (W1.heap.size + 1) [] ∧
      (ok = true → fenN d.next d.opn = 0 ∧ numP d.ser ∧ accsP (d.accs.take j) ∧ SetU wr W1.heap.size ((d.accs.take j).map (·.key))) ∧ (ok = false → ¬ doorP d.fro))
    case atStart =>
      have xa : Ext W1 ((W1.alloc (.map #[] 0)).alloc (.map #[] 0)) := ((Ext.refl W1).alloc _).alloc _
      refine ⟨0, ok, by omega, rfl, rfl, HX0.out.trans (HX1.out.trans xa), ext_blk (HX1.out.trans xa) HB0.out, ext_blk (HX1.out.trans xa) HB1.out, ?_, fun h => ⟨(HOK1.out h).1, (HOK1.out h).2, ⟨by simp, by simp⟩, ?_⟩, HOK2.out⟩
      · have := SetIs.new (W1.alloc (.map #[] 0)); simpa using this
      · exact SetU.ext (SetU.new W1) ((Ext.refl _).alloc _)
    case round =>
      obtain ⟨j, ok, hj, rfl, rfl, hx, hb, hd, hs, h1, h2⟩ := hrel
      have hjb : (j : Int) ≤ 1099511627776 := by have := HW.out.cl; omega
      by_cases hjl : j < d.accs.length
      · have hjd : decide (j < d.accs.length) = true := decide_eq_true hjl
        cases ok with
        | false =>
          have HX := Lib.hid hx
          have HB := Lib.hid hb
          have HD := Lib.hid hd
          have HS := Lib.hid hs
          have H2 := Lib.hid (h2 rfl)
          have HJ := Lib.hid hj
          clear hx hb hd hs h1 h2 hj
          go_wp2
          have hj := HJ.out
          go_roundg (gk - 1)
          case measure => omega
          case rel => exact ⟨j + 1, false, by omega, int_congr (by omega), rfl, HX.out, HB.out, HD.out, HS.out, fun h => (by cases h), fun _ => H2.out⟩
        | true =>
          obtain ⟨g1, g2, g3, g4⟩ := h1 rfl
          obtain ⟨x, hi⟩ : ∃ s, d.accs[j]? = some s := ⟨_, List.getElem?_eq_getElem hjl⟩
          have hk := (HW.out.cw x (List.mem_of_getElem? hi)).key
          have hrd : Reads wr wr.heap.size 2 d.cA d.accs.length (accV d.accs) := (HW.out.acc.below hx.out).more hx.size
          have hsu := accsP_succ hi
          have HX := Lib.hid hx
          by_cases hP : accP j x ∧ x.key ∉ (d.accs.take j).map (·.key)
          · have c1 := mayAcc_yes (w.heap.size + 1) d 0 j x hi hk W1.heap.size _ (by have := HW.out.cl; rw [List.length_map, List.length_take]; omega) hP.1 hP.2 hjb wr hd hrd g4
            have H1 : Hid (fenN d.next d.opn = 0 ∧ numP d.ser ∧ accsP (d.accs.take (j + 1))) := Lib.hid ⟨g1, g2, hsu.2 ⟨g3, hP⟩⟩
            have HE2 := Lib.hid (tk_snoc hi)
            have HB := Lib.hid hb
            have HD := Lib.hid hd
            have HS := Lib.hid hs
            have HJ := Lib.hid hj
            clear hx hb hd hs h1 h2 hj g1 g2 g3 g4 hi hk hrd hsu hP
            go_wp2_with (go_at_call 174; refine c1.mono ?_; clear c1; rintro e w2 ⟨rfl, hset, hg⟩; have HSET := Lib.hid hset; have HG := Lib.hid hg; clear hset hg)
            have hj := HJ.out
            have hm := HM.out
            have hm2 : W1.heap.size < wr.heap.size := by have := HS.out; have := World.ownsMap.lt this; omega
            go_roundg (gk - 1)
            case measure => omega
            case rel => exact ⟨j + 1, true, by omega, int_congr (by omega), rfl, Ext.of (HX.out.out.grown HG.out HX.out.size (fun k hk => by cases hk; omega)), HB.out.grown HG.out (by simp; omega), DoorB.grown HD.out HG.out (by simp; omega), SetIs.grown HS.out HG.out (by simp), fun _ => ⟨H1.out.1, H1.out.2.1, H1.out.2.2, by rw [HE2.out, List.map_append]; exact HSET.out⟩, fun h => by cases h⟩
          · have c1 := mayAcc_no (w.heap.size + 1) d 0 j x hi hk W1.heap.size _ hP hjb wr hd hrd g4
            have H2 : Hid (¬ doorP d.fro) := Lib.hid (fun h => accsP_not (j := j + 1) (fun h' => hP (hsu.1 h').2) h.2.2.1)
            have HB := Lib.hid hb
            have HD := Lib.hid hd
            have HS := Lib.hid hs
            have HJ := Lib.hid hj
            clear hx hb hd hs h1 h2 hj g1 g2 g3 g4 hi hk hrd hsu hP
            go_wp2_with (go_at_call 174; refine c1.mono ?_; clear c1; rintro e w2 ⟨rfl, x2⟩)
            have hj := HJ.out
            go_roundg (gk - 1)
            case measure => omega
            case rel => exact ⟨j + 1, false, by omega, int_congr (by omega), rfl, HX.out.trans x2, ext_blk x2 HB.out, DoorB.ext HD.out x2, SetIs.ext HS.out x2, fun h => (by cases h), fun _ => H2.out⟩
      · obtain rfl : j = d.accs.length := by omega
        rw [List.take_length] at h1
        have H1 : Hid (ok = true → fenN d.next d.opn = 0 ∧ numP d.ser ∧ accsP d.accs) := Lib.hid (fun h => ⟨(h1 h).1, (h1 h).2.1, (h1 h).2.2.1⟩)
        have H2 := Lib.hid h2
        have HX := Lib.hid hx
        have HB := Lib.hid hb
        have HD := Lib.hid hd
        have HS := Lib.hid hs
        obtain ⟨k0, k1, k2, k3, k4, k5⟩ := arr6f hb
        clear hx hb hd hs h1 h2 hj hjl
        go_wp2
        clear k0 k1 k2 k3 k4 k5
        go_loopg [4, 41] d.auts.length (fun g s4 s41 wr => ∃ (j : Nat) (ok : Bool), j + g = d.auts.length ∧ s41 = .int .i64 j ∧ s4 = .bool ok ∧ Ext w wr ∧
          Blk wr w.heap.size 96 #[.int .i64 d.next, .slice d.oA d.opn.length d.oc, .slice d.cA d.accs.length d.cc, .slice d.uA d.auts.length d.uc, .slice d.rA d.ords.length d.rc, .int .i64 d.ser] ∧ DoorB wr (w.heap.size + 1) d 0 ∧ SetIs wr (W1.heap.size + 1) [] ∧
          (ok = true → fenN d.next d.opn = 0 ∧ numP d.ser ∧ accsP d.accs ∧ autsP d.accs.length (d.auts.take j)) ∧ (ok = false → ¬ doorP d.fro))
        case atStart => exact ⟨0, ok, by omega, rfl, rfl, HX.out, HB.out, HD.out, HS.out, fun h => ⟨(H1.out h).1, (H1.out h).2.1, (H1.out h).2.2, fun i hi => by simp at hi⟩, H2.out⟩
        case round =>
          clear HX HB HD HS H1 H2
          obtain ⟨j, ok, hj, rfl, rfl, hx, hb, hd, hs, h1, h2⟩ := hrel
          have hjb : (j : Int) ≤ 1099511627776 := by have := HW.out.ul; omega
          by_cases hjl : j < d.auts.length
          · have hjd : decide (j < d.auts.length) = true := decide_eq_true hjl
            cases ok with
            | false =>
              have HX := Lib.hid hx
              have HB := Lib.hid hb
              have HD := Lib.hid hd
              have HS := Lib.hid hs
              have H2 := Lib.hid (h2 rfl)
              have HJ := Lib.hid hj
              clear hx hb hd hs h1 h2 hj
              go_wp2
              have hj := HJ.out
              go_roundg (gk - 1)
              case measure => omega
              case rel => exact ⟨j + 1, false, by omega, int_congr (by omega), rfl, HX.out, HB.out, HD.out, HS.out, fun h => (by cases h), fun _ => H2.out⟩
            | true =>
              obtain ⟨g1, g2, g3, g4⟩ := h1 rfl
              obtain ⟨x, hi⟩ : ∃ s, d.auts[j]? = some s := ⟨_, List.getElem?_eq_getElem hjl⟩
              have hk := HW.out.uw x (List.mem_of_getElem? hi)
              have hrd : Reads wr wr.heap.size 7 d.uA d.auts.length (autV d.auts) := (HW.out.aut.below hx.out).more hx.size
              have hsu := autsP_succ (n := d.accs.length) hi
              have HX := Lib.hid hx
              have c1 := mayAut_any (w.heap.size + 1) d 0 j x hi hk (by have := HU9.out; omega) HA9.out wr hd hrd
              have HB := Lib.hid hb
              have HD := Lib.hid hd
              have HS := Lib.hid hs
              have HJ := Lib.hid hj
              by_cases hP : autP d.accs.length j x
              · have H1 : Hid (fenN d.next d.opn = 0 ∧ numP d.ser ∧ accsP d.accs ∧ autsP d.accs.length (d.auts.take (j + 1))) := Lib.hid ⟨g1, g2, g3, hsu.2 ⟨g4, hP⟩⟩
                rw [decide_eq_true hP] at c1
                clear hx hb hd hs h1 h2 hj g1 g2 g3 g4 hi hk hrd hsu hP
                go_wp2_with (go_at_call 175; refine c1.mono ?_; clear c1; rintro e w2 ⟨rfl, x2⟩)
                have hj := HJ.out
                go_roundg (gk - 1)
                case measure => omega
                case rel => exact ⟨j + 1, true, by omega, int_congr (by omega), rfl, HX.out.trans x2, ext_blk x2 HB.out, DoorB.ext HD.out x2, SetIs.ext HS.out x2, fun _ => H1.out, fun h => (by cases h)⟩
              · have H2 : Hid (¬ doorP d.fro) := Lib.hid (fun h => autsP_not (j := j + 1) (fun h' => hP (hsu.1 h').2) h.2.2.2.1)
                rw [decide_eq_false hP] at c1
                clear hx hb hd hs h1 h2 hj g1 g2 g3 g4 hi hk hrd hsu hP
                go_wp2_with (go_at_call 175; refine c1.mono ?_; clear c1; rintro e w2 ⟨rfl, x2⟩)
                have hj := HJ.out
                go_roundg (gk - 1)
                case measure => omega
                case rel => exact ⟨j + 1, false, by omega, int_congr (by omega), rfl, HX.out.trans x2, ext_blk x2 HB.out, DoorB.ext HD.out x2, SetIs.ext HS.out x2, fun h => (by cases h), fun _ => H2.out⟩
          · obtain rfl : j = d.auts.length := by omega
            rw [List.take_length] at h1
            have H1 := Lib.hid h1
            have H2 := Lib.hid h2
            have HX := Lib.hid hx
            have HB := Lib.hid hb
            have HD := Lib.hid hd
            have HS := Lib.hid hs
            obtain ⟨k0, k1, k2, k3, k4, k5⟩ := arr6f hb
            clear hx hb hd hs h1 h2 hj hjl
            go_wp2
            clear k0 k1 k2 k3 k4 k5
            go_loopg [4, 54] d.ords.length (fun g s4 s54 wr => ∃ (j : Nat) (ok : Bool), j + g = d.ords.length ∧ s54 = .int .i64 j ∧ s4 = .bool ok ∧ Ext w wr ∧
              Blk wr w.heap.size 96 #[.int .i64 d.next, .slice d.oA d.opn.length d.oc, .slice d.cA d.accs.length d.cc, .slice d.uA d.auts.length d.uc, .slice d.rA d.ords.length d.rc, .int .i64 d.ser] ∧ DoorB wr (w.heap.size + 1) d 0 ∧
              (ok = true → fenN d.next d.opn = 0 ∧ numP d.ser ∧ accsP d.accs ∧ autsP d.accs.length d.auts ∧ ordsP d.accs.length d.auts d.ser ((d.ords.map (·.o)).take j) ∧ SetIs wr (W1.heap.size + 1) (issued ((d.ords.map (·.o)).take j))) ∧ (ok = false → ¬ doorP d.fro))
            case atStart => exact ⟨0, ok, by omega, rfl, rfl, HX.out, HB.out, HD.out, fun h => ⟨(H1.out h).1, (H1.out h).2.1, (H1.out h).2.2.1, (H1.out h).2.2.2, ⟨fun i hi => by simp at hi, by simp [issued]⟩, HS.out⟩, H2.out⟩
            case round =>
              clear HX HB HD HS H1 H2
              obtain ⟨j, ok, hj, rfl, rfl, hx, hb, hd, h1, h2⟩ := hrel
              have hjb : (j : Int) ≤ 1099511627776 := by have := HW.out.rl; omega
              by_cases hjl : j < d.ords.length
              · have hjd : decide (j < d.ords.length) = true := decide_eq_true hjl
                cases ok with
                | false =>
                  have HX := Lib.hid hx
                  have HB := Lib.hid hb
                  have HD := Lib.hid hd
                  have H2 := Lib.hid (h2 rfl)
                  have HJ := Lib.hid hj
                  clear hx hb hd h1 h2 hj
                  go_wp2
                  have hj := HJ.out
                  go_roundg (gk - 1)
                  case measure => omega
                  case rel => exact ⟨j + 1, false, by omega, int_congr (by omega), rfl, HX.out, HB.out, HD.out, fun h => (by cases h), fun _ => H2.out⟩
                | true =>
                  obtain ⟨g1, g2, g3, g4, g5, g6⟩ := h1 rfl
                  obtain ⟨x, hi⟩ : ∃ s, d.ords[j]? = some s := ⟨_, List.getElem?_eq_getElem hjl⟩
                  have hio : (d.ords.map (·.o))[j]? = some x.o := by rw [List.getElem?_map, hi]; rfl
                  have hk := (HW.out.rw x (List.mem_of_getElem? hi)).ext hx
                  have hrd : Reads wr wr.heap.size 8 d.rA d.ords.length (ordV d.ords) := (HW.out.ord.below hx.out).more hx.size
                  have hru : Reads wr wr.heap.size 7 d.uA d.auts.length (autV d.auts) := (HW.out.aut.below hx.out).more hx.size
                  have hsu := ordsP_succ (n := d.accs.length) (f := d.auts) (s := d.ser) hio
                  have HX := Lib.hid hx
                  have c1 := mayOrd_any (w.heap.size + 1) d 0 j x hi hjb (W1.heap.size + 1) _ (by have := issued_len ((d.ords.map (·.o)).take j); have := HW.out.rl; rw [List.length_take, List.length_map] at *; omega) wr hk hd hrd hru HW.out.ul g6
                  have HB := Lib.hid hb
                  have HD := Lib.hid hd
                  have HJ := Lib.hid hj
                  have HSU := Lib.hid hsu
                  have HG := Lib.hid (And.intro g1 (And.intro g2 (And.intro g3 (And.intro g4 g5))))
                  have HT := Lib.hid (tk_snoc hio)
                  have hm2 : Hid (W1.heap.size + 1 < wr.heap.size) := Lib.hid (World.ownsMap.lt g6)
                  clear hx hb hd h1 h2 hj g1 g2 g3 g4 g5 g6 hi hk hrd hru hsu hio
                  rcases Classical.em (mayO d j (issued ((d.ords.map (·.o)).take j)) x.o) with hP | hP
                  · have HP := Lib.hid hP
                    clear hP
                    go_wp2_with (go_at_call 176; refine c1.mono ?_; clear c1; rintro e w2 (⟨-, rfl, hset, hg⟩ | ⟨hno, -, -⟩); rotate_left; exact absurd HP.out hno; have HSET := Lib.hid hset; have HGR := Lib.hid hg; clear hset hg)
                    have hj := HJ.out
                    have hm := HM.out
                    have hm3 := hm2.out
                    go_roundg (gk - 1)
                    case measure => omega
                    case rel => exact ⟨j + 1, true, by omega, int_congr (by omega), rfl, Ext.of (HX.out.out.grown HGR.out HX.out.size (fun k hk => by cases hk; omega)), HB.out.grown HGR.out (by simp; omega), DoorB.grown HD.out HGR.out (by simp; omega), fun _ => ⟨HG.out.1, HG.out.2.1, HG.out.2.2.1, HG.out.2.2.2.1, HSU.out.2 ⟨HG.out.2.2.2.2, HP.out⟩, by rw [HT.out, ← addI_issued]; exact HSET.out⟩, fun h => (by cases h)⟩
                  · have HP := Lib.hid hP
                    have H2 : Hid (¬ doorP d.fro) := Lib.hid (fun h => ordsP_not (j := j + 1) (fun h' => hP (HSU.out.1 h').2) h.2.2.2.2)
                    clear hP
                    go_wp2_with (go_at_call 176; refine c1.mono ?_; clear c1; rintro e w2 (⟨hyes, -, -, -⟩ | ⟨-, rfl, x2⟩); exact absurd hyes HP.out)
                    have hj := HJ.out
                    go_roundg (gk - 1)
                    case measure => omega
                    case rel => exact ⟨j + 1, false, by omega, int_congr (by omega), rfl, HX.out.trans x2, ext_blk x2 HB.out, DoorB.ext HD.out x2, fun h => (by cases h), fun _ => H2.out⟩
              · obtain rfl : j = d.ords.length := by omega
                rw [show (d.ords.map (·.o)).take d.ords.length = d.ords.map (·.o) by rw [← List.length_map (f := fun x : OrdX => x.o), List.take_length]] at h1
                have HX := Lib.hid hx
                obtain ⟨k0, k1, k2, k3, k4, k5⟩ := arr6f hb
                have hjd : decide (d.ords.length < d.ords.length) = false := by simp
                cases ok with
                | false =>
                  have kk : Hid (chkF d.fro = 1) := Lib.hid (by unfold chkF; rw [if_pos (h2 rfl)])
                  clear hx hb hd h1 h2 hj hjl
                  go_wp2
                  go_ret
                  exact ⟨by rw [kk.out]; rfl, HX.out⟩
                | true =>
                  obtain ⟨g1, g2, g3, g4, g5, g6⟩ := h1 rfl
                  have hdp : doorP d.fro := ⟨g1, g2, g3, g4, g5⟩
                  have kk : Hid (chkF d.fro = if 64 < d.accs.length ∨ 256 < d.auts.length ∨ 128 < d.ords.length then 2 else 0) := Lib.hid (by
                    unfold chkF; rw [if_neg (by simpa using hdp)]; show (if 64 < d.accs.length ∨ 256 < d.auts.length ∨ 128 < (d.ords.map (·.o)).length then 2 else 0) = _; rw [List.length_map])
                  clear hx hb hd h1 h2 hj hjl g1 g2 g3 g4 g5 g6 hdp
                  by_cases l1 : (64 : Int) < d.accs.length
                  · have kk2 : Hid (chkF d.fro = 2) := Lib.hid (by rw [kk.out, if_pos (.inl (by omega))])
                    go_wp2
                    go_ret
                    exact ⟨by rw [kk2.out]; rfl, HX.out⟩
                  by_cases l2 : (256 : Int) < d.auts.length
                  · have kk2 : Hid (chkF d.fro = 2) := Lib.hid (by rw [kk.out, if_pos (.inr (.inl (by omega)))])
                    go_wp2
                    go_ret
                    exact ⟨by rw [kk2.out]; rfl, HX.out⟩
                  by_cases l3 : (128 : Int) < d.ords.length
                  · have kk2 : Hid (chkF d.fro = 2) := Lib.hid (by rw [kk.out, if_pos (.inr (.inr (by omega)))])
                    go_wp2
                    go_ret
                    exact ⟨by rw [kk2.out]; rfl, HX.out⟩
                  · have kk2 : Hid (chkF d.fro = 0) := Lib.hid (by rw [kk.out, if_neg (by omega)])
                    go_wp2
                    go_ret
                    exact ⟨by rw [kk2.out]; rfl, HX.out⟩
end Go.Proofs.YtfpmfegmehbfbaaGreatDoor

/- The door, walked: Nonce. -/
namespace Go.Proofs.YtfpmfegmehbfbaaGreatDoor
set_option linter.unusedVariables false
set_option linter.unusedSimpArgs false
open Go.RowKit Go.Shelf Go.Maps

/-! ### a door that is handed back -/
section
variable {W w : World} {g : Nat} {T : TypeId} {a b c d e f a' b' c' d' e' f' : Value}
theorem st6 (k : Blk W g T #[a, b, c, d, e, f]) : W.cell? ⟨g, 0, none⟩ = some a ∧ W.cell? ⟨g, 1, none⟩ = some b ∧ W.cell? ⟨g, 2, none⟩ = some c ∧ W.cell? ⟨g, 3, none⟩ = some d ∧ W.cell? ⟨g, 4, none⟩ = some e ∧ W.cell? ⟨g, 5, none⟩ = some f ∧
    W.frozen? ⟨g, 0, none⟩ = false ∧ W.frozen? ⟨g, 1, none⟩ = false ∧ W.frozen? ⟨g, 2, none⟩ = false ∧ W.frozen? ⟨g, 3, none⟩ = false ∧ W.frozen? ⟨g, 4, none⟩ = false ∧ W.frozen? ⟨g, 5, none⟩ = false :=
  ⟨k.cell 0, k.cell 1, k.cell 2, k.cell 3, k.cell 4, k.cell 5, k.frozen 0, k.frozen 1, k.frozen 2, k.frozen 3, k.frozen 4, k.frozen 5⟩
/-- Six stores into a block of six. -/
theorem blk6 (k : Blk W g T #[a, b, c, d, e, f]) (a' b' c' d' e' f' : Value) : Blk ((((((W.setCell ⟨g, 0, none⟩ a').setCell ⟨g, 1, none⟩ b').setCell ⟨g, 2, none⟩ c').setCell ⟨g, 3, none⟩ d').setCell ⟨g, 4, none⟩ e').setCell ⟨g, 5, none⟩ f') g T #[a', b', c', d', e', f'] :=
  ((((((k.set_ 0 a').set_ 1 b').set_ 2 c').set_ 3 d').set_ 4 e').set_ 5 f')
theorem ext6 (h : Ext w W) (hg : w.heap.size ≤ g) (a' b' c' d' e' f' : Value) : Ext w ((((((W.setCell ⟨g, 0, none⟩ a').setCell ⟨g, 1, none⟩ b').setCell ⟨g, 2, none⟩ c').setCell ⟨g, 3, none⟩ d').setCell ⟨g, 4, none⟩ e').setCell ⟨g, 5, none⟩ f') :=
  (((((h.setCell (p := ⟨g, 0, none⟩) hg _).setCell (p := ⟨g, 1, none⟩) hg _).setCell (p := ⟨g, 2, none⟩) hg _).setCell (p := ⟨g, 3, none⟩) hg _).setCell (p := ⟨g, 4, none⟩) hg _).setCell (p := ⟨g, 5, none⟩) hg _
end
def doorZ : DoorX := ⟨0, 0, [], [], [], [], none, 0, none, 0, none, 0, none, 0⟩
theorem doorZ_w (w : World) (B : Nat) : DoorW w B doorZ :=
  ⟨nons_nil w B, wf64_of (by decide) (by decide), Reads.none_, by simp [doorZ], by simp [doorZ], by simp [doorZ], Reads.none_, by simp [doorZ], by simp [doorZ], by simp [doorZ], Reads.none_, by simp [doorZ], by simp [doorZ], by simp [doorZ]⟩
/-- Where something lies. -/
def Lies (S : Nat → Prop) (A : Option Addr) (n : Nat) : Prop := 0 < n → ∀ ad, A = some ad → S ad.block
theorem Lies.mono {S S' : Nat → Prop} {A : Option Addr} {n : Nat} (h : Lies S A n) (k : ∀ b, S b → S' b) : Lies S' A n := fun h0 ad e => k _ (h h0 ad e)
theorem Lies.zero (S : Nat → Prop) (A : Option Addr) : Lies S A 0 := fun h => absurd h (by omega)
theorem Lies.own {S : Nat → Prop} {w : World} {base : Nat} {T : TypeId} {size n c : Nat} {A : Option Addr} {xs : List Value} (h : w.ownsRow base T size (.slice A n c) n xs) (k : ∀ b, base ≤ b → S b) : Lies S A n := fun h0 ad e => by
  obtain ⟨g, cap, hv, hg, _⟩ := h.form h0
  subst e
  cases hv
  exact k _ hg
theorem Reads.stay {w w' : World} {B B' size n : Nat} {A : Option Addr} {xs : List Value} {S : Nat → Prop} (h : Reads w B size A n xs) (hl : Lies S A n) (hB : B ≤ B') (hk : ∀ k, S k → k < B → w'.heap[k]? = w.heap[k]?) : Reads w' B' size A n xs :=
  ⟨h.1, fun hn => by
    obtain ⟨ad, e, hb, hc⟩ := h.2 hn
    exact ⟨ad, e, by omega, fun j u hu => (World.cell?_of_block (by rw [block_of_add]; exact hk _ (hl hn ad e) hb)).trans (hc j u hu)⟩⟩
theorem Reads.lies {w : World} {B size n : Nat} {A : Option Addr} {xs : List Value} (h : Reads w B size A n xs) : Lies (fun k => k < B) A n := fun hn ad e => by
  obtain ⟨ad', e', hb, _⟩ := h.2 hn
  rw [e] at e'; cases e'; exact hb
/-- Where a door's parts lie. -/
structure DoorL (S : Nat → Prop) (d : DoorX) : Prop where
  o : Lies S d.oA d.opn.length
  c : Lies S d.cA d.accs.length
  u : Lies S d.uA d.auts.length
  r : Lies S d.rA d.ords.length
  n : ∀ x ∈ d.ords, Lies S x.nA x.o.names.length
  a : ∀ x ∈ d.ords, Lies S x.aA x.o.auths.length
theorem DoorL.mono {S S' : Nat → Prop} {d : DoorX} (h : DoorL S d) (k : ∀ b, S b → S' b) : DoorL S' d := ⟨h.o.mono k, h.c.mono k, h.u.mono k, h.r.mono k, fun x hx => (h.n x hx).mono k, fun x hx => (h.a x hx).mono k⟩
theorem DoorW.lies {w : World} {B : Nat} {d : DoorX} (h : DoorW w B d) : DoorL (fun k => k < B) d := ⟨h.non.lst.lies, h.acc.lies, h.aut.lies, h.ord.lies, fun x hx => (h.rw x hx).names.lies, fun x hx => (h.rw x hx).auths.lies⟩
theorem OrdW.stay {w w' : World} {B B' : Nat} {x : OrdX} {S : Nat → Prop} (h : OrdW w B x) (h1 : Lies S x.nA x.o.names.length) (h2 : Lies S x.aA x.o.auths.length) (hB : B ≤ B') (hk : ∀ k, S k → k < B → w'.heap[k]? = w.heap[k]?) : OrdW w' B' x :=
  ⟨h.id, h.acc, h.key, h.life, h.st, h.ser, h.names.stay h1 hB hk, h.nc, h.nl, h.ns, h.auths.stay h2 hB hk, h.ac, h.al, h.aw⟩
theorem DoorW.stay {w w' : World} {B B' : Nat} {d : DoorX} {S : Nat → Prop} (h : DoorW w B d) (hl : DoorL S d) (hB : B ≤ B') (hk : ∀ k, S k → k < B → w'.heap[k]? = w.heap[k]?) : DoorW w' B' d :=
  ⟨⟨h.non.nx, h.non.lst.stay hl.o hB hk, h.non.cap, h.non.len, h.non.wf⟩, h.ser, h.acc.stay hl.c hB hk, h.cc, h.cl, h.cw, h.aut.stay hl.u hB hk, h.uc, h.ul, h.uw, h.ord.stay hl.r hB hk, h.rc, h.rl, fun x hx => (h.rw x hx).stay (hl.n x hx) (hl.a x hx) hB hk⟩
theorem doorZ_l (S : Nat → Prop) : DoorL S doorZ := ⟨Lies.zero _ _, Lies.zero _ _, Lies.zero _ _, Lies.zero _ _, by simp [doorZ], by simp [doorZ]⟩
/-- What lay there, or is new. -/
def orNew (S : Nat → Prop) (w : World) : Nat → Prop := fun k => S k ∨ w.heap.size ≤ k
/-- What is handed back: a door, a number, an error. -/
def outD (d0 : DoorX) (r : OutF) (w : World) (e : Ending) (w' : World) : Prop := ∃ d, e = .returned (.tuple #[frontV d, .int .i64 r.2.1, .int .i64 (r.2.2 : Nat)]) ∧ d.fro = r.1 ∧ DoorW w' w'.heap.size d ∧ (∀ S, DoorL S d0 → DoorL (orNew S w) d) ∧ Ext w w'
theorem outD_bad {d0 : DoorX} {w w' : World} {E : Nat} {e : Ending} (he : e = .returned (.tuple #[.agg #[.int .i64 0, .slice none 0 0, .slice none 0 0, .slice none 0 0, .slice none 0 0, .int .i64 0], .int .i64 0, .int .i64 (E : Int)])) (x : Ext w w') : outD d0 (bad E) w e w' := ⟨doorZ, he, rfl, doorZ_w _ _, fun _ _ => doorZ_l _, x⟩
def outS (d0 : DoorX) (r : FroR × Nat) (w : World) (e : Ending) (w' : World) : Prop := ∃ d, e = .returned (.tuple #[frontV d, .int .i64 (r.2 : Nat)]) ∧ d.fro = r.1 ∧ DoorW w' w'.heap.size d ∧ (∀ S, DoorL S d0 → DoorL (orNew S w) d) ∧ Ext w w'
theorem outS_bad {d0 : DoorX} {w w' : World} {E : Nat} {e : Ending} (he : e = .returned (.tuple #[.agg #[.int .i64 0, .slice none 0 0, .slice none 0 0, .slice none 0 0, .slice none 0 0, .int .i64 0], .int .i64 (E : Int)])) (x : Ext w w') : outS d0 (froZ, E) w e w' := ⟨doorZ, he, rfl, doorZ_w _ _, fun _ _ => doorZ_l _, x⟩
/-- The same door with other nonces. -/
def withN (d : DoorX) (next : Int) (l : List NonR) (A : Option Addr) (c : Nat) : DoorX := { d with next := next, opn := l, oA := A, oc := c }
theorem withN_w {w : World} {B : Nat} {d : DoorX} {next : Int} {l : List NonR} {A : Option Addr} {c : Nat} (h : DoorW w B d) (hn : NonsW w B next l A c) : DoorW w B (withN d next l A c) := ⟨hn, h.ser, h.acc, h.cc, h.cl, h.cw, h.aut, h.uc, h.ul, h.uw, h.ord, h.rc, h.rl, h.rw⟩
theorem chkF_fen {d : DoorX} (h : chkF d.fro = 0) : fenN d.next d.opn = 0 := fen_of h
set_option maxRecDepth 100000 in
set_option maxHeartbeats 4000000 in
theorem oNonce_any (d : DoorX) (hu9 : d.auts.length < 100) (ha9 : d.accs.length < 100) (now : Int) (w : World) (hw : DoorW w w.heap.size d) :
    Calls Tryz.prog 90 #[frontV d, .int .i64 now] w (outD d (nonF d.fro now) w) := by
  obtain ⟨W0, e0, b0, b1, x0, s0⟩ := startP w #[.int .i64 d.next, .slice d.oA d.opn.length d.oc, .slice d.cA d.accs.length d.cc, .slice d.uA d.auts.length d.uc, .slice d.rA d.ords.length d.rc, .int .i64 d.ser]
    #[.int .i64 0, .slice none 0 0, .slice none 0 0, .slice none 0 0, .slice none 0 0, .int .i64 0] 96 96
  have cC := oCheck_any d hu9 ha9 W0 (hw.ext x0)
  have cT := fun W (h : Ext W0 W) => Tell_any d.next d.opn d.oA d.oc now W (hw.non.ext (x0.trans h))
  obtain ⟨E, hE⟩ : ∃ E, chkF d.fro = E := ⟨_, rfl⟩
  rw [hE] at cC
  have HW := Lib.hid hw
  have HB0 := Lib.hid b0
  have HB1 := Lib.hid b1
  have HX0 := Lib.hid x0
  have HS0 := Lib.hid s0
  have HE := Lib.hid hE
  unfold frontV at cC ⊢
  unfold fenV at cT
  clear b0 b1 x0 s0 hw hE hu9 ha9
  by_cases h0 : E = 0
  case neg =>
    have hR : nonF d.fro now = bad E := by unfold nonF; rw [HE.out, if_pos h0]
    rw [hR]
    have k0 : ((E : Int) != 0) = true := by simp; omega
    clear h0 hR cT
    go_enter Tryz.func90, Tryz.ntmps90
    subst e0
    go_wp2_with (go_at_call 92; refine cC.mono ?_; clear cC; rintro e w1 ⟨rfl, x1⟩; have b2 := ext_blk x1 HB1.out; obtain ⟨q0, q1, q2, q3, q4, q5, f0, f1, f2, f3, f4, f5⟩ := st6 b2; have BB := Lib.hid (blk6 b2 (.int .i64 0) (.slice none 0 0) (.slice none 0 0) (.slice none 0 0) (.slice none 0 0) (.int .i64 0)); clear b2)
    obtain ⟨r0, r1, r2, r3, r4, r5⟩ := arr6f BB.out
    refine bodyPost_ret (v := .tuple #[.agg #[.int .i64 0, .slice none 0 0, .slice none 0 0, .slice none 0 0, .slice none 0 0, .int .i64 0], .int .i64 0, .int .i64 (E : Int)]) (by simp [results, Tryz.results90, go_sem, r0, r1, r2, r3, r4, r5]) rfl (outD_bad rfl (ext6 (HX0.out.trans x1) (by simp) _ _ _ _ _ _))
  subst h0
  have hf := chkF_fen HE.out
  obtain ⟨E, hE⟩ : ∃ E, tellE d.next d.opn now 20 = E := ⟨_, rfl⟩
  by_cases h0 : E = 0
  case neg =>
    have hR : nonF d.fro now = bad E := by unfold nonF; rw [if_neg (by rw [HE.out]; simp)]; show (if tellE d.next d.opn now 20 ≠ 0 then _ else _) = _; rw [hE, if_pos h0]; show bad (tellE d.next d.opn now 20) = _; rw [hE]
    rw [hR]
    rw [tellR_no hE h0] at cT
    have k0 : ((E : Int) != 0) = true := by simp; omega
    clear h0 hR hE hf
    go_enter Tryz.func90, Tryz.ntmps90
    subst e0
    go_wp2_with (first
      | (go_at_call 92; refine cC.mono ?_; clear cC; rintro e w1 ⟨rfl, x1⟩; obtain ⟨m0, m1, m2, m3, m4, m5⟩ := arr6f (ext_blk x1 HB0.out))
      | (go_at_call 171; refine (cT _ x1).mono ?_; clear cT m0 m1 m2 m3 m4 m5; rintro e w2 ⟨A2, c2, rfl, hn2, x2⟩; have x3 := x1.trans x2; obtain ⟨m0, m1, m2, m3, m4, m5, n0, n1, n2, n3, n4, n5⟩ := st6 (ext_blk x3 HB0.out); have b2 := ((ext_blk x3 HB1.out).far (p := ⟨w.heap.size, 0, none⟩) (by simp) (.int .i64 0)).far (p := ⟨w.heap.size, 1, none⟩) (by simp) (.slice A2 0 c2); obtain ⟨q0, q1, q2, q3, q4, q5, f0, f1, f2, f3, f4, f5⟩ := st6 (ext_blk x3 HB1.out); have BB := Lib.hid (blk6 b2 (.int .i64 0) (.slice none 0 0) (.slice none 0 0) (.slice none 0 0) (.slice none 0 0) (.int .i64 0)); clear b2 hn2; unfold fenV))
    obtain ⟨r0, r1, r2, r3, r4, r5⟩ := arr6f BB.out
    refine bodyPost_ret (v := .tuple #[.agg #[.int .i64 0, .slice none 0 0, .slice none 0 0, .slice none 0 0, .slice none 0 0, .int .i64 0], .int .i64 0, .int .i64 (E : Int)]) (by simp [results, Tryz.results90, go_sem, r0, r1, r2, r3, r4, r5]) rfl (outD_bad rfl (ext6 (((HX0.out.trans x3).setCell (p := ⟨w.heap.size, 0, none⟩) (by simp) _).setCell (p := ⟨w.heap.size, 1, none⟩) (by simp) _) (by simp) _ _ _ _ _ _))
  subst h0
  have hR : nonF d.fro now = ({ d.fro with next := d.next + 1, opn := tellL d.next d.opn now 20 }, d.next, 0) := by unfold nonF; rw [if_neg (by rw [HE.out]; simp), if_neg (by show ¬ tellE d.next d.opn now 20 ≠ 0; rw [hE]; simp)]; rfl
  rw [hR]
  rw [tellR_ok hE] at cT
  have HTE := Lib.hid hE
  clear hR hE hf
  obtain ⟨N, hN⟩ : ∃ N, N = (tellL d.next d.opn now 20).length := ⟨_, rfl⟩
  unfold tellPost fenV at cT
  simp only at cT
  rw [← hN] at cT
  have HN := Lib.hid hN
  clear hN
  go_enter Tryz.func90, Tryz.ntmps90
  subst e0
  go_wp2_with (first
    | (go_at_call 92; refine cC.mono ?_; clear cC; rintro e w1 ⟨rfl, x1⟩; obtain ⟨m0, m1, m2, m3, m4, m5⟩ := arr6f (ext_blk x1 HB0.out))
    | (go_at_call 171; refine (cT _ x1).mono ?_; clear cT m0 m1 m2 m3 m4 m5; rintro e w2 ⟨A2, c2, rfl, hn2, x2⟩; have x3 := x1.trans x2; have HN2 := Lib.hid hn2; obtain ⟨m0, m1, m2, m3, m4, m5, n0, n1, n2, n3, n4, n5⟩ := st6 (ext_blk x3 HB0.out); have b2 := ((ext_blk x3 HB1.out).far (p := ⟨w.heap.size, 0, none⟩) (by simp) (.int .i64 (d.next + 1))).far (p := ⟨w.heap.size, 1, none⟩) (by simp) (.slice A2 N c2); obtain ⟨q0, q1, q2, q3, q4, q5, f0, f1, f2, f3, f4, f5⟩ := st6 (ext_blk x3 HB1.out); have BB := Lib.hid (blk6 b2 (.int .i64 (d.next + 1)) (.slice A2 N c2) (.slice d.cA d.accs.length d.cc) (.slice d.uA d.auts.length d.uc) (.slice d.rA d.ords.length d.rc) (.int .i64 d.ser)); clear b2 hn2))
  obtain ⟨r0, r1, r2, r3, r4, r5⟩ := arr6f BB.out
  have xf := HX0.out.trans x3
  have o3 := HN2.out
  have hF := tell_fen (HTE.out)
  have hs3 : w.heap.size + 2 ≤ w1.heap.size := by have := x1.size; simp at this; omega
  have o9 := own_far (own_far (own_base o3 hs3) (g := w.heap.size) (by omega) 0 (.int .i64 (d.next + 1))) (g := w.heap.size) (by omega) 1 (.slice A2 N c2)
  have x9 := (xf.setCell (p := ⟨w.heap.size, 0, none⟩) (Nat.le_refl _) (.int .i64 (d.next + 1))).setCell (p := ⟨w.heap.size, 1, none⟩) (Nat.le_refl _) (.slice A2 N c2)
  have o10 := own_far (own_far (own_far (own_far (own_far (own_far o9 (g := w.heap.size + 1) (by omega) 0 (.int .i64 (d.next + 1))) (g := w.heap.size + 1) (by omega) 1 (.slice A2 N c2)) (g := w.heap.size + 1) (by omega) 2 (.slice d.cA d.accs.length d.cc)) (g := w.heap.size + 1) (by omega) 3 (.slice d.uA d.auts.length d.uc)) (g := w.heap.size + 1) (by omega) 4 (.slice d.rA d.ords.length d.rc)) (g := w.heap.size + 1) (by omega) 5 (.int .i64 d.ser)
  have x10 := ext6 x9 (g := w.heap.size + 1) (by omega) (.int .i64 (d.next + 1)) (.slice A2 N c2) (.slice d.cA d.accs.length d.cc) (.slice d.uA d.auts.length d.uc) (.slice d.rA d.ords.length d.rc) (.int .i64 d.ser)
  have key : ∀ WF : World, Ext w WF → WF.ownsRow (w.heap.size + 2) 274 2 (.slice A2 N c2) N (nonV (tellL d.next d.opn now 20)) → DoorW WF WF.heap.size (withN d (d.next + 1) (tellL d.next d.opn now 20) A2 c2) := fun WF x o => by
    rw [HN.out] at o
    exact withN_w (HW.out.ext x) (nons_own o hF)
  have key2 : Lies (fun b => w.heap.size ≤ b) A2 (tellL d.next d.opn now 20).length := by rw [← HN.out]; exact Lies.own o3 (fun b hb => by omega)
  have kd := key _ x10 o10
  clear key o10 o9 o3
  refine bodyPost_ret (v := .tuple #[.agg #[.int .i64 (d.next + 1), .slice A2 N c2, .slice d.cA d.accs.length d.cc, .slice d.uA d.auts.length d.uc, .slice d.rA d.ords.length d.rc, .int .i64 d.ser], .int .i64 d.next, .int .i64 0]) (by simp [results, Tryz.results90, go_sem, r0, r1, r2, r3, r4, r5]) rfl ⟨withN d (d.next + 1) (tellL d.next d.opn now 20) A2 c2, ?_, rfl, ?_, ?_, ?_⟩
  · unfold frontV withN; simp only; rw [← HN.out]; rfl
  · exact kd
  · intro S hS
    exact ⟨key2.mono (fun b hb => .inr hb), hS.c.mono (fun b h => .inl h), hS.u.mono (fun b h => .inl h), hS.r.mono (fun b h => .inl h), fun x hx => (hS.n x hx).mono (fun b h => .inl h), fun x hx => (hS.a x hx).mono (fun b h => .inl h)⟩
  · exact x10
end Go.Proofs.YtfpmfegmehbfbaaGreatDoor
