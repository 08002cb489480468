/- Parts of the proofs, put together: OrSame2, OrH, OrT13, OrT14, OrT15, OrT20, OrT21, OrT22, OrT23. -/
import Derived.Test.YtbhdmfijdhcehaaGreatDoorQ12
import Derived.Test.YtbhdmfijdhcehaaGreatDoorQ24
import Derived.Test.YtbhdmfijdhcehaaGreatDoorQ25
import Derived.Test.YtbhdmfijdhcehaaGreatDoorQ26
namespace Go.Proofs.YtbhdmfijdhcehaaGreatDoor
open Go.RowKit Go.Shelf Go.Maps
set_option linter.unusedSimpArgs false
set_option linter.unusedVariables false
theorem fro_eq {d f : DoorX} (h : d.fro = f.fro) : d.next = f.next ∧ d.opn = f.opn ∧ d.accs = f.accs ∧ d.auts = f.auts ∧ d.ords.map (·.o) = f.ords.map (·.o) ∧ d.ser = f.ser := by
  unfold DoorX.fro at h
  simp only [FroR.mk.injEq] at h
  exact h
theorem fro_eq_mk {d f : DoorX} (h1 : d.next = f.next) (h2 : d.opn = f.opn) (h3 : d.accs = f.accs) (h4 : d.auts = f.auts) (h5 : d.ser = f.ser) : d.fro = f.fro ↔ d.ords.map (·.o) = f.ords.map (·.o) := by
  unfold DoorX.fro
  simp [h1, h2, h3, h4, h5]
theorem DoorW.ords {w : World} {d : DoorX} (h : DoorW w w.heap.size d) : OrdsW w d.rA d.ords := ⟨h.ord, by have := h.rl; omega, h.rw⟩
set_option maxRecDepth 100000 in
set_option maxHeartbeats 16000000 in
theorem Same22_any (d f : DoorX) (w : World) (hd : DoorW w w.heap.size d) (hf : DoorW w w.heap.size f) :
    Calls Tryz.prog 20 #[frontV d, frontV f] w fun e w' => e = .returned (.bool (decide (d.fro = f.fro))) ∧ Ext w w' := by
  obtain ⟨W0, e0, b0, b1, x0, s0⟩ := startP w #[.int .i64 d.next, .slice d.oA d.opn.length d.oc, .slice d.cA d.accs.length d.cc, .slice d.uA d.auts.length d.uc, .slice d.rA d.ords.length d.rc, .int .i64 d.ser] #[.int .i64 f.next, .slice f.oA f.opn.length f.oc, .slice f.cA f.accs.length f.cc, .slice f.uA f.auts.length f.uc, .slice f.rA f.ords.length f.rc, .int .i64 f.ser] 43 43
  have HD := Lib.hid (hd.ext x0)
  have HF := Lib.hid (hf.ext x0)
  have HB0 := Lib.hid b0
  have HB1 := Lib.hid b1
  have HX0 := Lib.hid x0
  obtain ⟨m0, m1, m2, m3, m4, m5⟩ := arr6f b0
  obtain ⟨n0, n1, n2, n3, n4, n5⟩ := arr6f b1
  unfold frontV
  clear b0 b1 x0 s0 hd hf
  go_enter Tryz.func20, Tryz.ntmps20
  go_upto_region 1 with (fail)
  try rw [e0]
  clear e0
  by_cases h1 : d.next = f.next
  case neg =>
    have hno : Hid (decide (d.fro = f.fro) = false) := Lib.hid (decide_eq_false fun e => h1 (fro_eq e).1)
    have kh1 : (d.next != f.next) = true := by simp; omega
    clear h1
    go_wp2
    go_ret
    exact ⟨ret_bool hno.out.symm, HX0.out⟩
  have kh1 : (d.next != f.next) = false := by simp; omega
  by_cases h2 : d.opn.length = f.opn.length
  case neg =>
    have hno : Hid (decide (d.fro = f.fro) = false) := Lib.hid (decide_eq_false fun e => h2 (by rw [(fro_eq e).2.1]))
    have kh2 : ((d.opn.length : Int) != (f.opn.length : Int)) = true := by simp; omega
    clear h1 h2
    go_wp2
    go_ret
    exact ⟨ret_bool hno.out.symm, HX0.out⟩
  have kh2 : ((d.opn.length : Int) != (f.opn.length : Int)) = false := by simp; omega
  by_cases h3 : d.accs.length = f.accs.length
  case neg =>
    have hno : Hid (decide (d.fro = f.fro) = false) := Lib.hid (decide_eq_false fun e => h3 (by rw [(fro_eq e).2.2.1]))
    have kh3 : ((d.accs.length : Int) != (f.accs.length : Int)) = true := by simp; omega
    clear h1 h2 h3
    go_wp2
    go_ret
    exact ⟨ret_bool hno.out.symm, HX0.out⟩
  have kh3 : ((d.accs.length : Int) != (f.accs.length : Int)) = false := by simp; omega
  by_cases h4 : d.auts.length = f.auts.length
  case neg =>
    have hno : Hid (decide (d.fro = f.fro) = false) := Lib.hid (decide_eq_false fun e => h4 (by rw [(fro_eq e).2.2.2.1]))
    have kh4 : ((d.auts.length : Int) != (f.auts.length : Int)) = true := by simp; omega
    clear h1 h2 h3 h4
    go_wp2
    go_ret
    exact ⟨ret_bool hno.out.symm, HX0.out⟩
  have kh4 : ((d.auts.length : Int) != (f.auts.length : Int)) = false := by simp; omega
  by_cases h5 : d.ser = f.ser
  case neg =>
    have hno : Hid (decide (d.fro = f.fro) = false) := Lib.hid (decide_eq_false fun e => h5 (fro_eq e).2.2.2.2.2)
    have kh5 : (d.ser != f.ser) = true := by simp; omega
    clear h1 h2 h3 h4 h5
    go_wp2
    go_ret
    exact ⟨ret_bool hno.out.symm, HX0.out⟩
  have kh5 : (d.ser != f.ser) = false := by simp; omega
  have H1 := Lib.hid h1
  have H2 := Lib.hid h2
  have H3 := Lib.hid h3
  have H4 := Lib.hid h4
  have H5 := Lib.hid h5
  clear h1 h2 h3 h4 h5
  go_wp2
  go_loopg [5] d.opn.length (fun g s5 wr => ∃ j : Nat, j + g = d.opn.length ∧ s5 = .int .i64 j ∧ d.opn.take j = f.opn.take j ∧ Ext W0 wr)
  case atStart => exact ⟨0, by omega, rfl, by simp, Ext.refl W0⟩
  case round =>
    obtain ⟨j, hj, rfl, hok, hx⟩ := hrel
    have XW := Lib.hid ((Ext.refl W0).trans hx)
    obtain ⟨m0, m1, m2, m3, m4, m5⟩ := arr6f (ext_blk XW.out HB0.out)
    obtain ⟨n0, n1, n2, n3, n4, n5⟩ := arr6f (ext_blk XW.out HB1.out)
    by_cases h : j < d.opn.length
    · obtain ⟨s, hs⟩ : ∃ s, d.opn[j]? = some s := ⟨_, List.getElem?_eq_getElem h⟩
      obtain ⟨t, ht⟩ : ∃ s, f.opn[j]? = some s := ⟨_, List.getElem?_eq_getElem (by rw [← H2.out]; exact h)⟩
      obtain ⟨ad, hA, hlA, q0, q1⟩ := reads_non (HD.out.ext XW.out).non.lst hs
      obtain ⟨bd, hB, hlB, r0, r1⟩ := reads_non (HF.out.ext XW.out).non.lst ht
      rw [hA] at m1
      rw [hB] at n1
      have hjb : (j : Int) ≤ 1099511627776 := by have := HD.out.non.len; omega
      have hjd : (j : Int) < (d.opn.length : Int) := by omega
      have hjf : (j : Int) < (f.opn.length : Int) := by have := H2.out; omega
      have HJ := Lib.hid hj
      have hXd := Lib.hid hx.drew
      have m1' := fun n : Nat => show (wr.drewN n).cell? _ = _ from m1
      have n1' := fun n : Nat => show (wr.drewN n).cell? _ = _ from n1
      have q0' := fun n : Nat => show (wr.drewN n).cell? _ = _ from q0
      have q1' := fun n : Nat => show (wr.drewN n).cell? _ = _ from q1
      have r0' := fun n : Nat => show (wr.drewN n).cell? _ = _ from r0
      have r1' := fun n : Nat => show (wr.drewN n).cell? _ = _ from r1
      have hse := fun w : World => eqNon s t w
      by_cases hst : s = t
      · have hok' : Hid (d.opn.take (j + 1) = f.opn.take (j + 1)) := Lib.hid (take_eq_succ hs ht hok hst)
        rw [decide_eq_true hst] at hse
        clear hx hj hok hs ht hst hA hB hlA hlB
        go_wp2
        go_region
        all_goals go_wp2
        have hj := HJ.out
        all_goals go_roundg (gk - 1)
        case measure => omega
        case rel => exact ⟨j + 1, by omega, int_congr (by omega), hok'.out, hXd.out⟩
      · have hno : Hid (decide (d.fro = f.fro) = false) := Lib.hid (decide_eq_false fun e => eq_no hs ht hst (fro_eq e).2.1)
        rw [decide_eq_false hst] at hse
        clear hx hj hok hs ht hst hA hB hlA hlB
        go_wp2
        go_region
        all_goals go_wp2
        all_goals go_ret
        all_goals exact ⟨ret_bool hno.out.symm, (HX0.out.trans XW.out).drew⟩
    · obtain rfl : j = d.opn.length := by omega
      have E2 : Hid (d.opn = f.opn) := Lib.hid (by rw [List.take_length] at hok; rw [hok, H2.out, List.take_length])
      obtain ⟨W1, hW1⟩ : ∃ W, W = wr := ⟨_, rfl⟩
      rw [← hW1] at XW m0 m1 m2 m3 m4 m5 n0 n1 n2 n3 n4 n5 ⊢
      have X1 := XW
      clear hx hj hok hW1 h XW
      go_wp2
      go_loopg [6] d.accs.length (fun g s6 wr => ∃ j : Nat, j + g = d.accs.length ∧ s6 = .int .i64 j ∧ d.accs.take j = f.accs.take j ∧ Ext W1 wr)
      case atStart => exact ⟨0, by omega, rfl, by simp, Ext.refl W1⟩
      case round =>
        obtain ⟨j, hj, rfl, hok, hx⟩ := hrel
        have XW := Lib.hid (X1.out.trans hx)
        obtain ⟨m0, m1, m2, m3, m4, m5⟩ := arr6f (ext_blk XW.out HB0.out)
        obtain ⟨n0, n1, n2, n3, n4, n5⟩ := arr6f (ext_blk XW.out HB1.out)
        by_cases h : j < d.accs.length
        · obtain ⟨s, hs⟩ : ∃ s, d.accs[j]? = some s := ⟨_, List.getElem?_eq_getElem h⟩
          obtain ⟨t, ht⟩ : ∃ s, f.accs[j]? = some s := ⟨_, List.getElem?_eq_getElem (by rw [← H3.out]; exact h)⟩
          obtain ⟨ad, hA, hlA, q0, q1⟩ := reads_acc (HD.out.ext XW.out).acc hs
          obtain ⟨bd, hB, hlB, r0, r1⟩ := reads_acc (HF.out.ext XW.out).acc ht
          rw [hA] at m2
          rw [hB] at n2
          have hjb : (j : Int) ≤ 1099511627776 := by have := HD.out.cl; omega
          have hjd : (j : Int) < (d.accs.length : Int) := by omega
          have hjf : (j : Int) < (f.accs.length : Int) := by have := H3.out; omega
          have HJ := Lib.hid hj
          have hXd := Lib.hid hx.drew
          have m2' := fun n : Nat => show (wr.drewN n).cell? _ = _ from m2
          have n2' := fun n : Nat => show (wr.drewN n).cell? _ = _ from n2
          have q0' := fun n : Nat => show (wr.drewN n).cell? _ = _ from q0
          have q1' := fun n : Nat => show (wr.drewN n).cell? _ = _ from q1
          have r0' := fun n : Nat => show (wr.drewN n).cell? _ = _ from r0
          have r1' := fun n : Nat => show (wr.drewN n).cell? _ = _ from r1
          have hse := fun w : World => eqAcc s t w
          by_cases hst : s = t
          · have hok' : Hid (d.accs.take (j + 1) = f.accs.take (j + 1)) := Lib.hid (take_eq_succ hs ht hok hst)
            rw [decide_eq_true hst] at hse
            clear hx hj hok hs ht hst hA hB hlA hlB
            go_wp2
            go_region
            all_goals go_wp2
            have hj := HJ.out
            all_goals go_roundg (gk - 1)
            case measure => omega
            case rel => exact ⟨j + 1, by omega, int_congr (by omega), hok'.out, hXd.out⟩
          · have hno : Hid (decide (d.fro = f.fro) = false) := Lib.hid (decide_eq_false fun e => eq_no hs ht hst (fro_eq e).2.2.1)
            rw [decide_eq_false hst] at hse
            clear hx hj hok hs ht hst hA hB hlA hlB
            go_wp2
            go_region
            all_goals go_wp2
            all_goals go_ret
            all_goals exact ⟨ret_bool hno.out.symm, (HX0.out.trans XW.out).drew⟩
        · obtain rfl : j = d.accs.length := by omega
          have E3 : Hid (d.accs = f.accs) := Lib.hid (by rw [List.take_length] at hok; rw [hok, H3.out, List.take_length])
          obtain ⟨W2, hW2⟩ : ∃ W, W = wr := ⟨_, rfl⟩
          rw [← hW2] at XW m0 m1 m2 m3 m4 m5 n0 n1 n2 n3 n4 n5 ⊢
          have X2 := XW
          clear hx hj hok hW2 h XW
          go_wp2
          go_loopg [7] d.auts.length (fun g s7 wr => ∃ j : Nat, j + g = d.auts.length ∧ s7 = .int .i64 j ∧ d.auts.take j = f.auts.take j ∧ Ext W2 wr)
          case atStart => exact ⟨0, by omega, rfl, by simp, Ext.refl W2⟩
          case round =>
            obtain ⟨j, hj, rfl, hok, hx⟩ := hrel
            have XW := Lib.hid (X2.out.trans hx)
            obtain ⟨m0, m1, m2, m3, m4, m5⟩ := arr6f (ext_blk XW.out HB0.out)
            obtain ⟨n0, n1, n2, n3, n4, n5⟩ := arr6f (ext_blk XW.out HB1.out)
            by_cases h : j < d.auts.length
            · obtain ⟨s, hs⟩ : ∃ s, d.auts[j]? = some s := ⟨_, List.getElem?_eq_getElem h⟩
              obtain ⟨t, ht⟩ : ∃ s, f.auts[j]? = some s := ⟨_, List.getElem?_eq_getElem (by rw [← H4.out]; exact h)⟩
              obtain ⟨ad, hA, hlA, q0, q1, q2, q3, q4, q5, q6⟩ := reads_aut (HD.out.ext XW.out).aut hs
              obtain ⟨bd, hB, hlB, r0, r1, r2, r3, r4, r5, r6⟩ := reads_aut (HF.out.ext XW.out).aut ht
              rw [hA] at m3
              rw [hB] at n3
              have hjb : (j : Int) ≤ 1099511627776 := by have := HD.out.ul; omega
              have hjd : (j : Int) < (d.auts.length : Int) := by omega
              have hjf : (j : Int) < (f.auts.length : Int) := by have := H4.out; omega
              have HJ := Lib.hid hj
              have hXd := Lib.hid hx.drew
              have m3' := fun n : Nat => show (wr.drewN n).cell? _ = _ from m3
              have n3' := fun n : Nat => show (wr.drewN n).cell? _ = _ from n3
              have q0' := fun n : Nat => show (wr.drewN n).cell? _ = _ from q0
              have q1' := fun n : Nat => show (wr.drewN n).cell? _ = _ from q1
              have q2' := fun n : Nat => show (wr.drewN n).cell? _ = _ from q2
              have q3' := fun n : Nat => show (wr.drewN n).cell? _ = _ from q3
              have q4' := fun n : Nat => show (wr.drewN n).cell? _ = _ from q4
              have q5' := fun n : Nat => show (wr.drewN n).cell? _ = _ from q5
              have q6' := fun n : Nat => show (wr.drewN n).cell? _ = _ from q6
              have r0' := fun n : Nat => show (wr.drewN n).cell? _ = _ from r0
              have r1' := fun n : Nat => show (wr.drewN n).cell? _ = _ from r1
              have r2' := fun n : Nat => show (wr.drewN n).cell? _ = _ from r2
              have r3' := fun n : Nat => show (wr.drewN n).cell? _ = _ from r3
              have r4' := fun n : Nat => show (wr.drewN n).cell? _ = _ from r4
              have r5' := fun n : Nat => show (wr.drewN n).cell? _ = _ from r5
              have r6' := fun n : Nat => show (wr.drewN n).cell? _ = _ from r6
              have hse := fun w : World => eqAut s t w
              by_cases hst : s = t
              · have hok' : Hid (d.auts.take (j + 1) = f.auts.take (j + 1)) := Lib.hid (take_eq_succ hs ht hok hst)
                rw [decide_eq_true hst] at hse
                clear hx hj hok hs ht hst hA hB hlA hlB
                go_wp2
                go_region
                all_goals go_wp2
                have hj := HJ.out
                all_goals go_roundg (gk - 1)
                case measure => omega
                case rel => exact ⟨j + 1, by omega, int_congr (by omega), hok'.out, hXd.out⟩
              · have hno : Hid (decide (d.fro = f.fro) = false) := Lib.hid (decide_eq_false fun e => eq_no hs ht hst (fro_eq e).2.2.2.1)
                rw [decide_eq_false hst] at hse
                clear hx hj hok hs ht hst hA hB hlA hlB
                go_wp2
                go_region
                all_goals go_wp2
                all_goals go_ret
                all_goals exact ⟨ret_bool hno.out.symm, (HX0.out.trans XW.out).drew⟩
            · obtain rfl : j = d.auts.length := by omega
              have E4 : Hid (d.auts = f.auts) := Lib.hid (by rw [List.take_length] at hok; rw [hok, H4.out, List.take_length])
              have cO := Orders22_any d.ords f.ords d.rA f.rA d.rc f.rc wr (HD.out.ext XW.out).ords (HF.out.ext XW.out).ords
              have HE : Hid (decide (d.ords.map (·.o) = f.ords.map (·.o)) = decide (d.fro = f.fro)) := Lib.hid (by rw [decide_eq_decide]; exact (fro_eq_mk H1.out E2.out E3.out E4.out H5.out).symm)
              clear hx hj hok h
              go_wp2_with (go_at_call 37; refine cO.mono ?_; clear cO; rintro e w9 ⟨rfl, x9⟩)
              go_ret
              exact ⟨ret_bool HE.out, HX0.out.trans (XW.out.trans x9)⟩
def set8 (W : World) (g a : Nat) (y : OrdX) : World := ((((((((W.setCell ⟨g, a * 8, none⟩ (.int .i64 y.o.id)).setCell ⟨g, a * 8 + 1, none⟩ (.int .i64 y.o.acc)).setCell ⟨g, a * 8 + 2, none⟩ (.slice y.nA y.o.names.length y.nc)).setCell ⟨g, a * 8 + 3, none⟩ (.int .u64 (y.o.key : Int))).setCell ⟨g, a * 8 + 4, none⟩ (.int .i64 y.o.life)).setCell ⟨g, a * 8 + 5, none⟩ (.slice y.aA y.o.auths.length y.ac)).setCell ⟨g, a * 8 + 6, none⟩ (.int .i64 y.o.st)).setCell ⟨g, a * 8 + 7, none⟩ (.int .i64 y.o.ser))
theorem ord_put8 {w : World} {base g cap n : Nat} {l : List OrdX} (h : w.ownsRow base 78 8 (.slice (some ⟨g, 0, none⟩) n cap) n (ordV l)) {a : Nat} {x : OrdX} (hx : l[a]? = some x) (y : OrdX) :
    (set8 w g a y).ownsRow base 78 8 (.slice (some ⟨g, 0, none⟩) n cap) n (ordV (l.set a y)) := by
  obtain ⟨o0, h0⟩ := ord_put h hx (i := 0) (u := .int .i64 y.o.id) (y := { x with o := { x.o with id := y.o.id } }) (by decide) rfl
  obtain ⟨o1, h1⟩ := ord_put o0 h0 (i := 1) (u := .int .i64 y.o.acc) (y := { x with o := { x.o with id := y.o.id, acc := y.o.acc } }) (by decide) rfl
  obtain ⟨o2, h2⟩ := ord_put o1 h1 (i := 2) (u := .slice y.nA y.o.names.length y.nc) (y := { x with o := { x.o with id := y.o.id, acc := y.o.acc, names := y.o.names }, nA := y.nA, nc := y.nc }) (by decide) rfl
  obtain ⟨o3, h3⟩ := ord_put o2 h2 (i := 3) (u := .int .u64 (y.o.key : Int)) (y := { x with o := { x.o with id := y.o.id, acc := y.o.acc, names := y.o.names, key := y.o.key }, nA := y.nA, nc := y.nc }) (by decide) rfl
  obtain ⟨o4, h4⟩ := ord_put o3 h3 (i := 4) (u := .int .i64 y.o.life) (y := { x with o := { x.o with id := y.o.id, acc := y.o.acc, names := y.o.names, key := y.o.key, life := y.o.life }, nA := y.nA, nc := y.nc }) (by decide) rfl
  obtain ⟨o5, h5⟩ := ord_put o4 h4 (i := 5) (u := .slice y.aA y.o.auths.length y.ac) (y := { x with o := { x.o with id := y.o.id, acc := y.o.acc, names := y.o.names, key := y.o.key, life := y.o.life, auths := y.o.auths }, nA := y.nA, nc := y.nc, aA := y.aA, ac := y.ac }) (by decide) rfl
  obtain ⟨o6, h6⟩ := ord_put o5 h5 (i := 6) (u := .int .i64 y.o.st) (y := { x with o := { x.o with id := y.o.id, acc := y.o.acc, names := y.o.names, key := y.o.key, life := y.o.life, auths := y.o.auths, st := y.o.st }, nA := y.nA, nc := y.nc, aA := y.aA, ac := y.ac }) (by decide) rfl
  obtain ⟨o7, h7⟩ := ord_put o6 h6 (i := 7) (u := .int .i64 y.o.ser) (y := y) (by decide) rfl
  simp only [List.set_set] at o7
  exact o7
theorem grown8 (w : World) (g a : Nat) (y : OrdX) : w.grownBy (set8 w g a y) (some g) := by
  unfold set8
  exact (((((((grown_set _ _ _ _).trans (grown_set _ _ _ _)).trans (grown_set _ _ _ _)).trans (grown_set _ _ _ _)).trans (grown_set _ _ _ _)).trans (grown_set _ _ _ _)).trans (grown_set _ _ _ _)).trans (grown_set _ _ _ _)
theorem far_set8 {w : World} {b : Nat} {T : TypeId} {cs : Array Value} (h : Blk w b T cs) {g : Nat} (hb : b ≠ g) (a : Nat) (y : OrdX) : Blk (set8 w g a y) b T cs := Blk.grown h (grown8 w g a y) (by simpa using hb)
theorem own_form {w : World} {base : Nat} {e : TypeId} {size n : Nat} {v : Value} {xs : List Value} (h : w.ownsRow base e size v n xs) (hn : 0 < n) : ∃ g cap, v = .slice (some ⟨g, 0, none⟩) n cap ∧ base ≤ g ∧ n ≤ cap ∧ g < w.heap.size := by
  rcases h.2 with ⟨h', h0⟩ | ⟨g, cap, cur, rfl, hb, hg, hnc, -⟩
  · omega
  · exact ⟨g, cap, rfl, hb, hnc, (h.lt g rfl).2⟩
theorem arr7q {W : World} {g : Nat} {T : TypeId} {a b c d e f h : Value} (k : Blk W g T #[a, b, c, d, e, f, h]) : W.cell? ⟨g, 0, none⟩ = some a ∧ W.cell? ⟨g, 1, none⟩ = some b ∧ W.cell? ⟨g, 2, none⟩ = some c ∧ W.cell? ⟨g, 3, none⟩ = some d ∧ W.cell? ⟨g, 4, none⟩ = some e ∧ W.cell? ⟨g, 5, none⟩ = some f ∧ W.cell? ⟨g, 6, none⟩ = some h := ⟨k.cell 0, k.cell 1, k.cell 2, k.cell 3, k.cell 4, k.cell 5, k.cell 6⟩
def set7 (W : World) (g a : Nat) (y : AutR) : World := (((((((W.setCell ⟨g, a * 7, none⟩ (.int .i64 y.id)).setCell ⟨g, a * 7 + 1, none⟩ (.int .i64 y.acc)).setCell ⟨g, a * 7 + 2, none⟩ (.string y.name)).setCell ⟨g, a * 7 + 3, none⟩ (.string y.tok)).setCell ⟨g, a * 7 + 4, none⟩ (.int .i64 y.st)).setCell ⟨g, a * 7 + 5, none⟩ (.int .i64 y.fr)).setCell ⟨g, a * 7 + 6, none⟩ (.int .i64 y.un))
theorem aut_put7 {w : World} {base g cap n : Nat} {l : List AutR} (h : w.ownsRow base 69 7 (.slice (some ⟨g, 0, none⟩) n cap) n (autV l)) {a : Nat} {x : AutR} (hx : l[a]? = some x) (y : AutR) :
    (set7 w g a y).ownsRow base 69 7 (.slice (some ⟨g, 0, none⟩) n cap) n (autV (l.set a y)) := by
  obtain ⟨o0, h0⟩ := aut_put h hx (i := 0) (u := .int .i64 y.id) (y := { x with id := y.id }) (by decide) rfl
  obtain ⟨o1, h1⟩ := aut_put o0 h0 (i := 1) (u := .int .i64 y.acc) (y := { x with id := y.id, acc := y.acc }) (by decide) rfl
  obtain ⟨o2, h2⟩ := aut_put o1 h1 (i := 2) (u := .string y.name) (y := { x with id := y.id, acc := y.acc, name := y.name }) (by decide) rfl
  obtain ⟨o3, h3⟩ := aut_put o2 h2 (i := 3) (u := .string y.tok) (y := { x with id := y.id, acc := y.acc, name := y.name, tok := y.tok }) (by decide) rfl
  obtain ⟨o4, h4⟩ := aut_put o3 h3 (i := 4) (u := .int .i64 y.st) (y := { x with id := y.id, acc := y.acc, name := y.name, tok := y.tok, st := y.st }) (by decide) rfl
  obtain ⟨o5, h5⟩ := aut_put o4 h4 (i := 5) (u := .int .i64 y.fr) (y := { x with id := y.id, acc := y.acc, name := y.name, tok := y.tok, st := y.st, fr := y.fr }) (by decide) rfl
  obtain ⟨o6, h6⟩ := aut_put o5 h5 (i := 6) (u := .int .i64 y.un) (y := y) (by decide) rfl
  simp only [List.set_set] at o6
  exact o6
theorem grown7 (w : World) (g a : Nat) (y : AutR) : w.grownBy (set7 w g a y) (some g) := by
  unfold set7
  exact ((((((grown_set _ _ _ _).trans (grown_set _ _ _ _)).trans (grown_set _ _ _ _)).trans (grown_set _ _ _ _)).trans (grown_set _ _ _ _)).trans (grown_set _ _ _ _)).trans (grown_set _ _ _ _)
theorem far_set7 {w : World} {b : Nat} {T : TypeId} {cs : Array Value} (h : Blk w b T cs) {g : Nat} (hb : b ≠ g) (a : Nat) (y : AutR) : Blk (set7 w g a y) b T cs := Blk.grown h (grown7 w g a y) (by simpa using hb)
def outR (d0 : DoorX) (f : FroR) (w : World) (e : Ending) (w' : World) : Prop := ∃ d, e = .returned (frontV d) ∧ d.fro = f ∧ DoorW w' w'.heap.size d ∧ (∀ S, DoorL S d0 → DoorL (orNew S w) d) ∧ Ext w w'
set_option maxRecDepth 100000 in
set_option maxHeartbeats 8000000 in
theorem rwithAuth_any (d : DoorX) (a : AutR) (k : Nat) (hk : k < d.auts.length) (hkb : k < 1000) (hid : a.id = (k : Int) + 1) (w : World) (hw : DoorW w w.heap.size d) (ha : AutW a) :
    Calls Tryz.prog 73 #[frontV d, autAgg a] w (outR d { d.fro with auts := d.auts.set k a } w) := by
  obtain ⟨W1, W0, e0, e1, b0, b1, x1, s1, b2, x2⟩ := start3r w #[.int .i64 d.next, .slice d.oA d.opn.length d.oc, .slice d.cA d.accs.length d.cc, .slice d.uA d.auts.length d.uc, .slice d.rA d.ords.length d.rc, .int .i64 d.ser] #[.int .i64 a.id, .int .i64 a.acc, .string a.name, .string a.tok, .int .i64 a.st, .int .i64 a.fr, .int .i64 a.un] #[.int .i64 0, .slice none 0 0, .slice none 0 0, .slice none 0 0, .slice none 0 0, .int .i64 0] 43 69 43
  obtain ⟨s, hs⟩ : ∃ s, d.auts[k]? = some s := ⟨_, List.getElem?_eq_getElem hk⟩
  have HW := Lib.hid (hw.ext (x1.trans x2))
  have HW_ := Lib.hid hw
  have HA := Lib.hid ha
  
  have HS := Lib.hid hs
  have HID := Lib.hid hid
  have HB0 := Lib.hid (ext_blk x2 b0)
  have HB1 := Lib.hid (ext_blk x2 b1)
  have HB2 := Lib.hid b2
  have HX0 := Lib.hid (x1.trans x2)
  have HSZ : Hid (w.heap.size + 3 ≤ W0.heap.size) := Lib.hid (by have := b2.lt; omega)
  have HKL := Lib.hid hk
  have E0 := Lib.hid e0
  have kid : IntKind.i64.wrap (a.id - 1) = (k : Int) := by rw [hid, IntKind.wrap_i64]; omega
  have hkl : (k : Int) < (d.auts.length : Int) := by omega
  have hrl : (d.auts.length : Int) ≤ 1099511627776 := by have := hw.ul; omega
  have hkb2 : (k : Int) < 1000 := by omega
  obtain ⟨i0, hi, hz0, hz1, hz2⟩ := info_parts Tryz.infoAut
  unfold frontV autAgg
  clear e0 e1 b0 b1 x1 s1 b2 x2 hw ha hid hs hk hkb
  go_enter Tryz.func73, Tryz.ntmps73
  go_upto_region 1 with (fail)
  have e0 := E0.out
  rw [e0]
  clear e0 E0
  have m3' := (HB0.out.alloc (.cells #[] 69)).cell 3
  have HR := Lib.hid ((HW.out.aut).alloc (Nat.le_refl _) (.cells #[] 69))
  have HRL := Lib.hid hrl
  go_upto_region 2 with (at_builtin; refine wpList_append_any _ rfl (.tmp 5) (.tmp 7) 40 rfl W0.heap.size 69 i0 (.agg #[.int .i64 0, .int .i64 0, .string ⟨#[]⟩, .string ⟨#[]⟩, .int .i64 0, .int .i64 0, .int .i64 0]) 7 72 Tryz.underlying40 hi hz0 hz1 hz2 rfl (by decide) _ 0 [] rfl (own_empty W0 _ _ rfl (Nat.le_refl _) _ _) W0.heap.size d.uA d.auts.length d.uc (autV d.auts) rfl HR.out (autV_one _) (by have := HRL.out; simp only [maxLen]; omega) (by have := HRL.out; omega) (by simp) ?_; intro v8 w8 hown8 hg8 _; rw [Nat.zero_add, List.nil_append] at hown8; obtain ⟨g8, cap8, rfl, hg8b, hg8c, hg8l⟩ := own_form hown8 (by have := HKL.out; omega); have X8 := ext_grown ((Ext.refl W0).alloc _) (own_empty W0 _ _ rfl (Nat.le_refl _) 69 7) hg8; have HX8 := Lib.hid X8; have HO8 := Lib.hid hown8; have HGB : Hid (W0.heap.size ≤ g8 ∧ d.auts.length ≤ cap8 ∧ g8 < w8.heap.size) := Lib.hid ⟨hg8b, hg8c, hg8l⟩; have hf8 := (ext_blk X8 HB0.out).frozen 3; have hc8 := (ext_blk X8 HB0.out).cell 3; clear hown8 hg8 X8 m3' hg8b hg8c hg8l)
  obtain ⟨W8, e8⟩ : ∃ W, W = w8.setCell ⟨w.heap.size, 3, none⟩ (.slice (some ⟨g8, 0, none⟩) d.auts.length cap8) := ⟨_, rfl⟩
  rw [← e8]
  have HB08 : Hid (Blk W8 w.heap.size 43 #[.int .i64 d.next, .slice d.oA d.opn.length d.oc, .slice d.cA d.accs.length d.cc, .slice (some ⟨g8, 0, none⟩) d.auts.length cap8, .slice d.rA d.ords.length d.rc, .int .i64 d.ser]) := Lib.hid (by rw [e8]; exact (ext_blk HX8.out HB0.out).set_ 3 _)
  have HB18 : Hid (Blk W8 (w.heap.size + 1) 69 #[.int .i64 a.id, .int .i64 a.acc, .string a.name, .string a.tok, .int .i64 a.st, .int .i64 a.fr, .int .i64 a.un]) := Lib.hid (by rw [e8]; exact (ext_blk HX8.out HB1.out).far (p := ⟨w.heap.size, 3, none⟩) (by simp) _)
  have HB28 : Hid (Blk W8 (w.heap.size + 2) 43 #[.int .i64 0, .slice none 0 0, .slice none 0 0, .slice none 0 0, .slice none 0 0, .int .i64 0]) := Lib.hid (by rw [e8]; exact (ext_blk HX8.out HB2.out).far (p := ⟨w.heap.size, 3, none⟩) (by simp) _)
  have HO8 : Hid (W8.ownsRow W0.heap.size 69 7 (.slice (some ⟨g8, 0, none⟩) d.auts.length cap8) d.auts.length (autV d.auts)) := Lib.hid (by rw [e8]; exact own_far HO8.out (by have := HSZ.out; omega) 3 _)
  have HX08 : Hid (Ext w W8) := Lib.hid (by rw [e8]; exact (HX0.out.trans HX8.out).setCell (Nat.le_refl _) _)
  clear e8 hf8 hc8
  have m3 := HB08.out.cell 3
  obtain ⟨q0, q1, q2, q3, q4, q5, q6⟩ := arr7q HB18.out
  have o0 := own_fm autC (fun _ => rfl) HO8.out HS.out (i := 0) (by decide)
  simp only [autC, List.getElem?_cons_succ, List.getElem?_cons_zero, Nat.add_zero] at o0
  have f0 := HO8.out.frozenAt (k * 7)
  have o1 := own_fm autC (fun _ => rfl) HO8.out HS.out (i := 1) (by decide)
  simp only [autC, List.getElem?_cons_succ, List.getElem?_cons_zero, Nat.add_zero] at o1
  have f1 := HO8.out.frozenAt (k * 7 + 1)
  have o2 := own_fm autC (fun _ => rfl) HO8.out HS.out (i := 2) (by decide)
  simp only [autC, List.getElem?_cons_succ, List.getElem?_cons_zero, Nat.add_zero] at o2
  have f2 := HO8.out.frozenAt (k * 7 + 2)
  have o3 := own_fm autC (fun _ => rfl) HO8.out HS.out (i := 3) (by decide)
  simp only [autC, List.getElem?_cons_succ, List.getElem?_cons_zero, Nat.add_zero] at o3
  have f3 := HO8.out.frozenAt (k * 7 + 3)
  have o4 := own_fm autC (fun _ => rfl) HO8.out HS.out (i := 4) (by decide)
  simp only [autC, List.getElem?_cons_succ, List.getElem?_cons_zero, Nat.add_zero] at o4
  have f4 := HO8.out.frozenAt (k * 7 + 4)
  have o5 := own_fm autC (fun _ => rfl) HO8.out HS.out (i := 5) (by decide)
  simp only [autC, List.getElem?_cons_succ, List.getElem?_cons_zero, Nat.add_zero] at o5
  have f5 := HO8.out.frozenAt (k * 7 + 5)
  have o6 := own_fm autC (fun _ => rfl) HO8.out HS.out (i := 6) (by decide)
  simp only [autC, List.getElem?_cons_succ, List.getElem?_cons_zero, Nat.add_zero] at o6
  have f6 := HO8.out.frozenAt (k * 7 + 6)
  have hne : w.heap.size ≠ g8 := by have := HGB.out.1; have := HSZ.out; omega
  have hne1 : w.heap.size + 1 ≠ g8 := by have := HGB.out.1; have := HSZ.out; omega
  have hne2 : w.heap.size + 2 ≠ g8 := by have := HGB.out.1; have := HSZ.out; omega
  have HNE := Lib.hid (And.intro hne (And.intro hne1 hne2))
  clear hne hne1 hne2
  go_upto_region 3 with (fail)
  obtain ⟨W9, e9⟩ : ∃ W, W = set7 W8 g8 k a := ⟨_, rfl⟩
  have e9' := e9
  unfold set7 at e9'
  rw [← e9']
  have HB09 : Hid (Blk W9 w.heap.size 43 #[.int .i64 d.next, .slice d.oA d.opn.length d.oc, .slice d.cA d.accs.length d.cc, .slice (some ⟨g8, 0, none⟩) d.auts.length cap8, .slice d.rA d.ords.length d.rc, .int .i64 d.ser]) := Lib.hid (by rw [e9]; exact far_set7 HB08.out HNE.out.1 k a)
  have b29 : Blk W9 (w.heap.size + 2) 43 #[.int .i64 0, .slice none 0 0, .slice none 0 0, .slice none 0 0, .slice none 0 0, .int .i64 0] := by rw [e9]; exact far_set7 HB28.out HNE.out.2.2 k a
  have HO9 : Hid (W9.ownsRow W0.heap.size 69 7 (.slice (some ⟨g8, 0, none⟩) d.auts.length cap8) d.auts.length (autV (d.auts.set k a))) := Lib.hid (by rw [e9]; exact aut_put7 HO8.out HS.out a)
  have HX09 : Hid (Ext w W9) := Lib.hid (by rw [e9]; exact Ext.of (HX08.out.out.grown (grown7 W8 g8 k a) HX08.out.size (fun b hb => by cases hb; have := HGB.out.1; have := HSZ.out; omega)))
  clear e9 e9' m3 o0 f0 o1 f1 o2 f2 o3 f3 o4 f4 o5 f5 o6 f6 q0 q1 q2 q3 q4 q5 q6
  obtain ⟨m0, m1, m2, m3, m4, m5⟩ := arr6f HB09.out
  obtain ⟨z0, z1, z2, z3, z4, z5, f0, f1, f2, f3, f4, f5⟩ := st6 b29
  have BB := Lib.hid (blk6 b29 (.int .i64 d.next) (.slice d.oA d.opn.length d.oc) (.slice d.cA d.accs.length d.cc) (.slice (some ⟨g8, 0, none⟩) d.auts.length cap8) (.slice d.rA d.ords.length d.rc) (.int .i64 d.ser))
  clear b29
  go_wp2
  obtain ⟨r0, r1, r2, r3, r4, r5⟩ := arr6f BB.out
  have hyl : (d.auts.set k a).length = d.auts.length := List.length_set
  have hsz := HSZ.out
  have o10 := own_far (own_far (own_far (own_far (own_far (own_far HO9.out (g := w.heap.size + 2) (by omega) 0 (.int .i64 d.next)) (g := w.heap.size + 2) (by omega) 1 (.slice d.oA d.opn.length d.oc)) (g := w.heap.size + 2) (by omega) 2 (.slice d.cA d.accs.length d.cc)) (g := w.heap.size + 2) (by omega) 3 (.slice (some ⟨g8, 0, none⟩) d.auts.length cap8)) (g := w.heap.size + 2) (by omega) 4 (.slice d.rA d.ords.length d.rc)) (g := w.heap.size + 2) (by omega) 5 (.int .i64 d.ser)
  have xx0 := ext6 HX09.out (g := w.heap.size + 2) (by omega) (.int .i64 d.next) (.slice d.oA d.opn.length d.oc) (.slice d.cA d.accs.length d.cc) (.slice (some ⟨g8, 0, none⟩) d.auts.length cap8) (.slice d.rA d.ords.length d.rc) (.int .i64 d.ser)
  have key : ∀ WF : World, Ext w WF → WF.ownsRow W0.heap.size 69 7 (.slice (some ⟨g8, 0, none⟩) d.auts.length cap8) d.auts.length (autV (d.auts.set k a)) → DoorW WF WF.heap.size (withU d (d.auts.set k a) (some ⟨g8, 0, none⟩) cap8) := fun WF x o => by
    have hr := Reads.of_own o
    rw [← hyl] at hr
    have hWd := HW_.out.ext x
    have HO9 := Lib.hid o
    refine withU_w hWd hr (by rw [hyl]; exact own_cap HO9.out) (by rw [hyl]; exact hWd.ul) (fun y hy => ?_)
    rcases List.mem_or_eq_of_mem_set hy with hy | rfl
    · exact hWd.uw y hy
    · exact HA.out
  have kd := key _ xx0 o10
  have key2 : ∀ S, DoorL S d → DoorL (orNew S w) (withU d (d.auts.set k a) (some ⟨g8, 0, none⟩) cap8) := fun S hS => by
    refine withU_l hS (fun k hk => .inl hk) ?_
    rw [hyl]
    exact Lies.own HO9.out (fun k hk => .inr (by have := HSZ.out; omega))
  refine bodyPost_ret (v := .agg #[.int .i64 d.next, .slice d.oA d.opn.length d.oc, .slice d.cA d.accs.length d.cc, .slice (some ⟨g8, 0, none⟩) d.auts.length cap8, .slice d.rA d.ords.length d.rc, .int .i64 d.ser]) (by simp [results, Tryz.results73, go_sem, r0, r1, r2, r3, r4, r5]) rfl ⟨withU d (d.auts.set k a) (some ⟨g8, 0, none⟩) cap8, ?_, rfl, kd, key2, xx0⟩
  unfold frontV withU
  simp only
  rw [hyl]
set_option maxRecDepth 100000 in
set_option maxHeartbeats 8000000 in
theorem rwithOrder_any (d : DoorX) (x : OrdX) (k : Nat) (hk : k < d.ords.length) (hkb : k < 1000) (hid : x.o.id = (k : Int) + 1) (w : World) (hw : DoorW w w.heap.size d) (hx : OrdW w w.heap.size x) (hlx : ∀ S, DoorL S d → Lies S x.nA x.o.names.length ∧ Lies S x.aA x.o.auths.length) :
    Calls Tryz.prog 79 #[frontV d, ordAgg x] w (outR d { d.fro with ords := (d.ords.map (·.o)).set k x.o } w) := by
  obtain ⟨W1, W0, e0, e1, b0, b1, x1, s1, b2, x2⟩ := start3r w #[.int .i64 d.next, .slice d.oA d.opn.length d.oc, .slice d.cA d.accs.length d.cc, .slice d.uA d.auts.length d.uc, .slice d.rA d.ords.length d.rc, .int .i64 d.ser] #[.int .i64 x.o.id, .int .i64 x.o.acc, .slice x.nA x.o.names.length x.nc, .int .u64 (x.o.key : Int), .int .i64 x.o.life, .slice x.aA x.o.auths.length x.ac, .int .i64 x.o.st, .int .i64 x.o.ser] #[.int .i64 0, .slice none 0 0, .slice none 0 0, .slice none 0 0, .slice none 0 0, .int .i64 0] 43 78 43
  obtain ⟨s, hs⟩ : ∃ s, d.ords[k]? = some s := ⟨_, List.getElem?_eq_getElem hk⟩
  have HW := Lib.hid (hw.ext (x1.trans x2))
  have HW_ := Lib.hid hw
  have HX_ := Lib.hid hx
  have HLX := Lib.hid hlx
  have HS := Lib.hid hs
  have HID := Lib.hid hid
  have HB0 := Lib.hid (ext_blk x2 b0)
  have HB1 := Lib.hid (ext_blk x2 b1)
  have HB2 := Lib.hid b2
  have HX0 := Lib.hid (x1.trans x2)
  have HSZ : Hid (w.heap.size + 3 ≤ W0.heap.size) := Lib.hid (by have := b2.lt; omega)
  have HKL := Lib.hid hk
  have E0 := Lib.hid e0
  have kid : IntKind.i64.wrap (x.o.id - 1) = (k : Int) := by rw [hid, IntKind.wrap_i64]; omega
  have hkl : (k : Int) < (d.ords.length : Int) := by omega
  have hrl : (d.ords.length : Int) ≤ 1099511627776 := by have := hw.rl; omega
  have hkb2 : (k : Int) < 1000 := by omega
  obtain ⟨i0, hi, hz0, hz1, hz2⟩ := info_parts Tryz.infoOrd
  unfold frontV ordAgg
  clear e0 e1 b0 b1 x1 s1 b2 x2 hw hx hlx hid hs hk hkb
  go_enter Tryz.func79, Tryz.ntmps79
  go_upto_region 1 with (fail)
  have e0 := E0.out
  rw [e0]
  clear e0 E0
  have m4' := (HB0.out.alloc (.cells #[] 78)).cell 4
  have HR := Lib.hid ((HW.out.ord).alloc (Nat.le_refl _) (.cells #[] 78))
  have HRL := Lib.hid hrl
  go_upto_region 2 with (at_builtin; refine wpList_append_any _ rfl (.tmp 5) (.tmp 7) 41 rfl W0.heap.size 78 i0 (.agg #[.int .i64 0, .int .i64 0, .slice none 0 0, .int .u64 0, .int .i64 0, .slice none 0 0, .int .i64 0, .int .i64 0]) 8 96 Tryz.underlying41 hi hz0 hz1 hz2 rfl (by decide) _ 0 [] rfl (own_empty W0 _ _ rfl (Nat.le_refl _) _ _) W0.heap.size d.rA d.ords.length d.rc (ordV d.ords) rfl HR.out (ordV_one _) (by have := HRL.out; simp only [maxLen]; omega) (by have := HRL.out; omega) (by simp) ?_; intro v8 w8 hown8 hg8 _; rw [Nat.zero_add, List.nil_append] at hown8; obtain ⟨g8, cap8, rfl, hg8b, hg8c, hg8l⟩ := own_form hown8 (by have := HKL.out; omega); have X8 := ext_grown ((Ext.refl W0).alloc _) (own_empty W0 _ _ rfl (Nat.le_refl _) 78 8) hg8; have HX8 := Lib.hid X8; have HO8 := Lib.hid hown8; have HGB : Hid (W0.heap.size ≤ g8 ∧ d.ords.length ≤ cap8 ∧ g8 < w8.heap.size) := Lib.hid ⟨hg8b, hg8c, hg8l⟩; have hf8 := (ext_blk X8 HB0.out).frozen 4; have hc8 := (ext_blk X8 HB0.out).cell 4; clear hown8 hg8 X8 m4' hg8b hg8c hg8l)
  obtain ⟨W8, e8⟩ : ∃ W, W = w8.setCell ⟨w.heap.size, 4, none⟩ (.slice (some ⟨g8, 0, none⟩) d.ords.length cap8) := ⟨_, rfl⟩
  rw [← e8]
  have HB08 : Hid (Blk W8 w.heap.size 43 #[.int .i64 d.next, .slice d.oA d.opn.length d.oc, .slice d.cA d.accs.length d.cc, .slice d.uA d.auts.length d.uc, .slice (some ⟨g8, 0, none⟩) d.ords.length cap8, .int .i64 d.ser]) := Lib.hid (by rw [e8]; exact (ext_blk HX8.out HB0.out).set_ 4 _)
  have HB18 : Hid (Blk W8 (w.heap.size + 1) 78 #[.int .i64 x.o.id, .int .i64 x.o.acc, .slice x.nA x.o.names.length x.nc, .int .u64 (x.o.key : Int), .int .i64 x.o.life, .slice x.aA x.o.auths.length x.ac, .int .i64 x.o.st, .int .i64 x.o.ser]) := Lib.hid (by rw [e8]; exact (ext_blk HX8.out HB1.out).far (p := ⟨w.heap.size, 4, none⟩) (by simp) _)
  have HB28 : Hid (Blk W8 (w.heap.size + 2) 43 #[.int .i64 0, .slice none 0 0, .slice none 0 0, .slice none 0 0, .slice none 0 0, .int .i64 0]) := Lib.hid (by rw [e8]; exact (ext_blk HX8.out HB2.out).far (p := ⟨w.heap.size, 4, none⟩) (by simp) _)
  have HO8 : Hid (W8.ownsRow W0.heap.size 78 8 (.slice (some ⟨g8, 0, none⟩) d.ords.length cap8) d.ords.length (ordV d.ords)) := Lib.hid (by rw [e8]; exact own_far HO8.out (by have := HSZ.out; omega) 4 _)
  have HX08 : Hid (Ext w W8) := Lib.hid (by rw [e8]; exact (HX0.out.trans HX8.out).setCell (Nat.le_refl _) _)
  clear e8 hf8 hc8
  have m4 := HB08.out.cell 4
  obtain ⟨q0, q1, q2, q3, q4, q5, q6, q7⟩ := arr8 HB18.out
  have o0 := own_fm ordC (fun _ => rfl) HO8.out HS.out (i := 0) (by decide)
  simp only [ordC, List.getElem?_cons_succ, List.getElem?_cons_zero, Nat.add_zero] at o0
  have f0 := HO8.out.frozenAt (k * 8)
  have o1 := own_fm ordC (fun _ => rfl) HO8.out HS.out (i := 1) (by decide)
  simp only [ordC, List.getElem?_cons_succ, List.getElem?_cons_zero, Nat.add_zero] at o1
  have f1 := HO8.out.frozenAt (k * 8 + 1)
  have o2 := own_fm ordC (fun _ => rfl) HO8.out HS.out (i := 2) (by decide)
  simp only [ordC, List.getElem?_cons_succ, List.getElem?_cons_zero, Nat.add_zero] at o2
  have f2 := HO8.out.frozenAt (k * 8 + 2)
  have o3 := own_fm ordC (fun _ => rfl) HO8.out HS.out (i := 3) (by decide)
  simp only [ordC, List.getElem?_cons_succ, List.getElem?_cons_zero, Nat.add_zero] at o3
  have f3 := HO8.out.frozenAt (k * 8 + 3)
  have o4 := own_fm ordC (fun _ => rfl) HO8.out HS.out (i := 4) (by decide)
  simp only [ordC, List.getElem?_cons_succ, List.getElem?_cons_zero, Nat.add_zero] at o4
  have f4 := HO8.out.frozenAt (k * 8 + 4)
  have o5 := own_fm ordC (fun _ => rfl) HO8.out HS.out (i := 5) (by decide)
  simp only [ordC, List.getElem?_cons_succ, List.getElem?_cons_zero, Nat.add_zero] at o5
  have f5 := HO8.out.frozenAt (k * 8 + 5)
  have o6 := own_fm ordC (fun _ => rfl) HO8.out HS.out (i := 6) (by decide)
  simp only [ordC, List.getElem?_cons_succ, List.getElem?_cons_zero, Nat.add_zero] at o6
  have f6 := HO8.out.frozenAt (k * 8 + 6)
  have o7 := own_fm ordC (fun _ => rfl) HO8.out HS.out (i := 7) (by decide)
  simp only [ordC, List.getElem?_cons_succ, List.getElem?_cons_zero, Nat.add_zero] at o7
  have f7 := HO8.out.frozenAt (k * 8 + 7)
  have hne : w.heap.size ≠ g8 := by have := HGB.out.1; have := HSZ.out; omega
  have hne1 : w.heap.size + 1 ≠ g8 := by have := HGB.out.1; have := HSZ.out; omega
  have hne2 : w.heap.size + 2 ≠ g8 := by have := HGB.out.1; have := HSZ.out; omega
  have HNE := Lib.hid (And.intro hne (And.intro hne1 hne2))
  clear hne hne1 hne2
  go_upto_region 3 with (fail)
  obtain ⟨W9, e9⟩ : ∃ W, W = set8 W8 g8 k x := ⟨_, rfl⟩
  have e9' := e9
  unfold set8 at e9'
  rw [← e9']
  have HB09 : Hid (Blk W9 w.heap.size 43 #[.int .i64 d.next, .slice d.oA d.opn.length d.oc, .slice d.cA d.accs.length d.cc, .slice d.uA d.auts.length d.uc, .slice (some ⟨g8, 0, none⟩) d.ords.length cap8, .int .i64 d.ser]) := Lib.hid (by rw [e9]; exact far_set8 HB08.out HNE.out.1 k x)
  have b29 : Blk W9 (w.heap.size + 2) 43 #[.int .i64 0, .slice none 0 0, .slice none 0 0, .slice none 0 0, .slice none 0 0, .int .i64 0] := by rw [e9]; exact far_set8 HB28.out HNE.out.2.2 k x
  have HO9 : Hid (W9.ownsRow W0.heap.size 78 8 (.slice (some ⟨g8, 0, none⟩) d.ords.length cap8) d.ords.length (ordV (d.ords.set k x))) := Lib.hid (by rw [e9]; exact ord_put8 HO8.out HS.out x)
  have HX09 : Hid (Ext w W9) := Lib.hid (by rw [e9]; exact Ext.of (HX08.out.out.grown (grown8 W8 g8 k x) HX08.out.size (fun b hb => by cases hb; have := HGB.out.1; have := HSZ.out; omega)))
  clear e9 e9' m4 o0 f0 o1 f1 o2 f2 o3 f3 o4 f4 o5 f5 o6 f6 o7 f7 q0 q1 q2 q3 q4 q5 q6 q7
  obtain ⟨m0, m1, m2, m3, m4, m5⟩ := arr6f HB09.out
  obtain ⟨z0, z1, z2, z3, z4, z5, f0, f1, f2, f3, f4, f5⟩ := st6 b29
  have BB := Lib.hid (blk6 b29 (.int .i64 d.next) (.slice d.oA d.opn.length d.oc) (.slice d.cA d.accs.length d.cc) (.slice d.uA d.auts.length d.uc) (.slice (some ⟨g8, 0, none⟩) d.ords.length cap8) (.int .i64 d.ser))
  clear b29
  go_wp2
  obtain ⟨r0, r1, r2, r3, r4, r5⟩ := arr6f BB.out
  have hyl : (d.ords.set k x).length = d.ords.length := List.length_set
  have hsz := HSZ.out
  have o10 := own_far (own_far (own_far (own_far (own_far (own_far HO9.out (g := w.heap.size + 2) (by omega) 0 (.int .i64 d.next)) (g := w.heap.size + 2) (by omega) 1 (.slice d.oA d.opn.length d.oc)) (g := w.heap.size + 2) (by omega) 2 (.slice d.cA d.accs.length d.cc)) (g := w.heap.size + 2) (by omega) 3 (.slice d.uA d.auts.length d.uc)) (g := w.heap.size + 2) (by omega) 4 (.slice (some ⟨g8, 0, none⟩) d.ords.length cap8)) (g := w.heap.size + 2) (by omega) 5 (.int .i64 d.ser)
  have xx0 := ext6 HX09.out (g := w.heap.size + 2) (by omega) (.int .i64 d.next) (.slice d.oA d.opn.length d.oc) (.slice d.cA d.accs.length d.cc) (.slice d.uA d.auts.length d.uc) (.slice (some ⟨g8, 0, none⟩) d.ords.length cap8) (.int .i64 d.ser)
  have key : ∀ WF : World, Ext w WF → WF.ownsRow W0.heap.size 78 8 (.slice (some ⟨g8, 0, none⟩) d.ords.length cap8) d.ords.length (ordV (d.ords.set k x)) → DoorW WF WF.heap.size (withO d (d.ords.set k x) (some ⟨g8, 0, none⟩) cap8) := fun WF x o => by
    have hr := Reads.of_own o
    rw [← hyl] at hr
    have hWd := HW_.out.ext x
    have HO9 := Lib.hid o
    refine withO_w hWd hr (by rw [hyl]; exact own_cap HO9.out) (by rw [hyl]; exact hWd.rl) (fun y hy => ?_)
    rcases List.mem_or_eq_of_mem_set hy with hy | rfl
    · exact hWd.rw y hy
    · exact (HX_.out.ext x)
  have kd := key _ xx0 o10
  have key2 : ∀ S, DoorL S d → DoorL (orNew S w) (withO d (d.ords.set k x) (some ⟨g8, 0, none⟩) cap8) := fun S hS => by
    refine withO_l hS (fun k hk => .inl hk) ?_ (fun y hy => ?_)
    · rw [hyl]
      exact Lies.own HO9.out (fun k hk => .inr (by have := HSZ.out; omega))
    · rcases List.mem_or_eq_of_mem_set hy with hy | rfl
      · exact ⟨(hS.n y hy).mono (fun k hk => .inl hk), (hS.a y hy).mono (fun k hk => .inl hk)⟩
      · exact ⟨(HLX.out S hS).1.mono (fun k hk => .inl hk), (HLX.out S hS).2.mono (fun k hk => .inl hk)⟩
  refine bodyPost_ret (v := .agg #[.int .i64 d.next, .slice d.oA d.opn.length d.oc, .slice d.cA d.accs.length d.cc, .slice d.uA d.auts.length d.uc, .slice (some ⟨g8, 0, none⟩) d.ords.length cap8, .int .i64 d.ser]) (by simp [results, Tryz.results79, go_sem, r0, r1, r2, r3, r4, r5]) rfl ⟨withO d (d.ords.set k x) (some ⟨g8, 0, none⟩) cap8, ?_, by rw [← map_set_o]; rfl, kd, key2, xx0⟩
  unfold frontV withO
  simp only
  rw [hyl]
theorem chk_aut_id {f : FroR} (h : chkF f = 0) {k : Nat} {u : AutR} (hu : f.auts[k]? = some u) : u.id = (k : Int) + 1 := by
  have hd : doorP f := by
    unfold chkF at h
    split at h
    · cases h
    · next h' => exact Classical.not_not.1 h'
  obtain ⟨hk, rfl⟩ := List.getElem?_eq_some_iff.1 hu
  exact (hd.2.2.2.1 k hk).1
theorem chk_ord_id {f : FroR} (h : chkF f = 0) {k : Nat} {u : OrdR} (hu : f.ords[k]? = some u) : u.id = (k : Int) + 1 := by
  have hd : doorP f := by
    unfold chkF at h
    split at h
    · cases h
    · next h' => exact Classical.not_not.1 h'
  obtain ⟨hk, rfl⟩ := List.getElem?_eq_some_iff.1 hu
  exact (hd.2.2.2.2.1 k hk).1.1
set_option maxRecDepth 100000 in
set_option maxHeartbeats 16000000 in
theorem rSaw_any (d : DoorX) (id : Int) (ok : Bool) (now : Int) (w : World) (hw : DoorW w w.heap.size d) (hu9 : d.auts.length < 99) (ha9 : d.accs.length < 100) (hr9 : d.ords.length < 99) :
    Calls Tryz.prog 27 #[frontV d, .int .i64 id, .bool ok, .int .i64 now] w (outS d (sawF d.fro id ok now) w) := by
  obtain ⟨W0, e0, b0, b1, x0, s0⟩ := startP w #[.int .i64 d.next, .slice d.oA d.opn.length d.oc, .slice d.cA d.accs.length d.cc, .slice d.uA d.auts.length d.uc, .slice d.rA d.ords.length d.rc, .int .i64 d.ser] #[.int .i64 0, .slice none 0 0, .slice none 0 0, .slice none 0 0, .slice none 0 0, .int .i64 0] 43 43
  have cC := rCheck_any22 d hu9 ha9 W0 (hw.ext x0)
  obtain ⟨E, hE⟩ : ∃ E, chkF d.fro = E := ⟨_, rfl⟩
  rw [hE] at cC
  have HW := Lib.hid (hw.ext x0)
  have HW_ := Lib.hid hw
  have HB0 := Lib.hid b0
  have HB1 := Lib.hid b1
  have HX0 := Lib.hid x0
  have HSZ : Hid (w.heap.size + 2 ≤ W0.heap.size) := Lib.hid (by omega)
  have HE := Lib.hid hE
  have HU9 := Lib.hid hu9
  have HR9 := Lib.hid hr9
  obtain ⟨m0, m1, m2, m3, m4, m5⟩ := arr6f b0
  unfold frontV at cC ⊢
  clear b0 b1 x0 s0 hw hE hu9 ha9 hr9
  go_enter Tryz.func27, Tryz.ntmps27
  go_upto_region 1 with (fail)
  try rw [e0]
  clear e0
  by_cases h0 : E = 0
  case neg =>
    have HR := Lib.hid (sawF_1 (id := id) (ok := ok) (now := now) HE.out h0)
    have k0 := ne_beq h0
    clear h0
    go_wp2_with (go_at_call 22; refine cC.mono ?_; clear cC m0 m1 m2 m3 m4 m5; rintro e w1 ⟨rfl, x1⟩; have b2 := ext_blk (x1) HB1.out; obtain ⟨q0, q1, q2, q3, q4, q5, f0, f1, f2, f3, f4, f5⟩ := st6 b2; have BB := Lib.hid (blk6 b2 (.int .i64 0) (.slice none 0 0) (.slice none 0 0) (.slice none 0 0) (.slice none 0 0) (.int .i64 0)); clear b2)
    rw [HR.out]
    obtain ⟨r0, r1, r2, r3, r4, r5⟩ := arr6f BB.out
    refine bodyPost_ret (v := .tuple #[.agg #[.int .i64 0, .slice none 0 0, .slice none 0 0, .slice none 0 0, .slice none 0 0, .int .i64 0], .int .i64 (E : Int)]) (by simp [results, Tryz.results27, go_sem, r0, r1, r2, r3, r4, r5]) rfl (outS_bad rfl (ext6 (HX0.out.trans (x1)) (by omega) _ _ _ _ _ _))
  subst h0
  by_cases ht : 0 ≤ now ∧ now + 50 ≤ 1099511627776
  case neg =>
    have HR := Lib.hid (sawF_2 (id := id) (ok := ok) HE.out ht)
    by_cases h1 : now < 0
    · have t1 : decide (now < 0) = true := decide_eq_true h1
      clear ht h1
      go_wp2_with (go_at_call 22; refine cC.mono ?_; clear cC m0 m1 m2 m3 m4 m5; rintro e w1 ⟨rfl, x1⟩; have b2 := ext_blk (x1) HB1.out; obtain ⟨q0, q1, q2, q3, q4, q5, f0, f1, f2, f3, f4, f5⟩ := st6 b2; have BB := Lib.hid (blk6 b2 (.int .i64 0) (.slice none 0 0) (.slice none 0 0) (.slice none 0 0) (.slice none 0 0) (.int .i64 0)); clear b2)
      rw [HR.out]
      obtain ⟨r0, r1, r2, r3, r4, r5⟩ := arr6f BB.out
      refine bodyPost_ret (v := .tuple #[.agg #[.int .i64 0, .slice none 0 0, .slice none 0 0, .slice none 0 0, .slice none 0 0, .int .i64 0], .int .i64 1]) (by simp [results, Tryz.results27, go_sem, r0, r1, r2, r3, r4, r5]) rfl (outS_bad rfl (ext6 (HX0.out.trans (x1)) (by omega) _ _ _ _ _ _))
    · have t1 : decide (now < 0) = false := decide_eq_false h1
      have t2 : decide (1099511627726 < now) = true := decide_eq_true (by omega)
      clear ht h1
      go_wp2_with (go_at_call 22; refine cC.mono ?_; clear cC m0 m1 m2 m3 m4 m5; rintro e w1 ⟨rfl, x1⟩; have b2 := ext_blk (x1) HB1.out; obtain ⟨q0, q1, q2, q3, q4, q5, f0, f1, f2, f3, f4, f5⟩ := st6 b2; have BB := Lib.hid (blk6 b2 (.int .i64 0) (.slice none 0 0) (.slice none 0 0) (.slice none 0 0) (.slice none 0 0) (.int .i64 0)); clear b2)
      rw [HR.out]
      obtain ⟨r0, r1, r2, r3, r4, r5⟩ := arr6f BB.out
      refine bodyPost_ret (v := .tuple #[.agg #[.int .i64 0, .slice none 0 0, .slice none 0 0, .slice none 0 0, .slice none 0 0, .int .i64 0], .int .i64 1]) (by simp [results, Tryz.results27, go_sem, r0, r1, r2, r3, r4, r5]) rfl (outS_bad rfl (ext6 (HX0.out.trans (x1)) (by omega) _ _ _ _ _ _))
  have t1 : decide (now < 0) = false := decide_eq_false (by omega)
  have t2 : decide (1099511627726 < now) = false := decide_eq_false (by omega)
  have e1 : IntKind.i64.wrap (now + 50) = now + 50 := by rw [IntKind.wrap_i64]; omega
  have HR := Lib.hid (sawF_3 (id := id) (ok := ok) (now := now) HE.out ht)
  have HN := Lib.hid ht
  clear ht
  go_upto_region 6 with (go_at_call 22; refine cC.mono ?_; clear cC m0 m1 m2 m3 m4 m5; rintro e w1 ⟨rfl, x1⟩)
  obtain ⟨W1, hW1⟩ : ∃ W, W = w1 := ⟨_, rfl⟩
  rw [← hW1] at x1 ⊢
  have HX1 := Lib.hid x1
  obtain ⟨m0, m1, m2, m3, m4, m5⟩ := arr6f (ext_blk x1 HB0.out)
  have hlb : (d.auts.length : Int) < 100 := by have := HU9.out; omega
  clear x1 hW1 t1 t2
  by_cases g1 : id < 1
  · have d1 : decide (id < 1) = true := decide_eq_true g1
    have HR := Lib.hid (HR.out.trans (if_pos g1))
    clear g1
    have b2 := ext_blk (HX1.out) HB1.out
    obtain ⟨z0, z1, z2, z3, z4, z5, f0, f1, f2, f3, f4, f5⟩ := st6 b2
    have BB := Lib.hid (blk6 b2 (.int .i64 0) (.slice none 0 0) (.slice none 0 0) (.slice none 0 0) (.slice none 0 0) (.int .i64 0))
    clear b2
    go_wp2
    rw [HR.out]
    obtain ⟨r0, r1, r2, r3, r4, r5⟩ := arr6f BB.out
    refine bodyPost_ret (v := .tuple #[.agg #[.int .i64 0, .slice none 0 0, .slice none 0 0, .slice none 0 0, .slice none 0 0, .int .i64 0], .int .i64 131]) (by simp [results, Tryz.results27, go_sem, r0, r1, r2, r3, r4, r5]) rfl (outS_bad rfl (ext6 (HX0.out.trans (HX1.out)) (by omega) _ _ _ _ _ _))
  have d1 : decide (id < 1) = false := decide_eq_false g1
  obtain ⟨k, hk⟩ : ∃ k : Nat, id = (k : Int) + 1 := ⟨(id - 1).toNat, by omega⟩
  subst hk
  have hr := HR.out
  rw [if_neg g1, show ((k : Int) + 1).toNat - 1 = k by omega, dfro_auts] at hr
  by_cases g2 : (d.auts.length : Int) < (k : Int) + 1
  · have d2 : decide ((d.auts.length : Int) < (k : Int) + 1) = true := decide_eq_true g2
    rw [List.getElem?_eq_none (by omega)] at hr
    have HR := Lib.hid hr
    clear g1 g2 hr
    have b2 := ext_blk (HX1.out) HB1.out
    obtain ⟨z0, z1, z2, z3, z4, z5, f0, f1, f2, f3, f4, f5⟩ := st6 b2
    have BB := Lib.hid (blk6 b2 (.int .i64 0) (.slice none 0 0) (.slice none 0 0) (.slice none 0 0) (.slice none 0 0) (.int .i64 0))
    clear b2
    go_wp2
    rw [HR.out]
    obtain ⟨r0, r1, r2, r3, r4, r5⟩ := arr6f BB.out
    refine bodyPost_ret (v := .tuple #[.agg #[.int .i64 0, .slice none 0 0, .slice none 0 0, .slice none 0 0, .slice none 0 0, .int .i64 0], .int .i64 131]) (by simp [results, Tryz.results27, go_sem, r0, r1, r2, r3, r4, r5]) rfl (outS_bad rfl (ext6 (HX0.out.trans (HX1.out)) (by omega) _ _ _ _ _ _))
  have d2 : decide ((d.auts.length : Int) < (k : Int) + 1) = false := decide_eq_false g2
  obtain ⟨u, hu⟩ : ∃ u, d.auts[k]? = some u := ⟨_, List.getElem?_eq_getElem (by omega)⟩
  rw [hu] at hr
  have HRS := Lib.hid hr
  obtain ⟨ad, hA, hlA, r0, r1, r2, r3, r4, r5, r6⟩ := reads_aut (HW.out.ext HX1.out).aut hu
  rw [hA] at m3
  have kid : IntKind.i64.wrap ((k : Int) + 1 - 1) = (k : Int) := by rw [IntKind.wrap_i64]; omega
  have hkl : (k : Int) < (d.auts.length : Int) := by omega
  have hkb : (k : Int) < 100 := by omega
  have HU := Lib.hid hu
  have HID := Lib.hid (chk_aut_id HE.out (show d.fro.auts[k]? = some u from hu))
  clear hu hA hlA g1 g2 hr
  go_upto_region 9 with (fail)
  obtain ⟨W3, e3⟩ : ∃ W, W1.alloc (.cells #[.int .i64 u.id, .int .i64 u.acc, .string u.name, .string u.tok, .int .i64 u.st, .int .i64 u.fr, .int .i64 u.un] 69) = W := ⟨_, rfl⟩
  try rw [e3]
  have HX3 : Hid (Ext W0 W3) := Lib.hid (by rw [← e3]; exact HX1.out.alloc _)
  have HB3 : Hid (Blk W3 W1.heap.size 69 #[.int .i64 u.id, .int .i64 u.acc, .string u.name, .string u.tok, .int .i64 u.st, .int .i64 u.fr, .int .i64 u.un]) := Lib.hid (by rw [← e3]; exact Blk.new _ _ _)
  have HS2 : Hid (W0.heap.size ≤ W1.heap.size) := Lib.hid HX1.out.size
  clear e3 m0 m1 m2 m3 m4 m5 r0 r1 r2 r3 r4 r5 r6 d1 d2
  have s4 := HB3.out.cell 4
  by_cases g3 : u.st = 2
  case neg =>
    have d3 : (u.st != 2) = true := by simp [g3]
    have HR := Lib.hid (HRS.out.trans (if_pos g3))
    clear g3
    have b2 := ext_blk (HX3.out) HB1.out
    obtain ⟨z0, z1, z2, z3, z4, z5, f0, f1, f2, f3, f4, f5⟩ := st6 b2
    have BB := Lib.hid (blk6 b2 (.int .i64 0) (.slice none 0 0) (.slice none 0 0) (.slice none 0 0) (.slice none 0 0) (.int .i64 0))
    clear b2
    go_wp2
    rw [HR.out]
    obtain ⟨r0, r1, r2, r3, r4, r5⟩ := arr6f BB.out
    refine bodyPost_ret (v := .tuple #[.agg #[.int .i64 0, .slice none 0 0, .slice none 0 0, .slice none 0 0, .slice none 0 0, .int .i64 0], .int .i64 221]) (by simp [results, Tryz.results27, go_sem, r0, r1, r2, r3, r4, r5]) rfl (outS_bad rfl (ext6 (HX0.out.trans (HX3.out)) (by omega) _ _ _ _ _ _))
  have d3 : (u.st != 2) = false := by simp [g3]
  have HR := Lib.hid (HRS.out.trans (if_neg (by simp [g3])))
  clear g3
  have fz4 := HB3.out.frozen 4
  have fz5 := HB3.out.frozen 5
  have fz6 := HB3.out.frozen 6
  cases ok
  · obtain ⟨W4, e4⟩ : ∃ W, W = (W3.setCell ⟨W1.heap.size, 4, none⟩ (.int .i64 4)) := ⟨_, rfl⟩
    have HE4 := Lib.hid e4
    have hne0 : w.heap.size ≠ W1.heap.size := by have := HSZ.out; have := HS2.out; omega
    have HB4 : Hid (Blk W4 W1.heap.size 69 #[.int .i64 u.id, .int .i64 u.acc, .string u.name, .string u.tok, .int .i64 4, .int .i64 u.fr, .int .i64 u.un]) := Lib.hid (by rw [e4]; exact HB3.out.set_ 4 (.int .i64 4))
    have HX4 : Hid (Ext W0 W4) := Lib.hid (by rw [e4]; exact HX3.out.setCell HS2.out _)
    clear e4
    have HFL := Lib.hid ((HW.out.ext HX4.out).uw u (List.mem_of_getElem? HU.out))
    have cW : Calls Tryz.prog 73 #[.agg #[.int .i64 d.next, .slice d.oA d.opn.length d.oc, .slice d.cA d.accs.length d.cc, .slice d.uA d.auts.length d.uc, .slice d.rA d.ords.length d.rc, .int .i64 d.ser], .agg #[.int .i64 u.id, .int .i64 u.acc, .string u.name, .string u.tok, .int .i64 4, .int .i64 u.fr, .int .i64 u.un]] W4 (outR d { d.fro with auts := d.auts.set k { u with st := 4 } } W4) := by
      have hkk := (List.getElem?_eq_some_iff.1 HU.out).1
      have hn := HN.out
      have hidu : u.id = (k : Int) + 1 := HID.out
      exact rwithAuth_any d { u with st := 4 } k hkk (by have := HU9.out; omega) hidu W4 (HW.out.ext HX4.out) ⟨HFL.out.id, HFL.out.acc, wf64_of (by simp) (by simp), HFL.out.fr, HFL.out.un, HFL.out.name, HFL.out.tok⟩
    unfold outR frontV at cW
    obtain ⟨n0, n1, n2, n3, n4, n5⟩ := arr6f (ext_blk HX3.out HB0.out)
    clear s4
    obtain ⟨s0, s1, s2, s3, s4, s5, s6⟩ := arr7q HB3.out
    go_wp2_with (go_at_call 73; (try rw [← HE4.out]); refine cW.mono ?_; clear cW; rintro e w5 ⟨d5, rfl, hf5, hw5, hl5, x5⟩; have b2 := ext_blk (HX4.out.trans x5) HB1.out; obtain ⟨z0, z1, z2, z3, z4, z5, f0, f1, f2, f3, f4, f5⟩ := st6 b2; have BB := Lib.hid (blk6 b2 (.int .i64 d5.next) (.slice d5.oA d5.opn.length d5.oc) (.slice d5.cA d5.accs.length d5.cc) (.slice d5.uA d5.auts.length d5.uc) (.slice d5.rA d5.ords.length d5.rc) (.int .i64 d5.ser)); clear b2)
    rw [HR.out]
    obtain ⟨r0, r1, r2, r3, r4, r5⟩ := arr6f BB.out
    have hsz := HSZ.out
    have h4 := HX4.out.size
    refine bodyPost_ret (v := .tuple #[.agg #[.int .i64 d5.next, .slice d5.oA d5.opn.length d5.oc, .slice d5.cA d5.accs.length d5.cc, .slice d5.uA d5.auts.length d5.uc, .slice d5.rA d5.ords.length d5.rc, .int .i64 d5.ser], .int .i64 0]) (by simp [results, Tryz.results27, go_sem, r0, r1, r2, r3, r4, r5]) rfl ⟨d5, rfl, ?_, hw5.grownTo ((hl5 _ HW_.out.lies).mono (fun b hb => by rcases hb with hb | hb; exact (by omega : b ≠ w.heap.size + 1); exact (by have h5 : W4.heap.size ≤ b := hb; omega : b ≠ w.heap.size + 1))) (grown6 w5 (w.heap.size + 1) (.int .i64 d5.next) (.slice d5.oA d5.opn.length d5.oc) (.slice d5.cA d5.accs.length d5.cc) (.slice d5.uA d5.auts.length d5.uc) (.slice d5.rA d5.ords.length d5.rc) (.int .i64 d5.ser)), fun S hS => (hl5 S hS).mono (fun b hb => by rcases hb with hb | hb; exact .inl hb; exact .inr (by have h5 : W4.heap.size ≤ b := hb; omega)), ext6 (HX0.out.trans (HX4.out.trans x5)) (by omega) (.int .i64 d5.next) (.slice d5.oA d5.opn.length d5.oc) (.slice d5.cA d5.accs.length d5.cc) (.slice d5.uA d5.auts.length d5.uc) (.slice d5.rA d5.ords.length d5.rc) (.int .i64 d5.ser)⟩
    rw [hf5]
    first | rfl | simp
  · obtain ⟨W4, e4⟩ : ∃ W, W = ((((W3.setCell ⟨W1.heap.size, 4, none⟩ (.int .i64 4)).setCell ⟨W1.heap.size, 4, none⟩ (.int .i64 3)).setCell ⟨W1.heap.size, 5, none⟩ (.int .i64 now)).setCell ⟨W1.heap.size, 6, none⟩ (.int .i64 (now + 50))) := ⟨_, rfl⟩
    have HE4 := Lib.hid e4
    have hne0 : w.heap.size ≠ W1.heap.size := by have := HSZ.out; have := HS2.out; omega
    have HB4 : Hid (Blk W4 W1.heap.size 69 #[.int .i64 u.id, .int .i64 u.acc, .string u.name, .string u.tok, .int .i64 3, .int .i64 now, .int .i64 (now + 50)]) := Lib.hid (by rw [e4]; exact (((HB3.out.set_ 4 (.int .i64 4)).set_ 4 (.int .i64 3)).set_ 5 (.int .i64 now)).set_ 6 (.int .i64 (now + 50)))
    have HX4 : Hid (Ext W0 W4) := Lib.hid (by rw [e4]; exact (((HX3.out.setCell HS2.out _).setCell HS2.out _).setCell HS2.out _).setCell HS2.out _)
    clear e4
    have HFL := Lib.hid ((HW.out.ext HX4.out).uw u (List.mem_of_getElem? HU.out))
    have cW : Calls Tryz.prog 73 #[.agg #[.int .i64 d.next, .slice d.oA d.opn.length d.oc, .slice d.cA d.accs.length d.cc, .slice d.uA d.auts.length d.uc, .slice d.rA d.ords.length d.rc, .int .i64 d.ser], .agg #[.int .i64 u.id, .int .i64 u.acc, .string u.name, .string u.tok, .int .i64 3, .int .i64 now, .int .i64 (now + 50)]] W4 (outR d { d.fro with auts := d.auts.set k { u with st := 3, fr := now, un := now + 50 } } W4) := by
      have hkk := (List.getElem?_eq_some_iff.1 HU.out).1
      have hn := HN.out
      have hidu : u.id = (k : Int) + 1 := HID.out
      exact rwithAuth_any d { u with st := 3, fr := now, un := now + 50 } k hkk (by have := HU9.out; omega) hidu W4 (HW.out.ext HX4.out) ⟨HFL.out.id, HFL.out.acc, wf64_of (by simp) (by simp), wf64_of (by simp only; omega) (by simp only; omega), wf64_of (by simp only; omega) (by simp only; omega), HFL.out.name, HFL.out.tok⟩
    unfold outR frontV at cW
    obtain ⟨n0, n1, n2, n3, n4, n5⟩ := arr6f (ext_blk HX3.out HB0.out)
    clear s4
    obtain ⟨s0, s1, s2, s3, s4, s5, s6⟩ := arr7q HB3.out
    go_wp2_with (go_at_call 73; (try rw [← HE4.out]); refine cW.mono ?_; clear cW; rintro e w5 ⟨d5, rfl, hf5, hw5, hl5, x5⟩; have b2 := ext_blk (HX4.out.trans x5) HB1.out; obtain ⟨z0, z1, z2, z3, z4, z5, f0, f1, f2, f3, f4, f5⟩ := st6 b2; have BB := Lib.hid (blk6 b2 (.int .i64 d5.next) (.slice d5.oA d5.opn.length d5.oc) (.slice d5.cA d5.accs.length d5.cc) (.slice d5.uA d5.auts.length d5.uc) (.slice d5.rA d5.ords.length d5.rc) (.int .i64 d5.ser)); clear b2)
    rw [HR.out]
    obtain ⟨r0, r1, r2, r3, r4, r5⟩ := arr6f BB.out
    have hsz := HSZ.out
    have h4 := HX4.out.size
    refine bodyPost_ret (v := .tuple #[.agg #[.int .i64 d5.next, .slice d5.oA d5.opn.length d5.oc, .slice d5.cA d5.accs.length d5.cc, .slice d5.uA d5.auts.length d5.uc, .slice d5.rA d5.ords.length d5.rc, .int .i64 d5.ser], .int .i64 0]) (by simp [results, Tryz.results27, go_sem, r0, r1, r2, r3, r4, r5]) rfl ⟨d5, rfl, ?_, hw5.grownTo ((hl5 _ HW_.out.lies).mono (fun b hb => by rcases hb with hb | hb; exact (by omega : b ≠ w.heap.size + 1); exact (by have h5 : W4.heap.size ≤ b := hb; omega : b ≠ w.heap.size + 1))) (grown6 w5 (w.heap.size + 1) (.int .i64 d5.next) (.slice d5.oA d5.opn.length d5.oc) (.slice d5.cA d5.accs.length d5.cc) (.slice d5.uA d5.auts.length d5.uc) (.slice d5.rA d5.ords.length d5.rc) (.int .i64 d5.ser)), fun S hS => (hl5 S hS).mono (fun b hb => by rcases hb with hb | hb; exact .inl hb; exact .inr (by have h5 : W4.heap.size ≤ b := hb; omega)), ext6 (HX0.out.trans (HX4.out.trans x5)) (by omega) (.int .i64 d5.next) (.slice d5.oA d5.opn.length d5.oc) (.slice d5.cA d5.accs.length d5.cc) (.slice d5.uA d5.auts.length d5.uc) (.slice d5.rA d5.ords.length d5.rc) (.int .i64 d5.ser)⟩
    rw [hf5]
    first | rfl | simp
theorem askn_22 {f : FroR} {id : Int} (h : id < 1 ∨ (f.ords.length : Int) < id) : askF f id = (131, none) := by
  unfold askF
  by_cases h1 : id < 1
  · rw [if_pos h1]
  · rw [if_neg h1, List.getElem?_eq_none (by omega)]
theorem asks_22 {f : FroR} {k : Nat} {u : OrdR} (hu : f.ords[k]? = some u) : askF f ((k : Int) + 1) = if u.st ≠ 2 then (221, none) else (0, some u) := by
  unfold askF
  rw [if_neg (by omega), show ((k : Int) + 1).toNat - 1 = k by omega, hu]
set_option maxRecDepth 100000 in
set_option maxHeartbeats 16000000 in
theorem rDone_any (d : DoorX) (id ser : Int) (w : World) (hw : DoorW w w.heap.size d) (hu9 : d.auts.length < 99) (ha9 : d.accs.length < 100) (hr9 : d.ords.length < 99) :
    Calls Tryz.prog 31 #[frontV d, .int .i64 id, .int .i64 ser] w (outS d (donF d.fro id ser) w) := by
  obtain ⟨W0, e0, b0, b1, x0, s0⟩ := startP w #[.int .i64 d.next, .slice d.oA d.opn.length d.oc, .slice d.cA d.accs.length d.cc, .slice d.uA d.auts.length d.uc, .slice d.rA d.ords.length d.rc, .int .i64 d.ser] #[.int .i64 0, .slice none 0 0, .slice none 0 0, .slice none 0 0, .slice none 0 0, .int .i64 0] 43 43
  have cC := rCheck_any22 d hu9 ha9 W0 (hw.ext x0)
  obtain ⟨E, hE⟩ : ∃ E, chkF d.fro = E := ⟨_, rfl⟩
  rw [hE] at cC
  have HW := Lib.hid (hw.ext x0)
  have HW_ := Lib.hid hw
  have HB0 := Lib.hid b0
  have HB1 := Lib.hid b1
  have HX0 := Lib.hid x0
  have HSZ : Hid (w.heap.size + 2 ≤ W0.heap.size) := Lib.hid (by omega)
  have HE := Lib.hid hE
  have HU9 := Lib.hid hu9
  have HR9 := Lib.hid hr9
  obtain ⟨m0, m1, m2, m3, m4, m5⟩ := arr6f b0
  unfold frontV at cC ⊢
  clear b0 b1 x0 s0 hw hE hu9 ha9 hr9
  go_enter Tryz.func31, Tryz.ntmps31
  go_upto_region 1 with (fail)
  try rw [e0]
  clear e0
  by_cases h0 : E = 0
  case neg =>
    have HR := Lib.hid (donF_1 (id := id) (ser := ser) HE.out h0)
    have k0 := ne_beq h0
    clear h0
    go_wp2_with (go_at_call 22; refine cC.mono ?_; clear cC m0 m1 m2 m3 m4 m5; rintro e w1 ⟨rfl, x1⟩; have b2 := ext_blk (x1) HB1.out; obtain ⟨q0, q1, q2, q3, q4, q5, f0, f1, f2, f3, f4, f5⟩ := st6 b2; have BB := Lib.hid (blk6 b2 (.int .i64 0) (.slice none 0 0) (.slice none 0 0) (.slice none 0 0) (.slice none 0 0) (.int .i64 0)); clear b2)
    rw [HR.out]
    obtain ⟨r0, r1, r2, r3, r4, r5⟩ := arr6f BB.out
    refine bodyPost_ret (v := .tuple #[.agg #[.int .i64 0, .slice none 0 0, .slice none 0 0, .slice none 0 0, .slice none 0 0, .int .i64 0], .int .i64 (E : Int)]) (by simp [results, Tryz.results31, go_sem, r0, r1, r2, r3, r4, r5]) rfl (outS_bad rfl (ext6 (HX0.out.trans (x1)) (by omega) _ _ _ _ _ _))
  subst h0
  go_upto_region 4 with (go_at_call 22; refine cC.mono ?_; clear cC m0 m1 m2 m3 m4 m5; rintro e w1 ⟨rfl, x1⟩)
  obtain ⟨W1, hW1⟩ : ∃ W, W = w1 := ⟨_, rfl⟩
  rw [← hW1] at x1 ⊢
  have HX1 := Lib.hid x1
  obtain ⟨m0, m1, m2, m3, m4, m5⟩ := arr6f (ext_blk x1 HB0.out)
  have hlb : (d.ords.length : Int) < 100 := by have := HR9.out; omega
  clear x1 hW1
  by_cases g1 : id < 1
  · have d1 : decide (id < 1) = true := decide_eq_true g1
    have HR := Lib.hid (donF_2 (ser := ser) HE.out (askn_22 (.inl g1)))
    clear g1
    have b2 := ext_blk (HX1.out) HB1.out
    obtain ⟨z0, z1, z2, z3, z4, z5, f0, f1, f2, f3, f4, f5⟩ := st6 b2
    have BB := Lib.hid (blk6 b2 (.int .i64 0) (.slice none 0 0) (.slice none 0 0) (.slice none 0 0) (.slice none 0 0) (.int .i64 0))
    clear b2
    go_wp2
    rw [HR.out]
    obtain ⟨r0, r1, r2, r3, r4, r5⟩ := arr6f BB.out
    refine bodyPost_ret (v := .tuple #[.agg #[.int .i64 0, .slice none 0 0, .slice none 0 0, .slice none 0 0, .slice none 0 0, .int .i64 0], .int .i64 131]) (by simp [results, Tryz.results31, go_sem, r0, r1, r2, r3, r4, r5]) rfl (outS_bad rfl (ext6 (HX0.out.trans (HX1.out)) (by omega) _ _ _ _ _ _))
  have d1 : decide (id < 1) = false := decide_eq_false g1
  obtain ⟨k, hk⟩ : ∃ k : Nat, id = (k : Int) + 1 := ⟨(id - 1).toNat, by omega⟩
  subst hk
  by_cases g2 : (d.ords.length : Int) < (k : Int) + 1
  · have d2 : decide ((d.ords.length : Int) < (k : Int) + 1) = true := decide_eq_true g2
    have HR := Lib.hid (donF_2 (ser := ser) HE.out (askn_22 (.inr (show (d.fro.ords.length : Int) < (k : Int) + 1 by rw [dfro_ords, List.length_map]; exact g2))))
    clear g1 g2
    have b2 := ext_blk (HX1.out) HB1.out
    obtain ⟨z0, z1, z2, z3, z4, z5, f0, f1, f2, f3, f4, f5⟩ := st6 b2
    have BB := Lib.hid (blk6 b2 (.int .i64 0) (.slice none 0 0) (.slice none 0 0) (.slice none 0 0) (.slice none 0 0) (.int .i64 0))
    clear b2
    go_wp2
    rw [HR.out]
    obtain ⟨r0, r1, r2, r3, r4, r5⟩ := arr6f BB.out
    refine bodyPost_ret (v := .tuple #[.agg #[.int .i64 0, .slice none 0 0, .slice none 0 0, .slice none 0 0, .slice none 0 0, .int .i64 0], .int .i64 131]) (by simp [results, Tryz.results31, go_sem, r0, r1, r2, r3, r4, r5]) rfl (outS_bad rfl (ext6 (HX0.out.trans (HX1.out)) (by omega) _ _ _ _ _ _))
  have d2 : decide ((d.ords.length : Int) < (k : Int) + 1) = false := decide_eq_false g2
  obtain ⟨u, hu⟩ : ∃ u, d.ords[k]? = some u := ⟨_, List.getElem?_eq_getElem (by omega)⟩
  have huo : d.fro.ords[k]? = some u.o := by rw [dfro_ords, List.getElem?_map, hu]; rfl
  have HASK := Lib.hid (asks_22 huo)
  obtain ⟨ad, hA, hlA, r0, r1, r2, r3, r4, r5, r6, r7⟩ := reads_ord (HW.out.ext HX1.out).ord hu
  rw [hA] at m4
  have kid : IntKind.i64.wrap ((k : Int) + 1 - 1) = (k : Int) := by rw [IntKind.wrap_i64]; omega
  have hkl : (k : Int) < (d.ords.length : Int) := by omega
  have hkb : (k : Int) < 100 := by omega
  have HU := Lib.hid hu
  have HID := Lib.hid (chk_ord_id HE.out huo)
  clear hu huo hA hlA g1 g2
  go_upto_region 7 with (fail)
  obtain ⟨W3, e3⟩ : ∃ W, W1.alloc (.cells #[.int .i64 u.o.id, .int .i64 u.o.acc, .slice u.nA u.o.names.length u.nc, .int .u64 (u.o.key : Int), .int .i64 u.o.life, .slice u.aA u.o.auths.length u.ac, .int .i64 u.o.st, .int .i64 u.o.ser] 78) = W := ⟨_, rfl⟩
  try rw [e3]
  have HX3 : Hid (Ext W0 W3) := Lib.hid (by rw [← e3]; exact HX1.out.alloc _)
  have HB3 : Hid (Blk W3 W1.heap.size 78 #[.int .i64 u.o.id, .int .i64 u.o.acc, .slice u.nA u.o.names.length u.nc, .int .u64 (u.o.key : Int), .int .i64 u.o.life, .slice u.aA u.o.auths.length u.ac, .int .i64 u.o.st, .int .i64 u.o.ser]) := Lib.hid (by rw [← e3]; exact Blk.new _ _ _)
  have HS2 : Hid (W0.heap.size ≤ W1.heap.size) := Lib.hid HX1.out.size
  clear e3 m0 m1 m2 m3 m4 m5 r0 r1 r2 r3 r4 r5 r6 r7 d1 d2
  have s6 := HB3.out.cell 6
  by_cases g3 : u.o.st = 2
  case neg =>
    have d3 : (u.o.st != 2) = true := by simp [g3]
    have HR := Lib.hid (donF_2 (ser := ser) HE.out (HASK.out.trans (if_pos g3)))
    clear g3
    have b2 := ext_blk (HX3.out) HB1.out
    obtain ⟨z0, z1, z2, z3, z4, z5, f0, f1, f2, f3, f4, f5⟩ := st6 b2
    have BB := Lib.hid (blk6 b2 (.int .i64 0) (.slice none 0 0) (.slice none 0 0) (.slice none 0 0) (.slice none 0 0) (.int .i64 0))
    clear b2
    go_wp2
    rw [HR.out]
    obtain ⟨r0, r1, r2, r3, r4, r5⟩ := arr6f BB.out
    refine bodyPost_ret (v := .tuple #[.agg #[.int .i64 0, .slice none 0 0, .slice none 0 0, .slice none 0 0, .slice none 0 0, .int .i64 0], .int .i64 221]) (by simp [results, Tryz.results31, go_sem, r0, r1, r2, r3, r4, r5]) rfl (outS_bad rfl (ext6 (HX0.out.trans (HX3.out)) (by omega) _ _ _ _ _ _))
  have d3 : (u.o.st != 2) = false := by simp [g3]
  have HRS := Lib.hid (donF_3 (ser := ser) HE.out (HASK.out.trans (if_neg (by simp [g3]))))
  clear g3
  go_upto_region 9 with (fail)
  clear s6
  obtain ⟨n0, n1, n2, n3, n4, n5⟩ := arr6f (ext_blk HX3.out HB0.out)
  by_cases g4 : ser ≤ d.ser
  · have d4 : decide (ser ≤ d.ser) = true := decide_eq_true g4
    have HR := Lib.hid (HRS.out.trans (if_pos (.inl g4)))
    clear g4
    have b2 := ext_blk (HX3.out) HB1.out
    obtain ⟨z0, z1, z2, z3, z4, z5, f0, f1, f2, f3, f4, f5⟩ := st6 b2
    have BB := Lib.hid (blk6 b2 (.int .i64 0) (.slice none 0 0) (.slice none 0 0) (.slice none 0 0) (.slice none 0 0) (.int .i64 0))
    clear b2
    go_wp2
    rw [HR.out]
    obtain ⟨r0, r1, r2, r3, r4, r5⟩ := arr6f BB.out
    refine bodyPost_ret (v := .tuple #[.agg #[.int .i64 0, .slice none 0 0, .slice none 0 0, .slice none 0 0, .slice none 0 0, .int .i64 0], .int .i64 1]) (by simp [results, Tryz.results31, go_sem, r0, r1, r2, r3, r4, r5]) rfl (outS_bad rfl (ext6 (HX0.out.trans (HX3.out)) (by omega) _ _ _ _ _ _))
  have d4 : decide (ser ≤ d.ser) = false := decide_eq_false g4
  by_cases g5 : 1099511627776 < ser
  · have d5 : decide (1099511627776 < ser) = true := decide_eq_true g5
    have HR := Lib.hid (HRS.out.trans (if_pos (.inr g5)))
    clear g4 g5
    have b2 := ext_blk (HX3.out) HB1.out
    obtain ⟨z0, z1, z2, z3, z4, z5, f0, f1, f2, f3, f4, f5⟩ := st6 b2
    have BB := Lib.hid (blk6 b2 (.int .i64 0) (.slice none 0 0) (.slice none 0 0) (.slice none 0 0) (.slice none 0 0) (.int .i64 0))
    clear b2
    go_wp2
    rw [HR.out]
    obtain ⟨r0, r1, r2, r3, r4, r5⟩ := arr6f BB.out
    refine bodyPost_ret (v := .tuple #[.agg #[.int .i64 0, .slice none 0 0, .slice none 0 0, .slice none 0 0, .slice none 0 0, .int .i64 0], .int .i64 1]) (by simp [results, Tryz.results31, go_sem, r0, r1, r2, r3, r4, r5]) rfl (outS_bad rfl (ext6 (HX0.out.trans (HX3.out)) (by omega) _ _ _ _ _ _))
  have d5 : decide (1099511627776 < ser) = false := decide_eq_false g5
  have HR := Lib.hid (HRS.out.trans (if_neg (show ¬ (ser ≤ d.fro.ser ∨ 1099511627776 < ser) from fun h => h.elim g4 g5)))
  have hsr : wf64 ser := wf64_of (by have := wf64_out HW.out.ser; omega) (by omega)
  have HSR := Lib.hid hsr
  clear g4 g5 hsr
  have fz6 := HB3.out.frozen 6
  have fz7 := HB3.out.frozen 7
  obtain ⟨W4, e4⟩ : ∃ W, W = (W3.setCell ⟨W1.heap.size, 6, none⟩ (.int .i64 5)).setCell ⟨W1.heap.size, 7, none⟩ (.int .i64 ser) := ⟨_, rfl⟩
  have HE4 := Lib.hid e4
  have hne0 : w.heap.size ≠ W1.heap.size := by have := HSZ.out; have := HS2.out; omega
  have HB4 : Hid (Blk W4 W1.heap.size 78 #[.int .i64 u.o.id, .int .i64 u.o.acc, .slice u.nA u.o.names.length u.nc, .int .u64 (u.o.key : Int), .int .i64 u.o.life, .slice u.aA u.o.auths.length u.ac, .int .i64 5, .int .i64 ser]) := Lib.hid (by rw [e4]; exact (HB3.out.set_ 6 (.int .i64 5)).set_ 7 (.int .i64 ser))
  have HX4 : Hid (Ext W0 W4) := Lib.hid (by rw [e4]; exact (HX3.out.setCell HS2.out _).setCell HS2.out _)
  clear e4
  have HFL := Lib.hid ((HW.out.ext HX4.out).rw u (List.mem_of_getElem? HU.out))
  have cW : Calls Tryz.prog 79 #[.agg #[.int .i64 d.next, .slice d.oA d.opn.length d.oc, .slice d.cA d.accs.length d.cc, .slice d.uA d.auts.length d.uc, .slice d.rA d.ords.length d.rc, .int .i64 d.ser], .agg #[.int .i64 u.o.id, .int .i64 u.o.acc, .slice u.nA u.o.names.length u.nc, .int .u64 (u.o.key : Int), .int .i64 u.o.life, .slice u.aA u.o.auths.length u.ac, .int .i64 5, .int .i64 ser]] W4 (outR d { d.fro with ords := (d.ords.map (·.o)).set k { u.o with st := 5, ser := ser } } W4) := by
    have hkk := (List.getElem?_eq_some_iff.1 HU.out).1
    have hidu : u.o.id = (k : Int) + 1 := HID.out
    have xw := HFL.out
    exact rwithOrder_any d { u with o := { u.o with st := 5, ser := ser } } k hkk (by have := HR9.out; omega) hidu W4 (HW.out.ext HX4.out) ⟨xw.id, xw.acc, xw.key, xw.life, wf64_of (by simp) (by simp), HSR.out, xw.names, xw.nc, xw.nl, xw.ns, xw.auths, xw.ac, xw.al, xw.aw⟩ (fun S hS => ⟨hS.n u (List.mem_of_getElem? HU.out), hS.a u (List.mem_of_getElem? HU.out)⟩)
  unfold outR frontV at cW
  obtain ⟨s0, s1, s2, s3, s4, s5, s6, s7⟩ := arr8 HB3.out
  go_upto_region 14 with (go_at_call 79; (try rw [← HE4.out]); refine cW.mono ?_; clear cW; rintro e w5 ⟨d5, rfl, hf5, hw5, hl5, x5⟩; have b2 := ext_blk (HX4.out.trans x5) HB0.out; obtain ⟨z0, z1, z2, z3, z4, z5, f0, f1, f2, f3, f4, f5⟩ := st6 b2; have BB0 := Lib.hid (blk6 b2 (.int .i64 d5.next) (.slice d5.oA d5.opn.length d5.oc) (.slice d5.cA d5.accs.length d5.cc) (.slice d5.uA d5.auts.length d5.uc) (.slice d5.rA d5.ords.length d5.rc) (.int .i64 d5.ser)); clear b2)
  obtain ⟨W6, e6⟩ : ∃ W, W = ((((((w5.setCell ⟨w.heap.size, 0, none⟩ (.int .i64 d5.next)).setCell ⟨w.heap.size, 1, none⟩ (.slice d5.oA d5.opn.length d5.oc)).setCell ⟨w.heap.size, 2, none⟩ (.slice d5.cA d5.accs.length d5.cc)).setCell ⟨w.heap.size, 3, none⟩ (.slice d5.uA d5.auts.length d5.uc)).setCell ⟨w.heap.size, 4, none⟩ (.slice d5.rA d5.ords.length d5.rc)).setCell ⟨w.heap.size, 5, none⟩ (.int .i64 d5.ser)) := ⟨_, rfl⟩
  try rw [← e6]
  rw [← e6] at BB0
  have X5 : Ext w w5 := HX0.out.trans (HX4.out.trans x5)
  have HX6 : Hid (Ext w W6) := Lib.hid (by rw [e6]; exact ext6 X5 (Nat.le_refl _) (.int .i64 d5.next) (.slice d5.oA d5.opn.length d5.oc) (.slice d5.cA d5.accs.length d5.cc) (.slice d5.uA d5.auts.length d5.uc) (.slice d5.rA d5.ords.length d5.rc) (.int .i64 d5.ser))
  have hsz := HSZ.out
  have h4 := HX4.out.size
  have HG6 : Hid (w5.grownBy W6 (some w.heap.size)) := Lib.hid (by rw [e6]; exact grown6 w5 w.heap.size (.int .i64 d5.next) (.slice d5.oA d5.opn.length d5.oc) (.slice d5.cA d5.accs.length d5.cc) (.slice d5.uA d5.auts.length d5.uc) (.slice d5.rA d5.ords.length d5.rc) (.int .i64 d5.ser))
  have B1 : Blk W6 (w.heap.size + 1) 43 #[.int .i64 0, .slice none 0 0, .slice none 0 0, .slice none 0 0, .slice none 0 0, .int .i64 0] := by rw [e6]; exact far6 (ext_blk (HX4.out.trans x5) HB1.out) (b := w.heap.size) (by omega) (.int .i64 d5.next) (.slice d5.oA d5.opn.length d5.oc) (.slice d5.cA d5.accs.length d5.cc) (.slice d5.uA d5.auts.length d5.uc) (.slice d5.rA d5.ords.length d5.rc) (.int .i64 d5.ser)
  have B0 := BB0.out.set_ 5 (.int .i64 ser)
  obtain ⟨W7, e7⟩ : ∃ W, W = W6.setCell ⟨w.heap.size, 5, none⟩ (.int .i64 ser) := ⟨_, rfl⟩
  rw [← e7] at B0
  have HX7 : Hid (Ext w W7) := Lib.hid (by rw [e7]; exact HX6.out.setCell (Nat.le_refl _) _)
  have HG7 : Hid (w5.grownBy W7 (some w.heap.size)) := Lib.hid (by rw [e7]; exact HG6.out.trans (grown_set _ _ _ _))
  have b2 : Blk W7 (w.heap.size + 1) 43 #[.int .i64 0, .slice none 0 0, .slice none 0 0, .slice none 0 0, .slice none 0 0, .int .i64 0] := by rw [e7]; exact B1.far (p := ⟨w.heap.size, 5, none⟩) (by simp) _
  have HD7 : Hid (DoorW W7 W7.heap.size (withS d5 ser)) := Lib.hid (withS_w (hw5.grownTo ((hl5 _ HW_.out.lies).mono (fun b hb => by rcases hb with hb | hb; exact (by omega : b ≠ w.heap.size); exact (by have h5 : W4.heap.size ≤ b := hb; omega : b ≠ w.heap.size))) HG7.out) HSR.out)
  have HL5 := Lib.hid hl5
  have HF5 := Lib.hid hf5
  have HE7 := Lib.hid e7
  have HB1F := Lib.hid B1
  have BB := Lib.hid (blk6 b2 (.int .i64 d5.next) (.slice d5.oA d5.opn.length d5.oc) (.slice d5.cA d5.accs.length d5.cc) (.slice d5.uA d5.auts.length d5.uc) (.slice d5.rA d5.ords.length d5.rc) (.int .i64 ser))
  have HSZ4 := Lib.hid (And.intro hsz h4)
  clear e6 e7 fz6 fz7 n0 n1 n2 n3 n4 n5 s0 s1 s2 s3 s4 s5 s6 s7 hl5 hf5 hw5 B0 B1 x5 X5 z0 z1 z2 z3 z4 z5 f0 f1 f2 f3 f4 f5 b2 hsz h4
  obtain ⟨m0, m1, m2, m3, m4, m5⟩ := arr6f BB0.out
  have fz5 := BB0.out.frozen 5
  obtain ⟨z0, z1, z2, z3, z4, z5, f0, f1, f2, f3, f4, f5⟩ := st6 HB1F.out
  go_wp2
  rw [← HE7.out]
  obtain ⟨hsz, h4⟩ := HSZ4.out
  rw [HR.out]
  obtain ⟨r0, r1, r2, r3, r4, r5⟩ := arr6f BB.out
  refine bodyPost_ret (v := .tuple #[.agg #[.int .i64 d5.next, .slice d5.oA d5.opn.length d5.oc, .slice d5.cA d5.accs.length d5.cc, .slice d5.uA d5.auts.length d5.uc, .slice d5.rA d5.ords.length d5.rc, .int .i64 ser], .int .i64 0]) (by simp [results, Tryz.results31, go_sem, r0, r1, r2, r3, r4, r5]) rfl ⟨withS d5 ser, rfl, ?_, HD7.out.grownTo (withS_l ((HL5.out _ HW_.out.lies).mono (fun b hb => by rcases hb with hb | hb; exact (by omega : b ≠ w.heap.size + 1); exact (by have h5 : W4.heap.size ≤ b := hb; omega : b ≠ w.heap.size + 1)))) (grown6 W7 (w.heap.size + 1) (.int .i64 d5.next) (.slice d5.oA d5.opn.length d5.oc) (.slice d5.cA d5.accs.length d5.cc) (.slice d5.uA d5.auts.length d5.uc) (.slice d5.rA d5.ords.length d5.rc) (.int .i64 ser)), fun S hS => withS_l ((HL5.out S hS).mono (fun b hb => by rcases hb with hb | hb; exact .inl hb; exact .inr (by have h5 : W4.heap.size ≤ b := hb; omega))), ext6 HX7.out (by omega) (.int .i64 d5.next) (.slice d5.oA d5.opn.length d5.oc) (.slice d5.cA d5.accs.length d5.cc) (.slice d5.uA d5.auts.length d5.uc) (.slice d5.rA d5.ords.length d5.rc) (.int .i64 ser)⟩
  have hf := HF5.out
  show ({ d5.fro with ser := ser } : FroR) = _
  rw [hf, show ((k : Int) + 1).toNat - 1 = k by omega]
  first | rfl | simp
theorem chk_ord_idx {f : FroR} (h : chkF f = 0) {k : Nat} {u : OrdR} (hu : f.ords[k]? = some u) : ∀ n ∈ u.auths, 1 ≤ n ∧ n ≤ f.auts.length := by
  have hd : doorP f := by
    unfold chkF at h
    split at h
    · cases h
    · next h' => exact Classical.not_not.1 h'
  obtain ⟨hk, rfl⟩ := List.getElem?_eq_some_iff.1 hu
  obtain ⟨_, _, _, _, _, _, _, hl, hh⟩ := (hd.2.2.2.2.1 k hk).1
  intro n hn
  obtain ⟨i, hi, rfl⟩ := List.getElem_of_mem hn
  have := hh i hi (by omega)
  exact ⟨this.1, this.2.1⟩
set_option maxRecDepth 100000 in
set_option maxHeartbeats 16000000 in
theorem rWish_any (d : DoorX) (id now : Int) (w : World) (hw : DoorW w w.heap.size d) (hu9 : d.auts.length < 99) (ha9 : d.accs.length < 100) (hr9 : d.ords.length < 99) :
    Calls Tryz.prog 29 #[frontV d, .int .i64 id, .int .i64 now] w (wisPost (wisF d.fro id now) w) := by
  obtain ⟨W0, e0, b0, b1, x0, s0⟩ := startP w #[.int .i64 d.next, .slice d.oA d.opn.length d.oc, .slice d.cA d.accs.length d.cc, .slice d.uA d.auts.length d.uc, .slice d.rA d.ords.length d.rc, .int .i64 d.ser] #[.int .i64 0, .slice none 0 0, .int .u64 0, .int .i64 0] 43 55
  have cC := rCheck_any22 d hu9 ha9 W0 (hw.ext x0)
  have cN := rnum_any now
  obtain ⟨E, hE⟩ : ∃ E, chkF d.fro = E := ⟨_, rfl⟩
  rw [hE] at cC
  have HW := Lib.hid (hw.ext x0)
  have HB0 := Lib.hid b0
  have HB1 := Lib.hid b1
  have HX0 := Lib.hid x0
  have HSZ : Hid (w.heap.size + 2 ≤ W0.heap.size) := Lib.hid (by omega)
  have HE := Lib.hid hE
  have HU9 := Lib.hid hu9
  have HR9 := Lib.hid hr9
  obtain ⟨m0, m1, m2, m3, m4, m5⟩ := arr6f b0
  unfold frontV at cC ⊢
  clear b0 b1 x0 s0 hw hE hu9 ha9 hr9
  go_enter Tryz.func29, Tryz.ntmps29
  go_upto_region 1 with (fail)
  try rw [e0]
  clear e0
  by_cases h0 : E = 0
  case neg =>
    have HR := Lib.hid (wisF_1 (id := id) (now := now) HE.out h0)
    have k0 := ne_beq h0
    clear h0 cN
    go_wp2_with (go_at_call 22; refine cC.mono ?_; clear cC m0 m1 m2 m3 m4 m5; rintro e w1 ⟨rfl, x1⟩; have b2 := ext_blk (x1) HB1.out; obtain ⟨q0, q1, q2, q3, f0, f1, f2, f3⟩ := st4 b2; have BB := Lib.hid (blk4 b2 (.int .i64 0) (.slice none 0 0) (.int .u64 0) (.int .i64 0)); clear b2)
    rw [HR.out]
    obtain ⟨r0, r1, r2, r3⟩ := arr4f BB.out
    refine bodyPost_ret (v := .tuple #[.agg #[.int .i64 0, .slice none 0 0, .int .u64 0, .int .i64 0], .int .i64 (E : Int)]) (by simp [results, Tryz.results29, go_sem, r0, r1, r2, r3]) rfl (wisPost_bad rfl (ext4 (HX0.out.trans (x1)) (by omega) _ _ _ _))
  subst h0
  by_cases ht : numP now
  case neg =>
    have HR := Lib.hid (wisF_2 (id := id) HE.out ht)
    rw [show decide (numP now) = false from decide_eq_false ht] at cN
    clear ht
    go_wp2_with (first | (go_at_call 22; refine cC.mono ?_; clear cC m0 m1 m2 m3 m4 m5; rintro e w1 ⟨rfl, x1⟩; have b2 := ext_blk (x1) HB1.out; obtain ⟨q0, q1, q2, q3, f0, f1, f2, f3⟩ := st4 b2; have BB := Lib.hid (blk4 b2 (.int .i64 0) (.slice none 0 0) (.int .u64 0) (.int .i64 0)); clear b2) | (go_at_call 43; refine (cN _).mono ?_; clear cN; rintro e w2 ⟨rfl, rfl⟩))
    rw [HR.out]
    obtain ⟨r0, r1, r2, r3⟩ := arr4f BB.out
    refine bodyPost_ret (v := .tuple #[.agg #[.int .i64 0, .slice none 0 0, .int .u64 0, .int .i64 0], .int .i64 1]) (by simp [results, Tryz.results29, go_sem, r0, r1, r2, r3]) rfl (wisPost_bad rfl (ext4 (HX0.out.trans (x1)) (by omega) _ _ _ _))
  rw [show decide (numP now) = true from decide_eq_true ht] at cN
  have HT := Lib.hid ht
  clear ht
  go_upto_region 6 with (first | (go_at_call 22; refine cC.mono ?_; clear cC m0 m1 m2 m3 m4 m5; rintro e w1 ⟨rfl, x1⟩) | (go_at_call 43; refine (cN _).mono ?_; clear cN; rintro e w2 ⟨rfl, rfl⟩))
  obtain ⟨W1, hW1⟩ : ∃ W, W = w1 := ⟨_, rfl⟩
  rw [← hW1] at x1 ⊢
  have HX1 := Lib.hid x1
  obtain ⟨m0, m1, m2, m3, m4, m5⟩ := arr6f (ext_blk x1 HB0.out)
  have hlb : (d.ords.length : Int) < 100 := by have := HR9.out; omega
  clear x1 hW1
  by_cases g1 : id < 1
  · have d1 : decide (id < 1) = true := decide_eq_true g1
    have HR := Lib.hid (wisF_3 HE.out HT.out (askn_22 (.inl g1)))
    clear g1
    have b2 := ext_blk (HX1.out) HB1.out
    obtain ⟨z0, z1, z2, z3, f0, f1, f2, f3⟩ := st4 b2
    have BB := Lib.hid (blk4 b2 (.int .i64 0) (.slice none 0 0) (.int .u64 0) (.int .i64 0))
    clear b2
    go_wp2
    rw [HR.out]
    obtain ⟨r0, r1, r2, r3⟩ := arr4f BB.out
    refine bodyPost_ret (v := .tuple #[.agg #[.int .i64 0, .slice none 0 0, .int .u64 0, .int .i64 0], .int .i64 131]) (by simp [results, Tryz.results29, go_sem, r0, r1, r2, r3]) rfl (wisPost_bad rfl (ext4 (HX0.out.trans (HX1.out)) (by omega) _ _ _ _))
  have d1 : decide (id < 1) = false := decide_eq_false g1
  obtain ⟨k, hk⟩ : ∃ k : Nat, id = (k : Int) + 1 := ⟨(id - 1).toNat, by omega⟩
  subst hk
  by_cases g2 : (d.ords.length : Int) < (k : Int) + 1
  · have d2 : decide ((d.ords.length : Int) < (k : Int) + 1) = true := decide_eq_true g2
    have HR := Lib.hid (wisF_3 HE.out HT.out (askn_22 (.inr (show (d.fro.ords.length : Int) < (k : Int) + 1 by rw [dfro_ords, List.length_map]; exact g2))))
    clear g1 g2
    have b2 := ext_blk (HX1.out) HB1.out
    obtain ⟨z0, z1, z2, z3, f0, f1, f2, f3⟩ := st4 b2
    have BB := Lib.hid (blk4 b2 (.int .i64 0) (.slice none 0 0) (.int .u64 0) (.int .i64 0))
    clear b2
    go_wp2
    rw [HR.out]
    obtain ⟨r0, r1, r2, r3⟩ := arr4f BB.out
    refine bodyPost_ret (v := .tuple #[.agg #[.int .i64 0, .slice none 0 0, .int .u64 0, .int .i64 0], .int .i64 131]) (by simp [results, Tryz.results29, go_sem, r0, r1, r2, r3]) rfl (wisPost_bad rfl (ext4 (HX0.out.trans (HX1.out)) (by omega) _ _ _ _))
  have d2 : decide ((d.ords.length : Int) < (k : Int) + 1) = false := decide_eq_false g2
  obtain ⟨u, hu⟩ : ∃ u, d.ords[k]? = some u := ⟨_, List.getElem?_eq_getElem (by omega)⟩
  have huo : d.fro.ords[k]? = some u.o := by rw [dfro_ords, List.getElem?_map, hu]; rfl
  have HASK := Lib.hid (asks_22 huo)
  obtain ⟨ad, hA, hlA, r0, r1, r2, r3, r4, r5, r6, r7⟩ := reads_ord (HW.out.ext HX1.out).ord hu
  rw [hA] at m4
  have kid : IntKind.i64.wrap ((k : Int) + 1 - 1) = (k : Int) := by rw [IntKind.wrap_i64]; omega
  have hkl : (k : Int) < (d.ords.length : Int) := by omega
  have hkb : (k : Int) < 100 := by omega
  have HU := Lib.hid hu
  have HIX := Lib.hid (chk_ord_idx HE.out huo)
  clear hu huo hA hlA g1 g2
  go_upto_region 9 with (fail)
  obtain ⟨W3, e3⟩ : ∃ W, W1.alloc (.cells #[.int .i64 u.o.id, .int .i64 u.o.acc, .slice u.nA u.o.names.length u.nc, .int .u64 (u.o.key : Int), .int .i64 u.o.life, .slice u.aA u.o.auths.length u.ac, .int .i64 u.o.st, .int .i64 u.o.ser] 78) = W := ⟨_, rfl⟩
  try rw [e3]
  have HX3 : Hid (Ext W0 W3) := Lib.hid (by rw [← e3]; exact HX1.out.alloc _)
  have HB3 : Hid (Blk W3 W1.heap.size 78 #[.int .i64 u.o.id, .int .i64 u.o.acc, .slice u.nA u.o.names.length u.nc, .int .u64 (u.o.key : Int), .int .i64 u.o.life, .slice u.aA u.o.auths.length u.ac, .int .i64 u.o.st, .int .i64 u.o.ser]) := Lib.hid (by rw [← e3]; exact Blk.new _ _ _)
  have HS2 : Hid (W0.heap.size ≤ W1.heap.size) := Lib.hid HX1.out.size
  clear e3 m0 m1 m2 m3 m4 m5 r0 r1 r2 r3 r4 r5 r6 r7 d1 d2
  obtain ⟨n0, n1, n2, n3, n4, n5⟩ := arr6f (ext_blk HX3.out HB0.out)
  obtain ⟨s0, s1, s2, s3, s4, s5, s6, s7⟩ := arr8 HB3.out
  by_cases g3 : u.o.st = 2
  case neg =>
    have d3 : (u.o.st != 2) = true := by simp [g3]
    have HR := Lib.hid (wisF_3 HE.out HT.out (HASK.out.trans (if_pos g3)))
    clear g3
    have b2 := ext_blk (HX3.out) HB1.out
    obtain ⟨z0, z1, z2, z3, f0, f1, f2, f3⟩ := st4 b2
    have BB := Lib.hid (blk4 b2 (.int .i64 0) (.slice none 0 0) (.int .u64 0) (.int .i64 0))
    clear b2
    go_wp2
    rw [HR.out]
    obtain ⟨r0, r1, r2, r3⟩ := arr4f BB.out
    refine bodyPost_ret (v := .tuple #[.agg #[.int .i64 0, .slice none 0 0, .int .u64 0, .int .i64 0], .int .i64 221]) (by simp [results, Tryz.results29, go_sem, r0, r1, r2, r3]) rfl (wisPost_bad rfl (ext4 (HX0.out.trans (HX3.out)) (by omega) _ _ _ _))
  have d3 : (u.o.st != 2) = false := by simp [g3]
  have HRS := Lib.hid (wisF_4 HE.out HT.out (HASK.out.trans (if_neg (by simp [g3]))))
  clear g3
  have cL := rall_any d u now HIX.out HU9.out W3 (HW.out.ext HX3.out) ((HW.out.ext HX3.out).rw u (List.mem_of_getElem? HU.out))
  unfold frontV ordAgg at cL
  cases t2 : holdsF d.auts u.o.auths now
  · have HR := Lib.hid (HRS.out.trans (if_pos t2))
    rw [t2] at cL
    clear t2
    go_upto_region 10 with (go_at_call 77; refine cL.mono ?_; clear cL; rintro e w5 ⟨rfl, x5⟩)
    have HX5 := Lib.hid (HX3.out.trans x5)
    clear n0 n1 n2 n3 n4 n5 s0 s1 s2 s3 s4 s5 s6 s7 x5
    have b2 := ext_blk (HX5.out) HB1.out
    obtain ⟨z0, z1, z2, z3, f0, f1, f2, f3⟩ := st4 b2
    have BB := Lib.hid (blk4 b2 (.int .i64 0) (.slice none 0 0) (.int .u64 0) (.int .i64 0))
    clear b2
    go_wp2
    rw [HR.out]
    obtain ⟨r0, r1, r2, r3⟩ := arr4f BB.out
    refine bodyPost_ret (v := .tuple #[.agg #[.int .i64 0, .slice none 0 0, .int .u64 0, .int .i64 0], .int .i64 221]) (by simp [results, Tryz.results29, go_sem, r0, r1, r2, r3]) rfl (wisPost_bad rfl (ext4 (HX0.out.trans (HX5.out)) (by omega) _ _ _ _))
  have HR := Lib.hid (HRS.out.trans (if_neg (show ¬ holdsF d.fro.auts u.o.auths now = false from fun h => absurd (t2.symm.trans h) (by decide))))
  rw [t2] at cL
  clear t2
  obtain ⟨i0, hi, hz0, hz1, hz2⟩ := info_parts Tryz.infoStr
  go_upto_region 11 with (go_at_call 77; refine cL.mono ?_; clear cL; rintro e w5 ⟨rfl, x5⟩)
  obtain ⟨Wb, hWb⟩ : ∃ W, W = w5 := ⟨_, rfl⟩
  rw [← hWb] at x5 ⊢
  have HXB := Lib.hid (HX3.out.trans x5)
  have HBo := Lib.hid (ext_blk x5 HB3.out)
  have HSB : Hid (W1.heap.size < Wb.heap.size) := Lib.hid HBo.out.lt
  have hnl : u.o.names.length ≤ 1099511627776 := by have := ((HW.out.ext HXB.out).rw u (List.mem_of_getElem? HU.out)).nl; omega
  clear n0 n1 n2 n3 n4 n5 s0 s1 s2 s3 s4 s5 s6 s7 x5 hWb
  obtain ⟨s0, s1, s2, s3, s4, s5, s6, s7⟩ := arr8 HBo.out
  have HC : Hid (∀ W, Ext Wb W → (W.cell? ⟨W1.heap.size, 1, none⟩ = some (.int .i64 u.o.acc) ∧ W.cell? ⟨W1.heap.size, 2, none⟩ = some (.slice u.nA u.o.names.length u.nc) ∧ W.cell? ⟨W1.heap.size, 3, none⟩ = some (.int .u64 (u.o.key : Int)) ∧ W.cell? ⟨W1.heap.size, 4, none⟩ = some (.int .i64 u.o.life))) := Lib.hid fun W x => ⟨x.cell s1, x.cell s2, x.cell s3, x.cell s4⟩
  have HRD : Hid (∀ W, Ext Wb W → Reads W W.heap.size 1 u.nA u.o.names.length (tv u.o.names)) := Lib.hid fun W x => ((HW.out.ext (HXB.out.trans x)).rw u (List.mem_of_getElem? HU.out)).names
  clear s0 s1 s2 s3 s4 s5 s6 s7
  refine E_start (n := 13) (ls := #[false, false, false, false, false, false, false, false, false, false, false, false, false]) (fun w' => w'.cell? ⟨W1.heap.size, 1, none⟩ = some (.int .i64 u.o.acc) ∧ w'.cell? ⟨W1.heap.size, 2, none⟩ = some (.slice u.nA u.o.names.length u.nc) ∧ w'.cell? ⟨W1.heap.size, 3, none⟩ = some (.int .u64 (u.o.key : Int)) ∧ w'.cell? ⟨W1.heap.size, 4, none⟩ = some (.int .i64 u.o.life)) 12 (by kernel_rfl) (by kernel_rfl) (by kernel_rfl) (HC.out _ (Ext.refl Wb).drew) (fun hHeld => ?_)
  refine E_tk (i := 0) (some 47) (v := ?_) rfl rfl (by kernel_rfl) hHeld (fun w hSw => ?_) ?_; rotate_left 1
  · (try dsimp only at hSw); go_simp; try with_reducible rfl
  try simp only [Act.put, List.setIfInBounds_toArray, List.set_cons_zero, List.set_cons_succ]
  refine E_tk (i := 1) (some 48) (v := ?_) rfl rfl (by kernel_rfl) hHeld (fun w hSw => ?_) ?_; rotate_left 1
  · (try dsimp only at hSw); go_simp; try with_reducible rfl
  try simp only [Act.put, List.setIfInBounds_toArray, List.set_cons_zero, List.set_cons_succ]
  refine E_tk (i := 3) (some 50) (v := ?_) rfl rfl (by kernel_rfl) hHeld (fun w hSw => ?_) ?_; rotate_left 1
  · (try dsimp only at hSw); go_simp; try with_reducible rfl
  try simp only [Act.put, List.setIfInBounds_toArray, List.set_cons_zero, List.set_cons_succ]
  refine E_tk (i := 4) (some 51) (v := ?_) rfl rfl (by kernel_rfl) hHeld (fun w hSw => ?_) ?_; rotate_left 1
  · (try dsimp only at hSw); go_simp; try with_reducible rfl
  try simp only [Act.put, List.setIfInBounds_toArray, List.set_cons_zero, List.set_cons_succ]
  refine E_tk (i := 6) (some 53) (v := ?_) rfl rfl (by kernel_rfl) hHeld (fun w hSw => ?_) ?_; rotate_left 1
  · (try dsimp only at hSw); go_simp; try with_reducible rfl
  try simp only [Act.put, List.setIfInBounds_toArray, List.set_cons_zero, List.set_cons_succ]
  refine E_tk (i := 7) (some 54) (v := ?_) rfl rfl (by kernel_rfl) hHeld (fun w hSw => ?_) ?_; rotate_left 1
  · (try dsimp only at hSw); go_simp; try with_reducible rfl
  try simp only [Act.put, List.setIfInBounds_toArray, List.set_cons_zero, List.set_cons_succ]
  refine E_tk (i := 8) (some 55) (v := ?_) rfl rfl (by kernel_rfl) hHeld (fun w hSw => ?_) ?_; rotate_left 1
  · (try dsimp only at hSw); go_simp; try with_reducible rfl
  try simp only [Act.put, List.setIfInBounds_toArray, List.set_cons_zero, List.set_cons_succ]
  refine E_tk (i := 9) (some 56) (v := ?_) rfl rfl (by kernel_rfl) hHeld (fun w hSw => ?_) ?_; rotate_left 1
  · (try dsimp only at hSw); go_simp; try with_reducible rfl
  try simp only [Act.put, List.setIfInBounds_toArray, List.set_cons_zero, List.set_cons_succ]
  refine E_on (i := 2) rfl (by kernel_rfl) (by kernel_rfl) (fun K hK => ?_)
  go_simp
  replace hHeld := HC.out _ ((Ext.refl Wb).drew.alloc (.cells #[] 9))
  refine hK _ _ (fun _ => hHeld) ?_
  clear hK K
  try simp only [Act.put, List.setIfInBounds_toArray, List.set_cons_zero, List.set_cons_succ]
  refine E_on (i := 5) rfl (by kernel_rfl) (by kernel_rfl) (fun K hK => ?_)
  skip
  refine wp_append_any _ (.tmp 49) (.tmp 51) 23 rfl Wb.heap.size 9 i0 (.string ⟨#[]⟩) 1 16 Tryz.underlying23 hi hz0 hz1 hz2 rfl (by decide) (.slice (some ⟨Wb.heap.size, 0, none⟩) 0 0) 0 [] rfl (own_empty Wb.drew Wb.heap.size Wb.heap.size rfl (Nat.le_refl _) 9 1) _ u.nA u.o.names.length u.nc (tv u.o.names) rfl (HRD.out _ ((Ext.refl Wb).drew.alloc (.cells #[] 9))) (tv_one _) (by simp only [maxLen]; omega) (by omega) (by simp) ?_
  intro v8 w8 hown8 hg8 _
  rw [Nat.zero_add, List.nil_append] at hown8
  have HX8 : Hid (Ext Wb w8) := Lib.hid (ext_grown ((Ext.refl Wb).drew.alloc _) (own_empty Wb.drew Wb.heap.size Wb.heap.size rfl (Nat.le_refl _) 9 1) hg8)
  obtain ⟨A8, c8, rfl, hc8, -⟩ := own_slice2 hown8
  have O8 := Lib.hid hown8
  have HC8 := Lib.hid hc8
  clear hown8 hg8 hc8
  replace hHeld := HC.out _ HX8.out
  refine hK _ _ (fun _ => hHeld) ?_
  clear hK K
  try simp only [Act.put, List.setIfInBounds_toArray, List.set_cons_zero, List.set_cons_succ]
  refine E_tk (i := 10) (some 57) (v := ?_) rfl rfl (by kernel_rfl) hHeld (fun w hSw => ?_) ?_; rotate_left 1
  · (try dsimp only at hSw); go_simp; try with_reducible rfl
  try simp only [Act.put, List.setIfInBounds_toArray, List.set_cons_zero, List.set_cons_succ]
  refine E_on (i := 11) rfl (by kernel_rfl) (by kernel_rfl) (fun K hK => ?_)
  have b2 := ext_blk (HXB.out.trans HX8.out) HB1.out
  obtain ⟨z0, z1, z2, z3, f0, f1, f2, f3⟩ := st4 b2
  have BB := Lib.hid (blk4 b2 (.int .i64 u.o.acc) (.slice A8 u.o.names.length c8) (.int .u64 (u.o.key : Int)) (.int .i64 u.o.life))
  have hsz := HSZ.out
  have hs2 := HS2.out
  have V := Lib.hid (((((ext_blk HX8.out HBo.out).far (p := ⟨w.heap.size + 1, 0, none⟩) (show W1.heap.size ≠ w.heap.size + 1 by omega) (.int .i64 u.o.acc)).far (p := ⟨w.heap.size + 1, 1, none⟩) (show W1.heap.size ≠ w.heap.size + 1 by omega) (.slice A8 u.o.names.length c8)).far (p := ⟨w.heap.size + 1, 2, none⟩) (show W1.heap.size ≠ w.heap.size + 1 by omega) (.int .u64 (u.o.key : Int))).far (p := ⟨w.heap.size + 1, 3, none⟩) (show W1.heap.size ≠ w.heap.size + 1 by omega) (.int .i64 u.o.life))
  clear b2 hsz hs2
  go_simp
  replace hHeld := And.intro (V.out.cell 1) (And.intro (V.out.cell 2) (And.intro (V.out.cell 3) (V.out.cell 4)))
  refine hK _ _ (fun _ => hHeld) ?_
  clear hK K
  try simp only [Act.put, List.setIfInBounds_toArray, List.set_cons_zero, List.set_cons_succ]
  refine E_on (i := 12) rfl (by kernel_rfl) (by kernel_rfl) (fun K hK => ?_)
  go_simp
  refine hK _ _ (fun h => absurd rfl h) ?_
  clear hK K
  try simp only [Act.put, List.setIfInBounds_toArray, List.set_cons_zero, List.set_cons_succ]
  refine E_done (by kernel_rfl) ?_
  (try clear hHeld)
  go_wp2
  rw [HR.out]
  obtain ⟨r0, r1, r2, r3⟩ := arr4f BB.out
  have hsz := HSZ.out
  have hs2 := HS2.out
  have hsb := HSB.out
  have o9 := own_far (own_far (own_far (own_far O8.out (g := w.heap.size + 1) (by omega) 0 (.int .i64 u.o.acc)) (g := w.heap.size + 1) (by omega) 1 (.slice A8 u.o.names.length c8)) (g := w.heap.size + 1) (by omega) 2 (.int .u64 (u.o.key : Int))) (g := w.heap.size + 1) (by omega) 3 (.int .i64 u.o.life)
  refine bodyPost_ret (v := .tuple #[.agg #[.int .i64 u.o.acc, .slice A8 u.o.names.length c8, .int .u64 (u.o.key : Int), .int .i64 u.o.life], .int .i64 0]) (by simp [results, Tryz.results29, go_sem, r0, r1, r2, r3]) rfl ⟨A8, c8, rfl, Reads.of_own o9, HC8.out, ext4 (HX0.out.trans (HXB.out.trans HX8.out)) (by omega) (.int .i64 u.o.acc) (.slice A8 u.o.names.length c8) (.int .u64 (u.o.key : Int)) (.int .i64 u.o.life)⟩
set_option maxRecDepth 100000 in
set_option maxHeartbeats 8000000 in
theorem rWishes_any (r : WisR) (A B : Option Addr) (c d : Nat) (hn : r.2.1.length ≤ 140737488355328) (w : World) (ha : Reads w w.heap.size 1 A r.2.1.length (tv r.2.1)) (hb : Reads w w.heap.size 1 B r.2.1.length (tv r.2.1)) :
    Calls Tryz.prog 32 #[wisV r A c, wisV r B d] w fun e w' => e = .returned (.bool true) ∧ Ext w w' := by
  obtain ⟨W0, e0, b0, b1, x0, s0⟩ := startP w #[.int .i64 r.1, .slice A r.2.1.length c, .int .u64 (r.2.2.1 : Int), .int .i64 r.2.2.2] #[.int .i64 r.1, .slice B r.2.1.length d, .int .u64 (r.2.2.1 : Int), .int .i64 r.2.2.2] 55 55
  have cT := Texts22_any r.2.1 r.2.1 A B c d hn W0 ((ha.below x0.out).more x0.size) ((hb.below x0.out).more x0.size)
  rw [show decide (r.2.1 = r.2.1) = true by simp] at cT
  have HB0 := Lib.hid b0
  have HB1 := Lib.hid b1
  have HX0 := Lib.hid x0
  obtain ⟨m0, m1, m2, m3⟩ := arr4f b0
  obtain ⟨n0, n1, n2, n3⟩ := arr4f b1
  unfold wisV
  clear ha hb b0 b1 x0 s0
  go_enter Tryz.func32, Tryz.ntmps32
  go_upto_region 1 with (fail)
  try rw [e0]
  clear e0
  go_wp2_with (go_at_call 16; refine cT.mono ?_; clear cT m0 m1 m2 m3 n0 n1 n2 n3; rintro e w1 ⟨rfl, x1⟩; obtain ⟨m0, m1, m2, m3⟩ := arr4f (ext_blk x1 HB0.out); obtain ⟨n0, n1, n2, n3⟩ := arr4f (ext_blk x1 HB1.out))
  go_ret
  exact ⟨rfl, HX0.out.trans x1⟩
end Go.Proofs.YtbhdmfijdhcehaaGreatDoor
