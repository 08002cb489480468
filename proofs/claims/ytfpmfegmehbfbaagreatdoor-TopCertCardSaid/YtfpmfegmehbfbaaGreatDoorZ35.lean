/- Parts of the proofs, put together: CtE3, Open7. -/
import Derived.Test.YtfpmfegmehbfbaaGreatDoorZ34
import Derived.Test.YtfpmfegmehbfbaaGreatDoorZ47
/- Certificates in memory; has one form? -/
namespace Go.Proofs.YtfpmfegmehbfbaaGreatDoor
set_option linter.unusedVariables false
set_option linter.unusedSimpArgs false
set_option linter.unusedSimpArgs false
open Go.RowKit Go.Shelf Go.Maps

/-- A certificate, and where its parts lie. -/
structure CrtX where
  r : CrtR
  nA : Option Addr
  nc : Nat
  pA : Option Addr
  pc : Nat
  mA : Option Addr
  mc : Nat
def crtC (x : CrtX) : Array Value := #[.int .i64 x.r.ser, .string x.r.iss, .string x.r.sub, .int .u64 (x.r.key : Int), .slice x.nA x.r.names.length x.nc, .int .i64 x.r.frm, .int .i64 x.r.unt, .bool x.r.ca, .int .i64 x.r.dep, .slice x.pA x.r.perm.length x.pc, .slice x.mA x.r.proms.length x.mc, .int .u64 (x.r.e : Int), .int .u64 (x.r.s : Int)]
def crtV (x : CrtX) : Value := .agg (crtC x)
/-- Promises in memory. -/
def prmV (l : List PrmR) : List Value := l.flatMap prmL
theorem prmV_append (l m : List PrmR) : prmV (l ++ m) = prmV l ++ prmV m := List.flatMap_append
theorem reads_prmR {w : World} {B n : Nat} {A : Option Addr} {l : List PrmR} (h : Reads w B 6 A n (prmV l)) {j : Nat} {p : PrmR} (hj : l[j]? = some p) :
    ∃ ad, A = some ad ∧ ad.block < B ∧ ∀ (i : Nat) (v : Value), (prmL p)[i]? = some v → w.cell? ((ad.add (j * 6)).add i) = some v := by
  obtain ⟨ad, e, hb, hc⟩ := reads_fm prmL (fun _ => rfl) h hj (by decide)
  exact ⟨ad, e, hb, hc⟩
/-- Few and short enough. -/
def fewC (c : CrtR) : Prop := c.iss.size ≤ 300 ∧ c.sub.size ≤ 300 ∧ (c.names.length ≤ 16 ∧ ∀ s ∈ c.names, s.size ≤ 200) ∧ (c.perm.length ≤ 16 ∧ ∀ s ∈ c.perm, s.size ≤ 200) ∧ c.proms.length ≤ 8
structure CrtW (w : World) (B : Nat) (x : CrtX) : Prop where
  names : Reads w B 1 x.nA x.r.names.length (tv x.r.names)
  perm : Reads w B 1 x.pA x.r.perm.length (tv x.r.perm)
  proms : Reads w B 6 x.mA x.r.proms.length (prmV x.r.proms)
  few : fewC x.r
theorem CrtW.below {w w' : World} {B : Nat} {x : CrtX} (h : CrtW w B x) (hb : Below B w w') : CrtW w' B x := ⟨h.names.below hb, h.perm.below hb, h.proms.below hb, h.few⟩
theorem CrtW.more {w : World} {B B' : Nat} {x : CrtX} (h : CrtW w B x) (hB : B ≤ B') : CrtW w B' x := ⟨h.names.more hB, h.perm.more hB, h.proms.more hB, h.few⟩
theorem CrtW.ext {w w' : World} {x : CrtX} (h : CrtW w w.heap.size x) (k : Ext w w') : CrtW w' w'.heap.size x := (h.below k.out).more k.size
def patP (s : ByteArray) : Prop := (patF s).2.2 = true
instance (s : ByteArray) : Decidable (patP s) := by unfold patP; infer_instance
section
variable {W : World} {g : Nat} {T : TypeId} {a b c d e f h i j k l m n : Value}
theorem lst13 (z : Blk W g T #[a, b, c, d, e, f, h, i, j, k, l, m, n]) : W.cell? ⟨g, 0, none⟩ = some a ∧ W.cell? ⟨g, 1, none⟩ = some b ∧ W.cell? ⟨g, 2, none⟩ = some c ∧ W.cell? ⟨g, 3, none⟩ = some d ∧ W.cell? ⟨g, 4, none⟩ = some e ∧ W.cell? ⟨g, 5, none⟩ = some f ∧ W.cell? ⟨g, 6, none⟩ = some h ∧ W.cell? ⟨g, 7, none⟩ = some i ∧ W.cell? ⟨g, 8, none⟩ = some j ∧ W.cell? ⟨g, 9, none⟩ = some k ∧ W.cell? ⟨g, 10, none⟩ = some l ∧ W.cell? ⟨g, 11, none⟩ = some m ∧ W.cell? ⟨g, 12, none⟩ = some n :=
  ⟨z.cell 0, z.cell 1, z.cell 2, z.cell 3, z.cell 4, z.cell 5, z.cell 6, z.cell 7, z.cell 8, z.cell 9, z.cell 10, z.cell 11, z.cell 12⟩
theorem frz13 (z : Blk W g T #[a, b, c, d, e, f, h, i, j, k, l, m, n]) : W.frozen? ⟨g, 0, none⟩ = false ∧ W.frozen? ⟨g, 1, none⟩ = false ∧ W.frozen? ⟨g, 2, none⟩ = false ∧ W.frozen? ⟨g, 3, none⟩ = false ∧ W.frozen? ⟨g, 4, none⟩ = false ∧ W.frozen? ⟨g, 5, none⟩ = false ∧ W.frozen? ⟨g, 6, none⟩ = false ∧ W.frozen? ⟨g, 7, none⟩ = false ∧ W.frozen? ⟨g, 8, none⟩ = false ∧ W.frozen? ⟨g, 9, none⟩ = false ∧ W.frozen? ⟨g, 10, none⟩ = false ∧ W.frozen? ⟨g, 11, none⟩ = false ∧ W.frozen? ⟨g, 12, none⟩ = false :=
  ⟨z.frozen 0, z.frozen 1, z.frozen 2, z.frozen 3, z.frozen 4, z.frozen 5, z.frozen 6, z.frozen 7, z.frozen 8, z.frozen 9, z.frozen 10, z.frozen 11, z.frozen 12⟩
end
theorem check_entersN : Enters Tryz.prog 240 := enters_of Tryz.func240 (by kernel_rfl) rfl
theorem pattern_enters : Enters Tryz.prog 207 := enters_of Tryz.func207 (by kernel_rfl) rfl
theorem check_if (s : ByteArray) (hs : s.size ≤ 2000) (W : World) : Calls Tryz.prog 240 #[.string s] W fun e w' => e = .returned (.int .i64 (if namP s then 0 else 110)) ∧ Ext W w' := by
  have := nCheck_any s (by omega) W
  unfold namE at this
  by_cases h : namP s
  · rw [if_pos h] at this ⊢; exact this
  · rw [if_neg h] at this ⊢; exact this
theorem pattern_if (s : ByteArray) (hs : s.size ≤ 2000) (W : World) : Calls Tryz.prog 207 #[.string s] W fun e w' => e = .returned (.int .i64 (if patP s then 0 else 110)) ∧ Ext W w' := Pattern_any s (by omega) W
set_option maxRecDepth 100000 in
set_option maxHeartbeats 8000000 in
theorem formed_any (x : CrtX) (w : World) (hw : CrtW w w.heap.size x) : Calls Tryz.prog 223 #[crtV x] w fun e w' => ∃ b : Bool, e = .returned (.bool b) ∧ (b = true ↔ formC namP patP x.r) ∧ Ext w w' := by
  obtain ⟨⟨ser, iss, sub, key, names, frm, unt, ca, dep, perm, proms, e, s⟩, nA, nc, pA, pc, mA, mc⟩ := x
  unfold crtV crtC
  dsimp only
  obtain ⟨W0, e0⟩ : ∃ W, w.alloc (.cells #[.int .i64 ser, .string iss, .string sub, .int .u64 (key : Int), .slice nA names.length nc, .int .i64 frm, .int .i64 unt, .bool ca, .int .i64 dep, .slice pA perm.length pc, .slice mA proms.length mc, .int .u64 (e : Int), .int .u64 (s : Int)] 67) = W := ⟨_, rfl⟩
  have b0 : Blk W0 w.heap.size 67 #[.int .i64 ser, .string iss, .string sub, .int .u64 (key : Int), .slice nA names.length nc, .int .i64 frm, .int .i64 unt, .bool ca, .int .i64 dep, .slice pA perm.length pc, .slice mA proms.length mc, .int .u64 (e : Int), .int .u64 (s : Int)] := by rw [← e0]; exact Blk.new _ _ _
  have x0 : Ext w W0 := by rw [← e0]; exact (Ext.refl w).alloc _
  have hN := fun W (k : Ext w W) => (hw.ext k).names
  have hP := fun W (k : Ext w W) => (hw.ext k).perm
  have hM := fun W (k : Ext w W) => (hw.ext k).proms
  obtain ⟨w1, w2, ⟨w3, w4⟩, ⟨w5, w6⟩, w7⟩ := hw.few
  dsimp only at hN hP hM w1 w2 w3 w4 w5 w6 w7
  obtain ⟨m0, m1, m2, m3, m4, m5, m6, m7, m8, m9, m10, m11, m12⟩ := lst13 b0
  have HB0 := Lib.hid b0
  have HX0 := Lib.hid x0
  have HNN := Lib.hid hN
  have HPP := Lib.hid hP
  have HMM := Lib.hid hM
  have HW4 := Lib.hid w4
  have HW6 := Lib.hid w6
  have HLN : Hid (names.length ≤ 16 ∧ perm.length ≤ 16) := Lib.hid ⟨w3, w5⟩
  have cNu := cnum_any
  have cTx := text_any
  have cSg := signed_any18 e s
  clear b0 x0 hN hP hM hw w4 w6 w1 w2 w3 w5
  go_enter Tryz.func223, Tryz.ntmps223
  go_upto_region 1 with (fail)
  try rw [e0]
  clear e0
  go_wp2
  go_loopg [3, 9] proms.length (fun gm s3 s9 wr => ∃ (j : Nat) (last : Int), j + gm = proms.length ∧ s3 = .int .i64 last ∧ s9 = .int .i64 j ∧ (promsC proms (-1) ↔ promsC (proms.drop j) last) ∧ Ext W0 wr)
  case atStart => exact ⟨0, -1, by omega, rfl, rfl, Iff.rfl, Ext.refl _⟩
  case round =>
    obtain ⟨j, last, hj, rfl, rfl, hpc, hx⟩ := hrel
    by_cases h : j < proms.length
    · obtain ⟨p, hp⟩ : ∃ s, proms[j]? = some s := ⟨_, List.getElem?_eq_getElem h⟩
      have hdr : proms.drop j = p :: proms.drop (j + 1) := by rw [List.drop_eq_getElem_cons h]; congr 1; exact (List.getElem?_eq_some_iff.1 hp).2
      rw [hdr] at hpc
      obtain ⟨ad, rfl, hb, hc⟩ := reads_prmR (HMM.out _ (HX0.out.trans hx)) hp
      have q0 := hc 0 _ rfl
      have q1 := hc 1 _ rfl
      have q2 := hc 2 _ rfl
      have q3 := hc 3 _ rfl
      have q4 := hc 4 _ rfl
      have q5 := hc 5 _ rfl
      rw [add_of_add, Nat.add_zero] at q0
      rw [add_succ_eq] at q1
      rw [add_succ_eq] at q2
      rw [add_succ_eq] at q3
      rw [add_succ_eq] at q4
      rw [add_succ_eq] at q5
      obtain ⟨W1, e1⟩ : ∃ W, wr.alloc (.cells #[.int .i64 p.log, .int .i64 p.at_, .int .u64 (p.l0 : Int), .int .u64 (p.l1 : Int), .int .u64 (p.e : Int), .int .u64 (p.s : Int)] 55) = W := ⟨_, rfl⟩
      have b1 : Blk W1 wr.heap.size 55 #[.int .i64 p.log, .int .i64 p.at_, .int .u64 (p.l0 : Int), .int .u64 (p.l1 : Int), .int .u64 (p.e : Int), .int .u64 (p.s : Int)] := by rw [← e1]; exact Blk.new _ _ _
      have x1 : Ext wr W1 := by rw [← e1]; exact (Ext.refl _).alloc _
      have cPr := promised_any p W1
      obtain ⟨z0, z1, z2, z3, z4, z5, -, -, -, -, -, -⟩ := lst6 b1
      have hjb : (j : Int) ≤ 8 := by omega
      have hjn : j < proms.length := h
      have HB1 := Lib.hid b1
      have HX1 := Lib.hid (hx.trans x1)
      have HJ := Lib.hid hj
      have HPC := Lib.hid hpc
      clear hj hpc hdr hp hb hc b1 x1 hx h cNu cTx cSg
      go_upto_region 5 with (fail)
      try rw [e1]
      clear e1 q0 q1 q2 q3 q4 q5
      by_cases hpk : prmC p
      · rw [decide_eq_true hpk] at cPr
        have cPr2 := cPr
        clear cPr
        by_cases hlt : last < p.log
        · have d1 : decide (p.log ≤ last) = false := decide_eq_false (by omega)
          have HPC2 : Hid (promsC proms (-1) ↔ promsC (proms.drop (j + 1)) p.log) := Lib.hid (HPC.out.trans ⟨fun h => h.2.2, fun h => ⟨hpk, hlt, h⟩⟩)
          clear hpk hlt
          go_wp2_with (go_at_call 270; refine cPr2.mono ?_; clear cPr2; rintro e w2 ⟨rfl, x2⟩; have z0 := x2.cell z0)
          go_roundg (gk - 1)
          case measure => have := HJ.out; omega
          case rel => exact ⟨j + 1, p.log, by have := HJ.out; omega, rfl, int_congr (by omega), HPC2.out, HX1.out.trans x2⟩
        · have d1 : decide (p.log ≤ last) = true := decide_eq_true (by omega)
          have HNO : Hid (¬ promsC proms (-1)) := Lib.hid (fun h => hlt (HPC.out.1 h).2.1)
          clear hpk hlt
          go_wp2_with (go_at_call 270; refine cPr2.mono ?_; clear cPr2; rintro e w2 ⟨rfl, x2⟩; have z0 := x2.cell z0)
          go_ret
          exact ⟨false, rfl, ⟨(fun h => by cases h), fun h => absurd h.1 HNO.out⟩, HX0.out.trans (HX1.out.trans x2)⟩
      · rw [decide_eq_false hpk] at cPr
        have HNO : Hid (¬ promsC proms (-1)) := Lib.hid (fun h => hpk (HPC.out.1 h).1)
        clear hpk
        go_wp2_with (go_at_call 270; refine cPr.mono ?_; clear cPr; rintro e w2 ⟨rfl, x2⟩)
        go_ret
        exact ⟨false, rfl, ⟨(fun h => by cases h), fun h => absurd h.1 HNO.out⟩, HX0.out.trans (HX1.out.trans x2)⟩
    · obtain rfl : j = proms.length := by omega
      rw [List.drop_length] at hpc
      have HPC : Hid (promsC proms (-1)) := Lib.hid (hpc.2 trivial)
      have HXR := Lib.hid (HX0.out.trans hx)
      have HBR := Lib.hid (ext_blk hx HB0.out)
      obtain ⟨m0, m1, m2, m3, m4, m5, m6, m7, m8, m9, m10, m11, m12⟩ := lst13 HBR.out
      clear hpc hj h hx
      have k1 := cNu ser
      have k2 := cNu frm
      have k3 := cNu unt
      by_cases a1 : numC ser
      rotate_left 1
      · rw [decide_eq_false a1] at k1
        have HNO : Hid (¬ (numC ser ∧ numC frm ∧ numC unt ∧ frm < unt)) := Lib.hid (fun h => a1 h.1)
        clear cNu cTx cSg
        go_wp2_with (go_at_call 271; (first | (refine (k1 _).mono ?_; rintro e w1 ⟨rfl, rfl⟩; clear k1) | (refine (k2 _).mono ?_; rintro e w1 ⟨rfl, rfl⟩; clear k2) | (refine (k3 _).mono ?_; rintro e w1 ⟨rfl, rfl⟩; clear k3)))
        go_ret
        exact ⟨false, rfl, ⟨(fun h => by cases h), fun h => absurd h.2.1 HNO.out⟩, HXR.out⟩
      rw [decide_eq_true a1] at k1
      by_cases a2 : numC frm
      rotate_left 1
      · rw [decide_eq_false a2] at k2
        have HNO : Hid (¬ (numC ser ∧ numC frm ∧ numC unt ∧ frm < unt)) := Lib.hid (fun h => a2 h.2.1)
        clear cNu cTx cSg
        go_wp2_with (go_at_call 271; (first | (refine (k1 _).mono ?_; rintro e w1 ⟨rfl, rfl⟩; clear k1) | (refine (k2 _).mono ?_; rintro e w1 ⟨rfl, rfl⟩; clear k2) | (refine (k3 _).mono ?_; rintro e w1 ⟨rfl, rfl⟩; clear k3)))
        go_ret
        exact ⟨false, rfl, ⟨(fun h => by cases h), fun h => absurd h.2.1 HNO.out⟩, HXR.out⟩
      rw [decide_eq_true a2] at k2
      by_cases a3 : numC unt
      rotate_left 1
      · rw [decide_eq_false a3] at k3
        have HNO : Hid (¬ (numC ser ∧ numC frm ∧ numC unt ∧ frm < unt)) := Lib.hid (fun h => a3 h.2.2.1)
        clear cNu cTx cSg
        go_wp2_with (go_at_call 271; (first | (refine (k1 _).mono ?_; rintro e w1 ⟨rfl, rfl⟩; clear k1) | (refine (k2 _).mono ?_; rintro e w1 ⟨rfl, rfl⟩; clear k2) | (refine (k3 _).mono ?_; rintro e w1 ⟨rfl, rfl⟩; clear k3)))
        go_ret
        exact ⟨false, rfl, ⟨(fun h => by cases h), fun h => absurd h.2.1 HNO.out⟩, HXR.out⟩
      rw [decide_eq_true a3] at k3
      by_cases a4 : frm < unt
      rotate_left 1
      · have d1 : decide (unt ≤ frm) = true := decide_eq_true (by omega)
        have HNO : Hid (¬ (numC ser ∧ numC frm ∧ numC unt ∧ frm < unt)) := Lib.hid (fun h => a4 h.2.2.2)
        clear cNu cTx cSg
        go_wp2_with (go_at_call 271; (first | (refine (k1 _).mono ?_; rintro e w1 ⟨rfl, rfl⟩; clear k1) | (refine (k2 _).mono ?_; rintro e w1 ⟨rfl, rfl⟩; clear k2) | (refine (k3 _).mono ?_; rintro e w1 ⟨rfl, rfl⟩; clear k3)))
        go_ret
        exact ⟨false, rfl, ⟨(fun h => by cases h), fun h => absurd h.2.1 HNO.out⟩, HXR.out⟩
      have d1 : decide (unt ≤ frm) = false := decide_eq_false (by omega)
      have HA : Hid (numC ser ∧ numC frm ∧ numC unt ∧ frm < unt) := Lib.hid ⟨a1, a2, a3, a4⟩
      clear a1 a2 a3 a4 cNu
      go_upto_region 11 with (go_at_call 271; (first | (refine (k1 _).mono ?_; rintro e w1 ⟨rfl, rfl⟩; clear k1) | (refine (k2 _).mono ?_; rintro e w1 ⟨rfl, rfl⟩; clear k2) | (refine (k3 _).mono ?_; rintro e w1 ⟨rfl, rfl⟩; clear k3)))
      clear d1
      have t1 := cTx iss
      by_cases a1 : textC iss
      rotate_left 1
      · rw [decide_eq_false a1] at t1
        have HNO : Hid (¬ (textC iss ∧ 0 < key ∧ key < 2305843009213691579 ∧ proms.length ≤ 4 ∧ sigC e s)) := Lib.hid (fun h => a1 h.1)
        go_wp2_with (first | (go_at_call 272; refine (t1 _).mono ?_; rintro e w2 ⟨rfl, x2⟩; clear t1 m0 m1 m2 m3 m4 m5 m6 m7 m8 m9 m10 m11 m12; obtain ⟨m0, m1, m2, m3, m4, m5, m6, m7, m8, m9, m10, m11, m12⟩ := lst13 (ext_blk x2 HBR.out)) | (go_at_call 273; refine (cSg _).mono ?_; rintro e w3 ⟨rfl, x3⟩; clear cSg))
        go_ret
        exact ⟨false, rfl, ⟨(fun h => by cases h), fun h => absurd h.2.2.1 HNO.out⟩, HXR.out.trans x2⟩
      rw [decide_eq_true a1] at t1
      by_cases a2 : 0 < key
      rotate_left 1
      · have d1 : ((key : Int) == 0) = true := by rw [beq_iff_eq]; omega
        have HNO : Hid (¬ (textC iss ∧ 0 < key ∧ key < 2305843009213691579 ∧ proms.length ≤ 4 ∧ sigC e s)) := Lib.hid (fun h => a2 h.2.1)
        go_wp2_with (first | (go_at_call 272; refine (t1 _).mono ?_; rintro e w2 ⟨rfl, x2⟩; clear t1 m0 m1 m2 m3 m4 m5 m6 m7 m8 m9 m10 m11 m12; obtain ⟨m0, m1, m2, m3, m4, m5, m6, m7, m8, m9, m10, m11, m12⟩ := lst13 (ext_blk x2 HBR.out)) | (go_at_call 273; refine (cSg _).mono ?_; rintro e w3 ⟨rfl, x3⟩; clear cSg))
        go_ret
        exact ⟨false, rfl, ⟨(fun h => by cases h), fun h => absurd h.2.2.1 HNO.out⟩, HXR.out.trans x2⟩
      have d1 : ((key : Int) == 0) = false := by rw [beq_eq_false_iff_ne]; omega
      by_cases a3 : key < 2305843009213691579
      rotate_left 1
      · have d2 : decide ((2305843009213691579 : Int) ≤ (key : Int)) = true := decide_eq_true (by omega)
        have HA3 := Lib.hid a3
        clear a3
        have HNO : Hid (¬ (textC iss ∧ 0 < key ∧ key < 2305843009213691579 ∧ proms.length ≤ 4 ∧ sigC e s)) := Lib.hid (fun h => HA3.out h.2.2.1)
        go_wp2_with (first | (go_at_call 272; refine (t1 _).mono ?_; rintro e w2 ⟨rfl, x2⟩; clear t1 m0 m1 m2 m3 m4 m5 m6 m7 m8 m9 m10 m11 m12; obtain ⟨m0, m1, m2, m3, m4, m5, m6, m7, m8, m9, m10, m11, m12⟩ := lst13 (ext_blk x2 HBR.out)) | (go_at_call 273; refine (cSg _).mono ?_; rintro e w3 ⟨rfl, x3⟩; clear cSg))
        go_ret
        exact ⟨false, rfl, ⟨(fun h => by cases h), fun h => absurd h.2.2.1 HNO.out⟩, HXR.out.trans x2⟩
      have d2 : decide ((2305843009213691579 : Int) ≤ (key : Int)) = false := decide_eq_false (by omega)
      by_cases a4 : proms.length ≤ 4
      rotate_left 1
      · have d3 : (4 : Int) < (proms.length : Int) := by omega
        have HA3 := Lib.hid a3
        clear a3
        have HNO : Hid (¬ (textC iss ∧ 0 < key ∧ key < 2305843009213691579 ∧ proms.length ≤ 4 ∧ sigC e s)) := Lib.hid (fun h => a4 h.2.2.2.1)
        go_wp2_with (first | (go_at_call 272; refine (t1 _).mono ?_; rintro e w2 ⟨rfl, x2⟩; clear t1 m0 m1 m2 m3 m4 m5 m6 m7 m8 m9 m10 m11 m12; obtain ⟨m0, m1, m2, m3, m4, m5, m6, m7, m8, m9, m10, m11, m12⟩ := lst13 (ext_blk x2 HBR.out)) | (go_at_call 273; refine (cSg _).mono ?_; rintro e w3 ⟨rfl, x3⟩; clear cSg))
        go_ret
        exact ⟨false, rfl, ⟨(fun h => by cases h), fun h => absurd h.2.2.1 HNO.out⟩, HXR.out.trans x2⟩
      have d3 : ¬ (4 : Int) < (proms.length : Int) := by omega
      by_cases a5 : sigC e s
      rotate_left 1
      · rw [decide_eq_false a5] at cSg
        have HA3 := Lib.hid a3
        clear a3
        have HNO : Hid (¬ (textC iss ∧ 0 < key ∧ key < 2305843009213691579 ∧ proms.length ≤ 4 ∧ sigC e s)) := Lib.hid (fun h => a5 h.2.2.2.2)
        go_wp2_with (first | (go_at_call 272; refine (t1 _).mono ?_; rintro e w2 ⟨rfl, x2⟩; clear t1 m0 m1 m2 m3 m4 m5 m6 m7 m8 m9 m10 m11 m12; obtain ⟨m0, m1, m2, m3, m4, m5, m6, m7, m8, m9, m10, m11, m12⟩ := lst13 (ext_blk x2 HBR.out)) | (go_at_call 273; refine (cSg _).mono ?_; rintro e w3 ⟨rfl, x3⟩; clear cSg))
        go_ret
        exact ⟨false, rfl, ⟨(fun h => by cases h), fun h => absurd h.2.2.1 HNO.out⟩, HXR.out.trans (x2.trans x3)⟩
      rw [decide_eq_true a5] at cSg
      have HBB : Hid (textC iss ∧ 0 < key ∧ key < 2305843009213691579 ∧ proms.length ≤ 4 ∧ sigC e s) := Lib.hid ⟨a1, a2, a3, a4, a5⟩
      clear a1 a2 a3 a4 a5
      go_upto_region 13 with (first | (go_at_call 272; refine (t1 _).mono ?_; rintro e w2 ⟨rfl, x2⟩; clear t1 m0 m1 m2 m3 m4 m5 m6 m7 m8 m9 m10 m11 m12; obtain ⟨m0, m1, m2, m3, m4, m5, m6, m7, m8, m9, m10, m11, m12⟩ := lst13 (ext_blk x2 HBR.out)) | (go_at_call 273; refine (cSg _).mono ?_; rintro e w3 ⟨rfl, x3⟩; clear cSg))
      have HBS := Lib.hid (ext_blk (x2.trans x3) HBR.out)
      have HXS := Lib.hid (HXR.out.trans (x2.trans x3))
      clear m0 m1 m2 m3 m4 m5 m6 m7 m8 m9 m10 m11 m12 d1 d2 d3 x2 x3
      obtain ⟨m0, m1, m2, m3, m4, m5, m6, m7, m8, m9, m10, m11, m12⟩ := lst13 HBS.out
      cases ca with
      | true =>
        have t1 := cTx sub
        by_cases a1 : textC sub
        rotate_left 1
        · rw [decide_eq_false a1] at t1
          have HNO : Hid (¬ (textC sub ∧ names = [] ∧ (0 ≤ dep ∧ dep ≤ 4) ∧ listC patP perm 0 8)) := Lib.hid (fun h => a1 h.1)
          go_wp2_with (first | (go_at_call 272; refine (t1 _).mono ?_; rintro e w4 ⟨rfl, x4⟩; clear t1 m0 m1 m2 m3 m4 m5 m6 m7 m8 m9 m10 m11 m12; obtain ⟨m0, m1, m2, m3, m4, m5, m6, m7, m8, m9, m10, m11, m12⟩ := lst13 (ext_blk x4 HBS.out)) | (go_at_call 274; refine (cL _ (HXS.out.trans x4)).mono ?_; clear cL; rintro e w5 ⟨rfl, x5⟩))
          go_ret
          exact ⟨false, rfl, ⟨(fun h => by cases h), fun h => by rcases h.2.2.2 with h | h; exact absurd h.2 HNO.out; cases h.1⟩, HXS.out.trans x4⟩
        rw [decide_eq_true a1] at t1
        by_cases a2 : names.length = 0
        rotate_left 1
        · have d1 : ((names.length : Int) == 0) = false := by rw [beq_eq_false_iff_ne]; omega
          have HNO : Hid (¬ (textC sub ∧ names = [] ∧ (0 ≤ dep ∧ dep ≤ 4) ∧ listC patP perm 0 8)) := Lib.hid (fun h => a2 (by rw [h.2.1]; rfl))
          go_wp2_with (first | (go_at_call 272; refine (t1 _).mono ?_; rintro e w4 ⟨rfl, x4⟩; clear t1 m0 m1 m2 m3 m4 m5 m6 m7 m8 m9 m10 m11 m12; obtain ⟨m0, m1, m2, m3, m4, m5, m6, m7, m8, m9, m10, m11, m12⟩ := lst13 (ext_blk x4 HBS.out)) | (go_at_call 274; refine (cL _ (HXS.out.trans x4)).mono ?_; clear cL; rintro e w5 ⟨rfl, x5⟩))
          go_ret
          exact ⟨false, rfl, ⟨(fun h => by cases h), fun h => by rcases h.2.2.2 with h | h; exact absurd h.2 HNO.out; cases h.1⟩, HXS.out.trans x4⟩
        have d1 : ((names.length : Int) == 0) = true := by rw [beq_iff_eq]; omega
        have HA2 := Lib.hid a2
        clear a2
        by_cases a3 : 0 ≤ dep
        rotate_left 1
        · have d2 : decide ((0 : Int) ≤ dep) = false := decide_eq_false a3
          have HNO : Hid (¬ (textC sub ∧ names = [] ∧ (0 ≤ dep ∧ dep ≤ 4) ∧ listC patP perm 0 8)) := Lib.hid (fun h => a3 h.2.2.1.1)
          go_wp2_with (first | (go_at_call 272; refine (t1 _).mono ?_; rintro e w4 ⟨rfl, x4⟩; clear t1 m0 m1 m2 m3 m4 m5 m6 m7 m8 m9 m10 m11 m12; obtain ⟨m0, m1, m2, m3, m4, m5, m6, m7, m8, m9, m10, m11, m12⟩ := lst13 (ext_blk x4 HBS.out)) | (go_at_call 274; refine (cL _ (HXS.out.trans x4)).mono ?_; clear cL; rintro e w5 ⟨rfl, x5⟩))
          go_ret
          exact ⟨false, rfl, ⟨(fun h => by cases h), fun h => by rcases h.2.2.2 with h | h; exact absurd h.2 HNO.out; cases h.1⟩, HXS.out.trans x4⟩
        have d2 : decide ((0 : Int) ≤ dep) = true := decide_eq_true a3
        by_cases a4 : dep ≤ 4
        rotate_left 1
        · have d3 : decide (dep ≤ (4 : Int)) = false := decide_eq_false a4
          have HNO : Hid (¬ (textC sub ∧ names = [] ∧ (0 ≤ dep ∧ dep ≤ 4) ∧ listC patP perm 0 8)) := Lib.hid (fun h => a4 h.2.2.1.2)
          go_wp2_with (first | (go_at_call 272; refine (t1 _).mono ?_; rintro e w4 ⟨rfl, x4⟩; clear t1 m0 m1 m2 m3 m4 m5 m6 m7 m8 m9 m10 m11 m12; obtain ⟨m0, m1, m2, m3, m4, m5, m6, m7, m8, m9, m10, m11, m12⟩ := lst13 (ext_blk x4 HBS.out)) | (go_at_call 274; refine (cL _ (HXS.out.trans x4)).mono ?_; clear cL; rintro e w5 ⟨rfl, x5⟩))
          go_ret
          exact ⟨false, rfl, ⟨(fun h => by cases h), fun h => by rcases h.2.2.2 with h | h; exact absurd h.2 HNO.out; cases h.1⟩, HXS.out.trans x4⟩
        have d3 : decide (dep ≤ (4 : Int)) = true := decide_eq_true a4
        have cL := fun W (k : Ext w W) => list_any 207 pattern_enters patP perm 0 8 (by decide) (by have := HLN.out.2; omega) (fun s hs => by have := HW6.out s hs; omega) pA pc W (HPP.out W k) (fun s hs W => pattern_if s (by have := HW6.out s hs; omega) W)
        have HD : Hid (decide (listC patP perm 0 8) = true ↔ (textC sub ∧ names = [] ∧ (0 ≤ dep ∧ dep ≤ 4) ∧ listC patP perm 0 8)) := Lib.hid (by
          rw [decide_eq_true_eq]
          exact ⟨fun h => ⟨a1, List.eq_nil_of_length_eq_zero HA2.out, ⟨a3, a4⟩, h⟩, fun h => h.2.2.2⟩)
        generalize decide (listC patP perm 0 8) = b at cL HD
        clear a1 a3 a4
        go_wp2_with (first | (go_at_call 272; refine (t1 _).mono ?_; rintro e w4 ⟨rfl, x4⟩; clear t1 m0 m1 m2 m3 m4 m5 m6 m7 m8 m9 m10 m11 m12; obtain ⟨m0, m1, m2, m3, m4, m5, m6, m7, m8, m9, m10, m11, m12⟩ := lst13 (ext_blk x4 HBS.out)) | (go_at_call 274; refine (cL _ (HXS.out.trans x4)).mono ?_; clear cL; rintro e w5 ⟨rfl, x5⟩))
        go_ret
        exact ⟨b, rfl, ⟨fun h => ⟨HPC.out, HA.out, HBB.out, .inl ⟨rfl, HD.out.1 h⟩⟩, fun h => by rcases h.2.2.2 with h | h; exact HD.out.2 h.2; cases h.1⟩, HXS.out.trans (x4.trans x5)⟩
      | false =>
        clear cTx
        have cL := fun W (k : Ext w W) => list_any 240 check_entersN namP names 1 8 (by decide) (by have := HLN.out.1; omega) (fun s hs => by have := HW4.out s hs; omega) nA nc W (HNN.out W k) (fun s hs W => check_if s (by have := HW4.out s hs; omega) W)
        by_cases a1 : sub.size = 0
        rotate_left 1
        · have hE : sub.toList.isEmpty = false := by
            rw [ByteArray.toList_eq]
            cases hl : sub.data.toList with
            | nil => exact absurd (by show sub.data.size = 0; rw [← Array.length_toList, hl]; rfl) a1
            | cons _ _ => rfl
          have hE2 : ¬ sub.toList = [] := fun h => by rw [h] at hE; cases hE
          have HNO : Hid (¬ (sub.size = 0 ∧ listC namP names 1 8 ∧ dep = 0 ∧ perm = [])) := Lib.hid (fun h => a1 h.1)
          go_wp2_with (go_at_call 274; refine (cL _ HXS.out).mono ?_; clear cL; rintro e w5 ⟨rfl, x5⟩; clear m0 m1 m2 m3 m4 m5 m6 m7 m8 m9 m10 m11 m12; obtain ⟨m0, m1, m2, m3, m4, m5, m6, m7, m8, m9, m10, m11, m12⟩ := lst13 (ext_blk x5 HBS.out))
          go_ret
          exact ⟨false, rfl, ⟨(fun h => by cases h), fun h => by rcases h.2.2.2 with h | h; cases h.1; exact absurd h.2 HNO.out⟩, HXS.out⟩
        have hE : sub.toList.isEmpty = true := by
          have hs0 : sub = ByteArray.empty := ByteArray.size_eq_zero_iff.1 a1
          rw [hs0, ByteArray.toList_eq]; rfl
        have hE2 : sub.toList = [] := List.isEmpty_iff.1 hE
        have HA1 := Lib.hid a1
        clear a1
        by_cases a2 : listC namP names 1 8
        rotate_left 1
        · have HA2 := Lib.hid a2
          rw [decide_eq_false a2] at cL
          clear a2
          have HNO : Hid (¬ (sub.size = 0 ∧ listC namP names 1 8 ∧ dep = 0 ∧ perm = [])) := Lib.hid (fun h => HA2.out h.2.1)
          go_wp2_with (go_at_call 274; refine (cL _ HXS.out).mono ?_; clear cL; rintro e w5 ⟨rfl, x5⟩; clear m0 m1 m2 m3 m4 m5 m6 m7 m8 m9 m10 m11 m12; obtain ⟨m0, m1, m2, m3, m4, m5, m6, m7, m8, m9, m10, m11, m12⟩ := lst13 (ext_blk x5 HBS.out))
          go_ret
          exact ⟨false, rfl, ⟨(fun h => by cases h), fun h => by rcases h.2.2.2 with h | h; cases h.1; exact absurd h.2 HNO.out⟩, HXS.out.trans x5⟩
        have HA2 := Lib.hid a2
        rw [decide_eq_true a2] at cL
        clear a2
        by_cases a3 : dep = 0
        rotate_left 1
        · have d2 : (dep == 0) = false := beq_eq_false_iff_ne.2 a3
          have HNO : Hid (¬ (sub.size = 0 ∧ listC namP names 1 8 ∧ dep = 0 ∧ perm = [])) := Lib.hid (fun h => a3 h.2.2.1)
          go_wp2_with (go_at_call 274; refine (cL _ HXS.out).mono ?_; clear cL; rintro e w5 ⟨rfl, x5⟩; clear m0 m1 m2 m3 m4 m5 m6 m7 m8 m9 m10 m11 m12; obtain ⟨m0, m1, m2, m3, m4, m5, m6, m7, m8, m9, m10, m11, m12⟩ := lst13 (ext_blk x5 HBS.out))
          go_ret
          exact ⟨false, rfl, ⟨(fun h => by cases h), fun h => by rcases h.2.2.2 with h | h; cases h.1; exact absurd h.2 HNO.out⟩, HXS.out.trans x5⟩
        have d2 : (dep == 0) = true := beq_iff_eq.2 a3
        have HA3 := Lib.hid a3
        clear a3
        by_cases a4 : perm.length = 0
        rotate_left 1
        · have d3 : ((perm.length : Int) == 0) = false := by rw [beq_eq_false_iff_ne]; omega
          have HNO : Hid (¬ (sub.size = 0 ∧ listC namP names 1 8 ∧ dep = 0 ∧ perm = [])) := Lib.hid (fun h => a4 (by rw [h.2.2.2]; rfl))
          go_wp2_with (go_at_call 274; refine (cL _ HXS.out).mono ?_; clear cL; rintro e w5 ⟨rfl, x5⟩; clear m0 m1 m2 m3 m4 m5 m6 m7 m8 m9 m10 m11 m12; obtain ⟨m0, m1, m2, m3, m4, m5, m6, m7, m8, m9, m10, m11, m12⟩ := lst13 (ext_blk x5 HBS.out))
          go_ret
          exact ⟨false, rfl, ⟨(fun h => by cases h), fun h => by rcases h.2.2.2 with h | h; cases h.1; exact absurd h.2 HNO.out⟩, HXS.out.trans x5⟩
        have d3 : ((perm.length : Int) == 0) = true := by rw [beq_iff_eq]; omega
        have HA4 := Lib.hid a4
        clear a4
        go_wp2_with (go_at_call 274; refine (cL _ HXS.out).mono ?_; clear cL; rintro e w5 ⟨rfl, x5⟩; clear m0 m1 m2 m3 m4 m5 m6 m7 m8 m9 m10 m11 m12; obtain ⟨m0, m1, m2, m3, m4, m5, m6, m7, m8, m9, m10, m11, m12⟩ := lst13 (ext_blk x5 HBS.out))
        go_ret
        exact ⟨true, rfl, ⟨fun _ => ⟨HPC.out, HA.out, HBB.out, .inr ⟨rfl, HA1.out, HA2.out, HA3.out, List.eq_nil_of_length_eq_zero HA4.out⟩⟩, fun _ => rfl⟩, HXS.out.trans x5⟩
end Go.Proofs.YtfpmfegmehbfbaaGreatDoor

/- What comes in, opened: a certificate. -/
namespace Go.Proofs.YtfpmfegmehbfbaaGreatDoor
set_option linter.unusedVariables false
set_option linter.unusedSimpArgs false
open Go.ChangeShapes Go.WideShapes Go.ChangeAt Go.RowKit

/-- A certificate as it came in. -/
structure CrtI (w : World) (x : CrtX) : Prop where
  names : Reads w w.heap.size 1 x.nA x.r.names.length (tv x.r.names)
  perm : Reads w w.heap.size 1 x.pA x.r.perm.length (tv x.r.perm)
  proms : Reads w w.heap.size 6 x.mA x.r.proms.length (prmV x.r.proms)
  nl : x.r.names.length ≤ 140737488351232
  pl : x.r.perm.length ≤ 140737488351232

section
variable {H : Type} {enc : TypeId × Value → H} {W : World}
theorem tw_val7 {t : TypeId} {v : Value} {d : DataW H} {p : List MemPlace} (h : DataW.Trod enc Tryz.prog W 0 (fun _ => true) true t v d p) (hw : ∀ m ∈ d.weights Tryz.prog t, m ≤ reachBytes) : Tw enc Tryz.prog W t v.cells.toList d := by
  obtain ⟨fuel, hf⟩ := h
  exact ⟨⟨fuel, p, hf⟩, hw⟩
theorem tw_words2 {P : Program} {t e : TypeId} {cs : List Value} {d : DataW H} (ht : P.underlying t = some (.array 2 e)) (he : P.underlying e = some (.int .u64)) (ce : P.cellsOf e = 1) (ct : P.cellsOf t = 2) (h : Tw enc P W t cs d) :
    ∃ x y : Nat, cs = [.int .u64 (x : Int), .int .u64 (y : Int)] := by
  obtain ⟨⟨fuel, p, hf⟩, _⟩ := h
  obtain ⟨xs, n, _, _, hlen, hxl, hx⟩ := DataW.trod_array ht hf
  rw [ct] at hlen
  match cs, hlen with
  | [a, b], _ =>
    have k0 := hx 0 (by decide)
    have k1 := hx 1 (by decide)
    rw [ce, List.getElem?_eq_getElem (by omega)] at k0 k1
    obtain ⟨n0, e0, _, w0⟩ := DataW.trod_int he k0
    obtain ⟨n1, e1, _, w1⟩ := DataW.trod_int he k1
    simp at e0 e1
    obtain ⟨f0, _⟩ := word_of_wf w0
    obtain ⟨f1, _⟩ := word_of_wf w1
    exact ⟨n0.toNat, n1.toNat, by rw [e0, e1, ← f0, ← f1]⟩
theorem dec_prm : Dec enc Tryz.prog W 55 prmL (fun _ => True) := fun cs d h => by
  have U := Tryz.underlying55
  obtain ⟨d0, h0⟩ := tw_field U h 0 rfl 3 0 1 rfl rfl (by kernel_rfl)
  obtain ⟨d1, h1⟩ := tw_field U h 1 rfl 3 1 1 rfl rfl (by kernel_rfl)
  obtain ⟨d2, h2⟩ := tw_field U h 2 rfl 34 2 2 rfl rfl (by kernel_rfl)
  obtain ⟨d3, h3⟩ := tw_field U h 3 rfl 36 4 2 rfl rfl (by kernel_rfl)
  have Uq := Tryz.underlying36
  obtain ⟨dq0, hq0⟩ := tw_field Uq h3 0 rfl 25 0 1 rfl rfl (by kernel_rfl)
  obtain ⟨dq1, hq1⟩ := tw_field Uq h3 1 rfl 25 1 1 rfl rfl (by kernel_rfl)
  obtain ⟨xq0, eq0, wq0⟩ := tw_u64 Tryz.underlying25 hq0
  obtain ⟨xq1, eq1, wq1⟩ := tw_u64 Tryz.underlying25 hq1
  obtain ⟨x0, e0, w0⟩ := tw_int Tryz.underlying3 h0
  obtain ⟨x1, e1, w1⟩ := tw_int Tryz.underlying3 h1
  obtain ⟨x2, x3, e2⟩ := tw_words2 Tryz.underlying34 Tryz.underlying25 (by kernel_rfl) (by kernel_rfl) h2
  have hl := (tw_struct U h).1
  rw [show Tryz.prog.cellsOf 55 = 6 by kernel_rfl] at hl
  clear h h0 h1 h2 h3 hq0 hq1
  match cs, hl with
  | [z0, z1, z2, z3, z4, z5], _ =>
    simp at e0 e1 e2 eq0 eq1
    obtain ⟨e2, e3⟩ := e2
    subst e0; subst e1; subst e2; subst e3; subst eq0; subst eq1
    exact ⟨⟨x0, x1, x2, x3, xq0, xq1⟩, rfl, trivial⟩
set_option maxRecDepth 100000 in
theorem open_cert {v : Value} {d : DataW H} {p : List MemPlace} {r : Reach} {b0 : Nat} (hv : Value.okWide Tryz.prog W r b0 67 v) (h' : DataW.Trod enc Tryz.prog W 0 (fun _ => true) true 67 v d p) (hw : ∀ m ∈ d.weights Tryz.prog 67, m ≤ reachBytes) :
    ∃ x : CrtX, v = crtV x ∧ CrtI W x := by
  obtain ⟨cs, rfl, hsz⟩ := okWide_struct Tryz.underlying67 hv
  have h := tw_val7 h' hw
  simp only [Value.cells] at h
  have U := Tryz.underlying67
  obtain ⟨d0, h0⟩ := tw_field U h 0 rfl 3 0 1 rfl rfl (by kernel_rfl)
  obtain ⟨d1, h1⟩ := tw_field U h 1 rfl 9 1 1 rfl rfl (by kernel_rfl)
  obtain ⟨d2, h2⟩ := tw_field U h 2 rfl 9 2 1 rfl rfl (by kernel_rfl)
  obtain ⟨d3, h3⟩ := tw_field U h 3 rfl 25 3 1 rfl rfl (by kernel_rfl)
  obtain ⟨d4, h4⟩ := tw_field U h 4 rfl 65 4 1 rfl rfl (by kernel_rfl)
  obtain ⟨d5, h5⟩ := tw_field U h 5 rfl 3 5 1 rfl rfl (by kernel_rfl)
  obtain ⟨d6, h6⟩ := tw_field U h 6 rfl 3 6 1 rfl rfl (by kernel_rfl)
  obtain ⟨d7, h7⟩ := tw_field U h 7 rfl 4 7 1 rfl rfl (by kernel_rfl)
  obtain ⟨d8, h8⟩ := tw_field U h 8 rfl 3 8 1 rfl rfl (by kernel_rfl)
  obtain ⟨d9, h9⟩ := tw_field U h 9 rfl 65 9 1 rfl rfl (by kernel_rfl)
  obtain ⟨d10, h10⟩ := tw_field U h 10 rfl 30 10 1 rfl rfl (by kernel_rfl)
  obtain ⟨d11, h11⟩ := tw_field U h 11 rfl 36 11 2 rfl rfl (by kernel_rfl)
  have Uq := Tryz.underlying36
  obtain ⟨dq0, hq0⟩ := tw_field Uq h11 0 rfl 25 0 1 rfl rfl (by kernel_rfl)
  obtain ⟨dq1, hq1⟩ := tw_field Uq h11 1 rfl 25 1 1 rfl rfl (by kernel_rfl)
  obtain ⟨xq0, eq0, wq0⟩ := tw_u64 Tryz.underlying25 hq0
  obtain ⟨xq1, eq1, wq1⟩ := tw_u64 Tryz.underlying25 hq1
  obtain ⟨x0, e0, w0⟩ := tw_int Tryz.underlying3 h0
  obtain ⟨x1, e1, w1⟩ := tw_string Tryz.underlying9 h1
  obtain ⟨x2, e2, w2⟩ := tw_string Tryz.underlying9 h2
  obtain ⟨x3, e3, w3⟩ := tw_u64 Tryz.underlying25 h3
  obtain ⟨A4, c4, x4, e4, n4, b4, w4, r4⟩ := open_strs Tryz.underlying65 Tryz.underlying9 (by kernel_rfl) (by kernel_rfl) h4
  obtain ⟨x5, e5, w5⟩ := tw_int Tryz.underlying3 h5
  obtain ⟨x6, e6, w6⟩ := tw_int Tryz.underlying3 h6
  obtain ⟨x7, e7⟩ := tw_bool Tryz.underlying4 h7
  obtain ⟨x8, e8, w8⟩ := tw_int Tryz.underlying3 h8
  obtain ⟨A9, c9, x9, e9, n9, b9, w9, r9⟩ := open_strs Tryz.underlying65 Tryz.underlying9 (by kernel_rfl) (by kernel_rfl) h9
  obtain ⟨A10, c10, x10, e10, n10, b10, w10, r10⟩ := dec_slice Tryz.underlying30 (show Tryz.prog.cellsOf 55 = 6 by kernel_rfl) (by decide) (fun _ => rfl) dec_prm h10
  have hl := (tw_struct U h).1
  rw [show Tryz.prog.cellsOf 67 = 13 by kernel_rfl] at hl
  clear h h0 h1 h2 h3 h4 h5 h6 h7 h8 h9 h10 h11 hq0 hq1 h' hv hw hsz
  obtain ⟨l⟩ := cs
  match l, hl with
  | [z0, z1, z2, z3, z4, z5, z6, z7, z8, z9, z10, z11, z12], _ =>
    simp at e0 e1 e2 e3 e4 e5 e6 e7 e8 e9 e10 eq0 eq1
    subst e0; subst e1; subst e2; subst e3; subst e4; subst e5; subst e6; subst e7; subst e8; subst e9; subst e10; subst eq0; subst eq1
    exact ⟨⟨⟨x0, x1, x2, x3, x4, x5, x6, x7, x8, x9, x10, xq0, xq1⟩, A4, c4, A9, c9, A10, c10⟩, rfl, r4, r9, r10, by show x4.length ≤ _; omega, by show x9.length ≤ _; omega⟩
end
end Go.Proofs.YtfpmfegmehbfbaaGreatDoor
