/- Parts of the proofs, put together: Or36, Or37, Or38. -/
import Derived.Test.YtfpmfegmehbfbaaGreatDoorD31
/- The door, walked: Do. -/
namespace Go.Proofs.YtfpmfegmehbfbaaGreatDoor
set_option linter.unusedVariables false
set_option linter.unusedSimpArgs false
set_option linter.unusedSimpArgs false
open Go.RowKit Go.Shelf Go.Maps

theorem doF_1 {sg : Nat → List Nat → Nat → Nat → Nat} {f : FroR} {q : QueR} {now : Int} {E : Nat} (h : chkF f = E) (h0 : E ≠ 0) : doF sg f q now = bad E := by unfold doF; rw [if_pos (by rw [h]; exact h0), h]
theorem doF_2 {sg : Nat → List Nat → Nat → Nat → Nat} {f : FroR} {q : QueR} {now : Int} (h : chkF f = 0) (h1 : byteE q ≠ 0 ∨ ¬ numP now ∨ ¬ fitsP q) : doF sg f q now = bad 1 := by unfold doF; rw [if_neg (by rw [h]; simp), if_pos h1]
theorem doF_3 {sg : Nat → List Nat → Nat → Nat → Nat} {f : FroR} {q : QueR} {now : Int} (h : chkF f = 0) (h1 : ¬ (byteE q ≠ 0 ∨ ¬ numP now ∨ ¬ fitsP q)) {E : Nat} (h2 : useE f.next f.opn q.nonce now = E) (h0 : E ≠ 0) : doF sg f q now = bad E := by unfold doF; rw [if_neg (by rw [h]; simp), if_neg h1, if_pos (by rw [h2]; exact h0), h2]
theorem doF_4 {sg : Nat → List Nat → Nat → Nat → Nat} {f : FroR} {q : QueR} {now : Int} (h : chkF f = 0) (h1 : ¬ (byteE q ≠ 0 ∨ ¬ numP now ∨ ¬ fitsP q)) (h2 : useE f.next f.opn q.nonce now = 0) (h3 : keyF f q = none) : doF sg f q now = bad 220 := by unfold doF; rw [if_neg (by rw [h]; simp), if_neg h1, if_neg (by rw [h2]; simp), h3]
theorem doF_5 {sg : Nat → List Nat → Nat → Nat → Nat} {f : FroR} {q : QueR} {now : Int} (h : chkF f = 0) (h1 : ¬ (byteE q ≠ 0 ∨ ¬ numP now ∨ ¬ fitsP q)) (h2 : useE f.next f.opn q.nonce now = 0) {k : Nat} (h3 : keyF f q = some k) {E : Nat} (h4 : sg k (byteL q) q.e q.s = E) (h0 : E ≠ 0) : doF sg f q now = bad E := by unfold doF; rw [if_neg (by rw [h]; simp), if_neg h1, if_neg (by rw [h2]; simp), h3]; simp only; rw [if_pos (by rw [h4]; exact h0), h4]
theorem doF_6 {sg : Nat → List Nat → Nat → Nat → Nat} {f : FroR} {q : QueR} {now : Int} (h : chkF f = 0) (h1 : ¬ (byteE q ≠ 0 ∨ ¬ numP now ∨ ¬ fitsP q)) (h2 : useE f.next f.opn q.nonce now = 0) {k : Nat} (h3 : keyF f q = some k) (h4 : sg k (byteL q) q.e q.s = 0) : doF sg f q now = stepF { f with opn := useL f.opn q.nonce } q now := by unfold doF; rw [if_neg (by rw [h]; simp), if_neg h1, if_neg (by rw [h2]; simp), h3]; simp only; rw [if_neg (by rw [h4]; simp)]
theorem use_parts {next : Int} {l : List NonR} {n now nx : Int} {op : List NonR} {ue : Nat} (h : useF next l n now = (nx, op, ue)) : useE next l n now = ue ∧ (ue = 0 → nx = next ∧ op = useL l n) := by
  unfold useF at h
  split at h
  · next h0 => cases h; exact ⟨h0, fun _ => ⟨rfl, rfl⟩⟩
  · next h0 => cases h; exact ⟨rfl, fun e => absurd e h0⟩
theorem grown6 (w : World) (g : Nat) (a b c d e f : Value) : w.grownBy ((((((w.setCell ⟨g, 0, none⟩ a).setCell ⟨g, 1, none⟩ b).setCell ⟨g, 2, none⟩ c).setCell ⟨g, 3, none⟩ d).setCell ⟨g, 4, none⟩ e).setCell ⟨g, 5, none⟩ f) (some g) :=
  (((((grown_set _ _ _ _).trans (grown_set _ _ _ _)).trans (grown_set _ _ _ _)).trans (grown_set _ _ _ _)).trans (grown_set _ _ _ _)).trans (grown_set _ _ _ _)
theorem ne_beq {E : Nat} (h : E ≠ 0) : ((E : Int) != 0) = true := by simp; omega
set_option maxRecDepth 100000 in
set_option maxHeartbeats 16000000 in
theorem oDo_any (d : DoorX) (q : QueR) (A : Option Addr) (c : Nat) (now : Int) (w : World) (hw : DoorW w w.heap.size d) (hq : QueW w w.heap.size q A c) (hu9 : d.auts.length + 8 < 99) (ha9 : d.accs.length < 100) (ho9 : d.ords.length < 100) :
    Calls Tryz.prog 38 #[frontV d, queV q A c, .int .i64 now] w (outD d (doF checkN d.fro q now) w) := by
  obtain ⟨W0, e0, b0, b1, b2, x0, s0⟩ := boxes3 w #[.int .i64 d.next, .slice d.oA d.opn.length d.oc, .slice d.cA d.accs.length d.cc, .slice d.uA d.auts.length d.uc, .slice d.rA d.ords.length d.rc, .int .i64 d.ser] #[.int .i64 q.kind, .int .i64 q.acc, .int .i64 q.nonce, .int .u64 (q.key : Int), .slice A q.names.length c, .int .i64 q.life, .int .i64 q.id, .int .u64 (q.e : Int), .int .u64 (q.s : Int)] #[.int .i64 0, .slice none 0 0, .slice none 0 0, .slice none 0 0, .slice none 0 0, .int .i64 0] 96 98 96
  have cC := oCheck_any d (by omega) ha9 W0 (hw.ext x0)
  have cB := fun W (h : Ext W0 W) => oBytes_any q A c W (hq.ext (x0.trans h))
  have cN := onum_any now
  have cF := fun W (h : Ext W0 W) => qfits_any q A c W (hq.ext (x0.trans h))
  obtain ⟨E, hE⟩ : ∃ E, chkF d.fro = E := ⟨_, rfl⟩
  rw [hE] at cC
  have HW := Lib.hid hw
  have HQ := Lib.hid hq
  have HB0 := Lib.hid b0
  have HB1 := Lib.hid b1
  have HB2 := Lib.hid b2
  have HX0 := Lib.hid x0
  have HS0 := Lib.hid s0
  have HE := Lib.hid hE
  have HU9 := Lib.hid hu9
  have HA9 := Lib.hid ha9
  have HO9 := Lib.hid ho9
  obtain ⟨m0, m1, m2, m3, m4, m5⟩ := arr6f b0
  unfold frontV at cC ⊢
  unfold queV at cB cF ⊢
  clear b0 b1 b2 x0 s0 hw hq hE hu9 ha9 ho9
  have hmm := @run_makeMap Tryz.prog
  go_enter Tryz.func38, Tryz.ntmps38
  go_upto_region 1 with (fail)
  try rw [e0]
  clear e0
  by_cases h0 : E = 0
  case neg =>
    have HR := Lib.hid (doF_1 (sg := checkN) (q := q) (now := now) HE.out h0)
    have k0 := ne_beq h0
    clear h0 cB cN cF
    go_wp2_with (go_at_call 92; refine cC.mono ?_; clear cC m0 m1 m2 m3 m4 m5; rintro e w1 ⟨rfl, x1⟩; have b2 := ext_blk (x1) HB2.out; obtain ⟨q0, q1, q2, q3, q4, q5, f0, f1, f2, f3, f4, f5⟩ := st6 b2; have BB := Lib.hid (blk6 b2 (.int .i64 0) (.slice none 0 0) (.slice none 0 0) (.slice none 0 0) (.slice none 0 0) (.int .i64 0)); clear b2)
    rw [HR.out]
    obtain ⟨r0, r1, r2, r3, r4, r5⟩ := arr6f BB.out
    refine bodyPost_ret (v := .tuple #[.agg #[.int .i64 0, .slice none 0 0, .slice none 0 0, .slice none 0 0, .slice none 0 0, .int .i64 0], .int .i64 0, .int .i64 (E : Int)]) (by simp [results, Tryz.results38, go_sem, r0, r1, r2, r3, r4, r5]) rfl (outD_bad rfl (ext6 (HX0.out.trans (x1)) (by omega) _ _ _ _ _ _))
  subst h0
  go_upto_region 4 with (go_at_call 92; refine cC.mono ?_; clear cC m0 m1 m2 m3 m4 m5; rintro e w1 ⟨rfl, x1⟩; have HX1 := Lib.hid x1)
  obtain ⟨k0, k1, k2, k3, k4, k5, k6, k7, k8⟩ := arr9 (ext_blk x1 HB1.out)
  have cB := cB w1 x1
  clear x1
  obtain ⟨BE, hBE⟩ : ∃ B, byteE q = B := ⟨_, rfl⟩
  unfold bytPost at cB
  rw [hBE] at cB
  have HBE := Lib.hid hBE
  clear hBE
  go_upto_region 5 with (go_at_call 91; refine cB.mono ?_; clear cB k0 k1 k2 k3 k4 k5 k6 k7 k8; rintro e w2 ⟨bv0, rfl, ho2, x2⟩; have HX2 := Lib.hid (HX1.out.trans x2); have HY2 := Lib.hid x2; have HO2 := Lib.hid ho2; clear ho2 x2)
  by_cases hb : BE = 0
  case neg =>
    have HR := Lib.hid (doF_2 (sg := checkN) (f := d.fro) (q := q) (now := now) HE.out (.inl (by rw [HBE.out]; exact hb)))
    have k0 := ne_beq hb
    clear hb cN cF
    have b2 := ext_blk (HX2.out) HB2.out; obtain ⟨q0, q1, q2, q3, q4, q5, f0, f1, f2, f3, f4, f5⟩ := st6 b2; have BB := Lib.hid (blk6 b2 (.int .i64 0) (.slice none 0 0) (.slice none 0 0) (.slice none 0 0) (.slice none 0 0) (.int .i64 0)); clear b2
    go_wp2
    rw [HR.out]
    obtain ⟨r0, r1, r2, r3, r4, r5⟩ := arr6f BB.out
    refine bodyPost_ret (v := .tuple #[.agg #[.int .i64 0, .slice none 0 0, .slice none 0 0, .slice none 0 0, .slice none 0 0, .int .i64 0], .int .i64 0, .int .i64 1]) (by simp [results, Tryz.results38, go_sem, r0, r1, r2, r3, r4, r5]) rfl (outD_bad rfl (ext6 (HX0.out.trans (HX2.out)) (by omega) _ _ _ _ _ _))
  subst hb
  by_cases hn : numP now
  case neg =>
    have HR := Lib.hid (doF_2 (sg := checkN) (f := d.fro) (q := q) (now := now) HE.out (.inr (.inl hn)))
    rw [show decide (numP now) = false from decide_eq_false hn] at cN
    clear hn cF
    have b2 := ext_blk (HX2.out) HB2.out; obtain ⟨q0, q1, q2, q3, q4, q5, f0, f1, f2, f3, f4, f5⟩ := st6 b2; have BB := Lib.hid (blk6 b2 (.int .i64 0) (.slice none 0 0) (.slice none 0 0) (.slice none 0 0) (.slice none 0 0) (.int .i64 0)); clear b2
    go_wp2_with (go_at_call 93; refine (cN _).mono ?_; clear cN; rintro e w3 ⟨rfl, rfl⟩)
    rw [HR.out]
    obtain ⟨r0, r1, r2, r3, r4, r5⟩ := arr6f BB.out
    refine bodyPost_ret (v := .tuple #[.agg #[.int .i64 0, .slice none 0 0, .slice none 0 0, .slice none 0 0, .slice none 0 0, .int .i64 0], .int .i64 0, .int .i64 1]) (by simp [results, Tryz.results38, go_sem, r0, r1, r2, r3, r4, r5]) rfl (outD_bad rfl (ext6 (HX0.out.trans (HX2.out)) (by omega) _ _ _ _ _ _))
  rw [show decide (numP now) = true from decide_eq_true hn] at cN
  obtain ⟨k0, k1, k2, k3, k4, k5, k6, k7, k8⟩ := arr9 (ext_blk HX2.out HB1.out)
  have cF := cF w2 HX2.out
  by_cases hf : fitsP q
  case neg =>
    have HR := Lib.hid (doF_2 (sg := checkN) (f := d.fro) (q := q) (now := now) HE.out (.inr (.inr hf)))
    rw [show decide (fitsP q) = false from decide_eq_false hf] at cF
    clear hn hf
    go_wp2_with (first | (go_at_call 93; refine (cN _).mono ?_; clear cN; rintro e w3 ⟨rfl, rfl⟩) | (go_at_call 94; refine cF.mono ?_; clear cF k0 k1 k2 k3 k4 k5 k6 k7 k8; rintro e w3 ⟨rfl, x3⟩; have b2 := ext_blk (HX2.out.trans x3) HB2.out; obtain ⟨q0, q1, q2, q3, q4, q5, f0, f1, f2, f3, f4, f5⟩ := st6 b2; have BB := Lib.hid (blk6 b2 (.int .i64 0) (.slice none 0 0) (.slice none 0 0) (.slice none 0 0) (.slice none 0 0) (.int .i64 0)); clear b2))
    rw [HR.out]
    obtain ⟨r0, r1, r2, r3, r4, r5⟩ := arr6f BB.out
    refine bodyPost_ret (v := .tuple #[.agg #[.int .i64 0, .slice none 0 0, .slice none 0 0, .slice none 0 0, .slice none 0 0, .int .i64 0], .int .i64 0, .int .i64 1]) (by simp [results, Tryz.results38, go_sem, r0, r1, r2, r3, r4, r5]) rfl (outD_bad rfl (ext6 (HX0.out.trans (HX2.out.trans x3)) (by omega) _ _ _ _ _ _))
  rw [show decide (fitsP q) = true from decide_eq_true hf] at cF
  have HOK := Lib.hid (show ¬ (byteE q ≠ 0 ∨ ¬ numP now ∨ ¬ fitsP q) by rw [HBE.out]; simp [hn, hf])
  have HN := Lib.hid hn
  have HF := Lib.hid hf
  have HH := Lib.hid (byteE_head HBE.out)
  clear hn hf
  go_upto_region 7 with (first | (go_at_call 93; refine (cN _).mono ?_; clear cN; rintro e w3 ⟨rfl, rfl⟩) | (go_at_call 94; refine cF.mono ?_; clear cF k0 k1 k2 k3 k4 k5 k6 k7 k8; rintro e w3 ⟨rfl, x3⟩))
  have HX3 := Lib.hid (HX2.out.trans x3)
  have HO3 := Lib.hid (own_ext HO2.out x3)
  have HS3 : Hid (w1.heap.size ≤ w3.heap.size) := Lib.hid (Nat.le_trans HY2.out.size x3.size)
  clear HO2 x3
  obtain ⟨m0, m1, m2, m3, m4, m5⟩ := arr6f (ext_blk HX3.out HB0.out)
  go_upto_region 8 with (fail)
  clear m0 m1 m2 m3 m4 m5
  obtain ⟨W4, e4⟩ : ∃ W, w3.alloc (.cells #[.int .i64 d.next, .slice d.oA d.opn.length d.oc, .slice d.cA d.accs.length d.cc, .slice d.uA d.auts.length d.uc, .slice d.rA d.ords.length d.rc, .int .i64 d.ser, .int .i64 now] 180) = W := ⟨_, rfl⟩
  try rw [e4]
  have HX4 : Hid (Ext W0 W4) := Lib.hid (by rw [← e4]; exact HX3.out.alloc _)
  have HY4 : Hid (Ext w3 W4) := Lib.hid (by rw [← e4]; exact (Ext.refl w3).alloc _)
  have HD4 : Hid (DoorB W4 w3.heap.size d now) := Lib.hid (by rw [← e4]; exact Blk.new _ _ _)
  clear e4
  obtain ⟨B, hB⟩ : ∃ B, B = w3.heap.size := ⟨_, rfl⟩
  rw [← hB] at HD4
  try rw [← hB]
  have HBB := Lib.hid hB
  clear hB
  have hnq : numP q.nonce := HH.out.2.2.2.2.1
  have cU := Use_any d.next d.opn d.oA d.oc q.nonce now hnq W4 (HW.out.non.ext (HX0.out.trans HX4.out))
  obtain ⟨r, hr⟩ : ∃ r, useF d.next d.opn q.nonce now = r := ⟨_, rfl⟩
  have HFE : Hid (fenN r.1 r.2.1 = 0) := Lib.hid (by rw [← hr]; exact fenN_use)
  rw [hr] at cU
  obtain ⟨nx, op, ue⟩ := r
  have HUF := Lib.hid hr
  unfold usePost fenV at cU
  simp only at cU HFE
  have m0 := (ext_blk HX4.out HB0.out).cell 0
  have m1 := (ext_blk HX4.out HB0.out).cell 1
  have k2 := (ext_blk HX4.out HB1.out).cell 2
  clear hr hnq
  go_upto_region 9 with (go_at_call 95; refine cU.mono ?_; clear cU m0 m1 k2; rintro e w5 ⟨A5, c5, rfl, ho5, x5⟩; have HX5 := Lib.hid (HX4.out.trans x5); have HZ5 := Lib.hid x5.size; have HT5 := Lib.hid x5; have HD5 := Lib.hid (DoorB.ext HD4.out x5); have n0 := Blk.frozen (DoorB.ext HD4.out x5) 0; have n1 := Blk.frozen (DoorB.ext HD4.out x5) 1; have p0 := Blk.cell (DoorB.ext HD4.out x5) 0; have p1 := Blk.cell (DoorB.ext HD4.out x5) 1; have HO5 := Lib.hid ho5; clear ho5 x5)
  obtain ⟨W6, e6⟩ : ∃ W, W = (w5.setCell ⟨B, 0, none⟩ (.int .i64 nx)).setCell ⟨B, 1, none⟩ (.slice A5 op.length c5) := ⟨_, rfl⟩
  have HX6 : Hid (Ext W0 W6) := Lib.hid (by
    have hB : W0.heap.size ≤ B := by rw [HBB.out]; exact HX3.out.size
    rw [e6]
    exact (HX5.out.setCell (p := ⟨B, 0, none⟩) hB _).setCell (p := ⟨B, 1, none⟩) hB _)
  have HD6 : Hid (DoorB W6 B (withN d nx op A5 c5) now) := Lib.hid (by rw [e6]; exact (Blk.set_ HD5.out 0 _).set_ 1 _)
  have HO6 : Hid (W6.ownsRow W4.heap.size 274 2 (.slice A5 op.length c5) op.length (nonV op)) := Lib.hid (by
    have hB : B < W4.heap.size := Blk.lt HD4.out
    rw [e6]; exact own_far (own_far HO5.out hB 0 _) hB 1 _)
  have HY6 : Hid (Ext w3 W6) := Lib.hid (by
    have hB : w3.heap.size ≤ B := by rw [HBB.out]; exact Nat.le_refl _
    rw [e6]
    exact ((HY4.out.trans HT5.out).setCell (p := ⟨B, 0, none⟩) hB _).setCell (p := ⟨B, 1, none⟩) hB _)
  have HS6 : Hid (W4.heap.size ≤ W6.heap.size ∧ W0.heap.size ≤ B ∧ B < W4.heap.size) := Lib.hid ⟨(by
    rw [e6]
    exact Nat.le_trans HZ5.out (by simp)), (by rw [HBB.out]; exact HX3.out.size), Blk.lt HD4.out⟩
  try rw [← e6]
  clear e6 n0 n1 p0 p1 HD5 HO5
  have HUE := Lib.hid (use_parts HUF.out)
  by_cases hue : ue = 0
  case neg =>
    have HR := Lib.hid (doF_3 (sg := checkN) (f := d.fro) HE.out HOK.out HUE.out.1 hue)
    have k0 := ne_beq hue
    clear hue
    have b2 := ext_blk (HX6.out) HB2.out; obtain ⟨q0, q1, q2, q3, q4, q5, f0, f1, f2, f3, f4, f5⟩ := st6 b2; have BB := Lib.hid (blk6 b2 (.int .i64 0) (.slice none 0 0) (.slice none 0 0) (.slice none 0 0) (.slice none 0 0) (.int .i64 0)); clear b2
    go_wp2
    rw [HR.out]
    obtain ⟨r0, r1, r2, r3, r4, r5⟩ := arr6f BB.out
    refine bodyPost_ret (v := .tuple #[.agg #[.int .i64 0, .slice none 0 0, .slice none 0 0, .slice none 0 0, .slice none 0 0, .int .i64 0], .int .i64 0, .int .i64 (ue : Int)]) (by simp [results, Tryz.results38, go_sem, r0, r1, r2, r3, r4, r5]) rfl (outD_bad rfl (ext6 (HX0.out.trans (HX6.out)) (by omega) _ _ _ _ _ _))
  subst hue
  obtain ⟨hu0, hu1⟩ := HUE.out
  obtain ⟨rfl, rfl⟩ := hu1 rfl
  have HU0 := Lib.hid hu0
  clear hu0 hu1 HUE
  obtain ⟨k0, k1, k2, k3, k4, k5, k6, k7, k8⟩ := arr9 (ext_blk HX6.out HB1.out)
  go_upto_if 62 with (fail)
  go_cut [11] (fun s11 wx => ∃ k : Nat, s11 = .int .u64 (k : Int) ∧ keyF d.fro q = some k ∧ k < 18446744073709551616 ∧ (0 ≤ q.acc ∧ q.acc < 100) ∧ Ext W6 wx)
  case first =>
    by_cases hk : q.kind = 1
    · have e1 : (q.kind != 1) = false := by simp [hk]
      have HK := Lib.hid hk
      clear hk
      go_wp2
      go_meet
      have hf := HF.out
      unfold fitsP at hf
      rw [if_pos HK.out] at hf
      exact ⟨q.key, rfl, by unfold keyF; rw [if_pos HK.out], HQ.out.key, ⟨by omega, by omega⟩, Ext.refl _⟩
    · have e1 : (q.kind != 1) = true := by simp [hk]
      have cA : Calls Tryz.prog 96 #[.pointer (some ⟨B, 0, none⟩), .int .i64 q.acc] W6 fun e w' => e = .returned (.bool (decide (1 ≤ q.acc ∧ q.acc ≤ d.accs.length))) ∧ W6 = w' := hasAcc_any B (withN d d.next (useL d.opn q.nonce) A5 c5) now q.acc W6 HD6.out
      by_cases ha : 1 ≤ q.acc ∧ q.acc ≤ (d.accs.length : Int)
      case neg =>
        have hkn : keyF d.fro q = none := by
          unfold keyF
          rw [if_neg hk]
          by_cases h1 : q.acc < 1
          · rw [if_pos h1]
          · rw [if_neg h1, show d.fro.accs = d.accs from rfl, List.getElem?_eq_none (by omega)]; rfl
        have HR := Lib.hid (doF_4 (sg := checkN) (f := d.fro) HE.out HOK.out HU0.out hkn)
        rw [decide_eq_false ha] at cA
        clear ha hk hkn
        have b2 := ext_blk (HX6.out) HB2.out; obtain ⟨q0, q1, q2, q3, q4, q5, f0, f1, f2, f3, f4, f5⟩ := st6 b2; have BB := Lib.hid (blk6 b2 (.int .i64 0) (.slice none 0 0) (.slice none 0 0) (.slice none 0 0) (.slice none 0 0) (.int .i64 0)); clear b2
        go_wp2_with (go_at_call 96; refine cA.mono ?_; clear cA; rintro e w7 ⟨rfl, rfl⟩)
        rw [HR.out]
        obtain ⟨r0, r1, r2, r3, r4, r5⟩ := arr6f BB.out
        refine bodyPost_ret (v := .tuple #[.agg #[.int .i64 0, .slice none 0 0, .slice none 0 0, .slice none 0 0, .slice none 0 0, .int .i64 0], .int .i64 0, .int .i64 220]) (by simp [results, Tryz.results38, go_sem, r0, r1, r2, r3, r4, r5]) rfl (outD_bad rfl (ext6 (HX0.out.trans (HX6.out)) (by omega) _ _ _ _ _ _))
      rw [decide_eq_true ha] at cA
      obtain ⟨a, hqa⟩ : ∃ a : Nat, q.acc = (a : Int) + 1 := ⟨(q.acc - 1).toNat, by omega⟩
      obtain ⟨x, hx⟩ : ∃ x, d.accs[a]? = some x := ⟨_, List.getElem?_eq_getElem (by omega)⟩
      obtain ⟨ad, hA, hlt, r0, r1⟩ := reads_acc (HW.out.ext (HX0.out.trans HX6.out)).acc hx
      have a2 : W6.cell? ⟨B, 2, none⟩ = some (.slice d.cA d.accs.length d.cc) := HD6.out.cell 2
      rw [hA] at a2
      have hal : (a : Int) < (d.accs.length : Int) := by omega
      have hab : (a : Int) < 100 := by have := HA9.out; omega
      have e2 : IntKind.i64.wrap ((a : Int) + 1 - 1) = (a : Int) := by rw [IntKind.wrap_i64]; omega
      have hkk : Hid (keyF d.fro q = some x.key) := Lib.hid (by
        unfold keyF
        rw [if_neg hk, if_neg (by omega), show d.fro.accs = d.accs from rfl, show q.acc.toNat - 1 = a by omega, hx]; rfl)
      have hxk : Hid (x.key < 18446744073709551616) := Lib.hid (HW.out.cw x (List.mem_of_getElem? hx)).2
      rw [hqa] at k1 cA
      have HQA := Lib.hid hqa
      have HAB : Hid ((a : Int) + 1 < 100) := Lib.hid (by have := HA9.out; omega)
      clear hk ha hqa hx hA hlt r0
      go_upto_region 15 with (go_at_call 96; refine cA.mono ?_; clear cA; rintro e w7 ⟨rfl, rfl⟩)
      have j0 := fun i : Later W6 => i.cell k1
      have j1 := fun i : Later W6 => i.cell a2
      have j2 := fun i : Later W6 => i.cell r1
      clear k0 k1 k2 k3 k4 k5 k6 k7 k8 a2 r1
      refine wp_region_later (by kernel_rfl) (by kernel_rfl) ?_
      repeat (go_big_quiet_step ((fail)))
      refine wpQuiet_nil ?_
      rintro W7 ⟨i, hi⟩
      have x7 : Hid (Ext W6 W7) := Lib.hid (by rw [hi]; exact i.ext)
      clear hi i j0 j1 j2
      go_wp2
      go_meet
      exact ⟨x.key, rfl, hkk.out, hxk.out, by have := HQA.out; have := HAB.out; omega, x7.out⟩
  case rest =>
    obtain ⟨k, rfl, hkey, hk64, hacc, x7⟩ := hcut
    have HX7 := Lib.hid (HX6.out.trans x7)
    have HD7 := Lib.hid (DoorB.ext HD6.out x7)
    have HO7 := Lib.hid (own_ext HO6.out x7)
    have HY7 := Lib.hid x7
    have hbr : bytR q = byteL q := by unfold bytR; rw [HBE.out]; rfl
    rw [hbr] at HO3
    obtain ⟨bA, bc, rfl, hbc, -⟩ := own_slice2 HO3.out
    obtain ⟨E3, hE3⟩ : ∃ E, checkN k (byteL q) q.e q.s = E := ⟨_, rfl⟩
    have HO37 := own_ext HO3.out (HY6.out.trans HY7.out)
    have cS := Check_any k hk64 q.e q.s HQ.out.e HQ.out.s (byteL q) (byteL_lt q) (byteL_len HBE.out) bA bc hbc wc (Reads.of_own HO37)
    rw [hE3] at cS
    have HE3 := Lib.hid hE3
    have HKEY := Lib.hid hkey
    have HACC := Lib.hid hacc
    obtain ⟨k0, k1, k2, k3, k4, k5, k6, k7, k8⟩ := arr9 (ext_blk HX7.out HB1.out)
    clear hkey hk64 hacc x7 hbr hbc hE3 HO37
    by_cases h3 : E3 = 0
    case neg =>
      have HR := Lib.hid (doF_5 (sg := checkN) (f := d.fro) HE.out HOK.out HU0.out HKEY.out HE3.out h3)
      have kk := ne_beq h3
      clear h3
      go_wp2_with (go_at_call 44; refine cS.mono ?_; clear cS k0 k1 k2 k3 k4 k5 k6 k7 k8; rintro e w8 ⟨rfl, x8⟩; have b2 := ext_blk (HX7.out.trans x8) HB2.out; obtain ⟨q0, q1, q2, q3, q4, q5, f0, f1, f2, f3, f4, f5⟩ := st6 b2; have BB := Lib.hid (blk6 b2 (.int .i64 0) (.slice none 0 0) (.slice none 0 0) (.slice none 0 0) (.slice none 0 0) (.int .i64 0)); clear b2)
      rw [HR.out]
      obtain ⟨r0, r1, r2, r3, r4, r5⟩ := arr6f BB.out
      refine bodyPost_ret (v := .tuple #[.agg #[.int .i64 0, .slice none 0 0, .slice none 0 0, .slice none 0 0, .slice none 0 0, .int .i64 0], .int .i64 0, .int .i64 (E3 : Int)]) (by simp [results, Tryz.results38, go_sem, r0, r1, r2, r3, r4, r5]) rfl (outD_bad rfl (ext6 (HX0.out.trans (HX7.out.trans x8)) (by omega) _ _ _ _ _ _))
    subst h3
    have HR := Lib.hid (doF_6 (sg := checkN) (f := d.fro) HE.out HOK.out HU0.out HKEY.out HE3.out)
    go_upto_region 19 with (go_at_call 44; refine cS.mono ?_; clear cS k0 k1 k2 k3 k4 k5 k6 k7 k8; rintro e w8 ⟨rfl, x8⟩)
    obtain ⟨v1, v2, v3, v4, v5, r1, r2, r3, r4, r5, hlit, x9⟩ := kinds_laid w8
    have HX9 := Lib.hid (HX7.out.trans (x8.trans x9))
    have HY9 := Lib.hid (HY7.out.trans (x8.trans x9))
    have HD9 := Lib.hid (DoorB.ext HD7.out (x8.trans x9))
    have HO9b := Lib.hid (own_ext HO7.out (x8.trans x9))
    obtain ⟨F, hEF, hlk0, cM0⟩ := meth_any B (withN d d.next (useL d.opn q.nonce) A5 c5) now q A c ⟨HH.out.1, HH.out.2.1⟩
    have hlk := hlit.look Tryz.underlying185 Tryz.underlying3 q.kind _ hlk0
    clear x8 x9 hlit hlk0
    go_upto_region 20 with (fail)
    have HW9 : Hid (DoorW v5 v5.heap.size (withN d d.next (useL d.opn q.nonce) A5 c5)) := Lib.hid (withN_w (HW.out.ext (HX0.out.trans HX9.out)) (nons_own HO9b.out HFE.out))
    have HSZ : Hid (W0.heap.size ≤ B ∧ B < W4.heap.size ∧ W4.heap.size ≤ v5.heap.size ∧ W0.heap.size = w.heap.size + 3) := Lib.hid ⟨HS6.out.2.1, HS6.out.2.2, Nat.le_trans HS6.out.1 HY9.out.size, HS0.out⟩
    have HL9 : Hid (∀ S : Nat → Prop, DoorL S d → DoorL (fun k => S k ∨ W4.heap.size ≤ k) (withN d d.next (useL d.opn q.nonce) A5 c5)) := Lib.hid fun S hS =>
      ⟨Lies.own HO9b.out (fun k hk => .inr hk), hS.c.mono (fun b h => .inl h), hS.u.mono (fun b h => .inl h), hS.r.mono (fun b h => .inl h), fun x hx => (hS.n x hx).mono (fun b h => .inl h), fun x hx => (hS.a x hx).mono (fun b h => .inl h)⟩
    have HLL : Hid (DoorL (fun k => k < w.heap.size ∨ W4.heap.size ≤ k) (withN d d.next (useL d.opn q.nonce) A5 c5)) := Lib.hid (HL9.out _ HW.out.lies)
    have cM := cM0 v5 HW9.out (HLL.out.mono (fun k hk => by have := HSZ.out; rcases hk with hk | hk <;> omega)) HD9.out (HQ.out.ext (HX0.out.trans HX9.out)) (HQ.out.names.lies.mono (fun k hk => by have := HSZ.out; omega)) HACC.out (by have := HU9.out; have := HH.out.2.2.1; simp only [withN]; omega) HO9.out HA9.out (auths_in (d := d) HE.out)
    obtain ⟨r, hr⟩ : ∃ r, stepF { d.fro with opn := useL d.opn q.nonce } q now = r := ⟨_, rfl⟩
    rw [show (withN d d.next (useL d.opn q.nonce) A5 c5).fro = { d.fro with opn := useL d.opn q.nonce } from rfl, hr] at cM
    have hbd : r.2.2 ≠ 0 → r = bad r.2.2 := by
      have := step_bd { d.fro with opn := useL d.opn q.nonce } q now
      rw [hr] at this
      exact this
    rw [show d.fro.opn = d.opn from rfl, hr] at HR
    obtain ⟨f', n', e'⟩ := r
    unfold methPost queV at cM
    simp only at cM hbd
    unfold Enters at hEF
    obtain ⟨k0, k1, k2, k3, k4, k5, k6, k7, k8⟩ := arr9 (ext_blk HX9.out HB1.out)
    have hxb : Hid (some (w.heap.size + 2) ≠ some B) := Lib.hid (by have := HSZ.out; simp; omega)
    clear cM0 hr
    by_cases h4 : e' = 0
    case neg =>
      have kk := ne_beq h4
      have HBD := Lib.hid (hbd h4)
      clear h4 hbd
      go_wp2_with (go_at_fn F; refine cM.mono ?_; clear cM k0 k1 k2 k3 k4 k5 k6 k7 k8 hlk; rintro e w9 ⟨rfl, hg9, -⟩; have HG9 := Lib.hid hg9; have b2 := Blk.grown (ext_blk HX9.out HB2.out) hg9 hxb.out; obtain ⟨q0, q1, q2, q3, q4, q5, f0, f1, f2, f3, f4, f5⟩ := st6 b2; have BB := Lib.hid (blk6 b2 (.int .i64 0) (.slice none 0 0) (.slice none 0 0) (.slice none 0 0) (.slice none 0 0) (.int .i64 0)); clear b2 hg9)
      have X9 : Ext W0 w9 := Ext.of (HX9.out.out.grown HG9.out HX9.out.size (fun k hk => by cases hk; exact HSZ.out.1))
      rw [HR.out, HBD.out]
      obtain ⟨r0, r1, r2, r3, r4, r5⟩ := arr6f BB.out
      refine bodyPost_ret (v := .tuple #[.agg #[.int .i64 0, .slice none 0 0, .slice none 0 0, .slice none 0 0, .slice none 0 0, .int .i64 0], .int .i64 0, .int .i64 (e' : Int)]) (by simp [results, Tryz.results38, go_sem, r0, r1, r2, r3, r4, r5]) rfl (outD_bad rfl (ext6 (HX0.out.trans (X9)) (by omega) _ _ _ _ _ _))
    subst h4
    go_wp2_with (go_at_fn F; refine cM.mono ?_; clear cM k0 k1 k2 k3 k4 k5 k6 k7 k8 hlk; rintro e w9 ⟨rfl, hg9, h9⟩; obtain ⟨d', hfro, hdb, hdw, hdl⟩ := h9 rfl; have HG9 := Lib.hid hg9; have b2 := Blk.grown (ext_blk HX9.out HB2.out) hg9 hxb.out; obtain ⟨q0, q1, q2, q3, q4, q5, f0, f1, f2, f3, f4, f5⟩ := st6 b2; obtain ⟨a0, a1, a2, a3, a4, a5, a6⟩ := arr7 hdb; have BB := Lib.hid (blk6 b2 (.int .i64 d'.next) (.slice d'.oA d'.opn.length d'.oc) (.slice d'.cA d'.accs.length d'.cc) (.slice d'.uA d'.auts.length d'.uc) (.slice d'.rA d'.ords.length d'.rc) (.int .i64 d'.ser)); have HFR := Lib.hid hfro; have HDW := Lib.hid hdw; have HDL := Lib.hid hdl; clear b2 hg9 h9 hfro hdb hdw hdl)
    have X9 : Ext W0 w9 := Ext.of (HX9.out.out.grown HG9.out HX9.out.size (fun k hk => by cases hk; exact HSZ.out.1))
    rw [HR.out]
    obtain ⟨r0, r1, r2, r3, r4, r5⟩ := arr6f BB.out
    have hs9 := HSZ.out
    refine bodyPost_ret (v := .tuple #[.agg #[.int .i64 d'.next, .slice d'.oA d'.opn.length d'.oc, .slice d'.cA d'.accs.length d'.cc, .slice d'.uA d'.auts.length d'.uc, .slice d'.rA d'.ords.length d'.rc, .int .i64 d'.ser], .int .i64 n', .int .i64 0]) (by simp [results, Tryz.results38, go_sem, r0, r1, r2, r3, r4, r5]) rfl ⟨d', rfl, HFR.out, ?_, ?_, ext6 (HX0.out.trans X9) (by omega) _ _ _ _ _ _⟩
    · exact HDW.out.grownTo ((HDL.out _ HLL.out).mono (fun k hk => by rcases hk with (hk | hk) | hk <;> omega)) (grown6 w9 (w.heap.size + 2) _ _ _ _ _ _)
    · intro S hS
      exact (HDL.out _ (HL9.out S hS)).mono (fun k hk => by rcases hk with (hk | hk) | hk; exact .inl hk; exact .inr (by omega); exact .inr (by omega))
end Go.Proofs.YtfpmfegmehbfbaaGreatDoor

/- The door, walked: New, asked. -/
namespace Go.Proofs.YtfpmfegmehbfbaaGreatDoor
set_option linter.unusedVariables false
set_option linter.unusedSimpArgs false
set_option linter.unusedSimpArgs false
open Go.RowKit Go.Shelf Go.Maps

theorem oNew_any (w : World) : Calls Tryz.prog 37 #[] w fun e w' => e = .returned (frontV doorZ) ∧ Ext w w' := by
  obtain ⟨W0, e0⟩ : ∃ W, w.alloc (.cells #[.int .i64 0, .slice none 0 0, .slice none 0 0, .slice none 0 0, .slice none 0 0, .int .i64 0] 96) = W := ⟨_, rfl⟩
  have x0 : Ext w W0 := by rw [← e0]; exact (Ext.refl w).alloc _
  have b0 : Blk W0 w.heap.size 96 #[.int .i64 0, .slice none 0 0, .slice none 0 0, .slice none 0 0, .slice none 0 0, .int .i64 0] := by rw [← e0]; exact Blk.new _ _ _
  obtain ⟨q0, q1, q2, q3, q4, q5, f0, f1, f2, f3, f4, f5⟩ := st6 b0
  have BB := Lib.hid (blk6 b0 (.int .i64 0) (.slice none 0 0) (.slice none 0 0) (.slice none 0 0) (.slice none 0 0) (.int .i64 0))
  clear b0
  go_enter Tryz.func37, Tryz.ntmps37
  go_upto_region 1 with (fail)
  try rw [e0]
  clear e0
  go_wp2
  obtain ⟨r0, r1, r2, r3, r4, r5⟩ := arr6f BB.out
  refine bodyPost_ret (v := .agg #[.int .i64 0, .slice none 0 0, .slice none 0 0, .slice none 0 0, .slice none 0 0, .int .i64 0]) (by simp [results, Tryz.results37, go_sem, r0, r1, r2, r3, r4, r5]) rfl ⟨rfl, ext6 x0 (Nat.le_refl _) _ _ _ _ _ _⟩
section
variable {W w : World} {g : Nat} {T : TypeId} {x0 x1 x2 x3 x4 x5 x6 x7 : Value}
theorem st8 (k : Blk W g T #[x0, x1, x2, x3, x4, x5, x6, x7]) : (W.cell? ⟨g, 0, none⟩ = some x0 ∧ W.cell? ⟨g, 1, none⟩ = some x1 ∧ W.cell? ⟨g, 2, none⟩ = some x2 ∧ W.cell? ⟨g, 3, none⟩ = some x3 ∧ W.cell? ⟨g, 4, none⟩ = some x4 ∧ W.cell? ⟨g, 5, none⟩ = some x5 ∧ W.cell? ⟨g, 6, none⟩ = some x6 ∧ W.cell? ⟨g, 7, none⟩ = some x7) ∧
    W.frozen? ⟨g, 0, none⟩ = false ∧ W.frozen? ⟨g, 1, none⟩ = false ∧ W.frozen? ⟨g, 2, none⟩ = false ∧ W.frozen? ⟨g, 3, none⟩ = false ∧ W.frozen? ⟨g, 4, none⟩ = false ∧ W.frozen? ⟨g, 5, none⟩ = false ∧ W.frozen? ⟨g, 6, none⟩ = false ∧ W.frozen? ⟨g, 7, none⟩ = false :=
  ⟨⟨k.cell 0, k.cell 1, k.cell 2, k.cell 3, k.cell 4, k.cell 5, k.cell 6, k.cell 7⟩, k.frozen 0, k.frozen 1, k.frozen 2, k.frozen 3, k.frozen 4, k.frozen 5, k.frozen 6, k.frozen 7⟩
end
/-- An order of a number, that is to be issued; with where its parts lie. -/
def askX (d : DoorX) (id : Int) : Nat × Option OrdX :=
  if id < 1 then (131, none) else match d.ords[id.toNat - 1]? with
  | none => (131, none)
  | some x => if x.o.st ≠ 2 then (221, none) else (0, some x)
theorem askX_f (d : DoorX) (id : Int) : askF d.fro id = ((askX d id).1, (askX d id).2.map (·.o)) := by
  unfold askF askX
  split
  · rfl
  · rw [dfro_ords, List.getElem?_map]
    cases d.ords[id.toNat - 1]? with
    | none => rfl
    | some x =>
      simp only [Option.map_some]
      split <;> rfl
def ordZ : Value := .agg #[.int .i64 0, .int .i64 0, .slice none 0 0, .int .u64 0, .int .i64 0, .slice none 0 0, .int .i64 0, .int .i64 0]
def ordXV (x : OrdX) : Value := .agg #[.int .i64 x.o.id, .int .i64 x.o.acc, .slice x.nA x.o.names.length x.nc, .int .u64 (x.o.key : Int), .int .i64 x.o.life, .slice x.aA x.o.auths.length x.ac, .int .i64 x.o.st, .int .i64 x.o.ser]
def askV : Option OrdX → Value
  | none => ordZ
  | some x => ordXV x
end Go.Proofs.YtfpmfegmehbfbaaGreatDoor

/- The door, walked: asked. -/
namespace Go.Proofs.YtfpmfegmehbfbaaGreatDoor
set_option linter.unusedVariables false
set_option linter.unusedSimpArgs false
set_option linter.unusedSimpArgs false
open Go.RowKit Go.Shelf Go.Maps

def askedPost (d : DoorX) (id : Int) (w : World) (e : Ending) (w' : World) : Prop := e = .returned (.tuple #[askV (askX d id).2, .int .i64 (((askX d id).1 : Nat) : Int)]) ∧ Ext w w'
set_option maxRecDepth 100000 in
set_option maxHeartbeats 8000000 in
theorem asked_any (b : Nat) (d : DoorX) (now id : Int) (w : World) (hl : d.ords.length ≤ 1099511627776) (h : DoorB w b d now) (hr : Reads w w.heap.size 8 d.rA d.ords.length (ordV d.ords)) :
    Calls Tryz.prog 102 #[.pointer (some ⟨b, 0, none⟩), .int .i64 id] w (askedPost d id w) := by
  obtain ⟨W0, e0⟩ : ∃ W, w.alloc (.cells #[.int .i64 0, .int .i64 0, .slice none 0 0, .int .u64 0, .int .i64 0, .slice none 0 0, .int .i64 0, .int .i64 0] 109) = W := ⟨_, rfl⟩
  have x0 : Ext w W0 := by rw [← e0]; exact (Ext.refl w).alloc _
  have b0 : Blk W0 w.heap.size 109 #[.int .i64 0, .int .i64 0, .slice none 0 0, .int .u64 0, .int .i64 0, .slice none 0 0, .int .i64 0, .int .i64 0] := by rw [← e0]; exact Blk.new _ _ _
  obtain ⟨⟨q0, q1, q2, q3, q4, q5, q6, q7⟩, f0, f1, f2, f3, f4, f5, f6, f7⟩ := st8 b0
  have a4 : W0.cell? ⟨b, 4, none⟩ = some (.slice d.rA d.ords.length d.rc) := (DoorB.ext h x0).cell 4
  have HB := Lib.hid b0
  have HX := Lib.hid x0
  have HR := Lib.hid hr
  have hlb : (d.ords.length : Int) ≤ 1099511627776 := by omega
  clear b0 x0 h hr
  go_enter Tryz.func102, Tryz.ntmps102
  go_upto_region 1 with (fail)
  try rw [e0]
  clear e0
  have hbad : ∀ E : Nat, Hid (askX d id = (E, none)) → Hid (askedPost d id w (.returned (.tuple #[.agg #[.int .i64 0, .int .i64 0, .slice none 0 0, .int .u64 0, .int .i64 0, .slice none 0 0, .int .i64 0, .int .i64 0], .int .i64 (E : Int)]))
      ((((((((W0.setCell ⟨w.heap.size, 0, none⟩ (.int .i64 0)).setCell ⟨w.heap.size, 1, none⟩ (.int .i64 0)).setCell ⟨w.heap.size, 2, none⟩ (.slice none 0 0)).setCell ⟨w.heap.size, 3, none⟩ (.int .u64 0)).setCell ⟨w.heap.size, 4, none⟩ (.int .i64 0)).setCell ⟨w.heap.size, 5, none⟩ (.slice none 0 0)).setCell ⟨w.heap.size, 6, none⟩ (.int .i64 0)).setCell ⟨w.heap.size, 7, none⟩ (.int .i64 0))) :=
    fun E hE => Lib.hid ⟨by rw [hE.out]; rfl, set8_ext HX.out (Nat.le_refl _) _ _ _ _ _ _ _ _⟩
  have BB := Lib.hid (set8_blk HB.out (.int .i64 0) (.int .i64 0) (.slice none 0 0) (.int .u64 0) (.int .i64 0) (.slice none 0 0) (.int .i64 0) (.int .i64 0))
  by_cases g1 : id < 1
  · have d1 : decide (id < 1) = true := decide_eq_true g1
    have hp := hbad 131 (Lib.hid (by unfold askX; rw [if_pos g1]))
    clear g1 hbad
    go_wp2
    obtain ⟨⟨r0, r1, r2, r3, r4, r5, r6, r7⟩, -⟩ := st8 BB.out
    refine bodyPost_ret (v := .tuple #[.agg #[.int .i64 0, .int .i64 0, .slice none 0 0, .int .u64 0, .int .i64 0, .slice none 0 0, .int .i64 0, .int .i64 0], .int .i64 131]) (by simp [results, Tryz.results102, go_sem, r0, r1, r2, r3, r4, r5, r6, r7]) rfl hp.out
  have d1 : decide (id < 1) = false := decide_eq_false g1
  obtain ⟨a, rfl⟩ : ∃ a : Nat, id = (a : Int) + 1 := ⟨(id - 1).toNat, by omega⟩
  by_cases g2 : (d.ords.length : Int) < (a : Int) + 1
  · have d2 : decide ((d.ords.length : Int) < (a : Int) + 1) = true := decide_eq_true g2
    have hp := hbad 131 (Lib.hid (by unfold askX; rw [if_neg g1, show ((a : Int) + 1).toNat - 1 = a by omega, List.getElem?_eq_none (by omega)]))
    clear g1 g2 hbad
    go_wp2
    obtain ⟨⟨r0, r1, r2, r3, r4, r5, r6, r7⟩, -⟩ := st8 BB.out
    refine bodyPost_ret (v := .tuple #[.agg #[.int .i64 0, .int .i64 0, .slice none 0 0, .int .u64 0, .int .i64 0, .slice none 0 0, .int .i64 0, .int .i64 0], .int .i64 131]) (by simp [results, Tryz.results102, go_sem, r0, r1, r2, r3, r4, r5, r6, r7]) rfl hp.out
  have d2 : decide ((d.ords.length : Int) < (a : Int) + 1) = false := decide_eq_false g2
  obtain ⟨x, hx⟩ : ∃ u, d.ords[a]? = some u := ⟨_, List.getElem?_eq_getElem (by omega)⟩
  obtain ⟨ad, hA, hlt, r0, r1, r2, r3, r4, r5, r6, r7⟩ := reads_ord HR.out hx
  rw [hA] at a4
  have c0 := HX.out.cell r0
  have c1 := HX.out.cell r1
  have c2 := HX.out.cell r2
  have c3 := HX.out.cell r3
  have c4 := HX.out.cell r4
  have c5 := HX.out.cell r5
  have c6 := HX.out.cell r6
  have c7 := HX.out.cell r7
  have hal : (a : Int) < (d.ords.length : Int) := by omega
  have hab : (a : Int) ≤ 1099511627776 := by omega
  have e2 : IntKind.i64.wrap ((a : Int) + 1 - 1) = (a : Int) := by rw [IntKind.wrap_i64]; omega
  by_cases g3 : x.o.st = 2
  case neg =>
    have d3 : (x.o.st != 2) = true := by simp [g3]
    have hp := hbad 221 (Lib.hid (by unfold askX; rw [if_neg g1, show ((a : Int) + 1).toNat - 1 = a by omega, hx]; simp only; rw [if_pos g3]))
    clear g1 g2 g3 hbad hx r0 r1 r2 r3 r4 r5 r6 r7 hA hlt
    go_wp2
    obtain ⟨⟨r0, r1, r2, r3, r4, r5, r6, r7⟩, -⟩ := st8 BB.out
    refine bodyPost_ret (v := .tuple #[.agg #[.int .i64 0, .int .i64 0, .slice none 0 0, .int .u64 0, .int .i64 0, .slice none 0 0, .int .i64 0, .int .i64 0], .int .i64 221]) (by simp [results, Tryz.results102, go_sem, r0, r1, r2, r3, r4, r5, r6, r7]) rfl hp.out
  have d3 : (x.o.st != 2) = false := by simp [g3]
  have hp : Hid (askX d ((a : Int) + 1) = (0, some x)) := Lib.hid (by unfold askX; rw [if_neg g1, show ((a : Int) + 1).toNat - 1 = a by omega, hx]; simp only; rw [if_neg (by simpa using g3)])
  clear BB hbad g1 g2 g3 hx r0 r1 r2 r3 r4 r5 r6 r7 hA hlt
  have BB := Lib.hid (set8_blk HB.out (.int .i64 x.o.id) (.int .i64 x.o.acc) (.slice x.nA x.o.names.length x.nc) (.int .u64 (x.o.key : Int)) (.int .i64 x.o.life) (.slice x.aA x.o.auths.length x.ac) (.int .i64 x.o.st) (.int .i64 x.o.ser))
  go_wp2
  obtain ⟨⟨r0, r1, r2, r3, r4, r5, r6, r7⟩, -⟩ := st8 BB.out
  refine bodyPost_ret (v := .tuple #[ordXV x, .int .i64 0]) (by simp [results, Tryz.results102, go_sem, ordXV, r0, r1, r2, r3, r4, r5, r6, r7]) rfl ⟨by rw [hp.out]; rfl, set8_ext HX.out (Nat.le_refl _) _ _ _ _ _ _ _ _⟩
end Go.Proofs.YtfpmfegmehbfbaaGreatDoor
