/- Parts of the proofs, put together: Td3, Td5. -/
import Derived.Test.YtfpmfegmehbfbaaGreatDoorD42
/- TopDoor, walked: to its first answer. -/
namespace Go.Proofs.YtfpmfegmehbfbaaGreatDoor
set_option linter.unusedVariables false
set_option linter.unusedSimpArgs false
set_option linter.unusedSimpArgs false
open Go.RowKit Go.Shelf Go.Maps

set_option maxRecDepth 100000 in
set_option maxHeartbeats 32000000 in
theorem td_pre (A0 : Option Addr) (c0 : Nat) (y0 : List Nat) (A1 : Option Addr) (c1 : Nat) (y1 : List ByteArray) (n2 : Nat) (a3 a4 : Int) (u0 : y0.length ≤ c0) (b0 : c0 ≤ 140737488351232) (t0 : ∀ x ∈ y0, x < 256) (u1 : y1.length ≤ c1) (b1 : c1 ≤ 140737488351232) (t1 : ∀ s ∈ y1, s.size ≤ 140737488351232) (b2 : n2 < 18446744073709551616) (w3 : (Lit.int .i64 a3).wf = true) (w4 : (Lit.int .i64 a4).wf = true) (W : World) (r0 : Reads W W.heap.size 1 A0 y0.length (bv y0)) (r1 : Reads W W.heap.size 1 A1 y1.length (tv y1)) (hk : KindsW W) (h200 : y0.length ≤ 200) (hf : szN y1 ≤ 1000 ∧ y1.length ≤ 20) (hn0 : 0 ≤ a4) (hn1 : a4 ≤ 1000000) :
    Calls Tryz.prog 6 #[.slice A0 y0.length c0, .slice A1 y1.length c1, .int .u64 (n2 : Int), .int .i64 a3, .int .i64 a4] W fun e w' => e = .returned (.bool true) ∧ Ext W w' := by
  have cU := up_any W hk
  have cF := fun W' (x : Ext W W') => fewWish_any y1 A1 c1 t1 u1 b1 W' ((r1.below x.out).more x.size)
  have d1 : ¬ (200 : Int) < (y0.length : Int) := by omega
  rw [decide_eq_true hf] at cF
  have d2 : ¬ a4 < 0 := by omega
  have d3 : ¬ (1000000 : Int) < a4 := by omega
  have L1 := top_one (S := topR y0) (names := y1) (key := n2) (life := a3) (topR_ok y0) hn0 hn1
  have L2 := fun hm => top_two (S := topR y0) (names := y1) (key := n2) (life := a3) (topR_ok y0) hn0 hn1 hm
  obtain ⟨sec, hsec⟩ : ∃ v, v = secN y0 := ⟨_, rfl⟩
  obtain ⟨pub, hpub⟩ : ∃ v, v = powM bQ 4 sec := ⟨_, rfl⟩
  have HSEC := Lib.hid hsec
  have cSec := fun W' (x : Ext W W') => Secret_any y0 t0 (by omega) A0 c0 u0 W' ((r0.below x.out).more x.size)
  have cPub := fun W' => Public_any sec (by rw [hsec]; exact sec_lt y0) W'
  rw [← hsec] at cSec
  rw [if_neg (by rw [hsec, sec_odd]; decide), ← hpub] at cPub
  have hpk : (topR y0).pk 0 = pub := by rw [topR_pk, hpub, hsec]
  have hplt : pub < 18446744073709551616 := by rw [hpub]; exact pw64 _ _
  have b1_ := askT_ok L1.b1
  rw [show tq1 (topR y0) = ⟨1, 0, 0, pub, [], 0, 0, 0, 0⟩ by unfold tq1; rw [hpk]] at b1_
  obtain ⟨s1, hs1⟩ : ∃ s, s = sentQ (topR y0) froZ (tq1 (topR y0)) 0 := ⟨_, rfl⟩
  have r1_ := L1.r1
  rw [show (topR y0).sg = checkN from topR_sgf y0] at r1_
  obtain ⟨f1, hf1⟩ : ∃ f, f = td1 (topR y0) := ⟨_, rfl⟩
  rw [show sentQ (topR y0) froZ ⟨1, 0, 0, pub, [], 0, 0, 0, 0⟩ 0 = s1 by rw [hs1]; unfold tq1; rw [hpk]] at b1_
  rw [← hf1] at b1_
  rw [← hs1, ← hf1] at r1_
  have g1 : f1.auts = [] ∧ f1.accs = [⟨1, pub⟩] ∧ f1.ords = [] := by rw [hf1]; unfold td1; rw [hpk]; exact ⟨rfl, rfl, rfl⟩
  have HF1 := Lib.hid hf1
  have HB1 := Lib.hid b1_
  have HR1 := Lib.hid r1_
  have HG1 := Lib.hid g1
  have HL2 := Lib.hid L2
  have HNO := Lib.hid L1.no
  have HFEW := Lib.hid hf
  have HPLT := Lib.hid hplt
  have HR := Lib.hid fun (W' : World) (x : Ext W W') => (r1.below x.out).more x.size
  have HNOW : Hid (0 ≤ a4 ∧ a4 ≤ 1000000) := Lib.hid ⟨hn0, hn1⟩
  have HU1 := Lib.hid u1
  have HQW : Hid (∀ W', Ext W W' → QueW W' W'.heap.size ⟨2, 1, 0, n2, y1, a3, 0, 0, 0⟩ A1 c1) := Lib.hid fun W' x => ⟨(show wf64 2 from wf_small (by decide) (by decide)), (show wf64 1 from wf_small (by decide) (by decide)), (show wf64 0 from wf_small (by decide) (by decide)), b2, (show wf64 a3 from w3), (show wf64 0 from wf_small (by decide) (by decide)), (show 0 < 18446744073709551616 by decide), (show 0 < 18446744073709551616 by decide), HR.out W' x, u1, (show y1.length ≤ 1099511627776 by omega), fun s hs => by have := szN_mem (l := y1) hs; omega⟩
  clear L1 L2 hsec hpub hpk hplt b1_ r1_ g1 hs1 hf1 r0 r1 hk t0 t1 u0 b0 u1 b1 b2 w3 w4 h200 hf hn0 hn1
  have cA1 : ∀ W, Calls Tryz.prog 36 #[.agg #[.int .i64 0, .slice none 0 0, .slice none 0 0, .slice none 0 0, .slice none 0 0, .int .i64 0], .int .u64 (sec : Int), .agg #[.int .i64 1, .int .i64 0, .int .i64 0, .int .u64 (pub : Int), .slice none 0 0, .int .i64 0, .int .i64 0, .int .u64 0, .int .u64 0], .int .i64 a4] W (ansP doorZ none 0 f1 s1 1 0 W) := fun W => by
    have h := asked_any_top doorZ ⟨1, 0, 0, pub, [], 0, 0, 0, 0⟩ none 0 y0 sec HSEC.out a4 W (doorZ_w _ _) (que_lit W _ 1 0 0 0 pub (by decide) (by decide) (by decide) (by decide) HPLT.out) (by decide) (by decide) (by decide)
    rw [show doorZ.fro = froZ from rfl, HB1.out, show frontV doorZ = .agg #[.int .i64 0, .slice none 0 0, .slice none 0 0, .slice none 0 0, .slice none 0 0, .int .i64 0] from rfl, show queV ⟨1, 0, 0, pub, [], 0, 0, 0, 0⟩ none 0 = .agg #[.int .i64 1, .int .i64 0, .int .i64 0, .int .u64 (pub : Int), .slice none 0 0, .int .i64 0, .int .i64 0, .int .u64 0, .int .u64 0] from rfl] at h
    exact h
  go_enter Tryz.func6, Tryz.ntmps6
  go_upto_region 7 with (first
    | (go_at_call 7; refine cU.mono ?_; clear cU; rintro e x1_ ⟨rfl, x1⟩)
    | (go_at_call 33; refine (cF _ x1).mono ?_; clear cF; rintro e x2_ ⟨rfl, x2⟩)
    | (go_at_call 34; refine (cSec _ (x1.trans x2)).mono ?_; clear cSec; rintro e x3_ ⟨rfl, x3⟩)
    | (go_at_call 35; refine (cPub _).mono ?_; clear cPub; rintro e x4_ ⟨rfl, x4⟩))
  have HX4 : Hid (Ext W x4_) := Lib.hid (x1.trans (x2.trans (x3.trans x4)))
  clear x1 x2 x3 x4
  go_cut [14, 15, 16, 17] (fun t14 t15 t16 t17 wx => ∃ b bq d, t14 = .pointer (some ⟨b, 0, none⟩) ∧ t15 = .pointer (some ⟨bq, 0, none⟩) ∧ t16 = .int .i64 1 ∧ t17 = .int .i64 0 ∧ TdI x4_ wx b d f1 ∧ Blk wx bq 98 #[.int .i64 s1.kind, .int .i64 s1.acc, .int .i64 s1.nonce, .int .u64 (s1.key : Int), .slice none s1.names.length 0, .int .i64 s1.life, .int .i64 s1.id, .int .u64 (s1.e : Int), .int .u64 (s1.s : Int)] ∧ QueW wx wx.heap.size s1 none 0)
  case first =>
    go_wp2_with (first
      | (go_at_call 37; refine (oNewV _).mono ?_; rintro e x5_ ⟨rfl, x5⟩)
      | (go_at_call 36; refine (cA1 _).mono ?_; clear cA1; rintro e x6_ ⟨d1, rfl, hf1, hw1, hl1, hq1, x6⟩))
    go_meet
    exact ⟨_, _, d1, rfl, rfl, rfl, rfl, ⟨((x5.trans x6).alloc _).alloc _, hf1, (Blk.new x6_ _ _).alloc _, hw1.ext (((Ext.refl _).alloc _).alloc _), hw1.lies.mono (fun k hk => Nat.ne_of_lt hk), (x5.trans x6).size⟩, blk_new1 _ _ _ _, hq1.ext (((Ext.refl _).alloc _).alloc _)⟩
  case rest =>
    rename_i hK7
    obtain ⟨b, bq, d1, rfl, rfl, rfl, rfl, hA, hQ, hqw⟩ := hcut
    obtain ⟨W7, hW7⟩ : ∃ W, W = wc := ⟨_, rfl⟩
    rw [← hW7] at hA hQ hqw ⊢
    have HA := Lib.hid hA
    have HQ := Lib.hid hQ
    have hu1 := (fro_auts hA.fro).trans (by rw [HG1.out.1])
    have ha1 := (fro_accs hA.fro).trans (by rw [HG1.out.2.1])
    have ho1 := (fro_ords hA.fro).trans (by rw [HG1.out.2.2])
    simp only [List.length_nil, List.length_cons] at hu1 ha1 ho1
    have cD := oDo_any d1 s1 none 0 a4 W7 hA.door hqw (by omega) (by omega) (by omega)
    rw [hA.fro, HR1.out] at cD
    unfold outD frontV queV at cD
    obtain ⟨m0, m1, m2, m3, m4, m5⟩ := arr6f hA.box
    obtain ⟨ad, hcA, hlen, hkey⟩ := td_acc hA.door hA.fro HG1.out.2.1
    rw [hcA, hlen] at m2
    clear hA hQ hqw hu1 ha1 ho1 hcA hlen hW7 cA1
    refine hK7 _ _ ?_
    refine wp_seq_k ?_
    intro K0 hK0
    go_cut [] (fun wx => wx = W7)
    case first =>
      go_wp2
      go_meet
      rfl
    case rest =>
      subst hcut
      clear m0 m1 m2 m3 m4 m5 hkey
      refine hK0 _ _ ?_
      refine wp_seq_k ?_
      intro K1 hK1
      go_cut [] (fun wx => TdI x4_ wx b d1 f1)
      case first =>
        obtain ⟨m0, m1, m2, m3, m4, m5⟩ := arr6f HA.out.box
        obtain ⟨y0_, y1_, y2_, y3_, y4_, y5_, y6_, y7_, y8_⟩ := arr9 HQ.out
        go_upto_region 10 with (fail)
        go_cut [20] (fun t20 wx => t20 = .int .i64 210 ∧ TdI x4_ wx b d1 f1)
        case first =>
          go_wp2_with (go_at_call 38; refine cD.mono ?_; clear cD m0 m1 m2 m3 m4 m5 y0_ y1_ y2_ y3_ y4_ y5_ y6_ y7_ y8_; rintro e x7_ ⟨dd, rfl, -, -, -, x7⟩)
          go_meet
          exact ⟨rfl, HA.out.later (x7.alloc _)⟩
        case rest =>
          obtain ⟨rfl, hA⟩ := hcut
          have HA3 := Lib.hid hA
          clear hA m0 m1 m2 m3 m4 m5 y0_ y1_ y2_ y3_ y4_ y5_ y6_ y7_ y8_ cD
          go_wp2
          go_meet
          exact HA3.out
      case rest =>
        refine hK1 _ _ ?_
        by_cases hm : tMay y1 n2 a3
        · exact td_midy HSEC HX4 (Lib.hid hcut) HF1 HG1 (Lib.hid (HL2.out hm)) HFEW HQW
        · exact td_midn HSEC HX4 (Lib.hid hcut) HF1 HG1 (Lib.hid (HNO.out hm)) HQW
end Go.Proofs.YtfpmfegmehbfbaaGreatDoor

/- TopDoor, walked: joined. -/
namespace Go.Proofs.YtfpmfegmehbfbaaGreatDoor
open Go.RowKit Go.Shelf

theorem walk_TopDoor (A0 : Option Addr) (c0 : Nat) (y0 : List Nat) (A1 : Option Addr) (c1 : Nat) (y1 : List ByteArray) (n2 : Nat) (a3 a4 : Int) (u0 : y0.length ≤ c0) (b0 : c0 ≤ 140737488351232) (t0 : ∀ x ∈ y0, x < 256) (u1 : y1.length ≤ c1) (b1 : c1 ≤ 140737488351232) (t1 : ∀ s ∈ y1, s.size ≤ 140737488351232) (b2 : n2 < 18446744073709551616) (w3 : (Lit.int .i64 a3).wf = true) (w4 : (Lit.int .i64 a4).wf = true) (W : World) (r0 : Reads W W.heap.size 1 A0 y0.length (bv y0)) (r1 : Reads W W.heap.size 1 A1 y1.length (tv y1)) (hk : KindsW W) :
    Calls Tryz.prog 6 #[.slice A0 y0.length c0, .slice A1 y1.length c1, .int .u64 (n2 : Int), .int .i64 a3, .int .i64 a4] W fun e w' => e = .returned (.bool true) ∧ Ext W w' := by
  by_cases h : y0.length ≤ 200 ∧ (szN y1 ≤ 1000 ∧ y1.length ≤ 20) ∧ 0 ≤ a4 ∧ a4 ≤ 1000000
  · obtain ⟨h1, h2, h3, h4⟩ := h
    exact td_pre A0 c0 y0 A1 c1 y1 n2 a3 a4 u0 b0 t0 u1 b1 t1 b2 w3 w4 W r0 r1 hk h1 h2 h3 h4
  · exact td_out A0 c0 y0 A1 c1 y1 n2 a3 a4 u0 b0 t0 u1 b1 t1 b2 w3 w4 W r0 r1 hk h
end Go.Proofs.YtfpmfegmehbfbaaGreatDoor
