/- Parts of the proofs, put together: what these laws need besides. -/
import Derived.Test.YtbhdmfijdhcehaaGreatDoorOAA
/- OrderAgain, walked: what holds is not asked for again. (Names that it needs: oSaw_any, outS, far6, far9, set9_blk, set9_ext, st9, st6, blk6, ext6, arr9, arr6f, grown6, grown9, dfro_auts, dfro_accs, dfro_ords, que_lit, wf_small, key_any, pk_lt, oNewV, ans_of, ansP, blk_new1, size_set, ne_beq, ret_bool, int_congr, start1) -/
namespace Go.Proofs.YtbhdmfijdhcehaaGreatDoor
set_option linter.unusedVariables false
set_option linter.unusedSimpArgs false
set_option linter.unusedSimpArgs false
open Go.RowKit Go.Shelf Go.Maps

/-- A door in a box, whose parts lie elsewhere. -/
structure AgI (w0 W : World) (b : Nat) (d : DoorX) (f : FroR) : Prop where
  ext : Ext w0 W
  fro : d.fro = f
  box : Blk W b 43 #[.int .i64 d.next, .slice d.oA d.opn.length d.oc, .slice d.cA d.accs.length d.cc, .slice d.uA d.auts.length d.uc, .slice d.rA d.ords.length d.rc, .int .i64 d.ser]
  door : DoorW W W.heap.size d
  lies : DoorL (fun k => k ≠ b) d
  hb : w0.heap.size ≤ b
theorem AgI.later {w0 W W' : World} {b : Nat} {d : DoorX} {f : FroR} (h : AgI w0 W b d f) (x : Ext W W') : AgI w0 W' b d f := ⟨h.ext.trans x, h.fro, ext_blk x h.box, h.door.ext x, h.lies, h.hb⟩
theorem AgI.auts {w0 W : World} {b : Nat} {d : DoorX} {f : FroR} (h : AgI w0 W b d f) : d.auts.length = f.auts.length := by rw [← h.fro, dfro_auts]
theorem AgI.accs {w0 W : World} {b : Nat} {d : DoorX} {f : FroR} (h : AgI w0 W b d f) : d.accs.length = f.accs.length := by rw [← h.fro, dfro_accs]
theorem AgI.ords {w0 W : World} {b : Nat} {d : DoorX} {f : FroR} (h : AgI w0 W b d f) : d.ords.length = f.ords.length := by rw [← h.fro, dfro_ords, List.length_map]
theorem AgI.put {w0 W W' : World} {b : Nat} {d dd : DoorX} {f f' : FroR} (h : AgI w0 W b d f) (x : Ext W W') (hd : DoorW W' W'.heap.size dd) (hl : DoorL (fun k => k ≠ b) dd) (hf : dd.fro = f') : AgI w0 (((((((W'.setCell ⟨b, 0, none⟩ (.int .i64 dd.next)).setCell ⟨b, 1, none⟩ (.slice dd.oA dd.opn.length dd.oc)).setCell ⟨b, 2, none⟩ (.slice dd.cA dd.accs.length dd.cc)).setCell ⟨b, 3, none⟩ (.slice dd.uA dd.auts.length dd.uc)).setCell ⟨b, 4, none⟩ (.slice dd.rA dd.ords.length dd.rc)).setCell ⟨b, 5, none⟩ (.int .i64 dd.ser))) b dd f' :=
  ⟨ext6 (h.ext.trans x) h.hb (.int .i64 dd.next) (.slice dd.oA dd.opn.length dd.oc) (.slice dd.cA dd.accs.length dd.cc) (.slice dd.uA dd.auts.length dd.uc) (.slice dd.rA dd.ords.length dd.rc) (.int .i64 dd.ser), hf, blk6 (ext_blk x h.box) (.int .i64 dd.next) (.slice dd.oA dd.opn.length dd.oc) (.slice dd.cA dd.accs.length dd.cc) (.slice dd.uA dd.auts.length dd.uc) (.slice dd.rA dd.ords.length dd.rc) (.int .i64 dd.ser), hd.grownTo hl (grown6 W' b (.int .i64 dd.next) (.slice dd.oA dd.opn.length dd.oc) (.slice dd.cA dd.accs.length dd.cc) (.slice dd.uA dd.auts.length dd.uc) (.slice dd.rA dd.ords.length dd.rc) (.int .i64 dd.ser)), hl, h.hb⟩
theorem lies_new {W : World} {b : Nat} {d dd : DoorX} (hb : b < W.heap.size) (h : DoorL (fun k => k ≠ b) d) (hl : ∀ S, DoorL S d → DoorL (orNew S W) dd) : DoorL (fun k => k ≠ b) dd := (hl _ h).mono (fun k hk => by rcases hk with hk | hk; exact hk; exact (by omega : k ≠ b))
theorem AgI.asks {w0 W : World} {b : Nat} {d : DoorX} {f f' : FroR} {q s : QueR} {A : Option Addr} {c seed : Nat} {now n : Int} {E : Nat} (h : AgI w0 W b d f) (hq : QueW W W.heap.size q A c) (hs : seed < 256) (hu : f.auts.length + 8 < 99) (ha : f.accs.length < 100) (ho : f.ords.length < 100) (e : asksF sigR f q seed now = (f', s, n, E)) :
    Calls Tryz.prog 40 #[frontV d, queV q A c, .int .u8 (seed : Int), .int .i64 now] W (ansP d A c f' s n E W) := by
  have k := asks_any d q A c seed hs now W h.door hq (by rw [h.auts]; exact hu) (by rw [h.accs]; exact ha) (by rw [h.ords]; exact ho)
  rw [h.fro, e] at k
  exact k
set_option maxRecDepth 100000 in
set_option maxHeartbeats 32000000 in
theorem walk_OrderAgain (A : Option Addr) (c : Nat) (names : List ByteArray) (wait : Int) (hc : names.length ≤ c) (hcr : c ≤ 140737488351232) (hsz : ∀ s ∈ names, s.size ≤ 140737488351232) (hwait : (Lit.int .u8 wait).wf = true) (w : World) (hr : Reads w w.heap.size 1 A names.length (tv names)) :
    Calls Tryz.prog 10 #[.slice A names.length c, .int .u8 wait] w fun e w' => e = .returned (.bool true) ∧ Ext w w' := by
  have c0 := fun W => live_any W
  by_cases h8 : names.length ≤ 8
  case neg =>
    have d1 : (8 : Int) < (names.length : Int) := by omega
    clear hr hsz hcr hc
    go_enter Tryz.func10, Tryz.ntmps10
    go_wp2_with (go_at_call 12; refine (c0 _).mono ?_; clear c0; rintro e w1 ⟨rfl, x1⟩)
    go_ret
    exact ⟨rfl, x1⟩
  have d1 : ¬ (8 : Int) < (names.length : Int) := by omega
  have c1 := fun W (x : Ext w W) => rNames_any names (by omega) (fun s hs => by have := hsz s hs; omega) A c W ((hr.below x.out).more x.size)
  by_cases hn : namesP names
  case neg =>
    rw [decide_eq_false hn] at c1
    clear hr hsz hcr hc hn
    go_enter Tryz.func10, Tryz.ntmps10
    go_wp2_with (first
      | (go_at_call 12; refine (c0 _).mono ?_; clear c0; rintro e w1 ⟨rfl, x1⟩)
      | (go_at_call 38; refine (c1 _ x1).mono ?_; clear c1; rintro e w2 ⟨rfl, x2⟩))
    go_ret
    exact ⟨rfl, x1.trans x2⟩
  rw [decide_eq_true hn] at c1
  obtain ⟨wt, rfl, hwt⟩ : ∃ n : Nat, wait = (n : Int) ∧ n < 256 := by
    obtain ⟨h1, h2⟩ := byte_of_wf hwait
    exact ⟨wait.toNat, h1, h2⟩
  have L := again_all (S := sigR) (names := names) sigR_ok hn (now := 4 + (wt : Int)) (by omega) (by omega)
  obtain ⟨k2, hk2⟩ : ∃ v, v = sigR.pk 2 := ⟨_, rfl⟩
  obtain ⟨k5, hk5⟩ : ∃ v, v = sigR.pk 5 := ⟨_, rfl⟩
  have HK2 : Hid (k2 < 18446744073709551616) := Lib.hid (by rw [hk2]; exact pk_lt 2)
  have HK5 : Hid (k5 < 18446744073709551616) := Lib.hid (by rw [hk5]; exact pk_lt 5)
  have q1 : aq1 sigR = ⟨1, 0, 0, k2, [], 0, 0, 0, 0⟩ := by rw [hk2]; rfl
  have q2 : aq2 sigR names = ⟨2, 1, 0, k5, names, 3, 0, 0, 0⟩ := by rw [hk5]; rfl
  have cK2 := fun W => key_any 2 (by decide) W
  have cK5 := fun W => key_any 5 (by decide) W
  rw [← hk2] at cK2
  rw [← hk5] at cK5
  have b1 := L.b1
  have b2 := L.b2
  have b5 := L.b5
  rw [q1] at b1
  rw [q2] at b2 b5
  obtain ⟨s1, hs1⟩ : ∃ s, s = sentQ sigR froZ ⟨1, 0, 0, k2, [], 0, 0, 0, 0⟩ 2 := ⟨_, rfl⟩
  obtain ⟨s2, hs2⟩ : ∃ s, s = sentQ sigR (ag1 sigR) ⟨2, 1, 0, k5, names, 3, 0, 0, 0⟩ 2 := ⟨_, rfl⟩
  obtain ⟨s5, hs5⟩ : ∃ s, s = sentQ sigR (agK sigR names names.length) ⟨2, 1, 0, k5, names, 3, 0, 0, 0⟩ 2 := ⟨_, rfl⟩
  rw [← hs1] at b1
  rw [← hs2] at b2
  rw [← hs5] at b5
  obtain ⟨f1, hf1⟩ : ∃ f, f = ag1 sigR := ⟨_, rfl⟩
  obtain ⟨fK, hfK⟩ : ∃ g, g = fun k => agK sigR names k := ⟨_, rfl⟩
  obtain ⟨fL, hfL⟩ : ∃ g, g = fun k => agL sigR names k := ⟨_, rfl⟩
  obtain ⟨fW, hfW⟩ : ∃ f, f = agW sigR names (4 + (wt : Int)) := ⟨_, rfl⟩
  have b3 : ∀ k < names.length, ∃ s, asksF sigR (fK k) ⟨3, 1, 0, 0, [], 0, (k : Int) + 1, 0, 0⟩ 2 3 = (fL k, s, (k : Int) + 1, 0) := fun k hk => by
    have := L.b3 k hk
    rw [show (aq3 k : QueR) = ⟨3, 1, 0, 0, [], 0, (k : Int) + 1, 0, 0⟩ from rfl] at this
    rw [hfK, hfL]
    exact ⟨_, this⟩
  have b4 : ∀ k < names.length, sawF (fL k) ((k : Int) + 1) true 4 = (fK (k + 1), 0) := fun k hk => by rw [hfK, hfL]; exact L.b4 k hk
  obtain ⟨R6, b6⟩ : ∃ R, asksF sigR fW ⟨4, 1, 0, 0, [], 0, 2, 0, 0⟩ 2 (4 + (wt : Int)) = R := ⟨_, rfl⟩
  obtain ⟨f6, s6, n6, E6⟩ := R6
  have hE6 : E6 = if 4 + (wt : Int) < 54 then 0 else 221 := by
    have := L.b6
    rw [← hfW, show (aq4 : QueR) = ⟨4, 1, 0, 0, [], 0, 2, 0, 0⟩ from rfl, b6] at this
    have this2 : E6 = _ := this
    rw [this2]
    by_cases hh : 4 + (wt : Int) < 54
    · rw [if_pos hh, if_pos (by omega)]
    · rw [if_neg hh, if_neg (by omega)]
  have g1 : f1.auts.length = 0 ∧ f1.accs.length = 1 ∧ f1.ords.length = 0 := by rw [hf1]; exact ⟨rfl, rfl, rfl⟩
  have gK : ∀ k, (fK k).auts.length = names.length ∧ (fK k).accs.length = 1 ∧ (fK k).ords.length = 1 := fun k => by rw [hfK]; exact ⟨agA_len k, rfl, rfl⟩
  have gL : ∀ k, (fL k).auts.length = names.length ∧ (fL k).accs.length = 1 := fun k => by
    rw [hfL]; exact ⟨by show (List.set _ _ _).length = _; rw [List.length_set]; exact agA_len k, rfl⟩
  have gW : fW.auts.length = (if 4 + (wt : Int) < 54 then names.length else 2 * names.length) ∧ fW.accs.length = 1 ∧ fW.ords.length = 2 := by
    rw [hfW]; exact ⟨L.b7, by unfold agW; split <;> rfl, by unfold agW; split <;> rfl⟩
  rw [show ag1 sigR = f1 from hf1.symm] at b1 b2
  rw [show agK sigR names 0 = fK 0 by rw [hfK]] at b2
  rw [show agK sigR names names.length = fK names.length by rw [hfK], ← hfW] at b5
  have HR := Lib.hid fun (W : World) (x : Ext w W) => (hr.below x.out).more x.size
  have HSZ := Lib.hid hsz
  have HC := Lib.hid hc
  have H8 := Lib.hid h8
  have HB := Lib.hid (And.intro b1 (And.intro b2 (And.intro b3 (And.intro b4 (And.intro b5 b6)))))
  have HG := Lib.hid (And.intro g1 (And.intro gK (And.intro gL gW)))
  have HE6 := Lib.hid hE6
  have HQW : Hid (∀ W, Ext w W → QueW W W.heap.size ⟨2, 1, 0, k5, names, 3, 0, 0, 0⟩ A c) := Lib.hid fun W x => ⟨(show wf64 2 from wf_small (by decide) (by decide)), (show wf64 1 from wf_small (by decide) (by decide)), (show wf64 0 from wf_small (by decide) (by decide)), HK5.out, (show wf64 3 from wf_small (by decide) (by decide)), (show wf64 0 from wf_small (by decide) (by decide)), (show 0 < 18446744073709551616 by decide), (show 0 < 18446744073709551616 by decide), HR.out W x, hc, (show names.length ≤ 1099511627776 by omega), fun s hs => by have := hsz s hs; omega⟩
  clear L hn hs1 hs2 hs5 hf1 hfK hfL hfW b1 b2 b3 b4 b5 b6 g1 gK gL gW hE6 q1 q2 hk2 hk5 hr hsz hcr hc h8 hwait
  have cA1 : ∀ W, Calls Tryz.prog 40 #[.agg #[.int .i64 0, .slice none 0 0, .slice none 0 0, .slice none 0 0, .slice none 0 0, .int .i64 0], .agg #[.int .i64 1, .int .i64 0, .int .i64 0, .int .u64 (k2 : Int), .slice none 0 0, .int .i64 0, .int .i64 0, .int .u64 0, .int .u64 0], .int .u8 2, .int .i64 1] W (ansP doorZ none 0 f1 s1 1 0 W) := fun W => by
    have h := asks_any doorZ ⟨1, 0, 0, k2, [], 0, 0, 0, 0⟩ none 0 2 (by decide) 1 W (doorZ_w _ _) (que_lit W _ 1 0 0 0 k2 (by decide) (by decide) (by decide) (by decide) HK2.out) (by decide) (by decide) (by decide)
    rw [show doorZ.fro = froZ from rfl, HB.out.1, show frontV doorZ = .agg #[.int .i64 0, .slice none 0 0, .slice none 0 0, .slice none 0 0, .slice none 0 0, .int .i64 0] from rfl, show queV ⟨1, 0, 0, k2, [], 0, 0, 0, 0⟩ none 0 = .agg #[.int .i64 1, .int .i64 0, .int .i64 0, .int .u64 (k2 : Int), .slice none 0 0, .int .i64 0, .int .i64 0, .int .u64 0, .int .u64 0] from rfl] at h
    exact h
  go_enter Tryz.func10, Tryz.ntmps10
  go_upto_region 6 with (first
    | (go_at_call 12; refine (c0 _).mono ?_; clear c0; rintro e w1 ⟨rfl, x1⟩)
    | (go_at_call 38; refine (c1 _ x1).mono ?_; clear c1; rintro e w2 ⟨rfl, x2⟩)
    | (go_at_call 39; refine (cK5 _).mono ?_; clear cK5; rintro e w3 ⟨rfl, x3⟩))
  obtain ⟨W5, e5⟩ : ∃ W, w3.alloc (.cells #[.int .i64 2, .int .i64 1, .int .i64 0, .int .u64 (k5 : Int), .slice A names.length c, .int .i64 3, .int .i64 0, .int .u64 0, .int .u64 0] 27) = W := ⟨_, rfl⟩
  try rw [e5]
  have HX5 : Hid (Ext w W5) := Lib.hid (by rw [← e5]; exact (x1.trans (x2.trans x3)).alloc _)
  have HBQ : Hid (Blk W5 w3.heap.size 27 #[.int .i64 2, .int .i64 1, .int .i64 0, .int .u64 (k5 : Int), .slice A names.length c, .int .i64 3, .int .i64 0, .int .u64 0, .int .u64 0]) := Lib.hid (by rw [← e5]; exact Blk.new _ _ _)
  clear e5 x1 x2 x3
  go_cut [6, 9] (fun t6 t9 wx => ∃ b d, t6 = .pointer (some ⟨b, 0, none⟩) ∧ t9 = .int .i64 0 ∧ AgI W5 wx b d f1)
  case first =>
    go_wp2_with (first
      | (go_at_call 34; refine (oNewV _).mono ?_; rintro e w4 ⟨rfl, x4⟩)
      | (go_at_call 39; refine (cK2 _).mono ?_; clear cK2; rintro e w5 ⟨rfl, x5⟩)
      | (go_at_call 40; refine (cA1 _).mono ?_; clear cA1; rintro e w6 ⟨d1, rfl, hf1, hw1, hl1, hq1, x6⟩))
    go_meet
    exact ⟨_, d1, rfl, rfl, ⟨(((x4.trans x5).trans x6).alloc _).alloc _, hf1, (Blk.new w6 _ _).alloc _, hw1.ext (((Ext.refl _).alloc _).alloc _), hw1.lies.mono (fun k hk => Nat.ne_of_lt hk), ((x4.trans x5).trans x6).size⟩⟩
  case rest =>
    obtain ⟨b, d1, rfl, rfl, h1⟩ := hcut
    obtain ⟨W7, hW7⟩ : ∃ W, W = wc := ⟨_, rfl⟩
    rw [← hW7] at h1 ⊢
    have H1 := Lib.hid h1
    have cA2 : Calls Tryz.prog 40 #[.agg #[.int .i64 d1.next, .slice d1.oA d1.opn.length d1.oc, .slice d1.cA d1.accs.length d1.cc, .slice d1.uA d1.auts.length d1.uc, .slice d1.rA d1.ords.length d1.rc, .int .i64 d1.ser], .agg #[.int .i64 2, .int .i64 1, .int .i64 0, .int .u64 (k5 : Int), .slice A names.length c, .int .i64 3, .int .i64 0, .int .u64 0, .int .u64 0], .int .u8 2, .int .i64 2] W7 (ansP d1 A c (fK 0) s2 1 0 W7) := by
      have k := h1.asks (seed := 2) (now := 2) (HQW.out W7 (HX5.out.trans h1.ext)) (by decide) (by have := HG.out.1.1; omega) (by have := HG.out.1.2.1; omega) (by have := HG.out.1.2.2; omega) HB.out.2.1
      rw [show frontV d1 = .agg #[.int .i64 d1.next, .slice d1.oA d1.opn.length d1.oc, .slice d1.cA d1.accs.length d1.cc, .slice d1.uA d1.auts.length d1.uc, .slice d1.rA d1.ords.length d1.rc, .int .i64 d1.ser] from rfl, show queV ⟨2, 1, 0, k5, names, 3, 0, 0, 0⟩ A c = .agg #[.int .i64 2, .int .i64 1, .int .i64 0, .int .u64 (k5 : Int), .slice A names.length c, .int .i64 3, .int .i64 0, .int .u64 0, .int .u64 0] from rfl] at k
      exact k
    obtain ⟨m0, m1, m2, m3, m4, m5⟩ := arr6f h1.box
    obtain ⟨y0, y1, y2, y3, y4, y5, y6, y7, y8⟩ := arr9 (ext_blk h1.ext HBQ.out)
    have hbl := h1.box.lt
    clear hW7 h1
    go_upto_region 7 with (fail)
    go_cut [12] (fun t12 wx => t12 = .int .i64 0 ∧ ∃ d, AgI W5 wx b d (fK 0))
    case first =>
      go_wp2_with (go_at_call 40; refine cA2.mono ?_; clear cA2 m0 m1 m2 m3 m4 m5 y0 y1 y2 y3 y4 y5 y6 y7 y8; rintro e w8 ⟨d2, rfl, hf2, hw2, hl2, hq2, x8⟩; have hb8 : b < w8.heap.size := Nat.lt_of_lt_of_le hbl x8.size; have hn8 : b ≠ w8.heap.size := Nat.ne_of_lt hb8; obtain ⟨z0, z1, z2, z3, z4, z5, f0, f1_, f2, f3, f4, f5⟩ := st6 (ext_blk x8 H1.out.box))
      go_meet
      exact ⟨rfl, d2, (H1.out.put x8 hw2 (lies_new hbl H1.out.lies hl2) hf2).later ((Ext.refl _).alloc _)⟩
    case rest =>
      obtain ⟨rfl, d2, h2⟩ := hcut
      obtain ⟨W8, hW8⟩ : ∃ W, W = wc := ⟨_, rfl⟩
      rw [← hW8] at h2 ⊢
      have H2 := Lib.hid h2
      have hlen : d2.auts.length = names.length := by rw [h2.auts]; exact (HG.out.2.1 0).1
      have e1 : ((d2.auts.length : Int) != (names.length : Int)) = false := by simp [hlen]
      have e2 : (d2.auts.length != names.length) = false := by simp [hlen]
      clear m0 m1 m2 m3 m4 m5 y0 y1 y2 y3 y4 y5 y6 y7 y8 hlen hbl
      obtain ⟨m0, m1, m2, m3, m4, m5⟩ := arr6f h2.box
      clear hW8 h2
      go_upto_region 10 with (fail)
      clear m0 m1 m2 m3 m4 m5 e1 e2
      go_wp2
      go_loopg [13] names.length (fun g t13 wr => ∃ (j : Nat) (d : DoorX), j + g = names.length ∧ t13 = .int .i64 ((j : Int) + 1) ∧ AgI W5 wr b d (fK j))
      case atStart => exact ⟨0, d2, by omega, int_congr (by omega), H2.out⟩
      case round =>
        obtain ⟨j, d, hj, rfl, hA⟩ := hrel
        have HA := Lib.hid hA
        have HJ := Lib.hid hj
        have hjb : (j : Int) ≤ 8 := by have := H8.out; omega
        obtain ⟨G, hG⟩ : ∃ G, G = gk - 1 := ⟨_, rfl⟩
        have HGG := Lib.hid hG
        obtain ⟨m0, m1, m2, m3, m4, m5⟩ := arr6f hA.box
        have hbl := hA.box.lt
        by_cases h : j < names.length
        · have hjl : (j : Int) + 1 ≤ (names.length : Int) := by omega
          obtain ⟨s3, b3⟩ := HB.out.2.2.1 j h
          have cA3 : Calls Tryz.prog 40 #[.agg #[.int .i64 d.next, .slice d.oA d.opn.length d.oc, .slice d.cA d.accs.length d.cc, .slice d.uA d.auts.length d.uc, .slice d.rA d.ords.length d.rc, .int .i64 d.ser], .agg #[.int .i64 3, .int .i64 1, .int .i64 0, .int .u64 0, .slice none 0 0, .int .i64 0, .int .i64 ((j : Int) + 1), .int .u64 0, .int .u64 0], .int .u8 2, .int .i64 3] wr (ansP d none 0 (fL j) s3 ((j : Int) + 1) 0 wr) := by
            have k := hA.asks (seed := 2) (now := 3) (que_lit wr wr.heap.size 3 1 ((j : Int) + 1) 0 0 (by decide) (by decide) (by omega) (by decide) (by decide)) (by decide) (by have := HG.out.2.1 j; have := H8.out; omega) (by have := HG.out.2.1 j; omega) (by have := HG.out.2.1 j; omega) b3
            rw [show frontV d = .agg #[.int .i64 d.next, .slice d.oA d.opn.length d.oc, .slice d.cA d.accs.length d.cc, .slice d.uA d.auts.length d.uc, .slice d.rA d.ords.length d.rc, .int .i64 d.ser] from rfl, show queV ⟨3, 1, 0, 0, [], 0, (j : Int) + 1, 0, 0⟩ none 0 = .agg #[.int .i64 3, .int .i64 1, .int .i64 0, .int .u64 0, .slice none 0 0, .int .i64 0, .int .i64 ((j : Int) + 1), .int .u64 0, .int .u64 0] from rfl] at k
            exact k
          have HB4 := Lib.hid (HB.out.2.2.2.1 j h)
          clear hj hA h hG b3
          go_upto_region 13 with (fail)
          go_cut [14, 17] (fun t14 t17 wx => ∃ b2 d3, t14 = .pointer (some ⟨b2, 0, none⟩) ∧ t17 = .int .i64 0 ∧ AgI W5 wx b d (fK j) ∧ Blk wx b2 43 #[.int .i64 d3.next, .slice d3.oA d3.opn.length d3.oc, .slice d3.cA d3.accs.length d3.cc, .slice d3.uA d3.auts.length d3.uc, .slice d3.rA d3.ords.length d3.rc, .int .i64 d3.ser] ∧ DoorW wx wx.heap.size d3 ∧ DoorL (fun k => k ≠ b) d3 ∧ d3.fro = fL j)
          case first =>
            go_wp2_with (go_at_call 40; refine cA3.mono ?_; clear cA3 m0 m1 m2 m3 m4 m5; rintro e w9 ⟨d3, rfl, hf3, hw3, hl3, hq3, x9⟩)
            go_meet
            exact ⟨_, d3, rfl, rfl, HA.out.later ((x9.alloc _).alloc _), (Blk.new w9 _ _).alloc _, hw3.ext (((Ext.refl _).alloc _).alloc _), lies_new hbl HA.out.lies hl3, hf3⟩
          case rest =>
            obtain ⟨b2, d3, rfl, rfl, hA3, hb3, hw3, hl3, hf3⟩ := hcut
            obtain ⟨W9, hW9⟩ : ∃ W, W = wc := ⟨_, rfl⟩
            rw [← hW9] at hA3 hb3 hw3 ⊢
            have HA3 := Lib.hid hA3
            have hu3 : d3.auts.length < 100 := by have := congrArg (fun f : FroR => f.auts.length) hf3; simp only [dfro_auts] at this; rw [this]; have := HG.out.2.2.1 j; have := H8.out; omega
            have ha3 : d3.accs.length < 100 := by have := congrArg (fun f : FroR => f.accs.length) hf3; simp only [dfro_accs] at this; rw [this]; have := HG.out.2.2.1 j; omega
            have cS : Calls Tryz.prog 26 #[.agg #[.int .i64 d3.next, .slice d3.oA d3.opn.length d3.oc, .slice d3.cA d3.accs.length d3.cc, .slice d3.uA d3.auts.length d3.uc, .slice d3.rA d3.ords.length d3.rc, .int .i64 d3.ser], .int .i64 ((j : Int) + 1), .bool true, .int .i64 4] W9 (outS d3 (fK (j + 1), 0) W9) := by
              have k := oSaw_any d3 ((j : Int) + 1) true 4 W9 hw3 hu3 ha3
              rw [hf3, HB4.out, show frontV d3 = .agg #[.int .i64 d3.next, .slice d3.oA d3.opn.length d3.oc, .slice d3.cA d3.accs.length d3.cc, .slice d3.uA d3.auts.length d3.uc, .slice d3.rA d3.ords.length d3.rc, .int .i64 d3.ser] from rfl] at k
              exact k
            unfold outS frontV at cS
            clear m0 m1 m2 m3 m4 m5
            obtain ⟨m0, m1, m2, m3, m4, m5⟩ := arr6f hb3
            have HL3 := Lib.hid hl3
            have hbl9 := hA3.box.lt
            clear hW9 hA3 hb3 hw3 hl3 hf3 hu3 ha3 hbl
            go_upto_region 14 with (fail)
            go_cut [18, 19] (fun t18 t19 wx => ∃ b4 d4, t18 = .pointer (some ⟨b4, 0, none⟩) ∧ t19 = .int .i64 0 ∧ AgI W5 wx b d (fK j) ∧ Blk wx b4 43 #[.int .i64 d4.next, .slice d4.oA d4.opn.length d4.oc, .slice d4.cA d4.accs.length d4.cc, .slice d4.uA d4.auts.length d4.uc, .slice d4.rA d4.ords.length d4.rc, .int .i64 d4.ser] ∧ DoorW wx wx.heap.size d4 ∧ DoorL (fun k => k ≠ b) d4 ∧ d4.fro = fK (j + 1))
            case first =>
              go_wp2_with (go_at_call 26; refine cS.mono ?_; clear cS m0 m1 m2 m3 m4 m5; rintro e w10 ⟨d4, rfl, hf4, hw4, hl4, x10⟩)
              go_meet
              exact ⟨_, d4, rfl, rfl, HA3.out.later (x10.alloc _), Blk.new w10 _ _, hw4.ext ((Ext.refl _).alloc _), lies_new hbl9 HL3.out hl4, hf4⟩
            case rest =>
              obtain ⟨b4, d4, rfl, rfl, hA4, hb4, hw4, hl4, hf4⟩ := hcut
              obtain ⟨W10, hW10⟩ : ∃ W, W = wc := ⟨_, rfl⟩
              rw [← hW10] at hA4 hb4 hw4 ⊢
              clear m0 m1 m2 m3 m4 m5
              obtain ⟨m0, m1, m2, m3, m4, m5⟩ := arr6f hb4
              obtain ⟨z0, z1, z2, z3, z4, z5, f0, f1_, f2, f3, f4, f5⟩ := st6 hA4.box
              have HP := Lib.hid (hA4.put (Ext.refl W10) hw4 hl4 hf4)
              clear hW10 hA4 hb4 hw4 hl4 hf4 hbl9
              go_wp2
              have hj := HJ.out
              have hG := HGG.out
              go_roundg G
              case measure => omega
              case rel => exact ⟨j + 1, d4, by omega, int_congr (by omega), HP.out⟩
        · obtain rfl : j = names.length := by omega
          have kw : IntKind.i64.wrap (wt : Int) = (wt : Int) := by rw [IntKind.wrap_i64]; omega
          have ks : IntKind.i64.wrap (4 + (wt : Int)) = 4 + (wt : Int) := by rw [IntKind.wrap_i64]; omega
          have cA5 : Calls Tryz.prog 40 #[.agg #[.int .i64 d.next, .slice d.oA d.opn.length d.oc, .slice d.cA d.accs.length d.cc, .slice d.uA d.auts.length d.uc, .slice d.rA d.ords.length d.rc, .int .i64 d.ser], .agg #[.int .i64 2, .int .i64 1, .int .i64 0, .int .u64 (k5 : Int), .slice A names.length c, .int .i64 3, .int .i64 0, .int .u64 0, .int .u64 0], .int .u8 2, .int .i64 (4 + (wt : Int))] wr (ansP d A c fW s5 2 0 wr) := by
            have k := hA.asks (seed := 2) (now := 4 + (wt : Int)) (HQW.out wr (HX5.out.trans hA.ext)) (by decide) (by have := HG.out.2.1 names.length; have := H8.out; omega) (by have := HG.out.2.1 names.length; omega) (by have := HG.out.2.1 names.length; omega) HB.out.2.2.2.2.1
            rw [show frontV d = .agg #[.int .i64 d.next, .slice d.oA d.opn.length d.oc, .slice d.cA d.accs.length d.cc, .slice d.uA d.auts.length d.uc, .slice d.rA d.ords.length d.rc, .int .i64 d.ser] from rfl, show queV ⟨2, 1, 0, k5, names, 3, 0, 0, 0⟩ A c = .agg #[.int .i64 2, .int .i64 1, .int .i64 0, .int .u64 (k5 : Int), .slice A names.length c, .int .i64 3, .int .i64 0, .int .u64 0, .int .u64 0] from rfl] at k
            exact k
          obtain ⟨y0, y1, y2, y3, y4, y5, y6, y7, y8⟩ := arr9 (ext_blk hA.ext HBQ.out)
          clear hj hA h hG
          go_upto_region 19 with (fail)
          go_cut [22, 23] (fun t22 t23 wx => t22 = .int .i64 2 ∧ t23 = .int .i64 0 ∧ ∃ d5, AgI W5 wx b d5 fW)
          case first =>
            go_wp2_with (go_at_call 40; refine cA5.mono ?_; clear cA5 m0 m1 m2 m3 m4 m5 y0 y1 y2 y3 y4 y5 y6 y7 y8; rintro e w8 ⟨d5, rfl, hf5, hw5, hl5, hq5, x8⟩; have hb8 : b < w8.heap.size := Nat.lt_of_lt_of_le hbl x8.size; have hn8 : b ≠ w8.heap.size := Nat.ne_of_lt hb8; obtain ⟨z0, z1, z2, z3, z4, z5, f0, f1_, f2, f3, f4, f5⟩ := st6 (ext_blk x8 HA.out.box))
            go_meet
            exact ⟨rfl, rfl, d5, (HA.out.put x8 hw5 (lies_new hbl HA.out.lies hl5) hf5).later ((Ext.refl _).alloc _)⟩
          case rest =>
            obtain ⟨rfl, rfl, d5, hA5⟩ := hcut
            obtain ⟨W12, hW12⟩ : ∃ W, W = wc := ⟨_, rfl⟩
            rw [← hW12] at hA5 ⊢
            have HA5 := Lib.hid hA5
            have cA6 : Calls Tryz.prog 40 #[.agg #[.int .i64 d5.next, .slice d5.oA d5.opn.length d5.oc, .slice d5.cA d5.accs.length d5.cc, .slice d5.uA d5.auts.length d5.uc, .slice d5.rA d5.ords.length d5.rc, .int .i64 d5.ser], .agg #[.int .i64 4, .int .i64 1, .int .i64 0, .int .u64 0, .slice none 0 0, .int .i64 0, .int .i64 2, .int .u64 0, .int .u64 0], .int .u8 2, .int .i64 (4 + (wt : Int))] W12 (ansP d5 none 0 f6 s6 n6 E6 W12) := by
              have k := hA5.asks (seed := 2) (now := 4 + (wt : Int)) (que_lit W12 W12.heap.size 4 1 2 0 0 (by decide) (by decide) (by decide) (by decide) (by decide)) (by decide) (by have h8 := H8.out; have := HG.out.2.2.2.1; split at this <;> omega) (by have := HG.out.2.2.2.2.1; omega) (by have := HG.out.2.2.2.2.2; omega) HB.out.2.2.2.2.2
              rw [show frontV d5 = .agg #[.int .i64 d5.next, .slice d5.oA d5.opn.length d5.oc, .slice d5.cA d5.accs.length d5.cc, .slice d5.uA d5.auts.length d5.uc, .slice d5.rA d5.ords.length d5.rc, .int .i64 d5.ser] from rfl, show queV ⟨4, 1, 0, 0, [], 0, 2, 0, 0⟩ none 0 = .agg #[.int .i64 4, .int .i64 1, .int .i64 0, .int .u64 0, .slice none 0 0, .int .i64 0, .int .i64 2, .int .u64 0, .int .u64 0] from rfl] at k
              exact k
            clear m0 m1 m2 m3 m4 m5 y0 y1 y2 y3 y4 y5 y6 y7 y8
            obtain ⟨m0, m1, m2, m3, m4, m5⟩ := arr6f hA5.box
            clear hW12 hA5 hbl kw ks
            go_upto_region 22 with (fail)
            go_cut [27] (fun t27 wx => t27 = .int .i64 (E6 : Int) ∧ AgI W5 wx b d5 fW)
            case first =>
              go_wp2_with (go_at_call 40; refine cA6.mono ?_; clear cA6 m0 m1 m2 m3 m4 m5; rintro e w13 ⟨d6, rfl, hf6, hw6, hl6, hq6, x13⟩)
              go_meet
              exact ⟨rfl, HA5.out.later ((x13.alloc _).alloc _)⟩
            case rest =>
              obtain ⟨rfl, hA6⟩ := hcut
              obtain ⟨W13, hW13⟩ : ∃ W, W = wc := ⟨_, rfl⟩
              rw [← hW13] at hA6 ⊢
              clear m0 m1 m2 m3 m4 m5
              obtain ⟨m0, m1, m2, m3, m4, m5⟩ := arr6f hA6.box
              have HXE := Lib.hid (HX5.out.trans hA6.ext)
              have hl := hA6.auts
              rw [HG.out.2.2.2.1] at hl
              have hE := HE6.out
              have hnb : (names.length : Int) ≤ 8 := by have := H8.out; omega
              clear hW13 hA6
              by_cases hw : wt < 50
              · have d50 : (wt : Int) < 50 := by omega
                rw [if_pos (by omega)] at hl hE
                have e1 : ((d5.auts.length : Int) == (names.length : Int)) = true := by simp [hl]
                have e2 : (d5.auts.length == names.length) = true := by simp [hl]
                rw [hE]
                clear hl hw hE
                go_wp2
                go_ret
                exact ⟨rfl, HXE.out⟩
              · have d50 : ¬ (wt : Int) < 50 := by omega
                rw [if_neg (by omega)] at hl hE
                have e0 : IntKind.i64.wrap (2 * (names.length : Int)) = 2 * (names.length : Int) := by rw [IntKind.wrap_i64]; omega
                have e1 : ((d5.auts.length : Int) == 2 * (names.length : Int)) = true := by simp [hl]
                rw [hE]
                clear hl hw hE
                go_wp2
                go_ret
                exact ⟨rfl, HXE.out⟩
end Go.Proofs.YtbhdmfijdhcehaaGreatDoor
