/- Parts of the proofs, put together: Tg3. -/
import Derived.Test.YtfpmfegmehbfbaaGreatDoorW35
import Derived.Test.YtfpmfegmehbfbaaGreatDoorW37
import Derived.Test.YtfpmfegmehbfbaaGreatDoorW40
/- TopGrow, walked. -/
namespace Go.Proofs.YtfpmfegmehbfbaaGreatDoor
set_option linter.unusedVariables false
set_option linter.unusedSimpArgs false
set_option linter.unusedSimpArgs false
open Go.RowKit Go.Shelf Go.Maps

theorem growG_whole (l : List (Nat × Nat)) : growG prS zS true l l.length = [] := by
  rw [growG, if_neg (by omega)]; rfl
set_option maxRecDepth 100000 in
set_option maxHeartbeats 4000000 in
theorem tg_bad (y0 : List Nat) (A0 : Option Addr) (c0 : Nat) (y1 : List (List Nat)) (A1 : Option Addr) (c1 : Nat) (a2 a3 : Int) (W : World) (hk : KindsW W)
    (cF : ∀ W', Ext W W' → Calls Tryz.prog 8 #[.slice A0 y0.length c0, .slice A1 y1.length c1] W' fun e w' => e = .returned (.tuple #[.agg #[.int .i64 0, .int .u64 0, .int .i64 0, .slice none 0 0, .slice none 0 0, .slice none 0 0], .slice none 0 0, .bool false]) ∧ Ext W' w') :
    Calls Tryz.prog 3 #[.slice A0 y0.length c0, .slice A1 y1.length c1, .int .i64 a2, .int .i64 a3] W fun e w' => e = .returned (.bool true) ∧ Ext W w' := by
  have cU := up_any W hk
  clear hk
  go_enter Tryz.func3, Tryz.ntmps3
  go_wp2_with (first | (go_at_call 7; refine cU.mono ?_; clear cU; rintro e x1_ ⟨rfl, x1⟩) | (go_at_call 8; refine (cF _ x1).mono ?_; clear cF; rintro e x2_ ⟨rfl, x2⟩))
  go_ret
  exact ⟨rfl, (x1.trans x2).alloc _⟩
set_option maxRecDepth 100000 in
set_option maxHeartbeats 8000000 in
theorem tg_good (y0 : List Nat) (A0 : Option Addr) (c0 : Nat) (y1 : List (List Nat)) (A1 : Option Addr) (c1 : Nat) (a2 a3 : Int) (w2 : (Lit.int .i64 a2).wf = true) (w3 : (Lit.int .i64 a3).wf = true) (W : World) (hk : KindsW W) (hT : TabW W)
    (cF : ∀ W', Ext W W' → Calls Tryz.prog 8 #[.slice A0 y0.length c0, .slice A1 y1.length c1] W' fun e w' => ∃ (d : LogX) (A' : Option Addr) (c' n' : Nat), e = .returned (.tuple #[logV d, .slice A' n' c', .bool true]) ∧ LogW w' w'.heap.size d ∧ d.ws = [] ∧ Ext W' w') :
    Calls Tryz.prog 3 #[.slice A0 y0.length c0, .slice A1 y1.length c1, .int .i64 a2, .int .i64 a3] W fun e w' => e = .returned (.bool true) ∧ Ext W w' := by
  have cU := up_any W hk
  have HT := Lib.hid hT
  have W2 := Lib.hid w2
  have W3 := Lib.hid w3
  clear hk hT w2 w3
  unfold logV at cF
  go_enter Tryz.func3, Tryz.ntmps3
  go_upto_region 4 with (first | (go_at_call 7; refine cU.mono ?_; clear cU; rintro e x1_ ⟨rfl, x1⟩) | (go_at_call 8; refine (cF _ x1).mono ?_; clear cF; rintro e x2_ ⟨d, A', c', n', rfl, hL, hws, x2⟩; have HLW := Lib.hid hL; have HWS := Lib.hid hws; have HX2 := Lib.hid (x1.trans x2); clear x1 x2 hL hws))
  obtain ⟨V, eV⟩ : ∃ V, x2_.alloc (.cells #[.int .i64 0, .int .u64 (d.key : Int), .int .i64 20, .slice d.lA d.ls.length d.lc, .slice none 0 0, .slice d.wA d.ws.length d.wc] 29) = V := ⟨_, rfl⟩
  have bV : Blk V x2_.heap.size 29 #[.int .i64 0, .int .u64 (d.key : Int), .int .i64 20, .slice d.lA d.ls.length d.lc, .slice none 0 0, .slice d.wA d.ws.length d.wc] := by rw [← eV]; exact Blk.new _ _ _
  have xV : Ext x2_ V := by rw [← eV]; exact (Ext.refl _).alloc _
  try rw [eV]
  have HLV := Lib.hid (HLW.out.ext xV)
  have HXV := Lib.hid (HX2.out.trans xV)
  have HBV := Lib.hid bV
  obtain ⟨m0, m1, m2, m3, m4, m5, -, -, -, -, -, -⟩ := lst6 bV
  have hdl : (d.ls.length : Int) ≤ 30 := by have := HLV.out.lens; omega
  clear eV bV xV
  by_cases h1 : a2 < 1
  · have d1 : decide (a2 < 1) = true := decide_eq_true h1
    clear hdl
    go_wp2
    go_ret
    exact ⟨rfl, HXV.out⟩
  have d1 : decide (a2 < 1) = false := decide_eq_false h1
  by_cases h2 : a2 > a3
  · have d2 : decide (a2 > a3) = true := decide_eq_true h2
    have d2' : decide (a3 < a2) = true := decide_eq_true h2
    clear hdl
    go_wp2
    go_ret
    exact ⟨rfl, HXV.out⟩
  have d2 : decide (a3 < a2) = false := decide_eq_false h2
  by_cases h3 : a3 > (d.ls.length : Int)
  · have d3 : decide ((d.ls.length : Int) < a3) = true := decide_eq_true h3
    go_wp2
    go_ret
    exact ⟨rfl, HXV.out⟩
  have d3 : decide ((d.ls.length : Int) < a3) = false := decide_eq_false h3
  obtain ⟨m, rfl⟩ : ∃ m : Nat, a2 = (m : Int) := ⟨a2.toNat, by omega⟩
  obtain ⟨n, rfl⟩ : ∃ n : Nat, a3 = (n : Int) := ⟨a3.toNat, by omega⟩
  have hm0 : 0 < m := by omega
  have hmn : m ≤ n := by omega
  have hnl : n ≤ d.ls.length := by omega
  have hn30 : n ≤ 30 := by omega
  obtain ⟨T, hT⟩ : ∃ T, (leafS d.ls).take n = T := ⟨_, rfl⟩
  have hTl : T.length = n := by rw [← hT, List.length_take, leafS_len]; omega
  have hTm : (leafS d.ls).take m = T.take m := by rw [← hT, List.take_take, Nat.min_eq_left hmn]
  have cG : ∀ W', Ext V W' → Calls Tryz.prog 10 #[.agg #[.int .i64 0, .int .u64 (d.key : Int), .int .i64 20, .slice d.lA d.ls.length d.lc, .slice none 0 0, .slice d.wA d.ws.length d.wc], .int .i64 0, .int .i64 m, .int .i64 n] W' fun e w' => ∃ A c, e = .returned (.tuple #[.slice A (growG prS zS true T m).length c, .int .i64 0]) ∧ (growG prS zS true T m).length ≤ c ∧ Reads w' w'.heap.size 2 A (growG prS zS true T m).length (sumV (growG prS zS true T m)) ∧ Ext W' w' := fun W' e => by
    have := lGrow_any d 0 (by omega) m n hm0 hmn hnl W' (HLV.out.ext e)
    rw [hT] at this
    exact this
  obtain ⟨Rm, hRm⟩ : ∃ R, rootF prS zS (T.take m) = R := ⟨_, rfl⟩
  obtain ⟨Rn, hRn⟩ : ∃ R, rootF prS zS T = R := ⟨_, rfl⟩
  obtain ⟨Em, hEm⟩ : ∃ E, sgE d.key (headL m 50 Rm) = E := ⟨_, rfl⟩
  obtain ⟨Sm, hSm⟩ : ∃ E, sgS d.key (headL m 50 Rm) = E := ⟨_, rfl⟩
  obtain ⟨En, hEn⟩ : ∃ E, sgE d.key (headL n 51 Rn) = E := ⟨_, rfl⟩
  obtain ⟨Sn, hSn⟩ : ∃ E, sgS d.key (headL n 51 Rn) = E := ⟨_, rfl⟩
  have cH : ∀ W', Ext V W' → Calls Tryz.prog 9 #[.agg #[.int .i64 0, .int .u64 (d.key : Int), .int .i64 20, .slice d.lA d.ls.length d.lc, .slice none 0 0, .slice d.wA d.ws.length d.wc], .int .i64 0, .int .i64 m, .int .i64 50] W' fun e w' => e = .returned (.tuple #[.agg #[.int .i64 0, .int .i64 (m : Int), .int .u64 (Rm.1 : Int), .int .u64 (Rm.2 : Int), .int .i64 50, .int .u64 (Em : Int), .int .u64 (Sm : Int)], .int .i64 0]) ∧ Ext W' w' := fun W' e => by
    have := lHead_any d 0 (by omega) m (by omega) 50 (by omega) W' (HLV.out.ext e)
    rw [hTm, hRm, hEm, hSm] at this
    exact this
  have cI : ∀ W', Ext V W' → Calls Tryz.prog 9 #[.agg #[.int .i64 0, .int .u64 (d.key : Int), .int .i64 20, .slice d.lA d.ls.length d.lc, .slice none 0 0, .slice d.wA d.ws.length d.wc], .int .i64 1, .int .i64 n, .int .i64 51] W' fun e w' => e = .returned (.tuple #[.agg #[.int .i64 0, .int .i64 (n : Int), .int .u64 (Rn.1 : Int), .int .u64 (Rn.2 : Int), .int .i64 51, .int .u64 (En : Int), .int .u64 (Sn : Int)], .int .i64 0]) ∧ Ext W' w' := fun W' e => by
    have := lHead_any d 1 (by omega) n hnl 51 (by omega) W' (HLV.out.ext e)
    rw [hT, hRn, hEn, hSn] at this
    exact this
  have cC : ∀ A c W', (growG prS zS true T m).length ≤ c → Reads W' W'.heap.size 2 A (growG prS zS true T m).length (sumV (growG prS zS true T m)) → TabW W' → Calls Tryz.prog 11 #[.int .i64 m, .int .i64 n, .agg #[.int .u64 (Rm.1 : Int), .int .u64 (Rm.2 : Int)], .agg #[.int .u64 (Rn.1 : Int), .int .u64 (Rn.2 : Int)], .slice A (growG prS zS true T m).length c] W' fun e w' => e = .returned (.int .i64 0) ∧ Ext W' w' := fun A c W' hc hr hT' => by
    by_cases he : m = n
    · subst he
      have e1 : T.take m = T := List.take_of_length_le (by omega)
      have e2 : growG prS zS true T m = [] := by have := growG_whole T; rwa [hTl] at this
      rw [e1, hRn] at hRm
      subst hRm
      rw [e2]
      exact cgS_any m hm0 (by omega) Rn A c W'
    · have := cgL_any T (by omega) m hm0 (by omega) A c hc W' hr hT'
      rw [hTl, hRm, hRn] at this
      exact this
  obtain ⟨G, hG⟩ : ∃ G, growG prS zS true T m = G := ⟨_, rfl⟩
  rw [hG] at cG cC
  have hmb : (m : Int) ≤ 30 := by omega
  have hnb : (n : Int) ≤ 30 := by omega
  have hm1 : (1 : Int) ≤ (m : Int) := by omega
  have hmn' : (m : Int) ≤ (n : Int) := by omega
  have dn1 : decide (n < m) = false := by simp; omega
  have dn2 : decide (d.ls.length < n) = false := by simp; omega
  have dn3 : ¬ n < m := by omega
  have dn4 : ¬ d.ls.length < n := by omega
  clear hT hTl hTm hRm hRn hEm hSm hEn hSn hG hm0 hmn hnl hn30 h1 h2 h3 hdl
  go_upto_region 7 with (go_at_call 9; refine (cH _ (Ext.refl _)).mono ?_; clear cH m0 m1 m2 m3 m4 m5; rintro e w3 ⟨rfl, x3⟩; have HX3 := Lib.hid x3; clear x3)
  obtain ⟨V3, eV3⟩ : ∃ U, w3.alloc (.cells #[.int .i64 0, .int .i64 (m : Int), .int .u64 (Rm.1 : Int), .int .u64 (Rm.2 : Int), .int .i64 50, .int .u64 (Em : Int), .int .u64 (Sm : Int)] 38) = U := ⟨_, rfl⟩
  have bH : Blk V3 w3.heap.size 38 #[.int .i64 0, .int .i64 (m : Int), .int .u64 (Rm.1 : Int), .int .u64 (Rm.2 : Int), .int .i64 50, .int .u64 (Em : Int), .int .u64 (Sm : Int)] := by rw [← eV3]; exact Blk.new _ _ _
  have X3 : Ext V V3 := by rw [← eV3]; exact HX3.out.alloc _
  try rw [eV3]
  have HBH := Lib.hid bH
  have HX4 := Lib.hid X3
  obtain ⟨m0, m1, m2, m3, m4, m5, -, -, -, -, -, -⟩ := lst6 (ext_blk X3 HBV.out)
  clear eV3 bH X3 HX3
  go_upto_region 8 with (go_at_call 9; refine (cI _ HX4.out).mono ?_; clear cI m0 m1 m2 m3 m4 m5; rintro e w4 ⟨rfl, x4⟩; have HX5 := Lib.hid x4; clear x4)
  obtain ⟨V4, eV4⟩ : ∃ U, w4.alloc (.cells #[.int .i64 0, .int .i64 (n : Int), .int .u64 (Rn.1 : Int), .int .u64 (Rn.2 : Int), .int .i64 51, .int .u64 (En : Int), .int .u64 (Sn : Int)] 38) = U := ⟨_, rfl⟩
  have bI : Blk V4 w4.heap.size 38 #[.int .i64 0, .int .i64 (n : Int), .int .u64 (Rn.1 : Int), .int .u64 (Rn.2 : Int), .int .i64 51, .int .u64 (En : Int), .int .u64 (Sn : Int)] := by rw [← eV4]; exact Blk.new _ _ _
  have X4 : Ext V3 V4 := by rw [← eV4]; exact HX5.out.alloc _
  try rw [eV4]
  have HBI := Lib.hid bI
  have HX6 := Lib.hid X4
  obtain ⟨m0, m1, m2, m3, m4, m5, -, -, -, -, -, -⟩ := lst6 (ext_blk (HX4.out.trans X4) HBV.out)
  clear eV4 bI X4 HX5
  go_upto_region 9 with (go_at_call 10; refine (cG _ (HX4.out.trans HX6.out)).mono ?_; clear cG m0 m1 m2 m3 m4 m5; rintro e w5 ⟨A5, c5, rfl, hc5, hr5, x5⟩; have HC5 := Lib.hid hc5; have HR5 := Lib.hid hr5; have HX7 := Lib.hid x5; clear hc5 hr5 x5)
  obtain ⟨⟨p0, p1, p2, p3, p4, p5, p6⟩, -, -, -, -, -, -, -⟩ := lst7 (ext_blk (HX6.out.trans HX7.out) HBH.out)
  obtain ⟨⟨q0, q1, q2, q3, q4, q5, q6⟩, -, -, -, -, -, -, -⟩ := lst7 (ext_blk HX7.out HBI.out)
  have hx := HXV.out.trans (HX4.out.trans (HX6.out.trans HX7.out))
  have hTV := tab_ext HT.out hx
  have HXX := Lib.hid hx
  have cC5 := cC A5 c5 w5 HC5.out HR5.out hTV
  clear cC hx hTV
  go_wp2_with (go_at_call 11; refine cC5.mono ?_; clear cC5; rintro e w6 ⟨rfl, x6⟩)
  go_ret
  exact ⟨rfl, HXX.out.trans x6⟩
theorem walk_TopGrow (A0 : Option Addr) (c0 : Nat) (y0 : List Nat) (A1 : Option Addr) (c1 : Nat) (y1 : List (List Nat)) (a2 a3 : Int) (u0 : y0.length ≤ c0) (b0 : c0 ≤ 140737488351232) (t0 : ∀ x ∈ y0, x < 256) (u1 : y1.length ≤ c1) (b1 : c1 * 24 ≤ 140737488351232) (z1 : ∀ p ∈ y1, p.length ≤ 140737488351232) (t1 : ∀ p ∈ y1, ∀ x ∈ p, x < 256)
    (w2 : (Lit.int .i64 a2).wf = true) (w3 : (Lit.int .i64 a3).wf = true) (W : World) (r0 : Reads W W.heap.size 1 A0 y0.length (bv y0)) (r1 : Parts W W.heap.size A1 y1) (hk : KindsW W) (hT : TabW W) :
    Calls Tryz.prog 3 #[.slice A0 y0.length c0, .slice A1 y1.length c1, .int .i64 a2, .int .i64 a3] W fun e w' => e = .returned (.bool true) ∧ Ext W w' := by
  by_cases h : y0.length ≤ 200 ∧ fewB y1 = true
  · obtain ⟨h1, h2⟩ := h
    have hf := of_decide_eq_true h2
    have cF := fun W' (x : Ext W W') => filled_few y0 t0 h1 A0 c0 u0 y1 hf.1 (fun b hb => ⟨hf.2 b hb, t1 b hb⟩) A1 c1 W' ((r0.below x.out).more x.size) (partsMoreT (r1.below x.out) x.size)
    by_cases hall : ∀ b ∈ y1, 0 < b.length
    · refine tg_good y0 A0 c0 y1 A1 c1 a2 a3 w2 w3 W hk hT fun W' x => (cF W' x).mono fun e w' hh => ?_
      rcases hh with ⟨-, d, A', c', he, hL, -, hws, -, -, -, hx⟩ | ⟨hno, -⟩
      · exact ⟨d, A', c', y1.length, he, hL, hws, hx⟩
      · exact absurd hall hno
    · refine tg_bad y0 A0 c0 y1 A1 c1 a2 a3 W hk fun W' x => (cF W' x).mono fun e w' hh => ?_
      rcases hh with ⟨hy, -⟩ | ⟨-, he, hx⟩
      · exact absurd hy hall
      · exact ⟨he, hx⟩
  · exact tg_bad y0 A0 c0 y1 A1 c1 a2 a3 W hk fun W' x => filled_many y0 (by omega) A0 c0 y1 (by omega) z1 A1 c1 W' (partsMoreT (r1.below x.out) x.size) h
end Go.Proofs.YtfpmfegmehbfbaaGreatDoor
