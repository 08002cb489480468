/- Parts of the proofs, put together: Tg3, MkF, LgB, Tl1. -/
import Derived.Laws.EntriesVeiled
import Derived.Test.YtfpmfegmehbfbaaGreatDoorV17
import Derived.Test.YtfpmfegmehbfbaaGreatDoorV28
import Derived.Test.YtfpmfegmehbfbaaGreatDoorV35
import Derived.Test.YtfpmfegmehbfbaaGreatDoorV38
import Derived.Test.YtfpmfegmehbfbaaGreatDoorV40
import Derived.Test.YtfpmfegmehbfbaaGreatDoorV41
/- TopGrow, walked. -/
namespace Go.Proofs.YtfpmfegmehbfbaaGreatDoor
set_option linter.unusedVariables false
set_option linter.unusedSimpArgs false
set_option linter.unusedSimpArgs false
open Go.RowKit Go.Shelf Go.Maps

end Go.Proofs.YtfpmfegmehbfbaaGreatDoor

/- Trees of hashes, walked: Prove, whole. -/
namespace Go.Proofs.YtfpmfegmehbfbaaGreatDoor
set_option linter.unusedVariables false
set_option linter.unusedSimpArgs false
set_option linter.unusedSimpArgs false
open Go.RowKit Go.Shelf Go.Maps

theorem boxesP (w : World) (x y : Array Value) (T U : TypeId) : ∃ W, (w.alloc (.cells x T)).alloc (.cells y U) = W ∧ Blk W w.heap.size T x ∧ Blk W (w.heap.size + 1) U y ∧ Ext w W := by
  refine ⟨_, rfl, (Blk.new w T x).alloc _, ?_, ((Ext.refl w).alloc _).alloc _⟩
  have := Blk.new (w.alloc (.cells x T)) U y
  rwa [World.size_alloc] at this
set_option maxRecDepth 100000 in
set_option maxHeartbeats 4000000 in
theorem mkProve_any (l : List (Nat × Nat)) (h30 : l.length ≤ 30) (i : Nat) (hi : i < l.length) (A : Option Addr) (c : Nat) (hc : l.length ≤ c) (w : World) (hr : Reads w w.heap.size 2 A l.length (sumV l)) :
    Calls Tryz.prog 68 #[.slice A l.length c, .int .i64 i] w fun e w' => ∃ A' c', e = .returned (.tuple #[.slice A' (proveF prS zS l i).length c', .int .i64 0]) ∧ (proveF prS zS l i).length ≤ c' ∧ Reads w' w'.heap.size 2 A' (proveF prS zS l i).length (sumV (proveF prS zS l i)) ∧ (∀ ad, A' = some ad → w.heap.size ≤ ad.block) ∧ Ext w w' := by
  obtain ⟨W0, e0, b0, b1, x0⟩ := boxesP w #[.slice none 0 0] #[.func (.func 144) #[] #[.pointer (some ⟨w.heap.size + 1, 0, none⟩), .pointer (some ⟨w.heap.size, 0, none⟩)]] 42 229
  have D0 : Dn w.heap.size [] (.slice none 0 0) W0 := ⟨b0, b1, World.ownsRow_nil _ _ _ _⟩
  have cD := down_any w.heap.size l.length l (Nat.le_refl _) (by omega) (by omega) i hi A c hc [] (by simp; omega) (.slice none 0 0) W0 D0 (hr.below x0.out)
  obtain ⟨Q, hQ⟩ : ∃ Q, proveF prS zS l i = Q := ⟨_, rfl⟩
  rw [hQ] at cD ⊢
  rw [List.nil_append] at cD
  have hE := down_enters
  unfold Enters at hE
  have m1 := b1.cell 0
  have d1 : decide ((256 : Int) < (l.length : Int)) = false := by simp; omega
  have d2 : decide ((i : Int) < 0) = false := by simp
  have d3 : decide ((l.length : Int) ≤ (i : Int)) = false := by simp; omega
  have d3' : decide (l.length ≤ i) = false := by simp; omega
  have d4 : ¬ l.length ≤ i := by omega
  have hlb : (l.length : Int) ≤ 30 := by omega
  have HX0 := Lib.hid x0
  clear b0 b1 D0 x0 hr hQ h30 hi hc
  go_enter Tryz.func68, Tryz.ntmps68
  go_upto_region 6 with (fail)
  try rw [e0]
  clear e0
  go_upto_region 7 with (go_at_fn 144; refine cD.mono ?_; clear cD m1; rintro e w1 ⟨rfl, v1, D1, hb1⟩)
  obtain ⟨A1, c1, rfl, hc1, hr1⟩ := own_slice2 D1.ow
  have m0 := D1.bp.cell 0
  have HG : Hid (∀ ad, A1 = some ad → w.heap.size ≤ ad.block) := Lib.hid (fun ad e => by have := own_ge D1.ow ad.block (by rw [e]; rfl); omega)
  have HR := Lib.hid hr1
  have HC := Lib.hid hc1
  have HE := Lib.hid (Ext.of (HX0.out.out.trans hb1))
  clear D1 hb1 hr1 hc1
  go_wp2
  go_ret2
  exact ⟨A1, c1, rfl, HC.out, HR.out, HG.out, HE.out⟩
end Go.Proofs.YtfpmfegmehbfbaaGreatDoor

/- Logs, walked: what shows that a log holds something. -/
namespace Go.Proofs.YtfpmfegmehbfbaaGreatDoor
set_option linter.unusedVariables false
set_option linter.unusedSimpArgs false
set_option linter.unusedSimpArgs false
open Go.RowKit Go.Shelf Go.Maps

section
variable {w W : World} {g : Nat} {T : TypeId} {a b c d : Value}
theorem lst4 (k : Blk W g T #[a, b, c, d]) : W.cell? ⟨g, 0, none⟩ = some a ∧ W.cell? ⟨g, 1, none⟩ = some b ∧ W.cell? ⟨g, 2, none⟩ = some c ∧ W.cell? ⟨g, 3, none⟩ = some d ∧ W.frozen? ⟨g, 0, none⟩ = false ∧ W.frozen? ⟨g, 1, none⟩ = false ∧ W.frozen? ⟨g, 2, none⟩ = false ∧ W.frozen? ⟨g, 3, none⟩ = false :=
  ⟨k.cell 0, k.cell 1, k.cell 2, k.cell 3, k.frozen 0, k.frozen 1, k.frozen 2, k.frozen 3⟩
end
set_option maxRecDepth 100000 in
set_option maxHeartbeats 4000000 in
theorem lProve_any (d : LogX) (v : Nat) (hv : v ≤ 1) (i n : Nat) (hi : i < n) (hn : n ≤ d.ls.length) (w : World) (h : LogW w w.heap.size d) :
    Calls Tryz.prog 18 #[logV d, .int .i64 v, .int .i64 i, .int .i64 n] w fun e w' => ∃ A c, e = .returned (.tuple #[.agg #[.int .i64 0, .int .i64 i, .int .i64 n, .slice A (proveF prS zS ((leafS d.ls).take n) i).length c], .int .i64 0]) ∧ (proveF prS zS ((leafS d.ls).take n) i).length ≤ c ∧
      Reads w' w'.heap.size 2 A (proveF prS zS ((leafS d.ls).take n) i).length (sumV (proveF prS zS ((leafS d.ls).take n) i)) ∧ Ext w w' := by
  obtain ⟨W0, e0, b0, b1, x0⟩ := boxesC w #[.int .i64 0, .int .u64 (d.key : Int), .int .i64 20, .slice d.lA d.ls.length d.lc, .slice none 0 0, .slice d.wA d.ws.length d.wc] #[.int .i64 0, .int .i64 0, .int .i64 0, .slice none 0 0] 29 59
  have c1 := lfirst_any d v hv n hn W0 (h.ext x0)
  unfold logV at c1 ⊢
  obtain ⟨m0, m1, m2, m3, m4, m5, -, -, -, -, -, -⟩ := lst6 b0
  have hls : d.ls.length ≤ 30 := by have := h.lens; omega
  have hTl : ((leafS d.ls).take n).length = n := by rw [List.length_take, leafS_len]; omega
  obtain ⟨T, hT⟩ : ∃ T, (leafS d.ls).take n = T := ⟨_, rfl⟩
  rw [hT] at hTl c1 ⊢
  have c2 := fun A c (hc : n ≤ c) W (hr : Reads W W.heap.size 2 A n (sumV T)) => mkProve_any T (by omega) i (by omega) A c (by omega) W (by rw [hTl]; exact hr)
  rw [hTl] at c2
  have hFl := proveF_le _ T i (Nat.le_refl _)
  obtain ⟨F, hF⟩ : ∃ F, proveF prS zS T i = F := ⟨_, rfl⟩
  rw [hF] at c2 ⊢
  have HX0 := Lib.hid x0
  have HB0 := Lib.hid b0
  have HB1 := Lib.hid b1
  clear b0 b1 x0 h hT hv hls hn hTl hF hFl hi
  go_enter Tryz.func18, Tryz.ntmps18
  go_upto_region 1 with (fail)
  try rw [e0]
  clear e0
  go_upto_region 2 with (go_at_call 50; refine c1.mono ?_; clear c1 m0 m1 m2 m3 m4 m5; rintro e w1 ⟨A, c, rfl, hc, hr, x1⟩)
  have c3 := c2 A c hc w1 hr
  have HX1 := Lib.hid x1
  clear c2 hc hr x1
  go_upto_region 7 with (go_at_call 68; refine c3.mono ?_; clear c3; rintro e w2 ⟨A2, k2, rfl, hc2, hr2, hA2, x2⟩; have HA2 := Lib.hid hA2; clear hA2; have HX2 := Lib.hid x2; have HC2 := Lib.hid hc2; have HR2 := Lib.hid hr2; clear x2 hc2 hr2)
  obtain ⟨m0, m1, m2, m3, m4, m5, -, -, -, -, -, -⟩ := lst6 (ext_blk (HX1.out.trans HX2.out) HB0.out)
  have k1 := ext_blk (HX1.out.trans HX2.out) HB1.out
  obtain ⟨n0, n1, n2, n3, f0, f1, f2, f3⟩ := lst4 k1
  have hz := (((k1.set_ 0 (.int .i64 0)).set_ 1 (.int .i64 i)).set_ 2 (.int .i64 n)).set_ 3 (.slice A2 F.length k2)
  have hne : ∀ ad, A2 = some ad → some ad.block ≠ some (w.heap.size + 1) := fun ad e => by
    have h1 := HA2.out ad e
    have h2 := HB1.out.lt
    have h3 := HX1.out.size
    intro e2
    have e3 := Option.some.inj e2
    omega
  have hr1 := reads_grown (reads_grown (reads_grown (reads_grown HR2.out (grown_setL w2 (w.heap.size + 1) 0 (.int .i64 0)) (fun _ => hne)) (grown_setL _ (w.heap.size + 1) 1 (.int .i64 i)) (fun _ => hne)) (grown_setL _ (w.heap.size + 1) 2 (.int .i64 n)) (fun _ => hne)) (grown_setL _ (w.heap.size + 1) 3 (.slice A2 F.length k2)) (fun _ => hne)
  have hx := ((((HX0.out.trans (HX1.out.trans HX2.out)).setCell (p := ⟨w.heap.size + 1, 0, none⟩) (by simp) (.int .i64 0)).setCell (p := ⟨w.heap.size + 1, 1, none⟩) (by simp) (.int .i64 i)).setCell (p := ⟨w.heap.size + 1, 2, none⟩) (by simp) (.int .i64 n)).setCell (p := ⟨w.heap.size + 1, 3, none⟩) (by simp) (.slice A2 F.length k2)
  have HZ := Lib.hid hz
  have HRZ := Lib.hid hr1
  have HXX := Lib.hid hx
  clear hz hr1 hx hne k1
  go_wp2
  obtain ⟨r0, r1, r2, r3, -, -, -, -⟩ := lst4 HZ.out
  exact bodyPost_ret (v := .tuple #[.agg #[.int .i64 0, .int .i64 i, .int .i64 n, .slice A2 F.length k2], .int .i64 0]) (by simp [results, Tryz.results18, go_sem, r0, r1, r2, r3]) rfl ⟨A2, k2, rfl, HC2.out, HRZ.out.more (by simp), HXX.out⟩
end Go.Proofs.YtfpmfegmehbfbaaGreatDoor

/- TopLog, walked. -/
namespace Go.Proofs.YtfpmfegmehbfbaaGreatDoor
set_option linter.unusedVariables false
set_option linter.unusedSimpArgs false
set_option linter.unusedSimpArgs false
open Go.RowKit Go.Shelf Go.Maps

theorem leaf_in {bs : List (List Nat)} {ls : List EntX} (h : ls.map EntX.ent = (lgFill bs).1) (hf : bs.length ≤ 30) (hb : ∀ b ∈ bs, BodyOk b) {b : List Nat} (hm : b ∈ bs) : hSum (leafB b) ∈ leafS ls := by
  obtain ⟨x, hx, e⟩ := (fill_good bs hf hb).2.2.2 b hm
  rw [← h] at hx
  obtain ⟨y, hy, e2⟩ := List.mem_map.1 hx
  refine List.mem_map.2 ⟨y, hy, ?_⟩
  have : y.b = b := by rw [← e, ← e2]; rfl
  rw [this]
set_option maxRecDepth 100000 in
set_option maxHeartbeats 4000000 in
theorem tl_bad (y0 : List Nat) (A0 : Option Addr) (c0 : Nat) (y1 : List (List Nat)) (A1 : Option Addr) (c1 : Nat) (W : World) (hk : KindsW W)
    (cF : ∀ W', Ext W W' → Calls Tryz.prog 8 #[.slice A0 y0.length c0, .slice A1 y1.length c1] W' fun e w' => e = .returned (.tuple #[.agg #[.int .i64 0, .int .u64 0, .int .i64 0, .slice none 0 0, .slice none 0 0, .slice none 0 0], .slice none 0 0, .bool false]) ∧ Ext W' w') :
    Calls Tryz.prog 4 #[.slice A0 y0.length c0, .slice A1 y1.length c1] W fun e w' => e = .returned (.bool true) ∧ Ext W w' := by
  have cU := up_any W hk
  clear hk
  go_enter Tryz.func4, Tryz.ntmps4
  go_wp2_with (first | (go_at_call 7; refine cU.mono ?_; clear cU; rintro e x1_ ⟨rfl, x1⟩) | (go_at_call 8; refine (cF _ x1).mono ?_; clear cF; rintro e x2_ ⟨rfl, x2⟩))
  go_ret
  exact ⟨rfl, (x1.trans x2).alloc _⟩
set_option maxRecDepth 100000 in
set_option maxHeartbeats 16000000 in
theorem tl_good (K : Nat) (bs : List (List Nat)) (hf : bs.length ≤ 30) (hb : ∀ b ∈ bs, BodyOk b) (l0 : Nat) (A0 : Option Addr) (c0 : Nat) (A1 : Option Addr) (c1 : Nat) (W : World) (hk : KindsW W) (r1 : Parts W W.heap.size A1 bs)
    (cF : ∀ W', Ext W W' → Calls Tryz.prog 8 #[.slice A0 l0 c0, .slice A1 bs.length c1] W' fun e w' => ∃ (d : LogX) (A' : Option Addr) (c' : Nat), e = .returned (.tuple #[logV d, .slice A' bs.length c', .bool true]) ∧ LogW w' w'.heap.size d ∧ d.key = K ∧ d.ws = [] ∧ d.ls.map EntX.ent = (lgFill bs).1 ∧ Reads w' w'.heap.size 6 A' bs.length (promsV K bs (lgFill bs).2) ∧ Ext W' w') :
    Calls Tryz.prog 4 #[.slice A0 l0 c0, .slice A1 bs.length c1] W fun e w' => e = .returned (.bool true) ∧ Ext W w' := by
  have cU := up_any W hk
  have HBK := Lib.hid hb
  have HFB := Lib.hid hf
  have HPR := Lib.hid r1
  clear hk hb hf r1
  unfold logV at cF
  go_enter Tryz.func4, Tryz.ntmps4
  go_upto_region 4 with (first | (go_at_call 7; refine cU.mono ?_; clear cU; rintro e x1_ ⟨rfl, x1⟩) | (go_at_call 8; refine (cF _ x1).mono ?_; clear cF; rintro e x2_ ⟨d, A2, c2, rfl, hL, hkey, hws, hen, hpr, x2⟩; have HLW := Lib.hid hL; have HKEY := Lib.hid hkey; have HEN := Lib.hid hen; have HPM := Lib.hid hpr; have HX2 := Lib.hid (x1.trans x2); clear x1 x2 hL hws hkey hen hpr))
  obtain ⟨V, eV⟩ : ∃ V, x2_.alloc (.cells #[.int .i64 0, .int .u64 (d.key : Int), .int .i64 20, .slice d.lA d.ls.length d.lc, .slice none 0 0, .slice d.wA d.ws.length d.wc] 29) = V := ⟨_, rfl⟩
  have bV : Blk V x2_.heap.size 29 #[.int .i64 0, .int .u64 (d.key : Int), .int .i64 20, .slice d.lA d.ls.length d.lc, .slice none 0 0, .slice d.wA d.ws.length d.wc] := by rw [← eV]; exact Blk.new _ _ _
  have xV : Ext x2_ V := by rw [← eV]; exact (Ext.refl _).alloc _
  try rw [eV]
  have HLV := Lib.hid (HLW.out.ext xV)
  have HXV := Lib.hid (HX2.out.trans xV)
  have HBV := Lib.hid bV
  have HPV := Lib.hid ((HPM.out.below xV.out).more xV.size)
  obtain ⟨m0, m1, m2, m3, m4, m5, -, -, -, -, -, -⟩ := lst6 bV
  have hN30 : d.ls.length ≤ 30 := by have := HLV.out.lens; omega
  clear eV bV xV
  obtain ⟨N, hN⟩ : ∃ N, d.ls.length = N := ⟨_, rfl⟩
  obtain ⟨T, hT⟩ : ∃ T, leafS d.ls = T := ⟨_, rfl⟩
  have hTl : T.length = N := by rw [← hT, leafS_len, hN]
  have htk : T.take N = T := List.take_of_length_le (by omega)
  have hin : ∀ b ∈ bs, hSum (leafB b) ∈ T := fun b hb => by rw [← hT]; exact leaf_in HEN.out HFB.out HBK.out hb
  have hTw : ∀ x ∈ T, x.1 < 18446744073709551616 ∧ x.2 < 18446744073709551616 := fun x hx => by
    rw [← hT] at hx
    obtain ⟨y, -, rfl⟩ := List.mem_map.1 hx
    exact hSum_w _
  obtain ⟨R, hR⟩ : ∃ R, rootF prS zS T = R := ⟨_, rfl⟩
  obtain ⟨P, hP⟩ : ∃ P, powM bQ 4 d.key = P := ⟨_, rfl⟩
  obtain ⟨E, hE⟩ : ∃ E, sgE d.key (headL N 50 R) = E := ⟨_, rfl⟩
  obtain ⟨S, hS⟩ : ∃ E, sgS d.key (headL N 50 R) = E := ⟨_, rfl⟩
  have cPub : ∀ W', Ext V W' → Calls Tryz.prog 12 #[.agg #[.int .i64 0, .int .u64 (d.key : Int), .int .i64 20, .slice d.lA d.ls.length d.lc, .slice none 0 0, .slice d.wA d.ws.length d.wc]] W' fun e w' => e = .returned (.tuple #[.agg #[.int .i64 0, .int .u64 (P : Int), .int .i64 20], .int .i64 0]) ∧ Ext W' w' := fun W' e => by
    have := lPublic_any d W' (HLV.out.ext e)
    rw [hP] at this
    exact this
  have cHd : ∀ W', Ext V W' → Calls Tryz.prog 9 #[.agg #[.int .i64 0, .int .u64 (d.key : Int), .int .i64 20, .slice d.lA d.ls.length d.lc, .slice none 0 0, .slice d.wA d.ws.length d.wc], .int .i64 0, .int .i64 N, .int .i64 50] W' fun e w' => e = .returned (.tuple #[.agg #[.int .i64 0, .int .i64 (N : Int), .int .u64 (R.1 : Int), .int .u64 (R.2 : Int), .int .i64 50, .int .u64 (E : Int), .int .u64 (S : Int)], .int .i64 0]) ∧ Ext W' w' := fun W' e => by
    have := lHead_any d 0 (by omega) N (by omega) 50 (by omega) W' (HLV.out.ext e)
    rw [hT, htk, hR, hE, hS] at this
    exact this
  have cLv : ∀ W', Ext V W' → Calls Tryz.prog 13 #[.agg #[.int .i64 0, .int .u64 (d.key : Int), .int .i64 20, .slice d.lA d.ls.length d.lc, .slice none 0 0, .slice d.wA d.ws.length d.wc], .int .i64 0] W' fun e w' => ∃ A c, e = .returned (.tuple #[.slice A N c, .int .i64 0]) ∧ N ≤ c ∧ Reads w' w'.heap.size 2 A N (sumV T) ∧ Ext W' w' := fun W' e => by
    have := lLeaves_any d 0 (by omega) W' (HLV.out.ext e)
    unfold logV at this
    rw [hT, hN] at this
    rw [hN]
    exact this
  have cCH : ∀ W', Calls Tryz.prog 14 #[.agg #[.int .i64 0, .int .u64 (P : Int), .int .i64 20], .agg #[.int .i64 0, .int .i64 (N : Int), .int .u64 (R.1 : Int), .int .u64 (R.2 : Int), .int .i64 50, .int .u64 (E : Int), .int .u64 (S : Int)]] W' fun e w' => e = .returned (.int .i64 0) ∧ Ext W' w' := fun W' => by
    have := lckHead_any d.key HLV.out.odd N 50 (by omega) (by omega) R W'
    rw [hP, hE, hS] at this
    exact this
  have cRt : ∀ A c W', N ≤ c → Reads W' W'.heap.size 2 A N (sumV T) → Calls Tryz.prog 15 #[.slice A N c] W' fun e w' => e = .returned (.agg #[.int .u64 (R.1 : Int), .int .u64 (R.2 : Int)]) ∧ Ext W' w' := fun A c W' hc hr => by
    have := Root_any T (by omega) A c (by omega) W' (by rw [hTl]; exact hr)
    rw [hTl, hR] at this
    exact this
  have cCP : ∀ t H W', t ≤ 1000 → Calls Tryz.prog 16 #[.agg #[.int .i64 0, .int .u64 (P : Int), .int .i64 20], promV d.key t H] W' fun e w' => e = .returned (.int .i64 0) ∧ Ext W' w' := fun t H W' ht => by
    have := lckProm_any d.key HLV.out.odd t ht H W'
    rw [hP] at this
    exact this
  have cPv : ∀ i W', Ext V W' → i < N → Calls Tryz.prog 18 #[.agg #[.int .i64 0, .int .u64 (d.key : Int), .int .i64 20, .slice d.lA d.ls.length d.lc, .slice none 0 0, .slice d.wA d.ws.length d.wc], .int .i64 0, .int .i64 i, .int .i64 N] W' fun e w' => ∃ A c, e = .returned (.tuple #[.agg #[.int .i64 0, .int .i64 i, .int .i64 N, .slice A (proveF prS zS T i).length c], .int .i64 0]) ∧ Reads w' w'.heap.size 2 A (proveF prS zS T i).length (sumV (proveF prS zS T i)) ∧ Ext W' w' := fun i W' e hi => by
    have := lProve_any d 0 (by omega) i N hi (by omega) W' (HLV.out.ext e)
    rw [hT, htk] at this
    exact this.mono fun e w' ⟨A, c, h1, _, h2, h3⟩ => ⟨A, c, h1, h2, h3⟩
  have cCk : ∀ (i : Nat) (x : Nat × Nat) A c W', T[i]? = some x → Reads W' W'.heap.size 2 A (proveF prS zS T i).length (sumV (proveF prS zS T i)) → Calls Tryz.prog 19 #[.agg #[.int .u64 (x.1 : Int), .int .u64 (x.2 : Int)], .int .i64 i, .int .i64 N, .slice A (proveF prS zS T i).length c, .agg #[.int .u64 (R.1 : Int), .int .u64 (R.2 : Int)]] W' fun e w' => e = .returned (.int .i64 0) ∧ Ext W' w' := fun i x A c W' hx hr => by
    have := mkCheck_any T i x (by omega) hx A c W' hr
    rw [hTl, hR] at this
    exact this
  have hNb : (N : Int) ≤ 30 := by omega
  have HTL : Hid (T.length = N ∧ N ≤ 30) := Lib.hid ⟨hTl, by omega⟩
  have HIN := Lib.hid hin
  have HTW := Lib.hid hTw
  have HCP := Lib.hid cCP
  rw [hN] at cPv
  have HPvv := Lib.hid cPv
  have HCk := Lib.hid cCk
  rw [hN] at HBV cPub cHd cLv m3
  clear hN hT hTl htk hR hP hE hS hN30 hin hTw cCP cPv cCk
  go_upto_region 7 with (go_at_call 12; refine (cPub _ (Ext.refl _)).mono ?_; clear cPub m0 m1 m2 m3 m4 m5; rintro e w3 ⟨rfl, x3⟩; have HX3 := Lib.hid x3; clear x3)
  obtain ⟨V3, eV3⟩ : ∃ U, w3.alloc (.cells #[.int .i64 0, .int .u64 (P : Int), .int .i64 20] 48) = U := ⟨_, rfl⟩
  have bK : Blk V3 w3.heap.size 48 #[.int .i64 0, .int .u64 (P : Int), .int .i64 20] := by rw [← eV3]; exact Blk.new _ _ _
  have X3 : Ext V V3 := by rw [← eV3]; exact HX3.out.alloc _
  try rw [eV3]
  have HBK3 := Lib.hid bK
  have HX4 := Lib.hid X3
  obtain ⟨m0, m1, m2, m3, m4, m5, -, -, -, -, -, -⟩ := lst6 (ext_blk X3 HBV.out)
  clear eV3 bK X3 HX3
  go_upto_region 8 with (go_at_call 9; refine (cHd _ HX4.out).mono ?_; clear cHd m0 m1 m2 m3 m4 m5; rintro e w4 ⟨rfl, x4⟩; have HX5 := Lib.hid x4; clear x4)
  obtain ⟨V4, eV4⟩ : ∃ U, w4.alloc (.cells #[.int .i64 0, .int .i64 (N : Int), .int .u64 (R.1 : Int), .int .u64 (R.2 : Int), .int .i64 50, .int .u64 (E : Int), .int .u64 (S : Int)] 38) = U := ⟨_, rfl⟩
  have bI : Blk V4 w4.heap.size 38 #[.int .i64 0, .int .i64 (N : Int), .int .u64 (R.1 : Int), .int .u64 (R.2 : Int), .int .i64 50, .int .u64 (E : Int), .int .u64 (S : Int)] := by rw [← eV4]; exact Blk.new _ _ _
  have X4 : Ext V3 V4 := by rw [← eV4]; exact HX5.out.alloc _
  try rw [eV4]
  have HBH := Lib.hid bI
  have HX6 := Lib.hid X4
  obtain ⟨m0, m1, m2, m3, m4, m5, -, -, -, -, -, -⟩ := lst6 (ext_blk (HX4.out.trans X4) HBV.out)
  clear eV4 bI X4 HX5
  go_upto_region 9 with (go_at_call 13; refine (cLv _ (HX4.out.trans HX6.out)).mono ?_; clear cLv m0 m1 m2 m3 m4 m5; rintro e w5 ⟨A5, c5, rfl, hc5, hr5, x5⟩; have HC5 := Lib.hid hc5; have HR5 := Lib.hid hr5; have HX7 := Lib.hid x5; clear hc5 hr5 x5)
  have cRt5 := fun W' (e : Ext w5 W') => cRt A5 c5 W' HC5.out ((HR5.out.below e.out).more e.size)
  have k1 := ext_blk (HX6.out.trans HX7.out) HBK3.out
  have k2 := ext_blk HX7.out HBH.out
  have kk0i := fun i : Later w5 => i.cell ((k1).cell 0)
  have kk1i := fun i : Later w5 => i.cell ((k1).cell 1)
  have kk2i := fun i : Later w5 => i.cell ((k1).cell 2)
  have hh0i := fun i : Later w5 => i.cell ((k2).cell 0)
  have hh1i := fun i : Later w5 => i.cell ((k2).cell 1)
  have hh2i := fun i : Later w5 => i.cell ((k2).cell 2)
  have hh3i := fun i : Later w5 => i.cell ((k2).cell 3)
  have hh4i := fun i : Later w5 => i.cell ((k2).cell 4)
  have hh5i := fun i : Later w5 => i.cell ((k2).cell 5)
  have hh6i := fun i : Later w5 => i.cell ((k2).cell 6)
  have qb := eq2_same (R.1 : Int) (R.2 : Int)
  clear k1 k2 cRt
  refine wp_region_later (by kernel_rfl) (by kernel_rfl) ?_
  repeat (go_big_quiet_step (first
    | (go_at_call 14; exact Later.calls (cCH _))
    | (go_at_call 15; exact Later.calls (cRt5 _ (Later.ext _)))))
  refine wpQuiet_nil ?_
  rintro w8 ⟨i, hi⟩
  have x8 : Ext w5 w8 := by rw [hi]; exact i.ext
  have HX8 := Lib.hid x8
  have HK8 := Lib.hid (ext_blk (HX6.out.trans (HX7.out.trans x8)) HBK3.out)
  have HH8 := Lib.hid (ext_blk (HX7.out.trans x8) HBH.out)
  have HL8 := Lib.hid (ext_blk (HX4.out.trans (HX6.out.trans (HX7.out.trans x8))) HBV.out)
  have HV8 := Lib.hid (HX4.out.trans (HX6.out.trans (HX7.out.trans x8)))
  clear hi i x8 kk0i kk1i kk2i hh0i hh1i hh2i hh3i hh4i hh5i hh6i
  go_upto_region 11 with (fail)
  go_wp2
  go_loopg [82] bs.length (fun m s82 wr => ∃ j : Nat, j + m = bs.length ∧ s82 = .int .i64 j ∧ Ext w8 wr)
  case atStart => exact ⟨0, by omega, rfl, Ext.refl _⟩
  case round =>
    obtain ⟨j, hj, rfl, hx⟩ := hrel
    by_cases h : j < bs.length
    · have hv := HV8.out.trans hx
      obtain ⟨b, hbj⟩ : ∃ s, bs[j]? = some s := ⟨_, List.getElem?_eq_getElem h⟩
      obtain ⟨t, htj⟩ : ∃ s, (lgFill bs).2[j]? = some s := ⟨_, List.getElem?_eq_getElem (by rw [fill_len]; exact h)⟩
      have hbm := List.mem_of_getElem? hbj
      have ht30 := (fill_good bs HFB.out HBK.out).2.1 t (List.mem_of_getElem? htj)
      have hbo := HBK.out b hbm
      have hzj : (bs.zip (lgFill bs).2)[j]? = some (b, t) := by rw [List.getElem?_zip_eq_some]; exact ⟨hbj, htj⟩
      have hpm : Reads V V.heap.size 6 A2 bs.length ((bs.zip (lgFill bs).2).flatMap (prC d.key)) := by rw [HKEY.out]; exact HPV.out
      obtain ⟨ad, rfl, hadb, hc⟩ := reads_prom (hpm.below hv.out) hzj
      have q0 := hc 0 _ rfl
      have q1 := hc 1 _ rfl
      have q2 := hc 2 _ rfl
      have q3 := hc 3 _ rfl
      have q4 := hc 4 _ rfl
      have q5 := hc 5 _ rfl
      rw [add_of_add, Nat.add_zero] at q0
      rw [add_succ_eq] at q1
      rw [add_succ_eq] at q2
      rw [add_succ_eq] at q3
      rw [add_succ_eq] at q4
      rw [add_succ_eq] at q5
      obtain ⟨ad1, a, kc, rfl, qb0, hkc, hrp⟩ := (HPR.out.below (HXV.out.trans hv).out).at_ hbj
      have cLf := fun W' (e : Ext wr W') => Leaf_any b hbo.2.2 a kc hkc W' ((hrp.below (Below.mono e.out (HXV.out.trans hv).size)).more (Nat.le_trans (HXV.out.trans hv).size e.size)) (leafB_len b (by have := hbo.2.1; omega))
      have cCp := fun W' => HCP.out t (hSum (leafB b)) W' (by omega)
      unfold promV at cCp
      have hHin := HIN.out b hbm
      obtain ⟨H, hH⟩ : ∃ H, hSum (leafB b) = H := ⟨_, rfl⟩
      simp only [hH] at cLf cCp q2 q3 q4 q5 hHin
      obtain ⟨Ep, hEp⟩ : ∃ E, sgE d.key (promL t H) = E := ⟨_, rfl⟩
      obtain ⟨Sp, hSp⟩ : ∃ E, sgS d.key (promL t H) = E := ⟨_, rfl⟩
      simp only [hEp, hSp] at cCp q4 q5
      obtain ⟨W1, e1⟩ : ∃ U, wr.alloc (.cells #[.int .i64 0, .int .i64 (t : Int), .int .u64 (H.1 : Int), .int .u64 (H.2 : Int), .int .u64 (Ep : Int), .int .u64 (Sp : Int)] 55) = U := ⟨_, rfl⟩
      have b1 : Blk W1 wr.heap.size 55 #[.int .i64 0, .int .i64 (t : Int), .int .u64 (H.1 : Int), .int .u64 (H.2 : Int), .int .u64 (Ep : Int), .int .u64 (Sp : Int)] := by rw [← e1]; exact Blk.new _ _ _
      have x1 : Ext wr W1 := by rw [← e1]; exact (Ext.refl _).alloc _
      have hjn : j < bs.length := h
      have hjb : (j : Int) ≤ 30 := by have := HFB.out; omega
      have HB1 := Lib.hid b1
      have HX1 := Lib.hid x1
      have HXW := Lib.hid hx
      have HJ := Lib.hid hj
      have HHI := Lib.hid hHin
      have qb := eq2_same (H.1 : Int) (H.2 : Int)
      clear hv hbj htj hbm ht30 hbo hzj hpm hadb hc hkc hrp hHin hH hEp hSp b1 x1 hx hj h
      go_upto_region 14 with (fail)
      try rw [e1]
      clear e1 q0 q1 q2 q3 q4 q5
      have k1 := HB1.out
      have k2 := ext_blk (HXW.out.trans HX1.out) HK8.out
      have pp0i := fun i : Later W1 => i.cell ((k1).cell 0)
      have pp1i := fun i : Later W1 => i.cell ((k1).cell 1)
      have pp2i := fun i : Later W1 => i.cell ((k1).cell 2)
      have pp3i := fun i : Later W1 => i.cell ((k1).cell 3)
      have pp4i := fun i : Later W1 => i.cell ((k1).cell 4)
      have pp5i := fun i : Later W1 => i.cell ((k1).cell 5)
      have kk0i := fun i : Later W1 => i.cell ((k2).cell 0)
      have kk1i := fun i : Later W1 => i.cell ((k2).cell 1)
      have kk2i := fun i : Later W1 => i.cell ((k2).cell 2)
      have qbi := fun i : Later W1 => i.cell (HX1.out.cell qb0)
      have cLf2 := fun W' (e : Ext W1 W') => cLf W' (HX1.out.trans e)
      clear k1 k2 cLf qb0
      refine wp_region_later (by kernel_rfl) (by kernel_rfl) ?_
      repeat (go_big_quiet_step (first
        | (go_at_call 16; exact Later.calls (cCp _))
        | (go_at_call 17; exact Later.calls (cLf2 _ (Later.ext _)))))
      refine wpQuiet_nil ?_
      rintro w14 ⟨i, hi⟩
      have x14 : Ext W1 w14 := by rw [hi]; exact i.ext
      have HX14 := Lib.hid x14
      clear hi i x14 qbi cLf2 cCp pp0i pp1i pp2i pp3i pp4i pp5i kk0i kk1i kk2i
      have HB14 := Lib.hid (ext_blk HX14.out HB1.out)
      have HXZ := Lib.hid (HXW.out.trans (HX1.out.trans HX14.out))
      have HL14 := Lib.hid (ext_blk HXZ.out HL8.out)
      have HH14 := Lib.hid (ext_blk HXZ.out HH8.out)
      have HV14 := Lib.hid (HV8.out.trans HXZ.out)
      have HR14 : Hid (Reads w14 w14.heap.size 2 A5 N (sumV T)) := Lib.hid ((HR5.out.below (HX8.out.trans HXZ.out).out).more (HX8.out.trans HXZ.out).size)
      obtain ⟨G, hG⟩ : ∃ G, G = gk - 1 := ⟨_, rfl⟩
      clear HB1 HX1 HX14 qb
      go_upto_region 17 with (fail)
      go_wp2
      go_loopg [16, 103] N (fun m s16 s103 wz => ∃ i : Nat, i + m = N ∧ s16 = .bool (decide (H ∈ T.take i)) ∧ s103 = .int .i64 i ∧ Ext w14 wz)
      case atStart => exact ⟨0, by omega, by simp, rfl, Ext.refl _⟩
      case round =>
        obtain ⟨i, hi, rfl, rfl, hz⟩ := hrel
        by_cases h : i < N
        · obtain ⟨x, hxi⟩ : ∃ s, T[i]? = some s := ⟨_, List.getElem?_eq_getElem (by rw [HTL.out.1]; exact h)⟩
          obtain ⟨ad2, rfl, hb2, r0, r1⟩ := reads_sum (HR14.out.below hz.out) hxi
          have ht1 : T.take (i + 1) = T.take i ++ [x] := by rw [List.take_add_one, hxi]; rfl
          obtain ⟨W2, e2⟩ : ∃ U, wr.alloc (.cells #[.int .u64 (x.1 : Int), .int .u64 (x.2 : Int)] 34) = U := ⟨_, rfl⟩
          have b2 : Blk W2 wr.heap.size 34 #[.int .u64 (x.1 : Int), .int .u64 (x.2 : Int)] := by rw [← e2]; exact Blk.new _ _ _
          have x2 : Ext wr W2 := by rw [← e2]; exact (Ext.refl _).alloc _
          have hib : (i : Int) ≤ 30 := by omega
          have hin : i < N := h
          have HZ2 := Lib.hid (hz.trans x2)
          have HI := Lib.hid hi
          have HT1 := Lib.hid ht1
          have HXI := Lib.hid hxi
          have n0 := b2.cell 0
          have n1 := b2.cell 1
          have B2 := Lib.hid b2
          obtain ⟨p0, p1, p2, p3, p4, p5, -, -, -, -, -, -⟩ := lst6 (ext_blk (hz.trans x2) HB14.out)
          clear hi ht1 hxi b2 x2 hb2 hz h
          go_upto_region 20 with (fail)
          try rw [e2]
          clear e2 r0 r1
          by_cases hxe : x = H
          · obtain rfl : H = x := hxe.symm
            have qb := eq2_same (H.1 : Int) (H.2 : Int)
            obtain ⟨met, hmet⟩ : ∃ b, decide (H ∈ T.take i) = b := ⟨_, rfl⟩
            rw [hmet]
            have HMT : Hid (decide (H ∈ T.take (i + 1)) = true) := Lib.hid (by rw [HT1.out]; simp)
            clear hmet hxe
            cases met with
            | true =>
              go_wp2
              go_roundg (gk - 1)
              case measure => have := HI.out; omega
              case rel => exact ⟨i + 1, by have := HI.out; omega, by rw [HMT.out], int_congr (by omega), HZ2.out⟩
            | false =>
              go_upto_region 21 with (fail)
              have HPV := Lib.hid (HPvv.out i W2 (HV14.out.trans HZ2.out) hin)
              have cPP := HPV.out
              obtain ⟨m0, m1, m2, m3, m4, m5, -, -, -, -, -, -⟩ := lst6 (ext_blk HZ2.out HL14.out)
              obtain ⟨⟨h0, h1, h2, h3, h4, h5, h6⟩, -, -, -, -, -, -, -⟩ := lst7 (ext_blk HZ2.out HH14.out)
              clear p0 p1 p2 p3 p4 p5 n0 n1 qb
              go_upto_region 22 with (go_at_call 18; refine cPP.mono ?_; clear cPP m0 m1 m2 m3 m4 m5 h0 h1 h2 h3 h4 h5 h6; rintro e w3 ⟨A3, c3, rfl, hr3, x3⟩; have HR3 := Lib.hid hr3; have HX3 := Lib.hid x3; clear hr3 x3)
              obtain ⟨PF, hPF⟩ : ∃ PF, proveF prS zS T i = PF := ⟨_, rfl⟩
              obtain ⟨W4, e4⟩ : ∃ U, w3.alloc (.cells #[.int .i64 0, .int .i64 i, .int .i64 N, .slice A3 (proveF prS zS T i).length c3] 59) = U := ⟨_, rfl⟩
              have b4 : Blk W4 w3.heap.size 59 #[.int .i64 0, .int .i64 i, .int .i64 N, .slice A3 (proveF prS zS T i).length c3] := by rw [← e4]; exact Blk.new _ _ _
              have x4 : Ext w3 W4 := by rw [← e4]; exact (Ext.refl _).alloc _
              try rw [e4]
              have cCC := HCk.out i H A3 c3 W4 HXI.out ((HR3.out.below x4.out).more x4.size)
              have HX4 := Lib.hid (HX3.out.trans x4)
              rw [hPF] at cCC b4 ⊢
              obtain ⟨n0, n1, n2, n3, -, -, -, -⟩ := lst4 b4
              obtain ⟨⟨h0, h1, h2, h3, h4, h5, h6⟩, -, -, -, -, -, -, -⟩ := lst7 (ext_blk (HZ2.out.trans HX4.out) HH14.out)
              have r0 := (ext_blk HX4.out B2.out).cell 0
              have r1 := (ext_blk HX4.out B2.out).cell 1
              clear e4 b4 x4 hPF
              go_wp2_with (go_at_call 19; refine cCC.mono ?_; clear cCC; rintro e w5x ⟨rfl, x5⟩)
              go_roundg (gk - 1)
              case measure => have := HI.out; omega
              case rel => exact ⟨i + 1, by have := HI.out; omega, by rw [HMT.out], int_congr (by omega), HZ2.out.trans (HX4.out.trans x5)⟩
          · have qb := eq2 (x.1 : Int) (x.2 : Int) (H.1 : Int) (H.2 : Int)
            have hd : decide ((x.1 : Int) = H.1 ∧ (x.2 : Int) = H.2) = false := decide_eq_false (fun e => hxe (Prod.ext (Int.ofNat_inj.1 e.1) (Int.ofNat_inj.1 e.2)))
            rw [hd] at qb
            have HMT : Hid (decide (H ∈ T.take (i + 1)) = decide (H ∈ T.take i)) := Lib.hid (by
              rw [HT1.out]
              congr 1
              rw [List.mem_append, List.mem_singleton]
              exact propext ⟨fun h => h.elim id (fun e => absurd e.symm hxe), .inl⟩)
            obtain ⟨met, hmet⟩ : ∃ b, decide (H ∈ T.take i) = b := ⟨_, rfl⟩
            rw [hmet] at HMT ⊢
            clear hd hxe hmet
            go_wp2
            go_roundg (gk - 1)
            case measure => have := HI.out; omega
            case rel => exact ⟨i + 1, by have := HI.out; omega, by rw [HMT.out], int_congr (by omega), HZ2.out⟩
        · obtain rfl : i = N := by omega
          have hall : decide (H ∈ T.take i) = true := by rw [List.take_of_length_le (by rw [HTL.out.1]; exact Nat.le_refl _)]; exact decide_eq_true HHI.out
          rw [hall]
          have HZZ := Lib.hid (HXZ.out.trans hz)
          clear hall hi h hz
          go_wp2
          go_roundg G
          case measure => have := HJ.out; omega
          case rel => exact ⟨j + 1, by have := HJ.out; omega, int_congr (by omega), HZZ.out⟩
    · obtain rfl : j = bs.length := by omega
      have cM := missing_none d.key (bs.zip (lgFill bs).2) (by rw [List.length_zip]; have := HFB.out; omega) (fun p hp => by have := (fill_good bs HFB.out HBK.out).2.1 p.2 (List.of_mem_zip hp).2; omega) T (by have := HTL.out; omega) HTW.out (fun p hp => HIN.out p.1 (List.of_mem_zip hp).1) A2 c2 A5 c5 N R E S P
      have hzl : (bs.zip (lgFill bs).2).length = bs.length := by rw [List.length_zip, fill_len]; simp
      rw [hzl, HTL.out.1] at cM
      have hpm : Reads V V.heap.size 6 A2 bs.length ((bs.zip (lgFill bs).2).flatMap (prC d.key)) := by rw [HKEY.out]; exact HPV.out
      have hv := HV8.out.trans hx
      have cM2 := cM wr ((hpm.below hv.out).more hv.size) ((HR5.out.below (HX8.out.trans hx).out).more (HX8.out.trans hx).size)
      obtain ⟨m0, m1, m2, -, -, -⟩ := lst3 (ext_blk hx HK8.out)
      obtain ⟨⟨n0, n1, n2, n3, n4, n5, n6⟩, -, -, -, -, -, -, -⟩ := lst7 (ext_blk hx HH8.out)
      have HXX := Lib.hid (HXV.out.trans hv)
      clear cM hpm hv hx hj h hzl
      go_wp2_with (go_at_call 20; refine cM2.mono ?_; clear cM2; rintro e w9 ⟨rfl, x9⟩)
      go_ret
      exact ⟨rfl, HXX.out.trans x9⟩
end Go.Proofs.YtfpmfegmehbfbaaGreatDoor
