/- Parts of the proofs, put together: Lg7. -/
import Derived.Test.YtfpmfegmehbfbaaGreatDoorV26
import Derived.Test.YtfpmfegmehbfbaaGreatDoorV28
/- Logs, walked: a view's head. -/
namespace Go.Proofs.YtfpmfegmehbfbaaGreatDoor
set_option linter.unusedVariables false
set_option linter.unusedSimpArgs false
set_option linter.unusedSimpArgs false
open Go.RowKit Go.Shelf Go.Maps

/-- A head: its cells. -/
def headV (n t : Nat) (r : Nat × Nat) (E S : Nat) : Value := .agg #[.int .i64 0, .int .i64 (n : Int), .int .u64 (r.1 : Int), .int .u64 (r.2 : Int), .int .i64 (t : Int), .int .u64 (E : Int), .int .u64 (S : Int)]
section
variable {w W : World} {g : Nat} {T : TypeId} {a b c d e f k : Value}
theorem lst7 (h : Blk W g T #[a, b, c, d, e, f, k]) : (W.cell? ⟨g, 0, none⟩ = some a ∧ W.cell? ⟨g, 1, none⟩ = some b ∧ W.cell? ⟨g, 2, none⟩ = some c ∧ W.cell? ⟨g, 3, none⟩ = some d ∧ W.cell? ⟨g, 4, none⟩ = some e ∧ W.cell? ⟨g, 5, none⟩ = some f ∧ W.cell? ⟨g, 6, none⟩ = some k) ∧
    W.frozen? ⟨g, 0, none⟩ = false ∧ W.frozen? ⟨g, 1, none⟩ = false ∧ W.frozen? ⟨g, 2, none⟩ = false ∧ W.frozen? ⟨g, 3, none⟩ = false ∧ W.frozen? ⟨g, 4, none⟩ = false ∧ W.frozen? ⟨g, 5, none⟩ = false ∧ W.frozen? ⟨g, 6, none⟩ = false :=
  ⟨⟨h.cell 0, h.cell 1, h.cell 2, h.cell 3, h.cell 4, h.cell 5, h.cell 6⟩, h.frozen 0, h.frozen 1, h.frozen 2, h.frozen 3, h.frozen 4, h.frozen 5, h.frozen 6⟩
set_option maxHeartbeats 4000000 in
theorem lblk7 (h : Blk W g T #[a, b, c, d, e, f, k]) (a' b' c' d' e' f' k' : Value) : Blk (((((((W.setCell ⟨g, 0, none⟩ a').setCell ⟨g, 1, none⟩ b').setCell ⟨g, 2, none⟩ c').setCell ⟨g, 3, none⟩ d').setCell ⟨g, 4, none⟩ e').setCell ⟨g, 5, none⟩ f').setCell ⟨g, 6, none⟩ k') g T #[a', b', c', d', e', f', k'] :=
  (((((((h.set_ 0 a').set_ 1 b').set_ 2 c').set_ 3 d').set_ 4 e').set_ 5 f').set_ 6 k')
set_option maxHeartbeats 4000000 in
theorem lext7 (h : Ext w W) (hg : w.heap.size ≤ g) (a' b' c' d' e' f' k' : Value) : Ext w (((((((W.setCell ⟨g, 0, none⟩ a').setCell ⟨g, 1, none⟩ b').setCell ⟨g, 2, none⟩ c').setCell ⟨g, 3, none⟩ d').setCell ⟨g, 4, none⟩ e').setCell ⟨g, 5, none⟩ f').setCell ⟨g, 6, none⟩ k') :=
  ((((((h.setCell (p := ⟨g, 0, none⟩) hg _).setCell (p := ⟨g, 1, none⟩) hg _).setCell (p := ⟨g, 2, none⟩) hg _).setCell (p := ⟨g, 3, none⟩) hg _).setCell (p := ⟨g, 4, none⟩) hg _).setCell (p := ⟨g, 5, none⟩) hg _).setCell (p := ⟨g, 6, none⟩) hg _
end
set_option maxRecDepth 100000 in
set_option maxHeartbeats 8000000 in
theorem lHead_any (d : LogX) (v : Nat) (hv : v ≤ 1) (n : Nat) (hn : n ≤ d.ls.length) (t : Nat) (ht : t ≤ 1000) (w : World) (h : LogW w w.heap.size d) :
    Calls Tryz.prog 9 #[logV d, .int .i64 v, .int .i64 n, .int .i64 t] w fun e w' => e = .returned (.tuple #[headV n t (rootF prS zS ((leafS d.ls).take n)) (sgE d.key (headL n t (rootF prS zS ((leafS d.ls).take n)))) (sgS d.key (headL n t (rootF prS zS ((leafS d.ls).take n)))), .int .i64 0]) ∧ Ext w w' := by
  obtain ⟨W0, e0⟩ : ∃ W, (w.alloc (.cells #[.int .i64 0, .int .u64 (d.key : Int), .int .i64 20, .slice d.lA d.ls.length d.lc, .slice none 0 0, .slice d.wA d.ws.length d.wc] 29)).alloc (.cells #[.int .i64 0, .int .i64 0, .int .u64 0, .int .u64 0, .int .i64 0, .int .u64 0, .int .u64 0] 38) = W := ⟨_, rfl⟩
  have b0 : Blk W0 w.heap.size 29 #[.int .i64 0, .int .u64 (d.key : Int), .int .i64 20, .slice d.lA d.ls.length d.lc, .slice none 0 0, .slice d.wA d.ws.length d.wc] := by rw [← e0]; exact (Blk.new _ _ _).alloc _
  have b1 : Blk W0 (w.heap.size + 1) 38 #[.int .i64 0, .int .i64 0, .int .u64 0, .int .u64 0, .int .i64 0, .int .u64 0, .int .u64 0] := by
    rw [← e0]
    have := Blk.new (w.alloc (.cells #[.int .i64 0, .int .u64 (d.key : Int), .int .i64 20, .slice d.lA d.ls.length d.lc, .slice none 0 0, .slice d.wA d.ws.length d.wc] 29)) 38 #[.int .i64 0, .int .i64 0, .int .u64 0, .int .u64 0, .int .i64 0, .int .u64 0, .int .u64 0]
    simpa using this
  have x0 : Ext w W0 := by rw [← e0]; exact ((Ext.refl w).alloc _).alloc _
  have c1 := lfirst_any d v hv n hn W0 (h.ext x0)
  have hls : d.ls.length ≤ 30 := by have := h.lens; omega
  have hTl : ((leafS d.ls).take n).length = n := by rw [List.length_take, leafS_len]; omega
  obtain ⟨T, hT⟩ : ∃ T, (leafS d.ls).take n = T := ⟨_, rfl⟩
  rw [hT] at hTl c1 ⊢
  have cRt := fun A c (hc : n ≤ c) W (hr : Reads W W.heap.size 2 A n (sumV T)) => Root_any T (by omega) A c (by omega) W (by rw [hTl]; exact hr)
  rw [hTl] at cRt
  obtain ⟨R, hR⟩ : ∃ R, rootF prS zS T = R := ⟨_, rfl⟩
  rw [hR] at cRt ⊢
  have cO := fun W => ofHead_any n t R (by omega) ht (.int .u64 0) (.int .u64 0) W
  obtain ⟨L, hL⟩ : ∃ L, headL n t R = L := ⟨_, rfl⟩
  have hLl := headL_len n t R
  have hLt := headL_lt n t R
  rw [hL] at cO hLl hLt ⊢
  have cS := fun A c (hc : L.length ≤ c) W (hr : Reads W W.heap.size 1 A L.length (bv L)) => Sign_any d.key h.odd L hLt (by omega) A c hc W hr
  obtain ⟨E, hE⟩ : ∃ E, sgE d.key L = E := ⟨_, rfl⟩
  obtain ⟨S, hS⟩ : ∃ S, sgS d.key L = S := ⟨_, rfl⟩
  rw [hE, hS] at cS ⊢
  unfold logV at c1 ⊢
  unfold headV
  have cN := fun w => lnum_any (t : Int) w
  rw [decide_eq_true (by omega)] at cN
  obtain ⟨m0, m1, m2, m3, m4, m5, -, -, -, -, -, -⟩ := lst6 b0
  have HX0 := Lib.hid x0
  have HB0 := Lib.hid b0
  have HB1 := Lib.hid b1
  clear b0 b1 x0 h hT hv hls hn hTl hR hL hLl hLt hE hS
  go_enter Tryz.func9, Tryz.ntmps9
  go_upto_region 1 with (fail)
  try rw [e0]
  clear e0
  go_upto_region 6 with (first
    | (go_at_call 50; refine c1.mono ?_; clear c1 m0 m1 m2 m3 m4 m5; rintro e w1 ⟨A, c, rfl, hc, hr, x1⟩)
    | (go_at_call 51; refine (cN _).mono ?_; clear cN; rintro e w' ⟨rfl, rfl⟩))
  have HX1 := Lib.hid x1
  have HR1 := Lib.hid hr
  have HC1 := Lib.hid hc
  have hS6 := fun (V : World) (e : Ext w1 V) => (ext_blk (x1.trans e) HB0.out).cell 0
  clear hc hr x1
  refine F_start (n := 9) (ls := #[false, false, false, false, false, false, false, false, false]) (fun w' => w'.cell? ⟨w.heap.size, 0, none⟩ = some (.int .i64 0)) 9 (by kernel_rfl) (by kernel_rfl) (by kernel_rfl) (hS6 _ (Ext.refl w1).drew) (fun hHeld => ?_)
  refine F_pure (i := 0) (some 35) (ls' := #[true, false, false, false, false, false, false, false, false]) rfl rfl (by kernel_rfl) (by kernel_rfl) (by kernel_rfl) (by kernel_rfl) (by rfl) (v := ?_) ?_ ?_
  rotate_left 1
  · intro w; go_simp; try with_reducible rfl
  try simp only [Act.put, List.setIfInBounds_toArray, List.set_cons_zero, List.set_cons_succ]
  refine F_take (i := 1) (some 36) (ls' := #[true, true, false, false, false, false, false, false, false]) rfl rfl (by kernel_rfl) (by kernel_rfl) (by kernel_rfl) (by kernel_rfl) (by kernel_rfl) (by rfl) (v := ?_) ?_ hHeld ?_
  rotate_left 1
  · intro w hSw; (try dsimp only at hSw); go_simp; try with_reducible rfl
  try simp only [Act.put, List.setIfInBounds_toArray, List.set_cons_zero, List.set_cons_succ]
  refine F_pure (i := 2) (some 37) (ls' := #[true, true, true, false, false, false, false, false, false]) rfl rfl (by kernel_rfl) (by kernel_rfl) (by kernel_rfl) (by kernel_rfl) (by rfl) (v := ?_) ?_ ?_
  rotate_left 1
  · intro w; go_simp; try with_reducible rfl
  try simp only [Act.put, List.setIfInBounds_toArray, List.set_cons_zero, List.set_cons_succ]
  refine F_pure (i := 3) (some 38) (ls' := #[true, true, true, true, false, false, false, false, false]) rfl rfl (by kernel_rfl) (by kernel_rfl) (by kernel_rfl) (by kernel_rfl) (by rfl) (v := ?_) ?_ ?_
  rotate_left 1
  · intro w; go_simp; try with_reducible rfl
  try simp only [Act.put, List.setIfInBounds_toArray, List.set_cons_zero, List.set_cons_succ]
  refine F_pure (i := 5) (some 40) (ls' := #[true, true, true, true, false, true, false, false, false]) rfl rfl (by kernel_rfl) (by kernel_rfl) (by kernel_rfl) (by kernel_rfl) (by rfl) (v := ?_) ?_ ?_
  rotate_left 1
  · intro w; go_simp; try with_reducible rfl
  try simp only [Act.put, List.setIfInBounds_toArray, List.set_cons_zero, List.set_cons_succ]
  refine F_some (is := [4, 7]) (by kernel_rfl) (by simp) (fun i hi => ?_)
  simp only [List.mem_cons, List.not_mem_nil, or_false] at hi
  rcases hi with rfl | rfl
  · refine F_way (S := fun w' => w'.cell? ⟨w.heap.size, 0, none⟩ = some (.int .i64 0)) (L := 9) (o := _) rfl (ls' := #[true, true, true, true, true, true, false, false, false]) (by kernel_rfl) (by rfl) (fun K hK => ?_)
    go_simp
    go_at_call 15
    refine (cRt A c HC1.out w1.drew HR1.out.drew).mono ?_
    clear cRt
    rintro e w2 ⟨rfl, x2⟩
    have X2 : Ext w1 w2 := (Ext.refl w1).drew.trans x2
    have hHeld2 := hS6 _ X2
    clear hHeld
    have hHeld := hHeld2
    clear hHeld2
    refine hK _ _ (fun _ _ => hHeld) ?_
    clear hK K
    try simp only [Act.put, List.setIfInBounds_toArray, List.set_cons_zero, List.set_cons_succ]
    refine F_pure (i := 6) (some 41) (ls' := #[true, true, true, true, true, true, true, false, false]) rfl rfl (by kernel_rfl) (by kernel_rfl) (by kernel_rfl) (by kernel_rfl) (by rfl) (v := ?_) ?_ ?_
    rotate_left 1
    · intro w; go_simp; try with_reducible rfl
    try simp only [Act.put, List.setIfInBounds_toArray, List.set_cons_zero, List.set_cons_succ]
    refine F_some (is := [7]) (by kernel_rfl) (by simp) (fun i hi => ?_)
    obtain rfl : i = 7 := by simpa using hi
    refine F_way (S := fun w' => w'.cell? ⟨w.heap.size, 0, none⟩ = some (.int .i64 0)) (L := 9) (o := _) rfl (ls' := #[true, true, true, true, true, true, true, true, false]) (by kernel_rfl) (by rfl) (fun K hK => ?_)
    go_simp
    have hHeld2 := hS6 _ (X2.alloc (.cells #[.int .i64 0, .int .i64 0, .int .u64 0, .int .u64 0, .int .i64 0, .int .u64 0, .int .u64 0] 38))
    clear hHeld
    have hHeld := hHeld2
    clear hHeld2
    refine hK _ _ (fun _ _ => hHeld) ?_
    clear hK K
    try simp only [Act.put, List.setIfInBounds_toArray, List.set_cons_zero, List.set_cons_succ]
    refine F_some (is := [8]) (by kernel_rfl) (by simp) (fun i hi => ?_)
    obtain rfl : i = 8 := by simpa using hi
    refine F_way (S := fun w' => w'.cell? ⟨w.heap.size, 0, none⟩ = some (.int .i64 0)) (L := 9) (o := _) rfl (ls' := #[true, true, true, true, true, true, true, true, true]) (by kernel_rfl) (by rfl) (fun K hK => ?_)
    go_simp
    have hHeld2 := hS6 _ (X2.alloc (.cells #[.int .i64 0, .int .i64 (n : Int), .int .u64 (R.1 : Int), .int .u64 (R.2 : Int), .int .i64 (t : Int), .int .u64 0, .int .u64 0] 38))
    clear hHeld
    have hHeld := hHeld2
    clear hHeld2
    refine hK _ _ (fun _ _ => hHeld) ?_
    clear hK K
    try simp only [Act.put, List.setIfInBounds_toArray, List.set_cons_zero, List.set_cons_succ]
    refine F_done (by kernel_rfl) ?_
    clear hHeld hS6
    obtain ⟨V, hV⟩ : ∃ V, (w2.alloc (.cells #[.int .i64 0, .int .i64 (n : Int), .int .u64 (R.1 : Int), .int .u64 (R.2 : Int), .int .i64 (t : Int), .int .u64 0, .int .u64 0] 38)) = V := ⟨_, rfl⟩
    rw [hV]
    have hG : Blk V w2.heap.size 38 #[.int .i64 0, .int .i64 (n : Int), .int .u64 (R.1 : Int), .int .u64 (R.2 : Int), .int .i64 (t : Int), .int .u64 0, .int .u64 0] := by rw [← hV]; exact Blk.new _ _ _
    have xV : Ext w1 V := by rw [← hV]; exact X2.alloc _
    have hg : w1.heap.size ≤ w2.heap.size := X2.size
    obtain ⟨gh, hgh⟩ : ∃ g, w2.heap.size = g := ⟨_, rfl⟩
    rw [hgh] at hG hg ⊢
    clear hV hgh x2 X2
    have hS7 := fun (U : World) (e : Ext V U) => And.intro ((ext_blk ((HX1.out.trans xV).trans e) HB0.out).cell 1) (And.intro ((ext_blk e hG).cell 0) (And.intro ((ext_blk e hG).cell 1) (And.intro ((ext_blk e hG).cell 2) (And.intro ((ext_blk e hG).cell 3) (And.intro ((ext_blk e hG).cell 4) (And.intro ((ext_blk e hG).cell 5) ((ext_blk e hG).cell 6)))))))
    have HG := Lib.hid hG
    have HXV := Lib.hid (HX1.out.trans xV)
    have HS7 := Lib.hid hS7
    have HGg := Lib.hid hg
    clear hG xV hS7 hg
    go_upto_region 7 with (fail)
    refine F_start (n := 11) (ls := #[false, false, false, false, false, false, false, false, false, false, false]) (fun w' => w'.cell? ⟨w.heap.size, 1, none⟩ = some (.int .u64 (d.key : Int)) ∧ w'.cell? ⟨gh, 0, none⟩ = some (.int .i64 0) ∧ w'.cell? ⟨gh, 1, none⟩ = some (.int .i64 (n : Int)) ∧ w'.cell? ⟨gh, 2, none⟩ = some (.int .u64 (R.1 : Int)) ∧ w'.cell? ⟨gh, 3, none⟩ = some (.int .u64 (R.2 : Int)) ∧ w'.cell? ⟨gh, 4, none⟩ = some (.int .i64 (t : Int)) ∧ w'.cell? ⟨gh, 5, none⟩ = some (.int .u64 0) ∧ w'.cell? ⟨gh, 6, none⟩ = some (.int .u64 0)) 9 (by kernel_rfl) (by kernel_rfl) (by kernel_rfl) (HS7.out _ (Ext.refl V).drew) (fun hHeld => ?_)
    refine F_pure (i := 0) (some 43) (ls' := #[true, false, false, false, false, false, false, false, false, false, false]) rfl rfl (by kernel_rfl) (by kernel_rfl) (by kernel_rfl) (by kernel_rfl) (by rfl) (v := ?_) ?_ ?_
    rotate_left 1
    · intro w; go_simp; try with_reducible rfl
    try simp only [Act.put, List.setIfInBounds_toArray, List.set_cons_zero, List.set_cons_succ]
    refine F_take (i := 1) (some 44) (ls' := #[true, true, false, false, false, false, false, false, false, false, false]) rfl rfl (by kernel_rfl) (by kernel_rfl) (by kernel_rfl) (by kernel_rfl) (by kernel_rfl) (by rfl) (v := ?_) ?_ hHeld ?_
    rotate_left 1
    · intro w hSw; (try dsimp only at hSw); go_simp; try with_reducible rfl
    try simp only [Act.put, List.setIfInBounds_toArray, List.set_cons_zero, List.set_cons_succ]
    refine F_take (i := 2) (some 45) (ls' := #[true, true, true, false, false, false, false, false, false, false, false]) rfl rfl (by kernel_rfl) (by kernel_rfl) (by kernel_rfl) (by kernel_rfl) (by kernel_rfl) (by rfl) (v := ?_) ?_ hHeld ?_
    rotate_left 1
    · intro w hSw; (try dsimp only at hSw); go_simp; try with_reducible rfl
    try simp only [Act.put, List.setIfInBounds_toArray, List.set_cons_zero, List.set_cons_succ]
    refine F_some (is := [3]) (by kernel_rfl) (by simp) (fun i hi => ?_)
    obtain rfl : i = 3 := by simpa using hi
    refine F_way (S := fun w' => w'.cell? ⟨w.heap.size, 1, none⟩ = some (.int .u64 (d.key : Int)) ∧ w'.cell? ⟨gh, 0, none⟩ = some (.int .i64 0) ∧ w'.cell? ⟨gh, 1, none⟩ = some (.int .i64 (n : Int)) ∧ w'.cell? ⟨gh, 2, none⟩ = some (.int .u64 (R.1 : Int)) ∧ w'.cell? ⟨gh, 3, none⟩ = some (.int .u64 (R.2 : Int)) ∧ w'.cell? ⟨gh, 4, none⟩ = some (.int .i64 (t : Int)) ∧ w'.cell? ⟨gh, 5, none⟩ = some (.int .u64 0) ∧ w'.cell? ⟨gh, 6, none⟩ = some (.int .u64 0)) (L := 9) (o := _) rfl (ls' := #[true, true, true, true, false, false, false, false, false, false, false]) (by kernel_rfl) (by rfl) (fun K hK => ?_)
    go_simp
    go_at_call 52
    refine (cO _).mono ?_
    clear cO
    rintro e w3 ⟨A2, c2, rfl, hc2, hr2, x3⟩
    have X3 : Ext V w3 := (Ext.refl V).drew.trans x3
    have hHeld2 := HS7.out _ X3
    clear hHeld
    have hHeld := hHeld2
    clear hHeld2
    refine hK _ _ (fun _ _ => hHeld) ?_
    clear hK K
    try simp only [Act.put, List.setIfInBounds_toArray, List.set_cons_zero, List.set_cons_succ]
    refine F_some (is := [4]) (by kernel_rfl) (by simp) (fun i hi => ?_)
    obtain rfl : i = 4 := by simpa using hi
    refine F_way (S := fun w' => w'.cell? ⟨w.heap.size, 1, none⟩ = some (.int .u64 (d.key : Int)) ∧ w'.cell? ⟨gh, 0, none⟩ = some (.int .i64 0) ∧ w'.cell? ⟨gh, 1, none⟩ = some (.int .i64 (n : Int)) ∧ w'.cell? ⟨gh, 2, none⟩ = some (.int .u64 (R.1 : Int)) ∧ w'.cell? ⟨gh, 3, none⟩ = some (.int .u64 (R.2 : Int)) ∧ w'.cell? ⟨gh, 4, none⟩ = some (.int .i64 (t : Int)) ∧ w'.cell? ⟨gh, 5, none⟩ = some (.int .u64 0) ∧ w'.cell? ⟨gh, 6, none⟩ = some (.int .u64 0)) (L := 9) (o := _) rfl (ls' := #[true, true, true, true, true, false, false, false, false, false, false]) (by kernel_rfl) (by rfl) (fun K hK => ?_)
    go_simp
    go_at_call 41
    refine (cS A2 c2 hc2 w3 hr2).mono ?_
    clear cS
    rintro e w4 ⟨rfl, x4⟩
    have X4 := X3.trans x4
    have k7 := ext_blk X4 HG.out
    obtain ⟨⟨n0, n1, n2, n3, n4, n5, n6⟩, f0, f1, f2, f3, f4, f5, f6⟩ := lst7 k7
    have hHeld2 := HS7.out _ X4
    clear hHeld
    have hHeld := hHeld2
    clear hHeld2
    refine hK _ _ (fun _ _ => hHeld) ?_
    clear hK K
    try simp only [Act.put, List.setIfInBounds_toArray, List.set_cons_zero, List.set_cons_succ]
    refine F_pure (i := 5) (some 42) (ls' := #[true, true, true, true, true, true, false, false, false, false, false]) rfl rfl (by kernel_rfl) (by kernel_rfl) (by kernel_rfl) (by kernel_rfl) (by rfl) (v := ?_) ?_ ?_
    rotate_left 1
    · intro w; go_simp; try with_reducible rfl
    try simp only [Act.put, List.setIfInBounds_toArray, List.set_cons_zero, List.set_cons_succ]
    refine F_pure (i := 6) (some 48) (ls' := #[true, true, true, true, true, true, true, false, false, false, false]) rfl rfl (by kernel_rfl) (by kernel_rfl) (by kernel_rfl) (by kernel_rfl) (by rfl) (v := ?_) ?_ ?_
    rotate_left 1
    · intro w; go_simp; try with_reducible rfl
    try simp only [Act.put, List.setIfInBounds_toArray, List.set_cons_zero, List.set_cons_succ]
    refine F_pure (i := 7) (some 49) (ls' := #[true, true, true, true, true, true, true, true, false, false, false]) rfl rfl (by kernel_rfl) (by kernel_rfl) (by kernel_rfl) (by kernel_rfl) (by rfl) (v := ?_) ?_ ?_
    rotate_left 1
    · intro w; go_simp; try with_reducible rfl
    try simp only [Act.put, List.setIfInBounds_toArray, List.set_cons_zero, List.set_cons_succ]
    refine F_pure (i := 8) (some 50) (ls' := #[true, true, true, true, true, true, true, true, true, false, false]) rfl rfl (by kernel_rfl) (by kernel_rfl) (by kernel_rfl) (by kernel_rfl) (by rfl) (v := ?_) ?_ ?_
    rotate_left 1
    · intro w; go_simp; try with_reducible rfl
    try simp only [Act.put, List.setIfInBounds_toArray, List.set_cons_zero, List.set_cons_succ]
    refine F_some (is := [9]) (by kernel_rfl) (by simp) (fun i hi => ?_)
    obtain rfl : i = 9 := by simpa using hi
    refine F_way (S := fun w' => w'.cell? ⟨w.heap.size, 1, none⟩ = some (.int .u64 (d.key : Int)) ∧ w'.cell? ⟨gh, 0, none⟩ = some (.int .i64 0) ∧ w'.cell? ⟨gh, 1, none⟩ = some (.int .i64 (n : Int)) ∧ w'.cell? ⟨gh, 2, none⟩ = some (.int .u64 (R.1 : Int)) ∧ w'.cell? ⟨gh, 3, none⟩ = some (.int .u64 (R.2 : Int)) ∧ w'.cell? ⟨gh, 4, none⟩ = some (.int .i64 (t : Int)) ∧ w'.cell? ⟨gh, 5, none⟩ = some (.int .u64 0) ∧ w'.cell? ⟨gh, 6, none⟩ = some (.int .u64 0)) (L := 9) (o := _) rfl (ls' := #[true, true, true, true, true, true, true, true, true, true, false]) (by kernel_rfl) (by rfl) (fun K hK => ?_)
    clear hHeld
    go_simp
    refine hK _ _ (fun h _ => absurd h (by decide)) ?_
    clear hK K
    try simp only [Act.put, List.setIfInBounds_toArray, List.set_cons_zero, List.set_cons_succ]
    refine F_some (is := [10]) (by kernel_rfl) (by simp) (fun i hi => ?_)
    obtain rfl : i = 10 := by simpa using hi
    refine F_way (S := fun w' => w'.cell? ⟨w.heap.size, 1, none⟩ = some (.int .u64 (d.key : Int)) ∧ w'.cell? ⟨gh, 0, none⟩ = some (.int .i64 0) ∧ w'.cell? ⟨gh, 1, none⟩ = some (.int .i64 (n : Int)) ∧ w'.cell? ⟨gh, 2, none⟩ = some (.int .u64 (R.1 : Int)) ∧ w'.cell? ⟨gh, 3, none⟩ = some (.int .u64 (R.2 : Int)) ∧ w'.cell? ⟨gh, 4, none⟩ = some (.int .i64 (t : Int)) ∧ w'.cell? ⟨gh, 5, none⟩ = some (.int .u64 0) ∧ w'.cell? ⟨gh, 6, none⟩ = some (.int .u64 0)) (L := 9) (o := _) rfl (ls' := #[true, true, true, true, true, true, true, true, true, true, true]) (by kernel_rfl) (by rfl) (fun K hK => ?_)
    go_simp
    refine hK _ _ (fun h _ => absurd h (by decide)) ?_
    clear hK K
    try simp only [Act.put, List.setIfInBounds_toArray, List.set_cons_zero, List.set_cons_succ]
    refine F_done (by kernel_rfl) ?_
    clear n0 n1 n2 n3 n4 n5 n6 f0 f1 f2 f3 f4 f5 f6
    obtain ⟨U, hU⟩ : ∃ U, (w4.setCell ⟨gh, 5, none⟩ (.int .u64 (E : Int))).setCell ⟨gh, 6, none⟩ (.int .u64 (S : Int)) = U := ⟨_, rfl⟩
    have u1 : Blk U gh 38 #[.int .i64 0, .int .i64 (n : Int), .int .u64 (R.1 : Int), .int .u64 (R.2 : Int), .int .i64 (t : Int), .int .u64 (E : Int), .int .u64 (S : Int)] := by rw [← hU]; exact (k7.set_ 5 (.int .u64 (E : Int))).set_ 6 (.int .u64 (S : Int))
    have hne : gh ≠ w.heap.size + 1 := by have := HB1.out.lt; have := HX1.out.size; have := HGg.out; omega
    have u2 : Blk U (w.heap.size + 1) 38 #[.int .i64 0, .int .i64 0, .int .u64 0, .int .u64 0, .int .i64 0, .int .u64 0, .int .u64 0] := by rw [← hU]; exact (((ext_blk (HXV.out.trans X4) HB1.out).far (p := ⟨gh, 5, none⟩) (Ne.symm hne) _).far (p := ⟨gh, 6, none⟩) (Ne.symm hne) _)
    have u3 : Ext w U := by rw [← hU]; exact (((HX0.out.trans (HXV.out.trans X4)).setCell (p := ⟨gh, 5, none⟩) (by show w.heap.size ≤ gh; have := HX0.out.size; have := HX1.out.size; have := HGg.out; omega) _).setCell (p := ⟨gh, 6, none⟩) (by show w.heap.size ≤ gh; have := HX0.out.size; have := HX1.out.size; have := HGg.out; omega) _)
    try rw [hU]
    clear hU k7 X4 X3 x3 x4 hr2 hc2
    obtain ⟨⟨n0, n1, n2, n3, n4, n5, n6⟩, -, -, -, -, -, -, -⟩ := lst7 u1
    obtain ⟨⟨p0, p1, p2, p3, p4, p5, p6⟩, f0, f1, f2, f3, f4, f5, f6⟩ := lst7 u2
    have HU := Lib.hid u3
    have HU2 := Lib.hid u2
    clear u1 u2 u3 hne
    go_wp2
    obtain ⟨⟨r0, r1, r2, r3, r4, r5, r6⟩, -, -, -, -, -, -, -⟩ := lst7 (lblk7 HU2.out (.int .i64 0) (.int .i64 (n : Int)) (.int .u64 (R.1 : Int)) (.int .u64 (R.2 : Int)) (.int .i64 (t : Int)) (.int .u64 (E : Int)) (.int .u64 (S : Int)))
    refine bodyPost_ret (v := .tuple #[.agg #[.int .i64 0, .int .i64 (n : Int), .int .u64 (R.1 : Int), .int .u64 (R.2 : Int), .int .i64 (t : Int), .int .u64 (E : Int), .int .u64 (S : Int)], .int .i64 0]) (by simp [results, Tryz.results9, go_sem, r0, r1, r2, r3, r4, r5, r6]) rfl ⟨rfl, lext7 HU.out (Nat.le_add_right _ 1) (.int .i64 0) (.int .i64 (n : Int)) (.int .u64 (R.1 : Int)) (.int .u64 (R.2 : Int)) (.int .i64 (t : Int)) (.int .u64 (E : Int)) (.int .u64 (S : Int))⟩
  · refine F_way (S := fun w' => w'.cell? ⟨w.heap.size, 0, none⟩ = some (.int .i64 0)) (L := 9) (o := _) rfl (ls' := #[true, true, true, true, false, true, false, true, false]) (by kernel_rfl) (by rfl) (fun K hK => ?_)
    go_simp
    have hHeld2 := hS6 _ (((Ext.refl w1).drew).alloc (.cells #[.int .i64 0, .int .i64 0, .int .u64 0, .int .u64 0, .int .i64 0, .int .u64 0, .int .u64 0] 38))
    clear hHeld
    have hHeld := hHeld2
    clear hHeld2
    refine hK _ _ (fun _ _ => hHeld) ?_
    clear hK K
    try simp only [Act.put, List.setIfInBounds_toArray, List.set_cons_zero, List.set_cons_succ]
    refine F_some (is := [4]) (by kernel_rfl) (by simp) (fun i hi => ?_)
    obtain rfl : i = 4 := by simpa using hi
    refine F_way (S := fun w' => w'.cell? ⟨w.heap.size, 0, none⟩ = some (.int .i64 0)) (L := 9) (o := _) rfl (ls' := #[true, true, true, true, true, true, false, true, false]) (by kernel_rfl) (by rfl) (fun K hK => ?_)
    go_simp
    go_at_call 15
    refine (cRt A c HC1.out (w1.drew.alloc (.cells #[.int .i64 0, .int .i64 0, .int .u64 0, .int .u64 0, .int .i64 0, .int .u64 0, .int .u64 0] 38)) ((HR1.out.drew.alloc (Nat.le_refl _) _).more (by simp))).mono ?_
    clear cRt
    rintro e w2 ⟨rfl, x2⟩
    have hBH : Blk w2 w1.heap.size 38 #[.int .i64 0, .int .i64 0, .int .u64 0, .int .u64 0, .int .i64 0, .int .u64 0, .int .u64 0] := ext_blk x2 (Blk.new w1.drew 38 #[.int .i64 0, .int .i64 0, .int .u64 0, .int .u64 0, .int .i64 0, .int .u64 0, .int .u64 0])
    have X2 : Ext w1 w2 := (((Ext.refl w1).drew).alloc _).trans x2
    obtain ⟨⟨n0, n1, n2, n3, n4, n5, n6⟩, f0, f1, f2, f3, f4, f5, f6⟩ := lst7 hBH
    have hHeld2 := hS6 _ X2
    clear hHeld
    have hHeld := hHeld2
    clear hHeld2
    refine hK _ _ (fun _ _ => hHeld) ?_
    clear hK K
    try simp only [Act.put, List.setIfInBounds_toArray, List.set_cons_zero, List.set_cons_succ]
    refine F_pure (i := 6) (some 41) (ls' := #[true, true, true, true, true, true, true, true, false]) rfl rfl (by kernel_rfl) (by kernel_rfl) (by kernel_rfl) (by kernel_rfl) (by rfl) (v := ?_) ?_ ?_
    rotate_left 1
    · intro w; go_simp; try with_reducible rfl
    try simp only [Act.put, List.setIfInBounds_toArray, List.set_cons_zero, List.set_cons_succ]
    refine F_some (is := [8]) (by kernel_rfl) (by simp) (fun i hi => ?_)
    obtain rfl : i = 8 := by simpa using hi
    refine F_way (S := fun w' => w'.cell? ⟨w.heap.size, 0, none⟩ = some (.int .i64 0)) (L := 9) (o := _) rfl (ls' := #[true, true, true, true, true, true, true, true, true]) (by kernel_rfl) (by rfl) (fun K hK => ?_)
    go_simp
    have hHeld2 := hS6 _ (lext7 X2 (Nat.le_refl _) (.int .i64 0) (.int .i64 (n : Int)) (.int .u64 (R.1 : Int)) (.int .u64 (R.2 : Int)) (.int .i64 (t : Int)) (.int .u64 0) (.int .u64 0))
    clear hHeld
    have hHeld := hHeld2
    clear hHeld2
    refine hK _ _ (fun _ _ => hHeld) ?_
    clear hK K
    try simp only [Act.put, List.setIfInBounds_toArray, List.set_cons_zero, List.set_cons_succ]
    refine F_done (by kernel_rfl) ?_
    clear hHeld hS6
    obtain ⟨V, hV⟩ : ∃ V, (((((((w2.setCell ⟨w1.heap.size, 0, none⟩ (.int .i64 0)).setCell ⟨w1.heap.size, 1, none⟩ (.int .i64 (n : Int))).setCell ⟨w1.heap.size, 2, none⟩ (.int .u64 (R.1 : Int))).setCell ⟨w1.heap.size, 3, none⟩ (.int .u64 (R.2 : Int))).setCell ⟨w1.heap.size, 4, none⟩ (.int .i64 (t : Int))).setCell ⟨w1.heap.size, 5, none⟩ (.int .u64 0)).setCell ⟨w1.heap.size, 6, none⟩ (.int .u64 0)) = V := ⟨_, rfl⟩
    rw [hV]
    have hG : Blk V w1.heap.size 38 #[.int .i64 0, .int .i64 (n : Int), .int .u64 (R.1 : Int), .int .u64 (R.2 : Int), .int .i64 (t : Int), .int .u64 0, .int .u64 0] := by rw [← hV]; exact lblk7 hBH (.int .i64 0) (.int .i64 (n : Int)) (.int .u64 (R.1 : Int)) (.int .u64 (R.2 : Int)) (.int .i64 (t : Int)) (.int .u64 0) (.int .u64 0)
    have xV : Ext w1 V := by rw [← hV]; exact lext7 X2 (Nat.le_refl _) (.int .i64 0) (.int .i64 (n : Int)) (.int .u64 (R.1 : Int)) (.int .u64 (R.2 : Int)) (.int .i64 (t : Int)) (.int .u64 0) (.int .u64 0)
    have hg : w1.heap.size ≤ w1.heap.size := Nat.le_refl _
    clear hV x2 X2 hBH n0 n1 n2 n3 n4 n5 n6 f0 f1 f2 f3 f4 f5 f6
    have hS7 := fun (U : World) (e : Ext V U) => And.intro ((ext_blk ((HX1.out.trans xV).trans e) HB0.out).cell 1) (And.intro ((ext_blk e hG).cell 0) (And.intro ((ext_blk e hG).cell 1) (And.intro ((ext_blk e hG).cell 2) (And.intro ((ext_blk e hG).cell 3) (And.intro ((ext_blk e hG).cell 4) (And.intro ((ext_blk e hG).cell 5) ((ext_blk e hG).cell 6)))))))
    have HG := Lib.hid hG
    have HXV := Lib.hid (HX1.out.trans xV)
    have HS7 := Lib.hid hS7
    have HGg := Lib.hid hg
    clear hG xV hS7 hg
    go_upto_region 7 with (fail)
    refine F_start (n := 11) (ls := #[false, false, false, false, false, false, false, false, false, false, false]) (fun w' => w'.cell? ⟨w.heap.size, 1, none⟩ = some (.int .u64 (d.key : Int)) ∧ w'.cell? ⟨w1.heap.size, 0, none⟩ = some (.int .i64 0) ∧ w'.cell? ⟨w1.heap.size, 1, none⟩ = some (.int .i64 (n : Int)) ∧ w'.cell? ⟨w1.heap.size, 2, none⟩ = some (.int .u64 (R.1 : Int)) ∧ w'.cell? ⟨w1.heap.size, 3, none⟩ = some (.int .u64 (R.2 : Int)) ∧ w'.cell? ⟨w1.heap.size, 4, none⟩ = some (.int .i64 (t : Int)) ∧ w'.cell? ⟨w1.heap.size, 5, none⟩ = some (.int .u64 0) ∧ w'.cell? ⟨w1.heap.size, 6, none⟩ = some (.int .u64 0)) 9 (by kernel_rfl) (by kernel_rfl) (by kernel_rfl) (HS7.out _ (Ext.refl V).drew) (fun hHeld => ?_)
    refine F_pure (i := 0) (some 43) (ls' := #[true, false, false, false, false, false, false, false, false, false, false]) rfl rfl (by kernel_rfl) (by kernel_rfl) (by kernel_rfl) (by kernel_rfl) (by rfl) (v := ?_) ?_ ?_
    rotate_left 1
    · intro w; go_simp; try with_reducible rfl
    try simp only [Act.put, List.setIfInBounds_toArray, List.set_cons_zero, List.set_cons_succ]
    refine F_take (i := 1) (some 44) (ls' := #[true, true, false, false, false, false, false, false, false, false, false]) rfl rfl (by kernel_rfl) (by kernel_rfl) (by kernel_rfl) (by kernel_rfl) (by kernel_rfl) (by rfl) (v := ?_) ?_ hHeld ?_
    rotate_left 1
    · intro w hSw; (try dsimp only at hSw); go_simp; try with_reducible rfl
    try simp only [Act.put, List.setIfInBounds_toArray, List.set_cons_zero, List.set_cons_succ]
    refine F_take (i := 2) (some 45) (ls' := #[true, true, true, false, false, false, false, false, false, false, false]) rfl rfl (by kernel_rfl) (by kernel_rfl) (by kernel_rfl) (by kernel_rfl) (by kernel_rfl) (by rfl) (v := ?_) ?_ hHeld ?_
    rotate_left 1
    · intro w hSw; (try dsimp only at hSw); go_simp; try with_reducible rfl
    try simp only [Act.put, List.setIfInBounds_toArray, List.set_cons_zero, List.set_cons_succ]
    refine F_some (is := [3]) (by kernel_rfl) (by simp) (fun i hi => ?_)
    obtain rfl : i = 3 := by simpa using hi
    refine F_way (S := fun w' => w'.cell? ⟨w.heap.size, 1, none⟩ = some (.int .u64 (d.key : Int)) ∧ w'.cell? ⟨w1.heap.size, 0, none⟩ = some (.int .i64 0) ∧ w'.cell? ⟨w1.heap.size, 1, none⟩ = some (.int .i64 (n : Int)) ∧ w'.cell? ⟨w1.heap.size, 2, none⟩ = some (.int .u64 (R.1 : Int)) ∧ w'.cell? ⟨w1.heap.size, 3, none⟩ = some (.int .u64 (R.2 : Int)) ∧ w'.cell? ⟨w1.heap.size, 4, none⟩ = some (.int .i64 (t : Int)) ∧ w'.cell? ⟨w1.heap.size, 5, none⟩ = some (.int .u64 0) ∧ w'.cell? ⟨w1.heap.size, 6, none⟩ = some (.int .u64 0)) (L := 9) (o := _) rfl (ls' := #[true, true, true, true, false, false, false, false, false, false, false]) (by kernel_rfl) (by rfl) (fun K hK => ?_)
    go_simp
    go_at_call 52
    refine (cO _).mono ?_
    clear cO
    rintro e w3 ⟨A2, c2, rfl, hc2, hr2, x3⟩
    have X3 : Ext V w3 := (Ext.refl V).drew.trans x3
    have hHeld2 := HS7.out _ X3
    clear hHeld
    have hHeld := hHeld2
    clear hHeld2
    refine hK _ _ (fun _ _ => hHeld) ?_
    clear hK K
    try simp only [Act.put, List.setIfInBounds_toArray, List.set_cons_zero, List.set_cons_succ]
    refine F_some (is := [4]) (by kernel_rfl) (by simp) (fun i hi => ?_)
    obtain rfl : i = 4 := by simpa using hi
    refine F_way (S := fun w' => w'.cell? ⟨w.heap.size, 1, none⟩ = some (.int .u64 (d.key : Int)) ∧ w'.cell? ⟨w1.heap.size, 0, none⟩ = some (.int .i64 0) ∧ w'.cell? ⟨w1.heap.size, 1, none⟩ = some (.int .i64 (n : Int)) ∧ w'.cell? ⟨w1.heap.size, 2, none⟩ = some (.int .u64 (R.1 : Int)) ∧ w'.cell? ⟨w1.heap.size, 3, none⟩ = some (.int .u64 (R.2 : Int)) ∧ w'.cell? ⟨w1.heap.size, 4, none⟩ = some (.int .i64 (t : Int)) ∧ w'.cell? ⟨w1.heap.size, 5, none⟩ = some (.int .u64 0) ∧ w'.cell? ⟨w1.heap.size, 6, none⟩ = some (.int .u64 0)) (L := 9) (o := _) rfl (ls' := #[true, true, true, true, true, false, false, false, false, false, false]) (by kernel_rfl) (by rfl) (fun K hK => ?_)
    go_simp
    go_at_call 41
    refine (cS A2 c2 hc2 w3 hr2).mono ?_
    clear cS
    rintro e w4 ⟨rfl, x4⟩
    have X4 := X3.trans x4
    have k7 := ext_blk X4 HG.out
    obtain ⟨⟨n0, n1, n2, n3, n4, n5, n6⟩, f0, f1, f2, f3, f4, f5, f6⟩ := lst7 k7
    have hHeld2 := HS7.out _ X4
    clear hHeld
    have hHeld := hHeld2
    clear hHeld2
    refine hK _ _ (fun _ _ => hHeld) ?_
    clear hK K
    try simp only [Act.put, List.setIfInBounds_toArray, List.set_cons_zero, List.set_cons_succ]
    refine F_pure (i := 5) (some 42) (ls' := #[true, true, true, true, true, true, false, false, false, false, false]) rfl rfl (by kernel_rfl) (by kernel_rfl) (by kernel_rfl) (by kernel_rfl) (by rfl) (v := ?_) ?_ ?_
    rotate_left 1
    · intro w; go_simp; try with_reducible rfl
    try simp only [Act.put, List.setIfInBounds_toArray, List.set_cons_zero, List.set_cons_succ]
    refine F_pure (i := 6) (some 48) (ls' := #[true, true, true, true, true, true, true, false, false, false, false]) rfl rfl (by kernel_rfl) (by kernel_rfl) (by kernel_rfl) (by kernel_rfl) (by rfl) (v := ?_) ?_ ?_
    rotate_left 1
    · intro w; go_simp; try with_reducible rfl
    try simp only [Act.put, List.setIfInBounds_toArray, List.set_cons_zero, List.set_cons_succ]
    refine F_pure (i := 7) (some 49) (ls' := #[true, true, true, true, true, true, true, true, false, false, false]) rfl rfl (by kernel_rfl) (by kernel_rfl) (by kernel_rfl) (by kernel_rfl) (by rfl) (v := ?_) ?_ ?_
    rotate_left 1
    · intro w; go_simp; try with_reducible rfl
    try simp only [Act.put, List.setIfInBounds_toArray, List.set_cons_zero, List.set_cons_succ]
    refine F_pure (i := 8) (some 50) (ls' := #[true, true, true, true, true, true, true, true, true, false, false]) rfl rfl (by kernel_rfl) (by kernel_rfl) (by kernel_rfl) (by kernel_rfl) (by rfl) (v := ?_) ?_ ?_
    rotate_left 1
    · intro w; go_simp; try with_reducible rfl
    try simp only [Act.put, List.setIfInBounds_toArray, List.set_cons_zero, List.set_cons_succ]
    refine F_some (is := [9]) (by kernel_rfl) (by simp) (fun i hi => ?_)
    obtain rfl : i = 9 := by simpa using hi
    refine F_way (S := fun w' => w'.cell? ⟨w.heap.size, 1, none⟩ = some (.int .u64 (d.key : Int)) ∧ w'.cell? ⟨w1.heap.size, 0, none⟩ = some (.int .i64 0) ∧ w'.cell? ⟨w1.heap.size, 1, none⟩ = some (.int .i64 (n : Int)) ∧ w'.cell? ⟨w1.heap.size, 2, none⟩ = some (.int .u64 (R.1 : Int)) ∧ w'.cell? ⟨w1.heap.size, 3, none⟩ = some (.int .u64 (R.2 : Int)) ∧ w'.cell? ⟨w1.heap.size, 4, none⟩ = some (.int .i64 (t : Int)) ∧ w'.cell? ⟨w1.heap.size, 5, none⟩ = some (.int .u64 0) ∧ w'.cell? ⟨w1.heap.size, 6, none⟩ = some (.int .u64 0)) (L := 9) (o := _) rfl (ls' := #[true, true, true, true, true, true, true, true, true, true, false]) (by kernel_rfl) (by rfl) (fun K hK => ?_)
    clear hHeld
    go_simp
    refine hK _ _ (fun h _ => absurd h (by decide)) ?_
    clear hK K
    try simp only [Act.put, List.setIfInBounds_toArray, List.set_cons_zero, List.set_cons_succ]
    refine F_some (is := [10]) (by kernel_rfl) (by simp) (fun i hi => ?_)
    obtain rfl : i = 10 := by simpa using hi
    refine F_way (S := fun w' => w'.cell? ⟨w.heap.size, 1, none⟩ = some (.int .u64 (d.key : Int)) ∧ w'.cell? ⟨w1.heap.size, 0, none⟩ = some (.int .i64 0) ∧ w'.cell? ⟨w1.heap.size, 1, none⟩ = some (.int .i64 (n : Int)) ∧ w'.cell? ⟨w1.heap.size, 2, none⟩ = some (.int .u64 (R.1 : Int)) ∧ w'.cell? ⟨w1.heap.size, 3, none⟩ = some (.int .u64 (R.2 : Int)) ∧ w'.cell? ⟨w1.heap.size, 4, none⟩ = some (.int .i64 (t : Int)) ∧ w'.cell? ⟨w1.heap.size, 5, none⟩ = some (.int .u64 0) ∧ w'.cell? ⟨w1.heap.size, 6, none⟩ = some (.int .u64 0)) (L := 9) (o := _) rfl (ls' := #[true, true, true, true, true, true, true, true, true, true, true]) (by kernel_rfl) (by rfl) (fun K hK => ?_)
    go_simp
    refine hK _ _ (fun h _ => absurd h (by decide)) ?_
    clear hK K
    try simp only [Act.put, List.setIfInBounds_toArray, List.set_cons_zero, List.set_cons_succ]
    refine F_done (by kernel_rfl) ?_
    clear n0 n1 n2 n3 n4 n5 n6 f0 f1 f2 f3 f4 f5 f6
    obtain ⟨U, hU⟩ : ∃ U, (w4.setCell ⟨w1.heap.size, 5, none⟩ (.int .u64 (E : Int))).setCell ⟨w1.heap.size, 6, none⟩ (.int .u64 (S : Int)) = U := ⟨_, rfl⟩
    have u1 : Blk U w1.heap.size 38 #[.int .i64 0, .int .i64 (n : Int), .int .u64 (R.1 : Int), .int .u64 (R.2 : Int), .int .i64 (t : Int), .int .u64 (E : Int), .int .u64 (S : Int)] := by rw [← hU]; exact (k7.set_ 5 (.int .u64 (E : Int))).set_ 6 (.int .u64 (S : Int))
    have hne : w1.heap.size ≠ w.heap.size + 1 := by have := HB1.out.lt; have := HX1.out.size; have := HGg.out; omega
    have u2 : Blk U (w.heap.size + 1) 38 #[.int .i64 0, .int .i64 0, .int .u64 0, .int .u64 0, .int .i64 0, .int .u64 0, .int .u64 0] := by rw [← hU]; exact (((ext_blk (HXV.out.trans X4) HB1.out).far (p := ⟨w1.heap.size, 5, none⟩) (Ne.symm hne) _).far (p := ⟨w1.heap.size, 6, none⟩) (Ne.symm hne) _)
    have u3 : Ext w U := by rw [← hU]; exact (((HX0.out.trans (HXV.out.trans X4)).setCell (p := ⟨w1.heap.size, 5, none⟩) (by show w.heap.size ≤ w1.heap.size; have := HX0.out.size; have := HX1.out.size; have := HGg.out; omega) _).setCell (p := ⟨w1.heap.size, 6, none⟩) (by show w.heap.size ≤ w1.heap.size; have := HX0.out.size; have := HX1.out.size; have := HGg.out; omega) _)
    try rw [hU]
    clear hU k7 X4 X3 x3 x4 hr2 hc2
    obtain ⟨⟨n0, n1, n2, n3, n4, n5, n6⟩, -, -, -, -, -, -, -⟩ := lst7 u1
    obtain ⟨⟨p0, p1, p2, p3, p4, p5, p6⟩, f0, f1, f2, f3, f4, f5, f6⟩ := lst7 u2
    have HU := Lib.hid u3
    have HU2 := Lib.hid u2
    clear u1 u2 u3 hne
    go_wp2
    obtain ⟨⟨r0, r1, r2, r3, r4, r5, r6⟩, -, -, -, -, -, -, -⟩ := lst7 (lblk7 HU2.out (.int .i64 0) (.int .i64 (n : Int)) (.int .u64 (R.1 : Int)) (.int .u64 (R.2 : Int)) (.int .i64 (t : Int)) (.int .u64 (E : Int)) (.int .u64 (S : Int)))
    refine bodyPost_ret (v := .tuple #[.agg #[.int .i64 0, .int .i64 (n : Int), .int .u64 (R.1 : Int), .int .u64 (R.2 : Int), .int .i64 (t : Int), .int .u64 (E : Int), .int .u64 (S : Int)], .int .i64 0]) (by simp [results, Tryz.results9, go_sem, r0, r1, r2, r3, r4, r5, r6]) rfl ⟨rfl, lext7 HU.out (Nat.le_add_right _ 1) (.int .i64 0) (.int .i64 (n : Int)) (.int .u64 (R.1 : Int)) (.int .u64 (R.2 : Int)) (.int .i64 (t : Int)) (.int .u64 (E : Int)) (.int .u64 (S : Int))⟩
end Go.Proofs.YtfpmfegmehbfbaaGreatDoor
