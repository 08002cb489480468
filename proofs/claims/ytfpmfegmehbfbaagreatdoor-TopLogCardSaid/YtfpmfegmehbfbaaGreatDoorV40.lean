/- Parts of the proofs, put together: LgA. -/
import Derived.Test.YtfpmfegmehbfbaaGreatDoorV18
import Derived.Test.YtfpmfegmehbfbaaGreatDoorV34
/- Logs, walked: what is public of a log; who checks promises and heads. -/
namespace Go.Proofs.YtfpmfegmehbfbaaGreatDoor
set_option linter.unusedVariables false
set_option linter.unusedSimpArgs false
set_option linter.unusedSimpArgs false
open Go.RowKit Go.Shelf Go.Maps

/-- What is public of a log: its cells. -/
def pubV (P : Nat) : Value := .agg #[.int .i64 0, .int .u64 (P : Int), .int .i64 20]
theorem key_lt {s : Nat} (h : oddN s = false) : s < 18446744073709551616 := by unfold oddN at h; simp at h; have : bR < 18446744073709551616 := (by decide); omega
section
variable {w W : World} {g : Nat} {T : TypeId} {a b c : Value}
theorem lst3 (k : Blk W g T #[a, b, c]) : W.cell? ⟨g, 0, none⟩ = some a ∧ W.cell? ⟨g, 1, none⟩ = some b ∧ W.cell? ⟨g, 2, none⟩ = some c ∧ W.frozen? ⟨g, 0, none⟩ = false ∧ W.frozen? ⟨g, 1, none⟩ = false ∧ W.frozen? ⟨g, 2, none⟩ = false :=
  ⟨k.cell 0, k.cell 1, k.cell 2, k.frozen 0, k.frozen 1, k.frozen 2⟩
end
theorem boxesC (w : World) (x y : Array Value) (T U : TypeId) : ∃ W, (w.alloc (.cells x T)).alloc (.cells y U) = W ∧ Blk W w.heap.size T x ∧ Blk W (w.heap.size + 1) U y ∧ Ext w W := by
  refine ⟨_, rfl, (Blk.new w T x).alloc _, ?_, ((Ext.refl w).alloc _).alloc _⟩
  have := Blk.new (w.alloc (.cells x T)) U y
  rwa [World.size_alloc] at this
set_option maxRecDepth 100000 in
set_option maxHeartbeats 4000000 in
theorem lPublic_any (d : LogX) (w : World) (h : LogW w w.heap.size d) :
    Calls Tryz.prog 12 #[logV d] w fun e w' => e = .returned (.tuple #[pubV (powM bQ 4 d.key), .int .i64 0]) ∧ Ext w w' := by
  obtain ⟨W0, e0, b0, b1, x0⟩ := boxesC w #[.int .i64 0, .int .u64 (d.key : Int), .int .i64 20, .slice d.lA d.ls.length d.lc, .slice none 0 0, .slice d.wA d.ws.length d.wc] #[.int .i64 0, .int .u64 0, .int .i64 0] 29 48
  have cC := lCheck_any d W0 (h.ext x0)
  have cP := fun W => Public_any d.key (key_lt h.odd) W
  rw [if_neg (by rw [h.odd]; decide)] at cP
  unfold pubV
  obtain ⟨P, hP⟩ : ∃ P, powM bQ 4 d.key = P := ⟨_, rfl⟩
  rw [hP] at cP ⊢
  unfold logV at cC ⊢
  obtain ⟨m0, m1, m2, m3, m4, m5, -, -, -, -, -, -⟩ := lst6 b0
  have HB0 := Lib.hid b0
  have HB1 := Lib.hid b1
  have HX0 := Lib.hid x0
  clear b0 b1 x0 h hP
  go_enter Tryz.func12, Tryz.ntmps12
  go_upto_region 1 with (fail)
  try rw [e0]
  clear e0
  go_upto_region 5 with (first
    | (go_at_call 60; refine cC.mono ?_; clear cC m0 m1 m2 m3 m4 m5; rintro e w1 ⟨rfl, x1⟩; have HX1 := Lib.hid x1; obtain ⟨m0, m1, m2, m3, m4, m5, -, -, -, -, -, -⟩ := lst6 (ext_blk x1 HB0.out); clear x1)
    | (go_at_call 35; refine (cP _).mono ?_; clear cP m0 m1 m2 m3 m4 m5; rintro e w2 ⟨rfl, x2⟩; obtain ⟨m0, m1, m2, m3, m4, m5, -, -, -, -, -, -⟩ := lst6 (ext_blk (HX1.out.trans x2) HB0.out); have k1 := ext_blk (HX1.out.trans x2) HB1.out; obtain ⟨n0, n1, n2, f0, f1, f2⟩ := lst3 k1; have HX2 := Lib.hid x2; clear x2))
  have hz := ((k1.set_ 0 (.int .i64 0)).set_ 1 (.int .u64 (P : Int))).set_ 2 (.int .i64 20)
  have hx := (((HX0.out.trans (HX1.out.trans HX2.out)).setCell (p := ⟨w.heap.size + 1, 0, none⟩) (by simp) (.int .i64 0)).setCell (p := ⟨w.heap.size + 1, 1, none⟩) (by simp) (.int .u64 (P : Int))).setCell (p := ⟨w.heap.size + 1, 2, none⟩) (by simp) (.int .i64 20)
  have HZ := Lib.hid hz
  have HXX := Lib.hid hx
  clear hz hx k1
  go_wp2
  obtain ⟨r0, r1, r2, -, -, -⟩ := lst3 HZ.out
  exact bodyPost_ret (v := .tuple #[.agg #[.int .i64 0, .int .u64 (P : Int), .int .i64 20], .int .i64 0]) (by simp [results, Tryz.results12, go_sem, r0, r1, r2]) rfl ⟨rfl, HXX.out⟩
set_option maxRecDepth 100000 in
set_option maxHeartbeats 4000000 in
theorem lsigned_any (P : Nat) (hP : P < 18446744073709551616) (E S : Nat) (hE : E < 18446744073709551616) (hS : S < 18446744073709551616) (l : List Nat) (hl : ∀ x ∈ l, x < 256) (hh : l.length ≤ 1000) (A : Option Addr) (c : Nat) (hc : l.length ≤ c) (w : World) (hr : Reads w w.heap.size 1 A l.length (bv l)) :
    Calls Tryz.prog 62 #[pubV P, .int .i64 0, .bool true, .slice A l.length c, .agg #[.int .u64 E, .int .u64 S]] w fun e w' => e = .returned (.int .i64 (checkN P l E S : Nat)) ∧ Ext w w' := by
  obtain ⟨W0, e0, b0, b1, x0⟩ := boxesC w #[.int .i64 0, .int .u64 (P : Int), .int .i64 20] #[.int .u64 (E : Int), .int .u64 (S : Int)] 48 36
  have cN := fun w => lnum_any 0 w
  rw [decide_eq_true (by omega)] at cN
  have cK := Check_any P hP E S hE hS l hl hh A c hc W0 ((hr.below x0.out).more x0.size)
  unfold pubV
  obtain ⟨K, hK⟩ : ∃ K, checkN P l E S = K := ⟨_, rfl⟩
  rw [hK] at cK ⊢
  obtain ⟨m0, m1, m2, -, -, -⟩ := lst3 b0
  have n0 := b1.cell 0
  have n1 := b1.cell 1
  have HX0 := Lib.hid x0
  clear b0 b1 x0 hr hK hl hh hc hP hE hS
  go_enter Tryz.func62, Tryz.ntmps62
  go_upto_region 1 with (fail)
  try rw [e0]
  clear e0
  go_wp2_with (first
    | (go_at_call 51; refine (cN _).mono ?_; clear cN; rintro e w' ⟨rfl, rfl⟩)
    | (go_at_call 44; refine cK.mono ?_; clear cK; rintro e w1 ⟨rfl, x1⟩))
  go_ret
  exact ⟨rfl, HX0.out.trans x1⟩
set_option maxRecDepth 100000 in
set_option maxHeartbeats 4000000 in
theorem lckProm_any (K : Nat) (hK : oddN K = false) (t : Nat) (ht : t ≤ 1000) (H : Nat × Nat) (w : World) :
    Calls Tryz.prog 16 #[pubV (powM bQ 4 K), promV K t H] w fun e w' => e = .returned (.int .i64 0) ∧ Ext w w' := by
  have cO := fun W => ofProm_any t H ht (.int .u64 (sgE K (promL t H) : Nat)) (.int .u64 (sgS K (promL t H) : Nat)) W
  have hLl := promL_len t H
  have hLt := promL_lt t H
  have hPl : powM bQ 4 K < 18446744073709551616 := Nat.lt_trans (powM_lt (by decide) 4 K) (by decide)
  have hEl : sgE K (promL t H) < 18446744073709551616 := Nat.lt_trans (sgE_lt K _) (by decide)
  have hSl : sgS K (promL t H) < 18446744073709551616 := Nat.lt_trans (sgS_lt K _) (by decide)
  have hck := check_sign K (promL t H)
  have cS := fun A c (hc : (promL t H).length ≤ c) W (hr : Reads W W.heap.size 1 A (promL t H).length (bv (promL t H))) => lsigned_any (powM bQ 4 K) hPl (sgE K (promL t H)) (sgS K (promL t H)) hEl hSl (promL t H) hLt (by omega) A c hc W hr
  rw [hck] at cS
  unfold promV pubV
  unfold pubV at cS
  obtain ⟨P, hP⟩ : ∃ P, powM bQ 4 K = P := ⟨_, rfl⟩
  obtain ⟨L, hL⟩ : ∃ L, promL t H = L := ⟨_, rfl⟩
  rw [hL] at cO cS ⊢
  rw [hP] at cS ⊢
  obtain ⟨E, hE⟩ : ∃ E, sgE K L = E := ⟨_, rfl⟩
  obtain ⟨S, hS⟩ : ∃ S, sgS K L = S := ⟨_, rfl⟩
  rw [hE, hS] at cO cS ⊢
  have cN := fun w => lnum_any (t : Int) w
  rw [decide_eq_true (by omega)] at cN
  obtain ⟨W0, e0, b0, b1, x0⟩ := boxesC w #[.int .i64 0, .int .u64 (P : Int), .int .i64 20] #[.int .i64 0, .int .i64 (t : Int), .int .u64 (H.1 : Int), .int .u64 (H.2 : Int), .int .u64 (E : Int), .int .u64 (S : Int)] 48 55
  have hC := fun V (e : Ext W0 V) => And.intro ((ext_blk e b0).cell 0) (And.intro ((ext_blk e b0).cell 1) (And.intro ((ext_blk e b0).cell 2) (And.intro ((ext_blk e b1).cell 0) (And.intro ((ext_blk e b1).cell 1) (And.intro ((ext_blk e b1).cell 2) (And.intro ((ext_blk e b1).cell 3) (And.intro ((ext_blk e b1).cell 4) ((ext_blk e b1).cell 5))))))))
  have HC := Lib.hid hC
  have HX0 := Lib.hid x0
  clear b0 b1 x0 hC hck hLl hLt hPl hEl hSl hP hL hE hS hK ht
  go_enter Tryz.func16, Tryz.ntmps16
  go_upto_region 1 with (fail)
  try rw [e0]
  clear e0
  refine F_start (n := 12) (ls := #[false, false, false, false, false, false, false, false, false, false, false, false]) (fun w' => w'.cell? ⟨w.heap.size, 0, none⟩ = some (.int .i64 0) ∧ w'.cell? ⟨w.heap.size, 1, none⟩ = some (.int .u64 (P : Int)) ∧ w'.cell? ⟨w.heap.size, 2, none⟩ = some (.int .i64 20) ∧ w'.cell? ⟨w.heap.size + 1, 0, none⟩ = some (.int .i64 0) ∧ w'.cell? ⟨w.heap.size + 1, 1, none⟩ = some (.int .i64 (t : Int)) ∧ w'.cell? ⟨w.heap.size + 1, 2, none⟩ = some (.int .u64 (H.1 : Int)) ∧ w'.cell? ⟨w.heap.size + 1, 3, none⟩ = some (.int .u64 (H.2 : Int)) ∧ w'.cell? ⟨w.heap.size + 1, 4, none⟩ = some (.int .u64 (E : Int)) ∧ w'.cell? ⟨w.heap.size + 1, 5, none⟩ = some (.int .u64 (S : Int))) 11 (by kernel_rfl) (by kernel_rfl) (by kernel_rfl) (HC.out _ (Ext.refl W0).drew) (fun hHeld => ?_)
  refine F_take (i := 0) (some 5) (ls' := #[true, false, false, false, false, false, false, false, false, false, false, false]) rfl rfl (by kernel_rfl) (by kernel_rfl) (by kernel_rfl) (by kernel_rfl) (by kernel_rfl) (by rfl) (v := ?_) ?_ hHeld ?_
  rotate_left 1
  · intro w hSw; (try dsimp only at hSw); go_simp; try with_reducible rfl
  try simp only [Act.put, List.setIfInBounds_toArray, List.set_cons_zero, List.set_cons_succ]
  refine F_pure (i := 1) (some 6) (ls' := #[true, true, false, false, false, false, false, false, false, false, false, false]) rfl rfl (by kernel_rfl) (by kernel_rfl) (by kernel_rfl) (by kernel_rfl) (by rfl) (v := ?_) ?_ ?_
  rotate_left 1
  · intro w; go_simp; try with_reducible rfl
  try simp only [Act.put, List.setIfInBounds_toArray, List.set_cons_zero, List.set_cons_succ]
  refine F_take (i := 2) (some 7) (ls' := #[true, true, true, false, false, false, false, false, false, false, false, false]) rfl rfl (by kernel_rfl) (by kernel_rfl) (by kernel_rfl) (by kernel_rfl) (by kernel_rfl) (by rfl) (v := ?_) ?_ hHeld ?_
  rotate_left 1
  · intro w hSw; (try dsimp only at hSw); go_simp; try with_reducible rfl
  try simp only [Act.put, List.setIfInBounds_toArray, List.set_cons_zero, List.set_cons_succ]
  refine F_pure (i := 3) (some 8) (ls' := #[true, true, true, true, false, false, false, false, false, false, false, false]) rfl rfl (by kernel_rfl) (by kernel_rfl) (by kernel_rfl) (by kernel_rfl) (by rfl) (v := ?_) ?_ ?_
  rotate_left 1
  · intro w; go_simp; try with_reducible rfl
  try simp only [Act.put, List.setIfInBounds_toArray, List.set_cons_zero, List.set_cons_succ]
  refine F_take (i := 4) (some 9) (ls' := #[true, true, true, true, true, false, false, false, false, false, false, false]) rfl rfl (by kernel_rfl) (by kernel_rfl) (by kernel_rfl) (by kernel_rfl) (by kernel_rfl) (by rfl) (v := ?_) ?_ hHeld ?_
  rotate_left 1
  · intro w hSw; (try dsimp only at hSw); go_simp; try with_reducible rfl
  try simp only [Act.put, List.setIfInBounds_toArray, List.set_cons_zero, List.set_cons_succ]
  refine F_take (i := 6) (some 11) (ls' := #[true, true, true, true, true, false, true, false, false, false, false, false]) rfl rfl (by kernel_rfl) (by kernel_rfl) (by kernel_rfl) (by kernel_rfl) (by kernel_rfl) (by rfl) (v := ?_) ?_ hHeld ?_
  rotate_left 1
  · intro w hSw; (try dsimp only at hSw); go_simp; try with_reducible rfl
  try simp only [Act.put, List.setIfInBounds_toArray, List.set_cons_zero, List.set_cons_succ]
  refine F_pure (i := 8) (some 13) (ls' := #[true, true, true, true, true, false, true, false, true, false, false, false]) rfl rfl (by kernel_rfl) (by kernel_rfl) (by kernel_rfl) (by kernel_rfl) (by rfl) (v := ?_) ?_ ?_
  rotate_left 1
  · intro w; go_simp; try with_reducible rfl
  try simp only [Act.put, List.setIfInBounds_toArray, List.set_cons_zero, List.set_cons_succ]
  refine F_take (i := 9) (some 14) (ls' := #[true, true, true, true, true, false, true, false, true, true, false, false]) rfl rfl (by kernel_rfl) (by kernel_rfl) (by kernel_rfl) (by kernel_rfl) (by kernel_rfl) (by rfl) (v := ?_) ?_ hHeld ?_
  rotate_left 1
  · intro w hSw; (try dsimp only at hSw); go_simp; try with_reducible rfl
  try simp only [Act.put, List.setIfInBounds_toArray, List.set_cons_zero, List.set_cons_succ]
  refine F_some (is := [5]) (by kernel_rfl) (by simp) (fun i hi => ?_)
  obtain rfl : i = 5 := by simpa using hi
  refine F_way (S := fun w' => w'.cell? ⟨w.heap.size, 0, none⟩ = some (.int .i64 0) ∧ w'.cell? ⟨w.heap.size, 1, none⟩ = some (.int .u64 (P : Int)) ∧ w'.cell? ⟨w.heap.size, 2, none⟩ = some (.int .i64 20) ∧ w'.cell? ⟨w.heap.size + 1, 0, none⟩ = some (.int .i64 0) ∧ w'.cell? ⟨w.heap.size + 1, 1, none⟩ = some (.int .i64 (t : Int)) ∧ w'.cell? ⟨w.heap.size + 1, 2, none⟩ = some (.int .u64 (H.1 : Int)) ∧ w'.cell? ⟨w.heap.size + 1, 3, none⟩ = some (.int .u64 (H.2 : Int)) ∧ w'.cell? ⟨w.heap.size + 1, 4, none⟩ = some (.int .u64 (E : Int)) ∧ w'.cell? ⟨w.heap.size + 1, 5, none⟩ = some (.int .u64 (S : Int))) (L := 11) (o := _) rfl (ls' := #[true, true, true, true, true, true, true, false, true, true, false, false]) (by kernel_rfl) (by rfl) (fun K hK => ?_)
  go_simp
  go_at_call 51
  refine (cN _).mono ?_
  rintro e w1 ⟨rfl, rfl⟩
  have hHeld2 := HC.out _ (Ext.refl W0).drew
  clear hHeld
  have hHeld := hHeld2
  clear hHeld2
  refine hK _ _ (fun _ _ => hHeld) ?_
  clear hK K
  try simp only [Act.put, List.setIfInBounds_toArray, List.set_cons_zero, List.set_cons_succ]
  refine F_some (is := [7]) (by kernel_rfl) (by simp) (fun i hi => ?_)
  obtain rfl : i = 7 := by simpa using hi
  refine F_way (S := fun w' => w'.cell? ⟨w.heap.size, 0, none⟩ = some (.int .i64 0) ∧ w'.cell? ⟨w.heap.size, 1, none⟩ = some (.int .u64 (P : Int)) ∧ w'.cell? ⟨w.heap.size, 2, none⟩ = some (.int .i64 20) ∧ w'.cell? ⟨w.heap.size + 1, 0, none⟩ = some (.int .i64 0) ∧ w'.cell? ⟨w.heap.size + 1, 1, none⟩ = some (.int .i64 (t : Int)) ∧ w'.cell? ⟨w.heap.size + 1, 2, none⟩ = some (.int .u64 (H.1 : Int)) ∧ w'.cell? ⟨w.heap.size + 1, 3, none⟩ = some (.int .u64 (H.2 : Int)) ∧ w'.cell? ⟨w.heap.size + 1, 4, none⟩ = some (.int .u64 (E : Int)) ∧ w'.cell? ⟨w.heap.size + 1, 5, none⟩ = some (.int .u64 (S : Int))) (L := 11) (o := _) rfl (ls' := #[true, true, true, true, true, true, true, true, true, true, false, false]) (by kernel_rfl) (by rfl) (fun K hK => ?_)
  go_simp
  go_at_call 67
  refine (cO _).mono ?_
  clear cO
  rintro e w2 ⟨A2, c2, rfl, hc2, hr2, x2⟩
  have X2 : Ext W0 w2 := (Ext.refl W0).drew.trans x2
  have hHeld2 := HC.out _ X2
  clear hHeld
  have hHeld := hHeld2
  clear hHeld2
  refine hK _ _ (fun _ _ => hHeld) ?_
  clear hK K
  try simp only [Act.put, List.setIfInBounds_toArray, List.set_cons_zero, List.set_cons_succ]
  refine F_some (is := [10]) (by kernel_rfl) (by simp) (fun i hi => ?_)
  obtain rfl : i = 10 := by simpa using hi
  refine F_way (S := fun w' => w'.cell? ⟨w.heap.size, 0, none⟩ = some (.int .i64 0) ∧ w'.cell? ⟨w.heap.size, 1, none⟩ = some (.int .u64 (P : Int)) ∧ w'.cell? ⟨w.heap.size, 2, none⟩ = some (.int .i64 20) ∧ w'.cell? ⟨w.heap.size + 1, 0, none⟩ = some (.int .i64 0) ∧ w'.cell? ⟨w.heap.size + 1, 1, none⟩ = some (.int .i64 (t : Int)) ∧ w'.cell? ⟨w.heap.size + 1, 2, none⟩ = some (.int .u64 (H.1 : Int)) ∧ w'.cell? ⟨w.heap.size + 1, 3, none⟩ = some (.int .u64 (H.2 : Int)) ∧ w'.cell? ⟨w.heap.size + 1, 4, none⟩ = some (.int .u64 (E : Int)) ∧ w'.cell? ⟨w.heap.size + 1, 5, none⟩ = some (.int .u64 (S : Int))) (L := 11) (o := _) rfl (ls' := #[true, true, true, true, true, true, true, true, true, true, true, false]) (by kernel_rfl) (by rfl) (fun K hK => ?_)
  go_simp
  go_at_call 62
  refine (cS A2 c2 hc2 w2 hr2).mono ?_
  clear cS
  rintro e w3 ⟨rfl, x3⟩
  have X3 := X2.trans x3
  have hHeld2 := HC.out _ X3
  clear hHeld
  have hHeld := hHeld2
  clear hHeld2
  refine hK _ _ (fun _ _ => hHeld) ?_
  clear hK K
  try simp only [Act.put, List.setIfInBounds_toArray, List.set_cons_zero, List.set_cons_succ]
  refine F_some (is := [11]) (by kernel_rfl) (by simp) (fun i hi => ?_)
  obtain rfl : i = 11 := by simpa using hi
  refine F_way (S := fun w' => w'.cell? ⟨w.heap.size, 0, none⟩ = some (.int .i64 0) ∧ w'.cell? ⟨w.heap.size, 1, none⟩ = some (.int .u64 (P : Int)) ∧ w'.cell? ⟨w.heap.size, 2, none⟩ = some (.int .i64 20) ∧ w'.cell? ⟨w.heap.size + 1, 0, none⟩ = some (.int .i64 0) ∧ w'.cell? ⟨w.heap.size + 1, 1, none⟩ = some (.int .i64 (t : Int)) ∧ w'.cell? ⟨w.heap.size + 1, 2, none⟩ = some (.int .u64 (H.1 : Int)) ∧ w'.cell? ⟨w.heap.size + 1, 3, none⟩ = some (.int .u64 (H.2 : Int)) ∧ w'.cell? ⟨w.heap.size + 1, 4, none⟩ = some (.int .u64 (E : Int)) ∧ w'.cell? ⟨w.heap.size + 1, 5, none⟩ = some (.int .u64 (S : Int))) (L := 11) (o := _) rfl (ls' := #[true, true, true, true, true, true, true, true, true, true, true, true]) (by kernel_rfl) (by rfl) (fun K hK => ?_)
  go_simp
  refine hK _ _ (fun h _ => absurd h (by decide)) ?_
  clear hK K
  try simp only [Act.put, List.setIfInBounds_toArray, List.set_cons_zero, List.set_cons_succ]
  refine F_done (by kernel_rfl) ?_
  go_wp2
  go_ret
  exact ⟨rfl, HX0.out.trans X3⟩
set_option maxRecDepth 100000 in
set_option maxHeartbeats 4000000 in
theorem lckHead_any (K : Nat) (hK : oddN K = false) (n t : Nat) (hn : n ≤ 30) (ht : t ≤ 1000) (R : Nat × Nat) (w : World) :
    Calls Tryz.prog 14 #[pubV (powM bQ 4 K), headV n t R (sgE K (headL n t R)) (sgS K (headL n t R))] w fun e w' => e = .returned (.int .i64 0) ∧ Ext w w' := by
  have cO := fun W => ofHead_any n t R (by omega) ht (.int .u64 (sgE K (headL n t R) : Nat)) (.int .u64 (sgS K (headL n t R) : Nat)) W
  have hLl := headL_len n t R
  have hLt := headL_lt n t R
  have hPl : powM bQ 4 K < 18446744073709551616 := Nat.lt_trans (powM_lt (by decide) 4 K) (by decide)
  have hEl : sgE K (headL n t R) < 18446744073709551616 := Nat.lt_trans (sgE_lt K _) (by decide)
  have hSl : sgS K (headL n t R) < 18446744073709551616 := Nat.lt_trans (sgS_lt K _) (by decide)
  have hck := check_sign K (headL n t R)
  have cS := fun A c (hc : (headL n t R).length ≤ c) W (hr : Reads W W.heap.size 1 A (headL n t R).length (bv (headL n t R))) => lsigned_any (powM bQ 4 K) hPl (sgE K (headL n t R)) (sgS K (headL n t R)) hEl hSl (headL n t R) hLt (by omega) A c hc W hr
  rw [hck] at cS
  unfold headV pubV
  unfold pubV at cS
  obtain ⟨P, hP⟩ : ∃ P, powM bQ 4 K = P := ⟨_, rfl⟩
  obtain ⟨L, hL⟩ : ∃ L, headL n t R = L := ⟨_, rfl⟩
  rw [hL] at cO cS ⊢
  rw [hP] at cS ⊢
  obtain ⟨E, hE⟩ : ∃ E, sgE K L = E := ⟨_, rfl⟩
  obtain ⟨S, hS⟩ : ∃ S, sgS K L = S := ⟨_, rfl⟩
  rw [hE, hS] at cO cS ⊢
  have cN := fun w => lnum_any (t : Int) w
  rw [decide_eq_true (by omega)] at cN
  have d1 : decide ((0 : Int) ≤ (n : Int)) = true := by simp
  have d2 : decide ((n : Int) ≤ 256) = true := by simp; omega
  have d3 : (n : Int) ≤ 256 := by omega
  have d4 : (0 : Int) ≤ (n : Int) := by omega
  obtain ⟨W0, e0, b0, b1, x0⟩ := boxesC w #[.int .i64 0, .int .u64 (P : Int), .int .i64 20] #[.int .i64 0, .int .i64 (n : Int), .int .u64 (R.1 : Int), .int .u64 (R.2 : Int), .int .i64 (t : Int), .int .u64 (E : Int), .int .u64 (S : Int)] 48 38
  have hC := fun V (e : Ext W0 V) => And.intro ((ext_blk e b0).cell 0) (And.intro ((ext_blk e b0).cell 1) (And.intro ((ext_blk e b0).cell 2) (And.intro ((ext_blk e b1).cell 0) (And.intro ((ext_blk e b1).cell 1) (And.intro ((ext_blk e b1).cell 2) (And.intro ((ext_blk e b1).cell 3) (And.intro ((ext_blk e b1).cell 4) (And.intro ((ext_blk e b1).cell 5) ((ext_blk e b1).cell 6)))))))))
  have HC := Lib.hid hC
  have HX0 := Lib.hid x0
  clear b0 b1 x0 hC hck hLl hLt hPl hEl hSl hP hL hE hS hK ht hn
  go_enter Tryz.func14, Tryz.ntmps14
  go_upto_region 1 with (fail)
  try rw [e0]
  clear e0
  refine F_start (n := 22) (ls := #[false, false, false, false, false, false, false, false, false, false, false, false, false, false, false, false, false, false, false, false, false, false]) (fun w' => w'.cell? ⟨w.heap.size, 0, none⟩ = some (.int .i64 0) ∧ w'.cell? ⟨w.heap.size, 1, none⟩ = some (.int .u64 (P : Int)) ∧ w'.cell? ⟨w.heap.size, 2, none⟩ = some (.int .i64 20) ∧ w'.cell? ⟨w.heap.size + 1, 0, none⟩ = some (.int .i64 0) ∧ w'.cell? ⟨w.heap.size + 1, 1, none⟩ = some (.int .i64 (n : Int)) ∧ w'.cell? ⟨w.heap.size + 1, 2, none⟩ = some (.int .u64 (R.1 : Int)) ∧ w'.cell? ⟨w.heap.size + 1, 3, none⟩ = some (.int .u64 (R.2 : Int)) ∧ w'.cell? ⟨w.heap.size + 1, 4, none⟩ = some (.int .i64 (t : Int)) ∧ w'.cell? ⟨w.heap.size + 1, 5, none⟩ = some (.int .u64 (E : Int)) ∧ w'.cell? ⟨w.heap.size + 1, 6, none⟩ = some (.int .u64 (S : Int))) 21 (by kernel_rfl) (by kernel_rfl) (by kernel_rfl) (HC.out _ (Ext.refl W0).drew) (fun hHeld => ?_)
  refine F_take (i := 0) (some 5) (ls' := #[true, false, false, false, false, false, false, false, false, false, false, false, false, false, false, false, false, false, false, false, false, false]) rfl rfl (by kernel_rfl) (by kernel_rfl) (by kernel_rfl) (by kernel_rfl) (by kernel_rfl) (by rfl) (v := ?_) ?_ hHeld ?_
  rotate_left 1
  · intro w hSw; (try dsimp only at hSw); go_simp; try with_reducible rfl
  try simp only [Act.put, List.setIfInBounds_toArray, List.set_cons_zero, List.set_cons_succ]
  refine F_pure (i := 1) (some 6) (ls' := #[true, true, false, false, false, false, false, false, false, false, false, false, false, false, false, false, false, false, false, false, false, false]) rfl rfl (by kernel_rfl) (by kernel_rfl) (by kernel_rfl) (by kernel_rfl) (by rfl) (v := ?_) ?_ ?_
  rotate_left 1
  · intro w; go_simp; try with_reducible rfl
  try simp only [Act.put, List.setIfInBounds_toArray, List.set_cons_zero, List.set_cons_succ]
  refine F_take (i := 2) (some 7) (ls' := #[true, true, true, false, false, false, false, false, false, false, false, false, false, false, false, false, false, false, false, false, false, false]) rfl rfl (by kernel_rfl) (by kernel_rfl) (by kernel_rfl) (by kernel_rfl) (by kernel_rfl) (by rfl) (v := ?_) ?_ hHeld ?_
  rotate_left 1
  · intro w hSw; (try dsimp only at hSw); go_simp; try with_reducible rfl
  try simp only [Act.put, List.setIfInBounds_toArray, List.set_cons_zero, List.set_cons_succ]
  refine F_pure (i := 3) (some 8) (ls' := #[true, true, true, true, false, false, false, false, false, false, false, false, false, false, false, false, false, false, false, false, false, false]) rfl rfl (by kernel_rfl) (by kernel_rfl) (by kernel_rfl) (by kernel_rfl) (by rfl) (v := ?_) ?_ ?_
  rotate_left 1
  · intro w; go_simp; try with_reducible rfl
  try simp only [Act.put, List.setIfInBounds_toArray, List.set_cons_zero, List.set_cons_succ]
  refine F_take (i := 4) (some 9) (ls' := #[true, true, true, true, true, false, false, false, false, false, false, false, false, false, false, false, false, false, false, false, false, false]) rfl rfl (by kernel_rfl) (by kernel_rfl) (by kernel_rfl) (by kernel_rfl) (by kernel_rfl) (by rfl) (v := ?_) ?_ hHeld ?_
  rotate_left 1
  · intro w hSw; (try dsimp only at hSw); go_simp; try with_reducible rfl
  try simp only [Act.put, List.setIfInBounds_toArray, List.set_cons_zero, List.set_cons_succ]
  refine F_take (i := 16) (some 21) (ls' := #[true, true, true, true, true, false, false, false, false, false, false, false, false, false, false, false, true, false, false, false, false, false]) rfl rfl (by kernel_rfl) (by kernel_rfl) (by kernel_rfl) (by kernel_rfl) (by kernel_rfl) (by rfl) (v := ?_) ?_ hHeld ?_
  rotate_left 1
  · intro w hSw; (try dsimp only at hSw); go_simp; try with_reducible rfl
  try simp only [Act.put, List.setIfInBounds_toArray, List.set_cons_zero, List.set_cons_succ]
  refine F_pure (i := 18) (some 23) (ls' := #[true, true, true, true, true, false, false, false, false, false, false, false, false, false, false, false, true, false, true, false, false, false]) rfl rfl (by kernel_rfl) (by kernel_rfl) (by kernel_rfl) (by kernel_rfl) (by rfl) (v := ?_) ?_ ?_
  rotate_left 1
  · intro w; go_simp; try with_reducible rfl
  try simp only [Act.put, List.setIfInBounds_toArray, List.set_cons_zero, List.set_cons_succ]
  refine F_take (i := 19) (some 24) (ls' := #[true, true, true, true, true, false, false, false, false, false, false, false, false, false, false, false, true, false, true, true, false, false]) rfl rfl (by kernel_rfl) (by kernel_rfl) (by kernel_rfl) (by kernel_rfl) (by kernel_rfl) (by rfl) (v := ?_) ?_ hHeld ?_
  rotate_left 1
  · intro w hSw; (try dsimp only at hSw); go_simp; try with_reducible rfl
  try simp only [Act.put, List.setIfInBounds_toArray, List.set_cons_zero, List.set_cons_succ]
  refine F_some (is := [5]) (by kernel_rfl) (by simp) (fun i hi => ?_)
  obtain rfl : i = 5 := by simpa using hi
  refine F_way (S := fun w' => w'.cell? ⟨w.heap.size, 0, none⟩ = some (.int .i64 0) ∧ w'.cell? ⟨w.heap.size, 1, none⟩ = some (.int .u64 (P : Int)) ∧ w'.cell? ⟨w.heap.size, 2, none⟩ = some (.int .i64 20) ∧ w'.cell? ⟨w.heap.size + 1, 0, none⟩ = some (.int .i64 0) ∧ w'.cell? ⟨w.heap.size + 1, 1, none⟩ = some (.int .i64 (n : Int)) ∧ w'.cell? ⟨w.heap.size + 1, 2, none⟩ = some (.int .u64 (R.1 : Int)) ∧ w'.cell? ⟨w.heap.size + 1, 3, none⟩ = some (.int .u64 (R.2 : Int)) ∧ w'.cell? ⟨w.heap.size + 1, 4, none⟩ = some (.int .i64 (t : Int)) ∧ w'.cell? ⟨w.heap.size + 1, 5, none⟩ = some (.int .u64 (E : Int)) ∧ w'.cell? ⟨w.heap.size + 1, 6, none⟩ = some (.int .u64 (S : Int))) (L := 21) (o := _) rfl (ls' := #[true, true, true, true, true, true, false, false, false, false, false, false, false, false, false, false, true, false, true, true, false, false]) (by kernel_rfl) (by rfl) (fun K hK => ?_)
  go_simp
  go_at_call 51
  refine (cN _).mono ?_
  rintro e w1 ⟨rfl, rfl⟩
  have hHeld2 := HC.out _ (Ext.refl W0).drew
  clear hHeld
  have hHeld := hHeld2
  clear hHeld2
  refine hK _ _ (fun _ _ => hHeld) ?_
  clear hK K
  try simp only [Act.put, List.setIfInBounds_toArray, List.set_cons_zero, List.set_cons_succ]
  refine F_pure (i := 6) (some 11) (ls' := #[true, true, true, true, true, true, true, false, false, false, false, false, false, false, false, false, true, false, true, true, false, false]) rfl rfl (by kernel_rfl) (by kernel_rfl) (by kernel_rfl) (by kernel_rfl) (by rfl) (v := ?_) ?_ ?_
  rotate_left 1
  · intro w; go_simp; try with_reducible rfl
  try simp only [Act.put, List.setIfInBounds_toArray, List.set_cons_zero, List.set_cons_succ]
  refine F_pure (i := 7) (some 12) (ls' := #[true, true, true, true, true, true, true, true, false, false, false, false, false, false, false, false, true, false, true, true, false, false]) rfl rfl (by kernel_rfl) (by kernel_rfl) (by kernel_rfl) (by kernel_rfl) (by rfl) (v := ?_) ?_ ?_
  rotate_left 1
  · intro w; go_simp; try with_reducible rfl
  try simp only [Act.put, List.setIfInBounds_toArray, List.set_cons_zero, List.set_cons_succ]
  refine F_take (i := 8) (some 13) (ls' := #[true, true, true, true, true, true, true, true, true, false, false, false, false, false, false, false, true, false, true, true, false, false]) rfl rfl (by kernel_rfl) (by kernel_rfl) (by kernel_rfl) (by kernel_rfl) (by kernel_rfl) (by rfl) (v := ?_) ?_ hHeld ?_
  rotate_left 1
  · intro w hSw; (try dsimp only at hSw); go_simp; try with_reducible rfl
  try simp only [Act.put, List.setIfInBounds_toArray, List.set_cons_zero, List.set_cons_succ]
  refine F_pure (i := 9) (some 14) (ls' := #[true, true, true, true, true, true, true, true, true, true, false, false, false, false, false, false, true, false, true, true, false, false]) rfl rfl (by kernel_rfl) (by kernel_rfl) (by kernel_rfl) (by kernel_rfl) (by rfl) (v := ?_) ?_ ?_
  rotate_left 1
  · intro w; go_simp; try with_reducible rfl
  try simp only [Act.put, List.setIfInBounds_toArray, List.set_cons_zero, List.set_cons_succ]
  refine F_pure (i := 10) (some 15) (ls' := #[true, true, true, true, true, true, true, true, true, true, true, false, false, false, false, false, true, false, true, true, false, false]) rfl rfl (by kernel_rfl) (by kernel_rfl) (by kernel_rfl) (by kernel_rfl) (by rfl) (v := ?_) ?_ ?_
  rotate_left 1
  · intro w; go_simp; try with_reducible rfl
  try simp only [Act.put, List.setIfInBounds_toArray, List.set_cons_zero, List.set_cons_succ]
  refine F_pure (i := 11) (some 16) (ls' := #[true, true, true, true, true, true, true, true, true, true, true, true, false, false, false, false, true, false, true, true, false, false]) rfl rfl (by kernel_rfl) (by kernel_rfl) (by kernel_rfl) (by kernel_rfl) (by rfl) (v := ?_) ?_ ?_
  rotate_left 1
  · intro w; go_simp; try with_reducible rfl
  try simp only [Act.put, List.setIfInBounds_toArray, List.set_cons_zero, List.set_cons_succ]
  refine F_pure (i := 12) (some 17) (ls' := #[true, true, true, true, true, true, true, true, true, true, true, true, true, false, false, false, true, false, true, true, false, false]) rfl rfl (by kernel_rfl) (by kernel_rfl) (by kernel_rfl) (by kernel_rfl) (by rfl) (v := ?_) ?_ ?_
  rotate_left 1
  · intro w; go_simp; try with_reducible rfl
  try simp only [Act.put, List.setIfInBounds_toArray, List.set_cons_zero, List.set_cons_succ]
  refine F_take (i := 13) (some 18) (ls' := #[true, true, true, true, true, true, true, true, true, true, true, true, true, true, false, false, true, false, true, true, false, false]) rfl rfl (by kernel_rfl) (by kernel_rfl) (by kernel_rfl) (by kernel_rfl) (by kernel_rfl) (by rfl) (v := ?_) ?_ hHeld ?_
  rotate_left 1
  · intro w hSw; (try dsimp only at hSw); go_simp; try with_reducible rfl
  try simp only [Act.put, List.setIfInBounds_toArray, List.set_cons_zero, List.set_cons_succ]
  refine F_pure (i := 14) (some 19) (ls' := #[true, true, true, true, true, true, true, true, true, true, true, true, true, true, true, false, true, false, true, true, false, false]) rfl rfl (by kernel_rfl) (by kernel_rfl) (by kernel_rfl) (by kernel_rfl) (by rfl) (v := ?_) ?_ ?_
  rotate_left 1
  · intro w; go_simp; try with_reducible rfl
  try simp only [Act.put, List.setIfInBounds_toArray, List.set_cons_zero, List.set_cons_succ]
  refine F_pure (i := 15) (some 20) (ls' := #[true, true, true, true, true, true, true, true, true, true, true, true, true, true, true, true, true, false, true, true, false, false]) rfl rfl (by kernel_rfl) (by kernel_rfl) (by kernel_rfl) (by kernel_rfl) (by rfl) (v := ?_) ?_ ?_
  rotate_left 1
  · intro w; go_simp; try with_reducible rfl
  try simp only [Act.put, List.setIfInBounds_toArray, List.set_cons_zero, List.set_cons_succ]
  refine F_some (is := [17]) (by kernel_rfl) (by simp) (fun i hi => ?_)
  obtain rfl : i = 17 := by simpa using hi
  refine F_way (S := fun w' => w'.cell? ⟨w.heap.size, 0, none⟩ = some (.int .i64 0) ∧ w'.cell? ⟨w.heap.size, 1, none⟩ = some (.int .u64 (P : Int)) ∧ w'.cell? ⟨w.heap.size, 2, none⟩ = some (.int .i64 20) ∧ w'.cell? ⟨w.heap.size + 1, 0, none⟩ = some (.int .i64 0) ∧ w'.cell? ⟨w.heap.size + 1, 1, none⟩ = some (.int .i64 (n : Int)) ∧ w'.cell? ⟨w.heap.size + 1, 2, none⟩ = some (.int .u64 (R.1 : Int)) ∧ w'.cell? ⟨w.heap.size + 1, 3, none⟩ = some (.int .u64 (R.2 : Int)) ∧ w'.cell? ⟨w.heap.size + 1, 4, none⟩ = some (.int .i64 (t : Int)) ∧ w'.cell? ⟨w.heap.size + 1, 5, none⟩ = some (.int .u64 (E : Int)) ∧ w'.cell? ⟨w.heap.size + 1, 6, none⟩ = some (.int .u64 (S : Int))) (L := 21) (o := _) rfl (ls' := #[true, true, true, true, true, true, true, true, true, true, true, true, true, true, true, true, true, true, true, true, false, false]) (by kernel_rfl) (by rfl) (fun K hK => ?_)
  go_simp
  go_at_call 52
  refine (cO _).mono ?_
  clear cO
  rintro e w2 ⟨A2, c2, rfl, hc2, hr2, x2⟩
  have X2 : Ext W0 w2 := (Ext.refl W0).drew.trans x2
  have hHeld2 := HC.out _ X2
  clear hHeld
  have hHeld := hHeld2
  clear hHeld2
  refine hK _ _ (fun _ _ => hHeld) ?_
  clear hK K
  try simp only [Act.put, List.setIfInBounds_toArray, List.set_cons_zero, List.set_cons_succ]
  refine F_some (is := [20]) (by kernel_rfl) (by simp) (fun i hi => ?_)
  obtain rfl : i = 20 := by simpa using hi
  refine F_way (S := fun w' => w'.cell? ⟨w.heap.size, 0, none⟩ = some (.int .i64 0) ∧ w'.cell? ⟨w.heap.size, 1, none⟩ = some (.int .u64 (P : Int)) ∧ w'.cell? ⟨w.heap.size, 2, none⟩ = some (.int .i64 20) ∧ w'.cell? ⟨w.heap.size + 1, 0, none⟩ = some (.int .i64 0) ∧ w'.cell? ⟨w.heap.size + 1, 1, none⟩ = some (.int .i64 (n : Int)) ∧ w'.cell? ⟨w.heap.size + 1, 2, none⟩ = some (.int .u64 (R.1 : Int)) ∧ w'.cell? ⟨w.heap.size + 1, 3, none⟩ = some (.int .u64 (R.2 : Int)) ∧ w'.cell? ⟨w.heap.size + 1, 4, none⟩ = some (.int .i64 (t : Int)) ∧ w'.cell? ⟨w.heap.size + 1, 5, none⟩ = some (.int .u64 (E : Int)) ∧ w'.cell? ⟨w.heap.size + 1, 6, none⟩ = some (.int .u64 (S : Int))) (L := 21) (o := _) rfl (ls' := #[true, true, true, true, true, true, true, true, true, true, true, true, true, true, true, true, true, true, true, true, true, false]) (by kernel_rfl) (by rfl) (fun K hK => ?_)
  go_simp
  go_at_call 62
  refine (cS A2 c2 hc2 w2 hr2).mono ?_
  clear cS
  rintro e w3 ⟨rfl, x3⟩
  have X3 := X2.trans x3
  have hHeld2 := HC.out _ X3
  clear hHeld
  have hHeld := hHeld2
  clear hHeld2
  refine hK _ _ (fun _ _ => hHeld) ?_
  clear hK K
  try simp only [Act.put, List.setIfInBounds_toArray, List.set_cons_zero, List.set_cons_succ]
  refine F_some (is := [21]) (by kernel_rfl) (by simp) (fun i hi => ?_)
  obtain rfl : i = 21 := by simpa using hi
  refine F_way (S := fun w' => w'.cell? ⟨w.heap.size, 0, none⟩ = some (.int .i64 0) ∧ w'.cell? ⟨w.heap.size, 1, none⟩ = some (.int .u64 (P : Int)) ∧ w'.cell? ⟨w.heap.size, 2, none⟩ = some (.int .i64 20) ∧ w'.cell? ⟨w.heap.size + 1, 0, none⟩ = some (.int .i64 0) ∧ w'.cell? ⟨w.heap.size + 1, 1, none⟩ = some (.int .i64 (n : Int)) ∧ w'.cell? ⟨w.heap.size + 1, 2, none⟩ = some (.int .u64 (R.1 : Int)) ∧ w'.cell? ⟨w.heap.size + 1, 3, none⟩ = some (.int .u64 (R.2 : Int)) ∧ w'.cell? ⟨w.heap.size + 1, 4, none⟩ = some (.int .i64 (t : Int)) ∧ w'.cell? ⟨w.heap.size + 1, 5, none⟩ = some (.int .u64 (E : Int)) ∧ w'.cell? ⟨w.heap.size + 1, 6, none⟩ = some (.int .u64 (S : Int))) (L := 21) (o := _) rfl (ls' := #[true, true, true, true, true, true, true, true, true, true, true, true, true, true, true, true, true, true, true, true, true, true]) (by kernel_rfl) (by rfl) (fun K hK => ?_)
  go_simp
  refine hK _ _ (fun h _ => absurd h (by decide)) ?_
  clear hK K
  try simp only [Act.put, List.setIfInBounds_toArray, List.set_cons_zero, List.set_cons_succ]
  refine F_done (by kernel_rfl) ?_
  go_wp2
  go_ret
  exact ⟨rfl, HX0.out.trans X3⟩
end Go.Proofs.YtfpmfegmehbfbaaGreatDoor
