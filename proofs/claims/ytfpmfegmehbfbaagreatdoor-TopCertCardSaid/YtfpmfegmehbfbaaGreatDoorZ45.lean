/- Parts of the proofs, put together: Up. -/
import Derived.Lib.SlBytesConst
import Derived.Test.YtfpmfegmehbfbaaGreatDoorZ3
import Derived.Test.YtfpmfegmehbfbaaGreatDoorZ19
import Derived.Test.YtfpmfegmehbfbaaGreatDoorZ25
import Derived.Test.YtfpmfegmehbfbaaGreatDoorZ26
/- What all the laws through the layers ask ahead: up. -/
namespace Go.Proofs.YtfpmfegmehbfbaaGreatDoor
set_option linter.unusedVariables false
set_option linter.unusedSimpArgs false
set_option linter.unusedSimpArgs false
open Go.RowKit Go.Shelf Go.Maps

set_option maxRecDepth 100000 in
theorem up_x : upF ⟨#[120, 46, 97]⟩ = ⟨#[97]⟩ := by kernel_rfl
set_option maxRecDepth 100000 in
theorem up_a : upF ⟨#[97]⟩ = ⟨#[]⟩ := by kernel_rfl
theorem abv_a : abvF ⟨#[97]⟩ = [] := by rw [abvF, dif_pos (by rw [up_a]; rfl)]
theorem abv_x : abvF ⟨#[120, 46, 97]⟩ = [⟨#[97]⟩] := by rw [abvF, dif_neg (by rw [up_x]; decide), up_x, abv_a]
set_option maxRecDepth 100000 in
theorem pat_a : patF ⟨#[42, 46, 97]⟩ = (⟨#[97]⟩, true, true) := by kernel_rfl
set_option maxRecDepth 100000 in
theorem mch_x : mchF ⟨#[42, 46, 97]⟩ ⟨#[120, 46, 97]⟩ = true := by
  unfold mchF
  rw [pat_a, abv_x, decide_eq_true (show namP ⟨#[120, 46, 97]⟩ by decide)]
  simp [ByteArray.toList_eq]
set_option maxRecDepth 100000 in
theorem mch_a : mchF ⟨#[42, 46, 97]⟩ ⟨#[97]⟩ = false := by
  unfold mchF
  rw [pat_a, abv_a, decide_eq_true (show namP ⟨#[97]⟩ by decide)]
  simp
theorem cell_mark (W : World) (T : TypeId) (cs : Array Value) (m : Nat × Nat) (j : Nat) : (W.alloc (.cells cs T m)).cell? ⟨W.heap.size, j, none⟩ = cs[j]? := cell_of_row _ _ _ _ _ _ (heap_alloc_new W _)
theorem reads_mark (W : World) (T : TypeId) (x : Value) (m : Nat × Nat) : Reads (W.alloc (.cells #[x] T m)) (W.alloc (.cells #[x] T m)).heap.size 1 (some ⟨W.heap.size, 0, none⟩) 1 [x] :=
  ⟨by simp, fun _ => ⟨_, rfl, by simp, fun j u hj => by
    rw [show (⟨W.heap.size, 0, none⟩ : Addr).add j = ⟨W.heap.size, j, none⟩ by simp [Addr.add]; exact fun h => h.symm, cell_mark]
    simpa using hj⟩⟩
theorem rd_new (W : World) (m : Nat × Nat) : Lib.Bytes (W.alloc (.cells #[.int .u8 97, .int .u8 108, .int .u8 108, .int .u8 111, .int .u8 119, .int .u8 32, .int .u8 119, .int .u8 101, .int .u8 98, .int .u8 32, .int .u8 123, .int .u8 32, .int .u8 42, .int .u8 46, .int .u8 97, .int .u8 59, .int .u8 32, .int .u8 108, .int .u8 105, .int .u8 102, .int .u8 101, .int .u8 32, .int .u8 57, .int .u8 59, .int .u8 32, .int .u8 125] 5 m)) W.heap.size 0 rdT := fun i hi => by
  rw [Nat.zero_add, cell_mark]
  have hi : i < 26 := hi
  match i, hi with
  | 0, _ => exact rfl
  | 1, _ => exact rfl
  | 2, _ => exact rfl
  | 3, _ => exact rfl
  | 4, _ => exact rfl
  | 5, _ => exact rfl
  | 6, _ => exact rfl
  | 7, _ => exact rfl
  | 8, _ => exact rfl
  | 9, _ => exact rfl
  | 10, _ => exact rfl
  | 11, _ => exact rfl
  | 12, _ => exact rfl
  | 13, _ => exact rfl
  | 14, _ => exact rfl
  | 15, _ => exact rfl
  | 16, _ => exact rfl
  | 17, _ => exact rfl
  | 18, _ => exact rfl
  | 19, _ => exact rfl
  | 20, _ => exact rfl
  | 21, _ => exact rfl
  | 22, _ => exact rfl
  | 23, _ => exact rfl
  | 24, _ => exact rfl
  | 25, _ => exact rfl
  | i + 26, h => exact absurd h (by omega)
theorem bytes_str {W : World} {A : Option Addr} {c : Nat} (h : Reads W W.heap.size 1 A 4 [.int .u8 2, .int .u8 2, .int .u8 0, .int .u8 128]) : (convert 22 9 (.slice A 4 c)).run Tryz.prog W = .ok (.string ⟨#[2, 2, 0, 128]⟩) W := by
  obtain ⟨⟨g, k, sp⟩, rfl, -, hc⟩ := h.2 (by decide)
  have y0 := hc 0 _ rfl
  have e0 : (⟨g, k, sp⟩ : Addr).add 0 = ⟨g, k, sp⟩ := by simp [Addr.add]
  rw [e0] at y0
  have hsp : sp = none := World.cell?_spot y0
  subst hsp
  have hB : Lib.Bytes W g k ⟨#[2, 2, 0, 128]⟩ := fun i hi => by
    have hi : i < 4 := hi
    match i, hi with
    | 0, _ => exact y0
    | 1, _ => exact hc 1 _ rfl
    | 2, _ => exact hc 2 _ rfl
    | 3, _ => exact hc 3 _ rfl
    | i + 4, h => exact absurd h (by omega)
  exact Lib.run_convert_whole W 22 5 9 Tryz.underlying22 Tryz.underlying5 Tryz.underlying9 g k ⟨#[2, 2, 0, 128]⟩ hB c
set_option maxRecDepth 100000 in
set_option maxHeartbeats 8000000 in
theorem up_any (w : World) (hk : KindsW w) : Calls Tryz.prog 7 #[] w fun e w' => e = .returned (.bool true) ∧ Ext w w' := by
  obtain ⟨s, hs⟩ : ∃ s, s = secN [97] := ⟨_, rfl⟩
  have ho : oddN s = false := by rw [hs]; exact oddN_some _ _
  have hsb : s < 18446744073709551616 := by unfold oddN at ho; simp at ho; have : bR < 18446744073709551616 := (by decide); omega
  have cS : ∀ W g, Reads W W.heap.size 1 (some ⟨g, 0, none⟩) 1 [.int .u8 97] → Calls Tryz.prog 34 #[.slice (some ⟨g, 0, none⟩) 1 1] W fun e w' => e = .returned (.int .u64 (s : Nat)) ∧ Ext W w' := fun W g h => by
    rw [hs]; exact Secret_any [97] (by decide) (by decide) _ 1 (Nat.le_refl 1) W h
  have cP := fun W => Public_any s hsb W
  rw [if_neg (by rw [ho]; decide)] at cP
  have cG : ∀ W g, Reads W W.heap.size 1 (some ⟨g, 0, none⟩) 1 [.int .u8 109] → Calls Tryz.prog 41 #[.int .u64 s, .slice (some ⟨g, 0, none⟩) 1 1] W _ := fun W g h => Sign_any s ho [109] (by decide) (by decide) _ 1 (Nat.le_refl 1) W h
  have hin := inB_base s
  have hpk : powM bQ 4 s < 18446744073709551616 ∧ powM bQ 4 s ≠ 0 := by
    obtain ⟨h0, h1, -⟩ := (inB_iff _).1 hin
    have : bQ < 18446744073709551616 := by decide
    exact ⟨by omega, by omega⟩
  have hchk := check_sign s [109]
  have hE := sgE_lt s [109]
  have hS := sgS_lt s [109]
  have cK : ∀ W g, Reads W W.heap.size 1 (some ⟨g, 0, none⟩) 1 [.int .u8 109] → Calls Tryz.prog 44 #[.int .u64 (powM bQ 4 s : Nat), .slice (some ⟨g, 0, none⟩) 1 1, .agg #[.int .u64 (sgE s [109] : Nat), .int .u64 (sgS s [109] : Nat)]] W fun e w' => e = .returned (.int .i64 0) ∧ Ext W w' := fun W g h => by
    have := Check_any (powM bQ 4 s) hpk.1 (sgE s [109]) (sgS s [109]) (r64 hE) (r64 hS) [109] (by decide) (by decide) _ 1 (Nat.le_refl 1) W h
    rw [hchk] at this
    exact this
  have hpz := hpk.2
  clear hchk hE hS hpk hin
  generalize powM bQ 4 s = pk at cP cK hpz
  generalize sgE s [109] = sE at cG cK
  generalize sgS s [109] = sS at cG cK
  have cL : ∀ W g, Reads W W.heap.size 1 (some ⟨g, 0, none⟩) 1 [.int .u8 120] → Calls Tryz.prog 17 #[.slice (some ⟨g, 0, none⟩) 1 1] W _ := fun W g h => Leaf_any [120] (by decide) _ 1 (Nat.le_refl 1) W h (by decide)
  generalize (hSum (leafB [120])).1 = t1 at cL
  generalize (hSum (leafB [120])).2 = t2 at cL
  have cM1 := Match_any ⟨#[42, 46, 97]⟩ ⟨#[120, 46, 97]⟩ (by decide) (by decide)
  have cM2 := Match_any ⟨#[42, 46, 97]⟩ ⟨#[97]⟩ (by decide) (by decide)
  rw [mch_x] at cM1
  rw [mch_a] at cM2
  have cI := Int128_any
  have cv := fun (w : World) (C : Array Value) (n c : Nat) => Lib.run_convert_bytes_const (P := Tryz.prog) w 22 5 C n c Tryz.underlying22 Tryz.underlying5
  have HK := Lib.hid hk
  have HPZ := Lib.hid hpz
  clear hk hsb ho hs hpz
  go_enter Tryz.func7, Tryz.ntmps7
  go_upto_region 2 with (first | (go_at_call 34; refine (cS _ _ (reads_mark _ _ _ _)).mono ?_; rintro e w1 ⟨rfl, x1⟩; replace x1 := ((Ext.refl w).alloc _).trans x1) | (go_at_call 35; refine (cP _).mono ?_; rintro e w2 ⟨rfl, x2⟩; replace x2 := x1.trans x2; clear x1))
  have HX2 := Lib.hid x2
  clear x2
  go_upto_region 3 with (first | (go_at_call 34; refine (cS _ _ (reads_mark _ _ _ _)).mono ?_; clear cS; rintro e w3 ⟨rfl, x3⟩; replace x3 := ((Ext.refl w2).alloc _).trans x3) | (go_at_call 41; refine (cG _ _ (reads_mark _ _ _ _)).mono ?_; clear cG; rintro e w4 ⟨rfl, x4⟩; replace x4 := (x3.alloc _).trans x4; clear x3))
  obtain ⟨W4, e4⟩ : ∃ W, w4.alloc (.cells #[.int .u64 (sE : Int), .int .u64 (sS : Int)] 36) = W := ⟨_, rfl⟩
  have b4 : Blk W4 w4.heap.size 36 #[.int .u64 (sE : Int), .int .u64 (sS : Int)] := by rw [← e4]; exact Blk.new _ _ _
  have HB4 := Lib.hid b4
  have HX4 : Hid (Ext w W4) := Lib.hid (by rw [← e4]; exact (HX2.out.trans x4).alloc _)
  try rw [e4]
  clear e4 b4 x4
  go_upto_region 4 with (first | (go_at_call 42; refine (cI _).mono ?_; clear cI; rintro e w5 ⟨A5, c5, rfl, r5, x5⟩) | (go_at_call 30; refine (Put128_any A5 c5 _ (HK.out.ext (HX4.out.trans x5)) r5).mono ?_; clear r5; rintro e w6 ⟨A6, c6, rfl, r6, x6⟩; replace x6 := x5.trans x6; clear x5))
  have HR6 := Lib.hid r6
  have HX6 := Lib.hid x6
  clear r6 x6
  go_upto_region 5 with (go_at_call 43; refine (Parse_any w6.heap.size 26 _ (rd_new w6 _) ⟨by decide, by decide⟩).mono ?_; rintro e w7 ⟨g7, c7, rfl, h7, x7⟩; replace x7 := ((Ext.refl w6).alloc _).trans x7)
  have HC7 := Lib.hid h7
  have HX7 := Lib.hid x7
  clear h7 x7
  go_upto_region 6 with (go_at_call 17; refine (cL _ _ (reads_mark _ _ _ _)).mono ?_; clear cL; rintro e w8 ⟨rfl, x8⟩; replace x8 := ((Ext.refl w7).alloc _).trans x8)
  obtain ⟨W6, e6⟩ : ∃ W, w8.alloc (.cells #[.int .u64 (t1 : Int), .int .u64 (t2 : Int)] 34) = W := ⟨_, rfl⟩
  have b6 : Blk W6 w8.heap.size 34 #[.int .u64 (t1 : Int), .int .u64 (t2 : Int)] := by rw [← e6]; exact Blk.new _ _ _
  have x86 : Ext w7 W6 := by rw [← e6]; exact x8.alloc _
  have x66 : Ext w6 W6 := HX7.out.trans x86
  have x46 : Ext W4 W6 := HX6.out.trans x66
  have HXF : Hid (Ext w W6) := Lib.hid (HX4.out.trans x46)
  have b46 := ext_blk x46 HB4.out
  have r66 := (Reads.below HR6.out x66.out).more x66.size
  have h76 := x86.cell HC7.out
  try rw [e6]
  have HC : Hid (∀ W, Ext W6 W → (W.cell? ⟨w4.heap.size, 0, none⟩ = some (.int .u64 (sE : Int)) ∧ W.cell? ⟨w4.heap.size, 1, none⟩ = some (.int .u64 (sS : Int)) ∧ W.cell? ⟨g7, 4, none⟩ = some (.int .i64 9) ∧ W.cell? ⟨w8.heap.size, 0, none⟩ = some (.int .u64 (t1 : Int)) ∧ W.cell? ⟨w8.heap.size, 1, none⟩ = some (.int .u64 (t2 : Int)) ∧ (convert 22 9 (.slice A6 4 c6)).run Tryz.prog W = .ok (.string ⟨#[2, 2, 0, 128]⟩) W)) :=
    Lib.hid (fun W x => ⟨(ext_blk x b46).cell 0, (ext_blk x b46).cell 1, x.cell h76, (ext_blk x b6).cell 0, (ext_blk x b6).cell 1, bytes_str ((Reads.below r66 x.out).more x.size)⟩)
  clear e6 b6 x86 x66 x46 b46 r66 h76 x8
  have hpn : ((pk : Int) != 0) = true := by rw [bne_iff_ne]; have := HPZ.out; omega
  have hpn2 : ¬ ((pk : Int) = 0) := by have := HPZ.out; omega
  have cv2 : ∀ (C : Array Value) (n c : Nat), (convert 22 22 (.slice (some ⟨W6.heap.size, 0, none⟩) n c)).run Tryz.prog ((W6.alloc (.cells C 5)).drew) = .ok (.slice (some ⟨W6.heap.size, 0, none⟩) n c) ((W6.alloc (.cells C 5 (C.size, C.size + 1))).drew) := fun C n c => cv W6.drew C n c
  have hes := eq2_same (t1 : Int) (t2 : Int)
  refine held_start (n := 58) (ls := #[false, false, false, false, false, false, false, false, false, false, false, false, false, false, false, false, false, false, false, false, false, false, false, false, false, false, false, false, false, false, false, false, false, false, false, false, false, false, false, false, false, false, false, false, false, false, false, false, false, false, false, false, false, false, false, false, false, false]) (fun w' => w'.cell? ⟨w4.heap.size, 0, none⟩ = some (.int .u64 (sE : Int)) ∧ w'.cell? ⟨w4.heap.size, 1, none⟩ = some (.int .u64 (sS : Int)) ∧ w'.cell? ⟨g7, 4, none⟩ = some (.int .i64 9) ∧ w'.cell? ⟨w8.heap.size, 0, none⟩ = some (.int .u64 (t1 : Int)) ∧ w'.cell? ⟨w8.heap.size, 1, none⟩ = some (.int .u64 (t2 : Int)) ∧ (convert 22 9 (.slice A6 4 c6)).run Tryz.prog w' = .ok (.string ⟨#[2, 2, 0, 128]⟩) w') (by kernel_rfl) (by kernel_rfl) (by kernel_rfl) (HC.out _ (Ext.refl W6).drew) (fun hHeld => ?_)
  refine held_take (i := 0) (some 42) (ls' := #[true, false, false, false, false, false, false, false, false, false, false, false, false, false, false, false, false, false, false, false, false, false, false, false, false, false, false, false, false, false, false, false, false, false, false, false, false, false, false, false, false, false, false, false, false, false, false, false, false, false, false, false, false, false, false, false, false, false]) rfl rfl (by kernel_rfl) (by kernel_rfl) (by kernel_rfl) (by kernel_rfl) (by rfl) (v := ?_) ?_ hHeld ?_
  rotate_left 1
  · intro w hSw; (try dsimp only at hSw); go_simp; try with_reducible rfl
  try simp only [Act.put, List.setIfInBounds_toArray, List.set_cons_zero, List.set_cons_succ]
  refine held_take (i := 1) (some 43) (ls' := #[true, true, false, false, false, false, false, false, false, false, false, false, false, false, false, false, false, false, false, false, false, false, false, false, false, false, false, false, false, false, false, false, false, false, false, false, false, false, false, false, false, false, false, false, false, false, false, false, false, false, false, false, false, false, false, false, false, false]) rfl rfl (by kernel_rfl) (by kernel_rfl) (by kernel_rfl) (by kernel_rfl) (by rfl) (v := ?_) ?_ hHeld ?_
  rotate_left 1
  · intro w hSw; (try dsimp only at hSw); go_simp; try with_reducible rfl
  try simp only [Act.put, List.setIfInBounds_toArray, List.set_cons_zero, List.set_cons_succ]
  refine held_take (i := 2) (some 44) (ls' := #[true, true, true, false, false, false, false, false, false, false, false, false, false, false, false, false, false, false, false, false, false, false, false, false, false, false, false, false, false, false, false, false, false, false, false, false, false, false, false, false, false, false, false, false, false, false, false, false, false, false, false, false, false, false, false, false, false, false]) rfl rfl (by kernel_rfl) (by kernel_rfl) (by kernel_rfl) (by kernel_rfl) (by rfl) (v := ?_) ?_ hHeld ?_
  rotate_left 1
  · intro w hSw; (try dsimp only at hSw); go_simp; try with_reducible rfl
  try simp only [Act.put, List.setIfInBounds_toArray, List.set_cons_zero, List.set_cons_succ]
  refine held_take (i := 3) (some 45) (ls' := #[true, true, true, true, false, false, false, false, false, false, false, false, false, false, false, false, false, false, false, false, false, false, false, false, false, false, false, false, false, false, false, false, false, false, false, false, false, false, false, false, false, false, false, false, false, false, false, false, false, false, false, false, false, false, false, false, false, false]) rfl rfl (by kernel_rfl) (by kernel_rfl) (by kernel_rfl) (by kernel_rfl) (by rfl) (v := ?_) ?_ hHeld ?_
  rotate_left 1
  · intro w hSw; (try dsimp only at hSw); go_simp; try with_reducible rfl
  try simp only [Act.put, List.setIfInBounds_toArray, List.set_cons_zero, List.set_cons_succ]
  refine held_take (i := 4) (some 46) (ls' := #[true, true, true, true, true, false, false, false, false, false, false, false, false, false, false, false, false, false, false, false, false, false, false, false, false, false, false, false, false, false, false, false, false, false, false, false, false, false, false, false, false, false, false, false, false, false, false, false, false, false, false, false, false, false, false, false, false, false]) rfl rfl (by kernel_rfl) (by kernel_rfl) (by kernel_rfl) (by kernel_rfl) (by rfl) (v := ?_) ?_ hHeld ?_
  rotate_left 1
  · intro w hSw; (try dsimp only at hSw); go_simp; try with_reducible rfl
  try simp only [Act.put, List.setIfInBounds_toArray, List.set_cons_zero, List.set_cons_succ]
  refine held_take (i := 5) (some 47) (ls' := #[true, true, true, true, true, true, false, false, false, false, false, false, false, false, false, false, false, false, false, false, false, false, false, false, false, false, false, false, false, false, false, false, false, false, false, false, false, false, false, false, false, false, false, false, false, false, false, false, false, false, false, false, false, false, false, false, false, false]) rfl rfl (by kernel_rfl) (by kernel_rfl) (by kernel_rfl) (by kernel_rfl) (by rfl) (v := ?_) ?_ hHeld ?_
  rotate_left 1
  · intro w hSw; (try dsimp only at hSw); go_simp; try with_reducible rfl
  try simp only [Act.put, List.setIfInBounds_toArray, List.set_cons_zero, List.set_cons_succ]
  refine held_take (i := 6) (some 48) (ls' := #[true, true, true, true, true, true, true, false, false, false, false, false, false, false, false, false, false, false, false, false, false, false, false, false, false, false, false, false, false, false, false, false, false, false, false, false, false, false, false, false, false, false, false, false, false, false, false, false, false, false, false, false, false, false, false, false, false, false]) rfl rfl (by kernel_rfl) (by kernel_rfl) (by kernel_rfl) (by kernel_rfl) (by rfl) (v := ?_) ?_ hHeld ?_
  rotate_left 1
  · intro w hSw; (try dsimp only at hSw); go_simp; try with_reducible rfl
  try simp only [Act.put, List.setIfInBounds_toArray, List.set_cons_zero, List.set_cons_succ]
  refine held_take (i := 7) (some 49) (ls' := #[true, true, true, true, true, true, true, true, false, false, false, false, false, false, false, false, false, false, false, false, false, false, false, false, false, false, false, false, false, false, false, false, false, false, false, false, false, false, false, false, false, false, false, false, false, false, false, false, false, false, false, false, false, false, false, false, false, false]) rfl rfl (by kernel_rfl) (by kernel_rfl) (by kernel_rfl) (by kernel_rfl) (by rfl) (v := ?_) ?_ hHeld ?_
  rotate_left 1
  · intro w hSw; (try dsimp only at hSw); go_simp; try with_reducible rfl
  try simp only [Act.put, List.setIfInBounds_toArray, List.set_cons_zero, List.set_cons_succ]
  refine held_take (i := 8) (some 50) (ls' := #[true, true, true, true, true, true, true, true, true, false, false, false, false, false, false, false, false, false, false, false, false, false, false, false, false, false, false, false, false, false, false, false, false, false, false, false, false, false, false, false, false, false, false, false, false, false, false, false, false, false, false, false, false, false, false, false, false, false]) rfl rfl (by kernel_rfl) (by kernel_rfl) (by kernel_rfl) (by kernel_rfl) (by rfl) (v := ?_) ?_ hHeld ?_
  rotate_left 1
  · intro w hSw; (try dsimp only at hSw); go_simp; try with_reducible rfl
  try simp only [Act.put, List.setIfInBounds_toArray, List.set_cons_zero, List.set_cons_succ]
  refine held_take (i := 9) (some 51) (ls' := #[true, true, true, true, true, true, true, true, true, true, false, false, false, false, false, false, false, false, false, false, false, false, false, false, false, false, false, false, false, false, false, false, false, false, false, false, false, false, false, false, false, false, false, false, false, false, false, false, false, false, false, false, false, false, false, false, false, false]) rfl rfl (by kernel_rfl) (by kernel_rfl) (by kernel_rfl) (by kernel_rfl) (by rfl) (v := ?_) ?_ hHeld ?_
  rotate_left 1
  · intro w hSw; (try dsimp only at hSw); go_simp; try with_reducible rfl
  try simp only [Act.put, List.setIfInBounds_toArray, List.set_cons_zero, List.set_cons_succ]
  refine held_take (i := 10) (some 52) (ls' := #[true, true, true, true, true, true, true, true, true, true, true, false, false, false, false, false, false, false, false, false, false, false, false, false, false, false, false, false, false, false, false, false, false, false, false, false, false, false, false, false, false, false, false, false, false, false, false, false, false, false, false, false, false, false, false, false, false, false]) rfl rfl (by kernel_rfl) (by kernel_rfl) (by kernel_rfl) (by kernel_rfl) (by rfl) (v := ?_) ?_ hHeld ?_
  rotate_left 1
  · intro w hSw; (try dsimp only at hSw); go_simp; try with_reducible rfl
  try simp only [Act.put, List.setIfInBounds_toArray, List.set_cons_zero, List.set_cons_succ]
  refine held_take (i := 11) (some 53) (ls' := #[true, true, true, true, true, true, true, true, true, true, true, true, false, false, false, false, false, false, false, false, false, false, false, false, false, false, false, false, false, false, false, false, false, false, false, false, false, false, false, false, false, false, false, false, false, false, false, false, false, false, false, false, false, false, false, false, false, false]) rfl rfl (by kernel_rfl) (by kernel_rfl) (by kernel_rfl) (by kernel_rfl) (by rfl) (v := ?_) ?_ hHeld ?_
  rotate_left 1
  · intro w hSw; (try dsimp only at hSw); go_simp; try with_reducible rfl
  try simp only [Act.put, List.setIfInBounds_toArray, List.set_cons_zero, List.set_cons_succ]
  refine held_take (i := 12) (some 54) (ls' := #[true, true, true, true, true, true, true, true, true, true, true, true, true, false, false, false, false, false, false, false, false, false, false, false, false, false, false, false, false, false, false, false, false, false, false, false, false, false, false, false, false, false, false, false, false, false, false, false, false, false, false, false, false, false, false, false, false, false]) rfl rfl (by kernel_rfl) (by kernel_rfl) (by kernel_rfl) (by kernel_rfl) (by rfl) (v := ?_) ?_ hHeld ?_
  rotate_left 1
  · intro w hSw; (try dsimp only at hSw); go_simp; try with_reducible rfl
  try simp only [Act.put, List.setIfInBounds_toArray, List.set_cons_zero, List.set_cons_succ]
  refine held_take (i := 13) (some 55) (ls' := #[true, true, true, true, true, true, true, true, true, true, true, true, true, true, false, false, false, false, false, false, false, false, false, false, false, false, false, false, false, false, false, false, false, false, false, false, false, false, false, false, false, false, false, false, false, false, false, false, false, false, false, false, false, false, false, false, false, false]) rfl rfl (by kernel_rfl) (by kernel_rfl) (by kernel_rfl) (by kernel_rfl) (by rfl) (v := ?_) ?_ hHeld ?_
  rotate_left 1
  · intro w hSw; (try dsimp only at hSw); go_simp; try with_reducible rfl
  try simp only [Act.put, List.setIfInBounds_toArray, List.set_cons_zero, List.set_cons_succ]
  refine held_take (i := 14) (some 56) (ls' := #[true, true, true, true, true, true, true, true, true, true, true, true, true, true, true, false, false, false, false, false, false, false, false, false, false, false, false, false, false, false, false, false, false, false, false, false, false, false, false, false, false, false, false, false, false, false, false, false, false, false, false, false, false, false, false, false, false, false]) rfl rfl (by kernel_rfl) (by kernel_rfl) (by kernel_rfl) (by kernel_rfl) (by rfl) (v := ?_) ?_ hHeld ?_
  rotate_left 1
  · intro w hSw; (try dsimp only at hSw); go_simp; try with_reducible rfl
  try simp only [Act.put, List.setIfInBounds_toArray, List.set_cons_zero, List.set_cons_succ]
  refine held_take (i := 15) (some 57) (ls' := #[true, true, true, true, true, true, true, true, true, true, true, true, true, true, true, true, false, false, false, false, false, false, false, false, false, false, false, false, false, false, false, false, false, false, false, false, false, false, false, false, false, false, false, false, false, false, false, false, false, false, false, false, false, false, false, false, false, false]) rfl rfl (by kernel_rfl) (by kernel_rfl) (by kernel_rfl) (by kernel_rfl) (by rfl) (v := ?_) ?_ hHeld ?_
  rotate_left 1
  · intro w hSw; (try dsimp only at hSw); go_simp; try with_reducible rfl
  try simp only [Act.put, List.setIfInBounds_toArray, List.set_cons_zero, List.set_cons_succ]
  refine held_take (i := 16) (some 58) (ls' := #[true, true, true, true, true, true, true, true, true, true, true, true, true, true, true, true, true, false, false, false, false, false, false, false, false, false, false, false, false, false, false, false, false, false, false, false, false, false, false, false, false, false, false, false, false, false, false, false, false, false, false, false, false, false, false, false, false, false]) rfl rfl (by kernel_rfl) (by kernel_rfl) (by kernel_rfl) (by kernel_rfl) (by rfl) (v := ?_) ?_ hHeld ?_
  rotate_left 1
  · intro w hSw; (try dsimp only at hSw); go_simp; try with_reducible rfl
  try simp only [Act.put, List.setIfInBounds_toArray, List.set_cons_zero, List.set_cons_succ]
  refine held_take (i := 17) (some 59) (ls' := #[true, true, true, true, true, true, true, true, true, true, true, true, true, true, true, true, true, true, false, false, false, false, false, false, false, false, false, false, false, false, false, false, false, false, false, false, false, false, false, false, false, false, false, false, false, false, false, false, false, false, false, false, false, false, false, false, false, false]) rfl rfl (by kernel_rfl) (by kernel_rfl) (by kernel_rfl) (by kernel_rfl) (by rfl) (v := ?_) ?_ hHeld ?_
  rotate_left 1
  · intro w hSw; (try dsimp only at hSw); go_simp; try with_reducible rfl
  try simp only [Act.put, List.setIfInBounds_toArray, List.set_cons_zero, List.set_cons_succ]
  refine held_take (i := 18) (some 60) (ls' := #[true, true, true, true, true, true, true, true, true, true, true, true, true, true, true, true, true, true, true, false, false, false, false, false, false, false, false, false, false, false, false, false, false, false, false, false, false, false, false, false, false, false, false, false, false, false, false, false, false, false, false, false, false, false, false, false, false, false]) rfl rfl (by kernel_rfl) (by kernel_rfl) (by kernel_rfl) (by kernel_rfl) (by rfl) (v := ?_) ?_ hHeld ?_
  rotate_left 1
  · intro w hSw; (try dsimp only at hSw); go_simp; try with_reducible rfl
  try simp only [Act.put, List.setIfInBounds_toArray, List.set_cons_zero, List.set_cons_succ]
  refine held_take (i := 19) (some 61) (ls' := #[true, true, true, true, true, true, true, true, true, true, true, true, true, true, true, true, true, true, true, true, false, false, false, false, false, false, false, false, false, false, false, false, false, false, false, false, false, false, false, false, false, false, false, false, false, false, false, false, false, false, false, false, false, false, false, false, false, false]) rfl rfl (by kernel_rfl) (by kernel_rfl) (by kernel_rfl) (by kernel_rfl) (by rfl) (v := ?_) ?_ hHeld ?_
  rotate_left 1
  · intro w hSw; (try dsimp only at hSw); go_simp; try with_reducible rfl
  try simp only [Act.put, List.setIfInBounds_toArray, List.set_cons_zero, List.set_cons_succ]
  refine held_take (i := 22) (some 64) (ls' := #[true, true, true, true, true, true, true, true, true, true, true, true, true, true, true, true, true, true, true, true, false, false, true, false, false, false, false, false, false, false, false, false, false, false, false, false, false, false, false, false, false, false, false, false, false, false, false, false, false, false, false, false, false, false, false, false, false, false]) rfl rfl (by kernel_rfl) (by kernel_rfl) (by kernel_rfl) (by kernel_rfl) (by rfl) (v := ?_) ?_ hHeld ?_
  rotate_left 1
  · intro w hSw; (try dsimp only at hSw); go_simp; try with_reducible rfl
  try simp only [Act.put, List.setIfInBounds_toArray, List.set_cons_zero, List.set_cons_succ]
  refine held_call (i := 20) (ls' := #[true, true, true, true, true, true, true, true, true, true, true, true, true, true, true, true, true, true, true, true, true, false, true, false, false, false, false, false, false, false, false, false, false, false, false, false, false, false, false, false, false, false, false, false, false, false, false, false, false, false, false, false, false, false, false, false, false, false]) rfl (by kernel_rfl) (by kernel_rfl) (by rfl) (fun K hK => ?_)
  have HH := Lib.hid hHeld
  clear hHeld
  go_simp
  (skip)
  have hHeld := HC.out _ (((Ext.refl W6).drew).alloc (.cells #[.int .u8 109] 5))
  clear HH
  refine hK _ _ hHeld ?_
  clear hK K
  try simp only [Act.put, List.setIfInBounds_toArray, List.set_cons_zero, List.set_cons_succ]
  refine held_call (i := 21) (ls' := #[true, true, true, true, true, true, true, true, true, true, true, true, true, true, true, true, true, true, true, true, true, true, true, false, false, false, false, false, false, false, false, false, false, false, false, false, false, false, false, false, false, false, false, false, false, false, false, false, false, false, false, false, false, false, false, false, false, false]) rfl (by kernel_rfl) (by kernel_rfl) (by rfl) (fun K hK => ?_)
  have HH := Lib.hid hHeld
  clear hHeld
  go_simp
  (skip)
  have hHeld := HC.out _ (((Ext.refl W6).drew).alloc (.cells #[.int .u8 109] 5 (1, 2)))
  clear HH
  refine hK _ _ hHeld ?_
  clear hK K
  try simp only [Act.put, List.setIfInBounds_toArray, List.set_cons_zero, List.set_cons_succ]
  refine held_call (i := 23) (ls' := #[true, true, true, true, true, true, true, true, true, true, true, true, true, true, true, true, true, true, true, true, true, true, true, true, false, false, false, false, false, false, false, false, false, false, false, false, false, false, false, false, false, false, false, false, false, false, false, false, false, false, false, false, false, false, false, false, false, false]) rfl (by kernel_rfl) (by kernel_rfl) (by rfl) (fun K hK => ?_)
  have HH := Lib.hid hHeld
  clear hHeld
  go_simp
  go_at_call 44; refine (cK _ _ (reads_mark W6.drew _ _ _)).mono ?_; rintro e w9 ⟨rfl, x9⟩; have HX9 : Hid (Ext W6 w9) := Lib.hid ((((Ext.refl W6).alloc _).drew).trans x9); clear x9
  have hHeld := HC.out _ HX9.out
  clear HH
  refine hK _ _ hHeld ?_
  clear hK K
  try simp only [Act.put, List.setIfInBounds_toArray, List.set_cons_zero, List.set_cons_succ]
  refine held_take (i := 24) (some 66) (ls' := #[true, true, true, true, true, true, true, true, true, true, true, true, true, true, true, true, true, true, true, true, true, true, true, true, true, false, false, false, false, false, false, false, false, false, false, false, false, false, false, false, false, false, false, false, false, false, false, false, false, false, false, false, false, false, false, false, false, false]) rfl rfl (by kernel_rfl) (by kernel_rfl) (by kernel_rfl) (by kernel_rfl) (by rfl) (v := ?_) ?_ hHeld ?_
  rotate_left 1
  · intro w hSw; (try dsimp only at hSw); go_simp; try with_reducible rfl
  try simp only [Act.put, List.setIfInBounds_toArray, List.set_cons_zero, List.set_cons_succ]
  refine held_take (i := 25) (some 67) (ls' := #[true, true, true, true, true, true, true, true, true, true, true, true, true, true, true, true, true, true, true, true, true, true, true, true, true, true, false, false, false, false, false, false, false, false, false, false, false, false, false, false, false, false, false, false, false, false, false, false, false, false, false, false, false, false, false, false, false, false]) rfl rfl (by kernel_rfl) (by kernel_rfl) (by kernel_rfl) (by kernel_rfl) (by rfl) (v := ?_) ?_ hHeld ?_
  rotate_left 1
  · intro w hSw; (try dsimp only at hSw); go_simp; try with_reducible rfl
  try simp only [Act.put, List.setIfInBounds_toArray, List.set_cons_zero, List.set_cons_succ]
  refine held_take (i := 26) (some 68) (ls' := #[true, true, true, true, true, true, true, true, true, true, true, true, true, true, true, true, true, true, true, true, true, true, true, true, true, true, true, false, false, false, false, false, false, false, false, false, false, false, false, false, false, false, false, false, false, false, false, false, false, false, false, false, false, false, false, false, false, false]) rfl rfl (by kernel_rfl) (by kernel_rfl) (by kernel_rfl) (by kernel_rfl) (by rfl) (v := ?_) ?_ hHeld ?_
  rotate_left 1
  · intro w hSw; (try dsimp only at hSw); go_simp; try with_reducible rfl
  try simp only [Act.put, List.setIfInBounds_toArray, List.set_cons_zero, List.set_cons_succ]
  refine held_take (i := 27) (some 69) (ls' := #[true, true, true, true, true, true, true, true, true, true, true, true, true, true, true, true, true, true, true, true, true, true, true, true, true, true, true, true, false, false, false, false, false, false, false, false, false, false, false, false, false, false, false, false, false, false, false, false, false, false, false, false, false, false, false, false, false, false]) rfl rfl (by kernel_rfl) (by kernel_rfl) (by kernel_rfl) (by kernel_rfl) (by rfl) (v := ?_) ?_ hHeld ?_
  rotate_left 1
  · intro w hSw; (try dsimp only at hSw); go_simp; try with_reducible rfl
  try simp only [Act.put, List.setIfInBounds_toArray, List.set_cons_zero, List.set_cons_succ]
  refine held_take (i := 28) (some 70) (ls' := #[true, true, true, true, true, true, true, true, true, true, true, true, true, true, true, true, true, true, true, true, true, true, true, true, true, true, true, true, true, false, false, false, false, false, false, false, false, false, false, false, false, false, false, false, false, false, false, false, false, false, false, false, false, false, false, false, false, false]) rfl rfl (by kernel_rfl) (by kernel_rfl) (by kernel_rfl) (by kernel_rfl) (by rfl) (v := ?_) ?_ hHeld ?_
  rotate_left 1
  · intro w hSw; (try dsimp only at hSw); go_simp; try with_reducible rfl
  try simp only [Act.put, List.setIfInBounds_toArray, List.set_cons_zero, List.set_cons_succ]
  refine held_take (i := 29) (some 71) (ls' := #[true, true, true, true, true, true, true, true, true, true, true, true, true, true, true, true, true, true, true, true, true, true, true, true, true, true, true, true, true, true, false, false, false, false, false, false, false, false, false, false, false, false, false, false, false, false, false, false, false, false, false, false, false, false, false, false, false, false]) rfl rfl (by kernel_rfl) (by kernel_rfl) (by kernel_rfl) (by kernel_rfl) (by rfl) (v := ?_) ?_ hHeld ?_
  rotate_left 1
  · intro w hSw; (try dsimp only at hSw); go_simp; try with_reducible rfl
  try simp only [Act.put, List.setIfInBounds_toArray, List.set_cons_zero, List.set_cons_succ]
  refine held_take (i := 30) (some 72) (ls' := #[true, true, true, true, true, true, true, true, true, true, true, true, true, true, true, true, true, true, true, true, true, true, true, true, true, true, true, true, true, true, true, false, false, false, false, false, false, false, false, false, false, false, false, false, false, false, false, false, false, false, false, false, false, false, false, false, false, false]) rfl rfl (by kernel_rfl) (by kernel_rfl) (by kernel_rfl) (by kernel_rfl) (by rfl) (v := ?_) ?_ hHeld ?_
  rotate_left 1
  · intro w hSw; (try dsimp only at hSw); go_simp; try with_reducible rfl
  try simp only [Act.put, List.setIfInBounds_toArray, List.set_cons_zero, List.set_cons_succ]
  refine held_take (i := 31) (some 73) (ls' := #[true, true, true, true, true, true, true, true, true, true, true, true, true, true, true, true, true, true, true, true, true, true, true, true, true, true, true, true, true, true, true, true, false, false, false, false, false, false, false, false, false, false, false, false, false, false, false, false, false, false, false, false, false, false, false, false, false, false]) rfl rfl (by kernel_rfl) (by kernel_rfl) (by kernel_rfl) (by kernel_rfl) (by rfl) (v := ?_) ?_ hHeld ?_
  rotate_left 1
  · intro w hSw; (try dsimp only at hSw); go_simp; try with_reducible rfl
  try simp only [Act.put, List.setIfInBounds_toArray, List.set_cons_zero, List.set_cons_succ]
  refine held_take (i := 32) (some 74) (ls' := #[true, true, true, true, true, true, true, true, true, true, true, true, true, true, true, true, true, true, true, true, true, true, true, true, true, true, true, true, true, true, true, true, true, false, false, false, false, false, false, false, false, false, false, false, false, false, false, false, false, false, false, false, false, false, false, false, false, false]) rfl rfl (by kernel_rfl) (by kernel_rfl) (by kernel_rfl) (by kernel_rfl) (by rfl) (v := ?_) ?_ hHeld ?_
  rotate_left 1
  · intro w hSw; (try dsimp only at hSw); go_simp; try with_reducible rfl
  try simp only [Act.put, List.setIfInBounds_toArray, List.set_cons_zero, List.set_cons_succ]
  refine held_take (i := 33) (some 75) (ls' := #[true, true, true, true, true, true, true, true, true, true, true, true, true, true, true, true, true, true, true, true, true, true, true, true, true, true, true, true, true, true, true, true, true, true, false, false, false, false, false, false, false, false, false, false, false, false, false, false, false, false, false, false, false, false, false, false, false, false]) rfl rfl (by kernel_rfl) (by kernel_rfl) (by kernel_rfl) (by kernel_rfl) (by rfl) (v := ?_) ?_ hHeld ?_
  rotate_left 1
  · intro w hSw; (try dsimp only at hSw); go_simp; try with_reducible rfl
  try simp only [Act.put, List.setIfInBounds_toArray, List.set_cons_zero, List.set_cons_succ]
  refine held_take (i := 34) (some 76) (ls' := #[true, true, true, true, true, true, true, true, true, true, true, true, true, true, true, true, true, true, true, true, true, true, true, true, true, true, true, true, true, true, true, true, true, true, true, false, false, false, false, false, false, false, false, false, false, false, false, false, false, false, false, false, false, false, false, false, false, false]) rfl rfl (by kernel_rfl) (by kernel_rfl) (by kernel_rfl) (by kernel_rfl) (by rfl) (v := ?_) ?_ hHeld ?_
  rotate_left 1
  · intro w hSw; (try dsimp only at hSw); go_simp; try with_reducible rfl
  try simp only [Act.put, List.setIfInBounds_toArray, List.set_cons_zero, List.set_cons_succ]
  refine held_take (i := 35) (some 77) (ls' := #[true, true, true, true, true, true, true, true, true, true, true, true, true, true, true, true, true, true, true, true, true, true, true, true, true, true, true, true, true, true, true, true, true, true, true, true, false, false, false, false, false, false, false, false, false, false, false, false, false, false, false, false, false, false, false, false, false, false]) rfl rfl (by kernel_rfl) (by kernel_rfl) (by kernel_rfl) (by kernel_rfl) (by rfl) (v := ?_) ?_ hHeld ?_
  rotate_left 1
  · intro w hSw; (try dsimp only at hSw); go_simp; try with_reducible rfl
  try simp only [Act.put, List.setIfInBounds_toArray, List.set_cons_zero, List.set_cons_succ]
  refine held_take (i := 36) (some 78) (ls' := #[true, true, true, true, true, true, true, true, true, true, true, true, true, true, true, true, true, true, true, true, true, true, true, true, true, true, true, true, true, true, true, true, true, true, true, true, true, false, false, false, false, false, false, false, false, false, false, false, false, false, false, false, false, false, false, false, false, false]) rfl rfl (by kernel_rfl) (by kernel_rfl) (by kernel_rfl) (by kernel_rfl) (by rfl) (v := ?_) ?_ hHeld ?_
  rotate_left 1
  · intro w hSw; (try dsimp only at hSw); go_simp; try with_reducible rfl
  try simp only [Act.put, List.setIfInBounds_toArray, List.set_cons_zero, List.set_cons_succ]
  refine held_take (i := 37) (some 79) (ls' := #[true, true, true, true, true, true, true, true, true, true, true, true, true, true, true, true, true, true, true, true, true, true, true, true, true, true, true, true, true, true, true, true, true, true, true, true, true, true, false, false, false, false, false, false, false, false, false, false, false, false, false, false, false, false, false, false, false, false]) rfl rfl (by kernel_rfl) (by kernel_rfl) (by kernel_rfl) (by kernel_rfl) (by rfl) (v := ?_) ?_ hHeld ?_
  rotate_left 1
  · intro w hSw; (try dsimp only at hSw); go_simp; try with_reducible rfl
  try simp only [Act.put, List.setIfInBounds_toArray, List.set_cons_zero, List.set_cons_succ]
  refine held_take (i := 38) (some 80) (ls' := #[true, true, true, true, true, true, true, true, true, true, true, true, true, true, true, true, true, true, true, true, true, true, true, true, true, true, true, true, true, true, true, true, true, true, true, true, true, true, true, false, false, false, false, false, false, false, false, false, false, false, false, false, false, false, false, false, false, false]) rfl rfl (by kernel_rfl) (by kernel_rfl) (by kernel_rfl) (by kernel_rfl) (by rfl) (v := ?_) ?_ hHeld ?_
  rotate_left 1
  · intro w hSw; (try dsimp only at hSw); go_simp; try with_reducible rfl
  try simp only [Act.put, List.setIfInBounds_toArray, List.set_cons_zero, List.set_cons_succ]
  refine held_take (i := 39) (some 81) (ls' := #[true, true, true, true, true, true, true, true, true, true, true, true, true, true, true, true, true, true, true, true, true, true, true, true, true, true, true, true, true, true, true, true, true, true, true, true, true, true, true, true, false, false, false, false, false, false, false, false, false, false, false, false, false, false, false, false, false, false]) rfl rfl (by kernel_rfl) (by kernel_rfl) (by kernel_rfl) (by kernel_rfl) (by rfl) (v := ?_) ?_ hHeld ?_
  rotate_left 1
  · intro w hSw; (try dsimp only at hSw); go_simp; try with_reducible rfl
  try simp only [Act.put, List.setIfInBounds_toArray, List.set_cons_zero, List.set_cons_succ]
  refine held_take (i := 40) (some 82) (ls' := #[true, true, true, true, true, true, true, true, true, true, true, true, true, true, true, true, true, true, true, true, true, true, true, true, true, true, true, true, true, true, true, true, true, true, true, true, true, true, true, true, true, false, false, false, false, false, false, false, false, false, false, false, false, false, false, false, false, false]) rfl rfl (by kernel_rfl) (by kernel_rfl) (by kernel_rfl) (by kernel_rfl) (by rfl) (v := ?_) ?_ hHeld ?_
  rotate_left 1
  · intro w hSw; (try dsimp only at hSw); go_simp; try with_reducible rfl
  try simp only [Act.put, List.setIfInBounds_toArray, List.set_cons_zero, List.set_cons_succ]
  refine held_take (i := 41) (some 83) (ls' := #[true, true, true, true, true, true, true, true, true, true, true, true, true, true, true, true, true, true, true, true, true, true, true, true, true, true, true, true, true, true, true, true, true, true, true, true, true, true, true, true, true, true, false, false, false, false, false, false, false, false, false, false, false, false, false, false, false, false]) rfl rfl (by kernel_rfl) (by kernel_rfl) (by kernel_rfl) (by kernel_rfl) (by rfl) (v := ?_) ?_ hHeld ?_
  rotate_left 1
  · intro w hSw; (try dsimp only at hSw); go_simp; try with_reducible rfl
  try simp only [Act.put, List.setIfInBounds_toArray, List.set_cons_zero, List.set_cons_succ]
  refine held_take (i := 42) (some 84) (ls' := #[true, true, true, true, true, true, true, true, true, true, true, true, true, true, true, true, true, true, true, true, true, true, true, true, true, true, true, true, true, true, true, true, true, true, true, true, true, true, true, true, true, true, true, false, false, false, false, false, false, false, false, false, false, false, false, false, false, false]) rfl rfl (by kernel_rfl) (by kernel_rfl) (by kernel_rfl) (by kernel_rfl) (by rfl) (v := ?_) ?_ hHeld ?_
  rotate_left 1
  · intro w hSw; (try dsimp only at hSw); go_simp; try with_reducible rfl
  try simp only [Act.put, List.setIfInBounds_toArray, List.set_cons_zero, List.set_cons_succ]
  refine held_take (i := 43) (some 85) (ls' := #[true, true, true, true, true, true, true, true, true, true, true, true, true, true, true, true, true, true, true, true, true, true, true, true, true, true, true, true, true, true, true, true, true, true, true, true, true, true, true, true, true, true, true, true, false, false, false, false, false, false, false, false, false, false, false, false, false, false]) rfl rfl (by kernel_rfl) (by kernel_rfl) (by kernel_rfl) (by kernel_rfl) (by rfl) (v := ?_) ?_ hHeld ?_
  rotate_left 1
  · intro w hSw; (try dsimp only at hSw); go_simp; try with_reducible rfl
  try simp only [Act.put, List.setIfInBounds_toArray, List.set_cons_zero, List.set_cons_succ]
  refine held_take (i := 44) (some 86) (ls' := #[true, true, true, true, true, true, true, true, true, true, true, true, true, true, true, true, true, true, true, true, true, true, true, true, true, true, true, true, true, true, true, true, true, true, true, true, true, true, true, true, true, true, true, true, true, false, false, false, false, false, false, false, false, false, false, false, false, false]) rfl rfl (by kernel_rfl) (by kernel_rfl) (by kernel_rfl) (by kernel_rfl) (by rfl) (v := ?_) ?_ hHeld ?_
  rotate_left 1
  · intro w hSw; (try dsimp only at hSw); go_simp; try with_reducible rfl
  try simp only [Act.put, List.setIfInBounds_toArray, List.set_cons_zero, List.set_cons_succ]
  refine held_take (i := 47) (some 89) (ls' := #[true, true, true, true, true, true, true, true, true, true, true, true, true, true, true, true, true, true, true, true, true, true, true, true, true, true, true, true, true, true, true, true, true, true, true, true, true, true, true, true, true, true, true, true, true, false, false, true, false, false, false, false, false, false, false, false, false, false]) rfl rfl (by kernel_rfl) (by kernel_rfl) (by kernel_rfl) (by kernel_rfl) (by rfl) (v := ?_) ?_ hHeld ?_
  rotate_left 1
  · intro w hSw; (try dsimp only at hSw); go_simp; try with_reducible rfl
  try simp only [Act.put, List.setIfInBounds_toArray, List.set_cons_zero, List.set_cons_succ]
  refine held_call (i := 45) (ls' := #[true, true, true, true, true, true, true, true, true, true, true, true, true, true, true, true, true, true, true, true, true, true, true, true, true, true, true, true, true, true, true, true, true, true, true, true, true, true, true, true, true, true, true, true, true, true, false, true, false, false, false, false, false, false, false, false, false, false]) rfl (by kernel_rfl) (by kernel_rfl) (by rfl) (fun K hK => ?_)
  have HH := Lib.hid hHeld
  clear hHeld
  go_simp
  have b7 := Blk.new w9 34 #[.int .u64 (t1 : Int), .int .u64 (t2 : Int)]; have q1 := b7.cell 0; have q2 := b7.cell 1; have HX8 : Hid (Ext W6 (w9.alloc (.cells #[.int .u64 (t1 : Int), .int .u64 (t2 : Int)] 34))) := Lib.hid (HX9.out.alloc _); have HQ := Lib.hid (And.intro q1 q2); clear b7 q1 q2
  have hHeld := HC.out _ HX8.out
  clear HH
  refine hK _ _ hHeld ?_
  clear hK K
  try simp only [Act.put, List.setIfInBounds_toArray, List.set_cons_zero, List.set_cons_succ]
  refine held_call (i := 46) (ls' := #[true, true, true, true, true, true, true, true, true, true, true, true, true, true, true, true, true, true, true, true, true, true, true, true, true, true, true, true, true, true, true, true, true, true, true, true, true, true, true, true, true, true, true, true, true, true, true, true, false, false, false, false, false, false, false, false, false, false]) rfl (by kernel_rfl) (by kernel_rfl) (by rfl) (fun K hK => ?_)
  have HH := Lib.hid hHeld
  clear hHeld
  go_simp
  go_at_call 15; refine (Root1_any _ 0 1 t1 t2 (Nat.le_refl 1) _ HQ.out.1 HQ.out.2).mono ?_; rintro e wA ⟨rfl, xA⟩; have HXA : Hid (Ext W6 wA) := Lib.hid (HX8.out.trans xA); clear xA
  have hHeld := HC.out _ HXA.out
  clear HH
  refine hK _ _ hHeld ?_
  clear hK K
  try simp only [Act.put, List.setIfInBounds_toArray, List.set_cons_zero, List.set_cons_succ]
  refine held_take (i := 48) (some 90) (ls' := #[true, true, true, true, true, true, true, true, true, true, true, true, true, true, true, true, true, true, true, true, true, true, true, true, true, true, true, true, true, true, true, true, true, true, true, true, true, true, true, true, true, true, true, true, true, true, true, true, true, false, false, false, false, false, false, false, false, false]) rfl rfl (by kernel_rfl) (by kernel_rfl) (by kernel_rfl) (by kernel_rfl) (by rfl) (v := ?_) ?_ hHeld ?_
  rotate_left 1
  · intro w hSw; (try dsimp only at hSw); go_simp; try with_reducible rfl
  try simp only [Act.put, List.setIfInBounds_toArray, List.set_cons_zero, List.set_cons_succ]
  refine held_take (i := 49) (some 91) (ls' := #[true, true, true, true, true, true, true, true, true, true, true, true, true, true, true, true, true, true, true, true, true, true, true, true, true, true, true, true, true, true, true, true, true, true, true, true, true, true, true, true, true, true, true, true, true, true, true, true, true, true, false, false, false, false, false, false, false, false]) rfl rfl (by kernel_rfl) (by kernel_rfl) (by kernel_rfl) (by kernel_rfl) (by rfl) (v := ?_) ?_ hHeld ?_
  rotate_left 1
  · intro w hSw; (try dsimp only at hSw); go_simp; try with_reducible rfl
  try simp only [Act.put, List.setIfInBounds_toArray, List.set_cons_zero, List.set_cons_succ]
  refine held_take (i := 50) (some 92) (ls' := #[true, true, true, true, true, true, true, true, true, true, true, true, true, true, true, true, true, true, true, true, true, true, true, true, true, true, true, true, true, true, true, true, true, true, true, true, true, true, true, true, true, true, true, true, true, true, true, true, true, true, true, false, false, false, false, false, false, false]) rfl rfl (by kernel_rfl) (by kernel_rfl) (by kernel_rfl) (by kernel_rfl) (by rfl) (v := ?_) ?_ hHeld ?_
  rotate_left 1
  · intro w hSw; (try dsimp only at hSw); go_simp; try with_reducible rfl
  try simp only [Act.put, List.setIfInBounds_toArray, List.set_cons_zero, List.set_cons_succ]
  refine held_call (i := 51) (ls' := #[true, true, true, true, true, true, true, true, true, true, true, true, true, true, true, true, true, true, true, true, true, true, true, true, true, true, true, true, true, true, true, true, true, true, true, true, true, true, true, true, true, true, true, true, true, true, true, true, true, true, true, true, false, false, false, false, false, false]) rfl (by kernel_rfl) (by kernel_rfl) (by rfl) (fun K hK => ?_)
  have HH := Lib.hid hHeld
  clear hHeld
  go_simp
  go_at_call 45; refine (cM1 _).mono ?_; rintro e w10 ⟨rfl, x10⟩; have HX10 : Hid (Ext W6 w10) := Lib.hid (HXA.out.trans x10); clear x10
  have hHeld := HC.out _ HX10.out
  clear HH
  refine hK _ _ hHeld ?_
  clear hK K
  try simp only [Act.put, List.setIfInBounds_toArray, List.set_cons_zero, List.set_cons_succ]
  refine held_take (i := 52) (some 94) (ls' := #[true, true, true, true, true, true, true, true, true, true, true, true, true, true, true, true, true, true, true, true, true, true, true, true, true, true, true, true, true, true, true, true, true, true, true, true, true, true, true, true, true, true, true, true, true, true, true, true, true, true, true, true, true, false, false, false, false, false]) rfl rfl (by kernel_rfl) (by kernel_rfl) (by kernel_rfl) (by kernel_rfl) (by rfl) (v := ?_) ?_ hHeld ?_
  rotate_left 1
  · intro w hSw; (try dsimp only at hSw); go_simp; try with_reducible rfl
  try simp only [Act.put, List.setIfInBounds_toArray, List.set_cons_zero, List.set_cons_succ]
  refine held_take (i := 53) (some 95) (ls' := #[true, true, true, true, true, true, true, true, true, true, true, true, true, true, true, true, true, true, true, true, true, true, true, true, true, true, true, true, true, true, true, true, true, true, true, true, true, true, true, true, true, true, true, true, true, true, true, true, true, true, true, true, true, true, false, false, false, false]) rfl rfl (by kernel_rfl) (by kernel_rfl) (by kernel_rfl) (by kernel_rfl) (by rfl) (v := ?_) ?_ hHeld ?_
  rotate_left 1
  · intro w hSw; (try dsimp only at hSw); go_simp; try with_reducible rfl
  try simp only [Act.put, List.setIfInBounds_toArray, List.set_cons_zero, List.set_cons_succ]
  refine held_call (i := 54) (ls' := #[true, true, true, true, true, true, true, true, true, true, true, true, true, true, true, true, true, true, true, true, true, true, true, true, true, true, true, true, true, true, true, true, true, true, true, true, true, true, true, true, true, true, true, true, true, true, true, true, true, true, true, true, true, true, true, false, false, false]) rfl (by kernel_rfl) (by kernel_rfl) (by rfl) (fun K hK => ?_)
  have HH := Lib.hid hHeld
  clear hHeld
  go_simp
  go_at_call 45; refine (cM2 _).mono ?_; rintro e w11 ⟨rfl, x11⟩; have HX11 : Hid (Ext W6 w11) := Lib.hid (HX10.out.trans x11); clear x11
  have hHeld := HC.out _ HX11.out
  clear HH
  refine hK _ _ hHeld ?_
  clear hK K
  try simp only [Act.put, List.setIfInBounds_toArray, List.set_cons_zero, List.set_cons_succ]
  refine held_take (i := 55) (some 97) (ls' := #[true, true, true, true, true, true, true, true, true, true, true, true, true, true, true, true, true, true, true, true, true, true, true, true, true, true, true, true, true, true, true, true, true, true, true, true, true, true, true, true, true, true, true, true, true, true, true, true, true, true, true, true, true, true, true, true, false, false]) rfl rfl (by kernel_rfl) (by kernel_rfl) (by kernel_rfl) (by kernel_rfl) (by rfl) (v := ?_) ?_ hHeld ?_
  rotate_left 1
  · intro w hSw; (try dsimp only at hSw); go_simp; try with_reducible rfl
  try simp only [Act.put, List.setIfInBounds_toArray, List.set_cons_zero, List.set_cons_succ]
  refine held_take (i := 56) (some 98) (ls' := #[true, true, true, true, true, true, true, true, true, true, true, true, true, true, true, true, true, true, true, true, true, true, true, true, true, true, true, true, true, true, true, true, true, true, true, true, true, true, true, true, true, true, true, true, true, true, true, true, true, true, true, true, true, true, true, true, true, false]) rfl rfl (by kernel_rfl) (by kernel_rfl) (by kernel_rfl) (by kernel_rfl) (by rfl) (v := ?_) ?_ hHeld ?_
  rotate_left 1
  · intro w hSw; (try dsimp only at hSw); go_simp; try with_reducible rfl
  try simp only [Act.put, List.setIfInBounds_toArray, List.set_cons_zero, List.set_cons_succ]
  refine held_take (i := 57) (some 0) (ls' := #[true, true, true, true, true, true, true, true, true, true, true, true, true, true, true, true, true, true, true, true, true, true, true, true, true, true, true, true, true, true, true, true, true, true, true, true, true, true, true, true, true, true, true, true, true, true, true, true, true, true, true, true, true, true, true, true, true, true]) rfl rfl (by kernel_rfl) (by kernel_rfl) (by kernel_rfl) (by kernel_rfl) (by rfl) (v := ?_) ?_ hHeld ?_
  rotate_left 1
  · intro w hSw; (try dsimp only at hSw); go_simp; try with_reducible rfl
  try simp only [Act.put, List.setIfInBounds_toArray, List.set_cons_zero, List.set_cons_succ]
  refine held_done (by kernel_rfl) ?_
  go_wp2
  go_ret
  exact ⟨by first | rfl | simp, HXF.out.trans HX11.out⟩
end Go.Proofs.YtfpmfegmehbfbaaGreatDoor
