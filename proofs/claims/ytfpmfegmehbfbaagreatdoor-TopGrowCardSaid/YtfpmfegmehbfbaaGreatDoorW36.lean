/- Parts of the proofs, put together: MkB. -/
import Derived.Test.YtfpmfegmehbfbaaGreatDoorW26
import Derived.Test.YtfpmfegmehbfbaaGreatDoorW28
/- Trees of hashes, walked: who checks that a tree has grown. -/
namespace Go.Proofs.YtfpmfegmehbfbaaGreatDoor
set_option linter.unusedVariables false
set_option linter.unusedSimpArgs false
set_option linter.unusedSimpArgs false
open Go.RowKit Go.Shelf Go.Maps

set_option maxRecDepth 100000 in
set_option maxHeartbeats 4000000 in
theorem cg1_any (b c : Nat) (hbc : b ≠ c) (x y p : Nat × Nat) (B : Nat) (hB : B ≤ b) (hC : B ≤ c) (W : World) (hW : B ≤ W.heap.size) (h : SBox b x W) (k : SBox c y W) :
    Calls Tryz.prog 57 #[.agg #[.int .u64 (p.1 : Int), .int .u64 (p.2 : Int)], .pointer (some ⟨b, 0, none⟩), .pointer (some ⟨c, 0, none⟩)] W fun e w' => e = .returned (.tuple #[]) ∧ SBox b (prS p x) w' ∧ SBox c (prS p y) w' ∧ Below B W w' := by
  obtain ⟨W1, e1⟩ : ∃ V, W.alloc (.cells #[.int .u64 (p.1 : Int), .int .u64 (p.2 : Int)] 34) = V := ⟨_, rfl⟩
  have x1 : Ext W W1 := by rw [← e1]; exact (Ext.refl _).alloc _
  have b1 : Blk W1 W.heap.size 34 #[.int .u64 (p.1 : Int), .int .u64 (p.2 : Int)] := by rw [← e1]; exact Blk.new _ _ _
  have b2 : Blk W1 b 34 #[.int .u64 (x.1 : Int), .int .u64 (x.2 : Int)] := SBox.ext h x1
  have b3 : Blk W1 c 34 #[.int .u64 (y.1 : Int), .int .u64 (y.2 : Int)] := SBox.ext k x1
  have hC1 := fun (V : World) (e : Ext W1 V) => And.intro ((ext_blk e b1).cell 0) (And.intro ((ext_blk e b1).cell 1) (And.intro ((ext_blk e b2).cell 0) (And.intro ((ext_blk e b2).cell 1) (And.intro ((ext_blk e b3).cell 0) ((ext_blk e b3).cell 1)))))
  have cP := fun W => prS_any p x W
  have cQ := fun W => prS_any p y W
  obtain ⟨v, hv⟩ : ∃ v, prS p x = v := ⟨_, rfl⟩
  obtain ⟨u, hu⟩ : ∃ v, prS p y = v := ⟨_, rfl⟩
  rw [hv] at cP ⊢
  rw [hu] at cQ ⊢
  have HB2 := Lib.hid b2
  have HB3 := Lib.hid b3
  have HX1 := Lib.hid x1
  have HC1 := Lib.hid hC1
  clear hv hu b1 b2 b3 x1 h k hC1
  go_enter Tryz.func57, Tryz.ntmps57
  go_upto_region 1 with (fail)
  try rw [e1]
  clear e1
  refine F_start (n := 8) (ls := #[false, false, false, false, false, false, false, false]) (fun w' => w'.cell? ⟨W.heap.size, 0, none⟩ = some (.int .u64 (p.1 : Int)) ∧ w'.cell? ⟨W.heap.size, 1, none⟩ = some (.int .u64 (p.2 : Int)) ∧ w'.cell? ⟨b, 0, none⟩ = some (.int .u64 (x.1 : Int)) ∧ w'.cell? ⟨b, 1, none⟩ = some (.int .u64 (x.2 : Int)) ∧ w'.cell? ⟨c, 0, none⟩ = some (.int .u64 (y.1 : Int)) ∧ w'.cell? ⟨c, 1, none⟩ = some (.int .u64 (y.2 : Int))) 6 (by kernel_rfl) (by kernel_rfl) (by kernel_rfl) (HC1.out _ (Ext.refl W1).drew) (fun hHeld => ?_)
  refine F_take (i := 0) (some 4) (ls' := #[true, false, false, false, false, false, false, false]) rfl rfl (by kernel_rfl) (by kernel_rfl) (by kernel_rfl) (by kernel_rfl) (by kernel_rfl) (by rfl) (v := ?_) ?_ hHeld ?_
  rotate_left 1
  · intro w hSw; (try dsimp only at hSw); go_simp; try with_reducible rfl
  try simp only [Act.put, List.setIfInBounds_toArray, List.set_cons_zero, List.set_cons_succ]
  refine F_take (i := 1) (some 5) (ls' := #[true, true, false, false, false, false, false, false]) rfl rfl (by kernel_rfl) (by kernel_rfl) (by kernel_rfl) (by kernel_rfl) (by kernel_rfl) (by rfl) (v := ?_) ?_ hHeld ?_
  rotate_left 1
  · intro w hSw; (try dsimp only at hSw); go_simp; try with_reducible rfl
  try simp only [Act.put, List.setIfInBounds_toArray, List.set_cons_zero, List.set_cons_succ]
  refine F_some (is := [2, 3, 4]) (by kernel_rfl) (by simp) (fun i hi => ?_)
  simp only [List.mem_cons, List.not_mem_nil, or_false] at hi
  rcases hi with rfl | rfl | rfl
  · refine F_way (S := fun w' => w'.cell? ⟨W.heap.size, 0, none⟩ = some (.int .u64 (p.1 : Int)) ∧ w'.cell? ⟨W.heap.size, 1, none⟩ = some (.int .u64 (p.2 : Int)) ∧ w'.cell? ⟨b, 0, none⟩ = some (.int .u64 (x.1 : Int)) ∧ w'.cell? ⟨b, 1, none⟩ = some (.int .u64 (x.2 : Int)) ∧ w'.cell? ⟨c, 0, none⟩ = some (.int .u64 (y.1 : Int)) ∧ w'.cell? ⟨c, 1, none⟩ = some (.int .u64 (y.2 : Int))) (L := 6) (o := _) rfl (ls' := #[true, true, true, false, false, false, false, false]) (by kernel_rfl) (by rfl) (fun K hK => ?_)
    go_simp
    go_at_call 58
    refine (cP _).mono ?_
    clear cP
    rintro e w2 ⟨rfl, x2⟩
    have X2 : Ext W1 w2 := (Ext.refl W1).drew.trans x2
    have HQ2 := HC1.out _ X2
    have hHeld2 := HC1.out _ X2
    clear hHeld
    have hHeld := hHeld2
    clear hHeld2
    refine hK _ _ (fun _ _ => hHeld) ?_
    clear hK K
    try simp only [Act.put, List.setIfInBounds_toArray, List.set_cons_zero, List.set_cons_succ]
    refine F_some (is := [3, 4]) (by kernel_rfl) (by simp) (fun i hi => ?_)
    simp only [List.mem_cons, List.not_mem_nil, or_false] at hi
    rcases hi with rfl | rfl
    · refine F_way (S := fun w' => w'.cell? ⟨W.heap.size, 0, none⟩ = some (.int .u64 (p.1 : Int)) ∧ w'.cell? ⟨W.heap.size, 1, none⟩ = some (.int .u64 (p.2 : Int)) ∧ w'.cell? ⟨b, 0, none⟩ = some (.int .u64 (x.1 : Int)) ∧ w'.cell? ⟨b, 1, none⟩ = some (.int .u64 (x.2 : Int)) ∧ w'.cell? ⟨c, 0, none⟩ = some (.int .u64 (y.1 : Int)) ∧ w'.cell? ⟨c, 1, none⟩ = some (.int .u64 (y.2 : Int))) (L := 6) (o := _) rfl (ls' := #[true, true, true, true, false, false, false, false]) (by kernel_rfl) (by rfl) (fun K hK => ?_)
      try dsimp only at hHeld
      go_simp
      have hHeld2 := hHeld
      clear hHeld
      have hHeld := hHeld2
      clear hHeld2
      refine hK _ _ (fun _ _ => hHeld) ?_
      clear hK K
      try simp only [Act.put, List.setIfInBounds_toArray, List.set_cons_zero, List.set_cons_succ]
      refine F_some (is := [4]) (by kernel_rfl) (by simp) (fun i hi => ?_)
      obtain rfl : i = 4 := by simpa using hi
      refine F_way (S := fun w' => w'.cell? ⟨W.heap.size, 0, none⟩ = some (.int .u64 (p.1 : Int)) ∧ w'.cell? ⟨W.heap.size, 1, none⟩ = some (.int .u64 (p.2 : Int)) ∧ w'.cell? ⟨b, 0, none⟩ = some (.int .u64 (x.1 : Int)) ∧ w'.cell? ⟨b, 1, none⟩ = some (.int .u64 (x.2 : Int)) ∧ w'.cell? ⟨c, 0, none⟩ = some (.int .u64 (y.1 : Int)) ∧ w'.cell? ⟨c, 1, none⟩ = some (.int .u64 (y.2 : Int))) (L := 6) (o := _) rfl (ls' := #[true, true, true, true, true, false, false, false]) (by kernel_rfl) (by rfl) (fun K hK => ?_)
      try dsimp only at hHeld
      go_simp
      have hHeld2 := hHeld
      clear hHeld
      have hHeld := hHeld2
      clear hHeld2
      refine hK _ _ (fun _ _ => hHeld) ?_
      clear hK K
      try simp only [Act.put, List.setIfInBounds_toArray, List.set_cons_zero, List.set_cons_succ]
      refine F_some (is := [5]) (by kernel_rfl) (by simp) (fun i hi => ?_)
      obtain rfl : i = 5 := by simpa using hi
      refine F_way (S := fun w' => w'.cell? ⟨W.heap.size, 0, none⟩ = some (.int .u64 (p.1 : Int)) ∧ w'.cell? ⟨W.heap.size, 1, none⟩ = some (.int .u64 (p.2 : Int)) ∧ w'.cell? ⟨b, 0, none⟩ = some (.int .u64 (x.1 : Int)) ∧ w'.cell? ⟨b, 1, none⟩ = some (.int .u64 (x.2 : Int)) ∧ w'.cell? ⟨c, 0, none⟩ = some (.int .u64 (y.1 : Int)) ∧ w'.cell? ⟨c, 1, none⟩ = some (.int .u64 (y.2 : Int))) (L := 6) (o := _) rfl (ls' := #[true, true, true, true, true, true, false, false]) (by kernel_rfl) (by rfl) (fun K hK => ?_)
      go_simp
      go_at_call 58
      refine (cQ _).mono ?_
      clear cQ
      rintro e w3 ⟨rfl, x3⟩
      have X3 : Ext W1 w3 := X2.trans x3
      have k2 := ext_blk X3 HB2.out
      have k3 := ext_blk X3 HB3.out
      have n0 := k2.cell 0
      have n1 := k2.cell 1
      have n2 := k3.cell 0
      have n3 := k3.cell 1
      have f0 := k2.frozen 0
      have f1 := k2.frozen 1
      have f2 := k3.frozen 0
      have f3 := k3.frozen 1
      have hHeld2 := HC1.out _ X3
      clear hHeld
      have hHeld := hHeld2
      clear hHeld2
      refine hK _ _ (fun _ _ => hHeld) ?_
      clear hK K
      try simp only [Act.put, List.setIfInBounds_toArray, List.set_cons_zero, List.set_cons_succ]
      refine F_some (is := [6]) (by kernel_rfl) (by simp) (fun i hi => ?_)
      obtain rfl : i = 6 := by simpa using hi
      refine F_way (S := fun w' => w'.cell? ⟨W.heap.size, 0, none⟩ = some (.int .u64 (p.1 : Int)) ∧ w'.cell? ⟨W.heap.size, 1, none⟩ = some (.int .u64 (p.2 : Int)) ∧ w'.cell? ⟨b, 0, none⟩ = some (.int .u64 (x.1 : Int)) ∧ w'.cell? ⟨b, 1, none⟩ = some (.int .u64 (x.2 : Int)) ∧ w'.cell? ⟨c, 0, none⟩ = some (.int .u64 (y.1 : Int)) ∧ w'.cell? ⟨c, 1, none⟩ = some (.int .u64 (y.2 : Int))) (L := 6) (o := _) rfl (ls' := #[true, true, true, true, true, true, true, false]) (by kernel_rfl) (by rfl) (fun K hK => ?_)
      clear hHeld
      go_simp
      refine hK _ _ (fun h _ => absurd h (by decide)) ?_
      clear hK K
      try simp only [Act.put, List.setIfInBounds_toArray, List.set_cons_zero, List.set_cons_succ]
      refine F_some (is := [7]) (by kernel_rfl) (by simp) (fun i hi => ?_)
      obtain rfl : i = 7 := by simpa using hi
      refine F_way (S := fun w' => w'.cell? ⟨W.heap.size, 0, none⟩ = some (.int .u64 (p.1 : Int)) ∧ w'.cell? ⟨W.heap.size, 1, none⟩ = some (.int .u64 (p.2 : Int)) ∧ w'.cell? ⟨b, 0, none⟩ = some (.int .u64 (x.1 : Int)) ∧ w'.cell? ⟨b, 1, none⟩ = some (.int .u64 (x.2 : Int)) ∧ w'.cell? ⟨c, 0, none⟩ = some (.int .u64 (y.1 : Int)) ∧ w'.cell? ⟨c, 1, none⟩ = some (.int .u64 (y.2 : Int))) (L := 6) (o := _) rfl (ls' := #[true, true, true, true, true, true, true, true]) (by kernel_rfl) (by rfl) (fun K hK => ?_)
      go_simp
      refine hK _ _ (fun h _ => absurd h (by decide)) ?_
      clear hK K
      try simp only [Act.put, List.setIfInBounds_toArray, List.set_cons_zero, List.set_cons_succ]
      refine F_done (by kernel_rfl) ?_
      go_wp2
      have hx := HX1.out.trans X3
      go_end0
      refine ⟨rfl, ?_, ?_, ?_⟩
      · exact ((((Blk.set_ k2 0 (.int .u64 (v.1 : Int))).set_ 1 (.int .u64 (v.2 : Int))).far (p := ⟨c, 0, none⟩) hbc (.int .u64 (u.1 : Int))).far (p := ⟨c, 1, none⟩) hbc (.int .u64 (u.2 : Int)))
      · exact (Blk.set_ (Blk.set_ ((Blk.far k3 (p := ⟨b, 0, none⟩) (Ne.symm hbc) (.int .u64 (v.1 : Int))).far (p := ⟨b, 1, none⟩) (Ne.symm hbc) (.int .u64 (v.2 : Int))) 0 (.int .u64 (u.1 : Int))) 1 (.int .u64 (u.2 : Int)))
      · exact ((((Below.mono hx.out hW).setCell (p := ⟨b, 0, none⟩) hB _).setCell (p := ⟨b, 1, none⟩) hB _).setCell (p := ⟨c, 0, none⟩) hC _).setCell (p := ⟨c, 1, none⟩) hC _
    · refine F_way (S := fun w' => w'.cell? ⟨W.heap.size, 0, none⟩ = some (.int .u64 (p.1 : Int)) ∧ w'.cell? ⟨W.heap.size, 1, none⟩ = some (.int .u64 (p.2 : Int)) ∧ w'.cell? ⟨b, 0, none⟩ = some (.int .u64 (x.1 : Int)) ∧ w'.cell? ⟨b, 1, none⟩ = some (.int .u64 (x.2 : Int)) ∧ w'.cell? ⟨c, 0, none⟩ = some (.int .u64 (y.1 : Int)) ∧ w'.cell? ⟨c, 1, none⟩ = some (.int .u64 (y.2 : Int))) (L := 6) (o := _) rfl (ls' := #[true, true, true, false, true, false, false, false]) (by kernel_rfl) (by rfl) (fun K hK => ?_)
      try dsimp only at hHeld
      go_simp
      have hHeld2 := hHeld
      clear hHeld
      have hHeld := hHeld2
      clear hHeld2
      refine hK _ _ (fun _ _ => hHeld) ?_
      clear hK K
      try simp only [Act.put, List.setIfInBounds_toArray, List.set_cons_zero, List.set_cons_succ]
      refine F_some (is := [3]) (by kernel_rfl) (by simp) (fun i hi => ?_)
      obtain rfl : i = 3 := by simpa using hi
      refine F_way (S := fun w' => w'.cell? ⟨W.heap.size, 0, none⟩ = some (.int .u64 (p.1 : Int)) ∧ w'.cell? ⟨W.heap.size, 1, none⟩ = some (.int .u64 (p.2 : Int)) ∧ w'.cell? ⟨b, 0, none⟩ = some (.int .u64 (x.1 : Int)) ∧ w'.cell? ⟨b, 1, none⟩ = some (.int .u64 (x.2 : Int)) ∧ w'.cell? ⟨c, 0, none⟩ = some (.int .u64 (y.1 : Int)) ∧ w'.cell? ⟨c, 1, none⟩ = some (.int .u64 (y.2 : Int))) (L := 6) (o := _) rfl (ls' := #[true, true, true, true, true, false, false, false]) (by kernel_rfl) (by rfl) (fun K hK => ?_)
      try dsimp only at hHeld
      go_simp
      have hHeld2 := hHeld
      clear hHeld
      have hHeld := hHeld2
      clear hHeld2
      refine hK _ _ (fun _ _ => hHeld) ?_
      clear hK K
      try simp only [Act.put, List.setIfInBounds_toArray, List.set_cons_zero, List.set_cons_succ]
      refine F_some (is := [5]) (by kernel_rfl) (by simp) (fun i hi => ?_)
      obtain rfl : i = 5 := by simpa using hi
      refine F_way (S := fun w' => w'.cell? ⟨W.heap.size, 0, none⟩ = some (.int .u64 (p.1 : Int)) ∧ w'.cell? ⟨W.heap.size, 1, none⟩ = some (.int .u64 (p.2 : Int)) ∧ w'.cell? ⟨b, 0, none⟩ = some (.int .u64 (x.1 : Int)) ∧ w'.cell? ⟨b, 1, none⟩ = some (.int .u64 (x.2 : Int)) ∧ w'.cell? ⟨c, 0, none⟩ = some (.int .u64 (y.1 : Int)) ∧ w'.cell? ⟨c, 1, none⟩ = some (.int .u64 (y.2 : Int))) (L := 6) (o := _) rfl (ls' := #[true, true, true, true, true, true, false, false]) (by kernel_rfl) (by rfl) (fun K hK => ?_)
      go_simp
      go_at_call 58
      refine (cQ _).mono ?_
      clear cQ
      rintro e w3 ⟨rfl, x3⟩
      have X3 : Ext W1 w3 := X2.trans x3
      have k2 := ext_blk X3 HB2.out
      have k3 := ext_blk X3 HB3.out
      have n0 := k2.cell 0
      have n1 := k2.cell 1
      have n2 := k3.cell 0
      have n3 := k3.cell 1
      have f0 := k2.frozen 0
      have f1 := k2.frozen 1
      have f2 := k3.frozen 0
      have f3 := k3.frozen 1
      have hHeld2 := HC1.out _ X3
      clear hHeld
      have hHeld := hHeld2
      clear hHeld2
      refine hK _ _ (fun _ _ => hHeld) ?_
      clear hK K
      try simp only [Act.put, List.setIfInBounds_toArray, List.set_cons_zero, List.set_cons_succ]
      refine F_some (is := [6]) (by kernel_rfl) (by simp) (fun i hi => ?_)
      obtain rfl : i = 6 := by simpa using hi
      refine F_way (S := fun w' => w'.cell? ⟨W.heap.size, 0, none⟩ = some (.int .u64 (p.1 : Int)) ∧ w'.cell? ⟨W.heap.size, 1, none⟩ = some (.int .u64 (p.2 : Int)) ∧ w'.cell? ⟨b, 0, none⟩ = some (.int .u64 (x.1 : Int)) ∧ w'.cell? ⟨b, 1, none⟩ = some (.int .u64 (x.2 : Int)) ∧ w'.cell? ⟨c, 0, none⟩ = some (.int .u64 (y.1 : Int)) ∧ w'.cell? ⟨c, 1, none⟩ = some (.int .u64 (y.2 : Int))) (L := 6) (o := _) rfl (ls' := #[true, true, true, true, true, true, true, false]) (by kernel_rfl) (by rfl) (fun K hK => ?_)
      clear hHeld
      go_simp
      refine hK _ _ (fun h _ => absurd h (by decide)) ?_
      clear hK K
      try simp only [Act.put, List.setIfInBounds_toArray, List.set_cons_zero, List.set_cons_succ]
      refine F_some (is := [7]) (by kernel_rfl) (by simp) (fun i hi => ?_)
      obtain rfl : i = 7 := by simpa using hi
      refine F_way (S := fun w' => w'.cell? ⟨W.heap.size, 0, none⟩ = some (.int .u64 (p.1 : Int)) ∧ w'.cell? ⟨W.heap.size, 1, none⟩ = some (.int .u64 (p.2 : Int)) ∧ w'.cell? ⟨b, 0, none⟩ = some (.int .u64 (x.1 : Int)) ∧ w'.cell? ⟨b, 1, none⟩ = some (.int .u64 (x.2 : Int)) ∧ w'.cell? ⟨c, 0, none⟩ = some (.int .u64 (y.1 : Int)) ∧ w'.cell? ⟨c, 1, none⟩ = some (.int .u64 (y.2 : Int))) (L := 6) (o := _) rfl (ls' := #[true, true, true, true, true, true, true, true]) (by kernel_rfl) (by rfl) (fun K hK => ?_)
      go_simp
      refine hK _ _ (fun h _ => absurd h (by decide)) ?_
      clear hK K
      try simp only [Act.put, List.setIfInBounds_toArray, List.set_cons_zero, List.set_cons_succ]
      refine F_done (by kernel_rfl) ?_
      go_wp2
      have hx := HX1.out.trans X3
      go_end0
      refine ⟨rfl, ?_, ?_, ?_⟩
      · exact ((((Blk.set_ k2 0 (.int .u64 (v.1 : Int))).set_ 1 (.int .u64 (v.2 : Int))).far (p := ⟨c, 0, none⟩) hbc (.int .u64 (u.1 : Int))).far (p := ⟨c, 1, none⟩) hbc (.int .u64 (u.2 : Int)))
      · exact (Blk.set_ (Blk.set_ ((Blk.far k3 (p := ⟨b, 0, none⟩) (Ne.symm hbc) (.int .u64 (v.1 : Int))).far (p := ⟨b, 1, none⟩) (Ne.symm hbc) (.int .u64 (v.2 : Int))) 0 (.int .u64 (u.1 : Int))) 1 (.int .u64 (u.2 : Int)))
      · exact ((((Below.mono hx.out hW).setCell (p := ⟨b, 0, none⟩) hB _).setCell (p := ⟨b, 1, none⟩) hB _).setCell (p := ⟨c, 0, none⟩) hC _).setCell (p := ⟨c, 1, none⟩) hC _
  · refine F_way (S := fun w' => w'.cell? ⟨W.heap.size, 0, none⟩ = some (.int .u64 (p.1 : Int)) ∧ w'.cell? ⟨W.heap.size, 1, none⟩ = some (.int .u64 (p.2 : Int)) ∧ w'.cell? ⟨b, 0, none⟩ = some (.int .u64 (x.1 : Int)) ∧ w'.cell? ⟨b, 1, none⟩ = some (.int .u64 (x.2 : Int)) ∧ w'.cell? ⟨c, 0, none⟩ = some (.int .u64 (y.1 : Int)) ∧ w'.cell? ⟨c, 1, none⟩ = some (.int .u64 (y.2 : Int))) (L := 6) (o := _) rfl (ls' := #[true, true, false, true, false, false, false, false]) (by kernel_rfl) (by rfl) (fun K hK => ?_)
    try dsimp only at hHeld
    go_simp
    have hHeld2 := hHeld
    clear hHeld
    have hHeld := hHeld2
    clear hHeld2
    refine hK _ _ (fun _ _ => hHeld) ?_
    clear hK K
    try simp only [Act.put, List.setIfInBounds_toArray, List.set_cons_zero, List.set_cons_succ]
    refine F_some (is := [2, 4]) (by kernel_rfl) (by simp) (fun i hi => ?_)
    simp only [List.mem_cons, List.not_mem_nil, or_false] at hi
    rcases hi with rfl | rfl
    · refine F_way (S := fun w' => w'.cell? ⟨W.heap.size, 0, none⟩ = some (.int .u64 (p.1 : Int)) ∧ w'.cell? ⟨W.heap.size, 1, none⟩ = some (.int .u64 (p.2 : Int)) ∧ w'.cell? ⟨b, 0, none⟩ = some (.int .u64 (x.1 : Int)) ∧ w'.cell? ⟨b, 1, none⟩ = some (.int .u64 (x.2 : Int)) ∧ w'.cell? ⟨c, 0, none⟩ = some (.int .u64 (y.1 : Int)) ∧ w'.cell? ⟨c, 1, none⟩ = some (.int .u64 (y.2 : Int))) (L := 6) (o := _) rfl (ls' := #[true, true, true, true, false, false, false, false]) (by kernel_rfl) (by rfl) (fun K hK => ?_)
      go_simp
      go_at_call 58
      refine (cP _).mono ?_
      clear cP
      rintro e w2 ⟨rfl, x2⟩
      have X2 : Ext W1 w2 := (Ext.refl W1).drew.trans x2
      have HQ2 := HC1.out _ X2
      have hHeld2 := HC1.out _ X2
      clear hHeld
      have hHeld := hHeld2
      clear hHeld2
      refine hK _ _ (fun _ _ => hHeld) ?_
      clear hK K
      try simp only [Act.put, List.setIfInBounds_toArray, List.set_cons_zero, List.set_cons_succ]
      refine F_some (is := [4]) (by kernel_rfl) (by simp) (fun i hi => ?_)
      obtain rfl : i = 4 := by simpa using hi
      refine F_way (S := fun w' => w'.cell? ⟨W.heap.size, 0, none⟩ = some (.int .u64 (p.1 : Int)) ∧ w'.cell? ⟨W.heap.size, 1, none⟩ = some (.int .u64 (p.2 : Int)) ∧ w'.cell? ⟨b, 0, none⟩ = some (.int .u64 (x.1 : Int)) ∧ w'.cell? ⟨b, 1, none⟩ = some (.int .u64 (x.2 : Int)) ∧ w'.cell? ⟨c, 0, none⟩ = some (.int .u64 (y.1 : Int)) ∧ w'.cell? ⟨c, 1, none⟩ = some (.int .u64 (y.2 : Int))) (L := 6) (o := _) rfl (ls' := #[true, true, true, true, true, false, false, false]) (by kernel_rfl) (by rfl) (fun K hK => ?_)
      try dsimp only at hHeld
      go_simp
      have hHeld2 := hHeld
      clear hHeld
      have hHeld := hHeld2
      clear hHeld2
      refine hK _ _ (fun _ _ => hHeld) ?_
      clear hK K
      try simp only [Act.put, List.setIfInBounds_toArray, List.set_cons_zero, List.set_cons_succ]
      refine F_some (is := [5]) (by kernel_rfl) (by simp) (fun i hi => ?_)
      obtain rfl : i = 5 := by simpa using hi
      refine F_way (S := fun w' => w'.cell? ⟨W.heap.size, 0, none⟩ = some (.int .u64 (p.1 : Int)) ∧ w'.cell? ⟨W.heap.size, 1, none⟩ = some (.int .u64 (p.2 : Int)) ∧ w'.cell? ⟨b, 0, none⟩ = some (.int .u64 (x.1 : Int)) ∧ w'.cell? ⟨b, 1, none⟩ = some (.int .u64 (x.2 : Int)) ∧ w'.cell? ⟨c, 0, none⟩ = some (.int .u64 (y.1 : Int)) ∧ w'.cell? ⟨c, 1, none⟩ = some (.int .u64 (y.2 : Int))) (L := 6) (o := _) rfl (ls' := #[true, true, true, true, true, true, false, false]) (by kernel_rfl) (by rfl) (fun K hK => ?_)
      go_simp
      go_at_call 58
      refine (cQ _).mono ?_
      clear cQ
      rintro e w3 ⟨rfl, x3⟩
      have X3 : Ext W1 w3 := X2.trans x3
      have k2 := ext_blk X3 HB2.out
      have k3 := ext_blk X3 HB3.out
      have n0 := k2.cell 0
      have n1 := k2.cell 1
      have n2 := k3.cell 0
      have n3 := k3.cell 1
      have f0 := k2.frozen 0
      have f1 := k2.frozen 1
      have f2 := k3.frozen 0
      have f3 := k3.frozen 1
      have hHeld2 := HC1.out _ X3
      clear hHeld
      have hHeld := hHeld2
      clear hHeld2
      refine hK _ _ (fun _ _ => hHeld) ?_
      clear hK K
      try simp only [Act.put, List.setIfInBounds_toArray, List.set_cons_zero, List.set_cons_succ]
      refine F_some (is := [6]) (by kernel_rfl) (by simp) (fun i hi => ?_)
      obtain rfl : i = 6 := by simpa using hi
      refine F_way (S := fun w' => w'.cell? ⟨W.heap.size, 0, none⟩ = some (.int .u64 (p.1 : Int)) ∧ w'.cell? ⟨W.heap.size, 1, none⟩ = some (.int .u64 (p.2 : Int)) ∧ w'.cell? ⟨b, 0, none⟩ = some (.int .u64 (x.1 : Int)) ∧ w'.cell? ⟨b, 1, none⟩ = some (.int .u64 (x.2 : Int)) ∧ w'.cell? ⟨c, 0, none⟩ = some (.int .u64 (y.1 : Int)) ∧ w'.cell? ⟨c, 1, none⟩ = some (.int .u64 (y.2 : Int))) (L := 6) (o := _) rfl (ls' := #[true, true, true, true, true, true, true, false]) (by kernel_rfl) (by rfl) (fun K hK => ?_)
      clear hHeld
      go_simp
      refine hK _ _ (fun h _ => absurd h (by decide)) ?_
      clear hK K
      try simp only [Act.put, List.setIfInBounds_toArray, List.set_cons_zero, List.set_cons_succ]
      refine F_some (is := [7]) (by kernel_rfl) (by simp) (fun i hi => ?_)
      obtain rfl : i = 7 := by simpa using hi
      refine F_way (S := fun w' => w'.cell? ⟨W.heap.size, 0, none⟩ = some (.int .u64 (p.1 : Int)) ∧ w'.cell? ⟨W.heap.size, 1, none⟩ = some (.int .u64 (p.2 : Int)) ∧ w'.cell? ⟨b, 0, none⟩ = some (.int .u64 (x.1 : Int)) ∧ w'.cell? ⟨b, 1, none⟩ = some (.int .u64 (x.2 : Int)) ∧ w'.cell? ⟨c, 0, none⟩ = some (.int .u64 (y.1 : Int)) ∧ w'.cell? ⟨c, 1, none⟩ = some (.int .u64 (y.2 : Int))) (L := 6) (o := _) rfl (ls' := #[true, true, true, true, true, true, true, true]) (by kernel_rfl) (by rfl) (fun K hK => ?_)
      go_simp
      refine hK _ _ (fun h _ => absurd h (by decide)) ?_
      clear hK K
      try simp only [Act.put, List.setIfInBounds_toArray, List.set_cons_zero, List.set_cons_succ]
      refine F_done (by kernel_rfl) ?_
      go_wp2
      have hx := HX1.out.trans X3
      go_end0
      refine ⟨rfl, ?_, ?_, ?_⟩
      · exact ((((Blk.set_ k2 0 (.int .u64 (v.1 : Int))).set_ 1 (.int .u64 (v.2 : Int))).far (p := ⟨c, 0, none⟩) hbc (.int .u64 (u.1 : Int))).far (p := ⟨c, 1, none⟩) hbc (.int .u64 (u.2 : Int)))
      · exact (Blk.set_ (Blk.set_ ((Blk.far k3 (p := ⟨b, 0, none⟩) (Ne.symm hbc) (.int .u64 (v.1 : Int))).far (p := ⟨b, 1, none⟩) (Ne.symm hbc) (.int .u64 (v.2 : Int))) 0 (.int .u64 (u.1 : Int))) 1 (.int .u64 (u.2 : Int)))
      · exact ((((Below.mono hx.out hW).setCell (p := ⟨b, 0, none⟩) hB _).setCell (p := ⟨b, 1, none⟩) hB _).setCell (p := ⟨c, 0, none⟩) hC _).setCell (p := ⟨c, 1, none⟩) hC _
    · refine F_way (S := fun w' => w'.cell? ⟨W.heap.size, 0, none⟩ = some (.int .u64 (p.1 : Int)) ∧ w'.cell? ⟨W.heap.size, 1, none⟩ = some (.int .u64 (p.2 : Int)) ∧ w'.cell? ⟨b, 0, none⟩ = some (.int .u64 (x.1 : Int)) ∧ w'.cell? ⟨b, 1, none⟩ = some (.int .u64 (x.2 : Int)) ∧ w'.cell? ⟨c, 0, none⟩ = some (.int .u64 (y.1 : Int)) ∧ w'.cell? ⟨c, 1, none⟩ = some (.int .u64 (y.2 : Int))) (L := 6) (o := _) rfl (ls' := #[true, true, false, true, true, false, false, false]) (by kernel_rfl) (by rfl) (fun K hK => ?_)
      try dsimp only at hHeld
      go_simp
      have hHeld2 := hHeld
      clear hHeld
      have hHeld := hHeld2
      clear hHeld2
      refine hK _ _ (fun _ _ => hHeld) ?_
      clear hK K
      try simp only [Act.put, List.setIfInBounds_toArray, List.set_cons_zero, List.set_cons_succ]
      refine F_some (is := [2]) (by kernel_rfl) (by simp) (fun i hi => ?_)
      obtain rfl : i = 2 := by simpa using hi
      refine F_way (S := fun w' => w'.cell? ⟨W.heap.size, 0, none⟩ = some (.int .u64 (p.1 : Int)) ∧ w'.cell? ⟨W.heap.size, 1, none⟩ = some (.int .u64 (p.2 : Int)) ∧ w'.cell? ⟨b, 0, none⟩ = some (.int .u64 (x.1 : Int)) ∧ w'.cell? ⟨b, 1, none⟩ = some (.int .u64 (x.2 : Int)) ∧ w'.cell? ⟨c, 0, none⟩ = some (.int .u64 (y.1 : Int)) ∧ w'.cell? ⟨c, 1, none⟩ = some (.int .u64 (y.2 : Int))) (L := 6) (o := _) rfl (ls' := #[true, true, true, true, true, false, false, false]) (by kernel_rfl) (by rfl) (fun K hK => ?_)
      go_simp
      go_at_call 58
      refine (cP _).mono ?_
      clear cP
      rintro e w2 ⟨rfl, x2⟩
      have X2 : Ext W1 w2 := (Ext.refl W1).drew.trans x2
      have HQ2 := HC1.out _ X2
      have hHeld2 := HC1.out _ X2
      clear hHeld
      have hHeld := hHeld2
      clear hHeld2
      refine hK _ _ (fun _ _ => hHeld) ?_
      clear hK K
      try simp only [Act.put, List.setIfInBounds_toArray, List.set_cons_zero, List.set_cons_succ]
      refine F_some (is := [5]) (by kernel_rfl) (by simp) (fun i hi => ?_)
      obtain rfl : i = 5 := by simpa using hi
      refine F_way (S := fun w' => w'.cell? ⟨W.heap.size, 0, none⟩ = some (.int .u64 (p.1 : Int)) ∧ w'.cell? ⟨W.heap.size, 1, none⟩ = some (.int .u64 (p.2 : Int)) ∧ w'.cell? ⟨b, 0, none⟩ = some (.int .u64 (x.1 : Int)) ∧ w'.cell? ⟨b, 1, none⟩ = some (.int .u64 (x.2 : Int)) ∧ w'.cell? ⟨c, 0, none⟩ = some (.int .u64 (y.1 : Int)) ∧ w'.cell? ⟨c, 1, none⟩ = some (.int .u64 (y.2 : Int))) (L := 6) (o := _) rfl (ls' := #[true, true, true, true, true, true, false, false]) (by kernel_rfl) (by rfl) (fun K hK => ?_)
      go_simp
      go_at_call 58
      refine (cQ _).mono ?_
      clear cQ
      rintro e w3 ⟨rfl, x3⟩
      have X3 : Ext W1 w3 := X2.trans x3
      have k2 := ext_blk X3 HB2.out
      have k3 := ext_blk X3 HB3.out
      have n0 := k2.cell 0
      have n1 := k2.cell 1
      have n2 := k3.cell 0
      have n3 := k3.cell 1
      have f0 := k2.frozen 0
      have f1 := k2.frozen 1
      have f2 := k3.frozen 0
      have f3 := k3.frozen 1
      have hHeld2 := HC1.out _ X3
      clear hHeld
      have hHeld := hHeld2
      clear hHeld2
      refine hK _ _ (fun _ _ => hHeld) ?_
      clear hK K
      try simp only [Act.put, List.setIfInBounds_toArray, List.set_cons_zero, List.set_cons_succ]
      refine F_some (is := [6]) (by kernel_rfl) (by simp) (fun i hi => ?_)
      obtain rfl : i = 6 := by simpa using hi
      refine F_way (S := fun w' => w'.cell? ⟨W.heap.size, 0, none⟩ = some (.int .u64 (p.1 : Int)) ∧ w'.cell? ⟨W.heap.size, 1, none⟩ = some (.int .u64 (p.2 : Int)) ∧ w'.cell? ⟨b, 0, none⟩ = some (.int .u64 (x.1 : Int)) ∧ w'.cell? ⟨b, 1, none⟩ = some (.int .u64 (x.2 : Int)) ∧ w'.cell? ⟨c, 0, none⟩ = some (.int .u64 (y.1 : Int)) ∧ w'.cell? ⟨c, 1, none⟩ = some (.int .u64 (y.2 : Int))) (L := 6) (o := _) rfl (ls' := #[true, true, true, true, true, true, true, false]) (by kernel_rfl) (by rfl) (fun K hK => ?_)
      clear hHeld
      go_simp
      refine hK _ _ (fun h _ => absurd h (by decide)) ?_
      clear hK K
      try simp only [Act.put, List.setIfInBounds_toArray, List.set_cons_zero, List.set_cons_succ]
      refine F_some (is := [7]) (by kernel_rfl) (by simp) (fun i hi => ?_)
      obtain rfl : i = 7 := by simpa using hi
      refine F_way (S := fun w' => w'.cell? ⟨W.heap.size, 0, none⟩ = some (.int .u64 (p.1 : Int)) ∧ w'.cell? ⟨W.heap.size, 1, none⟩ = some (.int .u64 (p.2 : Int)) ∧ w'.cell? ⟨b, 0, none⟩ = some (.int .u64 (x.1 : Int)) ∧ w'.cell? ⟨b, 1, none⟩ = some (.int .u64 (x.2 : Int)) ∧ w'.cell? ⟨c, 0, none⟩ = some (.int .u64 (y.1 : Int)) ∧ w'.cell? ⟨c, 1, none⟩ = some (.int .u64 (y.2 : Int))) (L := 6) (o := _) rfl (ls' := #[true, true, true, true, true, true, true, true]) (by kernel_rfl) (by rfl) (fun K hK => ?_)
      go_simp
      refine hK _ _ (fun h _ => absurd h (by decide)) ?_
      clear hK K
      try simp only [Act.put, List.setIfInBounds_toArray, List.set_cons_zero, List.set_cons_succ]
      refine F_done (by kernel_rfl) ?_
      go_wp2
      have hx := HX1.out.trans X3
      go_end0
      refine ⟨rfl, ?_, ?_, ?_⟩
      · exact ((((Blk.set_ k2 0 (.int .u64 (v.1 : Int))).set_ 1 (.int .u64 (v.2 : Int))).far (p := ⟨c, 0, none⟩) hbc (.int .u64 (u.1 : Int))).far (p := ⟨c, 1, none⟩) hbc (.int .u64 (u.2 : Int)))
      · exact (Blk.set_ (Blk.set_ ((Blk.far k3 (p := ⟨b, 0, none⟩) (Ne.symm hbc) (.int .u64 (v.1 : Int))).far (p := ⟨b, 1, none⟩) (Ne.symm hbc) (.int .u64 (v.2 : Int))) 0 (.int .u64 (u.1 : Int))) 1 (.int .u64 (u.2 : Int)))
      · exact ((((Below.mono hx.out hW).setCell (p := ⟨b, 0, none⟩) hB _).setCell (p := ⟨b, 1, none⟩) hB _).setCell (p := ⟨c, 0, none⟩) hC _).setCell (p := ⟨c, 1, none⟩) hC _
  · refine F_way (S := fun w' => w'.cell? ⟨W.heap.size, 0, none⟩ = some (.int .u64 (p.1 : Int)) ∧ w'.cell? ⟨W.heap.size, 1, none⟩ = some (.int .u64 (p.2 : Int)) ∧ w'.cell? ⟨b, 0, none⟩ = some (.int .u64 (x.1 : Int)) ∧ w'.cell? ⟨b, 1, none⟩ = some (.int .u64 (x.2 : Int)) ∧ w'.cell? ⟨c, 0, none⟩ = some (.int .u64 (y.1 : Int)) ∧ w'.cell? ⟨c, 1, none⟩ = some (.int .u64 (y.2 : Int))) (L := 6) (o := _) rfl (ls' := #[true, true, false, false, true, false, false, false]) (by kernel_rfl) (by rfl) (fun K hK => ?_)
    try dsimp only at hHeld
    go_simp
    have hHeld2 := hHeld
    clear hHeld
    have hHeld := hHeld2
    clear hHeld2
    refine hK _ _ (fun _ _ => hHeld) ?_
    clear hK K
    try simp only [Act.put, List.setIfInBounds_toArray, List.set_cons_zero, List.set_cons_succ]
    refine F_some (is := [2, 3]) (by kernel_rfl) (by simp) (fun i hi => ?_)
    simp only [List.mem_cons, List.not_mem_nil, or_false] at hi
    rcases hi with rfl | rfl
    · refine F_way (S := fun w' => w'.cell? ⟨W.heap.size, 0, none⟩ = some (.int .u64 (p.1 : Int)) ∧ w'.cell? ⟨W.heap.size, 1, none⟩ = some (.int .u64 (p.2 : Int)) ∧ w'.cell? ⟨b, 0, none⟩ = some (.int .u64 (x.1 : Int)) ∧ w'.cell? ⟨b, 1, none⟩ = some (.int .u64 (x.2 : Int)) ∧ w'.cell? ⟨c, 0, none⟩ = some (.int .u64 (y.1 : Int)) ∧ w'.cell? ⟨c, 1, none⟩ = some (.int .u64 (y.2 : Int))) (L := 6) (o := _) rfl (ls' := #[true, true, true, false, true, false, false, false]) (by kernel_rfl) (by rfl) (fun K hK => ?_)
      go_simp
      go_at_call 58
      refine (cP _).mono ?_
      clear cP
      rintro e w2 ⟨rfl, x2⟩
      have X2 : Ext W1 w2 := (Ext.refl W1).drew.trans x2
      have HQ2 := HC1.out _ X2
      have hHeld2 := HC1.out _ X2
      clear hHeld
      have hHeld := hHeld2
      clear hHeld2
      refine hK _ _ (fun _ _ => hHeld) ?_
      clear hK K
      try simp only [Act.put, List.setIfInBounds_toArray, List.set_cons_zero, List.set_cons_succ]
      refine F_some (is := [3]) (by kernel_rfl) (by simp) (fun i hi => ?_)
      obtain rfl : i = 3 := by simpa using hi
      refine F_way (S := fun w' => w'.cell? ⟨W.heap.size, 0, none⟩ = some (.int .u64 (p.1 : Int)) ∧ w'.cell? ⟨W.heap.size, 1, none⟩ = some (.int .u64 (p.2 : Int)) ∧ w'.cell? ⟨b, 0, none⟩ = some (.int .u64 (x.1 : Int)) ∧ w'.cell? ⟨b, 1, none⟩ = some (.int .u64 (x.2 : Int)) ∧ w'.cell? ⟨c, 0, none⟩ = some (.int .u64 (y.1 : Int)) ∧ w'.cell? ⟨c, 1, none⟩ = some (.int .u64 (y.2 : Int))) (L := 6) (o := _) rfl (ls' := #[true, true, true, true, true, false, false, false]) (by kernel_rfl) (by rfl) (fun K hK => ?_)
      try dsimp only at hHeld
      go_simp
      have hHeld2 := hHeld
      clear hHeld
      have hHeld := hHeld2
      clear hHeld2
      refine hK _ _ (fun _ _ => hHeld) ?_
      clear hK K
      try simp only [Act.put, List.setIfInBounds_toArray, List.set_cons_zero, List.set_cons_succ]
      refine F_some (is := [5]) (by kernel_rfl) (by simp) (fun i hi => ?_)
      obtain rfl : i = 5 := by simpa using hi
      refine F_way (S := fun w' => w'.cell? ⟨W.heap.size, 0, none⟩ = some (.int .u64 (p.1 : Int)) ∧ w'.cell? ⟨W.heap.size, 1, none⟩ = some (.int .u64 (p.2 : Int)) ∧ w'.cell? ⟨b, 0, none⟩ = some (.int .u64 (x.1 : Int)) ∧ w'.cell? ⟨b, 1, none⟩ = some (.int .u64 (x.2 : Int)) ∧ w'.cell? ⟨c, 0, none⟩ = some (.int .u64 (y.1 : Int)) ∧ w'.cell? ⟨c, 1, none⟩ = some (.int .u64 (y.2 : Int))) (L := 6) (o := _) rfl (ls' := #[true, true, true, true, true, true, false, false]) (by kernel_rfl) (by rfl) (fun K hK => ?_)
      go_simp
      go_at_call 58
      refine (cQ _).mono ?_
      clear cQ
      rintro e w3 ⟨rfl, x3⟩
      have X3 : Ext W1 w3 := X2.trans x3
      have k2 := ext_blk X3 HB2.out
      have k3 := ext_blk X3 HB3.out
      have n0 := k2.cell 0
      have n1 := k2.cell 1
      have n2 := k3.cell 0
      have n3 := k3.cell 1
      have f0 := k2.frozen 0
      have f1 := k2.frozen 1
      have f2 := k3.frozen 0
      have f3 := k3.frozen 1
      have hHeld2 := HC1.out _ X3
      clear hHeld
      have hHeld := hHeld2
      clear hHeld2
      refine hK _ _ (fun _ _ => hHeld) ?_
      clear hK K
      try simp only [Act.put, List.setIfInBounds_toArray, List.set_cons_zero, List.set_cons_succ]
      refine F_some (is := [6]) (by kernel_rfl) (by simp) (fun i hi => ?_)
      obtain rfl : i = 6 := by simpa using hi
      refine F_way (S := fun w' => w'.cell? ⟨W.heap.size, 0, none⟩ = some (.int .u64 (p.1 : Int)) ∧ w'.cell? ⟨W.heap.size, 1, none⟩ = some (.int .u64 (p.2 : Int)) ∧ w'.cell? ⟨b, 0, none⟩ = some (.int .u64 (x.1 : Int)) ∧ w'.cell? ⟨b, 1, none⟩ = some (.int .u64 (x.2 : Int)) ∧ w'.cell? ⟨c, 0, none⟩ = some (.int .u64 (y.1 : Int)) ∧ w'.cell? ⟨c, 1, none⟩ = some (.int .u64 (y.2 : Int))) (L := 6) (o := _) rfl (ls' := #[true, true, true, true, true, true, true, false]) (by kernel_rfl) (by rfl) (fun K hK => ?_)
      clear hHeld
      go_simp
      refine hK _ _ (fun h _ => absurd h (by decide)) ?_
      clear hK K
      try simp only [Act.put, List.setIfInBounds_toArray, List.set_cons_zero, List.set_cons_succ]
      refine F_some (is := [7]) (by kernel_rfl) (by simp) (fun i hi => ?_)
      obtain rfl : i = 7 := by simpa using hi
      refine F_way (S := fun w' => w'.cell? ⟨W.heap.size, 0, none⟩ = some (.int .u64 (p.1 : Int)) ∧ w'.cell? ⟨W.heap.size, 1, none⟩ = some (.int .u64 (p.2 : Int)) ∧ w'.cell? ⟨b, 0, none⟩ = some (.int .u64 (x.1 : Int)) ∧ w'.cell? ⟨b, 1, none⟩ = some (.int .u64 (x.2 : Int)) ∧ w'.cell? ⟨c, 0, none⟩ = some (.int .u64 (y.1 : Int)) ∧ w'.cell? ⟨c, 1, none⟩ = some (.int .u64 (y.2 : Int))) (L := 6) (o := _) rfl (ls' := #[true, true, true, true, true, true, true, true]) (by kernel_rfl) (by rfl) (fun K hK => ?_)
      go_simp
      refine hK _ _ (fun h _ => absurd h (by decide)) ?_
      clear hK K
      try simp only [Act.put, List.setIfInBounds_toArray, List.set_cons_zero, List.set_cons_succ]
      refine F_done (by kernel_rfl) ?_
      go_wp2
      have hx := HX1.out.trans X3
      go_end0
      refine ⟨rfl, ?_, ?_, ?_⟩
      · exact ((((Blk.set_ k2 0 (.int .u64 (v.1 : Int))).set_ 1 (.int .u64 (v.2 : Int))).far (p := ⟨c, 0, none⟩) hbc (.int .u64 (u.1 : Int))).far (p := ⟨c, 1, none⟩) hbc (.int .u64 (u.2 : Int)))
      · exact (Blk.set_ (Blk.set_ ((Blk.far k3 (p := ⟨b, 0, none⟩) (Ne.symm hbc) (.int .u64 (v.1 : Int))).far (p := ⟨b, 1, none⟩) (Ne.symm hbc) (.int .u64 (v.2 : Int))) 0 (.int .u64 (u.1 : Int))) 1 (.int .u64 (u.2 : Int)))
      · exact ((((Below.mono hx.out hW).setCell (p := ⟨b, 0, none⟩) hB _).setCell (p := ⟨b, 1, none⟩) hB _).setCell (p := ⟨c, 0, none⟩) hC _).setCell (p := ⟨c, 1, none⟩) hC _
    · refine F_way (S := fun w' => w'.cell? ⟨W.heap.size, 0, none⟩ = some (.int .u64 (p.1 : Int)) ∧ w'.cell? ⟨W.heap.size, 1, none⟩ = some (.int .u64 (p.2 : Int)) ∧ w'.cell? ⟨b, 0, none⟩ = some (.int .u64 (x.1 : Int)) ∧ w'.cell? ⟨b, 1, none⟩ = some (.int .u64 (x.2 : Int)) ∧ w'.cell? ⟨c, 0, none⟩ = some (.int .u64 (y.1 : Int)) ∧ w'.cell? ⟨c, 1, none⟩ = some (.int .u64 (y.2 : Int))) (L := 6) (o := _) rfl (ls' := #[true, true, false, true, true, false, false, false]) (by kernel_rfl) (by rfl) (fun K hK => ?_)
      try dsimp only at hHeld
      go_simp
      have hHeld2 := hHeld
      clear hHeld
      have hHeld := hHeld2
      clear hHeld2
      refine hK _ _ (fun _ _ => hHeld) ?_
      clear hK K
      try simp only [Act.put, List.setIfInBounds_toArray, List.set_cons_zero, List.set_cons_succ]
      refine F_some (is := [2]) (by kernel_rfl) (by simp) (fun i hi => ?_)
      obtain rfl : i = 2 := by simpa using hi
      refine F_way (S := fun w' => w'.cell? ⟨W.heap.size, 0, none⟩ = some (.int .u64 (p.1 : Int)) ∧ w'.cell? ⟨W.heap.size, 1, none⟩ = some (.int .u64 (p.2 : Int)) ∧ w'.cell? ⟨b, 0, none⟩ = some (.int .u64 (x.1 : Int)) ∧ w'.cell? ⟨b, 1, none⟩ = some (.int .u64 (x.2 : Int)) ∧ w'.cell? ⟨c, 0, none⟩ = some (.int .u64 (y.1 : Int)) ∧ w'.cell? ⟨c, 1, none⟩ = some (.int .u64 (y.2 : Int))) (L := 6) (o := _) rfl (ls' := #[true, true, true, true, true, false, false, false]) (by kernel_rfl) (by rfl) (fun K hK => ?_)
      go_simp
      go_at_call 58
      refine (cP _).mono ?_
      clear cP
      rintro e w2 ⟨rfl, x2⟩
      have X2 : Ext W1 w2 := (Ext.refl W1).drew.trans x2
      have HQ2 := HC1.out _ X2
      have hHeld2 := HC1.out _ X2
      clear hHeld
      have hHeld := hHeld2
      clear hHeld2
      refine hK _ _ (fun _ _ => hHeld) ?_
      clear hK K
      try simp only [Act.put, List.setIfInBounds_toArray, List.set_cons_zero, List.set_cons_succ]
      refine F_some (is := [5]) (by kernel_rfl) (by simp) (fun i hi => ?_)
      obtain rfl : i = 5 := by simpa using hi
      refine F_way (S := fun w' => w'.cell? ⟨W.heap.size, 0, none⟩ = some (.int .u64 (p.1 : Int)) ∧ w'.cell? ⟨W.heap.size, 1, none⟩ = some (.int .u64 (p.2 : Int)) ∧ w'.cell? ⟨b, 0, none⟩ = some (.int .u64 (x.1 : Int)) ∧ w'.cell? ⟨b, 1, none⟩ = some (.int .u64 (x.2 : Int)) ∧ w'.cell? ⟨c, 0, none⟩ = some (.int .u64 (y.1 : Int)) ∧ w'.cell? ⟨c, 1, none⟩ = some (.int .u64 (y.2 : Int))) (L := 6) (o := _) rfl (ls' := #[true, true, true, true, true, true, false, false]) (by kernel_rfl) (by rfl) (fun K hK => ?_)
      go_simp
      go_at_call 58
      refine (cQ _).mono ?_
      clear cQ
      rintro e w3 ⟨rfl, x3⟩
      have X3 : Ext W1 w3 := X2.trans x3
      have k2 := ext_blk X3 HB2.out
      have k3 := ext_blk X3 HB3.out
      have n0 := k2.cell 0
      have n1 := k2.cell 1
      have n2 := k3.cell 0
      have n3 := k3.cell 1
      have f0 := k2.frozen 0
      have f1 := k2.frozen 1
      have f2 := k3.frozen 0
      have f3 := k3.frozen 1
      have hHeld2 := HC1.out _ X3
      clear hHeld
      have hHeld := hHeld2
      clear hHeld2
      refine hK _ _ (fun _ _ => hHeld) ?_
      clear hK K
      try simp only [Act.put, List.setIfInBounds_toArray, List.set_cons_zero, List.set_cons_succ]
      refine F_some (is := [6]) (by kernel_rfl) (by simp) (fun i hi => ?_)
      obtain rfl : i = 6 := by simpa using hi
      refine F_way (S := fun w' => w'.cell? ⟨W.heap.size, 0, none⟩ = some (.int .u64 (p.1 : Int)) ∧ w'.cell? ⟨W.heap.size, 1, none⟩ = some (.int .u64 (p.2 : Int)) ∧ w'.cell? ⟨b, 0, none⟩ = some (.int .u64 (x.1 : Int)) ∧ w'.cell? ⟨b, 1, none⟩ = some (.int .u64 (x.2 : Int)) ∧ w'.cell? ⟨c, 0, none⟩ = some (.int .u64 (y.1 : Int)) ∧ w'.cell? ⟨c, 1, none⟩ = some (.int .u64 (y.2 : Int))) (L := 6) (o := _) rfl (ls' := #[true, true, true, true, true, true, true, false]) (by kernel_rfl) (by rfl) (fun K hK => ?_)
      clear hHeld
      go_simp
      refine hK _ _ (fun h _ => absurd h (by decide)) ?_
      clear hK K
      try simp only [Act.put, List.setIfInBounds_toArray, List.set_cons_zero, List.set_cons_succ]
      refine F_some (is := [7]) (by kernel_rfl) (by simp) (fun i hi => ?_)
      obtain rfl : i = 7 := by simpa using hi
      refine F_way (S := fun w' => w'.cell? ⟨W.heap.size, 0, none⟩ = some (.int .u64 (p.1 : Int)) ∧ w'.cell? ⟨W.heap.size, 1, none⟩ = some (.int .u64 (p.2 : Int)) ∧ w'.cell? ⟨b, 0, none⟩ = some (.int .u64 (x.1 : Int)) ∧ w'.cell? ⟨b, 1, none⟩ = some (.int .u64 (x.2 : Int)) ∧ w'.cell? ⟨c, 0, none⟩ = some (.int .u64 (y.1 : Int)) ∧ w'.cell? ⟨c, 1, none⟩ = some (.int .u64 (y.2 : Int))) (L := 6) (o := _) rfl (ls' := #[true, true, true, true, true, true, true, true]) (by kernel_rfl) (by rfl) (fun K hK => ?_)
      go_simp
      refine hK _ _ (fun h _ => absurd h (by decide)) ?_
      clear hK K
      try simp only [Act.put, List.setIfInBounds_toArray, List.set_cons_zero, List.set_cons_succ]
      refine F_done (by kernel_rfl) ?_
      go_wp2
      have hx := HX1.out.trans X3
      go_end0
      refine ⟨rfl, ?_, ?_, ?_⟩
      · exact ((((Blk.set_ k2 0 (.int .u64 (v.1 : Int))).set_ 1 (.int .u64 (v.2 : Int))).far (p := ⟨c, 0, none⟩) hbc (.int .u64 (u.1 : Int))).far (p := ⟨c, 1, none⟩) hbc (.int .u64 (u.2 : Int)))
      · exact (Blk.set_ (Blk.set_ ((Blk.far k3 (p := ⟨b, 0, none⟩) (Ne.symm hbc) (.int .u64 (v.1 : Int))).far (p := ⟨b, 1, none⟩) (Ne.symm hbc) (.int .u64 (v.2 : Int))) 0 (.int .u64 (u.1 : Int))) 1 (.int .u64 (u.2 : Int)))
      · exact ((((Below.mono hx.out hW).setCell (p := ⟨b, 0, none⟩) hB _).setCell (p := ⟨b, 1, none⟩) hB _).setCell (p := ⟨c, 0, none⟩) hC _).setCell (p := ⟨c, 1, none⟩) hC _
end Go.Proofs.YtfpmfegmehbfbaaGreatDoor
