/- Parts of the proofs, put together: MkE. -/
import Derived.Test.YtfpmfegmehbfbaaGreatDoorV26
import Derived.Test.YtfpmfegmehbfbaaGreatDoorV32
import Derived.Test.YtfpmfegmehbfbaaGreatDoorV34
/- Trees of hashes, walked: Prove. -/
namespace Go.Proofs.YtfpmfegmehbfbaaGreatDoor
set_option linter.unusedVariables false
set_option linter.unusedSimpArgs false
set_option linter.unusedSimpArgs false
open Go.RowKit Go.Shelf Go.Maps

theorem proveF_le : ∀ (N : Nat) (l : List (Nat × Nat)) (i : Nat), l.length ≤ N → (proveF prS zS l i).length ≤ l.length
  | 0, l, i, h => by rw [proveF, if_neg (by omega)]; simp
  | N + 1, l, i, h => by
    rw [proveF]
    split
    · rename_i h2
      have k1 := halfF_lt h2
      have k2 := halfF_pos l.length
      split
      · have := proveF_le N (l.take (halfF l.length)) i (by rw [List.length_take]; omega)
        rw [List.length_append, List.length_singleton]
        rw [List.length_take] at this
        omega
      · have := proveF_le N (l.drop (halfF l.length)) (i - halfF l.length) (by rw [List.length_drop]; omega)
        rw [List.length_append, List.length_singleton]
        rw [List.length_drop] at this
        omega
    · simp
theorem own_apartM {w : World} {base : Nat} {e : TypeId} {size n : Nat} {v : Value} {xs : List Value} (h : w.ownsRow base e size v n xs) {k : Nat} (hk : k < base) : some k ≠ v.ownBlock := fun e => by have := (h.lt k e.symm).1; omega
theorem Tryz.infoSm : (Tryz.prog.info? 34).map (fun i => (i.zero, i.size, i.bytes)) = some (some (.agg #[.int .u64 0, .int .u64 0]), 2, 16) := by kernel_rfl
theorem down_enters : Enters Tryz.prog 144 := enters_of Tryz.func144 (by kernel_rfl) rfl
/-- The boxes of one who proves: the proof so far, and himself. -/
structure Dn (B : Nat) (acc : List (Nat × Nat)) (v : Value) (W : World) : Prop where
  bp : Blk W B 42 #[v]
  bd : Blk W (B + 1) 229 #[.func (.func 144) #[] #[.pointer (some ⟨B + 1, 0, none⟩), .pointer (some ⟨B, 0, none⟩)]]
  ow : W.ownsRow (B + 2) 34 2 v acc.length (sumV acc)
theorem Dn.next {B : Nat} {acc : List (Nat × Nat)} {v v' : Value} {W W1 W2 W3 : World} {R : Nat × Nat} (h : Dn B acc v W) (x : Ext W W1) (hg : W1.grownBy W2 v.ownBlock) (ho : W2.ownsRow (B + 2) 34 2 v' (acc.length + 1) (sumV acc ++ [.int .u64 (R.1 : Int), .int .u64 (R.2 : Int)])) (e : W2.setCell ⟨B, 0, none⟩ v' = W3) :
    Dn B (acc ++ [R]) v' W3 ∧ Below B W W3 := by
  have hb : B + 1 < W.heap.size := h.bd.lt
  refine ⟨⟨?_, ?_, ?_⟩, ?_⟩
  · rw [← e]; exact ((ext_blk x h.bp).grown hg (own_apartM h.ow (by omega))).set_ 0 v'
  · rw [← e]; exact ((ext_blk x h.bd).grown hg (own_apartM h.ow (by omega))).far (p := ⟨B, 0, none⟩) (by show B + 1 ≠ B; omega) v'
  · rw [← e]
    have := own_farL ho (g := B) (by omega) 0 v'
    rw [List.length_append, sumV_append]
    exact this
  · rw [← e]
    have h1 : Below B W W2 := (Below.mono x.out (by omega)).grown hg (by have := x.size; omega) (fun k hk => by have := own_ge h.ow k hk; omega)
    exact h1.setCell (p := ⟨B, 0, none⟩) (Nat.le_refl _) v'
theorem Dn.ext {B : Nat} {acc : List (Nat × Nat)} {v : Value} {W W1 : World} (h : Dn B acc v W) (x : Ext W W1) : Dn B acc v W1 := ⟨ext_blk x h.bp, ext_blk x h.bd, own_ext h.ow x⟩
set_option maxRecDepth 100000 in
set_option maxHeartbeats 8000000 in
theorem down_any (B : Nat) : ∀ (N : Nat) (l : List (Nat × Nat)) (hN : l.length ≤ N) (h0 : 0 < l.length) (h40 : l.length < 40) (i : Nat) (hi : i < l.length) (A : Option Addr) (c : Nat) (hc : l.length ≤ c) (acc : List (Nat × Nat)) (hacc : acc.length + l.length ≤ 60) (v : Value) (w : World) (hd : Dn B acc v w) (hr : Reads w B 2 A l.length (sumV l)),
    Calls Tryz.prog 144 #[.slice A l.length c, .int .i64 i, .pointer (some ⟨B + 1, 0, none⟩), .pointer (some ⟨B, 0, none⟩)] w fun e w' => e = .returned (.tuple #[]) ∧ ∃ v', Dn B (acc ++ proveF prS zS l i) v' w' ∧ Below B w w' := by
  intro N
  induction N with
  | zero => intro l hN h0; omega
  | succ N ih =>
    intro l hN h0 h40 i hi A c hc acc hacc v w hd hr
    have hE := down_enters
    unfold Enters at hE
    have hlb : (l.length : Int) ≤ 40 := by omega
    by_cases h1 : l.length = 1
    · have hp : proveF prS zS l i = [] := by rw [proveF, if_neg (by omega)]
      have e1 : ((l.length : Int) == 1) = true := by rw [h1]; rfl
      have e2 : decide ((l.length : Int) = 1) = true := by rw [h1]; rfl
      have HD := Lib.hid hd
      have HP := Lib.hid hp
      have HL := Lib.hid h1
      clear ih hd hp hr hN h0 h40 hc hacc h1 hi
      rw [HL.out]
      go_enter Tryz.func144, Tryz.ntmps144
      go_wp2
      exact bodyPost_ret (v := .tuple #[]) (results_none rfl _ _ _) rfl ⟨rfl, v, by rw [HP.out, List.append_nil]; exact HD.out, Below.refl _ _⟩
    · have h2 : 2 ≤ l.length := by omega
      have hK1 := halfF_lt h2
      have hK2 := halfF_pos l.length
      have cH := fun W => half_any l.length h2 (by omega) W
      obtain ⟨K, hK⟩ : ∃ K, halfF l.length = K := ⟨_, rfl⟩
      have hpf : proveF prS zS l i = if i < K then proveF prS zS (l.take K) i ++ [rootF prS zS (l.drop K)] else proveF prS zS (l.drop K) (i - K) ++ [rootF prS zS (l.take K)] := by
        rw [proveF, if_pos h2, hK]
      rw [hK] at cH hK1 hK2
      have hcut := hr.cut (k := K) (cap := c) (by omega) hc
      rw [if_neg (show ¬ c = K by omega), sumV_drop] at hcut
      have htk := reads_take hr (k := K) (by omega)
      rw [sumV_take] at htk
      have hdl : (l.drop K).length = l.length - K := List.length_drop
      have htl : (l.take K).length = K := by rw [List.length_take]; omega
      have e1 : ((l.length : Int) == 1) = false := by simp; omega
      have e2 : decide ((l.length : Int) = 1) = false := by simp; omega
      have e3 : ¬ (l.length : Int) = 1 := by omega
      have hKI : (K : Int) ≤ (l.length : Int) := by omega
      have hKcI : (K : Int) ≤ (c : Int) := by omega
      have hcK : ¬ c = K := by omega
      have hib : (i : Int) ≤ 40 := by omega
      have hlc : (l.length : Int) ≤ (c : Int) := by omega
      have hlcN : l.length ≤ c := hc
      have hKN : K ≤ l.length := by omega
      have HBw : Hid (B + 1 < w.heap.size) := Lib.hid hd.bd.lt
      have m0 := hd.bd.cell 0
      by_cases hik : i < K
      · rw [if_pos hik] at hpf
        have cI := fun W (e : Ext w W) => ih (l.take K) (by omega) (by omega) (by omega) i (by omega) A c (by omega) acc (by omega) v W (hd.ext e) (by rw [htl]; exact htk.below (Below.mono e.out (Nat.le_of_lt (Nat.lt_of_succ_lt hd.bd.lt))))
        rw [htl] at cI
        have hpl := proveF_le _ (l.take K) i (Nat.le_refl _)
        rw [htl] at hpl
        have cR := fun W (e : Below B w W) => Root_any (l.drop K) (by omega) (A.map (·.add (K * 2))) (c - K) (by omega) W (by rw [hdl]; exact (hcut.below e).more (Nat.le_trans (Nat.le_of_lt (Nat.lt_of_succ_lt hd.bd.lt)) e.size))
        rw [hdl] at cR
        have d1 : decide ((K : Int) ≤ (i : Int)) = false := by simp; omega
        have d2 : ¬ (K : Int) ≤ (i : Int) := by omega
        have d1' : decide (K ≤ i) = false := by simp; omega
        have d2' : ¬ K ≤ i := by omega
        obtain ⟨Q, hQ⟩ : ∃ Q, proveF prS zS (l.take K) i = Q := ⟨_, rfl⟩
        obtain ⟨R, hR⟩ : ∃ R, rootF prS zS (l.drop K) = R := ⟨_, rfl⟩
        rw [hQ, hR] at hpf
        rw [hQ] at cI hpl
        rw [hR] at cR
        have HPF := Lib.hid hpf
        have HAC : Hid ((acc ++ Q).length + 1 ≤ 60) := Lib.hid (by rw [List.length_append]; omega)
        obtain ⟨i0, hinf, hz0, hz1, hz2⟩ := info_parts Tryz.infoSm
        clear ih hd hr hN h0 h40 hc hacc h1 hi hcut htk hdl htl hpf hpl hQ hR hK1 hK2 h2 hK hik
        go_enter Tryz.func144, Tryz.ntmps144
        go_upto_region 2 with (go_at_call 133; refine (cH _).mono ?_; clear cH; rintro e w' ⟨rfl, rfl⟩)
        go_quiet (fail)
        have m0' := fun n : Nat => show (w.drewN n).cell? _ = _ from m0
        go_upto_region 6 with (go_at_fn 144; refine (cI _ ((Ext.refl w).drewN _)).mono ?_; clear cI m0 m0'; rintro e w1 ⟨rfl, v1, D1, hb1⟩)
        have hb2 : Below B w w1 := (Below.mono ((Ext.refl w).drewN _).out (by have := HBw.out; omega)).trans hb1
        have HD1 := Lib.hid D1
        have HB1 := Lib.hid hb2
        have hS1 := fun W (e : Ext w1 W) => (ext_blk e HD1.out.bp).cell 0
        clear D1 hb1 hb2
        refine F_start (n := 6) (ls := #[false, false, false, false, false, false]) (fun w' => w'.cell? ⟨B, 0, none⟩ = some v1) 4 (by kernel_rfl) (by kernel_rfl) (by kernel_rfl) (hS1 _ (Ext.refl w1).drew) (fun hHeld => ?_)
        refine F_take (i := 0) (some 33) (ls' := #[true, false, false, false, false, false]) rfl rfl (by kernel_rfl) (by kernel_rfl) (by kernel_rfl) (by kernel_rfl) (by kernel_rfl) (by rfl) (v := ?_) ?_ hHeld ?_
        rotate_left 1
        · intro w hSw; (try dsimp only at hSw); go_simp; try with_reducible rfl
        try simp only [Act.put, List.setIfInBounds_toArray, List.set_cons_zero, List.set_cons_succ]
        refine F_pure (i := 1) (some 34) (ls' := #[true, true, false, false, false, false]) rfl rfl (by kernel_rfl) (by kernel_rfl) (by kernel_rfl) (by kernel_rfl) (by rfl) (v := ?_) ?_ ?_
        rotate_left 1
        · intro w; go_simp; try with_reducible rfl
        try simp only [Act.put, List.setIfInBounds_toArray, List.set_cons_zero, List.set_cons_succ]
        refine F_some (is := [2]) (by kernel_rfl) (by simp) (fun i hi => ?_)
        obtain rfl : i = 2 := by simpa using hi
        refine F_way (S := fun w' => w'.cell? ⟨B, 0, none⟩ = some v1) (L := 4) (o := _) rfl (ls' := #[true, true, true, false, false, false]) (by kernel_rfl) (by rfl) (fun K hK => ?_)
        go_simp
        go_at_call 15
        refine (cR _ (HB1.out.trans (Below.mono (Ext.refl w1).drew.out (by have := HBw.out; have := HB1.out.size; omega)))).mono ?_
        clear cR
        rintro e w2 ⟨rfl, x2⟩
        have X2 : Ext w1 w2 := (Ext.refl w1).drew.trans x2
        have hHeld2 := hS1 _ X2
        clear hHeld
        have hHeld := hHeld2
        clear hHeld2
        refine hK _ _ (fun _ _ => hHeld) ?_
        clear hK K
        try simp only [Act.put, List.setIfInBounds_toArray, List.set_cons_zero, List.set_cons_succ]
        refine F_some (is := [3]) (by kernel_rfl) (by simp) (fun i hi => ?_)
        obtain rfl : i = 3 := by simpa using hi
        refine F_way (S := fun w' => w'.cell? ⟨B, 0, none⟩ = some v1) (L := 4) (o := _) rfl (ls' := #[true, true, true, true, false, false]) (by kernel_rfl) (by rfl) (fun K hK => ?_)
        go_simp
        have hHeld2 := hS1 _ (X2.alloc (.cells #[.int .u64 (R.1 : Int), .int .u64 (R.2 : Int)] 34))
        clear hHeld
        have hHeld := hHeld2
        clear hHeld2
        refine hK _ _ (fun _ _ => hHeld) ?_
        clear hK K
        try simp only [Act.put, List.setIfInBounds_toArray, List.set_cons_zero, List.set_cons_succ]
        refine F_some (is := [4]) (by kernel_rfl) (by simp) (fun i hi => ?_)
        obtain rfl : i = 4 := by simpa using hi
        refine F_way (S := fun w' => w'.cell? ⟨B, 0, none⟩ = some v1) (L := 4) (o := _) rfl (ls' := #[true, true, true, true, true, false]) (by kernel_rfl) (by rfl) (fun K hK => ?_)
        refine wp_append_any _ (.tmp 33) (.tmp 36) 42 rfl (B + 2) 34 i0 (.agg #[.int .u64 0, .int .u64 0]) 2 16 Tryz.underlying42 hinf hz0 hz1 hz2 rfl (by decide) v1 (acc ++ Q).length (sumV (acc ++ Q)) rfl (own_ext HD1.out.ow (X2.alloc _)) _ (some ⟨w2.heap.size, 0, none⟩) 1 1 [.int .u64 (R.1 : Int), .int .u64 (R.2 : Int)] rfl (reads_ent2 w2 _ _ _) (by simp [Value.oneCell']) (by have := HAC.out; simp only [maxLen]; omega) (by have := HAC.out; omega) (by have := HBw.out; have := HB1.out.size; have := X2.size; simp; omega) ?_
        intro v7 w7 hown7 hg7 _
        obtain ⟨A7, c7, rfl, hc7, -⟩ := own_slice2 hown7
        have k7 := (ext_blk (X2.alloc _) HD1.out.bp).grown hg7 (own_apartM HD1.out.ow (by omega))
        have g7 := k7.cell 0
        have f7 := k7.frozen 0
        refine hK _ _ (fun h _ => absurd h (by decide)) ?_
        clear hK K
        try simp only [Act.put, List.setIfInBounds_toArray, List.set_cons_zero, List.set_cons_succ]
        refine F_some (is := [5]) (by kernel_rfl) (by simp) (fun i hi => ?_)
        obtain rfl : i = 5 := by simpa using hi
        refine F_way (S := fun w' => w'.cell? ⟨B, 0, none⟩ = some v1) (L := 4) (o := _) rfl (ls' := #[true, true, true, true, true, true]) (by kernel_rfl) (by rfl) (fun K hK => ?_)
        clear hHeld
        go_simp
        refine hK _ _ (fun h _ => absurd h (by decide)) ?_
        clear hK K
        try simp only [Act.put, List.setIfInBounds_toArray, List.set_cons_zero, List.set_cons_succ]
        refine F_done (by kernel_rfl) ?_
        obtain ⟨W3, e3⟩ : ∃ W, w7.setCell ⟨B, 0, none⟩ (.slice A7 (acc.length + Q.length + 1) c7) = W := ⟨_, rfl⟩
        rw [e3]
        have hN := Dn.next (W3 := W3) HD1.out (X2.alloc _) hg7 hown7 (by rw [List.length_append]; exact e3)
        have HN := Lib.hid hN
        clear hN e3 k7 g7 f7 hown7 hg7 x2 X2
        go_end0
        exact ⟨rfl, .slice A7 ((acc ++ Q).length + 1) c7, by rw [HPF.out, ← List.append_assoc]; exact HN.out.1, HB1.out.trans HN.out.2⟩
      · rw [if_neg hik] at hpf
        have cI := fun W (e : Ext w W) => ih (l.drop K) (by omega) (by omega) (by omega) (i - K) (by omega) (A.map (·.add (K * 2))) (c - K) (by omega) acc (by omega) v W (hd.ext e) (by rw [hdl]; exact hcut.below (Below.mono e.out (Nat.le_of_lt (Nat.lt_of_succ_lt hd.bd.lt))))
        rw [hdl] at cI
        have hpl := proveF_le _ (l.drop K) (i - K) (Nat.le_refl _)
        rw [hdl] at hpl
        have cR := fun W (e : Below B w W) => Root_any (l.take K) (by omega) A c (by omega) W (by rw [htl]; exact (htk.below e).more (Nat.le_trans (Nat.le_of_lt (Nat.lt_of_succ_lt hd.bd.lt)) e.size))
        rw [htl] at cR
        have hik' : ((i - K : Nat) : Int) = (i : Int) - (K : Int) := by omega
        simp only [hik'] at cI
        have d1 : decide ((K : Int) ≤ (i : Int)) = true := by simp; omega
        have d2 : (K : Int) ≤ (i : Int) := by omega
        have d1' : decide (K ≤ i) = true := by simp; omega
        have d2' : K ≤ i := by omega
        obtain ⟨Q, hQ⟩ : ∃ Q, proveF prS zS (l.drop K) (i - K) = Q := ⟨_, rfl⟩
        obtain ⟨R, hR⟩ : ∃ R, rootF prS zS (l.take K) = R := ⟨_, rfl⟩
        rw [hQ, hR] at hpf
        rw [hQ] at cI hpl
        rw [hR] at cR
        have HPF := Lib.hid hpf
        have HAC : Hid ((acc ++ Q).length + 1 ≤ 60) := Lib.hid (by rw [List.length_append]; omega)
        obtain ⟨i0, hinf, hz0, hz1, hz2⟩ := info_parts Tryz.infoSm
        clear ih hd hr hN h0 h40 hc hacc h1 hi hcut htk hdl htl hpf hpl hQ hR hK1 hK2 h2 hK hik hik'
        go_enter Tryz.func144, Tryz.ntmps144
        go_upto_region 2 with (go_at_call 133; refine (cH _).mono ?_; clear cH; rintro e w' ⟨rfl, rfl⟩)
        go_quiet (fail)
        have m0' := fun n : Nat => show (w.drewN n).cell? _ = _ from m0
        go_upto_region 6 with (go_at_fn 144; refine (cI _ ((Ext.refl w).drewN _)).mono ?_; clear cI m0 m0'; rintro e w1 ⟨rfl, v1, D1, hb1⟩)
        have hb2 : Below B w w1 := (Below.mono ((Ext.refl w).drewN _).out (by have := HBw.out; omega)).trans hb1
        have HD1 := Lib.hid D1
        have HB1 := Lib.hid hb2
        have hS1 := fun W (e : Ext w1 W) => (ext_blk e HD1.out.bp).cell 0
        clear D1 hb1 hb2
        refine F_start (n := 6) (ls := #[false, false, false, false, false, false]) (fun w' => w'.cell? ⟨B, 0, none⟩ = some v1) 4 (by kernel_rfl) (by kernel_rfl) (by kernel_rfl) (hS1 _ (Ext.refl w1).drew) (fun hHeld => ?_)
        refine F_take (i := 0) (some 33) (ls' := #[true, false, false, false, false, false]) rfl rfl (by kernel_rfl) (by kernel_rfl) (by kernel_rfl) (by kernel_rfl) (by kernel_rfl) (by rfl) (v := ?_) ?_ hHeld ?_
        rotate_left 1
        · intro w hSw; (try dsimp only at hSw); go_simp; try with_reducible rfl
        try simp only [Act.put, List.setIfInBounds_toArray, List.set_cons_zero, List.set_cons_succ]
        refine F_pure (i := 1) (some 34) (ls' := #[true, true, false, false, false, false]) rfl rfl (by kernel_rfl) (by kernel_rfl) (by kernel_rfl) (by kernel_rfl) (by rfl) (v := ?_) ?_ ?_
        rotate_left 1
        · intro w; go_simp; try with_reducible rfl
        try simp only [Act.put, List.setIfInBounds_toArray, List.set_cons_zero, List.set_cons_succ]
        refine F_some (is := [2]) (by kernel_rfl) (by simp) (fun i hi => ?_)
        obtain rfl : i = 2 := by simpa using hi
        refine F_way (S := fun w' => w'.cell? ⟨B, 0, none⟩ = some v1) (L := 4) (o := _) rfl (ls' := #[true, true, true, false, false, false]) (by kernel_rfl) (by rfl) (fun K hK => ?_)
        go_simp
        go_at_call 15
        refine (cR _ (HB1.out.trans (Below.mono (Ext.refl w1).drew.out (by have := HBw.out; have := HB1.out.size; omega)))).mono ?_
        clear cR
        rintro e w2 ⟨rfl, x2⟩
        have X2 : Ext w1 w2 := (Ext.refl w1).drew.trans x2
        have hHeld2 := hS1 _ X2
        clear hHeld
        have hHeld := hHeld2
        clear hHeld2
        refine hK _ _ (fun _ _ => hHeld) ?_
        clear hK K
        try simp only [Act.put, List.setIfInBounds_toArray, List.set_cons_zero, List.set_cons_succ]
        refine F_some (is := [3]) (by kernel_rfl) (by simp) (fun i hi => ?_)
        obtain rfl : i = 3 := by simpa using hi
        refine F_way (S := fun w' => w'.cell? ⟨B, 0, none⟩ = some v1) (L := 4) (o := _) rfl (ls' := #[true, true, true, true, false, false]) (by kernel_rfl) (by rfl) (fun K hK => ?_)
        go_simp
        have hHeld2 := hS1 _ (X2.alloc (.cells #[.int .u64 (R.1 : Int), .int .u64 (R.2 : Int)] 34))
        clear hHeld
        have hHeld := hHeld2
        clear hHeld2
        refine hK _ _ (fun _ _ => hHeld) ?_
        clear hK K
        try simp only [Act.put, List.setIfInBounds_toArray, List.set_cons_zero, List.set_cons_succ]
        refine F_some (is := [4]) (by kernel_rfl) (by simp) (fun i hi => ?_)
        obtain rfl : i = 4 := by simpa using hi
        refine F_way (S := fun w' => w'.cell? ⟨B, 0, none⟩ = some v1) (L := 4) (o := _) rfl (ls' := #[true, true, true, true, true, false]) (by kernel_rfl) (by rfl) (fun K hK => ?_)
        refine wp_append_any _ (.tmp 33) (.tmp 36) 42 rfl (B + 2) 34 i0 (.agg #[.int .u64 0, .int .u64 0]) 2 16 Tryz.underlying42 hinf hz0 hz1 hz2 rfl (by decide) v1 (acc ++ Q).length (sumV (acc ++ Q)) rfl (own_ext HD1.out.ow (X2.alloc _)) _ (some ⟨w2.heap.size, 0, none⟩) 1 1 [.int .u64 (R.1 : Int), .int .u64 (R.2 : Int)] rfl (reads_ent2 w2 _ _ _) (by simp [Value.oneCell']) (by have := HAC.out; simp only [maxLen]; omega) (by have := HAC.out; omega) (by have := HBw.out; have := HB1.out.size; have := X2.size; simp; omega) ?_
        intro v7 w7 hown7 hg7 _
        obtain ⟨A7, c7, rfl, hc7, -⟩ := own_slice2 hown7
        have k7 := (ext_blk (X2.alloc _) HD1.out.bp).grown hg7 (own_apartM HD1.out.ow (by omega))
        have g7 := k7.cell 0
        have f7 := k7.frozen 0
        refine hK _ _ (fun h _ => absurd h (by decide)) ?_
        clear hK K
        try simp only [Act.put, List.setIfInBounds_toArray, List.set_cons_zero, List.set_cons_succ]
        refine F_some (is := [5]) (by kernel_rfl) (by simp) (fun i hi => ?_)
        obtain rfl : i = 5 := by simpa using hi
        refine F_way (S := fun w' => w'.cell? ⟨B, 0, none⟩ = some v1) (L := 4) (o := _) rfl (ls' := #[true, true, true, true, true, true]) (by kernel_rfl) (by rfl) (fun K hK => ?_)
        clear hHeld
        go_simp
        refine hK _ _ (fun h _ => absurd h (by decide)) ?_
        clear hK K
        try simp only [Act.put, List.setIfInBounds_toArray, List.set_cons_zero, List.set_cons_succ]
        refine F_done (by kernel_rfl) ?_
        obtain ⟨W3, e3⟩ : ∃ W, w7.setCell ⟨B, 0, none⟩ (.slice A7 (acc.length + Q.length + 1) c7) = W := ⟨_, rfl⟩
        rw [e3]
        have hN := Dn.next (W3 := W3) HD1.out (X2.alloc _) hg7 hown7 (by rw [List.length_append]; exact e3)
        have HN := Lib.hid hN
        clear hN e3 k7 g7 f7 hown7 hg7 x2 X2
        go_end0
        exact ⟨rfl, .slice A7 ((acc ++ Q).length + 1) c7, by rw [HPF.out, ← List.append_assoc]; exact HN.out.1, HB1.out.trans HN.out.2⟩
end Go.Proofs.YtfpmfegmehbfbaaGreatDoor
