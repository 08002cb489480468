/- Parts of the proofs, put together: Mk9. -/
import Derived.Test.YtfpmfegmehbfbaaGreatDoorW31
/- Trees of hashes, walked: what shows that a tree has grown. -/
namespace Go.Proofs.YtfpmfegmehbfbaaGreatDoor
set_option linter.unusedVariables false
set_option linter.unusedSimpArgs false
set_option linter.unusedSimpArgs false
open Go.RowKit Go.Shelf Go.Maps

theorem growG_end {known : Bool} {l : List (Nat × Nat)} : growG prS zS known l l.length = if known = true then [] else [rootF prS zS l] := by rw [growG, if_neg (by omega)]
theorem growG_left {known : Bool} {l : List (Nat × Nat)} {m : Nat} (h : m < l.length ∧ 2 ≤ l.length) (hm : m ≤ halfF l.length) : growG prS zS known l m = growG prS zS known (l.take (halfF l.length)) m ++ [rootF prS zS (l.drop (halfF l.length))] := by rw [growG, if_pos h, if_pos hm]
theorem growG_right {known : Bool} {l : List (Nat × Nat)} {m : Nat} (h : m < l.length ∧ 2 ≤ l.length) (hm : ¬ m ≤ halfF l.length) : growG prS zS known l m = growG prS zS false (l.drop (halfF l.length)) (m - halfF l.length) ++ [rootF prS zS (l.take (halfF l.length))] := by rw [growG, if_pos h, if_neg hm]
theorem growG_len : ∀ (N : Nat) (known : Bool) (l : List (Nat × Nat)) (m : Nat), l.length ≤ N → (growG prS zS known l m).length ≤ l.length + 1
  | 0, known, l, m, h => by rw [growG, if_neg (by omega)]; cases known <;> simp
  | N + 1, known, l, m, h => by
    rw [growG]
    split
    · next hh =>
      have h1 := halfF_lt (n := l.length) hh.2
      have h2 := halfF_pos l.length
      split
      · have := growG_len N known (l.take (halfF l.length)) m (by rw [List.length_take]; omega)
        rw [List.length_append, List.length_singleton]; rw [List.length_take] at this; omega
      · have := growG_len N false (l.drop (halfF l.length)) (m - halfF l.length) (by rw [List.length_drop]; omega)
        rw [List.length_append, List.length_singleton]; rw [List.length_drop] at this; omega
    · cases known <;> simp
theorem revS_nil (w : World) : Calls Tryz.prog 132 #[.slice none 0 0] w fun e w' => e = .returned (.tuple #[]) ∧ w = w' := by
  go_enter Tryz.func132, Tryz.ntmps132
  go_wp2
  go_loopg [2, 3] 0 (fun m s2 s3 wr => s2 = .int .i64 0 ∧ s3 = .int .i64 (-1) ∧ w = wr)
  case atStart => exact ⟨rfl, rfl, rfl⟩
  case round =>
    obtain ⟨rfl, rfl, rfl⟩ := hrel
    go_wp2
    go_end0
    exact ⟨rfl, rfl⟩
theorem revS_own (l : List (Nat × Nat)) (hn : l.length ≤ 100000) (base : Nat) (v : Value) (w : World) (ho : w.ownsRow base 34 2 v l.length (sumV l)) :
    Calls Tryz.prog 132 #[v] w fun e w' => e = .returned (.tuple #[]) ∧ w'.ownsRow base 34 2 v l.length (sumV l.reverse) ∧ w.grownBy w' v.ownBlock := by
  rcases Nat.eq_zero_or_pos l.length with h0 | h0
  · obtain rfl : l = [] := List.length_eq_zero_iff.1 h0
    rcases ho.2 with ⟨rfl, -⟩ | ⟨g, cap, cur, rfl, hb, hg, hr⟩
    · exact (revS_nil w).mono fun e w' ⟨he, hw⟩ => ⟨he, by subst hw; exact ho, by subst hw; exact World.grownBy.refl _ _⟩
    · exact (revS_any [] hn base g cap w ho).mono fun e w' ⟨he, ho', hg'⟩ => ⟨he, ho', hg'⟩
  · obtain ⟨g, cap, rfl, -, -⟩ := ho.form h0
    exact (revS_any l hn base g cap w ho).mono fun e w' ⟨he, ho', hg'⟩ => ⟨he, ho', hg'⟩
set_option maxRecDepth 100000 in
set_option maxHeartbeats 8000000 in
theorem mkGrow_any (l : List (Nat × Nat)) (hl : l.length < 40) (m : Nat) (h0 : 0 < m) (hm : m ≤ l.length) (A : Option Addr) (c : Nat) (hc : l.length ≤ c) (w : World) (hr : Reads w w.heap.size 2 A l.length (sumV l)) :
    Calls Tryz.prog 53 #[.slice A l.length c, .int .i64 m] w fun e w' => ∃ A' c', e = .returned (.tuple #[.slice A' (growG prS zS true l m).length c', .int .i64 0]) ∧ (growG prS zS true l m).length ≤ c' ∧ Reads w' w'.heap.size 2 A' (growG prS zS true l m).length (sumV (growG prS zS true l m)) ∧ Ext w w' := by
  obtain ⟨i0, hi, hz0, hz1, hz2⟩ := info_parts Tryz.infoSum
  obtain ⟨F, hF⟩ : ∃ F, growG prS zS true l m = F := ⟨_, rfl⟩
  have hFl : F.length ≤ 60 := by rw [← hF]; have := growG_len l.length true l m (Nat.le_refl _); omega
  rw [hF]
  have hlI : (l.length : Int) ≤ 60 := by omega
  have hmI : (m : Int) ≤ (l.length : Int) := by omega
  have hm0 : ¬ (m : Int) = 0 := by omega
  have hm1 : ((m : Int) == 0) = false := by simp; omega
  have hd1 : decide (256 < (l.length : Int)) = false := by simp; omega
  have hd2 : decide ((m : Int) < 0) = false := by simp
  have hd3 : decide (l.length < m) = false := by simp; omega
  have HF := Lib.hid hF
  have HFL := Lib.hid hFl
  have HR := Lib.hid hr
  have H0 : Hid (0 < m ∧ m ≤ l.length ∧ l.length < 40 ∧ l.length ≤ c) := Lib.hid ⟨h0, hm, hl, hc⟩
  clear hF hFl hr h0 hm hl hc
  go_enter Tryz.func53, Tryz.ntmps53
  go_wp2
  go_loopg [0, 1, 6, 7] l.length (fun g s0 s1 s6 s7 wr => ∃ (r : List (Nat × Nat)) (A' : Option Addr) (c' k : Nat) (acc : List (Nat × Nat)) (b : Bool), s0 = .slice A' r.length c' ∧ s1 = .int .i64 k ∧ s7 = .bool b ∧ 0 < k ∧ k ≤ r.length ∧ r.length ≤ g ∧ r.length < 40 ∧ r.length ≤ c' ∧ Reads wr w.heap.size 2 A' r.length (sumV r) ∧
    growG prS zS b r k ++ acc.reverse = F ∧ acc.length ≤ 60 ∧ wr.ownsRow w.heap.size 34 2 s6 acc.length (sumV acc) ∧ Ext w wr)
  case atStart =>
    have hH := H0.out
    exact ⟨l, A, c, m, [], true, rfl, rfl, rfl, hH.1, hH.2.1, Nat.le_refl _, hH.2.2.1, hH.2.2.2, HR.out, by simp [HF.out], by simp, ⟨by simp [sumV], .inl ⟨rfl, rfl⟩⟩, Ext.refl w⟩
  case round =>
    obtain ⟨r, A', c', k, acc, b, rfl, rfl, rfl, hk0, hkr, hrg, hr4, hrc, hrr, hG, hal, ho, hx⟩ := hrel
    have hrI : (r.length : Int) ≤ 60 := by omega
    have hrcI : (r.length : Int) ≤ (c' : Int) := by omega
    have hkI : (k : Int) ≤ (r.length : Int) := by omega
    by_cases hend : k = r.length
    · subst hend
      cases b with
      | true =>
        have hF2 : acc.reverse = F := by rw [growG_end, if_pos rfl, List.nil_append] at hG; exact hG
        have cV := revS_own acc (by omega) w.heap.size u6 wr ho
        have HF2 := Lib.hid hF2
        have HX := Lib.hid hx
        have HO := Lib.hid ho
        clear hk0 hkr hrg hr4 hrc hrr hG hal ho hx
        go_wp2_with (go_at_call 132; refine cV.mono ?_; clear cV; rintro e w1 ⟨rfl, o1, g1⟩; have X1 := Lib.hid (ext_grown HX.out HO.out g1); have hol := o1; obtain ⟨A1, c1, hv1, hc1, hr1⟩ := own_slice2 o1)
        go_ret2
        have hFl2 : acc.length = F.length := by rw [← List.length_reverse, HF2.out]
        rw [HF2.out] at hr1
        rw [hFl2] at hc1 hr1
        exact ⟨A1, c1, by rw [← hFl2]; rfl, hc1, hr1, X1.out⟩
      | false =>
        have hF2 : (acc ++ [rootF prS zS r]).reverse = F := by rw [growG_end, if_neg (by decide)] at hG; rw [List.reverse_append]; exact hG
        have cRt := Root_any r (by omega) A' c' hrc wr (hrr.more hx.size)
        obtain ⟨R, hR⟩ : ∃ R, rootF prS zS r = R := ⟨_, rfl⟩
        rw [hR] at cRt hF2
        have cV := fun v W (ho : W.ownsRow w.heap.size 34 2 v (acc ++ [R]).length (sumV (acc ++ [R]))) => revS_own (acc ++ [R]) (by simp; omega) w.heap.size v W ho
        have HF2 := Lib.hid hF2
        have HX := Lib.hid hx
        have HO := Lib.hid ho
        have HAL := Lib.hid hal
        clear hk0 hkr hrg hr4 hrc hrr hG ho hx hR hal
        go_wp2_with (first
          | (go_at_call 15; refine cRt.mono ?_; clear cRt; rintro e w4 ⟨rfl, x4⟩; have O4 := own_ext HO.out x4; have X4 := HX.out.trans x4)
          | (at_builtin; refine wpList_append_own _ rfl (.tmp 30) (.tmp 33) 42 rfl w.heap.size 34 i0 (.agg #[.int .u64 0, .int .u64 0]) 2 16 Tryz.underlying42 hi hz0 hz1 hz2 rfl (by decide) _ _ _ rfl (O4.alloc _) ⟨w4.heap.size, 0, none⟩ 1 1 [.int .u64 (R.1 : Int), .int .u64 (R.2 : Int)] rfl rfl (cell_two_new _ _ _ _) (by simp [Value.oneCell']) (by have := HAL.out; simp only [maxLen]; omega) (by have := HAL.out; omega) (by have := X4.size; simp; omega) ?_; intro v5 w5 hown5 hg5 _)
          | (go_at_call 132; have O5 : w5.ownsRow w.heap.size 34 2 v5 (acc ++ [R]).length (sumV (acc ++ [R])) := (by rw [List.length_append, sumV_append]; exact hown5); have X5 := ext_grown (X4.alloc _) (O4.alloc _) hg5; refine (cV _ _ O5).mono ?_; clear cV; rintro e w1 ⟨rfl, o1, g1⟩; have X1 := Lib.hid (ext_grown X5 O5 g1); obtain ⟨A1, c1, hv1, hc1, hr1⟩ := own_slice2 o1))
        go_ret2
        have hFl2 : (acc ++ [R]).length = F.length := by rw [← List.length_reverse, HF2.out]
        have hFl3 : acc.length + 1 = F.length := by rw [← hFl2]; simp
        rw [HF2.out] at hr1
        rw [hFl2] at hc1 hr1
        exact ⟨A1, c1, by rw [← hFl3]; rfl, hc1, hr1, X1.out⟩
    · have h2 : k < r.length ∧ 2 ≤ r.length := ⟨by omega, by omega⟩
      have hK1 := halfF_lt h2.2
      have hK2 := halfF_pos r.length
      have cH := fun W => half_any r.length h2.2 (by omega) W
      have hne : ¬ (k : Int) = (r.length : Int) := by omega
      have hne2 : ((k : Int) == (r.length : Int)) = false := by simp; omega
      obtain ⟨K, hK⟩ : ∃ K, halfF r.length = K := ⟨_, rfl⟩
      have hcut := hrr.cut (k := K) (cap := c') (by omega) hrc
      rw [if_neg (show ¬ c' = K by omega), sumV_drop] at hcut
      have htk := reads_take hrr (k := K) (by omega)
      rw [sumV_take] at htk
      have hdl : (r.drop K).length = r.length - K := List.length_drop
      have htl : (r.take K).length = K := by rw [List.length_take]; omega
      have hKI : (K : Int) ≤ (r.length : Int) := by omega
      have hKcI : (K : Int) ≤ (c' : Int) := by omega
      have hcK : ¬ c' = K := by omega
      by_cases hle : k ≤ K
      · have hG2 := hG
        rw [growG_left h2 (by rw [hK]; exact hle), hK, List.append_assoc] at hG2
        have cRt := Root_any (r.drop K) (by omega) (A'.map (·.add (K * 2))) (c' - K) (by omega) wr (by rw [hdl]; exact hcut.more hx.size)
        obtain ⟨R, hR⟩ : ∃ R, rootF prS zS (r.drop K) = R := ⟨_, rfl⟩
        rw [hR, hdl] at cRt
        rw [hR] at hG2
        rw [hK] at cH hK1 hK2
        have d1 : (k : Int) ≤ (K : Int) := by omega
        have HG2 : Hid (growG prS zS b (r.take K) k ++ (acc ++ [R]).reverse = F) := Lib.hid (by rw [List.reverse_append]; exact hG2)
        have HX := Lib.hid hx
        have HO := Lib.hid ho
        have HAL : Hid (acc.length ≤ 60) := Lib.hid hal
        have HT := Lib.hid htk
        have HN : Hid (K < gk ∧ K < 40 ∧ K ≤ c' ∧ 0 < k ∧ k ≤ K ∧ (r.take K).length = K ∧ (growG prS zS b (r.take K) k ++ (acc ++ [R]).reverse).length ≤ 60) := Lib.hid ⟨by omega, by omega, by omega, hk0, hle, htl, by rw [HG2.out]; exact HFL.out⟩
        clear hk0 hkr hrg hr4 hrc hrr hG hG2 hal ho hx hR hcut htk hdl htl hK hK1 hK2 h2 hle
        go_wp2_with (first
          | (go_at_call 133; refine (cH _).mono ?_; clear cH; rintro e w' ⟨rfl, rfl⟩)
          | (go_at_call 15; refine cRt.mono ?_; clear cRt; rintro e w4 ⟨rfl, x4⟩; have O4 := own_ext HO.out x4; have X4 := HX.out.trans x4)
          | (at_builtin; refine wpList_append_own _ rfl (.tmp 44) (.tmp 49) 42 rfl w.heap.size 34 i0 (.agg #[.int .u64 0, .int .u64 0]) 2 16 Tryz.underlying42 hi hz0 hz1 hz2 rfl (by decide) _ _ _ rfl (O4.alloc _) ⟨w4.heap.size, 0, none⟩ 1 1 [.int .u64 (R.1 : Int), .int .u64 (R.2 : Int)] rfl rfl (cell_two_new _ _ _ _) (by simp [Value.oneCell']) (by have := HAL.out; simp only [maxLen]; omega) (by have := HAL.out; omega) (by have := X4.size; simp; omega) ?_; intro v5 w5 hown5 hg5 _))
        have X5 := ext_grown (X4.alloc _) (O4.alloc _) hg5
        have X5x : Below w.heap.size wr w5 := (Below.mono (x4.alloc _).out HX.out.size).grown hg5 (by have := X4.size; simp; omega) (own_ge O4)
        have O5 : Hid (w5.ownsRow w.heap.size 34 2 v5 (acc ++ [R]).length (sumV (acc ++ [R]))) := Lib.hid (by rw [List.length_append, sumV_append]; exact hown5)
        clear hown5 hg5 O4 X4
        have hN := HN.out
        go_roundg K
        case measure => exact hN.1
        case rel => exact ⟨r.take K, A', c', k, acc ++ [R], b, by rw [hN.2.2.2.2.2.1], rfl, rfl, hN.2.2.2.1, by rw [hN.2.2.2.2.2.1]; exact hN.2.2.2.2.1, by rw [hN.2.2.2.2.2.1]; exact Nat.le_refl _, by rw [hN.2.2.2.2.2.1]; exact hN.2.1, by rw [hN.2.2.2.2.2.1]; exact hN.2.2.1, by rw [hN.2.2.2.2.2.1]; exact HT.out.below X5x, HG2.out, by have := hN.2.2.2.2.2.2; rw [List.length_append, List.length_reverse] at this; omega, O5.out, X5⟩
      · have hG2 := hG
        rw [growG_right h2 (by rw [hK]; exact hle), hK, List.append_assoc] at hG2
        have cRt := Root_any (r.take K) (by omega) A' c' (by omega) wr (by rw [htl]; exact htk.more hx.size)
        obtain ⟨R, hR⟩ : ∃ R, rootF prS zS (r.take K) = R := ⟨_, rfl⟩
        rw [hR, htl] at cRt
        rw [hR] at hG2
        rw [hK] at cH hK1 hK2
        have d1 : ¬ (k : Int) ≤ (K : Int) := by omega
        have hkK : (K : Int) ≤ (k : Int) := by omega
        have HG2 : Hid (growG prS zS false (r.drop K) (k - K) ++ (acc ++ [R]).reverse = F) := Lib.hid (by rw [List.reverse_append]; exact hG2)
        have HX := Lib.hid hx
        have HO := Lib.hid ho
        have HAL : Hid (acc.length ≤ 60) := Lib.hid hal
        have HT := Lib.hid hcut
        obtain ⟨D, hD⟩ : ∃ D, r.length - K = D := ⟨_, rfl⟩
        have HN : Hid (D < gk ∧ D < 40 ∧ D ≤ c' - K ∧ 0 < k - K ∧ k - K ≤ D ∧ (r.drop K).length = D ∧ (growG prS zS false (r.drop K) (k - K) ++ (acc ++ [R]).reverse).length ≤ 60) := Lib.hid ⟨by omega, by omega, by omega, by omega, by omega, by omega, by rw [HG2.out]; exact HFL.out⟩
        clear hk0 hkr hrg hr4 hrc hrr hG hG2 hal ho hx hR hcut htk hdl htl hK hK1 hK2 h2 hle
        go_wp2_with (first
          | (go_at_call 133; refine (cH _).mono ?_; clear cH; rintro e w' ⟨rfl, rfl⟩)
          | (go_at_call 15; refine cRt.mono ?_; clear cRt; rintro e w4 ⟨rfl, x4⟩; have O4 := own_ext HO.out x4; have X4 := HX.out.trans x4)
          | (at_builtin; refine wpList_append_own _ rfl (.tmp 54) (.tmp 59) 42 rfl w.heap.size 34 i0 (.agg #[.int .u64 0, .int .u64 0]) 2 16 Tryz.underlying42 hi hz0 hz1 hz2 rfl (by decide) _ _ _ rfl (O4.alloc _) ⟨w4.heap.size, 0, none⟩ 1 1 [.int .u64 (R.1 : Int), .int .u64 (R.2 : Int)] rfl rfl (cell_two_new _ _ _ _) (by simp [Value.oneCell']) (by have := HAL.out; simp only [maxLen]; omega) (by have := HAL.out; omega) (by have := X4.size; simp; omega) ?_; intro v5 w5 hown5 hg5 _))
        have X5 := ext_grown (X4.alloc _) (O4.alloc _) hg5
        have X5x : Below w.heap.size wr w5 := (Below.mono (x4.alloc _).out HX.out.size).grown hg5 (by have := X4.size; simp; omega) (own_ge O4)
        have O5 : Hid (w5.ownsRow w.heap.size 34 2 v5 (acc ++ [R]).length (sumV (acc ++ [R]))) := Lib.hid (by rw [List.length_append, sumV_append]; exact hown5)
        have hT := HT.out
        rw [hD] at hT
        clear hown5 hg5 O4 X4
        have hN := HN.out
        go_roundg D
        case measure => exact hN.1
        case rel => exact ⟨r.drop K, _, c' - K, k - K, acc ++ [R], false, by rw [hN.2.2.2.2.2.1], by first | rfl | exact int_congr (by omega), rfl, hN.2.2.2.1, by rw [hN.2.2.2.2.2.1]; exact hN.2.2.2.2.1, by rw [hN.2.2.2.2.2.1]; exact Nat.le_refl _, by rw [hN.2.2.2.2.2.1]; exact hN.2.1, by rw [hN.2.2.2.2.2.1]; exact hN.2.2.1, by rw [hN.2.2.2.2.2.1]; exact hT.below X5x, HG2.out, by have := hN.2.2.2.2.2.2; rw [List.length_append, List.length_reverse] at this; omega, O5.out, X5⟩
end Go.Proofs.YtfpmfegmehbfbaaGreatDoor
