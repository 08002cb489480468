/- Parts of the proofs, put together: ShLaw5. -/
import Derived.Test.YtaibpldolbemfaaH17
/- Statements of shares, walked: ShareOnes. -/
namespace Go.Proofs.Ytaibpldolbemfaa
set_option linter.unusedVariables false
open Go.RowKit Go.Shelf Go.Maps
attribute [local irreducible] atN prodN sumN wantN mix hSum hNum coefN evZ pubO pubE joinR wgtR chkN splitL wsum

theorem ones_take {ids : List Int} {j : Nat} {i : Int} (h : ids[j]? = some i) (x : Nat) : onesL (ids.take (j + 1)) x = onesL (ids.take j) x ++ [(i, x)] := by
  rw [List.take_add_one, h]; simp [onesL]

set_option maxRecDepth 100000 in
set_option maxHeartbeats 4000000 in
theorem walk_ShareOnes (A : Option Addr) (c : Nat) (ids : List Int) (x : Nat) (hc : ids.length ≤ c) (hcr : c * 8 ≤ 140737488351232) (hwi : ∀ i ∈ ids, (Lit.int .i64 i).wf = true) (hx : x < 18446744073709551616) (w : World) (hr : Reads w w.heap.size 1 A ids.length (iv ids)) :
    Calls Try.prog 11 #[.slice A ids.length c, .int .u64 x] w fun e w' => e = .returned (.bool true) ∧ Ext w w' := by
  have cl := fun W => live5_any W
  by_cases h : ids.length ≤ 10
  · have k1 : ¬ (10 : Int) < (ids.length : Int) := by omega
    obtain ⟨i1, hi1, hz3, hz4, hz5⟩ := info_parts Try.infoSh
    have cW := fun i (W : World) (xW : Ext w W) => Weight_any ids hwi i A c (by omega) W ((hr.below xW.out).more xW.size)
    have hr0 : Hid (Reads w w.heap.size 1 A ids.length (iv ids)) := Lib.hid hr
    have HWI := Lib.hid hwi
    have H10 := Lib.hid h
    clear hr hc hcr h hwi hx
    by_cases h0 : ids.length = 0
    · have cJ := fun A c (W : World) => Join_any [] (by unfold idsWf; decide) A c (by decide) W Reads.none_
      rw [joinR_none] at cJ
      simp only [List.length_nil] at cJ
      rw [h0] at *
      go_enter Try.func11, Try.ntmps11
      go_wp2_with (go_at_call 12; refine (cl _).mono ?_; clear cl; rintro e w1 ⟨rfl, x1⟩)
      have X1 := Lib.hid (x1.alloc (.cells #[] 43))
      go_loopg [5, 7] 0 (fun m s5 s7 wr => m = 0 ∧ s7 = .int .i64 0 ∧ s5 = .slice (some ⟨w1.heap.size, 0, none⟩) 0 0 ∧ Ext w wr)
      case atStart => exact ⟨rfl, rfl, rfl, X1.out⟩
      case round =>
        obtain ⟨-, rfl, rfl, hx⟩ := hrel
        go_wp2_with (go_at_call 18; refine (cJ _ _ _).mono ?_; clear cJ; rintro e w2 ⟨rfl, x2⟩)
        go_ret
        exact ⟨rfl, hx.trans x2⟩
    · have hp : 0 < ids.length := by omega
      have d0 : ((ids.length : Int) == 0) = false := by rw [beq_eq_false_iff_ne]; omega
      cases hri : rightB ids with
      | false =>
        obtain ⟨i, hs⟩ : ∃ i, ids[0]? = some i := ⟨_, List.getElem?_eq_getElem hp⟩
        have cW1 := fun (W : World) (xW : Ext w W) => cW i W xW
        rw [wgt_bad hri i] at cW1
        have hw' : idsWf [(i, x)] := by
          intro q hq
          simp at hq
          subst hq
          exact HWI.out _ (List.mem_of_getElem? hs)
        have cJ := fun A c (W : World) hq => Join_any [(i, x)] hw' A c (by simp) W hq
        have hl1 : ∀ (h : 1 < ids.length), (1 : Int) < (ids.length : Int) := fun h => by omega
        have hpI : (0 : Int) < (ids.length : Int) := by omega
        have hof := ones_first hri hs x
        have HS := Lib.hid hs
        have h10 : (ids.length : Int) ≤ 10 := by have := H10.out; omega
        simp only [List.length_cons, List.length_nil, Nat.zero_add] at cJ
        clear cW hs hp hw' h0
        go_enter Try.func11, Try.ntmps11
        go_wp2_with (go_at_call 12; refine (cl _).mono ?_; clear cl; rintro e w1 ⟨rfl, x1⟩)
        have X1 := Lib.hid (x1.alloc (.cells #[] 43))
        have O1 := Lib.hid (own_empty w1 w.heap.size w1.heap.size rfl x1.size 43 2)
        clear x1
        go_loopg [5, 7] 0 (fun m s5 s7 wr => m = 0 ∧ s7 = .int .i64 0 ∧ wr.ownsRow w.heap.size 43 2 s5 0 [] ∧ Ext w wr)
        case atStart => exact ⟨rfl, rfl, O1.out, X1.out⟩
        case round =>
          obtain ⟨-, rfl, hown, hx⟩ := hrel
          obtain ⟨ad, rfl, q0⟩ := reads_id (hr0.out.below hx.out) HS.out
          rw [add_zero'] at q0
          have HX := Lib.hid hx
          rcases hof with hof | ⟨hg1, hof⟩
          · rw [hof] at cJ
            clear hx hof hl1
            go_wp2_with (first
              | (at_builtin; refine wpList_append_own _ rfl (.tmp 26) (.tmp 33) 24 rfl w.heap.size 43 i1 (.agg #[.int .i64 0, .int .u64 0]) 2 16 Try.underlying24 hi1 hz3 hz4 hz5 rfl (by decide) _ _ _ rfl (hown.alloc _) ⟨wr.heap.size, 0, none⟩ 1 1 [.int .i64 i, .int .u64 (x : Int)] rfl rfl (cell_two_new _ _ _ _) (by simp [Value.oneCell']) (by simp only [maxLen]; omega) (by omega) (by have := HX.out.size; simp; omega) ?_; intro v4 w4 hown4 hg4 _; have X4 := Lib.hid (ext_grown (HX.out.alloc _) (hown.alloc _) hg4); obtain ⟨A4, c4, rfl, -, r4⟩ := own_slice2 hown4; obtain ⟨ad', e', q4⟩ := reads_id (hr0.out.below X4.out.out) HS.out; cases e'; rw [add_zero'] at q4)
              | (go_at_call 20; refine (cW1 _ X4.out).mono ?_; clear cW1; rintro e w5 ⟨rfl, x5⟩; have X5 := Lib.hid (X4.out.trans x5); have r5 := (r4.below x5.out).more x5.size)
              | (go_at_call 18; refine (cJ _ _ _ r5).mono ?_; clear cJ; rintro e w6 ⟨rfl, x6⟩))
            go_ret
            exact ⟨rfl, X5.out.trans x6⟩
          · rw [hof] at cJ
            have hg2 := hl1 hg1
            clear hx hof hl1 hg1
            go_wp2_with (first
              | (at_builtin; refine wpList_append_own _ rfl (.tmp 26) (.tmp 33) 24 rfl w.heap.size 43 i1 (.agg #[.int .i64 0, .int .u64 0]) 2 16 Try.underlying24 hi1 hz3 hz4 hz5 rfl (by decide) _ _ _ rfl (hown.alloc _) ⟨wr.heap.size, 0, none⟩ 1 1 [.int .i64 i, .int .u64 (x : Int)] rfl rfl (cell_two_new _ _ _ _) (by simp [Value.oneCell']) (by simp only [maxLen]; omega) (by omega) (by have := HX.out.size; simp; omega) ?_; intro v4 w4 hown4 hg4 _; have X4 := Lib.hid (ext_grown (HX.out.alloc _) (hown.alloc _) hg4); obtain ⟨A4, c4, rfl, -, r4⟩ := own_slice2 hown4; obtain ⟨ad', e', q4⟩ := reads_id (hr0.out.below X4.out.out) HS.out; cases e'; rw [add_zero'] at q4)
              | (go_at_call 20; refine (cW1 _ X4.out).mono ?_; clear cW1; rintro e w5 ⟨rfl, x5⟩; have X5 := Lib.hid (X4.out.trans x5); have r5 := (r4.below x5.out).more x5.size)
              | (go_at_call 18; refine (cJ _ _ _ r5).mono ?_; clear cJ; rintro e w6 ⟨rfl, x6⟩))
            go_ret
            exact ⟨rfl, X5.out.trans x6⟩
      | true =>
        have h7 := ((rightB_iff ids).1 hri).2.2
        have hws := wsum_all hri
        have hwo : ∀ i ∈ ids, wgtR ids i = .tuple #[.int .u64 (atN ids i 0 : Nat), .int .i64 0] := fun i hi => wgt_ok hri hi
        have hw' : idsWf (onesL ids x) := by
          intro q hq
          rw [show (onesL ids x).map (fun s : Int × Nat => s.1) = ids from ones_ids ids x] at hq
          exact HWI.out q hq
        have cJ := fun A c (W : World) hq => Join_any (onesL ids x) hw' A c (by rw [ones_length]; omega) W hq
        rw [ones_length] at cJ
        have hj1 : x < bR → joinR (onesL ids x) = .tuple #[.int .u64 (x : Int), .int .i64 0] := fun h => ones_join hri h
        have hj2 : bR ≤ x → joinR (onesL ids x) = .tuple #[.int .u64 0, .int .i64 1] := fun h => ones_high hp h
        have HWS := Lib.hid hws
        have HWO := Lib.hid hwo
        have H7 := Lib.hid h7
        clear hri hws hwo h7 hw' hp h0
        go_enter Try.func11, Try.ntmps11
        go_wp2_with (go_at_call 12; refine (cl _).mono ?_; clear cl; rintro e w1 ⟨rfl, x1⟩)
        have X1 := Lib.hid (x1.alloc (.cells #[] 43))
        have O1 := Lib.hid (own_empty w1 w.heap.size w1.heap.size rfl x1.size 43 2)
        clear x1
        go_loopg [5, 6, 7] ids.length (fun m s5 s6 s7 wr => ∃ j : Nat, j + m = ids.length ∧ s7 = .int .i64 j ∧ s6 = .int .u64 (wsum ids j : Nat) ∧ wr.ownsRow w.heap.size 43 2 s5 j (sv (onesL (ids.take j) x)) ∧ Ext w wr)
        case atStart => exact ⟨0, by omega, rfl, by unfold wsum sumN; rfl, O1.out, X1.out⟩
        case round =>
          obtain ⟨j, hj, rfl, rfl, hown, hx⟩ := hrel
          by_cases h : j < ids.length
          · obtain ⟨i, hs⟩ : ∃ s, ids[j]? = some s := ⟨_, List.getElem?_eq_getElem h⟩
            obtain ⟨ad, rfl, q0⟩ := reads_id (hr0.out.below hx.out) hs
            have hjb : (j : Int) ≤ 7 := by have := H7.out; omega
            have cW1 := fun (W : World) (xW : Ext w W) => cW i W xW
            rw [HWO.out i (List.mem_of_getElem? hs)] at cW1
            have e1 := ones_take hs x
            have e2 := wsum_succ hs
            have cA := fun W => AddRE (wsum ids j) (atN ids i 0) W
            rw [e2] at cA
            obtain ⟨v, hv⟩ : ∃ v, v = atN ids i 0 := ⟨_, rfl⟩
            obtain ⟨u, hu⟩ : ∃ v, v = wsum ids j := ⟨_, rfl⟩
            obtain ⟨u', hu'⟩ : ∃ v, v = wsum ids (j + 1) := ⟨_, rfl⟩
            rw [← hv] at cW1 cA
            rw [← hu] at cA ⊢
            rw [← hu'] at cA
            have HS := Lib.hid hs
            have HE := Lib.hid e1
            have HU := Lib.hid hu'
            have HX := Lib.hid hx
            have HJ := Lib.hid hj
            clear hx hj hs e1 e2 hv hu hu' cW cJ hj1 hj2
            go_wp2_with (first
              | (at_builtin; refine wpList_append_own _ rfl (.tmp 26) (.tmp 33) 24 rfl w.heap.size 43 i1 (.agg #[.int .i64 0, .int .u64 0]) 2 16 Try.underlying24 hi1 hz3 hz4 hz5 rfl (by decide) _ _ _ rfl (hown.alloc _) ⟨wr.heap.size, 0, none⟩ 1 1 [.int .i64 i, .int .u64 (x : Int)] rfl rfl (cell_two_new _ _ _ _) (by simp [Value.oneCell']) (by simp only [maxLen]; omega) (by omega) (by have := HX.out.size; simp; omega) ?_; intro v4 w4 hown4 hg4 _; have X4 := Lib.hid (ext_grown (HX.out.alloc _) (hown.alloc _) hg4); have O4 := Lib.hid hown4; obtain ⟨ad', e', q4⟩ := reads_id (hr0.out.below X4.out.out) HS.out; cases e')
              | (go_at_call 20; refine (cW1 _ X4.out).mono ?_; clear cW1; rintro e w5 ⟨rfl, x5⟩; have X5 := Lib.hid (X4.out.trans x5); have O5 := Lib.hid (own_ext O4.out x5))
              | (go_at_call 27; refine (cA _).mono ?_; clear cA; rintro e w6 ⟨rfl, x6⟩; have X6 := Lib.hid (X5.out.trans x6); have O6 := Lib.hid (own_ext O5.out x6)))
            have hj := HJ.out
            have O7 : Hid (w6.ownsRow w.heap.size 43 2 v4 (j + 1) (sv (onesL (ids.take (j + 1)) x))) := by
              show World.ownsRow _ _ _ _ _ _ _
              rw [HE.out, sv_append]
              exact O6.out
            clear hown4 hg4 hown
            go_roundg (gk - 1)
            case measure => omega
            case rel => exact ⟨j + 1, by omega, int_congr (by omega), by rw [HU.out], O7.out, X6.out⟩
          · obtain rfl : j = ids.length := by omega
            rw [List.take_length] at hown
            obtain ⟨A', c', rfl, hc', hr'⟩ := own_slice2 hown
            have hq := HWS.out
            rw [hq]
            have HX := Lib.hid hx
            have HR := Lib.hid hr'
            by_cases hxb : x < bR
            · rw [hj1 hxb] at cJ
              have z1 : decide ((1152921504606845789 : Int) ≤ (x : Int)) = false := dec_nge (by unfold bR at hxb; omega)
              clear hx hj hown hr' hq hj1 hj2 hxb cW
              go_wp2_with (go_at_call 18; refine (cJ _ _ _ HR.out).mono ?_; clear cJ; rintro e w6 ⟨rfl, x6⟩)
              go_ret
              exact ⟨rfl, HX.out.trans x6⟩
            · rw [hj2 (by omega)] at cJ
              have z1 : decide ((x : Int) ≥ 1152921504606845789) = true := dec_ge (by unfold bR at hxb; omega)
              have z2 : (1152921504606845789 : Int) ≤ (x : Int) := by unfold bR at hxb; omega
              clear hx hj hown hr' hq hj1 hj2 hxb cW
              go_wp2_with (go_at_call 18; refine (cJ _ _ _ HR.out).mono ?_; clear cJ; rintro e w6 ⟨rfl, x6⟩)
              go_ret
              exact ⟨rfl, HX.out.trans x6⟩
  · have k1 : (10 : Int) < (ids.length : Int) := by omega
    clear hr hc hcr h hwi hx
    go_enter Try.func11, Try.ntmps11
    go_wp2_with (go_at_call 12; refine (cl _).mono ?_; clear cl; rintro e w1 ⟨rfl, x1⟩)
    go_ret
    exact ⟨rfl, x1⟩
end Go.Proofs.Ytaibpldolbemfaa
