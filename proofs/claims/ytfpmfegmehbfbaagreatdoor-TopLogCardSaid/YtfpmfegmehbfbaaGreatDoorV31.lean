/- Parts of the proofs, put together: Mk4, Mk7, Mk8. -/
import Derived.Test.YtfpmfegmehbfbaaGreatDoorV26
import Derived.Test.YtfpmfegmehbfbaaGreatDoorV27
import Derived.Test.YtfpmfegmehbfbaaGreatDoorV30
/- Trees of hashes, walked: the whole trees that leaves make; a root, of any leaves. -/
namespace Go.Proofs.YtfpmfegmehbfbaaGreatDoor
set_option linter.unusedVariables false
set_option linter.unusedSimpArgs false
set_option linter.unusedSimpArgs false
open Go.RowKit Go.Shelf Go.Maps
attribute [local go_sem] Oper.semAt_some

theorem reads_take {w : World} {B size n : Nat} {A : Option Addr} {xs : List Value} (h : Reads w B size A n xs) {k : Nat} (hk : k ≤ n) : Reads w B size A k (xs.take (k * size)) := by
  refine ⟨by rw [List.length_take, h.1]; exact Nat.min_eq_left (Nat.mul_le_mul_right _ hk), fun h0 => ?_⟩
  obtain ⟨ad, e, hb, hc⟩ := h.2 (by omega)
  refine ⟨ad, e, hb, fun j u hu => hc j u ?_⟩
  rw [List.getElem?_take] at hu
  split at hu
  · exact hu
  · cases hu
theorem sumV_take (l : List (Nat × Nat)) (k : Nat) : (sumV l).take (k * 2) = sumV (l.take k) := by
  induction l generalizing k with
  | nil => simp [sumV]
  | cons a l ih =>
    cases k with
    | zero => simp [sumV]
    | succ k =>
      have e : sumV (a :: l) = .int .u64 (a.1 : Int) :: .int .u64 (a.2 : Int) :: sumV l := rfl
      rw [e, show (k + 1) * 2 = k * 2 + 1 + 1 by omega, List.take_succ_cons, List.take_succ_cons, ih]; rfl
theorem sumV_drop (l : List (Nat × Nat)) (k : Nat) : (sumV l).drop (k * 2) = sumV (l.drop k) := by
  induction l generalizing k with
  | nil => simp [sumV]
  | cons a l ih =>
    cases k with
    | zero => simp [sumV]
    | succ k =>
      have e : sumV (a :: l) = .int .u64 (a.1 : Int) :: .int .u64 (a.2 : Int) :: sumV l := rfl
      rw [e, show (k + 1) * 2 = k * 2 + 1 + 1 by omega, List.drop_succ_cons, List.drop_succ_cons, ih]; rfl
def toP (p : Nat × Nat × Nat) : Int × Nat × Nat := ((p.1 : Int), p.2.1, p.2.2)
def pcs (l : List (Nat × Nat)) : List (Int × Nat × Nat) := (pieceF prS zS l).map toP
theorem pcs_nil : pcs [] = [] := by unfold pcs; rw [pieceF, if_neg (by simp)]; rfl
theorem pcs_cons {l : List (Nat × Nat)} (h : 0 < l.length) : pcs l = (((topF l.length : Nat) : Int), (rootF prS zS (l.take (topF l.length))).1, (rootF prS zS (l.take (topF l.length))).2) :: pcs (l.drop (topF l.length)) := by
  unfold pcs; rw [pieceF, if_pos h]; rfl
theorem pcs_len : ∀ (N : Nat) (l : List (Nat × Nat)), l.length ≤ N → (pcs l).length ≤ l.length
  | 0, l, h => by rw [List.length_eq_zero_iff.1 (Nat.le_zero.1 h), pcs_nil]; simp
  | N + 1, l, h => by
    by_cases h0 : 0 < l.length
    · have := topF_pos h0
      have h2 := pcs_len N (l.drop (topF l.length)) (by rw [List.length_drop]; omega)
      rw [pcs_cons h0, List.length_cons]
      rw [List.length_drop] at h2
      have := topF_le l.length
      omega
    · rw [List.length_eq_zero_iff.1 (show l.length = 0 by omega), pcs_nil]; simp
/-- A row on the way: what is done, what is still to be done. -/
def midF (r : List (Nat × Nat)) (i : Nat) : List (Nat × Nat) := (rowF prS r).take i ++ r.drop i
theorem mid_at {r : List (Nat × Nat)} {i k : Nat} (h : i ≤ r.length / 2) (hk : i ≤ k) : (midF r i)[k]? = r[k]? := by
  unfold midF
  rw [List.getElem?_append_right (by rw [List.length_take, row_len]; omega), List.length_take, row_len, Nat.min_eq_left h, List.getElem?_drop]
  congr 1; omega
theorem mid_zero (r : List (Nat × Nat)) : midF r 0 = r := by simp [midF]
theorem mid_set {r : List (Nat × Nat)} {i : Nat} {a b : Nat × Nat} (h : i < r.length / 2) (h1 : r[2 * i]? = some a) (h2 : r[2 * i + 1]? = some b) : (midF r i).set i (prS a b) = midF r (i + 1) := by
  have hl : i < (rowF prS r).length := by rw [row_len]; exact h
  unfold midF
  have e1 : (rowF prS r).take (i + 1) = (rowF prS r).take i ++ [prS a b] := take_snoc (row_at prS h1 h2)
  have e2 : r.drop i = r[i]'(by omega) :: r.drop (i + 1) := List.drop_eq_getElem_cons (by omega)
  rw [e1, List.set_append_right _ _ (by rw [List.length_take]; omega)]
  simp [Nat.min_eq_left (Nat.le_of_lt hl)]
  rw [e2]; rfl
theorem mid_done {r : List (Nat × Nat)} : (midF r (r.length / 2)).take (r.length / 2) = rowF prS r := by
  unfold midF
  rw [List.take_of_length_le (l := rowF prS r) (by rw [row_len]; omega), List.take_left' (row_len prS r)]

set_option maxRecDepth 100000 in
set_option maxHeartbeats 8000000 in
theorem parts_in (n : Nat) (hn : 1 ≤ n) (l bs B : Nat) (hs : bs < B) (S0 : List (Nat × Nat)) (hS : S0.length < 64) (A : Option Addr) (c : Nat) (J Jx : List (Int × Nat × Nat) → World → Prop) (hJ : AbB bs J)
    (hY : ∀ pre x X, (∃ suf, pcs S0 = pre ++ x :: suf) → J pre X → YieldAt Fence.wide (n - 1) Tryz.prog l #[.agg #[.int .i64 x.1, .int .u64 (x.2.1 : Int), .int .u64 (x.2.2 : Int)]] X fun e Y => (e = .returned (.bool true) ∧ J (pre ++ [x]) Y ∧ Below B X Y) ∨ (e = .returned (.bool false) ∧ Jx (pre ++ [x]) Y))
    (W : World) (hBW : B ≤ W.heap.size) (hb : Boxed W bs 42 (.slice A S0.length c)) (hc : S0.length ≤ c) (hr : Reads W bs 2 A S0.length (sumV S0)) (h0 : J [] W) :
    CallsIn Fence.wide n Tryz.prog 140 #[.func (.yield l) #[] #[], .pointer (some ⟨bs, 0, none⟩)] W fun e Y => (∃ v, e = .returned v) ∧
      ((∃ xs : List (Int × Nat × Nat), xs = pcs S0 ∧ J xs Y) ∨ (∃ pre : List (Int × Nat × Nat), True ∧ Jx pre Y)) := by
  refine callsIn_wide.2 ?_
  have HY := Lib.hid hY
  have HJ := Lib.hid hJ
  have HS0 := Lib.hid hS
  have HB := Lib.hid hb
  have HC := Lib.hid hc
  have HR := Lib.hid hr
  have H0 := Lib.hid h0
  have HBW := Lib.hid hBW
  clear hY hJ hS hb hc hr h0 hBW
  go_enter Tryz.func140, Tryz.ntmps140
  go_wp2
  go_loopg [] S0.length (fun m wr => ∃ (pre : List (Int × Nat × Nat)) (rest : List (Nat × Nat)) (A' : Option Addr) (c' : Nat), pcs S0 = pre ++ pcs rest ∧ rest.length ≤ m ∧ rest.length < 64 ∧ rest.length ≤ c' ∧ Boxed wr bs 42 (.slice A' rest.length c') ∧ Reads wr bs 2 A' rest.length (sumV rest) ∧ J pre wr ∧ B ≤ wr.heap.size)
  case atStart => exact ⟨[], S0, A, c, rfl, Nat.le_refl _, HS0.out, HC.out, HB.out, HR.out, H0.out, HBW.out⟩
  case round =>
    obtain ⟨pre, rest, A', c', hp, hm, h64, hc', hb, hr, hj, hB⟩ := hrel
    have m0 := hb.cell
    by_cases h : 0 < rest.length
    · obtain ⟨k, hk⟩ : ∃ k, rest.length = k := ⟨_, rfl⟩
      rw [hk] at h h64 hc' hm hb hr m0
      have tb := top_bits k h64 h
      obtain ⟨p1, p2⟩ := bitLen_pos k h64 h
      have cL := fun w => Tryz.bits_Len k w (by omega) (by omega)
      obtain ⟨L, hL⟩ : ∃ L, Go.Lib.bitLen k = L + 1 := ⟨Go.Lib.bitLen k - 1, by omega⟩
      have cL' : ∀ w, Calls Tryz.prog 134 #[.int .u64 (k : Int)] w fun e w' => e = .returned (.int .i64 ((L : Int) + 1)) ∧ w = w' := fun w => (cL w).mono fun e w' ⟨he, hw⟩ => ⟨by rw [he]; simp [hL], hw.symm⟩
      rw [hL, Nat.add_sub_cancel] at tb
      have hkb : (k : Int) < 64 := by omega
      have hLb : (L : Int) ≤ 6 := by omega
      obtain ⟨q, hq⟩ : ∃ q, 2 ^ L = q := ⟨_, rfl⟩
      have hq' : (2 : Int) ^ L = (q : Int) := by rw [← hq]; push_cast; rfl
      have tq : topF k = q := by rw [tb, hq]
      have hqk : q ≤ k := by rw [← tq]; exact topF_le k
      have hq0 : 0 < q := by rw [← hq]; exact Nat.two_pow_pos L
      have hqkI : (q : Int) ≤ (k : Int) := by omega
      have hqcI : (q : Int) ≤ (c' : Int) := by omega
      have hkcI : (k : Int) ≤ (c' : Int) := by omega
      have hq64 : (q : Int) ≤ 64 := by omega
      have hlt : (rest.take q).length = q := by rw [List.length_take]; omega
      have hrt : Reads wr wr.heap.size 2 A' q (sumV (rest.take q)) := by
        have := (reads_take hr hqk).more (Nat.le_trans (Nat.le_of_lt hs) hB)
        rwa [sumV_take] at this
      have cC := cloneS_any A' q c' (sumV (rest.take q)) (sumV_one _) (by omega) wr hrt
      have ep : pcs rest = (((q : Nat) : Int), (rootF prS zS (rest.take q)).1, (rootF prS zS (rest.take q)).2) :: pcs (rest.drop q) := by rw [pcs_cons (by omega), hk, tq]
      rw [ep] at hp
      obtain ⟨G, hG⟩ : ∃ G, k - q = G := ⟨_, rfl⟩
      have HG : Hid (G < gk ∧ (rest.drop q).length = G ∧ G + q = k ∧ k < 64) := Lib.hid ⟨by omega, by rw [List.length_drop]; omega, by omega, h64⟩
      have HP := Lib.hid hp
      have HC2 := Lib.hid hc'
      have HB2 := Lib.hid hb
      have HR2 := Lib.hid hr
      have HJ2 := Lib.hid hj
      have HBB := Lib.hid hB
      have HQ : Hid (q = 2 ^ L ∧ L ≤ 6 ∧ q ≤ k ∧ 0 < q ∧ k ≤ c' ∧ (rest.take q).length = q) := Lib.hid ⟨hq.symm, by omega, hqk, hq0, hc', hlt⟩
      clear hp hc' hb hr hj hB hq tq hqk hq0 tb p1 p2 cL hL hm h64 hk hG ep hrt hlt
      go_upto_region 3 with (first
        | (go_at_call 134; refine (cL' _).mono ?_; clear cL'; rintro e w' ⟨rfl, rfl⟩)
        | (go_at_call 141; refine cC.mono ?_; clear cC; rintro e w2 ⟨v2, rfl, ho2, x2⟩; obtain ⟨g2, cap2, rfl, hg2, hgl⟩ := ho2.form HQ.out.2.2.2.1))
      have HO2 := Lib.hid ho2
      have HX2 := Lib.hid x2
      have HG2 := Lib.hid hg2
      have hcap2 := own_cap ho2
      obtain ⟨V1, hV1⟩ : ∃ V, V = wr := ⟨_, rfl⟩
      subst hV1
      clear m0 ho2 x2 hg2 hgl
      go_loopg [4] 7 (fun m s4 w3 => ∃ (r : List (Nat × Nat)) (d : Nat), s4 = .slice (some ⟨g2, 0, none⟩) r.length cap2 ∧ r.length = 2 ^ d ∧ d < m ∧ m ≤ 7 ∧ r.length ≤ cap2 ∧ w3.ownsRow V1.heap.size 34 2 (.slice (some ⟨g2, 0, none⟩) r.length cap2) r.length (sumV r) ∧ rootF prS zS r = rootF prS zS (rest.take q) ∧ Ext V1 w3)
      case atStart =>
        have hQ := HQ.out
        exact ⟨rest.take q, L, by rw [hQ.2.2.2.2.2], by rw [hQ.2.2.2.2.2]; exact hQ.1, by omega, by omega, by rw [hQ.2.2.2.2.2]; exact hcap2, by rw [hQ.2.2.2.2.2]; exact HO2.out, rfl, HX2.out⟩
      case round =>
        obtain ⟨r, d, rfl, hd, hdm, hm7, hrc, ho, hroot, hx⟩ := hrel
        have hr64 : r.length ≤ 64 := by
          have := Nat.pow_le_pow_right (n := 2) (by omega) (show d ≤ 6 by omega)
          have e : (2 : Nat) ^ 6 = 64 := by decide
          omega
        have hrI : (r.length : Int) ≤ 64 := by omega
        have hrcI : (r.length : Int) ≤ (cap2 : Int) := by omega
        cases d with
        | zero =>
          obtain ⟨x, rfl⟩ : ∃ x, r = [x] := by
            match r, hd with
            | [x], _ => exact ⟨x, rfl⟩
          have hxr : x = rootF prS zS (rest.take q) := by rw [← hroot, rootF]
          obtain ⟨q0, q1⟩ := revS_at ho (j := 0) (x := x) rfl
          have hJ3 := HJ.out _ _ _ none HJ2.out (grown_extN hx) (fun r e => by cases e)
          have hP := HP.out
          rw [← hxr] at hP
          have hT : ∃ suf, pcs S0 = pre ++ (((q : Nat) : Int), x.1, x.2) :: suf := ⟨_, hP⟩
          obtain ⟨fn, tmps, assign, body, hy, hR⟩ := HY.out pre (((q : Nat) : Int), x.1, x.2) wr hT hJ3
          have HX3 := Lib.hid hx
          have HP2 := Lib.hid hP
          dsimp only at hy
          simp only [List.length_cons, List.length_nil, Nat.zero_add] at hrI hrcI hrc ho
          have hc1 : (1 : Int) ≤ (cap2 : Int) := by omega
          clear hroot hxr ho hd hdm hm7 hx hJ3 hP hT hr64
          go_upto_region 10 with (fail)
          refine (wpIn_wide (n := n)).1 ?_
          gi_wp2
          refine hR.mono ?_
          clear hR
          rintro e Y (⟨rfl, hJ1, hb1⟩ | ⟨rfl, hJ1⟩)
          · have hbY : Boxed Y bs 42 (.slice A' k c') := Blk.below (ext_blk HX3.out HB2.out) hb1 hs
            have hrY : Reads Y bs 2 A' k (sumV rest) := (HR2.out.below (Below.mono HX3.out.out (Nat.le_trans (Nat.le_of_lt hs) HBB.out))).below (Below.mono hb1 (Nat.le_of_lt hs))
            have m3 := hbY.cell
            have f3 := hbY.frozen
            have HRY := Lib.hid hrY
            have HBY := Lib.hid hbY
            have HJ1 := Lib.hid hJ1
            have HSY : Hid (B ≤ Y.heap.size) := Lib.hid (Nat.le_trans (Nat.le_trans HBB.out HX3.out.size) hb1.size)
            clear hbY hrY hJ1 hb1
            by_cases hcq : c' = q
            · subst hcq
              gi_wp2
              go_wp2
              have hG := HG.out
              have hQ := HQ.out
              have hcut := HRY.out.cut (k := c') hQ.2.2.1 hQ.2.2.2.2.1
              rw [sumV_drop, if_pos rfl] at hcut
              have hkq : k - c' = (rest.drop c').length := by omega
              rw [hkq] at hcut ⊢
              have hb2 := Blk.set_ (show Blk _ _ _ _ from HBY.out) 0 (.slice A' (rest.drop c').length 0)
              have hr2 := hcut.setCell (p := ⟨bs, 0, none⟩) (Nat.le_refl _) (.slice A' (rest.drop c').length 0)
              have hj2 := HJ.out _ _ _ (some bs) HJ1.out (grownBy_setCell' _ bs (.slice A' (rest.drop c').length 0)) (fun r e => by cases e; rfl)
              go_roundg G
              case measure => exact hG.1
              case rel => exact ⟨pre ++ [(((c' : Nat) : Int), x.1, x.2)], rest.drop c', A', 0, by rw [HP2.out]; simp, by omega, by omega, by omega, hb2, hr2, hj2, by simp; exact HSY.out⟩
            · gi_wp2
              go_wp2
              have hG := HG.out
              have hQ := HQ.out
              have hcut := HRY.out.cut (k := q) hQ.2.2.1 hQ.2.2.2.2.1
              rw [sumV_drop, if_neg hcq] at hcut
              have hkq : k - q = (rest.drop q).length := by omega
              rw [hkq] at hcut ⊢
              have hb2 := Blk.set_ (show Blk _ _ _ _ from HBY.out) 0 (.slice (A'.map (·.add (q * 2))) (rest.drop q).length (c' - q))
              have hr2 := hcut.setCell (p := ⟨bs, 0, none⟩) (Nat.le_refl _) (.slice (A'.map (·.add (q * 2))) (rest.drop q).length (c' - q))
              have hj2 := HJ.out _ _ _ (some bs) HJ1.out (grownBy_setCell' _ bs (.slice (A'.map (·.add (q * 2))) (rest.drop q).length (c' - q))) (fun r e => by cases e; rfl)
              go_roundg G
              case measure => exact hG.1
              case rel => exact ⟨pre ++ [(((q : Nat) : Int), x.1, x.2)], rest.drop q, _, c' - q, by rw [HP2.out]; simp, by omega, by omega, by omega, hb2, hr2, hj2, by simp; exact HSY.out⟩
          · gi_wp2
            go_wp2
            refine bodyPost_ret (results_none rfl _ _ _) rfl ?_
            exact ⟨⟨_, rfl⟩, .inr ⟨_, trivial, hJ1⟩⟩
        | succ d =>
          obtain ⟨hf, hhf⟩ : ∃ hf, hf = r.length / 2 := ⟨_, rfl⟩
          have hf1 : hf = 2 ^ d := by rw [hhf, hd, Nat.pow_succ]; omega
          have hf2 : r.length = 2 * hf := by rw [hd, hf1, Nat.pow_succ]; omega
          have hf0 : 0 < hf := by rw [hf1]; exact Nat.two_pow_pos d
          have hd1 : ((r.length : Int)) / 2 = (hf : Int) := by omega
          have hd1' : (r.length : Int).tdiv 2 = (hf : Int) := by rw [Int.tdiv_eq_ediv_of_nonneg (by omega)]; exact hd1
          have hgt : (1 : Int) < (r.length : Int) := by omega
          have hfI : (hf : Int) ≤ 64 := by omega
          have hfcI : (hf : Int) ≤ (cap2 : Int) := by omega
          have hfrI : (hf : Int) ≤ (r.length : Int) := by omega
          have HD : Hid (hf = r.length / 2 ∧ r.length = 2 * hf ∧ hf = 2 ^ d ∧ r.length = 2 ^ (d + 1) ∧ d + 1 < gk ∧ gk ≤ 7) := Lib.hid ⟨hhf, hf2, hf1, hd, hdm, hm7⟩
          obtain ⟨G3, hG3⟩ : ∃ G3, G3 = gk - 1 := ⟨_, rfl⟩
          have HG3 : Hid (G3 < gk ∧ d < G3 ∧ G3 ≤ 7) := Lib.hid (by omega)
          have HO3 := Lib.hid ho
          have HX3 := Lib.hid hx
          have HRT := Lib.hid hroot
          obtain ⟨V2, hV2⟩ : ∃ V, V = wr := ⟨_, rfl⟩
          subst hV2
          clear hG3 hhf hf1 hf2 hd hdm hm7 ho hx hroot hd1 hr64
          go_wp2
          go_loopg [25] hf (fun m s25 w4 => ∃ i : Nat, i + m = hf ∧ s25 = .int .i64 i ∧ w4.ownsRow V1.heap.size 34 2 (.slice (some ⟨g2, 0, none⟩) r.length cap2) r.length (sumV (midF r i)) ∧ Ext V1 w4)
          case atStart => exact ⟨0, by omega, rfl, by rw [mid_zero]; exact HO3.out, HX3.out⟩
          case round =>
            obtain ⟨i, hi, rfl, ho, hx⟩ := hrel
            by_cases h : i < hf
            · have hD := HD.out
              obtain ⟨a, ha⟩ : ∃ s, r[2 * i]? = some s := ⟨_, List.getElem?_eq_getElem (by omega)⟩
              obtain ⟨b, hbb⟩ : ∃ s, r[2 * i + 1]? = some s := ⟨_, List.getElem?_eq_getElem (by omega)⟩
              obtain ⟨y, hy⟩ : ∃ s, r[i]? = some s := ⟨_, List.getElem?_eq_getElem (by omega)⟩
              obtain ⟨j1, hj1⟩ : ∃ j, j = 2 * i := ⟨_, rfl⟩
              obtain ⟨j2, hj2⟩ : ∃ j, j = 2 * i + 1 := ⟨_, rfl⟩
              have a1 : (midF r i)[j1]? = some a := by rw [hj1, mid_at (by omega) (by omega)]; exact ha
              have b1 : (midF r i)[j2]? = some b := by rw [hj2, mid_at (by omega) (by omega)]; exact hbb
              have y1 : (midF r i)[i]? = some y := by rw [mid_at (by omega) (by omega)]; exact hy
              have E1 : 2 * (i : Int) = (j1 : Int) := by omega
              have E2 : (j1 : Int) + 1 = (j2 : Int) := by omega
              have hj1r : (j1 : Int) < (r.length : Int) := by omega
              have hj2r : (j2 : Int) < (r.length : Int) := by omega
              have hir : (i : Int) < (r.length : Int) := by omega
              have hih : (i : Int) < (hf : Int) := by omega
              have hih2 : decide (i < hf) = true := by simpa using h
              have hi64 : (i : Int) ≤ 64 := by omega
              have hj64 : (j1 : Int) ≤ 64 ∧ (j2 : Int) ≤ 64 := by omega
              obtain ⟨hj641, hj642⟩ := hj64
              have hwj1 : IntKind.i64.wrap (j1 : Int) = (j1 : Int) := by rw [IntKind.wrap_i64]; omega
              have hwj2 : IntKind.i64.wrap (j2 : Int) = (j2 : Int) := by rw [IntKind.wrap_i64]; omega
              have HMS := Lib.hid (mid_set (r := r) (i := i) (by omega) ha hbb)
              have HII : Hid (i < hf ∧ i + gk = hf) := Lib.hid ⟨h, hi⟩
              have c0 := revS_at ho a1
              have c1 := revS_at ho b1
              have y2 := revS_at ho y1
              have hS7 := fun (V : World) (x : Ext wr V) => And.intro (x.cell c0.1) (And.intro (x.cell c0.2) (And.intro (x.cell c1.1) (x.cell c1.2)))
              have cP := fun W => prS_any a b W
              obtain ⟨p, hp⟩ : ∃ p, p = prS a b := ⟨_, rfl⟩
              rw [← hp] at cP
              have HPP := Lib.hid hp
              have HO4 := Lib.hid ho
              have HX4 := Lib.hid hx
              have HY1 := Lib.hid y1
              clear ho hx a1 b1 y1 ha hbb hy hj1 hj2 hD h hi c0 c1 y2 hp
              go_upto_region 7 with (fail)
              refine E_start (n := 16) (ls := #[false, false, false, false, false, false, false, false, false, false, false, false, false, false, false, false]) (fun W => W.cell? ⟨g2, j1 * 2, none⟩ = some (.int .u64 (a.1 : Int)) ∧ W.cell? ⟨g2, j1 * 2 + 1, none⟩ = some (.int .u64 (a.2 : Int)) ∧ W.cell? ⟨g2, j2 * 2, none⟩ = some (.int .u64 (b.1 : Int)) ∧ W.cell? ⟨g2, j2 * 2 + 1, none⟩ = some (.int .u64 (b.2 : Int))) 15 (by kernel_rfl) (by kernel_rfl) (by kernel_rfl) (hS7 _ (Ext.refl wr).drew) (fun hHeld => ?_)
              refine E_tk (i := 0) (some 28) (v := ?_) rfl rfl (by kernel_rfl) hHeld (fun w hSw => ?_) ?_; rotate_left 1
              · (try dsimp only at hSw); go_simp; try with_reducible rfl
              try simp only [Act.put, List.setIfInBounds_toArray, List.set_cons_zero, List.set_cons_succ]
              refine E_tk (i := 1) (some 29) (v := ?_) rfl rfl (by kernel_rfl) hHeld (fun w hSw => ?_) ?_; rotate_left 1
              · (try dsimp only at hSw); go_simp; try with_reducible rfl
              try simp only [Act.put, List.setIfInBounds_toArray, List.set_cons_zero, List.set_cons_succ]
              refine E_tk (i := 2) (some 30) (v := ?_) rfl rfl (by kernel_rfl) hHeld (fun w hSw => ?_) ?_; rotate_left 1
              · (try dsimp only at hSw); go_simp; try with_reducible rfl
              try simp only [Act.put, List.setIfInBounds_toArray, List.set_cons_zero, List.set_cons_succ]
              refine E_tk (i := 3) (some 31) (v := ?_) rfl rfl (by kernel_rfl) hHeld (fun w hSw => ?_) ?_; rotate_left 1
              · (try dsimp only at hSw); go_simp; try with_reducible rfl
              try simp only [Act.put, List.setIfInBounds_toArray, List.set_cons_zero, List.set_cons_succ]
              refine E_tk (i := 4) (some 32) (v := ?_) rfl rfl (by kernel_rfl) hHeld (fun w hSw => ?_) ?_; rotate_left 1
              · (try dsimp only at hSw); go_simp; try with_reducible rfl
              try simp only [Act.put, List.setIfInBounds_toArray, List.set_cons_zero, List.set_cons_succ]
              refine E_tk (i := 5) (some 33) (v := ?_) rfl rfl (by kernel_rfl) hHeld (fun w hSw => ?_) ?_; rotate_left 1
              · (try dsimp only at hSw); go_simp; try with_reducible rfl
              try simp only [Act.put, List.setIfInBounds_toArray, List.set_cons_zero, List.set_cons_succ]
              refine E_tk (i := 6) (some 34) (v := ?_) rfl rfl (by kernel_rfl) hHeld (fun w hSw => ?_) ?_; rotate_left 1
              · (try dsimp only at hSw); go_simp; try with_reducible rfl
              try simp only [Act.put, List.setIfInBounds_toArray, List.set_cons_zero, List.set_cons_succ]
              refine E_tk (i := 7) (some 35) (v := ?_) rfl rfl (by kernel_rfl) hHeld (fun w hSw => ?_) ?_; rotate_left 1
              · (try dsimp only at hSw); go_simp; try with_reducible rfl
              try simp only [Act.put, List.setIfInBounds_toArray, List.set_cons_zero, List.set_cons_succ]
              refine E_tk (i := 8) (some 36) (v := ?_) rfl rfl (by kernel_rfl) hHeld (fun w hSw => ?_) ?_; rotate_left 1
              · (try dsimp only at hSw); go_simp; try with_reducible rfl
              try simp only [Act.put, List.setIfInBounds_toArray, List.set_cons_zero, List.set_cons_succ]
              refine E_tk (i := 9) (some 37) (v := ?_) rfl rfl (by kernel_rfl) hHeld (fun w hSw => ?_) ?_; rotate_left 1
              · (try dsimp only at hSw); go_simp; try with_reducible rfl
              try simp only [Act.put, List.setIfInBounds_toArray, List.set_cons_zero, List.set_cons_succ]
              refine E_tk (i := 10) (some 38) (v := ?_) rfl rfl (by kernel_rfl) hHeld (fun w hSw => ?_) ?_; rotate_left 1
              · (try dsimp only at hSw); go_simp; try with_reducible rfl
              try simp only [Act.put, List.setIfInBounds_toArray, List.set_cons_zero, List.set_cons_succ]
              refine E_tk (i := 11) (some 39) (v := ?_) rfl rfl (by kernel_rfl) hHeld (fun w hSw => ?_) ?_; rotate_left 1
              · (try dsimp only at hSw); go_simp; try with_reducible rfl
              try simp only [Act.put, List.setIfInBounds_toArray, List.set_cons_zero, List.set_cons_succ]
              refine E_tk (i := 12) (some 40) (v := ?_) rfl rfl (by kernel_rfl) hHeld (fun w hSw => ?_) ?_; rotate_left 1
              · (try dsimp only at hSw); go_simp; try with_reducible rfl
              try simp only [Act.put, List.setIfInBounds_toArray, List.set_cons_zero, List.set_cons_succ]
              refine E_on (i := 13) rfl (by kernel_rfl) (by kernel_rfl) (fun K hK => ?_)
              go_simp
              go_at_call 58
              refine (cP _).mono ?_
              clear cP
              rintro e w5 ⟨rfl, x5⟩
              have X5 : Ext wr w5 := (Ext.refl wr).drew.trans x5
              have O5 := own_ext HO4.out X5
              obtain ⟨p0, p1⟩ := revS_at O5 HY1.out
              have f0 := O5.frozenAt (i * 2)
              have f1 := O5.frozenAt (i * 2 + 1)
              have HO5 := Lib.hid O5
              have HX5 := Lib.hid X5
              have hH5 := hS7 _ X5
              clear O5 X5 x5
              replace hHeld := hH5
              refine hK _ _ (fun _ => hHeld) ?_
              clear hK K
              try simp only [Act.put, List.setIfInBounds_toArray, List.set_cons_zero, List.set_cons_succ]
              refine E_on (i := 14) rfl (by kernel_rfl) (by kernel_rfl) (fun K hK => ?_)
              go_simp
              refine hK _ _ (fun _ => hHeld) ?_
              clear hK K
              try simp only [Act.put, List.setIfInBounds_toArray, List.set_cons_zero, List.set_cons_succ]
              refine E_on (i := 15) rfl (by kernel_rfl) (by kernel_rfl) (fun K hK => ?_)
              clear hHeld
              go_simp
              refine hK _ _ (fun h => absurd rfl h) ?_
              clear hK K
              try simp only [Act.put, List.setIfInBounds_toArray, List.set_cons_zero, List.set_cons_succ]
              refine E_done (by kernel_rfl) ?_
              clear hH5 hS7
              obtain ⟨s1, g1⟩ := HO5.out.stored (i * 2) (.int .u64 (p.1 : Int))
              obtain ⟨s2, g2x⟩ := s1.stored (i * 2 + 1) (.int .u64 (p.2 : Int))
              have hmid : (midF r i).set i p = midF r (i + 1) := by rw [HPP.out]; exact HMS.out
              rw [revS_set, hmid] at s2
              have XX := Lib.hid (((HX4.out.trans HX5.out).setCell (p := ⟨g2, i * 2, none⟩) HG2.out (.int .u64 (p.1 : Int))).setCell (p := ⟨g2, i * 2 + 1, none⟩) HG2.out (.int .u64 (p.2 : Int)))
              have HS2 := Lib.hid s2
              clear s1 g1 s2 g2x f0 f1 p0 p1
              go_wp2
              have hII := HII.out
              go_roundg (gk - 1)
              case measure => omega
              case rel => exact ⟨i + 1, by omega, int_congr (by omega), HS2.out, XX.out⟩
            · obtain rfl : i = hf := by omega
              have hD := HD.out
              have ho2 := own_cut ho (k := i) (by omega)
              rw [sumV_take, hD.1, mid_done, ← hD.1] at ho2
              have hrow : rootF prS zS (rowF prS r) = rootF prS zS (rest.take q) := by rw [root_row prS zS d r hD.2.2.2.1]; exact HRT.out
              have hrl : (rowF prS r).length = i := by rw [row_len, ← hD.1]
              have HO5 := Lib.hid ho2
              have HX5 := Lib.hid hx
              have HRW : Hid (rootF prS zS (rowF prS r) = rootF prS zS (rest.take q) ∧ (rowF prS r).length = i) := Lib.hid ⟨hrow, hrl⟩
              clear ho hx ho2 hrow hrl hi h hD
              go_wp2
              have hG3 := HG3.out
              have hD := HD.out
              go_roundg G3
              case measure => exact hG3.1
              case rel => exact ⟨rowF prS r, d, by rw [HRW.out.2], by rw [HRW.out.2]; exact hD.2.2.1, hG3.2.1, hG3.2.2, by rw [HRW.out.2]; omega, by rw [HRW.out.2]; exact HO5.out, HRW.out.1, HX5.out⟩
    · have hz : rest.length = 0 := by omega
      have hz2 : rest = [] := List.length_eq_zero_iff.1 hz
      subst hz2
      rw [pcs_nil, List.append_nil] at hp
      have HP := Lib.hid hp
      have HJ2 := Lib.hid hj
      rw [List.length_nil] at m0
      clear hp hm h64 hc' hb hr hj hB hz h
      go_wp2
      go_end0
      exact ⟨⟨_, rfl⟩, .inl ⟨_, HP.out.symm, HJ2.out⟩⟩
end Go.Proofs.YtfpmfegmehbfbaaGreatDoor

/- Trees of hashes, walked: a root, of any leaves. -/
namespace Go.Proofs.YtfpmfegmehbfbaaGreatDoor
set_option linter.unusedVariables false
set_option linter.unusedSimpArgs false
set_option linter.unusedSimpArgs false
open Go.RowKit Go.Shelf Go.Maps
attribute [local go_sem] Oper.semAt_some

theorem pcs_parts (l : List (Nat × Nat)) : (pcs l).map (·.2) = partsF prS zS l := by
  rw [← piece_parts prS zS l.length l (Nat.le_refl _)]
  unfold pcs
  rw [List.map_map]
  exact List.map_congr_left fun x _ => rfl
theorem pcs_root {l : List (Nat × Nat)} {r : Int × Nat × Nat} {rs : List (Int × Nat × Nat)} (h : (pcs l).reverse = r :: rs) : rootF prS zS l = rs.foldl (fun x p => prS p.2 x) r.2 := by
  have e : (partsF prS zS l).reverse = r.2 :: rs.map (·.2) := by rw [← pcs_parts, ← List.map_reverse, h]; rfl
  rw [root_fold prS zS l e, List.foldl_map]
theorem pcs_empty {l : List (Nat × Nat)} (h : pcs l = []) : l = [] := by
  rcases Nat.eq_zero_or_pos l.length with h0 | h0
  · exact List.length_eq_zero_iff.1 h0
  · rw [pcs_cons h0] at h; cases h
theorem prtV_at {w : World} {base g n cap : Nat} {e : TypeId} {l : List (Int × Nat × Nat)} (h : w.ownsRow base e 3 (.slice (some ⟨g, 0, none⟩) n cap) n (prtV l)) {j : Nat} {x : Int × Nat × Nat} (hj : l[j + 1]? = some x) :
    w.cell? ⟨g, 3 + j * 3, none⟩ = some (.int .i64 x.1) ∧ w.cell? ⟨g, 3 + j * 3 + 1, none⟩ = some (.int .u64 (x.2.1 : Int)) ∧ w.cell? ⟨g, 3 + j * 3 + 2, none⟩ = some (.int .u64 (x.2.2 : Int)) ∧ w.cell? ⟨g, 3 + j * 3 + 1 + 1, none⟩ = some (.int .u64 (x.2.2 : Int)) := by
  obtain ⟨a, b, c⟩ := revP_at h hj
  rw [show (j + 1) * 3 = 3 + j * 3 by omega] at a b c
  exact ⟨a, b, c, c⟩
set_option maxRecDepth 100000 in
set_option maxHeartbeats 8000000 in
theorem Root_any (l : List (Nat × Nat)) (hl : l.length < 64) (A : Option Addr) (c : Nat) (hc : l.length ≤ c) (w : World) (hr : Reads w w.heap.size 2 A l.length (sumV l)) :
    Calls Tryz.prog 15 #[.slice A l.length c] w fun e w' => e = .returned (.agg #[.int .u64 ((rootF prS zS l).1 : Int), .int .u64 ((rootF prS zS l).2 : Int)]) ∧ Ext w w' := by
  obtain ⟨W0, e0⟩ : ∃ W, w.alloc (.cells #[.int .u64 0, .int .u64 0] 34) = W := ⟨_, rfl⟩
  have b0 : Blk W0 w.heap.size 34 #[.int .u64 0, .int .u64 0] := by rw [← e0]; exact Blk.new _ _ _
  have x0 : Ext w W0 := by rw [← e0]; exact (Ext.refl w).alloc _
  have s0 : W0.heap.size = w.heap.size + 1 := by rw [← e0]; simp
  obtain ⟨W1, e1⟩ : ∃ W, W0.alloc (.cells #[.slice A l.length c] 42) = W := ⟨_, rfl⟩
  have b1 : Boxed W1 W0.heap.size 42 (.slice A l.length c) := by rw [← e1]; exact Boxed.new _ _ _
  have x1 : Ext W0 W1 := by rw [← e1]; exact (Ext.refl _).alloc _
  have s1 : W1.heap.size = W0.heap.size + 1 := by rw [← e1]; simp
  have cP := parts_any (.slice A l.length c) ⟨_, _, _, rfl⟩ W0
  rw [e1] at cP
  have hr1 : Reads W1 W0.heap.size 2 A l.length (sumV l) := ((hr.below x0.out).more x0.size).below x1.out
  have hpl := pcs_len l.length l (Nat.le_refl _)
  have cC := Collect_any 140 (enters_of Tryz.func140 (by kernel_rfl) rfl) #[.pointer (some ⟨W0.heap.size, 0, none⟩)] W0.heap.size (fun pre x => ∃ suf, pcs l = pre ++ x :: suf) (fun xs => xs = pcs l) (fun pre x h => by obtain ⟨s, h⟩ := h; have := congrArg List.length h; simp at this; omega) W1 (by omega)
    (fun lp J Jx W hW hJ hJx hY h0 => parts_in 4 (by omega) lp W0.heap.size W1.heap.size (by omega) l hl A c J Jx hJ hY W hW.size (Blk.below b1 hW (by omega)) hc (hr1.below (Below.mono hW (by omega))) h0)
  have cT := fun W => Tagged_any ⟨#[101, 109, 112, 116, 121]⟩ [] (by simp) none 0 W ⟨[], Reads.none_, fun j p hj => by simp at hj⟩ (by decide)
  obtain ⟨xs, hxs⟩ : ∃ xs, pcs l = xs := ⟨_, rfl⟩
  have HB0 := Lib.hid b0
  have HX0 := Lib.hid x0
  have HX1 := Lib.hid x1
  have HS0 : Hid (W0.heap.size = w.heap.size + 1 ∧ W1.heap.size = W0.heap.size + 1) := Lib.hid ⟨s0, s1⟩
  rw [hxs] at hpl cC
  have HXS := Lib.hid hxs
  have hxl : xs.length < 64 := by omega
  clear hr hr1 e1 b0 b1 x0 x1 s0 s1 hpl hl hc
  cases xs with
  | nil =>
    have hle := pcs_empty hxs
    subst hle
    have hroot : rootF prS zS [] = zS := by rw [rootF]
    rw [hroot]
    obtain ⟨z, hz⟩ : ∃ z, zS = z := ⟨_, rfl⟩
    have cT' : ∀ W, Calls Tryz.prog 65 #[.string ⟨#[101, 109, 112, 116, 121]⟩, .slice none 0 0] W fun e w' => e = .returned (.agg #[.int .u64 (z.1 : Int), .int .u64 (z.2 : Int)]) ∧ Ext W w' := fun W => by rw [← hz]; exact cT W
    rw [hz]
    clear cT hz hroot hxs hxl
    go_enter Tryz.func15, Tryz.ntmps15
    go_upto_region 1 with (fail)
    try rw [e0]
    clear e0
    go_wp2_with (first
      | (go_at_call 64; refine cP.mono ?_; clear cP; rintro e w1 ⟨rfl, rfl⟩)
      | (go_at_call 63; refine cC.mono ?_; clear cC; rintro e w2 ⟨xs, A2, c2, rfl, rfl, hc2, hr2, hg2, -⟩; simp only [List.length_nil])
      | (go_at_call 65; refine (cT' _).mono ?_; clear cT'; rintro e w3 ⟨rfl, x3⟩; have x2 : Ext W0 w2 := Ext.of (HX1.out.out.grown hg2 HX1.out.size (fun k e => by cases e; exact Nat.le_refl _)); have z0 := ext_blk (x2.trans x3) HB0.out; have m0 := z0.cell 0; have m1 := z0.cell 1; have f0 := z0.frozen 0; have f1 := z0.frozen 1))
    have z2 := (z0.set_ 0 (.int .u64 (z.1 : Int))).set_ 1 (.int .u64 (z.2 : Int))
    have v0 := z2.cell 0
    have v1 := z2.cell 1
    refine bodyPost_ret (v := .agg #[.int .u64 (z.1 : Int), .int .u64 (z.2 : Int)]) (by simp [results, Tryz.results15, go_sem, v0, v1]) rfl ⟨rfl, ((HX0.out.trans (x2.trans x3)).setCell (p := ⟨w.heap.size, 0, none⟩) (Nat.le_refl _) _).setCell (p := ⟨w.heap.size, 1, none⟩) (Nat.le_refl _) _⟩
  | cons y ys =>
    obtain ⟨r0, rs, hrev⟩ : ∃ r0 rs, (y :: ys).reverse = r0 :: rs := by
      cases h : (y :: ys).reverse with
      | nil => simp at h
      | cons a b => exact ⟨a, b, rfl⟩
    have hroot : rootF prS zS l = rs.foldl (fun x p => prS p.2 x) r0.2 := pcs_root (by rw [hxs]; exact hrev)
    have hlen : (y :: ys).length = rs.length + 1 := by rw [← List.length_reverse, hrev]; rfl
    obtain ⟨R, hR⟩ : ∃ R, rootF prS zS l = R := ⟨_, rfl⟩
    rw [hR] at hroot ⊢
    have HRT := Lib.hid hroot
    have HLEN := Lib.hid hlen
    have HREV := Lib.hid hrev
    have hrs : (rs.length : Int) ≤ 64 := by omega
    clear cT hR hroot hxs hxl hlen
    go_enter Tryz.func15, Tryz.ntmps15
    go_upto_region 1 with (fail)
    try rw [e0]
    clear e0
    go_upto_region 2 with (first
      | (go_at_call 64; refine cP.mono ?_; clear cP; rintro e w1 ⟨rfl, rfl⟩)
      | (go_at_call 63; refine cC.mono ?_; clear cC; rintro e w2 ⟨xs, A2, c2, rfl, rfl, hc2, hr2, hg2, ho2⟩))
    have x2 : Ext W0 w2 := Ext.of (HX1.out.out.grown hg2 HX1.out.size (fun k e => by cases e; exact Nat.le_refl _))
    obtain ⟨g2, cap2, hv, hbg, hgl⟩ := ho2.form (by simp)
    obtain ⟨rfl, rfl⟩ : A2 = some ⟨g2, 0, none⟩ ∧ c2 = cap2 := by
      simp only [Value.slice.injEq] at hv; exact ⟨hv.1, hv.2.2⟩
    have cR := revP_any (y :: ys) (by rw [HLEN.out]; omega) _ g2 c2 w2 ho2
    rw [HREV.out] at cR
    have hyl : ys.length = rs.length := by have := HLEN.out; simpa using this
    simp only [List.length_cons] at cR hc2
    rw [hyl] at cR hc2 ⊢
    have HX2 := Lib.hid x2
    have HBG := Lib.hid hbg
    clear hr2 hg2 ho2 hv hbg hgl x2 hrev hyl
    have hc2' : (rs.length : Int) + 1 ≤ (c2 : Int) := by omega
    go_upto_region 5 with (go_at_call 66; refine cR.mono ?_; clear cR; rintro e w3 ⟨rfl, o3, g3⟩)
    have x3 : Ext W0 w3 := Ext.of (HX2.out.out.grown g3 HX2.out.size (fun k e => by cases e; have := HBG.out; have := HS0.out; omega))
    obtain ⟨-, q1, q2⟩ := revP_at o3 (j := 0) (x := r0) rfl
    obtain ⟨W4, e4⟩ : ∃ W, w3.alloc (.cells #[.int .u64 (r0.2.1 : Int), .int .u64 (r0.2.2 : Int)] 34) = W := ⟨_, rfl⟩
    have b4 : Blk W4 w3.heap.size 34 #[.int .u64 (r0.2.1 : Int), .int .u64 (r0.2.2 : Int)] := by rw [← e4]; exact Blk.new _ _ _
    have x4 : Ext W0 W4 := by rw [← e4]; exact x3.alloc _
    have o4 : W4.ownsRow W1.heap.size 148 3 (.slice (some ⟨g2, 0, none⟩) (rs.length + 1) c2) (rs.length + 1) (prtV (r0 :: rs)) := by rw [← e4]; exact o3.alloc _
    have HB4 := Lib.hid b4
    have HX4 := Lib.hid x4
    have HO4 := Lib.hid o4
    have HX3 := Lib.hid x3
    have hs3 : Hid (W0.heap.size ≤ w3.heap.size) := Lib.hid x3.size
    have hg3 : Hid (g2 < w3.heap.size) := Lib.hid (o3.lt g2 rfl).2
    clear b4 x4 o4 o3 g3 x3
    by_cases hc1 : c2 = 1
    · obtain rfl : rs = [] := List.length_eq_zero_iff.1 (by omega)
      simp only [List.length_nil, Nat.zero_add, List.foldl_nil] at hc2' hrs HRT ⊢
      subst hc1
      go_upto_region 6 with (fail)
      try rw [e4]
      clear e4 q1 q2
      obtain ⟨V, hV⟩ : ∃ V, V = W4 := ⟨_, rfl⟩
      go_wp2
      go_loopg [23] 0 (fun m s23 wr => s23 = .int .i64 0 ∧ W4 = wr)
      case atStart => exact ⟨rfl, rfl⟩
      case round =>
        obtain ⟨rfl, rfl⟩ := hrel
        have z0 := ext_blk HX4.out HB0.out
        have n0 := HB4.out.cell 0
        have n1 := HB4.out.cell 1
        have m0 := z0.cell 0
        have m1 := z0.cell 1
        have f0 := z0.frozen 0
        have f1 := z0.frozen 1
        have HZ := Lib.hid z0
        skip
        go_wp2
        have z2 := (HZ.out.set_ 0 (.int .u64 (r0.2.1 : Int))).set_ 1 (.int .u64 (r0.2.2 : Int))
        have v0 := z2.cell 0
        have v1 := z2.cell 1
        refine bodyPost_ret (v := .agg #[.int .u64 (r0.2.1 : Int), .int .u64 (r0.2.2 : Int)]) (by simp [results, Tryz.results15, go_sem, v0, v1]) rfl ⟨by rw [HRT.out], ((HX0.out.trans HX4.out).setCell (p := ⟨w.heap.size, 0, none⟩) (Nat.le_refl _) _).setCell (p := ⟨w.heap.size, 1, none⟩) (Nat.le_refl _) _⟩
    · have hc3 : ¬ (c2 : Int) = 1 := by omega
      go_upto_region 6 with (fail)
      try rw [e4]
      clear e4 q1 q2
      go_wp2
      go_loopg [23] rs.length (fun m s23 wr => ∃ (j : Nat) (x : Nat × Nat), j + m = rs.length ∧ s23 = .int .i64 j ∧ (rs.take j).foldl (fun x p => prS p.2 x) r0.2 = x ∧ Blk wr w3.heap.size 34 #[.int .u64 (x.1 : Int), .int .u64 (x.2 : Int)] ∧ wr.ownsRow W1.heap.size 148 3 (.slice (some ⟨g2, 0, none⟩) (rs.length + 1) c2) (rs.length + 1) (prtV (r0 :: rs)) ∧ Ext W0 wr)
      case atStart => exact ⟨0, r0.2, by omega, rfl, rfl, HB4.out, HO4.out, HX4.out⟩
      case round =>
        obtain ⟨j, x, hj, rfl, hx, hb, ho, hxx⟩ := hrel
        by_cases h : j < rs.length
        · obtain ⟨y2, hy2⟩ : ∃ s, rs[j]? = some s := ⟨_, List.getElem?_eq_getElem h⟩
          obtain ⟨u0, u1, u2, u3⟩ := prtV_at ho (j := j) (x := y2) hy2
          have hjb : (j : Int) ≤ 64 := by omega
          have hjr : (j : Int) < (rs.length : Int) := by omega
          obtain ⟨W5, e5⟩ : ∃ W, wr.alloc (.cells #[.int .i64 y2.1, .int .u64 (y2.2.1 : Int), .int .u64 (y2.2.2 : Int)] 148) = W := ⟨_, rfl⟩
          have b5 : Blk W5 wr.heap.size 148 #[.int .i64 y2.1, .int .u64 (y2.2.1 : Int), .int .u64 (y2.2.2 : Int)] := by rw [← e5]; exact Blk.new _ _ _
          have x5 : Ext wr W5 := by rw [← e5]; exact (Ext.refl _).alloc _
          have m0 := b5.cell 0
          have m1 := b5.cell 1
          have m2 := b5.cell 2
          have b6 := ext_blk x5 hb
          have m3 := b6.cell 0
          have m4 := b6.cell 1
          have cPP := fun W => prS_any y2.2 x W
          have hf : (rs.take (j + 1)).foldl (fun x p => prS p.2 x) r0.2 = prS y2.2 x := by rw [take_snoc hy2, List.foldl_append, hx]; rfl
          obtain ⟨v, hv⟩ : ∃ v, prS y2.2 x = v := ⟨_, rfl⟩
          rw [hv] at hf cPP
          have HFF := Lib.hid hf
          have HJ := Lib.hid hj
          have HB6 := Lib.hid b6
          have HO6 := Lib.hid (own_ext ho x5)
          have HX6 := Lib.hid (hxx.trans x5)
          clear hj hx hb ho hxx hy2 b5 x5 b6 hf hv h
          go_upto_region 9 with (fail)
          try rw [e5]
          clear e5 u0 u1 u2 u3
          go_wp2_with (go_at_call 58; refine (cPP _).mono ?_; clear cPP m0 m1 m2 m3 m4; rintro e w7 ⟨rfl, x7⟩; have b7 := ext_blk x7 HB6.out; have m0 := b7.cell 0; have m1 := b7.cell 1; have f0 := b7.frozen 0; have f1 := b7.frozen 1; have HB7 := Lib.hid b7; have HO7 := Lib.hid (own_ext HO6.out x7); have HX7 := Lib.hid (HX6.out.trans x7); clear b7 x7)
          have b8 := (HB7.out.set_ 0 (.int .u64 (v.1 : Int))).set_ 1 (.int .u64 (v.2 : Int))
          have hne : ∀ k, (Value.slice (some ⟨g2, 0, none⟩) (rs.length + 1) c2).ownBlock = some k → k ≠ w3.heap.size := fun k hk e => by
            have : k = g2 := by simpa [Value.ownBlock] using hk.symm
            have := hg3.out
            omega
          have o8 := own_keep (own_keep HO7.out (fun k hk => Below.heap_setCell _ ⟨w3.heap.size, 0, none⟩ (.int .u64 (v.1 : Int)) k (hne k hk))) (fun k hk => Below.heap_setCell _ ⟨w3.heap.size, 1, none⟩ (.int .u64 (v.2 : Int)) k (hne k hk))
          have x8 := (HX7.out.setCell (p := ⟨w3.heap.size, 0, none⟩) hs3.out (.int .u64 (v.1 : Int))).setCell (p := ⟨w3.heap.size, 1, none⟩) hs3.out (.int .u64 (v.2 : Int))
          have hj := HJ.out
          go_roundg (gk - 1)
          case measure => omega
          case rel => exact ⟨j + 1, v, by omega, int_congr (by omega), HFF.out, b8, o8, x8⟩
        · obtain rfl : j = rs.length := by omega
          rw [List.take_length] at hx
          have HXV : Hid (R = x) := Lib.hid (by rw [HRT.out]; exact hx)
          have HXX := Lib.hid hxx
          have HBB := Lib.hid hb
          clear hj hx hb ho hxx h
          have z0 := ext_blk HXX.out HB0.out
          have n0 := HBB.out.cell 0
          have n1 := HBB.out.cell 1
          have m0 := z0.cell 0
          have m1 := z0.cell 1
          have f0 := z0.frozen 0
          have f1 := z0.frozen 1
          have HZ := Lib.hid z0
          skip
          go_wp2
          have z2 := (HZ.out.set_ 0 (.int .u64 (x.1 : Int))).set_ 1 (.int .u64 (x.2 : Int))
          have v0 := z2.cell 0
          have v1 := z2.cell 1
          refine bodyPost_ret (v := .agg #[.int .u64 (x.1 : Int), .int .u64 (x.2 : Int)]) (by simp [results, Tryz.results15, go_sem, v0, v1]) rfl ⟨by rw [HXV.out], ((HX0.out.trans HXX.out).setCell (p := ⟨w.heap.size, 0, none⟩) (Nat.le_refl _) _).setCell (p := ⟨w.heap.size, 1, none⟩) (Nat.le_refl _) _⟩
end Go.Proofs.YtfpmfegmehbfbaaGreatDoor

/- Trees of hashes, walked: how many steps lead up; what shows that a tree has grown. -/
namespace Go.Proofs.YtfpmfegmehbfbaaGreatDoor
set_option linter.unusedVariables false
set_option linter.unusedSimpArgs false
set_option linter.unusedSimpArgs false
open Go.RowKit Go.Shelf Go.Maps

theorem ones_cases (r : Nat) (h : r < 32) : r = 0 ∨ r = 1 ∨ r = 2 ∨ r = 3 ∨ r = 4 ∨ r = 5 ∨ r = 6 ∨ r = 7 ∨ r = 8 ∨ r = 9 ∨ r = 10 ∨ r = 11 ∨ r = 12 ∨ r = 13 ∨ r = 14 ∨ r = 15 ∨ r = 16 ∨ r = 17 ∨ r = 18 ∨ r = 19 ∨ r = 20 ∨ r = 21 ∨ r = 22 ∨ r = 23 ∨ r = 24 ∨ r = 25 ∨ r = 26 ∨ r = 27 ∨ r = 28 ∨ r = 29 ∨ r = 30 ∨ r = 31 := by omega
theorem ones_val (r : Nat) (h : r < 32) : onesF r = onesG 5 r := ones_fuel 5 r (by simpa using h)
set_option maxRecDepth 100000 in
set_option maxHeartbeats 4000000 in
theorem ones64_any (r : Nat) (h : r < 32) (w : World) : Calls Tryz.prog 219 #[.int .u64 r] w fun e w' => e = .returned (.int .i64 (onesF r : Nat)) ∧ w = w' := by
  rw [ones_val r h]
  rcases ones_cases r h with rfl | rfl | rfl | rfl | rfl | rfl | rfl | rfl | rfl | rfl | rfl | rfl | rfl | rfl | rfl | rfl | rfl | rfl | rfl | rfl | rfl | rfl | rfl | rfl | rfl | rfl | rfl | rfl | rfl | rfl | rfl | rfl
  all_goals
    go_enter Tryz.func219, Tryz.ntmps219
    go_wp2
    go_ret
    exact ⟨ret_one (by decide +kernel), rfl⟩
theorem ones_any (r : Nat) (h : r < 32) (w : World) : Calls Tryz.prog 135 #[.int .u64 r] w fun e w' => e = .returned (.int .i64 (onesF r : Nat)) ∧ w = w' := by
  have c := fun w => ones64_any r h w
  have hb : (r : Int) < 32 := by omega
  obtain ⟨z, hz⟩ : ∃ z, onesF r = z := ⟨_, rfl⟩
  rw [hz] at c ⊢
  clear h hz
  go_enter Tryz.func135, Tryz.ntmps135
  go_wp2_with (go_at_call 219; refine (c _).mono ?_; clear c; rintro e w' ⟨rfl, rfl⟩)
  go_ret
  exact ⟨rfl, rfl⟩
theorem xor_small : ∀ a : Nat, a < 64 → ∀ b : Nat, b < 64 → bits .xor .i64 (a : Int) (b : Int) = ((a ^^^ b : Nat) : Int) ∧ a ^^^ b < 64 := by decide +kernel
set_option maxRecDepth 100000 in
set_option maxHeartbeats 2000000 in
theorem steps_any (a n : Nat) (ha : a < 32) (h0 : 0 < n) (hn : n ≤ 64) (w : World) : Calls Tryz.prog 54 #[.int .i64 a, .int .i64 n] w fun e w' =>
    e = .returned (.tuple #[.int .i64 (innerN a (n - 1) : Nat), .int .i64 (onesF (a / 2 ^ innerN a (n - 1)) : Nat)]) ∧ w = w' := by
  obtain ⟨b, hb⟩ : ∃ b, n - 1 = b := ⟨_, rfl⟩
  rw [hb]
  have n1 : (n : Int) - 1 = (b : Int) := by omega
  obtain ⟨k1, k2⟩ := xor_small a (by omega) b (by omega)
  have hi := inner_le a (by omega) b (by omega)
  unfold innerN at hi ⊢
  obtain ⟨x, hx⟩ : ∃ x, a ^^^ b = x := ⟨_, rfl⟩
  rw [hx] at k1 k2 hi ⊢
  have cL := fun w => Tryz.bits_Len x w (by omega) (by omega)
  obtain ⟨L, hL⟩ : ∃ L, Go.Lib.bitLen x = L := ⟨_, rfl⟩
  have cL' : ∀ w, Calls Tryz.prog 134 #[.int .u64 (x : Int)] w fun e w' => e = .returned (.int .i64 (L : Int)) ∧ w = w' := fun w => (cL w).mono fun e w' ⟨he, hw⟩ => ⟨by rw [he]; simp [hL], hw.symm⟩
  rw [hL] at hi ⊢
  have hr : a / 2 ^ L < 32 := Nat.lt_of_le_of_lt (Nat.div_le_self _ _) ha
  obtain ⟨r, hrr⟩ : ∃ r, a / 2 ^ L = r := ⟨_, rfl⟩
  have k3 : (a : Int) / 2 ^ L = (r : Int) := by rw [← hrr]; push_cast; rfl
  rw [hrr] at hr ⊢
  have cO := fun w => ones_any r hr w
  obtain ⟨z, hz⟩ : ∃ z, onesF r = z := ⟨_, rfl⟩
  rw [hz] at cO ⊢
  have nb : (n : Int) ≤ 64 := by omega
  have xb : (x : Int) < 64 := by omega
  have Lb : (L : Int) ≤ 6 := by omega
  have rb : (r : Int) < 32 := by omega
  clear ha h0 hn hb hx cL hL hrr hz hr k2 hi
  go_enter Tryz.func54, Tryz.ntmps54
  go_wp2_with (first
    | (go_at_call 134; refine (cL' _).mono ?_; clear cL'; rintro e w' ⟨rfl, rfl⟩)
    | (go_at_call 135; refine (cO _).mono ?_; clear cO; rintro e w' ⟨rfl, rfl⟩))
  go_ret2
  exact ⟨rfl, rfl⟩
end Go.Proofs.YtfpmfegmehbfbaaGreatDoor
