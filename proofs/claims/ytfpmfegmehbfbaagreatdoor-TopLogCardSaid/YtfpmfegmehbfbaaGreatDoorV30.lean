/- Parts of the proofs, put together: Mk3, Mk5, Mk6. -/
import Derived.BigRegion
import Derived.Shelf.Abstract
import Derived.Test.YtfpmfegmehbfbaaGreatDoorShelf
import Derived.Test.YtfpmfegmehbfbaaGreatDoorV1
import Derived.Test.YtfpmfegmehbfbaaGreatDoorV2
import Derived.Test.YtfpmfegmehbfbaaGreatDoorV3
import Derived.Test.YtfpmfegmehbfbaaGreatDoorV15
import Derived.Test.YtfpmfegmehbfbaaGreatDoorV22
import Derived.Test.YtfpmfegmehbfbaaGreatDoorV27
/- Trees of hashes, walked: sums in memory; slices.Reverse at two types of one's own. -/
namespace Go.Proofs.YtfpmfegmehbfbaaGreatDoor
set_option linter.unusedVariables false
set_option linter.unusedSimpArgs false
set_option linter.unusedSimpArgs false
open Go.RowKit Go.Shelf Go.Maps

theorem grownDrewK {w W : World} {o : Option Nat} (h : w.grownBy W o) : w.grownBy W.drew o := by
  obtain ⟨a1, a2, a3, a4, a5⟩ := h
  exact ⟨a1, a2, a3, a4, a5⟩
theorem grownTransK {w W V : World} {g : Nat} (h : w.grownBy W (some g)) (k : W.grownBy V (some g)) : w.grownBy V (some g) := by
  obtain ⟨a1, a2, a3, a4, a5⟩ := h
  obtain ⟨b1, b2, b3, b4, b5⟩ := k
  exact ⟨b1.trans a1, b2.trans a2, b3.trans a3, Nat.le_trans a4 b4, fun i hi hne => (b5 i (by omega) hne).trans (a5 i hi hne)⟩

/-- What a row of these holds, cell by cell. -/
theorem revS_at {w : World} {base g n cap : Nat} {e : TypeId} {l : List (Nat × Nat)} (h : w.ownsRow base e 2 (.slice (some ⟨g, 0, none⟩) n cap) n (sumV l)) {j : Nat} {x : (Nat × Nat)} (hj : l[j]? = some x) :
    w.cell? ⟨g, j * 2, none⟩ = some (.int .u64 (x.1 : Int)) ∧ w.cell? ⟨g, j * 2 + 1, none⟩ = some (.int .u64 (x.2 : Int)) := by
  have hl := (List.getElem?_eq_some_iff.1 hj).1
  have h1 := h.1
  have h2 : (sumV l).length = l.length * 2 := fm_length sumC (fun _ => rfl) l
  rw [h2] at h1
  refine ⟨?_, ?_⟩
  · rw [h.cellAt (j * 2) (by omega)]; exact fm_at sumC (k := 2) (fun _ => rfl) hj (i := 0) (by decide)
  · rw [h.cellAt (j * 2 + 1) (by omega)]; exact fm_at sumC (k := 2) (fun _ => rfl) hj (i := 1) (by decide)
theorem revS_set (l : List (Nat × Nat)) (i : Nat) (x : (Nat × Nat)) : ((sumV l).set (i * 2) (.int .u64 (x.1 : Int))).set (i * 2 + 1) (.int .u64 (x.2 : Int)) = sumV (l.set i x) := by
  induction l generalizing i with
  | nil => simp [sumV]
  | cons a l ih =>
    have e : sumV (a :: l) = .int .u64 (a.1 : Int) :: .int .u64 (a.2 : Int) :: sumV l := rfl
    cases i with
    | zero => rw [e]; simp [sumV, sumC]
    | succ i =>
      rw [e, show (i + 1) * 2 = i * 2 + 1 + 1 by omega]
      skip
      simp only [List.set_cons_succ, show i * 2 + 1 + 1 + 1 = (i * 2 + 1) + 1 + 1 by omega]
      rw [ih i]
      rfl
/-- What a row of these holds, cell by cell. -/
theorem revP_at {w : World} {base g n cap : Nat} {e : TypeId} {l : List (Int × Nat × Nat)} (h : w.ownsRow base e 3 (.slice (some ⟨g, 0, none⟩) n cap) n (prtV l)) {j : Nat} {x : (Int × Nat × Nat)} (hj : l[j]? = some x) :
    w.cell? ⟨g, j * 3, none⟩ = some (.int .i64 x.1) ∧ w.cell? ⟨g, j * 3 + 1, none⟩ = some (.int .u64 (x.2.1 : Int)) ∧ w.cell? ⟨g, j * 3 + 2, none⟩ = some (.int .u64 (x.2.2 : Int)) := by
  have hl := (List.getElem?_eq_some_iff.1 hj).1
  have h1 := h.1
  have h2 : (prtV l).length = l.length * 3 := fm_length prtC (fun _ => rfl) l
  rw [h2] at h1
  refine ⟨?_, ?_, ?_⟩
  · rw [h.cellAt (j * 3) (by omega)]; exact fm_at prtC (k := 3) (fun _ => rfl) hj (i := 0) (by decide)
  · rw [h.cellAt (j * 3 + 1) (by omega)]; exact fm_at prtC (k := 3) (fun _ => rfl) hj (i := 1) (by decide)
  · rw [h.cellAt (j * 3 + 2) (by omega)]; exact fm_at prtC (k := 3) (fun _ => rfl) hj (i := 2) (by decide)
theorem revP_set (l : List (Int × Nat × Nat)) (i : Nat) (x : (Int × Nat × Nat)) : (((prtV l).set (i * 3) (.int .i64 x.1)).set (i * 3 + 1) (.int .u64 (x.2.1 : Int))).set (i * 3 + 2) (.int .u64 (x.2.2 : Int)) = prtV (l.set i x) := by
  induction l generalizing i with
  | nil => simp [prtV]
  | cons a l ih =>
    have e : prtV (a :: l) = .int .i64 a.1 :: .int .u64 (a.2.1 : Int) :: .int .u64 (a.2.2 : Int) :: prtV l := rfl
    cases i with
    | zero => rw [e]; simp [prtV, prtC]
    | succ i =>
      rw [e, show (i + 1) * 3 = i * 3 + 1 + 1 + 1 by omega]
      skip
      simp only [List.set_cons_succ, show i * 3 + 1 + 1 + 1 + 1 = (i * 3 + 1) + 1 + 1 + 1 by omega, show i * 3 + 1 + 1 + 1 + 2 = (i * 3 + 2) + 1 + 1 + 1 by omega]
      rw [ih i]
      rfl
set_option maxRecDepth 100000 in
set_option maxHeartbeats 4000000 in
theorem revP_any (l : List (Int × Nat × Nat)) (hn : l.length ≤ 100000) (base g cap : Nat) (w : World) (ho : w.ownsRow base 148 3 (.slice (some ⟨g, 0, none⟩) l.length cap) l.length (prtV l)) :
    Calls Tryz.prog 66 #[.slice (some ⟨g, 0, none⟩) l.length cap] w fun e w' => e = .returned (.tuple #[]) ∧ w'.ownsRow base 148 3 (.slice (some ⟨g, 0, none⟩) l.length cap) l.length (prtV l.reverse) ∧ w.grownBy w' (some g) := by
  have HN := Lib.hid hn
  have hcap := own_cap ho
  have HO := Lib.hid ho
  have hlb : (l.length : Int) ≤ 100000 := by omega
  have mixed : Tryz.prog.follows .mixedOrders = true := by kernel_rfl
  clear hn ho
  go_enter Tryz.func66, Tryz.ntmps66
  go_wp2
  go_loopg [2, 3] l.length (fun m s2 s3 wr => ∃ (i : Nat) (jz : Int) (r : List (Int × Nat × Nat)), s2 = .int .i64 i ∧ s3 = .int .i64 jz ∧ jz = (l.length : Int) - 1 - i ∧ 2 * i ≤ l.length ∧ l.length ≤ i + m ∧ RevP l i r ∧ wr.ownsRow base 148 3 (.slice (some ⟨g, 0, none⟩) l.length cap) l.length (prtV r) ∧ w.grownBy wr (some g))
  case atStart => exact ⟨0, (l.length : Int) - 1, l, rfl, rfl, by omega, by omega, by omega, RevP.start l, HO.out, World.grownBy.refl w _⟩
  case round =>
    obtain ⟨i, jz, r, rfl, rfl, hjz, hi, hm, hr, ho, hg⟩ := hrel
    by_cases hij : (i : Int) < jz
    · obtain ⟨j, rfl⟩ : ∃ j : Nat, jz = j := ⟨jz.toNat, by omega⟩
      have hlen := hr.1
      obtain ⟨x, hx⟩ : ∃ s, r[i]? = some s := ⟨_, List.getElem?_eq_getElem (by omega)⟩
      obtain ⟨y, hy⟩ : ∃ s, r[j]? = some s := ⟨_, List.getElem?_eq_getElem (by omega)⟩
      obtain ⟨q0, q1, q2⟩ := revP_at ho hx
      obtain ⟨r0, r1, r2⟩ := revP_at ho hy
      have f0 := fun k => ho.frozenAt k
      have hil : (i : Int) < (l.length : Int) := by omega
      have hjl : (j : Int) < (l.length : Int) := by omega
      have hib : (i : Int) ≤ 100000 := by have := HN.out; omega
      have hjb : (j : Int) ≤ 100000 := by have := HN.out; omega
      have fi0 := f0 (i * 3)
      have fi1 := f0 (i * 3 + 1)
      have fi2 := f0 (i * 3 + 2)
      have fj0 := f0 (j * 3)
      have fj1 := f0 (j * 3 + 1)
      have fj2 := f0 (j * 3 + 2)
      have HST := Lib.hid (hr.step (i := i) (j := j) (by omega) (by omega) hx hy)
      have HO2 := Lib.hid ho
      have HG := Lib.hid hg
      have HM : Hid (i + j + 1 = l.length ∧ l.length ≤ i + gk) := Lib.hid ⟨by omega, hm⟩
      clear hjz hi hm hr ho hg hx hy hlen f0
      go_wp2_with fail
      go_big_region_o
      all_goals go_wp2
      obtain ⟨s1, g1⟩ := HO2.out.stored (i * 3) (.int .i64 y.1)
      obtain ⟨s2, g2⟩ := s1.stored (i * 3 + 1) (.int .u64 (y.2.1 : Int))
      obtain ⟨s3, g3⟩ := s2.stored (i * 3 + 2) (.int .u64 (y.2.2 : Int))
      obtain ⟨s4, g4⟩ := s3.stored (j * 3) (.int .i64 x.1)
      obtain ⟨s5, g5⟩ := s4.stored (j * 3 + 1) (.int .u64 (x.2.1 : Int))
      obtain ⟨s6, g6⟩ := s5.stored (j * 3 + 2) (.int .u64 (x.2.2 : Int))
      rw [revP_set, revP_set] at s6
      have hgg := (grownTransK (grownTransK (grownTransK (grownTransK (grownTransK (grownTransK HG.out g1) g2) g3) g4) g5) g6)
      have hM := HM.out
      go_roundg (gk - 1)
      case measure => omega
      case rel =>
        refine ⟨i + 1, (j : Int) - 1, (r.set i y).set j x, ?_, ?_, by omega, by omega, by omega, HST.out, ?_, ?_⟩
        · first | rfl | exact int_congr (by omega)
        · first | rfl | exact int_congr (by omega)
        · exact s6.drew
        · exact grownDrewK hgg
    · have hfin := hr.done (j := l.length - 1 - i) (by omega) (by omega) (by omega)
      subst hfin
      have HO2 := Lib.hid ho
      have HG := Lib.hid hg
      clear hjz hi hm hr ho hg
      go_wp2
      go_end0
      exact ⟨rfl, HO2.out, HG.out⟩
end Go.Proofs.YtfpmfegmehbfbaaGreatDoor

/- Trees of hashes, walked: climb, whatever is done on the way. -/
namespace Go.Proofs.YtfpmfegmehbfbaaGreatDoor
set_option linter.unusedVariables false
set_option linter.unusedSimpArgs false
set_option linter.unusedSimpArgs false
open Go.RowKit Go.Shelf Go.Maps

theorem i64_and1 : ∀ a : Nat, a < 64 → bits .and .i64 (a : Int) 1 = ((a % 2 : Nat) : Int) := by decide +kernel
theorem climb_cons {S α : Type} (le ri : α → S → α) (p : S) (ps : List S) (a l : Nat) (x : α) :
    climbF le ri (p :: ps) a l x = if a % 2 = 0 ∧ a ≠ l then climbF le ri ps (a / 2) (l / 2) (ri x p) else climbF le ri ps ((strip a l).1 / 2) ((strip a l).2 / 2) (le x p) := rfl
theorem strip_yes {a l : Nat} (h : a % 2 = 0 ∧ a ≠ 0) : strip a l = strip (a / 2) (l / 2) := by rw [strip, if_pos h]
theorem strip_no {a l : Nat} (h : ¬ (a % 2 = 0 ∧ a ≠ 0)) : strip a l = (a, l) := by rw [strip, if_neg h]
set_option maxRecDepth 100000 in
set_option maxHeartbeats 4000000 in
theorem climb_any {α : Type} (FL FR : FuncId) (hL : Enters Tryz.prog FL) (hR : Enters Tryz.prog FR) (cL cR : Array Value) (le ri : α → Nat × Nat → α) (B : Nat) (J : α → World → Prop)
    (hJ : ∀ x W W', J x W → B ≤ W.heap.size → Ext W W' → J x W')
    (sL : ∀ x (p : Nat × Nat) W, J x W → B ≤ W.heap.size → Calls Tryz.prog FL (#[.agg #[.int .u64 (p.1 : Int), .int .u64 (p.2 : Int)]] ++ cL) W fun e w' => e = .returned (.tuple #[]) ∧ J (le x p) w' ∧ Below B W w')
    (sR : ∀ x (p : Nat × Nat) W, J x W → B ≤ W.heap.size → Calls Tryz.prog FR (#[.agg #[.int .u64 (p.1 : Int), .int .u64 (p.2 : Int)]] ++ cR) W fun e w' => e = .returned (.tuple #[]) ∧ J (ri x p) w' ∧ Below B W w')
    (l : List (Nat × Nat)) (hl : l.length < 64) (a n : Nat) (ha : a < n) (hn : n ≤ 64) (A : Option Addr) (c : Nat) (x : α) (w : World) (hB : B ≤ w.heap.size) (hr : Reads w B 2 A l.length (sumV l)) (h0 : J x w) :
    Calls Tryz.prog 56 #[.int .i64 a, .int .i64 n, .slice A l.length c, .func (.func FL) #[] cL, .func (.func FR) #[] cR] w fun e w' => e = .returned (.tuple #[]) ∧ J (climbF le ri l a (n - 1) x) w' ∧ Below B w w' := by
  have hr0 := Lib.hid hr
  have HL := Lib.hid sL
  have HR := Lib.hid sR
  have HJ0 := Lib.hid hJ
  have HN := Lib.hid hl
  have H0 := Lib.hid h0
  have HB0 := Lib.hid hB
  have n1 : (n : Int) - 1 = ((n - 1 : Nat) : Int) := by omega
  obtain ⟨q, hq⟩ : ∃ q, n - 1 = q := ⟨_, rfl⟩
  rw [hq] at n1 ⊢
  have HQ : Hid (q < 64 ∧ a < 64) := Lib.hid ⟨by omega, by omega⟩
  have hnb : (n : Int) ≤ 64 := by omega
  unfold Enters at hL hR
  clear hr sL sR hJ h0 hB ha hn hq hl
  go_enter Tryz.func56, Tryz.ntmps56
  go_wp2
  try go_step3
  try go_wp2
  try go_step3
  try go_wp2
  go_loopg [0, 10, 17] l.length (fun m s0 s10 s17 wr => ∃ (j a' l' : Nat) (x' : α), j + m = l.length ∧ s17 = .int .i64 j ∧ s0 = .int .i64 a' ∧ s10 = .int .i64 l' ∧ a' < 64 ∧ l' < 64 ∧ climbF le ri (l.drop j) a' l' x' = climbF le ri l a q x ∧ J x' wr ∧ Below B w wr)
  case atStart => exact ⟨0, a, q, x, by omega, rfl, rfl, by first | rfl | exact int_congr (by omega), HQ.out.2, HQ.out.1, rfl, H0.out, Below.refl _ _⟩
  case round =>
    obtain ⟨j, a', l', x', hj, rfl, rfl, rfl, ha', hl', hc, hJx, hbw⟩ := hrel
    by_cases h : j < l.length
    · obtain ⟨p, hp⟩ : ∃ s, l[j]? = some s := ⟨_, List.getElem?_eq_getElem h⟩
      obtain ⟨ad, rfl, hlt, q0, q1⟩ := reads_sum (hr0.out.below hbw) hp
      have hjb : (j : Int) ≤ 64 := by have := HN.out; omega
      have hab : (a' : Int) ≤ 64 := by omega
      have hlb : (l' : Int) ≤ 64 := by omega
      have hBr : B ≤ wr.heap.size := Nat.le_trans HB0.out hbw.size
      have k1 := i64_and1 a' ha'
      have e1 : l.drop j = p :: l.drop (j + 1) := drop_at hp
      rw [e1, climb_cons] at hc
      obtain ⟨W1, e2⟩ : ∃ W, wr.alloc (.cells #[.int .u64 (p.1 : Int), .int .u64 (p.2 : Int)] 34) = W := ⟨_, rfl⟩
      have hE2 : Ext wr W1 := by rw [← e2]; exact (Ext.refl wr).alloc _
      have b2 : Blk W1 wr.heap.size 34 #[.int .u64 (p.1 : Int), .int .u64 (p.2 : Int)] := by rw [← e2]; exact Blk.new _ _ _
      have hJ2 := HJ0.out _ _ _ hJx hBr hE2
      have hB2 : B ≤ W1.heap.size := Nat.le_trans hBr hE2.size
      have hw2 : Below B w W1 := hbw.trans (Below.mono hE2.out hBr)
      have HJ := Lib.hid hj
      have HC := Lib.hid hc
      have HW2 := Lib.hid hw2
      have HAL : Hid (a' < 64 ∧ l' < 64) := Lib.hid ⟨ha', hl'⟩
      by_cases hodd : a' % 2 = 0
      · by_cases hne : a' = l'
        · have hc2 := hc
          rw [if_neg (by omega)] at hc2
          have HC := Lib.hid hc2
          have t1 : ((a' : Int) != (l' : Int)) = false := by simp; omega
          have t2 : decide ((a' : Int) = (l' : Int)) = true := by simp; omega
          have k1' : bits .and .i64 (a' : Int) 1 = 0 := by rw [k1, hodd]; rfl
          clear k1 hc hc2 hodd hne hj hJx hbw hw2 ha' hl'
          have m0 := b2.cell 0
          have m1 := b2.cell 1
          go_upto_region 4 with (fail)
          try rw [e2]
          clear e2
          obtain ⟨G, hG⟩ : ∃ G, G = gk - 1 := ⟨_, rfl⟩
          have HG : Hid (G < gk ∧ j + 1 + G = l.length) := Lib.hid (by have := HJ.out; omega)
          have HAL2 := HAL
          go_upto_region 8 with (go_at_fn FL; refine (HL.out x' p W1 hJ2 hB2).mono ?_; clear hJ2 m0 m1; rintro e w3 ⟨rfl, hJ3, hB3⟩)
          have HJ3 := Lib.hid hJ3
          have HB3 := Lib.hid hB3
          clear hJ3 hB3 hG
          go_loopg [0, 10] a' (fun m s0 s10 wr => ∃ a2 l2 : Nat, s0 = .int .i64 a2 ∧ s10 = .int .i64 l2 ∧ a2 ≤ m ∧ a2 < 64 ∧ l2 < 64 ∧ strip a2 l2 = strip a' l' ∧ w3 = wr)
          case atStart => exact ⟨a', l', rfl, rfl, Nat.le_refl _, HAL.out.1, HAL.out.2, rfl, rfl⟩
          case round =>
            obtain ⟨a2, l2, rfl, rfl, hm2, ha2, hl2, hs2, rfl⟩ := hrel
            have k2 := i64_and1 a2 ha2
            have ab2 : (a2 : Int) ≤ 64 := by omega
            have lb2 : (l2 : Int) ≤ 64 := by omega
            have HM2 : Hid (a2 ≤ gk ∧ a2 < 64 ∧ l2 < 64) := Lib.hid ⟨hm2, ha2, hl2⟩
            by_cases ho : a2 % 2 = 0
            · by_cases hz : a2 = 0
              · subst hz
                have HS := Lib.hid ((strip_no (a := 0) (l := l2) (by omega)).symm.trans hs2)
                clear k2 ho hs2 hm2 ha2 hl2
                have k3 : bits .and .i64 (((0 : Nat) : Int)) 1 = 0 := by decide
                go_wp2
                have hg := HG.out
                have hm2 := HM2.out
                go_roundg G
                case measure => exact hg.1
                case rel => exact ⟨j + 1, 0, l2 / 2, le x' p, by omega, int_congr (by omega), int_congr (by omega), int_congr (by omega), by omega, by omega, (by rw [← HC.out, ← HS.out] <;> simp), HJ3.out, HW2.out.trans HB3.out⟩
              · have HS := Lib.hid ((strip_yes ⟨ho, hz⟩).symm.trans hs2)
                have k3 : bits .and .i64 (a2 : Int) 1 = 0 := by rw [k2, ho]; rfl
                have t5 : ((a2 : Int) != 0) = true := by simp; omega
                have t6 : decide ((a2 : Int) = 0) = false := by simp; omega
                have t7 : ¬ (a2 : Int) = 0 := by omega
                have HO : Hid (a2 % 2 = 0 ∧ a2 ≠ 0) := Lib.hid ⟨ho, hz⟩
                clear k2 ho hz hs2 hm2 ha2 hl2
                go_wp2
                have hm2 := HM2.out
                have hoo := HO.out
                go_roundg (gk - 1)
                case measure => omega
                case rel => exact ⟨a2 / 2, l2 / 2, int_congr (by omega), int_congr (by omega), by omega, by omega, by omega, HS.out, rfl⟩
            · have HS := Lib.hid ((strip_no (a := a2) (l := l2) (by omega)).symm.trans hs2)
              have k3 : bits .and .i64 (a2 : Int) 1 = 1 := by rw [k2, show a2 % 2 = 1 by omega]; rfl
              clear k2 ho hs2 hm2 ha2 hl2
              go_wp2
              have hg := HG.out
              have hm2 := HM2.out
              go_roundg G
              case measure => exact hg.1
              case rel => exact ⟨j + 1, a2 / 2, l2 / 2, le x' p, by omega, int_congr (by omega), int_congr (by omega), int_congr (by omega), by omega, by omega, (by rw [← HC.out, ← HS.out] <;> simp), HJ3.out, HW2.out.trans HB3.out⟩
        · have hc2 := hc
          rw [if_pos ⟨hodd, hne⟩] at hc2
          have HC := Lib.hid hc2
          have t1 : ((a' : Int) != (l' : Int)) = true := by simp; omega
          have t2 : decide ((a' : Int) = (l' : Int)) = false := by simp; omega
          have t3 : ¬ (a' : Int) = (l' : Int) := by omega
          have k1' : bits .and .i64 (a' : Int) 1 = 0 := by rw [k1, hodd]; rfl
          clear k1 hc hc2 hodd hne hj hJx hbw hw2 ha' hl'
          have m0 := b2.cell 0
          have m1 := b2.cell 1
          go_upto_region 4 with (fail)
          try rw [e2]
          clear e2
          go_wp2_with (go_at_fn FR; refine (HR.out x' p W1 hJ2 hB2).mono ?_; clear hJ2 m0 m1; rintro e w3 ⟨rfl, hJ3, hB3⟩)
          have hj := HJ.out
          have hal := HAL.out
          go_roundg (gk - 1)
          case measure => omega
          case rel => exact ⟨j + 1, a' / 2, l' / 2, ri x' p, by omega, int_congr (by omega), int_congr (by omega), int_congr (by omega), by omega, by omega, HC.out, hJ3, HW2.out.trans hB3⟩
      · have hc2 := hc
        rw [if_neg (by omega)] at hc2
        have HC := Lib.hid hc2
        have k1' : bits .and .i64 (a' : Int) 1 = 1 := by rw [k1, show a' % 2 = 1 by omega]; rfl
        clear k1 hc hc2 hodd hj hJx hbw hw2 ha' hl'
        have m0 := b2.cell 0
        have m1 := b2.cell 1
        go_upto_region 4 with (fail)
        try rw [e2]
        clear e2
        obtain ⟨G, hG⟩ : ∃ G, G = gk - 1 := ⟨_, rfl⟩
        have HG : Hid (G < gk ∧ j + 1 + G = l.length) := Lib.hid (by have := HJ.out; omega)
        have HAL2 := HAL
        go_upto_region 8 with (go_at_fn FL; refine (HL.out x' p W1 hJ2 hB2).mono ?_; clear hJ2 m0 m1; rintro e w3 ⟨rfl, hJ3, hB3⟩)
        have HJ3 := Lib.hid hJ3
        have HB3 := Lib.hid hB3
        clear hJ3 hB3 hG
        go_loopg [0, 10] a' (fun m s0 s10 wr => ∃ a2 l2 : Nat, s0 = .int .i64 a2 ∧ s10 = .int .i64 l2 ∧ a2 ≤ m ∧ a2 < 64 ∧ l2 < 64 ∧ strip a2 l2 = strip a' l' ∧ w3 = wr)
        case atStart => exact ⟨a', l', rfl, rfl, Nat.le_refl _, HAL.out.1, HAL.out.2, rfl, rfl⟩
        case round =>
          obtain ⟨a2, l2, rfl, rfl, hm2, ha2, hl2, hs2, rfl⟩ := hrel
          have k2 := i64_and1 a2 ha2
          have ab2 : (a2 : Int) ≤ 64 := by omega
          have lb2 : (l2 : Int) ≤ 64 := by omega
          have HM2 : Hid (a2 ≤ gk ∧ a2 < 64 ∧ l2 < 64) := Lib.hid ⟨hm2, ha2, hl2⟩
          by_cases ho : a2 % 2 = 0
          · by_cases hz : a2 = 0
            · subst hz
              have HS := Lib.hid ((strip_no (a := 0) (l := l2) (by omega)).symm.trans hs2)
              clear k2 ho hs2 hm2 ha2 hl2
              have k3 : bits .and .i64 (((0 : Nat) : Int)) 1 = 0 := by decide
              go_wp2
              have hg := HG.out
              have hm2 := HM2.out
              go_roundg G
              case measure => exact hg.1
              case rel => exact ⟨j + 1, 0, l2 / 2, le x' p, by omega, int_congr (by omega), int_congr (by omega), int_congr (by omega), by omega, by omega, (by rw [← HC.out, ← HS.out] <;> simp), HJ3.out, HW2.out.trans HB3.out⟩
            · have HS := Lib.hid ((strip_yes ⟨ho, hz⟩).symm.trans hs2)
              have k3 : bits .and .i64 (a2 : Int) 1 = 0 := by rw [k2, ho]; rfl
              have t5 : ((a2 : Int) != 0) = true := by simp; omega
              have t6 : decide ((a2 : Int) = 0) = false := by simp; omega
              have t7 : ¬ (a2 : Int) = 0 := by omega
              have HO : Hid (a2 % 2 = 0 ∧ a2 ≠ 0) := Lib.hid ⟨ho, hz⟩
              clear k2 ho hz hs2 hm2 ha2 hl2
              go_wp2
              have hm2 := HM2.out
              have hoo := HO.out
              go_roundg (gk - 1)
              case measure => omega
              case rel => exact ⟨a2 / 2, l2 / 2, int_congr (by omega), int_congr (by omega), by omega, by omega, by omega, HS.out, rfl⟩
          · have HS := Lib.hid ((strip_no (a := a2) (l := l2) (by omega)).symm.trans hs2)
            have k3 : bits .and .i64 (a2 : Int) 1 = 1 := by rw [k2, show a2 % 2 = 1 by omega]; rfl
            clear k2 ho hs2 hm2 ha2 hl2
            go_wp2
            have hg := HG.out
            have hm2 := HM2.out
            go_roundg G
            case measure => exact hg.1
            case rel => exact ⟨j + 1, a2 / 2, l2 / 2, le x' p, by omega, int_congr (by omega), int_congr (by omega), int_congr (by omega), by omega, by omega, (by rw [← HC.out, ← HS.out] <;> simp), HJ3.out, HW2.out.trans HB3.out⟩
    · obtain rfl : j = l.length := by omega
      have e1 : l.drop l.length = [] := List.drop_length
      rw [e1] at hc
      have HC := Lib.hid hc
      have HJX := Lib.hid hJx
      have HW := Lib.hid hbw
      clear hj ha' hl' hc hJx hbw h e1
      go_wp2
      rw [Exit.noGoto_normal]
      refine bodyPost_end (results_none rfl _ _ _) rfl ?_
      exact ⟨rfl, by rw [← HC.out]; exact HJX.out, HW.out⟩
end Go.Proofs.YtfpmfegmehbfbaaGreatDoor

/- Trees of hashes, walked: half, steps, what is done on the way up, Check. -/
namespace Go.Proofs.YtfpmfegmehbfbaaGreatDoor
set_option linter.unusedVariables false
set_option linter.unusedSimpArgs false
set_option linter.unusedSimpArgs false
open Go.RowKit Go.Shelf Go.Maps

/-- Two hashes' hash. -/
def prS (a b : Nat × Nat) : Nat × Nat := hSum (pairB a.1 a.2 b.1 b.2)
/-- The hash of no leaves. -/
def zS : Nat × Nat := hSum (coded (strN ⟨#[101, 109, 112, 116, 121]⟩) [])
theorem prS_any (a b : Nat × Nat) (w : World) :
    Calls Tryz.prog 58 #[.agg #[.int .u64 (a.1 : Int), .int .u64 (a.2 : Int)], .agg #[.int .u64 (b.1 : Int), .int .u64 (b.2 : Int)]] w fun e w' => e = .returned (.agg #[.int .u64 ((prS a b).1 : Int), .int .u64 ((prS a b).2 : Int)]) ∧ Ext w w' :=
  Pair_any a.1 a.2 b.1 b.2 w
set_option maxHeartbeats 1000000 in
theorem half_any (n : Nat) (h2 : 2 ≤ n) (hn : n < 64) (w : World) : Calls Tryz.prog 133 #[.int .i64 n] w fun e w' => e = .returned (.int .i64 (halfF n : Nat)) ∧ w = w' := by
  obtain ⟨k, hk⟩ : ∃ k, n - 1 = k := ⟨_, rfl⟩
  have hb := half_bits n hn h2
  rw [hk] at hb
  obtain ⟨p1, p2⟩ := bitLen_pos k (by omega) (by omega)
  have cL := fun w => Tryz.bits_Len k w (by omega) (by omega)
  obtain ⟨L, hL⟩ : ∃ L, Go.Lib.bitLen k = L + 1 := ⟨Go.Lib.bitLen k - 1, by omega⟩
  have cL' : ∀ w, Calls Tryz.prog 134 #[.int .u64 (k : Int)] w fun e w' => e = .returned (.int .i64 ((L : Int) + 1)) ∧ w = w' := fun w => (cL w).mono fun e w' ⟨he, hw⟩ => ⟨by rw [he]; simp [hL], hw.symm⟩
  rw [hL, Nat.add_sub_cancel] at hb
  rw [hb]
  have n1 : (n : Int) - 1 = (k : Int) := by omega
  have hkb : (k : Int) < 64 := by omega
  have hLb : (L : Int) ≤ 6 := by omega
  have hp : ((2 ^ L : Nat) : Int) ≤ 64 := by
    have := Nat.pow_le_pow_right (n := 2) (by omega) (show L ≤ 6 by omega)
    have e : (2 : Nat) ^ 6 = 64 := by decide
    omega
  obtain ⟨q, hq⟩ : ∃ q, 2 ^ L = q := ⟨_, rfl⟩
  have hq' : (2 : Int) ^ L = (q : Int) := by rw [← hq]; push_cast; rfl
  rw [hq] at hp ⊢
  clear cL hL hb hk h2 p1 p2 hq hn
  go_enter Tryz.func133, Tryz.ntmps133
  go_wp2_with (go_at_call 134; refine (cL' _).mono ?_; clear cL'; rintro e w' ⟨rfl, rfl⟩)
  go_ret
  exact ⟨by first | rfl | simp, rfl⟩
end Go.Proofs.YtfpmfegmehbfbaaGreatDoor
