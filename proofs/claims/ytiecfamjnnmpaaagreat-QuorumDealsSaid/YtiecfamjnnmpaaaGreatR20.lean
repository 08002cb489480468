/- Parts of the proofs, put together: QuLive, QuLive2, QuRL, QuRL2. -/
import Derived.Lib.SlBytesConst
import Derived.Test.YtiecfamjnnmpaaaGreatR18
import Derived.Test.YtiecfamjnnmpaaaGreatR19
/- Statements of crews, walked: few; what the example is made of. -/
namespace Go.Proofs.YtiecfamjnnmpaaaGreat
set_option linter.unusedVariables false
open Go.RowKit Go.Shelf Go.Maps
attribute [local irreducible] atN prodN sumN wantN chkN mix hSum hNum chalN chN scN qnN crewN enN rightN allN comE comS splitL partS

theorem few6_any (t n k : Value) (A B M : Option Addr) (p c l d m e : Nat) (w : World) : Calls Tryz.prog 8 #[.agg #[t, n, k, .slice A p c], .slice B l d, .slice M m e] w fun e w' => e = .returned (.bool (decide (p ≤ 20 ∧ l ≤ 20 ∧ m ≤ 200))) ∧ Ext w w' := by
  have xx : Ext w (w.alloc (.cells #[t, n, k, .slice A p c] 26)) := (Ext.refl w).alloc _
  by_cases h1 : p ≤ 20
  · have k1 : (p : Int) ≤ 20 := by omega
    by_cases h2 : l ≤ 20
    · have k2 : (l : Int) ≤ 20 := by omega
      by_cases h3 : m ≤ 200
      · have k3 : (m : Int) ≤ 200 := by omega
        rw [decide_eq_true ⟨h1, h2, h3⟩]
        clear h1 h2 h3
        go_enter Tryz.func8, Tryz.ntmps8
        go_wp2
        go_ret
        exact ⟨by simp, xx⟩
      · have k3 : ¬ (m : Int) ≤ 200 := by omega
        rw [decide_eq_false fun h => h3 h.2.2]
        clear h1 h2 h3
        go_enter Tryz.func8, Tryz.ntmps8
        go_wp2
        go_ret
        exact ⟨by simp, xx⟩
    · have k2 : ¬ (l : Int) ≤ 20 := by omega
      rw [decide_eq_false fun h => h2 h.2.1]
      clear h1 h2
      go_enter Tryz.func8, Tryz.ntmps8
      go_wp2
      go_ret
      exact ⟨by simp, xx⟩
  · have k1 : ¬ (p : Int) ≤ 20 := by omega
    rw [decide_eq_false fun h => h1 h.1]
    clear h1
    go_enter Tryz.func8, Tryz.ntmps8
    go_wp2
    go_ret
    exact ⟨by simp, xx⟩

/-! ### the example -/
def shN (u tn : Nat) (seed : List Nat) (i : Nat) : Int × Nat := (((i + 1 : Nat) : Int), evZ (polyN u tn seed) (i + 1) % bR)
theorem who5 (u : Nat) (seed : List Nat) : whoL u 2 3 seed 5 = [shN u 2 seed 0, shN u 2 seed 2] := by
  have a0 := splitL_at u 2 3 seed (k := 0) (by decide)
  have a1 := splitL_at u 2 3 seed (k := 1) (by decide)
  have a2 := splitL_at u 2 3 seed (k := 2) (by decide)
  have b0 : bitB 5 0 = true := by decide
  have b1 : bitB 5 1 = false := by decide
  have b2 : bitB 5 2 = true := by decide
  unfold whoL
  rw [pickB_succ _ _ a2, pickB_succ _ _ a1, pickB_succ _ _ a0, b0, b1, b2]
  rfl
theorem who1 (u : Nat) (seed : List Nat) : whoL u 2 3 seed 1 = [shN u 2 seed 0] := by
  have a0 := splitL_at u 2 3 seed (k := 0) (by decide)
  have a1 := splitL_at u 2 3 seed (k := 1) (by decide)
  have a2 := splitL_at u 2 3 seed (k := 2) (by decide)
  have b0 : bitB 1 0 = true := by decide
  have b1 : bitB 1 1 = false := by decide
  have b2 : bitB 1 2 = false := by decide
  unfold whoL
  rw [pickB_succ _ _ a2, pickB_succ _ _ a1, pickB_succ _ _ a0, b0, b1, b2]
  rfl
/-- What is signed is a signature by the crew's key. -/
theorem sg_check {u tn nn : Nat} {seed : List Nat} (h1 : 1 ≤ tn) (h2 : tn ≤ nn) (h7 : nn ≤ 7) (hu : u < bR) (m : List Nat) (who ss : Int) (hf : ¬ (whoL u tn nn seed who).length < tn) :
    checkN (powM bQ 4 u) m (qsS u tn nn seed m who ss).1 (qsS u tn nn seed m who ss).2 = 0 := by
  have hs := whoL_sub u tn nn seed who
  have hq : qsP u tn nn seed m who ss = parL (powM bQ 4 u) m ss (comL m ss (whoL u tn nn seed who)) (whoL u tn nn seed who) := by unfold qsP; rw [if_neg hf]; rfl
  have h := deal_cmbE h1 h2 h7 hu m ss hs (qsP u tn nn seed m who ss)
  rw [if_neg hf, hq, deal_all m ss hs] at h
  have := signs_plain h
  unfold qsS
  rw [if_neg hf, hq]
  exact this
theorem sg_wrong {u tn nn : Nat} {seed : List Nat} (h1 : 1 ≤ tn) (h2 : tn ≤ nn) (h7 : nn ≤ 7) (hu : u < bR) (m : List Nat) (who ss : Int) (hf : ¬ (whoL u tn nn seed who).length < tn) {j : Nat} {s : Int × Nat} (hj : (qsP u tn nn seed m who ss)[j]? = some s) {by_ : Nat} (hb : by_ % bR ≠ 0) :
    cmbV tn nn (powM bQ 4 u) (pubL (splitL u tn nn seed)) m (qsC u tn nn seed m who ss) ((qsP u tn nn seed m who ss).set j (s.1, addM bR s.2 (by_ % bR))) = .tuple #[.agg #[.int .u64 0, .int .u64 0], .int .i64 60] := by
  have hs := whoL_sub u tn nn seed who
  have hq : qsP u tn nn seed m who ss = parL (powM bQ 4 u) m ss (comL m ss (whoL u tn nn seed who)) (whoL u tn nn seed who) := by unfold qsP; rw [if_neg hf]; rfl
  rw [hq] at hj ⊢
  have hj2 := hj
  unfold parL at hj2
  rw [List.getElem?_map] at hj2
  obtain ⟨r, hr, rfl⟩ := Option.map_eq_some_iff.1 hj2
  have h := deal_cmbE h1 h2 h7 hu m ss hs ((parL (powM bQ 4 u) m ss (comL m ss (whoL u tn nn seed who)) (whoL u tn nn seed who)).set j (r.1, addM bR (partS (powM bQ 4 u) m (comL m ss (whoL u tn nn seed who)) r.1 r.2 ss) (by_ % bR)))
  rw [if_neg hf, deal_wrong m ss hs _ hr hb] at h
  unfold cmbV cmbS
  show Value.tuple #[.agg #[.int .u64 (((if cmbE (tn : Int) (nn : Int) (powM bQ 4 u) (pubL (splitL u tn nn seed)) m (comL m ss (whoL u tn nn seed who)) _ = 0 then _ else ((0, 0) : Nat × Nat)).1 : Nat) : Int), _], _] = _
  unfold qsC
  rw [h]
  rfl
end Go.Proofs.YtiecfamjnnmpaaaGreat

/- Statements of crews, walked: the document's example. -/
namespace Go.Proofs.YtiecfamjnnmpaaaGreat
set_option linter.unusedVariables false
open Go.RowKit Go.Shelf Go.Maps
attribute [local irreducible] atN prodN sumN wantN chkN mix hSum hNum chalN chN scN qnN crewN enN rightN allN comE comS splitL partS

theorem reads_one (w : World) (T : TypeId) (fr : Nat × Nat) (x : Nat) : Reads (w.alloc (.cells #[.int .u8 (x : Int)] T fr)) (w.alloc (.cells #[.int .u8 (x : Int)] T fr)).heap.size 1 (some ⟨w.heap.size, 0, none⟩) 1 (bv [x]) := by
  refine ⟨by simp [bv], fun _ => ⟨_, rfl, by simp, fun j u hj => ?_⟩⟩
  have e : (Addr.mk w.heap.size 0 none).add j = ⟨w.heap.size, j, none⟩ := by
    unfold Addr.add
    split <;> simp_all
  rw [e, cell_of_row _ w.heap.size j _ T fr (heap_alloc_new w _)]
  simpa [bv] using hj

theorem addr_two (a : Addr) : a.add 2 = ⟨a.block, a.off + 2, none⟩ := by unfold Addr.add; simp

set_option maxRecDepth 100000 in
set_option maxHeartbeats 4000000 in
theorem live6_any (w : World) : Calls Tryz.prog 7 #[] w fun e w' => e = .returned (.bool true) ∧ Ext w w' := by
  have cv := fun (w : World) (C : Array Value) (n c : Nat) => Lib.run_convert_bytes_const (P := Tryz.prog) w 22 5 C n c Tryz.underlying22 Tryz.underlying5
  have c1 := fun (w : World) T fr => Deal_ok [115] (by decide) (by decide) 2 3 (by decide) (by decide) (by decide) _ 1 (by decide) _ (reads_one w T fr 115)
  obtain ⟨u, hu⟩ : ∃ u, u = secN [115] := ⟨_, rfl⟩
  have hub : u < bR := by rw [hu]; exact secN_lt _
  have hl5 : ¬ (whoL u 2 3 [115] 5).length < 2 := by rw [who5]; exact Nat.lt_irrefl 2
  have hq5 : qsP u 2 3 [115] [109] 5 4 = parL (powM bQ 4 u) [109] 4 (qsC u 2 3 [115] [109] 5 4) (whoL u 2 3 [115] 5) := by unfold qsP; rw [if_neg hl5]
  have c2 := fun (W : World) P L M c1 c2 k1 k2 rp rl rm => signed_any u 2 3 [115] (by decide) (by decide) (by decide) hub [109] (by decide) (by decide) 5 4 (by decide) (by decide) P L M c1 c2 1 k1 k2 (by decide) W rp rl rm
  have c3 := fun (W : World) P L M c1 c2 k1 k2 rp rl rm => signed_any u 2 3 [115] (by decide) (by decide) (by decide) hub [109] (by decide) (by decide) 1 4 (by decide) (by decide) P L M c1 c2 1 k1 k2 (by decide) W rp rl rm
  have hck := sg_check (by decide) (by decide) (by decide) hub [109] 5 4 hl5
  have hE5 : qsE u 2 3 [115] 5 = 0 := by unfold qsE; rw [if_neg hl5]
  have hl1 : (whoL u 2 3 [115] 1).length < 2 := by rw [who1]; exact Nat.lt_succ_self 1
  have hE1 : qsE u 2 3 [115] 1 = 50 := by unfold qsE; rw [if_pos hl1]
  have hS1 : qsS u 2 3 [115] [109] 1 4 = (0, 0) := by unfold qsS; rw [if_pos hl1]
  have hP1 : qsP u 2 3 [115] [109] 1 4 = [] := by unfold qsP; rw [if_pos hl1]
  have hC5 : ∃ y0 y2 : Nat, qsC u 2 3 [115] [109] 5 4 = [(1, y0), (3, y2)] := ⟨_, _, by unfold qsC; rw [who5]; rfl⟩
  have hQ5 : ∃ z0 z2 : Nat, z0 < bR ∧ z2 < bR ∧ qsP u 2 3 [115] [109] 5 4 = [(1, z0), (3, z2)] := by
    refine ⟨partS (powM bQ 4 u) [109] (qsC u 2 3 [115] [109] 5 4) 1 (shN u 2 [115] 0).2 4, partS (powM bQ 4 u) [109] (qsC u 2 3 [115] [109] 5 4) 3 (shN u 2 [115] 2).2 4, ?_, ?_, ?_⟩
    · unfold partS; exact addM_lt' (by decide) _ _
    · unfold partS; exact addM_lt' (by decide) _ _
    · rw [hq5, who5]; rfl
  obtain ⟨y0, y2, hC⟩ := hC5
  obtain ⟨z0, z2, hz0, hz2, hQ⟩ := hQ5
  have hw := sg_wrong (u := u) (tn := 2) (nn := 3) (seed := [115]) (by decide) (by decide) (by decide) hub [109] 5 4 hl5 (j := 1) (s := (3, z2)) (by rw [hQ]; rfl) (by_ := 1) (by decide)
  have hsv := deal_sesV (u := u) (tn := 2) (seed := [115]) (show 3 ≤ 7 by decide) (m := [109]) (by decide) (by decide) 4 (whoL_sub u 2 3 [115] 5)
  have hlt := addM_lt' (m := bR) (by decide) z2 (1 % bR)
  have c4 := fun (W : World) A M B D c d e f hc hd he hp hm hl hq => Combine_any (2 : Nat) (3 : Nat) (powM bQ 4 u) (pubL (splitL u 2 3 [115])) [109] (comL [109] 4 (whoL u 2 3 [115] 5)) hsv ((qsP u 2 3 [115] [109] 5 4).set 1 (3, addM bR z2 (1 % bR))) (by rw [hQ]; intro s hs; simp at hs; rcases hs with rfl | rfl; exact lt64_R hz0; exact lt64_R hlt) (by rw [hQ]; simp) A M B D c d e f hc hd he W hp hm hl hq
  have hwC : comL [109] 4 (whoL u 2 3 [115] 5) = qsC u 2 3 [115] [109] 5 4 := rfl
  rw [hwC] at c4
  simp only [hw] at c4
  have e1 : (1 % bR : Nat) = 1 := by decide
  rw [hQ, hC, e1] at c4
  obtain ⟨s1, hs1⟩ : ∃ x, x = (qsS u 2 3 [115] [109] 5 4).1 := ⟨_, rfl⟩
  obtain ⟨s2, hs2⟩ : ∃ x, x = (qsS u 2 3 [115] [109] 5 4).2 := ⟨_, rfl⟩
  have hs1b : s1 < bR := by rw [hs1]; unfold qsS; rw [if_neg hl5]; exact chN_lt _ _ _
  have hs2b : s2 < bR := by rw [hs2]; unfold qsS; rw [if_neg hl5]; exact sumQ_lt _
  unfold SgPost at c2 c3
  rw [who5, hQ, hC, hE5, ← hs1, ← hs2] at c2
  rw [who1, hP1, hS1, hE1] at c3
  rw [← hs1, ← hs2] at hck
  have hcrew := deal_crew (u := u) (tn := 2) (nn := 3) (seed := [115]) (by decide) (by decide) (by decide) hub
  have c5 := fun (W : World) M hr => Check_any (powM bQ 4 u) (lt64_Q (powM_lt (by decide) _ _)) s1 s2 (lt64_R hs1b) (lt64_R hs2b) [109] (by decide) (by decide) M 1 (by decide) W hr
  rw [hck] at c5
  have c6 := fun (W : World) A c hc hr => quCheck_any (2 : Nat) (3 : Nat) (powM bQ 4 u) (lt64_Q (powM_lt (by decide) _ _)) (pubL (splitL u 2 3 [115])) hsv.pw hsv.p64 A c hc hsv.pn W hr
  rw [hcrew] at c6
  have c7 := fun (W : World) => quCheck_any 0 0 0 (by decide) [] (by unfold idsWf; simp) (by simp) none 0 (Nat.le_refl _) (by simp) W Reads.none_
  rw [crew_out (.inl (by decide))] at c7
  have c8 := fun (W : World) => AddRE z2 1 W
  obtain ⟨z3, hz3⟩ : ∃ x, x = addM bR z2 1 := ⟨_, rfl⟩
  rw [← hz3] at c4 c8
  rw [← hu] at c1
  obtain ⟨k, hk⟩ : ∃ x, x = powM bQ 4 u := ⟨_, rfl⟩
  obtain ⟨p, hp⟩ : ∃ x, x = pubL (splitL u 2 3 [115]) := ⟨_, rfl⟩
  obtain ⟨l, hl⟩ : ∃ x, x = splitL u 2 3 [115] := ⟨_, rfl⟩
  have hpl : p.length = 3 := by rw [hp, pubL_length, splitL_length]
  rw [← hk] at c1 c2 c3 c4 c5 c6
  rw [← hp] at c1 c2 c3 c4 c6
  rw [← hl] at c1 c2 c3
  have z4 : (sv [(1, z0), (3, z2)]) = [.int .i64 1, .int .u64 (z0 : Int), .int .i64 3, .int .u64 (z2 : Int)] := rfl
  simp only [hpl, List.length_cons, List.length_nil, Nat.reduceAdd, Nat.zero_add, List.set_cons_succ, List.set_cons_zero, Int.cast_ofNat_Int] at c1 c2 c3 c4 c5 c6 c7 c8
  clear hu hub hl5 hq5 hck hE5 hl1 hE1 hS1 hP1 hC hz0 hz2 hQ hw hsv hlt hwC e1 hs1 hs2 hs1b hs2b hcrew hz3 hk hp hl hpl z4
  have cv2 := fun (w : World) (o : Obj) (C : Array Value) (n c : Nat) => cv (w.alloc o) C n c
  have c1' := fun (w : World) (o : Obj) T fr => c1 (w.alloc o) T fr
  simp only [World.size_alloc] at cv2 c1'
  clear c1
  have HM0 : Reads (w.alloc (.cells #[.int .u8 109] 5 (1, 2))) (w.alloc (.cells #[.int .u8 109] 5 (1, 2))).heap.size 1 (some ⟨w.heap.size, 0, none⟩) 1 (bv [109]) := reads_one w 5 (1, 2) 109
  have X0 : Ext w (w.alloc (.cells #[.int .u8 109] 5 (1, 2))) := (Ext.refl w).alloc _
  obtain ⟨W0, e0⟩ : ∃ W, W = w.alloc (.cells #[.int .u8 109] 5 (1, 2)) := ⟨_, rfl⟩
  have hz0 : W0.heap.size = w.heap.size + 1 := by rw [e0, World.size_alloc]
  have X0' := X0
  rw [← e0] at HM0 X0'
  have HM1 := Lib.hid fun (W : World) (x : Ext W0 W) => (HM0.below x.out).more x.size
  have HE0 := Lib.hid e0
  clear HM0 e0
  go_enter Tryz.func7, Tryz.ntmps7
  go_wp2_with (first
    | (go_at_call 9; refine (c1' _ _ _ _).mono ?_; clear c1'; rintro e w1 ⟨P, k1, L, k2, rfl, hk1, hk2, rp, rl, x1⟩; rw [← HE0.out] at x1; have y1 := ((Ext.refl W0).alloc _).trans x1; have HR := Lib.hid fun (W : World) (x : Ext w1 W) => And.intro ((rp.below x.out).more x.size) (And.intro ((rl.below x.out).more x.size) (HM1.out W (y1.trans x))); have b1 := Blk.new w1 26 #[.int .i64 2, .int .i64 3, .int .u64 (k : Int), .slice P 3 k1]; have HB1 := Lib.hid fun (W : World) (x : Ext (w1.alloc (.cells #[.int .i64 2, .int .i64 3, .int .u64 (k : Int), .slice P 3 k1] 26)) W) => arr4 (ext_blk x b1); clear rp rl b1; have z1 := (Ext.refl w1).alloc (.cells #[.int .i64 2, .int .i64 3, .int .u64 (k : Int), .slice P 3 k1] 26))
    | (go_at_call 23; refine (c2 _ _ _ _ _ _ hk1 hk2 (HR.out _ z1).1 (HR.out _ z1).2.1 (HR.out _ z1).2.2).mono ?_; clear c2; rintro e w2 ⟨A2, a2, B2, b2, rfl, ha2, hb2, ra2, rb2, x2⟩; have v2 := x2.alloc (.cells #[.int .u64 (s1 : Int), .int .u64 (s2 : Int)] 42); have z2' := z1.trans v2; obtain ⟨g0, g1, g2, g3⟩ := HB1.out _ v2; have r2 := Blk.new w2 42 #[.int .u64 (s1 : Int), .int .u64 (s2 : Int)]; have HB2 := Lib.hid fun (W : World) (x : Ext (w2.alloc (.cells #[.int .u64 (s1 : Int), .int .u64 (s2 : Int)] 42)) W) => two (ext_blk x r2); clear r2)
    | (go_at_call 23; refine (c3 _ _ _ _ _ _ hk1 hk2 (HR.out _ z2').1 (HR.out _ z2').2.1 (HR.out _ z2').2.2).mono ?_; clear c3; rintro e w3 ⟨A3, a3, B3, b3, rfl, -, -, -, -, x3⟩; have v3 := x3.alloc (.cells #[.int .u64 0, .int .u64 0] 42); have z3' := z2'.trans v3))
  obtain ⟨W3, e3⟩ : ∃ W, W = w3.alloc (.cells #[.int .u64 0, .int .u64 0] 42) := ⟨_, rfl⟩
  rw [← e3] at v3 z3' ⊢
  have v3' := v2
  have ra3 := (ra2.below (((Ext.refl w2).alloc (.cells #[.int .u64 (s1 : Int), .int .u64 (s2 : Int)] 42)).trans v3).out).more (((Ext.refl w2).alloc (.cells #[.int .u64 (s1 : Int), .int .u64 (s2 : Int)] 42)).trans v3).size
  have rb3 := (rb2.below (((Ext.refl w2).alloc (.cells #[.int .u64 (s1 : Int), .int .u64 (s2 : Int)] 42)).trans v3).out).more (((Ext.refl w2).alloc (.cells #[.int .u64 (s1 : Int), .int .u64 (s2 : Int)] 42)).trans v3).size
  obtain ⟨ad, rfl, -, q0, q1⟩ := reads_share rb3 (k := 0) rfl
  obtain ⟨_, e', -, q2, q3⟩ := reads_share rb3 (k := 1) rfl
  cases e'
  obtain ⟨ac, rfl, -, -, -⟩ := reads_share ra3 (k := 0) rfl
  simp only [Nat.zero_mul, add_zero', Nat.one_mul, addr_two] at q0 q1 q2 q3
  have HRA := Lib.hid fun (W : World) (x : Ext W3 W) => (ra3.below x.out).more x.size
  have HRB := Lib.hid fun (W : World) (x : Ext W3 W) => (rb3.below x.out).more x.size
  have HZ := Lib.hid fun (W : World) (x : Ext W3 W) => And.intro (HR.out W (z3'.trans x)) (And.intro (HB1.out W ((v2.trans v3).trans x)) (HB2.out W (v3.trans x)))
  have HY := Lib.hid (fun (W : World) (x : Ext W3 W) => (HE0.out ▸ X0 : Ext w W0).trans ((y1.trans z3').trans x) : ∀ W, Ext W3 W → Ext w W)
  clear e3 x1 x2 x3 v2 v3 v3' z1 z2' z3' y1 ra2 rb2 ra3 rb3 g0 g1 g2 g3 HR HB1 HB2 HE0 HM1 X0 X0' cv cv2
  go_region_held3 (fun w' => w'.cell? ad = some (.int .i64 1) ∧ w'.cell? ⟨ad.block, ad.off + 1, none⟩ = some (.int .u64 (z0 : Int)) ∧ w'.cell? ⟨ad.block, ad.off + 2, none⟩ = some (.int .i64 3) ∧ w'.cell? ⟨ad.block, ad.off + 2 + 1, none⟩ = some (.int .u64 (z2 : Int))) (go_keep) (first
    | (go_at_call 24; refine (c8 _).mono ?_; clear c8; rintro e w4 ⟨rfl, x4⟩; have x4 := (Ext.refl W3).drew.trans x4; have r0 := x4.cell q0; have r1 := x4.cell q1; have r2 := x4.cell q2; have r3 := x4.cell q3))
  have X4 := Lib.hid x4
  clear x4 q0 q1 q2 q3 r0 r1 r2 r3
  have rw_ : Reads (w4.alloc (.cells #[.int .i64 1, .int .u64 (z0 : Int), .int .i64 3, .int .u64 (z3 : Int)] 37)) (w4.alloc (.cells #[.int .i64 1, .int .u64 (z0 : Int), .int .i64 3, .int .u64 (z3 : Int)] 37)).heap.size 2 (some ⟨w4.heap.size, 0, none⟩) 2 (sv [(1, z0), (3, z3)]) := blk_reads2 (Blk.new w4 _ _)
  have X5 := X4.out.alloc (.cells #[.int .i64 1, .int .u64 (z0 : Int), .int .i64 3, .int .u64 (z3 : Int)] 37)
  obtain ⟨W5, e5⟩ : ∃ W, W = w4.alloc (.cells #[.int .i64 1, .int .u64 (z0 : Int), .int .i64 3, .int .u64 (z3 : Int)] 37) := ⟨_, rfl⟩
  rw [← e5] at rw_ X5 ⊢
  obtain ⟨⟨hr1, hr2, hr3⟩, ⟨g0, g1, g2, g3⟩, g4, g5⟩ := HZ.out W5 X5
  have hra := HRA.out W5 X5
  clear e5 X4
  go_wp2_with (first
    | (go_at_call 17; refine (c4 _ _ _ _ _ _ _ _ _ hk1 (Nat.le_refl 1) ha2 hr1 hr3 hra rw_).mono ?_; clear c4; rintro e w6 ⟨rfl, x6⟩; have X6 := (X5.trans x6).alloc (.cells #[.int .u64 0, .int .u64 0] 42); obtain ⟨⟨-, -, hs3⟩, ⟨f0, f1, f2, f3⟩, f4, f5⟩ := HZ.out _ X6)
    | (go_at_call 25; refine (c5 _ _ hs3).mono ?_; clear c5; rintro e w7 ⟨rfl, x7⟩; have X7 := X6.trans x7; obtain ⟨⟨ht1, -, -⟩, ⟨i0, i1, i2, i3⟩, -, -⟩ := HZ.out _ X7)
    | (go_at_call 13; refine (c6 _ _ _ hk1 ht1).mono ?_; clear c6; rintro e w8 ⟨rfl, x8⟩; have X8 := X7.trans x8)
    | (go_at_call 13; refine (c7 _).mono ?_; clear c7; rintro e w9 ⟨rfl, x9⟩; have X9 := X8.trans x9; have ra9 := HRA.out _ X9; have rb9 := HRB.out _ X9; obtain ⟨_, e', -, l0, l1⟩ := reads_share ra9 (k := 1) rfl; cases e'; obtain ⟨_, e', -, m0, m1⟩ := reads_share rb9 (k := 1) rfl; cases e'; simp only [Nat.one_mul, addr_two] at l0 l1 m0 m1))
  go_ret
  exact ⟨rfl, HY.out _ X9⟩
end Go.Proofs.YtiecfamjnnmpaaaGreat

/- Statements of crews, walked, with the document's answer: QuorumCommits, QuorumCombines, QuorumParts, QuorumDeals. -/
namespace Go.Proofs.YtiecfamjnnmpaaaGreat
set_option linter.unusedVariables false
open Go.RowKit Go.Shelf Go.Maps
attribute [local irreducible] atN prodN sumN wantN chkN mix hSum hNum chalN chN scN qnN crewN enN rightN allN comE comS splitL partS cpN cmbE cmbS partE partV checkN qsC qsP qsS qsE okC

theorem eqSg (a b n m : Int) (w : World) : (Op.equalIn 10000 42 (.agg #[.int .u64 a, .int .u64 n]) (.agg #[.int .u64 b, .int .u64 m])).run Tryz.prog w = .ok (decide (a = b ∧ n = m)) w := by
  have hf : (Tryz.prog.fieldsOf 42).toList.map (fun f => (f.name != "_", f.type, f.offset)) = [(true, 23, 0), (true, 23, 1)] := by kernel_rfl
  have key : ∀ fs : List Field, fs.map (fun f => (f.name != "_", f.type, f.offset)) = [(true, 23, 0), (true, 23, 1)] → (Op.eqFields 9999 #[.int .u64 a, .int .u64 n] #[.int .u64 b, .int .u64 m] fs).run Tryz.prog w = .ok (decide (a = b ∧ n = m)) w := by
    intro fs h
    rcases fs with _ | ⟨f, _ | ⟨g, _ | ⟨e, r⟩⟩⟩
    · simp at h
    · simp at h
    · simp only [List.map_cons, List.map_nil, List.cons.injEq, Prod.mk.injEq, and_true, bne_iff_ne, ne_eq] at h
      obtain ⟨⟨f1, f2, f3⟩, g1, g2, g3⟩ := h
      have p1 : ∀ (x y : Value) (w : World), (part 23 #[x, y] 0).run Tryz.prog w = .ok x w := fun x y w => by kernel_rfl
      have p2 : ∀ (x y : Value) (w : World), (part 23 #[x, y] 1).run Tryz.prog w = .ok y w := fun x y w => by kernel_rfl
      have p3 := fun w => run_equalIn_int (P := Tryz.prog) w 9998 23 .u64 .u64 a b Tryz.underlying23
      have p4 := fun w => run_equalIn_int (P := Tryz.prog) w 9998 23 .u64 .u64 n m Tryz.underlying23
      simp only [Op.eqFields, ne_eq, f1, g1, not_false_eq_true, if_true, f2, f3, g2, g3, Sem.run_bind, p1, Result.andThen_ok, p3]
      by_cases h1 : a = b
      · subst h1
        by_cases h2 : n = m
        · subst h2
          simp [p2, p4]
        · simp [p2, p4, h2]
      · simp [h1]
    · simp at h
  rw [run_equalIn_struct w 9999 42 _ _ (by kernel_rfl) (by kernel_rfl)]
  exact key _ hf

set_option maxRecDepth 100000 in
set_option maxHeartbeats 4000000 in
theorem walk_QuorumCommits (id : Int) (x : Nat) (ss : Int) (M : Option Addr) (d : Nat) (m : List Nat) (hid : (Lit.int .i64 id).wf = true) (hx : x < 18446744073709551616) (hss : (Lit.int .i64 ss).wf = true) (hmd : m.length ≤ d) (hmr : d ≤ 140737488351232) (hmb : ∀ y ∈ m, y < 256) (w : World) (rm : Reads w w.heap.size 1 M m.length (bv m)) :
    Calls Tryz.prog 4 #[.agg #[.int .i64 id, .int .u64 (x : Int)], .int .i64 ss, .slice M m.length d] w fun e w' => e = .returned (.bool true) ∧ Ext w w' := by
  have cl := fun W => live6_any W
  have X0 : Ext w (w.alloc (.cells #[.int .i64 id, .int .u64 (x : Int)] 37)) := (Ext.refl w).alloc _
  have HB := Lib.hid fun (W : World) (y : Ext (w.alloc (.cells #[.int .i64 id, .int .u64 (x : Int)] 37)) W) => two (ext_blk y (Blk.new w 37 #[.int .i64 id, .int .u64 (x : Int)]))
  by_cases hg : 200 < m.length
  · have g1 : (200 : Int) < (m.length : Int) := by omega
    clear hg hid hx hss hmd hmr hmb rm
    go_enter Tryz.func4, Tryz.ntmps4
    go_wp2_with (go_at_call 7; refine (cl _).mono ?_; clear cl; rintro e w1 ⟨rfl, x1⟩)
    go_ret
    exact ⟨rfl, X0.trans x1⟩
  · have g1 : ¬ (200 : Int) < (m.length : Int) := by omega
    have cA := fun (W : World) (x' : Ext w W) => Commit_any id x hx ss m hmb (by omega) M d hmd W ((rm.below x'.out).more x'.size)
    have cB := fun (W : World) (x' : Ext w W) => rCommit6_any id x hx ss m hmb (by omega) M d hmd W ((rm.below x'.out).more x'.size)
    unfold comV at cA cB
    obtain ⟨⟨a1, a2⟩, ha⟩ : ∃ a, a = comS id x ss m := ⟨_, rfl⟩
    obtain ⟨E, hE⟩ : ∃ E, E = comE id x ss := ⟨_, rfl⟩
    rw [← ha, ← hE] at cA cB
    simp only at cA cB
    have hse := fun w => (eqSh a1 a1 (a2 : Int) (a2 : Int) w).trans (by rw [decide_eq_true ⟨rfl, rfl⟩])
    clear hg hid hx hss hmd hmr hmb rm ha hE
    go_enter Tryz.func4, Tryz.ntmps4
    go_wp2_with (first
      | (go_at_call 7; refine (cl _).mono ?_; clear cl; rintro e w1 ⟨rfl, x1⟩; obtain ⟨b0, b1⟩ := HB.out _ x1)
      | (go_at_call 15; refine (cA _ (X0.trans x1)).mono ?_; clear cA; rintro e w2 ⟨rfl, x2⟩; have X2 := (x1.trans x2).alloc (.cells #[.int .i64 a1, .int .u64 (a2 : Int)] 37); obtain ⟨i0, i1⟩ := HB.out _ X2; have bo := Blk.new w2 37 #[.int .i64 a1, .int .u64 (a2 : Int)])
      | (go_at_call 16; refine (cB _ (X0.trans X2)).mono ?_; clear cB; rintro e w3 ⟨rfl, x3⟩; have X3 := X2.trans (x3.alloc (.cells #[.int .i64 a1, .int .u64 (a2 : Int)] 37)); obtain ⟨j0, j1⟩ := two (ext_blk (x3.alloc (.cells #[.int .i64 a1, .int .u64 (a2 : Int)] 37)) bo)))
    go_ret
    exact ⟨rfl, X0.trans X3⟩

set_option maxRecDepth 100000 in
set_option maxHeartbeats 4000000 in
theorem walk_QuorumCombines (t n : Int) (k : Nat) (A : Option Addr) (c : Nat) (p : List (Int × Nat)) (M : Option Addr) (d : Nat) (m : List Nat) (B : Option Addr) (e : Nat) (l : List (Int × Nat)) (D : Option Addr) (f : Nat) (q : List (Int × Nat))
    (ht : (Lit.int .i64 t).wf = true) (hn : (Lit.int .i64 n).wf = true) (hk : k < 18446744073709551616) (hpc : p.length ≤ c) (hpw : idsWf p) (hp64 : ∀ s ∈ p, s.2 < 18446744073709551616)
    (hmd : m.length ≤ d) (hmr : d ≤ 140737488351232) (hmb : ∀ y ∈ m, y < 256) (hle : l.length ≤ e) (hlr : e * 16 ≤ 140737488351232) (hlw : idsWf l) (hl64 : ∀ s ∈ l, s.2 < 18446744073709551616) (hqf : q.length ≤ f) (hqr : f * 16 ≤ 140737488351232) (hqw : idsWf q) (hq64 : ∀ s ∈ q, s.2 < 18446744073709551616) (w : World)
    (rp : Reads w w.heap.size 2 A p.length (sv p)) (rm : Reads w w.heap.size 1 M m.length (bv m)) (rl : Reads w w.heap.size 2 B l.length (sv l)) (rq : Reads w w.heap.size 2 D q.length (sv q)) :
    Calls Tryz.prog 5 #[.agg #[.int .i64 t, .int .i64 n, .int .u64 (k : Int), .slice A p.length c], .slice M m.length d, .slice B l.length e, .slice D q.length f] w fun e w' => e = .returned (.bool true) ∧ Ext w w' := by
  have cl := fun W => live6_any W
  have cf := fun W => few6_any (.int .i64 t) (.int .i64 n) (.int .u64 (k : Int)) A B M p.length c l.length e m.length d W
  have X0 : Ext w (w.alloc (.cells #[.int .i64 t, .int .i64 n, .int .u64 (k : Int), .slice A p.length c] 26)) := (Ext.refl w).alloc _
  have HB := Lib.hid fun (W : World) (x : Ext (w.alloc (.cells #[.int .i64 t, .int .i64 n, .int .u64 (k : Int), .slice A p.length c] 26)) W) => arr4 (ext_blk x (Blk.new w 26 #[.int .i64 t, .int .i64 n, .int .u64 (k : Int), .slice A p.length c]))
  by_cases hfew : p.length ≤ 20 ∧ l.length ≤ 20 ∧ m.length ≤ 200
  · rw [decide_eq_true hfew] at cf
    by_cases hq20 : 20 < q.length
    · have d1 : (20 : Int) < (q.length : Int) := by omega
      clear rp rm rl rq hpc hpw hp64 hmd hmr hmb hle hlr hlw hl64 hqf hqr hqw hq64 ht hn hk hfew hq20
      go_enter Tryz.func5, Tryz.ntmps5
      go_wp2_with (first
        | (go_at_call 7; refine (cl _).mono ?_; clear cl; rintro e w1 ⟨rfl, x1⟩; obtain ⟨g0, g1, g2, g3⟩ := HB.out _ x1)
        | (go_at_call 8; refine (cf _).mono ?_; clear cf; rintro e w2 ⟨rfl, x2⟩))
      go_ret
      exact ⟨rfl, (X0.trans x1).trans x2⟩
    · have d1 : ¬ (20 : Int) < (q.length : Int) := by omega
      have v : SesV k p m l := ⟨hk, hpw, hp64, by omega, hmb, by omega, hlw, hl64, by omega⟩
      have cX := fun (W : World) (x : Ext w W) => Combine_any t n k p m l v q hq64 (by omega) A M B D c d e f hpc hmd hle W ((rp.below x.out).more x.size) ((rm.below x.out).more x.size) ((rl.below x.out).more x.size) ((rq.below x.out).more x.size)
      have cY := fun (W : World) (x : Ext w W) => rCombine6_any t n k p m l v q hq64 (by omega) A M B D c d e f hpc hmd W ((rp.below x.out).more x.size) ((rm.below x.out).more x.size) ((rl.below x.out).more x.size) ((rq.below x.out).more x.size)
      unfold cmbV at cX cY
      obtain ⟨⟨a1, a2⟩, ha⟩ : ∃ a, a = cmbS t n k p m l q := ⟨_, rfl⟩
      obtain ⟨E, hE⟩ : ∃ E, E = cmbE t n k p m l q := ⟨_, rfl⟩
      rw [← ha, ← hE] at cX cY
      simp only at cX cY
      have hse := fun w => (eqSg (a1 : Int) (a1 : Int) (a2 : Int) (a2 : Int) w).trans (by rw [decide_eq_true ⟨rfl, rfl⟩])
      clear rp rm rl rq hpc hpw hp64 hmd hmr hmb hle hlr hlw hl64 hqf hqr hqw hq64 ht hn hk hfew hq20 v ha hE
      go_enter Tryz.func5, Tryz.ntmps5
      go_wp2_with (first
        | (go_at_call 7; refine (cl _).mono ?_; clear cl; rintro e w1 ⟨rfl, x1⟩; obtain ⟨g0, g1, g2, g3⟩ := HB.out _ x1)
        | (go_at_call 8; refine (cf _).mono ?_; clear cf; rintro e w2 ⟨rfl, x2⟩; have X2 := x1.trans x2; obtain ⟨h0, h1, h2, h3⟩ := HB.out _ X2)
        | (go_at_call 17; refine (cX _ (X0.trans X2)).mono ?_; clear cX; rintro e w3 ⟨rfl, x3⟩; have X3 := (X2.trans x3).alloc (.cells #[.int .u64 (a1 : Int), .int .u64 (a2 : Int)] 42); obtain ⟨i0, i1, i2, i3⟩ := HB.out _ X3; have bo := Blk.new w3 42 #[.int .u64 (a1 : Int), .int .u64 (a2 : Int)])
        | (go_at_call 18; refine (cY _ (X0.trans X3)).mono ?_; clear cY; rintro e w4 ⟨rfl, x4⟩; have X4 := X3.trans (x4.alloc (.cells #[.int .u64 (a1 : Int), .int .u64 (a2 : Int)] 42)); obtain ⟨j0, j1⟩ := two (ext_blk (x4.alloc (.cells #[.int .u64 (a1 : Int), .int .u64 (a2 : Int)] 42)) bo)))
      go_ret
      exact ⟨rfl, X0.trans X4⟩
  · rw [decide_eq_false hfew] at cf
    clear rp rm rl rq hpc hpw hp64 hmd hmr hmb hle hlr hlw hl64 hqf hqr hqw hq64 ht hn hk hfew
    go_enter Tryz.func5, Tryz.ntmps5
    go_wp2_with (first
      | (go_at_call 7; refine (cl _).mono ?_; clear cl; rintro e w1 ⟨rfl, x1⟩; obtain ⟨g0, g1, g2, g3⟩ := HB.out _ x1)
      | (go_at_call 8; refine (cf _).mono ?_; clear cf; rintro e w2 ⟨rfl, x2⟩))
    go_ret
    exact ⟨rfl, (X0.trans x1).trans x2⟩

theorem partV_form (t n : Int) (k : Nat) (p : List (Int × Nat)) (m : List Nat) (l : List (Int × Nat)) (id : Int) (x : Nat) (ss : Int) : ∃ (a1 : Int) (a2 E : Nat), partV t n k p m l id x ss = .tuple #[.agg #[.int .i64 a1, .int .u64 (a2 : Int)], .int .i64 (E : Int)] := by
  unfold partV
  split
  · exact ⟨id, partS k m l id x ss, 0, rfl⟩
  · exact ⟨0, 0, partE t n k p m l id x ss, rfl⟩

set_option maxRecDepth 100000 in
set_option maxHeartbeats 8000000 in
theorem walk_QuorumParts (t n : Int) (k : Nat) (A : Option Addr) (c : Nat) (p : List (Int × Nat)) (id : Int) (x : Nat) (ss : Int) (M : Option Addr) (d : Nat) (m : List Nat) (B : Option Addr) (e : Nat) (l : List (Int × Nat)) (pid : Int) (px : Nat)
    (ht : (Lit.int .i64 t).wf = true) (hn : (Lit.int .i64 n).wf = true) (hk : k < 18446744073709551616) (hpc : p.length ≤ c) (hpw : idsWf p) (hp64 : ∀ s ∈ p, s.2 < 18446744073709551616) (hid : (Lit.int .i64 id).wf = true) (hx : x < 18446744073709551616) (hss : (Lit.int .i64 ss).wf = true)
    (hmd : m.length ≤ d) (hmr : d ≤ 140737488351232) (hmb : ∀ y ∈ m, y < 256) (hle : l.length ≤ e) (hlr : e * 16 ≤ 140737488351232) (hlw : idsWf l) (hl64 : ∀ s ∈ l, s.2 < 18446744073709551616) (hpid : (Lit.int .i64 pid).wf = true) (hpx : px < 18446744073709551616) (w : World)
    (rp : Reads w w.heap.size 2 A p.length (sv p)) (rm : Reads w w.heap.size 1 M m.length (bv m)) (rl : Reads w w.heap.size 2 B l.length (sv l)) :
    Calls Tryz.prog 6 #[.agg #[.int .i64 t, .int .i64 n, .int .u64 (k : Int), .slice A p.length c], .agg #[.int .i64 id, .int .u64 (x : Int)], .int .i64 ss, .slice M m.length d, .slice B l.length e, .agg #[.int .i64 pid, .int .u64 (px : Int)]] w fun e w' => e = .returned (.bool true) ∧ Ext w w' := by
  have cl := fun W => live6_any W
  have cf := fun W => few6_any (.int .i64 t) (.int .i64 n) (.int .u64 (k : Int)) A B M p.length c l.length e m.length d W
  obtain ⟨W0, e0, b1, b2, b3, x0⟩ := start_three' w #[.int .i64 t, .int .i64 n, .int .u64 (k : Int), .slice A p.length c] #[.int .i64 id, .int .u64 (x : Int)] #[.int .i64 pid, .int .u64 (px : Int)] 26 37 37
  have HB := Lib.hid fun (W : World) (y : Ext W0 W) => And.intro (arr4 (ext_blk y b1)) (And.intro (two (ext_blk y b2)) (two (ext_blk y b3)))
  by_cases hfew : p.length ≤ 20 ∧ l.length ≤ 20 ∧ m.length ≤ 200
  · rw [decide_eq_true hfew] at cf
    have v : SesV k p m l := ⟨hk, hpw, hp64, by omega, hmb, by omega, hlw, hl64, by omega⟩
    have cA := fun (W : World) (y : Ext w W) => Part_any t n k p m l v id x hx ss A M B c d e hpc hmd hle W ((rp.below y.out).more y.size) ((rm.below y.out).more y.size) ((rl.below y.out).more y.size)
    have cB := fun (W : World) (y : Ext w W) => rPart6_any t n k p m l v id x hx ss A M B c d e hpc hmd W ((rp.below y.out).more y.size) ((rm.below y.out).more y.size) ((rl.below y.out).more y.size)
    have cC := fun (W : World) (y : Ext w W) => CheckPart_any t n k p m l v pid px hpx A M B c d e hpc hmd hle W ((rp.below y.out).more y.size) ((rm.below y.out).more y.size) ((rl.below y.out).more y.size)
    have cD := fun (W : World) (y : Ext w W) => rCheckPart6_any t n k p m l v pid px hpx A M B c d e hpc hmd W ((rp.below y.out).more y.size) ((rm.below y.out).more y.size) ((rl.below y.out).more y.size)
    obtain ⟨a1, a2, E, hpv⟩ := partV_form t n k p m l id x ss
    simp only [hpv] at cA cB
    obtain ⟨F, hF⟩ : ∃ F, F = cpN t n k p m l pid px := ⟨_, rfl⟩
    rw [← hF] at cC cD
    have hse := fun w => (eqSh a1 a1 (a2 : Int) (a2 : Int) w).trans (by rw [decide_eq_true ⟨rfl, rfl⟩])
    have dE : ((E : Int) == (E : Int)) = true := by simp
    have dF : ((F : Int) == (F : Int)) = true := by simp
    rw [← e0] at x0 HB
    clear rp rm rl hpc hpw hp64 hmd hmr hmb hle hlr hlw hl64 ht hn hk hfew v hpv hF hid hx hss hpid hpx b1 b2 b3 e0
    go_enter Tryz.func6, Tryz.ntmps6
    go_wp2_with (first
      | (go_at_call 7; refine (cl _).mono ?_; clear cl; rintro e w1 ⟨rfl, x1⟩; obtain ⟨⟨g0, g1, g2, g3⟩, ⟨g4, g5⟩, g6, g7⟩ := HB.out _ x1)
      | (go_at_call 8; refine (cf _).mono ?_; clear cf; rintro e w2 ⟨rfl, x2⟩; have X2 := x1.trans x2; obtain ⟨⟨h0, h1, h2, h3⟩, ⟨h4, h5⟩, h6, h7⟩ := HB.out _ X2)
      | (go_at_call 19; refine (cA _ (x0.trans X2)).mono ?_; clear cA; rintro e w3 ⟨rfl, x3⟩; have X3 := (X2.trans x3).alloc (.cells #[.int .i64 a1, .int .u64 (a2 : Int)] 37); obtain ⟨⟨i0, i1, i2, i3⟩, ⟨i4, i5⟩, i6, i7⟩ := HB.out _ X3; have bo := Blk.new w3 37 #[.int .i64 a1, .int .u64 (a2 : Int)])
      | (go_at_call 20; refine (cB _ (x0.trans X3)).mono ?_; clear cB; rintro e w4 ⟨rfl, x4⟩))
    have X4 := X3.trans (x4.alloc (.cells #[.int .i64 a1, .int .u64 (a2 : Int)] 37))
    have bo4 := ext_blk (x4.alloc (.cells #[.int .i64 a1, .int .u64 (a2 : Int)] 37)) bo
    have bq4 := Blk.new w4 37 #[.int .i64 a1, .int .u64 (a2 : Int)]
    obtain ⟨W4, e4⟩ : ∃ W, W = w4.alloc (.cells #[.int .i64 a1, .int .u64 (a2 : Int)] 37) := ⟨_, rfl⟩
    obtain ⟨q3, hq3⟩ : ∃ g, g = w3.heap.size := ⟨_, rfl⟩
    obtain ⟨q4, hq4⟩ : ∃ g, g = w4.heap.size := ⟨_, rfl⟩
    rw [← e4] at X4 bo4 bq4 ⊢
    rw [← hq3] at bo4 ⊢
    rw [← hq4] at bq4 ⊢
    have HX4 := Lib.hid X4
    have HO := Lib.hid fun (W : World) (y : Ext W4 W) => And.intro (two (ext_blk y bo4)) (two (ext_blk y bq4))
    clear X4 bo4 bq4 bo e4 hq3 hq4 x1 x2 x3 x4 X2 X3 g0 g1 g2 g3 g4 g5 g6 g7 h0 h1 h2 h3 h4 h5 h6 h7 i0 i1 i2 i3 i4 i5 i6 i7
    obtain ⟨⟨m0, m1, m2, m3⟩, -, m6, m7⟩ := HB.out _ HX4.out
    obtain ⟨⟨o0, o1⟩, o2, o3⟩ := HO.out W4 (Ext.refl W4)
    go_region_held3 (fun w' => w'.cell? ⟨w.heap.size, 0, none⟩ = some (.int .i64 t) ∧ w'.cell? ⟨w.heap.size, 1, none⟩ = some (.int .i64 n) ∧ w'.cell? ⟨w.heap.size, 2, none⟩ = some (.int .u64 (k : Int)) ∧ w'.cell? ⟨w.heap.size, 3, none⟩ = some (.slice A p.length c) ∧ w'.cell? ⟨w.heap.size + 1 + 1, 0, none⟩ = some (.int .i64 pid) ∧ w'.cell? ⟨w.heap.size + 1 + 1, 1, none⟩ = some (.int .u64 (px : Int)) ∧ w'.cell? ⟨q3, 0, none⟩ = some (.int .i64 a1) ∧ w'.cell? ⟨q3, 1, none⟩ = some (.int .u64 (a2 : Int)) ∧ w'.cell? ⟨q4, 0, none⟩ = some (.int .i64 a1) ∧ w'.cell? ⟨q4, 1, none⟩ = some (.int .u64 (a2 : Int))) (go_keep) (first
      | (go_at_call 21; refine (cC _ (x0.trans (HX4.out.trans (Ext.refl W4).drew))).mono ?_; clear cC; rintro e w5 ⟨rfl, x5⟩; have X5 := (Ext.refl W4).drew.trans x5; obtain ⟨⟨r0, r1, r2, r3⟩, -, r6, r7⟩ := HB.out _ (HX4.out.trans X5); obtain ⟨⟨s0, s1⟩, s2, s3⟩ := HO.out _ X5)
      | (go_at_call 22; refine (cD _ (x0.trans (HX4.out.trans X5))).mono ?_; clear cD; rintro e w6 ⟨rfl, x6⟩; have X6 := X5.trans x6; obtain ⟨⟨y0, y1, y2, y3⟩, -, y6, y7⟩ := HB.out _ (HX4.out.trans X6); obtain ⟨⟨z0, z1⟩, z2, z3⟩ := HO.out _ X6))
    go_wp2
    go_ret
    exact ⟨rfl, x0.trans (HX4.out.trans X6)⟩
  · rw [decide_eq_false hfew] at cf
    rw [← e0] at x0 HB
    clear rp rm rl hpc hpw hp64 hmd hmr hmb hle hlr hlw hl64 ht hn hk hfew hid hx hss hpid hpx b1 b2 b3 e0
    go_enter Tryz.func6, Tryz.ntmps6
    go_wp2_with (first
      | (go_at_call 7; refine (cl _).mono ?_; clear cl; rintro e w1 ⟨rfl, x1⟩; obtain ⟨⟨g0, g1, g2, g3⟩, -⟩ := HB.out _ x1)
      | (go_at_call 8; refine (cf _).mono ?_; clear cf; rintro e w2 ⟨rfl, x2⟩))
    go_ret
    exact ⟨rfl, (x0.trans x1).trans x2⟩
end Go.Proofs.YtiecfamjnnmpaaaGreat

/- Statements of crews, walked, with the document's answer: QuorumDeals. -/
namespace Go.Proofs.YtiecfamjnnmpaaaGreat
set_option linter.unusedVariables false
open Go.RowKit Go.Shelf Go.Maps
attribute [local irreducible] atN prodN sumN wantN chkN mix hSum hNum chalN chN scN qnN crewN enN rightN allN comE comS splitL partS cpN cmbE cmbS partE partV checkN qsC qsP qsS qsE okC

theorem spB_cases2 (u : Nat) (t n : Int) : spB u t n = false ∨ ∃ tn nn : Nat, t = tn ∧ n = nn ∧ 1 ≤ tn ∧ tn ≤ nn ∧ nn ≤ 7 := by
  cases hb : spB u t n with
  | false => exact .inl rfl
  | true =>
    right
    obtain ⟨h1, h2, h3, h4⟩ := of_decide_eq_true hb
    exact ⟨t.toNat, n.toNat, by omega, by omega, by omega, by omega, by omega⟩

set_option maxRecDepth 100000 in
set_option maxHeartbeats 8000000 in
theorem walk_QuorumDeals (A : Option Addr) (c : Nat) (seed : List Nat) (t n : Int) (ct cn : Int) (ck : Nat) (B : Option Addr) (d : Nat) (p : List (Int × Nat)) (hc : seed.length ≤ c) (hcr : c ≤ 140737488351232) (hseed : ∀ x ∈ seed, x < 256) (ht : (Lit.int .i64 t).wf = true) (hn : (Lit.int .i64 n).wf = true)
    (hct : (Lit.int .i64 ct).wf = true) (hcn : (Lit.int .i64 cn).wf = true) (hck : ck < 18446744073709551616) (hpd : p.length ≤ d) (hpw : idsWf p) (hp64 : ∀ s ∈ p, s.2 < 18446744073709551616) (w : World) (rs : Reads w w.heap.size 1 A seed.length (bv seed)) (rp : Reads w w.heap.size 2 B p.length (sv p)) :
    Calls Tryz.prog 3 #[.slice A seed.length c, .int .i64 t, .int .i64 n, .agg #[.int .i64 ct, .int .i64 cn, .int .u64 (ck : Int), .slice B p.length d]] w fun e w' => e = .returned (.bool true) ∧ Ext w w' := by
  have cl := fun W => live6_any W
  have cf := fun W => few6_any (.int .i64 ct) (.int .i64 cn) (.int .u64 (ck : Int)) B none A p.length d 0 0 seed.length c W
  have X0 : Ext w (w.alloc (.cells #[.int .i64 ct, .int .i64 cn, .int .u64 (ck : Int), .slice B p.length d] 26)) := (Ext.refl w).alloc _
  have HB := Lib.hid fun (W : World) (x : Ext (w.alloc (.cells #[.int .i64 ct, .int .i64 cn, .int .u64 (ck : Int), .slice B p.length d] 26)) W) => arr4 (ext_blk x (Blk.new w 26 #[.int .i64 ct, .int .i64 cn, .int .u64 (ck : Int), .slice B p.length d]))
  by_cases hfew : p.length ≤ 20 ∧ 0 ≤ 20 ∧ seed.length ≤ 200
  · rw [decide_eq_true hfew] at cf
    have cK := fun (W : World) (x : Ext w W) => quCheck_any ct cn ck hck p hpw hp64 B d hpd (by omega) W ((rp.below x.out).more x.size)
    have cL := fun (W : World) (x : Ext w W) => rquCheck_any ct cn ck hck p hp64 B d hpd (by omega) W ((rp.below x.out).more x.size)
    obtain ⟨F, hF⟩ : ∃ F, F = crewN ct cn ck p := ⟨_, rfl⟩
    rw [← hF] at cK cL
    have dF : ((F : Int) == (F : Int)) = true := by simp
    rcases spB_cases2 (secN seed) t n with hb | ⟨tn, nn, rfl, rfl, h1, h2, h3⟩
    · have cA := fun (W : World) (x : Ext w W) => Deal_bad seed hseed (by omega) t n hb A c hc W ((rs.below x.out).more x.size)
      have cB := fun (W : World) (x : Ext w W) => rDeal_bad seed hseed (by omega) t n hb A c hc W ((rs.below x.out).more x.size)
      have cS := fun (W : World) => Same6_same 0 0 0 [] none none 0 0 (by simp) W Reads.none_ Reads.none_
      have cH := fun (W : World) => Shares_any [] [] none none 0 0 (by simp) W Reads.none_ Reads.none_
      simp only [List.length_nil, Int.cast_ofNat_Int, decide_true] at cS cH
      clear hfew rs rp hc hcr hseed ht hn hct hcn hck hpd hpw hp64 hF hb
      go_enter Tryz.func3, Tryz.ntmps3
      go_wp2_with (first
        | (go_at_call 7; refine (cl _).mono ?_; clear cl; rintro e w1 ⟨rfl, x1⟩; obtain ⟨g0, g1, g2, g3⟩ := HB.out _ x1)
        | (go_at_call 8; refine (cf _).mono ?_; clear cf; rintro e w2 ⟨rfl, x2⟩; have X2 := x1.trans x2)
        | (go_at_call 9; refine (cA _ (X0.trans X2)).mono ?_; clear cA; rintro e w3 ⟨rfl, x3⟩; have X3 := (X2.trans x3).alloc (.cells #[.int .i64 0, .int .i64 0, .int .u64 0, .slice none 0 0] 26); have bo := Blk.new w3 26 #[.int .i64 0, .int .i64 0, .int .u64 0, .slice none 0 0])
        | (go_at_call 10; refine (cB _ (X0.trans X3)).mono ?_; clear cB; rintro e w4 ⟨rfl, x4⟩; have X4 := X3.trans (x4.alloc (.cells #[.int .i64 0, .int .i64 0, .int .u64 0, .slice none 0 0] 26)); obtain ⟨j0, j1, j2, j3⟩ := arr4 (ext_blk (x4.alloc (.cells #[.int .i64 0, .int .i64 0, .int .u64 0, .slice none 0 0] 26)) bo))
        | (go_at_call 11; refine (cS _).mono ?_; clear cS; rintro e w5 ⟨rfl, x5⟩; have X5 := X4.trans x5)
        | (go_at_call 12; refine (cH _).mono ?_; clear cH; rintro e w6 ⟨rfl, x6⟩; have X6 := Lib.hid (X5.trans x6)))
      clear g0 g1 g2 g3 j0 j1 j2 j3 x1 x2 x3 x4 x5 x6 X2 X3 X4 X5 bo
      obtain ⟨m0, m1, m2, m3⟩ := HB.out _ X6.out
      go_region_held3 (fun w' => w'.cell? ⟨w.heap.size, 0, none⟩ = some (.int .i64 ct) ∧ w'.cell? ⟨w.heap.size, 1, none⟩ = some (.int .i64 cn) ∧ w'.cell? ⟨w.heap.size, 2, none⟩ = some (.int .u64 (ck : Int)) ∧ w'.cell? ⟨w.heap.size, 3, none⟩ = some (.slice B p.length d)) (go_keep) (first
        | (go_at_call 13; refine (cK _ (X0.trans (X6.out.trans (Ext.refl w6).drew))).mono ?_; clear cK; rintro e w7 ⟨rfl, x7⟩; have X7 := X6.out.trans ((Ext.refl w6).drew.trans x7); obtain ⟨r0, r1, r2, r3⟩ := HB.out _ X7)
        | (go_at_call 14; refine (cL _ (X0.trans X7)).mono ?_; clear cL; rintro e w8 ⟨rfl, x8⟩; have X8 := X7.trans x8; obtain ⟨s0, s1, s2, s3⟩ := HB.out _ X8))
      go_wp2
      go_ret
      exact ⟨rfl, X0.trans X8⟩
    · have cA := fun (W : World) (x : Ext w W) => Deal_ok seed hseed (by omega) tn nn h1 h2 h3 A c hc W ((rs.below x.out).more x.size)
      have cB := fun (W : World) (x : Ext w W) => rDeal_ok seed hseed (by omega) tn nn h1 h2 h3 A c hc W ((rs.below x.out).more x.size)
      have hpl : (pubL (splitL (secN seed) tn nn seed)).length = nn := by rw [pubL_length, splitL_length]
      have hll : (splitL (secN seed) tn nn seed).length = nn := splitL_length _ _ _ _
      obtain ⟨k, hk⟩ : ∃ x, x = powM bQ 4 (secN seed) := ⟨_, rfl⟩
      obtain ⟨pp, hpp⟩ : ∃ x, x = pubL (splitL (secN seed) tn nn seed) := ⟨_, rfl⟩
      obtain ⟨ll, hl⟩ : ∃ x, x = splitL (secN seed) tn nn seed := ⟨_, rfl⟩
      rw [← hk, ← hpp, ← hl] at cA cB
      rw [← hpp] at hpl
      rw [← hl] at hll
      have cS := fun (W : World) P1 P2 k1 k2 h1 h2 => Same6_same tn nn k pp P1 P2 k1 k2 (by omega) W h1 h2
      have cH := fun (W : World) L1 L2 k1 k2 h1 h2 => Shares_any ll ll L1 L2 k1 k2 (by omega) W h1 h2
      simp only [hpl, hll, decide_true] at cS cH
      clear hfew rs rp hc hcr hseed ht hn hct hcn hck hpd hpw hp64 hF h1 h2 h3 hk hpp hl hpl hll
      go_enter Tryz.func3, Tryz.ntmps3
      go_wp2_with (first
        | (go_at_call 7; refine (cl _).mono ?_; clear cl; rintro e w1 ⟨rfl, x1⟩; obtain ⟨g0, g1, g2, g3⟩ := HB.out _ x1)
        | (go_at_call 8; refine (cf _).mono ?_; clear cf; rintro e w2 ⟨rfl, x2⟩; have X2 := x1.trans x2)
        | (go_at_call 9; refine (cA _ (X0.trans X2)).mono ?_; clear cA; rintro e w3 ⟨P1, k1, L1, d1, rfl, -, -, rp1, rl1, x3⟩; have z3 := (Ext.refl w3).alloc (.cells #[.int .i64 (tn : Int), .int .i64 (nn : Int), .int .u64 (k : Int), .slice P1 nn k1] 26); have X3 := (X2.trans x3).trans z3; have bo := Blk.new w3 26 #[.int .i64 (tn : Int), .int .i64 (nn : Int), .int .u64 (k : Int), .slice P1 nn k1])
        | (go_at_call 10; refine (cB _ (X0.trans X3)).mono ?_; clear cB; rintro e w4 ⟨P2, k2, L2, d2, rfl, -, -, rp2, rl2, x4⟩; have z4 := (Ext.refl w4).alloc (.cells #[.int .i64 (tn : Int), .int .i64 (nn : Int), .int .u64 (k : Int), .slice P2 nn k2] 26); have y4 := x4.trans z4; have X4 := X3.trans y4; have Y4 := z3.trans y4; obtain ⟨j0, j1, j2, j3⟩ := arr4 (ext_blk y4 bo))
        | (go_at_call 11; refine (cS _ _ _ _ _ ((rp1.below Y4.out).more Y4.size) ((rp2.below z4.out).more z4.size)).mono ?_; clear cS; rintro e w5 ⟨rfl, x5⟩; have X5 := X4.trans x5; have Y5 := Y4.trans x5; have Z5 := z4.trans x5)
        | (go_at_call 12; refine (cH _ _ _ _ _ ((rl1.below Y5.out).more Y5.size) ((rl2.below Z5.out).more Z5.size)).mono ?_; clear cH; rintro e w6 ⟨rfl, x6⟩; have X6 := Lib.hid (X5.trans x6)))
      clear g0 g1 g2 g3 j0 j1 j2 j3 x1 x2 x3 x4 x5 x6 X2 X3 X4 X5 bo z3 z4 y4 Y4 Y5 Z5 rp1 rp2 rl1 rl2
      obtain ⟨m0, m1, m2, m3⟩ := HB.out _ X6.out
      go_region_held3 (fun w' => w'.cell? ⟨w.heap.size, 0, none⟩ = some (.int .i64 ct) ∧ w'.cell? ⟨w.heap.size, 1, none⟩ = some (.int .i64 cn) ∧ w'.cell? ⟨w.heap.size, 2, none⟩ = some (.int .u64 (ck : Int)) ∧ w'.cell? ⟨w.heap.size, 3, none⟩ = some (.slice B p.length d)) (go_keep) (first
        | (go_at_call 13; refine (cK _ (X0.trans (X6.out.trans (Ext.refl w6).drew))).mono ?_; clear cK; rintro e w7 ⟨rfl, x7⟩; have X7 := X6.out.trans ((Ext.refl w6).drew.trans x7); obtain ⟨r0, r1, r2, r3⟩ := HB.out _ X7)
        | (go_at_call 14; refine (cL _ (X0.trans X7)).mono ?_; clear cL; rintro e w8 ⟨rfl, x8⟩; have X8 := X7.trans x8; obtain ⟨s0, s1, s2, s3⟩ := HB.out _ X8))
      go_wp2
      go_ret
      exact ⟨rfl, X0.trans X8⟩
  · rw [decide_eq_false hfew] at cf
    clear hfew rs rp hc hcr hseed ht hn hct hcn hck hpd hpw hp64
    go_enter Tryz.func3, Tryz.ntmps3
    go_wp2_with (first
      | (go_at_call 7; refine (cl _).mono ?_; clear cl; rintro e w1 ⟨rfl, x1⟩; obtain ⟨g0, g1, g2, g3⟩ := HB.out _ x1)
      | (go_at_call 8; refine (cf _).mono ?_; clear cf; rintro e w2 ⟨rfl, x2⟩))
    go_ret
    exact ⟨rfl, (X0.trans x1).trans x2⟩
end Go.Proofs.YtiecfamjnnmpaaaGreat
