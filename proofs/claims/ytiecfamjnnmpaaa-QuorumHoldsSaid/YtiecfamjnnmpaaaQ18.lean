/- Parts of the proofs, put together: QuLive, QuLive2, QuLaw, QuLaw2, QuLaw3, QuLaw4, QuLaw5. -/
import Derived.Lib.SlBytesConst
import Derived.Test.YtiecfamjnnmpaaaQ17
/- Statements of crews, walked: few; what the example is made of. -/
namespace Go.Proofs.Ytiecfamjnnmpaaa
set_option linter.unusedVariables false
open Go.RowKit Go.Shelf Go.Maps
attribute [local irreducible] atN prodN sumN wantN chkN mix hSum hNum chalN chN scN qnN crewN enN rightN allN comE comS splitL partS

theorem few6_any (t n k : Value) (A B M : Option Addr) (p c l d m e : Nat) (w : World) : Calls Try.prog 9 #[.agg #[t, n, k, .slice A p c], .slice B l d, .slice M m e] w fun e w' => e = .returned (.bool (decide (p ≤ 20 ∧ l ≤ 20 ∧ m ≤ 200))) ∧ Ext w w' := by
  have xx : Ext w (w.alloc (.cells #[t, n, k, .slice A p c] 25)) := (Ext.refl w).alloc _
  by_cases h1 : p ≤ 20
  · have k1 : (p : Int) ≤ 20 := by omega
    by_cases h2 : l ≤ 20
    · have k2 : (l : Int) ≤ 20 := by omega
      by_cases h3 : m ≤ 200
      · have k3 : (m : Int) ≤ 200 := by omega
        rw [decide_eq_true ⟨h1, h2, h3⟩]
        clear h1 h2 h3
        go_enter Try.func9, Try.ntmps9
        go_wp2
        go_ret
        exact ⟨by simp, xx⟩
      · have k3 : ¬ (m : Int) ≤ 200 := by omega
        rw [decide_eq_false fun h => h3 h.2.2]
        clear h1 h2 h3
        go_enter Try.func9, Try.ntmps9
        go_wp2
        go_ret
        exact ⟨by simp, xx⟩
    · have k2 : ¬ (l : Int) ≤ 20 := by omega
      rw [decide_eq_false fun h => h2 h.2.1]
      clear h1 h2
      go_enter Try.func9, Try.ntmps9
      go_wp2
      go_ret
      exact ⟨by simp, xx⟩
  · have k1 : ¬ (p : Int) ≤ 20 := by omega
    rw [decide_eq_false fun h => h1 h.1]
    clear h1
    go_enter Try.func9, Try.ntmps9
    go_wp2
    go_ret
    exact ⟨by simp, xx⟩

/-! ### the example -/
def shN (u tn : Nat) (seed : List Nat) (i : Nat) : Int × Nat := (((i + 1 : Nat) : Int), evZ (polyN u tn seed) (i + 1) % bR)
theorem who5 (u : Nat) (seed : List Nat) : whoL u 2 3 seed 5 = [shN u 2 seed 0, shN u 2 seed 2] := by
  have a0 := splitL_at u 2 3 seed (k := 0) (by decide)
  have a1 := splitL_at u 2 3 seed (k := 1) (by decide)
  have a2 := splitL_at u 2 3 seed (k := 2) (by decide)
  have b0 : bitB 5 0 = true := by decide
  have b1 : bitB 5 1 = false := by decide
  have b2 : bitB 5 2 = true := by decide
  unfold whoL
  rw [pickB_succ _ _ a2, pickB_succ _ _ a1, pickB_succ _ _ a0, b0, b1, b2]
  rfl
theorem who1 (u : Nat) (seed : List Nat) : whoL u 2 3 seed 1 = [shN u 2 seed 0] := by
  have a0 := splitL_at u 2 3 seed (k := 0) (by decide)
  have a1 := splitL_at u 2 3 seed (k := 1) (by decide)
  have a2 := splitL_at u 2 3 seed (k := 2) (by decide)
  have b0 : bitB 1 0 = true := by decide
  have b1 : bitB 1 1 = false := by decide
  have b2 : bitB 1 2 = false := by decide
  unfold whoL
  rw [pickB_succ _ _ a2, pickB_succ _ _ a1, pickB_succ _ _ a0, b0, b1, b2]
  rfl
/-- What is signed is a signature by the crew's key. -/
theorem sg_check {u tn nn : Nat} {seed : List Nat} (h1 : 1 ≤ tn) (h2 : tn ≤ nn) (h7 : nn ≤ 7) (hu : u < bR) (m : List Nat) (who ss : Int) (hf : ¬ (whoL u tn nn seed who).length < tn) :
    checkN (powM bQ 4 u) m (qsS u tn nn seed m who ss).1 (qsS u tn nn seed m who ss).2 = 0 := by
  have hs := whoL_sub u tn nn seed who
  have hq : qsP u tn nn seed m who ss = parL (powM bQ 4 u) m ss (comL m ss (whoL u tn nn seed who)) (whoL u tn nn seed who) := by unfold qsP; rw [if_neg hf]; rfl
  have h := deal_cmbE h1 h2 h7 hu m ss hs (qsP u tn nn seed m who ss)
  rw [if_neg hf, hq, deal_all m ss hs] at h
  have := signs_plain h
  unfold qsS
  rw [if_neg hf, hq]
  exact this
theorem sg_wrong {u tn nn : Nat} {seed : List Nat} (h1 : 1 ≤ tn) (h2 : tn ≤ nn) (h7 : nn ≤ 7) (hu : u < bR) (m : List Nat) (who ss : Int) (hf : ¬ (whoL u tn nn seed who).length < tn) {j : Nat} {s : Int × Nat} (hj : (qsP u tn nn seed m who ss)[j]? = some s) {by_ : Nat} (hb : by_ % bR ≠ 0) :
    cmbV tn nn (powM bQ 4 u) (pubL (splitL u tn nn seed)) m (qsC u tn nn seed m who ss) ((qsP u tn nn seed m who ss).set j (s.1, addM bR s.2 (by_ % bR))) = .tuple #[.agg #[.int .u64 0, .int .u64 0], .int .i64 60] := by
  have hs := whoL_sub u tn nn seed who
  have hq : qsP u tn nn seed m who ss = parL (powM bQ 4 u) m ss (comL m ss (whoL u tn nn seed who)) (whoL u tn nn seed who) := by unfold qsP; rw [if_neg hf]; rfl
  rw [hq] at hj ⊢
  have hj2 := hj
  unfold parL at hj2
  rw [List.getElem?_map] at hj2
  obtain ⟨r, hr, rfl⟩ := Option.map_eq_some_iff.1 hj2
  have h := deal_cmbE h1 h2 h7 hu m ss hs ((parL (powM bQ 4 u) m ss (comL m ss (whoL u tn nn seed who)) (whoL u tn nn seed who)).set j (r.1, addM bR (partS (powM bQ 4 u) m (comL m ss (whoL u tn nn seed who)) r.1 r.2 ss) (by_ % bR)))
  rw [if_neg hf, deal_wrong m ss hs _ hr hb] at h
  unfold cmbV cmbS
  show Value.tuple #[.agg #[.int .u64 (((if cmbE (tn : Int) (nn : Int) (powM bQ 4 u) (pubL (splitL u tn nn seed)) m (comL m ss (whoL u tn nn seed who)) _ = 0 then _ else ((0, 0) : Nat × Nat)).1 : Nat) : Int), _], _] = _
  unfold qsC
  rw [h]
  rfl
end Go.Proofs.Ytiecfamjnnmpaaa

/- Statements of crews, walked: the document's example. -/
namespace Go.Proofs.Ytiecfamjnnmpaaa
set_option linter.unusedVariables false
open Go.RowKit Go.Shelf Go.Maps
attribute [local irreducible] atN prodN sumN wantN chkN mix hSum hNum chalN chN scN qnN crewN enN rightN allN comE comS splitL partS

theorem reads_one (w : World) (T : TypeId) (fr : Nat × Nat) (x : Nat) : Reads (w.alloc (.cells #[.int .u8 (x : Int)] T fr)) (w.alloc (.cells #[.int .u8 (x : Int)] T fr)).heap.size 1 (some ⟨w.heap.size, 0, none⟩) 1 (bv [x]) := by
  refine ⟨by simp [bv], fun _ => ⟨_, rfl, by simp, fun j u hj => ?_⟩⟩
  have e : (Addr.mk w.heap.size 0 none).add j = ⟨w.heap.size, j, none⟩ := by
    unfold Addr.add
    split <;> simp_all
  rw [e, cell_of_row _ w.heap.size j _ T fr (heap_alloc_new w _)]
  simpa [bv] using hj

theorem addr_two (a : Addr) : a.add 2 = ⟨a.block, a.off + 2, none⟩ := by unfold Addr.add; simp

set_option maxRecDepth 100000 in
set_option maxHeartbeats 4000000 in
theorem live6_any (w : World) : Calls Try.prog 8 #[] w fun e w' => e = .returned (.bool true) ∧ Ext w w' := by
  have cv := fun (w : World) (C : Array Value) (n c : Nat) => Lib.run_convert_bytes_const (P := Try.prog) w 26 5 C n c Try.underlying26 Try.underlying5
  have c1 := fun (w : World) T fr => Deal_ok [115] (by decide) (by decide) 2 3 (by decide) (by decide) (by decide) _ 1 (by decide) _ (reads_one w T fr 115)
  obtain ⟨u, hu⟩ : ∃ u, u = secN [115] := ⟨_, rfl⟩
  have hub : u < bR := by rw [hu]; exact secN_lt _
  have hl5 : ¬ (whoL u 2 3 [115] 5).length < 2 := by rw [who5]; exact Nat.lt_irrefl 2
  have hq5 : qsP u 2 3 [115] [109] 5 4 = parL (powM bQ 4 u) [109] 4 (qsC u 2 3 [115] [109] 5 4) (whoL u 2 3 [115] 5) := by unfold qsP; rw [if_neg hl5]
  have c2 := fun (W : World) P L M c1 c2 k1 k2 rp rl rm => signed_any u 2 3 [115] (by decide) (by decide) (by decide) hub [109] (by decide) (by decide) 5 4 (by decide) (by decide) P L M c1 c2 1 k1 k2 (by decide) W rp rl rm
  have c3 := fun (W : World) P L M c1 c2 k1 k2 rp rl rm => signed_any u 2 3 [115] (by decide) (by decide) (by decide) hub [109] (by decide) (by decide) 1 4 (by decide) (by decide) P L M c1 c2 1 k1 k2 (by decide) W rp rl rm
  have hck := sg_check (by decide) (by decide) (by decide) hub [109] 5 4 hl5
  have hE5 : qsE u 2 3 [115] 5 = 0 := by unfold qsE; rw [if_neg hl5]
  have hl1 : (whoL u 2 3 [115] 1).length < 2 := by rw [who1]; exact Nat.lt_succ_self 1
  have hE1 : qsE u 2 3 [115] 1 = 50 := by unfold qsE; rw [if_pos hl1]
  have hS1 : qsS u 2 3 [115] [109] 1 4 = (0, 0) := by unfold qsS; rw [if_pos hl1]
  have hP1 : qsP u 2 3 [115] [109] 1 4 = [] := by unfold qsP; rw [if_pos hl1]
  have hC5 : ∃ y0 y2 : Nat, qsC u 2 3 [115] [109] 5 4 = [(1, y0), (3, y2)] := ⟨_, _, by unfold qsC; rw [who5]; rfl⟩
  have hQ5 : ∃ z0 z2 : Nat, z0 < bR ∧ z2 < bR ∧ qsP u 2 3 [115] [109] 5 4 = [(1, z0), (3, z2)] := by
    refine ⟨partS (powM bQ 4 u) [109] (qsC u 2 3 [115] [109] 5 4) 1 (shN u 2 [115] 0).2 4, partS (powM bQ 4 u) [109] (qsC u 2 3 [115] [109] 5 4) 3 (shN u 2 [115] 2).2 4, ?_, ?_, ?_⟩
    · unfold partS; exact addM_lt' (by decide) _ _
    · unfold partS; exact addM_lt' (by decide) _ _
    · rw [hq5, who5]; rfl
  obtain ⟨y0, y2, hC⟩ := hC5
  obtain ⟨z0, z2, hz0, hz2, hQ⟩ := hQ5
  have hw := sg_wrong (u := u) (tn := 2) (nn := 3) (seed := [115]) (by decide) (by decide) (by decide) hub [109] 5 4 hl5 (j := 1) (s := (3, z2)) (by rw [hQ]; rfl) (by_ := 1) (by decide)
  have hsv := deal_sesV (u := u) (tn := 2) (seed := [115]) (show 3 ≤ 7 by decide) (m := [109]) (by decide) (by decide) 4 (whoL_sub u 2 3 [115] 5)
  have hlt := addM_lt' (m := bR) (by decide) z2 (1 % bR)
  have c4 := fun (W : World) A M B D c d e f hc hd he hp hm hl hq => Combine_any (2 : Nat) (3 : Nat) (powM bQ 4 u) (pubL (splitL u 2 3 [115])) [109] (comL [109] 4 (whoL u 2 3 [115] 5)) hsv ((qsP u 2 3 [115] [109] 5 4).set 1 (3, addM bR z2 (1 % bR))) (by rw [hQ]; intro s hs; simp at hs; rcases hs with rfl | rfl; exact lt64_R hz0; exact lt64_R hlt) (by rw [hQ]; simp) A M B D c d e f hc hd he W hp hm hl hq
  have hwC : comL [109] 4 (whoL u 2 3 [115] 5) = qsC u 2 3 [115] [109] 5 4 := rfl
  rw [hwC] at c4
  simp only [hw] at c4
  have e1 : (1 % bR : Nat) = 1 := by decide
  rw [hQ, hC, e1] at c4
  obtain ⟨s1, hs1⟩ : ∃ x, x = (qsS u 2 3 [115] [109] 5 4).1 := ⟨_, rfl⟩
  obtain ⟨s2, hs2⟩ : ∃ x, x = (qsS u 2 3 [115] [109] 5 4).2 := ⟨_, rfl⟩
  have hs1b : s1 < bR := by rw [hs1]; unfold qsS; rw [if_neg hl5]; exact chN_lt _ _ _
  have hs2b : s2 < bR := by rw [hs2]; unfold qsS; rw [if_neg hl5]; exact sumQ_lt _
  unfold SgPost at c2 c3
  rw [who5, hQ, hC, hE5, ← hs1, ← hs2] at c2
  rw [who1, hP1, hS1, hE1] at c3
  rw [← hs1, ← hs2] at hck
  have hcrew := deal_crew (u := u) (tn := 2) (nn := 3) (seed := [115]) (by decide) (by decide) (by decide) hub
  have c5 := fun (W : World) M hr => Check_any (powM bQ 4 u) (lt64_Q (powM_lt (by decide) _ _)) s1 s2 (lt64_R hs1b) (lt64_R hs2b) [109] (by decide) (by decide) M 1 (by decide) W hr
  rw [hck] at c5
  have c6 := fun (W : World) A c hc hr => quCheck_any (2 : Nat) (3 : Nat) (powM bQ 4 u) (lt64_Q (powM_lt (by decide) _ _)) (pubL (splitL u 2 3 [115])) hsv.pw hsv.p64 A c hc hsv.pn W hr
  rw [hcrew] at c6
  have c7 := fun (W : World) => quCheck_any 0 0 0 (by decide) [] (by unfold idsWf; simp) (by simp) none 0 (Nat.le_refl _) (by simp) W Reads.none_
  rw [crew_out (.inl (by decide))] at c7
  have c8 := fun (W : World) => AddRE z2 1 W
  obtain ⟨z3, hz3⟩ : ∃ x, x = addM bR z2 1 := ⟨_, rfl⟩
  rw [← hz3] at c4 c8
  rw [← hu] at c1
  obtain ⟨k, hk⟩ : ∃ x, x = powM bQ 4 u := ⟨_, rfl⟩
  obtain ⟨p, hp⟩ : ∃ x, x = pubL (splitL u 2 3 [115]) := ⟨_, rfl⟩
  obtain ⟨l, hl⟩ : ∃ x, x = splitL u 2 3 [115] := ⟨_, rfl⟩
  have hpl : p.length = 3 := by rw [hp, pubL_length, splitL_length]
  rw [← hk] at c1 c2 c3 c4 c5 c6
  rw [← hp] at c1 c2 c3 c4 c6
  rw [← hl] at c1 c2 c3
  have z4 : (sv [(1, z0), (3, z2)]) = [.int .i64 1, .int .u64 (z0 : Int), .int .i64 3, .int .u64 (z2 : Int)] := rfl
  simp only [hpl, List.length_cons, List.length_nil, Nat.reduceAdd, Nat.zero_add, List.set_cons_succ, List.set_cons_zero, Int.cast_ofNat_Int] at c1 c2 c3 c4 c5 c6 c7 c8
  clear hu hub hl5 hq5 hck hE5 hl1 hE1 hS1 hP1 hC hz0 hz2 hQ hw hsv hlt hwC e1 hs1 hs2 hs1b hs2b hcrew hz3 hk hp hl hpl z4
  have cv2 := fun (w : World) (o : Obj) (C : Array Value) (n c : Nat) => cv (w.alloc o) C n c
  have c1' := fun (w : World) (o : Obj) T fr => c1 (w.alloc o) T fr
  simp only [World.size_alloc] at cv2 c1'
  clear c1
  have HM0 : Reads (w.alloc (.cells #[.int .u8 109] 5 (1, 2))) (w.alloc (.cells #[.int .u8 109] 5 (1, 2))).heap.size 1 (some ⟨w.heap.size, 0, none⟩) 1 (bv [109]) := reads_one w 5 (1, 2) 109
  have X0 : Ext w (w.alloc (.cells #[.int .u8 109] 5 (1, 2))) := (Ext.refl w).alloc _
  obtain ⟨W0, e0⟩ : ∃ W, W = w.alloc (.cells #[.int .u8 109] 5 (1, 2)) := ⟨_, rfl⟩
  have hz0 : W0.heap.size = w.heap.size + 1 := by rw [e0, World.size_alloc]
  have X0' := X0
  rw [← e0] at HM0 X0'
  have HM1 := Lib.hid fun (W : World) (x : Ext W0 W) => (HM0.below x.out).more x.size
  have HE0 := Lib.hid e0
  clear HM0 e0
  go_enter Try.func8, Try.ntmps8
  go_wp2_with (first
    | (go_at_call 12; refine (c1' _ _ _ _).mono ?_; clear c1'; rintro e w1 ⟨P, k1, L, k2, rfl, hk1, hk2, rp, rl, x1⟩; rw [← HE0.out] at x1; have y1 := ((Ext.refl W0).alloc _).trans x1; have HR := Lib.hid fun (W : World) (x : Ext w1 W) => And.intro ((rp.below x.out).more x.size) (And.intro ((rl.below x.out).more x.size) (HM1.out W (y1.trans x))); have b1 := Blk.new w1 25 #[.int .i64 2, .int .i64 3, .int .u64 (k : Int), .slice P 3 k1]; have HB1 := Lib.hid fun (W : World) (x : Ext (w1.alloc (.cells #[.int .i64 2, .int .i64 3, .int .u64 (k : Int), .slice P 3 k1] 25)) W) => arr4 (ext_blk x b1); clear rp rl b1; have z1 := (Ext.refl w1).alloc (.cells #[.int .i64 2, .int .i64 3, .int .u64 (k : Int), .slice P 3 k1] 25))
    | (go_at_call 14; refine (c2 _ _ _ _ _ _ hk1 hk2 (HR.out _ z1).1 (HR.out _ z1).2.1 (HR.out _ z1).2.2).mono ?_; clear c2; rintro e w2 ⟨A2, a2, B2, b2, rfl, ha2, hb2, ra2, rb2, x2⟩; have v2 := x2.alloc (.cells #[.int .u64 (s1 : Int), .int .u64 (s2 : Int)] 30); have z2' := z1.trans v2; obtain ⟨g0, g1, g2, g3⟩ := HB1.out _ v2; have r2 := Blk.new w2 30 #[.int .u64 (s1 : Int), .int .u64 (s2 : Int)]; have HB2 := Lib.hid fun (W : World) (x : Ext (w2.alloc (.cells #[.int .u64 (s1 : Int), .int .u64 (s2 : Int)] 30)) W) => two (ext_blk x r2); clear r2)
    | (go_at_call 14; refine (c3 _ _ _ _ _ _ hk1 hk2 (HR.out _ z2').1 (HR.out _ z2').2.1 (HR.out _ z2').2.2).mono ?_; clear c3; rintro e w3 ⟨A3, a3, B3, b3, rfl, -, -, -, -, x3⟩; have v3 := x3.alloc (.cells #[.int .u64 0, .int .u64 0] 30); have z3' := z2'.trans v3))
  obtain ⟨W3, e3⟩ : ∃ W, W = w3.alloc (.cells #[.int .u64 0, .int .u64 0] 30) := ⟨_, rfl⟩
  rw [← e3] at v3 z3' ⊢
  have v3' := v2
  have ra3 := (ra2.below (((Ext.refl w2).alloc (.cells #[.int .u64 (s1 : Int), .int .u64 (s2 : Int)] 30)).trans v3).out).more (((Ext.refl w2).alloc (.cells #[.int .u64 (s1 : Int), .int .u64 (s2 : Int)] 30)).trans v3).size
  have rb3 := (rb2.below (((Ext.refl w2).alloc (.cells #[.int .u64 (s1 : Int), .int .u64 (s2 : Int)] 30)).trans v3).out).more (((Ext.refl w2).alloc (.cells #[.int .u64 (s1 : Int), .int .u64 (s2 : Int)] 30)).trans v3).size
  obtain ⟨ad, rfl, -, q0, q1⟩ := reads_share rb3 (k := 0) rfl
  obtain ⟨_, e', -, q2, q3⟩ := reads_share rb3 (k := 1) rfl
  cases e'
  obtain ⟨ac, rfl, -, -, -⟩ := reads_share ra3 (k := 0) rfl
  simp only [Nat.zero_mul, add_zero', Nat.one_mul, addr_two] at q0 q1 q2 q3
  have HRA := Lib.hid fun (W : World) (x : Ext W3 W) => (ra3.below x.out).more x.size
  have HRB := Lib.hid fun (W : World) (x : Ext W3 W) => (rb3.below x.out).more x.size
  have HZ := Lib.hid fun (W : World) (x : Ext W3 W) => And.intro (HR.out W (z3'.trans x)) (And.intro (HB1.out W ((v2.trans v3).trans x)) (HB2.out W (v3.trans x)))
  have HY := Lib.hid (fun (W : World) (x : Ext W3 W) => (HE0.out ▸ X0 : Ext w W0).trans ((y1.trans z3').trans x) : ∀ W, Ext W3 W → Ext w W)
  clear e3 x1 x2 x3 v2 v3 v3' z1 z2' z3' y1 ra2 rb2 ra3 rb3 g0 g1 g2 g3 HR HB1 HB2 HE0 HM1 X0 X0' cv cv2
  go_region_held3 (fun w' => w'.cell? ad = some (.int .i64 1) ∧ w'.cell? ⟨ad.block, ad.off + 1, none⟩ = some (.int .u64 (z0 : Int)) ∧ w'.cell? ⟨ad.block, ad.off + 2, none⟩ = some (.int .i64 3) ∧ w'.cell? ⟨ad.block, ad.off + 2 + 1, none⟩ = some (.int .u64 (z2 : Int))) (go_keep) (first
    | (go_at_call 16; refine (c8 _).mono ?_; clear c8; rintro e w4 ⟨rfl, x4⟩; have x4 := (Ext.refl W3).drew.trans x4; have r0 := x4.cell q0; have r1 := x4.cell q1; have r2 := x4.cell q2; have r3 := x4.cell q3))
  have X4 := Lib.hid x4
  clear x4 q0 q1 q2 q3 r0 r1 r2 r3
  have rw_ : Reads (w4.alloc (.cells #[.int .i64 1, .int .u64 (z0 : Int), .int .i64 3, .int .u64 (z3 : Int)] 45)) (w4.alloc (.cells #[.int .i64 1, .int .u64 (z0 : Int), .int .i64 3, .int .u64 (z3 : Int)] 45)).heap.size 2 (some ⟨w4.heap.size, 0, none⟩) 2 (sv [(1, z0), (3, z3)]) := blk_reads2 (Blk.new w4 _ _)
  have X5 := X4.out.alloc (.cells #[.int .i64 1, .int .u64 (z0 : Int), .int .i64 3, .int .u64 (z3 : Int)] 45)
  obtain ⟨W5, e5⟩ : ∃ W, W = w4.alloc (.cells #[.int .i64 1, .int .u64 (z0 : Int), .int .i64 3, .int .u64 (z3 : Int)] 45) := ⟨_, rfl⟩
  rw [← e5] at rw_ X5 ⊢
  obtain ⟨⟨hr1, hr2, hr3⟩, ⟨g0, g1, g2, g3⟩, g4, g5⟩ := HZ.out W5 X5
  have hra := HRA.out W5 X5
  clear e5 X4
  go_wp2_with (first
    | (go_at_call 10; refine (c4 _ _ _ _ _ _ _ _ _ hk1 (Nat.le_refl 1) ha2 hr1 hr3 hra rw_).mono ?_; clear c4; rintro e w6 ⟨rfl, x6⟩; have X6 := (X5.trans x6).alloc (.cells #[.int .u64 0, .int .u64 0] 30); obtain ⟨⟨-, -, hs3⟩, ⟨f0, f1, f2, f3⟩, f4, f5⟩ := HZ.out _ X6)
    | (go_at_call 11; refine (c5 _ _ hs3).mono ?_; clear c5; rintro e w7 ⟨rfl, x7⟩; have X7 := X6.trans x7; obtain ⟨⟨ht1, -, -⟩, ⟨i0, i1, i2, i3⟩, -, -⟩ := HZ.out _ X7)
    | (go_at_call 13; refine (c6 _ _ _ hk1 ht1).mono ?_; clear c6; rintro e w8 ⟨rfl, x8⟩; have X8 := X7.trans x8)
    | (go_at_call 13; refine (c7 _).mono ?_; clear c7; rintro e w9 ⟨rfl, x9⟩; have X9 := X8.trans x9; have ra9 := HRA.out _ X9; have rb9 := HRB.out _ X9; obtain ⟨_, e', -, l0, l1⟩ := reads_share ra9 (k := 1) rfl; cases e'; obtain ⟨_, e', -, m0, m1⟩ := reads_share rb9 (k := 1) rfl; cases e'; simp only [Nat.one_mul, addr_two] at l0 l1 m0 m1))
  go_ret
  exact ⟨rfl, HY.out _ X9⟩
end Go.Proofs.Ytiecfamjnnmpaaa

/- Statements of crews, walked: QuorumHolds, QuorumSigns. -/
namespace Go.Proofs.Ytiecfamjnnmpaaa
set_option linter.unusedVariables false
open Go.RowKit Go.Shelf Go.Maps
attribute [local irreducible] atN prodN sumN wantN chkN mix hSum hNum chalN chN scN qnN crewN enN rightN allN comE comS splitL partS cpN cmbE

set_option maxRecDepth 100000 in
set_option maxHeartbeats 4000000 in
theorem walk_QuorumHolds (t n : Int) (k : Nat) (A : Option Addr) (c : Nat) (p : List (Int × Nat)) (M : Option Addr) (d : Nat) (m : List Nat) (B : Option Addr) (e : Nat) (l : List (Int × Nat)) (a : Nat) (id : Int)
    (ht : (Lit.int .i64 t).wf = true) (hn : (Lit.int .i64 n).wf = true) (hk : k < 18446744073709551616) (hpc : p.length ≤ c) (hpw : idsWf p) (hp64 : ∀ s ∈ p, s.2 < 18446744073709551616)
    (hmd : m.length ≤ d) (hmr : d ≤ 140737488351232) (hmb : ∀ y ∈ m, y < 256) (hle : l.length ≤ e) (hlr : e * 16 ≤ 140737488351232) (hlw : idsWf l) (hl64 : ∀ s ∈ l, s.2 < 18446744073709551616) (ha : a < 18446744073709551616) (hid : (Lit.int .i64 id).wf = true) (w : World)
    (rp : Reads w w.heap.size 2 A p.length (sv p)) (rm : Reads w w.heap.size 1 M m.length (bv m)) (rl : Reads w w.heap.size 2 B l.length (sv l)) :
    Calls Try.prog 6 #[.agg #[.int .i64 t, .int .i64 n, .int .u64 (k : Int), .slice A p.length c], .slice M m.length d, .slice B l.length e, .int .u64 (a : Int), .int .i64 id] w fun e w' => e = .returned (.bool true) ∧ Ext w w' := by
  have cl := fun W => live6_any W
  have cf := fun W => few6_any (.int .i64 t) (.int .i64 n) (.int .u64 (k : Int)) A B M p.length c l.length e m.length d W
  have X0 : Ext w (w.alloc (.cells #[.int .i64 t, .int .i64 n, .int .u64 (k : Int), .slice A p.length c] 25)) := (Ext.refl w).alloc _
  have HB := Lib.hid fun (W : World) (x : Ext (w.alloc (.cells #[.int .i64 t, .int .i64 n, .int .u64 (k : Int), .slice A p.length c] 25)) W) => arr4 (ext_blk x (Blk.new w 25 #[.int .i64 t, .int .i64 n, .int .u64 (k : Int), .slice A p.length c]))
  by_cases hfew : p.length ≤ 20 ∧ l.length ≤ 20 ∧ m.length ≤ 200
  · rw [decide_eq_true hfew] at cf
    by_cases haR : bR ≤ a
    · have d1 : decide ((1152921504606845789 : Int) ≤ (a : Int)) = true := by unfold bR at haR; simp; omega
      have d2 : (1152921504606845789 : Int) ≤ (a : Int) := by unfold bR at haR; omega
      clear rp rm rl hpc hpw hp64 hmd hmr hmb hle hlr hlw hl64 ha hid ht hn hk hfew haR
      go_enter Try.func6, Try.ntmps6
      go_wp2_with (first
        | (go_at_call 8; refine (cl _).mono ?_; clear cl; rintro e w1 ⟨rfl, x1⟩; obtain ⟨g0, g1, g2, g3⟩ := HB.out _ x1)
        | (go_at_call 9; refine (cf _).mono ?_; clear cf; rintro e w2 ⟨rfl, x2⟩))
      go_ret
      exact ⟨rfl, (X0.trans x1).trans x2⟩
    · have d1 : decide ((1152921504606845789 : Int) ≤ (a : Int)) = false := by unfold bR at haR; simp; omega
      have d2 : ¬ (1152921504606845789 : Int) ≤ (a : Int) := by unfold bR at haR; omega
      have v : SesV k p m l := ⟨hk, hpw, hp64, by omega, hmb, by omega, hlw, hl64, by omega⟩
      have cP := fun (W : World) (x : Ext w W) => CheckPart_any t n k p m l v id a ha A M B c d e hpc hmd hle W ((rp.below x.out).more x.size) ((rm.below x.out).more x.size) ((rl.below x.out).more x.size)
      have cQ := fun (W : World) (x : Ext w W) => CheckPart_any t n k p m l v id (addM bR a 1) (lt64_R (addM_lt' (by decide) _ _)) A M B c d e hpc hmd hle W ((rp.below x.out).more x.size) ((rm.below x.out).more x.size) ((rl.below x.out).more x.size)
      have cA := fun W => AddRE a 1 W
      have hh := holds_plain (t := t) (n := n) (k := k) (p := p) (m := m) (l := l) (id := id) (a := a) (by omega)
      obtain ⟨b, hb⟩ : ∃ b, b = addM bR a 1 := ⟨_, rfl⟩
      rw [← hb] at cQ cA hh
      obtain ⟨E, hE⟩ : ∃ E, E = cpN t n k p m l id a := ⟨_, rfl⟩
      obtain ⟨F, hF⟩ : ∃ F, F = cpN t n k p m l id b := ⟨_, rfl⟩
      rw [← hE, ← hF] at hh
      rw [← hE] at cP
      rw [← hF] at cQ
      have hfin : ((E : Int) == 0) = true ∧ ((F : Int) == 60) = true ∨ ((E : Int) == 0) = false ∧ ((E : Int) == 60) = true ∨ ((E : Int) == 0) = false ∧ ((E : Int) == 60) = false ∧ ((E : Int) == (F : Int)) = true := by
        rcases hh with ⟨h1, h2⟩ | h1 | ⟨h1, h2⟩
        · rw [h1, h2]; exact .inl ⟨rfl, rfl⟩
        · rw [h1]; exact .inr (.inl ⟨rfl, rfl⟩)
        · by_cases h6 : E = 60
          · rw [h6]; exact .inr (.inl ⟨rfl, rfl⟩)
          · rw [← h2]
            refine .inr (.inr ⟨?_, ?_, ?_⟩)
            · simp; omega
            · simp; omega
            · simp
      clear rp rm rl hpc hpw hp64 hmd hmr hmb hle hlr hlw hl64 ha hid ht hn hk hfew haR v hb hE hF hh
      have HFI := Lib.hid hfin
      clear hfin
      go_enter Try.func6, Try.ntmps6
      go_wp2_with (first
        | (go_at_call 8; refine (cl _).mono ?_; clear cl; rintro e w1 ⟨rfl, x1⟩; obtain ⟨g0, g1, g2, g3⟩ := HB.out _ x1)
        | (go_at_call 9; refine (cf _).mono ?_; clear cf; rintro e w2 ⟨rfl, x2⟩; have X2 := x1.trans x2; obtain ⟨h0, h1, h2, h3⟩ := HB.out _ X2; clear g0 g1 g2 g3)
        | (go_at_call 15; refine (cP _ (X0.trans X2)).mono ?_; clear cP; rintro e w3 ⟨rfl, x3⟩; have X3 := X2.trans x3; obtain ⟨g0, g1, g2, g3⟩ := HB.out _ X3))
      have HX3 := Lib.hid X3
      clear h0 h1 h2 h3 x1 x2 x3 X2 X3
      go_region_held3 (fun w' => w'.cell? ⟨w.heap.size, 0, none⟩ = some (.int .i64 t) ∧ w'.cell? ⟨w.heap.size, 1, none⟩ = some (.int .i64 n) ∧ w'.cell? ⟨w.heap.size, 2, none⟩ = some (.int .u64 (k : Int)) ∧ w'.cell? ⟨w.heap.size, 3, none⟩ = some (.slice A p.length c)) (go_keep) (first
        | (go_at_call 16; refine (cA _).mono ?_; clear cA; rintro e w4 ⟨rfl, x4⟩; have X4 := HX3.out.trans ((Ext.refl w3).drew.trans x4); obtain ⟨h0, h1, h2, h3⟩ := HB.out _ X4)
        | (go_at_call 15; refine (cQ _ (X0.trans X4)).mono ?_; clear cQ; rintro e w5 ⟨rfl, x5⟩; have X5 := X4.trans x5; obtain ⟨i0, i1, i2, i3⟩ := HB.out _ X5))
      clear g0 g1 g2 g3 h0 h1 h2 h3 i0 i1 i2 i3
      rcases HFI.out with ⟨j1, j2⟩ | ⟨j1, j2⟩ | ⟨j1, j2, j3⟩
      · go_wp2
        go_ret
        exact ⟨rfl, X0.trans X5⟩
      · go_wp2
        go_ret
        exact ⟨rfl, X0.trans X5⟩
      · go_wp2
        go_ret
        exact ⟨rfl, X0.trans X5⟩
  · rw [decide_eq_false hfew] at cf
    clear rp rm rl hpc hpw hp64 hmd hmr hmb hle hlr hlw hl64 ha hid ht hn hk hfew
    go_enter Try.func6, Try.ntmps6
    go_wp2_with (first
      | (go_at_call 8; refine (cl _).mono ?_; clear cl; rintro e w1 ⟨rfl, x1⟩; obtain ⟨g0, g1, g2, g3⟩ := HB.out _ x1)
      | (go_at_call 9; refine (cf _).mono ?_; clear cf; rintro e w2 ⟨rfl, x2⟩))
    go_ret
    exact ⟨rfl, (X0.trans x1).trans x2⟩
end Go.Proofs.Ytiecfamjnnmpaaa

/- Statements of crews, walked: QuorumSigns. -/
namespace Go.Proofs.Ytiecfamjnnmpaaa
set_option linter.unusedVariables false
open Go.RowKit Go.Shelf Go.Maps
attribute [local irreducible] atN prodN sumN wantN chkN mix hSum hNum chalN chN scN qnN crewN enN rightN allN comE comS splitL partS cpN cmbE checkN

theorem eqSg (a b n m : Int) (w : World) : (Op.equalIn 10000 30 (.agg #[.int .u64 a, .int .u64 n]) (.agg #[.int .u64 b, .int .u64 m])).run Try.prog w = .ok (decide (a = b ∧ n = m)) w := by
  have hf : (Try.prog.fieldsOf 30).toList.map (fun f => (f.name != "_", f.type, f.offset)) = [(true, 22, 0), (true, 22, 1)] := by kernel_rfl
  have key : ∀ fs : List Field, fs.map (fun f => (f.name != "_", f.type, f.offset)) = [(true, 22, 0), (true, 22, 1)] → (Op.eqFields 9999 #[.int .u64 a, .int .u64 n] #[.int .u64 b, .int .u64 m] fs).run Try.prog w = .ok (decide (a = b ∧ n = m)) w := by
    intro fs h
    rcases fs with _ | ⟨f, _ | ⟨g, _ | ⟨e, r⟩⟩⟩
    · simp at h
    · simp at h
    · simp only [List.map_cons, List.map_nil, List.cons.injEq, Prod.mk.injEq, and_true, bne_iff_ne, ne_eq] at h
      obtain ⟨⟨f1, f2, f3⟩, g1, g2, g3⟩ := h
      have p1 : ∀ (x y : Value) (w : World), (part 22 #[x, y] 0).run Try.prog w = .ok x w := fun x y w => by kernel_rfl
      have p2 : ∀ (x y : Value) (w : World), (part 22 #[x, y] 1).run Try.prog w = .ok y w := fun x y w => by kernel_rfl
      have p3 := fun w => run_equalIn_int (P := Try.prog) w 9998 22 .u64 .u64 a b Try.underlying22
      have p4 := fun w => run_equalIn_int (P := Try.prog) w 9998 22 .u64 .u64 n m Try.underlying22
      simp only [Op.eqFields, ne_eq, f1, g1, not_false_eq_true, if_true, f2, f3, g2, g3, Sem.run_bind, p1, Result.andThen_ok, p3]
      by_cases h1 : a = b
      · subst h1
        by_cases h2 : n = m
        · subst h2
          simp [p2, p4]
        · simp [p2, p4, h2]
      · simp [h1]
    · simp at h
  rw [run_equalIn_struct w 9999 30 _ _ (by kernel_rfl) (by kernel_rfl)]
  exact key _ hf
theorem eqSg_zero (w : World) : (Op.equalIn 10000 30 (.agg #[.int .u64 0, .int .u64 0]) (.agg #[.int .u64 0, .int .u64 0])).run Try.prog w = .ok true w := by rw [eqSg]; rfl

set_option maxRecDepth 100000 in
set_option maxHeartbeats 4000000 in
theorem walk_QuorumSigns (t n : Int) (k : Nat) (A : Option Addr) (c : Nat) (p : List (Int × Nat)) (M : Option Addr) (d : Nat) (m : List Nat) (B : Option Addr) (e : Nat) (l : List (Int × Nat)) (D : Option Addr) (f : Nat) (q : List (Int × Nat))
    (ht : (Lit.int .i64 t).wf = true) (hn : (Lit.int .i64 n).wf = true) (hk : k < 18446744073709551616) (hpc : p.length ≤ c) (hpw : idsWf p) (hp64 : ∀ s ∈ p, s.2 < 18446744073709551616)
    (hmd : m.length ≤ d) (hmr : d ≤ 140737488351232) (hmb : ∀ y ∈ m, y < 256) (hle : l.length ≤ e) (hlr : e * 16 ≤ 140737488351232) (hlw : idsWf l) (hl64 : ∀ s ∈ l, s.2 < 18446744073709551616) (hqf : q.length ≤ f) (hqr : f * 16 ≤ 140737488351232) (hqw : idsWf q) (hq64 : ∀ s ∈ q, s.2 < 18446744073709551616) (w : World)
    (rp : Reads w w.heap.size 2 A p.length (sv p)) (rm : Reads w w.heap.size 1 M m.length (bv m)) (rl : Reads w w.heap.size 2 B l.length (sv l)) (rq : Reads w w.heap.size 2 D q.length (sv q)) :
    Calls Try.prog 3 #[.agg #[.int .i64 t, .int .i64 n, .int .u64 (k : Int), .slice A p.length c], .slice M m.length d, .slice B l.length e, .slice D q.length f] w fun e w' => e = .returned (.bool true) ∧ Ext w w' := by
  have cl := fun W => live6_any W
  have cf := fun W => few6_any (.int .i64 t) (.int .i64 n) (.int .u64 (k : Int)) A B M p.length c l.length e m.length d W
  have X0 : Ext w (w.alloc (.cells #[.int .i64 t, .int .i64 n, .int .u64 (k : Int), .slice A p.length c] 25)) := (Ext.refl w).alloc _
  have HB := Lib.hid fun (W : World) (x : Ext (w.alloc (.cells #[.int .i64 t, .int .i64 n, .int .u64 (k : Int), .slice A p.length c] 25)) W) => arr4 (ext_blk x (Blk.new w 25 #[.int .i64 t, .int .i64 n, .int .u64 (k : Int), .slice A p.length c]))
  by_cases hfew : p.length ≤ 20 ∧ l.length ≤ 20 ∧ m.length ≤ 200
  · rw [decide_eq_true hfew] at cf
    by_cases hq20 : 20 < q.length
    · have d1 : (20 : Int) < (q.length : Int) := by omega
      clear rp rm rl rq hpc hpw hp64 hmd hmr hmb hle hlr hlw hl64 hqf hqr hqw hq64 ht hn hk hfew hq20
      go_enter Try.func3, Try.ntmps3
      go_wp2_with (first
        | (go_at_call 8; refine (cl _).mono ?_; clear cl; rintro e w1 ⟨rfl, x1⟩; obtain ⟨g0, g1, g2, g3⟩ := HB.out _ x1)
        | (go_at_call 9; refine (cf _).mono ?_; clear cf; rintro e w2 ⟨rfl, x2⟩))
      go_ret
      exact ⟨rfl, (X0.trans x1).trans x2⟩
    · have d1 : ¬ (20 : Int) < (q.length : Int) := by omega
      have v : SesV k p m l := ⟨hk, hpw, hp64, by omega, hmb, by omega, hlw, hl64, by omega⟩
      have cX := fun (W : World) (x : Ext w W) => Combine_any t n k p m l v q hq64 (by omega) A M B D c d e f hpc hmd hle W ((rp.below x.out).more x.size) ((rm.below x.out).more x.size) ((rl.below x.out).more x.size) ((rq.below x.out).more x.size)
      have hs := signs_plain (t := t) (n := n) (k := k) (p := p) (m := m) (l := l) (q := q)
      unfold cmbV cmbS at cX
      obtain ⟨E, hE⟩ : ∃ E, E = cmbE t n k p m l q := ⟨_, rfl⟩
      rw [← hE] at hs cX
      by_cases h0 : E = 0
      · rw [if_pos h0, h0] at cX
        have hs := hs h0
        have hxb := chN_lt k m l
        have hyb := sumQ_lt q
        obtain ⟨x, hx⟩ : ∃ x, x = chN k m l := ⟨_, rfl⟩
        obtain ⟨y, hy⟩ : ∃ y, y = sumQ q := ⟨_, rfl⟩
        rw [← hx, ← hy] at hs cX
        rw [← hx] at hxb
        rw [← hy] at hyb
        have cK := fun (W : World) (z : Ext w W) => Check_any k hk x y (lt64_R hxb) (lt64_R hyb) m hmb (by omega) M d hmd W ((rm.below z.out).more z.size)
        rw [hs] at cK
        clear rp rm rl rq hpc hpw hp64 hmd hmr hmb hle hlr hlw hl64 hqf hqr hqw hq64 ht hn hk hfew hq20 v hE h0 hx hy hxb hyb hs
        go_enter Try.func3, Try.ntmps3
        go_wp2_with (first
          | (go_at_call 8; refine (cl _).mono ?_; clear cl; rintro e w1 ⟨rfl, x1⟩; obtain ⟨g0, g1, g2, g3⟩ := HB.out _ x1)
          | (go_at_call 9; refine (cf _).mono ?_; clear cf; rintro e w2 ⟨rfl, x2⟩; have X2 := x1.trans x2; obtain ⟨h0, h1, h2, h3⟩ := HB.out _ X2)
          | (go_at_call 10; refine (cX _ (X0.trans X2)).mono ?_; clear cX; rintro e w3 ⟨rfl, x3⟩; have X3 := (X2.trans x3).alloc (.cells #[.int .u64 (x : Int), .int .u64 (y : Int)] 30); obtain ⟨i0, i1, i2, i3⟩ := HB.out _ X3)
          | (go_at_call 11; refine (cK _ (X0.trans X3)).mono ?_; clear cK; rintro e w4 ⟨rfl, x4⟩))
        go_ret
        exact ⟨rfl, (X0.trans X3).trans x4⟩
      · rw [if_neg h0] at cX
        have k1 : ((E : Int) != 0) = true := by simp; omega
        have ez := eqSg_zero
        clear rp rm rl rq hpc hpw hp64 hmd hmr hmb hle hlr hlw hl64 hqf hqr hqw hq64 ht hn hk hfew hq20 v hE h0 hs
        go_enter Try.func3, Try.ntmps3
        go_wp2_with (first
          | (go_at_call 8; refine (cl _).mono ?_; clear cl; rintro e w1 ⟨rfl, x1⟩; obtain ⟨g0, g1, g2, g3⟩ := HB.out _ x1)
          | (go_at_call 9; refine (cf _).mono ?_; clear cf; rintro e w2 ⟨rfl, x2⟩; have X2 := x1.trans x2; obtain ⟨h0, h1, h2, h3⟩ := HB.out _ X2)
          | (go_at_call 10; refine (cX _ (X0.trans X2)).mono ?_; clear cX; rintro e w3 ⟨rfl, x3⟩; have X3 := (X2.trans x3).alloc (.cells #[.int .u64 0, .int .u64 0] 30)))
        go_ret
        exact ⟨rfl, X0.trans X3⟩
  · rw [decide_eq_false hfew] at cf
    clear rp rm rl rq hpc hpw hp64 hmd hmr hmb hle hlr hlw hl64 hqf hqr hqw hq64 ht hn hk hfew
    go_enter Try.func3, Try.ntmps3
    go_wp2_with (first
      | (go_at_call 8; refine (cl _).mono ?_; clear cl; rintro e w1 ⟨rfl, x1⟩; obtain ⟨g0, g1, g2, g3⟩ := HB.out _ x1)
      | (go_at_call 9; refine (cf _).mono ?_; clear cf; rintro e w2 ⟨rfl, x2⟩))
    go_ret
    exact ⟨rfl, (X0.trans x1).trans x2⟩
end Go.Proofs.Ytiecfamjnnmpaaa

/- Statements of crews, walked: QuorumAny. -/
namespace Go.Proofs.Ytiecfamjnnmpaaa
set_option linter.unusedVariables false
open Go.RowKit Go.Shelf Go.Maps
attribute [local irreducible] atN prodN sumN wantN chkN mix hSum hNum chalN chN scN qnN crewN enN rightN allN comE comS splitL partS cpN cmbE checkN qsC qsP qsS qsE

theorem spB_cases (u : Nat) (t n : Int) : spB u t n = false ∨ ∃ tn nn : Nat, t = tn ∧ n = nn ∧ 1 ≤ tn ∧ tn ≤ nn ∧ nn ≤ 7 := by
  cases hb : spB u t n with
  | false => exact .inl rfl
  | true =>
    right
    obtain ⟨h1, h2, h3, h4⟩ := of_decide_eq_true hb
    exact ⟨t.toNat, n.toNat, by omega, by omega, by omega, by omega, by omega⟩

set_option maxRecDepth 100000 in
set_option maxHeartbeats 4000000 in
theorem walk_QuorumAny (A : Option Addr) (c : Nat) (seed : List Nat) (t n who ss : Int) (M : Option Addr) (d : Nat) (m : List Nat) (hc : seed.length ≤ c) (hcr : c ≤ 140737488351232) (hseed : ∀ x ∈ seed, x < 256) (ht : (Lit.int .i64 t).wf = true) (hn : (Lit.int .i64 n).wf = true) (hwho : (Lit.int .i64 who).wf = true) (hss : (Lit.int .i64 ss).wf = true)
    (hmd : m.length ≤ d) (hmr : d ≤ 140737488351232) (hmb : ∀ y ∈ m, y < 256) (w : World) (rs : Reads w w.heap.size 1 A seed.length (bv seed)) (rm : Reads w w.heap.size 1 M m.length (bv m)) :
    Calls Try.prog 4 #[.slice A seed.length c, .int .i64 t, .int .i64 n, .int .i64 who, .int .i64 ss, .slice M m.length d] w fun e w' => e = .returned (.bool true) ∧ Ext w w' := by
  have cl := fun W => live6_any W
  by_cases hg : 200 < seed.length ∨ 200 < m.length ∨ ss < 0 ∨ 1099511627776 < ss
  · have hg' : Hid (200 < seed.length ∨ 200 < m.length ∨ ss < 0 ∨ 1099511627776 < ss) := Lib.hid hg
    clear hg hc hcr hseed ht hn hwho hss hmd hmr hmb rs rm
    by_cases g1 : (200 : Int) < (seed.length : Int)
    · go_enter Try.func4, Try.ntmps4
      go_wp2_with (go_at_call 8; refine (cl _).mono ?_; clear cl; rintro e w1 ⟨rfl, x1⟩)
      go_ret
      exact ⟨rfl, x1⟩
    by_cases g2 : (200 : Int) < (m.length : Int)
    · go_enter Try.func4, Try.ntmps4
      go_wp2_with (go_at_call 8; refine (cl _).mono ?_; clear cl; rintro e w1 ⟨rfl, x1⟩)
      go_ret
      exact ⟨rfl, x1⟩
    by_cases g3 : ss < 0
    · go_enter Try.func4, Try.ntmps4
      go_wp2_with (go_at_call 8; refine (cl _).mono ?_; clear cl; rintro e w1 ⟨rfl, x1⟩)
      go_ret
      exact ⟨rfl, x1⟩
    have g4 : decide ((1099511627776 : Int) < ss) = true := by have := hg'.out; simp; omega
    have g5 : (1099511627776 : Int) < ss := of_decide_eq_true g4
    go_enter Try.func4, Try.ntmps4
    go_wp2_with (go_at_call 8; refine (cl _).mono ?_; clear cl; rintro e w1 ⟨rfl, x1⟩)
    go_ret
    exact ⟨rfl, x1⟩
  · have g1 : ¬ (200 : Int) < (seed.length : Int) := by omega
    have g2 : ¬ (200 : Int) < (m.length : Int) := by omega
    have g3 : ¬ ss < 0 := by omega
    have g5 : ¬ (1099511627776 : Int) < ss := by omega
    have g4 : decide ((1099511627776 : Int) < ss) = false := decide_eq_false g5
    rcases spB_cases (secN seed) t n with hb | ⟨tn, nn, rfl, rfl, h1, h2, h3⟩
    · have cD := fun (W : World) (x : Ext w W) => Deal_bad seed hseed (by omega) t n hb A c hc W ((rs.below x.out).more x.size)
      clear hg hc hcr hseed ht hn hwho hss hmd hmr hmb rs rm hb
      go_enter Try.func4, Try.ntmps4
      go_wp2_with (first
        | (go_at_call 8; refine (cl _).mono ?_; clear cl; rintro e w1 ⟨rfl, x1⟩)
        | (go_at_call 12; refine (cD _ x1).mono ?_; clear cD; rintro e w2 ⟨rfl, x2⟩))
      go_ret
      exact ⟨rfl, (x1.trans x2).alloc _⟩
    · have hu := secN_lt seed
      have cD := fun (W : World) (x : Ext w W) => Deal_ok seed hseed (by omega) tn nn h1 h2 h3 A c hc W ((rs.below x.out).more x.size)
      obtain ⟨u, hue⟩ : ∃ u, u = secN seed := ⟨_, rfl⟩
      rw [← hue] at cD hu
      have hcrew := deal_crew (seed := seed) h1 h2 h3 hu
      have cC := fun (W : World) A c hc hr => quCheck_any (tn : Int) (nn : Int) (powM bQ 4 u) (lt64_Q (powM_lt (by decide) _ _)) (pubL (splitL u tn nn seed)) (qpub_wf (qsplit_wf h3)) (qpub_64 _) A c hc (by rw [pubL_length, splitL_length]; omega) W hr
      rw [hcrew] at cC
      have cS := fun (W : World) (x : Ext w W) P L c1 c2 k1 k2 rp rl => signed_any u tn nn seed h1 h2 h3 hu m hmb (by omega) who ss (by omega) (by omega) P L M c1 c2 d k1 k2 hmd W rp rl ((rm.below x.out).more x.size)
      unfold SgPost at cS
      have hpl : (pubL (splitL u tn nn seed)).length = nn := by rw [pubL_length, splitL_length]
      have hsucc : ∀ j, j < nn → (pickB (bitB who) (splitL u tn nn seed) (j + 1)).length = (pickB (bitB who) (splitL u tn nn seed) j).length + if bitB who j = true then 1 else 0 := fun j hj => by
        rw [pickB_succ _ _ (List.getElem?_eq_getElem (by rw [splitL_length]; exact hj)), List.length_append]
        split <;> rfl
      have hle : ∀ j, j ≤ nn → (pickB (bitB who) (splitL u tn nn seed) j).length ≤ 7 := fun j hj => by
        have := (pickB_sub' (bitB who) (splitL u tn nn seed) (by rw [splitL_length]; exact hj)).length_le
        rw [splitL_length] at this; omega
      have hE : qsE u tn nn seed who = if (whoL u tn nn seed who).length < tn then 50 else 0 := by unfold qsE; rfl
      have hS0 : (whoL u tn nn seed who).length < tn → qsS u tn nn seed m who ss = (0, 0) := fun h => by unfold qsS; rw [if_pos h]
      have hSl : (qsS u tn nn seed m who ss).1 < 18446744073709551616 ∧ (qsS u tn nn seed m who ss).2 < 18446744073709551616 := by
        unfold qsS
        split
        · decide
        · exact ⟨lt64_R (chN_lt _ _ _), lt64_R (sumQ_lt _)⟩
      have cK := fun (W : World) (x : Ext w W) => Check_any (powM bQ 4 u) (lt64_Q (powM_lt (by decide) _ _)) (qsS u tn nn seed m who ss).1 (qsS u tn nn seed m who ss).2 hSl.1 hSl.2 m hmb (by omega) M d hmd W ((rm.below x.out).more x.size)
      have hck := fun h => sg_check (u := u) (tn := tn) (nn := nn) (seed := seed) h1 h2 h3 hu m who ss h
      have hwl : whoL u tn nn seed who = pickB (bitB who) (splitL u tn nn seed) nn := rfl
      rw [hwl] at cS hE hS0
      simp only [hwl] at hck
      obtain ⟨k, hk⟩ : ∃ x, x = powM bQ 4 u := ⟨_, rfl⟩
      obtain ⟨p, hp⟩ : ∃ x, x = pubL (splitL u tn nn seed) := ⟨_, rfl⟩
      obtain ⟨l, hl⟩ : ∃ x, x = splitL u tn nn seed := ⟨_, rfl⟩
      obtain ⟨s, hs⟩ : ∃ x, x = qsS u tn nn seed m who ss := ⟨_, rfl⟩
      obtain ⟨E, hEe⟩ : ∃ x, x = qsE u tn nn seed who := ⟨_, rfl⟩
      rw [← hk] at cD cC cS cK hck
      rw [← hp] at cD cC cS hpl
      rw [← hl] at cD cS hsucc hle hE hS0 hck
      rw [← hs] at cS hS0 cK hck
      rw [← hEe] at cS hE
      rw [hpl] at cC
      have HSU := Lib.hid hsucc
      have HLE := Lib.hid hle
      have HE := Lib.hid hE
      have HS0 := Lib.hid hS0
      have HCS := Lib.hid cS
      have HCK := Lib.hid cK
      have HKK := Lib.hid hck
      have h7 : (nn : Int) ≤ 7 := by omega
      have g6 : ¬ (7 : Int) < (nn : Int) := by omega
      clear hg hc hcr hseed ht hn hwho hss hmd hmr hmb rs rm hu hue hcrew hpl hsucc hle hE hS0 hSl cK hck hwl hk hp hl hs hEe cS h1 h2 h3
      go_enter Try.func4, Try.ntmps4
      go_wp2_with (first
        | (go_at_call 8; refine (cl _).mono ?_; clear cl; rintro e w1 ⟨rfl, x1⟩)
        | (go_at_call 12; refine (cD _ x1).mono ?_; clear cD; rintro e w2 ⟨P, k1, L, k2, rfl, hk1, hk2, rp, rl, x2⟩; have b1 := Blk.new w2 25 #[.int .i64 (tn : Int), .int .i64 (nn : Int), .int .u64 (k : Int), .slice P nn k1]; obtain ⟨a0, a1, a2, a3⟩ := arr4 b1; have X2 := (Ext.refl w2).alloc (.cells #[.int .i64 (tn : Int), .int .i64 (nn : Int), .int .u64 (k : Int), .slice P nn k1] 25); have y2 := x1.trans x2)
        | (go_at_call 13; refine (cC _ _ _ hk1 ((rp.below X2.out).more X2.size)).mono ?_; clear cC; rintro e w3 ⟨rfl, x3⟩; have X3 := X2.trans x3))
      have RP := Lib.hid ((rp.below X3.out).more X3.size)
      have RL := Lib.hid ((rl.below X3.out).more X3.size)
      obtain ⟨f0, f1, f2, f3⟩ := arr4 (ext_blk x3 b1)
      have HB := Lib.hid (ext_blk x3 b1)
      have Y3 := Lib.hid (y2.trans X3)
      have HK1 := Lib.hid hk1
      have HK2 := Lib.hid hk2
      clear rp rl a0 a1 a2 a3 b1 X2 X3 x1 x2 x3 y2 hk1 hk2
      go_loopg [17, 18] nn (fun q s17 s18 wr => ∃ j : Nat, j + q = nn ∧ s18 = .int .i64 j ∧ s17 = .int .i64 ((pickB (bitB who) l j).length : Nat) ∧ wr = w3)
      case atStart => exact ⟨0, by omega, rfl, rfl, rfl⟩
      case round =>
        obtain ⟨j, hj, rfl, rfl, rfl⟩ := hrel
        by_cases h : j < nn
        · have hjn : (j : Int) < nn := by omega
          have hle := HLE.out j (by omega)
          have hsu := HSU.out j h
          obtain ⟨y, hy⟩ : ∃ y, y = (pickB (bitB who) l j).length := ⟨_, rfl⟩
          rw [← hy] at hle hsu ⊢
          have hyb : (y : Int) ≤ 7 := by omega
          have HJ := Lib.hid hj
          have HSS := Lib.hid hsu
          clear hsu hle hj
          rcases bitI_cases who j with hb | hb
          · have t1 : bits .and .i64 (who / 2 ^ j) 1 = 0 := hb
            have e2 : bitB who j = false := by unfold bitB; rw [hb]; rfl
            have HE2 := Lib.hid e2
            clear hb e2 hy
            go_wp2
            have hj := HJ.out
            go_roundg (gk - 1)
            case measure => omega
            case rel => exact ⟨j + 1, by omega, int_congr (by omega), by rw [HSS.out, if_neg (by rw [HE2.out]; exact Bool.false_ne_true)]; rfl, rfl⟩
          · have t1 : bits .and .i64 (who / 2 ^ j) 1 = 1 := hb
            have e2 : bitB who j = true := by unfold bitB; rw [hb]; rfl
            have HE2 := Lib.hid e2
            clear hb e2 hy
            go_wp2
            have hj := HJ.out
            go_roundg (gk - 1)
            case measure => omega
            case rel => exact ⟨j + 1, by omega, int_congr (by omega), by rw [HSS.out, if_pos HE2.out]; exact int_congr (by omega), rfl⟩
        · obtain rfl : j = nn := by omega
          have hle := HLE.out j (Nat.le_refl _)
          have hE := HE.out
          have hs0 := HS0.out
          have hck := HKK.out
          have cS := HCS.out wr Y3.out P L k1 k2 HK1.out HK2.out RP.out RL.out
          obtain ⟨y, hy⟩ : ∃ y, y = (pickB (bitB who) l j).length := ⟨_, rfl⟩
          rw [← hy] at hle hE hs0 hck cS ⊢
          have HCK2 := HCK
          have ez := eqSg_zero
          by_cases hf : y < tn
          · have q1 : (y : Int) < (tn : Int) := by omega
            rw [if_pos hf] at hE
            rw [hs0 hf, hE] at cS
            clear hf hle hE hs0 hck hy HE HS0 HCK HKK HCS HSU HLE RP RL
            go_wp2_with (go_at_call 14; refine cS.mono ?_; clear cS; rintro e w4 ⟨A4, a4, B4, b4, rfl, -, -, -, -, x4⟩)
            go_ret
            exact ⟨rfl, (Y3.out.trans x4).alloc _⟩
          · have q1 : ¬ (y : Int) < (tn : Int) := by omega
            rw [if_neg hf] at hE
            rw [hE] at cS
            have hck := hck hf
            obtain ⟨s1, s2⟩ := s
            simp only at cS hck
            have cK := fun (W : World) (x : Ext w W) => HCK.out W x
            simp only [hck] at cK
            clear hf hle hE hs0 hck hy HE HS0 HCK HCK2 HKK HCS HSU HLE RP RL
            go_wp2_with (first
              | (go_at_call 14; refine cS.mono ?_; clear cS; rintro e w4 ⟨A4, a4, B4, b4, rfl, -, -, -, -, x4⟩; have X4 := x4.alloc (.cells #[.int .u64 (s1 : Int), .int .u64 (s2 : Int)] 30); obtain ⟨i0, i1, i2, i3⟩ := arr4 (ext_blk X4 HB.out))
              | (go_at_call 11; refine (cK _ (Y3.out.trans X4)).mono ?_; clear cK; rintro e w5 ⟨rfl, x5⟩))
            go_ret
            exact ⟨rfl, (Y3.out.trans X4).trans x5⟩
end Go.Proofs.Ytiecfamjnnmpaaa

/- Statements of crews, walked: QuorumFinds. -/
namespace Go.Proofs.Ytiecfamjnnmpaaa
set_option linter.unusedVariables false
open Go.RowKit Go.Shelf Go.Maps
attribute [local irreducible] atN prodN sumN wantN chkN mix hSum hNum chalN chN scN qnN crewN enN rightN allN comE comS splitL partS cpN cmbE cmbV checkN qsC qsP qsS qsE

theorem own_cells2 {w : World} {base g n cap : Nat} {e : TypeId} {l : List (Int × Nat)} (h : w.ownsRow base e 2 (.slice (some ⟨g, 0, none⟩) n cap) n (sv l)) {k : Nat} {s : Int × Nat} (hs : l[k]? = some s) :
    w.cell? ⟨g, k * 2, none⟩ = some (.int .i64 s.1) ∧ w.cell? ⟨g, k * 2 + 1, none⟩ = some (.int .u64 (s.2 : Int)) := by
  have e1 : ∀ j, (Addr.mk g 0 none).add j = ⟨g, j, none⟩ := fun j => by
    unfold Addr.add
    split <;> simp_all
  have h0 := h.cells (g := g) rfl (k * 2) _ (sv_at hs).1
  have h1 := h.cells (g := g) rfl (k * 2 + 1) _ (sv_at hs).2
  rw [e1] at h0 h1
  exact ⟨h0, h1⟩
theorem own_reads2 {w : World} {base n cap size : Nat} {A : Option Addr} {e : TypeId} {xs : List Value} (h : w.ownsRow base e size (.slice A n cap) n xs) : n ≤ cap ∧ Reads w w.heap.size size A n xs := by
  obtain ⟨A', c', e1, h1, h2⟩ := own_slice2 h
  injection e1 with e2 e3 e4
  subst e2; subst e4
  exact ⟨h1, h2⟩
theorem sv_set_at {l : List (Int × Nat)} {k : Nat} {s : Int × Nat} (h : l[k]? = some s) (v : Nat) : (sv l).set (k * 2 + 1) (.int .u64 (v : Int)) = sv (l.set k (s.1, v)) := by
  have hk := (List.getElem?_eq_some_iff.1 h).1
  have hl : (l.take k).length = k := by rw [List.length_take]; omega
  have e : l = l.take k ++ s :: l.drop (k + 1) := by
    conv => lhs; rw [← List.take_append_drop k l, List.drop_eq_getElem_cons hk, (List.getElem?_eq_some_iff.1 h).2]
  have e2 : l.set k (s.1, v) = l.take k ++ (s.1, v) :: l.drop (k + 1) := by
    conv => lhs; rw [e]
    rw [List.set_append_right _ _ (by omega), hl, Nat.sub_self, List.set_cons_zero]
  rw [e2]
  conv => lhs; rw [e]
  rw [sv_append, sv_append, List.set_append_right _ _ (by rw [sv_length, hl]; omega), sv_length, hl, show k * 2 + 1 - k * 2 = 1 by omega]
  rfl

theorem who127 (u tn nn : Nat) (seed : List Nat) (h7 : nn ≤ 7) : whoL u tn nn seed 127 = splitL u tn nn seed := by
  have hb : ∀ j, j < 7 → bitB 127 j = true := by decide
  have h := pickB_all (b := bitB 127) (l := splitL u tn nn seed) fun i hi => hb i (by rw [splitL_length] at hi; omega)
  rw [splitL_length] at h
  exact h
/-- One part that is another one. -/
theorem finds_plain {u tn nn : Nat} {seed : List Nat} (h1 : 1 ≤ tn) (h2 : tn ≤ nn) (h7 : nn ≤ 7) (hu : u < bR) (m : List Nat) (hmb : ∀ y ∈ m, y < 256) (hml : m.length ≤ 1000) (ss : Int) {by_ : Nat} (hb : by_ % bR ≠ 0) :
    (qsC u tn nn seed m 127 ss).length = nn ∧ (qsP u tn nn seed m 127 ss).length = nn ∧ qsE u tn nn seed 127 = 0 ∧ SesV (powM bQ 4 u) (pubL (splitL u tn nn seed)) m (qsC u tn nn seed m 127 ss) ∧ (∀ s ∈ qsP u tn nn seed m 127 ss, s.2 < bR) ∧
    ∀ i, i < nn → ∃ s : Int × Nat, (qsP u tn nn seed m 127 ss)[i]? = some s ∧ s.2 < bR ∧ cpN tn nn (powM bQ 4 u) (pubL (splitL u tn nn seed)) m (qsC u tn nn seed m 127 ss) s.1 s.2 = 0 ∧
      cpN tn nn (powM bQ 4 u) (pubL (splitL u tn nn seed)) m (qsC u tn nn seed m 127 ss) s.1 (addM bR s.2 (by_ % bR)) = 60 ∧
      cmbV tn nn (powM bQ 4 u) (pubL (splitL u tn nn seed)) m (qsC u tn nn seed m 127 ss) ((qsP u tn nn seed m 127 ss).set i (s.1, addM bR s.2 (by_ % bR))) = .tuple #[.agg #[.int .u64 0, .int .u64 0], .int .i64 60] := by
  have hw := who127 u tn nn seed h7
  have hl : (whoL u tn nn seed 127).length = nn := by rw [hw, splitL_length]
  have hf : ¬ (whoL u tn nn seed 127).length < tn := by omega
  have hs := whoL_sub u tn nn seed 127
  have hC : qsC u tn nn seed m 127 ss = comL m ss (whoL u tn nn seed 127) := by unfold qsC; rfl
  have hP : qsP u tn nn seed m 127 ss = parL (powM bQ 4 u) m ss (comL m ss (whoL u tn nn seed 127)) (whoL u tn nn seed 127) := by unfold qsP; rw [if_neg hf, hC]
  have hen := com_en (tn := tn) m ss hs
  rw [if_neg hf] at hen
  have hcr := deal_crew (seed := seed) h1 h2 h7 hu
  refine ⟨by rw [hC, comL_length, hl], by rw [hP, parL_length, hl], by unfold qsE; rw [if_neg hf], ?_, ?_, fun i hi => ?_⟩
  · rw [hC]; exact deal_sesV h7 hmb hml ss hs
  · rw [hP]
    intro s hs
    obtain ⟨r, -, rfl⟩ := List.mem_map.1 hs
    unfold partS
    exact addM_lt' (by decide) _ _
  · obtain ⟨r, hr⟩ : ∃ r, (whoL u tn nn seed 127)[i]? = some r := ⟨_, List.getElem?_eq_getElem (by omega)⟩
    have hrm := List.mem_of_getElem? hr
    have hPi : (qsP u tn nn seed m 127 ss)[i]? = some (r.1, partS (powM bQ 4 u) m (comL m ss (whoL u tn nn seed 127)) r.1 r.2 ss) := by
      rw [hP]; unfold parL; rw [List.getElem?_map, hr]; rfl
    refine ⟨_, hPi, by unfold partS; exact addM_lt' (by decide) _ _, ?_, ?_, sg_wrong h1 h2 h7 hu m 127 ss hf hPi hb⟩
    · unfold cpN rowN
      rw [hC, hcr, if_pos rfl, hen, if_pos rfl]
      exact part_right m ss hs hrm _
    · unfold cpN rowN
      rw [hC, hcr, if_pos rfl, hen, if_pos rfl]
      exact part_wrong m ss hs hrm _ hb

set_option maxRecDepth 100000 in
set_option maxHeartbeats 8000000 in
theorem walk_QuorumFinds (A : Option Addr) (c : Nat) (seed : List Nat) (t n ss : Int) (M : Option Addr) (d : Nat) (m : List Nat) (kk : Int) (by_ : Nat) (hc : seed.length ≤ c) (hcr : c ≤ 140737488351232) (hseed : ∀ x ∈ seed, x < 256) (ht : (Lit.int .i64 t).wf = true) (hn : (Lit.int .i64 n).wf = true) (hss : (Lit.int .i64 ss).wf = true)
    (hmd : m.length ≤ d) (hmr : d ≤ 140737488351232) (hmb : ∀ y ∈ m, y < 256) (hkk : (Lit.int .i64 kk).wf = true) (hby : by_ < 18446744073709551616) (w : World) (rs : Reads w w.heap.size 1 A seed.length (bv seed)) (rm : Reads w w.heap.size 1 M m.length (bv m)) :
    Calls Try.prog 5 #[.slice A seed.length c, .int .i64 t, .int .i64 n, .int .i64 ss, .slice M m.length d, .int .i64 kk, .int .u64 (by_ : Int)] w fun e w' => e = .returned (.bool true) ∧ Ext w w' := by
  have cl := fun W => live6_any W
  have kz : (by_ : Int).tmod 1152921504606845789 = ((by_ % bR : Nat) : Int) := by
    rw [Int.tmod_eq_emod_of_nonneg (by omega)]; unfold bR; omega
  obtain ⟨z, hz⟩ : ∃ z, z = by_ % bR := ⟨_, rfl⟩
  rw [← hz] at kz
  by_cases hg : 200 < seed.length ∨ 200 < m.length ∨ ss < 0 ∨ 1099511627776 < ss ∨ kk < 0 ∨ z = 0
  · have hg' : Hid (200 < seed.length ∨ 200 < m.length ∨ ss < 0 ∨ 1099511627776 < ss ∨ kk < 0 ∨ z = 0) := Lib.hid hg
    clear hg hc hcr hseed ht hn hss hmd hmr hmb rs rm hkk hby hz
    by_cases g1 : (200 : Int) < (seed.length : Int)
    · go_enter Try.func5, Try.ntmps5
      go_wp2_with (go_at_call 8; refine (cl _).mono ?_; clear cl; rintro e w1 ⟨rfl, x1⟩)
      go_ret
      exact ⟨rfl, x1⟩
    by_cases g2 : (200 : Int) < (m.length : Int)
    · go_enter Try.func5, Try.ntmps5
      go_wp2_with (go_at_call 8; refine (cl _).mono ?_; clear cl; rintro e w1 ⟨rfl, x1⟩)
      go_ret
      exact ⟨rfl, x1⟩
    by_cases g3 : ss < 0
    · go_enter Try.func5, Try.ntmps5
      go_wp2_with (go_at_call 8; refine (cl _).mono ?_; clear cl; rintro e w1 ⟨rfl, x1⟩)
      go_ret
      exact ⟨rfl, x1⟩
    by_cases g4' : (1099511627776 : Int) < ss
    · have g4 : decide ((1099511627776 : Int) < ss) = true := decide_eq_true g4'
      go_enter Try.func5, Try.ntmps5
      go_wp2_with (go_at_call 8; refine (cl _).mono ?_; clear cl; rintro e w1 ⟨rfl, x1⟩)
      go_ret
      exact ⟨rfl, x1⟩
    have g4 : decide ((1099511627776 : Int) < ss) = false := decide_eq_false g4'
    by_cases g5 : kk < 0
    · go_enter Try.func5, Try.ntmps5
      go_wp2_with (go_at_call 8; refine (cl _).mono ?_; clear cl; rintro e w1 ⟨rfl, x1⟩)
      go_ret
      exact ⟨rfl, x1⟩
    have hz : z = 0 := by have := hg'.out; omega
    subst hz
    go_enter Try.func5, Try.ntmps5
    go_wp2_with (go_at_call 8; refine (cl _).mono ?_; clear cl; rintro e w1 ⟨rfl, x1⟩)
    go_ret
    exact ⟨rfl, x1⟩
  · have g1 : ¬ (200 : Int) < (seed.length : Int) := by omega
    have g2 : ¬ (200 : Int) < (m.length : Int) := by omega
    have g3 : ¬ ss < 0 := by omega
    have g4 : decide ((1099511627776 : Int) < ss) = false := decide_eq_false (by omega)
    have g5 : ¬ kk < 0 := by omega
    have g6 : ((z : Int) == 0) = false := by simp; omega
    have g7 : ¬ (1099511627776 : Int) < ss := by omega
    rcases spB_cases (secN seed) t n with hb | ⟨tn, nn, rfl, rfl, h1, h2, h3⟩
    · have cD := fun (W : World) (x : Ext w W) => Deal_bad seed hseed (by omega) t n hb A c hc W ((rs.below x.out).more x.size)
      clear hg hc hcr hseed ht hn hss hmd hmr hmb rs rm hb hkk hby hz
      go_enter Try.func5, Try.ntmps5
      go_wp2_with (first
        | (go_at_call 8; refine (cl _).mono ?_; clear cl; rintro e w1 ⟨rfl, x1⟩)
        | (go_at_call 12; refine (cD _ x1).mono ?_; clear cD; rintro e w2 ⟨rfl, x2⟩))
      go_ret
      exact ⟨rfl, (x1.trans x2).alloc _⟩
    · have hu := secN_lt seed
      have cD := fun (W : World) (x : Ext w W) => Deal_ok seed hseed (by omega) tn nn h1 h2 h3 A c hc W ((rs.below x.out).more x.size)
      obtain ⟨u, hue⟩ : ∃ u, u = secN seed := ⟨_, rfl⟩
      rw [← hue] at cD hu
      have cS := fun (W : World) (x : Ext w W) P L c1 c2 k1 k2 rp rl => signed_any u tn nn seed h1 h2 h3 hu m hmb (by omega) 127 ss (by omega) (by omega) P L M c1 c2 d k1 k2 hmd W rp rl ((rm.below x.out).more x.size)
      unfold SgPost at cS
      rw [who127 u tn nn seed h3, splitL_length] at cS
      obtain ⟨f1, f2, f3, f4, f5, f6⟩ := finds_plain (seed := seed) h1 h2 h3 hu m hmb (by omega) ss (by_ := by_) (by omega)
      rw [f2, f3] at cS
      rw [← hz] at f6
      have hpl : (pubL (splitL u tn nn seed)).length = nn := by rw [pubL_length, splitL_length]
      obtain ⟨k, hk⟩ : ∃ x, x = powM bQ 4 u := ⟨_, rfl⟩
      obtain ⟨p, hp⟩ : ∃ x, x = pubL (splitL u tn nn seed) := ⟨_, rfl⟩
      obtain ⟨l, hl⟩ : ∃ x, x = splitL u tn nn seed := ⟨_, rfl⟩
      obtain ⟨C, hC⟩ : ∃ x, x = qsC u tn nn seed m 127 ss := ⟨_, rfl⟩
      obtain ⟨Q, hQ⟩ : ∃ x, x = qsP u tn nn seed m 127 ss := ⟨_, rfl⟩
      obtain ⟨⟨s1, s2⟩, hs⟩ : ∃ x, x = qsS u tn nn seed m 127 ss := ⟨_, rfl⟩
      rw [← hk] at cD cS f4 f6
      rw [← hp] at cD cS hpl f4 f6
      rw [← hl] at cD cS
      rw [← hC] at cS f1 f4 f6
      rw [← hQ] at cS f2 f5 f6
      rw [← hs] at cS
      simp only at cS
      -- what CheckPart and Combine say
      have HCP := Lib.hid fun (W : World) (x : Ext w W) (id : Int) (y : Nat) (hy : y < bR) P k1 (hk1 : nn ≤ k1) (rp : Reads W W.heap.size 2 P nn (sv p)) A4 a4 (ha4 : nn ≤ a4) (rc : Reads W W.heap.size 2 A4 nn (sv C)) => CheckPart_any tn nn k p m C f4 id y (lt64_R hy) P M A4 k1 d a4 (by rw [hpl]; exact hk1) hmd (by rw [f1]; exact ha4) W (by rw [hpl]; exact rp) ((rm.below x.out).more x.size) (by rw [f1]; exact rc)
      have HCX := Lib.hid fun (W : World) (x : Ext w W) (q : List (Int × Nat)) (hq : ∀ s ∈ q, s.2 < bR) (hql : q.length = nn) P k1 (hk1 : nn ≤ k1) (rp : Reads W W.heap.size 2 P nn (sv p)) A4 a4 (ha4 : nn ≤ a4) (rc : Reads W W.heap.size 2 A4 nn (sv C)) D f (rq : Reads W W.heap.size 2 D nn (sv q)) => Combine_any tn nn k p m C f4 q (fun s hs => lt64_R (hq s hs)) (by omega) P M A4 D k1 d a4 f (by rw [hpl]; exact hk1) hmd (by rw [f1]; exact ha4) W (by rw [hpl]; exact rp) ((rm.below x.out).more x.size) (by rw [f1]; exact rc) (by rw [hql]; exact rq)
      simp only [hpl, f1] at HCP HCX
      have HF6 := Lib.hid f6
      have HF5 := Lib.hid f5
      have HF2 := Lib.hid f2
      have HZB : Hid (z < bR) := Lib.hid (by rw [hz]; exact Nat.mod_lt _ (by decide))
      obtain ⟨kn, rfl⟩ : ∃ kn : Nat, kk = kn := ⟨kk.toNat, by omega⟩
      have hkn : (kn : Int).tmod (nn : Int) = ((kn % nn : Nat) : Int) := by
        rw [Int.tmod_eq_emod_of_nonneg (by omega)]; rfl
      have hql : kn % nn < nn := Nat.mod_lt _ (by omega)
      obtain ⟨q, hq⟩ : ∃ q, q = kn % nn := ⟨_, rfl⟩
      rw [← hq] at hkn hql
      have h7 : (nn : Int) ≤ 7 := by omega
      have h8 : ¬ (nn : Int) < 1 := by omega
      have h9 : ((nn : Int) != (nn : Int)) = false := by simp
      have h10 : (1 : Int) ≤ (nn : Int) := by omega
      have HQL := Lib.hid hql
      have HN0 : Hid (0 < nn) := Lib.hid (by omega)
      clear hg hc hcr hseed ht hn hss hmd hmr hmb rs rm hkk hby hu hue f1 f2 f4 f5 f6 hpl hk hp hl hC hQ hs hz hq h1 h2 h3 hql
      go_enter Try.func5, Try.ntmps5
      go_wp2_with (first
        | (go_at_call 8; refine (cl _).mono ?_; clear cl; rintro e w1 ⟨rfl, x1⟩)
        | (go_at_call 12; refine (cD _ x1).mono ?_; clear cD; rintro e w2 ⟨P, k1, L, k2, rfl, hk1, hk2, rp, rl, x2⟩; have b1 := Blk.new w2 25 #[.int .i64 (tn : Int), .int .i64 (nn : Int), .int .u64 (k : Int), .slice P nn k1]; obtain ⟨a0, a1, a2, a3⟩ := arr4 b1; have X2 := (Ext.refl w2).alloc (.cells #[.int .i64 (tn : Int), .int .i64 (nn : Int), .int .u64 (k : Int), .slice P nn k1] 25); have y2 := x1.trans x2)
        | (go_at_call 14; refine (cS _ (y2.trans X2) _ _ _ _ hk1 hk2 ((rp.below X2.out).more X2.size) ((rl.below X2.out).more X2.size)).mono ?_; clear cS; rintro e w3 ⟨A4, a4, B4, b4, rfl, ha4, hb4, ra, rb, x3⟩))
      have b3 := ext_blk (x3.alloc (.cells #[.int .u64 (s1 : Int), .int .u64 (s2 : Int)] 30)) b1
      have z3 := x3.alloc (.cells #[.int .u64 (s1 : Int), .int .u64 (s2 : Int)] 30)
      have za := (Ext.refl w3).alloc (.cells #[.int .u64 (s1 : Int), .int .u64 (s2 : Int)] 30)
      obtain ⟨W4, e4⟩ : ∃ W, W = w3.alloc (.cells #[.int .u64 (s1 : Int), .int .u64 (s2 : Int)] 30) := ⟨_, rfl⟩
      rw [← e4] at b3 z3 za ⊢
      have HY := Lib.hid (y2.trans (X2.trans z3))
      have HB := Lib.hid fun (W : World) (x : Ext W4 W) => arr4 (ext_blk x b3)
      have HR := Lib.hid fun (W : World) (x : Ext W4 W) => And.intro ((rp.below ((X2.trans z3).trans x).out).more ((X2.trans z3).trans x).size) (And.intro ((ra.below (za.trans x).out).more (za.trans x).size) ((rb.below (za.trans x).out).more (za.trans x).size))
      have HK1 := Lib.hid hk1
      have HA4 := Lib.hid ha4
      have HZ4 := Lib.hid hk2
      clear e4 b1 b3 z3 za x1 x2 x3 X2 y2 rp rl ra rb hk1 hk2 ha4 hb4 a0 a1 a2 a3
      go_loopg [24] nn (fun g s24 wr => ∃ j : Nat, j + g = nn ∧ s24 = .int .i64 j ∧ Ext W4 wr)
      case atStart => exact ⟨0, by omega, rfl, Ext.refl _⟩
      case round =>
        obtain ⟨j, hj, rfl, hx⟩ := hrel
        by_cases h : j < nn
        · have hjn : (j : Int) < nn := by omega
          obtain ⟨s, hs, hsb, hc0, -, -⟩ := HF6.out j h
          obtain ⟨hrp, hra, hrb⟩ := HR.out wr hx
          obtain ⟨a0, a1, a2, a3⟩ := HB.out wr hx
          obtain ⟨ad, rfl, -, q0, q1⟩ := reads_share hrb hs
          have cP := fun (W : World) (x : Ext W4 W) => HCP.out W (HY.out.trans x) s.1 s.2 hsb P k1 HK1.out (HR.out W x).1 A4 a4 HA4.out (HR.out W x).2.1
          rw [hc0] at cP
          have HJ := Lib.hid hj
          have HX := Lib.hid hx
          clear hj hx hrp hra hrb hs hc0 h
          go_wp2
          go_region_held3 (fun w' => w'.cell? ⟨w2.heap.size, 0, none⟩ = some (.int .i64 (tn : Int)) ∧ w'.cell? ⟨w2.heap.size, 1, none⟩ = some (.int .i64 (nn : Int)) ∧ w'.cell? ⟨w2.heap.size, 2, none⟩ = some (.int .u64 (k : Int)) ∧ w'.cell? ⟨w2.heap.size, 3, none⟩ = some (.slice P nn k1) ∧ w'.cell? (ad.add (j * 2)) = some (.int .i64 s.1) ∧ w'.cell? ⟨(ad.add (j * 2)).block, (ad.add (j * 2)).off + 1, none⟩ = some (.int .u64 (s.2 : Int))) (go_keep) (first
            | (go_at_call 15; refine (cP _ (HX.out.trans (Ext.refl wr).drew)).mono ?_; clear cP; rintro e w5 ⟨rfl, x5⟩; have x5 := (Ext.refl wr).drew.trans x5; have r0 := x5.cell a0; have r1 := x5.cell a1; have r2 := x5.cell a2; have r3 := x5.cell a3; have r4 := x5.cell q0; have r5 := x5.cell q1))
          clear a0 a1 a2 a3 q0 q1 r0 r1 r2 r3 r4 r5
          have hj := HJ.out
          go_wp2
          go_roundg (gk - 1)
          case measure => omega
          case rel => exact ⟨j + 1, by omega, int_congr (by omega), HX.out.trans x5⟩
        · obtain rfl : j = nn := by omega
          obtain ⟨i1, hi1, hz3, hz4, hz5⟩ := info_parts Try.infoSh
          obtain ⟨s, hs, hsb, -, hc60, hcm⟩ := HF6.out q HQL.out
          have hrb := (HR.out wr hx).2.2
          have cA := fun W => AddRE s.2 z W
          have hyb := addM_lt' (m := bR) (by decide) s.2 z
          have cP := fun (W : World) (x : Ext W4 W) => HCP.out W (HY.out.trans x) s.1 (addM bR s.2 z) hyb P k1 HK1.out (HR.out W x).1 A4 a4 HA4.out (HR.out W x).2.1
          rw [hc60] at cP
          have hsb2 : ∀ r ∈ Q.set q (s.1, addM bR s.2 z), r.2 < bR := fun r hr => by
            rcases List.mem_or_eq_of_mem_set hr with h | rfl
            · exact HF5.out r h
            · exact hyb
          have cX := fun (W : World) (x : Ext W4 W) D f rq => HCX.out W (HY.out.trans x) (Q.set q (s.1, addM bR s.2 z)) hsb2 (by rw [List.length_set]; exact HF2.out) P k1 HK1.out (HR.out W x).1 A4 a4 HA4.out (HR.out W x).2.1 D f rq
          simp only [List.length_set, HF2.out, hcm] at cX
          obtain ⟨y, hy⟩ : ∃ y, y = addM bR s.2 z := ⟨_, rfl⟩
          rw [← hy] at cA cP cX
          have hsv := sv_set_at hs y
          have hs2 : (Q.set q (s.1, y))[q]? = some (s.1, y) := by rw [List.getElem?_set, if_pos rfl, if_pos (by rw [HF2.out]; exact HQL.out)]
          obtain ⟨Q2, hQ2⟩ : ∃ Q2, Q2 = Q.set q (s.1, y) := ⟨_, rfl⟩
          rw [← hQ2] at cX hsv hs2
          have HSV := Lib.hid hsv
          have HS := Lib.hid hs
          have HS2 := Lib.hid hs2
          have HX := Lib.hid hx
          have HRB := Lib.hid hrb
          have hqj : (q : Int) < (j : Int) := by have := HQL.out; omega
          have ez := eqSg_zero
          clear hx hrb hyb hsb2 hy hsv hs2 hQ2 hs hj h hc60 hcm hsb
          go_wp2_with (first
            | (at_builtin; refine wpList_append_any _ rfl (.tmp 113) (.tmp 114) 23 rfl W4.heap.size 45 i1 (.agg #[.int .i64 0, .int .u64 0]) 2 16 Try.underlying23 hi1 hz3 hz4 hz5 rfl (by decide) _ _ _ rfl (own_empty wr W4.heap.size wr.heap.size rfl HX.out.size _ 2) wr.heap.size B4 j b4 (sv Q) rfl (HRB.out.alloc (Nat.le_refl _) _) (sv_one _) (by simp only [maxLen]; omega) (by omega) (by have := HX.out.size; simp; omega) ?_; intro v6 w6 hown6 hg6 _; rw [Nat.zero_add, List.nil_append] at hown6; obtain ⟨g, cap, rfl, hgb, -⟩ := hown6.form HN0.out; have X6 := ext_grown (HX.out.alloc _) (own_empty wr W4.heap.size wr.heap.size rfl HX.out.size _ 2) hg6; have O6 := Lib.hid hown6; have q6 := (own_cells2 hown6 HS.out).2; clear hown6 hg6)
            | (go_at_call 16; refine (cA _).mono ?_; clear cA; rintro e w7 ⟨rfl, x7⟩; have O7 := own_ext O6.out x7; have f7 := O7.frozenAt (q * 2 + 1); have q7 := (own_cells2 O7 HS.out).2; have o8 := (O7.stored (q * 2 + 1) (.int .u64 (y : Int))).1; rw [HSV.out] at o8; have X8 := Lib.hid ((X6.trans x7).setCell (p := ⟨g, q * 2 + 1, none⟩) hgb (.int .u64 (y : Int))); have O8 := Lib.hid o8; obtain ⟨a0, a1, a2, a3⟩ := HB.out _ X8.out; clear o8 O7 x7 X6)
            | (go_at_call 10; refine (cX _ X8.out _ _ (own_reads2 O8.out).2).mono ?_; clear cX; rintro e w9 ⟨rfl, x9⟩))
          have XX := Lib.hid (X8.out.trans (x9.alloc (.cells #[.int .u64 0, .int .u64 0] 30)))
          have bz := Blk.new w9 30 #[.int .u64 0, .int .u64 0]
          have oz := own_ext O8.out (x9.alloc (.cells #[.int .u64 0, .int .u64 0] 30))
          obtain ⟨g9, hg9⟩ : ∃ g, g = w9.heap.size := ⟨_, rfl⟩
          obtain ⟨W9, e9⟩ : ∃ W, W = w9.alloc (.cells #[.int .u64 0, .int .u64 0] 30) := ⟨_, rfl⟩
          rw [← e9] at XX bz oz ⊢
          rw [← hg9] at bz ⊢
          clear a0 a1 a2 a3 q6 q7 f7 e9 hg9 x9 X8 O8 O6
          obtain ⟨a0, a1, a2, a3⟩ := HB.out _ XX.out
          obtain ⟨l0, l1⟩ := own_cells2 oz HS2.out
          obtain ⟨m0, m1⟩ := two bz
          have HSIG := Lib.hid fun (W : World) (x : Ext W9 W) => two (ext_blk x bz)
          clear bz oz
          simp only at l0 l1
          go_region_held3 (fun w' => w'.cell? ⟨w2.heap.size, 0, none⟩ = some (.int .i64 (tn : Int)) ∧ w'.cell? ⟨w2.heap.size, 1, none⟩ = some (.int .i64 (j : Int)) ∧ w'.cell? ⟨w2.heap.size, 2, none⟩ = some (.int .u64 (k : Int)) ∧ w'.cell? ⟨w2.heap.size, 3, none⟩ = some (.slice P j k1) ∧ w'.cell? ⟨g, q * 2, none⟩ = some (.int .i64 s.1) ∧ w'.cell? ⟨g, q * 2 + 1, none⟩ = some (.int .u64 (y : Int)) ∧ w'.cell? ⟨g9, 0, none⟩ = some (.int .u64 0) ∧ w'.cell? ⟨g9, 1, none⟩ = some (.int .u64 0)) (go_keep) (first
            | (go_at_call 15; refine (cP _ (XX.out.trans (Ext.refl W9).drew)).mono ?_; clear cP; rintro e w5 ⟨rfl, x5⟩; have x5 := (Ext.refl W9).drew.trans x5; have r0 := x5.cell a0; have r1 := x5.cell a1; have r2 := x5.cell a2; have r3 := x5.cell a3; have r4 := x5.cell l0; have r5 := x5.cell l1; have r6 := x5.cell m0; have r7 := x5.cell m1))
          go_wp2
          go_ret
          exact ⟨rfl, HY.out.trans (XX.out.trans x5)⟩
end Go.Proofs.Ytiecfamjnnmpaaa

/- Statements of crews, walked: QuorumJoins. -/
namespace Go.Proofs.Ytiecfamjnnmpaaa
set_option linter.unusedVariables false
open Go.RowKit Go.Shelf Go.Maps
attribute [local irreducible] atN prodN sumN wantN chkN mix hSum hNum chalN chN scN qnN crewN enN rightN allN comE comS splitL partS cpN cmbE cmbV checkN qsC qsP qsS qsE joinR

set_option maxRecDepth 100000 in
set_option maxHeartbeats 2000000 in
theorem Shares_any (l m : List (Int × Nat)) (A B : Option Addr) (c d : Nat) (hn : l.length ≤ 1099511627776) (w : World) (hr : Reads w w.heap.size 2 A l.length (sv l)) (hs : Reads w w.heap.size 2 B m.length (sv m)) :
    Calls Try.prog 19 #[.slice A l.length c, .slice B m.length d] w fun e w' => e = .returned (.bool (decide (l = m))) ∧ Ext w w' := by
  by_cases hl : l.length = m.length
  · have hr0 : Hid (Reads w w.heap.size 2 A l.length (sv l)) := Lib.hid hr
    have hs0 : Hid (Reads w w.heap.size 2 B m.length (sv m)) := Lib.hid hs
    have HN := Lib.hid hn
    have HL := Lib.hid hl
    rw [← hl]
    clear hr hs hn hl
    have hse := eqSh
    go_enter Try.func19, Try.ntmps19
    go_wp2
    go_loopg [5] l.length (fun g s5 wr => ∃ j : Nat, j + g = l.length ∧ s5 = .int .i64 j ∧ l.take j = m.take j ∧ Ext w wr)
    case atStart => exact ⟨0, by omega, rfl, by simp, Ext.refl w⟩
    case round =>
      obtain ⟨j, hj, rfl, hok, hx⟩ := hrel
      by_cases h : j < l.length
      · obtain ⟨s, hs⟩ : ∃ s, l[j]? = some s := ⟨_, List.getElem?_eq_getElem h⟩
        obtain ⟨t, ht⟩ : ∃ s, m[j]? = some s := ⟨_, List.getElem?_eq_getElem (by rw [← HL.out]; exact h)⟩
        obtain ⟨ad, rfl, hlt, q0, q1⟩ := reads_share (hr0.out.below hx.out) hs
        obtain ⟨bd, rfl, hlt', r0, r1⟩ := reads_share (hs0.out.below hx.out) ht
        have hjb : (j : Int) ≤ 1099511627776 := by have := HN.out; omega
        have HX := Lib.hid hx
        have HJ := Lib.hid hj
        have e1 : l.take (j + 1) = l.take j ++ [s] := by rw [List.take_add_one, hs]; rfl
        have e2 : m.take (j + 1) = m.take j ++ [t] := by rw [List.take_add_one, ht]; rfl
        have q0' := fun n : Nat => show (wr.drewN n).cell? _ = _ from q0
        have q1' := fun n : Nat => show (wr.drewN n).cell? _ = _ from q1
        have r0' := fun n : Nat => show (wr.drewN n).cell? _ = _ from r0
        have r1' := fun n : Nat => show (wr.drewN n).cell? _ = _ from r1
        by_cases hst : s = t
        · have hok' : Hid (l.take (j + 1) = m.take (j + 1)) := by show _ = _; rw [e1, e2, hok, hst]
          subst hst
          have hse := fun w => (eqSh s.1 s.1 s.2 s.2 w).trans (by rw [decide_eq_true ⟨rfl, rfl⟩])
          clear hx hj hok hs ht e1 e2
          go_wp2
          go_region
          all_goals go_wp2
          have hj := HJ.out
          all_goals go_roundg (gk - 1)
          case measure => omega
          case rel => exact ⟨j + 1, by omega, int_congr (by omega), hok'.out, HX.out.drew⟩
        · have k : decide (l = m) = false := decide_eq_false fun e => hst (by rw [e, ht] at hs; exact (Option.some.inj hs).symm)
          clear hx hj hok hs ht e1 e2
          by_cases h1 : s.1 = t.1
          · have d1 : decide (s.1 = t.1) = true := decide_eq_true h1
            have d2 : decide ((s.2 : Int) = (t.2 : Int)) = false := decide_eq_false fun h2 => hst (Prod.ext h1 (Int.ofNat_inj.1 h2))
            clear hst h1
            go_wp2
            go_region
            all_goals go_wp2
            all_goals go_ret
            all_goals first | exact ⟨ret_bool k.symm, HX.out.drew⟩ | exact ⟨rfl, HX.out.drew⟩
          · have d1 : decide (s.1 = t.1) = false := decide_eq_false h1
            clear hst h1
            go_wp2
            go_region
            all_goals go_wp2
            all_goals go_ret
            all_goals first | exact ⟨ret_bool k.symm, HX.out.drew⟩ | exact ⟨rfl, HX.out.drew⟩
      · obtain rfl : j = l.length := by omega
        have k : decide (l = m) = true := decide_eq_true (by rw [List.take_length] at hok; rw [hok, HL.out, List.take_length])
        have HX := Lib.hid hx
        clear hx hok hj
        go_wp2
        go_ret
        first | exact ⟨ret_bool k.symm, HX.out⟩ | exact ⟨rfl, HX.out⟩
  · have k : decide (l = m) = false := decide_eq_false fun e => hl (by rw [e])
    have d1 : ((l.length : Int) != (m.length : Int)) = true := by simp; omega
    clear hr hs hn
    go_enter Try.func19, Try.ntmps19
    go_wp2
    go_ret
    first | exact ⟨ret_bool k.symm, Ext.refl w⟩ | exact ⟨rfl, Ext.refl w⟩

set_option maxRecDepth 100000 in
set_option maxHeartbeats 8000000 in
theorem walk_QuorumJoins (A : Option Addr) (c : Nat) (seed : List Nat) (t n who : Int) (hc : seed.length ≤ c) (hcr : c ≤ 140737488351232) (hseed : ∀ x ∈ seed, x < 256) (ht : (Lit.int .i64 t).wf = true) (hn : (Lit.int .i64 n).wf = true) (hwho : (Lit.int .i64 who).wf = true) (w : World) (rs : Reads w w.heap.size 1 A seed.length (bv seed)) :
    Calls Try.prog 7 #[.slice A seed.length c, .int .i64 t, .int .i64 n, .int .i64 who] w fun e w' => e = .returned (.bool true) ∧ Ext w w' := by
  have cl := fun W => live6_any W
  by_cases hg : 200 < seed.length
  · have g1 : (200 : Int) < (seed.length : Int) := by omega
    clear hg hc hcr hseed ht hn hwho rs
    go_enter Try.func7, Try.ntmps7
    go_wp2_with (go_at_call 8; refine (cl _).mono ?_; clear cl; rintro e w1 ⟨rfl, x1⟩)
    go_ret
    exact ⟨rfl, x1⟩
  · have g1 : ¬ (200 : Int) < (seed.length : Int) := by omega
    rcases spB_cases (secN seed) t n with hb | ⟨tn, nn, rfl, rfl, h1, h2, h3⟩
    · have cD := fun (W : World) (x : Ext w W) => Deal_bad seed hseed (by omega) t n hb A c hc W ((rs.below x.out).more x.size)
      clear hg hc hcr hseed ht hn hwho rs hb
      go_enter Try.func7, Try.ntmps7
      go_wp2_with (first
        | (go_at_call 8; refine (cl _).mono ?_; clear cl; rintro e w1 ⟨rfl, x1⟩)
        | (go_at_call 12; refine (cD _ x1).mono ?_; clear cD; rintro e w2 ⟨rfl, x2⟩))
      go_ret
      exact ⟨rfl, (x1.trans x2).alloc _⟩
    · have hu := secN_lt seed
      have cD := fun (W : World) (x : Ext w W) => Deal_ok seed hseed (by omega) tn nn h1 h2 h3 A c hc W ((rs.below x.out).more x.size)
      have HcZ := Lib.hid fun (W : World) (x : Ext w W) => Secret_any seed hseed (by omega) A c hc W ((rs.below x.out).more x.size)
      obtain ⟨u, hue⟩ : ∃ u, u = secN seed := ⟨_, rfl⟩
      rw [← hue] at cD hu HcZ
      have HcB := Lib.hid fun W => Base_any u (lt64_R hu) W
      have hsub := whoL_sub u tn nn seed who
      have hwlen := whoL_len u tn nn seed who
      have hww : idsWf (whoL u tn nn seed who) := fun i hi => by
        obtain ⟨s, hs, rfl⟩ := List.mem_map.1 hi
        exact qsplit_wf h3 _ (List.mem_map.2 ⟨s, hsub.subset hs, rfl⟩)
      have hj : ¬ (whoL u tn nn seed who).length < tn → joinR (whoL u tn nn seed who) = .tuple #[.int .u64 (u : Int), .int .i64 0] := fun hf =>
        join_split h1 hu (fun s hs => split_onP h3 s (hsub.subset hs)) (List.Pairwise.map _ (fun a b (hab : a.1 < b.1) e => by omega) ((split_asc u tn nn seed).sublist hsub)) (by omega) (by omega)
      have HcJ := Lib.hid fun (W : World) B b hr => Join_any (whoL u tn nn seed who) hww B b (by omega) W hr
      obtain ⟨q1, q2⟩ := qpubO_split (secret := u) (tn := tn) (seed := seed) (show 1 ≤ nn by omega) h3
      have HcP := Lib.hid fun (W : World) L k2 (hq : Reads W W.heap.size 2 L nn (sv (splitL u tn nn seed))) => shPublic_any (splitL u tn nn seed) (qsplit_wf h3) (fun s hs => lt64_R (split_onP h3 s hs).range.2) L k2 (by rw [splitL_length]; omega) W (by rw [splitL_length]; exact hq)
      rw [q1, q2] at HcP
      simp only [pubL_length, splitL_length] at HcP
      have HcS := Lib.hid fun (W : World) B D b d (hb : Reads W W.heap.size 2 B nn (sv (pubL (splitL u tn nn seed)))) (hd : Reads W W.heap.size 2 D nn (sv (pubL (splitL u tn nn seed)))) => Shares_any (pubL (splitL u tn nn seed)) (pubL (splitL u tn nn seed)) B D b d (by rw [pubL_length, splitL_length]; omega) W (by rw [pubL_length, splitL_length]; exact hb) (by rw [pubL_length, splitL_length]; exact hd)
      simp only [pubL_length, splitL_length, decide_true] at HcS
      have HLN := Lib.hid (splitL_length u tn nn seed)
      have HSP : Hid (∀ j, pickB (bitB who) (splitL u tn nn seed) j = pickB (bitB who) (splitL u tn nn seed) j) := Lib.hid fun _ => rfl
      have hwl : whoL u tn nn seed who = pickB (bitB who) (splitL u tn nn seed) nn := rfl
      have HSL : Hid (∀ j, j ≤ nn → (pickB (bitB who) (splitL u tn nn seed) j).length ≤ 7) := Lib.hid fun j hj => by
        have := (pickB_sub' (bitB who) (splitL u tn nn seed) (by rw [splitL_length]; exact hj)).length_le
        rw [splitL_length] at this; omega
      rw [hwl] at HcJ hj hwlen
      obtain ⟨k, hk⟩ : ∃ x, x = powM bQ 4 u := ⟨_, rfl⟩
      obtain ⟨p, hp⟩ : ∃ x, x = pubL (splitL u tn nn seed) := ⟨_, rfl⟩
      obtain ⟨l, hl⟩ : ∃ x, x = splitL u tn nn seed := ⟨_, rfl⟩
      rw [← hk] at cD HcB
      rw [← hp] at cD HcP HcS
      rw [← hl] at cD HcJ hj hwlen HcP HLN HSL
      have HJN := Lib.hid hj
      have h7 : (nn : Int) ≤ 7 := by omega
      have HN7 := Lib.hid h3
      clear hg hc hcr hseed ht hn hwho rs hu hue hsub hwlen hww hj q1 q2 hwl hk hp hl h1 h2 HSP h3
      obtain ⟨i1, hi1, hz3, hz4, hz5⟩ := info_parts Try.infoSh
      go_enter Try.func7, Try.ntmps7
      go_wp2_with (first
        | (go_at_call 8; refine (cl _).mono ?_; clear cl; rintro e w1 ⟨rfl, x1⟩)
        | (go_at_call 12; refine (cD _ x1).mono ?_; clear cD; rintro e w2 ⟨P, k1, L, k2, rfl, hk1, hk2, rp, rl, x2⟩; have b1 := Blk.new w2 25 #[.int .i64 (tn : Int), .int .i64 (nn : Int), .int .u64 (k : Int), .slice P nn k1]; have X2 := (Ext.refl w2).alloc (.cells #[.int .i64 (tn : Int), .int .i64 (nn : Int), .int .u64 (k : Int), .slice P nn k1] 25); have y2 := x1.trans x2))
      obtain ⟨W2, e2⟩ : ∃ W, W = w2.alloc (.cells #[.int .i64 (tn : Int), .int .i64 (nn : Int), .int .u64 (k : Int), .slice P nn k1] 25) := ⟨_, rfl⟩
      rw [← e2] at b1 X2 ⊢
      have HB := Lib.hid fun (W : World) (x : Ext W2 W) => arr4 (ext_blk x b1)
      have HRP := Lib.hid fun (W : World) (x : Ext W2 W) => (rp.below (X2.trans x).out).more (X2.trans x).size
      have HRL := Lib.hid fun (W : World) (x : Ext W2 W) => (rl.below (X2.trans x).out).more (X2.trans x).size
      have HY := Lib.hid fun (W : World) (x : Ext W2 W) => (y2.trans X2).trans x
      clear e2 b1 X2 y2 rp rl x1 x2
      go_loopg [13, 14] nn (fun q s13 s14 wr => ∃ j : Nat, j + q = nn ∧ s14 = .int .i64 j ∧ wr.ownsRow W2.heap.size 45 2 s13 (pickB (bitB who) l j).length (sv (pickB (bitB who) l j)) ∧ Ext W2 wr)
      case atStart => exact ⟨0, by omega, rfl, own_nil W2 _ _ _, Ext.refl W2⟩
      case round =>
        obtain ⟨j, hj, rfl, hown, hx⟩ := hrel
        by_cases h : j < nn
        · have hjn : (j : Int) < nn := by omega
          obtain ⟨s, hs⟩ : ∃ s, l[j]? = some s := ⟨_, List.getElem?_eq_getElem (by rw [HLN.out]; exact h)⟩
          obtain ⟨ad, rfl, hlt, q0, q1⟩ := reads_share (HRL.out wr hx) hs
          have hsucc := pickB_succ (bitB who) l hs
          have hSl := HSL.out j (by omega)
          obtain ⟨S, hS⟩ : ∃ S, S = pickB (bitB who) l j := ⟨_, rfl⟩
          rw [← hS] at hown hsucc hSl
          have hse : sv [s] = [.int .i64 s.1, .int .u64 (s.2 : Int)] := rfl
          have HX := Lib.hid hx
          have HJ := Lib.hid hj
          have HSE := Lib.hid hse
          have HSU := Lib.hid hsucc
          have HOW := Lib.hid hown
          have HSLL := Lib.hid hSl
          rcases bitI_cases who j with hb | hb
          · have t1 : (bits .and .i64 (who / 2 ^ j) 1 == 1) = false := by unfold bitI at hb; rw [hb]; rfl
            have e2 : bitB who j = false := by unfold bitB; rw [hb]; rfl
            have HE2 := Lib.hid e2
            clear hx hj hs hown hS hSl hse hsucc hb e2
            go_wp2
            have hj := HJ.out
            go_roundg (gk - 1)
            case measure => omega
            case rel => exact ⟨j + 1, by omega, int_congr (by omega), by rw [HSU.out, if_neg (by rw [HE2.out]; exact Bool.false_ne_true), List.append_nil]; exact HOW.out, HX.out⟩
          · have t1 : (bits .and .i64 (who / 2 ^ j) 1 == 1) = true := by unfold bitI at hb; rw [hb]; rfl
            have e2 : bitB who j = true := by unfold bitB; rw [hb]; rfl
            have HE2 := Lib.hid e2
            clear hx hj hs hown hS hSl hse hsucc hb e2
            go_wp2_with (at_builtin; refine wpList_append_own _ rfl (.tmp 50) (.tmp 55) 23 rfl W2.heap.size 45 i1 (.agg #[.int .i64 0, .int .u64 0]) 2 16 Try.underlying23 hi1 hz3 hz4 hz5 rfl (by decide) _ _ _ rfl (own_ext HOW.out ((Ext.refl wr).alloc _)) ⟨wr.heap.size, 0, none⟩ 1 1 [.int .i64 s.1, .int .u64 (s.2 : Int)] rfl rfl (cell_two_new wr (.int .i64 s.1) (.int .u64 (s.2 : Int)) 45) (by simp [Value.oneCell']) (by have := HSLL.out; simp only [maxLen]; omega) (by have := HSLL.out; omega) (by have := HX.out.size; simp; omega) ?_; intro v4 w4 hown4 hg4 _)
            have X4 := ext_grown (HX.out.alloc _) (own_ext HOW.out ((Ext.refl wr).alloc _)) hg4
            have hj := HJ.out
            go_wp2
            go_roundg (gk - 1)
            case measure => omega
            case rel => exact ⟨j + 1, by omega, int_congr (by omega), by rw [HSU.out, if_pos HE2.out, sv_append, HSE.out, List.length_append]; exact hown4, X4⟩
        · obtain rfl : j = nn := by omega
          obtain ⟨B, b, rfl, hb, hr⟩ := own_slice2 hown
          have hj := HJN.out
          have hle := HSL.out j (Nat.le_refl _)
          have cJ := fun (W : World) hr => HcJ.out W B b hr
          obtain ⟨S, hS⟩ : ∃ S, S = pickB (bitB who) l j := ⟨_, rfl⟩
          rw [← hS] at hr hj hle cJ ⊢
          have HX := Lib.hid hx
          have HRS := Lib.hid hr
          by_cases hf : S.length < tn
          · have t1 : (S.length : Int) < (tn : Int) := by omega
            clear hx hr hj hle cJ hown hS hf HcJ HcP HcS HcZ HcB HJN HSL HRP HRL h hb
            go_wp2
            go_ret
            exact ⟨rfl, HY.out _ HX.out⟩
          · have t1 : ¬ (S.length : Int) < (tn : Int) := by omega
            have cJ := cJ wr hr
            rw [hj hf] at cJ
            have cP := fun (W : World) (x : Ext W2 W) => HcP.out W L k2 (HRL.out W x)
            have cZ := fun (W : World) (x : Ext W2 W) => HcZ.out W (HY.out W x)
            have cB := fun (W : World) => HcB.out W
            have cS := fun (W : World) (x : Ext W2 W) B b hb => HcS.out W B P b k1 hb (HRP.out W x)
            clear hx hr hj hle hown hS hf HcJ HcP HcS HcZ HcB HJN HSL HRP HRL h hb
            go_wp2_with (first
              | (go_at_call 17; refine cJ.mono ?_; clear cJ; rintro e w5 ⟨rfl, x5⟩; have X5 := HX.out.trans x5)
              | (go_at_call 18; refine (cP _ X5).mono ?_; clear cP; rintro e w6 ⟨B6, b6, rfl, -, r6, x6, -⟩; have X6 := X5.trans x6; obtain ⟨f0, f1, f2, f3⟩ := HB.out _ X6)
              | (go_at_call 19; refine (cS _ X6 _ _ r6).mono ?_; clear cS; rintro e w7 ⟨rfl, x7⟩; have X7 := Lib.hid (X6.trans x7)))
            clear f0 f1 f2 f3 x5 x6 x7 X5 X6 r6
            have f2 := (HB.out w7 X7.out).2.2.1
            go_region_held3 (fun w' => w'.cell? ⟨w2.heap.size, 2, none⟩ = some (.int .u64 (k : Int))) (go_keep) (first
              | (go_at_call 20; refine (cZ _ (X7.out.trans (Ext.refl w7).drew)).mono ?_; clear cZ; rintro e w8 ⟨rfl, x8⟩; have X8 := (Ext.refl w7).drew.trans x8; have h2 := X8.cell f2)
              | (go_at_call 21; refine (cB _).mono ?_; clear cB; rintro e w9 ⟨rfl, x9⟩; have X9 := X8.trans x9; have h3 := X9.cell f2))
            go_wp2
            go_ret
            exact ⟨rfl, HY.out _ (X7.out.trans X9)⟩
end Go.Proofs.Ytiecfamjnnmpaaa
