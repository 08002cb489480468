/- The document's Coded, Tagged, Pair, walked. -/
import Derived.Test.YtbomfnlipbdigaaHaRefS
namespace Go.Proofs.Ytbomfnlipbdigaa
set_option linter.unusedVariables false
open Go.RowKit Go.Shelf

theorem be_drop4 (n : Nat) : (be n 8).drop 4 = be n 4 := by simp [be, beN, List.range_succ]
theorem cut4 {W : World} {A : Option Addr} {c n : Nat} (h : Reads W W.heap.size 1 A 8 (bv (be n 8))) (hc : 8 ≤ c) :
    ∃ A', (∀ w : World, (Instr.slice 22 (.slice A 8 c) (some (.int .i64 4)) none none).run Try.prog w = .ok (.slice A' 4 (c - 4)) w) ∧ Reads W W.heap.size 1 A' 4 (bv (be n 4)) := by
  have h1 := h.cut (k := 4) (cap := c) (by decide) hc
  refine ⟨_, fun w => slice_l8 A 8 c 4 (by decide) w, ?_⟩
  have e : (bv (be n 8)).drop (4 * 1) = bv (be n 4) := by rw [← be_drop4]; simp [bv]
  rw [e] at h1
  exact h1

set_option maxRecDepth 100000 in
set_option maxHeartbeats 1000000 in
theorem rCoded_any (tag : ByteArray) (ps : List (List Nat)) (A : Option Addr) (c : Nat) (hpc0 : ps.length ≤ c) (w : World) (hr : Parts w w.heap.size A ps) (htot : (coded (strN tag) ps).length ≤ 1099511627776) :
    Calls Try.prog 55 #[.string tag, .slice A ps.length c] w fun e w' => ∃ A' c', e = .returned (.slice A' (coded (strN tag) ps).length c') ∧ (coded (strN tag) ps).length ≤ c' ∧ Reads w' w'.heap.size 1 A' (coded (strN tag) ps).length (bv (coded (strN tag) ps)) ∧ Ext w w' := by
  obtain ⟨i0, hi, hz0, hz1, hz2⟩ := info_parts Try.infoU8
  have htl : tag.size + 1 ≤ (coded (strN tag) ps).length := by
    have := coded_take_le (strN tag) ps 0
    rw [List.take_zero, coded_nil, List.length_cons, strN_length] at this
    exact this
  have hcc := coded_take_le (strN tag) ps
  have hc0 : coded (strN tag) [] = tag.size % 256 :: strN tag := by rw [coded_nil, strN_length]
  obtain ⟨tot, ht⟩ : ∃ tot, tot = (coded (strN tag) ps).length := ⟨_, rfl⟩
  rw [← ht] at htot htl hcc
  have hpl : ps.length ≤ tot := by
    rw [ht, coded, List.length_append, List.length_flatMap]
    have : ps.length ≤ (ps.map fun p => (be p.length 4 ++ p).length).sum := by
      clear ht hcc hc0 htl hr htot hpc0
      induction ps with
      | nil => simp
      | cons p ps ih =>
        simp only [List.length_cons, List.map_cons, List.sum_cons]
        rw [List.length_append, be_length]
        omega
    omega
  have k1 : IntKind.u8.wrap (tag.size : Int) = ((tag.size % 256 : Nat) : Int) := by rw [IntKind.wrap_u8]; omega
  obtain ⟨d, hd⟩ : ∃ d, d = tag.size % 256 := ⟨_, rfl⟩
  rw [← hd] at k1 hc0
  have HT := Lib.hid ht
  have HC := Lib.hid hcc
  have HR := Lib.hid hr
  have hpi : (ps.length : Int) ≤ 1099511627776 := by omega
  have hpc : (ps.length : Int) ≤ c := by omega
  clear hd ht hcc hr hpc0
  go_enter Try.func55, Try.ntmps55
  go_wp2_with (at_builtin; refine wpList_append_own_src _ rfl (.tmp 10) (.tmp 11) 22 9 rfl w.heap.size 5 i0 (.int .u8 0) 1 1 Try.underlying22 hi hz0 hz1 hz2 rfl (.slice (some ⟨w.heap.size, 0, none⟩) 1 1) _ _ rfl (own_new w w.heap.size w.heap.size rfl (Nat.le_refl _) 5 (.int .u8 (d : Int))) (.string tag) tag.size (byteCells tag) rfl (Src.ofString _ Try.underlying9 tag) (by simp only [maxLen]; omega) (by omega) (by simp) (by simp) ?_; intro v1 w1 hown1 hg1 _)
  have hx1 : Hid (Ext w w1) := Lib.hid (Ext.of (((Below.refl _ _).alloc (Nat.le_refl _) _).grown hg1 (by simp) (fun k e => by simp [Value.ownBlock] at e; omega)))
  have ho : Hid (w1.ownsRow w.heap.size 5 1 v1 (coded (strN tag) (ps.take 0)).length (bv (coded (strN tag) (ps.take 0)))) := by
    show World.ownsRow _ _ _ _ _ _ _
    rw [List.take_zero, hc0, List.length_cons, strN_length, Nat.add_comm tag.size 1]
    have e : bv (d :: strN tag) = [.int .u8 (d : Int)] ++ byteCells tag := by rw [byteCells_strN]; rfl
    rw [e]
    exact hown1
  clear hown1 hg1 hc0 k1
  go_loopg [5, 6] ps.length (fun m s5 s6 wr => ∃ j : Nat, j + m = ps.length ∧ s6 = .int .i64 j ∧ wr.ownsRow w.heap.size 5 1 s5 (coded (strN tag) (ps.take j)).length (bv (coded (strN tag) (ps.take j))) ∧ Ext w wr)
  case atStart => exact ⟨0, by omega, rfl, ho.out, hx1.out⟩
  case round =>
    obtain ⟨j, hj, rfl, hown, hx⟩ := hrel
    clear ho hx1
    by_cases h : j < ps.length
    · obtain ⟨p, hp⟩ : ∃ p, ps[j]? = some p := ⟨_, List.getElem?_eq_getElem h⟩
      obtain ⟨ad, a, c', rfl, hcell0, hpc, hrp0⟩ := HR.out.at_ hp
      have HCW : Hid (∀ W, Ext w W → W.cell? (ad.add j) = some (.slice a p.length c')) := Lib.hid (fun W x => x.cell hcell0)
      have HRW : Hid (∀ W, Ext w W → Reads W w.heap.size 1 a p.length (bv p)) := Lib.hid (fun W x => hrp0.below x.out)
      have hcell := HCW.out wr hx
      have hle := HC.out (j + 1)
      have ht1 : ps.take (j + 1) = ps.take j ++ [p] := by rw [List.take_add_one, hp]; rfl
      rw [ht1, coded_snoc] at hle
      simp only [List.length_append, be_length] at hle
      obtain ⟨l, hl⟩ : ∃ l, l = coded (strN tag) (ps.take j) := ⟨_, rfl⟩
      rw [← hl] at hown hle
      have HN : Hid (coded (strN tag) (ps.take (j + 1)) = l ++ be p.length 4 ++ p) := by show _ = _; rw [ht1, coded_snoc, hl]
      have cE := fun W => Eight_any p.length W
      have hpt : (p.length : Int) ≤ 1099511627776 := by omega
      have z1 : (j : Int) < ps.length := by omega
      have HLE := Lib.hid hle
      have HJ := Lib.hid hj
      have HX := Lib.hid hx
      clear hle hj hx ht1 hl hp htl hrp0 hcell0 h
      go_wp2_with (first
        | (go_at_call 68; refine (cE _).mono ?_; clear cE; rintro e w2 ⟨v2, rfl, o2, x2⟩; obtain ⟨AE, kE, rfl, hkE, rE⟩ := own_slice o2; obtain ⟨AF, hAF, rF⟩ := cut4 rE hkE; clear o2 rE)
        | (at_builtin; refine wpList_append_any _ rfl (.tmp 19) (.tmp 27) 22 rfl w.heap.size 5 i0 (.int .u8 0) 1 1 Try.underlying22 hi hz0 hz1 hz2 rfl (by decide) u5 l.length (bv l) rfl (own_ext hown x2) w2.heap.size AF 4 (kE - 4) (bv (be p.length 4)) rfl rF (bv_one _) (by have := HLE.out; simp only [maxLen]; omega) (by have := HLE.out; omega) (Nat.le_trans HX.out.size x2.size) ?_; intro v3 w3 hown3 hg3 _;
            have x3 : Ext w w3 := Ext.of (Below.grown (HX.out.trans x2).out hg3 (HX.out.trans x2).size (own_ge hown)); have hcell3 := HCW.out w3 x3)
        | (at_builtin; refine wpList_append_any _ rfl (.tmp 29) (.tmp 33) 22 rfl w.heap.size 5 i0 (.int .u8 0) 1 1 Try.underlying22 hi hz0 hz1 hz2 rfl (by decide) v3 (l.length + 4) (bv l ++ bv (be p.length 4)) rfl hown3 w.heap.size a p.length c' (bv p) rfl (HRW.out w3 x3) (bv_one _) (by have := HLE.out; simp only [maxLen]; omega) (by have := HLE.out; omega) x3.size ?_; intro v4 w4 hown4 hg4 _))
      have x4 : Hid (Ext w w4) := Lib.hid (Ext.of (Below.grown x3.out hg4 x3.size (own_ge hown3)))
      have O4 : Hid (w4.ownsRow w.heap.size 5 1 v4 (coded (strN tag) (ps.take (j + 1))).length (bv (coded (strN tag) (ps.take (j + 1))))) := by
        show World.ownsRow _ _ _ _ _ _ _
        rw [HN.out, show (l ++ be p.length 4 ++ p).length = l.length + 4 + p.length by simp only [List.length_append, be_length], show bv (l ++ be p.length 4 ++ p) = bv l ++ bv (be p.length 4) ++ bv p by rw [bv_append, bv_append]]
        exact hown4
      have hj := HJ.out
      clear hown4 hg4 hown3 hg3 x3 x2 hown rF hAF hcell hcell3
      go_roundg (gk - 1)
      case measure => omega
      case rel => exact ⟨j + 1, by omega, int_congr (by omega), O4.out, x4.out⟩
    · obtain rfl : j = ps.length := by omega
      rw [List.take_length] at hown
      obtain ⟨A', c', rfl, hc', hr'⟩ := own_slice hown
      have HX := Lib.hid hx
      have HRR := Lib.hid hr'
      have HCC := Lib.hid hc'
      obtain ⟨n, hn⟩ : ∃ n, n = (coded (strN tag) ps).length := ⟨_, rfl⟩
      rw [← hn]
      have HNN := Lib.hid hn
      clear hown hr' hx hc' hj h hn
      go_wp2
      go_ret
      exact ⟨A', c', by rw [← HNN.out]; rfl, HCC.out, HRR.out, HX.out⟩

set_option maxRecDepth 100000 in
set_option maxHeartbeats 1000000 in
theorem rTagged_any (tag : ByteArray) (ps : List (List Nat)) (hps : ∀ p ∈ ps, ∀ x ∈ p, x < 256) (A : Option Addr) (c : Nat) (hpc0 : ps.length ≤ c) (w : World) (hr : Parts w w.heap.size A ps) (htot : (coded (strN tag) ps).length ≤ 1099511627776) :
    Calls Try.prog 37 #[.string tag, .slice A ps.length c] w fun e w' => e = .returned (.agg #[.int .u64 ((hSum (coded (strN tag) ps)).1 : Int), .int .u64 ((hSum (coded (strN tag) ps)).2 : Int)]) ∧ Ext w w' := by
  have hall := coded_lt (strN tag) (strN_lt tag) ps hps
  have cC := rCoded_any tag ps A c hpc0 (w.alloc (.cells #[.int .u64 0, .int .u64 0] 50)) (by
    obtain ⟨vs, h1, h2⟩ := hr
    exact ⟨vs, (h1.alloc (Nat.le_refl _) _).more (by simp), fun j p hj => by obtain ⟨a, c, e, hc, hr⟩ := h2 j p hj; exact ⟨a, c, e, hc, (hr.alloc (Nat.le_refl _) _).more (by simp)⟩⟩) htot
  have cS := fun A' c' hc' W hr' => rSum_any (coded (strN tag) ps) hall htot A' c' hc' W hr'
  obtain ⟨l, hl⟩ : ∃ l, l = coded (strN tag) ps := ⟨_, rfl⟩
  rw [← hl] at cC cS ⊢
  obtain ⟨r1, hr1⟩ : ∃ r, r = (hSum l).1 := ⟨_, rfl⟩
  obtain ⟨r2, hr2⟩ : ∃ r, r = (hSum l).2 := ⟨_, rfl⟩
  rw [← hr1, ← hr2] at cS ⊢
  have x0 : Ext w (w.alloc (.cells #[.int .u64 0, .int .u64 0] 50)) := (Ext.refl w).alloc _
  clear hr1 hr2 hl hr hps htot hall
  go_enter Try.func37, Try.ntmps37
  go_wp2_with (first
    | (go_at_call 55; refine cC.mono ?_; clear cC; rintro e w2 ⟨A2, c2, rfl, hc2, hr2, x2⟩)
    | (go_at_call 54; refine (cS _ _ hc2 _ hr2).mono ?_; clear cS; rintro e w3 ⟨rfl, x3⟩; obtain ⟨q0, q1, p0, p1⟩ := arr2 (ext_blk (x2.trans x3) (Blk.new w _ _))))
  refine bodyPost_ret (v := .agg #[.int .u64 (r1 : Int), .int .u64 (r2 : Int)]) (by simp [results, Try.results37, go_sem, q0, q1]) rfl ⟨rfl, ?_⟩
  exact (((x0.trans x2).trans x3).setCell (p := ⟨w.heap.size, 0, none⟩) (Nat.le_refl _) _).setCell (p := ⟨w.heap.size, 1, none⟩) (Nat.le_refl _) _

end Go.Proofs.Ytbomfnlipbdigaa
