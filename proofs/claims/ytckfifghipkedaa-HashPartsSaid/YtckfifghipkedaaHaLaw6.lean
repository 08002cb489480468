/- The statements of the hash, walked: HashParts. -/
import Derived.Test.YtckfifghipkedaaHaTaken
import Derived.Test.YtckfifghipkedaaHaLaw
import Derived.Lib.BufferRead
namespace Go.Proofs.Ytckfifghipkedaa
set_option linter.unusedVariables false
open Go.RowKit Go.Shelf
attribute [local irreducible] mix

theorem reads_new (w : World) (T : TypeId) (cs : List Value) : Reads (w.alloc (.cells cs.toArray T)) (w.alloc (.cells cs.toArray T)).heap.size 1 (some ⟨w.heap.size, 0, none⟩) cs.length cs := by
  refine ⟨by simp, fun _ => ⟨_, rfl, by simp, fun j u hj => ?_⟩⟩
  have hb := (Blk.new w T cs.toArray).cell j
  have e : (⟨w.heap.size, 0, none⟩ : Addr).add j = ⟨w.heap.size, j, none⟩ := by
    unfold Addr.add
    split
    · rename_i h; rw [h]
    · simp
  rw [e, hb]
  simpa using hj
/-- Bytes to a string, none too. -/
theorem str_any {w : World} {A : Option Addr} {c B : Nat} {l : List Nat} (hl : ∀ x ∈ l, x < 256) (h : Reads w B 1 A l.length (bv l)) :
    (convert 27 9 (.slice A l.length c)).run Try.prog w = .ok (.string (strOf l)) w := by
  rcases l with _ | ⟨x, l⟩
  · rcases A with _ | ad
    · exact Lib.run_convert_nil_bytes (P := Try.prog) w 27 9 5 c Try.underlying27 Try.underlying5 Try.underlying9
    · exact run_convert_bytes_back (P := Try.prog) w 27 9 5 ad c [] Try.underlying27 Try.underlying5 Try.underlying9 (fun j hj => by simp at hj)
  · exact str_convert hl (by simp) h
theorem shr_u8 (n k : Nat) (hk : k = 16777216 ∨ k = 65536 ∨ k = 256) : IntKind.u8.wrap ((n : Int) / (k : Int)) = ((n / k % 256 : Nat) : Int) := by
  rw [IntKind.wrap_u8]
  rcases hk with rfl | rfl | rfl <;> omega

set_option maxRecDepth 100000 in
set_option maxHeartbeats 4000000 in
theorem walk_HashParts (tag : ByteArray) (A : Option Addr) (c : Nat) (ps : List (List Nat)) (ht : tag.size ≤ 140737488351232) (hpc : ps.length ≤ c) (hcr : c * 24 ≤ 140737488351232) (hz : ∀ p ∈ ps, p.length ≤ 140737488351232) (hps : ∀ p ∈ ps, ∀ x ∈ p, x < 256)
    (w : World) (hr : Parts w w.heap.size A ps) :
    Calls Try.prog 8 #[.string tag, .slice A ps.length c] w fun e w' => e = .returned (.bool true) ∧ Ext w w' := by
  have cl := fun W => live_any W
  have HP : ∀ W, Ext w W → Parts W W.heap.size A ps := fun W x => by
    obtain ⟨vs, h1, h2⟩ := hr.below x.out
    exact ⟨vs, h1.more x.size, fun j p hj => by obtain ⟨a, c, e, hc, hr⟩ := h2 j p hj; exact ⟨a, c, e, hc, hr.more x.size⟩⟩
  have cf := fun W (x : Ext w W) => few_any tag A c ps ht hpc hcr hz W (HP W x)
  by_cases h4 : fewN tag.size ps ≤ 400
  · rw [decide_eq_true h4] at cf
    have hN : (coded (strN tag) ps).length ≤ 401 := by rw [fewN_coded]; omega
    have cT := fun W (x : Ext w W) => Tagged_any tag ps hps A c W (HP W x) (by omega)
    have cS := fun A' c' (hc : (coded (strN tag) ps).length ≤ c') W h => Sum_any (coded (strN tag) ps) (coded_lt _ (strN_lt tag) ps hps) (by omega) A' c' hc W h
    have cK := fun A' c' (hc : (coded (strN tag) ps).length ≤ c') W h => taken_any (strN tag) ps A' c' hc (by omega) W h
    obtain ⟨x1, hx1⟩ : ∃ r, r = (hSum (coded (strN tag) ps)).1 := ⟨_, rfl⟩
    obtain ⟨x2, hx2⟩ : ∃ r, r = (hSum (coded (strN tag) ps)).2 := ⟨_, rfl⟩
    rw [← hx1, ← hx2] at cT cS
    rw [strN_length] at cK
    have q1 := eq2_same (x1 : Int) (x2 : Int)
    have hcc := coded_take_le (strN tag) ps
    have hc0 : coded (strN tag) [] = tag.size % 256 :: strN tag := by rw [coded_nil, strN_length]
    obtain ⟨tot, hto⟩ : ∃ tot, tot = (coded (strN tag) ps).length := ⟨_, rfl⟩
    rw [← hto] at hN hcc cS cK
    have htl : tag.size + 1 ≤ tot := by
      have := hcc 0
      rw [List.take_zero, hc0, List.length_cons, strN_length] at this
      exact this
    have hpl : ps.length ≤ tot := by
      rw [hto, fewN_coded]
      unfold fewN
      have : ps.length ≤ (ps.map fun p => 4 + p.length).sum := by
        clear hto htl hcc q1 hx1 hx2 cT cS cK hN h4 cf HP hr hps hz hpc
        induction ps with
        | nil => simp
        | cons p ps ih => simp only [List.length_cons, List.map_cons, List.sum_cons]; omega
      omega
    have hpi : (ps.length : Int) ≤ 401 := by omega
    have hpci : (ps.length : Int) ≤ c := by omega
    have hti : (tag.size : Int) ≤ 401 := by omega
    have k1 : IntKind.u8.wrap (tag.size : Int) = ((tag.size % 256 : Nat) : Int) := by rw [IntKind.wrap_u8]; omega
    obtain ⟨d, hd⟩ : ∃ d, d = tag.size % 256 := ⟨_, rfl⟩
    rw [← hd] at k1 hc0
    have HR := Lib.hid hr
    have HPS := Lib.hid hps
    have HT := Lib.hid hto
    have HC := Lib.hid hcc
    have HTOT := Lib.hid hN
    have HTL := Lib.hid htl
    obtain ⟨i0, hi, hz0, hz1, hz2⟩ := info_parts Try.infoU8
    clear hx1 hx2 hr hps hz h4 hpc hcr ht HP hto hcc hN htl hpl hd
    go_enter Try.func8, Try.ntmps8
    go_wp2_with (first
      | (go_at_call 13; refine (cl _).mono ?_; clear cl; rintro e w1 ⟨rfl, xl⟩)
      | (go_at_call 18; refine (cf _ xl).mono ?_; clear cf; rintro e w' ⟨rfl, rfl⟩)
      | (at_builtin; refine wpList_append_own_src _ rfl (.tmp 23) (.tmp 24) 27 9 rfl w1.heap.size 5 i0 (.int .u8 0) 1 1 Try.underlying27 hi hz0 hz1 hz2 rfl (.slice (some ⟨w1.heap.size, 0, none⟩) 1 1) _ _ rfl (own_new w1 w1.heap.size w1.heap.size rfl (Nat.le_refl _) 5 (.int .u8 (d : Int))) (.string tag) tag.size (byteCells tag) rfl (Src.ofString _ Try.underlying9 tag) (by have := HTL.out; have := HTOT.out; simp only [maxLen]; omega) (by have := HTL.out; have := HTOT.out; omega) (by simp) (by simp) ?_; intro v1 w2 hown1 hg1 _))
    have hx1 : Hid (Ext w w2) := Lib.hid (xl.trans (Ext.of (((Below.refl _ _).alloc (Nat.le_refl _) _).grown hg1 (by simp) (fun k e => by simp [Value.ownBlock] at e; omega))))
    have ho : Hid (w2.ownsRow w1.heap.size 5 1 v1 (coded (strN tag) (ps.take 0)).length (bv (coded (strN tag) (ps.take 0)))) := by
      show World.ownsRow _ _ _ _ _ _ _
      rw [List.take_zero, hc0, List.length_cons, strN_length, Nat.add_comm tag.size 1]
      have e : bv (d :: strN tag) = [.int .u8 (d : Int)] ++ byteCells tag := by rw [byteCells_strN]; rfl
      rw [e]
      exact hown1
    have hws := xl.size
    obtain ⟨B, hB⟩ : ∃ B, B = w1.heap.size := ⟨_, rfl⟩
    rw [← hB] at ho hws
    have hB2 : B ≤ w2.heap.size := by have := hg1.size; simp at this; omega
    clear hown1 hg1 hc0 k1 hB
    go_loopg [6, 7] ps.length (fun m s6 s7 wr => ∃ j : Nat, j + m = ps.length ∧ s7 = .int .i64 j ∧ wr.ownsRow B 5 1 s6 (coded (strN tag) (ps.take j)).length (bv (coded (strN tag) (ps.take j))) ∧ Ext w wr ∧ B ≤ wr.heap.size)
    case atStart => exact ⟨0, by omega, rfl, ho.out, hx1.out, hB2⟩
    case round =>
      obtain ⟨j, hj, rfl, hown, hx, hBr⟩ := hrel
      clear ho hx1 hB2
      by_cases h : j < ps.length
      · obtain ⟨p, hp⟩ : ∃ p, ps[j]? = some p := ⟨_, List.getElem?_eq_getElem h⟩
        obtain ⟨ad, a, c', rfl, hcell0, hpc, hrp0⟩ := HR.out.at_ hp
        have HCW : Hid (∀ W, Ext w W → W.cell? (ad.add j) = some (.slice a p.length c')) := Lib.hid (fun W x => x.cell hcell0)
        have HRW : Hid (∀ W, Ext w W → Reads W w.heap.size 1 a p.length (bv p)) := Lib.hid (fun W x => hrp0.below x.out)
        have hcell := HCW.out wr hx
        have hle := HC.out (j + 1)
        have ht1 : ps.take (j + 1) = ps.take j ++ [p] := by rw [List.take_add_one, hp]; rfl
        rw [ht1, coded_snoc] at hle
        simp only [List.length_append, be_length] at hle
        obtain ⟨l, hl⟩ : ∃ l, l = coded (strN tag) (ps.take j) := ⟨_, rfl⟩
        rw [← hl] at hown hle
        have HN : Hid (coded (strN tag) (ps.take (j + 1)) = l ++ be p.length 4 ++ p) := by show _ = _; rw [ht1, coded_snoc, hl]
        have hpt : (p.length : Int) ≤ 401 := by have := HTOT.out; omega
        have z1 : (j : Int) < ps.length := by omega
        have e0 := shr_u8 p.length 16777216 (.inl rfl)
        have e1 := shr_u8 p.length 65536 (.inr (.inl rfl))
        have e2 := shr_u8 p.length 256 (.inr (.inr rfl))
        have e3 : IntKind.u8.wrap (p.length : Int) = ((p.length % 256 : Nat) : Int) := by rw [IntKind.wrap_u8]; omega
        have hbe := be4 p.length
        obtain ⟨v0, g0⟩ : ∃ v, v = p.length / 16777216 % 256 := ⟨_, rfl⟩
        obtain ⟨v1, g1⟩ : ∃ v, v = p.length / 65536 % 256 := ⟨_, rfl⟩
        obtain ⟨v2, g2⟩ : ∃ v, v = p.length / 256 % 256 := ⟨_, rfl⟩
        obtain ⟨v3, g3⟩ : ∃ v, v = p.length % 256 := ⟨_, rfl⟩
        rw [← g0] at e0 hbe
        rw [← g1] at e1 hbe
        rw [← g2] at e2 hbe
        rw [← g3] at e3 hbe
        simp only [Int.cast_ofNat_Int] at e0 e1 e2
        have HLE := Lib.hid hle
        have HJ : Hid (j + gk = ps.length ∧ j < ps.length) := Lib.hid ⟨hj, h⟩
        have HX := Lib.hid hx
        have HBE := Lib.hid hbe
        have HBR := Lib.hid hBr
        have hone : ∀ u ∈ [Value.int .u8 (v0 : Int), .int .u8 (v1 : Int), .int .u8 (v2 : Int), .int .u8 (v3 : Int)], u.oneCell' = true := by simp [Value.oneCell']
        have HRN := Lib.hid (reads_new wr 5 [Value.int .u8 (v0 : Int), .int .u8 (v1 : Int), .int .u8 (v2 : Int), .int .u8 (v3 : Int)])
        clear hle hj hx ht1 hl hp hrp0 hcell0 h hbe g0 g1 g2 g3 hBr
        go_wp2_with (first
          | (at_builtin; refine wpList_append_any _ rfl (.tmp 37) (.tmp 49) 27 rfl B 5 i0 (.int .u8 0) 1 1 Try.underlying27 hi hz0 hz1 hz2 rfl (by decide) u6 l.length (bv l) rfl (hown.alloc _) _ (some ⟨wr.heap.size, 0, none⟩) 4 4 _ rfl HRN.out hone (by have := HLE.out; have := HTOT.out; simp only [maxLen]; omega) (by have := HLE.out; have := HTOT.out; omega) (by have := HBR.out; simp; omega) ?_; intro v3' w3 hown3 hg3 _;
              have x3 : Ext w w3 := Ext.of (Below.grown (HX.out.alloc _).out hg3 (HX.out.alloc _).size (fun k hk => Nat.le_trans hws (own_ge hown k hk))); have b3 : B ≤ w3.heap.size := (by have := HBR.out; have := hg3.size; simp at this; omega); have hcell3 := HCW.out w3 x3)
          | (at_builtin; refine wpList_append_any _ rfl (.tmp 51) (.tmp 55) 27 rfl B 5 i0 (.int .u8 0) 1 1 Try.underlying27 hi hz0 hz1 hz2 rfl (by decide) v3' (l.length + 4) _ rfl hown3 w.heap.size a p.length c' (bv p) rfl (HRW.out w3 x3) (bv_one _) (by have := HLE.out; have := HTOT.out; simp only [maxLen]; omega) (by have := HLE.out; have := HTOT.out; omega) b3 ?_; intro v4 w4 hown4 hg4 _))
        have x4 : Hid (Ext w w4) := Lib.hid (Ext.of (Below.grown x3.out hg4 x3.size (fun k hk => Nat.le_trans hws (own_ge hown3 k hk))))
        have b4 : Hid (B ≤ w4.heap.size) := Lib.hid (Nat.le_trans b3 hg4.size)
        have O4 : Hid (w4.ownsRow B 5 1 v4 (coded (strN tag) (ps.take (j + 1))).length (bv (coded (strN tag) (ps.take (j + 1))))) := by
          show World.ownsRow _ _ _ _ _ _ _
          rw [HN.out, show (l ++ be p.length 4 ++ p).length = l.length + 4 + p.length by simp only [List.length_append, be_length], show bv (l ++ be p.length 4 ++ p) = bv l ++ bv (be p.length 4) ++ bv p by rw [bv_append, bv_append], HBE.out]
          exact hown4
        obtain ⟨hj, hjl⟩ := HJ.out
        clear hown4 hg4 hown3 hg3 x3 hown hcell hcell3 HRN
        go_roundg (gk - 1)
        case measure => omega
        case rel => exact ⟨j + 1, by omega, int_congr (by omega), O4.out, x4.out, b4.out⟩
      · obtain rfl : j = ps.length := by omega
        rw [List.take_length] at hown
        obtain ⟨A', c', rfl, hc', hr'⟩ := own_slice hown
        have z1 : ¬ (ps.length : Int) < ps.length := by omega
        rw [← HT.out] at hc' hr' ⊢
        have ck := cK A' c' hc' wr hr'
        have HX := Lib.hid hx
        have HRR := Lib.hid hr'
        have HCC := Lib.hid hc'
        clear hown hr' hx hc' hj h cK
        go_wp2_with (go_at_call 31; refine ck.mono ?_; clear ck; rintro e w5 ⟨A5, c5, rfl, hc5, hp5, x5⟩)
        have HP5 := Lib.hid hp5
        have x55 := HX.out.trans x5
        have hpci5 : (ps.length : Int) ≤ c5 := by omega
        clear hp5 hc5 z1
        go_loopg [11] ps.length (fun m s11 wq => ∃ i : Nat, i + m = ps.length ∧ s11 = .int .i64 i ∧ ∃ n, wq = w5.drewN n)
        case atStart => exact ⟨0, by omega, rfl, 0, rfl⟩
        case round =>
          obtain ⟨i, hi', rfl, n0, rfl⟩ := hrel
          by_cases h : i < ps.length
          · obtain ⟨p, hp⟩ : ∃ p, ps[i]? = some p := ⟨_, List.getElem?_eq_getElem h⟩
            obtain ⟨ad1, a1, e1, rfl, hc1, hpc1, hrp1⟩ := (HR.out.below x55.out).at_ hp
            obtain ⟨ad2, a2, e2, rfl, hc2, hpc2, hrp2⟩ := HP5.out.at_ hp
            have hpb := HPS.out p (List.mem_of_getElem? hp)
            have kc1 := fun n => str_any (w := w5.drewN n) (c := e1) hpb (hrp1.drewN n)
            have kc2 := fun n => str_any (w := w5.drewN n) (c := e2) hpb (hrp2.drewN n)
            have z1 : (i : Int) < ps.length := by omega
            have HI : Hid (i + gk = ps.length ∧ i < ps.length) := Lib.hid ⟨hi', h⟩
            clear hi' h hp hpb hrp1 hrp2 hpc1 hpc2
            go_wp2
            go_quiet (fail)
            go_wp2
            obtain ⟨hi', hil⟩ := HI.out
            go_roundg (gk - 1)
            case measure => omega
            case rel => exact ⟨i + 1, by omega, int_congr (by omega), _, by first | rfl | simp⟩
          · obtain rfl : i = ps.length := by omega
            have z1 : ¬ (ps.length : Int) < ps.length := by omega
            have cs := cS A' c' HCC.out
            have hr6 := fun W (x : Ext wr W) => ((HRR.out.below x.out).more x.size : Reads W W.heap.size 1 A' tot (bv (coded (strN tag) ps)))
            have x6 := x55.drewN n0
            have x7 := x5.drewN n0
            clear hi' h
            go_wp2_with (first
              | (go_at_call 19; refine (cT _ x6).mono ?_; clear cT; rintro e w7 ⟨rfl, xT⟩)
              | (go_at_call 16; refine (cs _ (hr6 _ (x7.trans xT))).mono ?_; clear cs; rintro e w8 ⟨rfl, xS⟩))
            go_ret
            exact ⟨rfl, (x6.trans xT).trans xS⟩
  · rw [decide_eq_false h4] at cf
    clear hr hps hz h4 hpc hcr ht HP
    go_enter Try.func8, Try.ntmps8
    go_wp2_with (first
      | (go_at_call 13; refine (cl _).mono ?_; clear cl; rintro e w1 ⟨rfl, xl⟩)
      | (go_at_call 18; refine (cf _ xl).mono ?_; clear cf; rintro e w' ⟨rfl, rfl⟩))
    go_ret
    exact ⟨rfl, xl⟩
end Go.Proofs.Ytckfifghipkedaa
