/- What all statements of the hash ask first (live), walked. -/
import Derived.Test.YtckfifghipkedaaHaRefT
import Derived.Test.YtckfifghipkedaaHaNum
import Derived.Test.YtckfifghipkedaaEq
import Derived.Laws.IdiomStrings
namespace Go.Proofs.Ytckfifghipkedaa
set_option linter.unusedVariables false
open Go.RowKit Go.Shelf
attribute [local irreducible] mix

/-- Bytes as a string. -/
def strOf (l : List Nat) : ByteArray := ⟨(l.map UInt8.ofNat).toArray⟩
theorem str_convert {w : World} {A : Option Addr} {c B : Nat} {l : List Nat} (hl : ∀ x ∈ l, x < 256) (h0 : 0 < l.length) (h : Reads w B 1 A l.length (bv l)) :
    (convert 27 9 (.slice A l.length c)).run Try.prog w = .ok (.string (strOf l)) w := by
  obtain ⟨ad, rfl, -, hc⟩ := h.2 h0
  have e := run_convert_bytes_back (P := Try.prog) w 27 9 5 ad c (l.map UInt8.ofNat) Try.underlying27 Try.underlying5 Try.underlying9 (fun j hj => by
    have hj' : j < l.length := by simpa using hj
    have := hc j (.int .u8 (l[j] : Int)) (by simp [bv, hj'])
    rw [this]
    simp
    have := hl l[j] (List.getElem_mem _)
    omega)
  rw [List.length_map] at e
  exact e

theorem seven_reads (W : World) : Reads (W.alloc (.cells #[.int .u8 7] 5)) (W.alloc (.cells #[.int .u8 7] 5)).heap.size 1 (some ⟨W.heap.size, 0, none⟩) 1 (bv [7]) :=
  Reads.of_own (own_new W 0 _ rfl (Nat.zero_le _) _ _)
theorem live_facts {w w1 w2 w3 w4 w5 w6 w7 w8 w9 w10 w11 : World} {a b s7 n s y f p P t : Array Value} {T3 TB TS TP : TypeId} {A5 : Option Addr}
    (x1 : Ext w w1) (x2 : Ext (w1.alloc (.cells a T3)) w2) (x3 : Ext (w2.alloc (.cells b T3)) w3) (x4 : Ext (w3.alloc (.cells s7 TB)) w4) (x5 : Ext ((w4.alloc (.cells n TS)).alloc (.cells s TS)) w5) (r5 : Reads w5 w5.heap.size 1 A5 16 (bv (bytes2 1 258)))
    (x6 : Ext w5 w6) (x7 : Ext (w6.alloc (.cells y TS)) w7) (x8 : Ext (w7.alloc (.cells f TS)) w8) (x9 : Ext (w8.alloc (.cells p TS)) w9) (x10 : Ext w9 w10) (x11 : Ext (w10.alloc (.cells P TP)) w11) :
    ∃ W, w11.alloc (.cells t TS) = W ∧ Ext w W ∧ Blk W w1.heap.size T3 a ∧ Blk W w2.heap.size T3 b ∧ Blk W w4.heap.size TS n ∧ Blk W (w4.heap.size + 1) TS s ∧ Reads W W.heap.size 1 A5 16 (bv (bytes2 1 258)) ∧ Blk W w6.heap.size TS y ∧ Blk W w8.heap.size TS p ∧ Blk W w11.heap.size TS t := by
  have e11 := x11.alloc (.cells t TS)
  have e10 := x10.trans (((Ext.refl w10).alloc _).trans e11)
  have e9 := x9.trans e10
  have e8 := x8.trans (((Ext.refl w8).alloc _).trans e9)
  have e7 := x7.trans (((Ext.refl w7).alloc _).trans e8)
  have e6 := x6.trans (((Ext.refl w6).alloc _).trans e7)
  have e5 := x5.trans e6
  have e4 := x4.trans ((((Ext.refl w4).alloc _).alloc _).trans e5)
  have e3 := x3.trans (((Ext.refl w3).alloc _).trans e4)
  have e2 := x2.trans (((Ext.refl w2).alloc _).trans e3)
  refine ⟨_, rfl, x1.trans (((Ext.refl w1).alloc _).trans e2), ext_blk e2 (Blk.new _ _ _), ext_blk e3 (Blk.new _ _ _), ext_blk e5 ((Blk.new _ _ _).alloc _), ext_blk e5 ?_, (r5.below e6.out).more e6.size, ext_blk e7 (Blk.new _ _ _), ext_blk e9 (Blk.new _ _ _), Blk.new _ _ _⟩
  have h := Blk.new (w4.alloc (.cells n TS)) TS s
  rw [World.size_alloc] at h
  exact h
theorem arr3 {W : World} {g : Nat} {T : TypeId} {a b c : Value} (h : Blk W g T #[a, b, c]) : W.cell? ⟨g, 0, none⟩ = some a ∧ W.cell? ⟨g, 1, none⟩ = some b ∧ W.cell? ⟨g, 2, none⟩ = some c := ⟨h.cell 0, h.cell 1, h.cell 2⟩
theorem arr2' {W : World} {g : Nat} {T : TypeId} {a b : Value} (h : Blk W g T #[a, b]) : W.cell? ⟨g, 0, none⟩ = some a ∧ W.cell? ⟨g, 1, none⟩ = some b := ⟨h.cell 0, h.cell 1⟩
theorem hSum_nil : hSum [] = ((mix (0, 0, 0)).1, (mix (0, 0, 0)).2.1) := by
  have : fOf [] = [] := rfl
  unfold hSum; rw [this]; rfl
theorem hSum_seven : hSum [7] = ((mix (7, 0, 1)).1, (mix (7, 0, 1)).2.1) := by
  have : fOf [7] = [7] := by decide
  unfold hSum; rw [this, soakE_cons, soak_one]
  have e : addM bP (0, 0, ([7] : List Nat).length).1 7 = 7 := by decide
  rw [e]; rfl
set_option maxRecDepth 100000 in
theorem mix_ne : mix (0, 0, 0) ≠ mix (7, 0, 1) := by decide +kernel
theorem ofS_back : ofS (bytes2 1 258) = ((1, 258), 0) := by decide +kernel
theorem ofS_nil : ofS [] = ((0, 0), 70) := by decide +kernel
theorem str_back : strOf (bytes2 1 258) = { data := #[0, 0, 0, 0, 0, 0, 0, 1, 0, 0, 0, 0, 0, 0, 1, 2] } := by decide +kernel

set_option maxRecDepth 100000 in
set_option maxHeartbeats 2000000 in
theorem live_any (w : World) : Calls Try.prog 13 #[] w fun e w' => e = .returned (.bool true) ∧ Ext w w' := by
  have cm1 := fun W => mix_any (0, 0, 0) ⟨by decide, by decide, by decide⟩ W
  have cm2 := fun W => mix_any (7, 0, 1) ⟨by decide, by decide, by decide⟩ W
  have hne := mix_ne
  have cs1 := fun W => Sum_any [] (by simp) (by simp) none 0 (by simp) W Reads.none_
  have cs2 := fun A c W hc h => Sum_any [7] (by simp) (by simp) A c hc W h
  rw [hSum_nil] at cs1
  rw [hSum_seven] at cs2
  obtain ⟨⟨a0, a1, a2⟩, ha⟩ : ∃ a, a = mix (0, 0, 0) := ⟨_, rfl⟩
  obtain ⟨⟨b0, b1, b2⟩, hb⟩ : ∃ b, b = mix (7, 0, 1) := ⟨_, rfl⟩
  rw [← ha] at cm1 cs1 hne
  rw [← hb] at cm2 cs2 hne
  have cb1 := fun W => bytes_any 1 258 W
  have co1 := fun A c W hc h => Of_any (bytes2 1 258) (bytes2_lt _ _) A c hc (by rw [bytes2_length]; decide) W h
  have co2 := fun W => Of_any [] (by simp) none 0 (by simp) (by simp) W Reads.none_
  rw [ofS_back, bytes2_length] at co1
  rw [ofS_nil] at co2
  unfold ofV at co1 co2
  simp only [val3, List.length_cons, List.length_nil, Int.cast_ofNat_Int, Nat.zero_add] at cm1 cm2 cs1 cs2 cb1 co1 co2
  clear ha hb
  have cp := fun W => Pair_any 1 2 3 4 W
  obtain ⟨t1, ht1⟩ : ∃ r, r = (hSum (pairB 1 2 3 4)).1 := ⟨_, rfl⟩
  obtain ⟨t2, ht2⟩ : ∃ r, r = (hSum (pairB 1 2 3 4)).2 := ⟨_, rfl⟩
  have ct : ∀ W A, Parts W W.heap.size A [bytes2 1 2, bytes2 3 4] → Calls Try.prog 19 #[.string nodeS, .slice A 2 2] W fun e w' => e = .returned (.agg #[.int .u64 (t1 : Int), .int .u64 (t2 : Int)]) ∧ Ext W w' := fun W A h => by
    rw [ht1, ht2]; exact Tagged_any nodeS [bytes2 1 2, bytes2 3 4] (two_lt _ _ _ _) A 2 W h (pairB_len _ _ _ _)
  rw [← ht1, ← ht2] at cp
  have ca := fun W => bytes_any 1 2 W
  have cb := fun W => bytes_any 3 4 W
  have hn1 : numM 1 5 10 = 7 := by decide +kernel
  have cn1 := fun W => Num_any 1 5 10 (by decide) (by decide) (by decide) W
  have cn2 := fun W => Num_any 1 5 0 (by decide) (by decide) (by decide) W
  rw [hn1] at cn1
  rw [show numM 1 5 0 = 0 from rfl] at cn2
  simp only [Int.cast_ofNat_Int] at cp ca cb cn1 cn2
  have q1 := eq3_other _ _ _ _ _ _ hne
  have q2 := eq2_same (a0 : Int) (a1 : Int)
  have q3 := eq2_same (b0 : Int) (b1 : Int)
  have q4 := eq2_same 1 258
  have q5 := eq2_same (t1 : Int) (t2 : Int)
  clear ht1 ht2 hn1 hne
  go_enter Try.func13, Try.ntmps13
  go_wp2_with (first
    | (go_at_call 14; (with_reducible refine (cm1 _).mono ?_); clear cm1; rintro e w1 ⟨rfl, x1⟩)
    | (go_at_call 14; (with_reducible refine (cm2 _).mono ?_); clear cm2; rintro e w2 ⟨rfl, x2⟩)
    | (go_at_call 16; (with_reducible refine (cs1 _).mono ?_); clear cs1; rintro e w3 ⟨rfl, x3⟩)
    | (go_at_call 16; (go_loud (refine (cs2 _ _ _ (by simp) (seven_reads w3)).mono ?_)); clear cs2; rintro e w4 ⟨rfl, x4⟩)
    | (go_at_call 25; (with_reducible refine (cb1 _).mono ?_); clear cb1; rintro e w5 ⟨v5, rfl, o5, x5⟩; obtain ⟨A5, k5, rfl, hk5, r5⟩ := own_slice o5; clear o5)
    | (go_at_call 23; (with_reducible refine (co1 _ _ _ hk5 r5).mono ?_); clear co1; rintro e w6 ⟨rfl, x6⟩)
    | (go_at_call 23; (with_reducible refine (co2 _).mono ?_); clear co2; rintro e w7 ⟨rfl, x7⟩)
    | (go_at_call 21; (with_reducible refine (cp _).mono ?_); clear cp; rintro e w8 ⟨rfl, x8⟩)
    | (go_at_call 25; (with_reducible refine (ca _).mono ?_); clear ca; rintro e w9 ⟨v9, rfl, o9, x9⟩; obtain ⟨A9, k9, rfl, hk9, r9⟩ := own_slice o9; clear o9)
    | (go_at_call 25; (with_reducible refine (cb _).mono ?_); clear cb; rintro e w10 ⟨v10, rfl, o10, x10⟩; obtain ⟨A10, k10, rfl, hk10, r10⟩ := own_slice o10; clear o10)
    | (go_at_call 19; refine (ct _ _ (parts2 ((r9.below x10.out).more x10.size) hk9 r10 hk10 _ rfl)).mono ?_; clear ct; rintro e w11 ⟨rfl, x11⟩;
        obtain ⟨W, eW, xW, ba, bb, bn, bs, rW, by', bp, bt⟩ := live_facts (t := #[.int .u64 (t1 : Int), .int .u64 (t2 : Int)]) (TS := 29) x1 x2 x3 x4 x5 r5 x6 x7 x8 x9 x10 x11;
        have kc := str_convert (c := k5) (bytes2_lt 1 258) (by rw [bytes2_length]; decide) (by rw [bytes2_length]; exact rW); rw [str_back, bytes2_length] at kc;
        obtain ⟨ca0, ca1, ca2⟩ := arr3 ba; obtain ⟨cb0, cb1, cb2⟩ := arr3 bb; obtain ⟨cn0, cn1'⟩ := arr2' bn; obtain ⟨cs0, cs1⟩ := arr2' bs; obtain ⟨cy0, cy1⟩ := arr2' by'; obtain ⟨cp0, cp1⟩ := arr2' bp; obtain ⟨ct0, ct1⟩ := arr2' bt;
        clear x1 x2 x3 x4 x5 x6 x7 x8 x9 x10 x11 ba bb bn bs rW by' bp bt r5 r9 r10)
    | (go_at_call 27; (with_reducible refine (cn1 _).mono ?_); clear cn1; rintro e w12 ⟨rfl, x12⟩)
    | (go_at_call 27; (with_reducible refine (cn2 _).mono ?_); clear cn2; rintro e w13 ⟨rfl, x13⟩))
  go_ret
  exact ⟨rfl, (xW.trans x12).trans x13⟩
end Go.Proofs.Ytckfifghipkedaa

