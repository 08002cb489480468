/- Parts of the proofs, put together: CtE4, CtE5. -/
import Derived.Test.YtfpmfegmehbfbaaGreatDoorZ23
import Derived.Test.YtfpmfegmehbfbaaGreatDoorZ35
/- Certificates, walked: items of numbers and of lists. -/
namespace Go.Proofs.YtfpmfegmehbfbaaGreatDoor
set_option linter.unusedVariables false
set_option linter.unusedSimpArgs false
set_option linter.unusedSimpArgs false
open Go.RowKit Go.Shelf Go.Maps

theorem RdS.of_reads {w : World} {S : Nat → Prop} {B size n : Nat} {A : Option Addr} {xs : List Value} (h : Reads w B size A n xs) (hS : ∀ ad, A = some ad → ad.block < B → S ad.block) : RdS w S size A n xs :=
  ⟨h.1, fun hn => by
    obtain ⟨ad, e, hb, hc⟩ := h.2 hn
    exact ⟨ad, e, hS ad e hb, hc⟩⟩
theorem itS_p {w : World} {S : Nat → Prop} {B tag : Nat} {b : List Nat} {v : ItV} (h : ItW w B (.p tag b) v) (hS : ∀ ad, v.A = some ad → ad.block < B → S ad.block) : ItS w S (.p tag b) v := by
  rw [ItW_p] at h
  rw [ItS_p]
  exact ⟨h.1, h.2.1, h.2.2.1, RdS.of_reads h.2.2.2.1 hS, h.2.2.2.2⟩
theorem SeqO.itS {w w' : World} {S : Nat → Prop} {l : List It} {vs : List ItV} {v : ItV} (h : SeqO w w' l.length vs v) (hf : ∀ ad, v.A2 = some ad → w.heap.size ≤ ad.block) (hS : ∀ b, w.heap.size ≤ b → b < w'.heap.size → S b) (hc : ItsS w' S l vs) : ItS w' S (.s l) v := by
  obtain ⟨h1, h2, h3, h4, h5, h6, h7⟩ := h
  rw [ItS_s]
  exact ⟨h1, h2, h3, h4, h5, h6, vs, RdS.of_reads h7 (fun ad ea hb => hS _ (hf ad ea) hb), hc⟩
set_option maxRecDepth 100000 in
set_option maxHeartbeats 2000000 in
theorem big_any (n : Nat) (h : n < 9223372036854775808) (w : World) : Calls Tryz.prog 147 #[.int .u64 (n : Int)] w fun e w' => ∃ v, e = .returned (itV v) ∧ ItW w' w'.heap.size (natT n) v ∧ (∀ ad, v.A = some ad → w.heap.size ≤ ad.block) ∧ Ext w w' := by
  obtain ⟨W0, e0⟩ : ∃ W, w.alloc (.cells #[.int .i64 0, .slice none 0 0, .slice none 0 0] 77) = W := ⟨_, rfl⟩
  have b0 : Blk W0 w.heap.size 77 #[.int .i64 0, .slice none 0 0, .slice none 0 0] := by rw [← e0]; exact Blk.new _ _ _
  have x0 : Ext w W0 := by rw [← e0]; exact (Ext.refl w).alloc _
  have hs0 : W0.heap.size = w.heap.size + 1 := by rw [← e0]; simp
  have c1 := dInt_any n h W0
  unfold itV at c1 ⊢
  have hwr : IntKind.i64.wrap (n : Int) = n := by
    have e : (n : Int) % 2 ^ 64 = n := Int.emod_eq_of_lt (by omega) (by omega)
    simp only [IntKind.wrap, IntKind.bits, IntKind.signed, e]
    rw [if_neg]
    simp
    omega
  have HB0 := Lib.hid b0
  have HX0 := Lib.hid x0
  have HS0 := Lib.hid hs0
  clear b0 x0 h hs0
  go_enter Tryz.func147, Tryz.ntmps147
  go_upto_region 1 with (fail)
  try rw [e0]
  clear e0
  go_wp2_with (go_at_call 42; refine c1.mono ?_; clear c1; rintro e w2 ⟨v, rfl, hv, hf, x2⟩; have z3 := ext_blk x2 HB0.out; have z0 := z3.cell 0; have z1 := z3.cell 1; have z2 := z3.cell 2; have f0 := z3.frozen 0; have f1 := z3.frozen 1; have f2 := z3.frozen 2)
  obtain ⟨W7, e7, b7, x7, k7, s7⟩ := item_put z3 (HX0.out.trans x2) (.int .i64 (v.tag : Int)) (.slice v.A v.n v.c) (.slice v.A2 v.n2 v.c2)
  rw [← e7]
  clear e7 z0 z1 z2 f0 f1 f2
  have y0 := b7.cell 0
  have y1 := b7.cell 1
  have y2 := b7.cell 2
  have h0 := HS0.out
  refine bodyPost_ret (v := .agg #[.int .i64 (v.tag : Int), .slice v.A v.n v.c, .slice v.A2 v.n2 v.c2]) (by simp [results, Tryz.results147, go_sem, y0, y1, y2]) rfl ⟨v, rfl, ?_, fun ad ea => by have := hf ad ea; omega, x7⟩
  refine ((itS_p (S := fun b => W0.heap.size ≤ b ∧ b < w2.heap.size) hv (fun ad ea hb => ⟨hf ad ea, hb⟩)).keep (fun p hp => k7 p (by have := hp.1; omega)) (fun b hb => hb)).itW (fun b hb => by rw [s7]; exact hb.2)
/-- While a list's items are made. -/
structure SqS (w wr : World) (l : List It) (i : Nat) (vL : Value) (vs : List ItV) : Prop where
  b0 : Blk wr w.heap.size 77 #[.int .i64 0, .slice none 0 0, .slice none 0 0]
  row : wr.ownsRow (w.heap.size + 1) 77 3 vL i (itsV vs)
  ch : ItsS wr (fun b => (w.heap.size < b ∧ b < wr.heap.size) ∧ vL.ownBlock ≠ some b) (l.take i) vs
  x : Ext w wr
theorem SqS.step {w wr W1 W2 W3 : World} {l : List It} {i : Nat} {A A' : Option Addr} {c c' : Nat} {vs : List ItV} {t : It} {v : ItV} (h : SqS w wr l i (.slice A i c) vs) (ht : l[i]? = some t) (x1 : Ext wr W1) (hv : ItS W2 (fun b => W1.heap.size ≤ b ∧ b < W2.heap.size) t v) (x2 : Ext W1 W2) {o : Obj}
    (ho : W3.ownsRow (w.heap.size + 1) 77 3 (.slice A' (i + 1) c') (i + 1) (itsV vs ++ [.int .i64 (v.tag : Int), .slice v.A v.n v.c, .slice v.A2 v.n2 v.c2])) (hg : (W2.alloc o).grownBy W3 (Value.slice A i c).ownBlock) (hb : (Value.slice A' (i + 1) c').ownBlock = (Value.slice A i c).ownBlock ∨ (Value.slice A' (i + 1) c').ownBlock = some (W2.alloc o).heap.size) :
    SqS w W3 l (i + 1) (.slice A' (i + 1) c') (vs ++ [v]) := by
  have s0 : (W2.alloc o).heap.size = W2.heap.size + 1 := World.size_alloc _ _
  have s3 := hg.size
  have s1 := x1.size
  have s2 := x2.size
  rw [s0] at s3
  have hkp : ∀ p : Addr, p.block < W2.heap.size → (Value.slice A i c).ownBlock ≠ some p.block → W3.cell? p = W2.cell? p := fun p h2 h3 => by
    rw [World.cell?_of_block (hg.block p.block (by rw [s0]; omega) (fun e => h3 e.symm))]
    exact World.cell?_alloc_lt _ _ _ h2
  have hnS : ∀ b, b < W2.heap.size → (Value.slice A i c).ownBlock ≠ some b → (Value.slice A' (i + 1) c').ownBlock ≠ some b := fun b h1 h2 e => by
    rcases hb with h | h
    · exact h2 (h ▸ e)
    · rw [h] at e
      cases e
      rw [s0] at h1
      omega
  have hvb : ∀ b, wr.heap.size ≤ b → (Value.slice A i c).ownBlock ≠ some b := fun b h1 e => by
    have := (h.row.lt b e).2
    omega
  have htk : l.take (i + 1) = l.take i ++ [t] := by rw [List.take_add_one, ht]; rfl
  refine ⟨Blk.grown ((ext_blk (x1.trans x2) h.b0).alloc o) hg (fun e => by have := own_ge h.row _ e.symm; omega), ?_, ?_, ?_⟩
  · rw [itsV_append]
    exact ho
  · rw [htk]
    have hwl := h.b0.lt
    refine ItsS.append (h.ch.keep (fun p hp => ?_) (fun b hb => ⟨⟨hb.1.1, by have := hb.1.2; omega⟩, hnS b (by have := hb.1.2; omega) hb.2⟩)) (ItsS.one (hv.keep (fun p hp => ?_) (fun b hb => ⟨⟨by omega, by omega⟩, hnS b (by omega) (hvb b (by omega))⟩)))
    · rw [hkp p (by have := hp.1.2; omega) hp.2]
      exact (x1.trans x2).out.cell hp.1.2
    · exact hkp p hp.2 (hvb _ (by omega))
  · exact ext_grown ((h.x.trans (x1.trans x2)).alloc o) (own_base ((own_ext h.row (x1.trans x2)).alloc o) (by omega)) hg
set_option maxRecDepth 100000 in
set_option maxHeartbeats 4000000 in
theorem seqP_any (l : List PrmR) (hn : l.length ≤ 1000) (A : Option Addr) (c : Nat) (w : World) (hr : Reads w w.heap.size 6 A l.length (prmV l)) (hF : ∀ x ∈ l, ∀ W, Ext w W → Calls Tryz.prog 155 #[.agg #[.int .i64 x.log, .int .i64 x.at_, .int .u64 (x.l0 : Int), .int .u64 (x.l1 : Int), .int .u64 (x.e : Int), .int .u64 (x.s : Int)]] W fun e w' => ∃ v, e = .returned (itV v) ∧ ItS w' (fun b => W.heap.size ≤ b ∧ b < w'.heap.size) (prmT x) v ∧ Ext W w') :
    Calls Tryz.prog 154 #[.slice A l.length c, .func (.func 155) #[] #[]] w fun e w' => ∃ v, e = .returned (itV v) ∧ ItS w' (fun b => w.heap.size ≤ b ∧ b < w'.heap.size) (.s (l.map prmT)) v ∧ Ext w w' := by
  obtain ⟨i0, hi, hz0, hz1, hz2⟩ := info_parts Tryz.infoIt
  obtain ⟨W0, e0⟩ : ∃ W, w.alloc (.cells #[.int .i64 0, .slice none 0 0, .slice none 0 0] 77) = W := ⟨_, rfl⟩
  have b0 : Blk W0 w.heap.size 77 #[.int .i64 0, .slice none 0 0, .slice none 0 0] := by rw [← e0]; exact Blk.new _ _ _
  have x0 : Ext w W0 := by rw [← e0]; exact (Ext.refl w).alloc _
  have hq0 : SqS w W0 (l.map prmT) 0 (.slice none 0 0) [] := ⟨b0, World.ownsRow_nil _ _ _ _, by rw [List.take_zero, ItsS_nil], x0⟩
  have HR := Lib.hid fun (W : World) (x : Ext w W) => (hr.below x.out).more x.size
  have HQ0 := Lib.hid hq0
  have HN := Lib.hid hn
  have HF := Lib.hid hF
  clear b0 x0 hq0 hr hn hF
  go_enter Tryz.func154, Tryz.ntmps154
  go_upto_region 1 with (fail)
  try rw [e0]
  clear e0
  go_wp2
  go_loopg [5, 10] l.length (fun gm s5 s10 wr => ∃ (j : Nat) (AL : Option Addr) (cL : Nat) (vs : List ItV), j + gm = l.length ∧ s5 = .slice AL j cL ∧ s10 = .int .i64 j ∧ SqS w wr (l.map prmT) j (.slice AL j cL) vs)
  case atStart => exact ⟨0, none, 0, [], by omega, rfl, rfl, HQ0.out⟩
  case round =>
    obtain ⟨j, AL, cL, vs, hj, rfl, rfl, hq⟩ := hrel
    have hjb : (j : Int) ≤ 1000 := by have := HN.out; omega
    by_cases h : j < l.length
    · obtain ⟨x, hs⟩ : ∃ s, l[j]? = some s := ⟨_, List.getElem?_eq_getElem h⟩
      obtain ⟨ad, rfl, hb, hc⟩ := reads_prmR (HR.out _ hq.x) hs
      have q0 := hc 0 _ rfl
      have q1 := hc 1 _ rfl
      have q2 := hc 2 _ rfl
      have q3 := hc 3 _ rfl
      have q4 := hc 4 _ rfl
      have q5 := hc 5 _ rfl
      rw [add_of_add, Nat.add_zero] at q0
      rw [add_succ_eq] at q1
      rw [add_succ_eq] at q2
      rw [add_succ_eq] at q3
      rw [add_succ_eq] at q4
      rw [add_succ_eq] at q5
      obtain ⟨W1, e1⟩ : ∃ W, wr.alloc (.cells #[.int .i64 x.log, .int .i64 x.at_, .int .u64 (x.l0 : Int), .int .u64 (x.l1 : Int), .int .u64 (x.e : Int), .int .u64 (x.s : Int)] 55) = W := ⟨_, rfl⟩
      have b1 : Blk W1 wr.heap.size 55 #[.int .i64 x.log, .int .i64 x.at_, .int .u64 (x.l0 : Int), .int .u64 (x.l1 : Int), .int .u64 (x.e : Int), .int .u64 (x.s : Int)] := by rw [← e1]; exact Blk.new _ _ _
      have x1 : Ext wr W1 := by rw [← e1]; exact (Ext.refl _).alloc _
      obtain ⟨z0, z1, z2, z3, z4, z5, -, -, -, -, -, -⟩ := lst6 b1
      have cF := HF.out x (List.mem_of_getElem? hs) W1 (hq.x.trans x1)
      unfold itV at cF
      have ht : (l.map prmT)[j]? = some (prmT x) := by simp [hs]
      have HJ := Lib.hid hj
      have HT := Lib.hid ht
      have hjn : j < l.length := h
      have HQ := Lib.hid hq
      have XW1 := Lib.hid x1
      clear hj hs ht hq h hb hc b1 x1
      go_upto_region 5 with (fail)
      try rw [e1]
      clear e1 q0 q1 q2 q3 q4 q5
      go_upto_region 6 with (first | (go_at_call 155; refine cF.mono ?_; clear cF; rintro e w2 ⟨v, rfl, hv, x2⟩; have hoR := (own_ext HQ.out.row (XW1.out.trans x2)).alloc (.cells #[.int .i64 (v.tag : Int), .slice v.A v.n v.c, .slice v.A2 v.n2 v.c2] 77); have hrN := reads_rows w2 77 [.int .i64 (v.tag : Int), .slice v.A v.n v.c, .slice v.A2 v.n2 v.c2]; have hHs : w.heap.size + 1 ≤ (w2.alloc (.cells #[.int .i64 (v.tag : Int), .slice v.A v.n v.c, .slice v.A2 v.n2 v.c2] 77)).heap.size := (by rw [World.size_alloc]; have := HQ.out.x.size; have := XW1.out.size; have := x2.size; omega)) | (at_builtin; refine wpList_append_any _ rfl (.tmp 14) (.tmp 18) 75 rfl (w.heap.size + 1) 77 i0 (.agg #[.int .i64 0, .slice none 0 0, .slice none 0 0]) 3 56 Tryz.underlying75 hi hz0 hz1 hz2 rfl (by decide) _ j (itsV vs) rfl hoR _ _ 1 _ [.int .i64 (v.tag : Int), .slice v.A v.n v.c, .slice v.A2 v.n2 v.c2] rfl hrN (by simp [Value.oneCell']) (by simp only [maxLen]; omega) (by omega) hHs ?_; intro v6 w6 ho6 hg6 hb6; obtain ⟨A6, c6, rfl, -, -⟩ := own_slice2 ho6))
      have hq6 := HQ.out.step HT.out XW1.out hv x2 ho6 hg6 hb6
      clear hv x2 ho6 hg6 hb6 hoR hrN hHs
      go_wp2
      go_roundg (gk - 1)
      case measure => have := HJ.out; omega
      case rel => exact ⟨j + 1, A6, c6, vs ++ [v], by have := HJ.out; omega, rfl, int_congr (by omega), hq6⟩
    · obtain rfl : j = l.length := by omega
      have hch := hq.ch
      have hml : (l.map prmT).length = l.length := by simp
      rw [show (l.map prmT).take l.length = l.map prmT from by rw [← hml, List.take_length]] at hch
      obtain ⟨_, _, hee, -, hrr⟩ := own_slice2 hq.row
      cases hee
      have cS := dSeq_any l.length vs (by have := HN.out; omega) AL cL wr hrr
      have HCH := Lib.hid hch
      have HML := Lib.hid hml
      unfold itV at cS
      have HQ := Lib.hid hq
      clear hq hj h hch hml hrr
      go_wp2_with (go_at_call 146; refine cS.mono ?_; clear cS; rintro e w2 ⟨v, rfl, hv, hf, x2⟩; have z3 := ext_blk x2 HQ.out.b0; have z0 := z3.cell 0; have z1 := z3.cell 1; have z2 := z3.cell 2; have f0 := z3.frozen 0; have f1 := z3.frozen 1; have f2 := z3.frozen 2)
      obtain ⟨W7, e7, b7, x7, k7, s7⟩ := item_put z3 (HQ.out.x.trans x2) (.int .i64 (v.tag : Int)) (.slice v.A v.n v.c) (.slice v.A2 v.n2 v.c2)
      rw [← e7]
      clear e7 z0 z1 z2 f0 f1 f2
      have y0 := b7.cell 0
      have y1 := b7.cell 1
      have y2 := b7.cell 2
      have hlt := HQ.out.b0.lt
      refine bodyPost_ret (v := .agg #[.int .i64 (v.tag : Int), .slice v.A v.n v.c, .slice v.A2 v.n2 v.c2]) (by simp [results, Tryz.results154, go_sem, y0, y1, y2]) rfl ⟨v, rfl, ?_, x7⟩
      have hvS : ItS w2 (fun b => w.heap.size < b ∧ b < w2.heap.size) (.s (l.map prmT)) v := SeqO.itS (by rw [HML.out]; exact hv) hf (fun b h1 h2 => ⟨by omega, h2⟩) (HCH.out.keep (fun p hp => x2.out.cell hp.1.2) (fun b hb => ⟨hb.1.1, by have := x2.size; have := hb.1.2; omega⟩))
      exact hvS.keep (fun p hp => k7 p (by have := hp.1; omega)) (fun b hb => ⟨by omega, by rw [s7]; exact hb.2⟩)
set_option maxRecDepth 100000 in
set_option maxHeartbeats 4000000 in
theorem seqT_any (l : List ByteArray) (hn : l.length ≤ 1000) (A : Option Addr) (c : Nat) (w : World) (hr : Reads w w.heap.size 1 A l.length (tv l)) (hF : ∀ x ∈ l, ∀ W, Ext w W → Calls Tryz.prog 157 #[.string x] W fun e w' => ∃ v, e = .returned (itV v) ∧ ItS w' (fun b => W.heap.size ≤ b ∧ b < w'.heap.size) (txtT x) v ∧ Ext W w') :
    Calls Tryz.prog 158 #[.slice A l.length c, .func (.func 157) #[] #[]] w fun e w' => ∃ v, e = .returned (itV v) ∧ ItS w' (fun b => w.heap.size ≤ b ∧ b < w'.heap.size) (.s (l.map txtT)) v ∧ Ext w w' := by
  obtain ⟨i0, hi, hz0, hz1, hz2⟩ := info_parts Tryz.infoIt
  obtain ⟨W0, e0⟩ : ∃ W, w.alloc (.cells #[.int .i64 0, .slice none 0 0, .slice none 0 0] 77) = W := ⟨_, rfl⟩
  have b0 : Blk W0 w.heap.size 77 #[.int .i64 0, .slice none 0 0, .slice none 0 0] := by rw [← e0]; exact Blk.new _ _ _
  have x0 : Ext w W0 := by rw [← e0]; exact (Ext.refl w).alloc _
  have hq0 : SqS w W0 (l.map txtT) 0 (.slice none 0 0) [] := ⟨b0, World.ownsRow_nil _ _ _ _, by rw [List.take_zero, ItsS_nil], x0⟩
  have HR := Lib.hid fun (W : World) (x : Ext w W) => (hr.below x.out).more x.size
  have HQ0 := Lib.hid hq0
  have HN := Lib.hid hn
  have HF := Lib.hid hF
  clear b0 x0 hq0 hr hn hF
  go_enter Tryz.func158, Tryz.ntmps158
  go_upto_region 1 with (fail)
  try rw [e0]
  clear e0
  go_wp2
  go_loopg [5, 10] l.length (fun gm s5 s10 wr => ∃ (j : Nat) (AL : Option Addr) (cL : Nat) (vs : List ItV), j + gm = l.length ∧ s5 = .slice AL j cL ∧ s10 = .int .i64 j ∧ SqS w wr (l.map txtT) j (.slice AL j cL) vs)
  case atStart => exact ⟨0, none, 0, [], by omega, rfl, rfl, HQ0.out⟩
  case round =>
    obtain ⟨j, AL, cL, vs, hj, rfl, rfl, hq⟩ := hrel
    have hjb : (j : Int) ≤ 1000 := by have := HN.out; omega
    by_cases h : j < l.length
    · obtain ⟨x, hs⟩ : ∃ s, l[j]? = some s := ⟨_, List.getElem?_eq_getElem h⟩
      obtain ⟨ad, rfl, q0⟩ := reads_text (HR.out _ hq.x) hs
      have cF := HF.out x (List.mem_of_getElem? hs) wr hq.x
      unfold itV at cF
      have ht : (l.map txtT)[j]? = some (txtT x) := by simp [hs]
      have HJ := Lib.hid hj
      have HT := Lib.hid ht
      have hjn : j < l.length := h
      have HQ := Lib.hid hq
      have XW1 := Lib.hid (Ext.refl wr)
      clear hj hs ht hq h
      go_upto_region 6 with (first | (go_at_call 157; refine cF.mono ?_; clear cF; rintro e w2 ⟨v, rfl, hv, x2⟩; have hoR := (own_ext HQ.out.row (XW1.out.trans x2)).alloc (.cells #[.int .i64 (v.tag : Int), .slice v.A v.n v.c, .slice v.A2 v.n2 v.c2] 77); have hrN := reads_rows w2 77 [.int .i64 (v.tag : Int), .slice v.A v.n v.c, .slice v.A2 v.n2 v.c2]; have hHs : w.heap.size + 1 ≤ (w2.alloc (.cells #[.int .i64 (v.tag : Int), .slice v.A v.n v.c, .slice v.A2 v.n2 v.c2] 77)).heap.size := (by rw [World.size_alloc]; have := HQ.out.x.size; have := XW1.out.size; have := x2.size; omega)) | (at_builtin; refine wpList_append_any _ rfl (.tmp 14) (.tmp 18) 75 rfl (w.heap.size + 1) 77 i0 (.agg #[.int .i64 0, .slice none 0 0, .slice none 0 0]) 3 56 Tryz.underlying75 hi hz0 hz1 hz2 rfl (by decide) _ j (itsV vs) rfl hoR _ _ 1 _ [.int .i64 (v.tag : Int), .slice v.A v.n v.c, .slice v.A2 v.n2 v.c2] rfl hrN (by simp [Value.oneCell']) (by simp only [maxLen]; omega) (by omega) hHs ?_; intro v6 w6 ho6 hg6 hb6; obtain ⟨A6, c6, rfl, -, -⟩ := own_slice2 ho6))
      have hq6 := HQ.out.step HT.out XW1.out hv x2 ho6 hg6 hb6
      clear hv x2 ho6 hg6 hb6 hoR hrN hHs
      go_wp2
      go_roundg (gk - 1)
      case measure => have := HJ.out; omega
      case rel => exact ⟨j + 1, A6, c6, vs ++ [v], by have := HJ.out; omega, rfl, int_congr (by omega), hq6⟩
    · obtain rfl : j = l.length := by omega
      have hch := hq.ch
      have hml : (l.map txtT).length = l.length := by simp
      rw [show (l.map txtT).take l.length = l.map txtT from by rw [← hml, List.take_length]] at hch
      obtain ⟨_, _, hee, -, hrr⟩ := own_slice2 hq.row
      cases hee
      have cS := dSeq_any l.length vs (by have := HN.out; omega) AL cL wr hrr
      have HCH := Lib.hid hch
      have HML := Lib.hid hml
      unfold itV at cS
      have HQ := Lib.hid hq
      clear hq hj h hch hml hrr
      go_wp2_with (go_at_call 146; refine cS.mono ?_; clear cS; rintro e w2 ⟨v, rfl, hv, hf, x2⟩; have z3 := ext_blk x2 HQ.out.b0; have z0 := z3.cell 0; have z1 := z3.cell 1; have z2 := z3.cell 2; have f0 := z3.frozen 0; have f1 := z3.frozen 1; have f2 := z3.frozen 2)
      obtain ⟨W7, e7, b7, x7, k7, s7⟩ := item_put z3 (HQ.out.x.trans x2) (.int .i64 (v.tag : Int)) (.slice v.A v.n v.c) (.slice v.A2 v.n2 v.c2)
      rw [← e7]
      clear e7 z0 z1 z2 f0 f1 f2
      have y0 := b7.cell 0
      have y1 := b7.cell 1
      have y2 := b7.cell 2
      have hlt := HQ.out.b0.lt
      refine bodyPost_ret (v := .agg #[.int .i64 (v.tag : Int), .slice v.A v.n v.c, .slice v.A2 v.n2 v.c2]) (by simp [results, Tryz.results158, go_sem, y0, y1, y2]) rfl ⟨v, rfl, ?_, x7⟩
      have hvS : ItS w2 (fun b => w.heap.size < b ∧ b < w2.heap.size) (.s (l.map txtT)) v := SeqO.itS (by rw [HML.out]; exact hv) hf (fun b h1 h2 => ⟨by omega, h2⟩) (HCH.out.keep (fun p hp => x2.out.cell hp.1.2) (fun b hb => ⟨hb.1.1, by have := x2.size; have := hb.1.2; omega⟩))
      exact hvS.keep (fun p hp => k7 p (by have := hp.1; omega)) (fun b hb => ⟨by omega, by rw [s7]; exact hb.2⟩)
end Go.Proofs.YtfpmfegmehbfbaaGreatDoor

/- Certificates, walked: the item of a promise. -/
namespace Go.Proofs.YtfpmfegmehbfbaaGreatDoor
set_option linter.unusedVariables false
set_option linter.unusedSimpArgs false
set_option linter.unusedSimpArgs false
open Go.RowKit Go.Shelf Go.Maps

/-- A result's three cells are stored, wherever it lies. -/
theorem item_putG {w W1 : World} {g : Nat} {T : TypeId} {a b c : Value} (hg : w.heap.size ≤ g) (h : Blk W1 g T #[a, b, c]) (x : Ext w W1) (u v z : Value) :
    ∃ W3, W3 = ((W1.setCell ⟨g, 0, none⟩ u).setCell ⟨g, 1, none⟩ v).setCell ⟨g, 2, none⟩ z ∧ Blk W3 g T #[u, v, z] ∧ Ext w W3 ∧ (∀ p : Addr, p.block ≠ g → W3.cell? p = W1.cell? p) ∧ W3.heap.size = W1.heap.size := by
  refine ⟨_, rfl, ((h.set_ 0 u).set_ 1 v).set_ 2 z, ((x.setCell (p := ⟨g, 0, none⟩) hg _).setCell (p := ⟨g, 1, none⟩) hg _).setCell (p := ⟨g, 2, none⟩) hg _, fun p hp => ?_, by simp⟩
  rw [World.cell?_setCell_other _ _ _ _ (fun e => hp (by rw [← e])), World.cell?_setCell_other _ _ _ _ (fun e => hp (by rw [← e])), World.cell?_setCell_other _ _ _ _ (fun e => hp (by rw [← e]))]
theorem reads_row3 (W : World) (vs : List ItV) : Reads (W.alloc (.cells (itsV vs).toArray 77)) (W.alloc (.cells (itsV vs).toArray 77)).heap.size 3 (some ⟨W.heap.size, 0, none⟩) vs.length (itsV vs) :=
  ⟨itsV_len vs, fun _ => ⟨_, rfl, by simp, fun j u hj => by
    rw [show (⟨W.heap.size, 0, none⟩ : Addr).add j = ⟨W.heap.size, j, none⟩ by simp [Addr.add]; exact fun h => h.symm, (Blk.new W 77 (itsV vs).toArray).cell j]
    simpa using hj⟩⟩
theorem dIntZ (n : Int) (h : 0 ≤ n ∧ n < 9223372036854775808) (w : World) : Calls Tryz.prog 42 #[.int .i64 n] w fun e w' => ∃ v, e = .returned (itV v) ∧ ItW w' w'.heap.size (natT n.toNat) v ∧ (∀ ad, v.A = some ad → w.heap.size ≤ ad.block) ∧ Ext w w' := by
  have := dInt_any n.toNat (by omega) w
  rwa [show ((n.toNat : Nat) : Int) = n by omega] at this
theorem kid_p {wk w9 : World} {m B tag : Nat} {b : List Nat} {v : ItV} (hv : ItW wk wk.heap.size (.p tag b) v) (hf : ∀ ad, v.A = some ad → B ≤ ad.block) (hB : m ≤ B) (x : Ext wk w9) : ItS w9 (fun b => m ≤ b ∧ b < w9.heap.size) (.p tag b) v :=
  (itS_p (S := fun b => m ≤ b ∧ b < wk.heap.size) hv (fun ad ea hb => ⟨Nat.le_trans hB (hf ad ea), hb⟩)).keep (fun p hp => x.out.cell hp.2) (fun b hb => ⟨hb.1, Nat.lt_of_lt_of_le hb.2 x.size⟩)
set_option maxRecDepth 100000 in
set_option maxHeartbeats 8000000 in
theorem body1_any (p : PrmR) (hp : prmC p) (w : World) : Calls Tryz.prog 155 #[.agg #[.int .i64 p.log, .int .i64 p.at_, .int .u64 (p.l0 : Int), .int .u64 (p.l1 : Int), .int .u64 (p.e : Int), .int .u64 (p.s : Int)]] w fun e w' => ∃ v, e = .returned (itV v) ∧ ItS w' (fun b => w.heap.size ≤ b ∧ b < w'.heap.size) (prmT p) v ∧ Ext w w' := by
  obtain ⟨W1, e1, b1, b2, x1⟩ := boxes2 w #[.int .i64 p.log, .int .i64 p.at_, .int .u64 (p.l0 : Int), .int .u64 (p.l1 : Int), .int .u64 (p.e : Int), .int .u64 (p.s : Int)] #[.int .i64 0, .slice none 0 0, .slice none 0 0] 55 77
  have hs1 : W1.heap.size = w.heap.size + 2 := by rw [← e1]; simp
  obtain ⟨h1, h2, h3, h4, h5, h6⟩ := hp
  have c5 := dIntZ p.log (by unfold numC at h1; omega)
  have c8 := dIntZ p.at_ (by unfold numC at h2; omega)
  have c12 := big_any p.l0 (by omega)
  have c16 := big_any p.l1 (by omega)
  have c20 := big_any p.e (by omega)
  have c24 := big_any p.s (by omega)
  have cS := dSeq_any 6
  unfold itV at c5 c8 c12 c16 c20 c24 cS
  have HC1 := Lib.hid fun (V : World) (e : Ext W1 V) => And.intro ((ext_blk e b1).cell 0) (And.intro ((ext_blk e b1).cell 1) (And.intro ((ext_blk e b1).cell 2) (And.intro ((ext_blk e b1).cell 3) (And.intro ((ext_blk e b1).cell 4) ((ext_blk e b1).cell 5)))))
  have HB2 := Lib.hid b2
  have HX1 := Lib.hid x1
  have HS1 := Lib.hid hs1
  clear b1 b2 x1 hs1 h1 h2 h3 h4 h5 h6
  go_enter Tryz.func155, Tryz.ntmps155
  go_upto_region 1 with (fail)
  try rw [e1]
  clear e1
  refine E_start (n := 25) (ls := #[false, false, false, false, false, false, false, false, false, false, false, false, false, false, false, false, false, false, false, false, false, false, false, false, false]) (fun w' => w'.cell? ⟨w.heap.size, 0, none⟩ = some (.int .i64 p.log) ∧ w'.cell? ⟨w.heap.size, 1, none⟩ = some (.int .i64 p.at_) ∧ w'.cell? ⟨w.heap.size, 2, none⟩ = some (.int .u64 (p.l0 : Int)) ∧ w'.cell? ⟨w.heap.size, 3, none⟩ = some (.int .u64 (p.l1 : Int)) ∧ w'.cell? ⟨w.heap.size, 4, none⟩ = some (.int .u64 (p.e : Int)) ∧ w'.cell? ⟨w.heap.size, 5, none⟩ = some (.int .u64 (p.s : Int))) 24 (by kernel_rfl) (by kernel_rfl) (by kernel_rfl) (HC1.out _ (Ext.refl W1).drew) (fun hHeld => ?_)
  refine E_tk (i := 0) (some 3) (v := ?_) rfl rfl (by kernel_rfl) hHeld (fun w hSw => ?_) ?_; rotate_left 1
  · (try dsimp only at hSw); go_simp; try with_reducible rfl
  try simp only [Act.put, List.setIfInBounds_toArray, List.set_cons_zero, List.set_cons_succ]
  refine E_tk (i := 1) (some 4) (v := ?_) rfl rfl (by kernel_rfl) hHeld (fun w hSw => ?_) ?_; rotate_left 1
  · (try dsimp only at hSw); go_simp; try with_reducible rfl
  try simp only [Act.put, List.setIfInBounds_toArray, List.set_cons_zero, List.set_cons_succ]
  refine E_tk (i := 3) (some 6) (v := ?_) rfl rfl (by kernel_rfl) hHeld (fun w hSw => ?_) ?_; rotate_left 1
  · (try dsimp only at hSw); go_simp; try with_reducible rfl
  try simp only [Act.put, List.setIfInBounds_toArray, List.set_cons_zero, List.set_cons_succ]
  refine E_tk (i := 4) (some 7) (v := ?_) rfl rfl (by kernel_rfl) hHeld (fun w hSw => ?_) ?_; rotate_left 1
  · (try dsimp only at hSw); go_simp; try with_reducible rfl
  try simp only [Act.put, List.setIfInBounds_toArray, List.set_cons_zero, List.set_cons_succ]
  refine E_tk (i := 6) (some 9) (v := ?_) rfl rfl (by kernel_rfl) hHeld (fun w hSw => ?_) ?_; rotate_left 1
  · (try dsimp only at hSw); go_simp; try with_reducible rfl
  try simp only [Act.put, List.setIfInBounds_toArray, List.set_cons_zero, List.set_cons_succ]
  refine E_tk (i := 7) (some 10) (v := ?_) rfl rfl (by kernel_rfl) hHeld (fun w hSw => ?_) ?_; rotate_left 1
  · (try dsimp only at hSw); go_simp; try with_reducible rfl
  try simp only [Act.put, List.setIfInBounds_toArray, List.set_cons_zero, List.set_cons_succ]
  refine E_tk (i := 8) (some 11) (v := ?_) rfl rfl (by kernel_rfl) hHeld (fun w hSw => ?_) ?_; rotate_left 1
  · (try dsimp only at hSw); go_simp; try with_reducible rfl
  try simp only [Act.put, List.setIfInBounds_toArray, List.set_cons_zero, List.set_cons_succ]
  refine E_tk (i := 10) (some 13) (v := ?_) rfl rfl (by kernel_rfl) hHeld (fun w hSw => ?_) ?_; rotate_left 1
  · (try dsimp only at hSw); go_simp; try with_reducible rfl
  try simp only [Act.put, List.setIfInBounds_toArray, List.set_cons_zero, List.set_cons_succ]
  refine E_tk (i := 11) (some 14) (v := ?_) rfl rfl (by kernel_rfl) hHeld (fun w hSw => ?_) ?_; rotate_left 1
  · (try dsimp only at hSw); go_simp; try with_reducible rfl
  try simp only [Act.put, List.setIfInBounds_toArray, List.set_cons_zero, List.set_cons_succ]
  refine E_tk (i := 12) (some 15) (v := ?_) rfl rfl (by kernel_rfl) hHeld (fun w hSw => ?_) ?_; rotate_left 1
  · (try dsimp only at hSw); go_simp; try with_reducible rfl
  try simp only [Act.put, List.setIfInBounds_toArray, List.set_cons_zero, List.set_cons_succ]
  refine E_tk (i := 14) (some 17) (v := ?_) rfl rfl (by kernel_rfl) hHeld (fun w hSw => ?_) ?_; rotate_left 1
  · (try dsimp only at hSw); go_simp; try with_reducible rfl
  try simp only [Act.put, List.setIfInBounds_toArray, List.set_cons_zero, List.set_cons_succ]
  refine E_tk (i := 15) (some 18) (v := ?_) rfl rfl (by kernel_rfl) hHeld (fun w hSw => ?_) ?_; rotate_left 1
  · (try dsimp only at hSw); go_simp; try with_reducible rfl
  try simp only [Act.put, List.setIfInBounds_toArray, List.set_cons_zero, List.set_cons_succ]
  refine E_tk (i := 16) (some 19) (v := ?_) rfl rfl (by kernel_rfl) hHeld (fun w hSw => ?_) ?_; rotate_left 1
  · (try dsimp only at hSw); go_simp; try with_reducible rfl
  try simp only [Act.put, List.setIfInBounds_toArray, List.set_cons_zero, List.set_cons_succ]
  refine E_tk (i := 18) (some 21) (v := ?_) rfl rfl (by kernel_rfl) hHeld (fun w hSw => ?_) ?_; rotate_left 1
  · (try dsimp only at hSw); go_simp; try with_reducible rfl
  try simp only [Act.put, List.setIfInBounds_toArray, List.set_cons_zero, List.set_cons_succ]
  refine E_tk (i := 19) (some 22) (v := ?_) rfl rfl (by kernel_rfl) hHeld (fun w hSw => ?_) ?_; rotate_left 1
  · (try dsimp only at hSw); go_simp; try with_reducible rfl
  try simp only [Act.put, List.setIfInBounds_toArray, List.set_cons_zero, List.set_cons_succ]
  refine E_tk (i := 20) (some 23) (v := ?_) rfl rfl (by kernel_rfl) hHeld (fun w hSw => ?_) ?_; rotate_left 1
  · (try dsimp only at hSw); go_simp; try with_reducible rfl
  try simp only [Act.put, List.setIfInBounds_toArray, List.set_cons_zero, List.set_cons_succ]
  refine E_on (i := 2) rfl (by kernel_rfl) (by kernel_rfl) (fun K hK => ?_)
  go_simp
  go_at_call 42
  refine (c5 _).mono ?_
  clear c5
  rintro e w5 ⟨v5, rfl, hv5, hf5, x5⟩
  have X5 : Ext W1 w5 := (Ext.refl W1).drew.trans x5
  replace hHeld := HC1.out _ X5
  refine hK _ _ (fun _ => hHeld) ?_
  clear hK K
  try simp only [Act.put, List.setIfInBounds_toArray, List.set_cons_zero, List.set_cons_succ]
  refine E_on (i := 5) rfl (by kernel_rfl) (by kernel_rfl) (fun K hK => ?_)
  go_simp
  go_at_call 42
  refine (c8 _).mono ?_
  clear c8
  rintro e w8 ⟨v8, rfl, hv8, hf8, x8⟩
  have X8 : Ext W1 w8 := X5.trans x8
  replace hHeld := HC1.out _ X8
  refine hK _ _ (fun _ => hHeld) ?_
  clear hK K
  try simp only [Act.put, List.setIfInBounds_toArray, List.set_cons_zero, List.set_cons_succ]
  refine E_on (i := 9) rfl (by kernel_rfl) (by kernel_rfl) (fun K hK => ?_)
  go_simp
  go_at_call 147
  refine (c12 _).mono ?_
  clear c12
  rintro e w12 ⟨v12, rfl, hv12, hf12, x12⟩
  have X12 : Ext W1 w12 := X8.trans x12
  replace hHeld := HC1.out _ X12
  refine hK _ _ (fun _ => hHeld) ?_
  clear hK K
  try simp only [Act.put, List.setIfInBounds_toArray, List.set_cons_zero, List.set_cons_succ]
  refine E_on (i := 13) rfl (by kernel_rfl) (by kernel_rfl) (fun K hK => ?_)
  go_simp
  go_at_call 147
  refine (c16 _).mono ?_
  clear c16
  rintro e w16 ⟨v16, rfl, hv16, hf16, x16⟩
  have X16 : Ext W1 w16 := X12.trans x16
  replace hHeld := HC1.out _ X16
  refine hK _ _ (fun _ => hHeld) ?_
  clear hK K
  try simp only [Act.put, List.setIfInBounds_toArray, List.set_cons_zero, List.set_cons_succ]
  refine E_on (i := 17) rfl (by kernel_rfl) (by kernel_rfl) (fun K hK => ?_)
  go_simp
  go_at_call 147
  refine (c20 _).mono ?_
  clear c20
  rintro e w20 ⟨v20, rfl, hv20, hf20, x20⟩
  have X20 : Ext W1 w20 := X16.trans x20
  replace hHeld := HC1.out _ X20
  refine hK _ _ (fun _ => hHeld) ?_
  clear hK K
  try simp only [Act.put, List.setIfInBounds_toArray, List.set_cons_zero, List.set_cons_succ]
  refine E_on (i := 21) rfl (by kernel_rfl) (by kernel_rfl) (fun K hK => ?_)
  go_simp
  go_at_call 147
  refine (c24 _).mono ?_
  clear c24
  rintro e w24 ⟨v24, rfl, hv24, hf24, x24⟩
  have X24 : Ext W1 w24 := X20.trans x24
  replace hHeld := HC1.out _ X24
  refine hK _ _ (fun _ => hHeld) ?_
  clear hK K
  try simp only [Act.put, List.setIfInBounds_toArray, List.set_cons_zero, List.set_cons_succ]
  refine E_on (i := 22) rfl (by kernel_rfl) (by kernel_rfl) (fun K hK => ?_)
  go_simp
  replace hHeld := HC1.out _ (X24.alloc (.cells #[.int .i64 (v5.tag : Int), .slice v5.A v5.n v5.c, .slice v5.A2 v5.n2 v5.c2, .int .i64 (v8.tag : Int), .slice v8.A v8.n v8.c, .slice v8.A2 v8.n2 v8.c2, .int .i64 (v12.tag : Int), .slice v12.A v12.n v12.c, .slice v12.A2 v12.n2 v12.c2, .int .i64 (v16.tag : Int), .slice v16.A v16.n v16.c, .slice v16.A2 v16.n2 v16.c2, .int .i64 (v20.tag : Int), .slice v20.A v20.n v20.c, .slice v20.A2 v20.n2 v20.c2, .int .i64 (v24.tag : Int), .slice v24.A v24.n v24.c, .slice v24.A2 v24.n2 v24.c2] 77))
  refine hK _ _ (fun _ => hHeld) ?_
  clear hK K
  try simp only [Act.put, List.setIfInBounds_toArray, List.set_cons_zero, List.set_cons_succ]
  refine E_on (i := 23) rfl (by kernel_rfl) (by kernel_rfl) (fun K hK => ?_)
  go_simp
  go_at_call 146
  refine (cS [v5, v8, v12, v16, v20, v24] (by decide) _ _ _ (reads_row3 w24 [v5, v8, v12, v16, v20, v24])).mono ?_
  clear cS
  rintro e w26 ⟨v26, rfl, hv26, hf26, x26⟩
  have X26 : Ext W1 w26 := (X24.alloc _).trans x26
  have XR : Ext w24 w26 := ((Ext.refl w24).alloc _).trans x26
  have k3 := ext_blk X26 HB2.out
  have n0 := k3.cell 0
  have n1 := k3.cell 1
  have n2 := k3.cell 2
  have f0 := k3.frozen 0
  have f1 := k3.frozen 1
  have f2 := k3.frozen 2
  replace hHeld := HC1.out _ X26
  refine hK _ _ (fun _ => hHeld) ?_
  clear hK K
  try simp only [Act.put, List.setIfInBounds_toArray, List.set_cons_zero, List.set_cons_succ]
  refine E_on (i := 24) rfl (by kernel_rfl) (by kernel_rfl) (fun K hK => ?_)
  go_simp
  refine hK _ _ (fun h => absurd rfl h) ?_
  clear hK K
  try simp only [Act.put, List.setIfInBounds_toArray, List.set_cons_zero, List.set_cons_succ]
  refine E_done (by kernel_rfl) ?_
  go_wp2
  obtain ⟨W7, e7, b7, x7, k7, s7⟩ := item_putG (w := w) (Nat.le_succ _) k3 (HX1.out.trans X26) (.int .i64 (v26.tag : Int)) (.slice v26.A v26.n v26.c) (.slice v26.A2 v26.n2 v26.c2)
  rw [← e7]
  clear e7 n0 n1 n2 f0 f1 f2 hHeld
  have y0 := b7.cell 0
  have y1 := b7.cell 1
  have y2 := b7.cell 2
  have hs1 := HS1.out
  have g5 := X5.size
  have g8 := X8.size
  have g12 := X12.size
  have g16 := X16.size
  have g20 := X20.size
  have g24 := X24.size
  refine bodyPost_ret (v := .agg #[.int .i64 (v26.tag : Int), .slice v26.A v26.n v26.c, .slice v26.A2 v26.n2 v26.c2]) (by simp [results, Tryz.results155, go_sem, y0, y1, y2]) rfl ⟨v26, rfl, ?_, x7⟩
  have hch : ItsS w26 (fun b => w.heap.size + 2 ≤ b ∧ b < w26.heap.size) [natT p.log.toNat, natT p.at_.toNat, natT p.l0, natT p.l1, natT p.e, natT p.s] [v5, v8, v12, v16, v20, v24] := by
    simp only [ItsS_cons, ItsS_nil]
    refine ⟨_, _, rfl, kid_p hv5 hf5 (by show _ ≤ W1.heap.size; omega) (x8.trans (x12.trans (x16.trans (x20.trans (x24.trans XR))))), _, _, rfl, kid_p hv8 hf8 (by omega) (x12.trans (x16.trans (x20.trans (x24.trans XR)))), _, _, rfl, kid_p hv12 hf12 (by omega) (x16.trans (x20.trans (x24.trans XR))), _, _, rfl, kid_p hv16 hf16 (by omega) (x20.trans (x24.trans XR)), _, _, rfl, kid_p hv20 hf20 (by omega) (x24.trans XR), _, _, rfl, kid_p hv24 hf24 (by omega) XR, rfl⟩
  have hS : ItS w26 (fun b => w.heap.size + 2 ≤ b ∧ b < w26.heap.size) (prmT p) v26 := SeqO.itS hv26 hf26 (fun b h1 h2 => ⟨by rw [World.size_alloc] at h1; omega, h2⟩) hch
  exact hS.keep (fun q hq => k7 q (by have := hq.1; omega)) (fun b hb => ⟨by omega, by rw [s7]; exact hb.2⟩)
end Go.Proofs.YtfpmfegmehbfbaaGreatDoor
