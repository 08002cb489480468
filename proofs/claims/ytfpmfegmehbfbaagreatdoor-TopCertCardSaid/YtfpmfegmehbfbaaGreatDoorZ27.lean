/- Parts of the proofs, put together: CtD5, CtD6. -/
import Derived.Laws.IdiomStrings
import Derived.Lib.BufferRead
import Derived.Test.YtfpmfegmehbfbaaGreatDoorZ26
/- Items, walked: of texts, of truths, of items; what an item holds, written. -/
namespace Go.Proofs.YtfpmfegmehbfbaaGreatDoor
set_option linter.unusedVariables false
set_option linter.unusedSimpArgs false
set_option linter.unusedSimpArgs false
open Go.RowKit Go.Shelf Go.Maps

/-- A result's three cells are stored. -/
theorem item_put {w W1 : World} {T : TypeId} {a b c : Value} (h : Blk W1 w.heap.size T #[a, b, c]) (x : Ext w W1) (u v z : Value) :
    ∃ W3, W3 = ((W1.setCell ⟨w.heap.size, 0, none⟩ u).setCell ⟨w.heap.size, 1, none⟩ v).setCell ⟨w.heap.size, 2, none⟩ z ∧ Blk W3 w.heap.size T #[u, v, z] ∧ Ext w W3 ∧ (∀ p : Addr, p.block ≠ w.heap.size → W3.cell? p = W1.cell? p) ∧ W3.heap.size = W1.heap.size := by
  refine ⟨_, rfl, ((h.set_ 0 u).set_ 1 v).set_ 2 z, ((x.setCell (p := ⟨w.heap.size, 0, none⟩) (Nat.le_refl _) _).setCell (p := ⟨w.heap.size, 1, none⟩) (Nat.le_refl _) _).setCell (p := ⟨w.heap.size, 2, none⟩) (Nat.le_refl _) _, fun p hp => ?_, by simp⟩
  rw [World.cell?_setCell_other _ _ _ _ (fun e => hp (by rw [← e])), World.cell?_setCell_other _ _ _ _ (fun e => hp (by rw [← e])), World.cell?_setCell_other _ _ _ _ (fun e => hp (by rw [← e]))]
theorem Reads.keepOff {w w' : World} {B size n g : Nat} {A : Option Addr} {xs : List Value} (h : Reads w B size A n xs) (hk : ∀ p : Addr, p.block ≠ g → w'.cell? p = w.cell? p) (hg : ∀ ad, A = some ad → ad.block ≠ g) : Reads w' B size A n xs :=
  ⟨h.1, fun hn => by
    obtain ⟨ad, e, hb, hc⟩ := h.2 hn
    exact ⟨ad, e, hb, fun j u hu => (hk _ (by rw [block_of_add]; exact hg ad e)).trans (hc j u hu)⟩⟩
/-- A text as bytes. -/
theorem txt_world (w : World) (s : ByteArray) : ∃ W c, (convert 9 22 (.string s)).run Tryz.prog w = .ok (.slice (some ⟨w.heap.size, 0, none⟩) s.size c) W ∧ s.size ≤ c ∧ Ext w W ∧ Reads W W.heap.size 1 (some ⟨w.heap.size, 0, none⟩) s.size (bv (txN s)) := by
  have hcv := Lib.run_convert_string_bytes (P := Tryz.prog) w 9 22 5 s Tryz.underlying9 Tryz.underlying22 Tryz.underlying5
  have hn := Lib.bytesWorld_at_new w 5 s
  have hsz := Lib.bytesWorld_size w 5 s
  refine ⟨_, _, hcv, grownCap_ge w _ _ _, Ext.of ⟨rfl, rfl, rfl, by rw [hsz]; omega, fun k hk => Lib.bytesWorld_at_old w 5 s k hk⟩, by rw [bv_length, txN_lenC]; omega, fun h0 => ⟨_, rfl, by rw [hsz]; exact Nat.lt_succ_self _, fun j u hj => ?_⟩⟩
  have e : (Addr.mk w.heap.size 0 none).add j = ⟨w.heap.size, j, none⟩ := by
    unfold Addr.add
    split
    · next h => rw [h]
    · simp
  have hlt : j < s.size := by
    have := (List.getElem?_eq_some_iff.1 hj).1
    rwa [bv_length, txN_lenC] at this
  rw [e, cell_of_row _ _ _ _ _ _ hn]
  unfold Lib.bytesCells
  rw [Array.getElem?_append_left (by have : s.data.size = s.size := rfl; simp [this]; omega)]
  rw [← hj]
  simp [bv, txN]
  rfl
theorem conv_txt {w : World} {A : Option Addr} {c B : Nat} (s : ByteArray) (h : Reads w B 1 A (txN s).length (bv (txN s))) :
    (convert 22 9 (.slice A (txN s).length c)).run Tryz.prog w = .ok (.string s) w := by
  have hl : (txN s).length = s.data.toList.length := by unfold txN; rw [List.length_map]
  have key : ∀ ad, (∀ j (hj : j < s.data.toList.length), w.cell? (ad.add j) = some (.int .u8 (s.data.toList[j].toNat : Int))) → (convert 22 9 (.slice (some ad) (txN s).length c)).run Tryz.prog w = .ok (.string s) w := fun ad hc => by
    rw [hl]
    exact run_convert_bytes_back (P := Tryz.prog) w 22 9 5 ad c s.data.toList Tryz.underlying22 Tryz.underlying5 Tryz.underlying9 hc
  rcases Nat.eq_zero_or_pos (txN s).length with h0 | h0
  · rcases A with _ | ad
    · have hs : s = ⟨#[]⟩ := by
        have : s.data.toList = [] := List.eq_nil_of_length_eq_zero (by rw [← hl]; exact h0)
        cases s with
        | mk d => simp at this; rw [this]
      subst hs
      exact Lib.run_convert_nil_bytes (P := Tryz.prog) w 22 9 5 c Tryz.underlying22 Tryz.underlying5 Tryz.underlying9
    · exact key ad (fun j hj => by omega)
  · obtain ⟨ad, rfl, -, hc⟩ := h.2 h0
    refine key ad (fun j hj => hc j _ ?_)
    simp [bv, txN, List.getElem?_eq_getElem hj]
set_option maxRecDepth 100000 in
set_option maxHeartbeats 2000000 in
theorem dText_any (s : ByteArray) (w : World) : Calls Tryz.prog 157 #[.string s] w fun e w' => ∃ v, e = .returned (itV v) ∧ ItW w' w'.heap.size (txtT s) v ∧ (∀ ad, v.A = some ad → w.heap.size ≤ ad.block) ∧ Ext w w' := by
  obtain ⟨W0, e0⟩ : ∃ W, w.alloc (.cells #[.int .i64 0, .slice none 0 0, .slice none 0 0] 77) = W := ⟨_, rfl⟩
  have b0 : Blk W0 w.heap.size 77 #[.int .i64 0, .slice none 0 0, .slice none 0 0] := by rw [← e0]; exact Blk.new _ _ _
  have x0 : Ext w W0 := by rw [← e0]; exact (Ext.refl w).alloc _
  obtain ⟨W1, c, hcv, hc, x1, hr⟩ := txt_world W0 s
  have hg : w.heap.size < W0.heap.size := b0.lt
  obtain ⟨g, hgg⟩ : ∃ g, W0.heap.size = g := ⟨_, rfl⟩
  rw [hgg] at hcv hr hg
  have b1 := ext_blk x1 b0
  have y0 := b1.cell 0
  have y1 := b1.cell 1
  have y2 := b1.cell 2
  have f0 := b1.frozen 0
  have f1 := b1.frozen 1
  have f2 := b1.frozen 2
  obtain ⟨W3, e3, b3, x3, k3, s3⟩ := item_put b1 (x0.trans x1) (.int .i64 12) (.slice (some ⟨g, 0, none⟩) s.size c) (.slice none 0 0)
  have hr3 : Reads W3 W3.heap.size 1 (some ⟨g, 0, none⟩) s.size (bv (txN s)) := by rw [s3]; exact hr.keepOff k3 (fun ad e => by cases e; show g ≠ w.heap.size; omega)
  have z0 := b3.cell 0
  have z1 := b3.cell 1
  have z2 := b3.cell 2
  have HR := Lib.hid hr3
  have HX := Lib.hid x3
  have HC := Lib.hid hc
  have HGG := Lib.hid hg
  clear b0 x0 b1 x1 hr hg hgg k3 s3 b3 x3 hr3 hc
  go_enter Tryz.func157, Tryz.ntmps157
  go_upto_region 1 with (fail)
  try rw [e0]
  clear e0
  go_wp2
  try rw [← e3]
  clear e3 y0 y1 y2 f0 f1 f2
  refine bodyPost_ret (v := .agg #[.int .i64 12, .slice (some ⟨g, 0, none⟩) s.size c, .slice none 0 0]) (by simp [results, Tryz.results157, go_sem, z0, z1, z2]) rfl ⟨⟨12, some ⟨g, 0, none⟩, s.size, c, none, 0, 0⟩, rfl, ?_, fun ad ea => by cases ea; exact Nat.le_of_lt HGG.out, HX.out⟩
  unfold txtT
  rw [ItW_p, txN_lenC]
  exact ⟨rfl, rfl, HC.out, HR.out, rfl, rfl, rfl⟩
set_option maxRecDepth 100000 in
set_option maxHeartbeats 2000000 in
theorem dBool_true (w : World) : Calls Tryz.prog 159 #[.bool true] w fun e w' => ∃ x, e = .returned (itV x) ∧ ItW w' w'.heap.size (boolT true) x ∧ (∀ ad, x.A = some ad → w.heap.size ≤ ad.block) ∧ Ext w w' := by
  obtain ⟨W1, e1, b1, hb1, x1⟩ := boxes2 w #[.int .i64 1, .slice (some ⟨w.heap.size + 1, 0, none⟩) 1 1, .slice none 0 0] #[.int .u8 255] 77 5
  have z0 := b1.cell 0
  have z1 := b1.cell 1
  have z2 := b1.cell 2
  have HR := Lib.hid (blk_reads hb1)
  have HX := Lib.hid x1
  have HE := Lib.hid e1
  clear b1 hb1 x1 e1
  go_enter Tryz.func159, Tryz.ntmps159
  go_wp2
  rw [HE.out]
  refine bodyPost_ret (v := .agg #[.int .i64 1, .slice (some ⟨w.heap.size + 1, 0, none⟩) 1 1, .slice none 0 0]) (by simp [results, Tryz.results159, go_sem, z0, z1, z2]) rfl ⟨⟨1, some ⟨w.heap.size + 1, 0, none⟩, 1, 1, none, 0, 0⟩, rfl, ?_, fun ad ea => by cases ea; exact Nat.le_succ _, HX.out⟩
  unfold boolT
  rw [ItW_p]
  exact ⟨rfl, rfl, Nat.le_refl _, HR.out, rfl, rfl, rfl⟩
set_option maxRecDepth 100000 in
set_option maxHeartbeats 2000000 in
theorem dBool_false (w : World) : Calls Tryz.prog 159 #[.bool false] w fun e w' => ∃ x, e = .returned (itV x) ∧ ItW w' w'.heap.size (boolT false) x ∧ (∀ ad, x.A = some ad → w.heap.size ≤ ad.block) ∧ Ext w w' := by
  obtain ⟨W1, e1, b1, hb1, x1⟩ := boxes2 w #[.int .i64 1, .slice (some ⟨w.heap.size + 1, 0, none⟩) 1 1, .slice none 0 0] #[.int .u8 0] 77 5
  have z0 := b1.cell 0
  have z1 := b1.cell 1
  have z2 := b1.cell 2
  have HR := Lib.hid (blk_reads hb1)
  have HX := Lib.hid x1
  have HE := Lib.hid e1
  clear b1 hb1 x1 e1
  go_enter Tryz.func159, Tryz.ntmps159
  go_wp2
  rw [HE.out]
  refine bodyPost_ret (v := .agg #[.int .i64 1, .slice (some ⟨w.heap.size + 1, 0, none⟩) 1 1, .slice none 0 0]) (by simp [results, Tryz.results159, go_sem, z0, z1, z2]) rfl ⟨⟨1, some ⟨w.heap.size + 1, 0, none⟩, 1, 1, none, 0, 0⟩, rfl, ?_, fun ad ea => by cases ea; exact Nat.le_succ _, HX.out⟩
  unfold boolT
  rw [ItW_p]
  exact ⟨rfl, rfl, Nat.le_refl _, HR.out, rfl, rfl, rfl⟩
theorem dBool_any (v : Bool) (w : World) : Calls Tryz.prog 159 #[.bool v] w fun e w' => ∃ x, e = .returned (itV x) ∧ ItW w' w'.heap.size (boolT v) x ∧ (∀ ad, x.A = some ad → w.heap.size ≤ ad.block) ∧ Ext w w' := by
  cases v
  · exact dBool_false w
  · exact dBool_true w
theorem Tryz.infoIt : (Tryz.prog.info? 77).map (fun i => (i.zero, i.size, i.bytes)) = some (some (.agg #[.int .i64 0, .slice none 0 0, .slice none 0 0]), 3, 56) := by kernel_rfl
set_option maxRecDepth 100000 in
set_option maxHeartbeats 1000000 in
theorem cloneI_any (A : Option Addr) (n c : Nat) (xs : List Value) (h1 : ∀ u ∈ xs, u.oneCell' = true) (hn : n ≤ 100000) (w : World) (hr : Reads w w.heap.size 3 A n xs) :
    Calls Tryz.prog 224 #[.slice A n c] w fun e w' => ∃ v, e = .returned v ∧ w'.ownsRow w.heap.size 77 3 v n xs ∧ Ext w w' := by
  obtain ⟨i0, hi, hz0, hz1, hz2⟩ := info_parts Tryz.infoIt
  have hq := fun (w : World) (a : Option Addr) (n c : Nat) => Lib.run_eql_slice_nil (P := Tryz.prog) w 75 77 a n c 0 0 Tryz.underlying75
  go_enter Tryz.func224, Tryz.ntmps224
  rcases A with _ | ad
  · have h0 : n = 0 := by
      rcases Nat.eq_zero_or_pos n with h0 | h0
      · exact h0
      · obtain ⟨_, e, _⟩ := hr.2 h0; cases e
    subst h0
    have hx : xs = [] := List.eq_nil_of_length_eq_zero (by simpa using hr.1)
    subst hx
    clear hr h1 hn
    go_wp2
    go_ret
    exact ⟨_, rfl, World.ownsRow_nil _ _ _ _, Ext.refl w⟩
  · have HR := Lib.hid (hr.alloc (Nat.le_refl _) (.cells #[] 77))
    have HN := Lib.hid hn
    have HO := Lib.hid h1
    clear hr h1 hn
    go_wp2_with (at_builtin; refine wpList_append_any _ rfl (.tmp 5) (.tmp 6) 75 rfl w.heap.size 77 i0 (.agg #[.int .i64 0, .slice none 0 0, .slice none 0 0]) 3 56 Tryz.underlying75 hi hz0 hz1 hz2 rfl (by decide) _ 0 [] rfl (own_empty w _ _ rfl (Nat.le_refl _) _ _) w.heap.size _ _ _ xs rfl HR.out HO.out (by have := HN.out; simp only [maxLen]; omega) (by have := HN.out; omega) (by simp) ?_; intro v2 w2 hown2 hg2 _)
    go_ret
    rw [Nat.zero_add, List.nil_append] at hown2
    exact ⟨_, rfl, hown2, ext_grown ((Ext.refl w).alloc _) (own_empty w _ _ rfl (Nat.le_refl _) 77 3) hg2⟩
/-- What Seq hands back. -/
def SeqO (w w' : World) (n : Nat) (vs : List ItV) (v : ItV) : Prop := v.tag = 48 ∧ v.A = none ∧ v.n = 0 ∧ v.c = 0 ∧ v.n2 = n ∧ n ≤ v.c2 ∧ Reads w' w'.heap.size 3 v.A2 n (itsV vs)
set_option maxRecDepth 100000 in
set_option maxHeartbeats 2000000 in
theorem dSeq_any (n : Nat) (vs : List ItV) (hl : n ≤ 100000) (A : Option Addr) (c : Nat) (w : World) (hr : Reads w w.heap.size 3 A n (itsV vs)) :
    Calls Tryz.prog 146 #[.slice A n c] w fun e w' => ∃ v, e = .returned (itV v) ∧ SeqO w w' n vs v ∧ (∀ ad, v.A2 = some ad → w.heap.size ≤ ad.block) ∧ Ext w w' := by
  obtain ⟨W0, e0⟩ : ∃ W, w.alloc (.cells #[.int .i64 0, .slice none 0 0, .slice none 0 0] 77) = W := ⟨_, rfl⟩
  have b0 : Blk W0 w.heap.size 77 #[.int .i64 0, .slice none 0 0, .slice none 0 0] := by rw [← e0]; exact Blk.new _ _ _
  have x0 : Ext w W0 := by rw [← e0]; exact (Ext.refl w).alloc _
  have c1 := cloneI_any A n c (itsV vs) (itsV_one vs) hl W0 ((hr.below x0.out).more x0.size)
  have HB0 := Lib.hid b0
  have HX0 := Lib.hid x0
  clear b0 x0 hr hl
  go_enter Tryz.func146, Tryz.ntmps146
  go_upto_region 1 with (fail)
  try rw [e0]
  clear e0
  go_wp2_with (go_at_call 224; refine c1.mono ?_; clear c1; rintro e w2 ⟨v2, rfl, ho2, x2⟩; obtain ⟨A2, c2, rfl, hcc, hr2⟩ := own_slice2 ho2; have z0 := ext_blk x2 HB0.out; have y0 := z0.cell 0; have y1 := z0.cell 1; have y2 := z0.cell 2; have f0 := z0.frozen 0; have f1 := z0.frozen 1; have f2 := z0.frozen 2)
  obtain ⟨W3, e3, b3, x3, k3, s3⟩ := item_put z0 (HX0.out.trans x2) (.int .i64 48) (.slice none 0 0) (.slice A2 n c2)
  rw [← e3]
  have hr3 : Reads W3 W3.heap.size 3 A2 n (itsV vs) := by
    rw [s3]
    refine hr2.keepOff k3 (fun ad e => ?_)
    subst e
    rcases ho2.2 with ⟨h, _⟩ | ⟨g, cap, cur, h, hb, _⟩
    · cases h
    · cases h
      have := HB0.out.lt
      show g ≠ w.heap.size
      omega
  clear e3 y0 y1 y2 f0 f1 f2 z0
  have y0 := b3.cell 0
  have y1 := b3.cell 1
  have y2 := b3.cell 2
  refine bodyPost_ret (v := .agg #[.int .i64 48, .slice none 0 0, .slice A2 n c2]) (by simp [results, Tryz.results146, go_sem, y0, y1, y2]) rfl ⟨⟨48, none, 0, 0, A2, n, c2⟩, rfl, ?_, fun ad ea => Nat.le_trans HX0.out.size (own_freshC ho2 ad ea), x3⟩
  exact ⟨rfl, rfl, rfl, rfl, rfl, hcc, hr3⟩
set_option maxRecDepth 100000 in
set_option maxHeartbeats 4000000 in
theorem cont_step {d : Nat} (hd : putP d) : contP (d + 1) := by
  intro t v w hok hl hw
  obtain ⟨W0, e0⟩ : ∃ W, w.alloc (.cells #[.int .i64 (v.tag : Int), .slice v.A v.n v.c, .slice v.A2 v.n2 v.c2] 77) = W := ⟨_, rfl⟩
  have b0 : Blk W0 w.heap.size 77 #[.int .i64 (v.tag : Int), .slice v.A v.n v.c, .slice v.A2 v.n2 v.c2] := by rw [← e0]; exact Blk.new _ _ _
  have x0 : Ext w W0 := by rw [← e0]; exact (Ext.refl w).alloc _
  have hNl := itN_le t
  have y1 := b0.cell 1
  cases t with
  | p tag b =>
    rw [ItW_p] at hw
    obtain ⟨h1, h2, h3, h4, h5, h6, h7⟩ := hw
    unfold itV
    rw [h2, h5, h6, h7] at b0 e0 y1 ⊢
    have c1 := cloneB_any v.A b.length v.c (bv b) (bv_one b) (by have : (itN (.p tag b)).length = b.length := rfl; omega) W0 ((h4.below x0.out).more x0.size)
    have HB0 := Lib.hid b0
    have HX0 := Lib.hid x0
    clear hd hok hl h1 h2 h3 h4 h5 h6 h7 b0 x0 hNl
    go_enter Tryz.func169, Tryz.ntmps169
    go_upto_region 1 with (fail)
    try rw [e0]
    clear e0
    go_wp2_with (go_at_call 111; refine c1.mono ?_; clear c1 y1; rintro e w2 ⟨v2, rfl, ho2, x2⟩; obtain ⟨A2, c2, rfl, hc2, hr2⟩ := own_slice ho2; have y2 := (ext_blk x2 HB0.out).cell 2)
    have HO2 := Lib.hid ho2
    have HX2 := Lib.hid x2
    clear hr2 x2 ho2 y2
    go_loopg [3, 12] 0 (fun m s3 s12 wr => s3 = .slice A2 b.length c2 ∧ s12 = .int .i64 0 ∧ w2 = wr)
    case atStart => exact ⟨rfl, rfl, rfl⟩
    case round =>
      obtain ⟨rfl, rfl, rfl⟩ := hrel
      go_wp2
      go_ret
      exact ⟨A2, c2, rfl, own_base HO2.out HX0.out.size, HX0.out.trans HX2.out⟩
  | s l =>
    rw [ItW_s] at hw
    obtain ⟨h1, h2, h3, h4, h5, h6, vs, h7, h8⟩ := hw
    unfold itV
    obtain ⟨B2, hB2⟩ : ∃ a, v.A2 = a := ⟨_, rfl⟩
    rw [hB2] at h7
    rw [h2, h3, h4, h5, hB2] at b0 e0 y1 ⊢
    clear hB2
    have c1 := cloneB_any none 0 0 [] (by simp) (by decide) W0 (Reads.none_)
    have hL : (itsB l).length ≤ 8192 := by have : (itN (.s l)).length = (itsB l).length := rfl; omega
    have hvl := h8.len
    have HB0 := Lib.hid b0
    have HX0 := Lib.hid x0
    have HOK : Hid (∀ t ∈ l, itOk d t) := Lib.hid hok
    have HLL := Lib.hid hL
    have HR := Lib.hid h7
    have HW := Lib.hid h8
    have hlen : l.length ≤ 8192 := by
      have : ∀ l : List It, 2 * l.length ≤ (itsB l).length := by
        intro l
        induction l with
        | nil => simp
        | cons t l ih => rw [itsB_cons, List.length_append, List.length_cons]; have := itB_pos t; omega
      have := this l
      omega
    have HVL := Lib.hid hvl
    clear hok hl h1 h2 h3 h4 h5 h6 b0 x0 hNl h7 h8 hL hvl
    go_enter Tryz.func169, Tryz.ntmps169
    go_upto_region 1 with (fail)
    try rw [e0]
    clear e0
    go_wp2_with (go_at_call 111; refine c1.mono ?_; clear c1 y1; rintro e w2 ⟨v2, rfl, ho2, x2⟩; have y2 := (ext_blk x2 HB0.out).cell 2)
    have HO2 : Hid (w2.ownsRow w.heap.size 5 1 v2 0 (bv [])) := Lib.hid (own_base ho2 HX0.out.size)
    have HX2 := Lib.hid (HX0.out.trans x2)
    clear x2 ho2 y2
    go_loopg [3, 12] l.length (fun m s3 s12 wr => ∃ (i : Nat) (v : Value), i + m = l.length ∧ v = s3 ∧ s12 = .int .i64 i ∧ wr.ownsRow w.heap.size 5 1 v (itsB (l.take i)).length (bv (itsB (l.take i))) ∧ Ext w wr)
    case atStart => exact ⟨0, _, by omega, rfl, rfl, HO2.out, HX2.out⟩
    case round =>
      obtain ⟨i, vr, hi, rfl, rfl, ho, hx⟩ := hrel
      by_cases h : i < l.length
      · obtain ⟨t, ht⟩ : ∃ s, l[i]? = some s := ⟨_, List.getElem?_eq_getElem h⟩
        obtain ⟨u, hu, hwu⟩ := HW.out.at_ ht
        obtain ⟨ad, rfl, hb, q0, q1, q2⟩ := reads_it (HR.out.below hx.out) hu
        have htk : l.take (i + 1) = l.take i ++ [t] := by rw [List.take_add_one, ht]; rfl
        have htb : itsB (l.take (i + 1)) = itsB (l.take i) ++ itB t := by rw [htk, itsB_append, itsB_cons, itsB_nil, List.append_nil]
        have hle : (itsB (l.take i)).length + (itB t).length ≤ 8192 := by
          have h1 := HLL.out
          have h2 : itsB l = itsB (l.take (i + 1)) ++ itsB (l.drop (i + 1)) := by rw [← itsB_append, List.take_append_drop]
          rw [h2, htb, List.length_append, List.length_append] at h1
          omega
        obtain ⟨W1, e1⟩ : ∃ W, wr.alloc (.cells #[.int .i64 (u.tag : Int), .slice u.A u.n u.c, .slice u.A2 u.n2 u.c2] 77) = W := ⟨_, rfl⟩
        have b1 : Blk W1 wr.heap.size 77 #[.int .i64 (u.tag : Int), .slice u.A u.n u.c, .slice u.A2 u.n2 u.c2] := by rw [← e1]; exact Blk.new _ _ _
        have x1 : Ext wr W1 := by rw [← e1]; exact (Ext.refl _).alloc _
        have cP := hd t u W1 w.heap.size vr (itsB (l.take i)) (HOK.out t (List.mem_of_getElem? ht)) (by omega) (by omega) (Nat.le_trans hx.size x1.size) (hwu.below (hx.trans x1).out) (own_ext ho x1)
        unfold itV at cP
        have z0 := b1.cell 0
        have z1 := b1.cell 1
        have z2 := b1.cell 2
        have hib : (i : Int) ≤ 8192 := by omega
        have hin : i < l.length := h
        have HX1 := Lib.hid (hx.trans x1)
        have HI := Lib.hid hi
        have HTB := Lib.hid htb
        clear hi ht hu hwu hb htk htb hle b1 x1 hx ho h
        go_upto_region 5 with (fail)
        try rw [e1]
        clear e1 q0 q1 q2
        go_wp2_with (go_at_call 84; refine cP.mono ?_; clear cP z0 z1 z2; rintro e w3 ⟨v3, rfl, ho3, x3⟩)
        go_roundg (gk - 1)
        case measure => have := HI.out; omega
        case rel => exact ⟨i + 1, v3, by have := HI.out; omega, rfl, int_congr (by omega), by rw [HTB.out, List.length_append]; exact ho3, Ext.of (HX1.out.out.trans x3)⟩
      · obtain rfl : i = l.length := by omega
        rw [List.take_length] at ho
        obtain ⟨A2, c2, rfl, -, -⟩ := own_slice ho
        have HO := Lib.hid ho
        have HX := Lib.hid hx
        clear ho hx hi h
        go_wp2
        go_ret
        exact ⟨A2, c2, rfl, HO.out, HX.out⟩
theorem cont_all : ∀ d : Nat, contP d
  | 0 => fun t v w h => h.elim
  | d + 1 => cont_step (put_of_cont (cont_all d))
theorem put_all (d : Nat) : putP d := put_of_cont (cont_all d)
end Go.Proofs.YtfpmfegmehbfbaaGreatDoor

/- Items, walked: may one be? -/
namespace Go.Proofs.YtfpmfegmehbfbaaGreatDoor
set_option linter.unusedVariables false
set_option linter.unusedSimpArgs false
set_option linter.unusedSimpArgs false
open Go.RowKit Go.Shelf Go.Maps

theorem kin_at {w : World} (h : KindsW w) (j : Nat) (hj : j < (kinV kinL).length) : w.cell? ⟨2, j, none⟩ = some ((kinV kinL)[j]) := by
  obtain ⟨ad, e, hb, hc⟩ := h.2 (by decide)
  cases e
  have := hc j _ (List.getElem?_eq_getElem hj)
  unfold Addr.add at this
  split at this
  · next h => subst h; exact this
  · simpa using this
set_option maxRecDepth 100000 in
set_option maxHeartbeats 2000000 in
theorem find_1 (w : World) (hk : KindsW w) :
    Calls Tryz.prog 165 #[.int .i64 1] w fun e w' => e = .returned (.tuple #[.agg #[.int .i64 1, .func (.func 366) #[] #[]], .bool true]) ∧ Ext w w' := by
  obtain ⟨W0, e0, b0, b1, x0⟩ := boxes2 w #[.int .i64 1] #[.int .i64 0, .nilFunc] 3 253
  have c1 := indexK_any 234 find1_enters #[.pointer (some ⟨w.heap.size, 0, none⟩)] (fun x => x.1 == 1) kinL (by decide) (some ⟨2, 0, none⟩) 5 W0 (hk.ext x0)
    (fun W s _ x => find1_any 1 s.1 s.2 w.heap.size W (x.cell (b0.cell 0)))
  rw [show ixG (fun x => x.1 == 1) kinL = 0 from rfl] at c1
  have HK := Lib.hid (hk.ext x0)
  have HX0 := Lib.hid x0
  have HB1 := Lib.hid b1
  clear b0 b1 x0 hk
  go_enter Tryz.func165, Tryz.ntmps165
  go_upto_region 1 with (fail)
  try rw [e0]
  clear e0
  go_wp2_with (go_at_call 233; refine c1.mono ?_; clear c1; rintro e w1 ⟨rfl, x1⟩; have k2 : w1.cell? ⟨2, 0, none⟩ = some (.int .i64 1) := (kin_at (HK.out.ext x1) 0 (by decide)); have k3 : w1.cell? ⟨2, 1, none⟩ = some (.func (.func 366) #[] #[]) := (kin_at (HK.out.ext x1) 1 (by decide)); have z1 := ext_blk x1 HB1.out; have y0 := z1.cell 0; have y1 := z1.cell 1; have f0 := z1.frozen 0; have f1 := z1.frozen 1)
  have z2 := (z1.set_ 0 (.int .i64 1)).set_ 1 (.func (.func 366) #[] #[])
  have v0 := z2.cell 0
  have v1 := z2.cell 1
  refine bodyPost_ret (v := .tuple #[.agg #[.int .i64 1, .func (.func 366) #[] #[]], .bool true]) (by simp [results, Tryz.results165, go_sem, v0, v1]) rfl ⟨rfl, ((HX0.out.trans x1).setCell (p := ⟨w.heap.size + 1, 0, none⟩) (Nat.le_succ _) _).setCell (p := ⟨w.heap.size + 1, 1, none⟩) (Nat.le_succ _) _⟩
set_option maxRecDepth 100000 in
set_option maxHeartbeats 2000000 in
theorem find_2 (w : World) (hk : KindsW w) :
    Calls Tryz.prog 165 #[.int .i64 2] w fun e w' => e = .returned (.tuple #[.agg #[.int .i64 2, .func (.func 110) #[] #[]], .bool true]) ∧ Ext w w' := by
  obtain ⟨W0, e0, b0, b1, x0⟩ := boxes2 w #[.int .i64 2] #[.int .i64 0, .nilFunc] 3 253
  have c1 := indexK_any 234 find1_enters #[.pointer (some ⟨w.heap.size, 0, none⟩)] (fun x => x.1 == 2) kinL (by decide) (some ⟨2, 0, none⟩) 5 W0 (hk.ext x0)
    (fun W s _ x => find1_any 2 s.1 s.2 w.heap.size W (x.cell (b0.cell 0)))
  rw [show ixG (fun x => x.1 == 2) kinL = 1 from rfl] at c1
  have HK := Lib.hid (hk.ext x0)
  have HX0 := Lib.hid x0
  have HB1 := Lib.hid b1
  clear b0 b1 x0 hk
  go_enter Tryz.func165, Tryz.ntmps165
  go_upto_region 1 with (fail)
  try rw [e0]
  clear e0
  go_wp2_with (go_at_call 233; refine c1.mono ?_; clear c1; rintro e w1 ⟨rfl, x1⟩; have k2 : w1.cell? ⟨2, 2, none⟩ = some (.int .i64 2) := (kin_at (HK.out.ext x1) 2 (by decide)); have k3 : w1.cell? ⟨2, 3, none⟩ = some (.func (.func 110) #[] #[]) := (kin_at (HK.out.ext x1) 3 (by decide)); have z1 := ext_blk x1 HB1.out; have y0 := z1.cell 0; have y1 := z1.cell 1; have f0 := z1.frozen 0; have f1 := z1.frozen 1)
  have z2 := (z1.set_ 0 (.int .i64 2)).set_ 1 (.func (.func 110) #[] #[])
  have v0 := z2.cell 0
  have v1 := z2.cell 1
  refine bodyPost_ret (v := .tuple #[.agg #[.int .i64 2, .func (.func 110) #[] #[]], .bool true]) (by simp [results, Tryz.results165, go_sem, v0, v1]) rfl ⟨rfl, ((HX0.out.trans x1).setCell (p := ⟨w.heap.size + 1, 0, none⟩) (Nat.le_succ _) _).setCell (p := ⟨w.heap.size + 1, 1, none⟩) (Nat.le_succ _) _⟩
set_option maxRecDepth 100000 in
set_option maxHeartbeats 2000000 in
theorem find_12 (w : World) (hk : KindsW w) :
    Calls Tryz.prog 165 #[.int .i64 12] w fun e w' => e = .returned (.tuple #[.agg #[.int .i64 12, .func (.func 368) #[] #[]], .bool true]) ∧ Ext w w' := by
  obtain ⟨W0, e0, b0, b1, x0⟩ := boxes2 w #[.int .i64 12] #[.int .i64 0, .nilFunc] 3 253
  have c1 := indexK_any 234 find1_enters #[.pointer (some ⟨w.heap.size, 0, none⟩)] (fun x => x.1 == 12) kinL (by decide) (some ⟨2, 0, none⟩) 5 W0 (hk.ext x0)
    (fun W s _ x => find1_any 12 s.1 s.2 w.heap.size W (x.cell (b0.cell 0)))
  rw [show ixG (fun x => x.1 == 12) kinL = 3 from rfl] at c1
  have HK := Lib.hid (hk.ext x0)
  have HX0 := Lib.hid x0
  have HB1 := Lib.hid b1
  clear b0 b1 x0 hk
  go_enter Tryz.func165, Tryz.ntmps165
  go_upto_region 1 with (fail)
  try rw [e0]
  clear e0
  go_wp2_with (go_at_call 233; refine c1.mono ?_; clear c1; rintro e w1 ⟨rfl, x1⟩; have k2 : w1.cell? ⟨2, 6, none⟩ = some (.int .i64 12) := (kin_at (HK.out.ext x1) 6 (by decide)); have k3 : w1.cell? ⟨2, 7, none⟩ = some (.func (.func 368) #[] #[]) := (kin_at (HK.out.ext x1) 7 (by decide)); have z1 := ext_blk x1 HB1.out; have y0 := z1.cell 0; have y1 := z1.cell 1; have f0 := z1.frozen 0; have f1 := z1.frozen 1)
  have z2 := (z1.set_ 0 (.int .i64 12)).set_ 1 (.func (.func 368) #[] #[])
  have v0 := z2.cell 0
  have v1 := z2.cell 1
  refine bodyPost_ret (v := .tuple #[.agg #[.int .i64 12, .func (.func 368) #[] #[]], .bool true]) (by simp [results, Tryz.results165, go_sem, v0, v1]) rfl ⟨rfl, ((HX0.out.trans x1).setCell (p := ⟨w.heap.size + 1, 0, none⟩) (Nat.le_succ _) _).setCell (p := ⟨w.heap.size + 1, 1, none⟩) (Nat.le_succ _) _⟩
set_option maxRecDepth 100000 in
set_option maxHeartbeats 2000000 in
theorem find_48 (w : World) (hk : KindsW w) :
    Calls Tryz.prog 165 #[.int .i64 48] w fun e w' => e = .returned (.tuple #[.agg #[.int .i64 48, .func (.func 371) #[] #[]], .bool true]) ∧ Ext w w' := by
  obtain ⟨W0, e0, b0, b1, x0⟩ := boxes2 w #[.int .i64 48] #[.int .i64 0, .nilFunc] 3 253
  have c1 := indexK_any 234 find1_enters #[.pointer (some ⟨w.heap.size, 0, none⟩)] (fun x => x.1 == 48) kinL (by decide) (some ⟨2, 0, none⟩) 5 W0 (hk.ext x0)
    (fun W s _ x => find1_any 48 s.1 s.2 w.heap.size W (x.cell (b0.cell 0)))
  rw [show ixG (fun x => x.1 == 48) kinL = 4 from rfl] at c1
  have HK := Lib.hid (hk.ext x0)
  have HX0 := Lib.hid x0
  have HB1 := Lib.hid b1
  clear b0 b1 x0 hk
  go_enter Tryz.func165, Tryz.ntmps165
  go_upto_region 1 with (fail)
  try rw [e0]
  clear e0
  go_wp2_with (go_at_call 233; refine c1.mono ?_; clear c1; rintro e w1 ⟨rfl, x1⟩; have k2 : w1.cell? ⟨2, 8, none⟩ = some (.int .i64 48) := (kin_at (HK.out.ext x1) 8 (by decide)); have k3 : w1.cell? ⟨2, 9, none⟩ = some (.func (.func 371) #[] #[]) := (kin_at (HK.out.ext x1) 9 (by decide)); have z1 := ext_blk x1 HB1.out; have y0 := z1.cell 0; have y1 := z1.cell 1; have f0 := z1.frozen 0; have f1 := z1.frozen 1)
  have z2 := (z1.set_ 0 (.int .i64 48)).set_ 1 (.func (.func 371) #[] #[])
  have v0 := z2.cell 0
  have v1 := z2.cell 1
  refine bodyPost_ret (v := .tuple #[.agg #[.int .i64 48, .func (.func 371) #[] #[]], .bool true]) (by simp [results, Tryz.results165, go_sem, v0, v1]) rfl ⟨rfl, ((HX0.out.trans x1).setCell (p := ⟨w.heap.size + 1, 0, none⟩) (Nat.le_succ _) _).setCell (p := ⟨w.heap.size + 1, 1, none⟩) (Nat.le_succ _) _⟩
set_option maxRecDepth 100000 in
set_option maxHeartbeats 2000000 in
theorem ixI_none (F : FuncId) (hE : Enters Tryz.prog F) (cap : Array Value) (vs : List ItV) (hn : vs.length ≤ 100000) (A : Option Addr) (c : Nat) (w : World) (hr : Reads w w.heap.size 3 A vs.length (itsV vs))
    (hstep : ∀ (W : World) (s : ItV), s ∈ vs → Ext w W → Calls Tryz.prog F (#[itV s] ++ cap) W fun e w' => e = .returned (.bool false) ∧ Ext W w') :
    Calls Tryz.prog 235 #[.slice A vs.length c, .func (.func F) #[] cap] w fun e w' => e = .returned (.int .i64 (-1)) ∧ Ext w w' := by
  have hr0 : Hid (Reads w w.heap.size 3 A vs.length (itsV vs)) := Lib.hid hr
  have HN := Lib.hid hn
  have HS := Lib.hid hstep
  unfold Enters at hE
  clear hr hn hstep
  go_enter Tryz.func235, Tryz.ntmps235
  go_wp2
  go_loopg [8] vs.length (fun m s8 wr => ∃ j : Nat, j + m = vs.length ∧ s8 = .int .i64 j ∧ Ext w wr)
  case atStart => exact ⟨0, by omega, rfl, Ext.refl w⟩
  case round =>
    obtain ⟨j, hj, rfl, hx⟩ := hrel
    by_cases h : j < vs.length
    · obtain ⟨s, hs⟩ : ∃ s, vs[j]? = some s := ⟨_, List.getElem?_eq_getElem h⟩
      obtain ⟨ad, rfl, hlt, q0, q1, q2⟩ := reads_it (hr0.out.below hx.out) hs
      have hjb : (j : Int) ≤ 100000 := by have := HN.out; omega
      have c1 := HS.out wr s (List.mem_of_getElem? hs) hx
      unfold itV at c1
      have HX := Lib.hid hx
      have HJ := Lib.hid hj
      clear hx hj hs hlt
      go_wp2_with (go_at_fn F; refine c1.mono ?_; clear c1; rintro e w1 ⟨rfl, x1⟩)
      go_roundg (gk - 1)
      case measure => have := HJ.out; omega
      case rel => exact ⟨j + 1, by have := HJ.out; omega, int_congr (by omega), HX.out.trans x1⟩
    · obtain rfl : j = vs.length := by omega
      have HX := Lib.hid hx
      clear hx hj h
      go_wp2
      go_ret
      exact ⟨rfl, HX.out⟩
theorem conI_none (F : FuncId) (hE : Enters Tryz.prog F) (cap : Array Value) (vs : List ItV) (hn : vs.length ≤ 100000) (A : Option Addr) (c : Nat) (w : World) (hr : Reads w w.heap.size 3 A vs.length (itsV vs))
    (hstep : ∀ (W : World) (s : ItV), s ∈ vs → Ext w W → Calls Tryz.prog F (#[itV s] ++ cap) W fun e w' => e = .returned (.bool false) ∧ Ext W w') :
    Calls Tryz.prog 167 #[.slice A vs.length c, .func (.func F) #[] cap] w fun e w' => e = .returned (.bool false) ∧ Ext w w' := by
  have c1 := ixI_none F hE cap vs hn A c w hr hstep
  clear hr hn hstep hE
  go_enter Tryz.func167, Tryz.ntmps167
  go_wp2_with (go_at_call 235; refine c1.mono ?_; clear c1; rintro e w1 ⟨rfl, x1⟩)
  go_ret
  exact ⟨rfl, x1⟩
theorem may1_enters : Enters Tryz.prog 168 := enters_of Tryz.func168 (by kernel_rfl) rfl
def mayP (d : Nat) : Prop := ∀ (t : It) (v : ItV) (w : World), itOk d t → (itB t).length ≤ 8192 → ItW w w.heap.size t v → KindsW w →
  Calls Tryz.prog 83 #[itV v, .int .i64 (d : Int)] w fun e w' => e = .returned (.bool true) ∧ Ext w w'
set_option maxRecDepth 100000 in
theorem may1_any {d : Nat} (hd : mayP d) (h8 : d ≤ 8) (t : It) (v : ItV) (g : Nat) (w : World) (hok : itOk d t) (hl : (itB t).length ≤ 8192) (hw : ItW w w.heap.size t v) (hk : KindsW w) (hg : w.cell? ⟨g, 0, none⟩ = some (.int .i64 ((d + 1 : Nat) : Int))) :
    Calls Tryz.prog 168 #[itV v, .pointer (some ⟨g, 0, none⟩)] w fun e w' => e = .returned (.bool false) ∧ Ext w w' := by
  obtain ⟨W0, e0⟩ : ∃ W, w.alloc (.cells #[.int .i64 (v.tag : Int), .slice v.A v.n v.c, .slice v.A2 v.n2 v.c2] 77) = W := ⟨_, rfl⟩
  have b0 : Blk W0 w.heap.size 77 #[.int .i64 (v.tag : Int), .slice v.A v.n v.c, .slice v.A2 v.n2 v.c2] := by rw [← e0]; exact Blk.new _ _ _
  have x0 : Ext w W0 := by rw [← e0]; exact (Ext.refl w).alloc _
  have c1 := hd t v W0 hok hl (hw.ext x0) (hk.ext x0)
  have y0 := b0.cell 0
  have y1 := b0.cell 1
  have y2 := b0.cell 2
  have y3 := x0.cell hg
  have e1 : ((d + 1 : Nat) : Int) - 1 = (d : Int) := by omega
  have hdi : (d : Int) ≤ 8 := by omega
  unfold itV at c1 ⊢
  have HX := Lib.hid x0
  clear hd hok hl hw hk hg b0 x0 h8
  go_enter Tryz.func168, Tryz.ntmps168
  go_upto_region 1 with (fail)
  try rw [e0]
  clear e0
  go_wp2_with (go_at_call 83; refine c1.mono ?_; clear c1; rintro e w1 ⟨rfl, x1⟩)
  go_ret
  exact ⟨rfl, HX.out.trans x1⟩
theorem kind1_r (b : List Nat) (h : b = [0] ∨ b = [255]) (A : Option Addr) (c B : Nat) (w : World) (hr : Reads w B 1 A b.length (bv b)) :
    Calls Tryz.prog 366 #[.slice A b.length c] w fun e w' => e = .returned (.bool true) ∧ w = w' := by
  rcases h with rfl | rfl
  · exact kind1_any 0 (.inl rfl) A c B w hr
  · exact kind1_any 255 (.inr rfl) A c B w hr
set_option maxRecDepth 100000 in
set_option maxHeartbeats 4000000 in
theorem may_1 (d : Nat) (h1 : 1 ≤ d) (b : List Nat) (ho : b = [0] ∨ b = [255]) (A : Option Addr) (c c2 : Nat) (w : World) (hk : KindsW w) (hr : Reads w w.heap.size 1 A b.length (bv b)) :
    Calls Tryz.prog 83 #[.agg #[.int .i64 1, .slice A b.length c, .slice none 0 c2], .int .i64 (d : Int)] w fun e w' => e = .returned (.bool true) ∧ Ext w w' := by
  obtain ⟨W0, e0, b0, b1, x0⟩ := boxes2 w #[.int .i64 1, .slice A b.length c, .slice none 0 c2] #[.int .i64 (d : Int)] 77 3
  have c1 := find_1 W0 (hk.ext x0)
  have HB0 := Lib.hid b0
  have HB1 := Lib.hid b1
  have HX0 := Lib.hid x0
  have HR := Lib.hid hr
  have HO := Lib.hid ho
  clear ho
  have hd1 : ¬ (d : Int) < 1 := by omega
  have y0 := b0.cell 0
  clear b0 b1 x0 hk hr h1
  go_enter Tryz.func83, Tryz.ntmps83
  go_upto_region 1 with (fail)
  try rw [e0]
  clear e0
  go_upto_region 2 with (go_at_call 165; refine c1.mono ?_; clear c1; rintro e w1 ⟨rfl, x1⟩; clear y0)
  obtain ⟨W2, e2⟩ : ∃ W, w1.alloc (.cells #[.int .i64 1, .func (.func 366) #[] #[]] 253) = W := ⟨_, rfl⟩
  have x2 : Ext W0 W2 := by rw [← e2]; exact x1.alloc _
  have b2 : Blk W2 w1.heap.size 253 #[.int .i64 1, .func (.func 366) #[] #[]] := by rw [← e2]; exact Blk.new _ _ _
  try rw [e2]
  have z0 := ext_blk x2 HB0.out
  have z1 := ext_blk x2 HB1.out
  have y0 := z0.cell 0
  have y1 := z0.cell 1
  have y2 := z0.cell 2
  have y3 := z1.cell 0
  have v0 := b2.cell 0
  have v1 := b2.cell 1
  have hrW := ((HR.out.below (HX0.out.trans x2).out).more (HX0.out.trans x2).size)
  have c3 := kind1_r b HO.out A c _ W2 hrW
  have cC : Calls Tryz.prog 167 #[.slice none 0 c2, .func (.func 168) #[] #[.pointer (some ⟨w.heap.size + 1, 0, none⟩)]] W2 fun e w' => e = .returned (.bool false) ∧ Ext W2 w' := conI_none 168 may1_enters _ [] (by decide) none c2 W2 Reads.none_ (fun W s hs => absurd hs (by simp))
  have HX2 := Lib.hid x2
  clear e2 x2 b2 z0 z1 x1 hrW
  go_wp2_with (first | (go_at_call 366; refine c3.mono ?_; clear c3; rintro e w3 ⟨rfl, rfl⟩) | (go_at_call 167; refine cC.mono ?_; clear cC; rintro e w3 ⟨rfl, x3⟩))
  go_ret
  exact ⟨rfl, HX0.out.trans (HX2.out.trans x3)⟩
set_option maxRecDepth 100000 in
set_option maxHeartbeats 4000000 in
theorem may_2 (d : Nat) (h1 : 1 ≤ d) (b : List Nat) (ho : (∀ x ∈ b, x < 256) ∧ b.length ≤ 100000 ∧ leastF b = true) (A : Option Addr) (c c2 : Nat) (w : World) (hk : KindsW w) (hr : Reads w w.heap.size 1 A b.length (bv b)) :
    Calls Tryz.prog 83 #[.agg #[.int .i64 2, .slice A b.length c, .slice none 0 c2], .int .i64 (d : Int)] w fun e w' => e = .returned (.bool true) ∧ Ext w w' := by
  obtain ⟨W0, e0, b0, b1, x0⟩ := boxes2 w #[.int .i64 2, .slice A b.length c, .slice none 0 c2] #[.int .i64 (d : Int)] 77 3
  have c1 := find_2 W0 (hk.ext x0)
  have HB0 := Lib.hid b0
  have HB1 := Lib.hid b1
  have HX0 := Lib.hid x0
  have HR := Lib.hid hr
  have HO := Lib.hid ho
  clear ho
  have hd1 : ¬ (d : Int) < 1 := by omega
  have y0 := b0.cell 0
  clear b0 b1 x0 hk hr h1
  go_enter Tryz.func83, Tryz.ntmps83
  go_upto_region 1 with (fail)
  try rw [e0]
  clear e0
  go_upto_region 2 with (go_at_call 165; refine c1.mono ?_; clear c1; rintro e w1 ⟨rfl, x1⟩; clear y0)
  obtain ⟨W2, e2⟩ : ∃ W, w1.alloc (.cells #[.int .i64 2, .func (.func 110) #[] #[]] 253) = W := ⟨_, rfl⟩
  have x2 : Ext W0 W2 := by rw [← e2]; exact x1.alloc _
  have b2 : Blk W2 w1.heap.size 253 #[.int .i64 2, .func (.func 110) #[] #[]] := by rw [← e2]; exact Blk.new _ _ _
  try rw [e2]
  have z0 := ext_blk x2 HB0.out
  have z1 := ext_blk x2 HB1.out
  have y0 := z0.cell 0
  have y1 := z0.cell 1
  have y2 := z0.cell 2
  have y3 := z1.cell 0
  have v0 := b2.cell 0
  have v1 := b2.cell 1
  have hrW := ((HR.out.below (HX0.out.trans x2).out).more (HX0.out.trans x2).size)
  have c3 := least_any b HO.out.1 HO.out.2.1 A c _ W2 hrW
  rw [HO.out.2.2] at c3
  have cC : Calls Tryz.prog 167 #[.slice none 0 c2, .func (.func 168) #[] #[.pointer (some ⟨w.heap.size + 1, 0, none⟩)]] W2 fun e w' => e = .returned (.bool false) ∧ Ext W2 w' := conI_none 168 may1_enters _ [] (by decide) none c2 W2 Reads.none_ (fun W s hs => absurd hs (by simp))
  have HX2 := Lib.hid x2
  clear e2 x2 b2 z0 z1 x1 hrW
  go_wp2_with (first | (go_at_call 110; refine c3.mono ?_; clear c3; rintro e w3 ⟨rfl, rfl⟩) | (go_at_call 167; refine cC.mono ?_; clear cC; rintro e w3 ⟨rfl, x3⟩))
  go_ret
  exact ⟨rfl, HX0.out.trans (HX2.out.trans x3)⟩
set_option maxRecDepth 100000 in
set_option maxHeartbeats 4000000 in
theorem may_12 (d : Nat) (h1 : 1 ≤ d) (b : List Nat) (ho : b.length ≤ 100000 ∧ ∀ x ∈ b, 32 ≤ x ∧ x ≤ 126) (A : Option Addr) (c c2 : Nat) (w : World) (hk : KindsW w) (hr : Reads w w.heap.size 1 A b.length (bv b)) :
    Calls Tryz.prog 83 #[.agg #[.int .i64 12, .slice A b.length c, .slice none 0 c2], .int .i64 (d : Int)] w fun e w' => e = .returned (.bool true) ∧ Ext w w' := by
  obtain ⟨W0, e0, b0, b1, x0⟩ := boxes2 w #[.int .i64 12, .slice A b.length c, .slice none 0 c2] #[.int .i64 (d : Int)] 77 3
  have c1 := find_12 W0 (hk.ext x0)
  have HB0 := Lib.hid b0
  have HB1 := Lib.hid b1
  have HX0 := Lib.hid x0
  have HR := Lib.hid hr
  have HO := Lib.hid ho
  clear ho
  have hd1 : ¬ (d : Int) < 1 := by omega
  have y0 := b0.cell 0
  clear b0 b1 x0 hk hr h1
  go_enter Tryz.func83, Tryz.ntmps83
  go_upto_region 1 with (fail)
  try rw [e0]
  clear e0
  go_upto_region 2 with (go_at_call 165; refine c1.mono ?_; clear c1; rintro e w1 ⟨rfl, x1⟩; clear y0)
  obtain ⟨W2, e2⟩ : ∃ W, w1.alloc (.cells #[.int .i64 12, .func (.func 368) #[] #[]] 253) = W := ⟨_, rfl⟩
  have x2 : Ext W0 W2 := by rw [← e2]; exact x1.alloc _
  have b2 : Blk W2 w1.heap.size 253 #[.int .i64 12, .func (.func 368) #[] #[]] := by rw [← e2]; exact Blk.new _ _ _
  try rw [e2]
  have z0 := ext_blk x2 HB0.out
  have z1 := ext_blk x2 HB1.out
  have y0 := z0.cell 0
  have y1 := z0.cell 1
  have y2 := z0.cell 2
  have y3 := z1.cell 0
  have v0 := b2.cell 0
  have v1 := b2.cell 1
  have hrW := ((HR.out.below (HX0.out.trans x2).out).more (HX0.out.trans x2).size)
  have c3 := kind3_any b HO.out.1 HO.out.2 A c _ W2 hrW
  have cC : Calls Tryz.prog 167 #[.slice none 0 c2, .func (.func 168) #[] #[.pointer (some ⟨w.heap.size + 1, 0, none⟩)]] W2 fun e w' => e = .returned (.bool false) ∧ Ext W2 w' := conI_none 168 may1_enters _ [] (by decide) none c2 W2 Reads.none_ (fun W s hs => absurd hs (by simp))
  have HX2 := Lib.hid x2
  clear e2 x2 b2 z0 z1 x1 hrW
  go_wp2_with (first | (go_at_call 368; refine c3.mono ?_; clear c3; rintro e w3 ⟨rfl, rfl⟩) | (go_at_call 167; refine cC.mono ?_; clear cC; rintro e w3 ⟨rfl, x3⟩))
  go_ret
  exact ⟨rfl, HX0.out.trans (HX2.out.trans x3)⟩
set_option maxRecDepth 100000 in
set_option maxHeartbeats 4000000 in
theorem may_48 {d D : Nat} (h1 : 1 ≤ D) (hD : D = d + 1) (hd : mayP d) (h8 : d ≤ 7) (l : List It) (vs : List ItV) (A2 : Option Addr) (c c2 : Nat) (hok : ∀ t ∈ l, itOk d t) (hl : (itsB l).length ≤ 8192) (w : World) (hk : KindsW w) (hr : Reads w w.heap.size 3 A2 vs.length (itsV vs)) (hw : ItsW w w.heap.size l vs) :
    Calls Tryz.prog 83 #[.agg #[.int .i64 48, .slice none 0 c, .slice A2 vs.length c2], .int .i64 (D : Int)] w fun e w' => e = .returned (.bool true) ∧ Ext w w' := by
  obtain ⟨W0, e0, b0, b1, x0⟩ := boxes2 w #[.int .i64 48, .slice none 0 c, .slice A2 vs.length c2] #[.int .i64 (D : Int)] 77 3
  have c1 := find_48 W0 (hk.ext x0)
  have HB0 := Lib.hid b0
  have HB1 := Lib.hid b1
  have HX0 := Lib.hid x0
  have HR := Lib.hid hr
  have HW := Lib.hid hw
  have HOK := Lib.hid hok
  have HD := Lib.hid hd
  have HL := Lib.hid hl
  have HK := Lib.hid hk
  have HVL : Hid (vs.length ≤ 8192) := Lib.hid (by
    have : ∀ l : List It, 2 * l.length ≤ (itsB l).length := by
      intro l
      induction l with
      | nil => simp
      | cons t l ih => rw [itsB_cons, List.length_append, List.length_cons]; have := itB_pos t; omega
    have h2 := this l
    have h3 := hw.len
    omega)
  have HDD := Lib.hid hD
  clear hw hok hd hl hD
  have hd1 : ¬ (D : Int) < 1 := by omega
  have y0 := b0.cell 0
  clear b0 b1 x0 hk hr h1
  go_enter Tryz.func83, Tryz.ntmps83
  go_upto_region 1 with (fail)
  try rw [e0]
  clear e0
  go_upto_region 2 with (go_at_call 165; refine c1.mono ?_; clear c1; rintro e w1 ⟨rfl, x1⟩; clear y0)
  obtain ⟨W2, e2⟩ : ∃ W, w1.alloc (.cells #[.int .i64 48, .func (.func 371) #[] #[]] 253) = W := ⟨_, rfl⟩
  have x2 : Ext W0 W2 := by rw [← e2]; exact x1.alloc _
  have b2 : Blk W2 w1.heap.size 253 #[.int .i64 48, .func (.func 371) #[] #[]] := by rw [← e2]; exact Blk.new _ _ _
  try rw [e2]
  have z0 := ext_blk x2 HB0.out
  have z1 := ext_blk x2 HB1.out
  have y0 := z0.cell 0
  have y1 := z0.cell 1
  have y2 := z0.cell 2
  have y3 := z1.cell 0
  have v0 := b2.cell 0
  have v1 := b2.cell 1
  have hrW := ((HR.out.below (HX0.out.trans x2).out).more (HX0.out.trans x2).size)
  have c3 := kind4_any c W2
  have hVL := HVL.out
  have cC := conI_none 168 may1_enters #[.pointer (some ⟨w.heap.size + 1, 0, none⟩)] vs (by have := HVL.out; omega) A2 c2 W2 hrW (fun W s hs x => by
    obtain ⟨i, hi, rfl⟩ := List.getElem_of_mem hs
    have hil : i < l.length := by rw [← HW.out.len]; exact hi
    obtain ⟨u, hu, hwu⟩ := HW.out.at_ (List.getElem?_eq_getElem hil)
    rw [List.getElem?_eq_getElem hi] at hu
    cases hu
    have hm := List.getElem_mem hil
    have xx := (HX0.out.trans x2).trans x
    exact may1_any HD.out (by omega) l[i] vs[i] (w.heap.size + 1) W (HOK.out _ hm) (Nat.le_trans (part_le hm) HL.out) (hwu.ext xx) (HK.out.ext xx) (by rw [← HDD.out]; exact x.cell y3))
  have HX2 := Lib.hid x2
  clear e2 x2 b2 z0 z1 x1 hrW
  go_wp2_with (first | (go_at_call 371; refine c3.mono ?_; clear c3; rintro e w3 ⟨rfl, rfl⟩) | (go_at_call 167; refine cC.mono ?_; clear cC; rintro e w3 ⟨rfl, x3⟩))
  go_ret
  exact ⟨rfl, HX0.out.trans (HX2.out.trans x3)⟩
theorem may_step {d : Nat} (hd : mayP d) (h8 : d ≤ 7) : mayP (d + 1) := by
  intro t v w hok hl hw hk
  cases t with
  | p tag b =>
    rw [ItW_p] at hw
    obtain ⟨h1, h2, h3, h4, h5, h6, h7⟩ := hw
    have hbl : b.length ≤ 100000 := by rw [itB_p, List.length_append] at hl; omega
    unfold itV
    rw [h1, h2, h5, h6, h7]
    rcases hok.2 with ⟨rfl, ho⟩ | ⟨rfl, ho⟩ | ⟨rfl, ho⟩
    · exact may_1 (d + 1) (by omega) b ho v.A v.c 0 w hk h4
    · exact may_2 (d + 1) (by omega) b ⟨hok.1, hbl, ho⟩ v.A v.c 0 w hk h4
    · exact may_12 (d + 1) (by omega) b ⟨hbl, ho⟩ v.A v.c 0 w hk h4
  | s l =>
    rw [ItW_s] at hw
    obtain ⟨h1, h2, h3, h4, h5, h6, vs, h7, h8'⟩ := hw
    unfold itV
    rw [h1, h2, h3, h4, h5, ← h8'.len]
    rw [← h8'.len] at h7
    exact may_48 (by omega) rfl hd h8 l vs v.A2 0 v.c2 hok (by have : (itN (.s l)).length ≤ _ := itN_le (.s l); exact Nat.le_trans this hl) w hk h7 h8'
theorem may_all : ∀ d : Nat, d ≤ 8 → mayP d
  | 0, _ => fun t v w h => h.elim
  | d + 1, h => may_step (may_all d (by omega)) (by omega)
end Go.Proofs.YtfpmfegmehbfbaaGreatDoor
