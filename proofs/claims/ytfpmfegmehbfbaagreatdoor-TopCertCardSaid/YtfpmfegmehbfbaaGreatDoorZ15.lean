/- Parts of the proofs, put together: Nm, CtN, CtD1, CtD2, Or7, Or8, Or10, Or11, Or12, Or13, Or14, Or15, Or16, Or17, Or18, Or19, Or20, Or21, Or22, Or23, Or24, Or25, Or26, Or27, Smv. -/
import Derived.LoopNIn
import Derived.Laws.BitsLemmas
import Derived.Lib.SliceRun
import Derived.Deep.DeepCutAuto
import Derived.Test.YtfpmfegmehbfbaaGreatDoorZ2
import Derived.Test.YtfpmfegmehbfbaaGreatDoorZ4
import Derived.Test.YtfpmfegmehbfbaaGreatDoorZ12
import Derived.Test.YtfpmfegmehbfbaaGreatDoorZ13
import Derived.Test.YtfpmfegmehbfbaaGreatDoorZ18
import Derived.Test.YtfpmfegmehbfbaaGreatDoorZ19
import Derived.Test.YtfpmfegmehbfbaaGreatDoorZ20
/- Names, walked: patterns, what is above a name, what a pattern matches. -/
namespace Go.Proofs.YtfpmfegmehbfbaaGreatDoor
set_option linter.unusedVariables false
set_option linter.unusedSimpArgs false
open Go.RowKit Go.Shelf
attribute [local go_sem] Oper.semAt_some

/-- What stands behind the first dot. -/
def aftF (s : ByteArray) : ByteArray := if 0 ≤ Lib.indexByte s.data.toList 46 then s.extract ((Lib.indexByte s.data.toList 46).toNat + 1) s.size else ⟨#[]⟩
theorem aft_no {s : ByteArray} (h : Lib.indexByte s.data.toList 46 = -1) : aftF s = ⟨#[]⟩ := by unfold aftF; rw [h]; rfl
theorem aft_at {s : ByteArray} {o : Nat} (h : Lib.indexByte s.data.toList 46 = o) : aftF s = s.extract (o + 1) s.size := by unfold aftF; rw [h, if_pos (by omega)]; rfl
theorem aft_size (s : ByteArray) : (aftF s).size = 0 ∨ (aftF s).size < s.size := by
  unfold aftF
  split
  · rw [ByteArray.size_extract]; omega
  · exact .inl rfl
set_option maxHeartbeats 1000000 in
theorem liteCut_any (s : ByteArray) (hs : s.size ≤ 140737488355328) (w : World) : Calls Tryz.prog 324 #[.string s, .string ⟨#[46]⟩] w fun e w' => (∃ a b, e = .returned (.tuple #[.string a, .string (aftF s), .bool b])) ∧ Ext w w' := by
  have c1 := fun w => (Tryz.stringslite_Index_one s 46 w).mono fun e w' (h : _ ∧ _) => (⟨h.1, h.2.symm⟩ : _ ∧ _)
  have hge := Lib.indexByte_ge s.data.toList 46
  by_cases hno : Lib.indexByte s.data.toList 46 = -1
  · rw [aft_no hno]
    rw [hno] at c1
    clear hno hge
    go_enter Tryz.func324, Tryz.ntmps324
    go_wp2_with (go_at_call 322; refine (c1 _).mono ?_; clear c1; rintro e w' ⟨rfl, rfl⟩)
    go_ret3
    exact ⟨⟨_, _, rfl⟩, Ext.refl w⟩
  · obtain ⟨o, ho⟩ : ∃ o : Nat, Lib.indexByte s.data.toList 46 = o := ⟨(Lib.indexByte s.data.toList 46).toNat, by omega⟩
    have hlt := (cuts_idx_at ho).1
    rw [aft_at ho]
    rw [ho] at c1
    have h1 : (o : Int) + 1 ≤ s.size := by omega
    have h2 : (o : Int) ≤ s.size := by omega
    clear hno hge ho
    go_enter Tryz.func324, Tryz.ntmps324
    go_wp2_with (go_at_call 322; refine (c1 _).mono ?_; clear c1; rintro e w' ⟨rfl, rfl⟩)
    go_region
    go_wp2
    go_ret3
    exact ⟨⟨_, _, rfl⟩, Ext.of (Below.refl _ w).drew⟩
theorem Cut_any (s : ByteArray) (hs : s.size ≤ 140737488355328) (w : World) : Calls Tryz.prog 302 #[.string s, .string ⟨#[46]⟩] w fun e w' => (∃ a b, e = .returned (.tuple #[.string a, .string (aftF s), .bool b])) ∧ Ext w w' := by
  have c1 := liteCut_any s hs
  go_enter Tryz.func302, Tryz.ntmps302
  go_wp2_with (go_at_call 324; refine (c1 _).mono ?_; clear c1; rintro e w1 ⟨⟨a, b, rfl⟩, x1⟩)
  go_ret3
  exact ⟨⟨_, _, rfl⟩, x1⟩
/-- What is above a name. -/
def upF (s : ByteArray) : ByteArray := if namP s then aftF s else ⟨#[]⟩
theorem up_size (s : ByteArray) : (upF s).size = 0 ∨ (upF s).size < s.size := by
  unfold upF
  split
  · exact aft_size s
  · exact .inl rfl
theorem Up_any (s : ByteArray) (hs : s.size ≤ 140737488355328) (w : World) : Calls Tryz.prog 262 #[.string s] w fun e w' => e = .returned (.string (upF s)) ∧ Ext w w' := by
  have c1 := is_any s hs
  have c2 := Cut_any s hs
  unfold upF
  by_cases hn : namP s
  · rw [decide_eq_true hn] at c1
    rw [if_pos hn]
    go_enter Tryz.func262, Tryz.ntmps262
    go_wp2_with (first | (go_at_call 120; refine (c1 _).mono ?_; clear c1; rintro e w1 ⟨rfl, x1⟩) | (go_at_call 302; refine (c2 _).mono ?_; clear c2; rintro e w2 ⟨⟨a, b, rfl⟩, x2⟩))
    go_ret
    exact ⟨rfl, x1.trans x2⟩
  · rw [decide_eq_false hn] at c1
    rw [if_neg hn]
    go_enter Tryz.func262, Tryz.ntmps262
    go_wp2_with (go_at_call 120; refine (c1 _).mono ?_; clear c1; rintro e w1 ⟨rfl, x1⟩)
    go_ret
    exact ⟨rfl, x1⟩
/-- All names above one. -/
def abvF (s : ByteArray) : List ByteArray := if h : (upF s).size = 0 then [] else upF s :: abvF (upF s)
termination_by s.size
decreasing_by have := up_size s; omega
theorem grown_extN {W W' : World} (h : Ext W W') : W.grownBy W' none := by
  obtain ⟨a, b, c, d, e⟩ := h.out
  exact ⟨a, b, c, d, fun k hk _ => e k hk⟩
set_option maxRecDepth 100000 in
set_option maxHeartbeats 4000000 in
theorem above1_in (n : Nat) (hn : 1 ≤ n) (l bs B : Nat) (hs : bs < B) (T : ByteArray) (hT : T.size ≤ 140737488355328) (J Jx : List ByteArray → World → Prop) (hJ : AbB bs J)
    (hY : ∀ pre x X, J pre X → YieldAt Fence.wide (n - 1) Tryz.prog l #[.string x] X fun e Y => (e = .returned (.bool true) ∧ J (pre ++ [x]) Y ∧ Below B X Y) ∨ (e = .returned (.bool false) ∧ Jx (pre ++ [x]) Y))
    (W : World) (fs : W.frozen? ⟨bs, 0, none⟩ = false) (cs : W.cell? ⟨bs, 0, none⟩ = some (.string T)) (h0 : J [] W) :
    CallsIn Fence.wide n Tryz.prog 261 #[.func (.yield l) #[] #[], .pointer (some ⟨bs, 0, none⟩)] W fun e Y => (∃ v, e = .returned v) ∧
      ((∃ xs : List ByteArray, xs = abvF T ∧ J xs Y) ∨ (∃ pre : List ByteArray, pre <+: abvF T ∧ Jx pre Y)) := by
  have c0 : ∀ m s w, s.size ≤ 140737488355328 → CallsIn Fence.wide m Tryz.prog 262 #[.string s] w fun e w' => e = .returned (.string (upF s)) ∧ Ext w w' := fun m s w h => callsIn_wide.2 (Up_any s h w)
  refine callsIn_of_wp Tryz.func261 rfl trivial ?_ rfl
  simp only [Tryz.ntmps261, List.size_toArray, List.length_cons, List.length_nil, Nat.reduceAdd, Nat.reduceSub, Array.replicate_succ, Array.replicate_zero, List.push_toArray, List.append_toArray, List.nil_append, List.cons_append]
  gi_wp2_with (refine ⟨trivial, ?_⟩; gi_at_call 262; refine (c0 _ _ _ hT).mono ?_; rintro e w' ⟨rfl, x1⟩; have d1 := x1.cell cs; have d2 := (x1.frozen cs).trans fs)
  have hu := up_size T
  gi_loopw [5] (fun i wr => ∃ (pre : List ByteArray) (cur : ByteArray), J pre wr ∧ wr.cell? ⟨bs, 0, none⟩ = some (.string cur) ∧ wr.frozen? ⟨bs, 0, none⟩ = false ∧
      abvF T = pre ++ (if cur.size = 0 then [] else cur :: abvF cur) ∧ cur.size ≤ T.size)
    (fun i wr => boxLen wr bs)
  case atStart =>
    refine ⟨[], upF T, hJ _ _ _ _ (hJ _ _ _ none h0 (grown_extN x1) (fun r e => by cases e)) (grownBy_setCell' _ bs _) (fun r e => by cases e; rfl), World.cell?_setCell_same' _ _ _ (by rw [d1]; rfl), by rw [World.frozen?_setCell]; exact d2, ?_, by omega⟩
    rw [abvF]
    simp only [List.nil_append]
    split <;> rfl
  case round =>
    obtain ⟨pre, cur, hJs, ds, df, hc, hl⟩ := hrel
    by_cases hz : cur.size = 0
    · have hE : cur.toList.isEmpty = true := by
        rw [ByteArray.toList_eq]
        have : cur.data.toList.length = 0 := by rw [Array.length_toList]; exact hz
        rw [List.length_eq_zero_iff.1 this]; rfl
      have hE2 : cur.toList = [] := List.isEmpty_iff.1 hE
      rw [if_pos hz] at hc
      clear hz
      gi_wp2
      refine ⟨by simp, ?_⟩
      gi_wp2
      go_end0
      exact ⟨⟨_, rfl⟩, .inl ⟨_, by rw [hc]; simp, hJs⟩⟩
    · have hE : cur.toList.isEmpty = false := by
        rw [ByteArray.toList_eq]
        cases hl : cur.data.toList with
        | nil => exact absurd (by rw [← Array.length_toList, hl]; rfl : cur.data.size = 0) hz
        | cons _ _ => rfl
      have hE2 : ¬ cur.toList = [] := fun h => by rw [h] at hE; cases hE
      rw [if_neg hz] at hc
      have hu := up_size cur
      obtain ⟨fn, tmps, assign, body, hy, hR⟩ := hY pre cur wr hJs
      gi_wp2
      refine hR.mono ?_
      clear hR
      rintro e Y (⟨rfl, hJ1, hb1⟩ | ⟨rfl, hJ1⟩)
      · have es : Y.cell? ⟨bs, 0, none⟩ = some (.string cur) := (Below.cell hb1 (p := ⟨bs, 0, none⟩) hs).trans ds
        have ef : Y.frozen? ⟨bs, 0, none⟩ = false := (World.frozen?_of_block (hb1.block bs hs)).trans df
        have hm := boxLen_eq ds
        clear ds df
        gi_wp2_with (refine ⟨trivial, ?_⟩; gi_at_call 262; refine (c0 _ _ _ (by omega)).mono ?_; rintro e w2 ⟨rfl, x2⟩; have d1 := x2.cell es; have d2 := (x2.frozen es).trans ef)
        go_roundw
        case rel =>
          refine ⟨pre ++ [cur], upF cur, hJ _ _ _ _ (hJ _ _ _ none hJ1 (grown_extN x2) (fun r e => by cases e)) (grownBy_setCell' _ bs _) (fun r e => by cases e; rfl), World.cell?_setCell_same' _ _ _ (by rw [d1]; rfl), by rw [World.frozen?_setCell]; exact d2, ?_, by omega⟩
          rw [hc, abvF]
          split <;> simp
        case measure =>
          rw [hm, boxLen_eq (World.cell?_setCell_same' _ _ _ (by rw [d1]; rfl))]
          omega
      · gi_wp2
        first | (refine bodyPost_ret (results_none rfl _ _ _) rfl ?_) | go_end0
        exact ⟨⟨_, rfl⟩, .inr ⟨_, by rw [hc]; exact ⟨abvF cur, by simp⟩, hJ1⟩⟩
theorem above_any (s : ByteArray) (w : World) : Calls Tryz.prog 214 #[.string s] w fun e w' =>
    e = .returned (.func (.func 261) #[] #[.pointer (some ⟨w.heap.size, 0, none⟩)]) ∧ w.alloc (.cells #[.string s] 9) = w' := by
  go_enter Tryz.func214, Tryz.ntmps214
  go_wp2
  go_ret
  exact ⟨rfl, rfl⟩
set_option maxRecDepth 100000 in
set_option maxHeartbeats 4000000 in
theorem below_any (s o : ByteArray) (hs : s.size ≤ 140737488355328) (w : World) :
    Calls Tryz.prog 121 #[.string s, .string o] w fun e w' => e = .returned (.bool ((abvF s).any (fun x => x.toList == o.toList))) ∧ Ext w w' := by
  refine (callsIn_wide (n := 5)).1 ?_
  have c2 : ∀ m w, CallsIn Fence.wide m Tryz.prog 214 #[.string s] w _ := fun m w => callsIn_wide.2 (above_any s w)
  refine callsIn_of_wp_marks Tryz.func121 rfl trivial ?_ rfl
  simp only [Tryz.ntmps121, List.size_toArray, List.length_cons, List.length_nil, Nat.reduceAdd, Nat.reduceSub, Array.replicate_succ, Array.replicate_zero, List.push_toArray, List.append_toArray, List.nil_append, List.cons_append]
  gi_wp2_with (refine ⟨trivial, ?_⟩; gi_at_call 214; refine (c2 _ _).mono ?_; clear c2; rintro e w' ⟨rfl, rfl⟩)
  obtain ⟨s0, hs0⟩ : ∃ s0, s0 = w.heap.size := ⟨_, rfl⟩
  have f0 : (((w.alloc (.cells #[.string o] 9)).alloc (.cells #[.bool false] 4)).alloc (.cells #[.string s] 9)).cell? ⟨s0, 0, none⟩ = some (.string o) ∧ (((w.alloc (.cells #[.string o] 9)).alloc (.cells #[.bool false] 4)).alloc (.cells #[.string s] 9)).cell? ⟨s0 + 1, 0, none⟩ = some (.bool false) ∧ (((w.alloc (.cells #[.string o] 9)).alloc (.cells #[.bool false] 4)).alloc (.cells #[.string s] 9)).frozen? ⟨s0 + 1, 0, none⟩ = false ∧
    (((w.alloc (.cells #[.string o] 9)).alloc (.cells #[.bool false] 4)).alloc (.cells #[.string s] 9)).cell? ⟨s0 + 1 + 1, 0, none⟩ = some (.string s) ∧ (((w.alloc (.cells #[.string o] 9)).alloc (.cells #[.bool false] 4)).alloc (.cells #[.string s] 9)).frozen? ⟨s0 + 1 + 1, 0, none⟩ = false := by
    subst hs0
    refine ⟨?_, ?_, ?_, ?_, ?_⟩ <;> simp [go_sem]
  obtain ⟨W0, hW0⟩ : ∃ W0, (((w.alloc (.cells #[.string o] 9)).alloc (.cells #[.bool false] 4)).alloc (.cells #[.string s] 9)) = W0 := ⟨_, rfl⟩
  have hE : Ext w W0 := by rw [← hW0]; exact (((Ext.refl w).alloc _).alloc _).alloc _
  have hsz : W0.heap.size = s0 + 3 := by rw [← hW0, hs0]; simp
  rw [hW0] at f0 ⊢
  rw [← hs0]
  obtain ⟨d0, d1, z1, d2, z2⟩ := f0
  have hE' : Below s0 w W0 := hs0 ▸ hE
  have Hs0 := Lib.hid hs0
  clear hs0 hW0 hE
  refine wpIn_range_box rfl (by omega) (gf := 261) (lb := #[.pointer (some ⟨s0 + 1 + 1, 0, none⟩)]) rfl trivial (enters_of Tryz.func261 (by kernel_rfl) rfl)
    (en := fun x : ByteArray => #[Value.string x]) (b := s0 + 1 + 1) (by omega) (S := fun xs => xs = abvF s) (Sp := fun pre => pre <+: abvF s)
    (fun l J Jx W hW hJ hJx hY h0 => above1_in 4 (by omega) l (s0 + 1 + 1) W0.heap.size (by omega) s hs J Jx hJ hY W ((World.frozen?_of_block (hW.block _ (by simp; omega))).trans z2) ((hW.cell (p := ⟨s0 + 1 + 1, 0, none⟩) (by simp; omega)).trans d2) h0)
    (fun _ => rfl)
    (fun pre W => W.cell? ⟨s0, 0, none⟩ = some (.string o) ∧ W.cell? ⟨s0 + 1, 0, none⟩ = some (.bool false) ∧ W.frozen? ⟨s0 + 1, 0, none⟩ = false ∧ W0.heap.size ≤ W.heap.size ∧ Below s0 w W ∧ pre.any (fun x => x.toList == o.toList) = false)
    (fun pre W => W.cell? ⟨s0 + 1, 0, none⟩ = some (.bool true) ∧ W0.heap.size ≤ W.heap.size ∧ Below s0 w W ∧ pre.any (fun x => x.toList == o.toList) = true)
    ?hI ?hIx ⟨d0, d1, z1, Nat.le_refl _, hE', by simp⟩
    (fun x => { tmps := #[Value.string s, Value.string o, undef, Value.pointer (some { block := s0, off := 0 }), Value.pointer (some { block := s0 + 1, off := 0 }), Value.string x, Value.string s, Value.func (Fn.func 261) #[] #[Value.pointer (some { block := s0 + 1 + 1, off := 0 })], Value.string x, undef, undef, undef], defers := [] }) ?assign ?body ?done ?stop
  case hI =>
    rintro pre X Y row ⟨i1, i2, i3, i4, i5, i6⟩ hg hr
    have hb : Y.heap[s0]? = X.heap[s0]? := hg.block s0 (by omega) (fun e => by rcases hr _ e.symm with h | ⟨h, _⟩ <;> omega)
    have hb1 : Y.heap[s0 + 1]? = X.heap[s0 + 1]? := hg.block (s0 + 1) (by omega) (fun e => by rcases hr _ e.symm with h | ⟨h, _⟩ <;> omega)
    exact ⟨(World.cell?_of_block (a := ⟨s0, 0, none⟩) hb).trans i1, (World.cell?_of_block (a := ⟨s0 + 1, 0, none⟩) hb1).trans i2, (World.frozen?_of_block (a := ⟨s0 + 1, 0, none⟩) hb1).trans i3, Nat.le_trans i4 hg.size, i5.grown hg (by omega) (fun r e => by rcases hr r e with h | ⟨h, _⟩ <;> omega), i6⟩
  case hIx =>
    rintro pre X Y row ⟨i2, i4, i5, i6⟩ hg hr
    have hb1 : Y.heap[s0 + 1]? = X.heap[s0 + 1]? := hg.block (s0 + 1) (by omega) (fun e => by rcases hr _ e.symm with h | ⟨h, _⟩ <;> omega)
    exact ⟨(World.cell?_of_block (a := ⟨s0 + 1, 0, none⟩) hb1).trans i2, Nat.le_trans i4 hg.size, i5.grown hg (by omega) (fun r e => by rcases hr r e with h | ⟨h, _⟩ <;> omega), i6⟩
  case assign =>
    intro l x W K hK
    gi_wp2
    exact hK
  case body =>
    rintro l pre x W ⟨i1, i2, i3, i4, i5, i6⟩
    cases hxb : (x.toList == o.toList) with
    | true =>
      gi_wp2
      refine ⟨KeepsOthers.setCell _ _ _, World.cell?_setCell_same' _ _ _ (by rw [i2]; rfl), Nat.le_trans i4 (KeepsOthers.setCell _ _ _).size, i5.setCell (p := ⟨s0 + 1, 0, none⟩) (Nat.le_succ _) _, by simp [hxb]⟩
    | false =>
      gi_wp2
      exact ⟨KeepsOthers.refl _, Below.refl _ _, i1, i2, i3, i4, i5, by rw [List.any_append, i6]; simp [hxb]⟩
  case done =>
    rintro D ys W hD rfl ⟨i1, i2, i3, i4, i5, i6⟩ hK
    have hno : (abvF s).any (fun x => x.toList == o.toList) = false := i6
    have j1 : (W.setCell ⟨s0 + 1, 0, none⟩ (.bool false)).cell? ⟨s0 + 1, 0, none⟩ = some (.bool false) := World.cell?_setCell_same' _ _ _ (by rw [i2]; rfl)
    have hK' : (W.setCell ⟨s0 + 1, 0, none⟩ (.bool false)).heap[D]? = some (.deferred (some [])) := (KeepsOthers.setCell _ _ _).same D _ hK rfl
    gi_wp2
    refine ⟨by simp, .inl ⟨_, _, rfl, run_takeDeferred hK', ?_⟩⟩
    have j2 : ((W.setCell ⟨s0 + 1, 0, none⟩ (.bool false)).putObj D (.deferred none)).cell? ⟨s0 + 1, 0, none⟩ = some (.bool false) := (World.cell?_of_block (World.putObj_heap_other (by simp; omega))).trans j1
    refine ⟨.bool false, by simp [results, Tryz.results121, go_sem, j2], ret_bool hno.symm, ?_⟩
    exact Ext.of (Hs0.out ▸ (i5.setCell (p := ⟨s0 + 1, 0, none⟩) (Nat.le_succ _) _).trans (belowK_b (n₀ := s0) (w := w) (by rw [Hs0.out]; exact Nat.le_refl _) _ D _ _ (by rw [hsz, Hs0.out] at hD; omega) hK' rfl rfl))
  case stop =>
    rintro D pre W hD hS ⟨i2, i4, i5, i6⟩ hK
    have hyes : (abvF s).any (fun x => x.toList == o.toList) = true := by obtain ⟨r, hr⟩ := hS; rw [← hr, List.any_append, i6]; rfl
    gi_wp2
    refine ⟨by simp, .inl ⟨_, _, rfl, run_takeDeferred hK, ?_⟩⟩
    have j2 : (W.putObj D (.deferred none)).cell? ⟨s0 + 1, 0, none⟩ = some (.bool true) := (World.cell?_of_block (World.putObj_heap_other (by simp; omega))).trans i2
    refine ⟨.bool true, by simp [results, Tryz.results121, go_sem, j2], ret_bool hyes.symm, ?_⟩
    exact Ext.of (Hs0.out ▸ i5.trans (belowK_b (n₀ := s0) (w := w) (by rw [Hs0.out]; exact Nat.le_refl _) _ D _ _ (by rw [hsz, Hs0.out] at hD; omega) hK rfl rfl))
/-- What a pattern is of, whether it is a star, whether it is a pattern. -/
def patF (s : ByteArray) : ByteArray × Bool × Bool :=
  if namP s then (s, false, true)
  else (⟨(Lib.trimPrefix s.data.toList [42, 46]).toArray⟩, Lib.hasPrefix s.data.toList [42, 46], Lib.hasPrefix s.data.toList [42, 46] && decide (nameQ 7 62 ⟨(Lib.trimPrefix s.data.toList [42, 46]).toArray⟩))
theorem trimP_le (s : ByteArray) (l : List UInt8) : (⟨(Lib.trimPrefix s.data.toList l).toArray⟩ : ByteArray).size ≤ s.size := by
  have e : s.data.toList.length = s.size := Array.length_toList
  unfold Lib.trimPrefix
  split
  · show ((s.data.toList.drop l.length).toArray).size ≤ s.size
    rw [List.size_toArray, List.length_drop]; omega
  · show (s.data.toList.toArray).size ≤ s.size
    rw [List.size_toArray]; omega
theorem pattern_any (s : ByteArray) (hs : s.size ≤ 140737488355328) (w : World) :
    Calls Tryz.prog 119 #[.string s] w fun e w' => e = .returned (.tuple #[.string (patF s).1, .bool (patF s).2.1, .bool (patF s).2.2]) ∧ Ext w w' := by
  have c1 := is_any s hs
  have c2 := fun w => (Tryz.strings_CutPrefix s ⟨#[42, 46]⟩ w).mono fun e w' (h : _ ∧ _) => (⟨h.1, h.2.symm⟩ : _ ∧ _)
  have hsz := trimP_le s [42, 46]
  unfold patF
  by_cases hn : namP s
  · rw [decide_eq_true hn] at c1
    rw [if_pos hn]
    clear c2 hsz
    go_enter Tryz.func119, Tryz.ntmps119
    go_wp2_with (go_at_call 120; refine (c1 _).mono ?_; clear c1; rintro e w1 ⟨rfl, x1⟩)
    go_ret3
    exact ⟨rfl, x1⟩
  · rw [decide_eq_false hn] at c1
    rw [if_neg hn]
    dsimp only at c2 ⊢
    generalize hT : (⟨(Lib.trimPrefix s.data.toList [42, 46]).toArray⟩ : ByteArray) = T at c2 hsz ⊢
    have c3 := name_any T (by omega) 7 62
    cases hp : Lib.hasPrefix s.data.toList [42, 46] with
    | true =>
      rw [hp] at c2
      clear hp hT
      go_enter Tryz.func119, Tryz.ntmps119
      go_wp2_with (first | (go_at_call 120; refine (c1 _).mono ?_; clear c1; rintro e w1 ⟨rfl, x1⟩) | (go_at_call 212; refine (c2 _).mono ?_; clear c2; rintro e w2 ⟨rfl, rfl⟩) | (go_at_call 213; refine (c3 _).mono ?_; clear c3; rintro e w3 ⟨rfl, x3⟩))
      go_ret3
      exact ⟨by simp, x1.trans x3⟩
    | false =>
      rw [hp] at c2
      clear hp hT
      go_enter Tryz.func119, Tryz.ntmps119
      go_wp2_with (first | (go_at_call 120; refine (c1 _).mono ?_; clear c1; rintro e w1 ⟨rfl, x1⟩) | (go_at_call 212; refine (c2 _).mono ?_; clear c2; rintro e w2 ⟨rfl, rfl⟩))
      go_ret3
      exact ⟨by simp, x1⟩
theorem Pattern_any (s : ByteArray) (hs : s.size ≤ 140737488355328) (w : World) :
    Calls Tryz.prog 207 #[.string s] w fun e w' => e = .returned (.int .i64 (if (patF s).2.2 = true then 0 else 110)) ∧ Ext w w' := by
  have c1 := pattern_any s hs
  have c2 := told_any (patF s).2.2
  generalize (patF s).2.2 = b at c1 c2 ⊢
  generalize (patF s).1 = o at c1
  generalize (patF s).2.1 = st at c1
  cases b <;> simp only [Bool.false_eq_true, if_false, if_true] at c2 ⊢
  all_goals
   go_enter Tryz.func207, Tryz.ntmps207
   go_wp2_with (first | (go_at_call 119; refine (c1 _).mono ?_; clear c1; rintro e w1 ⟨rfl, x1⟩) | (go_at_call 252; refine (c2 _).mono ?_; clear c2; rintro e w1 ⟨rfl, rfl⟩))
   go_ret
   exact ⟨rfl, x1⟩
/-- Does a pattern match a name? -/
def mchF (p s : ByteArray) : Bool := (patF p).2.2 && decide (namP s) && (if (patF p).2.1 = true then (abvF s).any (fun x => x.toList == (patF p).1.toList) else (patF p).1.toList == s.toList)
theorem Match_any (p s : ByteArray) (hp : p.size ≤ 140737488355328) (hs : s.size ≤ 140737488355328) (w : World) :
    Calls Tryz.prog 45 #[.string p, .string s] w fun e w' => e = .returned (.bool (mchF p s)) ∧ Ext w w' := by
  have c1 := pattern_any p hp
  have c2 := is_any s hs
  have c3 := below_any s (patF p).1 hs
  unfold mchF
  generalize (patF p).1 = o at c1 c3 ⊢
  generalize (patF p).2.1 = st at c1 ⊢
  generalize (patF p).2.2 = ok at c1 ⊢
  generalize decide (namP s) = nm at c2 ⊢
  generalize (abvF s).any (fun x => x.toList == o.toList) = r at c3 ⊢
  cases ok <;> cases nm <;> cases st
  all_goals
    go_enter Tryz.func45, Tryz.ntmps45
    go_wp2_with (first | (go_at_call 119; refine (c1 _).mono ?_; clear c1; rintro e w1 ⟨rfl, x1⟩) | (go_at_call 120; refine (c2 _).mono ?_; clear c2; rintro e w2 ⟨rfl, x2⟩) | (go_at_call 121; refine (c3 _).mono ?_; clear c3; rintro e w3 ⟨rfl, x3⟩))
    go_ret
    exact ⟨by simp, by first | exact x1 | exact x1.trans x2 | exact (x1.trans x2).trans x3⟩
end Go.Proofs.YtfpmfegmehbfbaaGreatDoor

/- Names and patterns can be put. -/
namespace Go.Proofs.YtfpmfegmehbfbaaGreatDoor
set_option linter.unusedVariables false
set_option linter.unusedSimpArgs false
open Go.RowKit Go.Shelf

theorem pat_put {s : ByteArray} (h : (patF s).2.2 = true) : putC s := by
  unfold patF at h
  split at h
  · next hn => exact nam_put hn
  · simp only [Bool.and_eq_true, decide_eq_true_eq] at h
    obtain ⟨hp, hq⟩ := h
    obtain ⟨r, hr⟩ : ∃ r, [42, 46] ++ r = s.data.toList := List.isPrefixOf_iff_prefix.1 hp
    have ht : Lib.trimPrefix s.data.toList [42, 46] = r := by
      unfold Lib.trimPrefix
      rw [if_pos hp, ← hr]
      rfl
    rw [ht] at hq
    obtain ⟨q1, -, q3⟩ := hq
    have e1 : txN s = 42 :: 46 :: txN ⟨r.toArray⟩ := by
      unfold txN
      rw [← hr]
      simp
    have e2 : (⟨r.toArray⟩ : ByteArray).size = r.length := by
      show r.toArray.size = r.length
      simp
    have e3 : (txN s).length = r.length + 2 := by
      rw [e1, List.length_cons, List.length_cons, txN_lenC, e2]
    refine ⟨?_, fun x hx => ?_⟩
    · rw [← txN_lenC, e3]
      rw [e2] at q1
      omega
    · rw [e1] at hx
      rcases List.mem_cons.1 hx with rfl | hx
      · decide
      · rcases List.mem_cons.1 hx with rfl | hx
        · decide
        · exact cuts_byte q3 x hx
end Go.Proofs.YtfpmfegmehbfbaaGreatDoor

/- Items, walked: what bytes may be. -/
namespace Go.Proofs.YtfpmfegmehbfbaaGreatDoor
set_option linter.unusedVariables false
set_option linter.unusedSimpArgs false
set_option linter.unusedSimpArgs false
open Go.RowKit Go.Shelf

theorem bne_lit (x k : Nat) : ((x : Int) != (k : Int)) = (x != k) := by
  rw [Bool.eq_iff_iff]
  simp
  constructor <;> intro h e <;> exact h (by omega)
set_option maxRecDepth 100000 in
theorem least_any (b : List Nat) (hb : ∀ x ∈ b, x < 256) (hl : b.length ≤ 100000) (A : Option Addr) (c B : Nat) (w : World) (hr : Reads w B 1 A b.length (bv b)) :
    Calls Tryz.prog 110 #[.slice A b.length c] w fun e w' => e = .returned (.bool (leastF b)) ∧ w = w' := by
  rcases b with _ | ⟨x, _ | ⟨y, t⟩⟩
  · clear hr hl hb
    go_enter Tryz.func110, Tryz.ntmps110
    go_wp2
    go_ret
    exact ⟨rfl, rfl⟩
  · clear hr hl hb
    go_enter Tryz.func110, Tryz.ntmps110
    go_wp2
    go_ret
    exact ⟨rfl, rfl⟩
  · obtain ⟨g, k, rfl, -, hc⟩ := reads_form hr (by simp)
    have h0 := hc 0 _ rfl
    have h1 := hc 1 _ rfl
    rw [Nat.add_zero] at h0
    have hx : x < 256 := hb x (by simp)
    have hy : y < 256 := hb y (by simp)
    obtain ⟨n, hn⟩ : ∃ n, (x :: y :: t).length = n := ⟨_, rfl⟩
    have hnt : t.length + 2 = n := by rw [← hn]; rfl
    rw [hn] at hl ⊢
    have e0 : ((n : Int) == 0) = false := by rw [beq_eq_false_iff_ne]; omega
    have e1 : ((n : Int) == 1) = false := by rw [beq_eq_false_iff_ne]; omega
    have hn1 : (1 : Int) < n := by omega
    have hn0 : (0 : Int) < n := by omega
    have hz : y / 128 = 0 ∨ y / 128 = 1 := by omega
    obtain ⟨z, hzz⟩ : ∃ z, y / 128 = z := ⟨_, rfl⟩
    rw [hzz] at hz
    have hzi : (y : Int) / 128 = (z : Int) := by omega
    have hL : Hid (leastF (x :: y :: t) = (decide (n ≤ 8) && (x != (256 - z) % 256))) := Lib.hid (by
      show (decide (t.length ≤ 6) && (x != (256 - y / 128) % 256)) = _
      rw [hzz]
      congr 1
      congr 1
      exact propext ⟨fun h => by omega, fun h => by omega⟩)
    clear hr hb hc hn hnt hzz
    by_cases h8 : n ≤ 8
    · have h8' : (n : Int) ≤ 8 := by omega
      rcases hz with rfl | rfl
      · go_enter Tryz.func110, Tryz.ntmps110
        go_wp2
        go_ret
        exact ⟨ret_bool (by rw [hL.out, decide_eq_true h8, Bool.true_and]; exact bne_lit x _), rfl⟩
      · go_enter Tryz.func110, Tryz.ntmps110
        go_wp2
        go_ret
        exact ⟨ret_bool (by rw [hL.out, decide_eq_true h8, Bool.true_and]; exact bne_lit x _), rfl⟩
    · have h8' : ¬ (n : Int) ≤ 8 := by omega
      go_enter Tryz.func110, Tryz.ntmps110
      go_wp2
      go_ret
      exact ⟨ret_bool (by rw [hL.out, decide_eq_false h8]; rfl), rfl⟩
theorem kind1_any (x : Nat) (hx : x = 0 ∨ x = 255) (A : Option Addr) (c B : Nat) (w : World) (hr : Reads w B 1 A 1 (bv [x])) :
    Calls Tryz.prog 366 #[.slice A 1 c] w fun e w' => e = .returned (.bool true) ∧ w = w' := by
  obtain ⟨g, k, rfl, -, hc⟩ := reads_form hr (by simp)
  have h0 := hc 0 _ rfl
  rw [Nat.add_zero] at h0
  clear hc hr
  rcases hx with rfl | rfl
  · go_enter Tryz.func366, Tryz.ntmps366
    go_wp2
    go_ret
    exact ⟨rfl, rfl⟩
  · go_enter Tryz.func366, Tryz.ntmps366
    go_wp2
    go_ret
    exact ⟨rfl, rfl⟩
theorem kind4_any (c : Nat) (w : World) : Calls Tryz.prog 371 #[.slice none 0 c] w fun e w' => e = .returned (.bool true) ∧ w = w' := by
  go_enter Tryz.func371, Tryz.ntmps371
  go_wp2
  go_ret
  exact ⟨rfl, rfl⟩
theorem kind31_any (x : Nat) (h1 : 32 ≤ x) (h2 : x ≤ 126) (w : World) : Calls Tryz.prog 370 #[.int .u8 (x : Int)] w fun e w' => e = .returned (.bool false) ∧ w = w' := by
  have d1 : decide ((x : Int) < 32) = false := decide_eq_false (by omega)
  have d2 : decide ((126 : Int) < (x : Int)) = false := decide_eq_false (by omega)
  clear h1 h2
  go_enter Tryz.func370, Tryz.ntmps370
  go_wp2
  go_ret
  exact ⟨rfl, rfl⟩
set_option maxRecDepth 100000 in
set_option maxHeartbeats 1000000 in
theorem ixB_none (l : List Nat) (hl : l.length ≤ 100000) (hok : ∀ x ∈ l, 32 ≤ x ∧ x ≤ 126) (A : Option Addr) (c B : Nat) (w : World) (hr : Reads w B 1 A l.length (bv l)) :
    Calls Tryz.prog 372 #[.slice A l.length c, .func (.func 370) #[] #[]] w fun e w' => e = .returned (.int .i64 (-1)) ∧ w = w' := by
  have HR := Lib.hid hr
  have HO := Lib.hid hok
  clear hr hok
  go_enter Tryz.func372, Tryz.ntmps372
  go_wp2
  go_loopg [8] l.length (fun m s8 wr => ∃ j : Nat, j + m = l.length ∧ s8 = .int .i64 j ∧ w = wr)
  case atStart => exact ⟨0, by omega, rfl, rfl⟩
  case round =>
    obtain ⟨j, hj, rfl, rfl⟩ := hrel
    by_cases h : j < l.length
    · obtain ⟨x, hx⟩ : ∃ s, l[j]? = some s := ⟨_, List.getElem?_eq_getElem h⟩
      obtain ⟨ad, u, rfl, -, hu, hcl⟩ := HR.out.at_ h
      rw [bv_at hx] at hu
      cases hu
      obtain ⟨o1, o2⟩ := HO.out x (List.mem_of_getElem? hx)
      have c1 := kind31_any x o1 o2
      have hjb : (j : Int) ≤ 100000 := by omega
      have HJ := Lib.hid hj
      clear hx o1 o2 hj
      go_wp2_with (go_at_call 370; refine (c1 _).mono ?_; clear c1; rintro e w1 ⟨rfl, rfl⟩)
      go_roundg (gk - 1)
      case measure => have := HJ.out; omega
      case rel => exact ⟨j + 1, by have := HJ.out; omega, int_congr (by omega), rfl⟩
    · obtain rfl : j = l.length := by omega
      clear hj h
      go_wp2
      go_ret
      exact ⟨rfl, rfl⟩
theorem conB_none (l : List Nat) (hl : l.length ≤ 100000) (hok : ∀ x ∈ l, 32 ≤ x ∧ x ≤ 126) (A : Option Addr) (c B : Nat) (w : World) (hr : Reads w B 1 A l.length (bv l)) :
    Calls Tryz.prog 369 #[.slice A l.length c, .func (.func 370) #[] #[]] w fun e w' => e = .returned (.bool false) ∧ w = w' := by
  have c1 := ixB_none l hl hok A c B w hr
  clear hr hok hl
  go_enter Tryz.func369, Tryz.ntmps369
  go_wp2_with (go_at_call 372; refine c1.mono ?_; clear c1; rintro e w1 ⟨rfl, rfl⟩)
  go_ret
  exact ⟨rfl, rfl⟩
theorem kind3_any (l : List Nat) (hl : l.length ≤ 100000) (hok : ∀ x ∈ l, 32 ≤ x ∧ x ≤ 126) (A : Option Addr) (c B : Nat) (w : World) (hr : Reads w B 1 A l.length (bv l)) :
    Calls Tryz.prog 368 #[.slice A l.length c] w fun e w' => e = .returned (.bool true) ∧ w = w' := by
  have c1 := conB_none l hl hok A c B w hr
  clear hr hok hl
  go_enter Tryz.func368, Tryz.ntmps368
  go_wp2_with (go_at_call 369; refine c1.mono ?_; clear c1; rintro e w1 ⟨rfl, rfl⟩)
  go_ret
  exact ⟨rfl, rfl⟩
end Go.Proofs.YtfpmfegmehbfbaaGreatDoor

/- Items, walked: lengths, read. -/
namespace Go.Proofs.YtfpmfegmehbfbaaGreatDoor
set_option linter.unusedVariables false
set_option linter.unusedSimpArgs false
set_option linter.unusedSimpArgs false
open Go.RowKit Go.Shelf

theorem i64_or8 (a b : Nat) (ha : a < 36028797018963968) (hb : b < 256) : bits .or .i64 ((a : Int) * 256) (b : Int) = ((a * 256 + b : Nat) : Int) := by
  rw [bits_join .i64 63 (by decide) (fun n h0 h1 => by
    have h1 : n < 9223372036854775808 := h1
    have e : n % 2 ^ 64 = n := Int.emod_eq_of_lt h0 (by omega)
    simp only [IntKind.wrap, IntKind.bits, IntKind.signed, e]
    rw [if_neg]
    simp
    omega) 8 ((a : Int) * 256) (b : Int) (by omega) (by omega) (by show (a : Int) * 256 < 9223372036854775808; omega) (by omega) (by omega) (by show (b : Int) < 9223372036854775808; omega)]
  omega
theorem i64_or0 (b : Nat) (hb : b < 256) : bits .or .i64 0 (b : Int) = (b : Int) := by
  have := i64_or8 0 b (by decide) hb
  simpa using this
set_option maxRecDepth 100000 in
theorem length1_any (n : Nat) (h : n < 128) (r : List Nat) (A : Option Addr) (N c B : Nat) (hN : N = r.length + 1) (hc : N ≤ c) (hm : N ≤ 100000) (w : World) (hr : Reads w B 1 A N (bv (n :: r))) :
    Calls Tryz.prog 166 #[.slice A N c] w fun e w' => e = .returned (.tuple #[.int .i64 (n : Int), .int .i64 1, .int .i64 0]) ∧ w = w' := by
  obtain ⟨g, k, rfl, -, hcl⟩ := reads_form hr (by omega)
  have h0 := hcl 0 _ rfl
  rw [Nat.add_zero] at h0
  have e0 : ((N : Int) == 0) = false := by rw [beq_eq_false_iff_ne]; omega
  have e1 : (0 : Int) < N := by omega
  have e2 : (n : Int) < 128 := by omega
  clear hr hcl h hN
  go_enter Tryz.func166, Tryz.ntmps166
  go_wp2
  go_ret3
  exact ⟨rfl, rfl⟩
set_option maxRecDepth 100000 in
set_option maxHeartbeats 1000000 in
theorem length2_any (n : Nat) (h1 : 128 ≤ n) (h : n < 256) (r : List Nat) (A : Option Addr) (N c B : Nat) (hN : N = r.length + 2) (hc : N ≤ c) (hm : N ≤ 100000) (w : World) (hr : Reads w B 1 A N (bv (129 :: n :: r))) :
    Calls Tryz.prog 166 #[.slice A N c] w fun e w' => e = .returned (.tuple #[.int .i64 (n : Int), .int .i64 2, .int .i64 0]) ∧ w = w' := by
  obtain ⟨g, k, rfl, -, hcl⟩ := reads_form hr (by omega)
  have h0 := hcl 0 _ rfl
  have hx := hcl 1 _ rfl
  rw [Nat.add_zero] at h0
  have e0 : ((N : Int) == 0) = false := by rw [beq_eq_false_iff_ne]; omega
  have e1 : (1 : Int) < N := by omega
  have e3 : ¬ (N : Int) ≤ 1 := by omega
  have e4 : (0 : Int) < N := by omega
  have e5 : (2 : Int) ≤ c := by omega
  have e6 : ¬ (n : Int) < 128 := by omega
  have e7 : ¬ (c = 1) := by omega
  have hor := i64_or0 n h
  clear hr hcl hN
  go_enter Tryz.func166, Tryz.ntmps166
  go_wp2
  refine wp_loop_rounds 2 ?_
  rw [rounds_succ]
  go_wp2
  rw [rounds_succ]
  go_wp2
  go_ret3
  exact ⟨rfl, rfl⟩
set_option maxRecDepth 100000 in
set_option maxHeartbeats 1000000 in
theorem length3_any (n : Nat) (h1 : 256 ≤ n) (h : n < 65536) (r : List Nat) (A : Option Addr) (N c B : Nat) (hN : N = r.length + 3) (hc : N ≤ c) (hm : N ≤ 100000) (w : World) (hr : Reads w B 1 A N (bv (130 :: n / 256 :: n % 256 :: r))) :
    Calls Tryz.prog 166 #[.slice A N c] w fun e w' => e = .returned (.tuple #[.int .i64 (n : Int), .int .i64 3, .int .i64 0]) ∧ w = w' := by
  obtain ⟨g, k, rfl, -, hcl⟩ := reads_form hr (by omega)
  have h0 := hcl 0 _ rfl
  have hx := hcl 1 _ rfl
  have hy := hcl 2 _ rfl
  rw [Nat.add_zero] at h0
  obtain ⟨a, ha⟩ : ∃ a, n / 256 = a := ⟨_, rfl⟩
  obtain ⟨b, hb⟩ : ∃ b, n % 256 = b := ⟨_, rfl⟩
  rw [ha] at hx
  rw [hb] at hy
  have e0 : ((N : Int) == 0) = false := by rw [beq_eq_false_iff_ne]; omega
  have e1 : (2 : Int) < N := by omega
  have e3 : ¬ (N : Int) ≤ 2 := by omega
  have e4 : (0 : Int) < N := by omega
  have e5 : (3 : Int) ≤ c := by omega
  have e7 : ¬ (c = 1) := by omega
  have ha2 : a < 256 := by omega
  have hb2 : b < 256 := by omega
  have HN := Lib.hid (show n = a * 256 + b by omega)
  have hor := i64_or0 a ha2
  have hor2 := i64_or8 a b (by omega) hb2
  rw [← HN.out] at hor2
  have e8 : ¬ (n : Int) < 128 := by omega
  have e9 : ¬ (n : Int) < 256 := by omega
  clear hr hcl ha hb hN
  go_enter Tryz.func166, Tryz.ntmps166
  go_wp2
  refine wp_loop_rounds 3 ?_
  rw [rounds_succ]
  go_wp2
  rw [rounds_succ]
  go_wp2
  rw [rounds_succ]
  go_wp2
  go_ret3
  exact ⟨rfl, rfl⟩
end Go.Proofs.YtfpmfegmehbfbaaGreatDoor

/- Names, walked: the document's cut, Name, Check. -/
namespace Go.Proofs.YtfpmfegmehbfbaaGreatDoor
set_option linter.unusedVariables false
set_option linter.unusedSimpArgs false
open Go.RowKit Go.Shelf Go.Maps

end Go.Proofs.YtfpmfegmehbfbaaGreatDoor

/- Nonces, walked: time, Check, old. -/
namespace Go.Proofs.YtfpmfegmehbfbaaGreatDoor
set_option linter.unusedVariables false
set_option linter.unusedSimpArgs false
open Go.RowKit Go.Shelf Go.Maps

end Go.Proofs.YtfpmfegmehbfbaaGreatDoor

/- slices.Clone at what a door holds, walked. -/
namespace Go.Proofs.YtfpmfegmehbfbaaGreatDoor
set_option linter.unusedVariables false
set_option linter.unusedSimpArgs false
open Go.RowKit Go.Shelf Go.Maps

end Go.Proofs.YtfpmfegmehbfbaaGreatDoor

/- nonce.old; slices.IndexFunc at what a door holds, walked. -/
namespace Go.Proofs.YtfpmfegmehbfbaaGreatDoor
set_option linter.unusedVariables false
set_option linter.unusedSimpArgs false
open Go.RowKit Go.Shelf Go.Maps

/-- Where the first is at which f holds, or -1. -/
def ixG {α : Type} (f : α → Bool) (l : List α) : Int := match l.findIdx? f with | some i => (i : Int) | none => -1
end Go.Proofs.YtfpmfegmehbfbaaGreatDoor

/- Nonces, walked: slices.DeleteFunc at a row of one's own. -/
namespace Go.Proofs.YtfpmfegmehbfbaaGreatDoor
set_option linter.unusedVariables false
set_option linter.unusedSimpArgs false
open Go.RowKit Go.Shelf Go.Maps

theorem take_snoc {α : Type} {l : List α} {j : Nat} {x : α} (h : l[j]? = some x) : l.take (j + 1) = l.take j ++ [x] := by rw [List.take_add_one, h]; rfl
end Go.Proofs.YtfpmfegmehbfbaaGreatDoor

/- Nonces, walked: Trim. -/
namespace Go.Proofs.YtfpmfegmehbfbaaGreatDoor
set_option linter.unusedVariables false
set_option linter.unusedSimpArgs false
open Go.RowKit Go.Shelf Go.Maps

theorem grown_set (W : World) (g i : Nat) (u : Value) : W.grownBy (W.setCell ⟨g, i, none⟩ u) (some g) :=
  ⟨rfl, rfl, rfl, (KeepsWalks.setCell W _ u).size, fun k _ hk => Below.heap_setCell _ _ _ k (fun e => hk (by rw [e]))⟩
theorem own_far {w : World} {base : Nat} {e : TypeId} {size n : Nat} {v : Value} {xs : List Value} (h : w.ownsRow base e size v n xs) {g : Nat} (hg : g < base) (i : Nat) (u : Value) : (w.setCell ⟨g, i, none⟩ u).ownsRow base e size v n xs := by
  refine h.kept (grown_set w g i u) ?_
  cases hb : v.ownBlock with
  | none => exact .inl rfl
  | some k => exact .inr (fun e => by cases e; have := (h.lt _ hb).1; omega)
end Go.Proofs.YtfpmfegmehbfbaaGreatDoor

/- Nonces, walked: slices.BinarySearchFunc. -/
namespace Go.Proofs.YtfpmfegmehbfbaaGreatDoor
set_option linter.unusedVariables false
set_option linter.unusedSimpArgs false
open Go.RowKit Go.Shelf Go.Maps

end Go.Proofs.YtfpmfegmehbfbaaGreatDoor

/- Nonces, walked: slices.Delete at a row of one's own. -/
namespace Go.Proofs.YtfpmfegmehbfbaaGreatDoor
set_option linter.unusedVariables false
set_option linter.unusedSimpArgs false
open Go.RowKit Go.Shelf Go.Maps

end Go.Proofs.YtfpmfegmehbfbaaGreatDoor

/- Nonces, walked: Use. -/
namespace Go.Proofs.YtfpmfegmehbfbaaGreatDoor
set_option linter.unusedVariables false
set_option linter.unusedSimpArgs false
open Go.RowKit Go.Shelf Go.Maps

end Go.Proofs.YtfpmfegmehbfbaaGreatDoor

/- Nonces, walked: Tell. -/
namespace Go.Proofs.YtfpmfegmehbfbaaGreatDoor
set_option linter.unusedVariables false
set_option linter.unusedSimpArgs false
open Go.RowKit Go.Shelf Go.Maps

end Go.Proofs.YtfpmfegmehbfbaaGreatDoor

/- The door, walked: numbers, what may be ordered, tokens, whether there is an account. -/
namespace Go.Proofs.YtfpmfegmehbfbaaGreatDoor
set_option linter.unusedVariables false
set_option linter.unusedSimpArgs false
open Go.RowKit Go.Shelf Go.Maps

end Go.Proofs.YtfpmfegmehbfbaaGreatDoor

/- The door, walked: the door in memory, whether there is an account, whether an account may be. -/
namespace Go.Proofs.YtfpmfegmehbfbaaGreatDoor
set_option linter.unusedVariables false
set_option linter.unusedSimpArgs false
open Go.RowKit Go.Shelf Go.Maps

end Go.Proofs.YtfpmfegmehbfbaaGreatDoor

/- The door, walked: whether an authorization may be. -/
namespace Go.Proofs.YtfpmfegmehbfbaaGreatDoor
set_option linter.unusedVariables false
set_option linter.unusedSimpArgs false
open Go.RowKit Go.Shelf Go.Maps

/-- The times of an authorization. -/
def timP (a : AutR) : Prop := if a.st = 3 then numP a.fr ∧ a.un = a.fr + 50 else a.fr = 0 ∧ a.un = 0
instance (a : AutR) : Decidable (timP a) := by unfold timP; infer_instance
end Go.Proofs.YtfpmfegmehbfbaaGreatDoor

/- The door, walked: whether an order may be. -/
namespace Go.Proofs.YtfpmfegmehbfbaaGreatDoor
set_option linter.unusedVariables false
set_option linter.unusedSimpArgs false
open Go.RowKit Go.Shelf Go.Maps

end Go.Proofs.YtfpmfegmehbfbaaGreatDoor

/- The door, walked: Check. -/
namespace Go.Proofs.YtfpmfegmehbfbaaGreatDoor
set_option linter.unusedVariables false
set_option linter.unusedSimpArgs false
open Go.RowKit Go.Shelf Go.Maps

end Go.Proofs.YtfpmfegmehbfbaaGreatDoor

/- The door, walked: Nonce. -/
namespace Go.Proofs.YtfpmfegmehbfbaaGreatDoor
set_option linter.unusedVariables false
set_option linter.unusedSimpArgs false
open Go.RowKit Go.Shelf Go.Maps

/-! ### a door that is handed back -/
section
variable {W w : World} {g : Nat} {T : TypeId} {a b c d e f a' b' c' d' e' f' : Value}
end
end Go.Proofs.YtfpmfegmehbfbaaGreatDoor

/- The door, walked: do authorizations hold, what is revoked, does a request fit. -/
namespace Go.Proofs.YtfpmfegmehbfbaaGreatDoor
set_option linter.unusedVariables false
set_option linter.unusedSimpArgs false
open Go.RowKit Go.Shelf Go.Maps

end Go.Proofs.YtfpmfegmehbfbaaGreatDoor

/- The door, walked: an authorization, an order to be changed; looks. -/
namespace Go.Proofs.YtfpmfegmehbfbaaGreatDoor
set_option linter.unusedVariables false
set_option linter.unusedSimpArgs false
open Go.RowKit Go.Shelf Go.Maps

end Go.Proofs.YtfpmfegmehbfbaaGreatDoor

/- The door, walked: looks. -/
namespace Go.Proofs.YtfpmfegmehbfbaaGreatDoor
set_option linter.unusedVariables false
set_option linter.unusedSimpArgs false
open Go.RowKit Go.Shelf Go.Maps

end Go.Proofs.YtfpmfegmehbfbaaGreatDoor

/- The door, walked: issues, revokes. -/
namespace Go.Proofs.YtfpmfegmehbfbaaGreatDoor
set_option linter.unusedVariables false
set_option linter.unusedSimpArgs false
open Go.RowKit Go.Shelf Go.Maps

end Go.Proofs.YtfpmfegmehbfbaaGreatDoor

/- Sums in memory. -/
namespace Go.Proofs.YtfpmfegmehbfbaaGreatDoor
set_option linter.unusedVariables false
set_option linter.unusedSimpArgs false
open Go.RowKit
end Go.Proofs.YtfpmfegmehbfbaaGreatDoor
