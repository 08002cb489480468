/- Parts of the proofs, put together: Or6, Or7, Or8, Or10, Or11. -/
import Derived.Lib.SliceRun
import Derived.Test.YtfpmfegmehbfbaaGreatDoorD3
import Derived.Test.YtfpmfegmehbfbaaGreatDoorD10
import Derived.Test.YtfpmfegmehbfbaaGreatDoorD13
import Derived.Test.YtfpmfegmehbfbaaGreatDoorD16
import Derived.Test.YtfpmfegmehbfbaaGreatDoorD19
/- Names, walked: strings.SplitSeq, name, is, Check. -/
namespace Go.Proofs.YtfpmfegmehbfbaaGreatDoor
set_option linter.unusedVariables false
set_option linter.unusedSimpArgs false
open Go.RowKit Go.Shelf
attribute [local go_sem] Oper.semAt_some

theorem splitSeq_any (s p : ByteArray) (v : Int) (w : World) : Calls Tryz.prog 299 #[.string s, .string p, .int .i64 v] w fun e w' =>
    e = .returned (.func (.func 323) #[] #[.pointer (some ⟨w.heap.size + 1, 0, none⟩), .pointer (some ⟨w.heap.size, 0, none⟩), .pointer (some ⟨w.heap.size + 1 + 1, 0, none⟩)]) ∧
    ((w.alloc (.cells #[.string s] 9)).alloc (.cells #[.string p] 9)).alloc (.cells #[.int .i64 v] 3) = w' := by
  go_enter Tryz.func299, Tryz.ntmps299
  go_wp2
  go_ret
  exact ⟨rfl, rfl⟩
theorem SplitSeq_any (s p : ByteArray) (w : World) : Calls Tryz.prog 259 #[.string s, .string p] w fun e w' =>
    e = .returned (.func (.func 323) #[] #[.pointer (some ⟨w.heap.size + 1, 0, none⟩), .pointer (some ⟨w.heap.size, 0, none⟩), .pointer (some ⟨w.heap.size + 1 + 1, 0, none⟩)]) ∧
    ((w.alloc (.cells #[.string s] 9)).alloc (.cells #[.string p] 9)).alloc (.cells #[.int .i64 0] 3) = w' := by
  have c1 := splitSeq_any s p 0
  go_enter Tryz.func259, Tryz.ntmps259
  go_wp2_with (go_at_call 299; refine (c1 _).mono ?_; clear c1; rintro e w' ⟨rfl, rfl⟩)
  go_ret
  exact ⟨rfl, rfl⟩
/-- A name of so many labels and bytes at most. -/
def nameQ (L B : Int) (s : ByteArray) : Prop := (s.size : Int) ≤ B ∧ ((txN s).count 46 : Int) < L ∧ ∀ x ∈ cuts (txN s), labP x
instance (L B : Int) (s : ByteArray) : Decidable (nameQ L B s) := by unfold nameQ; infer_instance
theorem nameQ_is (s : ByteArray) : nameQ 8 64 s ↔ namP s := by
  unfold nameQ namP nameP
  rw [cuts_count, txN_len]
  constructor
  · rintro ⟨h1, h2, h3⟩; exact ⟨by omega, by omega, h3⟩
  · rintro ⟨h1, h2, h3⟩; exact ⟨by omega, by omega, h3⟩

set_option maxRecDepth 100000 in
set_option maxHeartbeats 4000000 in
theorem name_any (s : ByteArray) (hs : s.size ≤ 140737488355328) (L B : Int) (w : World) :
    Calls Tryz.prog 213 #[.string s, .int .i64 L, .int .i64 B] w fun e w' => e = .returned (.bool (decide (nameQ L B s))) ∧ Ext w w' := by
  refine (callsIn_wide (n := 5)).1 ?_
  have c1 : ∀ m w, CallsIn Fence.wide m Tryz.prog 258 #[.string s, .string ⟨#[46]⟩] w fun e w' => e = .returned (.int .i64 ((txN s).count 46 : Nat)) ∧ w = w' := fun m w =>
    callsIn_wide.2 ((Tryz.strings_Count_one s 46 w).mono fun e w' ⟨he, hw⟩ => ⟨by rw [he, count_dot], hw.symm⟩)
  have c2 : ∀ m w, CallsIn Fence.wide m Tryz.prog 259 #[.string s, .string ⟨#[46]⟩] w _ := fun m w => callsIn_wide.2 (SplitSeq_any s ⟨#[46]⟩ w)
  have c3 : ∀ m x w, CallsIn Fence.wide m Tryz.prog 260 #[.string x] w _ := fun m x w => callsIn_wide.2 (label_any x w)
  refine callsIn_of_wp_marks Tryz.func213 rfl trivial ?_ rfl
  simp only [Tryz.ntmps213, List.size_toArray, List.length_cons, List.length_nil, Nat.reduceAdd, Nat.reduceSub, Array.replicate_succ, Array.replicate_zero, List.push_toArray, List.append_toArray, List.nil_append, List.cons_append]
  by_cases h1 : B < (s.size : Int)
  · have hno : ¬ nameQ L B s := fun h => by have := h.1; omega
    gi_wp2
    refine ⟨trivial, ?_⟩
    gi_wp2
    exact ⟨.bool false, by simp [results, Tryz.results213, go_sem], ret_bool (by rw [decide_eq_false hno]), (Ext.refl w).alloc _⟩
  by_cases h2 : L ≤ ((txN s).count 46 : Int)
  · have hno : ¬ nameQ L B s := fun h => by have := h.2.1; omega
    gi_wp2_with (refine ⟨trivial, ?_⟩; gi_at_call 258; refine (c1 _ _).mono ?_; clear c1; rintro e w' ⟨rfl, rfl⟩)
    exact ⟨.bool false, by simp [results, Tryz.results213, go_sem], ret_bool (by rw [decide_eq_false hno]), (Ext.refl w).alloc _⟩
  gi_wp2_with (first | (refine ⟨trivial, ?_⟩; gi_at_call 258; refine (c1 _ _).mono ?_; clear c1; rintro e w' ⟨rfl, rfl⟩) | (refine ⟨trivial, ?_⟩; gi_at_call 259; refine (c2 _ _).mono ?_; clear c2; rintro e w' ⟨rfl, rfl⟩))
  obtain ⟨s0, hs0⟩ : ∃ s0, s0 = w.heap.size := ⟨_, rfl⟩
  have f0 : ((((w.alloc (.cells #[.bool false] 4)).alloc (.cells #[.string s] 9)).alloc (.cells #[.string ⟨#[46]⟩] 9)).alloc (.cells #[.int .i64 0] 3)).cell? ⟨s0, 0, none⟩ = some (.bool false) ∧
    ((((w.alloc (.cells #[.bool false] 4)).alloc (.cells #[.string s] 9)).alloc (.cells #[.string ⟨#[46]⟩] 9)).alloc (.cells #[.int .i64 0] 3)).frozen? ⟨s0, 0, none⟩ = false ∧
    ((((w.alloc (.cells #[.bool false] 4)).alloc (.cells #[.string s] 9)).alloc (.cells #[.string ⟨#[46]⟩] 9)).alloc (.cells #[.int .i64 0] 3)).cell? ⟨s0 + 1, 0, none⟩ = some (.string s) ∧
    ((((w.alloc (.cells #[.bool false] 4)).alloc (.cells #[.string s] 9)).alloc (.cells #[.string ⟨#[46]⟩] 9)).alloc (.cells #[.int .i64 0] 3)).frozen? ⟨s0 + 1, 0, none⟩ = false ∧
    ((((w.alloc (.cells #[.bool false] 4)).alloc (.cells #[.string s] 9)).alloc (.cells #[.string ⟨#[46]⟩] 9)).alloc (.cells #[.int .i64 0] 3)).cell? ⟨s0 + 1 + 1, 0, none⟩ = some (.string ⟨#[46]⟩) ∧
    ((((w.alloc (.cells #[.bool false] 4)).alloc (.cells #[.string s] 9)).alloc (.cells #[.string ⟨#[46]⟩] 9)).alloc (.cells #[.int .i64 0] 3)).cell? ⟨s0 + 1 + 1 + 1, 0, none⟩ = some (.int .i64 0) := by
    subst hs0
    refine ⟨?_, ?_, ?_, ?_, ?_, ?_⟩ <;> simp [go_sem]
  obtain ⟨W0, hW0⟩ : ∃ W0, (((w.alloc (.cells #[.bool false] 4)).alloc (.cells #[.string s] 9)).alloc (.cells #[.string ⟨#[46]⟩] 9)).alloc (.cells #[.int .i64 0] 3) = W0 := ⟨_, rfl⟩
  have hE : Ext w W0 := by rw [← hW0]; exact ((((Ext.refl w).alloc _).alloc _).alloc _).alloc _
  have hsz : W0.heap.size = s0 + 4 := by rw [← hW0, hs0]; simp
  rw [hW0] at f0 ⊢
  rw [← hs0]
  obtain ⟨d0, z0, d1, z1, d2, d3⟩ := f0
  have hE' : Below s0 w W0 := hs0 ▸ hE
  have Hs0 := Lib.hid hs0
  have H12 : Hid ((s.size : Int) ≤ B ∧ ((txN s).count 46 : Int) < L) := Lib.hid ⟨by omega, by omega⟩
  clear hs0 hW0 hE
  refine wpIn_range_box rfl (by omega) (gf := 323) (lb := #[.pointer (some ⟨s0 + 1 + 1, 0, none⟩), .pointer (some ⟨s0 + 1, 0, none⟩), .pointer (some ⟨s0 + 1 + 1 + 1, 0, none⟩)]) rfl trivial (enters_of Tryz.func323 (by kernel_rfl) rfl)
    (en := fun x : ByteArray => #[Value.string x]) (b := s0 + 1) (by omega) (S := fun xs => xs.map txN = cuts (txN s)) (Sp := fun pre => pre.map txN <+: cuts (txN s))
    (fun l J Jx W hW hJ hJx hY h0 => splitSeq1_in 4 (by omega) l (s0 + 1) (s0 + 1 + 1) (s0 + 1 + 1 + 1) W0.heap.size (by omega) (by omega) (by omega) (by omega) (by omega) s hs J Jx hJ hY W ((World.frozen?_of_block (hW.block _ (by simp; omega))).trans z1) ((hW.cell (p := ⟨s0 + 1, 0, none⟩) (by simp; omega)).trans d1) ((hW.cell (p := ⟨s0 + 1 + 1, 0, none⟩) (by simp; omega)).trans d2) ((hW.cell (p := ⟨s0 + 1 + 1 + 1, 0, none⟩) (by simp; omega)).trans d3) h0)
    (fun _ => rfl)
    (fun pre W => W.cell? ⟨s0, 0, none⟩ = some (.bool false) ∧ W.frozen? ⟨s0, 0, none⟩ = false ∧ W0.heap.size ≤ W.heap.size ∧ Below s0 w W ∧ ∀ x ∈ pre, labP (txN x))
    (fun pre W => W.cell? ⟨s0, 0, none⟩ = some (.bool false) ∧ W.frozen? ⟨s0, 0, none⟩ = false ∧ W0.heap.size ≤ W.heap.size ∧ Below s0 w W ∧ ∃ x ∈ pre, ¬ labP (txN x))
    ?hI ?hIx ⟨d0, z0, Nat.le_refl _, hE', by simp⟩
    (fun x => { tmps := #[Value.string s, Value.int IntKind.i64 L, Value.int IntKind.i64 B, undef, undef, undef, Value.pointer (some { block := s0, off := 0 }), Value.string x, Value.string s, Value.int IntKind.i64 ↑s.size, Value.int IntKind.i64 B, Value.bool false, Value.bool false, Value.string s, Value.int IntKind.i64 ↑(List.count 46 (txN s)), Value.int IntKind.i64 L, Value.bool (decide (L ≤ ↑(List.count 46 (txN s)))), Value.bool (decide (L ≤ ↑(List.count 46 (txN s)))), Value.string s, Value.func (Fn.func 323) #[] #[Value.pointer (some { block := s0 + 1 + 1, off := 0 }), Value.pointer (some { block := s0 + 1, off := 0 }), Value.pointer (some { block := s0 + 1 + 1 + 1, off := 0 })], Value.string x, undef, undef, undef], defers := [] }) ?assign ?body ?done ?stop
  case hI =>
    rintro pre X Y row ⟨i1, i2, i3, i4, i5⟩ hg hr
    have hb : Y.heap[s0]? = X.heap[s0]? := hg.block s0 (by omega) (fun e => by rcases hr _ e.symm with h | ⟨h, _⟩ <;> omega)
    exact ⟨(World.cell?_of_block (a := ⟨s0, 0, none⟩) hb).trans i1, (World.frozen?_of_block (a := ⟨s0, 0, none⟩) hb).trans i2, Nat.le_trans i3 hg.size, i4.grown hg (by omega) (fun r e => by rcases hr r e with h | ⟨h, _⟩ <;> omega), i5⟩
  case hIx =>
    rintro pre X Y row ⟨i1, i2, i3, i4, i5⟩ hg hr
    have hb : Y.heap[s0]? = X.heap[s0]? := hg.block s0 (by omega) (fun e => by rcases hr _ e.symm with h | ⟨h, _⟩ <;> omega)
    exact ⟨(World.cell?_of_block (a := ⟨s0, 0, none⟩) hb).trans i1, (World.frozen?_of_block (a := ⟨s0, 0, none⟩) hb).trans i2, Nat.le_trans i3 hg.size, i4.grown hg (by omega) (fun r e => by rcases hr r e with h | ⟨h, _⟩ <;> omega), i5⟩
  case assign =>
    intro l x W K hK
    gi_wp2
    exact hK
  case body =>
    rintro l pre x W ⟨i1, i2, i3, i4, i5⟩
    have c4 := fun m w => c3 m x w
    clear c3
    by_cases hx : labP (txN x)
    · rw [decide_eq_true hx] at c4
      gi_wp2_with (refine ⟨trivial, ?_⟩; gi_at_call 260; refine (CallsIn.inRound l (c4 _ _)).mono ?_; clear c4; rintro e w' ⟨rfl, x1⟩)
      refine ⟨⟨x1.size, fun k o hk _ => (Below.block x1.out k (Array.getElem?_eq_some_iff.1 hk).1).trans hk⟩, Below.mono x1.out i3, x1.cell i1, (x1.frozen i1).trans i2, Nat.le_trans i3 x1.size, i4.trans (Below.mono x1.out (by omega)), fun y hy => ?_⟩
      rcases List.mem_append.1 hy with hy | hy
      · exact i5 y hy
      · rw [List.mem_singleton] at hy; subst hy; exact hx
    · rw [decide_eq_false hx] at c4
      gi_wp2_with (refine ⟨trivial, ?_⟩; gi_at_call 260; refine (CallsIn.inRound l (c4 _ _)).mono ?_; clear c4; rintro e w' ⟨rfl, x1⟩; have y1 := x1.cell i1; have y2 := (x1.frozen i1).trans i2)
      refine ⟨KeepsOthers.trans (B := w') ⟨x1.size, fun k o hk _ => (Below.block x1.out k (Array.getElem?_eq_some_iff.1 hk).1).trans hk⟩ (KeepsOthers.setCell _ _ _), World.cell?_setCell_same' _ _ _ (by rw [y1]; rfl), by rw [World.frozen?_setCell]; exact y2, Nat.le_trans i3 (Nat.le_trans x1.size (KeepsOthers.setCell _ _ _).size), (i4.trans (Below.mono x1.out (by omega))).setCell (p := ⟨s0, 0, none⟩) (Nat.le_refl _) _, x, by simp, hx⟩
  case done =>
    rintro D ys W hD hS ⟨i1, i2, i3, i4, i5⟩ hK
    have hyes : nameQ L B s := ⟨H12.out.1, H12.out.2, fun x hx => by rw [← hS] at hx; obtain ⟨y, hy, rfl⟩ := List.mem_map.1 hx; exact i5 y hy⟩
    have j1 : (W.setCell ⟨s0, 0, none⟩ (.bool true)).cell? ⟨s0, 0, none⟩ = some (.bool true) := World.cell?_setCell_same' _ _ _ (by rw [i1]; rfl)
    have hK' : (W.setCell ⟨s0, 0, none⟩ (.bool true)).heap[D]? = some (.deferred (some [])) := (KeepsOthers.setCell _ _ _).same D _ hK rfl
    gi_wp2
    refine ⟨by simp, .inl ⟨_, _, rfl, run_takeDeferred hK', ?_⟩⟩
    have j2 : ((W.setCell ⟨s0, 0, none⟩ (.bool true)).putObj D (.deferred none)).cell? ⟨s0, 0, none⟩ = some (.bool true) := (World.cell?_of_block (World.putObj_heap_other (by simp; omega))).trans j1
    refine ⟨.bool true, by simp [results, Tryz.results213, go_sem, j2], ret_bool (by rw [decide_eq_true hyes]), ?_⟩
    exact Ext.of (Hs0.out ▸ (i4.setCell (p := ⟨s0, 0, none⟩) (Nat.le_refl _) _).trans (belowK_b (n₀ := s0) (w := w) (by rw [Hs0.out]; exact Nat.le_refl _) _ D _ _ (by rw [hsz, Hs0.out] at hD; omega) hK' rfl rfl))
  case stop =>
    rintro D pre W hD hS ⟨i1, i2, i3, i4, i5⟩ hK
    have hno : ¬ nameQ L B s := fun h => by
      obtain ⟨x, hx, hn⟩ := i5
      exact hn (h.2.2 _ (hS.subset (List.mem_map.2 ⟨x, hx, rfl⟩)))
    gi_wp2
    refine ⟨by simp, .inl ⟨_, _, rfl, run_takeDeferred hK, ?_⟩⟩
    have j2 : (W.putObj D (.deferred none)).cell? ⟨s0, 0, none⟩ = some (.bool false) := (World.cell?_of_block (World.putObj_heap_other (by simp; omega))).trans i1
    refine ⟨.bool false, by simp [results, Tryz.results213, go_sem, j2], ret_bool (by rw [decide_eq_false hno]), ?_⟩
    exact Ext.of (Hs0.out ▸ i4.trans (belowK_b (n₀ := s0) (w := w) (by rw [Hs0.out]; exact Nat.le_refl _) _ D _ _ (by rw [hsz, Hs0.out] at hD; omega) hK rfl rfl))
theorem is_any (s : ByteArray) (hs : s.size ≤ 140737488355328) (w : World) :
    Calls Tryz.prog 120 #[.string s] w fun e w' => e = .returned (.bool (decide (namP s))) ∧ Ext w w' := by
  have c1 := name_any s hs 8 64
  rw [show decide (nameQ 8 64 s) = decide (namP s) by rw [decide_eq_decide]; exact nameQ_is s] at c1
  go_enter Tryz.func120, Tryz.ntmps120
  go_wp2_with (go_at_call 213; refine (c1 _).mono ?_; clear c1; rintro e w1 ⟨rfl, x1⟩)
  go_ret
  exact ⟨rfl, x1⟩
/-- What is wrong with a text as a name. -/
def namE (s : ByteArray) : Nat := if namP s then 0 else 110
theorem nCheck_any (s : ByteArray) (hs : s.size ≤ 140737488355328) (w : World) :
    Calls Tryz.prog 240 #[.string s] w fun e w' => e = .returned (.int .i64 (namE s : Nat)) ∧ Ext w w' := by
  have c1 := is_any s hs
  have c2 := told_any (decide (namP s))
  have e : ((if (decide (namP s)) = true then 0 else 110 : Int)) = (namE s : Nat) := by unfold namE; split <;> rename_i h <;> simp at h <;> simp [h]
  rw [e] at c2
  generalize decide (namP s) = b at c1 c2
  go_enter Tryz.func240, Tryz.ntmps240
  go_wp2_with (first | (go_at_call 120; refine (c1 _).mono ?_; clear c1; rintro e w1 ⟨rfl, x1⟩) | (go_at_call 252; refine (c2 _).mono ?_; clear c2; rintro e w1 ⟨rfl, rfl⟩))
  go_ret
  exact ⟨rfl, x1⟩
end Go.Proofs.YtfpmfegmehbfbaaGreatDoor

/- Names, walked: the document's cut, Name, Check. -/
namespace Go.Proofs.YtfpmfegmehbfbaaGreatDoor
set_option linter.unusedVariables false
set_option linter.unusedSimpArgs false
open Go.RowKit Go.Shelf Go.Maps

end Go.Proofs.YtfpmfegmehbfbaaGreatDoor

/- Nonces, walked: time, Check, old. -/
namespace Go.Proofs.YtfpmfegmehbfbaaGreatDoor
set_option linter.unusedVariables false
set_option linter.unusedSimpArgs false
open Go.RowKit Go.Shelf Go.Maps

theorem time_any (n : Int) (w : World) : Calls Tryz.prog 178 #[.int .i64 n] w fun e w' => e = .returned (.bool (decide (numP n))) ∧ w' = w := by
  go_enter Tryz.func178, Tryz.ntmps178
  by_cases h1 : 0 ≤ n <;> by_cases h2 : n ≤ 1099511627776
  all_goals
    go_wp2
    go_ret
    exact ⟨ret_bool (by rw [eq_comm]; first | exact decide_eq_true (by unfold numP; omega) | exact decide_eq_false (by unfold numP; omega)), rfl⟩
set_option maxRecDepth 100000 in
set_option maxHeartbeats 4000000 in
theorem fCheck_any (next : Int) (l : List NonR) (A : Option Addr) (c : Nat) (w : World) (hw : NonsW w w.heap.size next l A c) :
    Calls Tryz.prog 173 #[fenV next l A c] w fun e w' => e = .returned (.int .i64 (fenN next l : Nat)) ∧ Ext w w' := by
  have c1 := time_any
  unfold fenV
  go_enter Tryz.func173, Tryz.ntmps173
  go_wp2
  obtain ⟨w1, e1⟩ : ∃ W, w.alloc (.cells #[.int .i64 next, .slice A l.length c] 91) = W := ⟨_, rfl⟩
  have x1 : Ext w w1 := by rw [← e1]; exact (Ext.refl w).alloc _
  have hb : Blk w1 w.heap.size 91 #[.int .i64 next, .slice A l.length c] := by rw [← e1]; exact Blk.new _ _ _
  rw [e1]
  clear e1
  have HB := Lib.hid hb
  have X1 := Lib.hid x1
  have hl := (hw.ext x1).lst
  have HR := Lib.hid hl
  have HN := Lib.hid hw.len
  clear hb x1 hl hw
  go_loopg [3, 9] l.length (fun m s3 s9 wr => ∃ j : Nat, j + m = l.length ∧ s9 = .int .i64 j ∧ s3 = .int .i64 (lastF (l.take j)) ∧ fenTo next (l.take j) ∧ Ext w1 wr)
  case atStart => exact ⟨0, by omega, rfl, rfl, fenTo_nil next, Ext.refl w1⟩
  case round =>
    obtain ⟨j, hj, rfl, rfl, hok, hx⟩ := hrel
    obtain ⟨q0, q1⟩ := two (ext_blk hx HB.out)
    have nn := World.new_ne wr ⟨w.heap.size, 0, none⟩ q0
    simp only at nn
    have hjb : (j : Int) ≤ 1099511627776 := by have := HN.out; omega
    by_cases h : j < l.length
    · obtain ⟨x, hs⟩ : ∃ s, l[j]? = some s := ⟨_, List.getElem?_eq_getElem h⟩
      obtain ⟨ad, rfl, hlt, p0, p1⟩ := reads_non (HR.out.below hx.out) hs
      obtain ⟨q2, q3⟩ := two (ext_blk (hx.alloc (.cells #[.int .i64 x.n, .int .i64 x.u] 274)) HB.out)
      have hst := fenTo_take_succ (next := next) hs
      have hla := lastF_take_succ hs
      obtain ⟨la, ela⟩ : ∃ la, la = lastF (l.take j) := ⟨_, rfl⟩
      rw [← ela] at hst ⊢
      have HS := Lib.hid hst
      have HLA := Lib.hid hla
      have HX := Lib.hid hx
      have HO := Lib.hid hok
      have HJ := Lib.hid hj
      clear hst hla hx hok hj hs ela
      by_cases b1 : x.n ≤ la
      · have hno : Hid (fenN next l = 1) := Lib.hid (fenN_no (fenTo_not (k := j + 1) (fun hh => by have := (HS.out.1 hh).2.1; omega)))
        go_wp2_with (go_at_call 178; refine (c1 _ _).mono ?_; rintro e w2 ⟨rfl, rfl⟩)
        go_ret
        exact ⟨by rw [hno.out]; rfl, X1.out.trans (HX.out.alloc _)⟩
      by_cases b2 : next ≤ x.n
      · have hno : Hid (fenN next l = 1) := Lib.hid (fenN_no (fenTo_not (k := j + 1) (fun hh => by have := (HS.out.1 hh).2.2.1; omega)))
        go_wp2_with (go_at_call 178; refine (c1 _ _).mono ?_; rintro e w2 ⟨rfl, rfl⟩)
        go_ret
        exact ⟨by rw [hno.out]; rfl, X1.out.trans (HX.out.alloc _)⟩
      have c1x := c1 x.u
      by_cases b3 : numP x.u
      · rw [decide_eq_true b3] at c1x
        have HOK : Hid (fenTo next (l.take (j + 1))) := Lib.hid (HS.out.2 ⟨HO.out, by omega, by omega, b3⟩)
        clear b3
        go_wp2_with (go_at_call 178; refine (c1x _).mono ?_; rintro e w2 ⟨rfl, rfl⟩)
        have hj := HJ.out
        go_roundg (gk - 1)
        case measure => omega
        case rel => exact ⟨j + 1, by omega, int_congr (by omega), by rw [HLA.out], HOK.out, HX.out.alloc _⟩
      · have hno : Hid (fenN next l = 1) := Lib.hid (fenN_no (fenTo_not (k := j + 1) (fun hh => b3 (HS.out.1 hh).2.2.2)))
        rw [decide_eq_false b3] at c1x
        clear b3
        go_wp2_with (go_at_call 178; refine (c1x _).mono ?_; rintro e w2 ⟨rfl, rfl⟩)
        go_ret
        exact ⟨by rw [hno.out]; rfl, X1.out.trans (HX.out.alloc _)⟩
    · obtain rfl : j = l.length := by omega
      rw [List.take_length] at hok ⊢
      have HX := Lib.hid hx
      have c1x := c1 next
      by_cases b3 : numP next
      · rw [decide_eq_true b3] at c1x
        have hy := fenN_yes hok b3
        clear hx hj h hok b3
        by_cases b4 : (64 : Int) < l.length
        · rw [if_pos (by omega)] at hy
          have HY := Lib.hid hy
          clear hy
          go_wp2_with (go_at_call 178; refine (c1x _).mono ?_; rintro e w2 ⟨rfl, rfl⟩)
          go_ret
          exact ⟨by rw [HY.out]; rfl, X1.out.trans HX.out⟩
        · rw [if_neg (by omega)] at hy
          have HY := Lib.hid hy
          clear hy
          go_wp2_with (go_at_call 178; refine (c1x _).mono ?_; rintro e w2 ⟨rfl, rfl⟩)
          go_ret
          exact ⟨by rw [HY.out]; rfl, X1.out.trans HX.out⟩
      · rw [decide_eq_false b3] at c1x
        have HY := Lib.hid (fenN_num (l := l) b3)
        clear hx hj h hok b3
        go_wp2_with (go_at_call 178; refine (c1x _).mono ?_; rintro e w2 ⟨rfl, rfl⟩)
        go_ret
        exact ⟨by rw [HY.out]; rfl, X1.out.trans HX.out⟩
end Go.Proofs.YtfpmfegmehbfbaaGreatDoor

/- slices.Clone at what a door holds, walked. -/
namespace Go.Proofs.YtfpmfegmehbfbaaGreatDoor
set_option linter.unusedVariables false
set_option linter.unusedSimpArgs false
open Go.RowKit Go.Shelf Go.Maps

theorem Tryz.infoNon : (Tryz.prog.info? 274).map (fun i => (i.zero, i.size, i.bytes)) = some (some (.agg #[.int .i64 0, .int .i64 0]), 2, 16) := by kernel_rfl
theorem Tryz.infoAcc : (Tryz.prog.info? 103).map (fun i => (i.zero, i.size, i.bytes)) = some (some (.agg #[.int .i64 0, .int .u64 0]), 2, 16) := by kernel_rfl
theorem Tryz.infoAut : (Tryz.prog.info? 192).map (fun i => (i.zero, i.size, i.bytes)) = some (some (.agg #[.int .i64 0, .int .i64 0, .string ⟨#[]⟩, .string ⟨#[]⟩, .int .i64 0, .int .i64 0, .int .i64 0]), 7, 72) := by kernel_rfl
theorem Tryz.infoOrd : (Tryz.prog.info? 109).map (fun i => (i.zero, i.size, i.bytes)) = some (some (.agg #[.int .i64 0, .int .i64 0, .slice none 0 0, .int .u64 0, .int .i64 0, .slice none 0 0, .int .i64 0, .int .i64 0]), 8, 96) := by kernel_rfl
set_option maxRecDepth 100000 in
set_option maxHeartbeats 1000000 in
theorem cloneT_any (A : Option Addr) (n c : Nat) (xs : List Value) (h1 : ∀ u ∈ xs, u.oneCell' = true) (hn : n ≤ 1099511627776) (w : World) (hr : Reads w w.heap.size 1 A n xs) :
    Calls Tryz.prog 104 #[.slice A n c] w fun e w' => ∃ v, e = .returned v ∧ w'.ownsRow w.heap.size 9 1 v n xs ∧ Ext w w' := by
  obtain ⟨i0, hi, hz0, hz1, hz2⟩ := info_parts Tryz.infoStr
  have hq := fun (w : World) (a : Option Addr) (n c : Nat) => Lib.run_eql_slice_nil (P := Tryz.prog) w 65 9 a n c 0 0 Tryz.underlying65
  go_enter Tryz.func104, Tryz.ntmps104
  rcases A with _ | ad
  · have h0 : n = 0 := by
      rcases Nat.eq_zero_or_pos n with h0 | h0
      · exact h0
      · obtain ⟨_, e, _⟩ := hr.2 h0; cases e
    subst h0
    have hx : xs = [] := List.eq_nil_of_length_eq_zero (by simpa using hr.1)
    subst hx
    clear hr h1 hn
    go_wp2
    go_ret
    exact ⟨_, rfl, World.ownsRow_nil _ _ _ _, Ext.refl w⟩
  · have HR := Lib.hid (hr.alloc (Nat.le_refl _) (.cells #[] 9))
    have HN := Lib.hid hn
    have HO := Lib.hid h1
    clear hr h1 hn
    go_wp2_with (at_builtin; refine wpList_append_any _ rfl (.tmp 5) (.tmp 6) 65 rfl w.heap.size 9 i0 (.string ⟨#[]⟩) 1 16 Tryz.underlying65 hi hz0 hz1 hz2 rfl (by decide) _ 0 [] rfl (own_empty w _ _ rfl (Nat.le_refl _) _ _) w.heap.size _ _ _ xs rfl HR.out HO.out (by have := HN.out; simp only [maxLen]; omega) (by have := HN.out; omega) (by simp) ?_; intro v2 w2 hown2 hg2 _)
    go_ret
    rw [Nat.zero_add, List.nil_append] at hown2
    exact ⟨_, rfl, hown2, ext_grown ((Ext.refl w).alloc _) (own_empty w _ _ rfl (Nat.le_refl _) 9 1) hg2⟩
set_option maxRecDepth 100000 in
set_option maxHeartbeats 1000000 in
theorem cloneN_any (A : Option Addr) (n c : Nat) (xs : List Value) (h1 : ∀ u ∈ xs, u.oneCell' = true) (hn : n ≤ 1099511627776) (w : World) (hr : Reads w w.heap.size 2 A n xs) :
    Calls Tryz.prog 183 #[.slice A n c] w fun e w' => ∃ v, e = .returned v ∧ w'.ownsRow w.heap.size 274 2 v n xs ∧ Ext w w' := by
  obtain ⟨i0, hi, hz0, hz1, hz2⟩ := info_parts Tryz.infoNon
  have hq := fun (w : World) (a : Option Addr) (n c : Nat) => Lib.run_eql_slice_nil (P := Tryz.prog) w 89 274 a n c 0 0 Tryz.underlying89
  go_enter Tryz.func183, Tryz.ntmps183
  rcases A with _ | ad
  · have h0 : n = 0 := by
      rcases Nat.eq_zero_or_pos n with h0 | h0
      · exact h0
      · obtain ⟨_, e, _⟩ := hr.2 h0; cases e
    subst h0
    have hx : xs = [] := List.eq_nil_of_length_eq_zero (by simpa using hr.1)
    subst hx
    clear hr h1 hn
    go_wp2
    go_ret
    exact ⟨_, rfl, World.ownsRow_nil _ _ _ _, Ext.refl w⟩
  · have HR := Lib.hid (hr.alloc (Nat.le_refl _) (.cells #[] 274))
    have HN := Lib.hid hn
    have HO := Lib.hid h1
    clear hr h1 hn
    go_wp2_with (at_builtin; refine wpList_append_any _ rfl (.tmp 5) (.tmp 6) 89 rfl w.heap.size 274 i0 (.agg #[.int .i64 0, .int .i64 0]) 2 16 Tryz.underlying89 hi hz0 hz1 hz2 rfl (by decide) _ 0 [] rfl (own_empty w _ _ rfl (Nat.le_refl _) _ _) w.heap.size _ _ _ xs rfl HR.out HO.out (by have := HN.out; simp only [maxLen]; omega) (by have := HN.out; omega) (by simp) ?_; intro v2 w2 hown2 hg2 _)
    go_ret
    rw [Nat.zero_add, List.nil_append] at hown2
    exact ⟨_, rfl, hown2, ext_grown ((Ext.refl w).alloc _) (own_empty w _ _ rfl (Nat.le_refl _) 274 2) hg2⟩
set_option maxRecDepth 100000 in
set_option maxHeartbeats 1000000 in
theorem cloneA_any (A : Option Addr) (n c : Nat) (xs : List Value) (h1 : ∀ u ∈ xs, u.oneCell' = true) (hn : n ≤ 1099511627776) (w : World) (hr : Reads w w.heap.size 2 A n xs) :
    Calls Tryz.prog 186 #[.slice A n c] w fun e w' => ∃ v, e = .returned v ∧ w'.ownsRow w.heap.size 103 2 v n xs ∧ Ext w w' := by
  obtain ⟨i0, hi, hz0, hz1, hz2⟩ := info_parts Tryz.infoAcc
  have hq := fun (w : World) (a : Option Addr) (n c : Nat) => Lib.run_eql_slice_nil (P := Tryz.prog) w 92 103 a n c 0 0 Tryz.underlying92
  go_enter Tryz.func186, Tryz.ntmps186
  rcases A with _ | ad
  · have h0 : n = 0 := by
      rcases Nat.eq_zero_or_pos n with h0 | h0
      · exact h0
      · obtain ⟨_, e, _⟩ := hr.2 h0; cases e
    subst h0
    have hx : xs = [] := List.eq_nil_of_length_eq_zero (by simpa using hr.1)
    subst hx
    clear hr h1 hn
    go_wp2
    go_ret
    exact ⟨_, rfl, World.ownsRow_nil _ _ _ _, Ext.refl w⟩
  · have HR := Lib.hid (hr.alloc (Nat.le_refl _) (.cells #[] 103))
    have HN := Lib.hid hn
    have HO := Lib.hid h1
    clear hr h1 hn
    go_wp2_with (at_builtin; refine wpList_append_any _ rfl (.tmp 5) (.tmp 6) 92 rfl w.heap.size 103 i0 (.agg #[.int .i64 0, .int .u64 0]) 2 16 Tryz.underlying92 hi hz0 hz1 hz2 rfl (by decide) _ 0 [] rfl (own_empty w _ _ rfl (Nat.le_refl _) _ _) w.heap.size _ _ _ xs rfl HR.out HO.out (by have := HN.out; simp only [maxLen]; omega) (by have := HN.out; omega) (by simp) ?_; intro v2 w2 hown2 hg2 _)
    go_ret
    rw [Nat.zero_add, List.nil_append] at hown2
    exact ⟨_, rfl, hown2, ext_grown ((Ext.refl w).alloc _) (own_empty w _ _ rfl (Nat.le_refl _) 103 2) hg2⟩
set_option maxRecDepth 100000 in
set_option maxHeartbeats 1000000 in
theorem cloneU_any (A : Option Addr) (n c : Nat) (xs : List Value) (h1 : ∀ u ∈ xs, u.oneCell' = true) (hn : n ≤ 1099511627776) (w : World) (hr : Reads w w.heap.size 7 A n xs) :
    Calls Tryz.prog 187 #[.slice A n c] w fun e w' => ∃ v, e = .returned v ∧ w'.ownsRow w.heap.size 192 7 v n xs ∧ Ext w w' := by
  obtain ⟨i0, hi, hz0, hz1, hz2⟩ := info_parts Tryz.infoAut
  have hq := fun (w : World) (a : Option Addr) (n c : Nat) => Lib.run_eql_slice_nil (P := Tryz.prog) w 93 192 a n c 0 0 Tryz.underlying93
  go_enter Tryz.func187, Tryz.ntmps187
  rcases A with _ | ad
  · have h0 : n = 0 := by
      rcases Nat.eq_zero_or_pos n with h0 | h0
      · exact h0
      · obtain ⟨_, e, _⟩ := hr.2 h0; cases e
    subst h0
    have hx : xs = [] := List.eq_nil_of_length_eq_zero (by simpa using hr.1)
    subst hx
    clear hr h1 hn
    go_wp2
    go_ret
    exact ⟨_, rfl, World.ownsRow_nil _ _ _ _, Ext.refl w⟩
  · have HR := Lib.hid (hr.alloc (Nat.le_refl _) (.cells #[] 192))
    have HN := Lib.hid hn
    have HO := Lib.hid h1
    clear hr h1 hn
    go_wp2_with (at_builtin; refine wpList_append_any _ rfl (.tmp 5) (.tmp 6) 93 rfl w.heap.size 192 i0 (.agg #[.int .i64 0, .int .i64 0, .string ⟨#[]⟩, .string ⟨#[]⟩, .int .i64 0, .int .i64 0, .int .i64 0]) 7 72 Tryz.underlying93 hi hz0 hz1 hz2 rfl (by decide) _ 0 [] rfl (own_empty w _ _ rfl (Nat.le_refl _) _ _) w.heap.size _ _ _ xs rfl HR.out HO.out (by have := HN.out; simp only [maxLen]; omega) (by have := HN.out; omega) (by simp) ?_; intro v2 w2 hown2 hg2 _)
    go_ret
    rw [Nat.zero_add, List.nil_append] at hown2
    exact ⟨_, rfl, hown2, ext_grown ((Ext.refl w).alloc _) (own_empty w _ _ rfl (Nat.le_refl _) 192 7) hg2⟩
set_option maxRecDepth 100000 in
set_option maxHeartbeats 1000000 in
theorem cloneO_any (A : Option Addr) (n c : Nat) (xs : List Value) (h1 : ∀ u ∈ xs, u.oneCell' = true) (hn : n ≤ 1099511627776) (w : World) (hr : Reads w w.heap.size 8 A n xs) :
    Calls Tryz.prog 191 #[.slice A n c] w fun e w' => ∃ v, e = .returned v ∧ w'.ownsRow w.heap.size 109 8 v n xs ∧ Ext w w' := by
  obtain ⟨i0, hi, hz0, hz1, hz2⟩ := info_parts Tryz.infoOrd
  have hq := fun (w : World) (a : Option Addr) (n c : Nat) => Lib.run_eql_slice_nil (P := Tryz.prog) w 94 109 a n c 0 0 Tryz.underlying94
  go_enter Tryz.func191, Tryz.ntmps191
  rcases A with _ | ad
  · have h0 : n = 0 := by
      rcases Nat.eq_zero_or_pos n with h0 | h0
      · exact h0
      · obtain ⟨_, e, _⟩ := hr.2 h0; cases e
    subst h0
    have hx : xs = [] := List.eq_nil_of_length_eq_zero (by simpa using hr.1)
    subst hx
    clear hr h1 hn
    go_wp2
    go_ret
    exact ⟨_, rfl, World.ownsRow_nil _ _ _ _, Ext.refl w⟩
  · have HR := Lib.hid (hr.alloc (Nat.le_refl _) (.cells #[] 109))
    have HN := Lib.hid hn
    have HO := Lib.hid h1
    clear hr h1 hn
    go_wp2_with (at_builtin; refine wpList_append_any _ rfl (.tmp 5) (.tmp 6) 94 rfl w.heap.size 109 i0 (.agg #[.int .i64 0, .int .i64 0, .slice none 0 0, .int .u64 0, .int .i64 0, .slice none 0 0, .int .i64 0, .int .i64 0]) 8 96 Tryz.underlying94 hi hz0 hz1 hz2 rfl (by decide) _ 0 [] rfl (own_empty w _ _ rfl (Nat.le_refl _) _ _) w.heap.size _ _ _ xs rfl HR.out HO.out (by have := HN.out; simp only [maxLen]; omega) (by have := HN.out; omega) (by simp) ?_; intro v2 w2 hown2 hg2 _)
    go_ret
    rw [Nat.zero_add, List.nil_append] at hown2
    exact ⟨_, rfl, hown2, ext_grown ((Ext.refl w).alloc _) (own_empty w _ _ rfl (Nat.le_refl _) 109 8) hg2⟩
end Go.Proofs.YtfpmfegmehbfbaaGreatDoor

/- nonce.old; slices.IndexFunc at what a door holds, walked. -/
namespace Go.Proofs.YtfpmfegmehbfbaaGreatDoor
set_option linter.unusedVariables false
set_option linter.unusedSimpArgs false
open Go.RowKit Go.Shelf Go.Maps

theorem old_any (now : Int) (w : World) : Calls Tryz.prog 181 #[.int .i64 now] w fun e w' =>
    e = .returned (.func (.func 241) #[] #[.pointer (some ⟨w.heap.size, 0, none⟩)]) ∧ w.alloc (.cells #[.int .i64 now] 3) = w' := by
  go_enter Tryz.func181, Tryz.ntmps181
  go_wp2
  go_ret
  exact ⟨rfl, rfl⟩
theorem old1_enters : Enters Tryz.prog 241 := enters_of Tryz.func241 (by kernel_rfl) rfl
theorem old1_any (x : NonR) (now : Int) (g : Nat) (w : World) (h : w.cell? ⟨g, 0, none⟩ = some (.int .i64 now)) : Calls Tryz.prog 241 #[.agg #[.int .i64 x.n, .int .i64 x.u], .pointer (some ⟨g, 0, none⟩)] w fun e w' =>
    e = .returned (.bool (decide (x.u < now))) ∧ Ext w w' := by
  have h2 := (Ext.refl w).alloc (.cells #[.int .i64 x.n, .int .i64 x.u] 274) |>.cell h
  go_enter Tryz.func241, Tryz.ntmps241
  go_wp2
  go_ret
  exact ⟨rfl, (Ext.refl w).alloc _⟩
/-- Where the first is at which f holds, or -1. -/
def ixG {α : Type} (f : α → Bool) (l : List α) : Int := match l.findIdx? f with | some i => (i : Int) | none => -1
set_option maxRecDepth 100000 in
set_option maxHeartbeats 2000000 in
theorem indexN_any (F : FuncId) (hE : Enters Tryz.prog F) (cap : Array Value) (f : NonR → Bool) (l : List NonR) (hn : l.length ≤ 1099511627776) (A : Option Addr) (c : Nat) (w : World) (hr : Reads w w.heap.size 2 A l.length (nonV l))
    (hstep : ∀ (W : World) (s : NonR), s ∈ l → Ext w W → Calls Tryz.prog F (#[.agg #[.int .i64 s.n, .int .i64 s.u]] ++ cap) W fun e w' => e = .returned (.bool (f s)) ∧ Ext W w') :
    Calls Tryz.prog 309 #[.slice A l.length c, .func (.func F) #[] cap] w fun e w' => e = .returned (.int .i64 (ixG f l)) ∧ Ext w w' := by
  have hr0 : Hid (Reads w w.heap.size 2 A l.length (nonV l)) := Lib.hid hr
  have HN := Lib.hid hn
  have HS := Lib.hid hstep
  unfold Enters at hE
  clear hr hn hstep
  go_enter Tryz.func309, Tryz.ntmps309
  go_wp2
  go_loopg [8] l.length (fun m s8 wr => ∃ j : Nat, j + m = l.length ∧ s8 = .int .i64 j ∧ (∀ s ∈ l.take j, f s = false) ∧ Ext w wr)
  case atStart => exact ⟨0, by omega, rfl, by simp, Ext.refl w⟩
  case round =>
    obtain ⟨j, hj, rfl, hok, hx⟩ := hrel
    by_cases h : j < l.length
    · obtain ⟨s, hs⟩ : ∃ s, l[j]? = some s := ⟨_, List.getElem?_eq_getElem h⟩
      obtain ⟨ad, rfl, hlt, q0, q1⟩ := reads_non (hr0.out.below hx.out) hs
      have hjb : (j : Int) ≤ 1099511627776 := by have := HN.out; omega
      have c1 := fun (W : World) => HS.out W s (List.mem_of_getElem? hs)
      have e1 : l.take (j + 1) = l.take j ++ [s] := by rw [List.take_add_one, hs]; rfl
      cases hf : f s with
      | true =>
        have kk : Hid (ixG f l = (j : Int)) := Lib.hid (by
          have : l.findIdx? f = some j := by
            rw [List.findIdx?_eq_some_iff_getElem]
            have hsg := (List.getElem?_eq_some_iff.1 hs).2
            refine ⟨h, by rw [hsg]; exact hf, fun i hi => ?_⟩
            have := hok (l[i]'(by omega)) (List.mem_take_iff_getElem.2 ⟨i, by omega, rfl⟩)
            rw [this]; decide
          unfold ixG; rw [this])
        rw [hf] at c1
        have HX := Lib.hid hx
        clear hx hj hs hf hok e1
        go_wp2_with (go_at_fn F; refine (c1 _ HX.out).mono ?_; clear c1; rintro e w1 ⟨rfl, x1⟩)
        go_ret
        exact ⟨by rw [kk.out]; rfl, HX.out.trans x1⟩
      | false =>
        have hok' : Hid (∀ s ∈ l.take (j + 1), f s = false) := Lib.hid fun r hr => by
          rw [e1] at hr
          rcases List.mem_append.1 hr with hr | hr
          · exact hok r hr
          · rw [List.mem_singleton] at hr; subst hr; exact hf
        rw [hf] at c1
        have HX := Lib.hid hx
        have HJ := Lib.hid hj
        clear hx hj hs hf hok e1
        go_wp2_with (go_at_fn F; refine (c1 _ HX.out).mono ?_; clear c1; rintro e w1 ⟨rfl, x1⟩)
        have hj := HJ.out
        go_roundg (gk - 1)
        case measure => omega
        case rel => exact ⟨j + 1, by omega, int_congr (by omega), hok'.out, HX.out.trans x1⟩
    · obtain rfl : j = l.length := by omega
      rw [List.take_length] at hok
      have kk : Hid (ixG f l = -1) := Lib.hid (by
        have : l.findIdx? f = none := List.findIdx?_eq_none_iff.2 hok
        unfold ixG; rw [this])
      have HX := Lib.hid hx
      clear hx hj h hok
      go_wp2
      go_ret
      exact ⟨by rw [kk.out]; rfl, HX.out⟩
set_option maxRecDepth 100000 in
set_option maxHeartbeats 2000000 in
theorem indexA_any (F : FuncId) (hE : Enters Tryz.prog F) (cap : Array Value) (f : AccR → Bool) (l : List AccR) (hn : l.length ≤ 1099511627776) (A : Option Addr) (c : Nat) (w : World) (hr : Reads w w.heap.size 2 A l.length (accV l))
    (hstep : ∀ (W : World) (s : AccR), s ∈ l → Ext w W → Calls Tryz.prog F (#[.agg #[.int .i64 s.id, .int .u64 (s.key : Int)]] ++ cap) W fun e w' => e = .returned (.bool (f s)) ∧ Ext W w') :
    Calls Tryz.prog 184 #[.slice A l.length c, .func (.func F) #[] cap] w fun e w' => e = .returned (.int .i64 (ixG f l)) ∧ Ext w w' := by
  have hr0 : Hid (Reads w w.heap.size 2 A l.length (accV l)) := Lib.hid hr
  have HN := Lib.hid hn
  have HS := Lib.hid hstep
  unfold Enters at hE
  clear hr hn hstep
  go_enter Tryz.func184, Tryz.ntmps184
  go_wp2
  go_loopg [8] l.length (fun m s8 wr => ∃ j : Nat, j + m = l.length ∧ s8 = .int .i64 j ∧ (∀ s ∈ l.take j, f s = false) ∧ Ext w wr)
  case atStart => exact ⟨0, by omega, rfl, by simp, Ext.refl w⟩
  case round =>
    obtain ⟨j, hj, rfl, hok, hx⟩ := hrel
    by_cases h : j < l.length
    · obtain ⟨s, hs⟩ : ∃ s, l[j]? = some s := ⟨_, List.getElem?_eq_getElem h⟩
      obtain ⟨ad, rfl, hlt, q0, q1⟩ := reads_acc (hr0.out.below hx.out) hs
      have hjb : (j : Int) ≤ 1099511627776 := by have := HN.out; omega
      have c1 := fun (W : World) => HS.out W s (List.mem_of_getElem? hs)
      have e1 : l.take (j + 1) = l.take j ++ [s] := by rw [List.take_add_one, hs]; rfl
      cases hf : f s with
      | true =>
        have kk : Hid (ixG f l = (j : Int)) := Lib.hid (by
          have : l.findIdx? f = some j := by
            rw [List.findIdx?_eq_some_iff_getElem]
            have hsg := (List.getElem?_eq_some_iff.1 hs).2
            refine ⟨h, by rw [hsg]; exact hf, fun i hi => ?_⟩
            have := hok (l[i]'(by omega)) (List.mem_take_iff_getElem.2 ⟨i, by omega, rfl⟩)
            rw [this]; decide
          unfold ixG; rw [this])
        rw [hf] at c1
        have HX := Lib.hid hx
        clear hx hj hs hf hok e1
        go_wp2_with (go_at_fn F; refine (c1 _ HX.out).mono ?_; clear c1; rintro e w1 ⟨rfl, x1⟩)
        go_ret
        exact ⟨by rw [kk.out]; rfl, HX.out.trans x1⟩
      | false =>
        have hok' : Hid (∀ s ∈ l.take (j + 1), f s = false) := Lib.hid fun r hr => by
          rw [e1] at hr
          rcases List.mem_append.1 hr with hr | hr
          · exact hok r hr
          · rw [List.mem_singleton] at hr; subst hr; exact hf
        rw [hf] at c1
        have HX := Lib.hid hx
        have HJ := Lib.hid hj
        clear hx hj hs hf hok e1
        go_wp2_with (go_at_fn F; refine (c1 _ HX.out).mono ?_; clear c1; rintro e w1 ⟨rfl, x1⟩)
        have hj := HJ.out
        go_roundg (gk - 1)
        case measure => omega
        case rel => exact ⟨j + 1, by omega, int_congr (by omega), hok'.out, HX.out.trans x1⟩
    · obtain rfl : j = l.length := by omega
      rw [List.take_length] at hok
      have kk : Hid (ixG f l = -1) := Lib.hid (by
        have : l.findIdx? f = none := List.findIdx?_eq_none_iff.2 hok
        unfold ixG; rw [this])
      have HX := Lib.hid hx
      clear hx hj h hok
      go_wp2
      go_ret
      exact ⟨by rw [kk.out]; rfl, HX.out⟩
set_option maxRecDepth 100000 in
set_option maxHeartbeats 2000000 in
theorem indexU_any (F : FuncId) (hE : Enters Tryz.prog F) (cap : Array Value) (f : AutR → Bool) (l : List AutR) (hn : l.length ≤ 1099511627776) (A : Option Addr) (c : Nat) (w : World) (hr : Reads w w.heap.size 7 A l.length (autV l))
    (hstep : ∀ (W : World) (s : AutR), s ∈ l → Ext w W → Calls Tryz.prog F (#[.agg #[.int .i64 s.id, .int .i64 s.acc, .string s.name, .string s.tok, .int .i64 s.st, .int .i64 s.fr, .int .i64 s.un]] ++ cap) W fun e w' => e = .returned (.bool (f s)) ∧ Ext W w') :
    Calls Tryz.prog 188 #[.slice A l.length c, .func (.func F) #[] cap] w fun e w' => e = .returned (.int .i64 (ixG f l)) ∧ Ext w w' := by
  have hr0 : Hid (Reads w w.heap.size 7 A l.length (autV l)) := Lib.hid hr
  have HN := Lib.hid hn
  have HS := Lib.hid hstep
  unfold Enters at hE
  clear hr hn hstep
  go_enter Tryz.func188, Tryz.ntmps188
  go_wp2
  go_loopg [8] l.length (fun m s8 wr => ∃ j : Nat, j + m = l.length ∧ s8 = .int .i64 j ∧ (∀ s ∈ l.take j, f s = false) ∧ Ext w wr)
  case atStart => exact ⟨0, by omega, rfl, by simp, Ext.refl w⟩
  case round =>
    obtain ⟨j, hj, rfl, hok, hx⟩ := hrel
    by_cases h : j < l.length
    · obtain ⟨s, hs⟩ : ∃ s, l[j]? = some s := ⟨_, List.getElem?_eq_getElem h⟩
      obtain ⟨ad, rfl, hlt, q0, q1, q2, q3, q4, q5, q6⟩ := reads_aut (hr0.out.below hx.out) hs
      have hjb : (j : Int) ≤ 1099511627776 := by have := HN.out; omega
      have c1 := fun (W : World) => HS.out W s (List.mem_of_getElem? hs)
      have e1 : l.take (j + 1) = l.take j ++ [s] := by rw [List.take_add_one, hs]; rfl
      cases hf : f s with
      | true =>
        have kk : Hid (ixG f l = (j : Int)) := Lib.hid (by
          have : l.findIdx? f = some j := by
            rw [List.findIdx?_eq_some_iff_getElem]
            have hsg := (List.getElem?_eq_some_iff.1 hs).2
            refine ⟨h, by rw [hsg]; exact hf, fun i hi => ?_⟩
            have := hok (l[i]'(by omega)) (List.mem_take_iff_getElem.2 ⟨i, by omega, rfl⟩)
            rw [this]; decide
          unfold ixG; rw [this])
        rw [hf] at c1
        have HX := Lib.hid hx
        clear hx hj hs hf hok e1
        go_wp2_with (go_at_fn F; refine (c1 _ HX.out).mono ?_; clear c1; rintro e w1 ⟨rfl, x1⟩)
        go_ret
        exact ⟨by rw [kk.out]; rfl, HX.out.trans x1⟩
      | false =>
        have hok' : Hid (∀ s ∈ l.take (j + 1), f s = false) := Lib.hid fun r hr => by
          rw [e1] at hr
          rcases List.mem_append.1 hr with hr | hr
          · exact hok r hr
          · rw [List.mem_singleton] at hr; subst hr; exact hf
        rw [hf] at c1
        have HX := Lib.hid hx
        have HJ := Lib.hid hj
        clear hx hj hs hf hok e1
        go_wp2_with (go_at_fn F; refine (c1 _ HX.out).mono ?_; clear c1; rintro e w1 ⟨rfl, x1⟩)
        have hj := HJ.out
        go_roundg (gk - 1)
        case measure => omega
        case rel => exact ⟨j + 1, by omega, int_congr (by omega), hok'.out, HX.out.trans x1⟩
    · obtain rfl : j = l.length := by omega
      rw [List.take_length] at hok
      have kk : Hid (ixG f l = -1) := Lib.hid (by
        have : l.findIdx? f = none := List.findIdx?_eq_none_iff.2 hok
        unfold ixG; rw [this])
      have HX := Lib.hid hx
      clear hx hj h hok
      go_wp2
      go_ret
      exact ⟨by rw [kk.out]; rfl, HX.out⟩
set_option maxRecDepth 100000 in
set_option maxHeartbeats 2000000 in
theorem indexI_any (F : FuncId) (hE : Enters Tryz.prog F) (cap : Array Value) (f : Int → Bool) (l : List Int) (hn : l.length ≤ 1099511627776) (A : Option Addr) (c : Nat) (w : World) (hr : Reads w w.heap.size 1 A l.length (iv l))
    (hstep : ∀ (W : World) (s : Int), s ∈ l → Ext w W → Calls Tryz.prog F (#[.int .i64 s] ++ cap) W fun e w' => e = .returned (.bool (f s)) ∧ Ext W w') :
    Calls Tryz.prog 243 #[.slice A l.length c, .func (.func F) #[] cap] w fun e w' => e = .returned (.int .i64 (ixG f l)) ∧ Ext w w' := by
  have hr0 : Hid (Reads w w.heap.size 1 A l.length (iv l)) := Lib.hid hr
  have HN := Lib.hid hn
  have HS := Lib.hid hstep
  unfold Enters at hE
  clear hr hn hstep
  go_enter Tryz.func243, Tryz.ntmps243
  go_wp2
  go_loopg [8] l.length (fun m s8 wr => ∃ j : Nat, j + m = l.length ∧ s8 = .int .i64 j ∧ (∀ s ∈ l.take j, f s = false) ∧ Ext w wr)
  case atStart => exact ⟨0, by omega, rfl, by simp, Ext.refl w⟩
  case round =>
    obtain ⟨j, hj, rfl, hok, hx⟩ := hrel
    by_cases h : j < l.length
    · obtain ⟨s, hs⟩ : ∃ s, l[j]? = some s := ⟨_, List.getElem?_eq_getElem h⟩
      obtain ⟨ad, rfl, q0⟩ := reads_id (hr0.out.below hx.out) hs
      have hjb : (j : Int) ≤ 1099511627776 := by have := HN.out; omega
      have c1 := fun (W : World) => HS.out W s (List.mem_of_getElem? hs)
      have e1 : l.take (j + 1) = l.take j ++ [s] := by rw [List.take_add_one, hs]; rfl
      cases hf : f s with
      | true =>
        have kk : Hid (ixG f l = (j : Int)) := Lib.hid (by
          have : l.findIdx? f = some j := by
            rw [List.findIdx?_eq_some_iff_getElem]
            have hsg := (List.getElem?_eq_some_iff.1 hs).2
            refine ⟨h, by rw [hsg]; exact hf, fun i hi => ?_⟩
            have := hok (l[i]'(by omega)) (List.mem_take_iff_getElem.2 ⟨i, by omega, rfl⟩)
            rw [this]; decide
          unfold ixG; rw [this])
        rw [hf] at c1
        have HX := Lib.hid hx
        clear hx hj hs hf hok e1
        go_wp2_with (go_at_fn F; refine (c1 _ HX.out).mono ?_; clear c1; rintro e w1 ⟨rfl, x1⟩)
        go_ret
        exact ⟨by rw [kk.out]; rfl, HX.out.trans x1⟩
      | false =>
        have hok' : Hid (∀ s ∈ l.take (j + 1), f s = false) := Lib.hid fun r hr => by
          rw [e1] at hr
          rcases List.mem_append.1 hr with hr | hr
          · exact hok r hr
          · rw [List.mem_singleton] at hr; subst hr; exact hf
        rw [hf] at c1
        have HX := Lib.hid hx
        have HJ := Lib.hid hj
        clear hx hj hs hf hok e1
        go_wp2_with (go_at_fn F; refine (c1 _ HX.out).mono ?_; clear c1; rintro e w1 ⟨rfl, x1⟩)
        have hj := HJ.out
        go_roundg (gk - 1)
        case measure => omega
        case rel => exact ⟨j + 1, by omega, int_congr (by omega), hok'.out, HX.out.trans x1⟩
    · obtain rfl : j = l.length := by omega
      rw [List.take_length] at hok
      have kk : Hid (ixG f l = -1) := Lib.hid (by
        have : l.findIdx? f = none := List.findIdx?_eq_none_iff.2 hok
        unfold ixG; rw [this])
      have HX := Lib.hid hx
      clear hx hj h hok
      go_wp2
      go_ret
      exact ⟨by rw [kk.out]; rfl, HX.out⟩
end Go.Proofs.YtfpmfegmehbfbaaGreatDoor
