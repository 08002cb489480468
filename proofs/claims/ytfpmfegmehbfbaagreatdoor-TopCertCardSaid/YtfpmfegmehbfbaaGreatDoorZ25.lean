/- Parts of the proofs, put together: Der, Mk, Mk2. -/
import Derived.RangeFuncNested
import Derived.RangeFuncBound
import Derived.RangeFuncCalls
import Derived.RangeFuncLeaves
import Derived.Shelf.RegionOpen
import Derived.OwnWalkIn
import Derived.TacticsInMore
import Derived.LoopNIn
import Derived.LoopIn
import Derived.Test.YtfpmfegmehbfbaaGreatDoorShelf
import Derived.Test.YtfpmfegmehbfbaaGreatDoorZ12
import Derived.Test.YtfpmfegmehbfbaaGreatDoorZ14
import Derived.Test.YtfpmfegmehbfbaaGreatDoorZ15
import Derived.Test.YtfpmfegmehbfbaaGreatDoorZ24
/- Items, walked: the bytes of the one number that 'up' writes. -/
namespace Go.Proofs.YtfpmfegmehbfbaaGreatDoor
set_option linter.unusedVariables false
set_option linter.unusedSimpArgs false
set_option linter.unusedSimpArgs false
open Go.RowKit Go.Shelf Go.Maps

set_option maxRecDepth 100000 in
set_option maxHeartbeats 1000000 in
theorem cloneB_any (A : Option Addr) (n c : Nat) (xs : List Value) (h1 : ∀ u ∈ xs, u.oneCell' = true) (hn : n ≤ 1099511627776) (w : World) (hr : Reads w w.heap.size 1 A n xs) :
    Calls Tryz.prog 111 #[.slice A n c] w fun e w' => ∃ v, e = .returned v ∧ w'.ownsRow w.heap.size 5 1 v n xs ∧ Ext w w' := by
  obtain ⟨i0, hi, hz0, hz1, hz2⟩ := info_parts Tryz.infoU8
  have hq := fun (w : World) (a : Option Addr) (n c : Nat) => Lib.run_eql_slice_nil (P := Tryz.prog) w 22 5 a n c 0 0 Tryz.underlying22
  go_enter Tryz.func111, Tryz.ntmps111
  rcases A with _ | ad
  · have h0 : n = 0 := by
      rcases Nat.eq_zero_or_pos n with h0 | h0
      · exact h0
      · obtain ⟨_, e, _⟩ := hr.2 h0; cases e
    subst h0
    have hx : xs = [] := List.eq_nil_of_length_eq_zero (by simpa using hr.1)
    subst hx
    clear hr h1 hn
    go_wp2
    go_ret
    exact ⟨_, rfl, World.ownsRow_nil _ _ _ _, Ext.refl w⟩
  · have HR := Lib.hid (hr.alloc (Nat.le_refl _) (.cells #[] 5))
    have HN := Lib.hid hn
    have HO := Lib.hid h1
    clear hr h1 hn
    go_wp2_with (at_builtin; refine wpList_append_any _ rfl (.tmp 5) (.tmp 6) 22 rfl w.heap.size 5 i0 (.int .u8 0) 1 1 Tryz.underlying22 hi hz0 hz1 hz2 rfl (by decide) _ 0 [] rfl (own_empty w _ _ rfl (Nat.le_refl _) _ _) w.heap.size _ _ _ xs rfl HR.out HO.out (by have := HN.out; simp only [maxLen]; omega) (by have := HN.out; omega) (by simp) ?_; intro v2 w2 hown2 hg2 _)
    go_ret
    rw [Nat.zero_add, List.nil_append] at hown2
    exact ⟨_, rfl, hown2, ext_grown ((Ext.refl w).alloc _) (own_empty w _ _ rfl (Nat.le_refl _) 5 1) hg2⟩
/-- What least tells of bytes that begin with two noughts, and of the two at the end. -/
theorem least_00 (g k n c : Nat) (hn : 2 ≤ n) (w : World) (h0 : w.cell? ⟨g, k, none⟩ = some (.int .u8 0)) (h1 : w.cell? ⟨g, k + 1, none⟩ = some (.int .u8 0)) :
    Calls Tryz.prog 110 #[.slice (some ⟨g, k, none⟩) n c] w fun e w' => e = .returned (.bool false) ∧ w = w' := by
  have e0 : ((n : Int) == 0) = false := by rw [beq_eq_false_iff_ne]; omega
  have e1 : ((n : Int) == 1) = false := by rw [beq_eq_false_iff_ne]; omega
  have hn1 : (1 : Int) < n := by omega
  have hn0 : (0 : Int) < n := by omega
  by_cases h8 : n ≤ 8
  · have h8' : (n : Int) ≤ 8 := by omega
    go_enter Tryz.func110, Tryz.ntmps110
    go_wp2
    go_ret
    exact ⟨rfl, rfl⟩
  · have h8' : ¬ (n : Int) ≤ 8 := by omega
    go_enter Tryz.func110, Tryz.ntmps110
    go_wp2
    go_ret
    exact ⟨rfl, rfl⟩
theorem least_80 (g k c : Nat) (w : World) (h0 : w.cell? ⟨g, k, none⟩ = some (.int .u8 0)) (h1 : w.cell? ⟨g, k + 1, none⟩ = some (.int .u8 128)) :
    Calls Tryz.prog 110 #[.slice (some ⟨g, k, none⟩) 2 c] w fun e w' => e = .returned (.bool true) ∧ w = w' := by
  go_enter Tryz.func110, Tryz.ntmps110
  go_wp2
  go_ret
  exact ⟨rfl, rfl⟩
def derZ (j : Nat) : Array Value := if j = 8 then #[.int .u8 0, .int .u8 0, .int .u8 0, .int .u8 0, .int .u8 0, .int .u8 0, .int .u8 0, .int .u8 128] else #[.int .u8 0, .int .u8 0, .int .u8 0, .int .u8 0, .int .u8 0, .int .u8 0, .int .u8 0, .int .u8 0]
theorem derZ_at {j i : Nat} (hj : j < 8) (hi : i < 8) : (derZ j)[i]? = some (.int .u8 0) := by
  unfold derZ
  rw [if_neg (by omega)]
  have : i = 0 ∨ i = 1 ∨ i = 2 ∨ i = 3 ∨ i = 4 ∨ i = 5 ∨ i = 6 ∨ i = 7 := by omega
  rcases this with rfl | rfl | rfl | rfl | rfl | rfl | rfl | rfl <;> rfl
theorem derZ_step {j : Nat} (hj : j < 8) : (derZ j).setIfInBounds j (.int .u8 (if j = 7 then 128 else 0)) = derZ (j + 1) := by
  have : j = 0 ∨ j = 1 ∨ j = 2 ∨ j = 3 ∨ j = 4 ∨ j = 5 ∨ j = 6 ∨ j = 7 := by omega
  rcases this with rfl | rfl | rfl | rfl | rfl | rfl | rfl | rfl <;> rfl
theorem derZ_blk {W : World} {g j : Nat} {T : TypeId} {u : Value} (h : Blk W g T (derZ j)) (hj : j < 8) (hu : .int .u8 (if j = 7 then 128 else 0) = u) : Blk (W.setCell ⟨g, j, none⟩ u) g T (derZ (j + 1)) := by
  rw [← derZ_step hj, hu]; exact Blk.set_ h j u
set_option maxRecDepth 100000 in
set_option maxHeartbeats 4000000 in
theorem Int128_any (w : World) : Calls Tryz.prog 42 #[.int .i64 128] w fun e w' => ∃ A c, e = .returned (.agg #[.int .i64 2, .slice A 2 c, .slice none 0 0]) ∧ Reads w' w'.heap.size 1 A 2 [.int .u8 0, .int .u8 128] ∧ Ext w w' := by
  obtain ⟨W0, e0, b0, b1, x0⟩ := boxes2 w #[.int .i64 0, .slice none 0 0, .slice none 0 0] #[.int .u8 0, .int .u8 0, .int .u8 0, .int .u8 0, .int .u8 0, .int .u8 0, .int .u8 0, .int .u8 0] 77 198
  have HX0 := Lib.hid x0
  have HB0 := Lib.hid b0
  have HB1 := Lib.hid b1
  clear b0 b1 x0
  go_enter Tryz.func42, Tryz.ntmps42
  go_upto_region 2 with (fail)
  try rw [e0]
  clear e0
  go_wp2
  go_loopg [6] 8 (fun m s6 wr => ∃ j : Nat, j + m = 8 ∧ s6 = .int .i64 j ∧ Blk wr w.heap.size 77 #[.int .i64 0, .slice none 0 0, .slice none 0 0] ∧ Blk wr (w.heap.size + 1) 198 (derZ j) ∧ Ext w wr)
  case atStart => exact ⟨0, rfl, rfl, HB0.out, HB1.out, HX0.out⟩
  case round =>
    obtain ⟨j, hj, rfl, b0, b1, hx⟩ := hrel
    by_cases h : j < 8
    · have c1 := (b1.cell j).trans (derZ_at h h)
      have f1 := b1.frozen j
      have HB0 := Lib.hid b0
      have HB1 := Lib.hid b1
      have HX := Lib.hid hx
      clear b0 b1 hx
      have : j = 0 ∨ j = 1 ∨ j = 2 ∨ j = 3 ∨ j = 4 ∨ j = 5 ∨ j = 6 ∨ j = 7 := by omega
      rcases this with rfl | rfl | rfl | rfl | rfl | rfl | rfl | rfl
      all_goals
        go_wp2
        go_roundg (gk - 1)
        case measure => omega
        case rel => exact ⟨_ + 1, by omega, rfl, HB0.out.far (by simp) _, derZ_blk HB1.out (by decide) rfl, HX.out.setCell (p := ⟨w.heap.size + 1, _, none⟩) (Nat.le_succ _) _⟩
    · obtain rfl : j = 8 := by omega
      have HB0 := Lib.hid b0
      have HB1 := Lib.hid b1
      have HX := Lib.hid hx
      clear b0 b1 hx h
      go_wp2
      go_loopg [5] 6 (fun m s5 wz => ∃ k : Nat, k + m = 6 ∧ s5 = .slice (some ⟨w.heap.size + 1, k, none⟩) (8 - k) (8 - k) ∧ wz = wr)
      case atStart => exact ⟨0, rfl, rfl, rfl⟩
      case round =>
        obtain ⟨k, hk, rfl, rfl⟩ := hrel
        by_cases h : k < 6
        · have hc : ∀ i, i < 7 → wr.cell? ⟨w.heap.size + 1, i, none⟩ = some (.int .u8 0) := fun i hi => by
            rw [HB1.out.cell i]
            have : i = 0 ∨ i = 1 ∨ i = 2 ∨ i = 3 ∨ i = 4 ∨ i = 5 ∨ i = 6 := by omega
            rcases this with rfl | rfl | rfl | rfl | rfl | rfl | rfl <;> rfl
          have cL := least_00 (w.heap.size + 1) k (8 - k) (8 - k) (by omega) wr (hc k (by omega)) (hc (k + 1) (by omega))
          have h8 : ((8 - k : Nat) : Int) > 1 := by omega
          have h8' : (1 : Int) ≤ ((8 - k : Nat) : Int) := by omega
          clear hc
          go_wp2_with (go_at_call 110; refine cL.mono ?_; clear cL; rintro e w' ⟨rfl, rfl⟩)
          go_roundg (gk - 1)
          case measure => omega
          case rel => exact ⟨k + 1, by omega, rfl, rfl⟩
        · obtain rfl : k = 6 := by omega
          have c6 : wr.cell? ⟨w.heap.size + 1, 6, none⟩ = some (.int .u8 0) := HB1.out.cell 6
          have c7 : wr.cell? ⟨w.heap.size + 1, 7, none⟩ = some (.int .u8 128) := HB1.out.cell 7
          have cL := least_80 (w.heap.size + 1) 6 2 wr c6 c7
          have hR : Reads wr wr.heap.size 1 (some ⟨w.heap.size + 1, 6, none⟩) 2 [.int .u8 0, .int .u8 128] :=
            ⟨rfl, fun _ => ⟨_, rfl, HB1.out.lt, fun j u hj => by
              match j, hj with
              | 0, hj => cases hj; exact c6
              | 1, hj => cases hj; exact c7⟩⟩
          have cC := cloneB_any (some ⟨w.heap.size + 1, 6, none⟩) 2 2 _ (by simp [Value.oneCell']) (by decide) wr hR
          clear hR c6 c7 h hk
          go_wp2_with (first | (go_at_call 110; refine cL.mono ?_; clear cL; rintro e w' ⟨rfl, rfl⟩) | (go_at_call 111; refine cC.mono ?_; clear cC; rintro e w2 ⟨v2, rfl, ho2, x2⟩; obtain ⟨A2, c2, rfl, -, hr2⟩ := own_slice ho2; have z0 := ext_blk x2 HB0.out; have y0 := z0.cell 0; have y1 := z0.cell 1; have y2 := z0.cell 2; have f0 := z0.frozen 0; have f1 := z0.frozen 1; have f2 := z0.frozen 2))
          have hlt := HB0.out.lt
          have ho3 := own_far (own_far (own_far ho2 hlt 0 (.int .i64 2)) hlt 1 (.slice A2 2 c2)) hlt 2 (.slice none 0 0)
          obtain ⟨W3, e3⟩ : ∃ W, W = ((w2.setCell ⟨w.heap.size, 0, none⟩ (.int .i64 2)).setCell ⟨w.heap.size, 1, none⟩ (.slice A2 2 c2)).setCell ⟨w.heap.size, 2, none⟩ (.slice none 0 0) := ⟨_, rfl⟩
          have b3 : Blk W3 w.heap.size 77 #[.int .i64 2, .slice A2 2 c2, .slice none 0 0] := by rw [e3]; exact ((z0.set_ 0 _).set_ 1 _).set_ 2 _
          have hx3 : Ext w W3 := by rw [e3]; exact (((HX.out.trans x2).setCell (p := ⟨w.heap.size, 0, none⟩) (Nat.le_refl _) _).setCell (p := ⟨w.heap.size, 1, none⟩) (Nat.le_refl _) _).setCell (p := ⟨w.heap.size, 2, none⟩) (Nat.le_refl _) _
          rw [← e3] at ho3 ⊢
          clear e3 y0 y1 y2 f0 f1 f2 z0 hr2 ho2 x2
          have y0 := b3.cell 0
          have y1 := b3.cell 1
          have y2 := b3.cell 2
          obtain ⟨A3, c3, he3, -, hr3⟩ := own_slice ho3
          cases he3
          refine bodyPost_ret (v := .agg #[.int .i64 2, .slice A2 2 c2, .slice none 0 0]) (by simp [results, Tryz.results42, go_sem, y0, y1, y2]) rfl ⟨A2, c2, rfl, hr3, hx3⟩
end Go.Proofs.YtfpmfegmehbfbaaGreatDoor

/- Trees of hashes, walked: a leaf; what a range over parts collects. -/
namespace Go.Proofs.YtfpmfegmehbfbaaGreatDoor
set_option linter.unusedVariables false
set_option linter.unusedSimpArgs false
set_option linter.unusedSimpArgs false
open Go.RowKit Go.Shelf Go.Maps
attribute [local go_sem] Oper.semAt_some

/-- A leaf's hash. -/
def leafB (l : List Nat) : List Nat := coded (strN ⟨#[108, 101, 97, 102]⟩) [l]
theorem parts_one {W : World} {T : TypeId} {A : Option Addr} {l : List Nat} {c : Nat} (hr : Reads W W.heap.size 1 A l.length (bv l)) (hc : l.length ≤ c) : Parts (W.alloc (.cells #[.slice A l.length c] T)) (W.alloc (.cells #[.slice A l.length c] T)).heap.size (some ⟨W.heap.size, 0, none⟩) [l] := by
  refine ⟨[.slice A l.length c], ⟨by simp, fun _ => ⟨_, rfl, by simp, fun j u hj => ?_⟩⟩, fun j p hj => ?_⟩
  · rw [show (⟨W.heap.size, 0, none⟩ : Addr).add j = ⟨W.heap.size, j, none⟩ by simp [Addr.add]; exact fun h => h.symm, (Blk.new W T #[.slice A l.length c]).cell j]
    simpa using hj
  · match j, hj with
    | 0, hj =>
      cases hj
      exact ⟨A, c, rfl, hc, (hr.alloc (Nat.le_refl _) _).more (by simp)⟩
set_option maxHeartbeats 1000000 in
theorem Leaf_any (l : List Nat) (hl : ∀ x ∈ l, x < 256) (A : Option Addr) (c : Nat) (hc : l.length ≤ c) (w : World) (hr : Reads w w.heap.size 1 A l.length (bv l)) (htot : (leafB l).length ≤ 1099511627776) :
    Calls Tryz.prog 17 #[.slice A l.length c] w fun e w' => e = .returned (.agg #[.int .u64 ((hSum (leafB l)).1 : Int), .int .u64 ((hSum (leafB l)).2 : Int)]) ∧ Ext w w' := by
  obtain ⟨W0, e0⟩ : ∃ W, w.alloc (.cells #[.int .u64 0, .int .u64 0] 34) = W := ⟨_, rfl⟩
  have b0 : Blk W0 w.heap.size 34 #[.int .u64 0, .int .u64 0] := by rw [← e0]; exact Blk.new _ _ _
  have x0 : Ext w W0 := by rw [← e0]; exact (Ext.refl w).alloc _
  have c1 := Tagged_any ⟨#[108, 101, 97, 102]⟩ [l] (by simpa using hl) (some ⟨W0.heap.size, 0, none⟩) 1 _ (parts_one (T := 22) ((hr.below x0.out).more x0.size) hc) htot
  obtain ⟨t1, hr1⟩ : ∃ r, r = (hSum (leafB l)).1 := ⟨_, rfl⟩
  obtain ⟨t2, hr2⟩ : ∃ r, r = (hSum (leafB l)).2 := ⟨_, rfl⟩
  rw [show coded (strN ⟨#[108, 101, 97, 102]⟩) [l] = leafB l from rfl, ← hr1, ← hr2] at c1
  rw [← hr1, ← hr2]
  have HB0 := Lib.hid b0
  have HX0 := Lib.hid x0
  clear hr1 hr2 hr htot hl b0 x0
  go_enter Tryz.func17, Tryz.ntmps17
  go_upto_region 1 with (fail)
  try rw [e0]
  clear e0
  go_wp2_with (go_at_call 65; refine c1.mono ?_; clear c1; rintro e w2 ⟨rfl, x2⟩; have z0 := ext_blk x2 (HB0.out.alloc _); have y0 := z0.cell 0; have y1 := z0.cell 1; have f0 := z0.frozen 0; have f1 := z0.frozen 1)
  have z2 := (z0.set_ 0 (.int .u64 (t1 : Int))).set_ 1 (.int .u64 (t2 : Int))
  have v0 := z2.cell 0
  have v1 := z2.cell 1
  refine bodyPost_ret (v := .agg #[.int .u64 (t1 : Int), .int .u64 (t2 : Int)]) (by simp [results, Tryz.results17, go_sem, v0, v1]) rfl ⟨rfl, ((HX0.out.trans (((Ext.refl _).alloc _).trans x2)).setCell (p := ⟨w.heap.size, 0, none⟩) (Nat.le_refl _) _).setCell (p := ⟨w.heap.size, 1, none⟩) (Nat.le_refl _) _⟩
/-- Parts of a tree, in memory: a size and a root. -/
def prtC (x : Int × Nat × Nat) : List Value := [.int .i64 x.1, .int .u64 (x.2.1 : Int), .int .u64 (x.2.2 : Int)]
def prtV (l : List (Int × Nat × Nat)) : List Value := l.flatMap prtC
theorem Tryz.infoPart : (Tryz.prog.info? 148).map (fun i => (i.zero, i.size, i.bytes)) = some (some (.agg #[.int .i64 0, .int .u64 0, .int .u64 0]), 3, 24) := by kernel_rfl
theorem cell_rows_new (w : World) (xs : List Value) (t : TypeId) : ∀ j u, xs[j]? = some u → (w.alloc (.cells xs.toArray t)).cell? ((⟨w.heap.size, 0, none⟩ : Addr).add j) = some u := by
  intro j u hj
  rw [show (⟨w.heap.size, 0, none⟩ : Addr).add j = ⟨w.heap.size, j, none⟩ by simp [Addr.add]; exact fun h => h.symm, (Blk.new w t xs.toArray).cell j]
  simpa using hj
theorem own_keep {w w' : World} {base : Nat} {e : TypeId} {size n : Nat} {v : Value} {xs : List Value} (h : w.ownsRow base e size v n xs) (hk : ∀ g, v.ownBlock = some g → w'.heap[g]? = w.heap[g]?) : w'.ownsRow base e size v n xs := by
  refine ⟨h.1, ?_⟩
  rcases h.2 with h' | ⟨g, cap, cur, rfl, hb, hg, hr⟩
  · exact .inl h'
  · exact .inr ⟨g, cap, cur, rfl, hb, (hk g rfl).trans hg, hr⟩
set_option maxRecDepth 100000 in
set_option maxHeartbeats 4000000 in
theorem AppendSeq_any (gf : FuncId) (eg : ∀ args w, (callFunc gf args).run Tryz.prog w = .ok (.enter gf args) w) (lb : Array Value) (b : Nat) (T : List (Int × Nat × Nat) → Int × Nat × Nat → Prop) (S : List (Int × Nat × Nat) → Prop) (hlen : ∀ pre x, T pre x → pre.length ≤ 100000) (w : World) (hb : b < w.heap.size)
    (hseq : SeqC Fence.wide 4 Tryz.prog gf lb (fun x : Int × Nat × Nat => #[.agg #[.int .i64 x.1, .int .u64 (x.2.1 : Int), .int .u64 (x.2.2 : Int)]]) b w.heap.size T S (fun _ => True) w) :
    Calls Tryz.prog 139 #[.slice none 0 0, .func (.func gf) #[] lb] w fun e w' => ∃ xs A c, e = .returned (.slice A xs.length c) ∧ S xs ∧ xs.length ≤ c ∧ Reads w' w'.heap.size 3 A xs.length (prtV xs) ∧ w.grownBy w' (some b) ∧ w'.ownsRow w.heap.size 148 3 (.slice A xs.length c) xs.length (prtV xs) := by
  refine (callsIn_wide (n := 5)).1 ?_
  refine callsIn_of_wp_marks Tryz.func139 rfl trivial ?_ rfl
  simp only [Tryz.ntmps139, List.size_toArray, List.length_cons, List.length_nil, Nat.reduceAdd, Nat.reduceSub, Array.replicate_succ, Array.replicate_zero, List.push_toArray, List.append_toArray, List.nil_append, List.cons_append]
  gi_wp2
  obtain ⟨i0, hi, hz0, hz1, hz2⟩ := info_parts Tryz.infoPart
  obtain ⟨s0, hs0⟩ : ∃ s0, s0 = w.heap.size := ⟨_, rfl⟩
  obtain ⟨W0, hW0⟩ : ∃ W, w.alloc (.cells #[.slice none 0 0] 145) = W := ⟨_, rfl⟩
  have b0 : Boxed W0 s0 145 (.slice none 0 0) := by rw [← hW0, hs0]; exact heap_alloc_new w _
  have hE : Ext w W0 := by rw [← hW0]; exact (Ext.refl w).alloc _
  have hsz : W0.heap.size = s0 + 1 := by rw [← hW0, hs0]; simp
  have hseq0 : SeqC Fence.wide (5 - 1) Tryz.prog gf lb (fun x : Int × Nat × Nat => #[.agg #[.int .i64 x.1, .int .u64 (x.2.1 : Int), .int .u64 (x.2.2 : Int)]]) b s0 T S (fun _ => True) W0 := by
    rw [hs0]
    exact fun l J Jx W hW => hseq l J Jx W (hE.out.trans hW)
  rw [hW0, ← hs0]
  have hb' : b < s0 := by omega
  have Hs0 := Lib.hid hs0
  have HW0 := Lib.hid hW0
  have hi0 : w.grownBy W0 (some b) := grown_extR hE _
  clear hs0 hW0 hseq hE hb
  refine wpIn_range_boxA rfl (by omega) (gf := gf) (lb := lb) rfl trivial eg (en := fun x : Int × Nat × Nat => #[.agg #[.int .i64 x.1, .int .u64 (x.2.1 : Int), .int .u64 (x.2.2 : Int)]]) (b := b) (B := s0) (by omega) (by omega) (T := T) (S := S) (Sp := fun _ => True) hseq0 (fun _ => rfl)
    (fun pre W => (∃ v, Boxed W s0 145 v ∧ W.ownsRow s0 148 3 v pre.length (prtV pre)) ∧ w.grownBy W (some b) ∧ s0 < W.heap.size)
    (fun _ _ => False) ?hI ?hIx ⟨⟨_, b0, World.ownsRow_nil _ _ _ _⟩, hi0, by omega⟩
    (fun x W => { tmps := #[Value.slice none 0 0, Value.func (Fn.func gf) #[] lb, Value.pointer (some { block := s0, off := 0 }), undef, Value.slice none 0 0, Value.pointer (some { block := W.heap.size, off := 0 }), Value.func (Fn.func gf) #[] lb, Value.agg #[Value.int IntKind.i64 x.1, Value.int IntKind.u64 (x.2.1 : Int), Value.int IntKind.u64 (x.2.2 : Int)], undef, undef, undef, undef, undef], defers := [] })
    (fun x W => W.alloc (.cells #[.int .i64 x.1, .int .u64 (x.2.1 : Int), .int .u64 (x.2.2 : Int)] 148)) (fun x W => grown_alloc W _ _) ?assign ?body ?done ?stop
  case hI =>
    rintro pre X Y row ⟨⟨v, i1, i2⟩, i3, i4⟩ hg hr
    refine ⟨⟨v, i1.kept hg (fun e => ?_), own_keep i2 (fun g e => hg.block g ?_ (fun e2 => ?_))⟩, ?_, Nat.lt_of_lt_of_le i4 hg.size⟩
    · rcases hr s0 e.symm with h | ⟨_, o, ho, hc⟩
      · omega
      · rw [show X.heap[s0]? = _ from i1] at ho; cases ho; cases hc
    · rcases i2.2 with ⟨rfl, _⟩ | ⟨g', cap, cur, rfl, _, hgb, _⟩
      · simp [Value.ownBlock] at e
      · obtain rfl : g' = g := by simpa [Value.ownBlock] using e
        exact (Array.getElem?_eq_some_iff.1 hgb).1
    · rcases i2.2 with ⟨rfl, _⟩ | ⟨g', cap, cur, rfl, hbg, hgb, _⟩
      · simp [Value.ownBlock] at e
      · obtain rfl : g' = g := by simpa [Value.ownBlock] using e
        rcases hr g' e2.symm with h | ⟨_, o, ho, hc⟩
        · omega
        · rw [hgb] at ho; cases ho; cases hc
    · obtain ⟨a1, a2, a3, a4, a5⟩ := i3
      obtain ⟨b1, b2, b3, b4, b5⟩ := hg
      refine ⟨b1.trans a1, b2.trans a2, b3.trans a3, Nat.le_trans a4 b4, fun k hk hne => (b5 k (by omega) (fun e => ?_)).trans (a5 k hk hne)⟩
      rcases hr k e.symm with h | ⟨h, _⟩
      · exact hne (by rw [h])
      · have := Hs0.out; omega
  case hIx => intro pre X Y row h; exact h.elim
  case assign =>
    intro l x W K hK
    gi_wp2
    exact hK
  case body =>
    rintro l pre x W V r hT ⟨⟨v, i1, i2⟩, i3, i4⟩ hg ⟨o, ho, hoc⟩
    have hb5 : Blk V W.heap.size 148 #[.int .i64 x.1, .int .u64 (x.2.1 : Int), .int .u64 (x.2.2 : Int)] := by
      have h0 := Blk.new W 148 #[.int .i64 x.1, .int .u64 (x.2.1 : Int), .int .u64 (x.2.2 : Int)]
      refine Blk.grown h0 hg (fun e => ?_)
      cases e
      rw [show _ = _ from h0] at ho
      cases ho; cases hoc
    have m0 := hb5.cell 0
    have m1 := hb5.cell 1
    have m2 := hb5.cell 2
    have q0 := i1.cell
    have HP : Hid (pre.length ≤ 100000) := Lib.hid (hlen _ _ hT)
    have q1 : ∀ u ∈ [Value.int .i64 x.1, Value.int .u64 (x.2.1 : Int), Value.int .u64 (x.2.2 : Int)], u.oneCell' = true := by simp [Value.oneCell']
    have q2 : pre.length + 1 ≤ maxLen := by have := HP.out; unfold maxLen; omega
    have q3 : (pre.length + 1) * 24 ≤ 140737488355328 := by have := HP.out; omega
    have q4 : s0 ≤ (V.alloc (.cells #[.int .i64 x.1, .int .u64 (x.2.1 : Int), .int .u64 (x.2.2 : Int)] 148)).heap.size := by simp; omega
    gi_wp2_with (gi_at_builtin; refine wpListIn_append_own _ rfl _ _ 145 rfl s0 148 i0 (.agg #[.int .i64 0, .int .u64 0, .int .u64 0]) 3 24 Tryz.underlying145 hi hz0 hz1 hz2 rfl (by decide) _ _ _ rfl (i2.alloc _) ⟨V.heap.size, 0, none⟩ 1 1 [.int .i64 x.1, .int .u64 (x.2.1 : Int), .int .u64 (x.2.2 : Int)] rfl rfl (cell_rows_new V _ _) q1 q2 q3 q4 ?_; intro v' w1 hown' hgrow _; obtain ⟨g', cap', rfl⟩ := ownsRow_succ hown'; obtain ⟨hv1, hv2, hr2, hk2, hb2⟩ := i1.appended (by decide) i2 (Nat.le_of_lt i4) (Nat.le_refl _) hown' hgrow; have w0 := hv1.cell; have w1f := hv1.frozen)
    refine ⟨hk2, hb2, ⟨_, hv2, ?_⟩, ?_, ?_⟩
    · rw [show prtV (pre ++ [x]) = prtV pre ++ prtC x by unfold prtV; rw [List.flatMap_append]; simp, List.length_append]
      exact hr2
    · obtain ⟨a1, a2, a3, a4, a5⟩ := i3
      obtain ⟨b1, b2, b3, b4, b5⟩ := hb2
      exact ⟨b1.trans a1, b2.trans a2, b3.trans a3, Nat.le_trans a4 b4, fun k hk hne => (b5 k (by have := Hs0.out; omega)).trans (a5 k hk hne)⟩
    · exact hv2.lt
  case done =>
    rintro D ys W hD hS ⟨⟨v, i1, i2⟩, i3, i4⟩ hK
    obtain ⟨A, c, rfl, hc, -⟩ := own_slice2 i2
    have q0 := i1.cell
    gi_wp2
    refine ⟨by simp, .inl ⟨_, _, rfl, run_takeDeferred hK, ?_⟩⟩
    have o2 := ownsRow_putObj i2 (.deferred none) hK rfl
    obtain ⟨A', c', he, -, hr⟩ := own_slice2 o2
    cases he
    refine ⟨_, results_tmp rfl _ _ _, ys, A, c, rfl, hS, hc, hr, ?_, by rw [← Hs0.out]; exact o2⟩
    obtain ⟨a1, a2, a3, a4, a5⟩ := i3
    obtain ⟨b1, b2, b3, b4, b5⟩ := grownBy_putObj' W D (.deferred none)
    exact ⟨b1.trans a1, b2.trans a2, b3.trans a3, Nat.le_trans a4 b4, fun k hk hne => (b5 k (by omega) (by have := Hs0.out; simp; omega)).trans (a5 k hk hne)⟩
  case stop =>
    rintro D pre W _ _ h
    exact h.elim
theorem Collect_any (gf : FuncId) (eg : ∀ args w, (callFunc gf args).run Tryz.prog w = .ok (.enter gf args) w) (lb : Array Value) (b : Nat) (T : List (Int × Nat × Nat) → Int × Nat × Nat → Prop) (S : List (Int × Nat × Nat) → Prop) (hlen : ∀ pre x, T pre x → pre.length ≤ 100000) (w : World) (hb : b < w.heap.size)
    (hseq : SeqC Fence.wide 4 Tryz.prog gf lb (fun x : Int × Nat × Nat => #[.agg #[.int .i64 x.1, .int .u64 (x.2.1 : Int), .int .u64 (x.2.2 : Int)]]) b w.heap.size T S (fun _ => True) w) :
    Calls Tryz.prog 63 #[.func (.func gf) #[] lb] w fun e w' => ∃ xs A c, e = .returned (.slice A xs.length c) ∧ S xs ∧ xs.length ≤ c ∧ Reads w' w'.heap.size 3 A xs.length (prtV xs) ∧ w.grownBy w' (some b) ∧ w'.ownsRow w.heap.size 148 3 (.slice A xs.length c) xs.length (prtV xs) := by
  have c1 := AppendSeq_any gf eg lb b T S hlen w hb hseq
  clear hseq eg hlen
  go_enter Tryz.func63, Tryz.ntmps63
  go_wp2_with (go_at_call 139; refine c1.mono ?_; clear c1; rintro e w1 ⟨xs, A, c, rfl, hS, hc, hr, hg, ho⟩)
  go_ret
  exact ⟨xs, A, c, rfl, hS, hc, hr, hg, ho⟩
theorem Rev1_any (A : Option Addr) (c : Nat) (w : World) :
    Calls Tryz.prog 66 #[.slice A 1 c] w fun e w' => e = .returned (.tuple #[]) ∧ w = w' := by
  go_enter Tryz.func66, Tryz.ntmps66
  go_wp2
  go_loopg [2, 3] 0 (fun m s2 s3 wr => s2 = .int .i64 0 ∧ s3 = .int .i64 0 ∧ w = wr)
  case atStart => exact ⟨rfl, rfl, rfl⟩
  case round =>
    obtain ⟨rfl, rfl, rfl⟩ := hrel
    go_wp2
    go_end0
    exact ⟨rfl, rfl⟩
theorem Tryz.infoSum : (Tryz.prog.info? 34).map (fun i => (i.zero, i.size, i.bytes)) = some (some (.agg #[.int .u64 0, .int .u64 0]), 2, 16) := by kernel_rfl
set_option maxRecDepth 100000 in
set_option maxHeartbeats 1000000 in
theorem cloneS_any (A : Option Addr) (n c : Nat) (xs : List Value) (h1 : ∀ u ∈ xs, u.oneCell' = true) (hn : n ≤ 1099511627776) (w : World) (hr : Reads w w.heap.size 2 A n xs) :
    Calls Tryz.prog 141 #[.slice A n c] w fun e w' => ∃ v, e = .returned v ∧ w'.ownsRow w.heap.size 34 2 v n xs ∧ Ext w w' := by
  obtain ⟨i0, hi, hz0, hz1, hz2⟩ := info_parts Tryz.infoSum
  have hq := fun (w : World) (a : Option Addr) (n c : Nat) => Lib.run_eql_slice_nil (P := Tryz.prog) w 42 34 a n c 0 0 Tryz.underlying42
  go_enter Tryz.func141, Tryz.ntmps141
  rcases A with _ | ad
  · have h0 : n = 0 := by
      rcases Nat.eq_zero_or_pos n with h0 | h0
      · exact h0
      · obtain ⟨_, e, _⟩ := hr.2 h0; cases e
    subst h0
    have hx : xs = [] := List.eq_nil_of_length_eq_zero (by simpa using hr.1)
    subst hx
    clear hr h1 hn
    go_wp2
    go_ret
    exact ⟨_, rfl, World.ownsRow_nil _ _ _ _, Ext.refl w⟩
  · have HR := Lib.hid (hr.alloc (Nat.le_refl _) (.cells #[] 34))
    have HN := Lib.hid hn
    have HO := Lib.hid h1
    clear hr h1 hn
    go_wp2_with (at_builtin; refine wpList_append_any _ rfl (.tmp 5) (.tmp 6) 42 rfl w.heap.size 34 i0 (.agg #[.int .u64 0, .int .u64 0]) 2 16 Tryz.underlying42 hi hz0 hz1 hz2 rfl (by decide) _ 0 [] rfl (own_empty w _ _ rfl (Nat.le_refl _) _ _) w.heap.size _ _ _ xs rfl HR.out HO.out (by have := HN.out; simp only [maxLen]; omega) (by have := HN.out; omega) (by simp) ?_; intro v2 w2 hown2 hg2 _)
    go_ret
    rw [Nat.zero_add, List.nil_append] at hown2
    exact ⟨_, rfl, hown2, ext_grown ((Ext.refl w).alloc _) (own_empty w _ _ rfl (Nat.le_refl _) 34 2) hg2⟩
end Go.Proofs.YtfpmfegmehbfbaaGreatDoor

/- Trees of hashes, walked: the root of one leaf. -/
namespace Go.Proofs.YtfpmfegmehbfbaaGreatDoor
set_option linter.unusedVariables false
set_option linter.unusedSimpArgs false
set_option linter.unusedSimpArgs false
open Go.RowKit Go.Shelf Go.Maps
attribute [local go_sem] Oper.semAt_some

set_option maxRecDepth 100000 in
set_option maxHeartbeats 4000000 in
theorem parts1_in (n : Nat) (hn : 1 ≤ n) (l bs B g k c a1 a2 : Nat) (hs : bs < B) (hg : g < B) (hne : g ≠ bs) (hc : 1 ≤ c) (J Jx : List (Int × Nat × Nat) → World → Prop) (hJ : AbB bs J)
    (hY : ∀ pre x X, (pre = [] ∧ x = ((1 : Int), a1, a2)) → J pre X → YieldAt Fence.wide (n - 1) Tryz.prog l #[.agg #[.int .i64 x.1, .int .u64 (x.2.1 : Int), .int .u64 (x.2.2 : Int)]] X fun e Y => (e = .returned (.bool true) ∧ J (pre ++ [x]) Y ∧ Below B X Y) ∨ (e = .returned (.bool false) ∧ Jx (pre ++ [x]) Y))
    (W : World) (hb : Boxed W bs 42 (.slice (some ⟨g, k, none⟩) 1 c)) (h1 : W.cell? ⟨g, k, none⟩ = some (.int .u64 (a1 : Int))) (h2 : W.cell? ⟨g, k + 1, none⟩ = some (.int .u64 (a2 : Int))) (h0 : J [] W) :
    CallsIn Fence.wide n Tryz.prog 140 #[.func (.yield l) #[] #[], .pointer (some ⟨bs, 0, none⟩)] W fun e Y => (∃ v, e = .returned v) ∧
      ((∃ xs : List (Int × Nat × Nat), xs = [(1, a1, a2)] ∧ J xs Y) ∨ (∃ pre : List (Int × Nat × Nat), True ∧ Jx pre Y)) := by
  have cL : ∀ m w, CallsIn Fence.wide m Tryz.prog 134 #[.int .u64 1] w fun e w' => e = .returned (.int .i64 1) ∧ w = w' := fun m w =>
    callsIn_wide.2 ((Tryz.bits_Len 1 w (by decide) (by decide)).mono fun e w' ⟨he, hw⟩ => ⟨he, hw.symm⟩)
  have hR : Reads W W.heap.size 2 (some ⟨g, k, none⟩) 1 [.int .u64 (a1 : Int), .int .u64 (a2 : Int)] := ⟨rfl, fun _ => ⟨_, rfl, World.block_lt_of_cell? _ _ h1, fun j u hj => by
    match j, hj with
    | 0, hj => cases hj; exact h1
    | 1, hj => cases hj; exact h2⟩⟩
  have cC : ∀ m, CallsIn Fence.wide m Tryz.prog 141 #[.slice (some ⟨g, k, none⟩) 1 c] W _ := fun m => callsIn_wide.2 (cloneS_any (some ⟨g, k, none⟩) 1 c _ (by simp [Value.oneCell']) (by decide) W hR)
  have m0 := hb.cell
  clear h1 h2 hR
  refine callsIn_of_wp Tryz.func140 rfl trivial ?_ rfl
  simp only [Tryz.ntmps140, List.size_toArray, List.length_cons, List.length_nil, Nat.reduceAdd, Nat.reduceSub, Array.replicate_succ, Array.replicate_zero, List.push_toArray, List.append_toArray, List.nil_append, List.cons_append]
  gi_wp2
  refine wpIn_loop_rounds 2 ?_
  rw [roundsIn_succ]
  gi_wp2_with (first | (refine ⟨trivial, ?_⟩; gi_at_call 134; refine (cL _ _).mono ?_; clear cL; rintro e w' ⟨rfl, rfl⟩) | (refine ⟨trivial, ?_⟩; gi_at_call 141; refine (cC _).mono ?_; clear cC; rintro e w2 ⟨v2, rfl, ho2, x2⟩; obtain ⟨A2, c2, rfl, hc2, hr2⟩ := own_slice2 ho2))
  obtain ⟨⟨g2, k2, sp⟩, rfl, -, hcell⟩ := hr2.2 (by decide)
  have y1 := hcell 0 _ rfl
  have y2 := hcell 1 _ rfl
  have e0 : (⟨g2, k2, sp⟩ : Addr).add 0 = ⟨g2, k2, sp⟩ := by simp [Addr.add]
  rw [e0] at y1
  have hsp : sp = none := World.cell?_spot y1
  subst hsp
  have y2 : w2.cell? ⟨g2, k2 + 1, none⟩ = some (.int .u64 (a2 : Int)) := y2
  have hb2 : Boxed w2 bs 42 (.slice (some ⟨g, k, none⟩) 1 c) := Blk.below hb x2.out hb.lt
  have hJ2 : J [] w2 := hJ _ _ _ none h0 (grown_extN x2) (fun r e => by cases e)
  clear hr2 hcell e0 ho2 hb m0 h0
  have m0 := hb2.cell
  gi_wp2
  refine wpIn_loop_rounds 1 ?_
  rw [roundsIn_succ]
  obtain ⟨fn, tmps, assign, body, hy, hR⟩ := hY [] (1, a1, a2) w2 ⟨rfl, rfl⟩ hJ2
  gi_wp2
  refine hR.mono ?_
  clear hR
  rintro e Y (⟨rfl, hJ1, hb1⟩ | ⟨rfl, hJ1⟩)
  · have hb3 : Boxed Y bs 42 (.slice (some ⟨g, k, none⟩) 1 c) := Blk.below hb2 hb1 hs
    have m3 := hb3.cell
    have f3 := hb3.frozen
    clear m0 y1 y2 hb1 hJ2
    gi_wp2
    all_goals
      rw [roundsIn_succ]
      gi_wp2
      go_end0
      exact ⟨⟨_, rfl⟩, .inl ⟨_, rfl, hJ _ _ _ _ hJ1 (grownBy_setCell' _ bs _) (fun r e => by cases e; rfl)⟩⟩
  · gi_wp2
    first | (refine bodyPost_ret (results_none rfl _ _ _) rfl ?_) | go_end0
    exact ⟨⟨_, rfl⟩, .inr ⟨_, trivial, hJ1⟩⟩
theorem parts_any (v : Value) (hv : ∃ A n c, v = .slice A n c) (w : World) : Calls Tryz.prog 64 #[v] w fun e w' =>
    e = .returned (.func (.func 140) #[] #[.pointer (some ⟨w.heap.size, 0, none⟩)]) ∧ w.alloc (.cells #[v] 42) = w' := by
  obtain ⟨A, n, c, rfl⟩ := hv
  go_enter Tryz.func64, Tryz.ntmps64
  go_wp2
  go_ret
  exact ⟨rfl, rfl⟩
set_option maxRecDepth 100000 in
set_option maxHeartbeats 4000000 in
theorem Root1_any (g k c a1 a2 : Nat) (hc : 1 ≤ c) (w : World) (h1 : w.cell? ⟨g, k, none⟩ = some (.int .u64 (a1 : Int))) (h2 : w.cell? ⟨g, k + 1, none⟩ = some (.int .u64 (a2 : Int))) :
    Calls Tryz.prog 15 #[.slice (some ⟨g, k, none⟩) 1 c] w fun e w' => e = .returned (.agg #[.int .u64 (a1 : Int), .int .u64 (a2 : Int)]) ∧ Ext w w' := by
  obtain ⟨W0, e0⟩ : ∃ W, w.alloc (.cells #[.int .u64 0, .int .u64 0] 34) = W := ⟨_, rfl⟩
  have b0 : Blk W0 w.heap.size 34 #[.int .u64 0, .int .u64 0] := by rw [← e0]; exact Blk.new _ _ _
  have x0 : Ext w W0 := by rw [← e0]; exact (Ext.refl w).alloc _
  have hg : g < w.heap.size := World.block_lt_of_cell? _ _ h1
  have s0 : W0.heap.size = w.heap.size + 1 := by rw [← e0]; simp
  obtain ⟨W1, e1⟩ : ∃ W, W0.alloc (.cells #[.slice (some ⟨g, k, none⟩) 1 c] 42) = W := ⟨_, rfl⟩
  have b1 : Boxed W1 W0.heap.size 42 (.slice (some ⟨g, k, none⟩) 1 c) := by rw [← e1]; exact Boxed.new _ _ _
  have x1 : Ext W0 W1 := by rw [← e1]; exact (Ext.refl _).alloc _
  have s1 : W1.heap.size = W0.heap.size + 1 := by rw [← e1]; simp
  have cP := parts_any (.slice (some ⟨g, k, none⟩) 1 c) ⟨_, _, _, rfl⟩ W0
  rw [e1] at cP
  have k1 := x1.cell (x0.cell h1)
  have k2 := x1.cell (x0.cell h2)
  have cC := Collect_any 140 (enters_of Tryz.func140 (by kernel_rfl) rfl) #[.pointer (some ⟨W0.heap.size, 0, none⟩)] W0.heap.size (fun pre x => pre = [] ∧ x = ((1 : Int), a1, a2)) (fun xs => xs = [((1 : Int), a1, a2)]) (fun pre x h => by rw [h.1]; simp) W1 (by omega)
    (fun l J Jx W hW hJ hJx hY h0 => parts1_in 4 (by omega) l W0.heap.size W1.heap.size g k c a1 a2 (by omega) (by omega) (by omega) hc J Jx hJ hY W (Blk.below b1 hW (by omega)) ((hW.cell (p := ⟨g, k, none⟩) (by simp; omega)).trans k1) ((hW.cell (p := ⟨g, k + 1, none⟩) (by simp; omega)).trans k2) h0)
  have HB0 := Lib.hid b0
  have HX0 := Lib.hid x0
  have HX1 := Lib.hid x1
  have HS0 := Lib.hid s0
  clear h1 h2 k1 k2 e1 b0 b1 x0 x1 s0 s1
  go_enter Tryz.func15, Tryz.ntmps15
  go_upto_region 1 with (fail)
  try rw [e0]
  clear e0
  go_upto_region 2 with (first | (go_at_call 64; refine cP.mono ?_; clear cP; rintro e w1 ⟨rfl, rfl⟩) | (go_at_call 63; refine cC.mono ?_; clear cC; rintro e w2 ⟨xs, A2, c2, rfl, rfl, hc2, hr2, hg2, -⟩))
  have x2 : Ext W0 w2 := Ext.of (HX1.out.out.grown hg2 HX1.out.size (fun k e => by cases e; exact Nat.le_refl _))
  obtain ⟨⟨g2, k2, sp⟩, rfl, -, hcell⟩ := hr2.2 (Nat.succ_pos _)
  have y0 := hcell 0 _ rfl
  have y1 := hcell 1 _ rfl
  have y2 := hcell 2 _ rfl
  have e0 : (⟨g2, k2, sp⟩ : Addr).add 0 = ⟨g2, k2, sp⟩ := by simp [Addr.add]
  rw [e0] at y0
  have hsp : sp = none := World.cell?_spot y0
  subst hsp
  have y1 : w2.cell? ⟨g2, k2 + 1, none⟩ = some (.int .u64 (a1 : Int)) := y1
  have y2 : w2.cell? ⟨g2, k2 + 1 + 1, none⟩ = some (.int .u64 (a2 : Int)) := y2
  have cR := Rev1_any (some ⟨g2, k2, none⟩) c2 w2
  have hc2 : 1 ≤ c2 := hc2
  have HX2 := Lib.hid x2
  clear hr2 hcell e0 y0 hg2 x2
  go_wp2_with (go_at_call 66; refine cR.mono ?_; clear cR; rintro e w3 ⟨rfl, rfl⟩)
  all_goals
    have b3 := Blk.new w2 34 #[.int .u64 (a1 : Int), .int .u64 (a2 : Int)]
    have x3 : Ext W0 (w2.alloc (.cells #[.int .u64 (a1 : Int), .int .u64 (a2 : Int)] 34)) := HX2.out.alloc _
    obtain ⟨W3, e3⟩ : ∃ W, w2.alloc (.cells #[.int .u64 (a1 : Int), .int .u64 (a2 : Int)] 34) = W := ⟨_, rfl⟩
    rw [e3] at b3 x3 ⊢
    clear e3 y1 y2
    go_loopg [23] 0 (fun m s23 wr => s23 = .int .i64 0 ∧ W3 = wr)
    case atStart => exact ⟨rfl, rfl⟩
    case round =>
      obtain ⟨rfl, rfl⟩ := hrel
      have z0 := ext_blk x3 HB0.out
      have n0 := b3.cell 0
      have n1 := b3.cell 1
      have m0 := z0.cell 0
      have m1 := z0.cell 1
      have f0 := z0.frozen 0
      have f1 := z0.frozen 1
      go_wp2
      have z2 := (z0.set_ 0 (.int .u64 (a1 : Int))).set_ 1 (.int .u64 (a2 : Int))
      have v0 := z2.cell 0
      have v1 := z2.cell 1
      refine bodyPost_ret (v := .agg #[.int .u64 (a1 : Int), .int .u64 (a2 : Int)]) (by simp [results, Tryz.results15, go_sem, v0, v1]) rfl ⟨rfl, ((HX0.out.trans x3).setCell (p := ⟨w.heap.size, 0, none⟩) (Nat.le_refl _) _).setCell (p := ⟨w.heap.size, 1, none⟩) (Nat.le_refl _) _⟩
end Go.Proofs.YtfpmfegmehbfbaaGreatDoor
