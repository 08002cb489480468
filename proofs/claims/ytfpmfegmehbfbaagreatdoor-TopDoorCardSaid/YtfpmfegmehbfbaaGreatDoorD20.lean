/- Parts of the proofs, put together: Or12, Or13, Or14, Or15, Open5. -/
import Derived.Deep.Strs
import Derived.Test.YtfpmfegmehbfbaaGreatDoorD13
import Derived.Test.YtfpmfegmehbfbaaGreatDoorD15
import Derived.Test.YtfpmfegmehbfbaaGreatDoorD21
/- Nonces, walked: slices.DeleteFunc at a row of one's own. -/
namespace Go.Proofs.YtfpmfegmehbfbaaGreatDoor
set_option linter.unusedVariables false
set_option linter.unusedSimpArgs false
open Go.RowKit Go.Shelf Go.Maps

theorem nonV_set (l : List NonR) (i : Nat) (x : NonR) : ((nonV l).set (i * 2) (.int .i64 x.n)).set (i * 2 + 1) (.int .i64 x.u) = nonV (l.set i x) := by
  induction l generalizing i with
  | nil => simp [nonV]
  | cons a l ih =>
    cases i with
    | zero => simp [nonV, nonC]
    | succ i =>
      have e : nonV (a :: l) = .int .i64 a.n :: .int .i64 a.u :: nonV l := rfl
      rw [e, show (i + 1) * 2 = i * 2 + 1 + 1 by omega]
      simp only [List.set_cons_succ]
      rw [ih i]
      rfl
theorem nonV_take (l : List NonR) (i : Nat) : (nonV l).take (i * 2) = nonV (l.take i) := by
  induction l generalizing i with
  | nil => simp [nonV]
  | cons a l ih =>
    cases i with
    | zero => simp [nonV]
    | succ i =>
      have e : nonV (a :: l) = .int .i64 a.n :: .int .i64 a.u :: nonV l := rfl
      rw [e, show (i + 1) * 2 = i * 2 + 1 + 1 by omega]
      simp only [List.take_succ_cons]
      rw [ih i]
      rfl
theorem own_at {w : World} {base g n cap : Nat} {e : TypeId} {l : List NonR} (h : w.ownsRow base e 2 (.slice (some ⟨g, 0, none⟩) n cap) n (nonV l)) {j : Nat} {x : NonR} (hj : l[j]? = some x) :
    w.cell? ⟨g, j * 2, none⟩ = some (.int .i64 x.n) ∧ w.cell? ⟨g, j * 2 + 1, none⟩ = some (.int .i64 x.u) := by
  have hl := (List.getElem?_eq_some_iff.1 hj).1
  have h1 := h.1
  rw [nonV_length] at h1
  refine ⟨?_, ?_⟩
  · rw [h.cellAt (j * 2) (by omega)]; exact fm_at nonC (k := 2) (fun _ => rfl) hj (i := 0) (by decide)
  · rw [h.cellAt (j * 2 + 1) (by omega)]; exact fm_at nonC (k := 2) (fun _ => rfl) hj (i := 1) (by decide)
/-- The row on the way: what is kept, what is to be overwritten, what is still to be looked at. -/
def delRow (now : Int) (l : List NonR) (j : Nat) (ys : List NonR) : List NonR := trimF (l.take j) now ++ ys ++ l.drop j
theorem delRow_at {now : Int} {l ys : List NonR} {i j : Nat} {x : NonR} (hi : i = (trimF (l.take j) now).length) (hy : ys.length + i = j) (hx : l[j]? = some x) : (delRow now l j ys)[j]? = some x := by
  unfold delRow
  rw [List.getElem?_append_right (by rw [List.length_append]; omega), List.length_append, show j - ((trimF (l.take j) now).length + ys.length) = 0 by omega, List.getElem?_drop, Nat.add_zero, hx]
theorem trimF_snoc (now : Int) (l : List NonR) (x : NonR) : trimF (l ++ [x]) now = trimF l now ++ (if now ≤ x.u then [x] else []) := by
  unfold trimF
  rw [List.filter_append]
  congr 1
  by_cases h : now ≤ x.u <;> simp [h]
theorem take_snoc {α : Type} {l : List α} {j : Nat} {x : α} (h : l[j]? = some x) : l.take (j + 1) = l.take j ++ [x] := by rw [List.take_add_one, h]; rfl
theorem drop_at {α : Type} {l : List α} {j : Nat} {x : α} (h : l[j]? = some x) : l.drop j = x :: l.drop (j + 1) := by
  obtain ⟨hj, rfl⟩ := List.getElem?_eq_some_iff.1 h
  exact List.drop_eq_getElem_cons hj
theorem delRow_keep {now : Int} {l ys : List NonR} {i j : Nat} {x y : NonR} (hi : i = (trimF (l.take j) now).length) (hx : l[j]? = some x) (hk : now ≤ x.u) : (delRow now l j (y :: ys)).set i x = delRow now l (j + 1) (ys ++ [x]) := by
  unfold delRow
  rw [take_snoc hx, trimF_snoc, if_pos hk, drop_at hx, hi]
  simp
theorem delRow_drop {now : Int} {l ys : List NonR} {j : Nat} {x : NonR} (hx : l[j]? = some x) (hk : ¬ now ≤ x.u) : delRow now l j ys = delRow now l (j + 1) (ys ++ [x]) := by
  unfold delRow
  rw [take_snoc hx, trimF_snoc, if_neg hk, drop_at hx]
  simp
set_option maxRecDepth 100000 in
set_option maxHeartbeats 4000000 in
theorem dfunc_any (now : Int) (gb : Nat) (l : List NonR) (hn : l.length ≤ 1099511627776) (v : Value) (base : Nat) (w : World) (hbase : base ≤ w.heap.size) (hown : w.ownsRow base 274 2 v l.length (nonV l))
    (hc : w.cell? ⟨gb, 0, none⟩ = some (.int .i64 now)) (hgb : v.ownBlock ≠ some gb) :
    Calls Tryz.prog 280 #[v, .func (.func 241) #[] #[.pointer (some ⟨gb, 0, none⟩)]] w fun e w' =>
      ∃ v', e = .returned v' ∧ w'.ownsRow base 274 2 v' (trimF l now).length (nonV (trimF l now)) ∧ Below base w w' := by
  have c0 := fun (A : Option Addr) (c : Nat) (hr : Reads w w.heap.size 2 A l.length (nonV l)) => indexN_any _ old1_enters #[.pointer (some ⟨gb, 0, none⟩)] (fun x => decide (x.u < now)) l hn A c w hr (fun W s _ x => old1_any s now gb W (x.cell hc))
  have hz : ∀ w, (zeroValue 274).run Tryz.prog w = .ok (.agg #[.int .i64 0, .int .i64 0]) w := fun w => by kernel_rfl
  rcases hown.2 with ⟨rfl, h0⟩ | ⟨g, cap, cur, rfl, hbg, hh, hnc, _⟩
  · have hl : l = [] := List.eq_nil_of_length_eq_zero h0
    subst hl
    have c1 := c0 none 0 Reads.none_
    rw [show ixG (fun x : NonR => decide (x.u < now)) [] = -1 from rfl] at c1
    clear c0
    go_enter Tryz.func280, Tryz.ntmps280
    go_wp2_with (go_at_call 309; refine (c1).mono ?_; clear c1; rintro e w1 ⟨rfl, x1⟩)
    go_ret
    exact ⟨_, rfl, World.ownsRow_nil _ _ _ _, Below.mono x1.out hbase⟩
  have hgg : g ≠ gb := fun e => hgb (by rw [e]; rfl)
  have c1 := c0 _ cap (Reads.of_own hown)
  cases hf : l.findIdx? (fun x => decide (x.u < now)) with
  | none =>
    have hall := List.findIdx?_eq_none_iff.1 hf
    rw [show ixG (fun x : NonR => decide (x.u < now)) l = -1 by unfold ixG; rw [hf]] at c1
    have e1 : trimF l now = l := List.filter_eq_self.2 fun x hx => by have := hall x hx; simp at this ⊢; omega
    rw [e1]
    have HO := Lib.hid hown
    clear c0 hall hf e1 hown
    go_enter Tryz.func280, Tryz.ntmps280
    go_wp2_with (go_at_call 309; refine (c1).mono ?_; clear c1; rintro e w1 ⟨rfl, x1⟩)
    go_ret
    exact ⟨_, rfl, own_ext HO.out x1, Below.mono x1.out hbase⟩
  | some i0 =>
    obtain ⟨hi0, hd0, hk0⟩ := List.findIdx?_eq_some_iff_getElem.1 hf
    rw [show ixG (fun x : NonR => decide (x.u < now)) l = (i0 : Int) by unfold ixG; rw [hf]] at c1
    have e1 : trimF (l.take i0) now = l.take i0 := List.filter_eq_self.2 fun x hx => by
      obtain ⟨j, hj, rfl⟩ := List.mem_take_iff_getElem.1 hx
      have := hk0 j (by omega); simp at this ⊢; omega
    have e2 : delRow now l (i0 + 1) [l[i0]] = l := by
      have e3 : l[i0]? = some l[i0] := List.getElem?_eq_getElem hi0
      unfold delRow
      rw [take_snoc e3, trimF_snoc, if_neg (by simp at hd0; omega), e1, List.append_nil, List.append_assoc, List.singleton_append, ← drop_at e3, List.take_append_drop]
    have e4 : i0 = (trimF (l.take (i0 + 1)) now).length := by
      rw [take_snoc (List.getElem?_eq_getElem hi0), trimF_snoc, if_neg (by simp at hd0; omega), e1, List.append_nil, List.length_take]; omega
    have HO := Lib.hid hown
    have HE2 := Lib.hid e2
    have HE4 := Lib.hid e4
    have HN := Lib.hid hn
    have HI0 := Lib.hid hi0
    have hib : (i0 : Int) ≤ 1099511627776 := by omega
    have hnz : (i0 : Int) ≠ -1 := by omega
    clear c0 hf e1 hown e2 e4 hd0 hk0 hh hn hnc
    go_enter Tryz.func280, Tryz.ntmps280
    go_wp2_with (go_at_call 309; refine (c1).mono ?_; clear c1; rintro e w1 ⟨rfl, x1⟩)
    have hi0 := HI0.out
    go_loopg [5, 6] l.length (fun m s5 s6 wr => ∃ (i j : Nat) (ys : List NonR), l.length ≤ j + m ∧ j ≤ l.length ∧ s5 = .int .i64 i ∧ s6 = .int .i64 j ∧ i = (trimF (l.take j) now).length ∧ ys.length + i = j ∧ 0 < ys.length ∧
      wr.ownsRow base 274 2 (.slice (some ⟨g, 0, none⟩) l.length cap) l.length (nonV (delRow now l j ys)) ∧ wr.cell? ⟨gb, 0, none⟩ = some (.int .i64 now) ∧ Below base w wr)
    case atStart => exact ⟨i0, i0 + 1, [l[i0]], by omega, by omega, rfl, int_congr (by omega), HE4.out, by simp; omega, by simp, by rw [HE2.out]; exact own_ext HO.out x1, x1.cell hc, Below.mono x1.out hbase⟩
    case round =>
      obtain ⟨i, j, ys, hj, hjn, rfl, rfl, hi, hy, hy0, ho, hcc, hB⟩ := hrel
      have hjb : (j : Int) ≤ 1099511627776 := by have := HN.out; omega
      have hijb : (i : Int) ≤ j := by omega
      by_cases h : j < l.length
      · obtain ⟨x, hs⟩ : ∃ s, l[j]? = some s := ⟨_, List.getElem?_eq_getElem h⟩
        obtain ⟨q0, q1⟩ := own_at ho (delRow_at hi hy hs)
        obtain ⟨y, t, rfl⟩ : ∃ y t, ys = y :: t := by cases ys with | nil => simp at hy0 | cons y t => exact ⟨y, t, rfl⟩
        have hyi : (delRow now l j (y :: t))[i]? = some y := by
          unfold delRow
          rw [List.append_assoc, List.getElem?_append_right (by omega), show i - (trimF (l.take j) now).length = 0 by omega]
          rfl
        have c2 := fun W (h : World.cell? W ⟨gb, 0, none⟩ = some (.int .i64 now)) => old1_any x now gb W h
        have hcA := ((Ext.refl wr).alloc (.cells #[.int .i64 x.n, .int .i64 x.u] 274)).cell hcc
        obtain ⟨b0, b1⟩ := two (Blk.new wr 274 #[.int .i64 x.n, .int .i64 x.u])
        have hjl : (j : Int) < (l.length : Int) := by omega
        have hil : (i : Int) < (l.length : Int) := by simp at hy; omega
        have HO2 := Lib.hid ho
        have HB := Lib.hid hB
        have HJ : Hid (l.length ≤ j + gk ∧ j ≤ l.length) := Lib.hid ⟨hj, hjn⟩
        have HI := Lib.hid hi
        have HY := Lib.hid hy
        have HS := Lib.hid hs
        have HYI := Lib.hid hyi
        clear ho hB hj hi hy hs hyi hjn
        by_cases hk : x.u < now
        · rw [decide_eq_true hk] at c2
          have HR := Lib.hid (delRow_drop (now := now) (ys := y :: t) HS.out (by omega))
          have HT : Hid (trimF (l.take (j + 1)) now = trimF (l.take j) now) := Lib.hid (by rw [take_snoc HS.out, trimF_snoc, if_neg (by omega), List.append_nil])
          go_wp2_with (go_at_call 241; refine (c2 _ hcA).mono ?_; clear c2; rintro e w2 ⟨rfl, x2⟩)
          have hj := HJ.out
          have hy := HY.out
          go_roundg (gk - 1)
          case measure => omega
          case rel => exact ⟨i, j + 1, y :: t ++ [x], by omega, by omega, rfl, int_congr (by omega), by rw [HT.out]; exact HI.out, by simp at hy ⊢; omega, by simp, by rw [← HR.out]; exact own_ext (HO2.out.alloc _) x2, x2.cell hcA, HB.out.trans (Below.mono (((Ext.refl wr).alloc _).trans x2).out (Nat.le_trans hbase HB.out.size))⟩
        · rw [decide_eq_false hk] at c2
          have HR := Lib.hid (delRow_keep HI.out HS.out (ys := t) (y := y) (by omega))
          have HT : Hid ((trimF (l.take (j + 1)) now).length = (trimF (l.take j) now).length + 1) := Lib.hid (by rw [take_snoc HS.out, trimF_snoc, if_pos (by omega)]; simp)
          go_wp2_with (go_at_call 241; refine (c2 _ hcA).mono ?_; clear c2; rintro e w2 ⟨rfl, x2⟩; have d0 := x2.cell b0; have d1 := x2.cell b1; have o2 := own_ext (HO2.out.alloc _) x2; obtain ⟨p0, p1⟩ := own_at o2 HYI.out; have f0 := o2.frozenAt (i * 2); have f1 := o2.frozenAt (i * 2 + 1); have O2 := Lib.hid o2; clear o2)
          have hj := HJ.out
          have hy := HY.out
          obtain ⟨s1, g1⟩ := O2.out.stored (i * 2) (.int .i64 x.n)
          obtain ⟨s2, g2⟩ := s1.stored (i * 2 + 1) (.int .i64 x.u)
          rw [nonV_set, HR.out] at s2
          have xx := ((Ext.refl wr).alloc (.cells #[.int .i64 x.n, .int .i64 x.u] 274)).trans x2
          have hB2 := HB.out.trans (Below.mono xx.out (Nat.le_trans hbase HB.out.size))
          go_roundg (gk - 1)
          case measure => omega
          case rel => exact ⟨i + 1, j + 1, t ++ [x], by omega, by omega, int_congr (by omega), int_congr (by omega), by rw [HT.out, ← HI.out], by simp at hy ⊢; omega, by simp, s2, (World.cell?_of_block (g2.block gb (by have := g1.size; have := (cell_lt (x2.cell hcA)); simp at this; omega) (fun e => hgg (by cases e; rfl)))).trans ((World.cell?_of_block (g1.block gb (by have := (cell_lt (x2.cell hcA)); simp at this; omega) (fun e => hgg (by cases e; rfl)))).trans (x2.cell hcA)), (hB2.grown g1 (Nat.le_trans hbase hB2.size) (fun k e => by cases e; exact hbg)).grown g2 (Nat.le_trans hbase (Nat.le_trans hB2.size g1.size)) (fun k e => by cases e; exact hbg)⟩
      · obtain rfl : j = l.length := by omega
        rw [List.take_length] at hi
        have hil : i ≤ l.length := by omega
        have hR : delRow now l l.length ys = trimF l now ++ ys := by unfold delRow; rw [List.take_length, List.drop_length, List.append_nil]
        rw [hR] at ho
        have O := Lib.hid ho
        have HB := Lib.hid hB
        have HI := Lib.hid hi
        have HY := Lib.hid hy
        have hcap := own_cap ho
        have hilI : (i : Int) ≤ (l.length : Int) := by omega
        have hcapI : (l.length : Int) ≤ (cap : Int) := by omega
        have hicap : (i : Int) ≤ (cap : Int) := by omega
        have hci : ¬ cap = i := by omega
        clear ho hB hi hy hR hj hjn
        obtain ⟨w2, hrun, o2, hg2⟩ := run_clear_own (P := Tryz.prog) wr base 89 0 274 (.agg #[.int .i64 0, .int .i64 0]) 2 Tryz.underlying89 hz (by decide) (by decide) g l.length cap i _ O.out hil (some ⟨g, i * 2, none⟩) (fun _ => rfl) (cap - i)
        have O2 := Lib.hid o2
        have HG := Lib.hid hg2
        clear o2 hg2
        go_wp2
        go_ret
        have o2 := O2.out
        have hg2 := HG.out
        have e2 : (nonV (trimF l now ++ ys)).take (i * 2) = nonV (trimF l now) := by rw [nonV_take, HI.out, List.take_left']; rfl
        rw [e2, HI.out] at o2
        refine ⟨.slice (some ⟨g, 0, none⟩) (trimF l now).length cap, by rw [← HI.out]; first | rfl | simp, o2, HB.out.grown hg2 (Nat.le_trans hbase HB.out.size) (fun k e => by cases e; exact hbg)⟩
end Go.Proofs.YtfpmfegmehbfbaaGreatDoor

/- Nonces, walked: Trim. -/
namespace Go.Proofs.YtfpmfegmehbfbaaGreatDoor
set_option linter.unusedVariables false
set_option linter.unusedSimpArgs false
open Go.RowKit Go.Shelf Go.Maps

theorem startP (w : World) (x y : Array Value) (T U : TypeId) : ∃ W, (w.alloc (.cells x T)).alloc (.cells y U) = W ∧ Blk W w.heap.size T x ∧ Blk W (w.heap.size + 1) U y ∧ Ext w W ∧ W.heap.size = w.heap.size + 2 := by
  refine ⟨_, rfl, (Blk.new w T x).alloc _, ?_, ((Ext.refl w).alloc _).alloc _, by simp⟩
  have := Blk.new (w.alloc (.cells x T)) U y
  rwa [World.size_alloc] at this
theorem grown_set (W : World) (g i : Nat) (u : Value) : W.grownBy (W.setCell ⟨g, i, none⟩ u) (some g) :=
  ⟨rfl, rfl, rfl, (KeepsWalks.setCell W _ u).size, fun k _ hk => Below.heap_setCell _ _ _ k (fun e => hk (by rw [e]))⟩
theorem own_far {w : World} {base : Nat} {e : TypeId} {size n : Nat} {v : Value} {xs : List Value} (h : w.ownsRow base e size v n xs) {g : Nat} (hg : g < base) (i : Nat) (u : Value) : (w.setCell ⟨g, i, none⟩ u).ownsRow base e size v n xs := by
  refine h.kept (grown_set w g i u) ?_
  cases hb : v.ownBlock with
  | none => exact .inl rfl
  | some k => exact .inr (fun e => by cases e; have := (h.lt _ hb).1; omega)
theorem own_out {w : World} {base : Nat} {e : TypeId} {size n : Nat} {v : Value} {xs : List Value} (h : w.ownsRow base e size v n xs) : ∀ k, v.ownBlock = some k → base ≤ k := fun k hk => (h.lt k hk).1
set_option maxRecDepth 100000 in
set_option maxHeartbeats 4000000 in
theorem Trim_any (next : Int) (l : List NonR) (A : Option Addr) (c : Nat) (now : Int) (w : World) (hw : NonsW w w.heap.size next l A c) :
    Calls Tryz.prog 239 #[fenV next l A c, .int .i64 now] w fun e w' => ∃ A' c', e = .returned (.agg #[.int .i64 next, .slice A' (trimF l now).length c']) ∧ w'.ownsRow w.heap.size 274 2 (.slice A' (trimF l now).length c') (trimF l now).length (nonV (trimF l now)) ∧ Ext w w' := by
  unfold fenV
  obtain ⟨W0, e0, b0, b1, x0, s0⟩ := startP w #[.int .i64 next, .slice A l.length c] #[.int .i64 0, .slice none 0 0] 91 91
  have cC : ∀ W, Ext W0 W → Calls Tryz.prog 183 #[.slice A l.length c] W fun e w' => ∃ v, e = .returned v ∧ w'.ownsRow W0.heap.size 274 2 v l.length (nonV l) ∧ (∀ k, v.ownBlock = some k → W.heap.size ≤ k) ∧ Ext W w' := fun W x =>
    (cloneN_any A l.length c (nonV l) (nonV_one l) hw.len W (hw.ext (x0.trans x)).lst).mono fun e w' ⟨v, h1, h2, h3⟩ => ⟨v, h1, own_base h2 x.size, own_out h2, h3⟩
  have cO : ∀ W, Calls Tryz.prog 181 #[.int .i64 now] W fun e w' => ∃ gb, e = .returned (.func (.func 241) #[] #[.pointer (some ⟨gb, 0, none⟩)]) ∧ w'.cell? ⟨gb, 0, none⟩ = some (.int .i64 now) ∧ W.heap.size ≤ gb ∧ gb < w'.heap.size ∧ Ext W w' := fun W =>
    (old_any now W).mono fun e w' ⟨h1, h2⟩ => ⟨_, h1, by rw [← h2]; exact (Blk.new W _ _).cell 0, Nat.le_refl _, by rw [← h2]; simp, by rw [← h2]; exact (Ext.refl W).alloc _⟩
  have cD : ∀ (v : Value) (gb : Nat) W, W.ownsRow W0.heap.size 274 2 v l.length (nonV l) → World.cell? W ⟨gb, 0, none⟩ = some (.int .i64 now) → v.ownBlock ≠ some gb → Ext W0 W → Calls Tryz.prog 280 #[v, .func (.func 241) #[] #[.pointer (some ⟨gb, 0, none⟩)]] W _ := fun v gb W ho hg hne x =>
    dfunc_any now gb l hw.len v W0.heap.size W x.size ho hg hne
  have HBB := Lib.hid fun (W : World) (x : Ext W0 W) => two (ext_blk x b0)
  have HB1 := Lib.hid b1
  clear hw b0 b1
  have h0 := (Ext.refl W0).drew
  go_enter Tryz.func239, Tryz.ntmps239
  go_wp2
  try rw [e0]
  clear e0
  have XX := h0
  clear h0
  obtain ⟨m0, m1⟩ := HBB.out _ XX
  go_region_held3 (fun w' => w'.cell? ⟨w.heap.size, 0, none⟩ = some (.int .i64 next) ∧ w'.cell? ⟨w.heap.size, 1, none⟩ = some (.slice A l.length c)) (first | exact ⟨m0, m1⟩ | go_keep) (first
    | (go_at_call 183; refine (cC _ XX).mono ?_; clear cC; rintro e w2 ⟨v, rfl, ho, hfr, x2⟩; have XX' := XX.trans x2; clear XX; have XX := XX'; clear XX'; clear m0 m1; obtain ⟨m0, m1⟩ := HBB.out _ XX; (try (have hg' := x2.cell hg; have hne : v.ownBlock ≠ some gb := (fun e => by have := hfr _ e; omega); clear hg; have hg := hg'; clear hg')))
    | (go_at_call 181; refine (cO _).mono ?_; clear cO; rintro e w3 ⟨gb, rfl, hg, hgs, hgl, x3⟩; have XX' := XX.trans x3; clear XX; have XX := XX'; clear XX'; clear m0 m1; obtain ⟨m0, m1⟩ := HBB.out _ XX; (try (have ho' := own_ext ho x3; have hne : v.ownBlock ≠ some gb := (fun e => by have := (ho.lt _ e).2; omega); clear ho; have ho := ho'; clear ho')))
    | (go_at_call 280; refine (cD _ _ _ ho hg hne XX).mono ?_; clear cD; rintro e w4 ⟨v4, rfl, ho4, hb4⟩; obtain ⟨A4, c4, rfl, hc4, hr4⟩ := own_slice2 ho4; have X4 := Ext.of (XX.out.trans hb4); clear m0 m1; obtain ⟨m0, m1⟩ := HBB.out _ X4; have bb := ext_blk X4 HB1.out; obtain ⟨y0, y1⟩ := two bb; have z0 := bb.frozen 0; have z1 := bb.frozen 1; have BB := Lib.hid bb; clear bb))
  obtain ⟨W5, e5⟩ : ∃ W, W = (w4.setCell ⟨w.heap.size + 1, 0, none⟩ (.int .i64 next)).setCell ⟨w.heap.size + 1, 1, none⟩ (.slice A4 (trimF l now).length c4) := ⟨_, rfl⟩
  have b5 : Blk W5 (w.heap.size + 1) 91 #[.int .i64 next, .slice A4 (trimF l now).length c4] := by rw [e5]; exact (BB.out.set_ 0 _).set_ 1 _
  have o5 := own_far (own_far ho4 (g := w.heap.size + 1) (by omega) 0 (.int .i64 next)) (g := w.heap.size + 1) (by omega) 1 (.slice A4 (trimF l now).length c4)
  have x5 : Ext w W5 := by rw [e5]; exact ((x0.trans X4).setCell (by simp) _).setCell (by simp) _
  rw [← e5] at o5 ⊢
  obtain ⟨r0, r1⟩ := two b5
  have O5 := Lib.hid o5
  clear e5 b5 o5
  go_wp2
  refine bodyPost_ret (v := .agg #[.int .i64 next, .slice A4 (trimF l now).length c4]) (by simp [results, Tryz.results239, go_sem, r0, r1]) rfl ⟨A4, c4, rfl, own_base O5.out (by omega), x5⟩
end Go.Proofs.YtfpmfegmehbfbaaGreatDoor

/- Nonces, walked: slices.BinarySearchFunc. -/
namespace Go.Proofs.YtfpmfegmehbfbaaGreatDoor
set_option linter.unusedVariables false
set_option linter.unusedSimpArgs false
open Go.RowKit Go.Shelf Go.Maps

theorem use1_enters : Enters Tryz.prog 180 := enters_of Tryz.func180 (by kernel_rfl) rfl
theorem use1_any (x : NonR) (n d : Int) (h1 : 0 ≤ x.n) (h2 : x.n ≤ 1099511627776) (h3 : 0 ≤ n) (h4 : n ≤ 1099511627776) (hd : x.n - n = d) (w : World) : Calls Tryz.prog 180 #[.agg #[.int .i64 x.n, .int .i64 x.u], .int .i64 n] w fun e w' =>
    e = .returned (.int .i64 d) ∧ Ext w w' := by
  have HD := Lib.hid hd
  clear hd
  go_enter Tryz.func180, Tryz.ntmps180
  go_wp2
  go_ret
  exact ⟨by rw [← HD.out]; rfl, (Ext.refl w).alloc _⟩
def bsPost (l : List NonR) (n : Int) (w : World) (e : Ending) (w' : World) : Prop :=
  ∃ (i : Nat) (b : Bool), e = .returned (.tuple #[.int .i64 (i : Int), .bool b]) ∧ (b = true → ∃ x, l[i]? = some x ∧ x.n = n) ∧ (b = false → ∀ x ∈ l, x.n ≠ n) ∧ Ext w w'
set_option maxRecDepth 100000 in
set_option maxHeartbeats 4000000 in
theorem bsearch_any (n : Int) (hn : numP n) (l : List NonR) (hl : l.length ≤ 1099511627776) (hs : l.Pairwise (fun a b => a.n < b.n)) (hw : ∀ x ∈ l, 0 ≤ x.n ∧ x.n ≤ 1099511627776) (A : Option Addr) (c : Nat) (w : World) (hr : Reads w w.heap.size 2 A l.length (nonV l)) :
    Calls Tryz.prog 179 #[.slice A l.length c, .int .i64 n, .func (.func 180) #[] #[]] w (bsPost l n w) := by
  have hE := use1_enters
  unfold Enters at hE
  have c1 := fun (x : NonR) d h1 h2 hd W => use1_any x n d h1 h2 hn.1 hn.2 hd W
  have hr0 := Lib.hid hr
  have HN := Lib.hid hl
  have HS := Lib.hid hs
  have HW := Lib.hid hw
  have HNN := Lib.hid hn
  clear hr hl hs hw hn
  go_enter Tryz.func179, Tryz.ntmps179
  go_wp2
  go_loopg [9, 10] l.length (fun m s9 s10 wr => ∃ i j : Nat, i ≤ j ∧ j ≤ l.length ∧ j ≤ i + m ∧ s9 = .int .i64 i ∧ s10 = .int .i64 j ∧ (∀ k x, k < i → l[k]? = some x → x.n < n) ∧ (∀ k x, j ≤ k → l[k]? = some x → n ≤ x.n) ∧ Ext w wr)
  case atStart => exact ⟨0, l.length, by omega, by omega, by omega, rfl, rfl, fun k x h => by omega, fun k x h h' => by (have := (List.getElem?_eq_some_iff.1 h').1; omega), Ext.refl w⟩
  case round =>
    obtain ⟨i, j, hij, hjl, hm, rfl, rfl, hlo, hhi, hx⟩ := hrel
    have hjb : (j : Int) ≤ 1099511627776 := by have := HN.out; omega
    have hij' : (i : Int) ≤ j := by omega
    by_cases h : i < j
    · obtain ⟨x, hs⟩ : ∃ x, l[(i + j) / 2]? = some x := ⟨_, List.getElem?_eq_getElem (by omega)⟩
      obtain ⟨ad, rfl, hlt, q0, q1⟩ := reads_non (hr0.out.below hx.out) hs
      have hxw := HW.out x (List.mem_of_getElem? hs)
      have hi' : (i : Int) < j := by omega
      have b0 : (0 : Int) ≤ ((i : Int) + j) / 2 := by omega
      have b1 : ((i : Int) + j) / 2 < (l.length : Int) := by omega
      obtain ⟨d, hd⟩ : ∃ d, x.n - n = d := ⟨_, rfl⟩
      have c2 := fun W => c1 x d hxw.1 hxw.2 hd W
      have HX := Lib.hid hx
      have HM : Hid (j ≤ i + gk ∧ j ≤ l.length ∧ i < j) := Lib.hid ⟨hm, hjl, h⟩
      have HLO := Lib.hid hlo
      have HHI := Lib.hid hhi
      have HD := Lib.hid hd
      have HSX := Lib.hid hs
      clear c1 hx hm hjl hij h hlo hhi hd hs hxw
      by_cases hdn : d < 0
      · go_wp2_with (go_at_fn 180; refine (c2 _).mono ?_; clear c2; rintro e w1 ⟨rfl, x1⟩)
        have hm := HM.out
        go_roundg (gk - 1)
        case measure => omega
        case rel =>
          refine ⟨(i + j) / 2 + 1, j, by omega, by omega, by omega, int_congr (by omega), rfl, fun k y hk hy => ?_, HHI.out, HX.out.trans x1⟩
          have hd := HD.out
          rcases Nat.lt_or_ge k ((i + j) / 2) with h | h
          · have h1 := HSX.out
            obtain ⟨a1, rfl⟩ := List.getElem?_eq_some_iff.1 h1
            obtain ⟨a2, rfl⟩ := List.getElem?_eq_some_iff.1 hy
            have := List.pairwise_iff_getElem.1 HS.out k ((i + j) / 2) a2 a1 h
            omega
          · obtain rfl : k = (i + j) / 2 := by omega
            rw [HSX.out] at hy; cases hy; omega
      · go_wp2_with (go_at_fn 180; refine (c2 _).mono ?_; clear c2; rintro e w1 ⟨rfl, x1⟩)
        have hm := HM.out
        go_roundg (gk - 1)
        case measure => omega
        case rel =>
          refine ⟨i, (i + j) / 2, by omega, by omega, by omega, rfl, int_congr (by omega), HLO.out, fun k y hk hy => ?_, HX.out.trans x1⟩
          have hd := HD.out
          rcases Nat.lt_or_ge ((i + j) / 2) k with h | h
          · have h1 := HSX.out
            obtain ⟨a1, rfl⟩ := List.getElem?_eq_some_iff.1 h1
            obtain ⟨a2, rfl⟩ := List.getElem?_eq_some_iff.1 hy
            have := List.pairwise_iff_getElem.1 HS.out ((i + j) / 2) k a1 a2 h
            omega
          · obtain rfl : k = (i + j) / 2 := by omega
            rw [HSX.out] at hy; cases hy; omega
    · obtain rfl : i = j := by omega
      by_cases hil : i < l.length
      · obtain ⟨x, hs⟩ : ∃ x, l[i]? = some x := ⟨_, List.getElem?_eq_getElem hil⟩
        obtain ⟨ad, rfl, hlt, q0, q1⟩ := reads_non (hr0.out.below hx.out) hs
        have hxw := HW.out x (List.mem_of_getElem? hs)
        have hil' : (i : Int) < (l.length : Int) := by omega
        obtain ⟨d, hd⟩ : ∃ d, x.n - n = d := ⟨_, rfl⟩
        have c2 := fun W => c1 x d hxw.1 hxw.2 hd W
        have HX := Lib.hid hx
        have HLO := Lib.hid hlo
        have hge := hhi i x (Nat.le_refl _) hs
        have HGE := Lib.hid hge
        have HD := Lib.hid hd
        have HSX := Lib.hid hs
        clear c1 hx hm hij h hlo hhi hd hs hxw hge
        by_cases hd0 : d = 0
        · have kd : (d == 0) = true := by simp [hd0]
          clear hd0
          go_wp2_with (go_at_fn 180; refine (c2 _).mono ?_; clear c2; rintro e w1 ⟨rfl, x1⟩)
          go_ret2
          refine ⟨i, true, rfl, fun _ => ⟨x, HSX.out, ?_⟩, fun h => (by cases h), HX.out.trans x1⟩
          have hd := HD.out
          simp at kd; omega
        · have kd : (d == 0) = false := by simp [hd0]
          clear hd0
          go_wp2_with (go_at_fn 180; refine (c2 _).mono ?_; clear c2; rintro e w1 ⟨rfl, x1⟩)
          go_ret2
          refine ⟨i, false, rfl, fun h => (by cases h), fun _ y hy hyn => ?_, HX.out.trans x1⟩
          have hd := HD.out
          have hge := HGE.out
          simp at kd
          obtain ⟨k, hk, rfl⟩ := List.getElem_of_mem hy
          rcases Nat.lt_trichotomy k i with h | h | h
          · have := HLO.out k _ h (List.getElem?_eq_getElem hk); omega
          · subst h; have := HSX.out; rw [List.getElem?_eq_getElem hk] at this; cases this; omega
          · have h1 := HSX.out
            obtain ⟨a1, rfl⟩ := List.getElem?_eq_some_iff.1 h1
            have := List.pairwise_iff_getElem.1 HS.out i k a1 hk h
            omega
      · have hil' : ¬ (i : Int) < (l.length : Int) := by omega
        have HX := Lib.hid hx
        have HLO := Lib.hid hlo
        have HIL := Lib.hid hil
        have hild : decide (i < l.length) = false := decide_eq_false hil
        clear hx hm hij h hlo hhi hil hjl
        go_wp2_with fail
        go_ret2
        refine ⟨i, false, rfl, fun h => (by cases h), fun _ y hy hyn => ?_, HX.out⟩
        obtain ⟨k, hk, rfl⟩ := List.getElem_of_mem hy
        have hil := HIL.out
        have := HLO.out k _ (by omega) (List.getElem?_eq_getElem hk)
        omega
end Go.Proofs.YtfpmfegmehbfbaaGreatDoor

/- Nonces, walked: slices.Delete at a row of one's own. -/
namespace Go.Proofs.YtfpmfegmehbfbaaGreatDoor
set_option linter.unusedVariables false
set_option linter.unusedSimpArgs false
open Go.RowKit Go.Shelf Go.Maps

theorem nonV_drop (l : List NonR) (i : Nat) : (nonV l).drop (i * 2) = nonV (l.drop i) := by
  induction l generalizing i with
  | nil => simp [nonV]
  | cons a l ih =>
    cases i with
    | zero => simp [nonV]
    | succ i =>
      have e : nonV (a :: l) = .int .i64 a.n :: .int .i64 a.u :: nonV l := rfl
      rw [e, show (i + 1) * 2 = i * 2 + 1 + 1 by omega]
      simp only [List.drop_succ_cons]
      rw [ih i]
/-- A row of one's own, read as longer within its room. -/
theorem own_more {w : World} {base : Nat} {e : TypeId} {size g n cap : Nat} {xs : List Value} (h : w.ownsRow base e size (.slice (some ⟨g, 0, none⟩) n cap) n xs) {m : Nat} (h1 : n ≤ m) (h2 : m ≤ cap) :
    ∃ ys, w.ownsRow base e size (.slice (some ⟨g, 0, none⟩) m cap) m ys ∧ ys.take (n * size) = xs := by
  rcases h.2 with ⟨h', _⟩ | ⟨g', cap', cur, h', hb, hg, hnc, hcm, hcs, htake⟩
  · simp at h'
  · simp only [Value.slice.injEq, Option.some.injEq, Addr.mk.injEq, and_true, true_and] at h'
    obtain ⟨rfl, rfl⟩ := h'
    refine ⟨cur.toList.take (m * size), ⟨?_, .inr ⟨g, cap, cur, rfl, hb, hg, h2, hcm, hcs, rfl⟩⟩, ?_⟩
    · rw [List.length_take, Array.length_toList, hcs]; exact Nat.min_eq_left (Nat.mul_le_mul_right _ h2)
    · rw [List.take_take, Nat.min_eq_left (Nat.mul_le_mul_right _ h1)]; exact htake
theorem erase_eq {α : Type} (l : List α) (i : Nat) : l.eraseIdx i = l.take i ++ l.drop (i + 1) := List.eraseIdx_eq_take_drop_succ l i
theorem fits_any (w : World) (base g q cap i : Nat) (l : List NonR) (hl : l.length = q + 1) (hi : i ≤ q) (hown : w.ownsRow base 274 2 (.slice (some ⟨g, 0, none⟩) (q + 1) cap) (q + 1) (nonV l)) (ad : Addr) (had : i < q → ad = ⟨g, (i + 1) * 2, none⟩) (ty c : Nat) :
    ∃ w', (Builtin.append_ #[89, 89] ty #[.slice (some ⟨g, 0, none⟩) i cap, .slice (some ad) (q - i) c]).run Tryz.prog w = .ok (.slice (some ⟨g, 0, none⟩) q cap) w' ∧ w'.ownsRow base 274 2 (.slice (some ⟨g, 0, none⟩) q cap) q (nonV (l.eraseIdx i)) ∧ w.grownBy w' (some g) := by
  obtain ⟨i0, hi0, hz0, hz1, hz2⟩ := info_parts Tryz.infoNon
  have hcap := own_cap hown
  obtain ⟨w', h1, h2, h3⟩ := run_append_fits (P := Tryz.prog) w base 89 ty 274 i0 2 Tryz.underlying89 hi0 hz1 g i cap _ (own_cut hown (k := i) (by omega)) ad (q - i) c (nonV (l.drop (i + 1))) (by rw [nonV_length, List.length_drop]; omega) (fun j u hu => by
      have hj := (List.getElem?_eq_some_iff.1 hu).1
      rw [nonV_length, List.length_drop] at hj
      rw [had (by omega)]
      rw [← nonV_drop, List.getElem?_drop] at hu
      have : (Addr.mk g ((i + 1) * 2) none).add j = ⟨g, (i + 1) * 2 + j, none⟩ := by unfold Addr.add; split <;> simp_all
      rw [this, hown.cellAt _ (by have := hown.1; omega)]
      exact hu) (nonV_one _) (by omega)
  rw [show i + (q - i) = q by omega] at h1 h2
  refine ⟨w', h1, ?_, h3⟩
  rw [nonV_take, ← nonV_append, ← erase_eq] at h2
  exact h2
theorem step_append_run {P : Program} {ops : Array Oper} {o : Oper} {a : Act} {w : World} {K : Act → World → Prop} {Q : Exit → Act → World → Prop} {E : Prop} (hgd : o.guard = none) (s x : Operand) (t : TypeId)
    (ho : o.op = .call { callee := .builtin .append, args := #[s, x], argTypes := #[t, t] }) (vs vx : Value) (hs : a.eval s = vs) (hx : a.eval x = vx) (v : Value) (w' : World) (hrun : (Builtin.append_ #[t, t] o.type #[vs, vx]).run P w = .ok v w')
    (h : K (a.put o.dst v) w') : if Region.wanted o (yielded ops a.tmps) = true then Oper.wp P o a w K Q else E := by
  have hw : Region.wanted o (yielded ops a.tmps) = true := by simp [Region.wanted, hgd]
  rw [if_pos hw]
  unfold Oper.wp execOp
  simp only [ho, resolve, invoke, builtin, Sem.run_bind, Sem.run_pure, Result.andThen_ok, List.map_toArray, List.map_cons, List.map_nil, hs, hx, hrun]
  exact h
set_option maxRecDepth 100000 in
set_option maxHeartbeats 4000000 in
theorem delete_any (l : List NonR) (i q : Nat) (hl : l.length = q + 1) (hi : i ≤ q) (hn : l.length ≤ 1099511627776) (g cap : Nat) (base : Nat) (w : World) (hbase : base ≤ w.heap.size) (hown : w.ownsRow base 274 2 (.slice (some ⟨g, 0, none⟩) (q + 1) cap) (q + 1) (nonV l)) :
    Calls Tryz.prog 182 #[.slice (some ⟨g, 0, none⟩) (q + 1) cap, .int .i64 (i : Int), .int .i64 ((i : Int) + 1)] w fun e w' =>
      ∃ A c, e = .returned (.slice A q c) ∧ w'.ownsRow base 274 2 (.slice A q c) q (nonV (l.eraseIdx i)) ∧ Below base w w' := by
  have hz : ∀ w, (zeroValue 274).run Tryz.prog w = .ok (.agg #[.int .i64 0, .int .i64 0]) w := fun w => by kernel_rfl
  have hcap := own_cap hown
  have hg : base ≤ g := own_ge hown g rfl
  have k1 : (i : Int) ≤ (q : Int) := by omega
  have k2 : (i : Int) + 1 ≤ (cap : Int) := by omega
  have k3 : (q : Int) + 1 ≤ (cap : Int) := by omega
  have k4 : (i : Int) ≤ (cap : Int) := by omega
  have k5 : (q : Int) + 1 ≤ 1099511627776 := by omega
  have k6 : ((i : Int) == (i : Int) + 1) = false := by rw [beq_eq_false_iff_ne]; omega
  have k7 : (0 : Int) ≤ (i : Int) + 1 := by omega
  have k8 : (i : Int) ≤ (i : Int) + 1 := by omega
  have HO := Lib.hid hown
  have HI := Lib.hid hi
  have HL := Lib.hid hl
  clear hown hi hn hcap hl
  go_enter Tryz.func182, Tryz.ntmps182
  by_cases hc : cap = i + 1
  · subst hc
    have hcq : ¬ (i + 1) = q := by omega
    obtain ⟨w2, hrun, o2, hg2⟩ := fits_any w.drew base g q (i + 1) i l HL.out HI.out HO.out ⟨g, 0, none⟩ (fun h => by omega) 89 0
    obtain ⟨ys, o3, e3⟩ := own_more o2 (m := q + 1) (by omega) (by omega)
    obtain ⟨w4, hrun4, o4, hg4⟩ := run_clear_own (P := Tryz.prog) w2 base 89 0 274 (.agg #[.int .i64 0, .int .i64 0]) 2 Tryz.underlying89 hz (by decide) (by decide) g (q + 1) (i + 1) q _ o3 (by omega) (some ⟨g, q * 2, none⟩) (fun _ => rfl) ((i + 1) - q)
    rw [show q + 1 - q = 1 by omega] at hrun4
    have O4 := Lib.hid o4
    have E3 := Lib.hid e3
    have HB := Lib.hid (((Below.refl base w).drew.grown hg2 hbase (fun k e => by cases e; exact hg)).grown hg4 (Nat.le_trans hbase hg2.size) (fun k e => by cases e; exact hg))
    clear o2 hg2 o3 e3 o4 hg4
    go_wp2
    go_region_held3 (fun _ => True) (trivial) ((refine step_append_run (by rfl) (.tmp 22) (.tmp 25) 89 (by rfl) _ _ (by rfl) (by rfl) _ w2 hrun ?_))
    go_wp2
    go_ret
    refine ⟨_, _, rfl, ?_, HB.out⟩
    rw [← E3.out]
    exact O4.out
  · have hcq : ¬ cap = q := by omega
    obtain ⟨w2, hrun, o2, hg2⟩ := fits_any w.drew base g q cap i l HL.out HI.out HO.out ⟨g, (i + 1) * 2, none⟩ (fun _ => rfl) 89 (cap - (i + 1))
    obtain ⟨ys, o3, e3⟩ := own_more o2 (m := q + 1) (by omega) (by omega)
    obtain ⟨w4, hrun4, o4, hg4⟩ := run_clear_own (P := Tryz.prog) w2 base 89 0 274 (.agg #[.int .i64 0, .int .i64 0]) 2 Tryz.underlying89 hz (by decide) (by decide) g (q + 1) cap q _ o3 (by omega) (some ⟨g, q * 2, none⟩) (fun _ => rfl) (cap - q)
    rw [show q + 1 - q = 1 by omega] at hrun4
    have O4 := Lib.hid o4
    have E3 := Lib.hid e3
    have HB := Lib.hid (((Below.refl base w).drew.grown hg2 hbase (fun k e => by cases e; exact hg)).grown hg4 (Nat.le_trans hbase hg2.size) (fun k e => by cases e; exact hg))
    clear o2 hg2 o3 e3 o4 hg4
    go_wp2
    go_region_held3 (fun _ => True) (trivial) ((refine step_append_run (by rfl) (.tmp 22) (.tmp 25) 89 (by rfl) _ _ (by rfl) (by rfl) _ w2 hrun ?_))
    go_wp2
    go_ret
    refine ⟨_, _, rfl, ?_, HB.out⟩
    rw [← E3.out]
    exact O4.out
end Go.Proofs.YtfpmfegmehbfbaaGreatDoor

/- What comes in, opened: whatever nests, a type at a time. -/
namespace Go.Proofs.YtfpmfegmehbfbaaGreatDoor
set_option linter.unusedVariables false
set_option linter.unusedSimpArgs false
open Go.ChangeShapes Go.WideShapes Go.ChangeAt Go.RowKit

section
variable {H : Type} (enc : TypeId × Value → H) (P : Program) (W : World)
/-- Cells that read as something of a type, that is no greater than a machine's memory. -/
def Tw (t : TypeId) (cs : List Value) (d : DataW H) : Prop := (∃ fuel p, DataW.trod enc P W 0 (fun _ => true) true fuel t cs = some (d, p)) ∧ ∀ m ∈ d.weights P t, m ≤ reachBytes
/-- Whatever reads so is one of these. -/
def Dec {α : Type} (t : TypeId) (en : α → List Value) (wf : α → Prop) : Prop := ∀ cs d, Tw enc P W t cs d → ∃ a, cs = en a ∧ wf a
variable {enc P W}
theorem tw_string {t : TypeId} {cs : List Value} {d : DataW H} (ht : P.underlying t = some .string) (h : Tw enc P W t cs d) : ∃ s : ByteArray, cs = [.string s] ∧ s.size ≤ 140737488351232 := by
  obtain ⟨⟨fuel, p, hf⟩, hw⟩ := h
  obtain ⟨s, h1, h2, _⟩ := DataW.trod_string ht hf
  simp only [Prod.mk.injEq] at h2
  refine ⟨s, h1, ?_⟩
  have := hw s.data.toList.length (by rw [h2.1]; simp [DataW.weights])
  simpa [reachBytes] using this
theorem tw_slice {t e : TypeId} {cs : List Value} {d : DataW H} (ht : P.underlying t = some (.slice e)) (h : Tw enc P W t cs d) : ∃ (A : Option Addr) (n c : Nat), cs = [.slice A n c] ∧ n ≤ c ∧ c * P.bytesOf e ≤ 140737488351232 ∧
    ∀ i, i < n → ∃ ad cs' d', A = some ad ∧ Tw enc P W e cs' d' ∧ cs'.length = P.cellsOf e ∧ ∀ (j : Nat) (u : Value), cs'[j]? = some u → W.cell? (ad.add (i * P.cellsOf e + j)) = some u := by
  obtain ⟨⟨fuel, p, hf⟩, hw⟩ := h
  rcases Go.Deep.open_slice ht hf with ⟨rfl, hx⟩ | ⟨a, len, cap, m, n, D, Pl, rfl, _, hl, _, hm, hx, hr⟩
  · exact ⟨none, 0, 0, rfl, Nat.le_refl _, by simp, fun i hi => absurd hi (by omega)⟩
  · simp only [Prod.mk.injEq, if_true] at hx hm
    subst hm
    have hwd : d.weights P t = (len + (m - len)) * P.bytesOf e :: (DataW.weightsAll P e ((List.range len).map D) ++ DataW.weightsAll P e ((List.range (m - len)).map fun j => D (len + j))) := by
      rw [hx.1, DataW.weights]
      simp only [ht, List.length_map, List.length_range]
    refine ⟨some a, len, m, rfl, hl, ?_, fun i hi => ?_⟩
    · have := hw _ (by rw [hwd]; exact List.mem_cons_self)
      rw [show len + (m - len) = m by omega] at this
      exact this
    · obtain ⟨cs', h1, h2⟩ := hr i (by omega)
      obtain ⟨_, h3, h4⟩ := World.cells?_some h1
      refine ⟨a, cs', D i, rfl, ⟨⟨n, Pl i, h2⟩, fun k hk => hw k ?_⟩, h3, fun j u hu => ?_⟩
      · rw [hwd]
        exact List.mem_cons_of_mem _ (List.mem_append.2 (.inl (mem_weightsAll (List.mem_map.2 ⟨i, by simpa using hi, rfl⟩) k hk)))
      · have hj := (List.getElem?_eq_some_iff.1 hu).1
        rw [← add_of_add, h4 j (by omega)]
        exact hu
theorem list_of {α : Type} {p : Nat → α → Prop} : ∀ n : Nat, (∀ i, i < n → ∃ a, p i a) → ∃ l : List α, l.length = n ∧ ∀ i a, l[i]? = some a → p i a
  | 0, _ => ⟨[], rfl, fun i a h => by simp at h⟩
  | n + 1, h => by
    obtain ⟨l, h1, h2⟩ := list_of n (fun i hi => h i (by omega))
    obtain ⟨a, ha⟩ := h n (by omega)
    refine ⟨l ++ [a], by simp [h1], fun i b hb => ?_⟩
    by_cases hi : i < l.length
    · rw [List.getElem?_append_left hi] at hb; exact h2 i b hb
    · have hlt := (List.getElem?_eq_some_iff.1 hb).1
      simp only [List.length_append, List.length_singleton] at hlt
      have : i = l.length := by omega
      subst this
      simp at hb
      subst hb
      rw [h1]; exact ha
theorem dec_slice {α : Type} {en : α → List Value} {wf : α → Prop} {t e : TypeId} {cs : List Value} {d : DataW H} {k : Nat} (ht : P.underlying t = some (.slice e)) (hk : P.cellsOf e = k) (h0 : 0 < k) (hen : ∀ a, (en a).length = k) (hd : Dec enc P W e en wf)
    (h : Tw enc P W t cs d) : ∃ (A : Option Addr) (c : Nat) (l : List α), cs = [.slice A l.length c] ∧ l.length ≤ c ∧ c * P.bytesOf e ≤ 140737488351232 ∧ (∀ a ∈ l, wf a) ∧ Reads W W.heap.size k A l.length (l.flatMap en) := by
  obtain ⟨A, n, c, rfl, hnc, hcb, hall⟩ := tw_slice ht h
  rw [hk] at hall
  obtain ⟨l, hl, hp⟩ := list_of (p := fun i a => wf a ∧ ∃ ad, A = some ad ∧ ∀ (j : Nat) (u : Value), (en a)[j]? = some u → W.cell? (ad.add (i * k + j)) = some u) n (fun i hi => by
    obtain ⟨ad, cs', d', hA, htw, _, hc⟩ := hall i hi
    obtain ⟨a, rfl, ha⟩ := hd cs' d' htw
    exact ⟨a, ha, ad, hA, hc⟩)
  subst hl
  refine ⟨A, c, l, rfl, hnc, hcb, fun a ha => ?_, fm_length en hen l, fun hn => ?_⟩
  · obtain ⟨i, hi⟩ := List.mem_iff_getElem?.1 ha
    exact (hp i a hi).1
  · obtain ⟨x, hx⟩ : ∃ x, l[0]? = some x := ⟨_, List.getElem?_eq_getElem hn⟩
    obtain ⟨_, ad, hA, hc0⟩ := hp 0 x hx
    refine ⟨ad, hA, ?_, fun j u hu => ?_⟩
    · have hx0 : 0 < (en x).length := by rw [hen]; exact h0
      have := cell_lt (hc0 0 _ (List.getElem?_eq_getElem hx0))
      rwa [block_of_add] at this
    · have hj := (List.getElem?_eq_some_iff.1 hu).1
      rw [fm_length en hen] at hj
      have hi : j / k < l.length := Nat.div_lt_of_lt_mul (by rw [Nat.mul_comm]; exact hj)
      obtain ⟨y, hy⟩ : ∃ y, l[j / k]? = some y := ⟨_, List.getElem?_eq_getElem hi⟩
      obtain ⟨_, ad', hA', hc⟩ := hp _ y hy
      rw [hA] at hA'
      cases hA'
      have hjk : j / k * k + j % k = j := Nat.div_add_mod' j k
      have := fm_at en hen hy (Nat.mod_lt j h0)
      rw [hjk, hu] at this
      have h2 := hc (j % k) u this.symm
      rwa [hjk] at h2
theorem dec_string {t : TypeId} (ht : P.underlying t = some .string) : Dec enc P W t (fun s => [Value.string s]) (fun s => s.size ≤ 140737488351232) := fun cs d h => tw_string ht h
theorem fm_single {α : Type} (f : α → Value) : ∀ l : List α, l.flatMap (fun a => [f a]) = l.map f
  | [] => rfl
  | a :: l => by rw [List.flatMap_cons, fm_single f l]; rfl
theorem open_strs {t e : TypeId} {cs : List Value} {d : DataW H} (ht : P.underlying t = some (.slice e)) (he : P.underlying e = some .string) (ce : P.cellsOf e = 1) (be : P.bytesOf e = 16) (h : Tw enc P W t cs d) :
    ∃ (A : Option Addr) (c : Nat) (l : List ByteArray), cs = [.slice A l.length c] ∧ l.length ≤ c ∧ c ≤ 140737488351232 ∧ (∀ s ∈ l, s.size ≤ 140737488351232) ∧ Reads W W.heap.size 1 A l.length (tv l) := by
  obtain ⟨A, c, l, h1, h2, h3, h4, h5⟩ := dec_slice ht ce (by decide) (fun _ => rfl) (dec_string he) h
  rw [be] at h3
  refine ⟨A, c, l, h1, h2, by omega, h4, ?_⟩
  have e : (l.flatMap fun s => [Value.string s]) = tv l := fm_single _ l
  rwa [e] at h5
end
end Go.Proofs.YtfpmfegmehbfbaaGreatDoor
