/- Parts of the proofs, put together: LgC, Lg1, Lg2, Tg0. -/
import Derived.Laws.IdiomStrings
import Derived.Test.YtfpmfegmehbfbaaGreatDoorV3
import Derived.Test.YtfpmfegmehbfbaaGreatDoorV10
import Derived.Test.YtfpmfegmehbfbaaGreatDoorV13
import Derived.Test.YtfpmfegmehbfbaaGreatDoorV15
import Derived.Test.YtfpmfegmehbfbaaGreatDoorV19
import Derived.Test.YtfpmfegmehbfbaaGreatDoorV22
/- slices.Grow of nothing, slices.Concat, walked. -/
namespace Go.Proofs.YtfpmfegmehbfbaaGreatDoor
set_option linter.unusedVariables false
set_option linter.unusedSimpArgs false
set_option linter.unusedSimpArgs false
open Go.RowKit Go.Shelf Go.Maps

/-- A slice: where, how long, how much room, its cells. -/
structure PcX where
  A : Option Addr
  n : Nat
  c : Nat
  xs : List Value
def pcV (ps : List PcX) : List Value := ps.map fun p => .slice p.A p.n p.c
def pcN (ps : List PcX) : Nat := (ps.map (·.n)).sum
def pcL (ps : List PcX) : List Value := ps.flatMap (·.xs)
theorem pcN_snoc (ps : List PcX) (p : PcX) : pcN (ps ++ [p]) = pcN ps + p.n := by simp [pcN]
theorem pcL_snoc (ps : List PcX) (p : PcX) : pcL (ps ++ [p]) = pcL ps ++ p.xs := by simp [pcL]
theorem pcN_take (ps : List PcX) (j : Nat) : pcN (ps.take j) ≤ pcN ps := by
  have e : pcN (ps.take j ++ ps.drop j) = pcN (ps.take j) + pcN (ps.drop j) := by simp only [pcN, List.map_append, List.sum_append]
  rw [List.take_append_drop] at e
  omega
theorem pc_at {w : World} {B : Nat} {P : Option Addr} {ps : List PcX} (h : Reads w B 1 P ps.length (pcV ps)) {j : Nat} {p : PcX} (hj : ps[j]? = some p) : ∃ ad, P = some ad ∧ ad.block < B ∧ w.cell? (ad.add j) = some (.slice p.A p.n p.c) := by
  have hl := (List.getElem?_eq_some_iff.1 hj).1
  obtain ⟨ad, u, e, hb, hu, hc⟩ := h.at_ hl
  refine ⟨ad, e, hb, ?_⟩
  rw [hc]
  have : (pcV ps)[j]? = some (.slice p.A p.n p.c) := by simp [pcV, hj]
  rw [this] at hu
  exact hu.symm
theorem grow_own {w : World} {T : TypeId} {z : Value} {size n G : Nat} (hs : z.cells.size = size) (hn : n ≤ G) (hG : G ≤ maxLen) (base : Nat) (hb : base ≤ w.heap.size) :
    (w.drew.alloc (.cells (#[] ++ Builtin.zeroCells z.cells n ++ Builtin.zeroCells z.cells (G - n)) T)).ownsRow base T size (.slice (some ⟨w.heap.size, 0, none⟩) 0 G) 0 [] := by
  refine ⟨by simp, .inr ⟨w.heap.size, G, _, rfl, hb, heap_alloc_new w.drew _, Nat.zero_le _, hG, ?_, by simp⟩⟩
  simp only [Array.size_append, size_zeroCells, hs, List.size_toArray, List.length_nil, Nat.zero_add, ← Nat.add_mul]
  congr 1; omega

theorem Tryz.infoCB : (Tryz.prog.info? 5).map (fun i => (i.zero, i.size, i.bytes)) = some (some (.int .u8 0), 1, 1) := by kernel_rfl
set_option maxRecDepth 100000 in
set_option maxHeartbeats 2000000 in
theorem growB_any (n : Nat) (hn : n ≤ 100000) (w : World) :
    Calls Tryz.prog 138 #[.slice none 0 0, .int .i64 n] w fun e w' => ∃ v, e = .returned v ∧ w'.ownsRow w.heap.size 5 1 v 0 [] ∧ Ext w w' := by
  obtain ⟨i0, hi, hz0, hz1, hz2⟩ := info_parts Tryz.infoCB
  rcases Nat.eq_zero_or_pos n with rfl | h0
  · refine (Any8.slices_Grow_room Tryz.laysG138 none 0 0 0 w (by omega) (by omega) (by omega) (by omega)).mono ?_
    rintro e w' ⟨rfl, rfl⟩
    exact ⟨_, rfl, World.ownsRow_nil _ _ _ _, Ext.refl _⟩
  · refine (Any8.slices_Grow_grow Tryz.laysG138 i0 _ hi hz0 (by rw [hz1]; decide) none 0 0 n [] w (by omega) (by omega) (by rw [hz2]; omega) (by omega) (by simp) (fun _ => rfl) (by intro a h; cases h)).mono ?_
    rintro e w' ⟨rfl, rfl⟩
    refine ⟨_, rfl, ?_, ((Ext.refl w).drew).alloc _⟩
    rw [Nat.zero_add, Nat.sub_zero]
    exact grow_own (by first | rfl | decide) (by have := grownCap_ge w n 0 5; omega) (grownCap_le_maxLen w n 0 5 (by unfold maxLen; omega)) _ (Nat.le_refl _)
set_option maxRecDepth 100000 in
set_option maxHeartbeats 4000000 in
theorem catB_any (ps : List PcX) (hl : ps.length ≤ 100) (ht : pcN ps ≤ 100000) (P : Option Addr) (c : Nat) (w : World) (hr : Reads w w.heap.size 1 P ps.length (pcV ps))
    (hp : ∀ p ∈ ps, Reads w w.heap.size 1 p.A p.n p.xs ∧ ∀ u ∈ p.xs, u.oneCell' = true) :
    Calls Tryz.prog 61 #[.slice P ps.length c] w fun e w' => ∃ v, e = .returned v ∧ w'.ownsRow w.heap.size 5 1 v (pcN ps) (pcL ps) ∧ Ext w w' := by
  obtain ⟨i0, hi, hz0, hz1, hz2⟩ := info_parts Tryz.infoCB
  have cG := growB_any (pcN ps) ht w
  have HR := Lib.hid hr
  have HP := Lib.hid hp
  have HL := Lib.hid hl
  have HT := Lib.hid ht
  clear hr hp hl ht
  go_enter Tryz.func61, Tryz.ntmps61
  go_wp2
  go_loopg [3, 11] ps.length (fun m s3 s11 wr => ∃ j : Nat, j + m = ps.length ∧ s11 = .int .i64 j ∧ s3 = .int .i64 (pcN (ps.take j) : Nat) ∧ w = wr)
  case atStart => exact ⟨0, by omega, rfl, rfl, rfl⟩
  case round =>
    obtain ⟨j, hj, rfl, rfl, rfl⟩ := hrel
    by_cases h : j < ps.length
    · obtain ⟨p, hp⟩ : ∃ s, ps[j]? = some s := ⟨_, List.getElem?_eq_getElem h⟩
      obtain ⟨ad, rfl, hlt, q0⟩ := pc_at HR.out hp
      have hjb : (j : Int) ≤ 100 := by have := HL.out; omega
      have e1 : pcN (ps.take (j + 1)) = pcN (ps.take j) + p.n := by rw [take_snoc hp, pcN_snoc]
      have hb1 := pcN_take ps (j + 1)
      obtain ⟨a, ha⟩ : ∃ a, pcN (ps.take j) = a := ⟨_, rfl⟩
      rw [ha] at e1 ⊢
      have hab : (a : Int) + (p.n : Int) ≤ 100000 := by have := HT.out; omega
      have hpb : (p.n : Int) ≤ 100000 := by omega
      have haz : (0 : Int) ≤ (a : Int) + (p.n : Int) := by omega
      have hnz : ¬ ((a : Int) + (p.n : Int) < 0) := by omega
      have HE := Lib.hid e1
      have HJ := Lib.hid hj
      clear e1 hb1 ha hj hp
      go_wp2
      have hj := HJ.out
      go_roundg (gk - 1)
      case measure => omega
      case rel => exact ⟨j + 1, by omega, int_congr (by omega), int_congr (by rw [HE.out]; push_cast; omega), rfl⟩
    · obtain rfl : j = ps.length := by omega
      rw [List.take_length]
      clear hj h
      go_upto_region 10 with (go_at_call 138; refine cG.mono ?_; clear cG; rintro e w1 ⟨v1, rfl, o1, x1⟩)
      have HO1 := Lib.hid o1
      have HX1 := Lib.hid x1
      clear o1 x1
      go_wp2
      go_loopg [6, 27] ps.length (fun m s6 s27 wr => ∃ j : Nat, j + m = ps.length ∧ s27 = .int .i64 j ∧ wr.ownsRow w.heap.size 5 1 s6 (pcN (ps.take j)) (pcL (ps.take j)) ∧ Ext w wr)
      case atStart => exact ⟨0, by omega, rfl, HO1.out, HX1.out⟩
      case round =>
        obtain ⟨j, hj, rfl, ho, hx⟩ := hrel
        by_cases h : j < ps.length
        · obtain ⟨p, hp⟩ : ∃ s, ps[j]? = some s := ⟨_, List.getElem?_eq_getElem h⟩
          obtain ⟨ad, rfl, hlt, q0⟩ := pc_at (HR.out.below hx.out) hp
          obtain ⟨r1, r2⟩ := HP.out p (List.mem_of_getElem? hp)
          have r3 := (r1.below hx.out)
          have hjb : (j : Int) ≤ 100 := by have := HL.out; omega
          have e1 : pcN (ps.take (j + 1)) = pcN (ps.take j) + p.n := by rw [take_snoc hp, pcN_snoc]
          have e2 : pcL (ps.take (j + 1)) = pcL (ps.take j) ++ p.xs := by rw [take_snoc hp, pcL_snoc]
          have hb1 := pcN_take ps (j + 1)
          have hab : pcN (ps.take j) + p.n ≤ 100000 := by have := HT.out; omega
          have HE : Hid (pcN (ps.take (j + 1)) = pcN (ps.take j) + p.n ∧ pcL (ps.take (j + 1)) = pcL (ps.take j) ++ p.xs) := Lib.hid ⟨e1, e2⟩
          have HJ := Lib.hid hj
          have HO := Lib.hid ho
          have HX := Lib.hid hx
          have H3 := Lib.hid r3
          have H2 := Lib.hid r2
          have HAB := Lib.hid hab
          clear e1 e2 hb1 hj hp ho hx r1 r2 r3 hab
          go_wp2_with (at_builtin; refine wpList_append_any _ rfl (.tmp 31) (.tmp 32) 22 rfl w.heap.size 5 i0 (.int .u8 0) 1 1 Tryz.underlying22 hi hz0 hz1 hz2 rfl (by decide) _ _ _ rfl HO.out w.heap.size _ _ _ p.xs rfl H3.out H2.out (by have := HAB.out; simp only [maxLen]; omega) (by have := HAB.out; omega) HX.out.size ?_; intro v2 w2 hown2 hg2 _)
          have X2 := ext_grown HX.out HO.out hg2
          have O2 : Hid (w2.ownsRow w.heap.size 5 1 v2 (pcN (ps.take (j + 1))) (pcL (ps.take (j + 1)))) := by
            show World.ownsRow _ _ _ _ _ _ _
            rw [HE.out.1, HE.out.2]
            exact hown2
          clear hown2 hg2
          have hj := HJ.out
          go_wp2
          go_roundg (gk - 1)
          case measure => omega
          case rel => exact ⟨j + 1, by omega, int_congr (by omega), O2.out, X2⟩
        · obtain rfl : j = ps.length := by omega
          rw [List.take_length] at ho
          have HO := Lib.hid ho
          have HX := Lib.hid hx
          clear ho hx hj h
          go_wp2
          go_ret
          exact ⟨_, rfl, HO.out, HX.out⟩

theorem Tryz.infoCL : (Tryz.prog.info? 142).map (fun i => (i.zero, i.size, i.bytes)) = some (some (.agg #[.slice none 0 0, .int .i64 0]), 2, 32) := by kernel_rfl
set_option maxRecDepth 100000 in
set_option maxHeartbeats 2000000 in
theorem growL_any (n : Nat) (hn : n ≤ 100000) (w : World) :
    Calls Tryz.prog 263 #[.slice none 0 0, .int .i64 n] w fun e w' => ∃ v, e = .returned v ∧ w'.ownsRow w.heap.size 142 2 v 0 [] ∧ Ext w w' := by
  obtain ⟨i0, hi, hz0, hz1, hz2⟩ := info_parts Tryz.infoCL
  rcases Nat.eq_zero_or_pos n with rfl | h0
  · refine (Any8.slices_Grow_room Tryz.laysG263 none 0 0 0 w (by omega) (by omega) (by omega) (by omega)).mono ?_
    rintro e w' ⟨rfl, rfl⟩
    exact ⟨_, rfl, World.ownsRow_nil _ _ _ _, Ext.refl _⟩
  · refine (Any8.slices_Grow_grow Tryz.laysG263 i0 _ hi hz0 (by rw [hz1]; decide) none 0 0 n [] w (by omega) (by omega) (by rw [hz2]; omega) (by omega) (by simp) (fun _ => rfl) (by intro a h; cases h)).mono ?_
    rintro e w' ⟨rfl, rfl⟩
    refine ⟨_, rfl, ?_, ((Ext.refl w).drew).alloc _⟩
    rw [Nat.zero_add, Nat.sub_zero]
    exact grow_own (by first | rfl | decide) (by have := grownCap_ge w n 0 142; omega) (grownCap_le_maxLen w n 0 142 (by unfold maxLen; omega)) _ (Nat.le_refl _)
set_option maxRecDepth 100000 in
set_option maxHeartbeats 4000000 in
theorem catL_any (ps : List PcX) (hl : ps.length ≤ 100) (ht : pcN ps ≤ 100000) (P : Option Addr) (c : Nat) (w : World) (hr : Reads w w.heap.size 1 P ps.length (pcV ps))
    (hp : ∀ p ∈ ps, Reads w w.heap.size 2 p.A p.n p.xs ∧ ∀ u ∈ p.xs, u.oneCell' = true) :
    Calls Tryz.prog 215 #[.slice P ps.length c] w fun e w' => ∃ v, e = .returned v ∧ w'.ownsRow w.heap.size 142 2 v (pcN ps) (pcL ps) ∧ Ext w w' := by
  obtain ⟨i0, hi, hz0, hz1, hz2⟩ := info_parts Tryz.infoCL
  have cG := growL_any (pcN ps) ht w
  have HR := Lib.hid hr
  have HP := Lib.hid hp
  have HL := Lib.hid hl
  have HT := Lib.hid ht
  clear hr hp hl ht
  go_enter Tryz.func215, Tryz.ntmps215
  go_wp2
  go_loopg [3, 11] ps.length (fun m s3 s11 wr => ∃ j : Nat, j + m = ps.length ∧ s11 = .int .i64 j ∧ s3 = .int .i64 (pcN (ps.take j) : Nat) ∧ w = wr)
  case atStart => exact ⟨0, by omega, rfl, rfl, rfl⟩
  case round =>
    obtain ⟨j, hj, rfl, rfl, rfl⟩ := hrel
    by_cases h : j < ps.length
    · obtain ⟨p, hp⟩ : ∃ s, ps[j]? = some s := ⟨_, List.getElem?_eq_getElem h⟩
      obtain ⟨ad, rfl, hlt, q0⟩ := pc_at HR.out hp
      have hjb : (j : Int) ≤ 100 := by have := HL.out; omega
      have e1 : pcN (ps.take (j + 1)) = pcN (ps.take j) + p.n := by rw [take_snoc hp, pcN_snoc]
      have hb1 := pcN_take ps (j + 1)
      obtain ⟨a, ha⟩ : ∃ a, pcN (ps.take j) = a := ⟨_, rfl⟩
      rw [ha] at e1 ⊢
      have hab : (a : Int) + (p.n : Int) ≤ 100000 := by have := HT.out; omega
      have hpb : (p.n : Int) ≤ 100000 := by omega
      have haz : (0 : Int) ≤ (a : Int) + (p.n : Int) := by omega
      have hnz : ¬ ((a : Int) + (p.n : Int) < 0) := by omega
      have HE := Lib.hid e1
      have HJ := Lib.hid hj
      clear e1 hb1 ha hj hp
      go_wp2
      have hj := HJ.out
      go_roundg (gk - 1)
      case measure => omega
      case rel => exact ⟨j + 1, by omega, int_congr (by omega), int_congr (by rw [HE.out]; push_cast; omega), rfl⟩
    · obtain rfl : j = ps.length := by omega
      rw [List.take_length]
      clear hj h
      go_upto_region 10 with (go_at_call 263; refine cG.mono ?_; clear cG; rintro e w1 ⟨v1, rfl, o1, x1⟩)
      have HO1 := Lib.hid o1
      have HX1 := Lib.hid x1
      clear o1 x1
      go_wp2
      go_loopg [6, 27] ps.length (fun m s6 s27 wr => ∃ j : Nat, j + m = ps.length ∧ s27 = .int .i64 j ∧ wr.ownsRow w.heap.size 142 2 s6 (pcN (ps.take j)) (pcL (ps.take j)) ∧ Ext w wr)
      case atStart => exact ⟨0, by omega, rfl, HO1.out, HX1.out⟩
      case round =>
        obtain ⟨j, hj, rfl, ho, hx⟩ := hrel
        by_cases h : j < ps.length
        · obtain ⟨p, hp⟩ : ∃ s, ps[j]? = some s := ⟨_, List.getElem?_eq_getElem h⟩
          obtain ⟨ad, rfl, hlt, q0⟩ := pc_at (HR.out.below hx.out) hp
          obtain ⟨r1, r2⟩ := HP.out p (List.mem_of_getElem? hp)
          have r3 := (r1.below hx.out)
          have hjb : (j : Int) ≤ 100 := by have := HL.out; omega
          have e1 : pcN (ps.take (j + 1)) = pcN (ps.take j) + p.n := by rw [take_snoc hp, pcN_snoc]
          have e2 : pcL (ps.take (j + 1)) = pcL (ps.take j) ++ p.xs := by rw [take_snoc hp, pcL_snoc]
          have hb1 := pcN_take ps (j + 1)
          have hab : pcN (ps.take j) + p.n ≤ 100000 := by have := HT.out; omega
          have HE : Hid (pcN (ps.take (j + 1)) = pcN (ps.take j) + p.n ∧ pcL (ps.take (j + 1)) = pcL (ps.take j) ++ p.xs) := Lib.hid ⟨e1, e2⟩
          have HJ := Lib.hid hj
          have HO := Lib.hid ho
          have HX := Lib.hid hx
          have H3 := Lib.hid r3
          have H2 := Lib.hid r2
          have HAB := Lib.hid hab
          clear e1 e2 hb1 hj hp ho hx r1 r2 r3 hab
          go_wp2_with (at_builtin; refine wpList_append_any _ rfl (.tmp 31) (.tmp 32) 26 rfl w.heap.size 142 i0 (.agg #[.slice none 0 0, .int .i64 0]) 2 32 Tryz.underlying26 hi hz0 hz1 hz2 rfl (by decide) _ _ _ rfl HO.out w.heap.size _ _ _ p.xs rfl H3.out H2.out (by have := HAB.out; simp only [maxLen]; omega) (by have := HAB.out; omega) HX.out.size ?_; intro v2 w2 hown2 hg2 _)
          have X2 := ext_grown HX.out HO.out hg2
          have O2 : Hid (w2.ownsRow w.heap.size 142 2 v2 (pcN (ps.take (j + 1))) (pcL (ps.take (j + 1)))) := by
            show World.ownsRow _ _ _ _ _ _ _
            rw [HE.out.1, HE.out.2]
            exact hown2
          clear hown2 hg2
          have hj := HJ.out
          go_wp2
          go_roundg (gk - 1)
          case measure => omega
          case rel => exact ⟨j + 1, by omega, int_congr (by omega), O2.out, X2⟩
        · obtain rfl : j = ps.length := by omega
          rw [List.take_length] at ho
          have HO := Lib.hid ho
          have HX := Lib.hid hx
          clear ho hx hj h
          go_wp2
          go_ret
          exact ⟨_, rfl, HO.out, HX.out⟩
end Go.Proofs.YtfpmfegmehbfbaaGreatDoor

/- Logs in memory. -/
namespace Go.Proofs.YtfpmfegmehbfbaaGreatDoor
set_option linter.unusedVariables false
set_option linter.unusedSimpArgs false
set_option linter.unusedSimpArgs false
open Go.RowKit Go.Shelf Go.Maps

theorem own_monoL {w : World} {base base' : Nat} {e : TypeId} {size n : Nat} {v : Value} {xs : List Value} (h : w.ownsRow base e size v n xs) (hb : base' ≤ base) : w.ownsRow base' e size v n xs := by
  refine ⟨h.1, ?_⟩
  rcases h.2 with h' | ⟨g, cap, cur, hv, hg, hr⟩
  · exact .inl h'
  · exact .inr ⟨g, cap, cur, hv, Nat.le_trans hb hg, hr⟩
/-- What a log holds, and where. -/
structure EntX where
  b : List Nat
  t : Nat
  A : Option Addr
  c : Nat
def EntX.ent (x : EntX) : EntR := ⟨x.b, x.t⟩
def entC (x : EntX) : List Value := [.slice x.A x.b.length x.c, .int .i64 (x.t : Int)]
def entV (l : List EntX) : List Value := l.flatMap entC
theorem entV_len (l : List EntX) : (entV l).length = l.length * 2 := fm_length entC (fun _ => rfl) l
theorem entV_append (l m : List EntX) : entV (l ++ m) = entV l ++ entV m := List.flatMap_append
theorem entV_one (l : List EntX) : ∀ u ∈ entV l, u.oneCell' = true := fm_one entC (fun x u hu => by simp [entC] at hu; rcases hu with rfl | rfl <;> rfl) l
theorem reads_ent {w : World} {B n : Nat} {A : Option Addr} {l : List EntX} (h : Reads w B 2 A n (entV l)) {j : Nat} {x : EntX} (hj : l[j]? = some x) :
    ∃ ad, A = some ad ∧ ad.block < B ∧ w.cell? (ad.add (j * 2)) = some (.slice x.A x.b.length x.c) ∧ w.cell? ⟨(ad.add (j * 2)).block, (ad.add (j * 2)).off + 1, none⟩ = some (.int .i64 (x.t : Int)) := by
  obtain ⟨ad, e, hb, hc⟩ := reads_fm entC (fun _ => rfl) h hj (by decide)
  refine ⟨ad, e, hb, ?_, ?_⟩
  · have := hc 0 _ rfl; rwa [add_of_add, Nat.add_zero] at this
  · rw [← add_succ_eq _ 0]; exact hc 1 _ rfl
def EntsW (w : World) (B : Nat) (l : List EntX) : Prop := ∀ x ∈ l, x.b.length ≤ x.c ∧ Reads w B 1 x.A x.b.length (bv x.b)
structure LogX where
  key : Nat
  lA : Option Addr
  ls : List EntX
  lc : Nat
  wA : Option Addr
  ws : List EntX
  wc : Nat
def LogX.all (d : LogX) : List EntX := d.ls ++ d.ws
/-- A log: its cells. -/
def logV (d : LogX) : Value := .agg #[.int .i64 0, .int .u64 (d.key : Int), .int .i64 20, .slice d.lA d.ls.length d.lc, .slice none 0 0, .slice d.wA d.ws.length d.wc]
structure LogW (w : World) (B : Nat) (d : LogX) : Prop where
  odd : oddN d.key = false
  l : Reads w B 2 d.lA d.ls.length (entV d.ls)
  lc : d.ls.length ≤ d.lc
  rs : Reads w B 2 d.wA d.ws.length (entV d.ws)
  wc : d.ws.length ≤ d.wc
  el : EntsW w B d.all
  good : GoodE (d.all.map EntX.ent)
  few : d.all.length ≤ 30
theorem EntsW.below {w w' : World} {B : Nat} {l : List EntX} (h : EntsW w B l) (hb : Below B w w') : EntsW w' B l := fun x hx => ⟨(h x hx).1, (h x hx).2.below hb⟩
theorem EntsW.more {w : World} {B B' : Nat} {l : List EntX} (h : EntsW w B l) (hb : B ≤ B') : EntsW w B' l := fun x hx => ⟨(h x hx).1, (h x hx).2.more hb⟩
theorem LogW.below {w w' : World} {B : Nat} {d : LogX} (h : LogW w B d) (hb : Below B w w') : LogW w' B d :=
  ⟨h.odd, h.l.below hb, h.lc, h.rs.below hb, h.wc, h.el.below hb, h.good, h.few⟩
theorem LogW.more {w : World} {B B' : Nat} {d : LogX} (h : LogW w B d) (hb : B ≤ B') : LogW w B' d :=
  ⟨h.odd, h.l.more hb, h.lc, h.rs.more hb, h.wc, h.el.more hb, h.good, h.few⟩
theorem LogW.ext {w w' : World} {d : LogX} (h : LogW w w.heap.size d) (x : Ext w w') : LogW w' w'.heap.size d := (h.below x.out).more x.size
theorem LogW.lens {w : World} {B : Nat} {d : LogX} (h : LogW w B d) : d.ls.length + d.ws.length ≤ 30 := by have := h.few; unfold LogX.all at this; rwa [List.length_append] at this
theorem lnum_any (n : Int) (w : World) : Calls Tryz.prog 51 #[.int .i64 n] w fun e w' => e = .returned (.bool (decide (0 ≤ n ∧ n ≤ 1099511627776))) ∧ w = w' := by
  by_cases h1 : 0 ≤ n
  · have d1 : decide ((0 : Int) ≤ n) = true := by simpa using h1
    by_cases h2 : n ≤ 1099511627776
    · have d2 : decide (n ≤ (1099511627776 : Int)) = true := by simpa using h2
      rw [decide_eq_true ⟨h1, h2⟩]
      clear h1 h2
      go_enter Tryz.func51, Tryz.ntmps51
      go_wp2
      go_ret
      exact ⟨rfl, rfl⟩
    · have d2 : decide (n ≤ (1099511627776 : Int)) = false := by simpa using h2
      rw [decide_eq_false (fun h => h2 h.2)]
      clear h1 h2
      go_enter Tryz.func51, Tryz.ntmps51
      go_wp2
      go_ret
      exact ⟨rfl, rfl⟩
  · have d1 : decide ((0 : Int) ≤ n) = false := by simpa using h1
    rw [decide_eq_false (fun h => h1 h.1)]
    clear h1
    go_enter Tryz.func51, Tryz.ntmps51
    go_wp2
    go_ret
    exact ⟨rfl, rfl⟩
theorem isBody_any (A : Option Addr) (n c : Nat) (hn : n ≤ 2000) (w : World) : Calls Tryz.prog 122 #[.slice A n c] w fun e w' => e = .returned (.bool (decide (0 < n))) ∧ w = w' := by
  have d2 : decide ((n : Int) ≤ 2048) = true := by simp; omega
  have d4 : (n : Int) ≤ 2048 := by omega
  by_cases h1 : 0 < n
  · have d1 : decide ((0 : Int) < (n : Int)) = true := by simp; omega
    have d3 : (0 : Int) < (n : Int) := by omega
    rw [decide_eq_true h1]
    clear h1 hn
    go_enter Tryz.func122, Tryz.ntmps122
    go_wp2
    go_ret
    exact ⟨rfl, rfl⟩
  · obtain rfl : n = 0 := by omega
    clear h1 hn
    go_enter Tryz.func122, Tryz.ntmps122
    go_wp2
    go_ret
    exact ⟨rfl, rfl⟩
set_option maxRecDepth 100000 in
set_option maxHeartbeats 2000000 in
theorem all_any (d : LogX) (w : World) (h : LogW w w.heap.size d) : Calls Tryz.prog 123 #[logV d] w fun e w' =>
    ∃ A c, e = .returned (.slice A d.all.length c) ∧ d.all.length ≤ c ∧ Reads w' w'.heap.size 2 A d.all.length (entV d.all) ∧ Ext w w' ∧ w'.ownsRow w.heap.size 142 2 (.slice A d.all.length c) d.all.length (entV d.all) := by
  obtain ⟨W0, e0⟩ : ∃ W, w.alloc (.cells #[.int .i64 0, .int .u64 (d.key : Int), .int .i64 20, .slice d.lA d.ls.length d.lc, .slice none 0 0, .slice d.wA d.ws.length d.wc] 29) = W := ⟨_, rfl⟩
  have b0 : Blk W0 w.heap.size 29 #[.int .i64 0, .int .u64 (d.key : Int), .int .i64 20, .slice d.lA d.ls.length d.lc, .slice none 0 0, .slice d.wA d.ws.length d.wc] := by rw [← e0]; exact Blk.new _ _ _
  have x0 : Ext w W0 := by rw [← e0]; exact (Ext.refl w).alloc _
  obtain ⟨W1, e1⟩ : ∃ W, W0.alloc (.cells #[.slice d.lA d.ls.length d.lc, .slice d.wA d.ws.length d.wc] 26) = W := ⟨_, rfl⟩
  have b1 : Blk W1 W0.heap.size 26 #[.slice d.lA d.ls.length d.lc, .slice d.wA d.ws.length d.wc] := by rw [← e1]; exact Blk.new _ _ _
  have x1 : Ext w W1 := by rw [← e1]; exact x0.alloc _
  have m3 := b0.cell 3
  have m5 := b0.cell 5
  have hl := h.lens
  obtain ⟨ps, hps⟩ : ∃ ps : List PcX, ps = [⟨d.lA, d.ls.length, d.lc, entV d.ls⟩, ⟨d.wA, d.ws.length, d.wc, entV d.ws⟩] := ⟨_, rfl⟩
  have hN : pcN ps = d.all.length := by rw [hps]; simp [pcN, LogX.all]
  have hL : pcL ps = entV d.all := by rw [hps]; simp [pcL, LogX.all, entV_append]
  have h2 : ps.length = 2 := by rw [hps]; rfl
  have cC := catL_any ps (by rw [h2]; decide) (by rw [hN]; have := h.few; omega) (some ⟨W0.heap.size, 0, none⟩) 2 W1 (by
      rw [h2, hps]
      exact ⟨rfl, fun _ => ⟨_, rfl, b1.lt, fun j u hj => by
        match j, hj with
        | 0, hj => cases hj; exact b1.cell 0
        | 1, hj => cases hj; exact b1.cell 1⟩⟩)
    (fun p hp => by
      rw [hps] at hp
      simp only [List.mem_cons, List.not_mem_nil, or_false] at hp
      rcases hp with rfl | rfl
      · exact ⟨(h.l.below x1.out).more x1.size, entV_one _⟩
      · exact ⟨(h.rs.below x1.out).more x1.size, entV_one _⟩)
  rw [h2, hN, hL] at cC
  have HX := Lib.hid x1
  obtain ⟨T, hT⟩ : ∃ T, entV d.all = T := ⟨_, rfl⟩
  obtain ⟨N, hNN⟩ : ∃ N, d.all.length = N := ⟨_, rfl⟩
  rw [hT, hNN] at cC ⊢
  unfold logV
  clear b0 x0 b1 x1 h hl hps hN hL h2 hT hNN
  go_enter Tryz.func123, Tryz.ntmps123
  go_upto_region 1 with (fail)
  try rw [e0]
  clear e0
  go_wp2_with (go_at_call 215; (try rw [e1]); refine cC.mono ?_; clear cC e1; rintro e w2 ⟨v2, rfl, o2, x2⟩)
  obtain ⟨A2, c2, rfl, hc2, hr2⟩ := own_slice2 o2
  have HR2 := Lib.hid hr2
  have HX2 := Lib.hid x2
  have HO2 := Lib.hid (own_monoL o2 HX.out.size)
  clear o2 hr2 x2
  go_ret
  exact ⟨A2, c2, rfl, hc2, HR2.out, HX.out.trans HX2.out, HO2.out⟩
end Go.Proofs.YtfpmfegmehbfbaaGreatDoor

/- Logs, walked: Check of a sound log. -/
namespace Go.Proofs.YtfpmfegmehbfbaaGreatDoor
set_option linter.unusedVariables false
set_option linter.unusedSimpArgs false
set_option linter.unusedSimpArgs false
open Go.RowKit Go.Shelf Go.Maps

def bytS (l : List Nat) : ByteArray := ⟨(l.map UInt8.ofNat).toArray⟩
def bytK (l : List Nat) : Lit := .string (l.map UInt8.ofNat)
theorem bytS_size (l : List Nat) : (bytS l).size = l.length := by show ((l.map UInt8.ofNat).toArray).size = _; simp
theorem byt_inj : ∀ {l m : List Nat}, (∀ x ∈ l, x < 256) → (∀ x ∈ m, x < 256) → l.map UInt8.ofNat = m.map UInt8.ofNat → l = m
  | [], [], _, _, _ => rfl
  | [], _ :: _, _, _, h => by simp at h
  | _ :: _, [], _, _, h => by simp at h
  | a :: l, b :: m, h1, h2, h => by
    simp only [List.map_cons, List.cons.injEq] at h
    have ha := h1 a List.mem_cons_self
    have hb := h2 b List.mem_cons_self
    have e := congrArg UInt8.toNat h.1
    rw [UInt8.toNat_ofNat_of_lt' (by simpa using ha), UInt8.toNat_ofNat_of_lt' (by simpa using hb)] at e
    rw [e, byt_inj (fun x hx => h1 x (List.mem_cons_of_mem _ hx)) (fun x hx => h2 x (List.mem_cons_of_mem _ hx)) h.2]
theorem conv_byt {w : World} {B : Nat} {A : Option Addr} {l : List Nat} {c : Nat} (hl : ∀ x ∈ l, x < 256) (h0 : 0 < l.length) (hr : Reads w B 1 A l.length (bv l)) : (convert 22 9 (.slice A l.length c)).run Tryz.prog w = .ok (.string (bytS l)) w := by
  obtain ⟨ad, rfl, -, hc⟩ := hr.2 h0
  have e := run_convert_bytes_back (P := Tryz.prog) w 22 9 5 ad c (l.map UInt8.ofNat) Tryz.underlying22 Tryz.underlying5 Tryz.underlying9 (fun j hj => by
    have hj' : j < l.length := by simpa using hj
    have := hc j (.int .u8 (l[j] : Int)) (by simp [bv, hj'])
    rw [this]
    simp
    have := hl l[j] (List.getElem_mem _)
    omega)
  rw [List.length_map] at e
  exact e
def keysE (l : List EntX) : List Lit := l.map fun x => bytK x.b
theorem keyStr : Keyed Tryz.prog 9 := string_keyed Tryz.underlying9
theorem key_byt {l : List Nat} (h : l.length ≤ 2000) : keyOf Tryz.prog 9 (.string (bytS l)) = some (bytK l) := by
  have := WideMaps.keyOf_string_mk (P := Tryz.prog) Tryz.underlying9 (s := bytS l) (by rw [bytS_size]; unfold maxLen; omega)
  exact this
theorem keys_in {l : List EntX} {x : EntX} (hl : ∀ y ∈ l, ∀ z ∈ y.b, z < 256) (hx : ∀ z ∈ x.b, z < 256) (h : x.b ∉ l.map (·.b)) : bytK x.b ∉ keysE l := by
  intro hm
  obtain ⟨y, hy, e⟩ := List.mem_map.1 hm
  have e' : y.b.map UInt8.ofNat = x.b.map UInt8.ofNat := by unfold bytK at e; exact Lit.string.inj e
  exact h (List.mem_map.2 ⟨y, hy, byt_inj (hl y hy) hx e'⟩)
theorem nodup_at {l : List EntX} (h : (l.map (·.b)).Nodup) {j : Nat} {x : EntX} (hj : l[j]? = some x) : x.b ∉ (l.take j).map (·.b) := by
  intro hm
  obtain ⟨hl, e⟩ := List.getElem?_eq_some_iff.1 hj
  obtain ⟨y, hy, e2⟩ := List.mem_map.1 hm
  obtain ⟨i, hi, e3⟩ := List.mem_take_iff_getElem.1 hy
  have := (List.getElem_inj (i := i) (j := j) (h₀ := by simp; omega) (h₁ := by simp; omega) h).1 (by simp [e3, e, e2])
  omega
theorem KSet.kept {k : TypeId} {w w' : World} {b : Nat} {l : List Lit} (h : KSet k w b l) {row : Option Nat} (hg : w.grownBy w' row) (hne : some b ≠ row) : KSet k w' b l := World.ownsMap.kept h hg hne
theorem lgGrown {W W' : World} (h : Ext W W') : W.grownBy W' none := by
  obtain ⟨a, b, c, d, e⟩ := h.out
  exact ⟨a, b, c, d, fun k hk _ => e k hk⟩
theorem KSet.ext {k : TypeId} {w w' : World} {b : Nat} {l : List Lit} (h : KSet k w b l) (x : Ext w w') : KSet k w' b l := h.kept (lgGrown x) (fun e => by cases e)
theorem own_keepL {w w' : World} {base : Nat} {e : TypeId} {size n : Nat} {v : Value} {xs : List Value} (h : w.ownsRow base e size v n xs) (hk : ∀ g, v.ownBlock = some g → w'.heap[g]? = w.heap[g]?) : w'.ownsRow base e size v n xs := by
  refine ⟨h.1, ?_⟩
  rcases h.2 with h' | ⟨g, cap, cur, rfl, hb, hg, hr⟩
  · exact .inl h'
  · exact .inr ⟨g, cap, cur, rfl, hb, (hk g rfl).trans hg, hr⟩
theorem ent_own {w : World} {base g n cap : Nat} {e : TypeId} {l : List EntX} (h : w.ownsRow base e 2 (.slice (some ⟨g, 0, none⟩) n cap) n (entV l)) {j : Nat} {x : EntX} (hj : l[j]? = some x) :
    w.cell? ⟨g, j * 2, none⟩ = some (.slice x.A x.b.length x.c) ∧ w.cell? ⟨g, j * 2 + 1, none⟩ = some (.int .i64 (x.t : Int)) := by
  have hl := (List.getElem?_eq_some_iff.1 hj).1
  have h1 := h.1
  rw [entV_len] at h1
  refine ⟨?_, ?_⟩
  · rw [h.cellAt (j * 2) (by omega)]; exact fm_at entC (k := 2) (fun _ => rfl) hj (i := 0) (by decide)
  · rw [h.cellAt (j * 2 + 1) (by omega)]; exact fm_at entC (k := 2) (fun _ => rfl) hj (i := 1) (by decide)
set_option maxRecDepth 100000 in
set_option maxHeartbeats 4000000 in
theorem lCheck_any (d : LogX) (w : World) (h : LogW w w.heap.size d) : Calls Tryz.prog 60 #[logV d] w fun e w' => e = .returned (.int .i64 0) ∧ Ext w w' := by
  have hmm := @run_makeMap Tryz.prog
  obtain ⟨W0, e0⟩ : ∃ W, w.alloc (.cells #[.int .i64 0, .int .u64 (d.key : Int), .int .i64 20, .slice d.lA d.ls.length d.lc, .slice none 0 0, .slice d.wA d.ws.length d.wc] 29) = W := ⟨_, rfl⟩
  have b0 : Blk W0 w.heap.size 29 #[.int .i64 0, .int .u64 (d.key : Int), .int .i64 20, .slice d.lA d.ls.length d.lc, .slice none 0 0, .slice d.wA d.ws.length d.wc] := by rw [← e0]; exact Blk.new _ _ _
  have x0 : Ext w W0 := by rw [← e0]; exact (Ext.refl w).alloc _
  obtain ⟨W1, e1⟩ : ∃ W, W0.alloc (.map #[] 0) = W := ⟨_, rfl⟩
  have b1 := ext_blk (W' := W1) (by rw [← e1]; exact (Ext.refl W0).alloc _) b0
  have x1 : Ext w W1 := by rw [← e1]; exact x0.alloc _
  have k1 : KSet 9 W1 W0.heap.size [] := by rw [← e1]; exact KSet.new _ _
  have hs0 : w.heap.size ≤ W0.heap.size := x0.size
  have z0 : W0.heap.size = w.heap.size + 1 := by rw [← e0]; simp
  have z1 : W1.heap.size = W0.heap.size + 1 := by rw [← e1]; simp
  have HZ : Hid (W0.heap.size = w.heap.size + 1 ∧ W1.heap.size = W0.heap.size + 1) := Lib.hid ⟨z0, z1⟩
  have m0 := b0.cell 0
  have m1 := b0.cell 1
  have m2 := b0.cell 2
  have n0 := b1.cell 0
  have n1 := b1.cell 1
  have n2 := b1.cell 2
  have n3 := b1.cell 3
  have n4 := b1.cell 4
  have n5 := b1.cell 5
  have cA := all_any d W1 (h.ext x1)
  unfold logV at cA ⊢
  have cN := fun n w => lnum_any n w
  have ho := h.odd
  unfold oddN bR at ho
  simp only [Bool.or_eq_false_iff, decide_eq_false_iff_not] at ho
  have q0 : ((d.key : Int) == 0) = false := by simp; omega
  have q1 : decide ((1152921504606845789 : Int) ≤ (d.key : Int)) = false := by simp; omega
  have q2 : decide ((d.key : Int) ≥ (1152921504606845789 : Int)) = false := by simp; omega
  have HX1 := Lib.hid x1
  have HS0 := Lib.hid hs0
  have HK1 := Lib.hid k1
  have HEL := Lib.hid h.el
  have HGD := Lib.hid h.good
  have HFW := Lib.hid h.few
  have HB1 := Lib.hid b1
  clear b0 x0 b1 x1 k1 h ho hs0 z0 z1
  go_enter Tryz.func60, Tryz.ntmps60
  go_upto_region 1 with (fail)
  try rw [e0]
  clear e0
  go_upto_region 4 with (go_at_call 51; refine (cN _ _).mono ?_; rintro e w' ⟨rfl, rfl⟩)
  try rw [e1]
  clear e1 m0 m1 m2
  go_upto_region 5 with (go_at_call 123; refine cA.mono ?_; clear cA; rintro e w2 ⟨A2, c2, rfl, hc2, hr2, x2, o2⟩)
  have HB2 := Lib.hid (ext_blk x2 HB1.out)
  have HX2 := Lib.hid (HX1.out.trans x2)
  have HK2 := Lib.hid (HK1.out.ext x2)
  have HO2 := Lib.hid o2
  obtain ⟨s1, hs1⟩ : ∃ s, W1.heap.size = s := ⟨_, rfl⟩
  rw [hs1] at HO2
  have HS1 : Hid (W0.heap.size < s1) := Lib.hid (by have := HZ.out.2; omega)
  clear n0 n1 n2 n3 n4 n5 hr2 x2 o2 q0 q1 q2 hs1
  go_loopg [37] d.all.length (fun m s37 wr => ∃ j : Nat, j + m = d.all.length ∧ s37 = .int .i64 j ∧ KSet 9 wr W0.heap.size (keysE (d.all.take j)) ∧ wr.ownsRow s1 142 2 (.slice A2 d.all.length c2) d.all.length (entV d.all) ∧ Ext w wr ∧ Blk wr w.heap.size 29 #[.int .i64 0, .int .u64 (d.key : Int), .int .i64 20, .slice d.lA d.ls.length d.lc, .slice none 0 0, .slice d.wA d.ws.length d.wc])
  case atStart => exact ⟨0, by omega, rfl, HK2.out, HO2.out, HX2.out, HB2.out⟩
  case round =>
    obtain ⟨j, hj, rfl, hk, ho, hx, hb⟩ := hrel
    by_cases h : j < d.all.length
    · obtain ⟨x, hxj⟩ : ∃ s, d.all[j]? = some s := ⟨_, List.getElem?_eq_getElem h⟩
      obtain ⟨g, cap, hv, hbg, hgl⟩ := ho.form (by omega)
      obtain ⟨rfl, rfl⟩ : A2 = some ⟨g, 0, none⟩ ∧ c2 = cap := by
        simp only [Value.slice.injEq] at hv; exact ⟨hv.1, hv.2.2⟩
      obtain ⟨q0, q1⟩ := ent_own ho hxj
      have hmem := List.mem_of_getElem? hxj
      obtain ⟨hxc, hxr⟩ := HEL.out x hmem
      have hok : EntOk x.ent := HGD.out.2 _ (List.mem_map.2 ⟨x, hmem, rfl⟩)
      obtain ⟨g1, g2, g3, g4⟩ := hok
      simp only [EntX.ent] at g1 g2 g3 g4
      have hnd : (d.all.map (·.b)).Nodup := by have := HGD.out.1; simpa [List.map_map, Function.comp_def, EntX.ent] using this
      have hnot := keys_in (l := d.all.take j) (x := x) (fun y hy => (HGD.out.2 _ (List.mem_map.2 ⟨y, List.mem_of_mem_take hy, rfl⟩)).2.2.1) g3 (nodup_at hnd hxj)
      have e1 : keysE (d.all.take (j + 1)) = keysE (d.all.take j) ++ [bytK x.b] := by rw [take_snoc hxj]; simp [keysE]
      have hjb : (j : Int) ≤ 30 := by have := HFW.out; omega
      have hjN : (j : Int) < (d.all.length : Int) := by omega
      obtain ⟨W3, e3⟩ : ∃ W, wr.alloc (.cells #[.slice x.A x.b.length x.c, .int .i64 (x.t : Int)] 142) = W := ⟨_, rfl⟩
      have xx3 : Ext wr W3 := by rw [← e3]; exact (Ext.refl wr).alloc _
      have b3 : Blk W3 wr.heap.size 142 #[.slice x.A x.b.length x.c, .int .i64 (x.t : Int)] := by rw [← e3]; exact Blk.new _ _ _
      have k3 := hk.ext xx3
      have hx3 := hx.trans xx3
      have cv := conv_byt (c := x.c) g3 g1 (hxr.below hx3.out)
      have ky := key_byt (l := x.b) (by omega)
      have lk := KSet.look keyStr Tryz.underlying223 k3 ky (by trivial) (bb := false) (by simp [hnot])
      have m0 := b3.cell 0
      have m1 := b3.cell 1
      have cI := fun w => isBody_any x.A x.b.length x.c (by omega) w
      rw [decide_eq_true g1] at cI
      have cN2 := fun w => lnum_any (x.t : Int) w
      rw [decide_eq_true (by omega)] at cN2
      have HE := Lib.hid e1
      have HJ := Lib.hid hj
      have HK3 := Lib.hid k3
      have HO3 := Lib.hid (own_ext ho xx3)
      have HX3 := Lib.hid hx3
      have HB3 := Lib.hid (ext_blk xx3 hb)
      have HKY := Lib.hid ky
      have HG := Lib.hid hbg
      clear hj hk ho hx hb hv hbg hgl hmem hxc hxr hnd hnot e1 xx3 k3 hx3 b3 hxj g2 g4
      clear g1 g3
      go_upto_region 7 with (fail)
      try rw [e3]
      clear e3
      go_wp2_with (first
        | (go_at_call 122; refine (cI _).mono ?_; clear cI; rintro e w' ⟨rfl, rfl⟩)
        | (go_at_call 51; refine (cN2 _).mono ?_; clear cN2; rintro e w' ⟨rfl, rfl⟩)
        | (at_mapUpdate; refine wpList_mapUpdate_own _ rfl _ _ _ 223 rfl 9 4 keyStr Tryz.underlying223 _ W0.heap.size _ _ rfl HK3.out (by have := HFW.out; have := HJ.out; simp only [maxLen, keysE, List.length_map, List.length_take]; omega) _ _ _ rfl rfl HKY.out tt [] (plainElem_bool Tryz.underlying4 true) ?_; intro w4 hown4 hgrow4))
      have K4 : Hid (KSet 9 w4 W0.heap.size (keysE (d.all.take (j + 1)))) := by
        show KSet _ _ _ _
        rw [HE.out]
        exact KSet.put_ hown4
      have X4 := Ext.of (HX3.out.out.grown hgrow4 HX3.out.size (fun k hk => by cases hk; exact HS0.out))
      have O4 := Lib.hid (own_keepL HO3.out (fun k hk => hgrow4.block k (by have := (HO3.out.lt k hk).2; omega) (fun e => by cases e; have := (HO3.out.lt _ hk).1; have := HS1.out; omega)))
      have B4 := Lib.hid (Blk.grown HB3.out hgrow4 (fun e => by have := HZ.out.1; injection e; omega))
      clear hown4 hgrow4
      have hj := HJ.out
      go_wp2
      go_roundg (gk - 1)
      case measure => omega
      case rel => exact ⟨j + 1, by omega, int_congr (by omega), K4.out, O4.out, X4, B4.out⟩
    · obtain rfl : j = d.all.length := by omega
      rw [List.take_length] at hk
      have m4 := hb.cell 4
      have HX := Lib.hid hx
      have hsz := World.ownsMap.size_le hk
      have hln := fun ty => World.ownsMap.len hk Tryz.underlying223 ty
      obtain ⟨z, hz⟩ : ∃ z, Maps.size (setOf tt (keysE d.all)) = z := ⟨_, rfl⟩
      rw [hz] at hsz hln
      have hzb : (z : Int) ≤ 30 := by have := HFW.out; simp [keysE] at hsz; omega
      clear hj hk ho hx hb h hsz hz
      go_wp2
      go_loopg [66] 0 (fun m s66 w9 => s66 = .int .i64 0 ∧ wr = w9)
      case atStart => exact ⟨rfl, rfl⟩
      case round =>
        obtain ⟨rfl, rfl⟩ := hrel
        go_wp2
        go_ret
        exact ⟨rfl, HX.out⟩
end Go.Proofs.YtfpmfegmehbfbaaGreatDoor

/- TopGrow, TopLog, walked: few bodies. -/
namespace Go.Proofs.YtfpmfegmehbfbaaGreatDoor
set_option linter.unusedVariables false
set_option linter.unusedSimpArgs false
set_option linter.unusedSimpArgs false
open Go.RowKit Go.Shelf Go.Maps

/-- At most 30 bodies, each of at most 500 bytes. -/
def fewB (bs : List (List Nat)) : Bool := decide (bs.length ≤ 30 ∧ ∀ b ∈ bs, b.length ≤ 500)
set_option maxRecDepth 100000 in
set_option maxHeartbeats 2000000 in
theorem fewBodies_any (bs : List (List Nat)) (hl : bs.length ≤ 140737488351232) (hb : ∀ b ∈ bs, b.length ≤ 140737488351232) (A : Option Addr) (c : Nat) (w : World) (hr : Parts w w.heap.size A bs) :
    Calls Tryz.prog 46 #[.slice A bs.length c] w fun e w' => e = .returned (.bool (fewB bs)) ∧ w = w' := by
  have HR := Lib.hid hr
  have HL := Lib.hid hl
  have HB := Lib.hid hb
  clear hr hl hb
  go_enter Tryz.func46, Tryz.ntmps46
  go_wp2
  go_loopg [3] 31 (fun m s3 wr => ∃ j : Nat, j + m = 31 ∧ s3 = .int .i64 j ∧ j ≤ bs.length ∧ (∀ b ∈ bs.take j, b.length ≤ 500) ∧ w = wr)
  case atStart => exact ⟨0, by omega, rfl, Nat.zero_le _, by simp, rfl⟩
  case round =>
    obtain ⟨j, hj, rfl, hjl, hok, rfl⟩ := hrel
    have hlb : (bs.length : Int) ≤ 140737488351232 := by have := HL.out; omega
    have hjb : (j : Int) ≤ 31 := by omega
    by_cases h : j < bs.length
    · by_cases h30 : j ≤ 30
      · obtain ⟨p, hp⟩ : ∃ s, bs[j]? = some s := ⟨_, List.getElem?_eq_getElem h⟩
        obtain ⟨ad, a, k, rfl, q0, hk, hrp⟩ := HR.out.at_ hp
        have hpm := List.mem_of_getElem? hp
        have hpb : (p.length : Int) ≤ 140737488351232 := by have := HB.out p hpm; omega
        have d1 : decide ((j : Int) < (bs.length : Int)) = true := by simp; omega
        have d2 : decide ((j : Int) ≤ 30) = true := by simp; omega
        have d3 : (j : Int) < (bs.length : Int) := by omega
        have d4 : (j : Int) ≤ 30 := by omega
        by_cases h5 : 500 < p.length
        · have d5 : decide ((500 : Int) < (p.length : Int)) = true := by simp; omega
          have kk : Hid (fewB bs = false) := Lib.hid (decide_eq_false fun hh => by have := hh.2 p hpm; omega)
          clear hj hok hp hk hrp hpm hjl h30 h5
          go_wp2
          go_ret
          exact ⟨by rw [kk.out]; rfl, rfl⟩
        · have d5 : decide ((500 : Int) < (p.length : Int)) = false := by simp; omega
          have e1 : bs.take (j + 1) = bs.take j ++ [p] := by rw [List.take_add_one, hp]; rfl
          have hok2 : Hid (j + 1 ≤ bs.length ∧ j + 1 + (gk - 1) = 31 ∧ gk - 1 < gk ∧ ∀ b ∈ bs.take (j + 1), b.length ≤ 500) := Lib.hid ⟨by omega, by omega, by omega, fun b hb' => by
            rw [e1] at hb'
            rcases List.mem_append.1 hb' with hb' | hb'
            · exact hok b hb'
            · rw [List.mem_singleton] at hb'; subst hb'; omega⟩
          clear hj hok hp hk hrp hpm hjl h30 h5 e1
          go_wp2
          have hh := hok2.out
          go_roundg (gk - 1)
          case measure => exact hh.2.2.1
          case rel => exact ⟨j + 1, hh.2.1, int_congr (by omega), hh.1, hh.2.2.2, rfl⟩
      · have d1 : decide ((j : Int) < (bs.length : Int)) = true := by simp; omega
        have d2 : decide ((j : Int) ≤ 30) = false := by simp; omega
        have d4 : ¬ (j : Int) ≤ 30 := by omega
        have d3 : (j : Int) < (bs.length : Int) := by omega
        have d6 : decide ((bs.length : Int) ≤ 30) = false := by simp; omega
        have d7 : ¬ (bs.length : Int) ≤ 30 := by omega
        have kk : Hid (fewB bs = false) := Lib.hid (decide_eq_false fun hh => by have := hh.1; omega)
        clear hj hok hjl h30 h
        go_wp2
        go_ret
        exact ⟨by rw [kk.out]; try rfl, rfl⟩
    · obtain rfl : j = bs.length := by omega
      rw [List.take_length] at hok
      have d1 : decide ((bs.length : Int) < (bs.length : Int)) = false := by simp
      by_cases h30 : bs.length ≤ 30
      · have d6 : decide ((bs.length : Int) ≤ 30) = true := by simp; omega
        have d7 : (bs.length : Int) ≤ 30 := by omega
        have kk : Hid (fewB bs = true) := Lib.hid (decide_eq_true ⟨h30, hok⟩)
        clear hj hok hjl h h30
        go_wp2
        go_ret
        exact ⟨by rw [kk.out]; try rfl, rfl⟩
      · have d6 : decide ((bs.length : Int) ≤ 30) = false := by simp; omega
        have d7 : ¬ (bs.length : Int) ≤ 30 := by omega
        have kk : Hid (fewB bs = false) := Lib.hid (decide_eq_false fun hh => h30 hh.1)
        clear hj hok hjl h h30
        go_wp2
        go_ret
        exact ⟨by rw [kk.out]; try rfl, rfl⟩
end Go.Proofs.YtfpmfegmehbfbaaGreatDoor
