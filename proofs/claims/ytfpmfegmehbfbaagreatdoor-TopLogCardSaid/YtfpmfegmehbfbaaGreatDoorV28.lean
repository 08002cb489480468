/- Parts of the proofs, put together: Lg8, Lg4, Lg6, MkA, MkB, MkC, MkD. -/
import Derived.Deep.RegionWith
import Derived.BigRegion
import Derived.Test.YtfpmfegmehbfbaaGreatDoorV15
import Derived.Test.YtfpmfegmehbfbaaGreatDoorV18
import Derived.Test.YtfpmfegmehbfbaaGreatDoorV19
import Derived.Test.YtfpmfegmehbfbaaGreatDoorV20
import Derived.Test.YtfpmfegmehbfbaaGreatDoorV26
import Derived.Test.YtfpmfegmehbfbaaGreatDoorV27
import Derived.Test.YtfpmfegmehbfbaaGreatDoorV29
import Derived.Test.YtfpmfegmehbfbaaGreatDoorV31
import Derived.Test.YtfpmfegmehbfbaaGreatDoorV32
/- Logs, walked: what Add asks. -/
namespace Go.Proofs.YtfpmfegmehbfbaaGreatDoor
set_option linter.unusedVariables false
set_option linter.unusedSimpArgs false
set_option linter.unusedSimpArgs false
open Go.RowKit Go.Shelf Go.Maps

set_option maxRecDepth 100000 in
set_option maxHeartbeats 1000000 in
theorem cloneL_any (A : Option Addr) (n c : Nat) (xs : List Value) (h1 : ∀ u ∈ xs, u.oneCell' = true) (hn : n ≤ 1099511627776) (w : World) (hr : Reads w w.heap.size 2 A n xs) :
    Calls Tryz.prog 127 #[.slice A n c] w fun e w' => ∃ v, e = .returned v ∧ w'.ownsRow w.heap.size 142 2 v n xs ∧ Ext w w' := by
  obtain ⟨i0, hi, hz0, hz1, hz2⟩ := info_parts Tryz.infoCL
  have hq := fun (w : World) (a : Option Addr) (n c : Nat) => Lib.run_eql_slice_nil (P := Tryz.prog) w 26 142 a n c 0 0 Tryz.underlying26
  go_enter Tryz.func127, Tryz.ntmps127
  rcases A with _ | ad
  · have h0 : n = 0 := by
      rcases Nat.eq_zero_or_pos n with h0 | h0
      · exact h0
      · obtain ⟨_, e, _⟩ := hr.2 h0; cases e
    subst h0
    have hx : xs = [] := List.eq_nil_of_length_eq_zero (by simpa using hr.1)
    subst hx
    clear hr h1 hn
    go_wp2
    go_ret
    exact ⟨_, rfl, World.ownsRow_nil _ _ _ _, Ext.refl w⟩
  · have HR := Lib.hid (hr.alloc (Nat.le_refl _) (.cells #[] 142))
    have HN := Lib.hid hn
    have HO := Lib.hid h1
    clear hr h1 hn
    go_wp2_with (at_builtin; refine wpList_append_any _ rfl (.tmp 5) (.tmp 6) 26 rfl w.heap.size 142 i0 (.agg #[.slice none 0 0, .int .i64 0]) 2 32 Tryz.underlying26 hi hz0 hz1 hz2 rfl (by decide) _ 0 [] rfl (own_empty w _ _ rfl (Nat.le_refl _) _ _) w.heap.size _ _ _ xs rfl HR.out HO.out (by have := HN.out; simp only [maxLen]; omega) (by have := HN.out; omega) (by simp) ?_; intro v2 w2 hown2 hg2 _)
    go_ret
    rw [Nat.zero_add, List.nil_append] at hown2
    exact ⟨_, rfl, hown2, ext_grown ((Ext.refl w).alloc _) (own_empty w _ _ rfl (Nat.le_refl _) 142 2) hg2⟩
theorem bv_ints (l : List Nat) : (l.map fun x : Nat => (x : Int)).map (Value.int .u8) = bv l := by simp [bv]
theorem byClone_any (l : List Nat) (hl : l.length ≤ 2000) (h0 : 0 < l.length) (A : Option Addr) (c : Nat) (w : World) (hr : Reads w w.heap.size 1 A l.length (bv l)) :
    Calls Tryz.prog 128 #[.slice A l.length c] w fun e w' => ∃ v, e = .returned v ∧ w'.ownsRow w.heap.size 5 1 v l.length (bv l) ∧ Ext w w' := by
  obtain ⟨ad, rfl, -, hc⟩ := hr.2 h0
  refine (Tryz.bytes_Clone_at ad l.length c (l.map fun x : Nat => (x : Int)) w (by simp) (by omega) (fun i hi => ?_)).mono ?_
  · have := hc i (.int .u8 ((l[i]'hi : Nat) : Int)) (by simp [bv, hi])
    rw [this]
    simp [hi]
  · rintro e w' ⟨v, rfl, h1, -, h3⟩
    rw [bv_ints] at h1
    exact ⟨v, rfl, h1, Ext.of h3⟩
theorem byEq_any (l m : List Nat) (hl : ∀ x ∈ l, x < 256) (hm : ∀ x ∈ m, x < 256) (l0 : 0 < l.length) (m0 : 0 < m.length) (A A' : Option Addr) (c c' B B' : Nat) (w : World) (hr : Reads w B 1 A l.length (bv l)) (hr' : Reads w B' 1 A' m.length (bv m)) :
    Calls Tryz.prog 126 #[.slice A l.length c, .slice A' m.length c'] w fun e w' => e = .returned (.bool (l == m)) ∧ w = w' := by
  refine (Tryz.bytes_Equal_strs _ _ (bytS l) (bytS m) w (conv_byt hl l0 hr) (conv_byt hm m0 hr')).mono ?_
  rintro e w' ⟨rfl, rfl⟩
  refine ⟨?_, rfl⟩
  have e1 : ∀ l : List Nat, (bytS l).toList = l.map UInt8.ofNat := fun l => by rw [ByteArray.toList_eq]; simp [bytS]
  rw [e1, e1]
  congr 2
  by_cases h : l = m
  · subst h; simp
  · rw [beq_eq_false_iff_ne.2 h, beq_eq_false_iff_ne.2 (fun e => h (byt_inj hl hm e))]
theorem add1_enters : Enters Tryz.prog 125 := enters_of Tryz.func125 (by kernel_rfl) rfl
set_option maxRecDepth 100000 in
set_option maxHeartbeats 2000000 in
theorem add1_any (x : EntX) (b : List Nat) (hx : EntOk x.ent) (hb : BodyOk b) (A : Option Addr) (c g B : Nat) (w : World) (hr : Reads w B 1 x.A x.b.length (bv x.b)) (hr' : Reads w B 1 A b.length (bv b)) (hB : B ≤ w.heap.size) (hg : w.cell? ⟨g, 0, none⟩ = some (.slice A b.length c)) :
    Calls Tryz.prog 125 #[.agg #[.slice x.A x.b.length x.c, .int .i64 (x.t : Int)], .pointer (some ⟨g, 0, none⟩)] w fun e w' => e = .returned (.bool (x.b == b)) ∧ Ext w w' := by
  obtain ⟨W0, e0⟩ : ∃ W, w.alloc (.cells #[.slice x.A x.b.length x.c, .int .i64 (x.t : Int)] 142) = W := ⟨_, rfl⟩
  have b0 : Blk W0 w.heap.size 142 #[.slice x.A x.b.length x.c, .int .i64 (x.t : Int)] := by rw [← e0]; exact Blk.new _ _ _
  have x0 : Ext w W0 := by rw [← e0]; exact (Ext.refl w).alloc _
  have m0 := b0.cell 0
  have m1 := x0.cell hg
  have cE := byEq_any x.b b hx.2.2.1 hb.2.2 hx.1 hb.1 x.A A x.c c B B W0 (hr.below (Below.mono x0.out hB)) (hr'.below (Below.mono x0.out hB))
  have HX := Lib.hid x0
  clear b0 x0 hr hr' hx hb hg hB
  go_enter Tryz.func125, Tryz.ntmps125
  go_upto_region 1 with (fail)
  try rw [e0]
  clear e0
  go_wp2_with (go_at_call 126; refine cE.mono ?_; clear cE; rintro e w' ⟨rfl, rfl⟩)
  go_ret
  exact ⟨rfl, HX.out⟩
set_option maxRecDepth 100000 in
set_option maxHeartbeats 2000000 in
theorem ixL_any (F : FuncId) (hE : Enters Tryz.prog F) (cap : Array Value) (f : EntX → Bool) (l : List EntX) (hn : l.length ≤ 1099511627776) (A : Option Addr) (c : Nat) (w : World) (hr : Reads w w.heap.size 2 A l.length (entV l))
    (hstep : ∀ (W : World) (s : EntX), s ∈ l → Ext w W → Calls Tryz.prog F (#[.agg #[.slice s.A s.b.length s.c, .int .i64 (s.t : Int)]] ++ cap) W fun e w' => e = .returned (.bool (f s)) ∧ Ext W w') :
    Calls Tryz.prog 124 #[.slice A l.length c, .func (.func F) #[] cap] w fun e w' => e = .returned (.int .i64 (ixG f l)) ∧ Ext w w' := by
  have hr0 : Hid (Reads w w.heap.size 2 A l.length (entV l)) := Lib.hid hr
  have HN := Lib.hid hn
  have HS := Lib.hid hstep
  unfold Enters at hE
  clear hr hn hstep
  go_enter Tryz.func124, Tryz.ntmps124
  go_wp2
  go_loopg [8] l.length (fun m s8 wr => ∃ j : Nat, j + m = l.length ∧ s8 = .int .i64 j ∧ (∀ s ∈ l.take j, f s = false) ∧ Ext w wr)
  case atStart => exact ⟨0, by omega, rfl, by simp, Ext.refl w⟩
  case round =>
    obtain ⟨j, hj, rfl, hok, hx⟩ := hrel
    by_cases h : j < l.length
    · obtain ⟨s, hs⟩ : ∃ s, l[j]? = some s := ⟨_, List.getElem?_eq_getElem h⟩
      obtain ⟨ad, rfl, hlt, q0, q1⟩ := reads_ent (hr0.out.below hx.out) hs
      have hjb : (j : Int) ≤ 1099511627776 := by have := HN.out; omega
      have c1 := fun (W : World) => HS.out W s (List.mem_of_getElem? hs)
      have e1 : l.take (j + 1) = l.take j ++ [s] := by rw [List.take_add_one, hs]; rfl
      cases hf : f s with
      | true =>
        have kk : Hid (ixG f l = (j : Int)) := Lib.hid (by
          have : l.findIdx? f = some j := by
            rw [List.findIdx?_eq_some_iff_getElem]
            have hsg := (List.getElem?_eq_some_iff.1 hs).2
            refine ⟨h, by rw [hsg]; exact hf, fun i hi => ?_⟩
            have := hok (l[i]'(by omega)) (List.mem_take_iff_getElem.2 ⟨i, by omega, rfl⟩)
            rw [this]; decide
          unfold ixG; rw [this])
        rw [hf] at c1
        have HX := Lib.hid hx
        clear hx hj hs hf hok e1
        go_wp2_with (go_at_fn F; refine (c1 _ HX.out).mono ?_; clear c1; rintro e w1 ⟨rfl, x1⟩)
        go_ret
        exact ⟨by rw [kk.out]; rfl, HX.out.trans x1⟩
      | false =>
        have hok' : Hid (∀ s ∈ l.take (j + 1), f s = false) := Lib.hid fun r hr => by
          rw [e1] at hr
          rcases List.mem_append.1 hr with hr | hr
          · exact hok r hr
          · rw [List.mem_singleton] at hr; subst hr; exact hf
        rw [hf] at c1
        have HX := Lib.hid hx
        have HJ := Lib.hid hj
        clear hx hj hs hf hok e1
        go_wp2_with (go_at_fn F; refine (c1 _ HX.out).mono ?_; clear c1; rintro e w1 ⟨rfl, x1⟩)
        have hj := HJ.out
        go_roundg (gk - 1)
        case measure => omega
        case rel => exact ⟨j + 1, by omega, int_congr (by omega), hok'.out, HX.out.trans x1⟩
    · obtain rfl : j = l.length := by omega
      rw [List.take_length] at hok
      have kk : Hid (ixG f l = -1) := Lib.hid (by
        have : l.findIdx? f = none := List.findIdx?_eq_none_iff.2 hok
        unfold ixG; rw [this])
      have HX := Lib.hid hx
      clear hx hj h hok
      go_wp2
      go_ret
      exact ⟨by rw [kk.out]; rfl, HX.out⟩
end Go.Proofs.YtfpmfegmehbfbaaGreatDoor

/- Logs, walked: the leaves of a view; a view's first leaves. -/
namespace Go.Proofs.YtfpmfegmehbfbaaGreatDoor
set_option linter.unusedVariables false
set_option linter.unusedSimpArgs false
set_option linter.unusedSimpArgs false
open Go.RowKit Go.Shelf Go.Maps
theorem own_nilL (w : World) (base : Nat) (e : TypeId) (size : Nat) : w.ownsRow base e size (.slice none 0 0) 0 [] := ⟨by simp, .inl ⟨rfl, rfl⟩⟩
/-- The leaves' hashes. -/
def leafS (l : List EntX) : List (Nat × Nat) := l.map fun x => hSum (leafB x.b)
theorem leafS_len (l : List EntX) : (leafS l).length = l.length := by simp [leafS]
theorem leafB_len (l : List Nat) (h : l.length ≤ 1000) : (leafB l).length ≤ 1099511627776 := by
  have : (strN ⟨#[108, 101, 97, 102]⟩).length = 4 := by decide
  simp [leafB, coded, be_length, this]; omega
set_option maxRecDepth 100000 in
set_option maxHeartbeats 4000000 in
theorem lLeaves_any (d : LogX) (v : Nat) (hv : v ≤ 1) (w : World) (h : LogW w w.heap.size d) :
    Calls Tryz.prog 13 #[logV d, .int .i64 v] w fun e w' => ∃ A c, e = .returned (.tuple #[.slice A d.ls.length c, .int .i64 0]) ∧ d.ls.length ≤ c ∧ Reads w' w'.heap.size 2 A d.ls.length (sumV (leafS d.ls)) ∧ Ext w w' := by
  obtain ⟨i0, hi, hz0, hz1, hz2⟩ := info_parts Tryz.infoSum
  obtain ⟨key, lA, ls, lc, wA, ws, wc⟩ := d
  dsimp only
  obtain ⟨W0, e0⟩ : ∃ W, w.alloc (.cells #[.int .i64 0, .int .u64 (key : Int), .int .i64 20, .slice lA ls.length lc, .slice none 0 0, .slice wA ws.length wc] 29) = W := ⟨_, rfl⟩
  have b0 : Blk W0 w.heap.size 29 #[.int .i64 0, .int .u64 (key : Int), .int .i64 20, .slice lA ls.length lc, .slice none 0 0, .slice wA ws.length wc] := by rw [← e0]; exact Blk.new _ _ _
  have x0 : Ext w W0 := by rw [← e0]; exact (Ext.refl w).alloc _
  have c1 := lCheck_any _ W0 (h.ext x0)
  unfold logV at c1 ⊢
  dsimp only at c1 ⊢
  obtain ⟨m0, m1, m2, m3, m4, m5, -, -, -, -, -, -⟩ := lst6 b0
  have HB0 := Lib.hid b0
  have HX0 := Lib.hid x0
  have hls : ls.length ≤ 30 := by have := h.lens; dsimp only at this; omega
  have HLS := Lib.hid hls
  have HIN : Hid (∀ x ∈ ls, EntOk x.ent ∧ x.b.length ≤ x.c ∧ Reads w w.heap.size 1 x.A x.b.length (bv x.b)) := Lib.hid fun x hx => by
    have hm : x ∈ (⟨key, lA, ls, lc, wA, ws, wc⟩ : LogX).all := List.mem_append_left _ hx
    exact ⟨h.good.2 _ (List.mem_map.2 ⟨x, hm, rfl⟩), h.el x hm⟩
  have HRL := Lib.hid h.l
  have hv1 : ((v : Int) != 0 && (v : Int) != 1) = false := by
    have : v = 0 ∨ v = 1 := by omega
    rcases this with rfl | rfl <;> decide
  obtain ⟨vv, hvv⟩ : ∃ b, ((v : Int) != 0) = b := ⟨_, rfl⟩
  clear b0 x0 h
  have hvc : v = 0 ∨ v = 1 := by omega
  rcases hvc with rfl | rfl
  all_goals
    clear hv hv1 hvv
    go_enter Tryz.func13, Tryz.ntmps13
    go_upto_region 1 with (fail)
    try rw [e0]
    clear e0
    go_upto_region 4 with (go_at_call 60; refine c1.mono ?_; clear c1 m0 m1 m2 m3 m4 m5; rintro e w1 ⟨rfl, x1⟩)
    have hx1 := HX0.out.trans x1
    obtain ⟨m0, m1, m2, m3, m4, m5, -, -, -, -, -, -⟩ := lst6 (ext_blk x1 HB0.out)
    have HX1 := Lib.hid hx1
    clear x1 hx1
    go_wp2
    go_loopg [7, 8, 28] ls.length (fun m s7 s8 s28 wr => ∃ j : Nat, j + m = ls.length ∧ s7 = .slice none 0 0 ∧ s28 = .int .i64 j ∧ wr.ownsRow w.heap.size 34 2 s8 (leafS (ls.take j)).length (sumV (leafS (ls.take j))) ∧ Ext w wr)
    case atStart => exact ⟨0, by omega, rfl, rfl, own_nilL _ _ _ _, HX1.out⟩
    case round =>
      obtain ⟨j, hj, rfl, rfl, ho, hx⟩ := hrel
      by_cases h : j < ls.length
      · obtain ⟨x, hxj⟩ : ∃ s, ls[j]? = some s := ⟨_, List.getElem?_eq_getElem h⟩
        obtain ⟨ad, rfl, hlt, q0, q1⟩ := reads_ent (HRL.out.below hx.out) hxj
        obtain ⟨⟨g1, g2, g3, g4⟩, hxc, hxr⟩ := HIN.out x (List.mem_of_getElem? hxj)
        simp only [EntX.ent] at g1 g2 g3 g4
        obtain ⟨W3, e3⟩ : ∃ W, wr.alloc (.cells #[.slice x.A x.b.length x.c, .int .i64 (x.t : Int)] 142) = W := ⟨_, rfl⟩
        have xx3 : Ext wr W3 := by rw [← e3]; exact (Ext.refl wr).alloc _
        have b3 : Blk W3 wr.heap.size 142 #[.slice x.A x.b.length x.c, .int .i64 (x.t : Int)] := by rw [← e3]; exact Blk.new _ _ _
        have n0 := b3.cell 0
        have n1 := b3.cell 1
        have hx3 := hx.trans xx3
        have cF := Leaf_any x.b g3 x.A x.c hxc W3 ((hxr.below hx3.out).more hx3.size) (leafB_len _ (by omega))
        obtain ⟨s, hs⟩ : ∃ s, hSum (leafB x.b) = s := ⟨_, rfl⟩
        rw [hs] at cF
        have hjb : (j : Int) ≤ 30 := by have := HLS.out; omega
        have hjl : (j : Int) < (ls.length : Int) := by omega
        have e1 : leafS (ls.take (j + 1)) = leafS (ls.take j) ++ [s] := by rw [take_snoc hxj]; simp [leafS, hs]
        have hll : (leafS (ls.take j)).length ≤ 30 := by rw [leafS_len, List.length_take]; have := HLS.out; omega
        have HE := Lib.hid e1
        have HJ := Lib.hid hj
        have HO3 := Lib.hid (own_ext ho xx3)
        have HX3 := Lib.hid hx3
        have HLL := Lib.hid hll
        clear hj ho hx hxj hxc hxr g1 g2 g3 g4 xx3 b3 hx3 e1 hs hll h
        go_upto_region 11 with (fail)
        try rw [e3]
        clear e3 q0 q1 hlt
        go_wp2_with (first
          | (go_at_call 17; refine cF.mono ?_; clear cF; rintro e w4 ⟨rfl, x4⟩; have O4 := own_ext HO3.out x4; have X4 := HX3.out.trans x4)
          | (at_builtin; refine wpList_append_own _ rfl (.tmp 53) (.tmp 56) 42 rfl w.heap.size 34 i0 (.agg #[.int .u64 0, .int .u64 0]) 2 16 Tryz.underlying42 hi hz0 hz1 hz2 rfl (by decide) _ _ _ rfl (O4.alloc _) ⟨w4.heap.size, 0, none⟩ 1 1 [.int .u64 (s.1 : Int), .int .u64 (s.2 : Int)] rfl rfl (cell_two_new _ _ _ _) (by simp [Value.oneCell']) (by have := HLL.out; simp only [maxLen]; omega) (by have := HLL.out; omega) (by have := X4.size; simp; omega) ?_; intro v5 w5 hown5 hg5 _))
        have X5 := ext_grown (X4.alloc _) (O4.alloc _) hg5
        have O5 : Hid (w5.ownsRow w.heap.size 34 2 v5 (leafS (ls.take (j + 1))).length (sumV (leafS (ls.take (j + 1))))) := by
          show World.ownsRow _ _ _ _ _ _ _
          rw [HE.out, List.length_append, sumV_append]
          exact hown5
        clear hown5 hg5 O4 X4
        have hj := HJ.out
        go_wp2
        go_roundg (gk - 1)
        case measure => omega
        case rel => exact ⟨j + 1, by omega, rfl, int_congr (by omega), O5.out, X5⟩
      · obtain rfl : j = ls.length := by omega
        rw [List.take_length] at ho
        obtain ⟨A', c', rfl, hc', hr'⟩ := own_slice2 ho
        rw [leafS_len] at hc' hr'
        have HR := Lib.hid hr'
        have HX := Lib.hid hx
        clear hr' hx ho hj h
        go_wp2
        go_ret2
        exact ⟨A', c', by first | rfl | rw [leafS_len]; rfl, hc', HR.out, HX.out⟩
set_option maxRecDepth 100000 in
set_option maxHeartbeats 4000000 in
theorem lfirst_any (d : LogX) (v : Nat) (hv : v ≤ 1) (n : Nat) (hn : n ≤ d.ls.length) (w : World) (h : LogW w w.heap.size d) :
    Calls Tryz.prog 50 #[logV d, .int .i64 v, .int .i64 n] w fun e w' => ∃ A c, e = .returned (.tuple #[.slice A n c, .int .i64 0]) ∧ n ≤ c ∧ Reads w' w'.heap.size 2 A n (sumV ((leafS d.ls).take n)) ∧ Ext w w' := by
  obtain ⟨W0, e0⟩ : ∃ W, w.alloc (.cells #[.int .i64 0, .int .u64 (d.key : Int), .int .i64 20, .slice d.lA d.ls.length d.lc, .slice none 0 0, .slice d.wA d.ws.length d.wc] 29) = W := ⟨_, rfl⟩
  have b0 : Blk W0 w.heap.size 29 #[.int .i64 0, .int .u64 (d.key : Int), .int .i64 20, .slice d.lA d.ls.length d.lc, .slice none 0 0, .slice d.wA d.ws.length d.wc] := by rw [← e0]; exact Blk.new _ _ _
  have x0 : Ext w W0 := by rw [← e0]; exact (Ext.refl w).alloc _
  have c1 := lLeaves_any d v hv W0 (h.ext x0)
  unfold logV at c1 ⊢
  obtain ⟨m0, m1, m2, m3, m4, m5, -, -, -, -, -, -⟩ := lst6 b0
  have hls : d.ls.length ≤ 30 := by have := h.lens; omega
  obtain ⟨N, hN⟩ : ∃ N, d.ls.length = N := ⟨_, rfl⟩
  obtain ⟨T, hT⟩ : ∃ T, leafS d.ls = T := ⟨_, rfl⟩
  have hTl : T.length = N := by rw [← hT, leafS_len, hN]
  rw [hT] at c1 ⊢
  rw [hN] at hls hn c1 m3 ⊢
  have hnb : (n : Int) ≤ (N : Int) := by omega
  have hn3 : (n : Int) ≤ 30 := by omega
  have HX0 := Lib.hid x0
  have HL := Lib.hid hn
  rw [hN] at e0
  clear b0 x0 h hT hN hv hls hn hTl
  go_enter Tryz.func50, Tryz.ntmps50
  go_upto_region 1 with (fail)
  try rw [e0]
  clear e0
  go_upto_region 2 with (go_at_call 13; refine c1.mono ?_; clear c1 m0 m1 m2 m3 m4 m5; rintro e w1 ⟨A, c, rfl, hc, hr, x1⟩)
  have hr2 := reads_take hr HL.out
  rw [sumV_take] at hr2
  have hnc : (n : Int) ≤ (c : Int) := by omega
  have HX1 := Lib.hid x1
  have HR2 := Lib.hid hr2
  clear hr hr2 x1
  go_wp2
  go_ret2
  exact ⟨A, c, rfl, by omega, HR2.out, HX0.out.trans HX1.out⟩
end Go.Proofs.YtfpmfegmehbfbaaGreatDoor

/- Logs, walked: a view's head; what shows that a view has grown. -/
namespace Go.Proofs.YtfpmfegmehbfbaaGreatDoor
set_option linter.unusedVariables false
set_option linter.unusedSimpArgs false
set_option linter.unusedSimpArgs false
open Go.RowKit Go.Shelf Go.Maps

end Go.Proofs.YtfpmfegmehbfbaaGreatDoor

/- Trees of hashes, walked: who checks that a tree has grown. -/
namespace Go.Proofs.YtfpmfegmehbfbaaGreatDoor
set_option linter.unusedVariables false
set_option linter.unusedSimpArgs false
set_option linter.unusedSimpArgs false
open Go.RowKit Go.Shelf Go.Maps

/-- A box that holds a sum. -/
def SBox (b : Nat) (x : Nat × Nat) (w : World) : Prop := Blk w b 34 #[.int .u64 (x.1 : Int), .int .u64 (x.2 : Int)]
theorem SBox.ext {b : Nat} {x : Nat × Nat} {w w' : World} (h : SBox b x w) (e : Ext w w') : SBox b x w' := ext_blk e h
end Go.Proofs.YtfpmfegmehbfbaaGreatDoor

/- Trees of hashes, walked: who checks that a tree has grown. -/
namespace Go.Proofs.YtfpmfegmehbfbaaGreatDoor
set_option linter.unusedVariables false
set_option linter.unusedSimpArgs false
set_option linter.unusedSimpArgs false
open Go.RowKit Go.Shelf Go.Maps

end Go.Proofs.YtfpmfegmehbfbaaGreatDoor

/- Trees of hashes, walked: CheckGrow. -/
namespace Go.Proofs.YtfpmfegmehbfbaaGreatDoor
set_option linter.unusedVariables false
set_option linter.unusedSimpArgs false
set_option linter.unusedSimpArgs false
open Go.RowKit Go.Shelf Go.Maps

/-- The table that counts zeros at a number's end. -/
def TabW (w : World) : Prop := TabAt (Tryz.lays27_ren.g 1) Lib.deBruijn64tab w
end Go.Proofs.YtfpmfegmehbfbaaGreatDoor

/- Trees of hashes, walked: Check. -/
namespace Go.Proofs.YtfpmfegmehbfbaaGreatDoor
set_option linter.unusedVariables false
set_option linter.unusedSimpArgs false
set_option linter.unusedSimpArgs false
open Go.RowKit Go.Shelf Go.Maps

theorem ck1_enters : Enters Tryz.prog 69 := enters_of Tryz.func69 (by kernel_rfl) rfl
theorem ck2_enters : Enters Tryz.prog 70 := enters_of Tryz.func70 (by kernel_rfl) rfl
set_option maxRecDepth 100000 in
set_option maxHeartbeats 2000000 in
theorem ck1_any (b : Nat) (x p : Nat × Nat) (B : Nat) (hB : B ≤ b) (W : World) (hW : B ≤ W.heap.size) (h : SBox b x W) :
    Calls Tryz.prog 69 #[.agg #[.int .u64 (p.1 : Int), .int .u64 (p.2 : Int)], .pointer (some ⟨b, 0, none⟩)] W fun e w' => e = .returned (.tuple #[]) ∧ SBox b (prS p x) w' ∧ Below B W w' ∧ (∀ k y, k ≠ b → SBox k y W → SBox k y w') := by
  obtain ⟨W1, e1⟩ : ∃ V, W.alloc (.cells #[.int .u64 (p.1 : Int), .int .u64 (p.2 : Int)] 34) = V := ⟨_, rfl⟩
  have x1 : Ext W W1 := by rw [← e1]; exact (Ext.refl _).alloc _
  have b1 : Blk W1 W.heap.size 34 #[.int .u64 (p.1 : Int), .int .u64 (p.2 : Int)] := by rw [← e1]; exact Blk.new _ _ _
  have b2 : Blk W1 b 34 #[.int .u64 (x.1 : Int), .int .u64 (x.2 : Int)] := SBox.ext h x1
  have m0 := b1.cell 0
  have m1 := b1.cell 1
  have m2 := b2.cell 0
  have m3 := b2.cell 1
  have cP := fun W => prS_any p x W
  obtain ⟨v, hv⟩ : ∃ v, prS p x = v := ⟨_, rfl⟩
  rw [hv] at cP ⊢
  have HB2 := Lib.hid b2
  have HX1 := Lib.hid x1
  have hbl := h.lt
  clear hv b1 b2 x1 h
  go_enter Tryz.func69, Tryz.ntmps69
  go_upto_region 1 with (fail)
  try rw [e1]
  clear e1
  go_wp2_with (go_at_call 58; refine (cP _).mono ?_; clear cP m0 m1 m2 m3; rintro e w2 ⟨rfl, x2⟩; have b3 := ext_blk x2 HB2.out; have m0 := b3.cell 0; have m1 := b3.cell 1; have f0 := b3.frozen 0; have f1 := b3.frozen 1)
  have hx := HX1.out.trans x2
  go_end0
  refine ⟨rfl, (Blk.set_ b3 0 (.int .u64 (v.1 : Int))).set_ 1 (.int .u64 (v.2 : Int)), ((Below.mono hx.out hW).setCell (p := ⟨b, 0, none⟩) hB _).setCell (p := ⟨b, 1, none⟩) hB _, fun k y hk hy => ?_⟩
  exact (Blk.far (SBox.ext hy hx) (p := ⟨b, 0, none⟩) hk _).far (p := ⟨b, 1, none⟩) hk _
set_option maxRecDepth 100000 in
set_option maxHeartbeats 2000000 in
theorem ck2_any (b : Nat) (x p : Nat × Nat) (B : Nat) (hB : B ≤ b) (W : World) (hW : B ≤ W.heap.size) (h : SBox b x W) :
    Calls Tryz.prog 70 #[.agg #[.int .u64 (p.1 : Int), .int .u64 (p.2 : Int)], .pointer (some ⟨b, 0, none⟩)] W fun e w' => e = .returned (.tuple #[]) ∧ SBox b (prS x p) w' ∧ Below B W w' ∧ (∀ k y, k ≠ b → SBox k y W → SBox k y w') := by
  obtain ⟨W1, e1⟩ : ∃ V, W.alloc (.cells #[.int .u64 (p.1 : Int), .int .u64 (p.2 : Int)] 34) = V := ⟨_, rfl⟩
  have x1 : Ext W W1 := by rw [← e1]; exact (Ext.refl _).alloc _
  have b1 : Blk W1 W.heap.size 34 #[.int .u64 (p.1 : Int), .int .u64 (p.2 : Int)] := by rw [← e1]; exact Blk.new _ _ _
  have b2 : Blk W1 b 34 #[.int .u64 (x.1 : Int), .int .u64 (x.2 : Int)] := SBox.ext h x1
  have m0 := b1.cell 0
  have m1 := b1.cell 1
  have m2 := b2.cell 0
  have m3 := b2.cell 1
  have cP := fun W => prS_any x p W
  obtain ⟨v, hv⟩ : ∃ v, prS x p = v := ⟨_, rfl⟩
  rw [hv] at cP ⊢
  have HB2 := Lib.hid b2
  have HX1 := Lib.hid x1
  have hbl := h.lt
  clear hv b1 b2 x1 h
  go_enter Tryz.func70, Tryz.ntmps70
  go_upto_region 1 with (fail)
  try rw [e1]
  clear e1
  go_wp2_with (go_at_call 58; refine (cP _).mono ?_; clear cP m0 m1 m2 m3; rintro e w2 ⟨rfl, x2⟩; have b3 := ext_blk x2 HB2.out; have m0 := b3.cell 0; have m1 := b3.cell 1; have f0 := b3.frozen 0; have f1 := b3.frozen 1)
  have hx := HX1.out.trans x2
  go_end0
  refine ⟨rfl, (Blk.set_ b3 0 (.int .u64 (v.1 : Int))).set_ 1 (.int .u64 (v.2 : Int)), ((Below.mono hx.out hW).setCell (p := ⟨b, 0, none⟩) hB _).setCell (p := ⟨b, 1, none⟩) hB _, fun k y hk hy => ?_⟩
  exact (Blk.far (SBox.ext hy hx) (p := ⟨b, 0, none⟩) hk _).far (p := ⟨b, 1, none⟩) hk _
theorem ck_climb (b B : Nat) (hB : B ≤ b) (l : List (Nat × Nat)) (hl : l.length < 64) (a n : Nat) (ha : a < n) (hn : n ≤ 64) (A : Option Addr) (k : Nat) (f : Nat × Nat) (w : World) (hW : B ≤ w.heap.size) (hr : Reads w B 2 A l.length (sumV l)) (h1 : SBox b f w) :
    Calls Tryz.prog 56 #[.int .i64 a, .int .i64 n, .slice A l.length k, .func (.func 69) #[] #[.pointer (some ⟨b, 0, none⟩)], .func (.func 70) #[] #[.pointer (some ⟨b, 0, none⟩)]] w fun e w' => e = .returned (.tuple #[]) ∧
      SBox b (climbF (fun x p => prS p x) prS l a (n - 1) f) w' ∧ Below B w w' :=
  climb_any 69 70 ck1_enters ck2_enters #[.pointer (some ⟨b, 0, none⟩)] #[.pointer (some ⟨b, 0, none⟩)]
    (fun x p => prS p x) prS B (SBox b) (fun x W W' h _ e => h.ext e)
    (fun x p W h hW => (ck1_any b x p B hB W hW h).mono fun e w' ⟨h1, h2, h3, h4⟩ => ⟨h1, h2, h3⟩)
    (fun x p W h hW => (ck2_any b x p B hB W hW h).mono fun e w' ⟨h1, h2, h3, h4⟩ => ⟨h1, h2, h3⟩)
    l hl a n ha hn A k f w hW hr h1
set_option maxRecDepth 100000 in
set_option maxHeartbeats 4000000 in
theorem mkCheck_any (l : List (Nat × Nat)) (i : Nat) (x : Nat × Nat) (hl : l.length ≤ 31) (hx : l[i]? = some x) (A : Option Addr) (c : Nat) (w : World) (hr : Reads w w.heap.size 2 A (proveF prS zS l i).length (sumV (proveF prS zS l i))) :
    Calls Tryz.prog 19 #[.agg #[.int .u64 (x.1 : Int), .int .u64 (x.2 : Int)], .int .i64 i, .int .i64 l.length, .slice A (proveF prS zS l i).length c, .agg #[.int .u64 ((rootF prS zS l).1 : Int), .int .u64 ((rootF prS zS l).2 : Int)]] w fun e w' => e = .returned (.int .i64 0) ∧ Ext w w' := by
  obtain ⟨hlen, hcl⟩ := prove_checks prS zS l i x (by omega) hx
  have hil := (List.getElem?_eq_some_iff.1 hx).1
  obtain ⟨G, hG⟩ : ∃ G, proveF prS zS l i = G := ⟨_, rfl⟩
  obtain ⟨R, hR⟩ : ∃ G, rootF prS zS l = G := ⟨_, rfl⟩
  obtain ⟨n, hn⟩ : ∃ n, l.length = n := ⟨_, rfl⟩
  rw [hG] at hlen hcl hr ⊢
  rw [hR] at hcl ⊢
  rw [hn] at hlen hcl hl hil ⊢
  clear hG hR hn hx
  have cS := fun w => steps_any i n (by omega) (by omega) (by omega) w
  have hIb : innerN i (n - 1) ≤ 6 := inner_le i (by omega) (n - 1) (by omega)
  obtain ⟨I, hI⟩ : ∃ k, innerN i (n - 1) = k := ⟨_, rfl⟩
  rw [hI] at hlen cS hIb
  have hDb : onesF (i / 2 ^ I) ≤ 31 := by
    have : i / 2 ^ I < 32 := Nat.lt_of_le_of_lt (Nat.div_le_self _ _) (by omega)
    rw [ones_fuel 5 _ (by simpa using this)]
    have : ∀ k < 32, onesG 5 k ≤ 31 := by decide +kernel
    exact this _ (by omega)
  obtain ⟨D, hD⟩ : ∃ k, onesF (i / 2 ^ I) = k := ⟨_, rfl⟩
  rw [hD] at hlen cS hDb
  have hIb' : (I : Int) ≤ 6 := by omega
  have hDb' : (D : Int) ≤ 31 := by omega
  have hib : (i : Int) ≤ 31 := by omega
  have hnb : (n : Int) ≤ 31 := by omega
  have hin : (i : Int) < (n : Int) := by omega
  have d1 : decide ((n : Int) ≤ (i : Int)) = false := by simp; omega
  have d1' : decide (n ≤ i) = false := by simp; omega
  have d2 : ¬ n ≤ i := by omega
  have t4 : (G.length : Int) = (I : Int) + (D : Int) := by omega
  have t5 : ((G.length : Int) != (I : Int) + (D : Int)) = false := by simp; omega
  have qb := eq2_same (R.1 : Int) (R.2 : Int)
  obtain ⟨W0, e0⟩ : ∃ W, (w.alloc (.cells #[.int .u64 (x.1 : Int), .int .u64 (x.2 : Int)] 34)).alloc (.cells #[.int .u64 (R.1 : Int), .int .u64 (R.2 : Int)] 34) = W := ⟨_, rfl⟩
  have b0 : Blk W0 w.heap.size 34 #[.int .u64 (x.1 : Int), .int .u64 (x.2 : Int)] := by rw [← e0]; exact (Blk.new _ _ _).alloc _
  have b1 : Blk W0 (w.heap.size + 1) 34 #[.int .u64 (R.1 : Int), .int .u64 (R.2 : Int)] := by
    rw [← e0]
    have := Blk.new (w.alloc (.cells #[.int .u64 (x.1 : Int), .int .u64 (x.2 : Int)] 34)) 34 #[.int .u64 (R.1 : Int), .int .u64 (R.2 : Int)]
    simpa using this
  have x0 : Ext w W0 := by rw [← e0]; exact ((Ext.refl w).alloc _).alloc _
  have s0 : W0.heap.size = w.heap.size + 2 := by rw [← e0]; simp
  have m0 := b0.cell 0
  have m1 := b0.cell 1
  obtain ⟨W1, e3⟩ : ∃ W, W0.alloc (.cells #[.int .u64 (x.1 : Int), .int .u64 (x.2 : Int)] 34) = W := ⟨_, rfl⟩
  have b2 : SBox W0.heap.size x W1 := by show Blk _ _ _ _; rw [← e3]; exact Blk.new _ _ _
  have x1 : Ext W0 W1 := by rw [← e3]; exact (Ext.refl _).alloc _
  have cCl := ck_climb W0.heap.size W0.heap.size (Nat.le_refl _) G (by omega) i n (by omega) (by omega) A c x W1 x1.size ((hr.below (x0.trans x1).out).more x0.size) b2
  rw [hcl] at cCl
  have HB1 := Lib.hid (ext_blk x1 b1)
  have HX := Lib.hid (x0.trans x1)
  have HS : Hid (W0.heap.size = w.heap.size + 2) := Lib.hid s0
  have HX1 := Lib.hid x1
  have HX0 := Lib.hid x0
  clear b0 b1 b2 x0 x1 s0 hr hcl hI hD hlen hl hil hIb hDb
  have HT4 := Lib.hid t4
  clear t4
  go_enter Tryz.func19, Tryz.ntmps19
  go_upto_region 1 with (fail)
  try rw [e0]
  clear e0
  go_upto_region 7 with (go_at_call 54; refine (cS _).mono ?_; clear cS; rintro e w' ⟨rfl, rfl⟩)
  try rw [e3]
  clear e3 m0 m1
  go_upto_region 8 with (go_at_call 56; refine cCl.mono ?_; clear cCl; rintro e w2 ⟨rfl, j1, hb⟩)
  have k1 := Blk.below HB1.out hb (by have := HS.out; omega)
  have p0 := j1.cell 0
  have p1 := j1.cell 1
  have q0 := k1.cell 0
  have q1 := k1.cell 1
  have HE := Lib.hid (Ext.of ((HX.out).out.trans (Below.mono hb HX0.out.size)))
  clear j1 k1 hb
  go_wp2
  go_ret
  exact ⟨rfl, HE.out⟩
end Go.Proofs.YtfpmfegmehbfbaaGreatDoor
