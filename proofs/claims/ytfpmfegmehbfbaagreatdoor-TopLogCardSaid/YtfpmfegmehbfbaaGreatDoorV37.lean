/- Parts of the proofs, put together: Der2, Der3. -/
import Derived.Laws.EntriesVeiled
import Derived.Test.YtfpmfegmehbfbaaGreatDoorV15
import Derived.Test.YtfpmfegmehbfbaaGreatDoorV36
/- Items, walked: what 'up' writes. -/
namespace Go.Proofs.YtfpmfegmehbfbaaGreatDoor
set_option linter.unusedVariables false
set_option linter.unusedSimpArgs false
set_option linter.unusedSimpArgs false
open Go.RowKit Go.Shelf Go.Maps

/-- Kinds of items, in memory: a number and a function each. -/
def kinC (x : Int × Value) : List Value := [.int .i64 x.1, x.2]
def kinV (l : List (Int × Value)) : List Value := l.flatMap kinC
def kinL : List (Int × Value) := [(1, .func (.func 366) #[] #[]), (2, .func (.func 110) #[] #[]), (4, .func (.func 367) #[] #[]), (12, .func (.func 368) #[] #[]), (48, .func (.func 371) #[] #[])]
/-- The package's kinds, as they are laid. -/
def KindsW (w : World) : Prop := Reads w w.heap.size 2 (some ⟨2, 0, none⟩) 5 (kinV kinL)
theorem KindsW.ext {w w' : World} (h : KindsW w) (x : Ext w w') : KindsW w' := (Reads.below h x.out).more x.size
theorem reads_kin {w : World} {B n : Nat} {A : Option Addr} {l : List (Int × Value)} (h : Reads w B 2 A n (kinV l)) {j : Nat} {x : Int × Value} (hj : l[j]? = some x) :
    ∃ ad, A = some ad ∧ ad.block < B ∧ w.cell? (ad.add (j * 2)) = some (.int .i64 x.1) ∧ w.cell? ⟨(ad.add (j * 2)).block, (ad.add (j * 2)).off + 1, none⟩ = some x.2 := by
  obtain ⟨ad, e, hb, hc⟩ := reads_fm kinC (fun _ => rfl) h hj (by decide)
  refine ⟨ad, e, hb, ?_, ?_⟩
  · have := hc 0 _ rfl; rwa [add_of_add, Nat.add_zero] at this
  · rw [← add_succ_eq _ 0]; exact hc 1 _ rfl
set_option maxRecDepth 100000 in
set_option maxHeartbeats 2000000 in
theorem indexK_any (F : FuncId) (hE : Enters Tryz.prog F) (cap : Array Value) (f : (Int × Value) → Bool) (l : List (Int × Value)) (hn : l.length ≤ 1099511627776) (A : Option Addr) (c : Nat) (w : World) (hr : Reads w w.heap.size 2 A l.length (kinV l))
    (hstep : ∀ (W : World) (s : (Int × Value)), s ∈ l → Ext w W → Calls Tryz.prog F (#[.agg #[.int .i64 s.1, s.2]] ++ cap) W fun e w' => e = .returned (.bool (f s)) ∧ Ext W w') :
    Calls Tryz.prog 233 #[.slice A l.length c, .func (.func F) #[] cap] w fun e w' => e = .returned (.int .i64 (ixG f l)) ∧ Ext w w' := by
  have hr0 : Hid (Reads w w.heap.size 2 A l.length (kinV l)) := Lib.hid hr
  have HN := Lib.hid hn
  have HS := Lib.hid hstep
  unfold Enters at hE
  clear hr hn hstep
  go_enter Tryz.func233, Tryz.ntmps233
  go_wp2
  go_loopg [8] l.length (fun m s8 wr => ∃ j : Nat, j + m = l.length ∧ s8 = .int .i64 j ∧ (∀ s ∈ l.take j, f s = false) ∧ Ext w wr)
  case atStart => exact ⟨0, by omega, rfl, by simp, Ext.refl w⟩
  case round =>
    obtain ⟨j, hj, rfl, hok, hx⟩ := hrel
    by_cases h : j < l.length
    · obtain ⟨s, hs⟩ : ∃ s, l[j]? = some s := ⟨_, List.getElem?_eq_getElem h⟩
      obtain ⟨ad, rfl, hlt, q0, q1⟩ := reads_kin (hr0.out.below hx.out) hs
      have hjb : (j : Int) ≤ 1099511627776 := by have := HN.out; omega
      have c1 := fun (W : World) => HS.out W s (List.mem_of_getElem? hs)
      have e1 : l.take (j + 1) = l.take j ++ [s] := by rw [List.take_add_one, hs]; rfl
      cases hf : f s with
      | true =>
        have kk : Hid (ixG f l = (j : Int)) := Lib.hid (by
          have : l.findIdx? f = some j := by
            rw [List.findIdx?_eq_some_iff_getElem]
            have hsg := (List.getElem?_eq_some_iff.1 hs).2
            refine ⟨h, by rw [hsg]; exact hf, fun i hi => ?_⟩
            have := hok (l[i]'(by omega)) (List.mem_take_iff_getElem.2 ⟨i, by omega, rfl⟩)
            rw [this]; decide
          unfold ixG; rw [this])
        rw [hf] at c1
        have HX := Lib.hid hx
        clear hx hj hs hf hok e1
        go_wp2_with (go_at_fn F; refine (c1 _ HX.out).mono ?_; clear c1; rintro e w1 ⟨rfl, x1⟩)
        go_ret
        exact ⟨by rw [kk.out]; rfl, HX.out.trans x1⟩
      | false =>
        have hok' : Hid (∀ s ∈ l.take (j + 1), f s = false) := Lib.hid fun r hr => by
          rw [e1] at hr
          rcases List.mem_append.1 hr with hr | hr
          · exact hok r hr
          · rw [List.mem_singleton] at hr; subst hr; exact hf
        rw [hf] at c1
        have HX := Lib.hid hx
        have HJ := Lib.hid hj
        clear hx hj hs hf hok e1
        go_wp2_with (go_at_fn F; refine (c1 _ HX.out).mono ?_; clear c1; rintro e w1 ⟨rfl, x1⟩)
        have hj := HJ.out
        go_roundg (gk - 1)
        case measure => omega
        case rel => exact ⟨j + 1, by omega, int_congr (by omega), hok'.out, HX.out.trans x1⟩
    · obtain rfl : j = l.length := by omega
      rw [List.take_length] at hok
      have kk : Hid (ixG f l = -1) := Lib.hid (by
        have : l.findIdx? f = none := List.findIdx?_eq_none_iff.2 hok
        unfold ixG; rw [this])
      have HX := Lib.hid hx
      clear hx hj h hok
      go_wp2
      go_ret
      exact ⟨by rw [kk.out]; rfl, HX.out⟩
theorem KindsW.int_ {w : World} (h : KindsW w) : w.cell? ⟨2, 2, none⟩ = some (.int .i64 2) ∧ w.cell? ⟨2, 3, none⟩ = some (.func (.func 110) #[] #[]) := by
  obtain ⟨ad, e, hb, hc⟩ := h.2 (by decide)
  cases e
  exact ⟨hc 2 _ rfl, hc 3 _ rfl⟩
theorem find1_any (tag t : Int) (v : Value) (g : Nat) (w : World) (hg : w.cell? ⟨g, 0, none⟩ = some (.int .i64 tag)) :
    Calls Tryz.prog 234 #[.agg #[.int .i64 t, v], .pointer (some ⟨g, 0, none⟩)] w fun e w' => e = .returned (.bool (t == tag)) ∧ Ext w w' := by
  have hlt : g < w.heap.size := World.block_lt_of_cell? _ _ hg
  have hg1 : (w.alloc (.cells #[.int .i64 t, v] 253)).cell? ⟨g, 0, none⟩ = some (.int .i64 tag) := (World.cell?_alloc_lt w _ ⟨g, 0, none⟩ hlt).trans hg
  go_enter Tryz.func234, Tryz.ntmps234
  go_wp2
  go_ret
  exact ⟨rfl, (Ext.refl w).alloc _⟩
theorem find1_enters : Enters Tryz.prog 234 := enters_of Tryz.func234 (by kernel_rfl) rfl
set_option maxRecDepth 100000 in
set_option maxHeartbeats 2000000 in
theorem find2_any (w : World) (hk : KindsW w) :
    Calls Tryz.prog 165 #[.int .i64 2] w fun e w' => e = .returned (.tuple #[.agg #[.int .i64 2, .func (.func 110) #[] #[]], .bool true]) ∧ Ext w w' := by
  obtain ⟨W0, e0, b0, b1, x0⟩ := boxes2 w #[.int .i64 2] #[.int .i64 0, .nilFunc] 3 253
  have c1 := indexK_any 234 find1_enters #[.pointer (some ⟨w.heap.size, 0, none⟩)] (fun x => x.1 == 2) kinL (by decide) (some ⟨2, 0, none⟩) 5 W0 (hk.ext x0)
    (fun W s _ x => find1_any 2 s.1 s.2 w.heap.size W (x.cell (b0.cell 0)))
  rw [show ixG (fun x => x.1 == 2) kinL = 1 from rfl] at c1
  have HK := Lib.hid hk
  have HX0 := Lib.hid x0
  have HB1 := Lib.hid b1
  clear b0 b1 x0 hk
  go_enter Tryz.func165, Tryz.ntmps165
  go_upto_region 1 with (fail)
  try rw [e0]
  clear e0
  go_wp2_with (go_at_call 233; refine c1.mono ?_; clear c1; rintro e w1 ⟨rfl, x1⟩; obtain ⟨k2, k3⟩ := ((HK.out.ext HX0.out).ext x1).int_; have z1 := ext_blk x1 HB1.out; have y0 := z1.cell 0; have y1 := z1.cell 1; have f0 := z1.frozen 0; have f1 := z1.frozen 1)
  have z2 := (z1.set_ 0 (.int .i64 2)).set_ 1 (.func (.func 110) #[] #[])
  have v0 := z2.cell 0
  have v1 := z2.cell 1
  refine bodyPost_ret (v := .tuple #[.agg #[.int .i64 2, .func (.func 110) #[] #[]], .bool true]) (by simp [results, Tryz.results165, go_sem, v0, v1]) rfl ⟨rfl, ((HX0.out.trans x1).setCell (p := ⟨w.heap.size + 1, 0, none⟩) (Nat.le_succ _) _).setCell (p := ⟨w.heap.size + 1, 1, none⟩) (Nat.le_succ _) _⟩
theorem indexI_none (fv : Value) (w : World) : Calls Tryz.prog 235 #[.slice none 0 0, fv] w fun e w' => e = .returned (.int .i64 (-1)) ∧ w = w' := by
  go_enter Tryz.func235, Tryz.ntmps235
  go_wp2
  go_loopg [8] 0 (fun m s8 wr => s8 = .int .i64 0 ∧ w = wr)
  case atStart => exact ⟨rfl, rfl⟩
  case round =>
    obtain ⟨rfl, rfl⟩ := hrel
    go_wp2
    go_ret
    exact ⟨rfl, rfl⟩
theorem containsI_none (fv : Value) (w : World) : Calls Tryz.prog 167 #[.slice none 0 0, fv] w fun e w' => e = .returned (.bool false) ∧ w = w' := by
  have c1 := indexI_none fv
  go_enter Tryz.func167, Tryz.ntmps167
  go_wp2_with (go_at_call 235; refine (c1 _).mono ?_; clear c1; rintro e w1 ⟨rfl, rfl⟩)
  go_ret
  exact ⟨rfl, rfl⟩
theorem reads_two {w : World} {B n : Nat} {A : Option Addr} {x y : Value} (h : Reads w B 1 A n [x, y]) : ∃ g k, A = some ⟨g, k, none⟩ ∧ g < B ∧ w.cell? ⟨g, k, none⟩ = some x ∧ w.cell? ⟨g, k + 1, none⟩ = some y := by
  have hn : n = 2 := by have := h.1; simp at this; omega
  obtain ⟨⟨g, k, s⟩, rfl, hb, hc⟩ := h.2 (by omega)
  have h0 := hc 0 x rfl
  have h1 := hc 1 y rfl
  have e0 : (⟨g, k, s⟩ : Addr).add 0 = ⟨g, k, s⟩ := by simp [Addr.add]
  rw [e0] at h0
  have hs : s = none := World.cell?_spot h0
  subst hs
  exact ⟨g, k, rfl, hb, h0, h1⟩
set_option maxRecDepth 100000 in
set_option maxHeartbeats 2000000 in
theorem may128_any (A : Option Addr) (c : Nat) (w : World) (hk : KindsW w) (hr : Reads w w.heap.size 1 A 2 [.int .u8 0, .int .u8 128]) :
    Calls Tryz.prog 83 #[.agg #[.int .i64 2, .slice A 2 c, .slice none 0 0], .int .i64 8] w fun e w' => e = .returned (.bool true) ∧ Ext w w' := by
  obtain ⟨W0, e0, b0, b1, x0⟩ := boxes2 w #[.int .i64 2, .slice A 2 c, .slice none 0 0] #[.int .i64 8] 77 3
  obtain ⟨g, k, rfl, hg, h0, h1⟩ := reads_two hr
  have c1 := find2_any W0 (hk.ext x0)
  have c2 := fun fv => containsI_none fv
  have HB0 := Lib.hid b0
  have HB1 := Lib.hid b1
  have HX0 := Lib.hid x0
  have H0 := Lib.hid h0
  have H1 := Lib.hid h1
  have y0 := b0.cell 0
  clear b0 b1 x0 hk hr h0 h1
  go_enter Tryz.func83, Tryz.ntmps83
  go_upto_region 1 with (fail)
  try rw [e0]
  clear e0
  go_upto_region 2 with (go_at_call 165; refine c1.mono ?_; clear c1 y0; rintro e w1 ⟨rfl, x1⟩)
  obtain ⟨W2, e2⟩ : ∃ W, w1.alloc (.cells #[.int .i64 2, .func (.func 110) #[] #[]] 253) = W := ⟨_, rfl⟩
  have x2 : Ext W0 W2 := by rw [← e2]; exact x1.alloc _
  have b2 : Blk W2 w1.heap.size 253 #[.int .i64 2, .func (.func 110) #[] #[]] := by rw [← e2]; exact Blk.new _ _ _
  try rw [e2]
  have z0 := ext_blk x2 HB0.out
  have z1 := ext_blk x2 HB1.out
  have y0 := z0.cell 0
  have y1 := z0.cell 1
  have y2 := z0.cell 2
  have y3 := z1.cell 0
  have v0 := b2.cell 0
  have v1 := b2.cell 1
  have c3 := least_80 g k c W2 (x2.cell (HX0.out.cell H0.out)) (x2.cell (HX0.out.cell H1.out))
  have HX2 := Lib.hid x2
  clear e2 x2 b2 z0 z1
  go_wp2_with (first | (go_at_call 110; refine c3.mono ?_; clear c3; rintro e w3 ⟨rfl, rfl⟩) | (go_at_call 167; refine (c2 _ _).mono ?_; clear c2; rintro e w3 ⟨rfl, rfl⟩))
  go_ret
  exact ⟨rfl, HX0.out.trans HX2.out⟩
set_option maxRecDepth 100000 in
set_option maxHeartbeats 2000000 in
theorem content_any (xs : List Value) (tag : Int) (A : Option Addr) (n c : Nat) (h1 : ∀ u ∈ xs, u.oneCell' = true) (hn : n ≤ 1099511627776) (w : World) (hr : Reads w w.heap.size 1 A n xs) :
    Calls Tryz.prog 169 #[.agg #[.int .i64 tag, .slice A n c, .slice none 0 0]] w fun e w' => ∃ A' c', e = .returned (.slice A' n c') ∧ n ≤ c' ∧ Reads w' w'.heap.size 1 A' n xs ∧ Ext w w' := by
  obtain ⟨W0, e0⟩ : ∃ W, w.alloc (.cells #[.int .i64 tag, .slice A n c, .slice none 0 0] 77) = W := ⟨_, rfl⟩
  have b0 : Blk W0 w.heap.size 77 #[.int .i64 tag, .slice A n c, .slice none 0 0] := by rw [← e0]; exact Blk.new _ _ _
  have x0 : Ext w W0 := by rw [← e0]; exact (Ext.refl w).alloc _
  have c1 := cloneB_any A n c xs h1 hn W0 ((hr.below x0.out).more x0.size)
  have y1 := b0.cell 1
  have HB0 := Lib.hid b0
  have HX0 := Lib.hid x0
  clear b0 x0 hr h1
  go_enter Tryz.func169, Tryz.ntmps169
  go_upto_region 1 with (fail)
  try rw [e0]
  clear e0
  go_wp2_with (go_at_call 111; refine c1.mono ?_; clear c1 y1; rintro e w2 ⟨v2, rfl, ho2, x2⟩; obtain ⟨A2, c2, rfl, hc2, hr2⟩ := own_slice ho2; have y2 := (ext_blk x2 HB0.out).cell 2)
  have HR2 := Lib.hid hr2
  have HX2 := Lib.hid x2
  clear hr2 x2 ho2 y2
  go_loopg [3, 12] 0 (fun m s3 s12 wr => s3 = .slice A2 n c2 ∧ s12 = .int .i64 0 ∧ w2 = wr)
  case atStart => exact ⟨rfl, rfl, rfl⟩
  case round =>
    obtain ⟨rfl, rfl, rfl⟩ := hrel
    go_wp2
    go_ret
    exact ⟨A2, c2, rfl, hc2, HR2.out, HX0.out.trans HX2.out⟩
set_option maxRecDepth 100000 in
set_option maxHeartbeats 2000000 in
theorem put128_any (A : Option Addr) (c : Nat) (w : World) (hr : Reads w w.heap.size 1 A 2 [.int .u8 0, .int .u8 128]) :
    Calls Tryz.prog 84 #[.slice none 0 0, .agg #[.int .i64 2, .slice A 2 c, .slice none 0 0]] w fun e w' => ∃ A' c', e = .returned (.slice A' 4 c') ∧ Reads w' w'.heap.size 1 A' 4 [.int .u8 2, .int .u8 2, .int .u8 0, .int .u8 128] ∧ Ext w w' := by
  obtain ⟨i0, hi, hz0, hz1, hz2⟩ := info_parts Tryz.infoU8
  obtain ⟨W0, e0⟩ : ∃ W, w.alloc (.cells #[.int .i64 2, .slice A 2 c, .slice none 0 0] 77) = W := ⟨_, rfl⟩
  have b0 : Blk W0 w.heap.size 77 #[.int .i64 2, .slice A 2 c, .slice none 0 0] := by rw [← e0]; exact Blk.new _ _ _
  have x0 : Ext w W0 := by rw [← e0]; exact (Ext.refl w).alloc _
  have c1 := content_any _ 2 A 2 c (by simp [Value.oneCell']) (by decide) W0 ((hr.below x0.out).more x0.size)
  have y0 := b0.cell 0
  have y1 := b0.cell 1
  have y2 := b0.cell 2
  have HB0 := Lib.hid b0
  have HX0 := Lib.hid x0
  clear b0 x0 hr
  go_enter Tryz.func84, Tryz.ntmps84
  go_upto_region 1 with (fail)
  try rw [e0]
  clear e0
  go_upto_region 2 with (go_at_call 169; refine c1.mono ?_; clear c1 y0 y1 y2; rintro e w2 ⟨A2, c2, rfl, hc2, hr2, x2⟩; have y0 := (ext_blk x2 HB0.out).cell 0)
  have HR2 := Lib.hid hr2
  have HX2 := Lib.hid x2
  clear hr2 x2
  have HY0 := Lib.hid y0
  go_upto_region 3 with (at_builtin; refine wpList_append_any _ rfl (.tmp 9) (.tmp 13) 22 rfl w2.heap.size 5 i0 (.int .u8 0) 1 1 Tryz.underlying22 hi hz0 hz1 hz2 rfl (by decide) _ 0 [] rfl (World.ownsRow_nil _ _ _ _) _ _ 1 _ [.int .u8 2] rfl (reads_oneR w2 5 _) (by simp [Value.oneCell']) (by simp [maxLen]) (by decide) (by simp) ?_; intro v3 w3 ho3 hg3 _; obtain ⟨A3, c3, rfl, -, -⟩ := own_slice ho3; have x3 : Ext w2 w3 := ext_grown ((Ext.refl w2).alloc _) (World.ownsRow_nil _ _ 5 1) hg3; clear hg3 y0)
  go_upto_region 9 with (at_builtin; refine wpList_append_any _ rfl (.tmp 28) (.tmp 31) 22 rfl w2.heap.size 5 i0 (.int .u8 0) 1 1 Tryz.underlying22 hi hz0 hz1 hz2 rfl (by decide) _ 1 [.int .u8 2] rfl (ho3.alloc _) _ _ 1 _ [.int .u8 2] rfl (reads_oneR w3 5 _) (by simp [Value.oneCell']) (by simp [maxLen]) (by decide) (by have := x3.size; simp; omega) ?_; intro v4 w4 ho4 hg4 _; obtain ⟨A4, c4, rfl, -, -⟩ := own_slice ho4; have x4 : Ext w2 w4 := ext_grown (x3.alloc _) (ho3.alloc _) hg4; clear hg4)
  go_wp2_with (at_builtin; refine wpList_append_any _ rfl (.tmp 41) (.tmp 42) 22 rfl w2.heap.size 5 i0 (.int .u8 0) 1 1 Tryz.underlying22 hi hz0 hz1 hz2 rfl (by decide) _ 2 [.int .u8 2, .int .u8 2] rfl (ho4) _ _ 2 _ [.int .u8 0, .int .u8 128] rfl ((Reads.below HR2.out x4.out).more x4.size) (by simp [Value.oneCell']) (by simp [maxLen]) (by decide) (by exact x4.size) ?_; intro v5 w5 ho5 hg5 _; obtain ⟨A5, c5, rfl, -, hr5⟩ := own_slice ho5; have x5 : Ext w2 w5 := ext_grown x4 ho4 hg5; clear hg5)
  go_ret
  exact ⟨A5, c5, rfl, hr5, HX0.out.trans (HX2.out.trans x5)⟩
end Go.Proofs.YtfpmfegmehbfbaaGreatDoor

/- Items, walked: Put of what 'up' writes. -/
namespace Go.Proofs.YtfpmfegmehbfbaaGreatDoor
set_option linter.unusedVariables false
set_option linter.unusedSimpArgs false
set_option linter.unusedSimpArgs false
open Go.RowKit Go.Shelf Go.Maps

set_option maxRecDepth 100000 in
set_option maxHeartbeats 2000000 in
theorem Put128_any (A : Option Addr) (c : Nat) (w : World) (hk : KindsW w) (hr : Reads w w.heap.size 1 A 2 [.int .u8 0, .int .u8 128]) :
    Calls Tryz.prog 30 #[.agg #[.int .i64 2, .slice A 2 c, .slice none 0 0]] w fun e w' => ∃ A' c', e = .returned (.tuple #[.slice A' 4 c', .int .i64 0]) ∧ Reads w' w'.heap.size 1 A' 4 [.int .u8 2, .int .u8 2, .int .u8 0, .int .u8 128] ∧ Ext w w' := by
  obtain ⟨W0, e0⟩ : ∃ W, w.alloc (.cells #[.int .i64 2, .slice A 2 c, .slice none 0 0] 77) = W := ⟨_, rfl⟩
  have b0 : Blk W0 w.heap.size 77 #[.int .i64 2, .slice A 2 c, .slice none 0 0] := by rw [← e0]; exact Blk.new _ _ _
  have x0 : Ext w W0 := by rw [← e0]; exact (Ext.refl w).alloc _
  have c1 := may128_any A c W0 (hk.ext x0) ((hr.below x0.out).more x0.size)
  have c2 := fun W (x : Ext W0 W) => put128_any A c W ((hr.below (x0.trans x).out).more (x0.trans x).size)
  have y0 := b0.cell 0
  have y1 := b0.cell 1
  have y2 := b0.cell 2
  have HB0 := Lib.hid b0
  have HX0 := Lib.hid x0
  clear b0 x0 hr hk
  go_enter Tryz.func30, Tryz.ntmps30
  go_upto_region 1 with (fail)
  try rw [e0]
  clear e0
  go_wp2_with (first | (go_at_call 83; refine c1.mono ?_; clear c1 y0 y1 y2; rintro e w1 ⟨rfl, x1⟩; have z0 := ext_blk x1 HB0.out; have y0 := z0.cell 0; have y1 := z0.cell 1; have y2 := z0.cell 2) | (go_at_call 84; refine (c2 _ x1).mono ?_; clear c2; rintro e w2 ⟨A2, c2, rfl, hr2, x2⟩))
  go_ret2
  exact ⟨A2, c2, rfl, hr2, HX0.out.trans (x1.trans x2)⟩
end Go.Proofs.YtfpmfegmehbfbaaGreatDoor
