/- Parts of the proofs, put together: Der2, CtD3, CtD4, Der3. -/
import Derived.Laws.EntriesVeiled
import Derived.Test.YtfpmfegmehbfbaaGreatDoorZ2
import Derived.Test.YtfpmfegmehbfbaaGreatDoorZ5
import Derived.Test.YtfpmfegmehbfbaaGreatDoorZ15
import Derived.Test.YtfpmfegmehbfbaaGreatDoorZ25
/- Items, walked: what 'up' writes. -/
namespace Go.Proofs.YtfpmfegmehbfbaaGreatDoor
set_option linter.unusedVariables false
set_option linter.unusedSimpArgs false
set_option linter.unusedSimpArgs false
open Go.RowKit Go.Shelf Go.Maps

/-- Kinds of items, in memory: a number and a function each. -/
def kinC (x : Int × Value) : List Value := [.int .i64 x.1, x.2]
def kinV (l : List (Int × Value)) : List Value := l.flatMap kinC
def kinL : List (Int × Value) := [(1, .func (.func 366) #[] #[]), (2, .func (.func 110) #[] #[]), (4, .func (.func 367) #[] #[]), (12, .func (.func 368) #[] #[]), (48, .func (.func 371) #[] #[])]
/-- The package's kinds, as they are laid. -/
def KindsW (w : World) : Prop := Reads w w.heap.size 2 (some ⟨2, 0, none⟩) 5 (kinV kinL)
theorem KindsW.ext {w w' : World} (h : KindsW w) (x : Ext w w') : KindsW w' := (Reads.below h x.out).more x.size
theorem reads_kin {w : World} {B n : Nat} {A : Option Addr} {l : List (Int × Value)} (h : Reads w B 2 A n (kinV l)) {j : Nat} {x : Int × Value} (hj : l[j]? = some x) :
    ∃ ad, A = some ad ∧ ad.block < B ∧ w.cell? (ad.add (j * 2)) = some (.int .i64 x.1) ∧ w.cell? ⟨(ad.add (j * 2)).block, (ad.add (j * 2)).off + 1, none⟩ = some x.2 := by
  obtain ⟨ad, e, hb, hc⟩ := reads_fm kinC (fun _ => rfl) h hj (by decide)
  refine ⟨ad, e, hb, ?_, ?_⟩
  · have := hc 0 _ rfl; rwa [add_of_add, Nat.add_zero] at this
  · rw [← add_succ_eq _ 0]; exact hc 1 _ rfl
set_option maxRecDepth 100000 in
set_option maxHeartbeats 2000000 in
theorem indexK_any (F : FuncId) (hE : Enters Tryz.prog F) (cap : Array Value) (f : (Int × Value) → Bool) (l : List (Int × Value)) (hn : l.length ≤ 1099511627776) (A : Option Addr) (c : Nat) (w : World) (hr : Reads w w.heap.size 2 A l.length (kinV l))
    (hstep : ∀ (W : World) (s : (Int × Value)), s ∈ l → Ext w W → Calls Tryz.prog F (#[.agg #[.int .i64 s.1, s.2]] ++ cap) W fun e w' => e = .returned (.bool (f s)) ∧ Ext W w') :
    Calls Tryz.prog 233 #[.slice A l.length c, .func (.func F) #[] cap] w fun e w' => e = .returned (.int .i64 (ixG f l)) ∧ Ext w w' := by
  have hr0 : Hid (Reads w w.heap.size 2 A l.length (kinV l)) := Lib.hid hr
  have HN := Lib.hid hn
  have HS := Lib.hid hstep
  unfold Enters at hE
  clear hr hn hstep
  go_enter Tryz.func233, Tryz.ntmps233
  go_wp2
  go_loopg [8] l.length (fun m s8 wr => ∃ j : Nat, j + m = l.length ∧ s8 = .int .i64 j ∧ (∀ s ∈ l.take j, f s = false) ∧ Ext w wr)
  case atStart => exact ⟨0, by omega, rfl, by simp, Ext.refl w⟩
  case round =>
    obtain ⟨j, hj, rfl, hok, hx⟩ := hrel
    by_cases h : j < l.length
    · obtain ⟨s, hs⟩ : ∃ s, l[j]? = some s := ⟨_, List.getElem?_eq_getElem h⟩
      obtain ⟨ad, rfl, hlt, q0, q1⟩ := reads_kin (hr0.out.below hx.out) hs
      have hjb : (j : Int) ≤ 1099511627776 := by have := HN.out; omega
      have c1 := fun (W : World) => HS.out W s (List.mem_of_getElem? hs)
      have e1 : l.take (j + 1) = l.take j ++ [s] := by rw [List.take_add_one, hs]; rfl
      cases hf : f s with
      | true =>
        have kk : Hid (ixG f l = (j : Int)) := Lib.hid (by
          have : l.findIdx? f = some j := by
            rw [List.findIdx?_eq_some_iff_getElem]
            have hsg := (List.getElem?_eq_some_iff.1 hs).2
            refine ⟨h, by rw [hsg]; exact hf, fun i hi => ?_⟩
            have := hok (l[i]'(by omega)) (List.mem_take_iff_getElem.2 ⟨i, by omega, rfl⟩)
            rw [this]; decide
          unfold ixG; rw [this])
        rw [hf] at c1
        have HX := Lib.hid hx
        clear hx hj hs hf hok e1
        go_wp2_with (go_at_fn F; refine (c1 _ HX.out).mono ?_; clear c1; rintro e w1 ⟨rfl, x1⟩)
        go_ret
        exact ⟨by rw [kk.out]; rfl, HX.out.trans x1⟩
      | false =>
        have hok' : Hid (∀ s ∈ l.take (j + 1), f s = false) := Lib.hid fun r hr => by
          rw [e1] at hr
          rcases List.mem_append.1 hr with hr | hr
          · exact hok r hr
          · rw [List.mem_singleton] at hr; subst hr; exact hf
        rw [hf] at c1
        have HX := Lib.hid hx
        have HJ := Lib.hid hj
        clear hx hj hs hf hok e1
        go_wp2_with (go_at_fn F; refine (c1 _ HX.out).mono ?_; clear c1; rintro e w1 ⟨rfl, x1⟩)
        have hj := HJ.out
        go_roundg (gk - 1)
        case measure => omega
        case rel => exact ⟨j + 1, by omega, int_congr (by omega), hok'.out, HX.out.trans x1⟩
    · obtain rfl : j = l.length := by omega
      rw [List.take_length] at hok
      have kk : Hid (ixG f l = -1) := Lib.hid (by
        have : l.findIdx? f = none := List.findIdx?_eq_none_iff.2 hok
        unfold ixG; rw [this])
      have HX := Lib.hid hx
      clear hx hj h hok
      go_wp2
      go_ret
      exact ⟨by rw [kk.out]; rfl, HX.out⟩
theorem KindsW.int_ {w : World} (h : KindsW w) : w.cell? ⟨2, 2, none⟩ = some (.int .i64 2) ∧ w.cell? ⟨2, 3, none⟩ = some (.func (.func 110) #[] #[]) := by
  obtain ⟨ad, e, hb, hc⟩ := h.2 (by decide)
  cases e
  exact ⟨hc 2 _ rfl, hc 3 _ rfl⟩
theorem find1_any (tag t : Int) (v : Value) (g : Nat) (w : World) (hg : w.cell? ⟨g, 0, none⟩ = some (.int .i64 tag)) :
    Calls Tryz.prog 234 #[.agg #[.int .i64 t, v], .pointer (some ⟨g, 0, none⟩)] w fun e w' => e = .returned (.bool (t == tag)) ∧ Ext w w' := by
  have hlt : g < w.heap.size := World.block_lt_of_cell? _ _ hg
  have hg1 : (w.alloc (.cells #[.int .i64 t, v] 253)).cell? ⟨g, 0, none⟩ = some (.int .i64 tag) := (World.cell?_alloc_lt w _ ⟨g, 0, none⟩ hlt).trans hg
  go_enter Tryz.func234, Tryz.ntmps234
  go_wp2
  go_ret
  exact ⟨rfl, (Ext.refl w).alloc _⟩
theorem find1_enters : Enters Tryz.prog 234 := enters_of Tryz.func234 (by kernel_rfl) rfl
set_option maxRecDepth 100000 in
set_option maxHeartbeats 2000000 in
theorem find2_any (w : World) (hk : KindsW w) :
    Calls Tryz.prog 165 #[.int .i64 2] w fun e w' => e = .returned (.tuple #[.agg #[.int .i64 2, .func (.func 110) #[] #[]], .bool true]) ∧ Ext w w' := by
  obtain ⟨W0, e0, b0, b1, x0⟩ := boxes2 w #[.int .i64 2] #[.int .i64 0, .nilFunc] 3 253
  have c1 := indexK_any 234 find1_enters #[.pointer (some ⟨w.heap.size, 0, none⟩)] (fun x => x.1 == 2) kinL (by decide) (some ⟨2, 0, none⟩) 5 W0 (hk.ext x0)
    (fun W s _ x => find1_any 2 s.1 s.2 w.heap.size W (x.cell (b0.cell 0)))
  rw [show ixG (fun x => x.1 == 2) kinL = 1 from rfl] at c1
  have HK := Lib.hid hk
  have HX0 := Lib.hid x0
  have HB1 := Lib.hid b1
  clear b0 b1 x0 hk
  go_enter Tryz.func165, Tryz.ntmps165
  go_upto_region 1 with (fail)
  try rw [e0]
  clear e0
  go_wp2_with (go_at_call 233; refine c1.mono ?_; clear c1; rintro e w1 ⟨rfl, x1⟩; obtain ⟨k2, k3⟩ := ((HK.out.ext HX0.out).ext x1).int_; have z1 := ext_blk x1 HB1.out; have y0 := z1.cell 0; have y1 := z1.cell 1; have f0 := z1.frozen 0; have f1 := z1.frozen 1)
  have z2 := (z1.set_ 0 (.int .i64 2)).set_ 1 (.func (.func 110) #[] #[])
  have v0 := z2.cell 0
  have v1 := z2.cell 1
  refine bodyPost_ret (v := .tuple #[.agg #[.int .i64 2, .func (.func 110) #[] #[]], .bool true]) (by simp [results, Tryz.results165, go_sem, v0, v1]) rfl ⟨rfl, ((HX0.out.trans x1).setCell (p := ⟨w.heap.size + 1, 0, none⟩) (Nat.le_succ _) _).setCell (p := ⟨w.heap.size + 1, 1, none⟩) (Nat.le_succ _) _⟩
theorem indexI_none (fv : Value) (w : World) : Calls Tryz.prog 235 #[.slice none 0 0, fv] w fun e w' => e = .returned (.int .i64 (-1)) ∧ w = w' := by
  go_enter Tryz.func235, Tryz.ntmps235
  go_wp2
  go_loopg [8] 0 (fun m s8 wr => s8 = .int .i64 0 ∧ w = wr)
  case atStart => exact ⟨rfl, rfl⟩
  case round =>
    obtain ⟨rfl, rfl⟩ := hrel
    go_wp2
    go_ret
    exact ⟨rfl, rfl⟩
theorem containsI_none (fv : Value) (w : World) : Calls Tryz.prog 167 #[.slice none 0 0, fv] w fun e w' => e = .returned (.bool false) ∧ w = w' := by
  have c1 := indexI_none fv
  go_enter Tryz.func167, Tryz.ntmps167
  go_wp2_with (go_at_call 235; refine (c1 _).mono ?_; clear c1; rintro e w1 ⟨rfl, rfl⟩)
  go_ret
  exact ⟨rfl, rfl⟩
theorem reads_two {w : World} {B n : Nat} {A : Option Addr} {x y : Value} (h : Reads w B 1 A n [x, y]) : ∃ g k, A = some ⟨g, k, none⟩ ∧ g < B ∧ w.cell? ⟨g, k, none⟩ = some x ∧ w.cell? ⟨g, k + 1, none⟩ = some y := by
  have hn : n = 2 := by have := h.1; simp at this; omega
  obtain ⟨⟨g, k, s⟩, rfl, hb, hc⟩ := h.2 (by omega)
  have h0 := hc 0 x rfl
  have h1 := hc 1 y rfl
  have e0 : (⟨g, k, s⟩ : Addr).add 0 = ⟨g, k, s⟩ := by simp [Addr.add]
  rw [e0] at h0
  have hs : s = none := World.cell?_spot h0
  subst hs
  exact ⟨g, k, rfl, hb, h0, h1⟩
set_option maxRecDepth 100000 in
set_option maxHeartbeats 2000000 in
theorem may128_any (A : Option Addr) (c : Nat) (w : World) (hk : KindsW w) (hr : Reads w w.heap.size 1 A 2 [.int .u8 0, .int .u8 128]) :
    Calls Tryz.prog 83 #[.agg #[.int .i64 2, .slice A 2 c, .slice none 0 0], .int .i64 8] w fun e w' => e = .returned (.bool true) ∧ Ext w w' := by
  obtain ⟨W0, e0, b0, b1, x0⟩ := boxes2 w #[.int .i64 2, .slice A 2 c, .slice none 0 0] #[.int .i64 8] 77 3
  obtain ⟨g, k, rfl, hg, h0, h1⟩ := reads_two hr
  have c1 := find2_any W0 (hk.ext x0)
  have c2 := fun fv => containsI_none fv
  have HB0 := Lib.hid b0
  have HB1 := Lib.hid b1
  have HX0 := Lib.hid x0
  have H0 := Lib.hid h0
  have H1 := Lib.hid h1
  have y0 := b0.cell 0
  clear b0 b1 x0 hk hr h0 h1
  go_enter Tryz.func83, Tryz.ntmps83
  go_upto_region 1 with (fail)
  try rw [e0]
  clear e0
  go_upto_region 2 with (go_at_call 165; refine c1.mono ?_; clear c1 y0; rintro e w1 ⟨rfl, x1⟩)
  obtain ⟨W2, e2⟩ : ∃ W, w1.alloc (.cells #[.int .i64 2, .func (.func 110) #[] #[]] 253) = W := ⟨_, rfl⟩
  have x2 : Ext W0 W2 := by rw [← e2]; exact x1.alloc _
  have b2 : Blk W2 w1.heap.size 253 #[.int .i64 2, .func (.func 110) #[] #[]] := by rw [← e2]; exact Blk.new _ _ _
  try rw [e2]
  have z0 := ext_blk x2 HB0.out
  have z1 := ext_blk x2 HB1.out
  have y0 := z0.cell 0
  have y1 := z0.cell 1
  have y2 := z0.cell 2
  have y3 := z1.cell 0
  have v0 := b2.cell 0
  have v1 := b2.cell 1
  have c3 := least_80 g k c W2 (x2.cell (HX0.out.cell H0.out)) (x2.cell (HX0.out.cell H1.out))
  have HX2 := Lib.hid x2
  clear e2 x2 b2 z0 z1
  go_wp2_with (first | (go_at_call 110; refine c3.mono ?_; clear c3; rintro e w3 ⟨rfl, rfl⟩) | (go_at_call 167; refine (c2 _ _).mono ?_; clear c2; rintro e w3 ⟨rfl, rfl⟩))
  go_ret
  exact ⟨rfl, HX0.out.trans HX2.out⟩
set_option maxRecDepth 100000 in
set_option maxHeartbeats 2000000 in
theorem content_any (xs : List Value) (tag : Int) (A : Option Addr) (n c : Nat) (h1 : ∀ u ∈ xs, u.oneCell' = true) (hn : n ≤ 1099511627776) (w : World) (hr : Reads w w.heap.size 1 A n xs) :
    Calls Tryz.prog 169 #[.agg #[.int .i64 tag, .slice A n c, .slice none 0 0]] w fun e w' => ∃ A' c', e = .returned (.slice A' n c') ∧ n ≤ c' ∧ Reads w' w'.heap.size 1 A' n xs ∧ Ext w w' := by
  obtain ⟨W0, e0⟩ : ∃ W, w.alloc (.cells #[.int .i64 tag, .slice A n c, .slice none 0 0] 77) = W := ⟨_, rfl⟩
  have b0 : Blk W0 w.heap.size 77 #[.int .i64 tag, .slice A n c, .slice none 0 0] := by rw [← e0]; exact Blk.new _ _ _
  have x0 : Ext w W0 := by rw [← e0]; exact (Ext.refl w).alloc _
  have c1 := cloneB_any A n c xs h1 hn W0 ((hr.below x0.out).more x0.size)
  have y1 := b0.cell 1
  have HB0 := Lib.hid b0
  have HX0 := Lib.hid x0
  clear b0 x0 hr h1
  go_enter Tryz.func169, Tryz.ntmps169
  go_upto_region 1 with (fail)
  try rw [e0]
  clear e0
  go_wp2_with (go_at_call 111; refine c1.mono ?_; clear c1 y1; rintro e w2 ⟨v2, rfl, ho2, x2⟩; obtain ⟨A2, c2, rfl, hc2, hr2⟩ := own_slice ho2; have y2 := (ext_blk x2 HB0.out).cell 2)
  have HR2 := Lib.hid hr2
  have HX2 := Lib.hid x2
  clear hr2 x2 ho2 y2
  go_loopg [3, 12] 0 (fun m s3 s12 wr => s3 = .slice A2 n c2 ∧ s12 = .int .i64 0 ∧ w2 = wr)
  case atStart => exact ⟨rfl, rfl, rfl⟩
  case round =>
    obtain ⟨rfl, rfl, rfl⟩ := hrel
    go_wp2
    go_ret
    exact ⟨A2, c2, rfl, hc2, HR2.out, HX0.out.trans HX2.out⟩
set_option maxRecDepth 100000 in
set_option maxHeartbeats 2000000 in
theorem put128_any (A : Option Addr) (c : Nat) (w : World) (hr : Reads w w.heap.size 1 A 2 [.int .u8 0, .int .u8 128]) :
    Calls Tryz.prog 84 #[.slice none 0 0, .agg #[.int .i64 2, .slice A 2 c, .slice none 0 0]] w fun e w' => ∃ A' c', e = .returned (.slice A' 4 c') ∧ Reads w' w'.heap.size 1 A' 4 [.int .u8 2, .int .u8 2, .int .u8 0, .int .u8 128] ∧ Ext w w' := by
  obtain ⟨i0, hi, hz0, hz1, hz2⟩ := info_parts Tryz.infoU8
  obtain ⟨W0, e0⟩ : ∃ W, w.alloc (.cells #[.int .i64 2, .slice A 2 c, .slice none 0 0] 77) = W := ⟨_, rfl⟩
  have b0 : Blk W0 w.heap.size 77 #[.int .i64 2, .slice A 2 c, .slice none 0 0] := by rw [← e0]; exact Blk.new _ _ _
  have x0 : Ext w W0 := by rw [← e0]; exact (Ext.refl w).alloc _
  have c1 := content_any _ 2 A 2 c (by simp [Value.oneCell']) (by decide) W0 ((hr.below x0.out).more x0.size)
  have y0 := b0.cell 0
  have y1 := b0.cell 1
  have y2 := b0.cell 2
  have HB0 := Lib.hid b0
  have HX0 := Lib.hid x0
  clear b0 x0 hr
  go_enter Tryz.func84, Tryz.ntmps84
  go_upto_region 1 with (fail)
  try rw [e0]
  clear e0
  go_upto_region 2 with (go_at_call 169; refine c1.mono ?_; clear c1 y0 y1 y2; rintro e w2 ⟨A2, c2, rfl, hc2, hr2, x2⟩; have y0 := (ext_blk x2 HB0.out).cell 0)
  have HR2 := Lib.hid hr2
  have HX2 := Lib.hid x2
  clear hr2 x2
  have HY0 := Lib.hid y0
  go_upto_region 3 with (at_builtin; refine wpList_append_any _ rfl (.tmp 9) (.tmp 13) 22 rfl w2.heap.size 5 i0 (.int .u8 0) 1 1 Tryz.underlying22 hi hz0 hz1 hz2 rfl (by decide) _ 0 [] rfl (World.ownsRow_nil _ _ _ _) _ _ 1 _ [.int .u8 2] rfl (reads_oneR w2 5 _) (by simp [Value.oneCell']) (by simp [maxLen]) (by decide) (by simp) ?_; intro v3 w3 ho3 hg3 _; obtain ⟨A3, c3, rfl, -, -⟩ := own_slice ho3; have x3 : Ext w2 w3 := ext_grown ((Ext.refl w2).alloc _) (World.ownsRow_nil _ _ 5 1) hg3; clear hg3 y0)
  go_upto_region 9 with (at_builtin; refine wpList_append_any _ rfl (.tmp 28) (.tmp 31) 22 rfl w2.heap.size 5 i0 (.int .u8 0) 1 1 Tryz.underlying22 hi hz0 hz1 hz2 rfl (by decide) _ 1 [.int .u8 2] rfl (ho3.alloc _) _ _ 1 _ [.int .u8 2] rfl (reads_oneR w3 5 _) (by simp [Value.oneCell']) (by simp [maxLen]) (by decide) (by have := x3.size; simp; omega) ?_; intro v4 w4 ho4 hg4 _; obtain ⟨A4, c4, rfl, -, -⟩ := own_slice ho4; have x4 : Ext w2 w4 := ext_grown (x3.alloc _) (ho3.alloc _) hg4; clear hg4)
  go_wp2_with (at_builtin; refine wpList_append_any _ rfl (.tmp 41) (.tmp 42) 22 rfl w2.heap.size 5 i0 (.int .u8 0) 1 1 Tryz.underlying22 hi hz0 hz1 hz2 rfl (by decide) _ 2 [.int .u8 2, .int .u8 2] rfl (ho4) _ _ 2 _ [.int .u8 0, .int .u8 128] rfl ((Reads.below HR2.out x4.out).more x4.size) (by simp [Value.oneCell']) (by simp [maxLen]) (by decide) (by exact x4.size) ?_; intro v5 w5 ho5 hg5 _; obtain ⟨A5, c5, rfl, -, hr5⟩ := own_slice ho5; have x5 : Ext w2 w5 := ext_grown x4 ho4 hg5; clear hg5)
  go_ret
  exact ⟨A5, c5, rfl, hr5, HX0.out.trans (HX2.out.trans x5)⟩
end Go.Proofs.YtfpmfegmehbfbaaGreatDoor

/- Items, walked: written. -/
namespace Go.Proofs.YtfpmfegmehbfbaaGreatDoor
set_option linter.unusedVariables false
set_option linter.unusedSimpArgs false
set_option linter.unusedSimpArgs false
open Go.RowKit Go.Shelf Go.Maps

theorem own_freshC {w : World} {base : Nat} {e : TypeId} {size n c : Nat} {A : Option Addr} {xs : List Value} (h : w.ownsRow base e size (.slice A n c) n xs) : ∀ ad, A = some ad → base ≤ ad.block := fun ad ea => by
  subst ea
  rcases h.2 with ⟨h', _⟩ | ⟨g, cap, cur, h', hb, _⟩
  · cases h'
  · cases h'; exact hb
/-- An item's content, its tag. -/
def itN : It → List Nat
  | .p _ b => b
  | .s l => itsB l
def itG : It → Nat
  | .p tag _ => tag
  | .s _ => 48
theorem itB_eq (t : It) : itB t = itH (itG t) (itN t).length ++ itN t := by
  cases t with
  | p tag b => exact itB_p tag b
  | s l => exact itB_s l
theorem itN_le (t : It) : (itN t).length ≤ (itB t).length := by rw [itB_eq, List.length_append]; omega
theorem itG_lt {d : Nat} {t : It} (h : itOk d t) : itG t < 256 := by
  cases d with
  | zero => exact h.elim
  | succ d =>
    cases t with
    | p tag b => have := primOk_tag h; show tag < 256; omega
    | s l => show 48 < 256; omega
theorem ItW.tag {w : World} {B : Nat} {t : It} {v : ItV} (h : ItW w B t v) : v.tag = itG t := by
  cases t with
  | p tag b => rw [ItW_p] at h; exact h.1
  | s l => rw [ItW_s] at h; exact h.1
def contP (d : Nat) : Prop := ∀ (t : It) (v : ItV) (w : World), itOk d t → (itB t).length ≤ 8192 → ItW w w.heap.size t v →
  Calls Tryz.prog 169 #[itV v] w fun e w' => ∃ A c, e = .returned (.slice A (itN t).length c) ∧ w'.ownsRow w.heap.size 5 1 (.slice A (itN t).length c) (itN t).length (bv (itN t)) ∧ Ext w w'
/-- While an item is put: what is written, what is still to be. -/
structure PutS (w0 : World) (base lo hi : Nat) (src : Value) (T : List Nat) (W : World) (v : Value) (xs : List Nat) : Prop where
  own : W.ownsRow base 5 1 v xs.length (bv xs)
  so : W.ownsRow lo 5 1 src T.length (bv T)
  apart : ∀ k, v.ownBlock = some k → k < lo ∨ hi ≤ k
  lt : ∀ k, src.ownBlock = some k → k < hi
  hi : hi ≤ W.heap.size
  bs : base ≤ W.heap.size
  below : Below base w0 W
theorem PutS.alloc {w0 W : World} {base lo hi : Nat} {src v : Value} {T xs : List Nat} (h : PutS w0 base lo hi src T W v xs) (o : Obj) : PutS w0 base lo hi src T (W.alloc o) v xs :=
  ⟨h.own.alloc o, h.so.alloc o, h.apart, h.lt, by rw [World.size_alloc]; have := h.hi; omega, by rw [World.size_alloc]; have := h.bs; omega, h.below.alloc h.bs o⟩
theorem PutS.step {w0 W W' : World} {base lo hi : Nat} {src v v' : Value} {T xs ys : List Nat} (h : PutS w0 base lo hi src T W v xs) {zs : List Value} {n : Nat} (ho : W'.ownsRow base 5 1 v' n zs) (hn : n = (xs ++ ys).length) (hz : zs = bv (xs ++ ys)) (hg : W.grownBy W' v.ownBlock)
    (hb : v'.ownBlock = v.ownBlock ∨ v'.ownBlock = some W.heap.size) : PutS w0 base lo hi src T W' v' (xs ++ ys) := by
  subst hn hz
  refine ⟨ho, h.so.kept hg ?_, fun k hk => ?_, h.lt, Nat.le_trans h.hi hg.size, Nat.le_trans h.bs hg.size, h.below.grown hg h.bs (own_ge h.own)⟩
  · cases hs : src.ownBlock with
    | none => exact .inl rfl
    | some k =>
      refine .inr (fun e => ?_)
      have h1 := own_ge h.so k hs
      have h2 := h.lt k hs
      have h3 := h.apart k e.symm
      omega
  · rcases hb with hb | hb
    · exact h.apart k (hb ▸ hk)
    · have h1 := h.hi
      rw [hb] at hk
      cases hk
      exact .inr h1
def putP (d : Nat) : Prop := ∀ (t : It) (v : ItV) (w : World) (base : Nat) (vb : Value) (pre : List Nat), itOk d t → (itB t).length ≤ 8192 → pre.length ≤ 8192 → base ≤ w.heap.size → ItW w base t v → w.ownsRow base 5 1 vb pre.length (bv pre) →
  Calls Tryz.prog 84 #[vb, itV v] w fun e w' => ∃ v', e = .returned v' ∧ w'.ownsRow base 5 1 v' (pre.length + (itB t).length) (bv (pre ++ itB t)) ∧ Below base w w'
set_option maxRecDepth 100000 in
set_option maxHeartbeats 4000000 in
theorem put_of_cont {d : Nat} (hd : contP d) : putP d := by
  intro t v w base vb pre hok hl hpl hbase hw ho
  obtain ⟨i0, hi, hz0, hz1, hz2⟩ := info_parts Tryz.infoU8
  obtain ⟨W0, e0⟩ : ∃ W, w.alloc (.cells #[.int .i64 (v.tag : Int), .slice v.A v.n v.c, .slice v.A2 v.n2 v.c2] 77) = W := ⟨_, rfl⟩
  have b0 : Blk W0 w.heap.size 77 #[.int .i64 (v.tag : Int), .slice v.A v.n v.c, .slice v.A2 v.n2 v.c2] := by rw [← e0]; exact Blk.new _ _ _
  have x0 : Ext w W0 := by rw [← e0]; exact (Ext.refl w).alloc _
  have c1 := hd t v W0 hok hl ((hw.more hbase).ext x0)
  have hx1 : Below base w W0 := Below.mono x0.out hbase
  have ho0 : W0.ownsRow base 5 1 vb pre.length (bv pre) := own_ext ho x0
  have htg := itG_lt hok
  have hBt := itB_eq t
  have hNl := itN_le t
  have htag := hw.tag
  obtain ⟨T, hT⟩ : ∃ T, itN t = T := ⟨_, rfl⟩
  obtain ⟨G, hG⟩ : ∃ G, itG t = G := ⟨_, rfl⟩
  rw [hT] at c1 hNl
  rw [hT, hG] at hBt
  rw [hG] at htg htag
  rw [htag] at b0 e0
  have y0 := b0.cell 0
  have y1 := b0.cell 1
  have y2 := b0.cell 2
  unfold itV at c1 ⊢
  rw [htag] at c1 ⊢
  obtain ⟨n, hn⟩ : ∃ n, T.length = n := ⟨_, rfl⟩
  rw [hn] at c1 hBt hNl
  have HN := Lib.hid hn
  obtain ⟨BB, hBB⟩ : ∃ BB, itB t = BB := ⟨_, rfl⟩
  rw [hBB] at hBt hl hNl ⊢
  have HB0 := Lib.hid b0
  have HX0 := Lib.hid x0
  have HO := Lib.hid ho0
  have HX1 := Lib.hid hx1
  have HBT := Lib.hid hBt
  have HPL := Lib.hid hpl
  have HBS : Hid (base ≤ W0.heap.size) := Lib.hid (Nat.le_trans hbase x0.size)
  have hg1 : IntKind.u8.wrap (G : Int) = G := by rw [IntKind.wrap_u8]; omega
  have hn8 : n ≤ 8192 := by omega
  clear hd hok hw ho hT hG hBB htag b0 x0 ho0 hx1 hBt hl hNl hpl hbase hn
  go_enter Tryz.func84, Tryz.ntmps84
  go_upto_region 1 with (fail)
  try rw [e0]
  clear e0
  go_upto_region 2 with (go_at_call 169; refine c1.mono ?_; clear c1 y0 y1 y2; rintro e w2 ⟨A2, c2, rfl, hr2, x2⟩; have y0 := (ext_blk x2 HB0.out).cell 0)
  have hs2 : PutS w base W0.heap.size w2.heap.size (.slice A2 n c2) T w2 vb pre := by
    refine ⟨own_ext HO.out x2, by rw [HN.out]; exact hr2, fun k hk => .inl ((HO.out).lt k hk).2, fun k hk => (hr2.lt k hk).2, Nat.le_refl _, Nat.le_trans HBS.out x2.size, HX1.out.trans (Below.mono x2.out HBS.out)⟩
  have HS2 := Lib.hid (hs2.alloc (.cells #[.int .u8 (G : Int)] 5))
  have hrS := reads_oneR w2 5 (.int .u8 (G : Int))
  clear hr2 x2 HO HX1 HBS hs2
  go_upto_region 3 with (at_builtin; refine wpList_append_any _ rfl (.tmp 9) (.tmp 13) 22 rfl base 5 i0 (.int .u8 0) 1 1 Tryz.underlying22 hi hz0 hz1 hz2 rfl (by decide) _ _ _ rfl HS2.out.own _ _ 1 _ [.int .u8 (G : Int)] rfl hrS (by simp [Value.oneCell']) (by have := HPL.out; simp only [maxLen]; omega) (by have := HPL.out; omega) HS2.out.bs ?_; intro v3 w3 ho3 hg3 hb3; have HS3 := Lib.hid (HS2.out.step (ys := [G]) ho3 (by simp) (by rw [bv_append]; rfl) hg3 hb3); clear ho3 hg3 hb3 y0 hrS)
  clear HS2
  by_cases h1 : n < 128
  · have hn1 : (n : Int) < 128 := by omega
    have hw1 : IntKind.u8.wrap (n : Int) = n := by rw [IntKind.wrap_u8]; omega
    have HS4 := Lib.hid (HS3.out.alloc (.cells #[.int .u8 (n : Int)] 5))
    have hrS := reads_oneR w3 5 (.int .u8 (n : Int))
    have HE : Hid (pre ++ [G] ++ [n] ++ T = pre ++ BB) := Lib.hid (by rw [HBT.out]; unfold itH; rw [if_pos h1]; simp)
    clear h1
    go_upto_region 9 with (at_builtin; refine wpList_append_any _ rfl (.tmp 28) (.tmp 31) 22 rfl base 5 i0 (.int .u8 0) 1 1 Tryz.underlying22 hi hz0 hz1 hz2 rfl (by decide) _ _ _ rfl HS4.out.own _ _ 1 _ [.int .u8 (n : Int)] rfl hrS (by simp [Value.oneCell']) (by have := HPL.out; simp only [maxLen, List.length_append, List.length_cons, List.length_nil]; omega) (by have := HPL.out; simp only [List.length_append, List.length_cons, List.length_nil]; omega) HS4.out.bs ?_; intro v5 w5 ho5 hg5 hb5; have HS5 := Lib.hid (HS4.out.step (ys := [n]) ho5 (by simp) (by rw [bv_append (pre ++ [G])]; rfl) hg5 hb5); clear ho5 hg5 hb5 hrS)
    clear HS3 HS4
    have hrT := Reads.of_own (by have := HS5.out.so; rw [HN.out] at this; exact this)
    go_wp2_with (at_builtin; refine wpList_append_any _ rfl (.tmp 41) (.tmp 42) 22 rfl base 5 i0 (.int .u8 0) 1 1 Tryz.underlying22 hi hz0 hz1 hz2 rfl (by decide) _ _ _ rfl HS5.out.own _ _ n _ (bv T) rfl hrT (bv_one T) (by have := HPL.out; simp only [maxLen, List.length_append, List.length_cons, List.length_nil]; omega) (by have := HPL.out; simp only [List.length_append, List.length_cons, List.length_nil]; omega) HS5.out.bs ?_; intro v6 w6 ho6 hg6 hb6; have HS6 := Lib.hid (HS5.out.step (ys := T) ho6 (by simp [HN.out]; omega) (by rw [bv_append (pre ++ [G] ++ [n])]) hg6 hb6); clear ho6 hg6 hb6 hrT)
    go_ret
    have := HS6.out
    rw [HE.out] at this
    have h6 := this.own
    rw [List.length_append] at h6
    exact ⟨v6, rfl, h6, this.below⟩
  · have hn1 : ¬ (n : Int) < 128 := by omega
    by_cases h2 : n < 256
    · have hn2 : (n : Int) < 256 := by omega
      have hw1 : IntKind.u8.wrap (n : Int) = n := by rw [IntKind.wrap_u8]; omega
      have HS4 := Lib.hid (HS3.out.alloc (.cells #[.int .u8 129, .int .u8 (n : Int)] 5))
      have hrS := blk_reads (Blk.new w3 5 #[.int .u8 129, .int .u8 (n : Int)])
      have HE : Hid (pre ++ [G] ++ [129, n] ++ T = pre ++ BB) := Lib.hid (by rw [HBT.out]; unfold itH; rw [if_neg h1, if_pos h2]; simp)
      clear h1 h2
      go_upto_region 9 with (at_builtin; refine wpList_append_any _ rfl (.tmp 36) (.tmp 39) 22 rfl base 5 i0 (.int .u8 0) 1 1 Tryz.underlying22 hi hz0 hz1 hz2 rfl (by decide) _ _ _ rfl HS4.out.own _ _ 2 _ [.int .u8 129, .int .u8 (n : Int)] rfl hrS (by simp [Value.oneCell']) (by have := HPL.out; simp only [maxLen, List.length_append, List.length_cons, List.length_nil]; omega) (by have := HPL.out; simp only [List.length_append, List.length_cons, List.length_nil]; omega) HS4.out.bs ?_; intro v5 w5 ho5 hg5 hb5; have HS5 := Lib.hid (HS4.out.step (ys := [129, n]) ho5 (by simp) (by rw [bv_append (pre ++ [G])]; rfl) hg5 hb5); clear ho5 hg5 hb5 hrS)
      clear HS3 HS4
      have hrT := Reads.of_own (by have := HS5.out.so; rw [HN.out] at this; exact this)
      go_wp2_with (at_builtin; refine wpList_append_any _ rfl (.tmp 41) (.tmp 42) 22 rfl base 5 i0 (.int .u8 0) 1 1 Tryz.underlying22 hi hz0 hz1 hz2 rfl (by decide) _ _ _ rfl HS5.out.own _ _ n _ (bv T) rfl hrT (bv_one T) (by have := HPL.out; simp only [maxLen, List.length_append, List.length_cons, List.length_nil]; omega) (by have := HPL.out; simp only [List.length_append, List.length_cons, List.length_nil]; omega) HS5.out.bs ?_; intro v6 w6 ho6 hg6 hb6; have HS6 := Lib.hid (HS5.out.step (ys := T) ho6 (by simp [HN.out]; omega) (by rw [bv_append (pre ++ [G] ++ [129, n])]) hg6 hb6); clear ho6 hg6 hb6 hrT)
      go_ret
      have := HS6.out
      rw [HE.out] at this
      have h6 := this.own
      rw [List.length_append] at h6
      exact ⟨v6, rfl, h6, this.below⟩
    · have hn2 : ¬ (n : Int) < 256 := by omega
      obtain ⟨a, ha⟩ : ∃ a, n / 256 = a := ⟨_, rfl⟩
      obtain ⟨b, hb⟩ : ∃ b, n % 256 = b := ⟨_, rfl⟩
      have hq : (n : Int) / 256 = (a : Int) := by omega
      have hw1 : IntKind.u8.wrap (n : Int) = b := by rw [IntKind.wrap_u8]; omega
      have hw2 : IntKind.u8.wrap (a : Int) = a := by rw [IntKind.wrap_u8]; omega
      have hw3 : (n : Int) % 256 = b := by omega
      have HS4 := Lib.hid (HS3.out.alloc (.cells #[.int .u8 130, .int .u8 (a : Int), .int .u8 (b : Int)] 5))
      have hrS := blk_reads (Blk.new w3 5 #[.int .u8 130, .int .u8 (a : Int), .int .u8 (b : Int)])
      have HE : Hid (pre ++ [G] ++ [130, a, b] ++ T = pre ++ BB) := Lib.hid (by rw [HBT.out]; unfold itH; rw [if_neg h1, if_neg h2, ha, hb]; simp)
      clear h1 h2 ha hb
      go_upto_region 9 with (at_builtin; refine wpList_append_any _ rfl (.tmp 17) (.tmp 23) 22 rfl base 5 i0 (.int .u8 0) 1 1 Tryz.underlying22 hi hz0 hz1 hz2 rfl (by decide) _ _ _ rfl HS4.out.own _ _ 3 _ [.int .u8 130, .int .u8 (a : Int), .int .u8 (b : Int)] rfl hrS (by simp [Value.oneCell']) (by have := HPL.out; simp only [maxLen, List.length_append, List.length_cons, List.length_nil]; omega) (by have := HPL.out; simp only [List.length_append, List.length_cons, List.length_nil]; omega) HS4.out.bs ?_; intro v5 w5 ho5 hg5 hb5; have HS5 := Lib.hid (HS4.out.step (ys := [130, a, b]) ho5 (by simp) (by rw [bv_append (pre ++ [G])]; rfl) hg5 hb5); clear ho5 hg5 hb5 hrS)
      clear HS3 HS4
      have hrT := Reads.of_own (by have := HS5.out.so; rw [HN.out] at this; exact this)
      go_wp2_with (at_builtin; refine wpList_append_any _ rfl (.tmp 41) (.tmp 42) 22 rfl base 5 i0 (.int .u8 0) 1 1 Tryz.underlying22 hi hz0 hz1 hz2 rfl (by decide) _ _ _ rfl HS5.out.own _ _ n _ (bv T) rfl hrT (bv_one T) (by have := HPL.out; simp only [maxLen, List.length_append, List.length_cons, List.length_nil]; omega) (by have := HPL.out; simp only [List.length_append, List.length_cons, List.length_nil]; omega) HS5.out.bs ?_; intro v6 w6 ho6 hg6 hb6; have HS6 := Lib.hid (HS5.out.step (ys := T) ho6 (by simp [HN.out]; omega) (by rw [bv_append (pre ++ [G] ++ [130, a, b])]) hg6 hb6); clear ho6 hg6 hb6 hrT)
      go_ret
      have := HS6.out
      rw [HE.out] at this
      have h6 := this.own
      rw [List.length_append] at h6
      exact ⟨v6, rfl, h6, this.below⟩
end Go.Proofs.YtfpmfegmehbfbaaGreatDoor

/- Items, walked: of numbers. -/
namespace Go.Proofs.YtfpmfegmehbfbaaGreatDoor
set_option linter.unusedVariables false
set_option linter.unusedSimpArgs false
set_option linter.unusedSimpArgs false
open Go.RowKit Go.Shelf Go.Maps

/-- The eight bytes while they are made. -/
def intZ (n j : Nat) : Array Value := (bv ((ctB8 n).take j ++ List.replicate (8 - j) 0)).toArray
theorem intZ_at {n j : Nat} (hj : j < 8) : (intZ n j)[j]? = some (.int .u8 0) := by
  have : j = 0 ∨ j = 1 ∨ j = 2 ∨ j = 3 ∨ j = 4 ∨ j = 5 ∨ j = 6 ∨ j = 7 := by omega
  rcases this with rfl | rfl | rfl | rfl | rfl | rfl | rfl | rfl <;> rfl
theorem intZ_step {n j x : Nat} (hj : (ctB8 n)[j]? = some x) : (intZ n j).setIfInBounds j (.int .u8 (x : Int)) = intZ n (j + 1) := by
  have h8 : j < 8 := by
    have := (List.getElem?_eq_some_iff.1 hj).1
    simpa [ctB8] using this
  have : j = 0 ∨ j = 1 ∨ j = 2 ∨ j = 3 ∨ j = 4 ∨ j = 5 ∨ j = 6 ∨ j = 7 := by omega
  rcases this with rfl | rfl | rfl | rfl | rfl | rfl | rfl | rfl <;> (cases hj; rfl)
theorem intZ_blk {W : World} {g n j x : Nat} {T : TypeId} {u : Value} (h : Blk W g T (intZ n j)) (hj : (ctB8 n)[j]? = some x) (hu : u = .int .u8 (x : Int)) : Blk (W.setCell ⟨g, j, none⟩ u) g T (intZ n (j + 1)) := by
  rw [← intZ_step hj, hu]; exact Blk.set_ h j _
theorem intZ_8 (n : Nat) : intZ n 8 = (bv (ctB8 n)).toArray := rfl
theorem reads_blkB {W : World} {g : Nat} {T : TypeId} {l : List Nat} (h : Blk W g T (bv l).toArray) {k : Nat} (hk : k < l.length) : Reads W W.heap.size 1 (some ⟨g, k, none⟩) (l.drop k).length (bv (l.drop k)) := by
  refine ⟨by simp [bv], fun _ => ⟨_, rfl, h.lt, fun j u hj => ?_⟩⟩
  have e : (Addr.mk g k none).add j = ⟨g, k + j, none⟩ := by
    unfold Addr.add
    split
    · next h => rw [h]; rfl
    · rfl
  rw [e, h.cell]
  simp [bv] at hj ⊢
  obtain ⟨a, h1, h2⟩ := hj
  exact ⟨a, h1, h2⟩
set_option maxRecDepth 100000 in
set_option maxHeartbeats 4000000 in
theorem dInt_any (n : Nat) (h : n < 9223372036854775808) (w : World) : Calls Tryz.prog 42 #[.int .i64 (n : Int)] w fun e w' => ∃ v, e = .returned (itV v) ∧ ItW w' w'.heap.size (natT n) v ∧ (∀ ad, v.A = some ad → w.heap.size ≤ ad.block) ∧ Ext w w' := by
  obtain ⟨W0, e0, b0, b1, x0⟩ := boxes2 w #[.int .i64 0, .slice none 0 0, .slice none 0 0] #[.int .u8 0, .int .u8 0, .int .u8 0, .int .u8 0, .int .u8 0, .int .u8 0, .int .u8 0, .int .u8 0] 77 198
  have HX0 := Lib.hid x0
  have HB0 := Lib.hid b0
  have HB1 : Hid (Blk W0 (w.heap.size + 1) 198 (intZ n 0)) := Lib.hid b1
  have HN := Lib.hid h
  clear b0 b1 x0
  go_enter Tryz.func42, Tryz.ntmps42
  go_upto_region 2 with (fail)
  try rw [e0]
  clear e0
  go_wp2
  go_loopg [6] 8 (fun m s6 wr => ∃ j : Nat, j + m = 8 ∧ s6 = .int .i64 j ∧ Blk wr w.heap.size 77 #[.int .i64 0, .slice none 0 0, .slice none 0 0] ∧ Blk wr (w.heap.size + 1) 198 (intZ n j) ∧ Ext w wr)
  case atStart => exact ⟨0, rfl, rfl, HB0.out, HB1.out, HX0.out⟩
  case round =>
    obtain ⟨j, hj, rfl, b0, b1, hx⟩ := hrel
    by_cases hj8 : j < 8
    · have c1 := (b1.cell j).trans (intZ_at hj8)
      have f1 := b1.frozen j
      have HB0 := Lib.hid b0
      have HB1 := Lib.hid b1
      have HX := Lib.hid hx
      clear b0 b1 hx
      have : j = 0 ∨ j = 1 ∨ j = 2 ∨ j = 3 ∨ j = 4 ∨ j = 5 ∨ j = 6 ∨ j = 7 := by omega
      rcases this with rfl | rfl | rfl | rfl | rfl | rfl | rfl | rfl
      all_goals
        go_wp2
        go_roundg (gk - 1)
        case measure => omega
        case rel => exact ⟨_ + 1, by omega, rfl, HB0.out.far (by simp) _, intZ_blk HB1.out rfl (by first | rfl | (congr 1; have := HN.out; omega)), HX.out.setCell (p := ⟨w.heap.size + 1, _, none⟩) (Nat.le_succ _) _⟩
    · obtain rfl : j = 8 := by omega
      rw [intZ_8] at b1
      have HB0 := Lib.hid b0
      have HB1 := Lib.hid b1
      have HX := Lib.hid hx
      have HL : Hid ((ctB8 n).length = 8) := Lib.hid rfl
      obtain ⟨L, hL⟩ : ∃ L, ctB8 n = L := ⟨_, rfl⟩
      have HIN : Hid (intB n = stripB L) := Lib.hid (by rw [← hL]; rfl)
      have HBY : Hid (∀ x ∈ L, x < 256) := Lib.hid (by rw [← hL]; exact ctB8_byte n)
      rw [hL] at HB1 HL
      clear b0 b1 hx hj8 hj hL
      go_wp2
      go_loopg [5] 7 (fun m s5 wz => ∃ k : Nat, k + m = 7 ∧ s5 = .slice (some ⟨w.heap.size + 1, k, none⟩) (8 - k) (8 - k) ∧ stripB (L.drop k) = stripB L ∧ wz = wr)
      case atStart => exact ⟨0, rfl, rfl, rfl, rfl⟩
      case round =>
        obtain ⟨k, hk, rfl, hst, rfl⟩ := hrel
        have hdl : (L.drop k).length = 8 - k := by rw [List.length_drop, HL.out]
        have hkr := reads_blkB HB1.out (k := k) (by rw [HL.out]; omega)
        have cL := least_any (L.drop k) (fun x hx => HBY.out x (List.mem_of_mem_drop hx)) (by omega) (some ⟨w.heap.size + 1, k, none⟩) (8 - k) _ wr hkr
        have cC := cloneB_any (some ⟨w.heap.size + 1, k, none⟩) (8 - k) (8 - k) (bv (L.drop k)) (bv_one _) (by omega) wr (by rw [hdl] at hkr; exact hkr)
        rw [hdl] at cL
        have HST := Lib.hid hst
        have HDL := Lib.hid hdl
        clear hst hdl hkr
        by_cases h7 : k < 7
        · have h8 : ((8 - k : Nat) : Int) > 1 := by omega
          have h8' : (1 : Int) ≤ ((8 - k : Nat) : Int) := by omega
          cases hlf : leastF (L.drop k) with
          | false =>
            rw [hlf] at cL
            have HNX : Hid (stripB (L.drop (k + 1)) = stripB L) := Lib.hid (by
              rw [← HST.out]
              match hd : L.drop k, HDL.out, hlf with
              | [], h, _ => simp at h; omega
              | [x], h, _ => simp at h; omega
              | x :: y :: t, _, hlf =>
                rw [strip_tail hlf, ← List.drop_drop, hd]
                rfl)
            clear hlf cC HST
            go_wp2_with (go_at_call 110; refine cL.mono ?_; clear cL; rintro e w' ⟨rfl, rfl⟩)
            go_roundg (gk - 1)
            case measure => omega
            case rel => exact ⟨k + 1, by omega, rfl, HNX.out, rfl⟩
          | true =>
            rw [hlf] at cL
            have HFI : Hid (intB n = L.drop k) := Lib.hid (by rw [HIN.out, ← HST.out]; exact strip_least hlf)
            clear hlf HST
            go_wp2_with (first | (go_at_call 110; refine cL.mono ?_; clear cL; rintro e w' ⟨rfl, rfl⟩) | (go_at_call 111; refine cC.mono ?_; clear cC; rintro e w2 ⟨v2, rfl, ho2, x2⟩; obtain ⟨A2, c2, rfl, hcc, hr2⟩ := own_slice ho2; have z0 := ext_blk x2 HB0.out; have y0 := z0.cell 0; have y1 := z0.cell 1; have y2 := z0.cell 2; have f0 := z0.frozen 0; have f1 := z0.frozen 1; have f2 := z0.frozen 2))
            have hlt := HB0.out.lt
            have ho3 := own_far (own_far (own_far ho2 hlt 0 (.int .i64 2)) hlt 1 (.slice A2 (8 - k) c2)) hlt 2 (.slice none 0 0)
            obtain ⟨W3, e3⟩ : ∃ W, W = ((w2.setCell ⟨w.heap.size, 0, none⟩ (.int .i64 2)).setCell ⟨w.heap.size, 1, none⟩ (.slice A2 (8 - k) c2)).setCell ⟨w.heap.size, 2, none⟩ (.slice none 0 0) := ⟨_, rfl⟩
            have b3 : Blk W3 w.heap.size 77 #[.int .i64 2, .slice A2 (8 - k) c2, .slice none 0 0] := by rw [e3]; exact ((z0.set_ 0 _).set_ 1 _).set_ 2 _
            have hx3 : Ext w W3 := by rw [e3]; exact (((HX.out.trans x2).setCell (p := ⟨w.heap.size, 0, none⟩) (Nat.le_refl _) _).setCell (p := ⟨w.heap.size, 1, none⟩) (Nat.le_refl _) _).setCell (p := ⟨w.heap.size, 2, none⟩) (Nat.le_refl _) _
            rw [← e3] at ho3 ⊢
            clear e3 y0 y1 y2 f0 f1 f2 z0 hr2 ho2 x2
            have y0 := b3.cell 0
            have y1 := b3.cell 1
            have y2 := b3.cell 2
            obtain ⟨A3, c3, he3, -, hr3⟩ := own_slice ho3
            cases he3
            have hdl := HDL.out
            refine bodyPost_ret (v := .agg #[.int .i64 2, .slice A2 (8 - k) c2, .slice none 0 0]) (by simp [results, Tryz.results42, go_sem, y0, y1, y2]) rfl ⟨⟨2, A2, (8 - k), c2, none, 0, 0⟩, rfl, ?_, fun ad ea => Nat.le_trans HX.out.size (own_freshC ho3 ad ea), hx3⟩
            unfold natT
            rw [HFI.out, ItW_p]
            exact ⟨rfl, hdl.symm, by rw [hdl]; exact hcc, by rw [hdl]; exact hr3, rfl, rfl, rfl⟩
        · obtain rfl : k = 7 := by omega
          have HFI : Hid (intB n = L.drop 7) := Lib.hid (by
            rw [HIN.out, ← HST.out]
            match hd : L.drop 7, HDL.out with
            | [x], _ => rfl)
          clear HST h7 cL
          go_wp2_with (go_at_call 111; refine cC.mono ?_; clear cC; rintro e w2 ⟨v2, rfl, ho2, x2⟩; obtain ⟨A2, c2, rfl, hcc, hr2⟩ := own_slice ho2; have z0 := ext_blk x2 HB0.out; have y0 := z0.cell 0; have y1 := z0.cell 1; have y2 := z0.cell 2; have f0 := z0.frozen 0; have f1 := z0.frozen 1; have f2 := z0.frozen 2)
          have hlt := HB0.out.lt
          have ho3 := own_far (own_far (own_far ho2 hlt 0 (.int .i64 2)) hlt 1 (.slice A2 1 c2)) hlt 2 (.slice none 0 0)
          obtain ⟨W3, e3⟩ : ∃ W, W = ((w2.setCell ⟨w.heap.size, 0, none⟩ (.int .i64 2)).setCell ⟨w.heap.size, 1, none⟩ (.slice A2 1 c2)).setCell ⟨w.heap.size, 2, none⟩ (.slice none 0 0) := ⟨_, rfl⟩
          have b3 : Blk W3 w.heap.size 77 #[.int .i64 2, .slice A2 1 c2, .slice none 0 0] := by rw [e3]; exact ((z0.set_ 0 _).set_ 1 _).set_ 2 _
          have hx3 : Ext w W3 := by rw [e3]; exact (((HX.out.trans x2).setCell (p := ⟨w.heap.size, 0, none⟩) (Nat.le_refl _) _).setCell (p := ⟨w.heap.size, 1, none⟩) (Nat.le_refl _) _).setCell (p := ⟨w.heap.size, 2, none⟩) (Nat.le_refl _) _
          rw [← e3] at ho3 ⊢
          clear e3 y0 y1 y2 f0 f1 f2 z0 hr2 ho2 x2
          have y0 := b3.cell 0
          have y1 := b3.cell 1
          have y2 := b3.cell 2
          obtain ⟨A3, c3, he3, -, hr3⟩ := own_slice ho3
          cases he3
          have hdl := HDL.out
          refine bodyPost_ret (v := .agg #[.int .i64 2, .slice A2 1 c2, .slice none 0 0]) (by simp [results, Tryz.results42, go_sem, y0, y1, y2]) rfl ⟨⟨2, A2, 1, c2, none, 0, 0⟩, rfl, ?_, fun ad ea => Nat.le_trans HX.out.size (own_freshC ho3 ad ea), hx3⟩
          unfold natT
          rw [HFI.out, ItW_p]
          exact ⟨rfl, hdl.symm, by rw [hdl]; exact hcc, by rw [hdl]; exact hr3, rfl, rfl, rfl⟩
end Go.Proofs.YtfpmfegmehbfbaaGreatDoor

/- Items, walked: Put of what 'up' writes. -/
namespace Go.Proofs.YtfpmfegmehbfbaaGreatDoor
set_option linter.unusedVariables false
set_option linter.unusedSimpArgs false
set_option linter.unusedSimpArgs false
open Go.RowKit Go.Shelf Go.Maps

set_option maxRecDepth 100000 in
set_option maxHeartbeats 2000000 in
theorem Put128_any (A : Option Addr) (c : Nat) (w : World) (hk : KindsW w) (hr : Reads w w.heap.size 1 A 2 [.int .u8 0, .int .u8 128]) :
    Calls Tryz.prog 30 #[.agg #[.int .i64 2, .slice A 2 c, .slice none 0 0]] w fun e w' => ∃ A' c', e = .returned (.tuple #[.slice A' 4 c', .int .i64 0]) ∧ Reads w' w'.heap.size 1 A' 4 [.int .u8 2, .int .u8 2, .int .u8 0, .int .u8 128] ∧ Ext w w' := by
  obtain ⟨W0, e0⟩ : ∃ W, w.alloc (.cells #[.int .i64 2, .slice A 2 c, .slice none 0 0] 77) = W := ⟨_, rfl⟩
  have b0 : Blk W0 w.heap.size 77 #[.int .i64 2, .slice A 2 c, .slice none 0 0] := by rw [← e0]; exact Blk.new _ _ _
  have x0 : Ext w W0 := by rw [← e0]; exact (Ext.refl w).alloc _
  have c1 := may128_any A c W0 (hk.ext x0) ((hr.below x0.out).more x0.size)
  have c2 := fun W (x : Ext W0 W) => put128_any A c W ((hr.below (x0.trans x).out).more (x0.trans x).size)
  have y0 := b0.cell 0
  have y1 := b0.cell 1
  have y2 := b0.cell 2
  have HB0 := Lib.hid b0
  have HX0 := Lib.hid x0
  clear b0 x0 hr hk
  go_enter Tryz.func30, Tryz.ntmps30
  go_upto_region 1 with (fail)
  try rw [e0]
  clear e0
  go_wp2_with (first | (go_at_call 83; refine c1.mono ?_; clear c1 y0 y1 y2; rintro e w1 ⟨rfl, x1⟩; have z0 := ext_blk x1 HB0.out; have y0 := z0.cell 0; have y1 := z0.cell 1; have y2 := z0.cell 2) | (go_at_call 84; refine (c2 _ x1).mono ?_; clear c2; rintro e w2 ⟨A2, c2, rfl, hr2, x2⟩))
  go_ret2
  exact ⟨A2, c2, rfl, hr2, HX0.out.trans (x1.trans x2)⟩
end Go.Proofs.YtfpmfegmehbfbaaGreatDoor
