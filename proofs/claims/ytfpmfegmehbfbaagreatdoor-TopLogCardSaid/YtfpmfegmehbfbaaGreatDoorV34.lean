/- Parts of the proofs, put together: Lg9. -/
import Derived.Test.YtfpmfegmehbfbaaGreatDoorV28
import Derived.Test.YtfpmfegmehbfbaaGreatDoorV33
/- Logs, walked: what a log is asked to take in. -/
namespace Go.Proofs.YtfpmfegmehbfbaaGreatDoor
set_option linter.unusedVariables false
set_option linter.unusedSimpArgs false
set_option linter.unusedSimpArgs false
open Go.RowKit Go.Shelf Go.Maps

theorem boxesA (w : World) (x y z u : Array Value) (T U V R : TypeId) : ∃ W, (((w.alloc (.cells x T)).alloc (.cells y U)).alloc (.cells z V)).alloc (.cells u R) = W ∧ Blk W w.heap.size T x ∧ Blk W (w.heap.size + 1) U y ∧ Blk W (w.heap.size + 1 + 1) V z ∧ Blk W (w.heap.size + 1 + 1 + 1) R u ∧ Ext w W ∧ W.heap.size = w.heap.size + 4 := by
  refine ⟨_, rfl, (((Blk.new w T x).alloc _).alloc _).alloc _, ?_, ?_, ?_, ((((Ext.refl w).alloc _).alloc _).alloc _).alloc _, by simp⟩
  · have := ((Blk.new (w.alloc (.cells x T)) U y).alloc (.cells z V)).alloc (.cells u R)
    rwa [World.size_alloc] at this
  · have := (Blk.new ((w.alloc (.cells x T)).alloc (.cells y U)) V z).alloc (.cells u R)
    rwa [World.size_alloc, World.size_alloc] at this
  · have := Blk.new (((w.alloc (.cells x T)).alloc (.cells y U)).alloc (.cells z V)) R u
    rwa [World.size_alloc, World.size_alloc, World.size_alloc] at this
theorem lfar6 {W : World} {g g' : Nat} {T : TypeId} {cs : Array Value} (h : Blk W g T cs) (hg : g ≠ g') (a' b' c' d' e' f' : Value) : Blk ((((((W.setCell ⟨g', 0, none⟩ a').setCell ⟨g', 1, none⟩ b').setCell ⟨g', 2, none⟩ c').setCell ⟨g', 3, none⟩ d').setCell ⟨g', 4, none⟩ e').setCell ⟨g', 5, none⟩ f') g T cs :=
  ((((((h.far (p := ⟨g', 0, none⟩) hg _).far (p := ⟨g', 1, none⟩) hg _).far (p := ⟨g', 2, none⟩) hg _).far (p := ⟨g', 3, none⟩) hg _).far (p := ⟨g', 4, none⟩) hg _).far (p := ⟨g', 5, none⟩) hg _)
theorem reads_ent2 (W : World) (T : TypeId) (x y : Value) : Reads (W.alloc (.cells #[x, y] T)) (W.alloc (.cells #[x, y] T)).heap.size 2 (some ⟨W.heap.size, 0, none⟩) 1 [x, y] :=
  ⟨rfl, fun _ => ⟨_, rfl, by simp, cell_two_new W x y T⟩⟩
theorem find_ents (l : List EntX) (b : List Nat) : (l.map EntX.ent).find? (fun x => x.b == b) = (l.find? (fun x => x.b == b)).map EntX.ent := by
  induction l with
  | nil => rfl
  | cons x l ih =>
    rw [List.map_cons, List.find?_cons, List.find?_cons]
    by_cases h : x.b = b
    · have h1 : (x.b == b) = true := by simp [h]
      have h2 : ((EntX.ent x).b == b) = true := h1
      rw [h1, h2]; rfl
    · have h1 : (x.b == b) = false := by simp [h]
      have h2 : ((EntX.ent x).b == b) = false := h1
      rw [h1, h2]; exact ih
theorem ixG_cases {α : Type} (f : α → Bool) (l : List α) : (∃ j x, l[j]? = some x ∧ ixG f l = ((j : Nat) : Int) ∧ l.find? f = some x) ∨ (ixG f l = -1 ∧ l.find? f = none) := by
  unfold ixG
  rcases h : l.findIdx? f with _ | i
  · right
    refine ⟨rfl, ?_⟩
    rw [List.find?_eq_none]
    intro x hx
    rw [List.findIdx?_eq_none_iff] at h
    rw [h x hx]; decide
  · left
    obtain ⟨hi, h1, h2⟩ := List.findIdx?_eq_some_iff_getElem.1 h
    refine ⟨i, l[i], List.getElem?_eq_getElem hi, rfl, ?_⟩
    rw [List.find?_eq_some_iff_getElem]
    exact ⟨h1, i, hi, rfl, fun j hj => by simpa using h2 j hj⟩
/-- A log that has taken something in. -/
def addX (d : LogX) (x : EntX) (A : Option Addr) (c : Nat) : LogX := ⟨d.key, d.lA, d.ls, d.lc, A, d.ws ++ [x], c⟩
/-- Where a log's parts lie. -/
def LogL (p : Nat → Prop) (d : LogX) : Prop := (0 < d.ls.length → ∀ ad, d.lA = some ad → p ad.block) ∧ (0 < d.ws.length → ∀ ad, d.wA = some ad → p ad.block) ∧ ∀ x ∈ d.all, 0 < x.b.length → ∀ ad, x.A = some ad → p ad.block
theorem LogL.mono {p q : Nat → Prop} {d : LogX} (h : LogL p d) (k : ∀ g, p g → q g) : LogL q d := ⟨fun h0 ad e => k _ (h.1 h0 ad e), fun h0 ad e => k _ (h.2.1 h0 ad e), fun x hx h0 ad e => k _ (h.2.2 x hx h0 ad e)⟩
theorem LogL.both {p q : Nat → Prop} {d : LogX} (h : LogL p d) (k : LogL q d) : LogL (fun g => p g ∧ q g) d := ⟨fun h0 ad e => ⟨h.1 h0 ad e, k.1 h0 ad e⟩, fun h0 ad e => ⟨h.2.1 h0 ad e, k.2.1 h0 ad e⟩, fun x hx h0 ad e => ⟨h.2.2 x hx h0 ad e, k.2.2 x hx h0 ad e⟩⟩
theorem reads_lt {w : World} {B size n : Nat} {A : Option Addr} {xs : List Value} (h : Reads w B size A n xs) (h0 : 0 < n) (ad : Addr) (e : A = some ad) : ad.block < B := by
  obtain ⟨ad', e', hb, -⟩ := h.2 h0
  rw [e] at e'
  cases e'
  exact hb
theorem LogW.lies {w : World} {B : Nat} {d : LogX} (h : LogW w B d) : LogL (fun k => k < B) d := ⟨reads_lt h.l, reads_lt h.rs, fun x hx => reads_lt (h.el x hx).2⟩
theorem reads_grown {w w' : World} {B size n : Nat} {A : Option Addr} {xs : List Value} (h : Reads w B size A n xs) {row : Option Nat} (hg : w.grownBy w' row) (hr : 0 < n → ∀ ad, A = some ad → some ad.block ≠ row) : Reads w' B size A n xs := by
  refine ⟨h.1, fun hn => ?_⟩
  obtain ⟨ad, e, hb, hc⟩ := h.2 hn
  refine ⟨ad, e, hb, fun j v hj => hg.cell (hc j v hj) ?_⟩
  rw [block_of_add]
  exact hr hn ad e
theorem LogW.grown {w w' : World} {B : Nat} {d : LogX} (h : LogW w B d) {row : Option Nat} (hg : w.grownBy w' row) (hl : LogL (fun k => some k ≠ row) d) : LogW w' B d :=
  ⟨h.odd, reads_grown h.l hg hl.1, h.lc, reads_grown h.rs hg hl.2.1, h.wc, fun x hx => ⟨(h.el x hx).1, reads_grown (h.el x hx).2 hg (hl.2.2 x hx)⟩, h.good, h.few⟩
theorem grown_setL (W : World) (g i : Nat) (u : Value) : W.grownBy (W.setCell ⟨g, i, none⟩ u) (some g) :=
  ⟨rfl, rfl, rfl, by simp, fun k _ hk => Below.heap_setCell W ⟨g, i, none⟩ u k (fun e => hk (by rw [e]))⟩
theorem LogW.off {w : World} {B : Nat} {d : LogX} (h : LogW w B d) {g : Nat} (hl : LogL (fun k => k ≠ g) d) (i : Nat) (u : Value) : LogW (w.setCell ⟨g, i, none⟩ u) B d :=
  h.grown (grown_setL w g i u) (hl.mono fun k hk e => hk (by cases e; rfl))
theorem LogW.off6 {w : World} {B : Nat} {d : LogX} (h : LogW w B d) {g : Nat} (hl : LogL (fun k => k ≠ g) d) (a b c e x y : Value) : LogW ((((((w.setCell ⟨g, 0, none⟩ a).setCell ⟨g, 1, none⟩ b).setCell ⟨g, 2, none⟩ c).setCell ⟨g, 3, none⟩ e).setCell ⟨g, 4, none⟩ x).setCell ⟨g, 5, none⟩ y) B d :=
  (((((h.off hl 0 a).off hl 1 b).off hl 2 c).off hl 3 e).off hl 4 x).off hl 5 y
theorem addX_lies {d : LogX} {x : EntX} {A : Option Addr} {c : Nat} {p : Nat → Prop} (h : LogL p d) (hA : ∀ ad, A = some ad → p ad.block) (hx : ∀ ad, x.A = some ad → p ad.block) : LogL p (addX d x A c) := by
  refine ⟨h.1, fun _ => hA, fun y hy => ?_⟩
  have ha : (addX d x A c).all = d.all ++ [x] := by unfold LogX.all addX; rw [List.append_assoc]
  rw [ha] at hy
  rcases List.mem_append.1 hy with hy | hy
  · exact h.2.2 y hy
  · rw [List.mem_singleton] at hy; subst hy; exact fun _ => hx
/-- Two slices of the function's own, above a block. -/
def Own2 (W : World) (B : Nat) (A7 : Option Addr) (c7 n : Nat) (xs : List Value) (A4 : Option Addr) (c4 m : Nat) (ys : List Value) : Prop :=
  W.ownsRow B 142 2 (.slice A7 n c7) n xs ∧ W.ownsRow B 5 1 (.slice A4 m c4) m ys
section
variable {W W' : World} {B : Nat} {A7 : Option Addr} {c7 n : Nat} {xs : List Value} {A4 : Option Addr} {c4 m : Nat} {ys : List Value}
theorem Own2.ext (h : Own2 W B A7 c7 n xs A4 c4 m ys) (x : Ext W W') : Own2 W' B A7 c7 n xs A4 c4 m ys := ⟨own_ext h.1 x, own_ext h.2 x⟩
theorem Own2.far (h : Own2 W B A7 c7 n xs A4 c4 m ys) {g : Nat} (hg : g < B) (i : Nat) (u : Value) : Own2 (W.setCell ⟨g, i, none⟩ u) B A7 c7 n xs A4 c4 m ys := ⟨own_farL h.1 hg i u, own_farL h.2 hg i u⟩
theorem Own2.far6 (h : Own2 W B A7 c7 n xs A4 c4 m ys) {g : Nat} (hg : g < B) (a b c d x y : Value) : Own2 ((((((W.setCell ⟨g, 0, none⟩ a).setCell ⟨g, 1, none⟩ b).setCell ⟨g, 2, none⟩ c).setCell ⟨g, 3, none⟩ d).setCell ⟨g, 4, none⟩ x).setCell ⟨g, 5, none⟩ y) B A7 c7 n xs A4 c4 m ys := ⟨own_farL6 h.1 hg a b c d x y, own_farL6 h.2 hg a b c d x y⟩
end
/-- A promise: its cells. -/
def promV (k t : Nat) (s : Nat × Nat) : Value := .agg #[.int .i64 0, .int .i64 (t : Int), .int .u64 (s.1 : Int), .int .u64 (s.2 : Int), .int .u64 (sgE k (promL t s) : Nat), .int .u64 (sgS k (promL t s) : Nat)]
theorem addX_ok {w W : World} {d : LogX} {b : List Nat} {now : Nat} {A A4 : Option Addr} {c c4 : Nat} (h : LogW w w.heap.size d) (x : Ext w W) (hb : BodyOk b) (hn : now ≤ 30) (hf : d.all.length < 30)
    (hfi : (d.all.map EntX.ent).find? (fun x => x.b == b) = none) (hc : d.ws.length + 1 ≤ c) (hr : Reads W W.heap.size 2 A (d.ws.length + 1) (entV (d.ws ++ [⟨b, now, A4, c4⟩]))) (hc4 : b.length ≤ c4) (hr4 : Reads W W.heap.size 1 A4 b.length (bv b)) :
    LogW W W.heap.size (addX d ⟨b, now, A4, c4⟩ A c) ∧ (addX d ⟨b, now, A4, c4⟩ A c).all.map EntX.ent = (lgAdd (d.all.map EntX.ent) b now).1 := by
  have hW := h.ext x
  have ha : (addX d ⟨b, now, A4, c4⟩ A c).all = d.all ++ [⟨b, now, A4, c4⟩] := by unfold LogX.all addX; rw [List.append_assoc]
  have he : (addX d ⟨b, now, A4, c4⟩ A c).all.map EntX.ent = (lgAdd (d.all.map EntX.ent) b now).1 := by rw [ha, lgAdd_none hfi, List.map_append]; rfl
  refine ⟨⟨hW.odd, hW.l, hW.lc, ?_, ?_, ?_, ?_, ?_⟩, he⟩
  · show Reads W W.heap.size 2 A (d.ws ++ [_]).length _; rw [List.length_append]; exact hr
  · show (d.ws ++ [_]).length ≤ c; rw [List.length_append]; exact hc
  · rw [ha]
    intro y hy
    rcases List.mem_append.1 hy with hy | hy
    · exact hW.el y hy
    · rw [List.mem_singleton] at hy; subst hy; exact ⟨hc4, hr4⟩
  · rw [he]; exact (lgAdd_good hW.good hb hn).1
  · rw [ha, List.length_append]; simp; omega
set_option maxRecDepth 100000 in
set_option maxHeartbeats 8000000 in
theorem lAdd_any (d : LogX) (b : List Nat) (hb : BodyOk b) (now : Nat) (hn : now ≤ 30) (hf : d.all.length < 30) (A : Option Addr) (c : Nat) (hc : b.length ≤ c) (w : World) (h : LogW w w.heap.size d) (hr : Reads w w.heap.size 1 A b.length (bv b)) :
    Calls Tryz.prog 48 #[logV d, .slice A b.length c, .int .i64 now] w fun e w' => ∃ d' : LogX, e = .returned (.tuple #[logV d', promV d.key (lgAdd (d.all.map EntX.ent) b now).2 (hSum (leafB b)), .int .i64 0]) ∧ LogW w' w'.heap.size d' ∧ d'.key = d.key ∧ d'.ls = d.ls ∧ d'.all.map EntX.ent = (lgAdd (d.all.map EntX.ent) b now).1 ∧ (∀ p : Nat → Prop, LogL p d → (∀ k, w.heap.size ≤ k → p k) → LogL p d') ∧ Ext w w' := by
  obtain ⟨i0, hinf, hz0, hz1, hz2⟩ := info_parts Tryz.infoCL
  obtain ⟨W0, e0, b0, b1, b2, b3, x0, s0⟩ := boxesA w #[.int .i64 0, .int .u64 (d.key : Int), .int .i64 20, .slice d.lA d.ls.length d.lc, .slice none 0 0, .slice d.wA d.ws.length d.wc] #[.slice A b.length c] #[.int .i64 0, .int .u64 0, .int .i64 0, .slice none 0 0, .slice none 0 0, .slice none 0 0] #[.int .i64 0, .int .i64 0, .int .u64 0, .int .u64 0, .int .u64 0, .int .u64 0] 29 22 29 55
  have hbl : b.length ≤ 500 := hb.2.1
  have hb0 : 0 < b.length := hb.1
  have cC := lCheck_any d W0 (h.ext x0)
  have cB := fun W => isBody_any A b.length c (by omega) W
  rw [decide_eq_true hb0] at cB
  have cN := fun w => lnum_any (now : Int) w
  rw [decide_eq_true (by omega)] at cN
  have cA := fun W (e : Ext W0 W) => all_any d W (h.ext (x0.trans e))
  have hrV := fun W (e : Ext W0 W) => (hr.below (x0.trans e).out).more (x0.trans e).size
  have cI := fun W A1 c1 (hr1 : Reads W W.heap.size 2 A1 d.all.length (entV d.all)) (e : Ext W0 W) => ixL_any 125 add1_enters #[.pointer (some ⟨w.heap.size + 1, 0, none⟩)] (fun x => x.b == b) d.all (by omega) A1 c1 W hr1
    (fun W' s hs e' => add1_any s b (h.good.2 _ (List.mem_map.2 ⟨s, hs, rfl⟩)) hb A c (w.heap.size + 1) w.heap.size W' ((h.el s hs).2.below ((x0.trans e).trans e').out) (hr.below ((x0.trans e).trans e').out) ((x0.trans e).trans e').size ((ext_blk (e.trans e') b1).cell 0))
  have cLW := fun W (e : Ext w W) => Leaf_any b hb.2.2 A c hc W ((hr.below e.out).more e.size) (leafB_len b (by omega))
  obtain ⟨H, hH⟩ : ∃ H, hSum (leafB b) = H := ⟨_, rfl⟩
  rw [hH] at cLW ⊢
  unfold logV at cC cA ⊢
  unfold promV
  have HX0 := Lib.hid x0
  have HS0 := Lib.hid s0
  clear s0
  have HB0 := Lib.hid b0
  have HB1 := Lib.hid b1
  have HB2 := Lib.hid b2
  have HB3 := Lib.hid b3
  have HL := Lib.hid h
  have HOK := Lib.hid hb
  have HRV := Lib.hid hrV
  have HFW : Hid (d.all.length < 30 ∧ now ≤ 30 ∧ b.length ≤ 500 ∧ 0 < b.length ∧ d.ws.length ≤ 30) := Lib.hid ⟨hf, hn, hbl, hb0, by have := h.lens; omega⟩
  have hall : (d.all.length : Int) ≤ 29 := by omega
  have hne : ((d.all.length : Int) == 256) = false := by simp; omega
  have hne2 : decide ((d.all.length : Int) = 256) = false := by simp; omega
  have hne3 : ¬ (d.all.length : Int) = 256 := by omega
  obtain ⟨m0, m1, m2, m3, m4, m5, -, -, -, -, -, -⟩ := lst6 b0
  have n0 := b1.cell 0
  clear x0 b0 b1 b2 b3 h hb hrV hf hn hbl hb0 hr hc
  rcases ixG_cases (fun x : EntX => x.b == b) d.all with ⟨j, x, hj, hix, hfi⟩ | ⟨hix, hfi⟩
  · have hjl : j < d.all.length := (List.getElem?_eq_some_iff.1 hj).1
    have hlg : lgAdd (d.all.map EntX.ent) b now = (d.all.map EntX.ent, x.t) := by
      rw [lgAdd_some (x := x.ent) (by rw [find_ents, hfi]; rfl)]; rfl
    rw [hlg]
    rw [hix] at cI
    have HJ := Lib.hid hj
    have HXT : Hid (x.t ≤ 30) := Lib.hid ((HL.out.good.2 _ (List.mem_map.2 ⟨x, List.mem_of_getElem? hj, rfl⟩)).2.2.2)
    have d0 : decide ((0 : Int) ≤ (j : Int)) = true := by simp
    have d1 : (0 : Int) ≤ (j : Int) := by omega
    have d2 : j < d.all.length := hjl
    have hjb : (j : Int) ≤ 29 := by omega
    clear hix hfi hlg hj hjl
    have cO := fun W => ofProm_any x.t H (by have := HXT.out; omega) (.int .u64 0) (.int .u64 0) W
    obtain ⟨L, hL⟩ : ∃ L, promL x.t H = L := ⟨_, rfl⟩
    have hLl := promL_len x.t H
    have hLt := promL_lt x.t H
    rw [hL] at cO hLl hLt ⊢
    have cS := fun A c (hc : L.length ≤ c) W (hr : Reads W W.heap.size 1 A L.length (bv L)) => Sign_any d.key HL.out.odd L hLt (by omega) A c hc W hr
    obtain ⟨E, hE⟩ : ∃ E, sgE d.key L = E := ⟨_, rfl⟩
    obtain ⟨S, hS⟩ : ∃ S, sgS d.key L = S := ⟨_, rfl⟩
    rw [hE, hS] at cS ⊢
    clear hLt hLl hL hE hS
    go_enter Tryz.func48, Tryz.ntmps48
    go_upto_region 1 with (fail)
    try rw [e0]
    clear e0
    go_upto_region 10 with (first
      | (go_at_call 60; refine cC.mono ?_; clear cC; rintro e w1 ⟨rfl, x1⟩; have HX1 := Lib.hid x1; have r0 := (ext_blk x1 HB0.out).cell 0; have r1 := (ext_blk x1 HB0.out).cell 1; have r2 := (ext_blk x1 HB0.out).cell 2; have r3 := (ext_blk x1 HB0.out).cell 3; have r4 := (ext_blk x1 HB0.out).cell 4; have r5 := (ext_blk x1 HB0.out).cell 5; have r6 := (ext_blk x1 HB1.out).cell 0)
      | (go_at_call 122; refine (cB _).mono ?_; clear cB; rintro e w' ⟨rfl, rfl⟩)
      | (go_at_call 51; refine (cN _).mono ?_; clear cN; rintro e w' ⟨rfl, rfl⟩)
      | (go_at_call 123; refine (cA _ x1).mono ?_; clear cA r0 r1 r2 r3 r4 r5 r6 m0 m1 m2 m3 m4 m5 n0; rintro e w2 ⟨A1, c1, rfl, hc1, hr1, x2, -⟩; have X2 := x1.trans x2; have HR1 := Lib.hid hr1)
      | (go_at_call 124; refine (cI _ A1 c1 hr1 X2).mono ?_; clear cI; rintro e w3 ⟨rfl, x3⟩; have XV := X2.trans x3))
    obtain ⟨ad, hA1, hadb, q0, q1⟩ := reads_ent ((HR1.out.below x3.out).more x3.size) HJ.out
    subst hA1
    obtain ⟨V, hV⟩ : ∃ V, w3 = V := ⟨_, rfl⟩
    rw [hV] at XV q0 q1 ⊢
    have hWV := HL.out.ext (HX0.out.trans XV)
    have bL := ext_blk XV HB0.out
    have bB := ext_blk XV HB1.out
    have hxV := HX0.out.trans XV
    have bR := ext_blk XV HB2.out
    have bP := ext_blk XV HB3.out
    clear hV x1 x2 X2 x3 HX1 hr1
    have HXV := Lib.hid hxV
    have cLV := fun W (e : Ext V W) => cLW W (hxV.trans e)
    clear hxV
    go_upto_region 13 with (fail)
    refine F_start (n := 7) (ls := #[false, false, false, false, false, false, false]) (fun w' => w'.cell? ⟨w.heap.size, 0, none⟩ = some (.int .i64 0) ∧ w'.cell? ⟨w.heap.size + 1, 0, none⟩ = some (.slice A b.length c)) 6 (by kernel_rfl) (by kernel_rfl) (by kernel_rfl) (And.intro (bL.drew.cell 0) (bB.drew.cell 0)) (fun hHeld => ?_)
    refine F_pure (i := 0) (some 58) (ls' := #[true, false, false, false, false, false, false]) rfl rfl (by kernel_rfl) (by kernel_rfl) (by kernel_rfl) (by kernel_rfl) (by rfl) (v := ?_) ?_ ?_
    rotate_left 1
    · intro w; go_simp; try with_reducible rfl
    try simp only [Act.put, List.setIfInBounds_toArray, List.set_cons_zero, List.set_cons_succ]
    refine F_take (i := 1) (some 59) (ls' := #[true, true, false, false, false, false, false]) rfl rfl (by kernel_rfl) (by kernel_rfl) (by kernel_rfl) (by kernel_rfl) (by kernel_rfl) (by rfl) (v := ?_) ?_ hHeld ?_
    rotate_left 1
    · intro w hSw; (try dsimp only at hSw); go_simp; try with_reducible rfl
    try simp only [Act.put, List.setIfInBounds_toArray, List.set_cons_zero, List.set_cons_succ]
    refine F_pure (i := 2) (some 60) (ls' := #[true, true, true, false, false, false, false]) rfl rfl (by kernel_rfl) (by kernel_rfl) (by kernel_rfl) (by kernel_rfl) (by rfl) (v := ?_) ?_ ?_
    rotate_left 1
    · intro w; go_simp; try with_reducible rfl
    try simp only [Act.put, List.setIfInBounds_toArray, List.set_cons_zero, List.set_cons_succ]
    refine F_take (i := 3) (some 61) (ls' := #[true, true, true, true, false, false, false]) rfl rfl (by kernel_rfl) (by kernel_rfl) (by kernel_rfl) (by kernel_rfl) (by kernel_rfl) (by rfl) (v := ?_) ?_ hHeld ?_
    rotate_left 1
    · intro w hSw; (try dsimp only at hSw); go_simp; try with_reducible rfl
    try simp only [Act.put, List.setIfInBounds_toArray, List.set_cons_zero, List.set_cons_succ]
    refine F_some (is := [4]) (by kernel_rfl) (by simp) (fun i hi => ?_)
    obtain rfl : i = 4 := by simpa using hi
    refine F_way (S := fun w' => w'.cell? ⟨w.heap.size, 0, none⟩ = some (.int .i64 0) ∧ w'.cell? ⟨w.heap.size + 1, 0, none⟩ = some (.slice A b.length c)) (L := 6) (o := _) rfl (ls' := #[true, true, true, true, true, false, false]) (by kernel_rfl) (by rfl) (fun K hK => ?_)
    go_simp
    go_at_call 17
    refine (cLV _ (Ext.refl V).drew).mono ?_
    clear cLV
    rintro e u1 ⟨rfl, y1⟩
    have Y1 : Ext V u1 := (Ext.refl V).drew.trans y1
    have k3 := ext_blk Y1 bP
    obtain ⟨p0, p1, p2, p3, p4, p5, f0, f1, f2, f3, f4, f5⟩ := lst6 k3
    have hHeld2 := And.intro ((ext_blk Y1 bL).cell 0) ((ext_blk Y1 bB).cell 0)
    clear hHeld
    have hHeld := hHeld2
    clear hHeld2
    refine hK _ _ (fun _ _ => hHeld) ?_
    clear hK K
    try simp only [Act.put, List.setIfInBounds_toArray, List.set_cons_zero, List.set_cons_succ]
    refine F_pure (i := 5) (some 63) (ls' := #[true, true, true, true, true, true, false]) rfl rfl (by kernel_rfl) (by kernel_rfl) (by kernel_rfl) (by kernel_rfl) (by rfl) (v := ?_) ?_ ?_
    rotate_left 1
    · intro w; go_simp; try with_reducible rfl
    try simp only [Act.put, List.setIfInBounds_toArray, List.set_cons_zero, List.set_cons_succ]
    refine F_some (is := [6]) (by kernel_rfl) (by simp) (fun i hi => ?_)
    obtain rfl : i = 6 := by simpa using hi
    refine F_way (S := fun w' => w'.cell? ⟨w.heap.size, 0, none⟩ = some (.int .i64 0) ∧ w'.cell? ⟨w.heap.size + 1, 0, none⟩ = some (.slice A b.length c)) (L := 6) (o := _) rfl (ls' := #[true, true, true, true, true, true, true]) (by kernel_rfl) (by rfl) (fun K hK => ?_)
    clear hHeld
    go_simp
    refine hK _ _ (fun h _ => absurd h (by decide)) ?_
    clear hK K
    try simp only [Act.put, List.setIfInBounds_toArray, List.set_cons_zero, List.set_cons_succ]
    refine F_done (by kernel_rfl) ?_
    clear p0 p1 p2 p3 p4 p5 f0 f1 f2 f3 f4 f5
    obtain ⟨U, hU⟩ : ∃ U, ((((((u1.setCell ⟨w.heap.size + 1 + 1 + 1, 0, none⟩ (.int .i64 0)).setCell ⟨w.heap.size + 1 + 1 + 1, 1, none⟩ (.int .i64 (x.t : Int))).setCell ⟨w.heap.size + 1 + 1 + 1, 2, none⟩ (.int .u64 (H.1 : Int))).setCell ⟨w.heap.size + 1 + 1 + 1, 3, none⟩ (.int .u64 (H.2 : Int))).setCell ⟨w.heap.size + 1 + 1 + 1, 4, none⟩ (.int .u64 0)).setCell ⟨w.heap.size + 1 + 1 + 1, 5, none⟩ (.int .u64 0)) = U := ⟨_, rfl⟩
    try rw [hU]
    have hP : Blk U (w.heap.size + 1 + 1 + 1) 55 #[.int .i64 0, .int .i64 (x.t : Int), .int .u64 (H.1 : Int), .int .u64 (H.2 : Int), .int .u64 0, .int .u64 0] := by rw [← hU]; exact lblk6 k3 (.int .i64 0) (.int .i64 (x.t : Int)) (.int .u64 (H.1 : Int)) (.int .u64 (H.2 : Int)) (.int .u64 0) (.int .u64 0)
    have hy : ∀ g' T cs, g' ≠ w.heap.size + 1 + 1 + 1 → Blk V g' T cs → Blk U g' T cs := fun g' T cs hg hk => by rw [← hU]; exact (((((((ext_blk Y1 hk).far (p := ⟨w.heap.size + 1 + 1 + 1, 0, none⟩) hg _).far (p := ⟨w.heap.size + 1 + 1 + 1, 1, none⟩) hg _).far (p := ⟨w.heap.size + 1 + 1 + 1, 2, none⟩) hg _).far (p := ⟨w.heap.size + 1 + 1 + 1, 3, none⟩) hg _).far (p := ⟨w.heap.size + 1 + 1 + 1, 4, none⟩) hg _).far (p := ⟨w.heap.size + 1 + 1 + 1, 5, none⟩) hg _)
    have xU : Ext w U := by rw [← hU]; exact lext6 (HXV.out.trans Y1) (by omega) (.int .i64 0) (.int .i64 (x.t : Int)) (.int .u64 (H.1 : Int)) (.int .u64 (H.2 : Int)) (.int .u64 0) (.int .u64 0)
    have hLU := hy _ _ _ (by omega) bL
    have hRU := hy _ _ _ (by omega) bR
    clear hy hU k3 Y1 y1 bP bL bR HXV
    have hS14 := fun W (e : Ext U W) => And.intro ((ext_blk e hLU).cell 1) (And.intro ((ext_blk e hP).cell 0) (And.intro ((ext_blk e hP).cell 1) (And.intro ((ext_blk e hP).cell 2) (And.intro ((ext_blk e hP).cell 3) (And.intro ((ext_blk e hP).cell 4) ((ext_blk e hP).cell 5))))))
    have HS14 := Lib.hid hS14
    clear hS14
    go_upto_region 14 with (fail)
    refine F_start (n := 11) (ls := #[false, false, false, false, false, false, false, false, false, false, false]) (fun w' => w'.cell? ⟨w.heap.size, 1, none⟩ = some (.int .u64 (d.key : Int)) ∧ w'.cell? ⟨w.heap.size + 1 + 1 + 1, 0, none⟩ = some (.int .i64 0) ∧ w'.cell? ⟨w.heap.size + 1 + 1 + 1, 1, none⟩ = some (.int .i64 (x.t : Int)) ∧ w'.cell? ⟨w.heap.size + 1 + 1 + 1, 2, none⟩ = some (.int .u64 (H.1 : Int)) ∧ w'.cell? ⟨w.heap.size + 1 + 1 + 1, 3, none⟩ = some (.int .u64 (H.2 : Int)) ∧ w'.cell? ⟨w.heap.size + 1 + 1 + 1, 4, none⟩ = some (.int .u64 0) ∧ w'.cell? ⟨w.heap.size + 1 + 1 + 1, 5, none⟩ = some (.int .u64 0)) 9 (by kernel_rfl) (by kernel_rfl) (by kernel_rfl) (HS14.out _ (Ext.refl U).drew) (fun hHeld => ?_)
    refine F_pure (i := 0) (some 65) (ls' := #[true, false, false, false, false, false, false, false, false, false, false]) rfl rfl (by kernel_rfl) (by kernel_rfl) (by kernel_rfl) (by kernel_rfl) (by rfl) (v := ?_) ?_ ?_
    rotate_left 1
    · intro w; go_simp; try with_reducible rfl
    try simp only [Act.put, List.setIfInBounds_toArray, List.set_cons_zero, List.set_cons_succ]
    refine F_take (i := 1) (some 66) (ls' := #[true, true, false, false, false, false, false, false, false, false, false]) rfl rfl (by kernel_rfl) (by kernel_rfl) (by kernel_rfl) (by kernel_rfl) (by kernel_rfl) (by rfl) (v := ?_) ?_ hHeld ?_
    rotate_left 1
    · intro w hSw; (try dsimp only at hSw); go_simp; try with_reducible rfl
    try simp only [Act.put, List.setIfInBounds_toArray, List.set_cons_zero, List.set_cons_succ]
    refine F_take (i := 2) (some 67) (ls' := #[true, true, true, false, false, false, false, false, false, false, false]) rfl rfl (by kernel_rfl) (by kernel_rfl) (by kernel_rfl) (by kernel_rfl) (by kernel_rfl) (by rfl) (v := ?_) ?_ hHeld ?_
    rotate_left 1
    · intro w hSw; (try dsimp only at hSw); go_simp; try with_reducible rfl
    try simp only [Act.put, List.setIfInBounds_toArray, List.set_cons_zero, List.set_cons_succ]
    refine F_some (is := [3]) (by kernel_rfl) (by simp) (fun i hi => ?_)
    obtain rfl : i = 3 := by simpa using hi
    refine F_way (S := fun w' => w'.cell? ⟨w.heap.size, 1, none⟩ = some (.int .u64 (d.key : Int)) ∧ w'.cell? ⟨w.heap.size + 1 + 1 + 1, 0, none⟩ = some (.int .i64 0) ∧ w'.cell? ⟨w.heap.size + 1 + 1 + 1, 1, none⟩ = some (.int .i64 (x.t : Int)) ∧ w'.cell? ⟨w.heap.size + 1 + 1 + 1, 2, none⟩ = some (.int .u64 (H.1 : Int)) ∧ w'.cell? ⟨w.heap.size + 1 + 1 + 1, 3, none⟩ = some (.int .u64 (H.2 : Int)) ∧ w'.cell? ⟨w.heap.size + 1 + 1 + 1, 4, none⟩ = some (.int .u64 0) ∧ w'.cell? ⟨w.heap.size + 1 + 1 + 1, 5, none⟩ = some (.int .u64 0)) (L := 9) (o := _) rfl (ls' := #[true, true, true, true, false, false, false, false, false, false, false]) (by kernel_rfl) (by rfl) (fun K hK => ?_)
    go_simp
    go_at_call 67
    refine (cO _).mono ?_
    clear cO
    rintro e v1 ⟨A2, c2, rfl, hc2, hr2, z1⟩
    have Z1 : Ext U v1 := (Ext.refl U).drew.trans z1
    have hHeld2 := HS14.out _ Z1
    clear hHeld
    have hHeld := hHeld2
    clear hHeld2
    refine hK _ _ (fun _ _ => hHeld) ?_
    clear hK K
    try simp only [Act.put, List.setIfInBounds_toArray, List.set_cons_zero, List.set_cons_succ]
    refine F_some (is := [4]) (by kernel_rfl) (by simp) (fun i hi => ?_)
    obtain rfl : i = 4 := by simpa using hi
    refine F_way (S := fun w' => w'.cell? ⟨w.heap.size, 1, none⟩ = some (.int .u64 (d.key : Int)) ∧ w'.cell? ⟨w.heap.size + 1 + 1 + 1, 0, none⟩ = some (.int .i64 0) ∧ w'.cell? ⟨w.heap.size + 1 + 1 + 1, 1, none⟩ = some (.int .i64 (x.t : Int)) ∧ w'.cell? ⟨w.heap.size + 1 + 1 + 1, 2, none⟩ = some (.int .u64 (H.1 : Int)) ∧ w'.cell? ⟨w.heap.size + 1 + 1 + 1, 3, none⟩ = some (.int .u64 (H.2 : Int)) ∧ w'.cell? ⟨w.heap.size + 1 + 1 + 1, 4, none⟩ = some (.int .u64 0) ∧ w'.cell? ⟨w.heap.size + 1 + 1 + 1, 5, none⟩ = some (.int .u64 0)) (L := 9) (o := _) rfl (ls' := #[true, true, true, true, true, false, false, false, false, false, false]) (by kernel_rfl) (by rfl) (fun K hK => ?_)
    go_simp
    go_at_call 41
    refine (cS A2 c2 hc2 v1 hr2).mono ?_
    clear cS
    rintro e v2 ⟨rfl, z2⟩
    have Z2 := Z1.trans z2
    have k4 := ext_blk Z2 hP
    obtain ⟨p0, p1, p2, p3, p4, p5, f0, f1, f2, f3, f4, f5⟩ := lst6 k4
    have hHeld2 := HS14.out _ Z2
    clear hHeld
    have hHeld := hHeld2
    clear hHeld2
    refine hK _ _ (fun _ _ => hHeld) ?_
    clear hK K
    try simp only [Act.put, List.setIfInBounds_toArray, List.set_cons_zero, List.set_cons_succ]
    refine F_pure (i := 5) (some 64) (ls' := #[true, true, true, true, true, true, false, false, false, false, false]) rfl rfl (by kernel_rfl) (by kernel_rfl) (by kernel_rfl) (by kernel_rfl) (by rfl) (v := ?_) ?_ ?_
    rotate_left 1
    · intro w; go_simp; try with_reducible rfl
    try simp only [Act.put, List.setIfInBounds_toArray, List.set_cons_zero, List.set_cons_succ]
    refine F_pure (i := 6) (some 70) (ls' := #[true, true, true, true, true, true, true, false, false, false, false]) rfl rfl (by kernel_rfl) (by kernel_rfl) (by kernel_rfl) (by kernel_rfl) (by rfl) (v := ?_) ?_ ?_
    rotate_left 1
    · intro w; go_simp; try with_reducible rfl
    try simp only [Act.put, List.setIfInBounds_toArray, List.set_cons_zero, List.set_cons_succ]
    refine F_pure (i := 7) (some 71) (ls' := #[true, true, true, true, true, true, true, true, false, false, false]) rfl rfl (by kernel_rfl) (by kernel_rfl) (by kernel_rfl) (by kernel_rfl) (by rfl) (v := ?_) ?_ ?_
    rotate_left 1
    · intro w; go_simp; try with_reducible rfl
    try simp only [Act.put, List.setIfInBounds_toArray, List.set_cons_zero, List.set_cons_succ]
    refine F_pure (i := 8) (some 72) (ls' := #[true, true, true, true, true, true, true, true, true, false, false]) rfl rfl (by kernel_rfl) (by kernel_rfl) (by kernel_rfl) (by kernel_rfl) (by rfl) (v := ?_) ?_ ?_
    rotate_left 1
    · intro w; go_simp; try with_reducible rfl
    try simp only [Act.put, List.setIfInBounds_toArray, List.set_cons_zero, List.set_cons_succ]
    refine F_some (is := [9]) (by kernel_rfl) (by simp) (fun i hi => ?_)
    obtain rfl : i = 9 := by simpa using hi
    refine F_way (S := fun w' => w'.cell? ⟨w.heap.size, 1, none⟩ = some (.int .u64 (d.key : Int)) ∧ w'.cell? ⟨w.heap.size + 1 + 1 + 1, 0, none⟩ = some (.int .i64 0) ∧ w'.cell? ⟨w.heap.size + 1 + 1 + 1, 1, none⟩ = some (.int .i64 (x.t : Int)) ∧ w'.cell? ⟨w.heap.size + 1 + 1 + 1, 2, none⟩ = some (.int .u64 (H.1 : Int)) ∧ w'.cell? ⟨w.heap.size + 1 + 1 + 1, 3, none⟩ = some (.int .u64 (H.2 : Int)) ∧ w'.cell? ⟨w.heap.size + 1 + 1 + 1, 4, none⟩ = some (.int .u64 0) ∧ w'.cell? ⟨w.heap.size + 1 + 1 + 1, 5, none⟩ = some (.int .u64 0)) (L := 9) (o := _) rfl (ls' := #[true, true, true, true, true, true, true, true, true, true, false]) (by kernel_rfl) (by rfl) (fun K hK => ?_)
    clear hHeld
    go_simp
    refine hK _ _ (fun h _ => absurd h (by decide)) ?_
    clear hK K
    try simp only [Act.put, List.setIfInBounds_toArray, List.set_cons_zero, List.set_cons_succ]
    refine F_some (is := [10]) (by kernel_rfl) (by simp) (fun i hi => ?_)
    obtain rfl : i = 10 := by simpa using hi
    refine F_way (S := fun w' => w'.cell? ⟨w.heap.size, 1, none⟩ = some (.int .u64 (d.key : Int)) ∧ w'.cell? ⟨w.heap.size + 1 + 1 + 1, 0, none⟩ = some (.int .i64 0) ∧ w'.cell? ⟨w.heap.size + 1 + 1 + 1, 1, none⟩ = some (.int .i64 (x.t : Int)) ∧ w'.cell? ⟨w.heap.size + 1 + 1 + 1, 2, none⟩ = some (.int .u64 (H.1 : Int)) ∧ w'.cell? ⟨w.heap.size + 1 + 1 + 1, 3, none⟩ = some (.int .u64 (H.2 : Int)) ∧ w'.cell? ⟨w.heap.size + 1 + 1 + 1, 4, none⟩ = some (.int .u64 0) ∧ w'.cell? ⟨w.heap.size + 1 + 1 + 1, 5, none⟩ = some (.int .u64 0)) (L := 9) (o := _) rfl (ls' := #[true, true, true, true, true, true, true, true, true, true, true]) (by kernel_rfl) (by rfl) (fun K hK => ?_)
    go_simp
    refine hK _ _ (fun h _ => absurd h (by decide)) ?_
    clear hK K
    try simp only [Act.put, List.setIfInBounds_toArray, List.set_cons_zero, List.set_cons_succ]
    refine F_done (by kernel_rfl) ?_
    clear p0 p1 p2 p3 p4 p5 f0 f1 f2 f3 f4 f5
    have ne1 : w.heap.size ≠ w.heap.size + 1 + 1 + 1 := by omega
    have ne2 : w.heap.size + 1 + 1 ≠ w.heap.size + 1 + 1 + 1 := by omega
    obtain ⟨T, hT⟩ : ∃ T, (v2.setCell ⟨w.heap.size + 1 + 1 + 1, 4, none⟩ (.int .u64 (E : Int))).setCell ⟨w.heap.size + 1 + 1 + 1, 5, none⟩ (.int .u64 (S : Int)) = T := ⟨_, rfl⟩
    rw [hT]
    have tP : Blk T (w.heap.size + 1 + 1 + 1) 55 #[.int .i64 0, .int .i64 (x.t : Int), .int .u64 (H.1 : Int), .int .u64 (H.2 : Int), .int .u64 (E : Int), .int .u64 (S : Int)] := by rw [← hT]; exact (k4.set_ 4 (.int .u64 (E : Int))).set_ 5 (.int .u64 (S : Int))
    have tL : Blk T w.heap.size 29 #[.int .i64 0, .int .u64 (d.key : Int), .int .i64 20, .slice d.lA d.ls.length d.lc, .slice none 0 0, .slice d.wA d.ws.length d.wc] := by rw [← hT]; exact ((ext_blk Z2 hLU).far (p := ⟨w.heap.size + 1 + 1 + 1, 4, none⟩) ne1 _).far (p := ⟨w.heap.size + 1 + 1 + 1, 5, none⟩) ne1 _
    have tR : Blk T (w.heap.size + 1 + 1) 29 #[.int .i64 0, .int .u64 0, .int .i64 0, .slice none 0 0, .slice none 0 0, .slice none 0 0] := by rw [← hT]; exact ((ext_blk Z2 hRU).far (p := ⟨w.heap.size + 1 + 1 + 1, 4, none⟩) ne2 _).far (p := ⟨w.heap.size + 1 + 1 + 1, 5, none⟩) ne2 _
    have xT : Ext w T := by rw [← hT]; exact (((xU.trans Z2).setCell (p := ⟨w.heap.size + 1 + 1 + 1, 4, none⟩) (by show w.heap.size ≤ w.heap.size + 1 + 1 + 1; omega) _).setCell (p := ⟨w.heap.size + 1 + 1 + 1, 5, none⟩) (by show w.heap.size ≤ w.heap.size + 1 + 1 + 1; omega) _)
    have HTP := Lib.hid tP
    have HTR := Lib.hid tR
    have HXT2 := Lib.hid xT
    obtain ⟨l0, l1, l2, l3, l4, l5, -, -, -, -, -, -⟩ := lst6 tL
    obtain ⟨r0, r1, r2, r3, r4, r5, f0, f1, f2, f3, f4, f5⟩ := lst6 tR
    obtain ⟨p0, p1, p2, p3, p4, p5, s0, s1, s2, s3, s4, s5⟩ := lst6 tP
    clear tP tL tR xT hT k4 Z1 Z2 z1 z2 hLU hRU hP xU
    go_upto_region 15 with (fail)
    go_region
    clear l0 l1 l2 l3 l4 l5 r0 r1 r2 r3 r4 r5 f0 f1 f2 f3 f4 f5 p0 p1 p2 p3 p4 p5 s0 s1 s2 s3 s4 s5
    have hR := (lfar6 (lblk6 HTR.out (.int .i64 0) (.int .u64 (d.key : Int)) (.int .i64 20) (.slice d.lA d.ls.length d.lc) (.slice none 0 0) (.slice d.wA d.ws.length d.wc)) ne2 (.int .i64 0) (.int .i64 (x.t : Int)) (.int .u64 (H.1 : Int)) (.int .u64 (H.2 : Int)) (.int .u64 (E : Int)) (.int .u64 (S : Int))).drew
    have hP := (lblk6 (lfar6 HTP.out (Ne.symm ne2) (.int .i64 0) (.int .u64 (d.key : Int)) (.int .i64 20) (.slice d.lA d.ls.length d.lc) (.slice none 0 0) (.slice d.wA d.ws.length d.wc)) (.int .i64 0) (.int .i64 (x.t : Int)) (.int .u64 (H.1 : Int)) (.int .u64 (H.2 : Int)) (.int .u64 (E : Int)) (.int .u64 (S : Int))).drew
    have hxx := (lext6 (lext6 (g := w.heap.size + 1 + 1) HXT2.out (by omega) (.int .i64 0) (.int .u64 (d.key : Int)) (.int .i64 20) (.slice d.lA d.ls.length d.lc) (.slice none 0 0) (.slice d.wA d.ws.length d.wc)) (g := w.heap.size + 1 + 1 + 1) (by omega) (.int .i64 0) (.int .i64 (x.t : Int)) (.int .u64 (H.1 : Int)) (.int .u64 (H.2 : Int)) (.int .u64 (E : Int)) (.int .u64 (S : Int))).drew
    obtain ⟨r0, r1, r2, r3, r4, r5, -, -, -, -, -, -⟩ := lst6 hR
    obtain ⟨p0, p1, p2, p3, p4, p5, -, -, -, -, -, -⟩ := lst6 hP
    have HXX := Lib.hid hxx
    clear hR hP hxx
    go_wp2
    exact bodyPost_ret (v := (.tuple #[.agg #[.int .i64 0, .int .u64 (d.key : Int), .int .i64 20, .slice d.lA d.ls.length d.lc, .slice none 0 0, .slice d.wA d.ws.length d.wc], .agg #[.int .i64 0, .int .i64 (x.t : Int), .int .u64 (H.1 : Int), .int .u64 (H.2 : Int), .int .u64 (E : Int), .int .u64 (S : Int)], .int .i64 0])) (by simp [results, Tryz.results48, go_sem, r0, r1, r2, r3, r4, r5, p0, p1, p2, p3, p4, p5]) rfl ⟨d, rfl, HL.out.ext HXX.out, rfl, rfl, rfl, fun p hp _ => hp, HXX.out⟩
  · have hlg : lgAdd (d.all.map EntX.ent) b now = (d.all.map EntX.ent ++ [⟨b, now⟩], now) := lgAdd_none (by rw [find_ents, hfi]; rfl)
    have hfe : (d.all.map EntX.ent).find? (fun x => x.b == b) = none := by rw [find_ents, hfi]; rfl
    have HFE := Lib.hid hfe
    have HLG := Lib.hid hlg
    rw [hix] at cI
    rw [hlg]
    have d0 : decide ((0 : Int) ≤ (-1 : Int)) = false := by decide
    have cCl := fun W (e : Ext W0 W) => cloneL_any d.wA d.ws.length d.wc (entV d.ws) (entV_one _) (by have := HFW.out; omega) W (HL.out.ext (HX0.out.trans e)).rs
    have cBc := fun W (e : Ext W0 W) => byClone_any b (by have := HFW.out; omega) (by have := HFW.out; omega) A c W (HRV.out W e)
    have hS8 := fun W (e : Ext W0 W) => And.intro ((ext_blk e HB0.out).cell 5) ((ext_blk e HB1.out).cell 0)
    have HS8 := Lib.hid hS8
    clear hix hfi hlg hfe hS8
    have cO := fun W => ofProm_any now H (by have := HFW.out; omega) (.int .u64 0) (.int .u64 0) W
    obtain ⟨L, hL⟩ : ∃ L, promL now H = L := ⟨_, rfl⟩
    have hLl := promL_len now H
    have hLt := promL_lt now H
    rw [hL] at cO hLl hLt ⊢
    have cS := fun A c (hc : L.length ≤ c) W (hr : Reads W W.heap.size 1 A L.length (bv L)) => Sign_any d.key HL.out.odd L hLt (by omega) A c hc W hr
    obtain ⟨E, hE⟩ : ∃ E, sgE d.key L = E := ⟨_, rfl⟩
    obtain ⟨S, hS⟩ : ∃ S, sgS d.key L = S := ⟨_, rfl⟩
    rw [hE, hS] at cS ⊢
    clear hLt hLl hL hE hS
    go_enter Tryz.func48, Tryz.ntmps48
    go_upto_region 1 with (fail)
    try rw [e0]
    clear e0
    go_upto_region 8 with (first
      | (go_at_call 60; refine cC.mono ?_; clear cC; rintro e w1 ⟨rfl, x1⟩; have HX1 := Lib.hid x1; have r0 := (ext_blk x1 HB0.out).cell 0; have r1 := (ext_blk x1 HB0.out).cell 1; have r2 := (ext_blk x1 HB0.out).cell 2; have r3 := (ext_blk x1 HB0.out).cell 3; have r4 := (ext_blk x1 HB0.out).cell 4; have r5 := (ext_blk x1 HB0.out).cell 5; have r6 := (ext_blk x1 HB1.out).cell 0)
      | (go_at_call 122; refine (cB _).mono ?_; clear cB; rintro e w' ⟨rfl, rfl⟩)
      | (go_at_call 51; refine (cN _).mono ?_; clear cN; rintro e w' ⟨rfl, rfl⟩)
      | (go_at_call 123; refine (cA _ x1).mono ?_; clear cA r0 r1 r2 r3 r4 r5 r6 m0 m1 m2 m3 m4 m5 n0; rintro e w2 ⟨A1, c1, rfl, hc1, hr1, x2, -⟩; have X2 := x1.trans x2; have HR1 := Lib.hid hr1)
      | (go_at_call 124; refine (cI _ A1 c1 hr1 X2).mono ?_; clear cI; rintro e w3 ⟨rfl, x3⟩; have X3 := X2.trans x3))
    have HX3 := Lib.hid X3
    clear x1 x2 X2 x3 X3 HX1 hr1 hc1 HR1
    refine F_start (n := 11) (ls := #[false, false, false, false, false, false, false, false, false, false, false]) (fun w' => w'.cell? ⟨w.heap.size, 5, none⟩ = some (.slice d.wA d.ws.length d.wc) ∧ w'.cell? ⟨w.heap.size + 1, 0, none⟩ = some (.slice A b.length c)) 10 (by kernel_rfl) (by kernel_rfl) (by kernel_rfl) (HS8.out _ HX3.out.drew) (fun hHeld => ?_)
    refine F_pure (i := 0) (some 34) (ls' := #[true, false, false, false, false, false, false, false, false, false, false]) rfl rfl (by kernel_rfl) (by kernel_rfl) (by kernel_rfl) (by kernel_rfl) (by rfl) (v := ?_) ?_ ?_
    rotate_left 1
    · intro w; go_simp; try with_reducible rfl
    try simp only [Act.put, List.setIfInBounds_toArray, List.set_cons_zero, List.set_cons_succ]
    refine F_take (i := 1) (some 35) (ls' := #[true, true, false, false, false, false, false, false, false, false, false]) rfl rfl (by kernel_rfl) (by kernel_rfl) (by kernel_rfl) (by kernel_rfl) (by kernel_rfl) (by rfl) (v := ?_) ?_ hHeld ?_
    rotate_left 1
    · intro w hSw; (try dsimp only at hSw); go_simp; try with_reducible rfl
    try simp only [Act.put, List.setIfInBounds_toArray, List.set_cons_zero, List.set_cons_succ]
    refine F_take (i := 3) (some 37) (ls' := #[true, true, false, true, false, false, false, false, false, false, false]) rfl rfl (by kernel_rfl) (by kernel_rfl) (by kernel_rfl) (by kernel_rfl) (by kernel_rfl) (by rfl) (v := ?_) ?_ hHeld ?_
    rotate_left 1
    · intro w hSw; (try dsimp only at hSw); go_simp; try with_reducible rfl
    try simp only [Act.put, List.setIfInBounds_toArray, List.set_cons_zero, List.set_cons_succ]
    refine F_pure (i := 5) (some 39) (ls' := #[true, true, false, true, false, true, false, false, false, false, false]) rfl rfl (by kernel_rfl) (by kernel_rfl) (by kernel_rfl) (by kernel_rfl) (by rfl) (v := ?_) ?_ ?_
    rotate_left 1
    · intro w; go_simp; try with_reducible rfl
    try simp only [Act.put, List.setIfInBounds_toArray, List.set_cons_zero, List.set_cons_succ]
    refine F_some (is := [2]) (by kernel_rfl) (by simp) (fun i hi => ?_)
    obtain rfl : i = 2 := by simpa using hi
    refine F_way (S := fun w' => w'.cell? ⟨w.heap.size, 5, none⟩ = some (.slice d.wA d.ws.length d.wc) ∧ w'.cell? ⟨w.heap.size + 1, 0, none⟩ = some (.slice A b.length c)) (L := 10) (o := _) rfl (ls' := #[true, true, true, true, false, true, false, false, false, false, false]) (by kernel_rfl) (by rfl) (fun K hK => ?_)
    go_simp
    go_at_call 127
    refine (cCl _ HX3.out.drew).mono ?_
    clear cCl
    rintro e w4 ⟨v4, rfl, o4, x4⟩
    have X4 : Ext w3 w4 := (Ext.refl w3).drew.trans x4
    have hHeld2 := HS8.out _ (HX3.out.trans X4)
    clear hHeld
    have hHeld := hHeld2
    clear hHeld2
    refine hK _ _ (fun _ _ => hHeld) ?_
    clear hK K
    try simp only [Act.put, List.setIfInBounds_toArray, List.set_cons_zero, List.set_cons_succ]
    refine F_some (is := [4]) (by kernel_rfl) (by simp) (fun i hi => ?_)
    obtain rfl : i = 4 := by simpa using hi
    refine F_way (S := fun w' => w'.cell? ⟨w.heap.size, 5, none⟩ = some (.slice d.wA d.ws.length d.wc) ∧ w'.cell? ⟨w.heap.size + 1, 0, none⟩ = some (.slice A b.length c)) (L := 10) (o := _) rfl (ls' := #[true, true, true, true, true, true, false, false, false, false, false]) (by kernel_rfl) (by rfl) (fun K hK => ?_)
    go_simp
    go_at_call 128
    refine (cBc _ (HX3.out.trans X4)).mono ?_
    clear cBc
    rintro e w5 ⟨v5, rfl, o5, x5⟩
    have X5 : Ext w3 w5 := X4.trans x5
    obtain ⟨A4, c4, rfl, hc4, -⟩ := own_slice o5
    have HO5 := Lib.hid o5
    have HO4 := Lib.hid (And.intro o4 (own_ext o4 x5))
    have HC4 := Lib.hid hc4
    have HX5 := Lib.hid X5
    have HX45 := Lib.hid (And.intro X4 x5)
    clear o5 o4
    have hHeld2 := HS8.out _ (HX3.out.trans HX5.out)
    clear hHeld
    have hHeld := hHeld2
    clear hHeld2
    refine hK _ _ (fun _ _ => hHeld) ?_
    clear hK K
    try simp only [Act.put, List.setIfInBounds_toArray, List.set_cons_zero, List.set_cons_succ]
    refine F_pure (i := 6) (some 40) (ls' := #[true, true, true, true, true, true, true, false, false, false, false]) rfl rfl (by kernel_rfl) (by kernel_rfl) (by kernel_rfl) (by kernel_rfl) (by rfl) (v := ?_) ?_ ?_
    rotate_left 1
    · intro w; go_simp; try with_reducible rfl
    try simp only [Act.put, List.setIfInBounds_toArray, List.set_cons_zero, List.set_cons_succ]
    refine F_some (is := [7]) (by kernel_rfl) (by simp) (fun i hi => ?_)
    obtain rfl : i = 7 := by simpa using hi
    refine F_way (S := fun w' => w'.cell? ⟨w.heap.size, 5, none⟩ = some (.slice d.wA d.ws.length d.wc) ∧ w'.cell? ⟨w.heap.size + 1, 0, none⟩ = some (.slice A b.length c)) (L := 10) (o := _) rfl (ls' := #[true, true, true, true, true, true, true, true, false, false, false]) (by kernel_rfl) (by rfl) (fun K hK => ?_)
    go_simp
    have hHeld2 := HS8.out _ (HX3.out.trans (HX5.out.alloc (.cells #[.slice A4 b.length c4, .int .i64 (now : Int)] 142)))
    clear hHeld
    have hHeld := hHeld2
    clear hHeld2
    refine hK _ _ (fun _ _ => hHeld) ?_
    clear hK K
    try simp only [Act.put, List.setIfInBounds_toArray, List.set_cons_zero, List.set_cons_succ]
    refine F_some (is := [8]) (by kernel_rfl) (by simp) (fun i hi => ?_)
    obtain rfl : i = 8 := by simpa using hi
    refine F_way (S := fun w' => w'.cell? ⟨w.heap.size, 5, none⟩ = some (.slice d.wA d.ws.length d.wc) ∧ w'.cell? ⟨w.heap.size + 1, 0, none⟩ = some (.slice A b.length c)) (L := 10) (o := _) rfl (ls' := #[true, true, true, true, true, true, true, true, true, false, false]) (by kernel_rfl) (by rfl) (fun K hK => ?_)
    refine wp_append_any _ (.tmp 36) (.tmp 41) 26 rfl w3.heap.size 142 i0 (.agg #[.slice none 0 0, .int .i64 0]) 2 32 Tryz.underlying26 hinf hz0 hz1 hz2 rfl (by decide) v4 d.ws.length (entV d.ws) rfl (own_ext HO4.out.2 ((Ext.refl w5).alloc _)) _ (some ⟨w5.heap.size, 0, none⟩) 1 1 [.slice A4 b.length c4, .int .i64 (now : Int)] rfl (reads_ent2 w5 _ _ _) (by simp [Value.oneCell']) (by have := HFW.out; simp only [maxLen]; omega) (by have := HFW.out; omega) (by have := HX5.out.size; simp; omega) ?_
    intro v7 w7 hown7 hg7 _
    obtain ⟨A7, c7, rfl, hc7, -⟩ := own_slice2 hown7
    have X7 : Ext w3 w7 := ext_grown (HX5.out.alloc _) (own_ext HO4.out.2 ((Ext.refl w5).alloc _)) hg7
    have o7 : w7.ownsRow w3.heap.size 5 1 (.slice A4 b.length c4) b.length (bv b) := own_base (own_keepL (own_ext HO5.out ((Ext.refl w5).alloc _)) fun k hk => hg7.block k (own_ext HO5.out ((Ext.refl w5).alloc _) |>.lt k hk).2 (fun e => by have h1 := (HO5.out.lt k hk).1; have h2 := (HO4.out.1.lt k e.symm).2; omega)) HX45.out.1.size
    have bL7 := ext_blk (HX3.out.trans X7) HB0.out
    have g7 := bL7.cell 5
    have f7 := bL7.frozen 5
    have g8 := HS8.out _ (HX3.out.trans X7)
    have hHeld2 := g8
    clear hHeld
    have hHeld := hHeld2
    clear hHeld2
    refine hK _ _ (fun _ _ => hHeld) ?_
    clear hK K
    try simp only [Act.put, List.setIfInBounds_toArray, List.set_cons_zero, List.set_cons_succ]
    refine F_pure (i := 9) (some 43) (ls' := #[true, true, true, true, true, true, true, true, true, true, false]) rfl rfl (by kernel_rfl) (by kernel_rfl) (by kernel_rfl) (by kernel_rfl) (by rfl) (v := ?_) ?_ ?_
    rotate_left 1
    · intro w; go_simp; try with_reducible rfl
    try simp only [Act.put, List.setIfInBounds_toArray, List.set_cons_zero, List.set_cons_succ]
    refine F_some (is := [10]) (by kernel_rfl) (by simp) (fun i hi => ?_)
    obtain rfl : i = 10 := by simpa using hi
    refine F_way (S := fun w' => w'.cell? ⟨w.heap.size, 5, none⟩ = some (.slice d.wA d.ws.length d.wc) ∧ w'.cell? ⟨w.heap.size + 1, 0, none⟩ = some (.slice A b.length c)) (L := 10) (o := _) rfl (ls' := #[true, true, true, true, true, true, true, true, true, true, true]) (by kernel_rfl) (by rfl) (fun K hK => ?_)
    clear hHeld
    go_simp
    refine hK _ _ (fun h _ => absurd h (by decide)) ?_
    clear hK K
    try simp only [Act.put, List.setIfInBounds_toArray, List.set_cons_zero, List.set_cons_succ]
    refine F_done (by kernel_rfl) ?_
    clear g7 f7 g8
    obtain ⟨V, hV⟩ : ∃ V, w7.setCell ⟨w.heap.size, 5, none⟩ (.slice A7 (d.ws.length + 1) c7) = V := ⟨_, rfl⟩
    rw [hV]
    have bL : Blk V w.heap.size 29 #[.int .i64 0, .int .u64 (d.key : Int), .int .i64 20, .slice d.lA d.ls.length d.lc, .slice none 0 0, .slice A7 (d.ws.length + 1) c7] := by rw [← hV]; exact bL7.set_ 5 (.slice A7 (d.ws.length + 1) c7)
    have bR := (ext_blk (HX3.out.trans X7) HB2.out).far (p := ⟨w.heap.size, 5, none⟩) (by show w.heap.size + 1 + 1 ≠ w.heap.size; omega) (.slice A7 (d.ws.length + 1) c7)
    have bP := (ext_blk (HX3.out.trans X7) HB3.out).far (p := ⟨w.heap.size, 5, none⟩) (by show w.heap.size + 1 + 1 + 1 ≠ w.heap.size; omega) (.slice A7 (d.ws.length + 1) c7)
    have bB := (ext_blk (HX3.out.trans X7) HB1.out).far (p := ⟨w.heap.size, 5, none⟩) (by show w.heap.size + 1 ≠ w.heap.size; omega) (.slice A7 (d.ws.length + 1) c7)
    rw [hV] at bR bP bB
    have hxV : Ext w V := by rw [← hV]; exact (HX0.out.trans (HX3.out.trans X7)).setCell (p := ⟨w.heap.size, 5, none⟩) (Nat.le_refl _) _
    have HG3 : Hid (w.heap.size + 1 + 1 + 1 < w3.heap.size) := Lib.hid (by have := HS0.out; have := HX3.out.size; omega)
    have HB2B : Hid (w.heap.size + 1 + 1 < w3.heap.size) := Lib.hid (by have := HG3.out; omega)
    have oV : Own2 V w3.heap.size A7 c7 (d.ws.length + 1) (entV (d.ws ++ [⟨b, now, A4, c4⟩])) A4 c4 b.length (bv b) := by rw [← hV]; exact Own2.far ⟨by rw [entV_append]; exact hown7, o7⟩ (by have := HG3.out; omega) 5 _
    have HC7 := Lib.hid hc7
    clear hV bL7 X7 hown7 hg7 o7 hc7 hc4 x4 x5 X4 X5
    have HXV := Lib.hid hxV
    have cLV := fun W (e : Ext V W) => cLW W (hxV.trans e)
    clear hxV
    go_upto_region 13 with (fail)
    refine F_start (n := 7) (ls := #[false, false, false, false, false, false, false]) (fun w' => w'.cell? ⟨w.heap.size, 0, none⟩ = some (.int .i64 0) ∧ w'.cell? ⟨w.heap.size + 1, 0, none⟩ = some (.slice A b.length c)) 6 (by kernel_rfl) (by kernel_rfl) (by kernel_rfl) (And.intro (bL.drew.cell 0) (bB.drew.cell 0)) (fun hHeld => ?_)
    refine F_pure (i := 0) (some 58) (ls' := #[true, false, false, false, false, false, false]) rfl rfl (by kernel_rfl) (by kernel_rfl) (by kernel_rfl) (by kernel_rfl) (by rfl) (v := ?_) ?_ ?_
    rotate_left 1
    · intro w; go_simp; try with_reducible rfl
    try simp only [Act.put, List.setIfInBounds_toArray, List.set_cons_zero, List.set_cons_succ]
    refine F_take (i := 1) (some 59) (ls' := #[true, true, false, false, false, false, false]) rfl rfl (by kernel_rfl) (by kernel_rfl) (by kernel_rfl) (by kernel_rfl) (by kernel_rfl) (by rfl) (v := ?_) ?_ hHeld ?_
    rotate_left 1
    · intro w hSw; (try dsimp only at hSw); go_simp; try with_reducible rfl
    try simp only [Act.put, List.setIfInBounds_toArray, List.set_cons_zero, List.set_cons_succ]
    refine F_pure (i := 2) (some 60) (ls' := #[true, true, true, false, false, false, false]) rfl rfl (by kernel_rfl) (by kernel_rfl) (by kernel_rfl) (by kernel_rfl) (by rfl) (v := ?_) ?_ ?_
    rotate_left 1
    · intro w; go_simp; try with_reducible rfl
    try simp only [Act.put, List.setIfInBounds_toArray, List.set_cons_zero, List.set_cons_succ]
    refine F_take (i := 3) (some 61) (ls' := #[true, true, true, true, false, false, false]) rfl rfl (by kernel_rfl) (by kernel_rfl) (by kernel_rfl) (by kernel_rfl) (by kernel_rfl) (by rfl) (v := ?_) ?_ hHeld ?_
    rotate_left 1
    · intro w hSw; (try dsimp only at hSw); go_simp; try with_reducible rfl
    try simp only [Act.put, List.setIfInBounds_toArray, List.set_cons_zero, List.set_cons_succ]
    refine F_some (is := [4]) (by kernel_rfl) (by simp) (fun i hi => ?_)
    obtain rfl : i = 4 := by simpa using hi
    refine F_way (S := fun w' => w'.cell? ⟨w.heap.size, 0, none⟩ = some (.int .i64 0) ∧ w'.cell? ⟨w.heap.size + 1, 0, none⟩ = some (.slice A b.length c)) (L := 6) (o := _) rfl (ls' := #[true, true, true, true, true, false, false]) (by kernel_rfl) (by rfl) (fun K hK => ?_)
    go_simp
    go_at_call 17
    refine (cLV _ (Ext.refl V).drew).mono ?_
    clear cLV
    rintro e u1 ⟨rfl, y1⟩
    have Y1 : Ext V u1 := (Ext.refl V).drew.trans y1
    have k3 := ext_blk Y1 bP
    obtain ⟨p0, p1, p2, p3, p4, p5, f0, f1, f2, f3, f4, f5⟩ := lst6 k3
    have hHeld2 := And.intro ((ext_blk Y1 bL).cell 0) ((ext_blk Y1 bB).cell 0)
    clear hHeld
    have hHeld := hHeld2
    clear hHeld2
    refine hK _ _ (fun _ _ => hHeld) ?_
    clear hK K
    try simp only [Act.put, List.setIfInBounds_toArray, List.set_cons_zero, List.set_cons_succ]
    refine F_pure (i := 5) (some 63) (ls' := #[true, true, true, true, true, true, false]) rfl rfl (by kernel_rfl) (by kernel_rfl) (by kernel_rfl) (by kernel_rfl) (by rfl) (v := ?_) ?_ ?_
    rotate_left 1
    · intro w; go_simp; try with_reducible rfl
    try simp only [Act.put, List.setIfInBounds_toArray, List.set_cons_zero, List.set_cons_succ]
    refine F_some (is := [6]) (by kernel_rfl) (by simp) (fun i hi => ?_)
    obtain rfl : i = 6 := by simpa using hi
    refine F_way (S := fun w' => w'.cell? ⟨w.heap.size, 0, none⟩ = some (.int .i64 0) ∧ w'.cell? ⟨w.heap.size + 1, 0, none⟩ = some (.slice A b.length c)) (L := 6) (o := _) rfl (ls' := #[true, true, true, true, true, true, true]) (by kernel_rfl) (by rfl) (fun K hK => ?_)
    clear hHeld
    go_simp
    refine hK _ _ (fun h _ => absurd h (by decide)) ?_
    clear hK K
    try simp only [Act.put, List.setIfInBounds_toArray, List.set_cons_zero, List.set_cons_succ]
    refine F_done (by kernel_rfl) ?_
    clear p0 p1 p2 p3 p4 p5 f0 f1 f2 f3 f4 f5
    obtain ⟨U, hU⟩ : ∃ U, ((((((u1.setCell ⟨w.heap.size + 1 + 1 + 1, 0, none⟩ (.int .i64 0)).setCell ⟨w.heap.size + 1 + 1 + 1, 1, none⟩ (.int .i64 (now : Int))).setCell ⟨w.heap.size + 1 + 1 + 1, 2, none⟩ (.int .u64 (H.1 : Int))).setCell ⟨w.heap.size + 1 + 1 + 1, 3, none⟩ (.int .u64 (H.2 : Int))).setCell ⟨w.heap.size + 1 + 1 + 1, 4, none⟩ (.int .u64 0)).setCell ⟨w.heap.size + 1 + 1 + 1, 5, none⟩ (.int .u64 0)) = U := ⟨_, rfl⟩
    try rw [hU]
    have hP : Blk U (w.heap.size + 1 + 1 + 1) 55 #[.int .i64 0, .int .i64 (now : Int), .int .u64 (H.1 : Int), .int .u64 (H.2 : Int), .int .u64 0, .int .u64 0] := by rw [← hU]; exact lblk6 k3 (.int .i64 0) (.int .i64 (now : Int)) (.int .u64 (H.1 : Int)) (.int .u64 (H.2 : Int)) (.int .u64 0) (.int .u64 0)
    have hy : ∀ g' T cs, g' ≠ w.heap.size + 1 + 1 + 1 → Blk V g' T cs → Blk U g' T cs := fun g' T cs hg hk => by rw [← hU]; exact (((((((ext_blk Y1 hk).far (p := ⟨w.heap.size + 1 + 1 + 1, 0, none⟩) hg _).far (p := ⟨w.heap.size + 1 + 1 + 1, 1, none⟩) hg _).far (p := ⟨w.heap.size + 1 + 1 + 1, 2, none⟩) hg _).far (p := ⟨w.heap.size + 1 + 1 + 1, 3, none⟩) hg _).far (p := ⟨w.heap.size + 1 + 1 + 1, 4, none⟩) hg _).far (p := ⟨w.heap.size + 1 + 1 + 1, 5, none⟩) hg _)
    have xU : Ext w U := by rw [← hU]; exact lext6 (HXV.out.trans Y1) (by omega) (.int .i64 0) (.int .i64 (now : Int)) (.int .u64 (H.1 : Int)) (.int .u64 (H.2 : Int)) (.int .u64 0) (.int .u64 0)
    have hLU := hy _ _ _ (by omega) bL
    have hRU := hy _ _ _ (by omega) bR
    have oU : Own2 U w3.heap.size A7 c7 (d.ws.length + 1) (entV (d.ws ++ [⟨b, now, A4, c4⟩])) A4 c4 b.length (bv b) := by rw [← hU]; exact (oV.ext Y1).far6 HG3.out (.int .i64 0) (.int .i64 (now : Int)) (.int .u64 (H.1 : Int)) (.int .u64 (H.2 : Int)) (.int .u64 0) (.int .u64 0)
    clear oV
    clear hy hU k3 Y1 y1 bP bL bR HXV
    have hS14 := fun W (e : Ext U W) => And.intro ((ext_blk e hLU).cell 1) (And.intro ((ext_blk e hP).cell 0) (And.intro ((ext_blk e hP).cell 1) (And.intro ((ext_blk e hP).cell 2) (And.intro ((ext_blk e hP).cell 3) (And.intro ((ext_blk e hP).cell 4) ((ext_blk e hP).cell 5))))))
    have HS14 := Lib.hid hS14
    clear hS14
    go_upto_region 14 with (fail)
    refine F_start (n := 11) (ls := #[false, false, false, false, false, false, false, false, false, false, false]) (fun w' => w'.cell? ⟨w.heap.size, 1, none⟩ = some (.int .u64 (d.key : Int)) ∧ w'.cell? ⟨w.heap.size + 1 + 1 + 1, 0, none⟩ = some (.int .i64 0) ∧ w'.cell? ⟨w.heap.size + 1 + 1 + 1, 1, none⟩ = some (.int .i64 (now : Int)) ∧ w'.cell? ⟨w.heap.size + 1 + 1 + 1, 2, none⟩ = some (.int .u64 (H.1 : Int)) ∧ w'.cell? ⟨w.heap.size + 1 + 1 + 1, 3, none⟩ = some (.int .u64 (H.2 : Int)) ∧ w'.cell? ⟨w.heap.size + 1 + 1 + 1, 4, none⟩ = some (.int .u64 0) ∧ w'.cell? ⟨w.heap.size + 1 + 1 + 1, 5, none⟩ = some (.int .u64 0)) 9 (by kernel_rfl) (by kernel_rfl) (by kernel_rfl) (HS14.out _ (Ext.refl U).drew) (fun hHeld => ?_)
    refine F_pure (i := 0) (some 65) (ls' := #[true, false, false, false, false, false, false, false, false, false, false]) rfl rfl (by kernel_rfl) (by kernel_rfl) (by kernel_rfl) (by kernel_rfl) (by rfl) (v := ?_) ?_ ?_
    rotate_left 1
    · intro w; go_simp; try with_reducible rfl
    try simp only [Act.put, List.setIfInBounds_toArray, List.set_cons_zero, List.set_cons_succ]
    refine F_take (i := 1) (some 66) (ls' := #[true, true, false, false, false, false, false, false, false, false, false]) rfl rfl (by kernel_rfl) (by kernel_rfl) (by kernel_rfl) (by kernel_rfl) (by kernel_rfl) (by rfl) (v := ?_) ?_ hHeld ?_
    rotate_left 1
    · intro w hSw; (try dsimp only at hSw); go_simp; try with_reducible rfl
    try simp only [Act.put, List.setIfInBounds_toArray, List.set_cons_zero, List.set_cons_succ]
    refine F_take (i := 2) (some 67) (ls' := #[true, true, true, false, false, false, false, false, false, false, false]) rfl rfl (by kernel_rfl) (by kernel_rfl) (by kernel_rfl) (by kernel_rfl) (by kernel_rfl) (by rfl) (v := ?_) ?_ hHeld ?_
    rotate_left 1
    · intro w hSw; (try dsimp only at hSw); go_simp; try with_reducible rfl
    try simp only [Act.put, List.setIfInBounds_toArray, List.set_cons_zero, List.set_cons_succ]
    refine F_some (is := [3]) (by kernel_rfl) (by simp) (fun i hi => ?_)
    obtain rfl : i = 3 := by simpa using hi
    refine F_way (S := fun w' => w'.cell? ⟨w.heap.size, 1, none⟩ = some (.int .u64 (d.key : Int)) ∧ w'.cell? ⟨w.heap.size + 1 + 1 + 1, 0, none⟩ = some (.int .i64 0) ∧ w'.cell? ⟨w.heap.size + 1 + 1 + 1, 1, none⟩ = some (.int .i64 (now : Int)) ∧ w'.cell? ⟨w.heap.size + 1 + 1 + 1, 2, none⟩ = some (.int .u64 (H.1 : Int)) ∧ w'.cell? ⟨w.heap.size + 1 + 1 + 1, 3, none⟩ = some (.int .u64 (H.2 : Int)) ∧ w'.cell? ⟨w.heap.size + 1 + 1 + 1, 4, none⟩ = some (.int .u64 0) ∧ w'.cell? ⟨w.heap.size + 1 + 1 + 1, 5, none⟩ = some (.int .u64 0)) (L := 9) (o := _) rfl (ls' := #[true, true, true, true, false, false, false, false, false, false, false]) (by kernel_rfl) (by rfl) (fun K hK => ?_)
    go_simp
    go_at_call 67
    refine (cO _).mono ?_
    clear cO
    rintro e v1 ⟨A2, c2, rfl, hc2, hr2, z1⟩
    have Z1 : Ext U v1 := (Ext.refl U).drew.trans z1
    have hHeld2 := HS14.out _ Z1
    clear hHeld
    have hHeld := hHeld2
    clear hHeld2
    refine hK _ _ (fun _ _ => hHeld) ?_
    clear hK K
    try simp only [Act.put, List.setIfInBounds_toArray, List.set_cons_zero, List.set_cons_succ]
    refine F_some (is := [4]) (by kernel_rfl) (by simp) (fun i hi => ?_)
    obtain rfl : i = 4 := by simpa using hi
    refine F_way (S := fun w' => w'.cell? ⟨w.heap.size, 1, none⟩ = some (.int .u64 (d.key : Int)) ∧ w'.cell? ⟨w.heap.size + 1 + 1 + 1, 0, none⟩ = some (.int .i64 0) ∧ w'.cell? ⟨w.heap.size + 1 + 1 + 1, 1, none⟩ = some (.int .i64 (now : Int)) ∧ w'.cell? ⟨w.heap.size + 1 + 1 + 1, 2, none⟩ = some (.int .u64 (H.1 : Int)) ∧ w'.cell? ⟨w.heap.size + 1 + 1 + 1, 3, none⟩ = some (.int .u64 (H.2 : Int)) ∧ w'.cell? ⟨w.heap.size + 1 + 1 + 1, 4, none⟩ = some (.int .u64 0) ∧ w'.cell? ⟨w.heap.size + 1 + 1 + 1, 5, none⟩ = some (.int .u64 0)) (L := 9) (o := _) rfl (ls' := #[true, true, true, true, true, false, false, false, false, false, false]) (by kernel_rfl) (by rfl) (fun K hK => ?_)
    go_simp
    go_at_call 41
    refine (cS A2 c2 hc2 v1 hr2).mono ?_
    clear cS
    rintro e v2 ⟨rfl, z2⟩
    have Z2 := Z1.trans z2
    have k4 := ext_blk Z2 hP
    obtain ⟨p0, p1, p2, p3, p4, p5, f0, f1, f2, f3, f4, f5⟩ := lst6 k4
    have hHeld2 := HS14.out _ Z2
    clear hHeld
    have hHeld := hHeld2
    clear hHeld2
    refine hK _ _ (fun _ _ => hHeld) ?_
    clear hK K
    try simp only [Act.put, List.setIfInBounds_toArray, List.set_cons_zero, List.set_cons_succ]
    refine F_pure (i := 5) (some 64) (ls' := #[true, true, true, true, true, true, false, false, false, false, false]) rfl rfl (by kernel_rfl) (by kernel_rfl) (by kernel_rfl) (by kernel_rfl) (by rfl) (v := ?_) ?_ ?_
    rotate_left 1
    · intro w; go_simp; try with_reducible rfl
    try simp only [Act.put, List.setIfInBounds_toArray, List.set_cons_zero, List.set_cons_succ]
    refine F_pure (i := 6) (some 70) (ls' := #[true, true, true, true, true, true, true, false, false, false, false]) rfl rfl (by kernel_rfl) (by kernel_rfl) (by kernel_rfl) (by kernel_rfl) (by rfl) (v := ?_) ?_ ?_
    rotate_left 1
    · intro w; go_simp; try with_reducible rfl
    try simp only [Act.put, List.setIfInBounds_toArray, List.set_cons_zero, List.set_cons_succ]
    refine F_pure (i := 7) (some 71) (ls' := #[true, true, true, true, true, true, true, true, false, false, false]) rfl rfl (by kernel_rfl) (by kernel_rfl) (by kernel_rfl) (by kernel_rfl) (by rfl) (v := ?_) ?_ ?_
    rotate_left 1
    · intro w; go_simp; try with_reducible rfl
    try simp only [Act.put, List.setIfInBounds_toArray, List.set_cons_zero, List.set_cons_succ]
    refine F_pure (i := 8) (some 72) (ls' := #[true, true, true, true, true, true, true, true, true, false, false]) rfl rfl (by kernel_rfl) (by kernel_rfl) (by kernel_rfl) (by kernel_rfl) (by rfl) (v := ?_) ?_ ?_
    rotate_left 1
    · intro w; go_simp; try with_reducible rfl
    try simp only [Act.put, List.setIfInBounds_toArray, List.set_cons_zero, List.set_cons_succ]
    refine F_some (is := [9]) (by kernel_rfl) (by simp) (fun i hi => ?_)
    obtain rfl : i = 9 := by simpa using hi
    refine F_way (S := fun w' => w'.cell? ⟨w.heap.size, 1, none⟩ = some (.int .u64 (d.key : Int)) ∧ w'.cell? ⟨w.heap.size + 1 + 1 + 1, 0, none⟩ = some (.int .i64 0) ∧ w'.cell? ⟨w.heap.size + 1 + 1 + 1, 1, none⟩ = some (.int .i64 (now : Int)) ∧ w'.cell? ⟨w.heap.size + 1 + 1 + 1, 2, none⟩ = some (.int .u64 (H.1 : Int)) ∧ w'.cell? ⟨w.heap.size + 1 + 1 + 1, 3, none⟩ = some (.int .u64 (H.2 : Int)) ∧ w'.cell? ⟨w.heap.size + 1 + 1 + 1, 4, none⟩ = some (.int .u64 0) ∧ w'.cell? ⟨w.heap.size + 1 + 1 + 1, 5, none⟩ = some (.int .u64 0)) (L := 9) (o := _) rfl (ls' := #[true, true, true, true, true, true, true, true, true, true, false]) (by kernel_rfl) (by rfl) (fun K hK => ?_)
    clear hHeld
    go_simp
    refine hK _ _ (fun h _ => absurd h (by decide)) ?_
    clear hK K
    try simp only [Act.put, List.setIfInBounds_toArray, List.set_cons_zero, List.set_cons_succ]
    refine F_some (is := [10]) (by kernel_rfl) (by simp) (fun i hi => ?_)
    obtain rfl : i = 10 := by simpa using hi
    refine F_way (S := fun w' => w'.cell? ⟨w.heap.size, 1, none⟩ = some (.int .u64 (d.key : Int)) ∧ w'.cell? ⟨w.heap.size + 1 + 1 + 1, 0, none⟩ = some (.int .i64 0) ∧ w'.cell? ⟨w.heap.size + 1 + 1 + 1, 1, none⟩ = some (.int .i64 (now : Int)) ∧ w'.cell? ⟨w.heap.size + 1 + 1 + 1, 2, none⟩ = some (.int .u64 (H.1 : Int)) ∧ w'.cell? ⟨w.heap.size + 1 + 1 + 1, 3, none⟩ = some (.int .u64 (H.2 : Int)) ∧ w'.cell? ⟨w.heap.size + 1 + 1 + 1, 4, none⟩ = some (.int .u64 0) ∧ w'.cell? ⟨w.heap.size + 1 + 1 + 1, 5, none⟩ = some (.int .u64 0)) (L := 9) (o := _) rfl (ls' := #[true, true, true, true, true, true, true, true, true, true, true]) (by kernel_rfl) (by rfl) (fun K hK => ?_)
    go_simp
    refine hK _ _ (fun h _ => absurd h (by decide)) ?_
    clear hK K
    try simp only [Act.put, List.setIfInBounds_toArray, List.set_cons_zero, List.set_cons_succ]
    refine F_done (by kernel_rfl) ?_
    clear p0 p1 p2 p3 p4 p5 f0 f1 f2 f3 f4 f5
    have ne1 : w.heap.size ≠ w.heap.size + 1 + 1 + 1 := by omega
    have ne2 : w.heap.size + 1 + 1 ≠ w.heap.size + 1 + 1 + 1 := by omega
    obtain ⟨T, hT⟩ : ∃ T, (v2.setCell ⟨w.heap.size + 1 + 1 + 1, 4, none⟩ (.int .u64 (E : Int))).setCell ⟨w.heap.size + 1 + 1 + 1, 5, none⟩ (.int .u64 (S : Int)) = T := ⟨_, rfl⟩
    rw [hT]
    have tP : Blk T (w.heap.size + 1 + 1 + 1) 55 #[.int .i64 0, .int .i64 (now : Int), .int .u64 (H.1 : Int), .int .u64 (H.2 : Int), .int .u64 (E : Int), .int .u64 (S : Int)] := by rw [← hT]; exact (k4.set_ 4 (.int .u64 (E : Int))).set_ 5 (.int .u64 (S : Int))
    have tL : Blk T w.heap.size 29 #[.int .i64 0, .int .u64 (d.key : Int), .int .i64 20, .slice d.lA d.ls.length d.lc, .slice none 0 0, .slice A7 (d.ws.length + 1) c7] := by rw [← hT]; exact ((ext_blk Z2 hLU).far (p := ⟨w.heap.size + 1 + 1 + 1, 4, none⟩) ne1 _).far (p := ⟨w.heap.size + 1 + 1 + 1, 5, none⟩) ne1 _
    have tR : Blk T (w.heap.size + 1 + 1) 29 #[.int .i64 0, .int .u64 0, .int .i64 0, .slice none 0 0, .slice none 0 0, .slice none 0 0] := by rw [← hT]; exact ((ext_blk Z2 hRU).far (p := ⟨w.heap.size + 1 + 1 + 1, 4, none⟩) ne2 _).far (p := ⟨w.heap.size + 1 + 1 + 1, 5, none⟩) ne2 _
    have xT : Ext w T := by rw [← hT]; exact (((xU.trans Z2).setCell (p := ⟨w.heap.size + 1 + 1 + 1, 4, none⟩) (by show w.heap.size ≤ w.heap.size + 1 + 1 + 1; omega) _).setCell (p := ⟨w.heap.size + 1 + 1 + 1, 5, none⟩) (by show w.heap.size ≤ w.heap.size + 1 + 1 + 1; omega) _)
    have oT : Own2 T w3.heap.size A7 c7 (d.ws.length + 1) (entV (d.ws ++ [⟨b, now, A4, c4⟩])) A4 c4 b.length (bv b) := by rw [← hT]; exact ((oU.ext Z2).far HG3.out 4 _).far HG3.out 5 _
    have OT := Lib.hid oT
    clear oU oT
    have HTP := Lib.hid tP
    have HTR := Lib.hid tR
    have HXT2 := Lib.hid xT
    obtain ⟨l0, l1, l2, l3, l4, l5, -, -, -, -, -, -⟩ := lst6 tL
    obtain ⟨r0, r1, r2, r3, r4, r5, f0, f1, f2, f3, f4, f5⟩ := lst6 tR
    obtain ⟨p0, p1, p2, p3, p4, p5, s0, s1, s2, s3, s4, s5⟩ := lst6 tP
    clear tP tL tR xT hT k4 Z1 Z2 z1 z2 hLU hRU hP xU
    go_upto_region 15 with (fail)
    go_region
    clear l0 l1 l2 l3 l4 l5 r0 r1 r2 r3 r4 r5 f0 f1 f2 f3 f4 f5 p0 p1 p2 p3 p4 p5 s0 s1 s2 s3 s4 s5
    have hR := (lfar6 (lblk6 HTR.out (.int .i64 0) (.int .u64 (d.key : Int)) (.int .i64 20) (.slice d.lA d.ls.length d.lc) (.slice none 0 0) (.slice A7 (d.ws.length + 1) c7)) ne2 (.int .i64 0) (.int .i64 (now : Int)) (.int .u64 (H.1 : Int)) (.int .u64 (H.2 : Int)) (.int .u64 (E : Int)) (.int .u64 (S : Int))).drew
    have hP := (lblk6 (lfar6 HTP.out (Ne.symm ne2) (.int .i64 0) (.int .u64 (d.key : Int)) (.int .i64 20) (.slice d.lA d.ls.length d.lc) (.slice none 0 0) (.slice A7 (d.ws.length + 1) c7)) (.int .i64 0) (.int .i64 (now : Int)) (.int .u64 (H.1 : Int)) (.int .u64 (H.2 : Int)) (.int .u64 (E : Int)) (.int .u64 (S : Int))).drew
    have hxx := (lext6 (lext6 (g := w.heap.size + 1 + 1) HXT2.out (by omega) (.int .i64 0) (.int .u64 (d.key : Int)) (.int .i64 20) (.slice d.lA d.ls.length d.lc) (.slice none 0 0) (.slice A7 (d.ws.length + 1) c7)) (g := w.heap.size + 1 + 1 + 1) (by omega) (.int .i64 0) (.int .i64 (now : Int)) (.int .u64 (H.1 : Int)) (.int .u64 (H.2 : Int)) (.int .u64 (E : Int)) (.int .u64 (S : Int))).drew
    obtain ⟨r0, r1, r2, r3, r4, r5, -, -, -, -, -, -⟩ := lst6 hR
    obtain ⟨p0, p1, p2, p3, p4, p5, -, -, -, -, -, -⟩ := lst6 hP
    have HXX := Lib.hid hxx
    clear hR hP hxx
    go_wp2
    have oF := ((OT.out.far6 HB2B.out (.int .i64 0) (.int .u64 (d.key : Int)) (.int .i64 20) (.slice d.lA d.ls.length d.lc) (.slice none 0 0) (.slice A7 (d.ws.length + 1) c7)).far6 HG3.out (.int .i64 0) (.int .i64 (now : Int)) (.int .u64 (H.1 : Int)) (.int .u64 (H.2 : Int)) (.int .u64 (E : Int)) (.int .u64 (S : Int))).ext (Ext.refl _).drew
    obtain ⟨hF1, hF2⟩ := addX_ok (A := A7) (c := c7) (A4 := A4) (c4 := c4) HL.out HXX.out HOK.out HFW.out.2.1 HFW.out.1 HFE.out HC7.out (Reads.of_own oF.1) HC4.out (Reads.of_own oF.2)
    have hw3 : w.heap.size ≤ w3.heap.size := (HX0.out.trans HX3.out).size
    have hln : (d.ws ++ [(⟨b, now, A4, c4⟩ : EntX)]).length = d.ws.length + 1 := by simp
    refine bodyPost_ret (v := (.tuple #[.agg #[.int .i64 0, .int .u64 (d.key : Int), .int .i64 20, .slice d.lA d.ls.length d.lc, .slice none 0 0, .slice A7 (d.ws.length + 1) c7], .agg #[.int .i64 0, .int .i64 (now : Int), .int .u64 (H.1 : Int), .int .u64 (H.2 : Int), .int .u64 (E : Int), .int .u64 (S : Int)], .int .i64 0])) (by simp [results, Tryz.results48, go_sem, r0, r1, r2, r3, r4, r5, p0, p1, p2, p3, p4, p5]) rfl ⟨addX d ⟨b, now, A4, c4⟩ A7 c7, ?_, hF1, rfl, rfl, ?_, fun p hp hk => addX_lies hp (fun ad e => hk _ (Nat.le_trans hw3 (own_ge oF.1 ad.block (by rw [e]; rfl)))) (fun ad e => hk _ (Nat.le_trans hw3 (own_ge oF.2 ad.block (by have e' : A4 = some ad := e; rw [e']; rfl)))), HXX.out⟩
    · rw [← hln]; rfl
    · rw [hF2, HLG.out]
set_option maxRecDepth 100000 in
set_option maxHeartbeats 4000000 in
theorem lAdd_bad (d : LogX) (now : Nat) (A : Option Addr) (c : Nat) (w : World) (h : LogW w w.heap.size d) :
    Calls Tryz.prog 48 #[logV d, .slice A 0 c, .int .i64 now] w fun e w' => e = .returned (.tuple #[.agg #[.int .i64 0, .int .u64 0, .int .i64 0, .slice none 0 0, .slice none 0 0, .slice none 0 0], .agg #[.int .i64 0, .int .i64 0, .int .u64 0, .int .u64 0, .int .u64 0, .int .u64 0], .int .i64 1]) ∧ Ext w w' := by
  obtain ⟨W0, e0, b0, b1, b2, b3, x0, s0⟩ := boxesA w #[.int .i64 0, .int .u64 (d.key : Int), .int .i64 20, .slice d.lA d.ls.length d.lc, .slice none 0 0, .slice d.wA d.ws.length d.wc] #[.slice A 0 c] #[.int .i64 0, .int .u64 0, .int .i64 0, .slice none 0 0, .slice none 0 0, .slice none 0 0] #[.int .i64 0, .int .i64 0, .int .u64 0, .int .u64 0, .int .u64 0, .int .u64 0] 29 22 29 55
  have cC := lCheck_any d W0 (h.ext x0)
  have cB := fun W => isBody_any A 0 c (by omega) W
  rw [decide_eq_false (by omega)] at cB
  unfold logV at cC ⊢
  obtain ⟨m0, m1, m2, m3, m4, m5, -, -, -, -, -, -⟩ := lst6 b0
  have n0 := b1.cell 0
  have HB1 := Lib.hid b1
  have HB2 := Lib.hid b2
  have HB3 := Lib.hid b3
  have HX0 := Lib.hid x0
  clear b0 b1 b2 b3 h x0 s0
  go_enter Tryz.func48, Tryz.ntmps48
  go_upto_region 1 with (fail)
  try rw [e0]
  clear e0
  go_upto_region 5 with (first
    | (go_at_call 60; refine cC.mono ?_; clear cC m0 m1 m2 m3 m4 m5 n0; rintro e w1 ⟨rfl, x1⟩; have n0 := (ext_blk x1 HB1.out).cell 0)
    | (go_at_call 122; refine (cB _).mono ?_; clear cB; rintro e w' ⟨rfl, rfl⟩))
  have k2 := ext_blk x1 HB2.out
  have k3 := ext_blk x1 HB3.out
  have ne2 : w.heap.size + 1 + 1 ≠ w.heap.size + 1 + 1 + 1 := by omega
  obtain ⟨-, -, -, -, -, -, f0, f1, f2, f3, f4, f5⟩ := lst6 k2
  obtain ⟨-, -, -, -, -, -, g0, g1, g2, g3, g4, g5⟩ := lst6 k3
  obtain ⟨q0, q1, q2, q3, q4, q5, -⟩ := lst6 k2
  obtain ⟨u0, u1, u2, u3, u4, u5, -⟩ := lst6 k3
  have hR := lfar6 (lblk6 k2 (.int .i64 0) (.int .u64 0) (.int .i64 0) (.slice none 0 0) (.slice none 0 0) (.slice none 0 0)) ne2 (.int .i64 0) (.int .i64 0) (.int .u64 0) (.int .u64 0) (.int .u64 0) (.int .u64 0)
  have hP := lblk6 (lfar6 k3 (Ne.symm ne2) (.int .i64 0) (.int .u64 0) (.int .i64 0) (.slice none 0 0) (.slice none 0 0) (.slice none 0 0)) (.int .i64 0) (.int .i64 0) (.int .u64 0) (.int .u64 0) (.int .u64 0) (.int .u64 0)
  have hxx := lext6 (lext6 (g := w.heap.size + 1 + 1) (HX0.out.trans x1) (by omega) (.int .i64 0) (.int .u64 0) (.int .i64 0) (.slice none 0 0) (.slice none 0 0) (.slice none 0 0)) (g := w.heap.size + 1 + 1 + 1) (by omega) (.int .i64 0) (.int .i64 0) (.int .u64 0) (.int .u64 0) (.int .u64 0) (.int .u64 0)
  have HXX := Lib.hid hxx
  have HR := Lib.hid hR
  have HP := Lib.hid hP
  clear k2 k3 hR hP hxx x1
  go_wp2
  obtain ⟨r0, r1, r2, r3, r4, r5, -, -, -, -, -, -⟩ := lst6 HR.out
  obtain ⟨p0, p1, p2, p3, p4, p5, -, -, -, -, -, -⟩ := lst6 HP.out
  exact bodyPost_ret (v := .tuple #[.agg #[.int .i64 0, .int .u64 0, .int .i64 0, .slice none 0 0, .slice none 0 0, .slice none 0 0], .agg #[.int .i64 0, .int .i64 0, .int .u64 0, .int .u64 0, .int .u64 0, .int .u64 0], .int .i64 1]) (by simp [results, Tryz.results48, go_sem, r0, r1, r2, r3, r4, r5, p0, p1, p2, p3, p4, p5]) rfl ⟨rfl, HXX.out⟩
end Go.Proofs.YtfpmfegmehbfbaaGreatDoor
