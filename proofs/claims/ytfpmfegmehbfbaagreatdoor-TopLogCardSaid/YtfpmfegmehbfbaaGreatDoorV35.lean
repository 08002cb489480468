/- Parts of the proofs, put together: Tg1, Tg2, Mon, Mon2. -/
import Derived.Test.YtfpmfegmehbfbaaGreatDoorV15
import Derived.Test.YtfpmfegmehbfbaaGreatDoorV20
import Derived.Test.YtfpmfegmehbfbaaGreatDoorV34
import Derived.Test.YtfpmfegmehbfbaaGreatDoorV40
/- TopGrow, TopLog, walked: a log that is filled. -/
namespace Go.Proofs.YtfpmfegmehbfbaaGreatDoor
set_option linter.unusedVariables false
set_option linter.unusedSimpArgs false
set_option linter.unusedSimpArgs false
open Go.RowKit Go.Shelf Go.Maps

/-- Promises: their cells. -/
def prC (k : Nat) (p : List Nat × Nat) : List Value := [.int .i64 0, .int .i64 (p.2 : Int), .int .u64 ((hSum (leafB p.1)).1 : Int), .int .u64 ((hSum (leafB p.1)).2 : Int), .int .u64 (sgE k (promL p.2 (hSum (leafB p.1))) : Nat), .int .u64 (sgS k (promL p.2 (hSum (leafB p.1))) : Nat)]
def promsV (k : Nat) (bs : List (List Nat)) (ts : List Nat) : List Value := (bs.zip ts).flatMap (prC k)
theorem promsV_snoc (k : Nat) (bs : List (List Nat)) (ts : List Nat) (b : List Nat) (t : Nat) (h : bs.length = ts.length) : promsV k (bs ++ [b]) (ts ++ [t]) = promsV k bs ts ++ prC k (b, t) := by
  unfold promsV
  rw [List.zip_append h]
  simp
theorem Tryz.infoPr : (Tryz.prog.info? 55).map (fun i => (i.zero, i.size, i.bytes)) = some (some (.agg #[.int .i64 0, .int .i64 0, .int .u64 0, .int .u64 0, .int .u64 0, .int .u64 0]), 6, 48) := by kernel_rfl
theorem reads_newP (W : World) (T : TypeId) (xs : List Value) : Reads (W.alloc (.cells xs.toArray T)) (W.alloc (.cells xs.toArray T)).heap.size xs.length (some ⟨W.heap.size, 0, none⟩) 1 xs :=
  ⟨by simp, fun _ => ⟨_, rfl, by simp, fun j u hj => by
    rw [show (⟨W.heap.size, 0, none⟩ : Addr).add j = ⟨W.heap.size, j, none⟩ by simp [Addr.add]; exact fun h => h.symm, (Blk.new W T xs.toArray).cell j]
    simpa using hj⟩⟩
theorem boxesB (w : World) (x y : Array Value) (T U : TypeId) : ∃ W, (w.alloc (.cells x T)).alloc (.cells y U) = W ∧ Blk W w.heap.size T x ∧ Blk W (w.heap.size + 1) U y ∧ Ext w W := by
  refine ⟨_, rfl, (Blk.new w T x).alloc _, ?_, ((Ext.refl w).alloc _).alloc _⟩
  have := Blk.new (w.alloc (.cells x T)) U y
  rwa [World.size_alloc] at this
theorem own_apartP {w : World} {base : Nat} {e : TypeId} {size n : Nat} {v : Value} {xs : List Value} (h : w.ownsRow base e size v n xs) {k : Nat} (hk : k < base) : some k ≠ v.ownBlock := fun e => by have := (h.lt k e.symm).1; omega
/-- While a log is filled. -/
structure FilS (w : World) (g K : Nat) (bs : List (List Nat)) (j : Nat) (d : LogX) (v : Value) (W : World) : Prop where
  b4 : Blk W w.heap.size 29 #[.int .i64 0, .int .u64 0, .int .i64 0, .slice none 0 0, .slice none 0 0, .slice none 0 0]
  b7 : Blk W g 29 #[.int .i64 0, .int .u64 (d.key : Int), .int .i64 20, .slice d.lA d.ls.length d.lc, .slice none 0 0, .slice d.wA d.ws.length d.wc]
  lg : LogW W W.heap.size d
  li : LogL (fun k => g < k ∧ some k ≠ v.ownBlock) d
  key : d.key = K
  ls : d.ls = []
  en : d.all.map EntX.ent = (lgFill (bs.take j)).1
  ow : W.ownsRow (g + 1) 55 6 v j (promsV K (bs.take j) (lgFill (bs.take j)).2)
  ex : Ext w W
  sz : g + 1 ≤ W.heap.size
  hw : w.heap.size < g
theorem FilS.next {w wr VA V2 w5 : World} {g K j : Nat} {bs : List (List Nat)} {d d' : LogX} {v v5 : Value} {p : List Nat} {x : Obj} (h : FilS w g K bs j d v wr) (hp : bs[j]? = some p) (X : Ext wr VA) (hL : LogW VA VA.heap.size d') (hk : d'.key = d.key) (hls : d'.ls = d.ls)
    (hen : d'.all.map EntX.ent = (lgAdd (d.all.map EntX.ent) p j).1) (hlies : ∀ q : Nat → Prop, LogL q d → (∀ k, wr.heap.size ≤ k → q k) → LogL q d')
    (hV2 : ((((((VA.setCell ⟨g, 0, none⟩ (.int .i64 0)).setCell ⟨g, 1, none⟩ (.int .u64 (d'.key : Int))).setCell ⟨g, 2, none⟩ (.int .i64 20)).setCell ⟨g, 3, none⟩ (.slice d'.lA d'.ls.length d'.lc)).setCell ⟨g, 4, none⟩ (.slice none 0 0)).setCell ⟨g, 5, none⟩ (.slice d'.wA d'.ws.length d'.wc)) = V2)
    (hown : w5.ownsRow (g + 1) 55 6 v5 (j + 1) (promsV K (bs.take j) (lgFill (bs.take j)).2 ++ prC K (p, (lgAdd (d.all.map EntX.ent) p j).2))) (hg : (V2.alloc x).grownBy w5 v.ownBlock) (hv : v5.ownBlock = v.ownBlock ∨ v5.ownBlock = some (V2.alloc x).heap.size) : FilS w g K bs (j + 1) d' v5 w5 := by
  have hjl := (List.getElem?_eq_some_iff.1 hp).1
  have htl : (bs.take j).length = j := by rw [List.length_take]; omega
  have hlp : LogL (fun k => g < k ∧ some k ≠ v.ownBlock) d' := hlies _ h.li fun k hk => ⟨by have := h.sz; omega, fun e => by have := (h.ow.lt k e.symm).2; omega⟩
  have hs2 : V2.heap.size = VA.heap.size := by rw [← hV2]; simp
  have l2 : LogW V2 V2.heap.size d' := by
    rw [hs2, ← hV2]
    exact hL.off6 (hlp.mono fun k hk e => by omega) (.int .i64 0) (.int .u64 (d'.key : Int)) (.int .i64 20) (.slice d'.lA d'.ls.length d'.lc) (.slice none 0 0) (.slice d'.wA d'.ws.length d'.wc)
  have l3 := l2.ext ((Ext.refl V2).alloc x)
  have l5 := (l3.grown hg (hlp.mono fun k hk => hk.2)).more hg.size
  have z4 : Blk V2 w.heap.size 29 #[.int .i64 0, .int .u64 0, .int .i64 0, .slice none 0 0, .slice none 0 0, .slice none 0 0] := by rw [← hV2]; exact lfar6 (ext_blk X h.b4) (by have := h.hw; omega) (.int .i64 0) (.int .u64 (d'.key : Int)) (.int .i64 20) (.slice d'.lA d'.ls.length d'.lc) (.slice none 0 0) (.slice d'.wA d'.ws.length d'.wc)
  have z7 : Blk V2 g 29 #[.int .i64 0, .int .u64 (d'.key : Int), .int .i64 20, .slice d'.lA d'.ls.length d'.lc, .slice none 0 0, .slice d'.wA d'.ws.length d'.wc] := by rw [← hV2]; exact lblk6 (ext_blk X h.b7) (.int .i64 0) (.int .u64 (d'.key : Int)) (.int .i64 20) (.slice d'.lA d'.ls.length d'.lc) (.slice none 0 0) (.slice d'.wA d'.ws.length d'.wc)
  have xw : Ext w V2 := by rw [← hV2]; exact lext6 (h.ex.trans X) (by have := h.hw; omega) (.int .i64 0) (.int .u64 (d'.key : Int)) (.int .i64 20) (.slice d'.lA d'.ls.length d'.lc) (.slice none 0 0) (.slice d'.wA d'.ws.length d'.wc)
  have hfs : lgFill (bs.take (j + 1)) = lgStep (lgFill (bs.take j)) p := fill_take hp
  have hfl : (lgFill (bs.take j)).2.length = j := by rw [fill_len, htl]
  have hst : lgStep (lgFill (bs.take j)) p = ((lgAdd (d.all.map EntX.ent) p j).1, (lgFill (bs.take j)).2 ++ [(lgAdd (d.all.map EntX.ent) p j).2]) := by
    unfold lgStep; rw [hfl, ← h.en]
  refine ⟨(z4.alloc x).grown hg (own_apartP h.ow (by have := h.hw; omega)), (z7.alloc x).grown hg (own_apartP h.ow (by omega)), l5, ?_, hk.trans h.key, hls.trans h.ls, ?_, ?_, ?_, ?_, h.hw⟩
  · rcases hv with hv | hv
    · rw [hv]; exact hlp
    · rw [hv]
      refine (hlp.both l3.lies).mono fun k hk => ⟨hk.1.1, fun e => ?_⟩
      have := hk.2
      cases e
      omega
  · rw [hfs, hst]; exact hen
  · rw [hfs, hst, List.take_add_one, hp]
    show w5.ownsRow _ _ _ _ _ (promsV K (bs.take j ++ [p]) ((lgFill (bs.take j)).2 ++ [_]))
    rw [promsV_snoc _ _ _ _ _ (by rw [htl, hfl])]
    exact hown
  · exact Ext.of ((xw.alloc x).out.grown hg (xw.alloc x).size (fun k hk => by have := own_ge h.ow k hk; have := h.hw; omega))
  · have h1 := hg.size
    have h2 := h.sz
    have h3 := X.size
    simp at h1
    omega
set_option maxHeartbeats 2000000 in
theorem FilS.fin {w wr w3 W' : World} {g K n c c2 : Nat} {bs : List (List Nat)} {d : LogX} {A A2 : Option Addr} (h : FilS w g K bs bs.length d (.slice A n c) wr) (hn : n = bs.length) (x3 : Ext wr w3) (hL : LogW w3 w3.heap.size (mrgL d A2 c2)) (hA : ∀ ad, A2 = some ad → wr.heap.size ≤ ad.block)
    (hW : ((((((((((((w3.setCell ⟨g, 0, none⟩ (.int .i64 0)).setCell ⟨g, 1, none⟩ (.int .u64 ((mrgL d A2 c2).key : Int))).setCell ⟨g, 2, none⟩ (.int .i64 20)).setCell ⟨g, 3, none⟩ (.slice (mrgL d A2 c2).lA (mrgL d A2 c2).ls.length (mrgL d A2 c2).lc)).setCell ⟨g, 4, none⟩ (.slice none 0 0)).setCell ⟨g, 5, none⟩ (.slice (mrgL d A2 c2).wA (mrgL d A2 c2).ws.length (mrgL d A2 c2).wc)).setCell ⟨w.heap.size, 0, none⟩ (.int .i64 0)).setCell ⟨w.heap.size, 1, none⟩ (.int .u64 ((mrgL d A2 c2).key : Int))).setCell ⟨w.heap.size, 2, none⟩ (.int .i64 20)).setCell ⟨w.heap.size, 3, none⟩ (.slice (mrgL d A2 c2).lA (mrgL d A2 c2).ls.length (mrgL d A2 c2).lc)).setCell ⟨w.heap.size, 4, none⟩ (.slice none 0 0)).setCell ⟨w.heap.size, 5, none⟩ (.slice (mrgL d A2 c2).wA (mrgL d A2 c2).ws.length (mrgL d A2 c2).wc)) = W') :
    LogW W' W'.heap.size (mrgL d A2 c2) ∧ (mrgL d A2 c2).key = K ∧ (mrgL d A2 c2).ls.map EntX.ent = (lgFill bs).1 ∧ Reads W' W'.heap.size 6 A bs.length (promsV K bs (lgFill bs).2) ∧ Ext w W' ∧ Blk W' w.heap.size 29 #[.int .i64 0, .int .u64 ((mrgL d A2 c2).key : Int), .int .i64 20, .slice (mrgL d A2 c2).lA (mrgL d A2 c2).ls.length (mrgL d A2 c2).lc, .slice none 0 0, .slice (mrgL d A2 c2).wA (mrgL d A2 c2).ws.length (mrgL d A2 c2).wc] := by
  subst hn
  have hli : LogL (fun k => g < k) (mrgL d A2 c2) := by
    refine ⟨fun _ ad e => by have := hA ad e; have := h.sz; omega, fun h0 => absurd h0 (Nat.lt_irrefl 0), fun x hx h0 ad e => ?_⟩
    have ha : (mrgL d A2 c2).all = d.all := by unfold LogX.all mrgL; simp [LogX.all]
    rw [ha] at hx
    exact (h.li.2.2 x hx h0 ad e).1
  have hs : W'.heap.size = w3.heap.size := by rw [← hW]; simp
  have hhw := h.hw
  refine ⟨?_, h.key, ?_, ?_, ?_, ?_⟩
  · rw [hs, ← hW]
    exact (hL.off6 (hli.mono fun k hk e => by omega) (.int .i64 0) (.int .u64 ((mrgL d A2 c2).key : Int)) (.int .i64 20) (.slice (mrgL d A2 c2).lA (mrgL d A2 c2).ls.length (mrgL d A2 c2).lc) (.slice none 0 0) (.slice (mrgL d A2 c2).wA (mrgL d A2 c2).ws.length (mrgL d A2 c2).wc)).off6 (hli.mono fun k hk e => by omega) (.int .i64 0) (.int .u64 ((mrgL d A2 c2).key : Int)) (.int .i64 20) (.slice (mrgL d A2 c2).lA (mrgL d A2 c2).ls.length (mrgL d A2 c2).lc) (.slice none 0 0) (.slice (mrgL d A2 c2).wA (mrgL d A2 c2).ws.length (mrgL d A2 c2).wc)
  · have := h.en
    rw [List.take_length] at this
    exact this
  · have ho := own_farL6 (own_farL6 (own_ext h.ow x3) (g := g) (by omega) (.int .i64 0) (.int .u64 ((mrgL d A2 c2).key : Int)) (.int .i64 20) (.slice (mrgL d A2 c2).lA (mrgL d A2 c2).ls.length (mrgL d A2 c2).lc) (.slice none 0 0) (.slice (mrgL d A2 c2).wA (mrgL d A2 c2).ws.length (mrgL d A2 c2).wc)) (g := w.heap.size) (by omega) (.int .i64 0) (.int .u64 ((mrgL d A2 c2).key : Int)) (.int .i64 20) (.slice (mrgL d A2 c2).lA (mrgL d A2 c2).ls.length (mrgL d A2 c2).lc) (.slice none 0 0) (.slice (mrgL d A2 c2).wA (mrgL d A2 c2).ws.length (mrgL d A2 c2).wc)
    rw [hW, List.take_length] at ho
    exact Reads.of_own ho
  · rw [← hW]; exact lext6 (lext6 (h.ex.trans x3) (by omega) (.int .i64 0) (.int .u64 ((mrgL d A2 c2).key : Int)) (.int .i64 20) (.slice (mrgL d A2 c2).lA (mrgL d A2 c2).ls.length (mrgL d A2 c2).lc) (.slice none 0 0) (.slice (mrgL d A2 c2).wA (mrgL d A2 c2).ws.length (mrgL d A2 c2).wc)) (Nat.le_refl _) (.int .i64 0) (.int .u64 ((mrgL d A2 c2).key : Int)) (.int .i64 20) (.slice (mrgL d A2 c2).lA (mrgL d A2 c2).ls.length (mrgL d A2 c2).lc) (.slice none 0 0) (.slice (mrgL d A2 c2).wA (mrgL d A2 c2).ws.length (mrgL d A2 c2).wc)
  · rw [← hW]; exact lblk6 (lfar6 (ext_blk x3 h.b4) (by omega) (.int .i64 0) (.int .u64 ((mrgL d A2 c2).key : Int)) (.int .i64 20) (.slice (mrgL d A2 c2).lA (mrgL d A2 c2).ls.length (mrgL d A2 c2).lc) (.slice none 0 0) (.slice (mrgL d A2 c2).wA (mrgL d A2 c2).ws.length (mrgL d A2 c2).wc)) (.int .i64 0) (.int .u64 ((mrgL d A2 c2).key : Int)) (.int .i64 20) (.slice (mrgL d A2 c2).lA (mrgL d A2 c2).ls.length (mrgL d A2 c2).lc) (.slice none 0 0) (.slice (mrgL d A2 c2).wA (mrgL d A2 c2).ws.length (mrgL d A2 c2).wc)
end Go.Proofs.YtfpmfegmehbfbaaGreatDoor

/- TopGrow, TopLog, walked: filled. -/
namespace Go.Proofs.YtfpmfegmehbfbaaGreatDoor
set_option linter.unusedVariables false
set_option linter.unusedSimpArgs false
set_option linter.unusedSimpArgs false
open Go.RowKit Go.Shelf Go.Maps

theorem partsMoreT {w : World} {B B' : Nat} {A : Option Addr} {ps : List (List Nat)} (h : Parts w B A ps) (hb : B ≤ B') : Parts w B' A ps := by
  obtain ⟨vs, h1, h2⟩ := h
  exact ⟨vs, h1.more hb, fun j p hj => by obtain ⟨a, c, e, hc, hr⟩ := h2 j p hj; exact ⟨a, c, e, hc, hr.more hb⟩⟩
set_option maxRecDepth 100000 in
set_option maxHeartbeats 8000000 in
theorem filled_few (y : List Nat) (hy : ∀ x ∈ y, x < 256) (hyl : y.length ≤ 200) (A0 : Option Addr) (c0 : Nat) (hc0 : y.length ≤ c0) (bs : List (List Nat)) (hf : bs.length ≤ 30) (hb : ∀ b ∈ bs, b.length ≤ 500 ∧ ∀ x ∈ b, x < 256) (A : Option Addr) (c : Nat) (w : World) (hr0 : Reads w w.heap.size 1 A0 y.length (bv y)) (hr : Parts w w.heap.size A bs) :
    Calls Tryz.prog 8 #[.slice A0 y.length c0, .slice A bs.length c] w fun e w' => ((∀ b ∈ bs, 0 < b.length) ∧ ∃ (d : LogX) (A' : Option Addr) (c' : Nat), e = .returned (.tuple #[logV d, .slice A' bs.length c', .bool true]) ∧ LogW w' w'.heap.size d ∧ d.key = secN y ∧ d.ws = [] ∧ d.ls.map EntX.ent = (lgFill bs).1 ∧ bs.length ≤ c' ∧ Reads w' w'.heap.size 6 A' bs.length (promsV (secN y) bs (lgFill bs).2) ∧ Ext w w') ∨
      ((¬ ∀ b ∈ bs, 0 < b.length) ∧ e = .returned (.tuple #[.agg #[.int .i64 0, .int .u64 0, .int .i64 0, .slice none 0 0, .slice none 0 0, .slice none 0 0], .slice none 0 0, .bool false]) ∧ Ext w w') := by
  obtain ⟨i0, hinf, hz0, hz1, hz2⟩ := info_parts Tryz.infoPr
  obtain ⟨W0, e0⟩ : ∃ W, w.alloc (.cells #[.int .i64 0, .int .u64 0, .int .i64 0, .slice none 0 0, .slice none 0 0, .slice none 0 0] 29) = W := ⟨_, rfl⟩
  have b0 : Blk W0 w.heap.size 29 #[.int .i64 0, .int .u64 0, .int .i64 0, .slice none 0 0, .slice none 0 0, .slice none 0 0] := by rw [← e0]; exact Blk.new _ _ _
  have x0 : Ext w W0 := by rw [← e0]; exact (Ext.refl w).alloc _
  have s0 : W0.heap.size = w.heap.size + 1 := by rw [← e0]; simp
  have cF := fewBodies_any bs (by omega) (fun b hb' => by have := (hb b hb').1; omega) A c W0 (partsMoreT (hr.below x0.out) x0.size)
  rw [show fewB bs = true from decide_eq_true ⟨hf, fun b hb' => (hb b hb').1⟩] at cF
  have cNw := lNew_any y hy (by omega) A0 c0 hc0 W0 ((hr0.below x0.out).more x0.size)
  obtain ⟨K, hK⟩ : ∃ K, secN y = K := ⟨_, rfl⟩
  rw [hK] at cNw ⊢
  unfold logV newL at cNw
  have hko : oddN K = false := by rw [← hK]; exact oddN_some _ _
  have d1 : decide ((200 : Int) < (y.length : Int)) = false := by simp; omega
  have hyb : (y.length : Int) ≤ 200 := by omega
  have hfb : (bs.length : Int) ≤ 30 := by omega
  have HB0 := Lib.hid b0
  have HX0 := Lib.hid x0
  have HS0 := Lib.hid s0
  have HP := Lib.hid hr
  have HB := Lib.hid hb
  have HF := Lib.hid hf
  have HKO := Lib.hid hko
  clear b0 x0 s0 hr hr0 hb hf hko hK hc0 hy
  go_enter Tryz.func8, Tryz.ntmps8
  go_upto_region 1 with (fail)
  try rw [e0]
  clear e0
  go_upto_region 4 with (first
    | (go_at_call 46; refine cF.mono ?_; clear cF; rintro e w' ⟨rfl, rfl⟩)
    | (go_at_call 47; refine cNw.mono ?_; clear cNw; rintro e w1 ⟨rfl, x1⟩))
  obtain ⟨W2, e2⟩ : ∃ W, w1.alloc (.cells #[.int .i64 0, .int .u64 (K : Int), .int .i64 20, .slice none 0 0, .slice none 0 0, .slice none 0 0] 29) = W := ⟨_, rfl⟩
  have F0 : FilS w w1.heap.size K bs 0 (newL K) (.slice none 0 0) W2 := by
    have hx : Ext w w1 := HX0.out.trans x1
    have hlt : w.heap.size < w1.heap.size := by have := HS0.out; have := x1.size; omega
    refine ⟨by rw [← e2]; exact (ext_blk x1 HB0.out).alloc _, by rw [← e2]; exact Blk.new _ _ _, newL_ok _ _ HKO.out, ⟨fun h => absurd h (Nat.lt_irrefl 0), fun h => absurd h (Nat.lt_irrefl 0), fun x hx => (by cases hx)⟩, rfl, rfl, rfl, World.ownsRow_nil _ _ _ _, by rw [← e2]; exact hx.alloc _, by rw [← e2]; simp, hlt⟩
  try rw [e2]
  have HF0 := Lib.hid F0
  clear F0 e2 x1
  have HG : Hid (w.heap.size < w1.heap.size) := Lib.hid HF0.out.hw
  go_wp2
  go_loopg [9, 34] bs.length (fun m s9 s34 wr => ∃ (j : Nat) (d : LogX), j + m = bs.length ∧ s34 = .int .i64 j ∧ FilS w w1.heap.size K bs j d s9 wr ∧ ∀ b ∈ bs.take j, 0 < b.length)
  case atStart => exact ⟨0, newL K, by omega, rfl, HF0.out, by simp⟩
  case round =>
    obtain ⟨j, d, hj, rfl, F, hok⟩ := hrel
    by_cases h : j < bs.length
    · obtain ⟨p, hp⟩ : ∃ s, bs[j]? = some s := ⟨_, List.getElem?_eq_getElem h⟩
      obtain ⟨ad, a, k, rfl, q0, hk, hrp⟩ := (HP.out.below F.ex.out).at_ hp
      have hjb : (j : Int) ≤ 30 := by have := HF.out; omega
      rcases Nat.eq_zero_or_pos p.length with hp0 | hp0
      · have hno : Hid (¬ ∀ b ∈ bs, 0 < b.length) := Lib.hid fun hh => by have := hh p (List.mem_of_getElem? hp); omega
        have cA := lAdd_bad d j a k wr F.lg
        unfold logV at cA
        rw [hp0] at q0
        obtain ⟨m0, m1, m2, m3, m4, m5, -, -, -, -, -, -⟩ := lst6 F.b7
        have HFS := Lib.hid F
        have hjn : j < bs.length := h
        clear F hp hj h hk hrp hok hp0
        go_upto_region 12 with (go_at_call 48; refine cA.mono ?_; clear cA m0 m1 m2 m3 m4 m5 q0; rintro e w2 ⟨rfl, x2⟩; have HX2 := Lib.hid x2; clear x2)
        obtain ⟨VA, eVA, k12, k13, xVA⟩ := boxesB w2 #[.int .i64 0, .int .u64 0, .int .i64 0, .slice none 0 0, .slice none 0 0, .slice none 0 0] #[.int .i64 0, .int .i64 0, .int .u64 0, .int .u64 0, .int .u64 0, .int .u64 0] 29 55
        try rw [eVA]
        have z4 := ext_blk (HX2.out.trans xVA) HFS.out.b4
        obtain ⟨b0, b1, b2, b3, b4, b5, f0, f1, f2, f3, f4, f5⟩ := lst6 z4
        have hz := lblk6 z4 (.int .i64 0) (.int .u64 0) (.int .i64 0) (.slice none 0 0) (.slice none 0 0) (.slice none 0 0)
        have hxx := lext6 (HFS.out.ex.trans (HX2.out.trans xVA)) (Nat.le_refl _) (.int .i64 0) (.int .u64 0) (.int .i64 0) (.slice none 0 0) (.slice none 0 0) (.slice none 0 0)
        have HZ := Lib.hid hz
        have HXX := Lib.hid hxx
        clear eVA k12 k13 xVA z4 hz hxx
        go_wp2
        obtain ⟨r0, r1, r2, r3, r4, r5, -, -, -, -, -, -⟩ := lst6 HZ.out
        exact bodyPost_ret (v := .tuple #[.agg #[.int .i64 0, .int .u64 0, .int .i64 0, .slice none 0 0, .slice none 0 0, .slice none 0 0], .slice none 0 0, .bool false]) (by simp [results, Tryz.results8, go_sem, r0, r1, r2, r3, r4, r5]) rfl (.inr ⟨hno.out, rfl, HXX.out⟩)
      have hpb : BodyOk p := ⟨hp0, (HB.out p (List.mem_of_getElem? hp)).1, (HB.out p (List.mem_of_getElem? hp)).2⟩
      have hokT : ∀ b ∈ bs.take (j + 1), 0 < b.length := fun b hb' => by
        rw [List.take_add_one, hp] at hb'
        rcases List.mem_append.1 hb' with hb' | hb'
        · exact hok b hb'
        · simp at hb'; subst hb'; exact hp0
      have HOT := Lib.hid hokT
      have hdl : d.all.length < 30 := by
        have h1 : d.all.length = (lgFill (bs.take j)).1.length := by rw [← F.en, List.length_map]
        have h2 := (fill_good (bs.take j) (by rw [List.length_take]; have := HF.out; omega) (fun b hb' => ⟨hok b hb', (HB.out b (List.mem_of_mem_take hb')).1, (HB.out b (List.mem_of_mem_take hb')).2⟩)).2.2.1
        rw [List.length_take] at h2
        have := HF.out
        omega
      have cA := lAdd_any d p hpb j (by have := HF.out; omega) hdl a k hk wr F.lg (hrp.more F.ex.size)
      obtain ⟨t, ht⟩ : ∃ t, (lgAdd (d.all.map EntX.ent) p j).2 = t := ⟨_, rfl⟩
      rw [ht] at cA
      obtain ⟨H, hH⟩ : ∃ H, hSum (leafB p) = H := ⟨_, rfl⟩
      rw [hH] at cA
      unfold logV promV at cA
      rw [F.key] at cA
      obtain ⟨E, hE⟩ : ∃ E, sgE K (promL t H) = E := ⟨_, rfl⟩
      obtain ⟨S, hS⟩ : ∃ S, sgS K (promL t H) = S := ⟨_, rfl⟩
      rw [hE, hS] at cA
      have HPC : Hid (prC K (p, (lgAdd (d.all.map EntX.ent) p j).2) = [.int .i64 0, .int .i64 (t : Int), .int .u64 (H.1 : Int), .int .u64 (H.2 : Int), .int .u64 (E : Int), .int .u64 (S : Int)]) := Lib.hid (by rw [ht]; unfold prC; rw [hH, hE, hS])
      obtain ⟨m0, m1, m2, m3, m4, m5, -, -, -, -, -, -⟩ := lst6 F.b7
      rw [F.key] at m1
      have HFS := Lib.hid F
      have HPP := Lib.hid hp
      have HJ := Lib.hid hj
      have hjn : j < bs.length := h
      clear F hp hj h hk hrp hpb hdl ht hH hE hS hok hokT hp0
      go_upto_region 13 with (go_at_call 48; refine cA.mono ?_; clear cA m0 m1 m2 m3 m4 m5 q0; rintro e w2 ⟨d', rfl, hL2, hk2, hls2, hen2, hli2, x2⟩; have HL2 := Lib.hid hL2; have HK2 := Lib.hid hk2; have HLS2 := Lib.hid hls2; have HEN2 := Lib.hid hen2; have HLI2 := Lib.hid hli2; have HX2 := Lib.hid x2; clear hL2 hk2 hls2 hen2 hli2 x2)
      obtain ⟨VA, eVA, k12, k13, xVA⟩ := boxesB w2 #[.int .i64 0, .int .u64 (d'.key : Int), .int .i64 20, .slice d'.lA d'.ls.length d'.lc, .slice none 0 0, .slice d'.wA d'.ws.length d'.wc] #[.int .i64 0, .int .i64 (t : Int), .int .u64 (H.1 : Int), .int .u64 (H.2 : Int), .int .u64 (E : Int), .int .u64 (S : Int)] 29 55
      try rw [eVA]
      have z7 := ext_blk (HX2.out.trans xVA) HFS.out.b7
      obtain ⟨a0, a1, a2, a3, a4, a5, -, -, -, -, -, -⟩ := lst6 k12
      obtain ⟨b0, b1, b2, b3, b4, b5, f0, f1, f2, f3, f4, f5⟩ := lst6 z7
      have hne : w2.heap.size + 1 ≠ w1.heap.size := by have := HX2.out.size; have := HFS.out.sz; omega
      have hOW := own_farL6 (own_ext HFS.out.ow (HX2.out.trans xVA)) (g := w1.heap.size) (by omega) (.int .i64 0) (.int .u64 (d'.key : Int)) (.int .i64 20) (.slice d'.lA d'.ls.length d'.lc) (.slice none 0 0) (.slice d'.wA d'.ws.length d'.wc)
      have hK13 := lfar6 k13 hne (.int .i64 0) (.int .u64 (d'.key : Int)) (.int .i64 20) (.slice d'.lA d'.ls.length d'.lc) (.slice none 0 0) (.slice d'.wA d'.ws.length d'.wc)
      have HXV := Lib.hid xVA
      have hSZ : w1.heap.size + 1 ≤ VA.heap.size := by have := HX2.out.size; have := HFS.out.sz; have := xVA.size; omega
      clear eVA xVA k12 k13 z7 hne
      go_upto_region 14 with (fail)
      obtain ⟨V2, eV2⟩ : ∃ W, ((((((VA.setCell ⟨w1.heap.size, 0, none⟩ (.int .i64 0)).setCell ⟨w1.heap.size, 1, none⟩ (.int .u64 (d'.key : Int))).setCell ⟨w1.heap.size, 2, none⟩ (.int .i64 20)).setCell ⟨w1.heap.size, 3, none⟩ (.slice d'.lA d'.ls.length d'.lc)).setCell ⟨w1.heap.size, 4, none⟩ (.slice none 0 0)).setCell ⟨w1.heap.size, 5, none⟩ (.slice d'.wA d'.ws.length d'.wc)) = W := ⟨_, rfl⟩
      have hSZ2 : w1.heap.size + 1 ≤ V2.heap.size := by rw [← eV2]; simpa using hSZ
      rw [eV2] at hOW hK13
      try rw [eV2]
      clear a0 a1 a2 a3 a4 a5 b0 b1 b2 b3 b4 b5 f0 f1 f2 f3 f4 f5 hSZ
      obtain ⟨a0, a1, a2, a3, a4, a5, -, -, -, -, -, -⟩ := lst6 hK13
      have HOW := Lib.hid hOW
      have HSZ := Lib.hid hSZ2
      have EV2 := Lib.hid eV2
      clear hOW hSZ2 eV2 hK13
      go_wp2_with (at_builtin; refine wpList_append_any _ rfl (.tmp 51) (.tmp 53) 30 rfl (w1.heap.size + 1) 55 i0 (.agg #[.int .i64 0, .int .i64 0, .int .u64 0, .int .u64 0, .int .u64 0, .int .u64 0]) 6 48 Tryz.underlying30 hinf hz0 hz1 hz2 rfl (by decide) _ _ _ rfl (own_ext HOW.out ((Ext.refl V2).alloc _)) _ (some ⟨V2.heap.size, 0, none⟩) 1 1 [.int .i64 0, .int .i64 (t : Int), .int .u64 (H.1 : Int), .int .u64 (H.2 : Int), .int .u64 (E : Int), .int .u64 (S : Int)] rfl (reads_newP V2 55 [.int .i64 0, .int .i64 (t : Int), .int .u64 (H.1 : Int), .int .u64 (H.2 : Int), .int .u64 (E : Int), .int .u64 (S : Int)]) (by simp [Value.oneCell']) (by have := HF.out; have := hjn; simp only [maxLen]; omega) (by have := HF.out; have := hjn; omega) (by have := HSZ.out; simp; omega) ?_; intro v5 w5 hown5 hg5 hv5)
      have HN : Hid (FilS w w1.heap.size K bs (j + 1) d' v5 w5) := Lib.hid (FilS.next HFS.out HPP.out (HX2.out.trans HXV.out) (HL2.out.ext HXV.out) (HK2.out.trans HFS.out.key.symm) HLS2.out HEN2.out HLI2.out EV2.out (by rw [HPC.out]; exact hown5) hg5 hv5)
      clear hown5 hg5 hv5
      have hj := HJ.out
      go_roundg (gk - 1)
      case measure => omega
      case rel => exact ⟨j + 1, d', by omega, int_congr (by omega), HN.out, HOT.out⟩
    · obtain rfl : j = bs.length := by omega
      have cM := lMerge_any d wr F.lg
      unfold logV at cM
      obtain ⟨A9, c9, rfl, hc9, -⟩ := own_slice2 F.ow
      obtain ⟨m0, m1, m2, m3, m4, m5, -, -, -, -, -, -⟩ := lst6 F.b7
      have HFS := Lib.hid F
      have HC9 := Lib.hid hc9
      rw [List.take_length] at hok
      have HOK := Lib.hid hok
      clear F hj h hc9 hok
      go_upto_region 16 with (fail)
      go_upto_region 17 with (go_at_call 49; refine cM.mono ?_; clear cM m0 m1 m2 m3 m4 m5; rintro e w3 ⟨A2, c2, rfl, hL3, hA3, x3⟩; obtain ⟨b0, b1, b2, b3, b4, b5, f0, f1, f2, f3, f4, f5⟩ := lst6 (ext_blk x3 HFS.out.b7); have HL3 := Lib.hid hL3; have HA3 := Lib.hid hA3; have HX3 := Lib.hid x3; clear hL3 hA3 x3)
      have ne4 : w.heap.size ≠ w1.heap.size := by have := HG.out; omega
      have k7 := lblk6 (ext_blk HX3.out HFS.out.b7) (.int .i64 0) (.int .u64 ((mrgL d A2 c2).key : Int)) (.int .i64 20) (.slice (mrgL d A2 c2).lA (mrgL d A2 c2).ls.length (mrgL d A2 c2).lc) (.slice none 0 0) (.slice (mrgL d A2 c2).wA (mrgL d A2 c2).ws.length (mrgL d A2 c2).wc)
      have k4 := lfar6 (ext_blk HX3.out HFS.out.b4) ne4 (.int .i64 0) (.int .u64 ((mrgL d A2 c2).key : Int)) (.int .i64 20) (.slice (mrgL d A2 c2).lA (mrgL d A2 c2).ls.length (mrgL d A2 c2).lc) (.slice none 0 0) (.slice (mrgL d A2 c2).wA (mrgL d A2 c2).ws.length (mrgL d A2 c2).wc)
      obtain ⟨V3, eV3⟩ : ∃ W, ((((((w3.setCell ⟨w1.heap.size, 0, none⟩ (.int .i64 0)).setCell ⟨w1.heap.size, 1, none⟩ (.int .u64 ((mrgL d A2 c2).key : Int))).setCell ⟨w1.heap.size, 2, none⟩ (.int .i64 20)).setCell ⟨w1.heap.size, 3, none⟩ (.slice (mrgL d A2 c2).lA (mrgL d A2 c2).ls.length (mrgL d A2 c2).lc)).setCell ⟨w1.heap.size, 4, none⟩ (.slice none 0 0)).setCell ⟨w1.heap.size, 5, none⟩ (.slice (mrgL d A2 c2).wA (mrgL d A2 c2).ws.length (mrgL d A2 c2).wc)) = W := ⟨_, rfl⟩
      rw [eV3] at k7 k4
      try rw [eV3]
      clear b0 b1 b2 b3 b4 b5 f0 f1 f2 f3 f4 f5
      obtain ⟨a0, a1, a2, a3, a4, a5, -, -, -, -, -, -⟩ := lst6 k7
      obtain ⟨b0, b1, b2, b3, b4, b5, f0, f1, f2, f3, f4, f5⟩ := lst6 k4
      have HEV := Lib.hid eV3
      clear eV3 k7 k4 ne4
      go_wp2
      obtain ⟨hF1, hF2, hF3, hF4, hF5, hF6⟩ := FilS.fin (W' := ((((((V3.setCell ⟨w.heap.size, 0, none⟩ (.int .i64 0)).setCell ⟨w.heap.size, 1, none⟩ (.int .u64 ((mrgL d A2 c2).key : Int))).setCell ⟨w.heap.size, 2, none⟩ (.int .i64 20)).setCell ⟨w.heap.size, 3, none⟩ (.slice (mrgL d A2 c2).lA (mrgL d A2 c2).ls.length (mrgL d A2 c2).lc)).setCell ⟨w.heap.size, 4, none⟩ (.slice none 0 0)).setCell ⟨w.heap.size, 5, none⟩ (.slice (mrgL d A2 c2).wA (mrgL d A2 c2).ws.length (mrgL d A2 c2).wc))) HFS.out rfl HX3.out HL3.out HA3.out (by rw [HEV.out])
      obtain ⟨r0, r1, r2, r3, r4, r5, -, -, -, -, -, -⟩ := lst6 hF6
      exact bodyPost_ret (v := .tuple #[.agg #[.int .i64 0, .int .u64 ((mrgL d A2 c2).key : Int), .int .i64 20, .slice (mrgL d A2 c2).lA (mrgL d A2 c2).ls.length (mrgL d A2 c2).lc, .slice none 0 0, .slice (mrgL d A2 c2).wA (mrgL d A2 c2).ws.length (mrgL d A2 c2).wc], .slice A9 bs.length c9, .bool true]) (by simp [results, Tryz.results8, go_sem, r0, r1, r2, r3, r4, r5]) rfl (.inl ⟨HOK.out, mrgL d A2 c2, A9, c9, rfl, hF1, hF2, rfl, hF3, HC9.out, hF4, hF5⟩)
set_option maxRecDepth 100000 in
set_option maxHeartbeats 4000000 in
theorem filled_many (y : List Nat) (hc0 : y.length ≤ 140737488351232) (A0 : Option Addr) (c0 : Nat) (bs : List (List Nat)) (hl : bs.length ≤ 140737488351232) (hb : ∀ b ∈ bs, b.length ≤ 140737488351232) (A : Option Addr) (c : Nat) (w : World) (hr : Parts w w.heap.size A bs) (hno : ¬ (y.length ≤ 200 ∧ fewB bs = true)) :
    Calls Tryz.prog 8 #[.slice A0 y.length c0, .slice A bs.length c] w fun e w' => e = .returned (.tuple #[.agg #[.int .i64 0, .int .u64 0, .int .i64 0, .slice none 0 0, .slice none 0 0, .slice none 0 0], .slice none 0 0, .bool false]) ∧ Ext w w' := by
  obtain ⟨W0, e0⟩ : ∃ W, w.alloc (.cells #[.int .i64 0, .int .u64 0, .int .i64 0, .slice none 0 0, .slice none 0 0, .slice none 0 0] 29) = W := ⟨_, rfl⟩
  have b0 : Blk W0 w.heap.size 29 #[.int .i64 0, .int .u64 0, .int .i64 0, .slice none 0 0, .slice none 0 0, .slice none 0 0] := by rw [← e0]; exact Blk.new _ _ _
  have x0 : Ext w W0 := by rw [← e0]; exact (Ext.refl w).alloc _
  have cF := fewBodies_any bs hl hb A c W0 (partsMoreT (hr.below x0.out) x0.size)
  obtain ⟨b0', b1, b2, b3, b4, b5, f0, f1, f2, f3, f4, f5⟩ := lst6 b0
  have hz := lblk6 b0 (.int .i64 0) (.int .u64 0) (.int .i64 0) (.slice none 0 0) (.slice none 0 0) (.slice none 0 0)
  have hxx := lext6 x0 (Nat.le_refl _) (.int .i64 0) (.int .u64 0) (.int .i64 0) (.slice none 0 0) (.slice none 0 0) (.slice none 0 0)
  have HZ := Lib.hid hz
  have HXX := Lib.hid hxx
  have hyb : (y.length : Int) ≤ 140737488351232 := by omega
  by_cases h2 : 200 < y.length
  · have d1 : decide ((200 : Int) < (y.length : Int)) = true := by simp; omega
    have d2 : (200 : Int) < (y.length : Int) := by omega
    clear b0 x0 hr hz hxx hno hl hb h2 hc0 cF
    go_enter Tryz.func8, Tryz.ntmps8
    go_upto_region 1 with (fail)
    try rw [e0]
    clear e0
    go_wp2
    obtain ⟨r0, r1, r2, r3, r4, r5, -, -, -, -, -, -⟩ := lst6 HZ.out
    exact bodyPost_ret (v := .tuple #[.agg #[.int .i64 0, .int .u64 0, .int .i64 0, .slice none 0 0, .slice none 0 0, .slice none 0 0], .slice none 0 0, .bool false]) (by simp [results, Tryz.results8, go_sem, r0, r1, r2, r3, r4, r5]) rfl ⟨rfl, HXX.out⟩
  · have hF : fewB bs = false := by
      cases hh : fewB bs with
      | false => rfl
      | true => exact absurd ⟨by omega, hh⟩ hno
    rw [hF] at cF
    have d1 : decide ((200 : Int) < (y.length : Int)) = false := by simp; omega
    have d2 : ¬ (200 : Int) < (y.length : Int) := by omega
    clear b0 x0 hr hz hxx hno hl hb h2 hc0 hF
    go_enter Tryz.func8, Tryz.ntmps8
    go_upto_region 1 with (fail)
    try rw [e0]
    clear e0
    go_wp2_with (go_at_call 46; refine cF.mono ?_; clear cF; rintro e w' ⟨rfl, rfl⟩)
    obtain ⟨r0, r1, r2, r3, r4, r5, -, -, -, -, -, -⟩ := lst6 HZ.out
    exact bodyPost_ret (v := .tuple #[.agg #[.int .i64 0, .int .u64 0, .int .i64 0, .slice none 0 0, .slice none 0 0, .slice none 0 0], .slice none 0 0, .bool false]) (by simp [results, Tryz.results8, go_sem, r0, r1, r2, r3, r4, r5]) rfl ⟨rfl, HXX.out⟩
end Go.Proofs.YtfpmfegmehbfbaaGreatDoor

/- The monitor, walked: what a log has promised and does not hold. -/
namespace Go.Proofs.YtfpmfegmehbfbaaGreatDoor
set_option linter.unusedVariables false
set_option linter.unusedSimpArgs false
set_option linter.unusedSimpArgs false
open Go.RowKit Go.Shelf Go.Maps

theorem reads_prom {w : World} {B n k : Nat} {A : Option Addr} {L : List (List Nat × Nat)} (h : Reads w B 6 A n (L.flatMap (prC k))) {j : Nat} {p : List Nat × Nat} (hj : L[j]? = some p) :
    ∃ ad, A = some ad ∧ ad.block < B ∧ ∀ (i : Nat) (v : Value), (prC k p)[i]? = some v → w.cell? ((ad.add (j * 6)).add i) = some v := by
  obtain ⟨ad, e, hb, hc⟩ := reads_fm (prC k) (fun _ => rfl) h hj (by decide)
  exact ⟨ad, e, hb, hc⟩
set_option maxRecDepth 100000 in
set_option maxHeartbeats 4000000 in
theorem places_none (F : FuncId) (hE : Enters Tryz.prog F) (cap : Array Value) (k : Nat) (L : List (List Nat × Nat)) (hL : L.length ≤ 30) (A : Option Addr) (c : Nat) (w : World) (hr : Reads w w.heap.size 6 A L.length (L.flatMap (prC k)))
    (hF : ∀ p ∈ L, ∀ W, Ext w W → Calls Tryz.prog F (#[promV k p.2 (hSum (leafB p.1))] ++ cap) W fun e w' => e = .returned (.bool false) ∧ Ext W w') :
    Calls Tryz.prog 71 #[.slice A L.length c, .func (.func F) #[] cap] w fun e w' => e = .returned (.slice none 0 0) ∧ Ext w w' := by
  have HR := Lib.hid hr
  have HL := Lib.hid hL
  have HF := Lib.hid hF
  unfold Enters at hE
  clear hr hL hF
  go_enter Tryz.func71, Tryz.ntmps71
  go_wp2
  go_loopg [5, 10] L.length (fun m s5 s10 wr => ∃ j : Nat, j + m = L.length ∧ s5 = .slice none 0 0 ∧ s10 = .int .i64 j ∧ Ext w wr)
  case atStart => exact ⟨0, by omega, rfl, rfl, Ext.refl w⟩
  case round =>
    obtain ⟨j, hj, rfl, rfl, hx⟩ := hrel
    by_cases h : j < L.length
    · obtain ⟨p, hp⟩ : ∃ s, L[j]? = some s := ⟨_, List.getElem?_eq_getElem h⟩
      obtain ⟨ad, rfl, hb, hc⟩ := reads_prom (HR.out.below hx.out) hp
      have hjb : (j : Int) ≤ 30 := by have := HL.out; omega
      have q0 := hc 0 _ rfl
      have q1 := hc 1 _ rfl
      have q2 := hc 2 _ rfl
      have q3 := hc 3 _ rfl
      have q4 := hc 4 _ rfl
      have q5 := hc 5 _ rfl
      rw [add_of_add, Nat.add_zero] at q0
      rw [add_succ_eq] at q1
      rw [add_succ_eq] at q2
      rw [add_succ_eq] at q3
      rw [add_succ_eq] at q4
      rw [add_succ_eq] at q5
      have cF := fun W (e : Ext w W) => HF.out p (List.mem_of_getElem? hp) W e
      unfold promV at cF
      obtain ⟨H, hH⟩ : ∃ H, hSum (leafB p.1) = H := ⟨_, rfl⟩
      obtain ⟨t, ht⟩ : ∃ t, p.2 = t := ⟨_, rfl⟩
      rw [hH, ht] at cF q4 q5
      rw [hH] at q2 q3
      rw [ht] at q1
      obtain ⟨E, hE1⟩ : ∃ E, sgE k (promL t H) = E := ⟨_, rfl⟩
      obtain ⟨S, hS1⟩ : ∃ S, sgS k (promL t H) = S := ⟨_, rfl⟩
      rw [hE1] at cF q4
      rw [hS1] at cF q5
      have hjn : j < L.length := h
      obtain ⟨W1, e1⟩ : ∃ W, wr.alloc (.cells #[.int .i64 0, .int .i64 (t : Int), .int .u64 (H.1 : Int), .int .u64 (H.2 : Int), .int .u64 (E : Int), .int .u64 (S : Int)] 55) = W := ⟨_, rfl⟩
      have b1 : Blk W1 wr.heap.size 55 #[.int .i64 0, .int .i64 (t : Int), .int .u64 (H.1 : Int), .int .u64 (H.2 : Int), .int .u64 (E : Int), .int .u64 (S : Int)] := by rw [← e1]; exact Blk.new _ _ _
      have x1 : Ext wr W1 := by rw [← e1]; exact (Ext.refl _).alloc _
      obtain ⟨m0, m1, m2, m3, m4, m5, -, -, -, -, -, -⟩ := lst6 b1
      have cF1 := cF W1 (hx.trans x1)
      have HX := Lib.hid (hx.trans x1)
      have HJ := Lib.hid hj
      clear cF hx hj h hp hb hc b1 x1 hH ht hE1 hS1
      go_upto_region 5 with (fail)
      try rw [e1]
      clear e1 q0 q1 q2 q3 q4 q5
      go_wp2_with (go_at_fn F; refine cF1.mono ?_; clear cF1 m0 m1 m2 m3 m4 m5; rintro e w2 ⟨rfl, x2⟩)
      have hj := HJ.out
      go_roundg (gk - 1)
      case measure => omega
      case rel => exact ⟨j + 1, by omega, rfl, int_congr (by omega), HX.out.trans x2⟩
    · obtain rfl : j = L.length := by omega
      have HX := Lib.hid hx
      clear hj h hx
      go_wp2
      go_ret
      exact ⟨rfl, HX.out⟩
end Go.Proofs.YtfpmfegmehbfbaaGreatDoor

/- The monitor, walked: nothing is missing. -/
namespace Go.Proofs.YtfpmfegmehbfbaaGreatDoor
set_option linter.unusedVariables false
set_option linter.unusedSimpArgs false
set_option linter.unusedSimpArgs false
open Go.RowKit Go.Shelf Go.Maps

theorem miss1_enters : Enters Tryz.prog 72 := enters_of Tryz.func72 (by kernel_rfl) rfl
set_option maxRecDepth 100000 in
set_option maxHeartbeats 4000000 in
theorem miss1_any (k t : Nat) (ht : t ≤ 1000) (H : Nat × Nat) (h1 : H.1 < 18446744073709551616) (h2 : H.2 < 18446744073709551616) (n : Nat) (R : Nat × Nat) (E S P : Nat) (g1 g2 g3 b : Nat) (l : List Lit) (hm : sumK H ∈ l) (W : World)
    (b1 : Blk W g1 38 #[.int .i64 0, .int .i64 (n : Int), .int .u64 (R.1 : Int), .int .u64 (R.2 : Int), .int .i64 50, .int .u64 (E : Int), .int .u64 (S : Int)]) (b2 : Blk W g2 48 #[.int .i64 0, .int .u64 (P : Int), .int .i64 20]) (b3 : Blk W g3 155 #[.map (some b)]) (hk : KSet 34 W b l) :
    Calls Tryz.prog 72 #[promV k t H, .pointer (some ⟨g1, 0, none⟩), .pointer (some ⟨g2, 0, none⟩), .pointer (some ⟨g3, 0, none⟩)] W fun e w' => e = .returned (.bool false) ∧ Ext W w' := by
  unfold promV
  obtain ⟨e, he⟩ : ∃ e, sgE k (promL t H) = e := ⟨_, rfl⟩
  obtain ⟨s, hs⟩ : ∃ e, sgS k (promL t H) = e := ⟨_, rfl⟩
  rw [he, hs]
  obtain ⟨W1, e1⟩ : ∃ V, W.alloc (.cells #[.int .i64 0, .int .i64 (t : Int), .int .u64 (H.1 : Int), .int .u64 (H.2 : Int), .int .u64 (e : Int), .int .u64 (s : Int)] 55) = V := ⟨_, rfl⟩
  have x1 : Ext W W1 := by rw [← e1]; exact (Ext.refl _).alloc _
  have b0 : Blk W1 W.heap.size 55 #[.int .i64 0, .int .i64 (t : Int), .int .u64 (H.1 : Int), .int .u64 (H.2 : Int), .int .u64 (e : Int), .int .u64 (s : Int)] := by rw [← e1]; exact Blk.new _ _ _
  have lk := KSet.look keySum Tryz.underlying155 (hk.ext x1) (key_sum H h1 h2) (by trivial) (bb := true) (by simp [hm])
  obtain ⟨m0, m1, m2, m3, m4, m5, -, -, -, -, -, -⟩ := lst6 b0
  obtain ⟨⟨n0, n1, n2, n3, n4, n5, n6⟩, -, -, -, -, -, -, -⟩ := lst7 (ext_blk x1 b1)
  obtain ⟨p0, p1, p2, -, -, -⟩ := lst3 (ext_blk x1 b2)
  have q0 := (ext_blk x1 b3).cell 0
  have htb : (t : Int) ≤ 1000 := by omega
  have HX := Lib.hid x1
  clear b0 b1 b2 b3 hk x1 he hs hm h1 h2 ht
  by_cases ht2 : (t : Int) + 20 < 50
  · have d1 : decide ((t : Int) + 20 < 50) = true := decide_eq_true ht2
    go_enter Tryz.func72, Tryz.ntmps72
    go_upto_region 1 with (fail)
    try rw [e1]
    clear e1
    go_wp2
    go_ret
    exact ⟨rfl, HX.out⟩
  · have d1 : decide ((t : Int) + 20 < 50) = false := decide_eq_false ht2
    go_enter Tryz.func72, Tryz.ntmps72
    go_upto_region 1 with (fail)
    try rw [e1]
    clear e1
    go_wp2
    go_ret
    exact ⟨rfl, HX.out⟩
set_option maxRecDepth 100000 in
set_option maxHeartbeats 8000000 in
theorem missing_none (k : Nat) (L : List (List Nat × Nat)) (hL : L.length ≤ 30) (hts : ∀ p ∈ L, p.2 ≤ 1000) (T : List (Nat × Nat)) (hT : T.length ≤ 30) (hTw : ∀ x ∈ T, x.1 < 18446744073709551616 ∧ x.2 < 18446744073709551616) (hin : ∀ p ∈ L, hSum (leafB p.1) ∈ T)
    (A : Option Addr) (c : Nat) (A2 : Option Addr) (c2 : Nat) (n : Nat) (R : Nat × Nat) (E S P : Nat) (w : World) (hr : Reads w w.heap.size 6 A L.length (L.flatMap (prC k))) (hr2 : Reads w w.heap.size 2 A2 T.length (sumV T)) :
    Calls Tryz.prog 20 #[.slice A L.length c, .agg #[.int .i64 0, .int .i64 (n : Int), .int .u64 (R.1 : Int), .int .u64 (R.2 : Int), .int .i64 50, .int .u64 (E : Int), .int .u64 (S : Int)], .slice A2 T.length c2, .agg #[.int .i64 0, .int .u64 (P : Int), .int .i64 20]] w fun e w' => e = .returned (.slice none 0 0) ∧ Ext w w' := by
  have hmm := @run_makeMap Tryz.prog
  obtain ⟨W0, e0, b0, b1, x0⟩ := boxesC w #[.int .i64 0, .int .i64 (n : Int), .int .u64 (R.1 : Int), .int .u64 (R.2 : Int), .int .i64 50, .int .u64 (E : Int), .int .u64 (S : Int)] #[.int .i64 0, .int .u64 (P : Int), .int .i64 20] 38 48
  obtain ⟨W1, e1⟩ : ∃ W, (W0.alloc (.map #[] 0)).alloc (.cells #[.map (some W0.heap.size)] 155) = W := ⟨_, rfl⟩
  have x1 : Ext W0 W1 := by rw [← e1]; exact ((Ext.refl W0).alloc _).alloc _
  have k1 : KSet 34 W1 W0.heap.size [] := by rw [← e1]; exact (KSet.new _ _).ext ((Ext.refl _).alloc _)
  have b2 : Blk W1 (W0.heap.size + 1) 155 #[.map (some W0.heap.size)] := by
    rw [← e1]
    have := Blk.new (W0.alloc (.map #[] 0)) 155 #[.map (some W0.heap.size)]
    simpa using this
  have s0 : W0.heap.size = w.heap.size + 2 := by rw [← e0]; simp
  have HB0 := Lib.hid (ext_blk x1 b0)
  have HB1 := Lib.hid (ext_blk x1 b1)
  have HB2 := Lib.hid b2
  have HX := Lib.hid (x0.trans x1)
  have HK := Lib.hid k1
  have HS := Lib.hid s0
  have HR := Lib.hid hr
  have HR2 := Lib.hid hr2
  have HLN : Hid (L.length ≤ 30 ∧ T.length ≤ 30) := Lib.hid ⟨hL, hT⟩
  have HTS := Lib.hid hts
  have HTW := Lib.hid hTw
  have HIN := Lib.hid hin
  clear x0 x1 k1 b0 b1 b2 s0 hr hr2 hL hT hts hTw hin
  go_enter Tryz.func20, Tryz.ntmps20
  go_upto_region 1 with (fail)
  try rw [e0]
  clear e0
  go_upto_region 2 with (fail)
  try rw [e1]
  clear e1
  go_wp2
  go_loopg [15] T.length (fun m s15 wr => ∃ j : Nat, j + m = T.length ∧ s15 = .int .i64 j ∧ KSet 34 wr W0.heap.size ((T.take j).map sumK) ∧ Blk wr w.heap.size 38 #[.int .i64 0, .int .i64 (n : Int), .int .u64 (R.1 : Int), .int .u64 (R.2 : Int), .int .i64 50, .int .u64 (E : Int), .int .u64 (S : Int)] ∧ Blk wr (w.heap.size + 1) 48 #[.int .i64 0, .int .u64 (P : Int), .int .i64 20] ∧ Blk wr (W0.heap.size + 1) 155 #[.map (some W0.heap.size)] ∧ Ext w wr)
  case atStart => exact ⟨0, by omega, rfl, HK.out, HB0.out, HB1.out, HB2.out, HX.out⟩
  case round =>
    obtain ⟨j, hj, rfl, hk, hb0, hb1, hb2, hx⟩ := hrel
    by_cases h : j < T.length
    · obtain ⟨p, hp⟩ : ∃ s, T[j]? = some s := ⟨_, List.getElem?_eq_getElem h⟩
      obtain ⟨ad, rfl, hlt, q0, q1⟩ := reads_sum (HR2.out.below hx.out) hp
      obtain ⟨hp1, hp2⟩ := HTW.out p (List.mem_of_getElem? hp)
      have hjb : (j : Int) ≤ 30 := by have := HLN.out; omega
      have e1 : (T.take (j + 1)).map sumK = (T.take j).map sumK ++ [sumK p] := by rw [List.take_add_one, hp]; simp
      obtain ⟨W3, e3⟩ : ∃ W, wr.alloc (.cells #[.int .u64 (p.1 : Int), .int .u64 (p.2 : Int)] 34) = W := ⟨_, rfl⟩
      have x3 : Ext wr W3 := by rw [← e3]; exact (Ext.refl wr).alloc _
      have b3 : Blk W3 wr.heap.size 34 #[.int .u64 (p.1 : Int), .int .u64 (p.2 : Int)] := by rw [← e3]; exact Blk.new _ _ _
      have m0 := b3.cell 0
      have m1 := b3.cell 1
      have n0 := (ext_blk x3 hb2).cell 0
      have HKY := Lib.hid (key_sum p hp1 hp2)
      have HK3 := Lib.hid (hk.ext x3)
      have HX3 := Lib.hid (hx.trans x3)
      have H0 := Lib.hid (ext_blk x3 hb0)
      have H1 := Lib.hid (ext_blk x3 hb1)
      have H2 := Lib.hid (ext_blk x3 hb2)
      have HE := Lib.hid e1
      have HJ := Lib.hid hj
      have hjn : j < T.length := h
      clear hj hk hb0 hb1 hb2 hx hp hlt hp1 hp2 e1 x3 b3 h
      go_upto_region 5 with (fail)
      try rw [e3]
      clear e3 q0 q1
      go_wp2_with (at_mapUpdate; refine wpList_mapUpdate_own _ rfl _ _ _ 155 rfl 34 4 keySum Tryz.underlying155 _ W0.heap.size _ _ rfl HK3.out (by have := HLN.out; have := hjn; simp only [maxLen, List.length_map, List.length_take]; omega) _ _ _ rfl rfl HKY.out tt [] (plainElem_bool Tryz.underlying4 true) ?_; intro w4 hown4 hgrow4)
      have K4 : Hid (KSet 34 w4 W0.heap.size ((T.take (j + 1)).map sumK)) := by
        show KSet _ _ _ _
        rw [HE.out]
        exact KSet.put_ hown4
      have X4 := Lib.hid (Ext.of (HX3.out.out.grown hgrow4 HX3.out.size (fun k hk => by cases hk; have := HS.out; omega)))
      have B0 := Lib.hid (Blk.grown H0.out hgrow4 (fun e => by have := HS.out; injection e; omega))
      have B1 := Lib.hid (Blk.grown H1.out hgrow4 (fun e => by have := HS.out; injection e; omega))
      have B2 := Lib.hid (Blk.grown H2.out hgrow4 (fun e => by injection e; omega))
      clear hown4 hgrow4
      have hj := HJ.out
      go_wp2
      go_roundg (gk - 1)
      case measure => omega
      case rel => exact ⟨j + 1, by omega, int_congr (by omega), K4.out, B0.out, B1.out, B2.out, X4.out⟩
    · obtain rfl : j = T.length := by omega
      rw [List.take_length] at hk
      have cP := places_none 72 miss1_enters #[.pointer (some ⟨w.heap.size, 0, none⟩), .pointer (some ⟨w.heap.size + 1, 0, none⟩), .pointer (some ⟨W0.heap.size + 1, 0, none⟩)] k L HLN.out.1 A c wr ((HR.out.below hx.out).more hx.size)
        (fun p hp W e => miss1_any k p.2 (HTS.out p hp) (hSum (leafB p.1)) (hSum_w _).1 (hSum_w _).2 n R E S P _ _ _ W0.heap.size (T.map sumK) (List.mem_map.2 ⟨_, HIN.out p hp, rfl⟩) W (ext_blk e hb0) (ext_blk e hb1) (ext_blk e hb2) (hk.ext e))
      have HXX := Lib.hid hx
      clear hk hb0 hb1 hb2 hx h hj
      go_wp2_with (go_at_call 71; refine cP.mono ?_; clear cP; rintro e w9 ⟨rfl, x9⟩)
      go_ret
      exact ⟨rfl, HXX.out.trans x9⟩
end Go.Proofs.YtfpmfegmehbfbaaGreatDoor
