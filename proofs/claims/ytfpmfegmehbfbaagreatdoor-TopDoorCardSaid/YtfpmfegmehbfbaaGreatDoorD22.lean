/- Parts of the proofs, put together: Or16, Or17, Or18. -/
import Derived.Test.YtfpmfegmehbfbaaGreatDoorD20
/- Nonces, walked: Use. -/
namespace Go.Proofs.YtfpmfegmehbfbaaGreatDoor
set_option linter.unusedVariables false
set_option linter.unusedSimpArgs false
open Go.RowKit Go.Shelf Go.Maps

theorem fen_pair {next : Int} {l : List NonR} (h : fenN next l = 0) : l.Pairwise (fun a b => a.n < b.n) ∧ (∀ x ∈ l, 0 ≤ x.n ∧ x.n ≤ 1099511627776) ∧ numP next ∧ (∀ x ∈ l, numP x.u) := by
  obtain ⟨⟨h1, h2, h3⟩, -⟩ := fenN_zero.1 h
  exact ⟨h1, fun x hx => ⟨(h2 x hx).1, by have := (h2 x hx).2.1; have := h3.2; omega⟩, h3, fun x hx => (h2 x hx).2.2⟩
/-- What is left when one is taken. -/
theorem useL_erase {l : List NonR} (hp : l.Pairwise (fun a b => a.n < b.n)) {i : Nat} {x : NonR} (hx : l[i]? = some x) : useL l x.n = l.eraseIdx i := by
  rw [erase_eq]
  obtain ⟨hi, rfl⟩ := List.getElem?_eq_some_iff.1 hx
  unfold useL
  have e : l = l.take i ++ l[i] :: l.drop (i + 1) := by rw [← List.drop_eq_getElem_cons hi, List.take_append_drop]
  have h1 : ∀ y ∈ l.take i, y.n < l[i].n := fun y hy => by
    obtain ⟨k, hk, rfl⟩ := List.mem_take_iff_getElem.1 hy
    exact List.pairwise_iff_getElem.1 hp k i (by omega) hi (by omega)
  have h2 : ∀ y ∈ l.drop (i + 1), l[i].n < y.n := fun y hy => by
    obtain ⟨k, hk, rfl⟩ := List.getElem_of_mem hy
    rw [List.getElem_drop]
    exact List.pairwise_iff_getElem.1 hp i _ hi (by rw [List.length_drop] at hk; omega) (by omega)
  obtain ⟨p, hp'⟩ : ∃ p, p = l.take i := ⟨_, rfl⟩
  obtain ⟨d, hd'⟩ : ∃ d, d = l.drop (i + 1) := ⟨_, rfl⟩
  obtain ⟨z, hz⟩ : ∃ z, z = l[i] := ⟨_, rfl⟩
  rw [← hp', ← hd', ← hz] at e
  rw [← hp', ← hz] at h1
  rw [← hd', ← hz] at h2
  rw [← hp', ← hd', ← hz, e, List.filter_append, List.filter_cons]
  rw [List.filter_eq_self.2 (fun y hy => by have := h1 y hy; simp; omega), List.filter_eq_self.2 (fun y hy => by have := h2 y hy; simp; omega)]
  simp
/-- The outcome of taking one. -/
def useF (next : Int) (l : List NonR) (n now : Int) : Int × List NonR × Nat := if useE next l n now = 0 then (next, useL l n, 0) else (0, [], useE next l n now)
theorem useF_ok {next : Int} {l : List NonR} {n now : Int} (h : useE next l n now = 0) : useF next l n now = (next, useL l n, 0) := by unfold useF; rw [if_pos h]
theorem useF_no {next : Int} {l : List NonR} {n now : Int} {e : Nat} (h : useE next l n now = e) (he : e ≠ 0) : useF next l n now = (0, [], e) := by unfold useF; rw [if_neg (by rw [h]; exact he), h]
def usePost (base : Nat) (r : Int × List NonR × Nat) (w : World) (e : Ending) (w' : World) : Prop :=
  ∃ A c, e = .returned (.tuple #[fenV r.1 r.2.1 A c, .int .i64 (r.2.2 : Nat)]) ∧ w'.ownsRow base 274 2 (.slice A r.2.1.length c) r.2.1.length (nonV r.2.1) ∧ Ext w w'
set_option maxRecDepth 100000 in
set_option maxHeartbeats 4000000 in
theorem Use_any (next : Int) (l : List NonR) (A : Option Addr) (c : Nat) (n now : Int) (hn : numP n) (w : World) (hw : NonsW w w.heap.size next l A c) :
    Calls Tryz.prog 95 #[fenV next l A c, .int .i64 n, .int .i64 now] w (usePost w.heap.size (useF next l n now) w) := by
  have c1 := fCheck_any next l A c
  have cT := time_any now
  unfold fenV at c1 ⊢
  obtain ⟨W0, e0, b0, b1, x0, s0⟩ := startP w #[.int .i64 next, .slice A l.length c] #[.int .i64 0, .slice none 0 0] 91 91
  have c2 := c1 W0 (hw.ext x0)
  obtain ⟨E, hE⟩ : ∃ E, fenN next l = E := ⟨_, rfl⟩
  rw [hE] at c2
  have cO : ∀ W, Calls Tryz.prog 181 #[.int .i64 now] W fun e w' => ∃ gb, e = .returned (.func (.func 241) #[] #[.pointer (some ⟨gb, 0, none⟩)]) ∧ w'.cell? ⟨gb, 0, none⟩ = some (.int .i64 now) ∧ Ext W w' := fun W =>
    (old_any now W).mono fun e w' ⟨h1, h2⟩ => ⟨_, h1, by rw [← h2]; exact (Blk.new W _ _).cell 0, by rw [← h2]; exact (Ext.refl W).alloc _⟩
  have cQ : ∀ (x : NonR) (gb : Nat) W, World.cell? W ⟨gb, 0, none⟩ = some (.int .i64 now) → Calls Tryz.prog 241 #[.agg #[.int .i64 x.n, .int .i64 x.u], .pointer (some ⟨gb, 0, none⟩)] W _ := fun x gb W h => old1_any x now gb W h
  clear c1
  by_cases h0 : E = 0
  case neg =>
    rw [show useF next l n now = (0, [], E) from useF_no (by unfold useE; rw [if_pos (by rw [hE]; exact h0), hE]) h0]
    have k0 : ((E : Int) != 0) = true := by simp; omega
    subst e0
    have B1 := Lib.hid b1
    have X0 := Lib.hid x0
    clear hw hE h0 b0 b1 x0 hn cT s0
    go_enter Tryz.func95, Tryz.ntmps95
    go_wp2_with (go_at_call 173; refine c2.mono ?_; clear c2; rintro e w1 ⟨rfl, x1⟩; have b2 := ext_blk x1 B1.out; obtain ⟨q0, q1⟩ := two b2; have f0 := b2.frozen 0; have f1 := b2.frozen 1; have BB := Lib.hid ((b2.set_ 0 (.int .i64 0)).set_ 1 (.slice none 0 0)); clear b2)
    obtain ⟨r0, r1⟩ := two BB.out
    refine bodyPost_ret (v := .tuple #[.agg #[.int .i64 0, .slice none 0 0], .int .i64 (E : Int)]) (by simp [results, Tryz.results95, go_sem, r0, r1]) rfl ⟨none, 0, rfl, World.ownsRow_nil _ _ _ _, ((X0.out.trans x1).setCell (by simp) _).setCell (by simp) _⟩
  subst h0
  obtain ⟨hp, hb, hnx, hu⟩ := fen_pair hE
  by_cases h1 : numP now
  case neg =>
    rw [show useF next l n now = (0, [], 1) from useF_no (by unfold useE; rw [if_neg (by rw [hE]; simp), if_pos (by simpa using h1)]) (by decide)]
    rw [decide_eq_false h1] at cT
    subst e0
    have B1 := Lib.hid b1
    have X0 := Lib.hid x0
    clear hw hE b0 b1 x0 hn s0 h1 hp hb hnx hu
    go_enter Tryz.func95, Tryz.ntmps95
    go_wp2_with (first
      | (go_at_call 173; refine c2.mono ?_; clear c2; rintro e w1 ⟨rfl, x1⟩; have b2 := ext_blk x1 B1.out; obtain ⟨q0, q1⟩ := two b2; have f0 := b2.frozen 0; have f1 := b2.frozen 1; have BB := Lib.hid ((b2.set_ 0 (.int .i64 0)).set_ 1 (.slice none 0 0)); clear b2)
      | (go_at_call 178; refine (cT _).mono ?_; clear cT; rintro e w2 ⟨rfl, rfl⟩))
    obtain ⟨r0, r1⟩ := two BB.out
    refine bodyPost_ret (v := .tuple #[.agg #[.int .i64 0, .slice none 0 0], .int .i64 1]) (by simp [results, Tryz.results95, go_sem, r0, r1]) rfl ⟨none, 0, rfl, World.ownsRow_nil _ _ _ _, ((X0.out.trans x1).setCell (by simp) _).setCell (by simp) _⟩
  rw [decide_eq_true h1] at cT
  have cB := fun W h => bsearch_any n hn l hw.len hp hb A c W h
  have HW := Lib.hid hw
  have HX : Hid (∀ W, Ext W0 W → Reads W W.heap.size 2 A l.length (nonV l) ∧ Blk W w.heap.size 91 #[.int .i64 next, .slice A l.length c] ∧ Blk W (w.heap.size + 1) 91 #[.int .i64 0, .slice none 0 0] ∧ Ext w W) := Lib.hid fun W x => ⟨(hw.ext (x0.trans x)).lst, ext_blk x b0, ext_blk x b1, x0.trans x⟩
  by_cases h2 : ∃ x ∈ l, x.n = n ∧ now ≤ x.u
  case neg =>
    rw [show useF next l n now = (0, [], 210) from useF_no (by unfold useE; rw [if_neg (by rw [hE]; simp), if_neg (by simpa using h1), if_neg h2]) (by decide)]
    have H2 := Lib.hid h2
    subst e0
    clear hw hE b0 b1 x0 hn s0 h1 hp hb hnx hu h2
    go_enter Tryz.func95, Tryz.ntmps95
    go_wp2_with (first
      | (go_at_call 173; refine c2.mono ?_; clear c2; rintro e w1 ⟨rfl, x1⟩; obtain ⟨hr, b2, b3, x2⟩ := HX.out _ x1; obtain ⟨m0, m1⟩ := two b2; clear b2 b3 x2; have HR := Lib.hid hr; clear hr)
      | (go_at_call 178; refine (cT _).mono ?_; clear cT; rintro e w2 ⟨rfl, rfl⟩)
      | (go_at_call 179; refine (cB _ HR.out).mono ?_; clear cB; rintro e w3 ⟨i, b, rfl, hy, hno, x3⟩; have HY := Lib.hid hy; clear hy hno; have x4 := x1.trans x3; have n0 := x3.cell m0; have n1 := x3.cell m1; clear m0 m1))
    obtain ⟨hr, b2, b3, x2⟩ := HX.out _ x4
    have f0 := b3.frozen 0
    have f1 := b3.frozen 1
    have y0 := b3.cell 0
    have y1 := b3.cell 1
    have B3 := Lib.hid b3
    have X2 := Lib.hid x2
    clear b2 b3 x2
    cases b with
    | false =>
      clear hr HY
      go_quiet (fail)
      have BB := Lib.hid (((B3.out.drewN nq).set_ 0 (.int .i64 0)).set_ 1 (.slice none 0 0))
      go_wp2
      obtain ⟨r0, r1⟩ := two BB.out
      refine bodyPost_ret (v := .tuple #[.agg #[.int .i64 0, .slice none 0 0], .int .i64 210]) (by simp [results, Tryz.results95, go_sem, r0, r1]) rfl ⟨none, 0, rfl, World.ownsRow_nil _ _ _ _, ((X2.out.drewN _).setCell (by simp) _).setCell (by simp) _⟩
    | true =>
      obtain ⟨x, hx, hxn⟩ := HY.out rfl
      obtain ⟨ad, rfl, hlt, q0, q1⟩ := reads_non hr hx
      have hil : (i : Int) < (l.length : Int) := by have := (List.getElem?_eq_some_iff.1 hx).1; omega
      have hold : x.u < now := Decidable.byContradiction fun h => H2.out ⟨x, List.mem_of_getElem? hx, hxn, by omega⟩
      have cq := cQ x
      rw [decide_eq_true hold] at cq
      have HH := Lib.hid fun (W : World) (x : Ext w3 W) => And.intro (x.cell n0) (And.intro (x.cell n1) (And.intro (x.cell q0) (And.intro (x.cell q1) (ext_blk x B3.out))))
      have XX := (Ext.refl w3).drew
      clear hr HY hx hxn hlt hold cQ
      go_region_held3 (fun w' => w'.cell? ⟨w.heap.size, 0, none⟩ = some (.int .i64 next) ∧ w'.cell? ⟨w.heap.size, 1, none⟩ = some (.slice (some ad) l.length c) ∧ w'.cell? (ad.add (i * 2)) = some (.int .i64 x.n) ∧ w'.cell? ⟨(ad.add (i * 2)).block, (ad.add (i * 2)).off + 1, none⟩ = some (.int .i64 x.u)) (first | exact ⟨n0, n1, q0, q1⟩ | go_keep) (first
        | (go_at_call 181; refine (cO _).mono ?_; clear cO; rintro e w4 ⟨gb, rfl, hg, x5⟩; have y5 := XX.trans x5; obtain ⟨a0, a1, a2, a3, -⟩ := HH.out _ y5)
        | (go_at_call 241; refine (cq gb _ hg).mono ?_; clear cq; rintro e w5 ⟨rfl, x6⟩; have y6 := y5.trans x6; obtain ⟨e0, e1, e2, e3, b6⟩ := HH.out _ y6; obtain ⟨d0, d1⟩ := two b6; have f0 := b6.frozen 0; have f1 := b6.frozen 1; have BB := Lib.hid ((b6.set_ 0 (.int .i64 0)).set_ 1 (.slice none 0 0)); clear b6))
      go_wp2
      obtain ⟨r0, r1⟩ := two BB.out
      refine bodyPost_ret (v := .tuple #[.agg #[.int .i64 0, .slice none 0 0], .int .i64 210]) (by simp [results, Tryz.results95, go_sem, r0, r1]) rfl ⟨none, 0, rfl, World.ownsRow_nil _ _ _ _, ((X2.out.trans y6).setCell (by simp) _).setCell (by simp) _⟩
  have hR : useF next l n now = (next, useL l n, 0) := useF_ok (by unfold useE; rw [if_neg (by rw [hE]; simp), if_neg (by simpa using h1), if_pos h2])
  rw [hR]
  have cC := fun W h => cloneN_any A l.length c (nonV l) (nonV_one l) hw.len W h
  have HP := Lib.hid hp
  have H2 := Lib.hid h2
  have HL := Lib.hid hw.len
  subst e0
  clear hw hE b0 b1 x0 hn s0 h1 hp hb hnx hu h2 hR
  go_enter Tryz.func95, Tryz.ntmps95
  go_wp2_with (first
    | (go_at_call 173; refine c2.mono ?_; clear c2; rintro e w1 ⟨rfl, x1⟩; obtain ⟨hr, b2, b3, x2⟩ := HX.out _ x1; obtain ⟨m0, m1⟩ := two b2; clear b2 b3 x2; have HR := Lib.hid hr; clear hr)
    | (go_at_call 178; refine (cT _).mono ?_; clear cT; rintro e w2 ⟨rfl, rfl⟩)
    | (go_at_call 179; refine (cB _ HR.out).mono ?_; clear cB; rintro e w3 ⟨i, b, rfl, hy, hno, x3⟩; have HY := Lib.hid hy; have HNO := Lib.hid hno; clear hy hno; have x4 := x1.trans x3; have n0 := x3.cell m0; have n1 := x3.cell m1; clear m0 m1))
  cases b with
  | false =>
    obtain ⟨x, hx, hxn, -⟩ := H2.out
    exact absurd hxn (HNO.out rfl x hx)
  | true =>
    obtain ⟨x, hx, hxn⟩ := HY.out rfl
    obtain ⟨hr, b2, b3, x2⟩ := HX.out _ x4
    obtain ⟨q, hq⟩ : ∃ q, l.length = q + 1 := ⟨l.length - 1, by have := (List.getElem?_eq_some_iff.1 hx).1; omega⟩
    have hiq : i ≤ q := by have := (List.getElem?_eq_some_iff.1 hx).1; omega
    have hib : (i : Int) ≤ 1099511627776 := by have := HL.out; omega
    have hold : ¬ x.u < now := by
      obtain ⟨y, hy, hyn, hyu⟩ := H2.out
      obtain ⟨a1, rfl⟩ := List.getElem?_eq_some_iff.1 hx
      obtain ⟨k, hk, rfl⟩ := List.getElem_of_mem hy
      rcases Nat.lt_trichotomy k i with h | rfl | h
      · have := List.pairwise_iff_getElem.1 HP.out k i hk a1 h; omega
      · omega
      · have := List.pairwise_iff_getElem.1 HP.out i k a1 hk h; omega
    have he := useL_erase HP.out hx
    rw [hxn] at he
    have hlen : (useL l n).length = q := by rw [he, List.length_eraseIdx_of_lt (by omega)]; omega
    have HE := Lib.hid he
    have HLEN := Lib.hid hlen
    obtain ⟨ad, rfl, hlt, q0, q1⟩ := reads_non hr hx
    have hil : (i : Int) < (l.length : Int) := by omega
    have cq := cQ x
    rw [decide_eq_false hold] at cq
    have HH := Lib.hid fun (W : World) (x : Ext w3 W) => And.intro (x.cell n0) (And.intro (x.cell n1) (And.intro (x.cell q0) (x.cell q1)))
    have XX := (Ext.refl w3).drew
    have cD := fun (g cap : Nat) (base : Nat) (W : World) h1 h2 => delete_any l i q hq hiq HL.out g cap base W h1 h2
    have HQ := Lib.hid hq
    have HIQ := Lib.hid hiq
    clear hr HY hx hxn hlt hold cQ b2 b3 x2 he hlen hq hiq
    go_region_held3 (fun w' => w'.cell? ⟨w.heap.size, 0, none⟩ = some (.int .i64 next) ∧ w'.cell? ⟨w.heap.size, 1, none⟩ = some (.slice (some ad) l.length c) ∧ w'.cell? (ad.add (i * 2)) = some (.int .i64 x.n) ∧ w'.cell? ⟨(ad.add (i * 2)).block, (ad.add (i * 2)).off + 1, none⟩ = some (.int .i64 x.u)) (first | exact ⟨n0, n1, q0, q1⟩ | go_keep) (first
      | (go_at_call 181; refine (cO _).mono ?_; clear cO; rintro e w4 ⟨gb, rfl, hg, x5⟩; have y5 := XX.trans x5; obtain ⟨a0, a1, a2, a3⟩ := HH.out _ y5)
      | (go_at_call 241; refine (cq gb _ hg).mono ?_; clear cq; rintro e w5 ⟨rfl, x6⟩; have y6 := x4.trans (y5.trans x6); obtain ⟨hr, b6, b7, z6⟩ := HX.out _ y6; obtain ⟨d0, d1⟩ := two b6; have HR6 := Lib.hid hr; obtain ⟨-, -, a4, a5⟩ := HH.out _ (y5.trans x6); clear b6 b7 hr z6))
    go_wp2_with (first
      | (go_at_call 183; refine (cC _ HR6.out).mono ?_; clear cC; rintro e w7 ⟨v, rfl, ho, x7⟩; obtain ⟨g, cap, rfl, hgb, hgl⟩ := ho.form (by have := HQ.out; omega); have ho2 := ho; rw [HQ.out] at ho2; have HO := Lib.hid ho2; clear ho ho2; have HS7 := Lib.hid x7.size; rw [HQ.out])
      | (go_at_call 182; refine (cD _ _ _ _ HS7.out HO.out).mono ?_; clear cD; rintro e w8 ⟨A8, c8, rfl, ho8, hb8⟩; have y8 := y6.trans (Ext.of (x7.out.trans hb8)); obtain ⟨-, b8, b9, z8⟩ := HX.out _ y8; obtain ⟨d0, d1⟩ := two b8; have f0 := b8.frozen 0; have f1 := b8.frozen 1; have f2 := b9.frozen 0; have f3 := b9.frozen 1; have e0 := b9.cell 0; have e1 := b9.cell 1; have BB := Lib.hid b8; have BB3 := Lib.hid b9; clear b8 b9; have Z8 := Lib.hid z8; clear z8; have OW := Lib.hid ho8; clear ho8))
    have BF := ((BB3.out.far (p := ⟨w.heap.size, 1, none⟩) (by simp) (.slice A8 q c8)).set_ 0 (.int .i64 next)).set_ 1 (.slice A8 q c8)
    obtain ⟨r0, r1⟩ := two BF
    have hs2 : w.heap.size + 2 ≤ w5.heap.size := by have := y6.size; simp at this; omega
    have o9 := own_far (own_far (own_far OW.out (g := w.heap.size) (by omega) 1 (.slice A8 q c8)) (g := w.heap.size + 1) (by omega) 0 (.int .i64 next)) (g := w.heap.size + 1) (by omega) 1 (.slice A8 q c8)
    rw [← HE.out] at o9
    refine bodyPost_ret (v := .tuple #[.agg #[.int .i64 next, .slice A8 q c8], .int .i64 0]) (by simp [results, Tryz.results95, go_sem, r0, r1]) rfl ⟨A8, c8, ?_, ?_, ((Z8.out.setCell (p := ⟨w.heap.size, 1, none⟩) (Nat.le_refl _) _).setCell (p := ⟨w.heap.size + 1, 0, none⟩) (by simp) _).setCell (p := ⟨w.heap.size + 1, 1, none⟩) (by simp) _⟩
    · unfold fenV; simp only; rw [HLEN.out]; rfl
    · simp only
      rw [HLEN.out]
      exact own_base o9 (by omega)
end Go.Proofs.YtfpmfegmehbfbaaGreatDoor

/- Nonces, walked: Tell. -/
namespace Go.Proofs.YtfpmfegmehbfbaaGreatDoor
set_option linter.unusedVariables false
set_option linter.unusedSimpArgs false
open Go.RowKit Go.Shelf Go.Maps

theorem cell_two_at (W : World) (g : Nat) (hg : W.heap.size = g) (x y : Value) (t : TypeId) : ∀ j u, [x, y][j]? = some u → (W.alloc (.cells #[x, y] t)).cell? ((⟨g, 0, none⟩ : Addr).add j) = some u := by subst hg; exact cell_two_new W x y t
/-- The outcome of telling one. -/
def tellR (next : Int) (l : List NonR) (now : Int) : Int × List NonR × Int × Nat := if tellE next l now 20 = 0 then (next + 1, tellL next l now 20, next, 0) else (0, [], 0, tellE next l now 20)
theorem tellR_ok {next : Int} {l : List NonR} {now : Int} (h : tellE next l now 20 = 0) : tellR next l now = (next + 1, tellL next l now 20, next, 0) := by unfold tellR; rw [if_pos h]
theorem tellR_no {next : Int} {l : List NonR} {now : Int} {e : Nat} (h : tellE next l now 20 = e) (he : e ≠ 0) : tellR next l now = (0, [], 0, e) := by unfold tellR; rw [if_neg (by rw [h]; exact he), h]
theorem fen_wf {next : Int} {l : List NonR} (h : fenN next l = 0) : wf64 next ∧ l.length ≤ 1099511627776 ∧ ∀ x ∈ l, wf64 x.n ∧ wf64 x.u := by
  obtain ⟨⟨h1, h2, h3⟩, h4⟩ := fenN_zero.1 h
  refine ⟨wf64_of (by have := h3.1; omega) (by have := h3.2; omega), by omega, fun x hx => ?_⟩
  obtain ⟨g1, g2, g3, g4⟩ := h2 x hx
  exact ⟨wf64_of (by omega) (by have := h3.2; omega), wf64_of (by omega) (by omega)⟩
theorem nons_own {w : World} {base : Nat} {next : Int} {l : List NonR} {A : Option Addr} {c : Nat} (ho : w.ownsRow base 274 2 (.slice A l.length c) l.length (nonV l)) (h : fenN next l = 0) : NonsW w w.heap.size next l A c := by
  obtain ⟨A', c', e, hc, hr⟩ := own_slice2 ho
  cases e
  obtain ⟨h1, h2, h3⟩ := fen_wf h
  exact ⟨h1, hr, hc, h2, h3⟩
theorem nons_nil (w : World) (B : Nat) : NonsW w B 0 [] none 0 := ⟨wf64_of (by omega) (by omega), Reads.none_, by simp, by simp, by simp⟩
theorem fenN_use {next : Int} {l : List NonR} {n now : Int} : fenN (useF next l n now).1 (useF next l n now).2.1 = 0 := by
  unfold useF
  split
  · next h => exact fenN_sub (useE_zero h).1 (useL_sub l n)
  · show fenN 0 [] = 0
    decide
def tellPost (r : Int × List NonR × Int × Nat) (w : World) (e : Ending) (w' : World) : Prop :=
  ∃ A c, e = .returned (.tuple #[fenV r.1 r.2.1 A c, .int .i64 r.2.2.1, .int .i64 (r.2.2.2 : Nat)]) ∧ w'.ownsRow w.heap.size 274 2 (.slice A r.2.1.length c) r.2.1.length (nonV r.2.1) ∧ Ext w w'
set_option maxRecDepth 100000 in
set_option maxHeartbeats 4000000 in
theorem Tell_any (next : Int) (l : List NonR) (A : Option Addr) (c : Nat) (now : Int) (w : World) (hw : NonsW w w.heap.size next l A c) :
    Calls Tryz.prog 171 #[fenV next l A c, .int .i64 now, .int .i64 20] w (tellPost (tellR next l now) w) := by
  have c1 := fCheck_any next l A c
  have cT := time_any now
  have cR := fun W h => Trim_any next l A c now W h
  unfold fenV at c1 cR ⊢
  obtain ⟨W0, e0, b0, b1, x0, s0⟩ := startP w #[.int .i64 next, .slice A l.length c] #[.int .i64 0, .slice none 0 0] 91 91
  have c2 := c1 W0 (hw.ext x0)
  obtain ⟨E, hE⟩ : ∃ E, fenN next l = E := ⟨_, rfl⟩
  rw [hE] at c2
  clear c1
  by_cases h0 : E = 0
  case neg =>
    rw [show tellR next l now = (0, [], 0, E) from tellR_no (by unfold tellE; rw [if_pos (by rw [hE]; exact h0), hE]) h0]
    have k0 : ((E : Int) != 0) = true := by simp; omega
    subst e0
    have B1 := Lib.hid b1
    have X0 := Lib.hid x0
    clear hw hE h0 b0 b1 x0 cT s0 cR
    go_enter Tryz.func171, Tryz.ntmps171
    go_wp2_with (go_at_call 173; refine c2.mono ?_; clear c2; rintro e w1 ⟨rfl, x1⟩; have b2 := ext_blk x1 B1.out; obtain ⟨q0, q1⟩ := two b2; have f0 := b2.frozen 0; have f1 := b2.frozen 1; have BB := Lib.hid ((b2.set_ 0 (.int .i64 0)).set_ 1 (.slice none 0 0)); clear b2)
    obtain ⟨r0, r1⟩ := two BB.out
    refine bodyPost_ret (v := .tuple #[.agg #[.int .i64 0, .slice none 0 0], .int .i64 0, .int .i64 (E : Int)]) (by simp [results, Tryz.results171, go_sem, r0, r1]) rfl ⟨none, 0, rfl, World.ownsRow_nil _ _ _ _, ((X0.out.trans x1).setCell (by simp) _).setCell (by simp) _⟩
  subst h0
  obtain ⟨hp, hb, hnx, hu⟩ := fen_pair hE
  have HB1 := Lib.hid b1
  have HB0 := Lib.hid b0
  have HX0 := Lib.hid x0
  by_cases h1 : numP now
  case neg =>
    rw [show tellR next l now = (0, [], 0, 1) from tellR_no (by unfold tellE; rw [if_neg (by rw [hE]; simp), if_pos (by simp [h1])]) (by decide)]
    rw [decide_eq_false h1] at cT
    subst e0
    clear hw hE b0 b1 x0 s0 h1 hp hb hnx hu cR
    go_enter Tryz.func171, Tryz.ntmps171
    go_wp2_with (first
      | (go_at_call 173; refine c2.mono ?_; clear c2; rintro e w1 ⟨rfl, x1⟩; have b2 := ext_blk x1 HB1.out; obtain ⟨q0, q1⟩ := two b2; have f0 := b2.frozen 0; have f1 := b2.frozen 1; have BB := Lib.hid ((b2.set_ 0 (.int .i64 0)).set_ 1 (.slice none 0 0)); clear b2)
      | (go_at_call 178; refine (cT _).mono ?_; clear cT; rintro e w2 ⟨rfl, rfl⟩))
    obtain ⟨r0, r1⟩ := two BB.out
    refine bodyPost_ret (v := .tuple #[.agg #[.int .i64 0, .slice none 0 0], .int .i64 0, .int .i64 1]) (by simp [results, Tryz.results171, go_sem, r0, r1]) rfl ⟨none, 0, rfl, World.ownsRow_nil _ _ _ _, ((HX0.out.trans x1).setCell (by simp) _).setCell (by simp) _⟩
  rw [decide_eq_true h1] at cT
  by_cases h2 : 1099511627776 - now < 20
  · rw [show tellR next l now = (0, [], 0, 1) from tellR_no (by unfold tellE; rw [if_neg (by rw [hE]; simp), if_pos (.inr (.inr h2))]) (by decide)]
    have n0 := h1.1
    have n1 := h1.2
    have k2 : decide (1099511627776 - now < 20) = true := decide_eq_true h2
    subst e0
    clear hw hE b0 b1 x0 s0 h1 hp hb hnx hu cR h2
    go_enter Tryz.func171, Tryz.ntmps171
    go_wp2_with (first
      | (go_at_call 173; refine c2.mono ?_; clear c2; rintro e w1 ⟨rfl, x1⟩; have b2 := ext_blk x1 HB1.out; obtain ⟨q0, q1⟩ := two b2; have f0 := b2.frozen 0; have f1 := b2.frozen 1; have BB := Lib.hid ((b2.set_ 0 (.int .i64 0)).set_ 1 (.slice none 0 0)); clear b2)
      | (go_at_call 178; refine (cT _).mono ?_; clear cT; rintro e w2 ⟨rfl, rfl⟩))
    obtain ⟨r0, r1⟩ := two BB.out
    refine bodyPost_ret (v := .tuple #[.agg #[.int .i64 0, .slice none 0 0], .int .i64 0, .int .i64 1]) (by simp [results, Tryz.results171, go_sem, r0, r1]) rfl ⟨none, 0, rfl, World.ownsRow_nil _ _ _ _, ((HX0.out.trans x1).setCell (by simp) _).setCell (by simp) _⟩
  have n0 := h1.1
  have n1 := h1.2
  have k2 : decide (1099511627776 - now < 20) = false := decide_eq_false h2
  obtain ⟨m, hm⟩ : ∃ m, m = (trimF l now).length := ⟨_, rfl⟩
  have cR2 : ∀ W, Ext W0 W → Calls Tryz.prog 239 #[.agg #[.int .i64 next, .slice A l.length c], .int .i64 now] W fun e w' => ∃ A' c', e = .returned (.agg #[.int .i64 next, .slice A' m c']) ∧ w'.ownsRow W0.heap.size 274 2 (.slice A' m c') m (nonV (trimF l now)) ∧ Ext W w' := fun W x => by
    rw [hm]
    exact (cR W (hw.ext (x0.trans x))).mono fun e w' ⟨A', c', g1, g2, g3⟩ => ⟨A', c', g1, own_base g2 x.size, g3⟩
  have hmb : m ≤ 64 := by have := (trimF_sub l now).length_le; have := (fenN_zero.1 hE).2; omega
  have HXW : Hid (∀ W, Ext W0 W → Ext w W) := Lib.hid fun W x => x0.trans x
  have HS0 := Lib.hid s0
  by_cases h3 : m = 64 ∨ next = 1099511627776
  · have hR : tellR next l now = (0, [], 0, 2) := tellR_no (by unfold tellE; rw [if_neg (by rw [hE]; simp), if_neg (by rintro (h | h | h) <;> first | exact h h1 | omega), ← hm, if_pos h3]) (by decide)
    rw [hR]
    clear hR hmb
    by_cases h4 : m = 64
    · have k4 : ((m : Int) == 64) = true := by rw [h4]; rfl
      have HM := Lib.hid hm
      subst e0
      clear hw hE b0 b1 x0 s0 h1 hp hb hnx hu cR h2 hm h3 h4
      go_enter Tryz.func171, Tryz.ntmps171
      go_wp2_with (first
        | (go_at_call 173; refine c2.mono ?_; clear c2; rintro e w1 ⟨rfl, x1⟩; obtain ⟨m0, m1⟩ := two (ext_blk x1 HB0.out))
        | (go_at_call 178; refine (cT _).mono ?_; clear cT; rintro e w2 ⟨rfl, rfl⟩)
        | (go_at_call 239; refine (cR2 _ x1).mono ?_; clear cR2; rintro e w3 ⟨A3, c3, rfl, ho3, x3⟩; have b2 := ext_blk (x1.trans x3) HB1.out; obtain ⟨q0, q1⟩ := two b2; have f0 := b2.frozen 0; have f1 := b2.frozen 1; have BB := Lib.hid ((((b2.set_ 0 (.int .i64 next)).set_ 1 (.slice A3 m c3)).set_ 0 (.int .i64 0)).set_ 1 (.slice none 0 0)); clear b2 ho3))
      obtain ⟨r0, r1⟩ := two BB.out
      refine bodyPost_ret (v := .tuple #[.agg #[.int .i64 0, .slice none 0 0], .int .i64 0, .int .i64 2]) (by simp [results, Tryz.results171, go_sem, r0, r1]) rfl ⟨none, 0, rfl, World.ownsRow_nil _ _ _ _, ((((HX0.out.trans (x1.trans x3)).setCell (by simp) _).setCell (by simp) _).setCell (by simp) _).setCell (by simp) _⟩
    · have k4 : ((m : Int) == 64) = false := by rw [beq_eq_false_iff_ne]; omega
      have k5 : (next == 1099511627776) = true := by rw [beq_iff_eq]; omega
      have HM := Lib.hid hm
      subst e0
      clear hw hE b0 b1 x0 s0 h1 hp hb hnx hu cR h2 hm h3 h4
      go_enter Tryz.func171, Tryz.ntmps171
      go_wp2_with (first
        | (go_at_call 173; refine c2.mono ?_; clear c2; rintro e w1 ⟨rfl, x1⟩; obtain ⟨m0, m1⟩ := two (ext_blk x1 HB0.out))
        | (go_at_call 178; refine (cT _).mono ?_; clear cT; rintro e w2 ⟨rfl, rfl⟩)
        | (go_at_call 239; refine (cR2 _ x1).mono ?_; clear cR2; rintro e w3 ⟨A3, c3, rfl, ho3, x3⟩; have b2 := ext_blk (x1.trans x3) HB1.out; obtain ⟨q0, q1⟩ := two b2; have f0 := b2.frozen 0; have f1 := b2.frozen 1; have BB := Lib.hid ((((b2.set_ 0 (.int .i64 next)).set_ 1 (.slice A3 m c3)).set_ 0 (.int .i64 0)).set_ 1 (.slice none 0 0)); clear b2 ho3))
      obtain ⟨r0, r1⟩ := two BB.out
      refine bodyPost_ret (v := .tuple #[.agg #[.int .i64 0, .slice none 0 0], .int .i64 0, .int .i64 2]) (by simp [results, Tryz.results171, go_sem, r0, r1]) rfl ⟨none, 0, rfl, World.ownsRow_nil _ _ _ _, ((((HX0.out.trans (x1.trans x3)).setCell (by simp) _).setCell (by simp) _).setCell (by simp) _).setCell (by simp) _⟩
  · have hT : tellE next l now 20 = 0 := by unfold tellE; rw [if_neg (by rw [hE]; simp), if_neg (by rintro (h | h | h) <;> first | exact h h1 | omega), ← hm, if_neg h3]
    rw [tellR_ok hT]
    have hF := tell_fen hT
    have k4 : ((m : Int) == 64) = false := by rw [beq_eq_false_iff_ne]; omega
    have k5 : (next == 1099511627776) = false := by rw [beq_eq_false_iff_ne]; omega
    have k6 := hnx.1
    have k7 := hnx.2
    have HM := Lib.hid hm
    have HF := Lib.hid hF
    obtain ⟨i0, hi, hz0, hz1, hz2⟩ := info_parts Tryz.infoNon
    subst e0
    clear hw hE b0 b1 x0 s0 h1 hp hb hnx hu cR h2 hm h3 hT hF
    go_enter Tryz.func171, Tryz.ntmps171
    go_wp2_with (first
      | (go_at_call 173; refine c2.mono ?_; clear c2; rintro e w1 ⟨rfl, x1⟩; obtain ⟨m0, m1⟩ := two (ext_blk x1 HB0.out))
      | (go_at_call 178; refine (cT _).mono ?_; clear cT; rintro e w2 ⟨rfl, rfl⟩)
      | (go_at_call 239; refine (cR2 _ x1).mono ?_; clear cR2; rintro e w3 ⟨A3, c3, rfl, ho3, x3⟩; have b2 := ext_blk (x1.trans x3) HB1.out; obtain ⟨q0, q1⟩ := two b2; have f0 := b2.frozen 0; have f1 := b2.frozen 1; have BB := Lib.hid ((b2.set_ 0 (.int .i64 next)).set_ 1 (.slice A3 m c3)); have O4 := Lib.hid (own_base (own_far (own_far ho3 (g := w.heap.size + 1) (by simp) 0 (.int .i64 next)) (g := w.heap.size + 1) (by simp) 1 (.slice A3 m c3)) (base' := w.heap.size + 2) (by simp)); have HSZ := Lib.hid (show w.heap.size + 2 ≤ w3.heap.size by have g1 := x1.size; have g2 := x3.size; simp at g1; omega); clear b2 ho3)
      | (at_builtin; refine wpList_append_own _ rfl (.tmp 46) (.tmp 52) 89 rfl (w.heap.size + 2) 274 i0 (.agg #[.int .i64 0, .int .i64 0]) 2 16 Tryz.underlying89 hi hz0 hz1 hz2 rfl (by decide) _ _ _ rfl (O4.out.alloc _) ⟨w3.heap.size, 0, none⟩ 1 1 [.int .i64 next, .int .i64 (now + 20)] rfl rfl (cell_two_at _ _ (by simp) _ _ _) (by simp [Value.oneCell']) (by simp only [maxLen]; omega) (by omega) (by have := HSZ.out; simp; omega) ?_; intro v7 w7 hown7 hg7 _; obtain ⟨A7, c7, rfl, hc7, -⟩ := own_slice2 hown7; have b7 := (BB.out.alloc (.cells #[.int .i64 next, .int .i64 (now + 20)] 274)).grown hg7 (fun e => by have := own_out O4.out _ e.symm; omega); obtain ⟨d0, d1⟩ := two b7; have f2 := b7.frozen 0; have f3 := b7.frozen 1; have B7 := Lib.hid ((((b7.set_ 1 (.slice A7 (m + 1) c7)).set_ 0 (.int .i64 (next + 1))).set_ 0 (.int .i64 (next + 1))).set_ 1 (.slice A7 (m + 1) c7)); have HG7 := Lib.hid hg7; have O7 := Lib.hid hown7; clear hown7 hg7 b7))
    obtain ⟨r0, r1⟩ := two B7.out
    have hlen : (tellL next l now 20).length = m + 1 := by unfold tellL; rw [List.length_append, ← HM.out]; rfl
    have hv : nonV (trimF l now) ++ [.int .i64 next, .int .i64 (now + 20)] = nonV (tellL next l now 20) := by unfold tellL; rw [nonV_append]; rfl
    have hx4 := ((HX0.out.trans (x1.trans x3)).setCell (p := ⟨w.heap.size + 1, 0, none⟩) (by simp) (.int .i64 next)).setCell (p := ⟨w.heap.size + 1, 1, none⟩) (by simp) (.slice A3 m c3)
    have hx7 := ext_grown (hx4.alloc (.cells #[.int .i64 next, .int .i64 (now + 20)] 274)) (own_base (O4.out.alloc _) (by omega)) HG7.out
    have o7 := O7.out
    rw [hv] at o7
    have o8 := own_far (own_far (own_far (own_far o7 (g := w.heap.size + 1) (by omega) 1 (.slice A7 (m + 1) c7)) (g := w.heap.size + 1) (by omega) 0 (.int .i64 (next + 1))) (g := w.heap.size + 1) (by omega) 0 (.int .i64 (next + 1))) (g := w.heap.size + 1) (by omega) 1 (.slice A7 (m + 1) c7)
    refine bodyPost_ret (v := .tuple #[.agg #[.int .i64 (next + 1), .slice A7 (m + 1) c7], .int .i64 next, .int .i64 0]) (by simp [results, Tryz.results171, go_sem, r0, r1]) rfl ⟨A7, c7, ?_, ?_, (((hx7.setCell (p := ⟨w.heap.size + 1, 1, none⟩) (by simp) _).setCell (p := ⟨w.heap.size + 1, 0, none⟩) (by simp) _).setCell (p := ⟨w.heap.size + 1, 0, none⟩) (by simp) _).setCell (p := ⟨w.heap.size + 1, 1, none⟩) (by simp) _⟩
    · unfold fenV; simp only; rw [hlen]; rfl
    · simp only
      rw [hlen]
      exact own_base o8 (by omega)
end Go.Proofs.YtfpmfegmehbfbaaGreatDoor

/- The door, walked: numbers, what may be ordered, tokens, whether there is an account. -/
namespace Go.Proofs.YtfpmfegmehbfbaaGreatDoor
set_option linter.unusedVariables false
set_option linter.unusedSimpArgs false
open Go.RowKit Go.Shelf Go.Maps

theorem onum_any (n : Int) (w : World) : Calls Tryz.prog 93 #[.int .i64 n] w fun e w' => e = .returned (.bool (decide (numP n))) ∧ w = w' := by
  go_enter Tryz.func93, Tryz.ntmps93
  by_cases h1 : 0 ≤ n <;> by_cases h2 : n ≤ 1099511627776
  all_goals
    go_wp2
    go_ret
    exact ⟨ret_bool (by rw [eq_comm]; first | exact decide_eq_true (by unfold numP; omega) | exact decide_eq_false (by unfold numP; omega)), rfl⟩
/-! ### texts among texts -/
theorem str_beq_false {x s : ByteArray} (h : x ≠ s) : (x.toList == s.toList) = false := by
  rw [beq_eq_false_iff_ne]; intro e; apply h
  rw [ByteArray.toList_eq, ByteArray.toList_eq] at e
  exact ByteArray.ext (Array.toList_inj.1 e)
theorem str_beq_true {x s : ByteArray} (h : x = s) : (x.toList == s.toList) = true := by rw [h]; simp
def memB (x : ByteArray) (l : List ByteArray) : Bool := l.any fun s => decide (x = s)
theorem memB_iff {x : ByteArray} {l : List ByteArray} : memB x l = true ↔ x ∈ l := by unfold memB; simp
theorem memB_yes {x : ByteArray} {l : List ByteArray} (h : x ∈ l) : memB x l = true := memB_iff.2 h
theorem memB_no {x : ByteArray} {l : List ByteArray} (h : x ∉ l) : memB x l = false := by
  cases e : memB x l with
  | false => rfl
  | true => exact absurd (memB_iff.1 e) h
theorem ixT_mem {l : List ByteArray} {x : ByteArray} : decide (0 ≤ ixG (fun s => decide (x = s)) l) = memB x l := by
  unfold ixG
  cases h : l.findIdx? fun s => decide (x = s) with
  | none =>
    have := List.findIdx?_eq_none_iff.1 h
    rw [decide_eq_false (by simp), memB_no]
    intro hm; have := this x hm; simp at this
  | some i =>
    obtain ⟨h1, h2, _⟩ := List.findIdx?_eq_some_iff_getElem.1 h
    rw [decide_eq_true (by simp), memB_yes]
    simp at h2; rw [h2]; exact List.getElem_mem h1
set_option maxRecDepth 100000 in
set_option maxHeartbeats 2000000 in
theorem indexT_any (l : List ByteArray) (hn : l.length ≤ 1099511627776) (x : ByteArray) (A : Option Addr) (c : Nat) (w : World) (hr : Reads w w.heap.size 1 A l.length (tv l)) :
    Calls Tryz.prog 253 #[.slice A l.length c, .string x] w fun e w' => e = .returned (.int .i64 (ixG (fun s => decide (x = s)) l)) ∧ w = w' := by
  have HR := Lib.hid hr
  have HN := Lib.hid hn
  clear hr hn
  go_enter Tryz.func253, Tryz.ntmps253
  go_wp2
  go_loopg [8] l.length (fun m s8 wr => ∃ j : Nat, j + m = l.length ∧ s8 = .int .i64 j ∧ (∀ s ∈ l.take j, x ≠ s) ∧ wr = w)
  case atStart => exact ⟨0, by omega, rfl, by simp, rfl⟩
  case round =>
    obtain ⟨j, hj, rfl, hok, rfl⟩ := hrel
    by_cases h : j < l.length
    · obtain ⟨s, hs⟩ : ∃ s, l[j]? = some s := ⟨_, List.getElem?_eq_getElem h⟩
      obtain ⟨ad, rfl, q0⟩ := reads_text HR.out hs
      have hjb : (j : Int) ≤ 1099511627776 := by have := HN.out; omega
      have e1 : l.take (j + 1) = l.take j ++ [s] := by rw [List.take_add_one, hs]; rfl
      by_cases hx : x = s
      · have kk : Hid (ixG (fun s => decide (x = s)) l = (j : Int)) := Lib.hid (by
          have : (l.findIdx? fun s => decide (x = s)) = some j := by
            rw [List.findIdx?_eq_some_iff_getElem]
            have hsg := (List.getElem?_eq_some_iff.1 hs).2
            refine ⟨h, by rw [hsg]; simp [hx], fun i hi => ?_⟩
            have := hok (l[i]'(by omega)) (List.mem_take_iff_getElem.2 ⟨i, by omega, rfl⟩)
            simp [this]
          unfold ixG; rw [this])
        have k1 := str_beq_true hx
        clear hj hs hok e1 hx
        go_wp2
        go_ret
        exact ⟨by rw [kk.out]; rfl, rfl⟩
      · have hok' : Hid (∀ s ∈ l.take (j + 1), x ≠ s) := Lib.hid fun r hr => by
          rw [e1] at hr
          rcases List.mem_append.1 hr with hr | hr
          · exact hok r hr
          · rw [List.mem_singleton] at hr; subst hr; exact hx
        have k1 := str_beq_false hx
        have HJ := Lib.hid hj
        clear hj hs hok e1 hx
        go_wp2
        have hj := HJ.out
        go_roundg (gk - 1)
        case measure => omega
        case rel => exact ⟨j + 1, by omega, int_congr (by omega), hok'.out, rfl⟩
    · obtain rfl : j = l.length := by omega
      rw [List.take_length] at hok
      have kk : Hid (ixG (fun s => decide (x = s)) l = -1) := Lib.hid (by
        have : (l.findIdx? fun s => decide (x = s)) = none := List.findIdx?_eq_none_iff.2 (fun s hs => by simp [hok s hs])
        unfold ixG; rw [this])
      clear hj h hok
      go_wp2
      go_ret
      exact ⟨by rw [kk.out]; rfl, rfl⟩
theorem containsT_any (l : List ByteArray) (hn : l.length ≤ 1099511627776) (x : ByteArray) (A : Option Addr) (c : Nat) (w : World) (hr : Reads w w.heap.size 1 A l.length (tv l)) :
    Calls Tryz.prog 208 #[.slice A l.length c, .string x] w fun e w' => e = .returned (.bool (memB x l)) ∧ w = w' := by
  have c1 := indexT_any l hn x A c w hr
  have e1 := ixT_mem (l := l) (x := x)
  obtain ⟨i, hi⟩ : ∃ i, i = ixG (fun s => decide (x = s)) l := ⟨_, rfl⟩
  rw [← hi] at c1 e1
  have E1 := Lib.hid e1
  clear hr hn hi e1
  go_enter Tryz.func208, Tryz.ntmps208
  go_wp2_with (go_at_call 253; refine c1.mono ?_; clear c1; rintro e w1 ⟨rfl, rfl⟩)
  go_ret
  exact ⟨ret_bool E1.out, rfl⟩

/-! ### what may be ordered -/
def namTo (l : List ByteArray) : Prop := (∀ s ∈ l, namP s) ∧ l.Nodup
theorem namTo_succ {l : List ByteArray} {j : Nat} {s : ByteArray} (h : l[j]? = some s) : namTo (l.take (j + 1)) ↔ namTo (l.take j) ∧ namP s ∧ s ∉ l.take j := by
  rw [take_snoc h]
  unfold namTo
  rw [List.nodup_append]
  constructor
  · rintro ⟨h1, h2, h3, h4⟩
    exact ⟨⟨fun x hx => h1 x (by simp [hx]), h2⟩, h1 s (by simp), fun hm => h4 s hm s (by simp) rfl⟩
  · rintro ⟨⟨h1, h2⟩, h3, h4⟩
    refine ⟨fun x hx => ?_, h2, by simp, fun a ha b hb => ?_⟩
    · rcases List.mem_append.1 hx with hx | hx
      · exact h1 x hx
      · rw [List.mem_singleton] at hx; subst hx; exact h3
    · rw [List.mem_singleton] at hb; subst hb; intro e; subst e; exact h4 ha
theorem namTo_not {l : List ByteArray} {k : Nat} (h : ¬ namTo (l.take k)) : ¬ namesP l := fun h' => h ⟨fun s hs => h'.1 s (List.mem_of_mem_take hs), h'.2.1.sublist (List.take_sublist _ _)⟩
theorem namesP_to {l : List ByteArray} : namesP l ↔ namTo l ∧ 0 < l.length ∧ l.length ≤ 8 := by unfold namesP namTo; exact ⟨fun ⟨a, b, c, d⟩ => ⟨⟨a, b⟩, c, d⟩, fun ⟨⟨a, b⟩, c, d⟩ => ⟨a, b, c, d⟩⟩
theorem tv_take (l : List ByteArray) (j : Nat) : (tv l).take j = tv (l.take j) := by simp [tv, List.map_take]
theorem Reads.head {w : World} {B n c : Nat} {A : Option Addr} {xs : List Value} (h : Reads w B 1 A n xs) {j : Nat} (hj : j ≤ n) : Reads w B 1 A j (xs.take j) := by
  refine ⟨by rw [List.length_take, h.1]; omega, fun h0 => ?_⟩
  obtain ⟨ad, e, hb, hc⟩ := h.2 (by omega)
  refine ⟨ad, e, hb, fun i u hu => hc i u ?_⟩
  rw [List.getElem?_take] at hu
  split at hu
  · exact hu
  · cases hu
set_option maxRecDepth 100000 in
set_option maxHeartbeats 4000000 in
theorem orderable_any (l : List ByteArray) (hn : l.length ≤ 1099511627776) (hs : ∀ s ∈ l, s.size ≤ 140737488355328) (A : Option Addr) (c : Nat) (hc : l.length ≤ c) (w : World) (hr : Reads w w.heap.size 1 A l.length (tv l)) :
    Calls Tryz.prog 177 #[.slice A l.length c] w fun e w' => e = .returned (.bool (decide (namesP l))) ∧ Ext w w' := by
  have HR := Lib.hid fun (W : World) (x : Ext w W) => (hr.below x.out).more x.size
  have HN := Lib.hid hn
  have HS := Lib.hid hs
  have HC := Lib.hid hc
  clear hr hn hs hc
  go_enter Tryz.func177, Tryz.ntmps177
  go_wp2
  go_loopg [7] l.length (fun m s7 wr => ∃ j : Nat, j + m = l.length ∧ s7 = .int .i64 j ∧ namTo (l.take j) ∧ Ext w wr)
  case atStart => exact ⟨0, by omega, rfl, ⟨by simp, by simp⟩, Ext.refl w⟩
  case round =>
    obtain ⟨j, hj, rfl, hok, hx⟩ := hrel
    have hjb : (j : Int) ≤ 1099511627776 := by have := HN.out; omega
    by_cases h : j < l.length
    · obtain ⟨s, hs⟩ : ∃ s, l[j]? = some s := ⟨_, List.getElem?_eq_getElem h⟩
      obtain ⟨ad, rfl, q0⟩ := reads_text (HR.out _ hx) hs
      have c1 := nCheck_any s (HS.out s (List.mem_of_getElem? hs))
      have HT := Lib.hid (namTo_succ hs)
      have HO := Lib.hid hok
      have HX := Lib.hid hx
      have HJ := Lib.hid hj
      by_cases h1 : namP s
      · rw [show namE s = 0 from if_pos h1] at c1
        have hjc : (j : Int) ≤ (c : Int) := by have := HC.out; omega
        have ej : (l.take j).length = j := by rw [List.length_take]; omega
        have c2 : ∀ W, Ext w W → Calls Tryz.prog 208 #[.slice (some ad) j c, .string s] W fun e w' => e = .returned (.bool (memB s (l.take j))) ∧ W = w' := fun W x => by
          have := containsT_any (l.take j) (by omega) s (some ad) c W (by rw [← tv_take, ej]; exact (HR.out _ x).head (c := c) (by omega))
          rw [ej] at this; exact this
        by_cases h2 : s ∈ l.take j
        · rw [memB_yes h2] at c2
          have kk : Hid (¬ namesP l) := Lib.hid (namTo_not (k := j + 1) fun hh => (HT.out.1 hh).2.2 h2)
          clear hx hj hs hok h2 h1 ej
          go_wp2_with (first
            | (go_at_call 240; refine (c1 _).mono ?_; clear c1; rintro e w1 ⟨rfl, x1⟩)
            | (go_at_call 208; refine (c2 _ (HX.out.trans x1)).mono ?_; clear c2; rintro e w2 ⟨rfl, rfl⟩))
          go_ret
          exact ⟨ret_bool (decide_eq_false kk.out).symm, HX.out.trans x1⟩
        · rw [memB_no h2] at c2
          have hok' : Hid (namTo (l.take (j + 1))) := Lib.hid (HT.out.2 ⟨HO.out, h1, h2⟩)
          clear hx hj hs hok h2 h1 ej
          go_wp2_with (first
            | (go_at_call 240; refine (c1 _).mono ?_; clear c1; rintro e w1 ⟨rfl, x1⟩)
            | (go_at_call 208; refine (c2 _ (HX.out.trans x1)).mono ?_; clear c2; rintro e w2 ⟨rfl, rfl⟩))
          have hj := HJ.out
          go_roundg (gk - 1)
          case measure => omega
          case rel => exact ⟨j + 1, by omega, int_congr (by omega), hok'.out, HX.out.trans x1⟩
      · rw [show namE s = 110 from if_neg h1] at c1
        have kk : Hid (¬ namesP l) := Lib.hid (namTo_not (k := j + 1) fun hh => h1 (HT.out.1 hh).2.1)
        clear hx hj hs hok h1
        go_wp2_with (go_at_call 240; refine (c1 _).mono ?_; clear c1; rintro e w1 ⟨rfl, x1⟩)
        go_ret
        exact ⟨ret_bool (decide_eq_false kk.out).symm, HX.out.trans x1⟩
    · obtain rfl : j = l.length := by omega
      rw [List.take_length] at hok
      have HX := Lib.hid hx
      clear hx hj
      by_cases h1 : 0 < l.length
      · have d1 : decide (0 < l.length) = true := decide_eq_true h1
        by_cases h2 : l.length ≤ 8
        · have kk : Hid (namesP l) := Lib.hid (namesP_to.2 ⟨hok, h1, h2⟩)
          have d2 : (l.length : Int) ≤ 8 := by omega
          clear h h1 h2 hok
          go_wp2
          go_ret
          first | exact ⟨ret_bool (decide_eq_true kk.out).symm, HX.out⟩ | exact ⟨ret_bool (by simp [kk.out]), HX.out⟩
        · have kk : Hid (¬ namesP l) := Lib.hid (fun h => h2 h.2.2.2)
          have d2 : ¬ (l.length : Int) ≤ 8 := by omega
          clear h h1 h2 hok
          go_wp2
          go_ret
          first | exact ⟨ret_bool (decide_eq_false kk.out).symm, HX.out⟩ | exact ⟨ret_bool (by simp [kk.out]), HX.out⟩
      · have d1 : decide (0 < l.length) = false := decide_eq_false h1
        have kk : Hid (¬ namesP l) := Lib.hid (fun h => h1 h.2.2.1)
        clear h h1 hok
        go_wp2
        go_ret
        first | exact ⟨ret_bool (decide_eq_false kk.out).symm, HX.out⟩ | exact ⟨ret_bool (by simp [kk.out]), HX.out⟩

/-! ### tokens -/
theorem itoa_any (i : Int) (h0 : 0 ≤ i) (h1 : i < 100) (w : World) : Calls Tryz.prog 242 #[.int .i64 i] w fun e w' => e = .returned (.string ⟨(Lib.itoa i).toArray⟩) ∧ w = w' := by
  obtain ⟨n, rfl⟩ : ∃ n : Nat, i = n := ⟨i.toNat, by omega⟩
  refine (Tryz.strconv_Itoa_small n (by omega) w).mono ?_
  rintro e w' ⟨rfl, rfl⟩
  exact ⟨by rw [Lib.itoa_nonneg], rfl⟩
theorem itoa_few (i : Int) (h0 : 0 ≤ i) (h1 : i < 100) : (Lib.itoa i).length ≤ 2 := by
  obtain ⟨n, rfl⟩ : ∃ n : Nat, i = n := ⟨i.toNat, by omega⟩
  have : ∀ k < 100, (Lib.itoa (k : Nat)).length ≤ 2 := by decide +kernel
  exact this n (by omega)
theorem token_any (id acc : Int) (h1 : 0 ≤ id) (h2 : id < 100) (h3 : 0 ≤ acc) (h4 : acc < 100) (w : World) : Calls Tryz.prog 190 #[.int .i64 id, .int .i64 acc] w fun e w' => e = .returned (.string (tokS id acc)) ∧ w = w' := by
  have c1 := fun i a b W => itoa_any i a b W
  have k1 := itoa_few id h1 h2
  have k2 := itoa_few acc h3 h4
  go_enter Tryz.func190, Tryz.ntmps190
  go_wp2_with (go_at_call 242; refine (c1 _ (by assumption) (by assumption) _).mono ?_; rintro e w1 ⟨rfl, rfl⟩)
  go_ret
  refine ⟨?_, rfl⟩
  unfold tokS
  have e : (⟨(Lib.itoa id).toArray⟩ ++ ⟨#[45]⟩ ++ ⟨(Lib.itoa acc).toArray⟩ : ByteArray) = ⟨(Lib.itoa id ++ [45] ++ Lib.itoa acc).toArray⟩ := by
    apply ByteArray.ext
    rw [ByteArray.data_append, ByteArray.data_append]
    simp
  rw [← e]
  rfl
end Go.Proofs.YtfpmfegmehbfbaaGreatDoor
