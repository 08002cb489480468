/- HashTurns and HashReaches, walked. -/
import Derived.Test.YtckfifghipkedaaHaUndo
import Derived.Test.YtckfifghipkedaaHaLaw
namespace Go.Proofs.Ytckfifghipkedaa
set_option linter.unusedVariables false
open Go.RowKit Go.Shelf
attribute [local irreducible] mix undo rnds

theorem red_ok (s : Nat × Nat × Nat) : ok3 (red s) :=
  ⟨Nat.lt_trans (Nat.mod_lt _ (by decide)) (by decide), Nat.lt_trans (Nat.mod_lt _ (by decide)) (by decide), Nat.lt_trans (Nat.mod_lt _ (by decide)) (by decide)⟩
theorem put_all {w W : World} {h : Nat} {T : TypeId} {p q r a b c : Value} (b0 : Blk W h T #[p, q, r]) (x : Ext w W) (hw : w.heap.size ≤ h) :
    ∃ W', ((W.setCell ⟨h, 0, none⟩ a).setCell ⟨h, 1, none⟩ b).setCell ⟨h, 2, none⟩ c = W' ∧ Blk W' h T #[a, b, c] ∧ Ext w W' ∧ (∀ g T' cs, Blk W g T' cs → g ≠ h → Blk W' g T' cs) :=
  ⟨_, rfl, by have := ((b0.set_ 0 a).set_ 1 b).set_ 2 c; simpa using this,
    ((x.setCell (p := ⟨h, 0, none⟩) hw a).setCell (p := ⟨h, 1, none⟩) hw b).setCell (p := ⟨h, 2, none⟩) hw c,
    fun g T' cs bg hne => ((bg.far (p := ⟨h, 0, none⟩) hne a).far (p := ⟨h, 1, none⟩) hne b).far (p := ⟨h, 2, none⟩) hne c⟩
theorem tmod_P (x : Nat) : (x : Int).tmod 2305843009213693951 = ((x % bP : Nat) : Int) := by
  rw [Int.tmod_eq_emod_of_nonneg (by omega)]; unfold bP; omega

set_option maxRecDepth 100000 in
set_option maxHeartbeats 1000000 in
theorem walk_HashTurns (x y z : Nat) (hx : x < 18446744073709551616) (hy : y < 18446744073709551616) (hz : z < 18446744073709551616) (w : World) :
    Calls Try.prog 11 #[.agg #[.int .u64 x, .int .u64 y, .int .u64 z]] w fun e w' => e = .returned (.bool true) ∧ Ext w w' := by
  have cl := fun W => live_any W
  obtain ⟨S, hS⟩ : ∃ S : Nat → Nat × Nat × Nat, S = fun n => red (rnds n (x, y, z)) := ⟨_, rfl⟩
  have c1 := fun W => mix_any (x, y, z) ⟨hx, hy, hz⟩ W
  have cu : ∀ j, j < 8 → ∀ W, Calls Try.prog 32 #[.agg (val3 (S (j + 1))), .int .i64 (j : Nat)] W fun e w' => e = .returned (.agg (val3 (S j))) ∧ Ext W w' := fun j hj W => by
    have := undone_any (red (rnds (j + 1) (x, y, z))) (red_ok _) j hj W
    rw [undo_rnds] at this
    rw [hS]; exact this
  have h8 : mix (x, y, z) = S 8 := by rw [hS, ← red_mix]; unfold mix; rfl
  rw [h8] at c1
  obtain ⟨⟨m0, m1, m2⟩, hm⟩ : ∃ m, m = S 8 := ⟨_, rfl⟩
  have l0 : (m0 : Int) < 2305843009213693951 := by
    have : m0 < bP := by rw [show m0 = (m0, m1, m2).1 from rfl, hm, hS]; exact Nat.mod_lt _ (by decide)
    unfold bP at this; omega
  have l1 : (m1 : Int) < 2305843009213693951 := by
    have : m1 < bP := by rw [show m1 = (m0, m1, m2).2.1 from rfl, hm, hS]; exact Nat.mod_lt _ (by decide)
    unfold bP at this; omega
  have l2 : (m2 : Int) < 2305843009213693951 := by
    have : m2 < bP := by rw [show m2 = (m0, m1, m2).2.2 from rfl, hm, hS]; exact Nat.mod_lt _ (by decide)
    unfold bP at this; omega
  have t0 : decide ((m0 : Int) < 2305843009213693951) = true := by simp [l0]
  have t1 : decide ((m1 : Int) < 2305843009213693951) = true := by simp [l1]
  have t2 : decide ((m2 : Int) < 2305843009213693951) = true := by simp [l2]
  have h0 : S 0 = (x % bP, y % bP, z % bP) := by rw [hS]; unfold rnds; rfl
  rw [← hm] at c1
  simp only [val3] at c1
  clear hS h8 l0 l1 l2
  have k0 := tmod_P x
  have k1 := tmod_P y
  have k2 := tmod_P z
  obtain ⟨r0, hr0⟩ : ∃ r, r = x % bP := ⟨_, rfl⟩
  obtain ⟨r1, hr1⟩ : ∃ r, r = y % bP := ⟨_, rfl⟩
  obtain ⟨r2, hr2⟩ : ∃ r, r = z % bP := ⟨_, rfl⟩
  rw [← hr0] at k0
  rw [← hr1] at k1
  rw [← hr2] at k2
  rw [← hr0, ← hr1, ← hr2] at h0
  have H0 := Lib.hid h0
  clear h0
  have q1 := eq3_same (r0 : Int) (r1 : Int) (r2 : Int)
  have HM := Lib.hid hm
  clear hm hx hy hz hr0 hr1 hr2
  go_enter Try.func11, Try.ntmps11
  go_wp2_with (first
    | (go_at_call 13; refine (cl _).mono ?_; clear cl; rintro e w1 ⟨rfl, x1⟩; have hb := ext_blk x1 (Blk.new w _ _); obtain ⟨p0, p1, p2⟩ := arr3f hb; have HB := Lib.hid hb; clear hb)
    | (go_at_call 14; refine (c1 _).mono ?_; clear c1; rintro e w2 ⟨rfl, x2⟩))
  obtain ⟨W0, e0, b4, b5, xA⟩ := start2 w2 #[.int .u64 (m0 : Int), .int .u64 (m1 : Int), .int .u64 (m2 : Int)] #[.int .u64 (m0 : Int), .int .u64 (m1 : Int), .int .u64 (m2 : Int)] 23 23
  rw [e0]
  have bg : Blk W0 w.heap.size 23 #[.int .u64 (x : Int), .int .u64 (y : Int), .int .u64 (z : Int)] := ext_blk (x2.trans xA) HB.out
  have xW : Ext w W0 := ((((Ext.refl w).alloc _).trans x1).trans x2).trans xA
  have hgs : w.heap.size < w2.heap.size := by have := HB.out.lt; have := x2.size; omega
  obtain ⟨g, hg⟩ : ∃ g, g = w.heap.size := ⟨_, rfl⟩
  obtain ⟨f, hf⟩ : ∃ f, f = w2.heap.size := ⟨_, rfl⟩
  rw [← hg] at bg hgs ⊢
  rw [← hf] at b4 b5 hgs ⊢
  obtain ⟨h, hh⟩ : ∃ h, h = f + 1 := ⟨_, rfl⟩
  rw [← hh] at b5 ⊢
  have n1 : g ≠ h := by omega
  have n2 : f ≠ h := by omega
  have n3 : w.heap.size ≤ h := by omega
  have N := Lib.hid (And.intro n1 (And.intro n2 n3))
  clear e0 hg hf hgs hh n1 n2 n3 p0 p1 p2 HB x1 x2 xA
  go_loopg [6] 8 (fun n i wr => n ≤ 8 ∧ i = .int .i64 ((n : Int) - 1) ∧ Blk wr h 23 (val3 (S n)) ∧ Blk wr g 23 #[.int .u64 (x : Int), .int .u64 (y : Int), .int .u64 (z : Int)] ∧ Blk wr f 23 #[.int .u64 (m0 : Int), .int .u64 (m1 : Int), .int .u64 (m2 : Int)] ∧ Ext w wr)
  case atStart => exact ⟨Nat.le_refl 8, rfl, by rw [← HM.out]; exact b5, bg, b4, xW⟩
  case round =>
    obtain ⟨hk, rfl, hb, hg, hf, hx⟩ := hrel
    obtain ⟨k, ek⟩ : ∃ k, k = gk := ⟨_, rfl⟩
    rw [← ek] at hk hb ⊢
    clear b5 bg b4 xW
    rcases Nat.eq_zero_or_pos k with h0 | h0
    · subst h0
      clear cu hk ek
      have hb : Blk wr h 23 #[.int .u64 (r0 : Int), .int .u64 (r1 : Int), .int .u64 (r2 : Int)] := by rw [H0.out] at hb; exact hb
      have s0 := hg.cell 0
      have s1 := hg.cell 1
      have s2 := hg.cell 2
      simp at s0 s1 s2
      have a0 := fun o => (hb.alloc o).cell 0
      have a1 := fun o => (hb.alloc o).cell 1
      have a2 := fun o => (hb.alloc o).cell 2
      have d0 := fun o => (hf.alloc o).cell 0
      have d1 := fun o => (hf.alloc o).cell 1
      have d2 := fun o => (hf.alloc o).cell 2
      simp at a0 a1 a2 d0 d1 d2
      clear hb hg hf
      go_wp2
      go_ret
      exact ⟨rfl, hx.alloc _⟩
    · obtain ⟨j, rfl⟩ : ∃ j, k = j + 1 := ⟨k - 1, by omega⟩
      have ei : (((j + 1 : Nat) : Int) - 1) = (j : Int) := by omega
      rw [ei]
      have cv := cu j (by omega)
      obtain ⟨⟨u0, u1, u2⟩, hu⟩ : ∃ u, u = S (j + 1) := ⟨_, rfl⟩
      obtain ⟨⟨v0, v1, v2⟩, hv⟩ : ∃ v, v = S j := ⟨_, rfl⟩
      rw [← hu] at cv hb
      rw [← hv] at cv
      simp only [val3] at cv hb
      obtain ⟨p0, p1, p2⟩ := arr3f hb
      have HV := Lib.hid hv
      have HK := Lib.hid (And.intro hk ek)
      have HB := Lib.hid hb
      have HG := Lib.hid hg
      have HF := Lib.hid hf
      have z0 : 0 ≤ (j : Int) := by omega
      have z1 : (j : Int) < 8 := by omega
      clear hu hv hk ek hb hg hf ei h0
      go_wp2_with (go_at_call 32; refine (cv _).mono ?_; clear cv; rintro e W1 ⟨rfl, x1⟩; have HB1 := Lib.hid (ext_blk x1 HB.out); obtain ⟨d0, d1, d2⟩ := arr3f HB1.out; have f0 := HB1.out.frozen 0; have f1 := HB1.out.frozen 1; have f2 := HB1.out.frozen 2)
      obtain ⟨W2, e2, b2, x2, far⟩ := put_all (w := w) (a := .int .u64 (v0 : Int)) (b := .int .u64 (v1 : Int)) (c := .int .u64 (v2 : Int)) HB1.out (hx.trans x1) N.out.2.2
      rw [e2]
      have bg := far _ _ _ (ext_blk x1 HG.out) N.out.1
      have bf := far _ _ _ (ext_blk x1 HF.out) N.out.2.1
      obtain ⟨hk, ek⟩ := HK.out
      clear z0 z1
      go_roundg j
      case measure => omega
      case rel => exact ⟨by omega, int_congr (by omega), by rw [← HV.out]; exact b2, bg, bf, x2⟩

set_option maxRecDepth 100000 in
set_option maxHeartbeats 1000000 in
theorem walk_HashReaches (x y z : Nat) (hx : x < 18446744073709551616) (hy : y < 18446744073709551616) (hz : z < 18446744073709551616) (w : World) :
    Calls Try.prog 12 #[.agg #[.int .u64 x, .int .u64 y, .int .u64 z]] w fun e w' => e = .returned (.bool true) ∧ Ext w w' := by
  have cl := fun W => live_any W
  obtain ⟨S, hS⟩ : ∃ S : Nat → Nat × Nat × Nat, S = fun n => undos (8 - n) (x, y, z) := ⟨_, rfl⟩
  have ok : ∀ n, n ≤ 8 → ok3 (undos n (x, y, z)) := fun n _ => by
    cases n with
    | zero => exact ⟨hx, hy, hz⟩
    | succ n => obtain ⟨p, q, r⟩ := undo_lt (7 - n) (undos n (x, y, z)); exact ⟨Nat.lt_trans p (by decide), Nat.lt_trans q (by decide), Nat.lt_trans r (by decide)⟩
  have cu : ∀ j, j < 8 → ∀ W, Calls Try.prog 32 #[.agg (val3 (S (j + 1))), .int .i64 (j : Nat)] W fun e w' => e = .returned (.agg (val3 (S j))) ∧ Ext W w' := fun j hj W => by
    have := undone_any (undos (7 - j) (x, y, z)) (ok _ (by omega)) j hj W
    rw [hS]
    simp only []
    rw [show 8 - (j + 1) = 7 - j by omega, show 8 - j = (7 - j) + 1 by omega, undos, show 7 - (7 - j) = j by omega]
    exact this
  have c1 : ∀ W, Calls Try.prog 14 #[.agg (val3 (S 0))] W fun e w' => e = .returned (.agg #[.int .u64 (x % bP : Nat), .int .u64 (y % bP : Nat), .int .u64 (z % bP : Nat)]) ∧ Ext W w' := fun W => by
    have := mix_any (undos 8 (x, y, z)) (ok 8 (Nat.le_refl 8)) W
    rw [mix_undos] at this
    rw [hS]; exact this
  have hm : (x, y, z) = S 8 := by rw [hS]; rfl
  clear hS ok
  have k0 := tmod_P x
  have k1 := tmod_P y
  have k2 := tmod_P z
  obtain ⟨r0, hr0⟩ : ∃ r, r = x % bP := ⟨_, rfl⟩
  obtain ⟨r1, hr1⟩ : ∃ r, r = y % bP := ⟨_, rfl⟩
  obtain ⟨r2, hr2⟩ : ∃ r, r = z % bP := ⟨_, rfl⟩
  rw [← hr0] at k0
  rw [← hr1] at k1
  rw [← hr2] at k2
  rw [← hr0, ← hr1, ← hr2] at c1
  have q1 := eq3_same (r0 : Int) (r1 : Int) (r2 : Int)
  have HM := Lib.hid hm
  clear hm hx hy hz hr0 hr1 hr2
  go_enter Try.func12, Try.ntmps12
  go_wp2_with (go_at_call 13; refine (cl _).mono ?_; clear cl; rintro e w1 ⟨rfl, x1⟩; have hb := ext_blk x1 (Blk.new w _ _); obtain ⟨p0, p1, p2⟩ := arr3f hb; have HB := Lib.hid hb; clear hb)
  obtain ⟨W0, e0, b5, bg, xA⟩ : ∃ W0, w1.alloc (.cells #[.int .u64 (x : Int), .int .u64 (y : Int), .int .u64 (z : Int)] 23) = W0 ∧ Blk W0 w1.heap.size 23 #[.int .u64 (x : Int), .int .u64 (y : Int), .int .u64 (z : Int)] ∧ Blk W0 w.heap.size 23 #[.int .u64 (x : Int), .int .u64 (y : Int), .int .u64 (z : Int)] ∧ Ext w1 W0 := ⟨_, rfl, Blk.new w1 _ _, HB.out.alloc _, (Ext.refl w1).alloc _⟩
  rw [e0]
  have xW : Ext w W0 := (((Ext.refl w).alloc _).trans x1).trans xA
  have hgs : w.heap.size < w1.heap.size := HB.out.lt
  obtain ⟨g, hg⟩ : ∃ g, g = w.heap.size := ⟨_, rfl⟩
  obtain ⟨h, hh⟩ : ∃ h, h = w1.heap.size := ⟨_, rfl⟩
  rw [← hg] at bg hgs ⊢
  rw [← hh] at b5 hgs ⊢
  have n1 : g ≠ h := by omega
  have n3 : w.heap.size ≤ h := by omega
  have N := Lib.hid (And.intro n1 n3)
  clear e0 hg hgs hh n1 n3 p0 p1 p2 HB x1 xA
  go_loopg [5] 8 (fun n i wr => n ≤ 8 ∧ i = .int .i64 ((n : Int) - 1) ∧ Blk wr h 23 (val3 (S n)) ∧ Blk wr g 23 #[.int .u64 (x : Int), .int .u64 (y : Int), .int .u64 (z : Int)] ∧ Ext w wr)
  case atStart => exact ⟨Nat.le_refl 8, rfl, by rw [← HM.out]; exact b5, bg, xW⟩
  case round =>
    obtain ⟨hk, rfl, hb, hg, hx⟩ := hrel
    obtain ⟨k, ek⟩ : ∃ k, k = gk := ⟨_, rfl⟩
    rw [← ek] at hk hb ⊢
    clear b5 bg xW
    rcases Nat.eq_zero_or_pos k with h0 | h0
    · subst h0
      clear cu hk ek
      obtain ⟨⟨v0, v1, v2⟩, hv⟩ : ∃ v, v = S 0 := ⟨_, rfl⟩
      rw [← hv] at hb c1
      simp only [val3] at hb c1
      have s0 := hg.cell 0
      have s1 := hg.cell 1
      have s2 := hg.cell 2
      simp at s0 s1 s2
      clear hv
      obtain ⟨W1, e1, b1, b2, xB⟩ : ∃ W1, wr.alloc (.cells #[.int .u64 (r0 : Int), .int .u64 (r1 : Int), .int .u64 (r2 : Int)] 23) = W1 ∧ Blk W1 h 23 #[.int .u64 (v0 : Int), .int .u64 (v1 : Int), .int .u64 (v2 : Int)] ∧ Blk W1 wr.heap.size 23 #[.int .u64 (r0 : Int), .int .u64 (r1 : Int), .int .u64 (r2 : Int)] ∧ Ext w W1 := ⟨_, rfl, hb.alloc _, Blk.new wr _ _, hx.alloc _⟩
      clear hb hg hx
      go_wp2
      obtain ⟨f, hf⟩ : ∃ f, f = wr.heap.size := ⟨_, rfl⟩
      rw [← hf] at b2 ⊢
      obtain ⟨p0, p1, p2⟩ := arr3f b1
      obtain ⟨u0, u1, u2⟩ := arr3f b2
      have i0 := fun i : Later W1 => i.cell p0
      have i1 := fun i : Later W1 => i.cell p1
      have i2 := fun i : Later W1 => i.cell p2
      have j0 := fun i : Later W1 => i.cell u0
      have j1 := fun i : Later W1 => i.cell u1
      have j2 := fun i : Later W1 => i.cell u2
      clear e1 b1 b2 p0 p1 p2 u0 u1 u2 s0 s1 s2 hf
      refine wp_region_later (by kernel_rfl) (by kernel_rfl) ?_
      repeat (go_big_quiet_step ((go_at_call 14; exact Later.calls (c1 _))))
      refine wpQuiet_nil ?_
      rintro W2 ⟨i, hi⟩
      have x2 : Ext W1 W2 := by rw [hi]; exact i.ext
      clear hi i i0 i1 i2 j0 j1 j2
      go_wp2
      go_ret
      exact ⟨rfl, xB.trans x2⟩
    · obtain ⟨j, rfl⟩ : ∃ j, k = j + 1 := ⟨k - 1, by omega⟩
      have ei : (((j + 1 : Nat) : Int) - 1) = (j : Int) := by omega
      rw [ei]
      have cv := cu j (by omega)
      obtain ⟨⟨u0, u1, u2⟩, hu⟩ : ∃ u, u = S (j + 1) := ⟨_, rfl⟩
      obtain ⟨⟨v0, v1, v2⟩, hv⟩ : ∃ v, v = S j := ⟨_, rfl⟩
      rw [← hu] at cv hb
      rw [← hv] at cv
      simp only [val3] at cv hb
      obtain ⟨p0, p1, p2⟩ := arr3f hb
      have HV := Lib.hid hv
      have HK := Lib.hid (And.intro hk ek)
      have HB := Lib.hid hb
      have HG := Lib.hid hg
      skip
      have z0 : 0 ≤ (j : Int) := by omega
      have z1 : (j : Int) < 8 := by omega
      clear hu hv hk ek hb hg ei h0
      go_wp2_with (go_at_call 32; refine (cv _).mono ?_; clear cv; rintro e W1 ⟨rfl, x1⟩; have HB1 := Lib.hid (ext_blk x1 HB.out); obtain ⟨d0, d1, d2⟩ := arr3f HB1.out; have f0 := HB1.out.frozen 0; have f1 := HB1.out.frozen 1; have f2 := HB1.out.frozen 2)
      obtain ⟨W2, e2, b2, x2, far⟩ := put_all (w := w) (a := .int .u64 (v0 : Int)) (b := .int .u64 (v1 : Int)) (c := .int .u64 (v2 : Int)) HB1.out (hx.trans x1) N.out.2
      rw [e2]
      have bg := far _ _ _ (ext_blk x1 HG.out) N.out.1
      skip
      obtain ⟨hk, ek⟩ := HK.out
      clear z0 z1
      go_roundg j
      case measure => omega
      case rel => exact ⟨by omega, int_congr (by omega), by rw [← HV.out]; exact b2, bg, x2⟩

end Go.Proofs.Ytckfifghipkedaa
