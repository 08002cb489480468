/- The hash, walked: Mix. -/
import Derived.Test.YtbomfnlipbdigaaHaEach
namespace Go.Proofs.Ytbomfnlipbdigaa
open Go.RowKit Go.Shelf

/-- Three elements as a value. -/
def val3 (s : Nat × Nat × Nat) : Array Value := #[.int .u64 (s.1 : Int), .int .u64 (s.2.1 : Int), .int .u64 (s.2.2 : Int)]
def ok3 (s : Nat × Nat × Nat) : Prop := s.1 < 18446744073709551616 ∧ s.2.1 < 18446744073709551616 ∧ s.2.2 < 18446744073709551616
theorem rnd_lt (k : Nat) (s : Nat × Nat × Nat) : (rnd k s).1 < bP ∧ (rnd k s).2.1 < bP ∧ (rnd k s).2.2 < bP := ⟨addM_lt' (by decide) _ _, addM_lt' (by decide) _ _, addM_lt' (by decide) _ _⟩
theorem rnds_ok {s : Nat × Nat × Nat} (h : ok3 s) : ∀ k, ok3 (rnds k s)
  | 0 => h
  | k + 1 => by
    obtain ⟨a, b, c⟩ := rnd_lt k (rnds k s)
    exact ⟨Nat.lt_trans a (by decide), Nat.lt_trans b (by decide), Nat.lt_trans c (by decide)⟩

theorem start3 (w : World) (c1 c2 c3 : Array Value) (T1 T2 T3 : TypeId) : ∃ W, (((w.alloc (.cells c1 T1)).alloc (.cells c2 T2)).alloc (.cells c3 T3)) = W ∧
    Blk W w.heap.size T1 c1 ∧ Blk W (w.heap.size + 1) T2 c2 ∧ Blk W (w.heap.size + 1 + 1) T3 c3 ∧ Ext w W ∧ W.heap.size = w.heap.size + 3 := by
  refine ⟨_, rfl, ((Blk.new w T1 c1).alloc _).alloc _, ?_, ?_, (((Ext.refl w).alloc _).alloc _).alloc _, by simp⟩
  · have := (Blk.new (w.alloc (.cells c1 T1)) T2 c2).alloc (.cells c3 T3)
    simpa using this
  · have := Blk.new ((w.alloc (.cells c1 T1)).alloc (.cells c2 T2)) T3 c3
    simpa using this
theorem sum0 (x : Nat) : addM bP 0 x = x % bP := by unfold addM; rw [Nat.zero_add]

set_option maxRecDepth 100000 in
set_option maxHeartbeats 1000000 in
theorem mix_any (s : Nat × Nat × Nat) (hs : ok3 s) (w : World) :
    Calls Try.prog 72 #[.agg (val3 s)] w fun e w' => e = .returned (.agg (val3 (mix s))) ∧ Ext w w' := by
  have hmf : ∀ (fn : Fn) (first cap : Array Value) (w : World), (Instr.makeFunc fn first cap).run Try.prog w = .ok (.func fn first cap) w := fun _ _ _ _ => rfl
  unfold val3
  go_enter Try.func72, Try.ntmps72
  go_wp2
  obtain ⟨W0, e0, -, b1, b2, x0, z0⟩ := start3 w #[.int .u64 (s.1 : Int), .int .u64 (s.2.1 : Int), .int .u64 (s.2.2 : Int)] #[.int .u64 0, .int .u64 0, .int .u64 0] #[.int .u64 (s.1 : Int), .int .u64 (s.2.1 : Int), .int .u64 (s.2.2 : Int)] 70 70 80
  rw [e0]
  obtain ⟨g, hg⟩ : ∃ g, g = w.heap.size + 1 + 1 := ⟨_, rfl⟩
  rw [← hg] at b2 ⊢
  obtain ⟨g1, hg1⟩ : ∃ g1, g1 = w.heap.size + 1 := ⟨_, rfl⟩
  rw [← hg1] at b1 ⊢
  have hgz : w.heap.size < g := by omega
  have hg1g : g1 < g := by omega
  have hg1w : w.heap.size ≤ g1 := by omega
  have hgW : g < W0.heap.size := by omega
  clear e0 hg hg1 z0
  go_loopg [7] 8 (fun n i wr => ∃ k : Nat, k + n = 8 ∧ i = .int .i64 k ∧ Blk wr g 80 (val3 (rnds k s)) ∧ Blk wr g1 70 #[.int .u64 0, .int .u64 0, .int .u64 0] ∧ Ext w wr)
  case atStart => exact ⟨0, rfl, rfl, b2, b1, x0⟩
  case round =>
    obtain ⟨k, hk, rfl, hb, hb1, hx⟩ := hrel
    have hok := rnds_ok hs k
    clear b1 b2
    by_cases h : k < 8
    · obtain ⟨x, hx'⟩ : ∃ x, x = (rnds k s).1 := ⟨_, rfl⟩
      obtain ⟨y, hy'⟩ : ∃ y, y = (rnds k s).2.1 := ⟨_, rfl⟩
      obtain ⟨z, hz'⟩ : ∃ z, z = (rnds k s).2.2 := ⟨_, rfl⟩
      obtain ⟨ox, oy, oz⟩ := hok
      have hnx : rnds (k + 1) s = rnd k (x, y, z) := by rw [hx', hy', hz']; rfl
      have hb : Blk wr g 80 #[.int .u64 (x : Int), .int .u64 (y : Int), .int .u64 (z : Int)] := by rw [hx', hy', hz']; exact hb
      rw [← hx'] at ox
      rw [← hy'] at oy
      rw [← hz'] at oz
      clear hx' hy' hz'
      have hlt := hb.lt
      have k8 := h
      obtain ⟨p, hp⟩ : ∃ p, p = elem k 0 x := ⟨_, rfl⟩
      obtain ⟨q, hq⟩ : ∃ q, q = elem k 1 y := ⟨_, rfl⟩
      obtain ⟨t, ht⟩ : ∃ t, t = elem k 2 z := ⟨_, rfl⟩
      have hp1 : p < bP := by rw [hp]; exact powM_lt (by decide) _ _
      have hq1 : q < bP := by rw [hq]; exact powM_lt (by decide) _ _
      have ht1 : t < bP := by rw [ht]; exact powM_lt (by decide) _ _
      obtain ⟨al, hal⟩ : ∃ al, al = addM bP (addM bP p q) t := ⟨_, rfl⟩
      have hal1 : al < bP := by rw [hal]; exact addM_lt' (by decide) _ _
      have hsum : addM bP (addM bP (addM bP 0 p) q) t = al := by rw [sum0, Nat.mod_eq_of_lt hp1, hal]
      obtain ⟨W2, e2, d1, d2, d3, d4⟩ : ∃ W2, (wr.alloc (.cells #[.int .i64 (k : Int)] 3)).alloc (.cells #[.int .u64 0] 23) = W2 ∧ Blk W2 g 80 #[.int .u64 (x : Int), .int .u64 (y : Int), .int .u64 (z : Int)] ∧ Blk W2 wr.heap.size 3 #[.int .i64 (k : Int)] ∧ Blk W2 (wr.heap.size + 1) 23 #[.int .u64 0] ∧ Ext wr W2 :=
        ⟨_, rfl, (hb.alloc _).alloc _, (Blk.new wr _ _).alloc _, by have := Blk.new (wr.alloc (.cells #[.int .i64 (k : Int)] 3)) 23 #[.int .u64 0]; simpa using this, ((Ext.refl wr).alloc _).alloc _⟩
      have m1 := each1_any g wr.heap.size (wr.heap.size + 1) k x y z 0 h ox oy oz (by decide) W2 d1 (by have := d2.cell 0; simpa using this) (by have := d3.cell 0; simpa using this) (d3.frozen 0) (by omega) (by omega) (by omega)
      rw [← hp, ← hq, ← ht, hsum] at m1
      have m2 := fun W => each2_any g (wr.heap.size + 1) p q t al (Nat.lt_trans hp1 (by decide)) (Nat.lt_trans hq1 (by decide)) (Nat.lt_trans ht1 (by decide)) (Nat.lt_trans hal1 (by decide)) W
      have HR : Hid (val3 (rnds (k + 1) s) = #[.int .u64 (addM bP p al : Nat), .int .u64 (addM bP q al : Nat), .int .u64 (addM bP t al : Nat)]) := by
        show _ = _
        rw [hnx]; unfold rnd; simp only [← hp, ← hq, ← ht, ← hal]; rfl
      have HK := Lib.hid hk
      have hg0 : g ≠ wr.heap.size + 1 := by omega
      clear hk hb hp hq ht hp1 hq1 ht1 hal hal1 hsum hnx d1 d2 d3 ox oy oz
      have hb2 : Blk W2 g1 70 #[.int .u64 0, .int .u64 0, .int .u64 0] := by rw [← e2]; exact (hb1.alloc _).alloc _
      have dk : decide ((k : Int) < 8) = true := by simp; omega
      have hsz := hx.size
      have X2 := Lib.hid (hx.trans d4)
      have HB2 := Lib.hid hb2
      clear hb2 hb1
      go_wp2_with (go_at_call 78; refine m1.mono ?_; clear m1; rintro e W3 ⟨rfl, b3, c3, l3⟩)
      refine (m2 _ b3 c3 hg0).mono ?_
      rintro e W4 ⟨rfl, b4, l4⟩
      have hk := HK.out
      have B1 : Blk W4 g1 70 #[.int .u64 0, .int .u64 0, .int .u64 0] := (HB2.out.below (l3 g (Nat.le_refl _) (by omega)) hg1g).below (l4 g (Nat.le_refl _)) hg1g
      have X4 : Ext w W4 := Ext.of ((X2.out.out.trans (l3 _ (by omega) (by omega))).trans (l4 _ (by omega)))
      have B4 := Lib.hid b4
      clear b3 b4 l3 l4 c3 m2 e2
      go_wp2
      go_roundg (gk - 1)
      case measure => omega
      case rel => exact ⟨k + 1, by omega, int_congr (by omega), by rw [HR.out]; exact B4.out, B1, X4⟩
    · obtain rfl : k = 8 := by omega
      have c0 := hb.cell 0
      have c1 := hb.cell 1
      have c2 := hb.cell 2
      simp [val3] at c0 c1 c2
      have v0 := hb1.cell 0
      have v1 := hb1.cell 1
      have v2 := hb1.cell 2
      have f0 := hb1.frozen 0
      have f1 := hb1.frozen 1
      have f2 := hb1.frozen 2
      simp at v0 v1 v2
      clear hk hok hb hb1
      obtain ⟨u, hu⟩ : ∃ u, u = rnds 8 s := ⟨_, rfl⟩
      rw [← hu] at c0 c1 c2
      have HU := Lib.hid hu
      clear hu
      go_wp2
      refine bodyPost_ret (v := .agg #[.int .u64 (u.1 : Int), .int .u64 (u.2.1 : Int), .int .u64 (u.2.2 : Int)]) (by simp [results, Try.results72, go_sem, v0, v1, v2]) rfl ⟨by rw [HU.out]; rfl, ?_⟩
      exact ((hx.setCell (p := ⟨g1, 0, none⟩) hg1w _).setCell (p := ⟨g1, 1, none⟩) hg1w _).setCell (p := ⟨g1, 2, none⟩) hg1w _
end Go.Proofs.Ytbomfnlipbdigaa
