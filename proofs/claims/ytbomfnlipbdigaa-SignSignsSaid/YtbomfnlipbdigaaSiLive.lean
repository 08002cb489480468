/- The chapter's example (greatseallaw04.live), few, secret: walked. -/
import Derived.Test.YtbomfnlipbdigaaSi3
import Derived.Lib.SlBytesConst
namespace Go.Proofs.Ytbomfnlipbdigaa
set_option linter.unusedVariables false
open Go.RowKit Go.Shelf
attribute [local irreducible] mix hSum hNum someN chalN

theorem few_any (A : Option Addr) (n c : Nat) (w : World) : Calls Try.prog 12 #[.slice A n c] w fun e w' => e = .returned (.bool (decide (n ≤ 1000))) ∧ w = w' := by
  by_cases h : n ≤ 1000
  · rw [decide_eq_true h]
    have k : (n : Int) ≤ 1000 := by omega
    clear h
    go_enter Try.func12, Try.ntmps12
    go_wp2
    go_ret
    exact ⟨by simp, rfl⟩
  · rw [decide_eq_false h]
    have k : ¬ (n : Int) ≤ 1000 := by omega
    clear h
    go_enter Try.func12, Try.ntmps12
    go_wp2
    go_ret
    exact ⟨by simp, rfl⟩
theorem secret_any (n : Nat) (w : World) : Calls Try.prog 23 #[.int .u64 n] w fun e w' => e = .returned (.int .u64 (secretN n : Nat)) ∧ w = w' := by
  have k : (n : Int).tmod 1152921504606845788 = ((n % 1152921504606845788 : Nat) : Int) := by
    rw [Int.tmod_eq_emod_of_nonneg (by omega)]; omega
  obtain ⟨m, hm⟩ : ∃ m, m = n % 1152921504606845788 := ⟨_, rfl⟩
  rw [← hm] at k
  have k2 : IntKind.u64.wrap (1 + (m : Int)) = ((m + 1 : Nat) : Int) := by rw [IntKind.wrap_u64]; omega
  have e : secretN n = m + 1 := by unfold secretN bR; omega
  rw [e]
  clear e hm
  go_enter Try.func23, Try.ntmps23
  go_wp2
  go_ret
  exact ⟨rfl, rfl⟩

theorem new_reads (w : World) (T : TypeId) (cs : Array Value) (fr : Nat × Nat) : Reads (w.alloc (.cells cs T fr)) (w.alloc (.cells cs T fr)).heap.size 1 (some ⟨w.heap.size, 0, none⟩) cs.size cs.toList := by
  refine ⟨by simp, fun _ => ⟨_, rfl, by simp, fun j u hj => ?_⟩⟩
  have e : (Addr.mk w.heap.size 0 none).add j = ⟨w.heap.size, j, none⟩ := by
    unfold Addr.add
    split <;> simp_all
  rw [e, cell_of_row _ w.heap.size j cs T fr (heap_alloc_new w _)]
  simpa using hj
theorem seed_any (w : World) (T : TypeId) (fr : Nat × Nat) : Calls Try.prog 15 #[.slice (some ⟨w.heap.size, 0, none⟩) 4 4] (w.alloc (.cells #[.int .u8 115, .int .u8 101, .int .u8 101, .int .u8 100] T fr)) fun e w' => e = .returned (.int .u64 (secN [115, 101, 101, 100] : Nat)) ∧ Ext (w.alloc (.cells #[.int .u8 115, .int .u8 101, .int .u8 101, .int .u8 100] T fr)) w' :=
  Secret_any [115, 101, 101, 100] (by decide) (by decide) _ 4 (by decide) _ (new_reads w T _ fr)
theorem msg_reads (w : World) (T : TypeId) (fr : Nat × Nat) : Reads (w.alloc (.cells #[.int .u8 109, .int .u8 115, .int .u8 103] T fr)) (w.alloc (.cells #[.int .u8 109, .int .u8 115, .int .u8 103] T fr)).heap.size 1 (some ⟨w.heap.size, 0, none⟩) 3 (bv [109, 115, 103]) := new_reads w T _ fr

set_option maxRecDepth 100000 in
set_option maxHeartbeats 2000000 in
theorem live_any (w : World) : Calls Try.prog 11 #[] w fun e w' => e = .returned (.bool true) ∧ Ext w w' := by
  have cv := fun (w : World) (C : Array Value) (n c : Nat) => Lib.run_convert_bytes_const (P := Try.prog) w 22 5 C n c Try.underlying22 Try.underlying5
  have c1 := fun w T fr => seed_any w T fr
  obtain ⟨s, hs⟩ : ∃ s, s = secN [115, 101, 101, 100] := ⟨_, rfl⟩
  rw [← hs] at c1
  have ho : oddN s = false := by rw [hs]; exact oddN_some _ _
  have s1 : 1 ≤ s := by rw [hs]; exact someN_pos _ _
  have s2 : s < bR := by rw [hs]; exact someN_lt _ _
  have c2 := fun w => Public_any s (r64 s2) w
  rw [if_neg (by rw [ho]; decide)] at c2
  have c3 := fun w T fr => Sign_any s ho [109, 115, 103] (by decide) (by decide) _ 3 (by decide) _ (msg_reads w T fr)
  have c4 := fun w => Public_any 0 (by decide) w
  rw [if_pos (by decide)] at c4
  have c5 := fun w => Sign_odd bR (by decide) (by decide) none 0 0 w
  rw [show bR = 1152921504606845789 from rfl] at c5
  simp only [Int.cast_ofNat_Int] at c4 c5
  have c6 := fun w => In_any (powM bQ 4 s) (pw64 _ _) w
  rw [inB_base] at c6
  obtain ⟨c, hc⟩ : ∃ c, c = sgE s [109, 115, 103] := ⟨_, rfl⟩
  obtain ⟨z, hz⟩ : ∃ z, z = sgS s [109, 115, 103] := ⟨_, rfl⟩
  have lc : c < 18446744073709551616 := by rw [hc]; exact r64 (sgE_lt _ _)
  have lz : z < 18446744073709551616 := by rw [hz]; exact r64 (sgS_lt _ _)
  have c7 := fun w T fr => Check_any (powM bQ 4 s) (pw64 _ _) c z lc lz [109, 115, 103] (by decide) (by decide) _ 3 (by decide) _ (msg_reads w T fr)
  rw [show checkN (powM bQ 4 s) [109, 115, 103] c z = 0 by rw [hc, hz]; exact check_sign _ _] at c7
  have c8 := fun w T fr => Check_any (powM bQ 4 s) (pw64 _ _) c bR lc (by decide) [109, 115, 103] (by decide) (by decide) _ 3 (by decide) _ (msg_reads w T fr)
  rw [show checkN (powM bQ 4 s) [109, 115, 103] c bR = 40 from checkN_high (inB_base s) _ (.inr (Nat.le_refl _))] at c8
  rw [show bR = 1152921504606845789 from rfl] at c8
  have c9 := fun w T fr => Check_any 0 (by decide) c z lc lz [109, 115, 103] (by decide) (by decide) _ 3 (by decide) _ (msg_reads w T fr)
  rw [show checkN 0 [109, 115, 103] c z = 1 from checkN_out (by unfold inB; simp) _ _ _] at c9
  simp only [Int.cast_ofNat_Int, List.length_cons, List.length_nil, Nat.reduceAdd] at c3 c7 c8 c9
  rw [← hc, ← hz] at c3
  have t1 : decide ((1 : Int) ≤ (s : Int)) = true := by simp; omega
  have t2 : decide ((s : Int) < 1152921504606845789) = true := by unfold bR at s2; simp; omega
  obtain ⟨p, hp⟩ : ∃ p, p = powM bQ 4 s := ⟨_, rfl⟩
  rw [← hp] at c2 c6 c7 c8
  clear hs hc hz hp ho s1 s2 lc lz
  go_enter Try.func11, Try.ntmps11
  go_wp2_with (first
    | (go_at_call 15; refine (c1 _ _ _).mono ?_; clear c1; rintro e wa ⟨rfl, xa⟩; have ya := ((Ext.refl w).alloc _).trans xa)
    | (go_at_call 13; refine (c2 _).mono ?_; clear c2; rintro e wb ⟨rfl, xb⟩)
    | (go_at_call 19; refine (c3 _ _ _).mono ?_; clear c3; rintro e wc ⟨rfl, xc⟩; have yc := ((ya.trans xb).alloc _).trans xc; have B4 := Lib.hid (Blk.new wc 33 #[.int .u64 (c : Int), .int .u64 (z : Int)]))
    | (go_at_call 13; refine (c4 _).mono ?_; clear c4; rintro e wd ⟨rfl, xd⟩)
    | (go_at_call 19; refine (c5 _).mono ?_; clear c5; rintro e we ⟨rfl, xe⟩; have ye := ((yc.alloc _).trans xd).trans xe; have B5 := Lib.hid (ext_blk (xd.trans xe) B4.out); have g1 := fun o => (two (B5.out.alloc o)).1; have g2 := fun o => (two (B5.out.alloc o)).2)
    | (go_at_call 24; refine (c6 _).mono ?_; clear c6; rintro e wf ⟨rfl, xf⟩; have yf := ((ye.alloc _).alloc _).trans xf; have B6 := Lib.hid (ext_blk xf ((B5.out.alloc _).alloc _)); have D6 := Lib.hid (ext_blk xf (Blk.new _ 33 #[.int .u64 (c : Int), .int .u64 1152921504606845789])); have g3 := fun o => (two (B6.out.alloc o)).1; have g4 := fun o => (two (B6.out.alloc o)).2)
    | (go_at_call 21; refine (c7 _ _ _).mono ?_; clear c7; rintro e wg ⟨rfl, xg⟩; have yg := (yf.alloc _).trans xg; have B7 := Lib.hid (ext_blk xg (B6.out.alloc _)); have D7 := D6.out; rw [World.size_alloc] at D7; have D8 := Lib.hid (ext_blk xg (D7.alloc _)); clear D7; have g5 := fun o => (two (D8.out.alloc o)).1; have g6 := fun o => (two (D8.out.alloc o)).2)
    | (go_at_call 21; refine (c8 _ _ _).mono ?_; clear c8; rintro e wh ⟨rfl, xh⟩; have yh := (yg.alloc _).trans xh; have B8 := Lib.hid (ext_blk xh (B7.out.alloc _)); have g7 := fun o => (two (B8.out.alloc o)).1; have g8 := fun o => (two (B8.out.alloc o)).2)
    | (go_at_call 21; refine (c9 _ _ _).mono ?_; clear c9; rintro e wi ⟨rfl, xi⟩; have yi := (yh.alloc _).trans xi))
  go_ret
  exact ⟨rfl, yi⟩
end Go.Proofs.Ytbomfnlipbdigaa
