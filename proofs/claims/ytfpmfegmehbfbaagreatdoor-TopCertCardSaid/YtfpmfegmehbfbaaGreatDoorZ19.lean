/- Parts of the proofs, put together: Si3. -/
import Derived.Test.YtfpmfegmehbfbaaGreatDoorZ12
/- Signing, walked: Check (sign and greatsealref04). Printed by gen_si3.py. -/
namespace Go.Proofs.YtfpmfegmehbfbaaGreatDoor
set_option linter.unusedVariables false
set_option linter.unusedSimpArgs false
open Go.RowKit Go.Shelf
attribute [local irreducible] mix hSum hNum

theorem checkN_out {p : Nat} (h : inB p = false) (l : List Nat) (E S : Nat) : checkN p l E S = 1 := by unfold checkN; rw [if_pos h]
theorem checkN_high {p : Nat} (h : inB p = true) (l : List Nat) {E S : Nat} (hE : bR ≤ E ∨ bR ≤ S) : checkN p l E S = 40 := by unfold checkN; rw [if_neg (by rw [h]; decide), if_pos hE]
theorem checkN_in {p : Nat} (h : inB p = true) (l : List Nat) {E S : Nat} (hE : E < bR) (hS : S < bR) : checkN p l E S = if chalN (mulM bQ (powM bQ 4 S) (invM bQ (powM bQ p E))) p l = E then 0 else 40 := by
  unfold checkN; rw [if_neg (by rw [h]; decide), if_neg (by omega)]
set_option maxRecDepth 100000 in
set_option maxHeartbeats 1000000 in
theorem Check_any (p : Nat) (hp : p < 18446744073709551616) (E S : Nat) (hE : E < 18446744073709551616) (hS : S < 18446744073709551616) (l : List Nat) (hl : ∀ x ∈ l, x < 256) (h : l.length ≤ 1000) (A : Option Addr) (c0 : Nat) (hc : l.length ≤ c0) (w : World) (hr : Reads w w.heap.size 1 A l.length (bv l)) :
    Calls Tryz.prog 44 #[.int .u64 p, .slice A l.length c0, .agg #[.int .u64 E, .int .u64 S]] w fun e w' => e = .returned (.int .i64 (checkN p l E S : Nat)) ∧ Ext w w' := by
  have cI := fun w => In_any p hp w
  rcases hi : inB p
  · rw [hi] at cI
    rw [checkN_out hi]
    clear hi hp hE hS hl h hc hr
    go_enter Tryz.func44, Tryz.ntmps44
    go_wp2_with (go_at_call 115; refine (cI _).mono ?_; clear cI; rintro e w1 ⟨rfl, x1⟩)
    go_ret
    exact ⟨rfl, ((Ext.refl w).alloc _).trans x1⟩
  · rw [hi] at cI
    by_cases hh : bR ≤ E ∨ bR ≤ S
    · rw [checkN_high hi l hh]
      have k0 : decide ((1152921504606845789 : Int) ≤ max (E : Int) (S : Int)) = true := by unfold bR at hh; simp; omega
      have k1 : (1152921504606845789 : Int) ≤ max (E : Int) (S : Int) := by unfold bR at hh; omega
      clear hi hp hE hS hl h hc hr hh
      go_enter Tryz.func44, Tryz.ntmps44
      go_wp2_with (go_at_call 115; refine (cI _).mono ?_; clear cI; rintro e w1 ⟨rfl, x1⟩; have hb := ext_blk x1 (Blk.new w _ _); obtain ⟨p0, p1⟩ := two hb; have HB := Lib.hid hb; clear hb)
      go_ret
      exact ⟨rfl, ((Ext.refl w).alloc _).trans x1⟩
    · have lE : E < bR := by omega
      have lS : S < bR := by omega
      clear hh
      rw [checkN_in hi l lE lS]
      have k0 : decide ((1152921504606845789 : Int) ≤ max (E : Int) (S : Int)) = false := by unfold bR at lE lS; simp; omega
      have k1 : ¬ (1152921504606845789 : Int) ≤ max (E : Int) (S : Int) := by unfold bR at lE lS; omega
      have c1 := fun w => Pow_any p E hp hE w
      have c2 : ∀ w, Calls Tryz.prog 116 #[.int .u64 (powM bQ p E : Nat)] w fun e w' => e = .returned (.tuple #[.int .u64 (invM bQ (powM bQ p E) : Nat), .int .i64 0]) ∧ Ext w w' := fun w => by
        have := Inv_any (powM bQ p E) w
        rw [invE_ok (inB_ne (inB_pow hi E))] at this
        exact toExt this
      obtain ⟨u, hu⟩ : ∃ u, u = powM bQ p E := ⟨_, rfl⟩
      have lu : u < 18446744073709551616 := by rw [hu]; exact pw64 _ _
      rw [← hu] at c1 c2 ⊢
      obtain ⟨v, hv⟩ : ∃ v, v = invM bQ u := ⟨_, rfl⟩
      have lv : v < 18446744073709551616 := by rw [hv]; exact Nat.lt_trans (invM_lt (by decide) _) (by decide)
      rw [← hv] at c2 ⊢
      have c3 := fun w => Base_any S hS w
      obtain ⟨b, hb⟩ : ∃ b, b = powM bQ 4 S := ⟨_, rfl⟩
      have lb : b < 18446744073709551616 := by rw [hb]; exact pw64 _ _
      rw [← hb] at c3 ⊢
      have c4 := fun w => MulE b v lb lv w
      obtain ⟨m, hm⟩ : ∃ m, m = mulM bQ b v := ⟨_, rfl⟩
      have lm : m < 18446744073709551616 := by rw [hm]; exact Nat.lt_trans (mulM_lt (by decide) _ _) (by decide)
      rw [← hm] at c4 ⊢
      have c5 : ∀ W, Ext w W → Calls Tryz.prog 107 #[.int .u64 (m : Nat), .int .u64 (p : Nat), .slice A l.length c0] W fun e w' => e = .returned (.int .u64 (chalN m p l : Nat)) ∧ Ext W w' := fun W xw =>
        Challenge_any m p lm hp l hl h A c0 hc W ((hr.below xw.out).more xw.size)
      obtain ⟨ch, hch⟩ : ∃ ch, ch = chalN m p l := ⟨_, rfl⟩
      rw [← hch] at c5 ⊢
      clear hch lm hm lb hb lv hv hl h hc hr hp hE hS lE lS lu hu
      rcases Nat.decEq ch E with hne | heq
      · rw [if_neg hne]
        have q0 : ((ch : Int) != (E : Int)) = true := by simp; omega
        have q1 : ((ch : Int) == (E : Int)) = false := by simp; omega
        clear hne hi
        go_enter Tryz.func44, Tryz.ntmps44
        go_wp2_with (first
          | (go_at_call 115; refine (cI _).mono ?_; clear cI; rintro e w1 ⟨rfl, x1⟩; have hb := ext_blk x1 (Blk.new w _ _); obtain ⟨p0, p1⟩ := two hb; have HB := Lib.hid hb; clear hb)
          | (go_at_call 117; refine (c1 _).mono ?_; clear c1; rintro e w2 ⟨rfl, x2⟩)
          | (go_at_call 116; refine (c2 _).mono ?_; clear c2; rintro e w3 ⟨rfl, x3⟩; have hb := ext_blk (x2.trans x3) HB.out; obtain ⟨p2, p3⟩ := two hb; clear hb))
        have y3 : Ext w w3 := ((((Ext.refl w).alloc _).trans x1).trans x2).trans x3
        have i0 := fun i : Later w3 => i.cell p2
        have i1 := fun i : Later w3 => i.cell p3
        clear p0 p1 p2 p3
        refine wp_region_later (by kernel_rfl) (by kernel_rfl) ?_
        repeat (go_big_quiet_step (first
          | (go_at_call 89; exact Later.calls (c3 _))
          | (go_at_call 118; exact Later.calls (c4 _))
          | (go_at_call 107; exact Later.calls (c5 _ (y3.trans (Later.ext _))))))
        refine wpQuiet_nil ?_
        rintro w4 ⟨i, hi⟩
        have x4 : Ext w3 w4 := by rw [hi]; exact i.ext
        clear hi i i0 i1
        go_wp2
        go_ret
        exact ⟨rfl, y3.trans x4⟩
      · subst heq
        rw [if_pos rfl]
        have q0 : ((ch : Int) != (ch : Int)) = false := by simp
        clear hi
        go_enter Tryz.func44, Tryz.ntmps44
        go_wp2_with (first
          | (go_at_call 115; refine (cI _).mono ?_; clear cI; rintro e w1 ⟨rfl, x1⟩; have hb := ext_blk x1 (Blk.new w _ _); obtain ⟨p0, p1⟩ := two hb; have HB := Lib.hid hb; clear hb)
          | (go_at_call 117; refine (c1 _).mono ?_; clear c1; rintro e w2 ⟨rfl, x2⟩)
          | (go_at_call 116; refine (c2 _).mono ?_; clear c2; rintro e w3 ⟨rfl, x3⟩; have hb := ext_blk (x2.trans x3) HB.out; obtain ⟨p2, p3⟩ := two hb; clear hb))
        have y3 : Ext w w3 := ((((Ext.refl w).alloc _).trans x1).trans x2).trans x3
        have i0 := fun i : Later w3 => i.cell p2
        have i1 := fun i : Later w3 => i.cell p3
        clear p0 p1 p2 p3
        refine wp_region_later (by kernel_rfl) (by kernel_rfl) ?_
        repeat (go_big_quiet_step (first
          | (go_at_call 89; exact Later.calls (c3 _))
          | (go_at_call 118; exact Later.calls (c4 _))
          | (go_at_call 107; exact Later.calls (c5 _ (y3.trans (Later.ext _))))))
        refine wpQuiet_nil ?_
        rintro w4 ⟨i, hi⟩
        have x4 : Ext w3 w4 := by rw [hi]; exact i.ext
        clear hi i i0 i1
        go_wp2
        go_ret
        exact ⟨rfl, y3.trans x4⟩
end Go.Proofs.YtfpmfegmehbfbaaGreatDoor
