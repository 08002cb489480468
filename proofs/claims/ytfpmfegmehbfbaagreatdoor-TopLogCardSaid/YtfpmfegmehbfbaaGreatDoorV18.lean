/- Parts of the proofs, put together: Si2, Si3. -/
import Derived.Test.YtfpmfegmehbfbaaGreatDoorV10
/- Signing, walked: Sign, Check (sign and greatsealref04). Printed by gen_si2.py. -/
namespace Go.Proofs.YtfpmfegmehbfbaaGreatDoor
set_option linter.unusedVariables false
set_option linter.unusedSimpArgs false
open Go.RowKit Go.Shelf
attribute [local irreducible] mix hSum hNum

theorem toExt {P : Program} {f : FuncId} {args : Array Value} {w : World} {v : Ending} (h : Calls P f args w fun e w' => e = v ∧ w = w') : Calls P f args w fun e w' => e = v ∧ Ext w w' :=
  h.mono fun _ _ ⟨a, b⟩ => ⟨a, by rw [← b]; exact Ext.refl _⟩
theorem two {W : World} {g : Nat} {T : TypeId} {a b : Value} (h : Blk W g T #[a, b]) : W.cell? ⟨g, 0, none⟩ = some a ∧ W.cell? ⟨g, 1, none⟩ = some b := ⟨h.cell 0, h.cell 1⟩
theorem pw64 (x n : Nat) : powM bQ x n < 18446744073709551616 := Nat.lt_trans (powM_lt (by decide) _ _) (by decide)
theorem r64 {x : Nat} (h : x < bR) : x < 18446744073709551616 := Nat.lt_trans h (by decide)

set_option maxRecDepth 100000 in
set_option maxHeartbeats 1000000 in
theorem Sign_odd (s : Nat) (ho : oddN s = true) (hs : s < 18446744073709551616) (A : Option Addr) (n c : Nat) (w : World) :
    Calls Tryz.prog 41 #[.int .u64 s, .slice A n c] w fun e w' => e = .returned (.tuple #[.agg #[.int .u64 0, .int .u64 0], .int .i64 1]) ∧ Ext w w' := by
  have c1 := fun w => Public_any s hs w
  rw [if_pos ho] at c1
  clear ho hs
  go_enter Tryz.func41, Tryz.ntmps41
  go_wp2_with (go_at_call 35; refine (c1 _).mono ?_; clear c1; rintro e w1 ⟨rfl, x1⟩; have hb := ext_blk x1 (Blk.new w _ _); obtain ⟨p0, p1⟩ := two hb; have f0 := hb.frozen 0; have f1 := hb.frozen 1; have HB := Lib.hid hb; clear hb)
  refine bodyPost_ret (v := .tuple #[.agg #[.int .u64 0, .int .u64 0], .int .i64 1]) (by simp [results, Tryz.results41, go_sem, p0, p1]) rfl ⟨rfl, ?_⟩
  exact ((((Ext.refl w).alloc _).trans x1).setCell (p := ⟨w.heap.size, 0, none⟩) (Nat.le_refl _) _).setCell (p := ⟨w.heap.size, 1, none⟩) (Nat.le_refl _) _

set_option maxRecDepth 100000 in
set_option maxHeartbeats 1000000 in
theorem Sign_any (s : Nat) (ho : oddN s = false) (l : List Nat) (hl : ∀ x ∈ l, x < 256) (h : l.length ≤ 1000) (A : Option Addr) (c0 : Nat) (hc : l.length ≤ c0) (w : World) (hr : Reads w w.heap.size 1 A l.length (bv l)) :
    Calls Tryz.prog 41 #[.int .u64 s, .slice A l.length c0] w fun e w' => e = .returned (.tuple #[.agg #[.int .u64 (sgE s l : Nat), .int .u64 (sgS s l : Nat)], .int .i64 0]) ∧ Ext w w' := by
  have ls : s < bR := by unfold oddN at ho; simp at ho; omega
  have c1 := fun w => Public_any s (r64 ls) w
  rw [if_neg (by rw [ho]; decide)] at c1
  have c2 := fun w => sbytes_any s (r64 ls) w
  obtain ⟨k, hk⟩ : ∃ k, k = nonceN s l := ⟨_, rfl⟩
  have lk : k < bR := by rw [hk]; exact someN_lt _ _
  have c3 : ∀ W B T, Ext w W → Reads W W.heap.size 1 B 8 (bv (be s 8)) → Calls Tryz.prog 87 #[.string nonceS, .slice (some ⟨W.heap.size, 0, none⟩) 2 2] (W.alloc (.cells #[.slice B 8 8, .slice A l.length c0] T)) fun e w' => e = .returned (.int .u64 (k : Nat)) ∧ Ext (W.alloc (.cells #[.slice B 8 8, .slice A l.length c0] T)) w' := fun W B T xw hb => by
    rw [hk]; exact some_any nonceS [be s 8, l] (lts2 s hl) (len2 nonceS (by decide) s h) _ 2 (Nat.le_refl 2) _ (parts_2 (T := T) hb hc ((hr.below xw.out).more xw.size))
  have c4 := fun w => Base_any k (r64 lk) w
  have c5 : ∀ W, Ext w W → Calls Tryz.prog 107 #[.int .u64 (powM bQ 4 k : Nat), .int .u64 (powM bQ 4 s : Nat), .slice A l.length c0] W fun e w' => e = .returned (.int .u64 (sgE s l : Nat)) ∧ Ext W w' := fun W xw => by
    unfold sgE; rw [← hk]; exact Challenge_any (powM bQ 4 k) (powM bQ 4 s) (pw64 _ _) (pw64 _ _) l hl h A c0 hc W ((hr.below xw.out).more xw.size)
  obtain ⟨c, hcc⟩ : ∃ c, c = sgE s l := ⟨_, rfl⟩
  have lc : c < 18446744073709551616 := by rw [hcc]; exact r64 (sgE_lt s l)
  have c6 := fun w => MulRE c s lc (r64 ls) w
  obtain ⟨q, hq⟩ : ∃ q, q = mulM bR c s := ⟨_, rfl⟩
  have c7 := fun w => AddRE q k w
  have hz : addM bR q k = sgS s l := by unfold sgS; rw [← hcc, ← hk, ← hq]
  rw [hz] at c7
  rw [← hcc] at c5 ⊢
  rw [← hq] at c6
  obtain ⟨z, hz'⟩ : ∃ z, z = sgS s l := ⟨_, rfl⟩
  rw [← hz'] at c7 ⊢
  obtain ⟨p, hp⟩ : ∃ p, p = powM bQ 4 s := ⟨_, rfl⟩
  obtain ⟨b, hb⟩ : ∃ b, b = powM bQ 4 k := ⟨_, rfl⟩
  rw [← hb] at c4 c5
  rw [← hp] at c1 c5
  clear hb hp hz hz' hq hcc lc lk hk hr hl h hc ls ho
  go_enter Tryz.func41, Tryz.ntmps41
  have x0 : Ext w (w.alloc (.cells #[.int .u64 0, .int .u64 0] 36)) := (Ext.refl w).alloc _
  have HB := Lib.hid (Blk.new w 36 #[.int .u64 0, .int .u64 0])
  go_wp2_with (first
    | (go_at_call 35; refine (c1 _).mono ?_; clear c1; rintro e w1 ⟨rfl, x1⟩)
    | (go_at_call 106; refine (c2 _).mono ?_; clear c2; rintro e w2 ⟨B, rfl, rB, x2⟩)
    | (go_at_call 87; refine (c3 _ _ _ ((x0.trans x1).trans x2) rB).mono ?_; clear c3; rintro e w3 ⟨rfl, x3⟩)
    | (go_at_call 89; refine (c4 _).mono ?_; clear c4; rintro e w4 ⟨rfl, x4⟩; have y4 := ((((x0.trans x1).trans x2).alloc _).trans x3).trans x4; have z4 := (((x1.trans x2).alloc _).trans x3).trans x4)
    | (go_at_call 107; refine (c5 _ y4).mono ?_; clear c5; rintro e w5 ⟨rfl, x5⟩)
    | (go_at_call 109; refine (c6 _).mono ?_; clear c6; rintro e w6 ⟨rfl, x6⟩)
    | (go_at_call 108; refine (c7 _).mono ?_; clear c7; rintro e w7 ⟨rfl, x7⟩; have hb := ext_blk (((z4.trans x5).trans x6).trans x7) HB.out; obtain ⟨p0, p1⟩ := two hb; have f0 := hb.frozen 0; have f1 := hb.frozen 1; clear hb))
  refine bodyPost_ret (v := .tuple #[.agg #[.int .u64 (c : Int), .int .u64 (z : Int)], .int .i64 0]) (by simp [results, Tryz.results41, go_sem, p0, p1]) rfl ⟨rfl, ?_⟩
  exact ((((y4.trans x5).trans x6).trans x7).setCell (p := ⟨w.heap.size, 0, none⟩) (Nat.le_refl _) _).setCell (p := ⟨w.heap.size, 1, none⟩) (Nat.le_refl _) _

end Go.Proofs.YtfpmfegmehbfbaaGreatDoor

/- Signing, walked: Check (sign and greatsealref04). Printed by gen_si3.py. -/
namespace Go.Proofs.YtfpmfegmehbfbaaGreatDoor
set_option linter.unusedVariables false
set_option linter.unusedSimpArgs false
open Go.RowKit Go.Shelf
attribute [local irreducible] mix hSum hNum

theorem checkN_out {p : Nat} (h : inB p = false) (l : List Nat) (E S : Nat) : checkN p l E S = 1 := by unfold checkN; rw [if_pos h]
theorem checkN_high {p : Nat} (h : inB p = true) (l : List Nat) {E S : Nat} (hE : bR ≤ E ∨ bR ≤ S) : checkN p l E S = 40 := by unfold checkN; rw [if_neg (by rw [h]; decide), if_pos hE]
theorem checkN_in {p : Nat} (h : inB p = true) (l : List Nat) {E S : Nat} (hE : E < bR) (hS : S < bR) : checkN p l E S = if chalN (mulM bQ (powM bQ 4 S) (invM bQ (powM bQ p E))) p l = E then 0 else 40 := by
  unfold checkN; rw [if_neg (by rw [h]; decide), if_neg (by omega)]
set_option maxRecDepth 100000 in
set_option maxHeartbeats 1000000 in
theorem Check_any (p : Nat) (hp : p < 18446744073709551616) (E S : Nat) (hE : E < 18446744073709551616) (hS : S < 18446744073709551616) (l : List Nat) (hl : ∀ x ∈ l, x < 256) (h : l.length ≤ 1000) (A : Option Addr) (c0 : Nat) (hc : l.length ≤ c0) (w : World) (hr : Reads w w.heap.size 1 A l.length (bv l)) :
    Calls Tryz.prog 44 #[.int .u64 p, .slice A l.length c0, .agg #[.int .u64 E, .int .u64 S]] w fun e w' => e = .returned (.int .i64 (checkN p l E S : Nat)) ∧ Ext w w' := by
  have cI := fun w => In_any p hp w
  rcases hi : inB p
  · rw [hi] at cI
    rw [checkN_out hi]
    clear hi hp hE hS hl h hc hr
    go_enter Tryz.func44, Tryz.ntmps44
    go_wp2_with (go_at_call 115; refine (cI _).mono ?_; clear cI; rintro e w1 ⟨rfl, x1⟩)
    go_ret
    exact ⟨rfl, ((Ext.refl w).alloc _).trans x1⟩
  · rw [hi] at cI
    by_cases hh : bR ≤ E ∨ bR ≤ S
    · rw [checkN_high hi l hh]
      have k0 : decide ((1152921504606845789 : Int) ≤ max (E : Int) (S : Int)) = true := by unfold bR at hh; simp; omega
      have k1 : (1152921504606845789 : Int) ≤ max (E : Int) (S : Int) := by unfold bR at hh; omega
      clear hi hp hE hS hl h hc hr hh
      go_enter Tryz.func44, Tryz.ntmps44
      go_wp2_with (go_at_call 115; refine (cI _).mono ?_; clear cI; rintro e w1 ⟨rfl, x1⟩; have hb := ext_blk x1 (Blk.new w _ _); obtain ⟨p0, p1⟩ := two hb; have HB := Lib.hid hb; clear hb)
      go_ret
      exact ⟨rfl, ((Ext.refl w).alloc _).trans x1⟩
    · have lE : E < bR := by omega
      have lS : S < bR := by omega
      clear hh
      rw [checkN_in hi l lE lS]
      have k0 : decide ((1152921504606845789 : Int) ≤ max (E : Int) (S : Int)) = false := by unfold bR at lE lS; simp; omega
      have k1 : ¬ (1152921504606845789 : Int) ≤ max (E : Int) (S : Int) := by unfold bR at lE lS; omega
      have c1 := fun w => Pow_any p E hp hE w
      have c2 : ∀ w, Calls Tryz.prog 116 #[.int .u64 (powM bQ p E : Nat)] w fun e w' => e = .returned (.tuple #[.int .u64 (invM bQ (powM bQ p E) : Nat), .int .i64 0]) ∧ Ext w w' := fun w => by
        have := Inv_any (powM bQ p E) w
        rw [invE_ok (inB_ne (inB_pow hi E))] at this
        exact toExt this
      obtain ⟨u, hu⟩ : ∃ u, u = powM bQ p E := ⟨_, rfl⟩
      have lu : u < 18446744073709551616 := by rw [hu]; exact pw64 _ _
      rw [← hu] at c1 c2 ⊢
      obtain ⟨v, hv⟩ : ∃ v, v = invM bQ u := ⟨_, rfl⟩
      have lv : v < 18446744073709551616 := by rw [hv]; exact Nat.lt_trans (invM_lt (by decide) _) (by decide)
      rw [← hv] at c2 ⊢
      have c3 := fun w => Base_any S hS w
      obtain ⟨b, hb⟩ : ∃ b, b = powM bQ 4 S := ⟨_, rfl⟩
      have lb : b < 18446744073709551616 := by rw [hb]; exact pw64 _ _
      rw [← hb] at c3 ⊢
      have c4 := fun w => MulE b v lb lv w
      obtain ⟨m, hm⟩ : ∃ m, m = mulM bQ b v := ⟨_, rfl⟩
      have lm : m < 18446744073709551616 := by rw [hm]; exact Nat.lt_trans (mulM_lt (by decide) _ _) (by decide)
      rw [← hm] at c4 ⊢
      have c5 : ∀ W, Ext w W → Calls Tryz.prog 107 #[.int .u64 (m : Nat), .int .u64 (p : Nat), .slice A l.length c0] W fun e w' => e = .returned (.int .u64 (chalN m p l : Nat)) ∧ Ext W w' := fun W xw =>
        Challenge_any m p lm hp l hl h A c0 hc W ((hr.below xw.out).more xw.size)
      obtain ⟨ch, hch⟩ : ∃ ch, ch = chalN m p l := ⟨_, rfl⟩
      rw [← hch] at c5 ⊢
      clear hch lm hm lb hb lv hv hl h hc hr hp hE hS lE lS lu hu
      rcases Nat.decEq ch E with hne | heq
      · rw [if_neg hne]
        have q0 : ((ch : Int) != (E : Int)) = true := by simp; omega
        have q1 : ((ch : Int) == (E : Int)) = false := by simp; omega
        clear hne hi
        go_enter Tryz.func44, Tryz.ntmps44
        go_wp2_with (first
          | (go_at_call 115; refine (cI _).mono ?_; clear cI; rintro e w1 ⟨rfl, x1⟩; have hb := ext_blk x1 (Blk.new w _ _); obtain ⟨p0, p1⟩ := two hb; have HB := Lib.hid hb; clear hb)
          | (go_at_call 117; refine (c1 _).mono ?_; clear c1; rintro e w2 ⟨rfl, x2⟩)
          | (go_at_call 116; refine (c2 _).mono ?_; clear c2; rintro e w3 ⟨rfl, x3⟩; have hb := ext_blk (x2.trans x3) HB.out; obtain ⟨p2, p3⟩ := two hb; clear hb))
        have y3 : Ext w w3 := ((((Ext.refl w).alloc _).trans x1).trans x2).trans x3
        have i0 := fun i : Later w3 => i.cell p2
        have i1 := fun i : Later w3 => i.cell p3
        clear p0 p1 p2 p3
        refine wp_region_later (by kernel_rfl) (by kernel_rfl) ?_
        repeat (go_big_quiet_step (first
          | (go_at_call 89; exact Later.calls (c3 _))
          | (go_at_call 118; exact Later.calls (c4 _))
          | (go_at_call 107; exact Later.calls (c5 _ (y3.trans (Later.ext _))))))
        refine wpQuiet_nil ?_
        rintro w4 ⟨i, hi⟩
        have x4 : Ext w3 w4 := by rw [hi]; exact i.ext
        clear hi i i0 i1
        go_wp2
        go_ret
        exact ⟨rfl, y3.trans x4⟩
      · subst heq
        rw [if_pos rfl]
        have q0 : ((ch : Int) != (ch : Int)) = false := by simp
        clear hi
        go_enter Tryz.func44, Tryz.ntmps44
        go_wp2_with (first
          | (go_at_call 115; refine (cI _).mono ?_; clear cI; rintro e w1 ⟨rfl, x1⟩; have hb := ext_blk x1 (Blk.new w _ _); obtain ⟨p0, p1⟩ := two hb; have HB := Lib.hid hb; clear hb)
          | (go_at_call 117; refine (c1 _).mono ?_; clear c1; rintro e w2 ⟨rfl, x2⟩)
          | (go_at_call 116; refine (c2 _).mono ?_; clear c2; rintro e w3 ⟨rfl, x3⟩; have hb := ext_blk (x2.trans x3) HB.out; obtain ⟨p2, p3⟩ := two hb; clear hb))
        have y3 : Ext w w3 := ((((Ext.refl w).alloc _).trans x1).trans x2).trans x3
        have i0 := fun i : Later w3 => i.cell p2
        have i1 := fun i : Later w3 => i.cell p3
        clear p0 p1 p2 p3
        refine wp_region_later (by kernel_rfl) (by kernel_rfl) ?_
        repeat (go_big_quiet_step (first
          | (go_at_call 89; exact Later.calls (c3 _))
          | (go_at_call 118; exact Later.calls (c4 _))
          | (go_at_call 107; exact Later.calls (c5 _ (y3.trans (Later.ext _))))))
        refine wpQuiet_nil ?_
        rintro w4 ⟨i, hi⟩
        have x4 : Ext w3 w4 := by rw [hi]; exact i.ext
        clear hi i i0 i1
        go_wp2
        go_ret
        exact ⟨rfl, y3.trans x4⟩
end Go.Proofs.YtfpmfegmehbfbaaGreatDoor
