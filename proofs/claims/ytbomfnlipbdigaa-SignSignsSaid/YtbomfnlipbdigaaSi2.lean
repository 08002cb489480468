/- Signing, walked: Sign, Check (sign and greatsealref04). Printed by gen_si2.py. -/
import Derived.Test.YtbomfnlipbdigaaSi
namespace Go.Proofs.Ytbomfnlipbdigaa
set_option linter.unusedVariables false
open Go.RowKit Go.Shelf
attribute [local irreducible] mix hSum hNum

theorem toExt {P : Program} {f : FuncId} {args : Array Value} {w : World} {v : Ending} (h : Calls P f args w fun e w' => e = v ∧ w = w') : Calls P f args w fun e w' => e = v ∧ Ext w w' :=
  h.mono fun _ _ ⟨a, b⟩ => ⟨a, by rw [← b]; exact Ext.refl _⟩
theorem two {W : World} {g : Nat} {T : TypeId} {a b : Value} (h : Blk W g T #[a, b]) : W.cell? ⟨g, 0, none⟩ = some a ∧ W.cell? ⟨g, 1, none⟩ = some b := ⟨h.cell 0, h.cell 1⟩
theorem pw64 (x n : Nat) : powM bQ x n < 18446744073709551616 := Nat.lt_trans (powM_lt (by decide) _ _) (by decide)
theorem r64 {x : Nat} (h : x < bR) : x < 18446744073709551616 := Nat.lt_trans h (by decide)

set_option maxRecDepth 100000 in
set_option maxHeartbeats 1000000 in
theorem Sign_odd (s : Nat) (ho : oddN s = true) (hs : s < 18446744073709551616) (A : Option Addr) (n c : Nat) (w : World) :
    Calls Try.prog 19 #[.int .u64 s, .slice A n c] w fun e w' => e = .returned (.tuple #[.agg #[.int .u64 0, .int .u64 0], .int .i64 1]) ∧ Ext w w' := by
  have c1 := fun w => Public_any s hs w
  rw [if_pos ho] at c1
  clear ho hs
  go_enter Try.func19, Try.ntmps19
  go_wp2_with (go_at_call 13; refine (c1 _).mono ?_; clear c1; rintro e w1 ⟨rfl, x1⟩; have hb := ext_blk x1 (Blk.new w _ _); obtain ⟨p0, p1⟩ := two hb; have f0 := hb.frozen 0; have f1 := hb.frozen 1; have HB := Lib.hid hb; clear hb)
  refine bodyPost_ret (v := .tuple #[.agg #[.int .u64 0, .int .u64 0], .int .i64 1]) (by simp [results, Try.results19, go_sem, p0, p1]) rfl ⟨rfl, ?_⟩
  exact ((((Ext.refl w).alloc _).trans x1).setCell (p := ⟨w.heap.size, 0, none⟩) (Nat.le_refl _) _).setCell (p := ⟨w.heap.size, 1, none⟩) (Nat.le_refl _) _

set_option maxRecDepth 100000 in
set_option maxHeartbeats 1000000 in
theorem Sign_any (s : Nat) (ho : oddN s = false) (l : List Nat) (hl : ∀ x ∈ l, x < 256) (h : l.length ≤ 1000) (A : Option Addr) (c0 : Nat) (hc : l.length ≤ c0) (w : World) (hr : Reads w w.heap.size 1 A l.length (bv l)) :
    Calls Try.prog 19 #[.int .u64 s, .slice A l.length c0] w fun e w' => e = .returned (.tuple #[.agg #[.int .u64 (sgE s l : Nat), .int .u64 (sgS s l : Nat)], .int .i64 0]) ∧ Ext w w' := by
  have ls : s < bR := by unfold oddN at ho; simp at ho; omega
  have c1 := fun w => Public_any s (r64 ls) w
  rw [if_neg (by rw [ho]; decide)] at c1
  have c2 := fun w => sbytes_any s (r64 ls) w
  obtain ⟨k, hk⟩ : ∃ k, k = nonceN s l := ⟨_, rfl⟩
  have lk : k < bR := by rw [hk]; exact someN_lt _ _
  have c3 : ∀ W B T, Ext w W → Reads W W.heap.size 1 B 8 (bv (be s 8)) → Calls Try.prog 35 #[.string nonceS, .slice (some ⟨W.heap.size, 0, none⟩) 2 2] (W.alloc (.cells #[.slice B 8 8, .slice A l.length c0] T)) fun e w' => e = .returned (.int .u64 (k : Nat)) ∧ Ext (W.alloc (.cells #[.slice B 8 8, .slice A l.length c0] T)) w' := fun W B T xw hb => by
    rw [hk]; exact some_any nonceS [be s 8, l] (lts2 s hl) (len2 nonceS (by decide) s h) _ 2 (Nat.le_refl 2) _ (parts_2 (T := T) hb hc ((hr.below xw.out).more xw.size))
  have c4 := fun w => Base_any k (r64 lk) w
  have c5 : ∀ W, Ext w W → Calls Try.prog 17 #[.int .u64 (powM bQ 4 k : Nat), .int .u64 (powM bQ 4 s : Nat), .slice A l.length c0] W fun e w' => e = .returned (.int .u64 (sgE s l : Nat)) ∧ Ext W w' := fun W xw => by
    unfold sgE; rw [← hk]; exact Challenge_any (powM bQ 4 k) (powM bQ 4 s) (pw64 _ _) (pw64 _ _) l hl h A c0 hc W ((hr.below xw.out).more xw.size)
  obtain ⟨c, hcc⟩ : ∃ c, c = sgE s l := ⟨_, rfl⟩
  have lc : c < 18446744073709551616 := by rw [hcc]; exact r64 (sgE_lt s l)
  have c6 := fun w => MulRE c s lc (r64 ls) w
  obtain ⟨q, hq⟩ : ∃ q, q = mulM bR c s := ⟨_, rfl⟩
  have c7 := fun w => AddRE q k w
  have hz : addM bR q k = sgS s l := by unfold sgS; rw [← hcc, ← hk, ← hq]
  rw [hz] at c7
  rw [← hcc] at c5 ⊢
  rw [← hq] at c6
  obtain ⟨z, hz'⟩ : ∃ z, z = sgS s l := ⟨_, rfl⟩
  rw [← hz'] at c7 ⊢
  obtain ⟨p, hp⟩ : ∃ p, p = powM bQ 4 s := ⟨_, rfl⟩
  obtain ⟨b, hb⟩ : ∃ b, b = powM bQ 4 k := ⟨_, rfl⟩
  rw [← hb] at c4 c5
  rw [← hp] at c1 c5
  clear hb hp hz hz' hq hcc lc lk hk hr hl h hc ls ho
  go_enter Try.func19, Try.ntmps19
  have x0 : Ext w (w.alloc (.cells #[.int .u64 0, .int .u64 0] 33)) := (Ext.refl w).alloc _
  have HB := Lib.hid (Blk.new w 33 #[.int .u64 0, .int .u64 0])
  go_wp2_with (first
    | (go_at_call 13; refine (c1 _).mono ?_; clear c1; rintro e w1 ⟨rfl, x1⟩)
    | (go_at_call 40; refine (c2 _).mono ?_; clear c2; rintro e w2 ⟨B, rfl, rB, x2⟩)
    | (go_at_call 35; refine (c3 _ _ _ ((x0.trans x1).trans x2) rB).mono ?_; clear c3; rintro e w3 ⟨rfl, x3⟩)
    | (go_at_call 25; refine (c4 _).mono ?_; clear c4; rintro e w4 ⟨rfl, x4⟩; have y4 := ((((x0.trans x1).trans x2).alloc _).trans x3).trans x4; have z4 := (((x1.trans x2).alloc _).trans x3).trans x4)
    | (go_at_call 17; refine (c5 _ y4).mono ?_; clear c5; rintro e w5 ⟨rfl, x5⟩)
    | (go_at_call 27; refine (c6 _).mono ?_; clear c6; rintro e w6 ⟨rfl, x6⟩)
    | (go_at_call 26; refine (c7 _).mono ?_; clear c7; rintro e w7 ⟨rfl, x7⟩; have hb := ext_blk (((z4.trans x5).trans x6).trans x7) HB.out; obtain ⟨p0, p1⟩ := two hb; have f0 := hb.frozen 0; have f1 := hb.frozen 1; clear hb))
  refine bodyPost_ret (v := .tuple #[.agg #[.int .u64 (c : Int), .int .u64 (z : Int)], .int .i64 0]) (by simp [results, Try.results19, go_sem, p0, p1]) rfl ⟨rfl, ?_⟩
  exact ((((y4.trans x5).trans x6).trans x7).setCell (p := ⟨w.heap.size, 0, none⟩) (Nat.le_refl _) _).setCell (p := ⟨w.heap.size, 1, none⟩) (Nat.le_refl _) _

set_option maxRecDepth 100000 in
set_option maxHeartbeats 1000000 in
theorem rSign_odd (s : Nat) (ho : oddN s = true) (hs : s < 18446744073709551616) (A : Option Addr) (n c : Nat) (w : World) :
    Calls Try.prog 20 #[.int .u64 s, .slice A n c] w fun e w' => e = .returned (.tuple #[.agg #[.int .u64 0, .int .u64 0], .int .i64 1]) ∧ Ext w w' := by
  have c1 := fun w => rPublic_any s hs w
  rw [if_pos ho] at c1
  clear ho hs
  go_enter Try.func20, Try.ntmps20
  go_wp2_with (go_at_call 14; refine (c1 _).mono ?_; clear c1; rintro e w1 ⟨rfl, x1⟩; have hb := ext_blk x1 (Blk.new w _ _); obtain ⟨p0, p1⟩ := two hb; have f0 := hb.frozen 0; have f1 := hb.frozen 1; have HB := Lib.hid hb; clear hb)
  refine bodyPost_ret (v := .tuple #[.agg #[.int .u64 0, .int .u64 0], .int .i64 1]) (by simp [results, Try.results20, go_sem, p0, p1]) rfl ⟨rfl, ?_⟩
  exact ((((Ext.refl w).alloc _).trans x1).setCell (p := ⟨w.heap.size, 0, none⟩) (Nat.le_refl _) _).setCell (p := ⟨w.heap.size, 1, none⟩) (Nat.le_refl _) _

set_option maxRecDepth 100000 in
set_option maxHeartbeats 1000000 in
theorem rSign_any (s : Nat) (ho : oddN s = false) (l : List Nat) (hl : ∀ x ∈ l, x < 256) (h : l.length ≤ 1000) (A : Option Addr) (c0 : Nat) (hc : l.length ≤ c0) (w : World) (hr : Reads w w.heap.size 1 A l.length (bv l)) :
    Calls Try.prog 20 #[.int .u64 s, .slice A l.length c0] w fun e w' => e = .returned (.tuple #[.agg #[.int .u64 (sgE s l : Nat), .int .u64 (sgS s l : Nat)], .int .i64 0]) ∧ Ext w w' := by
  have ls : s < bR := by unfold oddN at ho; simp at ho; omega
  have c1 := fun w => rPublic_any s (r64 ls) w
  rw [if_neg (by rw [ho]; decide)] at c1
  have c2 := fun w => Eight4_any s (r64 ls) w
  obtain ⟨k, hk⟩ : ∃ k, k = nonceN s l := ⟨_, rfl⟩
  have lk : k < bR := by rw [hk]; exact someN_lt _ _
  obtain ⟨tx, ty, c3, c3'⟩ := rtagNum nonceS [be s 8, l] (bR - 1) (by decide) (lts2 s hl) (len2 nonceS (by decide) s h)
  have c3 : ∀ W B T, Ext w W → Reads W W.heap.size 1 B 8 (bv (be s 8)) → Calls Try.prog 37 #[.string nonceS, .slice (some ⟨W.heap.size, 0, none⟩) 2 2] (W.alloc (.cells #[.slice B 8 8, .slice A l.length c0] T)) fun e w' => e = .returned (.agg #[.int .u64 (tx : Int), .int .u64 (ty : Int)]) ∧ Ext (W.alloc (.cells #[.slice B 8 8, .slice A l.length c0] T)) w' := fun W B T xw hb => c3 _ 2 _ (Nat.le_refl 2) (parts_2 (T := T) hb hc ((hr.below xw.out).more xw.size))
  have hlt := hNum_lt nonceS [be s 8, l] (m := bR - 1) (by decide)
  obtain ⟨n, hn⟩ : ∃ n, n = hNum nonceS [be s 8, l] (bR - 1) := ⟨_, rfl⟩
  rw [← hn] at hlt c3'
  have hkn : k = n + 1 := by rw [hk, hn]; rfl
  rw [show bR - 1 = 1152921504606845788 from rfl] at c3'
  simp only [Int.cast_ofNat_Int] at c3'
  have e1 : IntKind.u64.wrap ((n : Int) + 1) = (k : Int) := by rw [hkn]; exact (wrap_one (n := n) (by unfold bR at *; omega)).1
  have e2 : IntKind.u64.wrap (1 + (n : Int)) = (k : Int) := by rw [hkn]; exact (wrap_one (n := n) (by unfold bR at *; omega)).2
  have e3 : (n : Int) + 1 = (k : Int) := by omega
  clear hn hlt hkn
  have c4 := fun w => toExt (rBase_any k (r64 lk) w)
  have c5 : ∀ W, Ext w W → Calls Try.prog 18 #[.int .u64 (powM bQ 4 k : Nat), .int .u64 (powM bQ 4 s : Nat), .slice A l.length c0] W fun e w' => e = .returned (.int .u64 (sgE s l : Nat)) ∧ Ext W w' := fun W xw => by
    unfold sgE; rw [← hk]; exact rChallenge_any (powM bQ 4 k) (powM bQ 4 s) (pw64 _ _) (pw64 _ _) l hl h A c0 hc W ((hr.below xw.out).more xw.size)
  obtain ⟨c, hcc⟩ : ∃ c, c = sgE s l := ⟨_, rfl⟩
  have lc : c < 18446744073709551616 := by rw [hcc]; exact r64 (sgE_lt s l)
  have c6 := fun w => toExt (rMulR_any c s (r64 ls) w)
  obtain ⟨q, hq⟩ : ∃ q, q = mulM bR c s := ⟨_, rfl⟩
  have c7 := fun w => toExt (rAddR_any k q w)
  have hz : addM bR q k = sgS s l := by unfold sgS; rw [← hcc, ← hk, ← hq]
  rw [addM_comm bR k q, hz] at c7
  rw [← hcc] at c5 ⊢
  rw [← hq] at c6
  obtain ⟨z, hz'⟩ : ∃ z, z = sgS s l := ⟨_, rfl⟩
  rw [← hz'] at c7 ⊢
  obtain ⟨p, hp⟩ : ∃ p, p = powM bQ 4 s := ⟨_, rfl⟩
  obtain ⟨b, hb⟩ : ∃ b, b = powM bQ 4 k := ⟨_, rfl⟩
  rw [← hb] at c4 c5
  rw [← hp] at c1 c5
  clear hb hp hz hz' hq hcc lc lk hk hr hl h hc ls ho
  go_enter Try.func20, Try.ntmps20
  have x0 : Ext w (w.alloc (.cells #[.int .u64 0, .int .u64 0] 33)) := (Ext.refl w).alloc _
  have HB := Lib.hid (Blk.new w 33 #[.int .u64 0, .int .u64 0])
  go_wp2_with (first
    | (go_at_call 14; refine (c1 _).mono ?_; clear c1; rintro e w1 ⟨rfl, x1⟩)
    | (go_at_call 41; refine (c2 _).mono ?_; clear c2; rintro e w2 ⟨B, rfl, rB, x2⟩)
    | (go_at_call 37; refine (c3 _ _ _ ((x0.trans x1).trans x2) rB).mono ?_; clear c3; rintro e w3' ⟨rfl, x3a⟩)
    | (go_at_call 36; refine (c3' _).mono ?_; clear c3'; rintro e w3 ⟨rfl, x3b⟩; have x3 := x3a.trans x3b)
    | (go_at_call 34; refine (c4 _).mono ?_; clear c4; rintro e w4 ⟨rfl, x4⟩; have y4 := ((((x0.trans x1).trans x2).alloc _).trans x3).trans x4; have z4 := (((x1.trans x2).alloc _).trans x3).trans x4)
    | (go_at_call 18; refine (c5 _ y4).mono ?_; clear c5; rintro e w5 ⟨rfl, x5⟩)
    | (go_at_call 43; refine (c6 _).mono ?_; clear c6; rintro e w6 ⟨rfl, x6⟩)
    | (go_at_call 42; refine (c7 _).mono ?_; clear c7; rintro e w7 ⟨rfl, x7⟩; have hb := ext_blk (((z4.trans x5).trans x6).trans x7) HB.out; obtain ⟨p0, p1⟩ := two hb; have f0 := hb.frozen 0; have f1 := hb.frozen 1; clear hb))
  refine bodyPost_ret (v := .tuple #[.agg #[.int .u64 (c : Int), .int .u64 (z : Int)], .int .i64 0]) (by simp [results, Try.results20, go_sem, p0, p1]) rfl ⟨rfl, ?_⟩
  exact ((((y4.trans x5).trans x6).trans x7).setCell (p := ⟨w.heap.size, 0, none⟩) (Nat.le_refl _) _).setCell (p := ⟨w.heap.size, 1, none⟩) (Nat.le_refl _) _

end Go.Proofs.Ytbomfnlipbdigaa
