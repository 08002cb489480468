/- Parts of the proofs, put together: CyPow, CyIn, CyE. -/
import Derived.RangeFuncNested
import Derived.RangeFuncBound
import Derived.RangeFuncCalls
import Derived.RangeFuncLeaves
import Derived.Shelf.Abstract
import Derived.Shelf.RegionOpen
import Derived.OwnWalkIn
import Derived.TacticsInMore
import Derived.LoopNIn
import Derived.LoopIn
import Derived.Test.YtfpmfegmehbfbaaGreatDoorZ1
import Derived.Test.YtfpmfegmehbfbaaGreatDoorZ7
/- The layer 'cyclic', walked: powers, by a range over a function. -/
namespace Go.Proofs.YtfpmfegmehbfbaaGreatDoor
open Go.RowKit Go.Shelf
attribute [local go_sem] Oper.semAt_some

theorem places_any (n : Nat) (w : World) :
    Calls Tryz.prog 256 #[.int .u64 n] w fun e w' => e = .returned (.func (.func 294) #[] #[.pointer (some ⟨w.heap.size, 0, none⟩)]) ∧ w.alloc (.cells #[.int .u64 n] 25) = w' := by
  go_enter Tryz.func256, Tryz.ntmps256
  go_wp2
  go_ret
  exact ⟨rfl, rfl⟩

def bitAt (n : Nat) : Nat → Bool := fun j => n.testBit (Lib.bitLen n - 1 - j)


set_option maxRecDepth 100000 in
set_option maxHeartbeats 1000000 in
/-- The bits of x, the highest that is set first, WHATEVER THE LOOP's BODY. -/
theorem places1_in (n : Nat) (hn : 1 ≤ n) (l B x : Nat) (hx : x < 18446744073709551616) (J Jx : List Bool → World → Prop)
    (hY : ∀ pre b W, J pre W → pre.length < Lib.bitLen x → YieldAt Fence.wide (n - 1) Tryz.prog l #[.bool b] W fun e W' =>
      (e = .returned (.bool true) ∧ J (pre ++ [b]) W' ∧ W'.cell? ⟨B, 0, none⟩ = W.cell? ⟨B, 0, none⟩) ∨ (e = .returned (.bool false) ∧ Jx (pre ++ [b]) W'))
    (hJd : ∀ pre W, J pre W → J pre W.drew)
    (W : World) (hB : W.cell? ⟨B, 0, none⟩ = some (.int .u64 x)) (h0 : J [] W) :
    CallsIn Fence.wide n Tryz.prog 294 #[.func (.yield l) #[] #[], .pointer (some ⟨B, 0, none⟩)] W fun e W' => (∃ v, e = .returned v) ∧
      ((∃ ys, ys = upto (bitAt x) (Lib.bitLen x) ∧ J ys W') ∨ (∃ pre, True ∧ Jx pre W')) := by
  obtain ⟨L, hL⟩ : ∃ L, L = Lib.bitLen x := ⟨_, rfl⟩
  have hL64 : L ≤ 64 := by rw [hL]; exact Lib.bitLen_le x 64 (by omega) hx
  have c0 : ∀ m w, CallsIn Fence.wide m Tryz.prog 217 #[.int .u64 (x : Int)] w fun e w' => e = .returned (.int .i64 (L : Int)) ∧ w = w' := fun m w => by
    rw [hL]; exact callsIn_wide.2 ((Tryz.bits_Len64 x w (by omega) (by omega)).mono fun e w' ⟨he, hw⟩ => ⟨by rw [he]; simp, hw.symm⟩)
  rw [← hL] at hY ⊢
  have HL := Lib.hid hL
  clear hL
  refine callsIn_of_wp Tryz.func294 rfl trivial ?_ rfl
  simp only [Tryz.ntmps294, List.size_toArray, List.length_cons, List.length_nil, Nat.reduceAdd, Nat.reduceSub, Array.replicate_succ, Array.replicate_zero, List.push_toArray, List.append_toArray, List.nil_append, List.cons_append]
  gi_wp2_with (refine ⟨trivial, ?_⟩; gi_at_call 217; refine (c0 _ _).mono ?_; rintro e w' ⟨rfl, rfl⟩)
  gi_loopw [3] (fun i wr => ∃ k : Nat, k ≤ L ∧ i = .int .i64 ((L : Int) - 1 - k) ∧ J (upto (bitAt x) k) wr ∧ wr.cell? ⟨B, 0, none⟩ = some (.int .u64 x))
    (fun i _ => (intOf i + 1).toNat)
  case atStart => exact ⟨0, Nat.zero_le _, int_congr (by omega), h0, hB⟩
  case round =>
    obtain ⟨k, hk, rfl, hJs, hc⟩ := hrel
    by_cases hlt : k < L
    · obtain ⟨j, hj⟩ : ∃ j : Nat, (L : Int) - 1 - k = j := ⟨L - 1 - k, by omega⟩
      have hb : bitAt x k = x.testBit j := by unfold bitAt; rw [← HL.out]; congr 1; omega
      obtain ⟨fn, tmps, assign, body, hy, hR⟩ := hY _ (bitAt x k) wr.drew (hJd _ _ hJs) (by rw [upto_length]; exact hlt)
      rw [hj]
      have hj64 : j < 64 := by omega
      obtain ⟨p, hp⟩ : ∃ p, p = 2 ^ j := ⟨_, rfl⟩
      have hp64 : p < 18446744073709551616 := by rw [hp]; exact Nat.pow_lt_pow_right (by omega) hj64
      obtain ⟨v, hv⟩ : ∃ v, v = x &&& p := ⟨_, rfl⟩
      have k2 : IntKind.u64.wrap (2 ^ j : Int) = (p : Int) := by
        have e : (2 ^ j : Int) = ((2 ^ j : Nat) : Int) := by simp
        rw [e, ← hp, IntKind.wrap_u64]; omega
      have k3 : bits .and .u64 (x : Int) (p : Int) = (v : Int) := by rw [bits_and_u64_nat x p hx hp64, hv]
      have k4 : ((v : Int) != 0) = bitAt x k := by
        have e : v = (x.testBit j).toNat * p := by rw [hv, hp, and_two_pow]
        have hp0 : 0 < p := by rw [hp]; exact Nat.two_pow_pos j
        rw [hb, e]
        cases x.testBit j <;> simp <;> omega
      clear hp hv hx hb
      have HJ := Lib.hid hj
      clear hj
      have hR' := hR.mono (R' := fun e W' => ∃ b : Bool, e = .returned (.bool b) ∧ Hid ((b = true ∧ J (upto (bitAt x) (k + 1)) W' ∧ W'.cell? ⟨B, 0, none⟩ = some (.int .u64 x)) ∨ (b = false ∧ Jx (upto (bitAt x) k ++ [bitAt x k]) W'))) (fun e W' h => by
        rcases h with ⟨he, hj, hc'⟩ | ⟨he, hj⟩
        · exact ⟨true, he, Or.inl ⟨rfl, by rw [upto_succ]; exact hj, hc'.trans hc⟩⟩
        · exact ⟨false, he, Or.inr ⟨rfl, hj⟩⟩)
      clear hR
      have hmx : Tryz.prog.follows .mixedOrders = true := by kernel_rfl
      gi_wp2
      gi_region_with_o (refine hR'.mono ?_; rintro e W' ⟨b, rfl, hE⟩)
      cases b with
      | true =>
        obtain ⟨hJ', hc'⟩ : J (upto (bitAt x) (k + 1)) W' ∧ W'.cell? ⟨B, 0, none⟩ = some (.int .u64 x) := by
          rcases hE.out with ⟨_, h⟩ | ⟨h, _⟩
          · exact h
          · cases h
        clear hE
        have hjj := HJ.out
        gi_wp2
        go_roundw
        case rel => exact ⟨k + 1, by omega, int_congr (by omega), hJ', hc'⟩
        case measure => simp [intOf]
      | false =>
        have hx' : Jx (upto (bitAt x) k ++ [bitAt x k]) W' := by
          rcases hE.out with ⟨h, _⟩ | ⟨_, h⟩
          · cases h
          · exact h
        clear hE
        gi_wp2
        refine bodyPost_ret (results_none rfl _ _ _) rfl ?_
        exact ⟨⟨_, rfl⟩, .inr ⟨_, trivial, hx'⟩⟩
    · obtain rfl : k = L := by omega
      gi_wp2
      go_end0
      exact ⟨⟨_, rfl⟩, .inl ⟨_, rfl, hJs⟩⟩

/-- J abides a draw. -/
theorem abides_drew {J : List Bool → World → Prop} {B : Nat} (h : AbidesFrom B J) (pre : List Bool) (W : World) (hJ : J pre W) : J pre W.drew :=
  h pre W W.drew none hJ ⟨rfl, rfl, rfl, Nat.le_refl _, fun _ _ _ => rfl⟩ (fun _ e => by cases e)

/-- A store into a box behind draws. -/
theorem wr_box {W : World} {q B : Nat} {v v0 : Value} (hc : W.cell? ⟨B, 0, none⟩ = some v0) :
    KeepsOthers W ((W.drewN q).setCell ⟨B, 0, none⟩ v) ∧ (∀ b, b ≠ B → ((W.drewN q).setCell ⟨B, 0, none⟩ v).cell? ⟨b, 0, none⟩ = W.cell? ⟨b, 0, none⟩) ∧
    ((W.drewN q).setCell ⟨B, 0, none⟩ v).cell? ⟨B, 0, none⟩ = some v ∧ (∀ p, ((W.drewN q).setCell ⟨B, 0, none⟩ v).frozen? p = W.frozen? p) ∧
    (∀ n₀ w, n₀ ≤ B → Below n₀ w W → Below n₀ w ((W.drewN q).setCell ⟨B, 0, none⟩ v)) := by
  refine ⟨KeepsOthers.trans (B := W.drewN q) ⟨Nat.le_refl _, fun _ _ h _ => h⟩ (KeepsOthers.setCell _ _ _), fun b hb => ?_, ?_, fun p => ?_, fun n₀ w hn h => ?_⟩
  · exact (World.cell?_setCell_other (w := W.drewN q) (a := ⟨B, 0, none⟩) (b := ⟨b, 0, none⟩) (v := v) (fun h => hb (by cases h; rfl))).trans rfl
  · exact World.cell?_setCell_same' _ _ _ (by rw [World.cell?_drewN, hc]; rfl)
  · rw [World.frozen?_setCell]; rfl
  · exact (below_drewN h q).setCell (p := ⟨B, 0, none⟩) hn v

theorem lt_bitLen (n : Nat) (hn : n < 18446744073709551616) : n < 2 ^ Lib.bitLen n := by
  rcases Nat.eq_zero_or_pos n with rfl | h
  · exact Nat.two_pow_pos _
  · exact (Lib.bitLenAux_bounds 64 n hn (by omega)).2.2

set_option maxRecDepth 100000 in
set_option maxHeartbeats 1000000 in
/-- power: the n-th power modulo m. -/
theorem power_any (m a n : Nat) (h1 : 1 < m) (hm : m < 18446744073709551616) (ha : a < 18446744073709551616) (hn : n < 18446744073709551616) (w : World) :
    Calls Tryz.prog 211 #[.func (.func 196) #[.int .u64 m] #[], .int .u64 a, .int .u64 n] w fun e w' => e = .returned (.int .u64 (powM m a n : Nat)) ∧ Ext w w' := by
  refine (callsIn_wide (n := 5)).1 ?_
  have cm : ∀ k x y, x < 18446744073709551616 → y < 18446744073709551616 → ∀ w, CallsIn Fence.wide k Tryz.prog 196 #[.int .u64 (m : Int), .int .u64 (x : Nat), .int .u64 (y : Nat)] w fun e w' => e = .returned (.int .u64 (mulM m x y : Nat)) ∧ ∃ n, w' = w.drewN n :=
    fun k x y hx hy w => callsIn_wide.2 (ring_mul m x y (by omega) hm hx hy w)
  have cp : ∀ k w, CallsIn Fence.wide k Tryz.prog 256 #[.int .u64 n] w fun e w' => e = .returned (.func (.func 294) #[] #[.pointer (some ⟨w.heap.size, 0, none⟩)]) ∧ w.alloc (.cells #[.int .u64 n] 25) = w' :=
    fun k w => callsIn_wide.2 (places_any n w)
  refine callsIn_of_wp_marks Tryz.func211 rfl trivial ?_ rfl
  simp only [Tryz.ntmps211, List.size_toArray, List.length_cons, List.length_nil, Nat.reduceAdd, Nat.reduceSub, Array.replicate_succ, Array.replicate_zero, List.push_toArray, List.append_toArray, List.nil_append, List.cons_append]
  gi_wp2_with (refine ⟨trivial, ?_⟩; gi_at_call 256; refine (cp _ _).mono ?_; rintro e w' ⟨rfl, rfl⟩)
  obtain ⟨s0, hs0⟩ : ∃ s0, s0 = w.heap.size := ⟨_, rfl⟩
  have f0 : (((((w.alloc (.cells #[.func (.func 196) #[.int .u64 m] #[]] 197)).alloc (.cells #[.int .u64 a] 25)).alloc (.cells #[.int .u64 1] 25)).alloc (.cells #[.int .u64 n] 25)).cell? ⟨s0, 0, none⟩ = some (.func (.func 196) #[.int .u64 m] #[])) ∧
    (((((w.alloc (.cells #[.func (.func 196) #[.int .u64 m] #[]] 197)).alloc (.cells #[.int .u64 a] 25)).alloc (.cells #[.int .u64 1] 25)).alloc (.cells #[.int .u64 n] 25)).cell? ⟨s0 + 1, 0, none⟩ = some (.int .u64 a)) ∧
    (((((w.alloc (.cells #[.func (.func 196) #[.int .u64 m] #[]] 197)).alloc (.cells #[.int .u64 a] 25)).alloc (.cells #[.int .u64 1] 25)).alloc (.cells #[.int .u64 n] 25)).cell? ⟨s0 + 1 + 1, 0, none⟩ = some (.int .u64 1)) ∧
    (((((w.alloc (.cells #[.func (.func 196) #[.int .u64 m] #[]] 197)).alloc (.cells #[.int .u64 a] 25)).alloc (.cells #[.int .u64 1] 25)).alloc (.cells #[.int .u64 n] 25)).frozen? ⟨s0 + 1 + 1, 0, none⟩ = false) ∧
    (((((w.alloc (.cells #[.func (.func 196) #[.int .u64 m] #[]] 197)).alloc (.cells #[.int .u64 a] 25)).alloc (.cells #[.int .u64 1] 25)).alloc (.cells #[.int .u64 n] 25)).cell? ⟨s0 + 1 + 1 + 1, 0, none⟩ = some (.int .u64 n)) := by
    subst hs0
    refine ⟨?_, ?_, ?_, ?_, ?_⟩ <;> simp [go_sem]
  obtain ⟨W0, hW0⟩ : ∃ W0, ((((w.alloc (.cells #[.func (.func 196) #[.int .u64 m] #[]] 197)).alloc (.cells #[.int .u64 a] 25)).alloc (.cells #[.int .u64 1] 25)).alloc (.cells #[.int .u64 n] 25)) = W0 := ⟨_, rfl⟩
  have hE : Ext w W0 := by rw [← hW0]; exact ((((Ext.refl w).alloc _).alloc _).alloc _).alloc _
  have hsz : W0.heap.size = s0 + 4 := by rw [← hW0, hs0]; simp
  rw [hW0] at f0 ⊢
  rw [← hs0]
  obtain ⟨c0, c1, c2, z2, c3⟩ := f0
  have hlt : s0 = w.heap.size := hs0
  have hE' : Below s0 w W0 := hs0 ▸ hE
  have Hs0 := Lib.hid hs0
  clear hs0 hW0 hE hlt
  refine wpIn_rangeFunc_ownF rfl (by omega) (gf := 294) (lb := #[.pointer (some ⟨s0 + 1 + 1 + 1, 0, none⟩)]) rfl trivial (enters_of Tryz.func294 (by kernel_rfl) rfl)
    (encs := fun b : Bool => #[Value.bool b]) (Kp := fun A B => B.cell? ⟨s0 + 1 + 1 + 1, 0, none⟩ = A.cell? ⟨s0 + 1 + 1 + 1, 0, none⟩) (S := fun ys => ys = upto (bitAt n) (Lib.bitLen n)) (Sp := fun _ => True) (N := Lib.bitLen n) (w0 := W0)
    (fun l J Jx W hW hJ _ hY h0 => places1_in 4 (by omega) l (s0 + 1 + 1 + 1) n hn J Jx hY (abides_drew hJ) W ((Below.cell hW (p := ⟨s0 + 1 + 1 + 1, 0, none⟩) (by rw [hsz]; simp)).trans c3) h0)
    (fun h k => k.trans h)
    (fun W l o o' hl _ _ _ => World.cell?_of_block (w := W) (World.putObj_heap_other (by rw [hsz] at hl; simp; omega)))
    (Below.refl _ _) (fun _ => rfl)
    (fun pre W => (W.cell? ⟨s0, 0, none⟩ = some (.func (.func 196) #[.int .u64 m] #[]) ∧ W.cell? ⟨s0 + 1, 0, none⟩ = some (.int .u64 a) ∧ W.cell? ⟨s0 + 1 + 1, 0, none⟩ = some (.int .u64 (horner m a pre : Nat)) ∧ W.frozen? ⟨s0 + 1 + 1, 0, none⟩ = false ∧ horner m a pre < m) ∧ Below s0 w W)
    (fun _ _ _ => False)
    (OwnFrom.and (Own.from (fun s A B row hs hg hr => ⟨cell_kept hs.1 hg hr, cell_kept hs.2.1 hg hr, cell_kept hs.2.2.1 hg hr, (frozen_kept hs.2.2.1 hg hr).trans hs.2.2.2.1, hs.2.2.2.2⟩) _) (ownFrom_below (by rw [Hs0.out]; exact Nat.le_refl _) (by rw [hsz]; omega)))
    (fun _ _ _ _ _ hs _ _ => hs)
    ⟨⟨c0, c1, c2, z2, h1⟩, hE'⟩
    (fun x => { tmps := #[Value.func (Fn.func 196) #[Value.int IntKind.u64 m] #[], Value.int IntKind.u64 a, Value.int IntKind.u64 n, Value.pointer (some { block := s0, off := 0 }), Value.pointer (some { block := s0 + 1, off := 0 }), undef, Value.int IntKind.u64 0, Value.pointer (some { block := s0 + 1 + 1, off := 0 }), Value.bool x, Value.int IntKind.u64 n, Value.func (Fn.func 294) #[] #[Value.pointer (some { block := s0 + 1 + 1 + 1, off := 0 })], Value.bool x, undef, undef, undef, undef, undef, undef, undef, undef, undef, undef], defers := [] }) ?assign ?body ?done ?stop
  case assign =>
    intro l x W K hK
    gi_wp2
    exact hK
  case body =>
    rintro l pre x W ⟨⟨d0, d1, d2, y2, hlt⟩, hB⟩ _
    obtain ⟨o, ho⟩ : ∃ o, o = horner m a pre := ⟨_, rfl⟩
    rw [← ho] at d2 hlt
    obtain ⟨p, hp⟩ : ∃ p, p = mulM m o o := ⟨_, rfl⟩
    have hpm : p < m := by rw [hp]; exact Nat.mod_lt _ (by omega)
    have cm1 := fun k w => cm k o o (by omega) (by omega) w
    have cm2 := fun k w => cm k p a (by omega) ha w
    rw [← hp] at cm1
    have hs : (x = true → horner m a (pre ++ [x]) = mulM m p a) ∧ (x = false → horner m a (pre ++ [x]) = p) := by
      rw [horner_snoc, ← ho]
      constructor <;> (intro h; subst h; simp [stepM, hp, mulM])
    have HS := Lib.hid hs
    clear hs ho hp cm cp
    cases x with
    | true =>
      gi_wp2_with (first | (refine ⟨trivial, ?_⟩; gi_at_call 196; refine (CallsIn.inRound l (cm1 _ _)).mono ?_; clear cm1; rintro e w' ⟨rfl, QQ, rfl⟩) | (refine ⟨trivial, ?_⟩; gi_at_call 196; refine (CallsIn.inRound l (cm2 _ _)).mono ?_; clear cm2; rintro e w' ⟨rfl, q, rfl⟩))
      obtain ⟨r1, r2, r3, r4, r5⟩ := wr_box (q := QQ) (v := .int .u64 (p : Int)) d2
      obtain ⟨t1, t2, t3, t4, t5⟩ := wr_box (q := q) (v := .int .u64 ((mulM m p a : Nat) : Int)) r3
      exact ⟨r1.trans t1, (t2 _ (by omega)).trans (r2 _ (by omega)), ⟨(t2 _ (by omega)).trans ((r2 _ (by omega)).trans d0), (t2 _ (by omega)).trans ((r2 _ (by omega)).trans d1), by rw [t3, HS.out.1 (by trivial)], by rw [t4, r4]; exact y2, by rw [HS.out.1 (by trivial)]; exact Nat.mod_lt _ (by omega)⟩, t5 _ _ (by omega) (r5 _ _ (by omega) hB)⟩
    | false =>
      gi_wp2_with (refine ⟨trivial, ?_⟩; gi_at_call 196; refine (CallsIn.inRound l (cm1 _ _)).mono ?_; clear cm1; rintro e w' ⟨rfl, q, rfl⟩)
      obtain ⟨r1, r2, r3, r4, r5⟩ := wr_box (q := q) (v := .int .u64 (p : Int)) d2
      exact ⟨r1, r2 _ (by omega), ⟨(r2 _ (by omega)).trans d0, (r2 _ (by omega)).trans d1, by rw [r3, HS.out.2 (by trivial)], by rw [r4]; exact y2, by rw [HS.out.2 (by trivial)]; exact hpm⟩, r5 _ _ (by omega) hB⟩
  case done =>
    rintro D ys W hD rfl ⟨⟨_, _, d2, _, _⟩, hB⟩ hK
    gi_wp2
    refine ⟨by simp, .inl ⟨_, _, rfl, run_takeDeferred hK, ?_⟩⟩
    have e : horner m a (upto (bitAt n) (Lib.bitLen n)) = powM m a n := horner_all m a n _ h1 (lt_bitLen n hn)
    refine ⟨_, results_tmp rfl _ _ _, ?_, ?_⟩
    · exact ret_one (by rw [e])
    · exact Ext.of (Hs0.out ▸ hB.trans (belowK_b (n₀ := s0) (w := w) (by rw [Hs0.out]; exact Nat.le_refl _) W D _ _ (by rw [hsz, Hs0.out] at hD; omega) hK rfl rfl))
  case stop =>
    rintro D c pre W _ _ h _
    exact h.elim

/-! ### the exported ones -/
theorem Pow_any (a n : Nat) (ha : a < 18446744073709551616) (hn : n < 18446744073709551616) (w : World) :
    Calls Tryz.prog 117 #[.int .u64 a, .int .u64 n] w fun e w' => e = .returned (.int .u64 (powM bQ a n : Nat)) ∧ Ext w w' := by
  have c := fun w => power_any bQ a n (by decide) (by decide) ha hn w
  have hmf : ∀ (fn : Fn) (first cap : Array Value) (w : World), (Instr.makeFunc fn first cap).run Tryz.prog w = .ok (.func fn first cap) w := fun _ _ _ _ => rfl
  go_enter Tryz.func117, Tryz.ntmps117
  go_wp2_with (go_at_call 211; refine (c _).mono ?_; rintro e w' ⟨rfl, hw⟩)
  go_ret
  exact ⟨rfl, hw⟩
theorem Base_any (n : Nat) (hn : n < 18446744073709551616) (w : World) :
    Calls Tryz.prog 89 #[.int .u64 n] w fun e w' => e = .returned (.int .u64 (powM bQ 4 n : Nat)) ∧ Ext w w' := by
  have c := fun w => Pow_any 4 n (by decide) hn w
  go_enter Tryz.func89, Tryz.ntmps89
  go_wp2_with (go_at_call 117; refine (c _).mono ?_; rintro e w' ⟨rfl, hw⟩)
  go_ret
  exact ⟨rfl, hw⟩
end Go.Proofs.YtfpmfegmehbfbaaGreatDoor

/- cyclic.In, walked. -/
namespace Go.Proofs.YtfpmfegmehbfbaaGreatDoor
open Go.RowKit Go.Shelf

theorem In_any (x : Nat) (hx : x < 18446744073709551616) (w : World) :
    Calls Tryz.prog 115 #[.int .u64 x] w fun e w' => e = .returned (.bool (inB x)) ∧ Ext w w' := by
  have c := fun w => Pow_any x bR hx (by decide) w
  have hin : Hid (inB x = (decide (0 < x) && decide (x < bQ) && powM bQ x bR == 1)) := rfl
  by_cases h0 : 0 < x
  · have d0 : decide (0 < x) = true := by simpa using h0
    have d0' : decide (0 < (x : Int)) = true := by simp; omega
    by_cases h1 : x < bQ
    · have d1 : decide (x < 2305843009213691579) = true := by simpa [bQ] using h1
      have d1' : decide ((x : Int) < 2305843009213691579) = true := by unfold bQ at h1; simp; omega
      obtain ⟨p, hp⟩ : ∃ p, p = powM bQ x bR := ⟨_, rfl⟩
      rw [← hp] at c
      have hv : inB x = ((p : Int) == 1) := by
        have e2 : decide (x < bQ) = true := by simpa using h1
        rw [hin.out, d0, e2, ← hp, Bool.eq_iff_iff]
        simp
        omega
      have HV := Lib.hid hv
      clear hp h0 h1 hx hv
      go_enter Tryz.func115, Tryz.ntmps115
      go_wp2_with (go_at_call 117; refine (c _).mono ?_; rintro e w' ⟨rfl, hw⟩)
      go_ret
      exact ⟨ret_bool HV.out.symm, hw⟩
    · have d1 : decide (x < 2305843009213691579) = false := by simpa [bQ] using h1
      have d1' : decide ((x : Int) < 2305843009213691579) = false := by unfold bQ at h1; simp; omega
      have hv : inB x = false := by
        have e2 : decide (x < bQ) = false := by simpa using h1
        rw [hin.out, d0, e2]; rfl
      have HV := Lib.hid hv
      clear h0 h1 hx hv
      go_enter Tryz.func115, Tryz.ntmps115
      go_wp2
      go_ret
      exact ⟨ret_bool HV.out.symm, Ext.refl _⟩
  · obtain rfl : x = 0 := by omega
    have hv : inB 0 = false := by rw [hin.out]; rfl
    have HV := Lib.hid hv
    clear h0 hx hv
    go_enter Tryz.func115, Tryz.ntmps115
    go_wp2
    go_ret
    exact ⟨ret_bool HV.out.symm, Ext.refl _⟩
end Go.Proofs.YtfpmfegmehbfbaaGreatDoor

/- The contracts of 'cyclic', the world behind told by 'Ext'. -/
namespace Go.Proofs.YtfpmfegmehbfbaaGreatDoor
open Go.RowKit Go.Shelf

/-! ### the contracts, the world behind told by 'Ext' alone -/
theorem MulE (a b : Nat) (ha : a < 18446744073709551616) (hb : b < 18446744073709551616) (w : World) :
    Calls Tryz.prog 118 #[.int .u64 a, .int .u64 b] w fun e w' => e = .returned (.int .u64 (mulM bQ a b : Nat)) ∧ Ext w w' :=
  (Mul_any a b ha hb w).mono fun _ _ ⟨he, n, hw⟩ => ⟨he, by rw [hw]; exact (Ext.refl w).drewN n⟩
theorem MulRE (a b : Nat) (ha : a < 18446744073709551616) (hb : b < 18446744073709551616) (w : World) :
    Calls Tryz.prog 109 #[.int .u64 a, .int .u64 b] w fun e w' => e = .returned (.int .u64 (mulM bR a b : Nat)) ∧ Ext w w' :=
  (MulR_any a b ha hb w).mono fun _ _ ⟨he, n, hw⟩ => ⟨he, by rw [hw]; exact (Ext.refl w).drewN n⟩
theorem AddRE (a b : Nat) (w : World) :
    Calls Tryz.prog 108 #[.int .u64 a, .int .u64 b] w fun e w' => e = .returned (.int .u64 (addM bR a b : Nat)) ∧ Ext w w' :=
  (AddR_any a b w).mono fun _ _ ⟨he, n, hw⟩ => ⟨he, by rw [hw]; exact (Ext.refl w).drewN n⟩
end Go.Proofs.YtfpmfegmehbfbaaGreatDoor
