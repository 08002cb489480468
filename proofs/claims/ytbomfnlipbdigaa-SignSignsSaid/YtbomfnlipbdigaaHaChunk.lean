/- slices.Chunk over bytes by sevens, walked, whatever the loop's body. -/
import Derived.Test.YtbomfnlipbdigaaHaPut
import Derived.RangeFuncNested
import Derived.RangeFuncBound
import Derived.RangeFuncCalls
import Derived.RangeFuncLeaves
import Derived.Shelf.Abstract
import Derived.Shelf.RegionOpen
import Derived.OwnWalkIn
import Derived.TacticsInMore
import Derived.LoopNIn
import Derived.LoopIn
namespace Go.Proofs.Ytbomfnlipbdigaa
open Go.RowKit Go.Shelf
attribute [local go_sem] Oper.semAt_some

/-- The places of the pieces. -/
abbrev Ck (m : Nat) := { j : Nat // 7 * j < m }
def cnt (m : Nat) : Nat := (m + 6) / 7
def cLen (m j : Nat) : Nat := min 7 (m - 7 * j)
def cEnc (ad : Addr) (m : Nat) (x : Ck m) : Array Value := #[.slice (some (ad.add (7 * x.1))) (cLen m x.1) (cLen m x.1)]

theorem Chunk_any (A : Option Addr) (m c : Nat) (w : World) :
    Calls Try.prog 76 #[.slice A m c, .int .i64 7] w fun e w' => e = .returned (.func (.func 83) #[] #[.pointer (some ⟨w.heap.size, 0, none⟩), .pointer (some ⟨w.heap.size + 1, 0, none⟩)]) ∧ (w.alloc (.cells #[.slice A m c] 22)).alloc (.cells #[.int .i64 7] 3) = w' := by
  have hmf : ∀ (fn : Fn) (first cap : Array Value) (w : World), (Instr.makeFunc fn first cap).run Try.prog w = .ok (.func fn first cap) w := fun _ _ _ _ => rfl
  go_enter Try.func76, Try.ntmps76
  go_wp2
  go_ret
  exact ⟨rfl, rfl⟩

set_option maxRecDepth 100000 in
set_option maxHeartbeats 1000000 in
theorem chunk1_in (ad : Addr) (A : Option Addr) (m c : Nat) (hmc : m ≤ c) (hm : m ≤ 1099511627776) (hA : 0 < m → A = some ad) (f : Nat) (hf : 1 ≤ f) (l B1 B2 : Nat) (J Jx : List (Ck m) → World → Prop)
    (hY : ∀ pre b W, J pre W → pre.length < cnt m → YieldAt Fence.wide (f - 1) Try.prog l (cEnc ad m b) W fun e W' =>
      (e = .returned (.bool true) ∧ J (pre ++ [b]) W' ∧ (W'.cell? ⟨B1, 0, none⟩ = W.cell? ⟨B1, 0, none⟩ ∧ W'.cell? ⟨B2, 0, none⟩ = W.cell? ⟨B2, 0, none⟩)) ∨ (e = .returned (.bool false) ∧ Jx (pre ++ [b]) W'))
    (hJd : ∀ pre W, J pre W → J pre W.drew)
    (W : World) (hB1 : W.cell? ⟨B1, 0, none⟩ = some (.slice A m c)) (hB2 : W.cell? ⟨B2, 0, none⟩ = some (.int .i64 7)) (h0 : J [] W) :
    CallsIn Fence.wide f Try.prog 83 #[.func (.yield l) #[] #[], .pointer (some ⟨B1, 0, none⟩), .pointer (some ⟨B2, 0, none⟩)] W fun e W' => (∃ v, e = .returned v) ∧
      ((∃ ys : List (Ck m), ys.map (·.1) = List.range (cnt m) ∧ J ys W') ∨ (∃ pre : List (Ck m), True ∧ Jx pre W')) := by
  refine callsIn_of_wp Try.func83 rfl trivial ?_ rfl
  simp only [Try.ntmps83, List.size_toArray, List.length_cons, List.length_nil, Nat.reduceAdd, Nat.reduceSub, Array.replicate_succ, Array.replicate_zero, List.push_toArray, List.append_toArray, List.nil_append, List.cons_append]
  gi_wp2
  gi_loopw [4] (fun i wr => ∃ k : Nat, k ≤ cnt m ∧ i = .int .i64 ((7 * k : Nat) : Int) ∧ (∃ pre : List (Ck m), pre.map (·.1) = List.range k ∧ J pre wr) ∧ wr.cell? ⟨B1, 0, none⟩ = some (.slice A m c) ∧ wr.cell? ⟨B2, 0, none⟩ = some (.int .i64 7))
    (fun i _ => ((m : Int) + 7 - intOf i).toNat)
  case atStart => exact ⟨0, Nat.zero_le _, rfl, ⟨[], rfl, h0⟩, hB1, hB2⟩
  case round =>
    obtain ⟨k, hk, rfl, ⟨pre, hpre, hJ⟩, d1, d2⟩ := hrel
    have hpl : pre.length = k := by simpa using congrArg List.length hpre
    by_cases hlt : 7 * k < m
    · obtain rfl : A = some ad := hA (by omega)
      obtain ⟨x, hx⟩ : ∃ x : Ck m, x.1 = k := ⟨⟨k, hlt⟩, rfl⟩
      obtain ⟨fn, tmps, assign, body, hy, hR⟩ := hY _ x wr.drew (hJd _ _ hJ) (by rw [hpl]; unfold cnt; omega)
      obtain ⟨i, hi⟩ : ∃ i, i = 7 * k := ⟨_, rfl⟩
      obtain ⟨r, hr⟩ : ∃ r, m - i = r := ⟨_, rfl⟩
      have hpx : (pre ++ [x]).map (·.1) = List.range (k + 1) := by rw [List.map_append, hpre, List.range_succ]; simp [hx]
      obtain ⟨pre', hp'⟩ : ∃ pre', pre ++ [x] = pre' := ⟨_, rfl⟩
      rw [hp'] at hR hpx
      have hR' := hR.mono (R' := fun e W' => (e = .returned (.bool true) ∧ Hid (J pre' W' ∧ W'.cell? ⟨B1, 0, none⟩ = some (.slice (some ad) m c)) ∧ W'.cell? ⟨B2, 0, none⟩ = some (.int .i64 7)) ∨ (e = .returned (.bool false) ∧ Hid (Jx pre' W'))) (fun e W' h => by
        rcases h with ⟨he, hj, hc1, hc2⟩ | ⟨he, hj⟩
        · exact .inl ⟨he, ⟨hj, hc1.trans d1⟩, hc2.trans d2⟩
        · exact .inr ⟨he, hj⟩)
      have hmx : Try.prog.follows .mixedOrders = true := by kernel_rfl
      have hH : Hid (k + 1 ≤ cnt m ∧ i = 7 * k) := Lib.hid ⟨by unfold cnt; omega, hi⟩
      have HP := Lib.hid hpx
      by_cases h7 : 7 ≤ r
      · have hen : cEnc ad m x = #[.slice (some (ad.add i)) 7 7] := by unfold cEnc cLen; rw [hx, ← hi, hr, Nat.min_eq_left h7]
        rw [hen] at hy
        rw [← hi] at hlt ⊢
        have kn : ((i : Int) + 7).toNat - i = 7 := by omega
        clear hpre hY hen hi hR hpx hp' hJ hx hJd h0 hB1 hB2 hA
        gi_wp2
        gi_region_o
        gi_wp2_with (refine hR'.mono ?_; clear hR'; rintro e W' (⟨rfl, hE, e2⟩ | ⟨rfl, hE⟩))
        · obtain ⟨hk1, hi1⟩ := hH.out
          clear d1 d2
          go_roundw
          case rel => exact ⟨k + 1, hk1, int_congr (by omega), ⟨pre', HP.out, hE.out.1⟩, hE.out.2, e2⟩
          case measure => simp [intOf]; omega
        · refine bodyPost_ret (results_none rfl _ _ _) rfl ?_
          exact ⟨⟨_, rfl⟩, .inr ⟨_, trivial, hE.out⟩⟩
      · have hen : cEnc ad m x = #[.slice (some (ad.add i)) r r] := by unfold cEnc cLen; rw [hx, ← hi, hr, Nat.min_eq_right (by omega)]
        rw [hen] at hy
        rw [← hi] at hlt ⊢
        have h7' : r < 7 := by omega
        have kn : ((i : Int) + r).toNat - i = r := by omega
        have hr0 : 1 ≤ r := by omega
        clear hpre hY hen hi hR hpx hp' hJ hx hJd h0 hB1 hB2 hA h7
        gi_wp2
        gi_region_o
        gi_wp2_with (refine hR'.mono ?_; clear hR'; rintro e W' (⟨rfl, hE, e2⟩ | ⟨rfl, hE⟩))
        · obtain ⟨hk1, hi1⟩ := hH.out
          clear d1 d2
          go_roundw
          case rel => exact ⟨k + 1, hk1, int_congr (by omega), ⟨pre', HP.out, hE.out.1⟩, hE.out.2, e2⟩
          case measure => simp [intOf]; omega
        · refine bodyPost_ret (results_none rfl _ _ _) rfl ?_
          exact ⟨⟨_, rfl⟩, .inr ⟨_, trivial, hE.out⟩⟩
    · obtain rfl : k = cnt m := by unfold cnt at hk ⊢; omega
      have HP := Lib.hid hpre
      have HJ := Lib.hid hJ
      have hge : m ≤ 7 * cnt m := by omega
      obtain ⟨i, hi⟩ : ∃ i, i = 7 * cnt m := ⟨_, rfl⟩
      rw [← hi] at hge ⊢
      clear hpre hJ hlt hi hk
      gi_wp2
      go_end0
      exact ⟨⟨_, rfl⟩, .inl ⟨_, HP.out, HJ.out⟩⟩
end Go.Proofs.Ytbomfnlipbdigaa
