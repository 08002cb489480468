/- Parts of the proofs, put together: HaChunk, HaOf. -/
import Derived.RangeFuncNested
import Derived.RangeFuncBound
import Derived.RangeFuncCalls
import Derived.RangeFuncLeaves
import Derived.Shelf.Abstract
import Derived.Shelf.RegionOpen
import Derived.OwnWalkIn
import Derived.TacticsInMore
import Derived.LoopNIn
import Derived.LoopIn
import Derived.RangeFuncBox
import Derived.Test.YtfpmfegmehbfbaaGreatDoorZ5
/- slices.Chunk over bytes by sevens, walked, whatever the loop's body. -/
namespace Go.Proofs.YtfpmfegmehbfbaaGreatDoor
open Go.RowKit Go.Shelf
attribute [local go_sem] Oper.semAt_some

/-- The places of the pieces. -/
abbrev Ck (m : Nat) := { j : Nat // 7 * j < m }
def cnt (m : Nat) : Nat := (m + 6) / 7
def cLen (m j : Nat) : Nat := min 7 (m - 7 * j)
def cEnc (ad : Addr) (m : Nat) (x : Ck m) : Array Value := #[.slice (some (ad.add (7 * x.1))) (cLen m x.1) (cLen m x.1)]

theorem Chunk_any (A : Option Addr) (m c : Nat) (w : World) :
    Calls Tryz.prog 264 #[.slice A m c, .int .i64 7] w fun e w' => e = .returned (.func (.func 303) #[] #[.pointer (some ⟨w.heap.size, 0, none⟩), .pointer (some ⟨w.heap.size + 1, 0, none⟩)]) ∧ (w.alloc (.cells #[.slice A m c] 22)).alloc (.cells #[.int .i64 7] 3) = w' := by
  have hmf : ∀ (fn : Fn) (first cap : Array Value) (w : World), (Instr.makeFunc fn first cap).run Tryz.prog w = .ok (.func fn first cap) w := fun _ _ _ _ => rfl
  go_enter Tryz.func264, Tryz.ntmps264
  go_wp2
  go_ret
  exact ⟨rfl, rfl⟩

set_option maxRecDepth 100000 in
set_option maxHeartbeats 1000000 in
theorem chunk1_in (ad : Addr) (A : Option Addr) (m c : Nat) (hmc : m ≤ c) (hm : m ≤ 1099511627776) (hA : 0 < m → A = some ad) (f : Nat) (hf : 1 ≤ f) (l B1 B2 : Nat) (J Jx : List (Ck m) → World → Prop)
    (hY : ∀ pre b W, J pre W → pre.length < cnt m → YieldAt Fence.wide (f - 1) Tryz.prog l (cEnc ad m b) W fun e W' =>
      (e = .returned (.bool true) ∧ J (pre ++ [b]) W' ∧ (W'.cell? ⟨B1, 0, none⟩ = W.cell? ⟨B1, 0, none⟩ ∧ W'.cell? ⟨B2, 0, none⟩ = W.cell? ⟨B2, 0, none⟩)) ∨ (e = .returned (.bool false) ∧ Jx (pre ++ [b]) W'))
    (hJd : ∀ pre W, J pre W → J pre W.drew)
    (W : World) (hB1 : W.cell? ⟨B1, 0, none⟩ = some (.slice A m c)) (hB2 : W.cell? ⟨B2, 0, none⟩ = some (.int .i64 7)) (h0 : J [] W) :
    CallsIn Fence.wide f Tryz.prog 303 #[.func (.yield l) #[] #[], .pointer (some ⟨B1, 0, none⟩), .pointer (some ⟨B2, 0, none⟩)] W fun e W' => (∃ v, e = .returned v) ∧
      ((∃ ys : List (Ck m), ys.map (·.1) = List.range (cnt m) ∧ J ys W') ∨ (∃ pre : List (Ck m), True ∧ Jx pre W')) := by
  refine callsIn_of_wp Tryz.func303 rfl trivial ?_ rfl
  simp only [Tryz.ntmps303, List.size_toArray, List.length_cons, List.length_nil, Nat.reduceAdd, Nat.reduceSub, Array.replicate_succ, Array.replicate_zero, List.push_toArray, List.append_toArray, List.nil_append, List.cons_append]
  gi_wp2
  gi_loopw [4] (fun i wr => ∃ k : Nat, k ≤ cnt m ∧ i = .int .i64 ((7 * k : Nat) : Int) ∧ (∃ pre : List (Ck m), pre.map (·.1) = List.range k ∧ J pre wr) ∧ wr.cell? ⟨B1, 0, none⟩ = some (.slice A m c) ∧ wr.cell? ⟨B2, 0, none⟩ = some (.int .i64 7))
    (fun i _ => ((m : Int) + 7 - intOf i).toNat)
  case atStart => exact ⟨0, Nat.zero_le _, rfl, ⟨[], rfl, h0⟩, hB1, hB2⟩
  case round =>
    obtain ⟨k, hk, rfl, ⟨pre, hpre, hJ⟩, d1, d2⟩ := hrel
    have hpl : pre.length = k := by simpa using congrArg List.length hpre
    by_cases hlt : 7 * k < m
    · obtain rfl : A = some ad := hA (by omega)
      obtain ⟨x, hx⟩ : ∃ x : Ck m, x.1 = k := ⟨⟨k, hlt⟩, rfl⟩
      obtain ⟨fn, tmps, assign, body, hy, hR⟩ := hY _ x wr.drew (hJd _ _ hJ) (by rw [hpl]; unfold cnt; omega)
      obtain ⟨i, hi⟩ : ∃ i, i = 7 * k := ⟨_, rfl⟩
      obtain ⟨r, hr⟩ : ∃ r, m - i = r := ⟨_, rfl⟩
      have hpx : (pre ++ [x]).map (·.1) = List.range (k + 1) := by rw [List.map_append, hpre, List.range_succ]; simp [hx]
      obtain ⟨pre', hp'⟩ : ∃ pre', pre ++ [x] = pre' := ⟨_, rfl⟩
      rw [hp'] at hR hpx
      have hR' := hR.mono (R' := fun e W' => (e = .returned (.bool true) ∧ Hid (J pre' W' ∧ W'.cell? ⟨B1, 0, none⟩ = some (.slice (some ad) m c)) ∧ W'.cell? ⟨B2, 0, none⟩ = some (.int .i64 7)) ∨ (e = .returned (.bool false) ∧ Hid (Jx pre' W'))) (fun e W' h => by
        rcases h with ⟨he, hj, hc1, hc2⟩ | ⟨he, hj⟩
        · exact .inl ⟨he, ⟨hj, hc1.trans d1⟩, hc2.trans d2⟩
        · exact .inr ⟨he, hj⟩)
      have hmx : Tryz.prog.follows .mixedOrders = true := by kernel_rfl
      have hH : Hid (k + 1 ≤ cnt m ∧ i = 7 * k) := Lib.hid ⟨by unfold cnt; omega, hi⟩
      have HP := Lib.hid hpx
      by_cases h7 : 7 ≤ r
      · have hen : cEnc ad m x = #[.slice (some (ad.add i)) 7 7] := by unfold cEnc cLen; rw [hx, ← hi, hr, Nat.min_eq_left h7]
        rw [hen] at hy
        rw [← hi] at hlt ⊢
        have kn : ((i : Int) + 7).toNat - i = 7 := by omega
        clear hpre hY hen hi hR hpx hp' hJ hx hJd h0 hB1 hB2 hA
        gi_wp2
        gi_region_o
        gi_wp2_with (refine hR'.mono ?_; clear hR'; rintro e W' (⟨rfl, hE, e2⟩ | ⟨rfl, hE⟩))
        · obtain ⟨hk1, hi1⟩ := hH.out
          clear d1 d2
          go_roundw
          case rel => exact ⟨k + 1, hk1, int_congr (by omega), ⟨pre', HP.out, hE.out.1⟩, hE.out.2, e2⟩
          case measure => simp [intOf]; omega
        · refine bodyPost_ret (results_none rfl _ _ _) rfl ?_
          exact ⟨⟨_, rfl⟩, .inr ⟨_, trivial, hE.out⟩⟩
      · have hen : cEnc ad m x = #[.slice (some (ad.add i)) r r] := by unfold cEnc cLen; rw [hx, ← hi, hr, Nat.min_eq_right (by omega)]
        rw [hen] at hy
        rw [← hi] at hlt ⊢
        have h7' : r < 7 := by omega
        have kn : ((i : Int) + r).toNat - i = r := by omega
        have hr0 : 1 ≤ r := by omega
        clear hpre hY hen hi hR hpx hp' hJ hx hJd h0 hB1 hB2 hA h7
        gi_wp2
        gi_region_o
        gi_wp2_with (refine hR'.mono ?_; clear hR'; rintro e W' (⟨rfl, hE, e2⟩ | ⟨rfl, hE⟩))
        · obtain ⟨hk1, hi1⟩ := hH.out
          clear d1 d2
          go_roundw
          case rel => exact ⟨k + 1, hk1, int_congr (by omega), ⟨pre', HP.out, hE.out.1⟩, hE.out.2, e2⟩
          case measure => simp [intOf]; omega
        · refine bodyPost_ret (results_none rfl _ _ _) rfl ?_
          exact ⟨⟨_, rfl⟩, .inr ⟨_, trivial, hE.out⟩⟩
    · obtain rfl : k = cnt m := by unfold cnt at hk ⊢; omega
      have HP := Lib.hid hpre
      have HJ := Lib.hid hJ
      have hge : m ≤ 7 * cnt m := by omega
      obtain ⟨i, hi⟩ : ∃ i, i = 7 * cnt m := ⟨_, rfl⟩
      rw [← hi] at hge ⊢
      clear hpre hJ hlt hi hk
      gi_wp2
      go_end0
      exact ⟨⟨_, rfl⟩, .inl ⟨_, HP.out, HJ.out⟩⟩
end Go.Proofs.YtfpmfegmehbfbaaGreatDoor

/- The field's Of, walked: elements of bytes. -/
namespace Go.Proofs.YtfpmfegmehbfbaaGreatDoor
open Go.RowKit Go.Shelf
attribute [local go_sem] Oper.semAt_some

/-- Bytes as a number, the lowest first; the pieces of seven; the elements. -/
def le : List Nat → Nat
  | [] => 0
  | x :: l => x + 256 * le l
def ck (l : List Nat) (j : Nat) : List Nat := (l.drop (7 * j)).take 7
def fOf (l : List Nat) : List Nat := (List.range (cnt l.length)).map fun j => le (ck l j)
theorem le_append (l m : List Nat) : le (l ++ m) = le l + 256 ^ l.length * le m := by
  induction l with
  | nil => simp [le]
  | cons x l ih => simp only [List.cons_append, le, ih, List.length_cons, Nat.pow_succ]; grind
theorem le_snoc (l : List Nat) (x : Nat) : le (l ++ [x]) = le l + x * 256 ^ l.length := by rw [le_append]; simp [le]; grind
theorem le_lt (l : List Nat) (h : ∀ x ∈ l, x < 256) : le l < 256 ^ l.length := by
  induction l with
  | nil => simp [le]
  | cons x l ih =>
    have h1 := ih fun y hy => h y (List.mem_cons_of_mem _ hy)
    have h2 := h x (List.mem_cons_self ..)
    simp only [le, List.length_cons, Nat.pow_succ]
    omega
theorem ck_length (l : List Nat) (j : Nat) : (ck l j).length = cLen l.length j := by simp [ck, cLen]
theorem ck_get (l : List Nat) (j i : Nat) (h : i < cLen l.length j) : (ck l j)[i]? = l[7 * j + i]? := by
  unfold ck cLen at *
  rw [List.getElem?_take, List.getElem?_drop, if_pos (by omega)]
def fAt (l : List Nat) (x : Ck l.length) : Nat := le (ck l x.1)

theorem or_step (a b i : Nat) (hi : i < 7) (ha : a < 256 ^ i) (hb : b < 256) : bits .or .u64 (a : Int) (IntKind.u64.wrap ((b : Int) * 2 ^ (8 * i))) = ((a + b * 256 ^ i : Nat) : Int) := by
  obtain ⟨p, hp⟩ : ∃ p, p = 256 ^ i := ⟨_, rfl⟩
  have e2 : 2 ^ (8 * i) = p := by rw [hp, Nat.pow_mul]
  have hp1 : p ≤ 281474976710656 := by
    have : p ≤ 256 ^ 6 := by rw [hp]; exact Nat.pow_le_pow_right (by decide) (by omega)
    exact this
  have e1 : ((b : Int) * 2 ^ (8 * i)) = ((b * p : Nat) : Int) := by rw [← e2]; simp
  have hbp : b * p < 18446744073709551616 := Nat.lt_of_le_of_lt (Nat.mul_le_mul (by omega : b ≤ 255) hp1) (by decide)
  rw [← hp] at ha
  have e3 : IntKind.u64.wrap ((b * p : Nat) : Int) = ((b * p : Nat) : Int) := by rw [IntKind.wrap_u64]; omega
  rw [e1, e3, bits_or_u64_nat a (b * p) (by omega) hbp, ← hp]
  congr 1
  rw [Nat.or_comm, Nat.mul_comm, ← e2, ← Nat.two_pow_add_eq_or_of_lt (by rw [e2]; exact ha), Nat.add_comm, Nat.mul_comm]

theorem Tryz.infoU64 : (Tryz.prog.info? 25).map (fun i => (i.zero, i.size, i.bytes)) = some (some (.int .u64 0), 1, 8) := by kernel_rfl
theorem collected {W w1 : World} {n₀ B B1 B2 : Nat} {t t1 t2 e : TypeId} {size : Nat} {v v' u1 u2 : Value} {k m : Nat} {xs ys : List Value} {tmp : Obj}
    (hv : Boxed W B t v) (h1 : Boxed W B1 t1 u1) (h2 : Boxed W B2 t2 u2) (hte : t ≠ e) (hte1 : t1 ≠ e) (hte2 : t2 ≠ e) (hrow : W.ownsRow n₀ e size v k xs) (hn₀ : n₀ ≤ W.heap.size) (hB : n₀ ≤ B)
    (hown' : w1.ownsRow n₀ e size v' m ys) (hgrow : (W.alloc tmp).grownBy w1 v.ownBlock) (q1 : some B1 ≠ some B) (q2 : some B2 ≠ some B) :
    Boxed (w1.setCell ⟨B, 0, none⟩ v') B t v' ∧ (w1.setCell ⟨B, 0, none⟩ v').ownsRow n₀ e size v' m ys ∧ KeepsOthers W (w1.setCell ⟨B, 0, none⟩ v') ∧ Below n₀ W (w1.setCell ⟨B, 0, none⟩ v') ∧
    Boxed (w1.setCell ⟨B, 0, none⟩ v') B1 t1 u1 ∧ Boxed (w1.setCell ⟨B, 0, none⟩ v') B2 t2 u2 ∧ w1.cell? ⟨B, 0, none⟩ = some v ∧ w1.frozen? ⟨B, 0, none⟩ = false := by
  obtain ⟨hv1, hv2, hr2, hk2, hb2⟩ := hv.appended hte hrow hn₀ hB hown' hgrow
  exact ⟨hv2, hr2, hk2, hb2, ((h1.alloc tmp).kept hgrow (h1.not_row hte1 hrow)).kept (grownBy_setCell' w1 B v') q1, ((h2.alloc tmp).kept hgrow (h2.not_row hte2 hrow)).kept (grownBy_setCell' w1 B v') q2, hv1.cell, hv1.frozen⟩

set_option maxRecDepth 100000 in
set_option maxHeartbeats 2000000 in
theorem fOf_any (l : List Nat) (hl : ∀ x ∈ l, x < 256) (hm : l.length ≤ 1099511627776) (A : Option Addr) (c : Nat) (hmc : l.length ≤ c) (w : World) (hr : Reads w w.heap.size 1 A l.length (bv l)) :
    Calls Tryz.prog 220 #[.slice A l.length c] w fun e w' => ∃ v, e = .returned v ∧ w'.ownsRow w.heap.size 25 1 v (fOf l).length (uv (fOf l)) ∧ Below w.heap.size w w' := by
  refine (callsIn_wide (n := 5)).1 ?_
  obtain ⟨i0, hi, hz0, hz1, hz2⟩ := info_parts Tryz.infoU64
  have cp : ∀ k w, CallsIn Fence.wide k Tryz.prog 264 #[.slice A l.length c, .int .i64 7] w fun e w' => e = .returned (.func (.func 303) #[] #[.pointer (some ⟨w.heap.size, 0, none⟩), .pointer (some ⟨w.heap.size + 1, 0, none⟩)]) ∧ (w.alloc (.cells #[.slice A l.length c] 22)).alloc (.cells #[.int .i64 7] 3) = w' :=
    fun k w => callsIn_wide.2 (Chunk_any A l.length c w)
  obtain ⟨m, hml⟩ : ∃ m, m = l.length := ⟨_, rfl⟩
  refine callsIn_of_wp_marks Tryz.func220 rfl trivial ?_ rfl
  simp only [Tryz.ntmps220, List.size_toArray, List.length_cons, List.length_nil, Nat.reduceAdd, Nat.reduceSub, Array.replicate_succ, Array.replicate_zero, List.push_toArray, List.append_toArray, List.nil_append, List.cons_append]
  gi_wp2_with (refine ⟨trivial, ?_⟩; gi_at_call 264; refine (cp _ _).mono ?_; rintro e w' ⟨rfl, rfl⟩)
  have bO := ((Boxed.new w 265 (.slice none 0 0)).alloc (.cells #[.slice A l.length c] 22)).alloc (.cells #[.int .i64 7] 3)
  have b1 := (Boxed.new (w.alloc (.cells #[.slice none 0 0] 265)) 22 (.slice A l.length c)).alloc (.cells #[.int .i64 7] 3)
  have b2 := Boxed.new ((w.alloc (.cells #[.slice none 0 0] 265)).alloc (.cells #[.slice A l.length c] 22)) 3 (.int .i64 7)
  rw [World.size_alloc] at b1
  rw [World.size_alloc, World.size_alloc] at b2
  have hB0 : Below w.heap.size w (((w.alloc (.cells #[.slice none 0 0] 265)).alloc (.cells #[.slice A l.length c] 22)).alloc (.cells #[.int .i64 7] 3)) := (((Below.refl _ w).alloc (Nat.le_refl _) _).alloc (by simp) _).alloc (by simp; omega) _
  have hsz : (((w.alloc (.cells #[.slice none 0 0] 265)).alloc (.cells #[.slice A l.length c] 22)).alloc (.cells #[.int .i64 7] 3)).heap.size = w.heap.size + 3 := by simp
  obtain ⟨W0, hW0⟩ : ∃ W0, (((w.alloc (.cells #[.slice none 0 0] 265)).alloc (.cells #[.slice A l.length c] 22)).alloc (.cells #[.int .i64 7] 3)) = W0 := ⟨_, rfl⟩
  rw [hW0] at bO b1 b2 hB0 hsz ⊢
  clear hW0 cp
  obtain ⟨ad, had⟩ : ∃ ad, 0 < l.length → A = some ad := by
    rcases A with _ | ad
    · exact ⟨⟨0, 0, none⟩, fun h => by obtain ⟨_, h, _⟩ := hr.2 h; cases h⟩
    · exact ⟨ad, fun _ => rfl⟩
  refine wpIn_rangeFunc_ownF rfl (by omega) (gf := 303) (lb := #[.pointer (some ⟨w.heap.size + 1, 0, none⟩), .pointer (some ⟨w.heap.size + 1 + 1, 0, none⟩)]) rfl trivial (enters_of Tryz.func303 (by kernel_rfl) rfl)
    (encs := cEnc ad l.length) (Kp := fun X Y => Y.cell? ⟨w.heap.size + 1, 0, none⟩ = X.cell? ⟨w.heap.size + 1, 0, none⟩ ∧ Y.cell? ⟨w.heap.size + 1 + 1, 0, none⟩ = X.cell? ⟨w.heap.size + 1 + 1, 0, none⟩) (S := fun ys => ys.map (·.1) = List.range (cnt l.length)) (Sp := fun _ => True) (N := cnt l.length) (w0 := W0)
    (fun k J Jx W hW hJ _ hY h0 => chunk1_in ad A l.length c hmc hm had 4 (by omega) k (w.heap.size + 1) (w.heap.size + 1 + 1) J Jx hY (fun pre W hJ' => hJ pre W W.drew none hJ' ⟨rfl, rfl, rfl, Nat.le_refl _, fun _ _ _ => rfl⟩ (fun _ e => by cases e)) W
      ((Below.cell hW (p := ⟨w.heap.size + 1, 0, none⟩) (by rw [hsz]; simp)).trans b1.cell) ((Below.cell hW (p := ⟨w.heap.size + 1 + 1, 0, none⟩) (by rw [hsz]; simp)).trans b2.cell) h0)
    (fun h k => ⟨k.1.trans h.1, k.2.trans h.2⟩)
    (fun W k o o' hk _ _ _ => ⟨World.cell?_of_block (w := W) (World.putObj_heap_other (by rw [hsz] at hk; simp; omega)), World.cell?_of_block (w := W) (World.putObj_heap_other (by rw [hsz] at hk; simp; omega))⟩)
    (Below.refl _ _) (fun _ => rfl)
    (fun (pre : List (Ck l.length)) W => (((∃ v, Boxed W w.heap.size 265 v ∧ W.ownsRow w.heap.size 25 1 v pre.length (uv (pre.map (fAt l))) ∧ True) ∧ Boxed W (w.heap.size + 1) 22 (.slice A l.length c)) ∧ Boxed W (w.heap.size + 1 + 1) 3 (.int .i64 7)) ∧ Below w.heap.size w W)
    (fun _ _ _ => False)
    (OwnFrom.and (OwnFrom.and (OwnFrom.and (Own.from (holdsRow_own w.heap.size w.heap.size 265 25 1 (fun pre : List (Ck l.length) => pre.length) (fun pre : List (Ck l.length) => uv (pre.map (fAt l))) (fun _ _ => True)) _) (Own.from (boxed_own _ _ (fun _ => .slice A l.length c)) _)) (Own.from (boxed_own _ _ (fun _ => .int .i64 7)) _)) (ownFrom_below (Nat.le_refl _) (by rw [hsz]; omega)))
    (fun _ _ _ _ _ hs _ _ => hs)
    ⟨⟨⟨⟨_, bO, World.ownsRow_nil _ _ _ _, trivial⟩, b1⟩, b2⟩, hB0⟩
    (fun x => { tmps := #[.slice A l.length c, undef, .slice none 0 0, .pointer (some ⟨w.heap.size, 0, none⟩), .slice (some (ad.add (7 * x.1))) (cLen l.length x.1) (cLen l.length x.1), undef, undef, undef, .slice A l.length c, .func (.func 303) #[] #[.pointer (some ⟨w.heap.size + 1, 0, none⟩), .pointer (some ⟨w.heap.size + 1 + 1, 0, none⟩)], .slice (some (ad.add (7 * x.1))) (cLen l.length x.1) (cLen l.length x.1), undef, undef, undef, undef, undef, undef, undef, undef, undef, undef, undef, undef, undef, undef, undef, undef, undef, undef, undef, undef], defers := [] }) ?assign ?body ?done ?stop
  case assign =>
    intro k x W K hK
    simp only [cEnc]
    gi_wp2
    exact hK
  case body =>
    rintro k pre x W ⟨⟨⟨⟨v, hv, hrow, _⟩, h1⟩, h2⟩, hB⟩ hlt
    have hc := hv.cell
    have hR := (hr.below hB).2 (by have := x.2; omega)
    obtain ⟨ad', e, hab, hcell⟩ := hR
    obtain rfl : ad = ad' := by have := had (by have := x.2; omega); rw [this] at e; cases e; rfl
    obtain ⟨n, hn⟩ : ∃ n, n = cLen l.length x.1 := ⟨_, rfl⟩
    have hn7 : n ≤ 7 := by rw [hn]; unfold cLen; omega
    have hck : ∀ i, i < n → ∃ b : Nat, (ck l x.1).take (i + 1) = (ck l x.1).take i ++ [b] ∧ b < 256 ∧ W.cell? ((ad.add (7 * x.1)).add i) = some (.int .u8 (b : Int)) := by
      intro i hi'
      rw [hn] at hi'
      have e1 := ck_get l x.1 i hi'
      have hlen : 7 * x.1 + i < l.length := by unfold cLen at hi'; omega
      rw [List.getElem?_eq_getElem hlen] at e1
      refine ⟨l[7 * x.1 + i], ?_, hl _ (List.getElem_mem _), ?_⟩
      · rw [List.take_add_one, e1]; rfl
      · rw [add_of_add]; exact hcell _ _ (by simp [bv, hlen])
    have hlen : (ck l x.1).length = n := by rw [ck_length, hn]
    have hval : fAt l x = le ((ck l x.1).take n) := by rw [← hlen, List.take_length]; rfl
    have hbig : ∀ i, i ≤ n → le ((ck l x.1).take i) < 256 ^ i := by
      intro i hi'
      have := le_lt ((ck l x.1).take i) (fun y hy => hl y (List.mem_of_mem_drop (List.mem_of_mem_take (List.mem_of_mem_take hy))))
      rwa [List.length_take, hlen, Nat.min_eq_left hi'] at this
    obtain ⟨cl, hcl⟩ : ∃ cl, ck l x.1 = cl := ⟨_, rfl⟩
    rw [hcl] at hck hval hbig
    obtain ⟨aa, haa⟩ : ∃ aa, ad.add (7 * x.1) = aa := ⟨_, rfl⟩
    rw [haa] at hck
    rw [haa, ← hn]
    have HPL : Hid (pre.length + 1 ≤ 1099511627776) := Lib.hid (by unfold cnt at hlt; omega)
    have HV : Hid (uv ((pre ++ [x]).map (fAt l)) = uv (pre.map (fAt l)) ++ [.int .u64 ((le (cl.take n) : Nat) : Int)]) := by
      show _ = _
      rw [List.map_append, uv_append, List.map_cons, hval]; rfl
    have HL2 : Hid ((pre ++ [x]).length = pre.length + 1) := by
      show _ = _
      simp
    have hlen2 : ∀ i, i ≤ n → (cl.take i).length = i := by
      intro i hi'
      rw [List.length_take, ← hcl, hlen, Nat.min_eq_left hi']
    clear hn hcl haa hlen hval hcell e hlt
    gi_wp2
    gi_loopw [5, 13] (fun nv iv wr => ∃ i : Nat, i ≤ n ∧ nv = .int .u64 ((le (cl.take i) : Nat) : Int) ∧ iv = .int .i64 i ∧ wr = W) (fun _ iv _ => ((n : Int) - intOf iv).toNat)
    case atStart => exact ⟨0, Nat.zero_le _, rfl, rfl, rfl⟩
    case round =>
      obtain ⟨i, hin, rfl, rfl, rfl⟩ := hrel
      by_cases h : i < n
      · obtain ⟨b, e1, hb, hcb⟩ := hck i h
        gi_wp2
        have hk := or_step (le (cl.take i)) b i (by omega) (hbig i hin) hb
        have hl1 : (cl.take i).length = i := hlen2 i hin
        refine ⟨⟨i + 1, by omega, ?_, int_congr (by omega), trivial⟩, ?_⟩
        · rw [hk, e1, le_snoc, hl1]
        · simp [intOf]; omega
      · obtain rfl : i = n := by omega
        have hlb := hbig i hin
        clear hbig hck hlen2
        obtain ⟨val, hval⟩ : ∃ val, le (cl.take i) = val := ⟨_, rfl⟩
        rw [hval] at HV ⊢
        clear hval
        have q1 : ∀ u ∈ [Value.int .u64 (val : Int)], u.oneCell' = true := by simp [Value.oneCell']
        have q2 : pre.length + 1 ≤ maxLen := by have := HPL.out; unfold maxLen; omega
        have q3 : (pre.length + 1) * 8 ≤ 140737488355328 := by have := HPL.out; omega
        have q4 : w.heap.size ≤ (wr.alloc (.cells #[.int .u64 (val : Int)] 25)).heap.size := by have := hB.size; simp; omega
        have q5 : some (w.heap.size + 1) ≠ some w.heap.size := by simp
        have q6 : some (w.heap.size + 1 + 1) ≠ some w.heap.size := by simp; omega
        gi_wp2_with (gi_at_builtin; refine wpListIn_append_own _ rfl _ _ 265 rfl w.heap.size 25 i0 (.int .u64 0) 1 8 Tryz.underlying265 hi hz0 hz1 hz2 rfl (by decide) _ _ _ rfl (hrow.alloc _) ⟨wr.heap.size, 0, none⟩ 1 1 [.int .u64 (val : Int)] rfl rfl (cell_one_new _ _ _) q1 q2 q3 q4 ?_; intro v' w1 hown' hgrow _; obtain ⟨g', cap', rfl⟩ := ownsRow_succ hown'; obtain ⟨hv2, hr2, hk2, hb2, g1, g2, hc1, hf1⟩ := collected hv h1 h2 (by decide) (by decide) (by decide) hrow hB.size (Nat.le_refl _) hown' hgrow q5 q6)
        exact ⟨hk2, ⟨(g1.cell).trans h1.cell.symm, (g2.cell).trans h2.cell.symm⟩, ⟨⟨⟨_, hv2, by rw [HL2.out, HV.out]; exact hr2, trivial⟩, g1⟩, g2⟩, hB.trans hb2⟩
  case done =>
    rintro D ys W hD hys ⟨⟨⟨⟨v, hv, hrow, _⟩, _⟩, _⟩, hB⟩ hK
    have hc := hv.cell
    have e : ys.map (fAt l) = fOf l := by
      have : ys.map (fAt l) = (ys.map (·.1)).map fun j => le (ck l j) := by rw [List.map_map]; rfl
      rw [this, hys]; rfl
    have e2 : ys.length = (fOf l).length := by rw [← e, List.length_map]
    rw [e, e2] at hrow
    gi_wp2
    refine ⟨by simp, .inl ⟨_, _, rfl, run_takeDeferred hK, ?_⟩⟩
    exact ⟨_, results_tmp rfl _ _ _, v, rfl, ownsRow_putObj hrow _ hK rfl, hB.trans (belowK_b (w := w) (Nat.le_refl _) W D _ _ (by rw [hsz] at hD; omega) hK rfl rfl)⟩
  case stop =>
    rintro D c pre W _ _ h _
    exact h.elim
end Go.Proofs.YtfpmfegmehbfbaaGreatDoor
