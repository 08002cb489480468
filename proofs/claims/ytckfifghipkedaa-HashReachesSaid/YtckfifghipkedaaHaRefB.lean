/- The document's hash, walked: Eight, Bytes, number. -/
import Derived.Test.YtckfifghipkedaaHaPair
import Derived.Deep.RegionHeld3
namespace Go.Proofs.Ytckfifghipkedaa
set_option linter.unusedVariables false
open Go.RowKit Go.Shelf

set_option maxRecDepth 100000 in
set_option maxHeartbeats 1000000 in
theorem Eight_any (n : Nat) (w : World) :
    Calls Try.prog 43 #[.int .u64 n] w fun e w' => ∃ v, e = .returned v ∧ w'.ownsRow w.heap.size 5 1 v 8 (bv (be n 8)) ∧ Ext w w' := by
  obtain ⟨i0, hi, hz0, hz1, hz2⟩ := info_parts Try.infoU8
  go_enter Try.func43, Try.ntmps43
  go_wp2
  go_loopg [3, 4] 8 (fun m s3 s4 wr => ∃ j : Nat, j + m = 8 ∧ s4 = .int .i64 ((7 : Int) - j) ∧ wr.ownsRow w.heap.size 5 1 s3 (beN n 8 j).length (bv (beN n 8 j)) ∧ Below w.heap.size w wr)
  case atStart => exact ⟨0, rfl, int_congr (by omega), World.ownsRow_nil _ _ _ _, Below.refl _ _⟩
  case round =>
    obtain ⟨j, hj, rfl, ho, hB⟩ := hrel
    by_cases h : j < 8
    · obtain ⟨i, hij⟩ : ∃ i : Nat, (7 : Int) - j = i := ⟨7 - j, by omega⟩
      rw [hij]
      have hi7 : (i : Int) ≤ 7 := by omega
      obtain ⟨q, hq⟩ : ∃ q, q = n / 2 ^ (8 * i) := ⟨_, rfl⟩
      have k1 : (n : Int) / 2 ^ (8 * i) = (q : Int) := by rw [hq]; simp
      obtain ⟨r, hr⟩ : ∃ r, r = q % 256 := ⟨_, rfl⟩
      have k2 : IntKind.u8.wrap (q : Int) = (r : Int) := by rw [IntKind.wrap_u8, hr]; omega
      have hrb : r = n / 2 ^ (8 * (8 - 1 - j)) % 256 := by rw [hr, hq]; congr 4; omega
      have HR := Lib.hid hrb
      have HJ := Lib.hid hj
      have HI := Lib.hid hij
      have hlen : (beN n 8 j).length ≤ 8 := by rw [beN_length]; omega
      have HLN := Lib.hid hlen
      have HB := Lib.hid hB
      clear hq hr hrb hj hij hlen hB
      go_wp2_with (at_builtin; refine wpList_append_own _ rfl (.tmp 9) (.tmp 16) 27 rfl w.heap.size 5 i0 (.int .u8 0) 1 1 Try.underlying27 hi hz0 hz1 hz2 rfl (by decide) _ _ _ rfl (ho.alloc _) ⟨wr.heap.size, 0, none⟩ 1 1 [.int .u8 (r : Int)] rfl rfl (cell_one_new _ _ _) (by simp [Value.oneCell']) (by have := HLN.out; simp only [maxLen]; omega) (by have := HLN.out; omega) (by have := HB.out.size; simp; omega) ?_; intro v' w1 hown1 hg1 _)
      have B1 : Hid (Below w.heap.size w w1) := Lib.hid ((HB.out.alloc HB.out.size _).grown hg1 (by have := HB.out.size; simp; omega) (own_ge ho))
      have O1 : Hid (w1.ownsRow w.heap.size 5 1 v' (beN n 8 (j + 1)).length (bv (beN n 8 (j + 1)))) := by
        show World.ownsRow _ _ _ _ _ _ _
        rw [beN_succ, List.length_append, bv_append, ← HR.out]
        exact hown1
      clear hown1 hg1 ho
      have hij := HI.out
      have hj := HJ.out
      go_wp2
      go_roundg (gk - 1)
      case measure => omega
      case rel => exact ⟨j + 1, by omega, int_congr (by omega), O1.out, B1.out⟩
    · obtain rfl : j = 8 := by omega
      have O := Lib.hid ho
      have HB := Lib.hid hB
      clear ho hB hj hi hz0 hz1 hz2
      go_wp2
      go_ret
      exact ⟨_, rfl, O.out, HB.out⟩

/-- The number of eight bytes. -/
def num8 (l : List Nat) : Nat := l.foldl (fun n b => n * 256 + b) 0
theorem num8_snoc (l : List Nat) (b : Nat) : num8 (l ++ [b]) = num8 l * 256 + b := by simp [num8]
theorem num8_aux (l : List Nat) : ∀ n, (∀ x ∈ l, x < 256) → l.foldl (fun n b => n * 256 + b) n < (n + 1) * 256 ^ l.length := by
  induction l with
  | nil => intro n _; simp
  | cons b l ih =>
    intro n h
    have h1 := ih (n * 256 + b) fun x hx => h x (List.mem_cons_of_mem _ hx)
    have h2 := h b (List.mem_cons_self ..)
    rw [List.foldl_cons, List.length_cons, Nat.pow_succ]
    refine Nat.lt_of_lt_of_le h1 ?_
    rw [Nat.mul_comm (256 ^ l.length) 256, ← Nat.mul_assoc]
    exact Nat.mul_le_mul_right _ (by omega)
theorem num8_lt (l : List Nat) (h : ∀ x ∈ l, x < 256) : num8 l < 256 ^ l.length := by
  have := num8_aux l 0 h
  rwa [Nat.zero_add, Nat.one_mul] at this

theorem own_ext {w w' : World} {base : Nat} {e : TypeId} {size n : Nat} {v : Value} {xs : List Value} (h : w.ownsRow base e size v n xs) (x : Ext w w') : w'.ownsRow base e size v n xs := by
  refine ⟨h.1, ?_⟩
  rcases h.2 with h0 | ⟨g, cap, cur, e1, hb, hg, hc⟩
  · exact .inl h0
  · exact .inr ⟨g, cap, cur, e1, hb, (x.out.block g (Array.getElem?_eq_some_iff.1 hg).1).trans hg, hc⟩
theorem own_base {w : World} {base base' : Nat} {e : TypeId} {size n : Nat} {v : Value} {xs : List Value} (h : w.ownsRow base e size v n xs) (hb : base' ≤ base) : w.ownsRow base' e size v n xs := by
  refine ⟨h.1, ?_⟩
  rcases h.2 with h0 | ⟨g, cap, cur, e1, hb', hg⟩
  · exact .inl h0
  · exact .inr ⟨g, cap, cur, e1, Nat.le_trans hb hb', hg⟩

set_option maxRecDepth 100000 in
set_option maxHeartbeats 1000000 in
theorem rBytes_any (a b : Nat) (w : World) :
    Calls Try.prog 26 #[.agg #[.int .u64 a, .int .u64 b]] w fun e w' => ∃ v, e = .returned v ∧ w'.ownsRow w.heap.size 5 1 v 16 (bv (bytes2 a b)) ∧ Ext w w' := by
  obtain ⟨i0, hi, hz0, hz1, hz2⟩ := info_parts Try.infoU8
  have cA := fun W => Eight_any a W
  have cB := fun W => Eight_any b W
  go_enter Try.func26, Try.ntmps26
  go_wp2
  obtain ⟨W0, e0, h1, x0⟩ : ∃ W, w.alloc (.cells #[.int .u64 (a : Int), .int .u64 (b : Int)] 29) = W ∧ Blk W w.heap.size 29 #[.int .u64 (a : Int), .int .u64 (b : Int)] ∧ Ext w W := ⟨_, rfl, Blk.new w _ _, (Ext.refl w).alloc _⟩
  rw [e0]
  clear e0
  obtain ⟨q1, q2, q3, q4⟩ := arr2 h1
  have H1 := Lib.hid h1
  have hlt := h1.lt
  clear h1
  go_region_held3 (fun w' => w'.cell? ⟨w.heap.size, 0, none⟩ = some (.int .u64 (a : Int)) ∧ w'.cell? ⟨w.heap.size, 1, none⟩ = some (.int .u64 (b : Int))) (go_keep) (first
    | (go_at_call 43; refine (cA _).mono ?_; clear cA; rintro e wA ⟨vA, rfl, oA, xA⟩;
        have zA1 := Lib.hid (ext_blk xA (by first | exact H1.out | exact H1.out.drewN _ | exact zB1.out)); obtain ⟨q1A, q2A, q3A, q4A⟩ := arr2 zA1.out)
    | (go_at_call 43; refine (cB _).mono ?_; clear cB; rintro e wB ⟨vB, rfl, oB, xB⟩; obtain ⟨AB, kB, rfl, hkB, rB⟩ := own_slice oB;
        have zB1 := Lib.hid (ext_blk xB (by first | exact H1.out | exact H1.out.drewN _ | exact zA1.out)); obtain ⟨q1B, q2B, q3B, q4B⟩ := arr2 zB1.out)
    | (refine step_append_any _ rfl (.tmp 5) (.tmp 8) 27 rfl w.heap.size 5 i0 (.int .u8 0) 1 1 Try.underlying27 hi hz0 hz1 hz2 rfl (by decide) vA 8 (bv (be a 8)) rfl (by first | exact own_ext (own_base oA x0.size) xB | exact own_base oA (Nat.le_trans x0.size xB.size)) wB.heap.size AB 8 kB (bv (be b 8)) rfl (by first | exact rB | exact rB.below xA) (bv_one _) (by simp [maxLen]) (by omega) (by first | exact Nat.le_trans x0.size (Nat.le_trans xA.size xB.size) | exact Nat.le_trans x0.size (Nat.le_trans xB.size xA.size)) ?_; intro v3 w3 hown3 hg3 _;
        have z3 : Hid (Blk w3 w.heap.size 29 #[.int .u64 (a : Int), .int .u64 (b : Int)]) := Lib.hid (Blk.grown (by first | exact zB1.out | exact zA1.out) hg3 (by intro h; have k1 := own_ge oA _ h.symm; have k2 := xA.size; have k3 := xB.size; simp at k1 k2 k3; omega)); obtain ⟨q1C, q2C, q3C, q4C⟩ := arr2 z3.out))
  all_goals go_wp2
  all_goals (
    go_ret
    refine ⟨v3, rfl, by rw [bytes2, bv_append]; exact hown3, ?_⟩
    have x3 : Ext w wB := by first | exact (x0.drew.trans xA).trans xB | exact ((x0.drew.trans xB).trans xA)
    exact Ext.of (x3.out.grown hg3 x3.size (fun k hk => by have k1 := own_ge oA k hk; have k2 := xA.size; have k3 := xB.size; simp at k1 k2 k3; omega)))
end Go.Proofs.Ytckfifghipkedaa
