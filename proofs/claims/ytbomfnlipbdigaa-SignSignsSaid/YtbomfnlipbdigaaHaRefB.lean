/- The document's hash, walked: Eight, Bytes, number. -/
import Derived.Test.YtbomfnlipbdigaaHaPair
import Derived.Deep.RegionHeld3
namespace Go.Proofs.Ytbomfnlipbdigaa
set_option linter.unusedVariables false
open Go.RowKit Go.Shelf

set_option maxRecDepth 100000 in
set_option maxHeartbeats 1000000 in
theorem Eight_any (n : Nat) (w : World) :
    Calls Try.prog 68 #[.int .u64 n] w fun e w' => ∃ v, e = .returned v ∧ w'.ownsRow w.heap.size 5 1 v 8 (bv (be n 8)) ∧ Ext w w' := by
  obtain ⟨i0, hi, hz0, hz1, hz2⟩ := info_parts Try.infoU8
  go_enter Try.func68, Try.ntmps68
  go_wp2
  go_loopg [3, 4] 8 (fun m s3 s4 wr => ∃ j : Nat, j + m = 8 ∧ s4 = .int .i64 ((7 : Int) - j) ∧ wr.ownsRow w.heap.size 5 1 s3 (beN n 8 j).length (bv (beN n 8 j)) ∧ Below w.heap.size w wr)
  case atStart => exact ⟨0, rfl, int_congr (by omega), World.ownsRow_nil _ _ _ _, Below.refl _ _⟩
  case round =>
    obtain ⟨j, hj, rfl, ho, hB⟩ := hrel
    by_cases h : j < 8
    · obtain ⟨i, hij⟩ : ∃ i : Nat, (7 : Int) - j = i := ⟨7 - j, by omega⟩
      rw [hij]
      have hi7 : (i : Int) ≤ 7 := by omega
      obtain ⟨q, hq⟩ : ∃ q, q = n / 2 ^ (8 * i) := ⟨_, rfl⟩
      have k1 : (n : Int) / 2 ^ (8 * i) = (q : Int) := by rw [hq]; simp
      obtain ⟨r, hr⟩ : ∃ r, r = q % 256 := ⟨_, rfl⟩
      have k2 : IntKind.u8.wrap (q : Int) = (r : Int) := by rw [IntKind.wrap_u8, hr]; omega
      have hrb : r = n / 2 ^ (8 * (8 - 1 - j)) % 256 := by rw [hr, hq]; congr 4; omega
      have HR := Lib.hid hrb
      have HJ := Lib.hid hj
      have HI := Lib.hid hij
      have hlen : (beN n 8 j).length ≤ 8 := by rw [beN_length]; omega
      have HLN := Lib.hid hlen
      have HB := Lib.hid hB
      clear hq hr hrb hj hij hlen hB
      go_wp2_with (at_builtin; refine wpList_append_own _ rfl (.tmp 9) (.tmp 16) 22 rfl w.heap.size 5 i0 (.int .u8 0) 1 1 Try.underlying22 hi hz0 hz1 hz2 rfl (by decide) _ _ _ rfl (ho.alloc _) ⟨wr.heap.size, 0, none⟩ 1 1 [.int .u8 (r : Int)] rfl rfl (cell_one_new _ _ _) (by simp [Value.oneCell']) (by have := HLN.out; simp only [maxLen]; omega) (by have := HLN.out; omega) (by have := HB.out.size; simp; omega) ?_; intro v' w1 hown1 hg1 _)
      have B1 : Hid (Below w.heap.size w w1) := Lib.hid ((HB.out.alloc HB.out.size _).grown hg1 (by have := HB.out.size; simp; omega) (own_ge ho))
      have O1 : Hid (w1.ownsRow w.heap.size 5 1 v' (beN n 8 (j + 1)).length (bv (beN n 8 (j + 1)))) := by
        show World.ownsRow _ _ _ _ _ _ _
        rw [beN_succ, List.length_append, bv_append, ← HR.out]
        exact hown1
      clear hown1 hg1 ho
      have hij := HI.out
      have hj := HJ.out
      go_wp2
      go_roundg (gk - 1)
      case measure => omega
      case rel => exact ⟨j + 1, by omega, int_congr (by omega), O1.out, B1.out⟩
    · obtain rfl : j = 8 := by omega
      have O := Lib.hid ho
      have HB := Lib.hid hB
      clear ho hB hj hi hz0 hz1 hz2
      go_wp2
      go_ret
      exact ⟨_, rfl, O.out, HB.out⟩

/-- The number of eight bytes. -/
def num8 (l : List Nat) : Nat := l.foldl (fun n b => n * 256 + b) 0
theorem num8_snoc (l : List Nat) (b : Nat) : num8 (l ++ [b]) = num8 l * 256 + b := by simp [num8]
theorem num8_aux (l : List Nat) : ∀ n, (∀ x ∈ l, x < 256) → l.foldl (fun n b => n * 256 + b) n < (n + 1) * 256 ^ l.length := by
  induction l with
  | nil => intro n _; simp
  | cons b l ih =>
    intro n h
    have h1 := ih (n * 256 + b) fun x hx => h x (List.mem_cons_of_mem _ hx)
    have h2 := h b (List.mem_cons_self ..)
    rw [List.foldl_cons, List.length_cons, Nat.pow_succ]
    refine Nat.lt_of_lt_of_le h1 ?_
    rw [Nat.mul_comm (256 ^ l.length) 256, ← Nat.mul_assoc]
    exact Nat.mul_le_mul_right _ (by omega)
theorem num8_lt (l : List Nat) (h : ∀ x ∈ l, x < 256) : num8 l < 256 ^ l.length := by
  have := num8_aux l 0 h
  rwa [Nat.zero_add, Nat.one_mul] at this

theorem own_ext {w w' : World} {base : Nat} {e : TypeId} {size n : Nat} {v : Value} {xs : List Value} (h : w.ownsRow base e size v n xs) (x : Ext w w') : w'.ownsRow base e size v n xs := by
  refine ⟨h.1, ?_⟩
  rcases h.2 with h0 | ⟨g, cap, cur, e1, hb, hg, hc⟩
  · exact .inl h0
  · exact .inr ⟨g, cap, cur, e1, hb, (x.out.block g (Array.getElem?_eq_some_iff.1 hg).1).trans hg, hc⟩
theorem own_base {w : World} {base base' : Nat} {e : TypeId} {size n : Nat} {v : Value} {xs : List Value} (h : w.ownsRow base e size v n xs) (hb : base' ≤ base) : w.ownsRow base' e size v n xs := by
  refine ⟨h.1, ?_⟩
  rcases h.2 with h0 | ⟨g, cap, cur, e1, hb', hg⟩
  · exact .inl h0
  · exact .inr ⟨g, cap, cur, e1, Nat.le_trans hb hb', hg⟩

end Go.Proofs.Ytbomfnlipbdigaa
