/- The hash, walked: Mix. -/
import Derived.Test.YtbomfnlipbdigaaFd
import Derived.Test.YtbomfnlipbdigaaHaMath
import Derived.Outline
namespace Go.Proofs.Ytbomfnlipbdigaa
open Go.RowKit Go.Shelf

theorem seventeen_any (x : Nat) (hx : x < 18446744073709551616) (w : World) :
    Calls Try.prog 80 #[.int .u64 x] w fun e w' => e = .returned (.int .u64 (p17 x : Nat)) ∧ w = w' := by
  have cm := fun k w => fMul_any (sqs x k) (sqs x k) (sqs_lt hx k) (sqs_lt hx k) w
  have c4 := fun w => fMul_any x (sqs x 4) hx (sqs_lt hx 4) w
  rw [sqs_17] at c4
  clear hx
  go_enter Try.func80, Try.ntmps80
  go_wp2
  go_loopg [3, 5] 4 (fun g y i wr => wr = w ∧ ∃ k : Nat, k + g = 4 ∧ y = .int .u64 (sqs x k : Nat) ∧ i = .int .i64 k)
  case atStart => exact ⟨rfl, 0, rfl, rfl, rfl⟩
  case round =>
    obtain ⟨rfl, k, hk, rfl, rfl⟩ := hrel
    by_cases h : k < 4
    · have c := cm k
      rw [show mulM bP (sqs x k) (sqs x k) = sqs x (k + 1) from rfl] at c
      obtain ⟨y, hy⟩ : ∃ y, y = sqs x k := ⟨_, rfl⟩
      obtain ⟨z, hz⟩ : ∃ z, z = sqs x (k + 1) := ⟨_, rfl⟩
      rw [← hy, ← hz] at c
      rw [← hy]
      have HZ := Lib.hid hz
      clear cm c4 hy hz
      have HK := Lib.hid hk
      clear hk
      go_wp2_with (go_at_call 85; refine (c _).mono ?_; clear c; rintro e w' ⟨rfl, rfl⟩)
      have hk := HK.out
      go_roundg (gk - 1)
      case measure => omega
      case rel => exact ⟨rfl, k + 1, by omega, int_congr (by rw [HZ.out]), int_congr (by omega)⟩
    · obtain rfl : k = 4 := by omega
      clear cm
      generalize sqs x 4 = z at *
      go_wp2_with (go_at_call 85; refine (c4 _).mono ?_; clear c4; rintro e w' ⟨rfl, rfl⟩)
      go_ret
      exact ⟨rfl, rfl⟩

theorem elem_n (r i : Nat) (hr : r < 8) (hi : i < 3) : (3 * r + i + 1) * (3 * r + i + 1) * (3 * r + i + 1) + 7 < 4294967296 := by
  have h : 3 * r + i + 1 ≤ 24 := by omega
  have := Nat.mul_le_mul (Nat.mul_le_mul h h) h
  omega

/-- The first closure of Mix: an element's part of a round; what all are together is put up. -/
theorem mix1_any (r i a all g ga : Nat) (hr : r < 8) (hi : i < 3) (ha : a < 18446744073709551616) (hall : all < 18446744073709551616) (w : World)
    (hg : w.cell? ⟨g, 0, none⟩ = some (.int .i64 r)) (hga : w.cell? ⟨ga, 0, none⟩ = some (.int .u64 all)) (hf : w.frozen? ⟨ga, 0, none⟩ = false) :
    Calls Try.prog 79 #[.int .i64 i, .int .u64 a, .pointer (some ⟨g, 0, none⟩), .pointer (some ⟨ga, 0, none⟩)] w fun e w' => e = .returned (.int .u64 (elem r i a : Nat)) ∧ w.setCell ⟨ga, 0, none⟩ (.int .u64 (addM bP all (elem r i a) : Nat)) = w' := by
  obtain ⟨n, hn⟩ : ∃ n, n = 3 * r + i + 1 := ⟨_, rfl⟩
  have hn24 : n ≤ 24 := by omega
  have b1 : n * n ≤ 576 := Nat.mul_le_mul hn24 hn24
  have b2 : n * n * n ≤ 13824 := Nat.mul_le_mul b1 hn24
  obtain ⟨v, hv⟩ : ∃ v, v = n * n * n + 7 := ⟨_, rfl⟩
  obtain ⟨x, hx⟩ : ∃ x, x = addM bP a v := ⟨_, rfl⟩
  have hx1 : x < bP := by rw [hx]; exact addM_lt' (by decide) _ _
  obtain ⟨y, hy⟩ : ∃ y, y = p17 x := ⟨_, rfl⟩
  have hy1 : y < bP := by rw [hy]; exact powM_lt (by decide) _ _
  have he : elem r i a = y := by unfold elem; rw [hy, hx, hv, hn]
  rw [he]
  have c1 := fun w => fAdd_any a v ha (by omega) w
  rw [← hx] at c1
  have c2 := fun w => seventeen_any x (Nat.lt_trans hx1 (by decide)) w
  rw [← hy] at c2
  have c3 := fun w => fAdd_any all y hall (Nat.lt_trans hy1 (by decide)) w
  have k0 : 3 * (r : Int) + (i : Int) + 1 = (n : Int) := by omega
  have k1 : (n : Int) * (n : Int) * (n : Int) + 7 = (v : Int) := by rw [hv]; simp
  have z1 : (r : Int) < 8 := by omega
  have z2 : (i : Int) < 3 := by omega
  have z3 : (n : Int) ≤ 24 := by omega
  have e1 : (n : Int) * (n : Int) = ((n * n : Nat) : Int) := (Int.natCast_mul _ _).symm
  have e2 : (n : Int) * (n : Int) * (n : Int) = ((n * n * n : Nat) : Int) := by rw [e1, ← Int.natCast_mul]
  have z4 : (n : Int) * (n : Int) ≤ 576 := by rw [e1]; omega
  have z5 : (n : Int) * (n : Int) * (n : Int) ≤ 13824 := by rw [e2]; omega
  have z6 : 0 ≤ (n : Int) * (n : Int) := by rw [e1]; omega
  have z7 : 0 ≤ (n : Int) * (n : Int) * (n : Int) := by rw [e2]; omega
  clear e1 e2
  clear hn hn24 b1 b2 hv hx hy he hx1 hy1 hr hi ha hall
  go_enter Try.func79, Try.ntmps79
  go_wp2_with (first | (go_at_call 71; refine (c1 _).mono ?_; clear c1; rintro e w' ⟨rfl, rfl⟩) | (go_at_call 80; refine (c2 _).mono ?_; clear c2; rintro e w' ⟨rfl, rfl⟩) | (go_at_call 71; refine (c3 _).mono ?_; clear c3; rintro e w' ⟨rfl, rfl⟩))
  go_ret
  exact ⟨rfl, rfl⟩

/-- The second closure of Mix. -/
theorem mix2_any (i : Int) (a all ga : Nat) (ha : a < 18446744073709551616) (hall : all < 18446744073709551616) (w : World)
    (hga : w.cell? ⟨ga, 0, none⟩ = some (.int .u64 all)) :
    Calls Try.prog 81 #[.int .i64 i, .int .u64 a, .pointer (some ⟨ga, 0, none⟩)] w fun e w' => e = .returned (.int .u64 (addM bP a all : Nat)) ∧ w = w' := by
  have c1 := fun w => fAdd_any a all ha hall w
  clear ha hall
  go_enter Try.func81, Try.ntmps81
  go_wp2_with (go_at_call 71; refine (c1 _).mono ?_; clear c1; rintro e w' ⟨rfl, rfl⟩)
  go_ret
  exact ⟨rfl, rfl⟩
end Go.Proofs.Ytbomfnlipbdigaa
