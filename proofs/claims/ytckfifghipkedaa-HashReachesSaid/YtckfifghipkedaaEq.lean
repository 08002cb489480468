/- Equality of small arrays of numbers. -/
import Derived.Test.YtckfifghipkedaaBase
import Derived.ChangeKeysEq
namespace Go.Proofs.Ytckfifghipkedaa
set_option linter.unusedVariables false
open Go.RowKit

theorem Try.infoU64e : ∃ i, Try.prog.info? 22 = some i := by
  have h : (Try.prog.info? 22).isSome = true := by kernel_rfl
  exact Option.isSome_iff_exists.1 h
theorem eqItem (a b : Int) (w : World) (d : Nat) (xs ys : Array Value) (i c : Nat) (is : List Nat) (hx : (part 22 xs (i * c)).run Try.prog w = .ok (.int .u64 a) w) (hy : (part 22 ys (i * c)).run Try.prog w = .ok (.int .u64 b) w) :
    (Op.eqItems (d + 1) 22 c xs ys (i :: is)).run Try.prog w = if a = b then (Op.eqItems (d + 1) 22 c xs ys is).run Try.prog w else .ok false w := by
  simp only [Op.eqItems, Sem.run_bind, hx, hy, Result.andThen_ok, run_equalIn_int w d 22 .u64 .u64 a b Try.underlying22]
  by_cases h : a = b
  · simp [h]
  · simp [h]
theorem eq3 (a b c x y z : Int) (w : World) : (Op.equalIn 10000 23 (.agg #[.int .u64 a, .int .u64 b, .int .u64 c]) (.agg #[.int .u64 x, .int .u64 y, .int .u64 z])).run Try.prog w = .ok (decide (a = x ∧ b = y ∧ c = z)) w := by
  obtain ⟨i, hi⟩ := Try.infoU64e
  have hc : Try.prog.cellsOf 22 = 1 := by kernel_rfl
  rw [run_equalIn_array w 9999 _ _ Try.underlying23 hi, hc, show List.range 3 = [0, 1, 2] from rfl,
    eqItem a x w 9998 _ _ 0 1 _ (by kernel_rfl) (by kernel_rfl), eqItem b y w 9998 _ _ 1 1 _ (by kernel_rfl) (by kernel_rfl), eqItem c z w 9998 _ _ 2 1 _ (by kernel_rfl) (by kernel_rfl)]
  by_cases h1 : a = x <;> by_cases h2 : b = y <;> by_cases h3 : c = z <;> simp [h1, h2, h3, Op.eqItems]
theorem eq2 (a b x y : Int) (w : World) : (Op.equalIn 10000 29 (.agg #[.int .u64 a, .int .u64 b]) (.agg #[.int .u64 x, .int .u64 y])).run Try.prog w = .ok (decide (a = x ∧ b = y)) w := by
  obtain ⟨i, hi⟩ := Try.infoU64e
  have hc : Try.prog.cellsOf 22 = 1 := by kernel_rfl
  rw [run_equalIn_array w 9999 _ _ Try.underlying29 hi, hc, show List.range 2 = [0, 1] from rfl,
    eqItem a x w 9998 _ _ 0 1 _ (by kernel_rfl) (by kernel_rfl), eqItem b y w 9998 _ _ 1 1 _ (by kernel_rfl) (by kernel_rfl)]
  by_cases h1 : a = x <;> by_cases h2 : b = y <;> simp [h1, h2, Op.eqItems]
theorem eq2_same (a b : Int) (w : World) : (Op.equalIn 10000 29 (.agg #[.int .u64 a, .int .u64 b]) (.agg #[.int .u64 a, .int .u64 b])).run Try.prog w = .ok true w := by rw [eq2]; simp
theorem eq3_same (a b c : Int) (w : World) : (Op.equalIn 10000 23 (.agg #[.int .u64 a, .int .u64 b, .int .u64 c]) (.agg #[.int .u64 a, .int .u64 b, .int .u64 c])).run Try.prog w = .ok true w := by rw [eq3]; simp
theorem eq3_other (a b c x y z : Nat) (h : (a, b, c) ≠ (x, y, z)) (w : World) : (Op.equalIn 10000 23 (.agg #[.int .u64 a, .int .u64 b, .int .u64 c]) (.agg #[.int .u64 x, .int .u64 y, .int .u64 z])).run Try.prog w = .ok false w := by
  rw [eq3]
  congr 1
  simp only [decide_eq_false_iff_not]
  intro ⟨h1, h2, h3⟩
  exact h (by rw [Int.ofNat_inj.1 h1, Int.ofNat_inj.1 h2, Int.ofNat_inj.1 h3])
end Go.Proofs.Ytckfifghipkedaa
