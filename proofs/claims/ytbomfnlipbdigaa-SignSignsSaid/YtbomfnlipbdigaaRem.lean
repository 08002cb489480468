/- math/bits.Rem64, walked. -/
import Derived.Test.YtbomfnlipbdigaaBits
namespace Go.Proofs.Ytbomfnlipbdigaa
open Go.RowKit Go.Shelf

/-- math/bits.Rem64, EVERY y but 0. -/
theorem rem64 (hi lo y : Nat) (h0 : 0 < y) (hhi : hi < 18446744073709551616) (hlo : lo < 18446744073709551616) (hy : y < 18446744073709551616) (w : World) :
    Calls Try.prog 63 #[.int .u64 hi, .int .u64 lo, .int .u64 y] w fun e w' => e = .returned (.int .u64 (((hi * 18446744073709551616 + lo) % y : Nat) : Int)) ∧ ∃ n, w' = w.drewN n := by
  have hm : hi % y < y := Nat.mod_lt _ h0
  obtain ⟨r, hr⟩ : ∃ r, r = hi % y := ⟨_, rfl⟩
  have k1 : (hi : Int) % (y : Int) = (r : Int) := by rw [hr]; simp
  have he : (hi * 18446744073709551616 + lo) % y = (r * 18446744073709551616 + lo) % y := by rw [hr]; simp [Nat.add_mod, Nat.mul_mod]
  rw [← hr] at hm
  have HE := Lib.hid he
  clear hr he
  have y0 : ((y : Int) == 0) = false := by simp; omega
  have c := fun w => div64 r lo y hm hlo hy w
  go_enter Try.func63, Try.ntmps63
  go_wp2_with (go_at_call 58; refine (c _).mono ?_; rintro e w' ⟨rfl, n, rfl⟩)
  go_ret
  exact ⟨ret_one (by rw [HE.out]; simp), _, rfl⟩
end Go.Proofs.Ytbomfnlipbdigaa
