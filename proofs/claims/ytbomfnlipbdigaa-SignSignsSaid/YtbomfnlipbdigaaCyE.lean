/- The contracts of 'cyclic', the world behind told by 'Ext'. -/
import Derived.Test.YtbomfnlipbdigaaCyIn
import Derived.Test.YtbomfnlipbdigaaCyRef
import Derived.Test.YtbomfnlipbdigaaCyLaw
namespace Go.Proofs.Ytbomfnlipbdigaa
open Go.RowKit Go.Shelf

theorem inB_eq (x : Nat) : inB x = (decide (0 < x) && decide (x < bQ) && pwm bQ 64 x bR == 1) := by
  unfold inB; rw [powM_eq _ _ _ (by decide)]
theorem invM_eq (m a : Nat) (hm : m < 18446744073709551616) : invM m a = if a % m = 0 then 0 else pwm m 64 a (m - 2) := by
  unfold invM; split
  · rfl
  · exact (pwm_eq m 64 a (m - 2) (by show m - 2 < 18446744073709551616; omega)).symm

/-! ### the contracts, the world behind told by 'Ext' alone -/
theorem MulE (a b : Nat) (ha : a < 18446744073709551616) (hb : b < 18446744073709551616) (w : World) :
    Calls Try.prog 28 #[.int .u64 a, .int .u64 b] w fun e w' => e = .returned (.int .u64 (mulM bQ a b : Nat)) ∧ Ext w w' :=
  (Mul_any a b ha hb w).mono fun _ _ ⟨he, n, hw⟩ => ⟨he, by rw [hw]; exact (Ext.refl w).drewN n⟩
theorem MulRE (a b : Nat) (ha : a < 18446744073709551616) (hb : b < 18446744073709551616) (w : World) :
    Calls Try.prog 27 #[.int .u64 a, .int .u64 b] w fun e w' => e = .returned (.int .u64 (mulM bR a b : Nat)) ∧ Ext w w' :=
  (MulR_any a b ha hb w).mono fun _ _ ⟨he, n, hw⟩ => ⟨he, by rw [hw]; exact (Ext.refl w).drewN n⟩
theorem AddRE (a b : Nat) (w : World) :
    Calls Try.prog 26 #[.int .u64 a, .int .u64 b] w fun e w' => e = .returned (.int .u64 (addM bR a b : Nat)) ∧ Ext w w' :=
  (AddR_any a b w).mono fun _ _ ⟨he, n, hw⟩ => ⟨he, by rw [hw]; exact (Ext.refl w).drewN n⟩
theorem SubRE (a b : Nat) (w : World) :
    Calls Try.prog 31 #[.int .u64 a, .int .u64 b] w fun e w' => e = .returned (.int .u64 (subM bR a b : Nat)) ∧ Ext w w' :=
  (SubR_any a b w).mono fun _ _ ⟨he, n, hw⟩ => ⟨he, by rw [hw]; exact (Ext.refl w).drewN n⟩
end Go.Proofs.Ytbomfnlipbdigaa
