/- cyclic.In, walked. -/
import Derived.Test.YtbomfnlipbdigaaCyPow
namespace Go.Proofs.Ytbomfnlipbdigaa
open Go.RowKit Go.Shelf

theorem In_any (x : Nat) (hx : x < 18446744073709551616) (w : World) :
    Calls Try.prog 24 #[.int .u64 x] w fun e w' => e = .returned (.bool (inB x)) ∧ Ext w w' := by
  have c := fun w => Pow_any x bR hx (by decide) w
  have hin : Hid (inB x = (decide (0 < x) && decide (x < bQ) && powM bQ x bR == 1)) := rfl
  by_cases h0 : 0 < x
  · have d0 : decide (0 < x) = true := by simpa using h0
    have d0' : decide (0 < (x : Int)) = true := by simp; omega
    by_cases h1 : x < bQ
    · have d1 : decide (x < 2305843009213691579) = true := by simpa [bQ] using h1
      have d1' : decide ((x : Int) < 2305843009213691579) = true := by unfold bQ at h1; simp; omega
      obtain ⟨p, hp⟩ : ∃ p, p = powM bQ x bR := ⟨_, rfl⟩
      rw [← hp] at c
      have hv : inB x = ((p : Int) == 1) := by
        have e2 : decide (x < bQ) = true := by simpa using h1
        rw [hin.out, d0, e2, ← hp, Bool.eq_iff_iff]
        simp
        omega
      have HV := Lib.hid hv
      clear hp h0 h1 hx hv
      go_enter Try.func24, Try.ntmps24
      go_wp2_with (go_at_call 29; refine (c _).mono ?_; rintro e w' ⟨rfl, hw⟩)
      go_ret
      exact ⟨ret_bool HV.out.symm, hw⟩
    · have d1 : decide (x < 2305843009213691579) = false := by simpa [bQ] using h1
      have d1' : decide ((x : Int) < 2305843009213691579) = false := by unfold bQ at h1; simp; omega
      have hv : inB x = false := by
        have e2 : decide (x < bQ) = false := by simpa using h1
        rw [hin.out, d0, e2]; rfl
      have HV := Lib.hid hv
      clear h0 h1 hx hv
      go_enter Try.func24, Try.ntmps24
      go_wp2
      go_ret
      exact ⟨ret_bool HV.out.symm, Ext.refl _⟩
  · obtain rfl : x = 0 := by omega
    have hv : inB 0 = false := by rw [hin.out]; rfl
    have HV := Lib.hid hv
    clear h0 hx hv
    go_enter Try.func24, Try.ntmps24
    go_wp2
    go_ret
    exact ⟨ret_bool HV.out.symm, Ext.refl _⟩
end Go.Proofs.Ytbomfnlipbdigaa
