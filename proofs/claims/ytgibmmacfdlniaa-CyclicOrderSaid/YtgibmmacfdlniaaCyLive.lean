/- The examples of the chapter 'cyclic' hold: greatseallaw03.live. -/
import Derived.Test.YtgibmmacfdlniaaCyE
namespace Go.Proofs.Ytgibmmacfdlniaa
open Go.RowKit Go.Shelf

set_option maxRecDepth 100000 in
theorem live03 (w : World) : Calls Try.prog 12 #[] w fun e w' => e = .returned (.bool true) ∧ Ext w w' := by
  have i4 : ∀ w, Calls Try.prog 19 #[.int .u64 4] w fun e w' => e = .returned (.tuple #[.int .u64 576460752303422895, .int .i64 0]) ∧ Ext w w' := fun w => by
    have e1 : invM bQ 4 = 576460752303422895 := by rw [invM_eq _ _ (by decide)]; decide +kernel
    have e2 : invE bQ 4 = 0 := by decide +kernel
    exact (Inv_any 4 w).mono fun e w' ⟨he, hw⟩ => ⟨by rw [he, e1, e2]; rfl, by rw [hw]; exact Ext.refl _⟩
  have j2 : ∀ w, Calls Try.prog 23 #[.int .u64 2] w fun e w' => e = .returned (.tuple #[.int .u64 576460752303422895, .int .i64 0]) ∧ Ext w w' := fun w => by
    have e1 : invM bR 2 = 576460752303422895 := by rw [invM_eq _ _ (by decide)]; decide +kernel
    have e2 : invE bR 2 = 0 := by decide +kernel
    exact (InvR_any 2 w).mono fun e w' ⟨he, hw⟩ => ⟨by rw [he, e1, e2]; rfl, by rw [hw]; exact Ext.refl _⟩
  have i0 : ∀ w, Calls Try.prog 19 #[.int .u64 0] w fun e w' => e = .returned (.tuple #[.int .u64 0, .int .i64 10]) ∧ Ext w w' := fun w => by
    have e1 : invM bQ 0 = 0 := by rw [invM_eq _ _ (by decide)]; decide +kernel
    have e2 : invE bQ 0 = 10 := by decide +kernel
    exact (Inv_any 0 w).mono fun e w' ⟨he, hw⟩ => ⟨by rw [he, e1, e2]; rfl, by rw [hw]; exact Ext.refl _⟩
  have jR : ∀ w, Calls Try.prog 23 #[.int .u64 1152921504606845789] w fun e w' => e = .returned (.tuple #[.int .u64 0, .int .i64 10]) ∧ Ext w w' := fun w => by
    have e1 : invM bR 1152921504606845789 = 0 := by rw [invM_eq _ _ (by decide)]; decide +kernel
    have e2 : invE bR 1152921504606845789 = 10 := by decide +kernel
    exact (InvR_any 1152921504606845789 w).mono fun e w' ⟨he, hw⟩ => ⟨by rw [he, e1, e2]; rfl, by rw [hw]; exact Ext.refl _⟩
  have n4 : ∀ w, Calls Try.prog 13 #[.int .u64 4] w fun e w' => e = .returned (.bool true) ∧ Ext w w' := fun w => by
    have e1 : inB 4 = true := by rw [inB_eq]; decide +kernel
    exact (In_any 4 (by decide) w).mono fun e w' ⟨he, hw⟩ => ⟨by rw [he, e1], hw⟩
  have n0 : ∀ w, Calls Try.prog 13 #[.int .u64 0] w fun e w' => e = .returned (.bool false) ∧ Ext w w' := fun w => by
    have e1 : inB 0 = false := by rw [inB_eq]; decide +kernel
    exact (In_any 0 (by decide) w).mono fun e w' ⟨he, hw⟩ => ⟨by rw [he, e1], hw⟩
  have nQ : ∀ w, Calls Try.prog 13 #[.int .u64 2305843009213691579] w fun e w' => e = .returned (.bool false) ∧ Ext w w' := fun w => by
    have e1 : inB 2305843009213691579 = false := by rw [inB_eq]; decide +kernel
    exact (In_any 2305843009213691579 (by decide) w).mono fun e w' ⟨he, hw⟩ => ⟨by rw [he, e1], hw⟩
  have nQ1 : ∀ w, Calls Try.prog 13 #[.int .u64 2305843009213691578] w fun e w' => e = .returned (.bool false) ∧ Ext w w' := fun w => by
    have e1 : inB 2305843009213691578 = false := by rw [inB_eq]; decide +kernel
    exact (In_any 2305843009213691578 (by decide) w).mono fun e w' ⟨he, hw⟩ => ⟨by rw [he, e1], hw⟩
  have m1 : ∀ w, Calls Try.prog 15 #[.int .u64 2305843009213691578, .int .u64 2305843009213691578] w fun e w' => e = .returned (.int .u64 1) ∧ Ext w w' := fun w => by
    have e1 : mulM bQ 2305843009213691578 2305843009213691578 = 1 := by decide +kernel
    exact (MulE 2305843009213691578 2305843009213691578 (by decide) (by decide) w).mono fun e w' ⟨he, hw⟩ => ⟨by rw [he, e1]; rfl, hw⟩
  have p1 : ∀ w, Calls Try.prog 17 #[.int .u64 2, .int .u64 10] w fun e w' => e = .returned (.int .u64 1024) ∧ Ext w w' := fun w => by
    have e1 : powM bQ 2 10 = 1024 := by rw [powM_eq _ _ _ (by decide)]; decide +kernel
    exact (Pow_any 2 10 (by decide) (by decide) w).mono fun e w' ⟨he, hw⟩ => ⟨by rw [he, e1]; rfl, hw⟩
  have p2 : ∀ w, Calls Try.prog 17 #[.int .u64 0, .int .u64 0] w fun e w' => e = .returned (.int .u64 1) ∧ Ext w w' := fun w => by
    have e1 : powM bQ 0 0 = 1 := by rw [powM_eq _ _ _ (by decide)]; decide +kernel
    exact (Pow_any 0 0 (by decide) (by decide) w).mono fun e w' ⟨he, hw⟩ => ⟨by rw [he, e1]; rfl, hw⟩
  have m2 : ∀ w, Calls Try.prog 15 #[.int .u64 576460752303422895, .int .u64 4] w fun e w' => e = .returned (.int .u64 1) ∧ Ext w w' := fun w => by
    have e1 : mulM bQ 576460752303422895 4 = 1 := by decide +kernel
    exact (MulE 576460752303422895 4 (by decide) (by decide) w).mono fun e w' ⟨he, hw⟩ => ⟨by rw [he, e1]; rfl, hw⟩
  have b3 : ∀ w, Calls Try.prog 21 #[.int .u64 3] w fun e w' => e = .returned (.int .u64 64) ∧ Ext w w' := fun w => by
    have e1 : powM bQ 4 3 = 64 := by rw [powM_eq _ _ _ (by decide)]; decide +kernel
    exact (Base_any 3 (by decide) w).mono fun e w' ⟨he, hw⟩ => ⟨by rw [he, e1]; rfl, hw⟩
  have bbR : ∀ w, Calls Try.prog 21 #[.int .u64 1152921504606845789] w fun e w' => e = .returned (.int .u64 1) ∧ Ext w w' := fun w => by
    have e1 : powM bQ 4 1152921504606845789 = 1 := by rw [powM_eq _ _ _ (by decide)]; decide +kernel
    exact (Base_any 1152921504606845789 (by decide) w).mono fun e w' ⟨he, hw⟩ => ⟨by rw [he, e1]; rfl, hw⟩
  have a1 : ∀ w, Calls Try.prog 25 #[.int .u64 1152921504606845788, .int .u64 2] w fun e w' => e = .returned (.int .u64 1) ∧ Ext w w' := fun w => by
    have e1 : addM bR 1152921504606845788 2 = 1 := by decide +kernel
    exact (AddRE 1152921504606845788 2  w).mono fun e w' ⟨he, hw⟩ => ⟨by rw [he, e1]; rfl, hw⟩
  have s1 : ∀ w, Calls Try.prog 27 #[.int .u64 1, .int .u64 2] w fun e w' => e = .returned (.int .u64 1152921504606845788) ∧ Ext w w' := fun w => by
    have e1 : subM bR 1 2 = 1152921504606845788 := by decide +kernel
    exact (SubRE 1 2  w).mono fun e w' ⟨he, hw⟩ => ⟨by rw [he, e1]; rfl, hw⟩
  have r1 : ∀ w, Calls Try.prog 29 #[.int .u64 1152921504606845788, .int .u64 2] w fun e w' => e = .returned (.int .u64 1152921504606845787) ∧ Ext w w' := fun w => by
    have e1 : mulM bR 1152921504606845788 2 = 1152921504606845787 := by decide +kernel
    exact (MulRE 1152921504606845788 2 (by decide) (by decide) w).mono fun e w' ⟨he, hw⟩ => ⟨by rw [he, e1]; rfl, hw⟩
  go_enter Try.func12, Try.ntmps12
  go_wp2_with (first | (go_at_call 19; refine (i4 _).mono ?_; clear i4; rintro e w' ⟨rfl, hw⟩) | (go_at_call 23; refine (j2 _).mono ?_; clear j2; rintro e w' ⟨rfl, hw⟩) | (go_at_call 19; refine (i0 _).mono ?_; clear i0; rintro e w' ⟨rfl, hw⟩) | (go_at_call 23; refine (jR _).mono ?_; clear jR; rintro e w' ⟨rfl, hw⟩) | (go_at_call 13; refine (n4 _).mono ?_; clear n4; rintro e w' ⟨rfl, hw⟩) | (go_at_call 13; refine (n0 _).mono ?_; clear n0; rintro e w' ⟨rfl, hw⟩) | (go_at_call 13; refine (nQ _).mono ?_; clear nQ; rintro e w' ⟨rfl, hw⟩) | (go_at_call 13; refine (nQ1 _).mono ?_; clear nQ1; rintro e w' ⟨rfl, hw⟩) | (go_at_call 15; refine (m1 _).mono ?_; clear m1; rintro e w' ⟨rfl, hw⟩) | (go_at_call 17; refine (p1 _).mono ?_; clear p1; rintro e w' ⟨rfl, hw⟩) | (go_at_call 17; refine (p2 _).mono ?_; clear p2; rintro e w' ⟨rfl, hw⟩) | (go_at_call 15; refine (m2 _).mono ?_; clear m2; rintro e w' ⟨rfl, hw⟩) | (go_at_call 21; refine (b3 _).mono ?_; clear b3; rintro e w' ⟨rfl, hw⟩) | (go_at_call 21; refine (bbR _).mono ?_; clear bbR; rintro e w' ⟨rfl, hw⟩) | (go_at_call 25; refine (a1 _).mono ?_; clear a1; rintro e w' ⟨rfl, hw⟩) | (go_at_call 27; refine (s1 _).mono ?_; clear s1; rintro e w' ⟨rfl, hw⟩) | (go_at_call 29; refine (r1 _).mono ?_; clear r1; rintro e w' ⟨rfl, hw⟩))
  go_ret
  refine ⟨rfl, ?_⟩
  repeat (first | exact Ext.refl _ | assumption | (apply Ext.trans; rotate_left; assumption))
end Go.Proofs.Ytgibmmacfdlniaa
