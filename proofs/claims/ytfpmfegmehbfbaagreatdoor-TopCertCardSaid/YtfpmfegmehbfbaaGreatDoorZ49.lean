/- Parts of the proofs, put together: TcJ, TcK. -/
import Derived.Test.YtfpmfegmehbfbaaGreatDoorCards
import Derived.ProofKit
import Derived.SizedLaws
import Derived.Test.YtfpmfegmehbfbaaGreatDoorZ13
/- TopCert's row: what its cells say of the program, four of them. -/
namespace Go.Proofs.YtfpmfegmehbfbaaGreatDoor
theorem tc_fact1 : (Rows.topCertRow.inPlace == Tryz.prog.inPlace 5) = true := by kernel_rfl
theorem tc_fact2 : (Rows.topCertRow.unfollowed == Tryz.prog.unfollowed 5) = true := by kernel_rfl
theorem tc_fact3 : (Rows.topCertRow.recurses == Tryz.prog.recurses 5) = true := by kernel_rfl
theorem tc_fact4 : (Rows.topCertRow.named == Tryz.prog.varsNamed 5) = true := by kernel_rfl
theorem tc_looks : true = Tryz.prog.looks [] := by kernel_rfl
theorem tc_goes : false = Rows.topCertRow.goesBy Tryz.prog := by kernel_rfl
end Go.Proofs.YtfpmfegmehbfbaaGreatDoor

/- TopCert's row: what its cells say of the program, all. -/
namespace Go.Proofs.YtfpmfegmehbfbaaGreatDoor
theorem tc_closed : joinedFacts Tryz.prog 5 Tryz.f5 Rows.topCertSpec Rows.topCertRow = true := by
  unfold joinedFacts
  rw [tc_fact1, tc_fact2, tc_fact3, tc_fact4]
  kernel_rfl
end Go.Proofs.YtfpmfegmehbfbaaGreatDoor
