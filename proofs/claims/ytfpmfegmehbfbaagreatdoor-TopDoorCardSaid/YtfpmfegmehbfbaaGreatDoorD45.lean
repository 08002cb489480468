/- Parts of the proofs, put together: TdJ, TdK. -/
import Derived.Test.YtfpmfegmehbfbaaGreatDoorCards
import Derived.ProofKit
import Derived.SizedLaws
import Derived.Test.YtfpmfegmehbfbaaGreatDoorD13
/- TopDoor's row: what its cells say of the program, four of them. -/
namespace Go.Proofs.YtfpmfegmehbfbaaGreatDoor
theorem td_fact1 : (Rows.topDoorRow.inPlace == Tryz.prog.inPlace 6) = true := by kernel_rfl
theorem td_fact2 : (Rows.topDoorRow.unfollowed == Tryz.prog.unfollowed 6) = true := by kernel_rfl
theorem td_fact3 : (Rows.topDoorRow.recurses == Tryz.prog.recurses 6) = true := by kernel_rfl
theorem td_fact4 : (Rows.topDoorRow.named == Tryz.prog.varsNamed 6) = true := by kernel_rfl
theorem td_looks : true = Tryz.prog.looks [] := by kernel_rfl
theorem td_goes : false = Rows.topDoorRow.goesBy Tryz.prog := by kernel_rfl
end Go.Proofs.YtfpmfegmehbfbaaGreatDoor

/- TopDoor's row: what its cells say of the program, all. -/
namespace Go.Proofs.YtfpmfegmehbfbaaGreatDoor
theorem td_closed : joinedFacts Tryz.prog 6 Tryz.f6 Rows.topDoorSpec Rows.topDoorRow = true := by
  unfold joinedFacts
  rw [td_fact1, td_fact2, td_fact3, td_fact4]
  kernel_rfl
end Go.Proofs.YtfpmfegmehbfbaaGreatDoor
