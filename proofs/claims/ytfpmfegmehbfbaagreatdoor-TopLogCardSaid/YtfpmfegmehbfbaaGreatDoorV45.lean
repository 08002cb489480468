/- Parts of the proofs, put together: TlJ, TlK. -/
import Derived.Test.YtfpmfegmehbfbaaGreatDoorCards
import Derived.ProofKit
import Derived.SizedLaws
import Derived.Test.YtfpmfegmehbfbaaGreatDoorV13
/- TopLog's row: what its cells say of the program, four of them. -/
namespace Go.Proofs.YtfpmfegmehbfbaaGreatDoor
theorem tl_fact1 : (Rows.topLogRow.inPlace == Tryz.prog.inPlace 4) = true := by kernel_rfl
theorem tl_fact2 : (Rows.topLogRow.unfollowed == Tryz.prog.unfollowed 4) = true := by kernel_rfl
theorem tl_fact3 : (Rows.topLogRow.recurses == Tryz.prog.recurses 4) = true := by kernel_rfl
theorem tl_fact4 : (Rows.topLogRow.named == Tryz.prog.varsNamed 4) = true := by kernel_rfl
theorem tl_looks : true = Tryz.prog.looks [] := by kernel_rfl
theorem tl_goes : false = Rows.topLogRow.goesBy Tryz.prog := by kernel_rfl
end Go.Proofs.YtfpmfegmehbfbaaGreatDoor

/- TopLog's row: what its cells say of the program, all. -/
namespace Go.Proofs.YtfpmfegmehbfbaaGreatDoor
theorem tl_closed : joinedFacts Tryz.prog 4 Tryz.f4 Rows.topLogSpec Rows.topLogRow = true := by
  unfold joinedFacts
  rw [tl_fact1, tl_fact2, tl_fact3, tl_fact4]
  kernel_rfl
end Go.Proofs.YtfpmfegmehbfbaaGreatDoor
