/- Parts of the proofs, put together: TgJ, TgK. -/
import Derived.Test.YtfpmfegmehbfbaaGreatDoorCards
import Derived.ProofKit
import Derived.SizedLaws
import Derived.Test.YtfpmfegmehbfbaaGreatDoorW13
/- TopGrow's row: what its cells say of the program, four of them. -/
namespace Go.Proofs.YtfpmfegmehbfbaaGreatDoor
theorem tg_fact1 : (Rows.topGrowRow.inPlace == Tryz.prog.inPlace 3) = true := by kernel_rfl
theorem tg_fact2 : (Rows.topGrowRow.unfollowed == Tryz.prog.unfollowed 3) = true := by kernel_rfl
theorem tg_fact3 : (Rows.topGrowRow.recurses == Tryz.prog.recurses 3) = true := by kernel_rfl
theorem tg_fact4 : (Rows.topGrowRow.named == Tryz.prog.varsNamed 3) = true := by kernel_rfl
theorem tg_looks : true = Tryz.prog.looks [] := by kernel_rfl
theorem tg_goes : false = Rows.topGrowRow.goesBy Tryz.prog := by kernel_rfl
end Go.Proofs.YtfpmfegmehbfbaaGreatDoor

/- TopGrow's row: what its cells say of the program, all. -/
namespace Go.Proofs.YtfpmfegmehbfbaaGreatDoor
theorem tg_closed : joinedFacts Tryz.prog 3 Tryz.f3 Rows.topGrowSpec Rows.topGrowRow = true := by
  unfold joinedFacts
  rw [tg_fact1, tg_fact2, tg_fact3, tg_fact4]
  kernel_rfl
end Go.Proofs.YtfpmfegmehbfbaaGreatDoor
