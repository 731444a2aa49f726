/- Closed facts of PlanHolds' row, by the kernel. -/
import Derived.Test.YtocjlbpehfpdoaaGreatDoorRows
import Derived.JoinedOf
set_option linter.unusedVariables false
namespace Go.Proofs.YtocjlbpehfpdoaaGreatDoor
theorem planHolds_f1 : (Rows.planHoldsRow.inPlace == Tryz.pinned.checked.prog.inPlace 3) = true := by kernel_rfl
theorem planHolds_f2 : (Rows.planHoldsRow.unfollowed == Tryz.pinned.checked.prog.unfollowed 3) = true := by kernel_rfl
theorem planHolds_f3 : (Rows.planHoldsRow.recurses == Tryz.pinned.checked.prog.recurses 3) = true := by kernel_rfl
theorem planHolds_f4 : (Rows.planHoldsRow.named == Tryz.pinned.checked.prog.varsNamed 3) = true := by kernel_rfl
theorem planHolds_facts : joinedFacts Tryz.pinned.checked.prog 3 Tryz.f3 Rows.planHoldsSpec Rows.planHoldsRow = true := by
  unfold joinedFacts
  rw [planHolds_f1, planHolds_f2, planHolds_f3, planHolds_f4]
  kernel_rfl
end Go.Proofs.YtocjlbpehfpdoaaGreatDoor
