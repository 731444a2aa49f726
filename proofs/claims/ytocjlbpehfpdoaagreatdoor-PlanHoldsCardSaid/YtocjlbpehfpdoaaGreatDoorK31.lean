/- The statement PlanHoldsCardSaid: over the program as it was laid, with the listed variables as the program's text lays them, the function PlanHolds of package rubricatorlaw20 returns true at every input, and each argument reads behind the call as it did before. Conditions: those of the given row and card alone. -/
import Derived.Test.YtocjlbpehfpdoaaGreatDoorK29
import Derived.Test.YtocjlbpehfpdoaaGreatDoorK30
import Derived.Test.YtocjlbpehfpdoaaGreatDoorTie
import Derived.Test.YtocjlbpehfpdoaaGreatDoorCards
import Derived.SevenTiedAt
set_option linter.unusedVariables false
set_option linter.unusedSimpArgs false
namespace Go.Proofs.YtocjlbpehfpdoaaGreatDoor
open Go.ChangeShapes Go.WideShapes Go.ChangeAt Go.WideMaps Go.WideElems Go.RowKit Go.Lib

theorem planHolds_row : Rows.PlanHoldsSaid :=
  OpenClaim.holds_of_wide 3 Tryz.f3 rfl rfl rfl rfl rfl rfl rfl ⟨rfl, rfl, rfl, rfl, rfl⟩ rfl rfl rfl rfl rfl (by kernel_rfl) Tryz.func3 planHolds_facts
    (of_decide_eq_true (by kernel_rfl)) (by unfold Func.isWrapper; first | (rw [if_pos (by decide +kernel)]; kernel_rfl) | (rw [if_neg (by decide +kernel)]; exact ⟨rfl, rfl⟩))
    (fun os started H enc _ => planHolds_lifted os started H enc)
/-- THE TIED CARD. -/
theorem planHolds_card_holds : Rows.PlanHoldsCardSaid :=
  Claim7.holds_tied_plain_at .later [] [.data, .data, .pinned, .pinned] true (true, "5009a6103b1a878e95f77759bf6a476e63db9025f332706c0d0e71e2849af8b4") true
    planHolds_row (fun _ h => by cases h) (by kernel_rfl) (fun _ h => by cases h) planHolds_row_tie rfl ⟨rfl, rfl⟩ (by kernel_rfl) rfl
    (fun f fn hf hfn => by
      obtain rfl : f = 3 := Option.some.inj ((show Tryz.prog.funcNamed "rubricator/rubricatorlaw20.PlanHolds" = some 3 by kernel_rfl).symm.trans hf) |>.symm
      obtain rfl : fn = Tryz.f3 := (Option.some.inj (Tryz.func3.symm.trans hfn)).symm
      exact ⟨by kernel_rfl, fun j t ht => by
        rw [Tryz.params3] at ht
        have hm : t ∈ [3, 9, 9, 22] := by simpa using Array.mem_of_getElem? ht
        have hall : ([3, 9, 9, 22].all fun u => !Tryz.prog.wantsStandIn u) = true := by kernel_rfl
        exact (show Tryz.prog.wantsStandIn t = false by simpa using List.all_eq_true.1 hall t hm)⟩)
    (by kernel_rfl)
#print axioms planHolds_card_holds
end Go.Proofs.YtocjlbpehfpdoaaGreatDoor
