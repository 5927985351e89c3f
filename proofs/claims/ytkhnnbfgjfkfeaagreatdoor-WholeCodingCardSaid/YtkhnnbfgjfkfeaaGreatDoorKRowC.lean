/- The closed facts of the row are reckoned. Conditions: those that each theorem states. -/
import Derived.Test.YtkhnnbfgjfkfeaaGreatDoorRows
import Derived.JoinedOf
namespace Go.Proofs.YtkhnnbfgjfkfeaaGreatDoor.wholeCoding
open Go
set_option maxHeartbeats 4000000 in
theorem joined : joinedFacts Tryz.prog 3 Tryz.f3 Rows.wholeCodingSpec Rows.wholeCodingRow = true := by
  unfold joinedFacts
  simp only [Bool.and_eq_true]
  repeat' apply And.intro
  all_goals (as_aux_lemma => kernel_rfl)
set_option maxHeartbeats 4000000 in
theorem named3 : Tryz.prog.funcNamed "amanuensis/amanuensistop.WholeCoding" = some 3 := by kernel_rfl
end Go.Proofs.YtkhnnbfgjfkfeaaGreatDoor.wholeCoding
