/- Closed facts of the card: the row is well formed, and the main package is the named one. Conditions: those that each theorem states. -/
import Derived.Test.YtkhnnbfgjfkfeaaGreatDoorRows
import Derived.Test.YtkhnnbfgjfkfeaaGreatDoorCards
import Derived.SevenTiedAt
namespace Go.Proofs.YtkhnnbfgjfkfeaaGreatDoor.wholeCodingCard
open Go
theorem wf : Rows.wholeCodingRow.wfByText (OpenSpec.ofChange Rows.wholeCodingSpec) = true := by kernel_rfl
theorem mainIs : Tryz.pinned.checked.prog.mainIs = some (true, "680b0256f5ee6069a1d5f6155e048c357f91424c5583d4a2159b706b15f9fdb9".toList) := by kernel_rfl
theorem w22 : Tryz.prog.wantsStandIn 22 = false := by kernel_rfl
theorem w24 : Tryz.prog.wantsStandIn 24 = false := by kernel_rfl
end Go.Proofs.YtkhnnbfgjfkfeaaGreatDoor.wholeCodingCard
