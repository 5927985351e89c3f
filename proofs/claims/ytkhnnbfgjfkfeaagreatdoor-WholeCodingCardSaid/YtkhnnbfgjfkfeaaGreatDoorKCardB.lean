/- A closed fact of the card: what the program looks at. Conditions: those that each theorem states. -/
import Derived.Test.YtkhnnbfgjfkfeaaGreatDoorRows
import Derived.Test.YtkhnnbfgjfkfeaaGreatDoorCards
import Derived.SevenTiedAt
namespace Go.Proofs.YtkhnnbfgjfkfeaaGreatDoor.wholeCodingCard
open Go
theorem looks : true = Tryz.pinned.checked.prog.looks [] := by kernel_rfl
end Go.Proofs.YtkhnnbfgjfkfeaaGreatDoor.wholeCodingCard
