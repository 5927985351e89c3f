/- A closed fact of the card: the row starts no goroutine. Conditions: those that each theorem states. -/
import Derived.Test.YtkhnnbfgjfkfeaaGreatDoorRows
import Derived.Test.YtkhnnbfgjfkfeaaGreatDoorCards
import Derived.SevenTiedAt
namespace Go.Proofs.YtkhnnbfgjfkfeaaGreatDoor.wholeCodingCard
open Go
theorem goes : false = Rows.wholeCodingRow.goesBy Tryz.pinned.checked.prog := by kernel_rfl
end Go.Proofs.YtkhnnbfgjfkfeaaGreatDoor.wholeCodingCard
