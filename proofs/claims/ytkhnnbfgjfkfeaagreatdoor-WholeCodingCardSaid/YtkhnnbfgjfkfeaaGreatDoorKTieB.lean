/- What the listed variables tie to, part 2 of the program. Conditions: those that each theorem states. -/
import Derived.Test.YtkhnnbfgjfkfeaaGreatDoorKTieA
namespace Go.Proofs.YtkhnnbfgjfkfeaaGreatDoor.ownTie
open Go
theorem a8 (os : Os) (tape : Tape) : (DataW.laidRun Tryz.prog (varsWorld Tryz.prog 400 (varsId Tryz.prog) os tape).memory 8 ((tied.filter fun x => x.2.handleName?.isNone).map (·.1))).map (·.1) = some (tied.filter fun x => x.2.handleName?.isNone) := by kernel_rfl
end Go.Proofs.YtkhnnbfgjfkfeaaGreatDoor.ownTie
