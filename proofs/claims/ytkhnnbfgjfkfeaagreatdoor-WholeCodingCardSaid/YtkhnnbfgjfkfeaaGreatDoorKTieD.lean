/- What the listed variables tie to, part 4 of the program. Conditions: those that each theorem states. -/
import Derived.Test.YtkhnnbfgjfkfeaaGreatDoorKTieA
namespace Go.Proofs.YtkhnnbfgjfkfeaaGreatDoor.ownTie
open Go
theorem a9b (os : Os) (tape : Tape) : (DataW.laidRun Tryz.prog (varsWorld Tryz.prog 400 (varsId Tryz.prog) os tape).memory 8 ((tied.filter fun x => x.2.handleName?.isNone).map (·.1))).map (fun x => laidRowsB Tryz.prog (varsWorld Tryz.prog 400 (varsId Tryz.prog) os tape).memory x.2) = some true := by kernel_rfl
end Go.Proofs.YtkhnnbfgjfkfeaaGreatDoor.ownTie
