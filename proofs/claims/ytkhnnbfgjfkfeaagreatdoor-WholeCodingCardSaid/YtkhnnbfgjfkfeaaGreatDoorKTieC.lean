/- What the listed variables tie to, part 3 of the program. Conditions: those that each theorem states. -/
import Derived.Test.YtkhnnbfgjfkfeaaGreatDoorKTieA
namespace Go.Proofs.YtkhnnbfgjfkfeaaGreatDoor.ownTie
open Go
theorem a9a (os : Os) (tape : Tape) : (DataW.laidRun Tryz.prog (varsWorld Tryz.prog 400 (varsId Tryz.prog) os tape).memory 8 ((tied.filter fun x => x.2.handleName?.isNone).map (·.1))).map (fun x => nodupB (x.2.map MemPlace.codeOf)) = some true := by kernel_rfl
end Go.Proofs.YtkhnnbfgjfkfeaaGreatDoor.ownTie
