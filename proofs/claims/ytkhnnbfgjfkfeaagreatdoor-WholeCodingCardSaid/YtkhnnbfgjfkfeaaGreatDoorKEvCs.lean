/- The given program meets every check of the plain model that is reckoned over its functions. Conditions: none. -/
import Derived.Test.YtkhnnbfgjfkfeaaGreatDoorKEvG
import Derived.KernelRfl
namespace Go.Ev
set_option maxHeartbeats 0 in
theorem answers_run : (callsK tab 10000000 (pathF 5 4) [] heap0 next0 fun v _ _ => aB v fun b => @Bool.rec (fun _ => Ans) none (some ⟨.b true, .leaf, []⟩) b) = some ⟨.b true, .leaf, []⟩ := by kernel_rfl
end Go.Ev
