/- The contract of answers() at every world of the row. Conditions: the row's laid variables. -/
import Derived.Test.YtkhnnbfgjfkfeaaGreatDoorKEvH
import Derived.Test.YtkhnnbfgjfkfeaaGreatDoorKEvCs
import Derived.LaidSub
import Derived.LaidHandle
namespace Go.Ev
open Go.RowKit Go.Proofs Go.Lib
theorem cell_on {w w' : World} (h : Below w.heap.size w w') {a : Addr} {v : Value} (hc : w.cell? a = some v) : w'.cell? a = some v := (h.cell (World.block_lt_of_cell? w a hc)).trans hc
theorem Tables.below {w w' : World} (T : Tables w) (h : Below w.heap.size w w') : Tables w' := by
  obtain ⟨a, b, R, oR, h1, h2, h3, h4, h5⟩ := T.white
  exact ⟨fun j hj => cell_on h (T.space j hj), ⟨fun c hc => cell_on h (T.utf8.1 c hc), fun c hc => ⟨cell_on h (T.utf8.2 c hc).1, cell_on h (T.utf8.2 c hc).2⟩⟩, a, b, R, oR, cell_on h h1, cell_on h h2, cell_on h h3, cell_on h h4, fun i hi => cell_on h (h5 i hi)⟩
def allF : Fence := { fn := fun _ => True, alive := false }
theorem allF_open : Open allF := ⟨fun _ => trivial, rfl, rfl⟩
theorem answers_all {w : World} (T : Tables w) (W : World) (hW : Below w.heap.size w W) : Calls Tryz.prog 4 #[] W fun e w' => e = .returned (.bool true) ∧ Below W.heap.size W w' :=
  CallsIn.calls (answers_in allF_open answers_run (T.below hW)) (fun k d hd => by cases hd)
end Go.Ev
