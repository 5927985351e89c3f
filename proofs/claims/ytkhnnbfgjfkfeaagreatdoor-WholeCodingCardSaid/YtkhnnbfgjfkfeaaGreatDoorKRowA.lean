/- The condition of the row on its laid variables, and a world that meets it. Conditions: those that each theorem states. -/
import Derived.Test.YtkhnnbfgjfkfeaaGreatDoorRows
import Derived.Test.YtkhnnbfgjfkfeaaGreatDoorKEvH
import Derived.Test.YtkhnnbfgjfkfeaaGreatDoorKRok
import Derived.Lay
import Derived.LaidSub
import Derived.LaidHandle
namespace Go.Proofs.YtkhnnbfgjfkfeaaGreatDoor.wholeCoding
open Go.ChangeShapes Go.WideShapes Go.RowKit
set_option linter.unusedVariables false
def lays : List (String × DataW Unit) := Rows.wholeCodingRow.laid
theorem lays_plain : (lays.filter fun x => x.2.handleName?.isNone) = Go.Ev.nine := by kernel_rfl
theorem lays_handle : (lays.filter fun x => x.2.handleName?.isSome) = [("errors.errorType", Rows.laid_errors_errorType)] := by kernel_rfl
theorem et : Tryz.prog.globalNamed "errors.errorType" = some 0 := by kernel_rfl
theorem rt : (Tryz.prog.cutTypes.find? (·.1 == "internal/reflectlite.rtype")).map (·.2) = some 203 := by kernel_rfl
theorem oneRow : ((List.range 475).filter fun t => Tryz.prog.rowNamed t [101, 114, 114, 111, 114]) = [66] := by kernel_rfl
theorem tsize : Tryz.prog.types.size = 475 := by kernel_rfl
theorem plain_of {W : World} (h : laidMetH Tryz.prog lays W) : laidMet Tryz.prog Go.Ev.nine W := by
  have h1 := (laidMetH_iff.1 h).1
  rwa [lays_plain] at h1
theorem handle_of {W : World} (h : laidMetH Tryz.prog lays W) : ErrT W := by
  have h2 := (laidMetH_iff.1 h).2
  rw [lays_handle] at h2
  obtain ⟨name, u, ty, e1, e2, e3, e4, e5⟩ := h2 _ (List.mem_singleton.2 rfl)
  have en : name = [101, 114, 114, 111, 114] := (Option.some.inj e1).symm
  subst en
  obtain rfl := Option.some.inj (rt.symm.trans e2)
  have hm : ty ∈ (List.range 475).filter fun t => Tryz.prog.rowNamed t [101, 114, 114, 111, 114] := List.mem_filter.2 ⟨List.mem_range.2 (by rw [← tsize]; exact e3), e4⟩
  rw [oneRow] at hm
  obtain rfl := List.mem_singleton.1 hm
  have hh : typeHandle Tryz.prog 66 = .pointer (some ⟨12, 66, none⟩) := by kernel_rfl
  rw [hh] at e5
  show W.cell? ⟨0, 0, none⟩ = _
  simpa using World.var?_cell et e5 0
/-- the settled world, the handle's variable laid; the other nine laid by the kit's function -/
noncomputable def baseW (os : Os) : World :=
  let w0 := World.holding Tryz.prog os ⟨#[], #[], []⟩
  { w0 with heap := w0.heap.modify 0 fun
      | .cells _ t frozen => .cells #[.iface 203 (.agg #[.pointer (some ⟨12, 66, none⟩)])] t frozen
      | o => o }
noncomputable def laidW (os : Os) : World := (baseW os).layVars Tryz.prog Go.Ev.nine
theorem laidW_os (os : Os) : (laidW os).os = os := World.layVars_os _ _ _
theorem fits (os : Os) : (baseW os).layFits Tryz.prog Go.Ev.nine [] = true := by kernel_rfl
theorem ifaces (os : Os) : (baseW os).layIfaces Tryz.prog Go.Ev.nine (laidW os) = true := by kernel_rfl
theorem nine_met (os : Os) (args : Array Value) : laidMet Tryz.prog Go.Ev.nine ((laidW os).forCall (fun _ _ => 0) ⟨#[], args, []⟩).memory := by
  have e1 : (Go.Ev.nine.filter fun x => (Go.Ev.nine.map (·.1)).contains x.1) = Go.Ev.nine := List.filter_eq_self.2 fun x hx => List.contains_iff_mem.2 (List.mem_map.2 ⟨x, hx, rfl⟩)
  have e2 : (Go.Ev.nine.filter fun x => !(Go.Ev.nine.map (·.1)).contains x.1) = [] := List.filter_eq_nil_iff.2 fun x hx => by rw [List.contains_iff_mem.2 (List.mem_map.2 ⟨x, hx, rfl⟩)]; simp
  have h : laidMet Tryz.prog Go.Ev.nine (laidW os) := laidMet_layVars (w0 := baseW os) (Go.Ev.nine.map (·.1)) [] (by rw [e1]; rfl) (by rw [e1]; exact fits os) (by rw [e1]; exact ifaces os) (by rw [e2]; exact LaidIn.none)
  exact h.of_heap (by simp [World.memory, World.forCall, Input.heap])
theorem handle_at (os : Os) (args : Array Value) : (lays.filter fun x => x.2.handleName?.isSome).all (handleAtB Tryz.prog ((laidW os).forCall (fun _ _ => 0) ⟨#[], args, []⟩).memory) = true := by kernel_rfl
theorem laidW_met (os : Os) (args : Array Value) : laidMetH Tryz.prog lays ((laidW os).forCall (fun _ _ => 0) ⟨#[], args, []⟩).memory :=
  laidMetH_of_parts (by rw [lays_plain]; exact nine_met os args) (handle_at os args)
end Go.Proofs.YtkhnnbfgjfkfeaaGreatDoor.wholeCoding
