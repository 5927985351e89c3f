/- Converts and the ways are walked. Conditions: those that each theorem states. -/
import Derived.Test.YtkhnnbfgjfkfeaaGreatDoorKRoj
namespace Go.Proofs.YtkhnnbfgjfkfeaaGreatDoor
open Go.RowKit Go.Proofs.YtkhnnbfgjfkfeaaGreatDoorW.PrintWords Go.Proofs.YtkhnnbfgjfkfeaaGreatDoorW.PrintLast Go.Proofs.YtkhnnbfgjfkfeaaGreatDoorW.PrintMore Go.Proofs.YtkhnnbfgjfkfeaaGreatDoor.PCod
set_option linter.unusedVariables false
set_option linter.unusedSimpArgs false
/-- the package's variable, as the row lists it -/
def ErrT (w : World) : Prop := w.cell? ⟨0, 0, none⟩ = some (.iface 203 (.agg #[.pointer (some ⟨12, 66, none⟩)]))
theorem ErrT.below {w w' : World} (h : ErrT w) (hb : Below w.heap.size w w') : ErrT w' := pw_cell_below hb h
def CodV (e : Ending) : Prop := e = .returned (.tuple #[.slice none 0 0, .agg #[.int .i64 15, .int .i64 9]])
theorem cells4 {W : World} {g t : Nat} {a0 a1 a2 a3 : Value} (h : W.heap[g]? = some (.cells #[a0, a1, a2, a3] t (0, 0))) : W.cell? ⟨g, 0, none⟩ = some a0 ∧ W.cell? ⟨g, 1, none⟩ = some a1 ∧ W.cell? ⟨g, 2, none⟩ = some a2 ∧ W.cell? ⟨g, 3, none⟩ = some a3 ∧ ∀ i, W.frozen? ⟨g, i, none⟩ = false :=
  ⟨by rw [blk_cell h]; rfl, by rw [blk_cell h]; rfl, by rw [blk_cell h]; rfl, by rw [blk_cell h]; rfl, fun i => blk_frozen h i⟩
set_option maxHeartbeats 4000000 in
set_option maxRecDepth 100000 in
theorem toutf_calls (w : World) (hE : ErrT w) (A : Option Addr) (c : Nat) (xs : List Int) (h : (Kd.int .u8).C w A xs.length xs) (hc : xs.length ≤ c) (base : Int) (l : List S46) (nx : Int) (hr : RecOk xs base l nx) (tgs : ByteArray) (htgs : strOfNums (xs.take 24) = tgs) (hcd : leader_Coding.f 40 tgs = some 2) (o p : Int) (ex me : Bool) :
    Calls Tryz.prog 22 #[.slice A xs.length c, .agg #[.int .i64 o, .int .i64 p, .bool ex, .bool me]] w fun e w' => CodV e ∧ Below w.heap.size w w' := by
  have HW : Aside0 (Below w.heap.size w ((w.alloc (.cells #[.int .i64 o, .int .i64 p, .bool ex, .bool me] 24)).alloc (.cells #[.int .i64 0, .int .i64 0] 31))) := ⟨below_alloc (below_alloc (Below.refl _ _) _) _⟩
  have HEW := Aside0.mk (hE.below HW.out)
  have H5 := Aside0.mk (new1 w (.cells #[.int .i64 o, .int .i64 p, .bool ex, .bool me] 24) (.cells #[.int .i64 0, .int .i64 0] 31))
  have HT := Aside0.mk (fun (W : World) (hW : Below w.heap.size w W) (vf : Value) => turn_calls W A c xs (Kd.C_below h hW) hc base l nx hr tgs htgs 2 hcd 1 2 (by decide) me vf)
  clear h hc hr htgs hcd hE
  go_enter Tryz.func22, Tryz.ntmps22
  go_wp2_with fail
  refine (HT.out _ HW.out _).mono ?_
  rintro e w1 ⟨⟨g, rfl, hg⟩, hb⟩
  have HE1 := Aside0.mk (HEW.out.below hb)
  have K5 := Aside0.mk (blk_below H5.out hb)
  have KW := Aside0.mk (below_then HW.out HW.out.size hb)
  have HG := Aside0.mk hg
  clear hg hb HT HW H5 HEW
  go_wp2_with fail
  refine (told_calls g 15 9 _ HE1.out HG.out).mono ?_
  rintro e w2 ⟨rfl, hb⟩
  have L5 := Aside0.mk (blk_below K5.out hb)
  have LW := Aside0.mk (below_then KW.out KW.out.size hb)
  clear hb K5 KW HG
  obtain ⟨c50, c51, f5⟩ := cells2 L5.out
  go_wp2
  refine bodyPost_ret (results_list (rs := [.tmp 4, .cell 5 31]) rfl (by simp) (.tmp (.cell _ 31 _ (0, 0) _ rfl (set2 L5.out _ _) Tryz.underlying31 rfl (by kernel_rfl) .nil))) rfl ?_
  exact ⟨rfl, set2B LW.out (Nat.le_succ _) _ _⟩
set_option maxHeartbeats 4000000 in
set_option maxRecDepth 100000 in
theorem tomarc_calls (w : World) (hE : ErrT w) (A : Option Addr) (c : Nat) (xs : List Int) (h : (Kd.int .u8).C w A xs.length xs) (hc : xs.length ≤ c) (base : Int) (l : List S46) (nx : Int) (hr : RecOk xs base l nx) (tgs : ByteArray) (htgs : strOfNums (xs.take 24) = tgs) (hcd : leader_Coding.f 40 tgs = some 1) (o p : Int) (hp : tomarc_policy.f p = some true) (ex me : Bool) :
    Calls Tryz.prog 23 #[.slice A xs.length c, .agg #[.int .i64 o, .int .i64 p, .bool ex, .bool me]] w fun e w' => CodV e ∧ Below w.heap.size w w' := by
  have HW : Aside0 (Below w.heap.size w ((w.alloc (.cells #[.int .i64 o, .int .i64 p, .bool ex, .bool me] 24)).alloc (.cells #[.int .i64 0, .int .i64 0] 31))) := ⟨below_alloc (below_alloc (Below.refl _ _) _) _⟩
  have HEW := Aside0.mk (hE.below HW.out)
  have H3 := Aside0.mk (blk_alloc (blk_new w (.cells #[.int .i64 o, .int .i64 p, .bool ex, .bool me] 24)) (.cells #[.int .i64 0, .int .i64 0] 31))
  have H5 := Aside0.mk (new1 w (.cells #[.int .i64 o, .int .i64 p, .bool ex, .bool me] 24) (.cells #[.int .i64 0, .int .i64 0] 31))
  have HP := Aside0.mk hp
  have HT := Aside0.mk (fun (W : World) (hW : Below w.heap.size w W) (vf : Value) => turn_calls W A c xs (Kd.C_below h hW) hc base l nx hr tgs htgs 1 hcd 2 1 (by decide) me vf)
  clear h hc hr htgs hcd hE hp
  go_enter Tryz.func23, Tryz.ntmps23
  go_wp2_with fail
  refine (told (tomarc_policy.calls p true _ HP.out)).mono ?_
  rintro e w0 ⟨rfl, hb, hh⟩
  have HE0 := Aside0.mk (HEW.out.below hb)
  have J3 := Aside0.mk (blk_below H3.out hb)
  have J5 := Aside0.mk (blk_below H5.out hb)
  have JW := Aside0.mk (below_then HW.out HW.out.size hb)
  clear hb hh H3 H5 HW HEW
  obtain ⟨c30, c31, c32, c33, f3⟩ := cells4 J3.out
  go_wp2_with fail
  refine (HT.out _ JW.out _).mono ?_
  rintro e w1 ⟨⟨g, rfl, hg⟩, hb⟩
  have HE1 := Aside0.mk (HE0.out.below hb)
  have K5 := Aside0.mk (blk_below J5.out hb)
  have KW := Aside0.mk (below_then JW.out JW.out.size hb)
  have HG := Aside0.mk hg
  clear hg hb HT JW J5 HE0 J3 c30 c31 c32 c33 f3
  go_wp2_with fail
  refine (told_calls g 15 9 _ HE1.out HG.out).mono ?_
  rintro e w2 ⟨rfl, hb⟩
  have L5 := Aside0.mk (blk_below K5.out hb)
  have LW := Aside0.mk (below_then KW.out KW.out.size hb)
  clear hb K5 KW HG
  obtain ⟨c50, c51, f5⟩ := cells2 L5.out
  go_wp2
  refine bodyPost_ret (results_list (rs := [.tmp 4, .cell 5 31]) rfl (by simp) (.tmp (.cell _ 31 _ (0, 0) _ rfl (set2 L5.out _ _) Tryz.underlying31 rfl (by kernel_rfl) .nil))) rfl ?_
  exact ⟨rfl, set2B LW.out (Nat.le_succ _) _ _⟩
theorem way2_calls (w : World) (p : Int) (ex me : Bool) : Calls Tryz.prog 15 #[.agg #[.int .i64 2, .int .i64 p, .bool ex, .bool me]] w fun e w' => e = .returned (.func (.func 22) #[] #[]) ∧ Below w.heap.size w w' := by
  go_enter Tryz.func15, Tryz.ntmps15
  go_wp2
  go_ret
  exact ⟨rfl, below_alloc (Below.refl _ _) _⟩
theorem way1_calls (w : World) (p : Int) (ex me : Bool) : Calls Tryz.prog 15 #[.agg #[.int .i64 1, .int .i64 p, .bool ex, .bool me]] w fun e w' => e = .returned (.func (.func 23) #[] #[]) ∧ Below w.heap.size w w' := by
  go_enter Tryz.func15, Tryz.ntmps15
  go_wp2
  go_ret
  exact ⟨rfl, below_alloc (Below.refl _ _) _⟩
end Go.Proofs.YtkhnnbfgjfkfeaaGreatDoor
