/-
  No cell of these rows narrows 'for every input' (looked for: loops, veiled, ifaces, maps, wideKeys, modest, calm, conditions, laid).
  DERIVED. THE GIVEN ROWS OF THIS SEAT. 5 by the template 'for every input the law returns true; each argument reads behind the call as it read before'; 0 by the template 'total and deterministic' (their statements: YtmaehbdpmdgpaaaTotals.lean).
  GIVEN WITH THE SEED: the statements are not yours to turn. If you find one false, say at which input.
  Laid BY PROGRAM, IN A SANDBOX (cutbox-rows.mjs): the forced cells as the released guide's own fill.sh prints them over the translation 26c5b46fc3a90a07… (all of the seat's roots in one cut). By AI agents, Wed Nov 11 2026. No macro, syntax, notation, axiom, sorry.
-/
import Derived.Test.YtmaehbdpmdgpaaaChecked
import GoSem.Claim
import GoSem.ClaimJoined
import GoSem.ClaimMapViews
import Derived.JoinedTies
import Derived.KernelRfl
namespace Go.Proofs.Ytmaehbdpmdgpaaa
/- THE CELL 'sum', in the pinned program and in every row, IS THE sha256 OF THE DUMP (.gsa) THAT YtmaehbdpmdgpaaaProg.lean LOADS. Nothing in Lean hashes anything: it is a label: what it is worth is what the hold of that sum in a sandbox is worth. -/
noncomputable def Try.pinned : Pinned := { name := "ytmaehbdpmdgpaaa", sum := "26c5b46fc3a90a07f68bbc39d9027aa368ded94711da2aabd4ff932c1b08d918", checked := Try.checked }
namespace Rows
def none {H : Type} : Left H := { results := [], args := [] }

/-- 'amanuensislaw27.CutPieces': WHATEVER THE INPUT: true; the input reads as it did. -/
def cutPiecesSpec : ChangeSpec := { name := "cutPieces", fn := fun _ => fun
  | [d1, d2] => { results := [.lit (.bool true)], args := [d1, d2] }
  | _ => none }
def cutPiecesRow : OpenClaim := { program := "ytmaehbdpmdgpaaa", sum := "26c5b46fc3a90a07f68bbc39d9027aa368ded94711da2aabd4ff932c1b08d918", func := "amanuensis/amanuensislaw27.CutPieces", spec := "cutPieces", inPlace := ["internal/bytealg.IndexByte"], apart := false }
def CutPiecesSaid : Prop := cutPiecesRow.holds Try.pinned (OpenSpec.ofChange cutPiecesSpec)

/-- ITS FALSE NEIGHBOUR: 'it returns false'. Refute it at one input. -/
def cutPiecesWrong : ChangeSpec := { name := "cutPieces", fn := fun _ => fun
  | [d1, d2] => { results := [.lit (.bool false)], args := [d1, d2] }
  | _ => none }
def CutPiecesWrongFalsely : Prop := cutPiecesRow.holds Try.pinned (OpenSpec.ofChange cutPiecesWrong)

/-- 'amanuensislaw27.CutAll': WHATEVER THE INPUT: true; the input reads as it did. -/
def cutAllSpec : ChangeSpec := { name := "cutAll", fn := fun _ => fun
  | [d] => { results := [.lit (.bool true)], args := [d] }
  | _ => none }
def cutAllRow : OpenClaim := { program := "ytmaehbdpmdgpaaa", sum := "26c5b46fc3a90a07f68bbc39d9027aa368ded94711da2aabd4ff932c1b08d918", func := "amanuensis/amanuensislaw27.CutAll", spec := "cutAll", inPlace := ["internal/bytealg.IndexByte"], apart := false }
def CutAllSaid : Prop := cutAllRow.holds Try.pinned (OpenSpec.ofChange cutAllSpec)

/-- ITS FALSE NEIGHBOUR: 'it returns false'. Refute it at one input. -/
def cutAllWrong : ChangeSpec := { name := "cutAll", fn := fun _ => fun
  | [d] => { results := [.lit (.bool false)], args := [d] }
  | _ => none }
def CutAllWrongFalsely : Prop := cutAllRow.holds Try.pinned (OpenSpec.ofChange cutAllWrong)

/-- 'amanuensislaw27.CutSoon': WHATEVER THE INPUT: true; the input reads as it did. -/
def cutSoonSpec : ChangeSpec := { name := "cutSoon", fn := fun _ => fun
  | [d1, d2] => { results := [.lit (.bool true)], args := [d1, d2] }
  | _ => none }
def cutSoonRow : OpenClaim := { program := "ytmaehbdpmdgpaaa", sum := "26c5b46fc3a90a07f68bbc39d9027aa368ded94711da2aabd4ff932c1b08d918", func := "amanuensis/amanuensislaw27.CutSoon", spec := "cutSoon", inPlace := ["internal/bytealg.IndexByte"], apart := false }
def CutSoonSaid : Prop := cutSoonRow.holds Try.pinned (OpenSpec.ofChange cutSoonSpec)

/-- ITS FALSE NEIGHBOUR: 'it returns false'. Refute it at one input. -/
def cutSoonWrong : ChangeSpec := { name := "cutSoon", fn := fun _ => fun
  | [d1, d2] => { results := [.lit (.bool false)], args := [d1, d2] }
  | _ => none }
def CutSoonWrongFalsely : Prop := cutSoonRow.holds Try.pinned (OpenSpec.ofChange cutSoonWrong)

/-- 'amanuensislaw27.CutNone': WHATEVER THE INPUT: true; the input reads as it did. -/
def cutNoneSpec : ChangeSpec := { name := "cutNone", fn := fun _ => fun
  | [d] => { results := [.lit (.bool true)], args := [d] }
  | _ => none }
def cutNoneRow : OpenClaim := { program := "ytmaehbdpmdgpaaa", sum := "26c5b46fc3a90a07f68bbc39d9027aa368ded94711da2aabd4ff932c1b08d918", func := "amanuensis/amanuensislaw27.CutNone", spec := "cutNone", inPlace := ["internal/bytealg.IndexByte"], apart := false }
def CutNoneSaid : Prop := cutNoneRow.holds Try.pinned (OpenSpec.ofChange cutNoneSpec)

/-- ITS FALSE NEIGHBOUR: 'it returns false'. Refute it at one input. -/
def cutNoneWrong : ChangeSpec := { name := "cutNone", fn := fun _ => fun
  | [d] => { results := [.lit (.bool false)], args := [d] }
  | _ => none }
def CutNoneWrongFalsely : Prop := cutNoneRow.holds Try.pinned (OpenSpec.ofChange cutNoneWrong)

/-- 'amanuensislaw27.CutRecords': WHATEVER THE INPUT: true; the input reads as it did. -/
def cutRecordsSpec : ChangeSpec := { name := "cutRecords", fn := fun _ => fun
  | [d] => { results := [.lit (.bool true)], args := [d] }
  | _ => none }
def cutRecordsRow : OpenClaim := { program := "ytmaehbdpmdgpaaa", sum := "26c5b46fc3a90a07f68bbc39d9027aa368ded94711da2aabd4ff932c1b08d918", func := "amanuensis/amanuensislaw27.CutRecords", spec := "cutRecords", inPlace := ["internal/bytealg.IndexByte"], apart := false }
def CutRecordsSaid : Prop := cutRecordsRow.holds Try.pinned (OpenSpec.ofChange cutRecordsSpec)

/-- ITS FALSE NEIGHBOUR: 'it returns false'. Refute it at one input. -/
def cutRecordsWrong : ChangeSpec := { name := "cutRecords", fn := fun _ => fun
  | [d] => { results := [.lit (.bool false)], args := [d] }
  | _ => none }
def CutRecordsWrongFalsely : Prop := cutRecordsRow.holds Try.pinned (OpenSpec.ofChange cutRecordsWrong)

/- THE SECOND FORM. 'bulk': how many values and letters a reading holds, each counted each time it is reached (what is shared counts as often as it is met; a slice's spare places count too). A statement '..UptoSaid' is the law's where the arguments, and the package variables that the reading takes, are together of bulk at most 1048576: NARROWER than '..Said'. Prove '..Said' where nothing that the law and all that it calls make is longer than what came in: it says more and counts as full. Else prove '..UptoSaid'. A law counts once. -/
mutual
def uptoBulk {H : Type} : DataW H → Nat
  | .lit (.string bytes) => bytes.length + 1
  | .lit _ => 1
  | .nil => 1
  | .ptr d => uptoBulk d + 1
  | .slice elems spare => uptoBulkAll elems + uptoBulkAll spare + 1
  | .agg parts => uptoBulkAll parts + 1
  | .iface _ d => uptoBulk d + 1
  | .map entries => uptoBulkEntries entries + 1
  | .held _ => 1
def uptoBulkAll {H : Type} : List (DataW H) → Nat
  | [] => 0
  | d :: r => uptoBulk d + uptoBulkAll r
def uptoBulkEntries {H : Type} : List (Lit × DataW H) → Nat
  | [] => 0
  | x :: r => uptoBulkEntry x + uptoBulkEntries r
def uptoBulkEntry {H : Type} : Lit × DataW H → Nat
  | (.string bytes, d) => bytes.length + uptoBulk d + 1
  | (_, d) => uptoBulk d + 1
 end
def uptoSmall : (H : Type) → List (DataW H) → Bool := fun _ ds => decide (uptoBulkAll ds ≤ 1048576)
def OpenSpec.upto (s : _root_.Go.ChangeSpec) : _root_.Go.OpenSpec := { _root_.Go.OpenSpec.ofChange s with cond := some uptoSmall }

/-- 'amanuensislaw27.CutPieces', WHERE WHAT IT READS IS OF BULK AT MOST 1048576: true; the input reads as it did. -/
def cutPiecesUptoRow : OpenClaim := { program := "ytmaehbdpmdgpaaa", sum := "26c5b46fc3a90a07f68bbc39d9027aa368ded94711da2aabd4ff932c1b08d918", func := "amanuensis/amanuensislaw27.CutPieces", spec := "cutPieces", inPlace := ["internal/bytealg.IndexByte"], apart := false, narrowed := true }
def CutPiecesUptoSaid : Prop := cutPiecesUptoRow.holds Try.pinned (OpenSpec.upto cutPiecesSpec)

/-- 'amanuensislaw27.CutAll', WHERE WHAT IT READS IS OF BULK AT MOST 1048576: true; the input reads as it did. -/
def cutAllUptoRow : OpenClaim := { program := "ytmaehbdpmdgpaaa", sum := "26c5b46fc3a90a07f68bbc39d9027aa368ded94711da2aabd4ff932c1b08d918", func := "amanuensis/amanuensislaw27.CutAll", spec := "cutAll", inPlace := ["internal/bytealg.IndexByte"], apart := false, narrowed := true }
def CutAllUptoSaid : Prop := cutAllUptoRow.holds Try.pinned (OpenSpec.upto cutAllSpec)

/-- 'amanuensislaw27.CutSoon', WHERE WHAT IT READS IS OF BULK AT MOST 1048576: true; the input reads as it did. -/
def cutSoonUptoRow : OpenClaim := { program := "ytmaehbdpmdgpaaa", sum := "26c5b46fc3a90a07f68bbc39d9027aa368ded94711da2aabd4ff932c1b08d918", func := "amanuensis/amanuensislaw27.CutSoon", spec := "cutSoon", inPlace := ["internal/bytealg.IndexByte"], apart := false, narrowed := true }
def CutSoonUptoSaid : Prop := cutSoonUptoRow.holds Try.pinned (OpenSpec.upto cutSoonSpec)

/-- 'amanuensislaw27.CutNone', WHERE WHAT IT READS IS OF BULK AT MOST 1048576: true; the input reads as it did. -/
def cutNoneUptoRow : OpenClaim := { program := "ytmaehbdpmdgpaaa", sum := "26c5b46fc3a90a07f68bbc39d9027aa368ded94711da2aabd4ff932c1b08d918", func := "amanuensis/amanuensislaw27.CutNone", spec := "cutNone", inPlace := ["internal/bytealg.IndexByte"], apart := false, narrowed := true }
def CutNoneUptoSaid : Prop := cutNoneUptoRow.holds Try.pinned (OpenSpec.upto cutNoneSpec)

/-- 'amanuensislaw27.CutRecords', WHERE WHAT IT READS IS OF BULK AT MOST 1048576: true; the input reads as it did. -/
def cutRecordsUptoRow : OpenClaim := { program := "ytmaehbdpmdgpaaa", sum := "26c5b46fc3a90a07f68bbc39d9027aa368ded94711da2aabd4ff932c1b08d918", func := "amanuensis/amanuensislaw27.CutRecords", spec := "cutRecords", inPlace := ["internal/bytealg.IndexByte"], apart := false, narrowed := true }
def CutRecordsUptoSaid : Prop := cutRecordsUptoRow.holds Try.pinned (OpenSpec.upto cutRecordsSpec)

end Rows
end Go.Proofs.Ytmaehbdpmdgpaaa
