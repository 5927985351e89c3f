/-
  No cell of these rows narrows 'for every input' (looked for: loops, veiled, ifaces, maps, wideKeys, modest, calm, conditions, laid).
  DERIVED. THE GIVEN ROWS OF THIS SEAT. 5 by the template 'for every input the law returns true; each argument reads behind the call as it read before'; 0 by the template 'total and deterministic' (their statements: YtfoffegcglommaaTotals.lean).
  GIVEN WITH THE SEED: the statements are not yours to turn. If you find one false, say at which input.
  Laid BY PROGRAM, IN A SANDBOX (cutbox-rows.mjs): the forced cells as the released guide's own fill.sh prints them over the translation 53e6b679a64fd876… (all of the seat's roots in one cut). By AI agents, Wed Nov 11 2026. No macro, syntax, notation, axiom, sorry.
-/
import Derived.Test.YtfoffegcglommaaChecked
import GoSem.Claim
import GoSem.ClaimJoined
import GoSem.ClaimMapViews
import Derived.JoinedTies
import Derived.KernelRfl
namespace Go.Proofs.Ytfoffegcglommaa
/- THE CELL 'sum', in the pinned program and in every row, IS THE sha256 OF THE DUMP (.gsa) THAT YtfoffegcglommaaProg.lean LOADS. Nothing in Lean hashes anything: it is a label: what it is worth is what the hold of that sum in a sandbox is worth. -/
noncomputable def Try.pinned : Pinned := { name := "ytfoffegcglommaa", sum := "53e6b679a64fd876aca376e9d2f713a7c5ffad64b9301b6d02c19d8716a3237c", checked := Try.checked }
namespace Rows
def none {H : Type} : Left H := { results := [], args := [] }

/-- 'amanuensislaw02.NcrPrints': WHATEVER THE INPUT: true; the input reads as it did. -/
def ncrPrintsSpec : ChangeSpec := { name := "ncrPrints", fn := fun _ => fun
  | [d1, d2] => { results := [.lit (.bool true)], args := [d1, d2] }
  | _ => none }
def ncrPrintsRow : OpenClaim := { program := "ytfoffegcglommaa", sum := "53e6b679a64fd876aca376e9d2f713a7c5ffad64b9301b6d02c19d8716a3237c", func := "amanuensis/amanuensislaw02.NcrPrints", spec := "ncrPrints", inPlace := ["internal/bytealg.IndexByteString"], apart := false }
def NcrPrintsSaid : Prop := ncrPrintsRow.holds Try.pinned (OpenSpec.ofChange ncrPrintsSpec)

/-- ITS FALSE NEIGHBOUR: 'it returns false'. Refute it at one input. -/
def ncrPrintsWrong : ChangeSpec := { name := "ncrPrints", fn := fun _ => fun
  | [d1, d2] => { results := [.lit (.bool false)], args := [d1, d2] }
  | _ => none }
def NcrPrintsWrongFalsely : Prop := ncrPrintsRow.holds Try.pinned (OpenSpec.ofChange ncrPrintsWrong)

/-- 'amanuensislaw02.NcrAgain': WHATEVER THE INPUT: true; the input reads as it did. -/
def ncrAgainSpec : ChangeSpec := { name := "ncrAgain", fn := fun _ => fun
  | [d] => { results := [.lit (.bool true)], args := [d] }
  | _ => none }
def ncrAgainRow : OpenClaim := { program := "ytfoffegcglommaa", sum := "53e6b679a64fd876aca376e9d2f713a7c5ffad64b9301b6d02c19d8716a3237c", func := "amanuensis/amanuensislaw02.NcrAgain", spec := "ncrAgain", inPlace := ["internal/bytealg.IndexByteString"], apart := false }
def NcrAgainSaid : Prop := ncrAgainRow.holds Try.pinned (OpenSpec.ofChange ncrAgainSpec)

/-- ITS FALSE NEIGHBOUR: 'it returns false'. Refute it at one input. -/
def ncrAgainWrong : ChangeSpec := { name := "ncrAgain", fn := fun _ => fun
  | [d] => { results := [.lit (.bool false)], args := [d] }
  | _ => none }
def NcrAgainWrongFalsely : Prop := ncrAgainRow.holds Try.pinned (OpenSpec.ofChange ncrAgainWrong)

/-- 'amanuensislaw02.NcrJoins': WHATEVER THE INPUT: true; the input reads as it did. -/
def ncrJoinsSpec : ChangeSpec := { name := "ncrJoins", fn := fun _ => fun
  | [d1, d2, d3] => { results := [.lit (.bool true)], args := [d1, d2, d3] }
  | _ => none }
def ncrJoinsRow : OpenClaim := { program := "ytfoffegcglommaa", sum := "53e6b679a64fd876aca376e9d2f713a7c5ffad64b9301b6d02c19d8716a3237c", func := "amanuensis/amanuensislaw02.NcrJoins", spec := "ncrJoins", inPlace := ["internal/bytealg.IndexByteString"], apart := false }
def NcrJoinsSaid : Prop := ncrJoinsRow.holds Try.pinned (OpenSpec.ofChange ncrJoinsSpec)

/-- ITS FALSE NEIGHBOUR: 'it returns false'. Refute it at one input. -/
def ncrJoinsWrong : ChangeSpec := { name := "ncrJoins", fn := fun _ => fun
  | [d1, d2, d3] => { results := [.lit (.bool false)], args := [d1, d2, d3] }
  | _ => none }
def NcrJoinsWrongFalsely : Prop := ncrJoinsRow.holds Try.pinned (OpenSpec.ofChange ncrJoinsWrong)

/-- 'amanuensislaw02.NcrScans': WHATEVER THE INPUT: true; the input reads as it did. -/
def ncrScansSpec : ChangeSpec := { name := "ncrScans", fn := fun _ => fun
  | [d] => { results := [.lit (.bool true)], args := [d] }
  | _ => none }
def ncrScansRow : OpenClaim := { program := "ytfoffegcglommaa", sum := "53e6b679a64fd876aca376e9d2f713a7c5ffad64b9301b6d02c19d8716a3237c", func := "amanuensis/amanuensislaw02.NcrScans", spec := "ncrScans", inPlace := ["internal/bytealg.IndexByteString"], apart := false }
def NcrScansSaid : Prop := ncrScansRow.holds Try.pinned (OpenSpec.ofChange ncrScansSpec)

/-- ITS FALSE NEIGHBOUR: 'it returns false'. Refute it at one input. -/
def ncrScansWrong : ChangeSpec := { name := "ncrScans", fn := fun _ => fun
  | [d] => { results := [.lit (.bool false)], args := [d] }
  | _ => none }
def NcrScansWrongFalsely : Prop := ncrScansRow.holds Try.pinned (OpenSpec.ofChange ncrScansWrong)

/-- 'amanuensislaw02.NcrBack': WHATEVER THE INPUT: true; the input reads as it did. -/
def ncrBackSpec : ChangeSpec := { name := "ncrBack", fn := fun _ => fun
  | [d1, d2] => { results := [.lit (.bool true)], args := [d1, d2] }
  | _ => none }
def ncrBackRow : OpenClaim := { program := "ytfoffegcglommaa", sum := "53e6b679a64fd876aca376e9d2f713a7c5ffad64b9301b6d02c19d8716a3237c", func := "amanuensis/amanuensislaw02.NcrBack", spec := "ncrBack", inPlace := ["internal/bytealg.IndexByteString"], apart := false }
def NcrBackSaid : Prop := ncrBackRow.holds Try.pinned (OpenSpec.ofChange ncrBackSpec)

/-- ITS FALSE NEIGHBOUR: 'it returns false'. Refute it at one input. -/
def ncrBackWrong : ChangeSpec := { name := "ncrBack", fn := fun _ => fun
  | [d1, d2] => { results := [.lit (.bool false)], args := [d1, d2] }
  | _ => none }
def NcrBackWrongFalsely : Prop := ncrBackRow.holds Try.pinned (OpenSpec.ofChange ncrBackWrong)

/- THE SECOND FORM. 'bulk': how many values and letters a reading holds, each counted each time it is reached (what is shared counts as often as it is met; a slice's spare places count too). A statement '..UptoSaid' is the law's where the arguments, and the package variables that the reading takes, are together of bulk at most 1048576: NARROWER than '..Said'. Prove '..Said' where nothing that the law and all that it calls make is longer than what came in: it says more and counts as full. Else prove '..UptoSaid'. A law counts once. -/
mutual
def uptoBulk {H : Type} : DataW H → Nat
  | .lit (.string bytes) => bytes.length + 1
  | .lit _ => 1
  | .nil => 1
  | .ptr d => uptoBulk d + 1
  | .slice elems spare => uptoBulkAll elems + uptoBulkAll spare + 1
  | .agg parts => uptoBulkAll parts + 1
  | .iface _ d => uptoBulk d + 1
  | .map entries => uptoBulkEntries entries + 1
  | .held _ => 1
def uptoBulkAll {H : Type} : List (DataW H) → Nat
  | [] => 0
  | d :: r => uptoBulk d + uptoBulkAll r
def uptoBulkEntries {H : Type} : List (Lit × DataW H) → Nat
  | [] => 0
  | x :: r => uptoBulkEntry x + uptoBulkEntries r
def uptoBulkEntry {H : Type} : Lit × DataW H → Nat
  | (.string bytes, d) => bytes.length + uptoBulk d + 1
  | (_, d) => uptoBulk d + 1
 end
def uptoSmall : (H : Type) → List (DataW H) → Bool := fun _ ds => decide (uptoBulkAll ds ≤ 1048576)
def OpenSpec.upto (s : _root_.Go.ChangeSpec) : _root_.Go.OpenSpec := { _root_.Go.OpenSpec.ofChange s with cond := some uptoSmall }

/-- 'amanuensislaw02.NcrPrints', WHERE WHAT IT READS IS OF BULK AT MOST 1048576: true; the input reads as it did. -/
def ncrPrintsUptoRow : OpenClaim := { program := "ytfoffegcglommaa", sum := "53e6b679a64fd876aca376e9d2f713a7c5ffad64b9301b6d02c19d8716a3237c", func := "amanuensis/amanuensislaw02.NcrPrints", spec := "ncrPrints", inPlace := ["internal/bytealg.IndexByteString"], apart := false, narrowed := true }
def NcrPrintsUptoSaid : Prop := ncrPrintsUptoRow.holds Try.pinned (OpenSpec.upto ncrPrintsSpec)

/-- 'amanuensislaw02.NcrAgain', WHERE WHAT IT READS IS OF BULK AT MOST 1048576: true; the input reads as it did. -/
def ncrAgainUptoRow : OpenClaim := { program := "ytfoffegcglommaa", sum := "53e6b679a64fd876aca376e9d2f713a7c5ffad64b9301b6d02c19d8716a3237c", func := "amanuensis/amanuensislaw02.NcrAgain", spec := "ncrAgain", inPlace := ["internal/bytealg.IndexByteString"], apart := false, narrowed := true }
def NcrAgainUptoSaid : Prop := ncrAgainUptoRow.holds Try.pinned (OpenSpec.upto ncrAgainSpec)

/-- 'amanuensislaw02.NcrJoins', WHERE WHAT IT READS IS OF BULK AT MOST 1048576: true; the input reads as it did. -/
def ncrJoinsUptoRow : OpenClaim := { program := "ytfoffegcglommaa", sum := "53e6b679a64fd876aca376e9d2f713a7c5ffad64b9301b6d02c19d8716a3237c", func := "amanuensis/amanuensislaw02.NcrJoins", spec := "ncrJoins", inPlace := ["internal/bytealg.IndexByteString"], apart := false, narrowed := true }
def NcrJoinsUptoSaid : Prop := ncrJoinsUptoRow.holds Try.pinned (OpenSpec.upto ncrJoinsSpec)

/-- 'amanuensislaw02.NcrScans', WHERE WHAT IT READS IS OF BULK AT MOST 1048576: true; the input reads as it did. -/
def ncrScansUptoRow : OpenClaim := { program := "ytfoffegcglommaa", sum := "53e6b679a64fd876aca376e9d2f713a7c5ffad64b9301b6d02c19d8716a3237c", func := "amanuensis/amanuensislaw02.NcrScans", spec := "ncrScans", inPlace := ["internal/bytealg.IndexByteString"], apart := false, narrowed := true }
def NcrScansUptoSaid : Prop := ncrScansUptoRow.holds Try.pinned (OpenSpec.upto ncrScansSpec)

/-- 'amanuensislaw02.NcrBack', WHERE WHAT IT READS IS OF BULK AT MOST 1048576: true; the input reads as it did. -/
def ncrBackUptoRow : OpenClaim := { program := "ytfoffegcglommaa", sum := "53e6b679a64fd876aca376e9d2f713a7c5ffad64b9301b6d02c19d8716a3237c", func := "amanuensis/amanuensislaw02.NcrBack", spec := "ncrBack", inPlace := ["internal/bytealg.IndexByteString"], apart := false, narrowed := true }
def NcrBackUptoSaid : Prop := ncrBackUptoRow.holds Try.pinned (OpenSpec.upto ncrBackSpec)

end Rows
end Go.Proofs.Ytfoffegcglommaa
