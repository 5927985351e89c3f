/-
  DERIVED. GIVEN WITH THE SEED: THE CARDS: each row of YtkhnnbfgjfkfeaaGreatDoorRows.lean that lists a variable, with what it lists TIED to the program's text (the seventh form; the later family's looks); each row that meets fmt, with fmt's text TOLD by the authors' own Lean function (tested against real Go, not proved from fmt's source: count such statements apart). THE CARD IS WHAT COUNTS. Prove the row's statement (the work); the ties are given (YtkhnnbfgjfkfeaaGreatDoorTie.lean); close each card by the builder's one call (the guide's Derived/Test/ToyasCard.lean, 'card_holds'). Laid BY PROGRAM, IN A SANDBOX (cutbox-door.mjs). By AI agents, Wed Nov 11 2026. No macro, syntax, notation, axiom, sorry.
-/
import Derived.Test.YtkhnnbfgjfkfeaaGreatDoorRows
import GoSem.ClaimSeven
namespace Go.Proofs.YtkhnnbfgjfkfeaaGreatDoor
namespace Rows

/-- THE TIED CARD OF 'amanuensistop.WholeCoding'. -/
def wholeCodingCard : Claim7 := { stood := { row := wholeCodingRow, standIns := [], harness := (true, "680b0256f5ee6069a1d5f6155e048c357f91424c5583d4a2159b706b15f9fdb9"), looks := true }, kinds := [], alts := [], laidByText := true, laidKinds := [.pinned, .data, .data, .listed, .sentinel, .sentinel, .data, .data, .data, .handle], laidTests := true, laidLooks := .later }
def WholeCodingCardSaid : Prop := Claim7.holds Tryz.pinned (.plain (OpenSpec.ofChange wholeCodingSpec)) wholeCodingCard

/-- THE SECOND FORM's CARD OF 'amanuensistop.WholeCoding'. -/
def wholeCodingUptoCard : Claim7 := { stood := { row := wholeCodingUptoRow, standIns := [], harness := (true, "680b0256f5ee6069a1d5f6155e048c357f91424c5583d4a2159b706b15f9fdb9"), looks := true }, kinds := [], alts := [], laidByText := true, laidKinds := [.pinned, .data, .data, .listed, .sentinel, .sentinel, .data, .data, .data, .handle], laidTests := true, laidLooks := .later }
def WholeCodingUptoCardSaid : Prop := Claim7.holds Tryz.pinned (.plain (OpenSpec.upto wholeCodingSpec)) wholeCodingUptoCard
end Rows
end Go.Proofs.YtkhnnbfgjfkfeaaGreatDoor
