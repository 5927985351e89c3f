/- The tied card of the law WholeCoding holds. Conditions: those that each theorem states. -/
import Derived.Test.YtkhnnbfgjfkfeaaGreatDoorKRowB
import Derived.Test.YtkhnnbfgjfkfeaaGreatDoorKTieE
import Derived.Test.YtkhnnbfgjfkfeaaGreatDoorCards
import Derived.Test.YtkhnnbfgjfkfeaaGreatDoorKCardA
import Derived.Test.YtkhnnbfgjfkfeaaGreatDoorKCardB
import Derived.Test.YtkhnnbfgjfkfeaaGreatDoorKCardC
import Derived.SevenTiedAt
namespace Go.Proofs.YtkhnnbfgjfkfeaaGreatDoor
open Go
theorem wholeCoding_holds : Rows.WholeCodingCardSaid :=
  Claim7.holds_tied_plain_at .later [] [.pinned, .data, .data, .listed, .sentinel, .sentinel, .data, .data, .data, .handle] true (true, "680b0256f5ee6069a1d5f6155e048c357f91424c5583d4a2159b706b15f9fdb9") true
    wholeCoding.proved (fun _ h => by cases h) wholeCodingCard.wf (fun _ h => by cases h) ownTie.row_tie rfl ⟨rfl, rfl⟩ wholeCodingCard.mainIs rfl
    (fun f fn hf hfn => by
      obtain rfl : f = 3 := Option.some.inj (wholeCoding.named3.symm.trans hf) |>.symm
      obtain rfl : fn = Tryz.f3 := (Option.some.inj (Tryz.func3.symm.trans hfn)).symm
      exact ⟨wholeCodingCard.looks, fun j t ht => by
        rw [Tryz.params3] at ht
        have h3 : t = 22 ∨ t = 24 := by
          rcases j with _ | _ | j
          · left; simpa using ht.symm
          · right; simpa using ht.symm
          · simp at ht
        rcases h3 with rfl | rfl
        · exact wholeCodingCard.w22
        · exact wholeCodingCard.w24⟩)
    wholeCodingCard.goes
end Go.Proofs.YtkhnnbfgjfkfeaaGreatDoor
