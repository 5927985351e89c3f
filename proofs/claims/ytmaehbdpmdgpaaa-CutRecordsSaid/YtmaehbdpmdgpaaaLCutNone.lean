/- The law CutNone: what it does. -/
import Derived.Test.YtmaehbdpmdgpaaaCwg
namespace Go.Proofs.Ytmaehbdpmdgpaaa
open Go.RowKit Go.Proofs.YtmaehbdpmdgpaaaW.PrintWords Go.Proofs.YtmaehbdpmdgpaaaW.PrintLast Go.Proofs.YtmaehbdpmdgpaaaW.PrintMore Go.Proofs.Ytmaehbdpmdgpaaa.PCut
set_option linter.unusedVariables false
set_option linter.unusedSimpArgs false
theorem none2 : allP (([] : List Int).length + 2) [] 0 true = ([], [], 0) := by decide
set_option maxHeartbeats 1600000 in
set_option maxRecDepth 100000 in
theorem none_calls (w : World) (A : Option Addr) (c : Nat) (xs : List Int) (h : (Kd.int .u8).C w A xs.length xs) (hc : xs.length ≤ c) (hx : ∀ x ∈ xs, 0 ≤ x ∧ x ≤ 255) :
    Calls Try.prog 6 #[.slice A xs.length c] w fun e w' => e = .returned (.bool true) ∧ Below w.heap.size w w' := by
  clear h hc hx
  go_enter Try.func6, Try.ntmps6
  go_wp2_with fail
  refine (answers_calls _).mono ?_
  rintro e w1 ⟨rfl, hb⟩
  have HB := Aside0.mk hb
  clear hb
  go_wp2_with fail
  refine (nil_feed _ _).mono ?_
  rintro e w2 ⟨rfl, rfl⟩
  go_wp2_with fail
  refine (nil_end _).mono ?_
  rintro e w2 ⟨rfl, rfl⟩
  go_wp2_with fail
  refine (new_calls _ w.heap.size HB.out.size).mono ?_
  rintro e w2 ⟨g, rfl, hg, hcu, hb⟩
  have HC := Aside0.mk hcu
  have HB2 := Aside0.mk hb
  clear hcu hb
  go_wp2_with fail
  refine (end_calls _ w.heap.size g none 0 [] 0 HC.out (by omega) (by simp) (by simp)).mono ?_
  rw [none2]
  rintro e w3 ⟨v, rfl, A1, c1, F⟩
  obtain ⟨A2, c2, rfl⟩ := Kd.N_slice F.nn
  have FB := Aside0.mk ((HB.out.trans (HB2.out.mono HB.out.size)).trans F.below)
  clear F
  go_wp2
  go_ret
  exact ⟨rfl, FB.out⟩
theorem u8_of {x : Int} (h : (Lit.int .u8 x).wf = true) : 0 ≤ x ∧ x ≤ 255 := by
  simp [Lit.wf] at h
  exact ⟨by have := h.1; simpa [IntKind.min, IntKind.signed, IntKind.bits] using this, by have := h.2; simp [IntKind.max, IntKind.signed, IntKind.bits] at this; omega⟩
end Go.Proofs.Ytmaehbdpmdgpaaa
