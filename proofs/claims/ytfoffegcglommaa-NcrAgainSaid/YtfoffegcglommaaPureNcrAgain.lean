/- NcrAgain, the plain part: a reference behind the reference of '&' is put back but once; a second time gives the character. No condition beside the statement's own. -/
import Derived.Test.YtfoffegcglommaaEval
namespace Go.Proofs.Ytfoffegcglommaa.Pure
open Go.RowKit Go.Proofs.Ytfoffegcglommaa.PNcr Go.Proofs.YtfoffegcglommaaW.PrintWords Go.Proofs.YtfoffegcglommaaW.PrintLast
theorem NcrAgain : amanuensislaw02_NcrAgain.Pure := by
  intro c hc
  refine Ev.rounds ?_
  unfold amanuensislaw02_NcrAgain.f
  by_cases hs : Scal c
  · refine Ev.bind (ev_ref hs) ?_
    have hlr : (refL c).length ≤ 10 ∧ 8 ≤ (refL c).length := by rw [ref_length]; have := @digs_len c; omega
    have ht : (refL c).drop 1 = (refL c).tail := List.drop_one
    have htl : (refL c).tail.length = (refL c).length - 1 := List.length_tail
    have ha : ∀ x ∈ refL c, 0 ≤ x ∧ x < 128 := ref_ascii hs
    have e38 : ([38, 35, 120, 48, 48, 50, 54, 59] : List Int) = refL 38 := by decide
    have h38 : Scal 38 := by unfold Scal; omega
    have hall : ∀ x ∈ refL 38 ++ (refL c).tail, 0 ≤ x ∧ x < 128 := by
      intro x hx
      rcases List.mem_append.1 hx with hx | hx
      · exact ref_ascii h38 x hx
      · exact ha x (List.mem_of_mem_tail hx)
    have hl38 : (refL 38).length = 8 := by decide
    have c1 : ¬ (((refL c).length : Int) = 0) := by omega
    have c2 : 1 ≤ ((refL c).length : Int) := by omega
    have c3 : 0 < (refL c).tail.length := by omega
    have c4 : (refL 38).length + (refL c).tail.length < 140737488355328 := by omega
    have c5 : (refL 38 ++ (refL c).tail).length ≤ 70368744177664 := by rw [List.length_append]; omega
    have c6 : (refL c).length ≤ 70368744177664 := by omega
    simp only [if_neg c1, if_pos c2, ht, Option.bind_some, if_pos c3, e38, if_pos c4, strRunes_ascii _ hall, if_pos c5, strRunes_ascii _ ha, if_pos c6]
    have hx : Exp ((refL c).tail.length + 1) (refL 38 ++ (refL c).tail) (refL c) := exp_ref h38 (exp_plain _ (ref_tail hs))
    have hy : Exp 1 (refL c) [c] := .inl ⟨c, [], [], hs, by simp, rfl, rfl, rfl⟩
    refine Ev.bind (ev_exp (by rw [List.length_append]; omega) (fun x hx => by have := hall x hx; omega) hx) (Ev.bind (ev_exp (by omega) (fun x hx => by have := ha x hx; omega) hy) (Ev.bind ev_answers ?_))
    simp only [if_true]
    refine Ev.bind (ev_runes (refL c) (by omega)) ?_
    simp only [if_true]
    exact Ev.bind (ev_runes [c] (by simp)) (Ev.now _)
  · refine Ev.bind (ev_ref_no hs) ?_
    have c1 : (([] : List Int).length : Int) = 0 := rfl
    simp only [if_pos c1]
    exact Ev.bind ev_answers (Ev.now _)
end Go.Proofs.Ytfoffegcglommaa.Pure
