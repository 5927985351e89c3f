/- NcrPrints, the plain part: what Print prints of a character is its reference, or nothing where it is none, and Scan reads it whatever follows. No condition beside the statement's own. -/
import Derived.Test.YtfoffegcglommaaEval
namespace Go.Proofs.Ytfoffegcglommaa.Pure
open Go.RowKit Go.Proofs.Ytfoffegcglommaa.PNcr Go.Proofs.YtfoffegcglommaaW.PrintWords Go.Proofs.YtfoffegcglommaaW.PrintLast
theorem wf32 {x : Int} (h : (Lit.int .i32 x).wf = true) : -2147483648 ≤ x ∧ x ≤ 2147483647 := by
  simp only [Lit.wf, Bool.and_eq_true, decide_eq_true_eq] at h
  have e1 : IntKind.i32.min = -2147483648 := by decide
  have e2 : IntKind.i32.max = 2147483647 := by decide
  rw [e1, e2] at h
  exact h
theorem NcrPrints : amanuensislaw02_NcrPrints.Pure := by
  intro c l1 hc _ hl4 hw
  refine Ev.rounds ?_
  unfold amanuensislaw02_NcrPrints.f
  by_cases h : (l1.length : Int) > 300
  · simp only [if_pos h]
    exact Ev.bind ev_answers (Ev.now _)
  · simp only [if_neg h]
    by_cases hs : Scal c
    · refine Ev.bind (ev_print hs) (Ev.bind ev_answers ?_)
      simp only [if_true, (scalar_yes hs).2, Option.bind_some, bne_self_eq_false, Bool.false_eq_true, if_false]
      have hlr : (refL c).length ≤ 10 := by rw [ref_length]; have := (@digs_len c).2; omega
      refine Ev.bind (ev_ref hs) (Ev.bind (ev_same (refL c) (by omega)) ?_)
      refine Ev.step (f := fun k => (ncr_Scan.f k (refL c ++ l1)).bind fun b => if b.1 = c then some (b.2 == ((refL c).length : Int)) else some false) (fun k => ?_) ?_
      · have e := strRunes_ascii (refL c) (ref_ascii hs)
        have h1 : (refL c).length ≤ 70368744177664 := by omega
        have h2 : (refL c).length + l1.length < 35184372088832 := by omega
        simp only [amanuensislaw02_NcrPrints.j0, e, if_pos h1, if_pos h2, Option.bind_some, Bool.not_true, Bool.false_eq_true, if_false, if_true]
      · refine Ev.bind (scan_at (by rw [List.length_append]; omega) (fun x hx => ?_) ⟨hs, l1, rfl⟩) ?_
        · rcases List.mem_append.1 hx with hx | hx
          · have := ref_ascii hs x hx; omega
          · exact (wf32 (hw x hx)).1
        · simp only [if_true, beq_self_eq_true]
          exact Ev.now _
    · refine Ev.bind (ev_print_no hs) (Ev.bind ev_answers ?_)
      simp only [if_true, (scalar_no hs).2, Option.bind_some, bne_self_eq_false, Bool.false_eq_true, if_false]
      refine Ev.bind (ev_ref_no hs) (Ev.bind (ev_same [] (by simp)) ?_)
      refine Ev.step (f := fun k => some true) (fun k => ?_) (Ev.now _)
      simp only [amanuensislaw02_NcrPrints.j0, Bool.not_true, Bool.false_eq_true, if_false]
end Go.Proofs.Ytfoffegcglommaa.Pure
