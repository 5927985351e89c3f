/- NcrScans, the plain part: Scan, Has and Expand answer what the document's do, of any characters. No condition beside the statement's own. -/
import Derived.Test.YtfoffegcglommaaEvalRef
namespace Go.Proofs.Ytfoffegcglommaa.Pure
open Go.RowKit Go.Proofs.Ytfoffegcglommaa.PNcr Go.Proofs.YtfoffegcglommaaW.PrintWords Go.Proofs.YtfoffegcglommaaW.PrintLast
theorem wf32s {x : Int} (h : (Lit.int .i32 x).wf = true) : -2147483648 ≤ x ∧ x ≤ 2147483647 := by
  simp only [Lit.wf, Bool.and_eq_true, decide_eq_true_eq] at h
  have e1 : IntKind.i32.min = -2147483648 := by decide
  have e2 : IntKind.i32.max = 2147483647 := by decide
  rw [e1, e2] at h
  exact h
theorem NcrScans : amanuensislaw02_NcrScans.Pure := by
  intro l _ hl4 hw
  refine Ev.rounds ?_
  unfold amanuensislaw02_NcrScans.f
  by_cases h1 : (l.length : Int) > 500
  · simp only [if_pos h1]; exact Ev.bind ev_answers (Ev.now _)
  · simp only [if_neg h1]
    have hr : ∀ x ∈ l, -2147483648 ≤ x ∧ x ≤ 2147483647 := fun x hx => wf32s (hw x hx)
    have hll : l.length < 1000000000000 := by omega
    have hscan : ∃ p, Ev (fun k => ncr_Scan.f k l) p ∧ Ev (fun k => amanuensisref01_Scan.f k l) p := by
      by_cases hA : ∃ c, At l c
      · obtain ⟨c, hc⟩ := hA
        exact ⟨_, scan_at hll (fun x hx => (hr x hx).1) hc, rscan_at hll hr hc⟩
      · have hno : NoAt l := fun c hc => hA ⟨c, hc⟩
        exact ⟨_, scan_no hll (fun x hx => (hr x hx).1) hno, rscan_no hll hr hno⟩
    have hhas : ∃ b, Ev (fun k => ncr_Has.f k l) b ∧ Ev (fun k => amanuensisref01_Has.f k l) b := by
      by_cases hA : Any l
      · exact ⟨true, (ev_has hll hr).1 hA⟩
      · exact ⟨false, (ev_has hll hr).2 hA⟩
    obtain ⟨p, p1, p2⟩ := hscan
    obtain ⟨b, b1, b2⟩ := hhas
    obtain ⟨n, r, hn, hx⟩ := exp_all l.length l (Nat.le_refl _)
    have hxl := exp_len _ _ _ hx
    have c0 : ([] : List Int).length + l.length < 35184372088832 := by simp; omega
    refine Ev.bind p1 (Ev.bind p2 ?_)
    simp only [Option.bind_some, if_pos c0, List.nil_append]
    refine Ev.bind (ev_exp (by omega) (fun x hx => (hr x hx).1) hx) (Ev.bind ev_answers ?_)
    simp only [if_true]
    refine Ev.bind b1 (Ev.bind b2 ?_)
    simp only [beq_self_eq_true, if_true]
    refine Ev.bind (ev_rexp (by omega) hr hx) (Ev.bind (ev_runes r (by omega)) ?_)
    simp only [if_true]
    exact Ev.bind (ev_runes l (by omega)) (Ev.now _)
end Go.Proofs.Ytfoffegcglommaa.Pure
