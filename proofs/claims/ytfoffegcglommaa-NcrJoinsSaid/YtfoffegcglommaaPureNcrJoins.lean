/- NcrJoins, the plain part: a text that ends behind a reference, and another one: both, taken apart, are what each is, one behind the other. No condition beside the statement's own. -/
import Derived.Test.YtfoffegcglommaaEval
import Derived.Test.YtfoffegcglommaaPNcrx4
namespace Go.Proofs.Ytfoffegcglommaa.Pure
open Go.RowKit Go.Proofs.Ytfoffegcglommaa.PNcr Go.Proofs.YtfoffegcglommaaW.PrintWords Go.Proofs.YtfoffegcglommaaW.PrintLast
theorem wf32j {x : Int} (h : (Lit.int .i32 x).wf = true) : -2147483648 ≤ x ∧ x ≤ 2147483647 := by
  simp only [Lit.wf, Bool.and_eq_true, decide_eq_true_eq] at h
  have e1 : IntKind.i32.min = -2147483648 := by decide
  have e2 : IntKind.i32.max = 2147483647 := by decide
  rw [e1, e2] at h
  exact h
theorem joins_yes (a : List Int) (c : Int) (b : List Int) : Ev (fun k => amanuensislaw02_NcrJoins.j0 k a c b true) true := by
  refine Ev.step (f := fun k => (amanuensislaw02_answers.f k).bind fun t => some t) (fun k => ?_) (Ev.bind ev_answers (Ev.now _))
  simp only [amanuensislaw02_NcrJoins.j0, if_true]
theorem NcrJoins : amanuensislaw02_NcrJoins.Pure := by
  intro a c b _ ha4 hwa hc _ hb4 hwb
  refine Ev.rounds ?_
  unfold amanuensislaw02_NcrJoins.f
  by_cases h1 : (a.length : Int) > 100
  · simp only [if_pos h1]; exact joins_yes a c b
  · simp only [if_neg h1]
    by_cases h2 : (b.length : Int) > 100
    · simp only [if_pos h2]; exact joins_yes a c b
    · simp only [if_neg h2]
      by_cases hs : Scal c
      · simp only [(scalar_yes hs).2, Option.bind_some, Bool.not_true]
        have hlr : (refL c).length ≤ 10 := by rw [ref_length]; have := (@digs_len c).2; omega
        have ha : ∀ x ∈ refL c, 0 ≤ x ∧ x < 128 := ref_ascii hs
        obtain ⟨n1, r1, e1, e2⟩ := exp_join c hs a.length a (Nat.le_refl _)
        obtain ⟨n2, r2, hn2, e3⟩ := exp_all b.length b (Nat.le_refl _)
        have e4 := e2 n2 b r2 e3
        have l1 := exp_len _ _ _ e1
        have l2 := exp_len _ _ _ e3
        have l4 := exp_len _ _ _ e4
        rw [List.length_append] at l1
        have c0 : ([] : List Int).length + a.length < 35184372088832 := by simp; omega
        have c1 : (refL c).length ≤ 70368744177664 := by omega
        have c2 : a.length + (refL c).length < 35184372088832 := by omega
        have c3 : ([] : List Int).length + (a ++ refL c).length < 35184372088832 := by rw [List.length_append]; simp; omega
        have c4 : (a ++ refL c).length + b.length < 35184372088832 := by rw [List.length_append]; omega
        have c5 : r1.length + r2.length < 35184372088832 := by omega
        have hra : ∀ x ∈ a ++ refL c, -2147483648 ≤ x := by
          intro x hx
          rcases List.mem_append.1 hx with hx | hx
          · exact (wf32j (hwa x hx)).1
          · have := ha x hx; omega
        have hrb : ∀ x ∈ b, -2147483648 ≤ x := fun x hx => (wf32j (hwb x hx)).1
        have hrab : ∀ x ∈ a ++ refL c ++ b, -2147483648 ≤ x := fun x hx => (List.mem_append.1 hx).elim (hra x) (hrb x)
        refine Ev.step (f := fun k => (amanuensisref01_Ref.f k c).bind fun t => if (strRunes (strOfNums t)).length ≤ 70368744177664 then (if a.length + (strRunes (strOfNums t)).length < 35184372088832 then (if ([] : List Int).length + (a ++ strRunes (strOfNums t)).length < 35184372088832 then (if (a ++ strRunes (strOfNums t)).length + b.length < 35184372088832 then (ncr_Expand.f k (a ++ strRunes (strOfNums t) ++ b)).bind fun y => (amanuensislaw02_answers.f k).bind fun t2 => if t2 = true then (ncr_Expand.f k (a ++ strRunes (strOfNums t))).bind fun u => (ncr_Expand.f k b).bind fun v => if u.length + v.length < 35184372088832 then (amanuensisref01_Runes.f k y (u ++ v)).bind fun z => some z else none else some false else none) else none) else none) else none) (fun k => ?_) ?_
        · simp only [amanuensislaw02_NcrJoins.j0, Bool.false_eq_true, if_false, Option.bind_some, List.nil_append, if_pos c0]
        · refine Ev.bind (ev_ref hs) ?_
          simp only [strRunes_ascii _ ha, if_pos c1, if_pos c2, if_pos c3, if_pos c4]
          refine Ev.bind (ev_exp (by rw [List.length_append, List.length_append]; omega) hrab e4) (Ev.bind ev_answers ?_)
          simp only [if_true]
          refine Ev.bind (ev_exp (by rw [List.length_append]; omega) hra e1) (Ev.bind (ev_exp (by omega) hrb e3) ?_)
          simp only [if_pos c5]
          exact Ev.bind (ev_runes (r1 ++ r2) (by rw [List.length_append]; omega)) (Ev.now _)
      · simp only [(scalar_no hs).2, Option.bind_some, Bool.not_false]; exact joins_yes a c b
end Go.Proofs.Ytfoffegcglommaa.Pure
