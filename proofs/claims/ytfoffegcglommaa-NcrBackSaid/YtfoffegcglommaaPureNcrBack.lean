/- NcrBack, the plain part: characters of which some are told by their numbers are these, put back, if no others look so. No condition beside the statement's own. -/
import Derived.Test.YtfoffegcglommaaEvalRef
namespace Go.Proofs.Ytfoffegcglommaa.Pure
open Go.RowKit Go.Proofs.Ytfoffegcglommaa.PNcr Go.Proofs.YtfoffegcglommaaW.PrintWords Go.Proofs.YtfoffegcglommaaW.PrintLast
theorem wf32b {x : Int} (h : (Lit.int .i32 x).wf = true) : -2147483648 ≤ x ∧ x ≤ 2147483647 := by
  simp only [Lit.wf, Bool.and_eq_true, decide_eq_true_eq] at h
  have e1 : IntKind.i32.min = -2147483648 := by decide
  have e2 : IntKind.i32.max = 2147483647 := by decide
  rw [e1, e2] at h
  exact h
def some1 : List Int → List Bool → Bool
  | [], _ => false
  | _ :: l, w => w.headD false || some1 l w.tail
theorem some1_nil : ∀ l, some1 l [] = false
  | [] => rfl
  | _ :: l => some1_nil l
theorem some1_iff : ∀ l w, some1 l w = true ↔ Some1 l w
  | [], w => by simp [some1, Some1]
  | a :: l, w => by simp only [some1, Some1, Bool.or_eq_true, some1_iff l w.tail]
theorem flag_at (w : List Bool) (i : Nat) : rdOf false w (i : Int) = (w.drop i).headD false := by
  unfold rdOf
  rw [Int.toNat_natCast, List.getD_eq_getElem?_getD, List.headD_eq_head?_getD, List.head?_drop]
theorem back_l1 (x0 : List Int) (x1 : List Bool) (x5 : List Int) (h0 : x0.length < 1000000000000) : ∀ (d i : Nat) (s : Bool), i + d = x0.length →
    Ev (fun k => amanuensislaw02_NcrBack.j3 k x0 x5 (s || some1 (x0.drop i) (x1.drop i))) true → Ev (fun k => amanuensislaw02_NcrBack.l1 k x0 x1 x5 s (i : Int)) true
  | 0, i, s, e, h => by
    have hd : x0.drop i = [] := List.drop_of_length_le (by omega)
    rw [hd, show some1 [] (x1.drop i) = false from rfl, Bool.or_false] at h
    have q : ¬ ((i : Int) < (x0.length : Int)) := by omega
    refine Ev.step (f := fun k => amanuensislaw02_NcrBack.j3 k x0 x5 s) (fun k => ?_) h
    rw [amanuensislaw02_NcrBack.l1, if_neg q]
  | d + 1, i, s, e, h => by
    have hlt : i < x0.length := by omega
    have q1 : (i : Int) < (x0.length : Int) := by omega
    have q2 : 0 ≤ (i : Int) := by omega
    have q4 : wrap64 ((i : Int) + 1) = ((i + 1 : Nat) : Int) := by rw [w64 (by omega) (by omega)]; omega
    have hcons : x0.drop i = x0[i] :: x0.drop (i + 1) := List.drop_eq_getElem_cons hlt
    by_cases hw : i < x1.length
    · have q5 : (i : Int) < (x1.length : Int) := by omega
      have e1 : some1 (x0.drop i) (x1.drop i) = ((x1.drop i).headD false || some1 (x0.drop (i + 1)) (x1.drop (i + 1))) := by
        rw [hcons]; show ((x1.drop i).headD false || some1 (x0.drop (i + 1)) (x1.drop i).tail) = _; rw [List.tail_drop]
      rw [e1] at h
      cases s with
      | true =>
        refine Ev.step (f := fun k => amanuensislaw02_NcrBack.l1 k x0 x1 x5 true ((i + 1 : Nat) : Int)) (fun k => ?_) (back_l1 x0 x1 x5 h0 d (i + 1) true (by omega) (by simpa using h))
        rw [amanuensislaw02_NcrBack.l1, if_pos q1, if_pos q5, if_pos rfl, q4]
      | false =>
        refine Ev.step (f := fun k => amanuensislaw02_NcrBack.l1 k x0 x1 x5 (rdOf false x1 (i : Int)) ((i + 1 : Nat) : Int)) (fun k => ?_) (back_l1 x0 x1 x5 h0 d (i + 1) _ (by omega) (by rw [flag_at]; simpa using h))
        rw [amanuensislaw02_NcrBack.l1, if_pos q1, if_pos q5, if_neg (by decide), if_pos q2, q4]
    · have q5 : ¬ (i : Int) < (x1.length : Int) := by omega
      have e1 : x1.drop i = [] := List.drop_of_length_le (by omega)
      rw [e1, some1_nil, Bool.or_false] at h
      refine Ev.step (f := fun k => amanuensislaw02_NcrBack.j3 k x0 x5 s) (fun k => ?_) h
      rw [amanuensislaw02_NcrBack.l1, if_pos q1, if_neg q5]
theorem back_l0 (x0 : List Int) (x1 : List Bool) (h0 : x0.length ≤ 200) : ∀ (d i : Nat) (x5 : List Int), i + d = x0.length → x5.length ≤ 10 * i →
    ((∀ x ∈ x0.drop i, Scal x) → Ev (fun k => amanuensislaw02_NcrBack.l1 k x0 x1 (x5 ++ told (x0.drop i) (x1.drop i)) false 0) true) → Ev (fun k => amanuensislaw02_NcrBack.l0 k x0 x1 x5 (i : Int)) true
  | 0, i, x5, e, h5, h => by
    have hd : x0.drop i = [] := List.drop_of_length_le (by omega)
    rw [hd] at h
    have h' := h (by simp)
    rw [show told [] (x1.drop i) = [] from rfl, List.append_nil] at h'
    have q : ¬ ((i : Int) < (x0.length : Int)) := by omega
    refine Ev.step (f := fun k => amanuensislaw02_NcrBack.l1 k x0 x1 x5 false 0) (fun k => ?_) h'
    rw [amanuensislaw02_NcrBack.l0, if_neg q]
  | d + 1, i, x5, e, h5, h => by
    have hlt : i < x0.length := by omega
    have q1 : (i : Int) < (x0.length : Int) := by omega
    have q2 : 0 ≤ (i : Int) := by omega
    have q4 : wrap64 ((i : Int) + 1) = ((i + 1 : Nat) : Int) := by rw [w64 (by omega) (by omega)]; omega
    have q5 : x5.length < 35184372088832 := by omega
    have hcons : x0.drop i = x0[i] :: x0.drop (i + 1) := List.drop_eq_getElem_cons hlt
    have hrd : rd x0 (i : Int) = x0[i] := by simp [rd, List.getD_eq_getElem?_getD, List.getElem?_eq_getElem hlt]
    have e2 : told (x0.drop i) (x1.drop i) = (if (x1.drop i).headD false = true then refL x0[i] else [x0[i]]) ++ told (x0.drop (i + 1)) (x1.drop (i + 1)) := by
      rw [hcons]; show _ ++ told _ (x1.drop i).tail = _; rw [List.tail_drop]
    by_cases hs : Scal x0[i]
    · have hall : (∀ x ∈ x0.drop (i + 1), Scal x) → ∀ x ∈ x0.drop i, Scal x := by
        intro h x hx
        rw [hcons] at hx
        rcases List.mem_cons.1 hx with rfl | hx
        · exact hs
        · exact h x hx
      have plain : (x1.drop i).headD false = false → Ev (fun k => amanuensislaw02_NcrBack.l0 k x0 x1 (x5 ++ [x0[i]]) ((i + 1 : Nat) : Int)) true := by
        intro hf
        refine back_l0 x0 x1 h0 d (i + 1) _ (by omega) (by simp; omega) (fun hx => ?_)
        have := h (hall hx)
        rw [e2, hf, if_neg (by decide)] at this
        rw [List.append_assoc]; exact this
      by_cases hw : i < x1.length
      · have q6 : (i : Int) < (x1.length : Int) := by omega
        by_cases hf : (x1.drop i).headD false = true
        · have hlr : (refL x0[i]).length ≤ 10 := by rw [ref_length]; have := (@digs_len x0[i]).2; omega
          have q7 : (refL x0[i]).length ≤ 70368744177664 := by omega
          have q8 : x5.length + (refL x0[i]).length < 35184372088832 := by omega
          refine Ev.step (f := fun k => (amanuensisref01_Ref.f k x0[i]).bind fun t => if (strRunes (strOfNums t)).length ≤ 70368744177664 then (if x5.length + (strRunes (strOfNums t)).length < 35184372088832 then amanuensislaw02_NcrBack.l0 k x0 x1 (x5 ++ strRunes (strOfNums t)) ((i + 1 : Nat) : Int) else none) else none) (fun k => ?_) ?_
          · rw [amanuensislaw02_NcrBack.l0, if_pos q1, if_pos q2, hrd, (scalar_yes hs).2]
            simp only [Option.bind_some]
            rw [if_pos trivial, if_pos q6, if_pos (by rw [flag_at]; exact hf), q4]
          · refine Ev.bind (ev_ref hs) ?_
            simp only [strRunes_ascii _ (ref_ascii hs), if_pos q7, if_pos q8]
            refine back_l0 x0 x1 h0 d (i + 1) _ (by omega) (by rw [List.length_append]; omega) (fun hx => ?_)
            have := h (hall hx)
            rw [e2, if_pos hf] at this
            rw [List.append_assoc]; exact this
        · have hf' : (x1.drop i).headD false = false := by simpa using hf
          refine Ev.step (f := fun k => amanuensislaw02_NcrBack.l0 k x0 x1 (x5 ++ [x0[i]]) ((i + 1 : Nat) : Int)) (fun k => ?_) (plain hf')
          rw [amanuensislaw02_NcrBack.l0, if_pos q1, if_pos q2, hrd, (scalar_yes hs).2]
          simp only [Option.bind_some]
          rw [if_pos trivial, if_pos q6, if_neg (by rw [flag_at]; exact hf), if_pos q5, q4]
      · have q6 : ¬ (i : Int) < (x1.length : Int) := by omega
        have hf' : (x1.drop i).headD false = false := by rw [List.drop_of_length_le (by omega)]; rfl
        refine Ev.step (f := fun k => amanuensislaw02_NcrBack.l0 k x0 x1 (x5 ++ [x0[i]]) ((i + 1 : Nat) : Int)) (fun k => ?_) (plain hf')
        rw [amanuensislaw02_NcrBack.l0, if_pos q1, if_pos q2, hrd, (scalar_yes hs).2]
        simp only [Option.bind_some]
        rw [if_pos trivial, if_neg q6, if_pos q5, q4]
    · refine Ev.step (f := fun k => (amanuensislaw02_answers.f k).bind fun t => some t) (fun k => ?_) (Ev.bind ev_answers (Ev.now _))
      rw [amanuensislaw02_NcrBack.l0, if_pos q1, if_pos q2, hrd, (scalar_no hs).2]
      simp only [Option.bind_some]
      rw [if_neg (by decide)]
theorem back_yes (x0 : List Int) (x1 : List Bool) : Ev (fun k => amanuensislaw02_NcrBack.j0 k x0 x1 true) true := by
  refine Ev.step (f := fun k => (amanuensislaw02_answers.f k).bind fun t => some t) (fun k => ?_) (Ev.bind ev_answers (Ev.now _))
  rw [amanuensislaw02_NcrBack.j0, if_pos rfl]
theorem back_all (l : List Int) (w : List Bool) (hr : ∀ x ∈ l, -2147483648 ≤ x ∧ x ≤ 2147483647) (hl4 : l.length * 4 ≤ 140737488351232) : ∃ k, amanuensislaw02_NcrBack.f k l w = some true := by
  refine Ev.rounds ?_
  unfold amanuensislaw02_NcrBack.f
  by_cases h1 : (l.length : Int) > 200
  · simp only [if_pos h1]; exact back_yes l w
  · simp only [if_neg h1]
    have hll : l.length < 1000000000000 := by omega
    by_cases hA : Any l
    · refine Ev.bind ((ev_has hll hr).1 hA).2 ?_
      exact back_yes l w
    · refine Ev.bind ((ev_has hll hr).2 hA).2 ?_
      refine Ev.step (f := fun k => amanuensislaw02_NcrBack.l0 k l w [] ((0 : Nat) : Int)) (fun k => ?_) ?_
      · rw [amanuensislaw02_NcrBack.j0, if_neg (by decide)]; rfl
      · refine back_l0 l w (by omega) l.length 0 [] (by omega) (by simp) (fun hs => ?_)
        rw [List.drop_zero] at hs
        rw [List.drop_zero, List.drop_zero, List.nil_append]
        refine back_l1 l w (told l w) hll l.length 0 false (by omega) ?_
        rw [List.drop_zero, List.drop_zero, Bool.false_or]
        have hlen := told_len l w
        have hx := told_exp l w hs hA
        have hrt : ∀ x ∈ told l w, -2147483648 ≤ x ∧ x ≤ 2147483647 := by
          have : ∀ (l : List Int) (w : List Bool), (∀ x ∈ l, Scal x) → ∀ x ∈ told l w, -2147483648 ≤ x ∧ x ≤ 2147483647 := by
            intro l
            induction l with
            | nil => intro w _ x hx; simp [told] at hx
            | cons a l ih =>
              intro w hs x hx
              unfold told at hx
              rcases List.mem_append.1 hx with hx | hx
              · split at hx
                · have := ref_ascii (hs a (by simp)) x hx; omega
                · have := (hs a (by simp)).rng
                  simp at hx; subst hx; omega
              · exact ih w.tail (fun y hy => hs y (List.mem_cons_of_mem _ hy)) x hx
          exact this l w hs
        have hhas : Ev (fun k => ncr_Has.f k (told l w)) (some1 l w) := by
          by_cases h : Some1 l w
          · rw [(some1_iff l w).2 h]
            exact ((ev_has (by omega) hrt).1 (told_some l w hs h)).1
          · have : some1 l w = false := by
              rw [← Bool.not_eq_true]; exact fun e => h ((some1_iff l w).1 e)
            rw [this]
            exact ((ev_has (by omega) hrt).2 (by rw [told_none l w h]; exact hA)).1
        refine Ev.step (f := fun k => (amanuensislaw02_answers.f k).bind fun t => if t = true then (ncr_Expand.f k (told l w)).bind fun y => (amanuensisref01_Runes.f k y l).bind fun z => if z = true then (ncr_Has.f k (told l w)).bind fun u => some (u == some1 l w) else some false else some false) (fun k => ?_) ?_
        · rw [amanuensislaw02_NcrBack.j3]
        · refine Ev.bind ev_answers ?_
          simp only [if_true]
          refine Ev.bind (ev_exp (by omega) (fun x hx => (hrt x hx).1) hx) (Ev.bind (ev_runes l (by omega)) ?_)
          simp only [if_true]
          refine Ev.bind hhas ?_
          simp only [beq_self_eq_true]; exact Ev.now _
end Go.Proofs.Ytfoffegcglommaa.Pure
