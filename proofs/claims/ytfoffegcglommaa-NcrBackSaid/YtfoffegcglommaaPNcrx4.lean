-- Written by a program of this session (wip/mkprint.py) out of the translation. Not trusted: Lean checks it.
import Derived.Test.YtfoffegcglommaaPNcrx0
import Derived.Test.YtfoffegcglommaaPNcrx1
import Derived.Test.YtfoffegcglommaaPNcrx3
namespace Go.Proofs.Ytfoffegcglommaa.PNcr
open Go.RowKit Go.Proofs.YtfoffegcglommaaW.PrintWords Go.Proofs.YtfoffegcglommaaW.PrintLast Go.Proofs.YtfoffegcglommaaW.PrintMore
attribute [local go_sem] max2_int min2_int max_two min_two max_three min_three max_four min_four   -- for this text's walks alone
set_option linter.unusedVariables false
set_option linter.unusedSimpArgs false

/-! ### amanuensislaw02_NcrJoins: function 5 -/
def amanuensislaw02_NcrJoins.j0 : Nat → List Int → Int → List Int → Bool → Option (Bool)
  | 0, _, _, _, _ => none
  | k + 1, x0, x1, x2, x21 => if x21 = true then ((amanuensislaw02_answers.f k).bind fun t220 => (some t220)) else ((some (([] : List Int) : List Int)).bind fun y221 => (if y221.length + x0.length < 35184372088832 then ((some (y221 ++ x0 : List Int)).bind fun y224 => ((amanuensisref01_Ref.f k x1).bind fun t227 => (if (strRunes (strOfNums t227)).length ≤ 70368744177664 then ((some (strRunes (strOfNums t227) : List Int)).bind fun y230 => (if y224.length + y230.length < 35184372088832 then ((some (y224 ++ y230 : List Int)).bind fun y233 => ((some (([] : List Int) : List Int)).bind fun y236 => (if y236.length + y233.length < 35184372088832 then ((some (y236 ++ y233 : List Int)).bind fun y239 => (if y239.length + x2.length < 35184372088832 then ((ncr_Expand.f k (y239 ++ x2)).bind fun t245 => ((amanuensislaw02_answers.f k).bind fun t248 => (if t248 = true then ((ncr_Expand.f k y233).bind fun t249 => ((ncr_Expand.f k x2).bind fun t252 => (if t249.length + t252.length < 35184372088832 then ((amanuensisref01_Runes.f k t245 (t249 ++ t252)).bind fun t258 => (some t258)) else (none)))) else (some false)))) else (none))) else (none)))) else (none))) else (none)))) else (none)))
def amanuensislaw02_NcrJoins.f (k : Nat) (l0 : List Int) (a1 : Int) (l2 : List Int) : Option (Bool) := if (l0.length : Int) > 100 then (amanuensislaw02_NcrJoins.j0 k l0 a1 l2 true) else (if (l2.length : Int) > 100 then (amanuensislaw02_NcrJoins.j0 k l0 a1 l2 true) else ((amanuensisref01_Scalar.f a1).bind fun t219 => (amanuensislaw02_NcrJoins.j0 k l0 a1 l2 (!t219))))
theorem amanuensislaw02_NcrJoins.mono_l : ∀ k, (∀ y0 y1 y2 y3, LeO (amanuensislaw02_NcrJoins.j0 k y0 y1 y2 y3) (amanuensislaw02_NcrJoins.j0 (k + 1) y0 y1 y2 y3))
  | 0 => fun _ _ _ _ r h => by simp [amanuensislaw02_NcrJoins.j0] at h
  | k + 1 => by
    have ih0 := amanuensislaw02_NcrJoins.mono_l k
    · intro y0 y1 y2 y3
      unfold amanuensislaw02_NcrJoins.j0
      repeat' first
      | (with_reducible exact ih0 _ _ _ _)
      | (with_reducible exact amanuensislaw02_answers.mono _)
      | (with_reducible exact amanuensisref01_Ref.mono _ _)
      | (with_reducible exact amanuensisref01_Runes.mono _ _ _)
      | (with_reducible exact ncr_Expand.mono _ _)
      | (with_reducible exact LeO.refl _)
      | (with_reducible exact LeO.none _)
      | (with_reducible refine LeO.ite ?_ ?_)
      | (with_reducible refine LeO.bind ?_ (fun _ => ?_))
      | exact ih0 _ _ _ _
      | exact amanuensislaw02_answers.mono _
      | exact amanuensisref01_Ref.mono _ _
      | exact amanuensisref01_Runes.mono _ _ _
      | exact ncr_Expand.mono _ _
      | exact LeO.none _
      | refine LeO.ite ?_ ?_
      | refine LeO.bind ?_ (fun _ => ?_)
theorem amanuensislaw02_NcrJoins.mono : ∀ a0 a1 a2 k, LeO (amanuensislaw02_NcrJoins.f k a0 a1 a2) (amanuensislaw02_NcrJoins.f (k + 1) a0 a1 a2) := by
  intro a0 a1 a2 k
  have ih0 := amanuensislaw02_NcrJoins.mono_l k
  unfold amanuensislaw02_NcrJoins.f
  repeat' first
      | (with_reducible exact ih0 _ _ _ _)
      | (with_reducible exact amanuensislaw02_answers.mono _)
      | (with_reducible exact amanuensisref01_Ref.mono _ _)
      | (with_reducible exact amanuensisref01_Runes.mono _ _ _)
      | (with_reducible exact ncr_Expand.mono _ _)
      | (with_reducible exact LeO.refl _)
      | (with_reducible exact LeO.none _)
      | (with_reducible refine LeO.ite ?_ ?_)
      | (with_reducible refine LeO.bind ?_ (fun _ => ?_))
      | exact ih0 _ _ _ _
      | exact amanuensislaw02_answers.mono _
      | exact amanuensisref01_Ref.mono _ _
      | exact amanuensisref01_Runes.mono _ _ _
      | exact ncr_Expand.mono _ _
      | exact LeO.none _
      | refine LeO.ite ?_ ?_
      | refine LeO.bind ?_ (fun _ => ?_)
set_option maxHeartbeats 8000000 in
set_option maxRecDepth 100000 in
theorem amanuensislaw02_NcrJoins.calls (k : Nat) (A0 : Option Addr) (c0 : Nat) (l0 : List Int) (a1 : Int) (A2 : Option Addr) (c2 : Nat) (l2 : List Int) (r : Bool) (w : World) (hr0 : Kd.C (Kd.int .i32) w A0 l0.length l0) (hc0 : l0.length ≤ c0) (hr2 : Kd.C (Kd.int .i32) w A2 l2.length l2) (hc2 : l2.length ≤ c2) (h : amanuensislaw02_NcrJoins.f k l0 a1 l2 = some r) :
    Calls Try.prog 5 #[.slice A0 l0.length c0, .int .i32 a1, .slice A2 l2.length c2] w fun e w' => e = .returned (.bool r) ∧ Below w.heap.size w w' := by
  have HR0 := Aside0.mk hr0
  have HC0 := Aside0.mk hc0
  clear hr0 hc0
  have HR2 := Aside0.mk hr2
  have HC2 := Aside0.mk hc2
  clear hr2 hc2
  have HB := Aside0.mk (Below.refl w.heap.size w)
  have H : (if (l0.length : Int) > 100 then (amanuensislaw02_NcrJoins.j0 k l0 a1 l2 true) else (if (l2.length : Int) > 100 then (amanuensislaw02_NcrJoins.j0 k l0 a1 l2 true) else ((amanuensisref01_Scalar.f a1).bind fun t219 => (amanuensislaw02_NcrJoins.j0 k l0 a1 l2 (!t219))))) = some r := h
  clear h
  have HC4 := Aside0.mk H
  clear H
  go_enter Try.func5, Try.ntmps5
  go_upto_region 1 with (fail)
  go_cut [21] (fun v21 wc => ∃ (kq : Nat) (x21_3 : Bool), v21 = .bool x21_3 ∧ Aside0 (amanuensislaw02_NcrJoins.j0 kq l0 a1 l2 x21_3 = some r) ∧ Aside0 (kq ≤ k) ∧ Aside0 (Below w.heap.size w wc))
  case first =>
    have H := HC4.out
    clear HC4
    by_cases c5 : (l0.length : Int) > 100
    · rw [if_pos c5] at H
      have c5b0 : decide (100 < (l0.length : Int)) = true := decide_eq_true c5
      have c5b1 : decide (100 < l0.length) = true := decide_eq_true (by omega)
      clear c5
      (first | rw [c5b0] | (simp only [i64_w, i32_w]; rw [c5b0]) | skip)
      have H' := Aside0.mk H
      clear H
      go_wp2
      go_meet
      case rel => exact ⟨_, (true), (by first | rfl | (simp; done) | (simp [*]; done)), H', ⟨by first | omega | exact Nat.le_refl _⟩, ⟨by repeat (first | (with_reducible first | exact HB.out | apply below_alloc | apply pw_below_drewN | apply below_drew1) | exact HB.out)⟩⟩
    · rw [if_neg c5] at H
      have c5b0 : decide (100 < (l0.length : Int)) = false := decide_eq_false c5
      have c5b1 : decide (100 < l0.length) = false := decide_eq_false (by omega)
      clear c5
      (first | rw [c5b0] | (simp only [i64_w, i32_w]; rw [c5b0]) | skip)
      by_cases c6 : (l2.length : Int) > 100
      · rw [if_pos c6] at H
        have c6b0 : decide (100 < (l2.length : Int)) = true := decide_eq_true c6
        have c6b1 : decide (100 < l2.length) = true := decide_eq_true (by omega)
        clear c6
        have H' := Aside0.mk H
        clear H
        go_wp2
        go_meet
        case rel => exact ⟨_, (true), (by first | rfl | (simp; done) | (simp [*]; done)), H', ⟨by first | omega | exact Nat.le_refl _⟩, ⟨by repeat (first | (with_reducible first | exact HB.out | apply below_alloc | apply pw_below_drewN | apply below_drew1) | exact HB.out)⟩⟩
      · rw [if_neg c6] at H
        have c6b0 : decide (100 < (l2.length : Int)) = false := decide_eq_false c6
        have c6b1 : decide (100 < l2.length) = false := decide_eq_false (by omega)
        clear c6
        replace H := Option.bind_eq_some_iff.mp H
        obtain ⟨t219, A70, H⟩ := H
        replace H : (amanuensislaw02_NcrJoins.j0 k l0 a1 l2 (!t219)) = some r := H
        have A7 := Aside0.mk A70
        clear A70
        have H' := Aside0.mk H
        clear H
        go_wp2_with (first | (go_at_call 10; (with_reducible refine (amanuensisref01_Scalar.calls a1 t219 _ A7.out).mono ?_); rintro e w' ⟨rfl, ⟨nd, rfl⟩⟩))
        go_meet
        case rel => exact ⟨_, (!t219), (by first | rfl | (simp; done) | (simp [*]; done)), H', ⟨by first | omega | exact Nat.le_refl _⟩, ⟨by repeat (first | (with_reducible first | exact HB.out | apply below_alloc | apply pw_below_drewN | apply below_drew1) | exact HB.out)⟩⟩
  case rest =>
    clear HC4
    try clear c2
    try clear p2
    try clear c5
    try clear c5b0
    try clear c5b1
    try clear c6
    try clear c6b0
    try clear c6b1
    obtain ⟨kq, x21_3, rfl, HA, HJ3, HB⟩ := hcut
    cases kq with
    | zero => exact absurd HA.out (by simp [amanuensislaw02_NcrJoins.j0])
    | succ kj3 =>
      have H := HA.out
      clear HA
      simp only [amanuensislaw02_NcrJoins.j0] at H
      by_cases c8 : x21_3 = true
      · subst c8
        have H1 : ((amanuensislaw02_answers.f kj3).bind fun t220 => (some t220)) = some r := by rw [if_pos rfl] at H; exact H
        clear H
        have H := H1
        clear H1
        replace H := Option.bind_eq_some_iff.mp H
        obtain ⟨t220, A90, H⟩ := H
        replace H : (some t220) = some r := H
        have A9 := Aside0.mk A90
        clear A90
        obtain rfl := Option.some.inj H
        go_wp2_with (first | ((with_reducible refine gate_callee (f := 8) rfl ?_); refine goesL_ (some 22) rfl rfl Try.func8 (by kernel_rfl) rfl #[] rfl (by (try simp only [List.map_toArray, List.map_cons, List.map_nil]); first | done | rfl | (simp only [List.length_drop, List.length_take]; rfl)) ?_; (with_reducible refine (amanuensislaw02_answers.calls kj3  t220 _ A9.out).mono ?_); rintro e w10 ⟨rfl, hb⟩; refine ⟨_, rfl, ?_⟩; have n0_ := Aside0.mk (below_step (by repeat (first | (with_reducible first | exact HB.out | apply below_alloc | apply pw_below_drewN | apply below_drew1) | exact HB.out)) hb); clear HB; have HB := n0_; clear n0_; (try clear hb); (try clear hb2); (try clear hk); (try clear hi)))
        go_ret
        exact ⟨by first | rfl | (simp [errW_none, errW_some] <;> rfl) | (simp [*, errW_none, errW_some] <;> rfl), by repeat (first | (with_reducible first | exact HB.out | apply below_alloc | apply pw_below_drewN | apply below_drew1) | exact HB.out)⟩
      · replace c8 := Bool.eq_false_iff.mpr c8
        subst c8
        have H1 : ((some (([] : List Int) : List Int)).bind fun y221 => (if y221.length + l0.length < 35184372088832 then ((some (y221 ++ l0 : List Int)).bind fun y224 => ((amanuensisref01_Ref.f kj3 a1).bind fun t227 => (if (strRunes (strOfNums t227)).length ≤ 70368744177664 then ((some (strRunes (strOfNums t227) : List Int)).bind fun y230 => (if y224.length + y230.length < 35184372088832 then ((some (y224 ++ y230 : List Int)).bind fun y233 => ((some (([] : List Int) : List Int)).bind fun y236 => (if y236.length + y233.length < 35184372088832 then ((some (y236 ++ y233 : List Int)).bind fun y239 => (if y239.length + l2.length < 35184372088832 then ((ncr_Expand.f kj3 (y239 ++ l2)).bind fun t245 => ((amanuensislaw02_answers.f kj3).bind fun t248 => (if t248 = true then ((ncr_Expand.f kj3 y233).bind fun t249 => ((ncr_Expand.f kj3 l2).bind fun t252 => (if t249.length + t252.length < 35184372088832 then ((amanuensisref01_Runes.f kj3 t245 (t249 ++ t252)).bind fun t258 => (some t258)) else (none)))) else (some false)))) else (none))) else (none)))) else (none))) else (none)))) else (none))) = some r := by rw [if_neg (show ¬ (false = true) by decide)] at H; exact H
        clear H
        have H := H1
        clear H1
        obtain ⟨y221, hy221⟩ : ∃ y_ : List Int, y_ = (([] : List Int)) := ⟨_, rfl⟩
        replace H : (if y221.length + l0.length < 35184372088832 then ((some (y221 ++ l0 : List Int)).bind fun y224 => ((amanuensisref01_Ref.f kj3 a1).bind fun t227 => (if (strRunes (strOfNums t227)).length ≤ 70368744177664 then ((some (strRunes (strOfNums t227) : List Int)).bind fun y230 => (if y224.length + y230.length < 35184372088832 then ((some (y224 ++ y230 : List Int)).bind fun y233 => ((some (([] : List Int) : List Int)).bind fun y236 => (if y236.length + y233.length < 35184372088832 then ((some (y236 ++ y233 : List Int)).bind fun y239 => (if y239.length + l2.length < 35184372088832 then ((ncr_Expand.f kj3 (y239 ++ l2)).bind fun t245 => ((amanuensislaw02_answers.f kj3).bind fun t248 => (if t248 = true then ((ncr_Expand.f kj3 y233).bind fun t249 => ((ncr_Expand.f kj3 l2).bind fun t252 => (if t249.length + t252.length < 35184372088832 then ((amanuensisref01_Runes.f kj3 t245 (t249 ++ t252)).bind fun t258 => (some t258)) else (none)))) else (some false)))) else (none))) else (none)))) else (none))) else (none)))) else (none)) = some r := by first | (rw [hy221]; with_reducible exact H) | (have H2_ := (Option.bind_some _ _).symm.trans H; rw [hy221]; with_reducible exact H2_) | (have H2_ := (Option.bind_some _ _).symm.trans H; with_reducible exact H2_) | with_reducible exact H | (rw [hy221]; exact H) | exact H
        have Ny221 := Aside0.mk hy221
        clear hy221
        by_cases c11 : y221.length + l0.length < 35184372088832
        · rw [if_pos c11] at H
          have LMc11 := Aside0.mk c11
          clear c11
          obtain ⟨y224, hy224⟩ : ∃ y_ : List Int, y_ = (y221 ++ l0) := ⟨_, rfl⟩
          replace H : ((amanuensisref01_Ref.f kj3 a1).bind fun t227 => (if (strRunes (strOfNums t227)).length ≤ 70368744177664 then ((some (strRunes (strOfNums t227) : List Int)).bind fun y230 => (if y224.length + y230.length < 35184372088832 then ((some (y224 ++ y230 : List Int)).bind fun y233 => ((some (([] : List Int) : List Int)).bind fun y236 => (if y236.length + y233.length < 35184372088832 then ((some (y236 ++ y233 : List Int)).bind fun y239 => (if y239.length + l2.length < 35184372088832 then ((ncr_Expand.f kj3 (y239 ++ l2)).bind fun t245 => ((amanuensislaw02_answers.f kj3).bind fun t248 => (if t248 = true then ((ncr_Expand.f kj3 y233).bind fun t249 => ((ncr_Expand.f kj3 l2).bind fun t252 => (if t249.length + t252.length < 35184372088832 then ((amanuensisref01_Runes.f kj3 t245 (t249 ++ t252)).bind fun t258 => (some t258)) else (none)))) else (some false)))) else (none))) else (none)))) else (none))) else (none))) = some r := by first | (rw [hy224]; with_reducible exact H) | (have H2_ := (Option.bind_some _ _).symm.trans H; rw [hy224]; with_reducible exact H2_) | (have H2_ := (Option.bind_some _ _).symm.trans H; with_reducible exact H2_) | with_reducible exact H | (rw [hy224]; exact H) | exact H
          have Ny224 := Aside0.mk hy224
          clear hy224
          replace H := Option.bind_eq_some_iff.mp H
          obtain ⟨t227, A120, H⟩ := H
          replace H : (if (strRunes (strOfNums t227)).length ≤ 70368744177664 then ((some (strRunes (strOfNums t227) : List Int)).bind fun y230 => (if y224.length + y230.length < 35184372088832 then ((some (y224 ++ y230 : List Int)).bind fun y233 => ((some (([] : List Int) : List Int)).bind fun y236 => (if y236.length + y233.length < 35184372088832 then ((some (y236 ++ y233 : List Int)).bind fun y239 => (if y239.length + l2.length < 35184372088832 then ((ncr_Expand.f kj3 (y239 ++ l2)).bind fun t245 => ((amanuensislaw02_answers.f kj3).bind fun t248 => (if t248 = true then ((ncr_Expand.f kj3 y233).bind fun t249 => ((ncr_Expand.f kj3 l2).bind fun t252 => (if t249.length + t252.length < 35184372088832 then ((amanuensisref01_Runes.f kj3 t245 (t249 ++ t252)).bind fun t258 => (some t258)) else (none)))) else (some false)))) else (none))) else (none)))) else (none))) else (none)) = some r := H
          have A12 := Aside0.mk A120
          clear A120
          by_cases c13 : (strRunes (strOfNums t227)).length ≤ 70368744177664
          · rw [if_pos c13] at H
            have c13b0 := eq_true c13
            have c13b1 : decide ((strRunes (strOfNums t227)).length ≤ 70368744177664) = true := decide_eq_true c13
            clear c13
            obtain ⟨y230, hy230⟩ : ∃ y_ : List Int, y_ = (strRunes (strOfNums t227)) := ⟨_, rfl⟩
            replace H : (if y224.length + y230.length < 35184372088832 then ((some (y224 ++ y230 : List Int)).bind fun y233 => ((some (([] : List Int) : List Int)).bind fun y236 => (if y236.length + y233.length < 35184372088832 then ((some (y236 ++ y233 : List Int)).bind fun y239 => (if y239.length + l2.length < 35184372088832 then ((ncr_Expand.f kj3 (y239 ++ l2)).bind fun t245 => ((amanuensislaw02_answers.f kj3).bind fun t248 => (if t248 = true then ((ncr_Expand.f kj3 y233).bind fun t249 => ((ncr_Expand.f kj3 l2).bind fun t252 => (if t249.length + t252.length < 35184372088832 then ((amanuensisref01_Runes.f kj3 t245 (t249 ++ t252)).bind fun t258 => (some t258)) else (none)))) else (some false)))) else (none))) else (none)))) else (none)) = some r := by first | (rw [hy230]; with_reducible exact H) | (have H2_ := (Option.bind_some _ _).symm.trans H; rw [hy230]; with_reducible exact H2_) | (have H2_ := (Option.bind_some _ _).symm.trans H; with_reducible exact H2_) | with_reducible exact H | (rw [hy230]; exact H) | exact H
            have Ny230 := Aside0.mk hy230
            clear hy230
            by_cases c14 : y224.length + y230.length < 35184372088832
            · rw [if_pos c14] at H
              have LMc14 := Aside0.mk c14
              clear c14
              obtain ⟨y233, hy233⟩ : ∃ y_ : List Int, y_ = (y224 ++ y230) := ⟨_, rfl⟩
              replace H : ((some (([] : List Int) : List Int)).bind fun y236 => (if y236.length + y233.length < 35184372088832 then ((some (y236 ++ y233 : List Int)).bind fun y239 => (if y239.length + l2.length < 35184372088832 then ((ncr_Expand.f kj3 (y239 ++ l2)).bind fun t245 => ((amanuensislaw02_answers.f kj3).bind fun t248 => (if t248 = true then ((ncr_Expand.f kj3 y233).bind fun t249 => ((ncr_Expand.f kj3 l2).bind fun t252 => (if t249.length + t252.length < 35184372088832 then ((amanuensisref01_Runes.f kj3 t245 (t249 ++ t252)).bind fun t258 => (some t258)) else (none)))) else (some false)))) else (none))) else (none))) = some r := by first | (rw [hy233]; with_reducible exact H) | (have H2_ := (Option.bind_some _ _).symm.trans H; rw [hy233]; with_reducible exact H2_) | (have H2_ := (Option.bind_some _ _).symm.trans H; with_reducible exact H2_) | with_reducible exact H | (rw [hy233]; exact H) | exact H
              have Ny233 := Aside0.mk hy233
              clear hy233
              obtain ⟨y236, hy236⟩ : ∃ y_ : List Int, y_ = (([] : List Int)) := ⟨_, rfl⟩
              replace H : (if y236.length + y233.length < 35184372088832 then ((some (y236 ++ y233 : List Int)).bind fun y239 => (if y239.length + l2.length < 35184372088832 then ((ncr_Expand.f kj3 (y239 ++ l2)).bind fun t245 => ((amanuensislaw02_answers.f kj3).bind fun t248 => (if t248 = true then ((ncr_Expand.f kj3 y233).bind fun t249 => ((ncr_Expand.f kj3 l2).bind fun t252 => (if t249.length + t252.length < 35184372088832 then ((amanuensisref01_Runes.f kj3 t245 (t249 ++ t252)).bind fun t258 => (some t258)) else (none)))) else (some false)))) else (none))) else (none)) = some r := by first | (rw [hy236]; with_reducible exact H) | (have H2_ := (Option.bind_some _ _).symm.trans H; rw [hy236]; with_reducible exact H2_) | (have H2_ := (Option.bind_some _ _).symm.trans H; with_reducible exact H2_) | with_reducible exact H | (rw [hy236]; exact H) | exact H
              have Ny236 := Aside0.mk hy236
              clear hy236
              by_cases c15 : y236.length + y233.length < 35184372088832
              · rw [if_pos c15] at H
                have LMc15 := Aside0.mk c15
                clear c15
                obtain ⟨y239, hy239⟩ : ∃ y_ : List Int, y_ = (y236 ++ y233) := ⟨_, rfl⟩
                replace H : (if y239.length + l2.length < 35184372088832 then ((ncr_Expand.f kj3 (y239 ++ l2)).bind fun t245 => ((amanuensislaw02_answers.f kj3).bind fun t248 => (if t248 = true then ((ncr_Expand.f kj3 y233).bind fun t249 => ((ncr_Expand.f kj3 l2).bind fun t252 => (if t249.length + t252.length < 35184372088832 then ((amanuensisref01_Runes.f kj3 t245 (t249 ++ t252)).bind fun t258 => (some t258)) else (none)))) else (some false)))) else (none)) = some r := by first | (rw [hy239]; with_reducible exact H) | (have H2_ := (Option.bind_some _ _).symm.trans H; rw [hy239]; with_reducible exact H2_) | (have H2_ := (Option.bind_some _ _).symm.trans H; with_reducible exact H2_) | with_reducible exact H | (rw [hy239]; exact H) | exact H
                have Ny239 := Aside0.mk hy239
                clear hy239
                by_cases c16 : y239.length + l2.length < 35184372088832
                · rw [if_pos c16] at H
                  have LMc16 := Aside0.mk c16
                  clear c16
                  obtain ⟨y242, hy242⟩ : ∃ y_ : List Int, y_ = (y239 ++ l2) := ⟨_, rfl⟩
                  replace H : ((ncr_Expand.f kj3 y242).bind fun t245 => ((amanuensislaw02_answers.f kj3).bind fun t248 => (if t248 = true then ((ncr_Expand.f kj3 y233).bind fun t249 => ((ncr_Expand.f kj3 l2).bind fun t252 => (if t249.length + t252.length < 35184372088832 then ((amanuensisref01_Runes.f kj3 t245 (t249 ++ t252)).bind fun t258 => (some t258)) else (none)))) else (some false)))) = some r := by first | (rw [hy242]; with_reducible exact H) | (have H2_ := (Option.bind_some _ _).symm.trans H; rw [hy242]; with_reducible exact H2_) | (have H2_ := (Option.bind_some _ _).symm.trans H; with_reducible exact H2_) | with_reducible exact H | (rw [hy242]; exact H) | exact H
                  have Ny242 := Aside0.mk hy242
                  clear hy242
                  replace H := Option.bind_eq_some_iff.mp H
                  obtain ⟨t245, A170, H⟩ := H
                  replace H : ((amanuensislaw02_answers.f kj3).bind fun t248 => (if t248 = true then ((ncr_Expand.f kj3 y233).bind fun t249 => ((ncr_Expand.f kj3 l2).bind fun t252 => (if t249.length + t252.length < 35184372088832 then ((amanuensisref01_Runes.f kj3 t245 (t249 ++ t252)).bind fun t258 => (some t258)) else (none)))) else (some false))) = some r := H
                  have A17 := Aside0.mk A170
                  clear A170
                  replace H := Option.bind_eq_some_iff.mp H
                  obtain ⟨t248, A180, H⟩ := H
                  replace H : (if t248 = true then ((ncr_Expand.f kj3 y233).bind fun t249 => ((ncr_Expand.f kj3 l2).bind fun t252 => (if t249.length + t252.length < 35184372088832 then ((amanuensisref01_Runes.f kj3 t245 (t249 ++ t252)).bind fun t258 => (some t258)) else (none)))) else (some false)) = some r := H
                  have A18 := Aside0.mk A180
                  clear A180
                  by_cases c19 : t248 = true
                  · subst c19
                    have H1 : ((ncr_Expand.f kj3 y233).bind fun t249 => ((ncr_Expand.f kj3 l2).bind fun t252 => (if t249.length + t252.length < 35184372088832 then ((amanuensisref01_Runes.f kj3 t245 (t249 ++ t252)).bind fun t258 => (some t258)) else (none)))) = some r := by rw [if_pos rfl] at H; exact H
                    clear H
                    have H := H1
                    clear H1
                    replace H := Option.bind_eq_some_iff.mp H
                    obtain ⟨t249, A200, H⟩ := H
                    replace H : ((ncr_Expand.f kj3 l2).bind fun t252 => (if t249.length + t252.length < 35184372088832 then ((amanuensisref01_Runes.f kj3 t245 (t249 ++ t252)).bind fun t258 => (some t258)) else (none))) = some r := H
                    have A20 := Aside0.mk A200
                    clear A200
                    replace H := Option.bind_eq_some_iff.mp H
                    obtain ⟨t252, A210, H⟩ := H
                    replace H : (if t249.length + t252.length < 35184372088832 then ((amanuensisref01_Runes.f kj3 t245 (t249 ++ t252)).bind fun t258 => (some t258)) else (none)) = some r := H
                    have A21 := Aside0.mk A210
                    clear A210
                    by_cases c22 : t249.length + t252.length < 35184372088832
                    · rw [if_pos c22] at H
                      have LMc22 := Aside0.mk c22
                      clear c22
                      obtain ⟨y255, hy255⟩ : ∃ y_ : List Int, y_ = (t249 ++ t252) := ⟨_, rfl⟩
                      replace H : ((amanuensisref01_Runes.f kj3 t245 y255).bind fun t258 => (some t258)) = some r := by first | (rw [hy255]; with_reducible exact H) | (have H2_ := (Option.bind_some _ _).symm.trans H; rw [hy255]; with_reducible exact H2_) | (have H2_ := (Option.bind_some _ _).symm.trans H; with_reducible exact H2_) | with_reducible exact H | (rw [hy255]; exact H) | exact H
                      have Ny255 := Aside0.mk hy255
                      clear hy255
                      replace H := Option.bind_eq_some_iff.mp H
                      obtain ⟨t258, A230, H⟩ := H
                      replace H : (some t258) = some r := H
                      have A23 := Aside0.mk A230
                      clear A230
                      obtain rfl := Option.some.inj H
                      go_wp2_with (first | ((with_reducible refine gate_dst (N := 23) rfl ?_); (try (refine gate_guard (by rfl) ?_; dsimp only)); refine Kd.R_lit (Kd.int .i32) _ 21 ?hg (N := 23) ?hd (xs := ([] : List Int)) (inner := []) (ok := fun _ => True) (okp := fun _ => True) ?hr ?hp (fun _ hk => hk) trivial (Below.refl _ _) (Nat.le_refl _) (by simp) ?_; (case hd => rfl); (case hg => rfl); (case hr => first | (go_simp; done) | (go_simp; rfl)); (case hp => exact (Reps.none _ _)); intro v222 w24 ho25 hb hg_ hnew_; clear hg_ hnew_; (first | rw [← Ny221.out] at ho25 | (simp only [Int.reduceToNat] at ho25; rw [← Ny221.out] at ho25)); have n0_ := Aside0.mk (Kd.R_lower ho25 (below_size (by repeat (first | (with_reducible first | exact HB.out | apply below_alloc | apply pw_below_drewN | apply below_drew1) | exact HB.out)))); have n1_ := Aside0.mk (below_step (by repeat (first | (with_reducible first | exact HB.out | apply below_alloc | apply pw_below_drewN | apply below_drew1) | exact HB.out)) hb); clear HB; have HO223 := n0_; have HB := n1_; clear n0_ n1_; clear hb ho25) | ((with_reducible refine gate_builtin (b := .append) (xs := #[.tmp 23, .tmp 24]) rfl ?_); (try (refine gate_guard (by rfl) ?_; dsimp only)); at_builtin; refine Kd.R_append_rows (Kd.int .i32) (w0 := w) w.heap.size rfl (.tmp 23) (.tmp 24) 22 21 (.int .i32 0) 4 rfl Try.underlying22 info21 rfl (by decide) (by omega) v222 y221 l0 _ _ _ (fun _ => True) (fun _ => False) rfl rfl ?aO ?aR (fun _ _ h => h) (fun _ h => h.elim) ?aF ?aB ?aS ?aL ?_; (case aR => repeat (first | exact (Kd.C_below HR0.out HB.out) | (with_reducible refine Kd.C_alloc ?_ _) | (with_reducible refine Kd.C_drewN ?_ _) | (with_reducible refine Kd.C_drew ?_))); (case aB => exact (by repeat (first | (with_reducible first | exact HB.out | apply below_alloc | apply pw_below_drewN | apply below_drew1) | exact HB.out))); (case aF => exact (fun _ _ => trivial)); (case aO => exact (by (with_reducible repeat (first | apply Kd.R_alloc | apply Kd.R_drewN | apply Kd.R_drew)); exact HO223.out)); (case aS => exact (below_size (by repeat (first | (with_reducible first | exact HB.out | apply below_alloc | apply pw_below_drewN | apply below_drew1) | exact HB.out)))); (case aL => have := LMc11.out; omega); intro v225 w26 ho hb hg hat; rw [← Ny224.out] at ho; have n0_ := Aside0.mk (hb); have n1_ := Aside0.mk (ho); clear HB; clear HO223; have HB := n0_; have HO226 := n1_; clear n0_ n1_; clear ho hb hg hat) | ((with_reducible refine gate_callee (f := 12) rfl ?_); refine goesL_ (some 27) rfl rfl Try.func12 (by kernel_rfl) rfl #[.int .i32 a1] rfl (by (try simp only [List.map_toArray, List.map_cons, List.map_nil]); first | done | rfl | (simp only [List.length_drop, List.length_take]; rfl)) ?_; (with_reducible refine (amanuensisref01_Ref.calls kj3 a1 t227 _ A12.out).mono ?_); rintro e w27 ⟨v228, rfl, ho0, hb⟩; refine ⟨_, rfl, ?_⟩; have n0_ := Aside0.mk (Kd.R_below (by (with_reducible repeat (first | apply Kd.R_alloc | apply Kd.R_drewN | apply Kd.R_drew)); exact HO226.out) hb); have n1_ := Aside0.mk (Kd.R_lower ho0 (below_size (by repeat (first | (with_reducible first | exact HB.out | apply below_alloc | apply pw_below_drewN | apply below_drew1) | exact HB.out)))); have n2_ := Aside0.mk (below_step (by repeat (first | (with_reducible first | exact HB.out | apply below_alloc | apply pw_below_drewN | apply below_drew1) | exact HB.out)) hb); clear HO226; clear HB; have HO226 := n0_; have HO229 := n1_; have HB := n2_; clear n0_ n1_ n2_; (try clear hb); (try clear hb2); (try clear hk); (try clear hi); (try clear ho0); have hcv28 := own_string (P := Try.prog) Try.underlying24 Try.underlying5 Try.underlying9 (Kd.own_of_R HO229.out)) | ((with_reducible refine gate_dst (N := 29) rfl ?_); (try (refine gate_guard (by rfl) ?_; dsimp only)); refine Given.R_conv _ 21 ?hg (N := 29) ?hd 9 22 _ rfl (strOfNums t227) ?hx Try.underlying9 Try.underlying22 Try.underlying21 (of_decide_eq_true (by first | (with_reducible assumption) | assumption)) (ok := fun _ => True) (okp := fun _ => True) (fun _ hk => hk) trivial (Below.refl _ _) (Nat.le_refl _) ?_; (case hd => rfl); (case hg => rfl); (case hx => first | rfl | (go_simp; done) | (go_simp; rfl)); intro v231 w29 ho30 hb hg_ hnew_; clear hg_ hnew_; (first | rw [← Ny230.out] at ho30 | (simp only [Int.reduceToNat] at ho30; rw [← Ny230.out] at ho30)); have n0_ := Aside0.mk (Kd.R_elder' (by (with_reducible repeat (first | apply Kd.R_alloc | apply Kd.R_drewN | apply Kd.R_drew)); exact HO226.out) (Kd.R_base ho30) hb); have n1_ := Aside0.mk (Kd.R_below (by (with_reducible repeat (first | apply Kd.R_alloc | apply Kd.R_drewN | apply Kd.R_drew)); exact HO229.out) hb); have n2_ := Aside0.mk (Kd.R_lower (Kd.R_new' ho30 (Kd.R_lt (by (with_reducible repeat (first | apply Kd.R_alloc | apply Kd.R_drewN | apply Kd.R_drew)); exact HO226.out))) (below_size (by repeat (first | (with_reducible first | exact HB.out | apply below_alloc | apply pw_below_drewN | apply below_drew1) | exact HB.out)))); have n3_ := Aside0.mk (below_step (by repeat (first | (with_reducible first | exact HB.out | apply below_alloc | apply pw_below_drewN | apply below_drew1) | exact HB.out)) hb); clear HO226; clear HO229; clear HB; have HO226 := n0_; have HO229 := n1_; have HO232 := n2_; have HB := n3_; clear n0_ n1_ n2_ n3_; clear hb ho30; obtain ⟨Ao32, co32, eo32⟩ := Kd.R_slice HO232.out; subst eo32) | ((with_reducible refine gate_builtin (b := .append) (xs := #[.tmp 25, .tmp 29]) rfl ?_); (try (refine gate_guard (by rfl) ?_; dsimp only)); at_builtin; refine Kd.R_append_rows (Kd.int .i32) (w0 := w) w.heap.size rfl (.tmp 25) (.tmp 29) 22 21 (.int .i32 0) 4 rfl Try.underlying22 info21 rfl (by decide) (by omega) v225 y224 y230 _ _ _ (fun k_ => some k_ ≠ (.slice Ao32 y230.length co32 : Value).ownBlock) (fun _ => False) rfl rfl ?aO ?aR (fun _ _ h => h) (fun _ h => h.elim) ?aF ?aB ?aS ?aL ?_; (case aR => repeat (first | exact (Kd.R_reads' HO232.out).2.2 | (with_reducible refine Kd.C_alloc ?_ _) | (with_reducible refine Kd.C_drewN ?_ _) | (with_reducible refine Kd.C_drew ?_))); (case aB => exact (by repeat (first | (with_reducible first | exact HB.out | apply below_alloc | apply pw_below_drewN | apply below_drew1) | exact HB.out))); (case aF => exact (fun k_ hk => Kd.fresh' (Kd.R_lt (by (with_reducible repeat (first | apply Kd.R_alloc | apply Kd.R_drewN | apply Kd.R_drew)); exact HO232.out)) k_ hk)); (case aO => exact (by (with_reducible repeat (first | apply Kd.R_alloc | apply Kd.R_drewN | apply Kd.R_drew)); exact Kd.R_mono HO226.out (fun _ hk => hk.2))); (case aS => exact (below_size (by repeat (first | (with_reducible first | exact HB.out | apply below_alloc | apply pw_below_drewN | apply below_drew1) | exact HB.out)))); (case aL => have := LMc14.out; omega); intro v234 w31 ho hb hg hat; rw [← Ny233.out] at ho; have n0_ := Aside0.mk (Kd.R_over' (by (with_reducible repeat (first | apply Kd.R_alloc | apply Kd.R_drewN | apply Kd.R_drew)); exact HO229.out) (Kd.R_typed (by (with_reducible repeat (first | apply Kd.R_alloc | apply Kd.R_drewN | apply Kd.R_drew)); exact HO226.out)) (by decide) hg); have n1_ := Aside0.mk (Kd.R_after (ok := (fun _ => True)) (by (with_reducible repeat (first | apply Kd.R_alloc | apply Kd.R_drewN | apply Kd.R_drew)); exact HO232.out) hg hat); have n2_ := Aside0.mk (hb); have n3_ := Aside0.mk (ho); clear HO229; clear HO232; clear HB; clear HO226; have HO229 := n0_; have HO232 := n1_; have HB := n2_; have HO235 := n3_; clear n0_ n1_ n2_ n3_; clear ho hb hg hat) | ((with_reducible refine gate_dst (N := 31) rfl ?_); (try (refine gate_guard (by rfl) ?_; dsimp only)); refine Kd.R_lit (Kd.int .i32) _ 21 ?hg (N := 31) ?hd (xs := ([] : List Int)) (inner := []) (ok := fun _ => True) (okp := fun _ => True) ?hr ?hp (fun _ hk => hk) trivial (Below.refl _ _) (Nat.le_refl _) (by simp) ?_; (case hd => rfl); (case hg => rfl); (case hr => first | (go_simp; done) | (go_simp; rfl)); (case hp => exact (Reps.none _ _)); intro v237 w33 ho34 hb hg_ hnew_; clear hg_ hnew_; (first | rw [← Ny236.out] at ho34 | (simp only [Int.reduceToNat] at ho34; rw [← Ny236.out] at ho34)); have n0_ := Aside0.mk (Kd.R_below (by (with_reducible repeat (first | apply Kd.R_alloc | apply Kd.R_drewN | apply Kd.R_drew)); exact HO229.out) hb); have n1_ := Aside0.mk (Kd.R_elder' (by (with_reducible repeat (first | apply Kd.R_alloc | apply Kd.R_drewN | apply Kd.R_drew)); exact HO232.out) (Kd.R_base ho34) hb); have n2_ := Aside0.mk (Kd.R_elder' (by (with_reducible repeat (first | apply Kd.R_alloc | apply Kd.R_drewN | apply Kd.R_drew)); exact HO235.out) (Kd.R_base ho34) hb); have n3_ := Aside0.mk (Kd.R_lower (Kd.R_new' (Kd.R_new' ho34 (Kd.R_lt (by (with_reducible repeat (first | apply Kd.R_alloc | apply Kd.R_drewN | apply Kd.R_drew)); exact HO232.out))) (Kd.R_lt (by (with_reducible repeat (first | apply Kd.R_alloc | apply Kd.R_drewN | apply Kd.R_drew)); exact HO235.out))) (below_size (by repeat (first | (with_reducible first | exact HB.out | apply below_alloc | apply pw_below_drewN | apply below_drew1) | exact HB.out)))); have n4_ := Aside0.mk (below_step (by repeat (first | (with_reducible first | exact HB.out | apply below_alloc | apply pw_below_drewN | apply below_drew1) | exact HB.out)) hb); clear HO229; clear HO232; clear HO235; clear HB; have HO229 := n0_; have HO232 := n1_; have HO235 := n2_; have HO238 := n3_; have HB := n4_; clear n0_ n1_ n2_ n3_ n4_; clear hb ho34; obtain ⟨Ao36, co36, eo36⟩ := Kd.R_slice HO235.out; subst eo36) | ((with_reducible refine gate_builtin (b := .append) (xs := #[.tmp 31, .tmp 32]) rfl ?_); (try (refine gate_guard (by rfl) ?_; dsimp only)); at_builtin; refine Kd.R_append_rows (Kd.int .i32) (w0 := w) w.heap.size rfl (.tmp 31) (.tmp 32) 22 21 (.int .i32 0) 4 rfl Try.underlying22 info21 rfl (by decide) (by omega) v237 y236 y233 _ _ _ (fun k_ => some k_ ≠ (.slice Ao32 y230.length co32 : Value).ownBlock ∧ some k_ ≠ (.slice Ao36 y233.length co36 : Value).ownBlock) (fun _ => False) rfl rfl ?aO ?aR (fun _ _ h => h) (fun _ h => h.elim) ?aF ?aB ?aS ?aL ?_; (case aR => repeat (first | exact (Kd.R_reads' HO235.out).2.2 | (with_reducible refine Kd.C_alloc ?_ _) | (with_reducible refine Kd.C_drewN ?_ _) | (with_reducible refine Kd.C_drew ?_))); (case aB => exact (by repeat (first | (with_reducible first | exact HB.out | apply below_alloc | apply pw_below_drewN | apply below_drew1) | exact HB.out))); (case aF => exact (fun k_ hk => ⟨Kd.fresh' (Kd.R_lt (by (with_reducible repeat (first | apply Kd.R_alloc | apply Kd.R_drewN | apply Kd.R_drew)); exact HO232.out)) k_ hk, Kd.fresh' (Kd.R_lt (by (with_reducible repeat (first | apply Kd.R_alloc | apply Kd.R_drewN | apply Kd.R_drew)); exact HO235.out)) k_ hk⟩)); (case aO => exact (by (with_reducible repeat (first | apply Kd.R_alloc | apply Kd.R_drewN | apply Kd.R_drew)); exact Kd.R_mono HO238.out (fun _ hk => ⟨hk.1.2, hk.2⟩))); (case aS => exact (below_size (by repeat (first | (with_reducible first | exact HB.out | apply below_alloc | apply pw_below_drewN | apply below_drew1) | exact HB.out)))); (case aL => have := LMc15.out; omega); intro v240 w35 ho hb hg hat; rw [← Ny239.out] at ho; have n0_ := Aside0.mk (Kd.R_over' (by (with_reducible repeat (first | apply Kd.R_alloc | apply Kd.R_drewN | apply Kd.R_drew)); exact HO229.out) (Kd.R_typed (by (with_reducible repeat (first | apply Kd.R_alloc | apply Kd.R_drewN | apply Kd.R_drew)); exact HO238.out)) (by decide) hg); have n1_ := Aside0.mk (Kd.R_after (ok := (fun k_ => some k_ ≠ (.slice Ao36 y233.length co36 : Value).ownBlock)) (by (with_reducible repeat (first | apply Kd.R_alloc | apply Kd.R_drewN | apply Kd.R_drew)); exact Kd.R_mono HO232.out (fun _ hk => ⟨hk.1.2, hk.2⟩)) hg hat); have n2_ := Aside0.mk (Kd.R_after (ok := (fun k_ => some k_ ≠ (.slice Ao32 y230.length co32 : Value).ownBlock)) (by (with_reducible repeat (first | apply Kd.R_alloc | apply Kd.R_drewN | apply Kd.R_drew)); exact HO235.out) hg hat); have n3_ := Aside0.mk (hb); have n4_ := Aside0.mk (ho); clear HO229; clear HO232; clear HO235; clear HB; clear HO238; have HO229 := n0_; have HO232 := n1_; have HO235 := n2_; have HB := n3_; have HO241 := n4_; clear n0_ n1_ n2_ n3_ n4_; clear ho hb hg hat) | ((with_reducible refine gate_builtin (b := .append) (xs := #[.tmp 33, .tmp 34]) rfl ?_); (try (refine gate_guard (by rfl) ?_; dsimp only)); at_builtin; refine Kd.R_append_rows (Kd.int .i32) (w0 := w) w.heap.size rfl (.tmp 33) (.tmp 34) 22 21 (.int .i32 0) 4 rfl Try.underlying22 info21 rfl (by decide) (by omega) v240 y239 l2 _ _ _ (fun k_ => some k_ ≠ (.slice Ao32 y230.length co32 : Value).ownBlock ∧ some k_ ≠ (.slice Ao36 y233.length co36 : Value).ownBlock) (fun _ => False) rfl rfl ?aO ?aR (fun _ _ h => h) (fun _ h => h.elim) ?aF ?aB ?aS ?aL ?_; (case aR => repeat (first | exact (Kd.C_below HR2.out HB.out) | (with_reducible refine Kd.C_alloc ?_ _) | (with_reducible refine Kd.C_drewN ?_ _) | (with_reducible refine Kd.C_drew ?_))); (case aB => exact (by repeat (first | (with_reducible first | exact HB.out | apply below_alloc | apply pw_below_drewN | apply below_drew1) | exact HB.out))); (case aF => exact (fun k_ hk => ⟨Kd.fresh' (Kd.R_lt (by (with_reducible repeat (first | apply Kd.R_alloc | apply Kd.R_drewN | apply Kd.R_drew)); exact HO232.out)) k_ hk, Kd.fresh' (Kd.R_lt (by (with_reducible repeat (first | apply Kd.R_alloc | apply Kd.R_drewN | apply Kd.R_drew)); exact HO235.out)) k_ hk⟩)); (case aO => exact (by (with_reducible repeat (first | apply Kd.R_alloc | apply Kd.R_drewN | apply Kd.R_drew)); exact HO241.out)); (case aS => exact (below_size (by repeat (first | (with_reducible first | exact HB.out | apply below_alloc | apply pw_below_drewN | apply below_drew1) | exact HB.out)))); (case aL => have := LMc16.out; omega); intro v243 w37 ho hb hg hat; rw [← Ny242.out] at ho; have n0_ := Aside0.mk (Kd.R_over' (by (with_reducible repeat (first | apply Kd.R_alloc | apply Kd.R_drewN | apply Kd.R_drew)); exact HO229.out) (Kd.R_typed (by (with_reducible repeat (first | apply Kd.R_alloc | apply Kd.R_drewN | apply Kd.R_drew)); exact HO241.out)) (by decide) hg); have n1_ := Aside0.mk (Kd.R_after (ok := (fun k_ => some k_ ≠ (.slice Ao36 y233.length co36 : Value).ownBlock)) (by (with_reducible repeat (first | apply Kd.R_alloc | apply Kd.R_drewN | apply Kd.R_drew)); exact HO232.out) hg hat); have n2_ := Aside0.mk (Kd.R_after (ok := (fun k_ => some k_ ≠ (.slice Ao32 y230.length co32 : Value).ownBlock)) (by (with_reducible repeat (first | apply Kd.R_alloc | apply Kd.R_drewN | apply Kd.R_drew)); exact HO235.out) hg hat); have n3_ := Aside0.mk (hb); have n4_ := Aside0.mk (ho); clear HO229; clear HO232; clear HO235; clear HB; clear HO241; have HO229 := n0_; have HO232 := n1_; have HO235 := n2_; have HB := n3_; have HO244 := n4_; clear n0_ n1_ n2_ n3_ n4_; clear ho hb hg hat; obtain ⟨Ao38, co38, eo38⟩ := Kd.R_slice HO244.out; subst eo38) | ((with_reducible refine gate_callee (f := 14) rfl ?_); refine goesL_ (some 36) rfl rfl Try.func14 (by kernel_rfl) rfl #[.slice Ao38 y242.length co38] rfl (by (try simp only [List.map_toArray, List.map_cons, List.map_nil]); first | done | rfl | (simp only [List.length_drop, List.length_take]; rfl)) ?_; (with_reducible refine (ncr_Expand.calls kj3 _ _ y242 t245 _ ?side1 ?side2 A17.out).mono ?_); (case side1 => repeat (first | exact (Kd.R_reads' HO244.out).2.2 | (with_reducible refine Kd.C_alloc ?_ _) | (with_reducible refine Kd.C_drewN ?_ _) | (with_reducible refine Kd.C_drew ?_))); (case side2 => exact (Kd.R_reads' HO244.out).2.1); rintro e w39 ⟨v246, rfl, ho0, hb⟩; refine ⟨_, rfl, ?_⟩; have n0_ := Aside0.mk (Kd.R_below (by (with_reducible repeat (first | apply Kd.R_alloc | apply Kd.R_drewN | apply Kd.R_drew)); exact HO229.out) hb); have n1_ := Aside0.mk (Kd.R_elder' (by (with_reducible repeat (first | apply Kd.R_alloc | apply Kd.R_drewN | apply Kd.R_drew)); exact HO232.out) (Kd.R_base ho0) hb); have n2_ := Aside0.mk (Kd.R_elder' (by (with_reducible repeat (first | apply Kd.R_alloc | apply Kd.R_drewN | apply Kd.R_drew)); exact HO235.out) (Kd.R_base ho0) hb); have n3_ := Aside0.mk (Kd.R_elder' (by (with_reducible repeat (first | apply Kd.R_alloc | apply Kd.R_drewN | apply Kd.R_drew)); exact HO244.out) (Kd.R_base ho0) hb); have n4_ := Aside0.mk (Kd.R_lower (Kd.R_new' (Kd.R_new' (Kd.R_new' ho0 (Kd.R_lt (by (with_reducible repeat (first | apply Kd.R_alloc | apply Kd.R_drewN | apply Kd.R_drew)); exact HO232.out))) (Kd.R_lt (by (with_reducible repeat (first | apply Kd.R_alloc | apply Kd.R_drewN | apply Kd.R_drew)); exact HO235.out))) (Kd.R_lt (by (with_reducible repeat (first | apply Kd.R_alloc | apply Kd.R_drewN | apply Kd.R_drew)); exact HO244.out))) (below_size (by repeat (first | (with_reducible first | exact HB.out | apply below_alloc | apply pw_below_drewN | apply below_drew1) | exact HB.out)))); have n5_ := Aside0.mk (below_step (by repeat (first | (with_reducible first | exact HB.out | apply below_alloc | apply pw_below_drewN | apply below_drew1) | exact HB.out)) hb); clear HO229; clear HO232; clear HO235; clear HO244; clear HB; have HO229 := n0_; have HO232 := n1_; have HO235 := n2_; have HO244 := n3_; have HO247 := n4_; have HB := n5_; clear n0_ n1_ n2_ n3_ n4_ n5_; (try clear hb); (try clear hb2); (try clear hk); (try clear hi); (try clear ho0)) | ((with_reducible refine gate_callee (f := 8) rfl ?_); refine goesL_ (some 37) rfl rfl Try.func8 (by kernel_rfl) rfl #[] rfl (by (try simp only [List.map_toArray, List.map_cons, List.map_nil]); first | done | rfl | (simp only [List.length_drop, List.length_take]; rfl)) ?_; (with_reducible refine (amanuensislaw02_answers.calls kj3  true _ A18.out).mono ?_); rintro e w40 ⟨rfl, hb⟩; refine ⟨_, rfl, ?_⟩; have n0_ := Aside0.mk (Kd.R_below (by (with_reducible repeat (first | apply Kd.R_alloc | apply Kd.R_drewN | apply Kd.R_drew)); exact HO229.out) hb); have n1_ := Aside0.mk (Kd.R_below (by (with_reducible repeat (first | apply Kd.R_alloc | apply Kd.R_drewN | apply Kd.R_drew)); exact HO232.out) hb); have n2_ := Aside0.mk (Kd.R_below (by (with_reducible repeat (first | apply Kd.R_alloc | apply Kd.R_drewN | apply Kd.R_drew)); exact HO235.out) hb); have n3_ := Aside0.mk (Kd.R_below (by (with_reducible repeat (first | apply Kd.R_alloc | apply Kd.R_drewN | apply Kd.R_drew)); exact HO244.out) hb); have n4_ := Aside0.mk (Kd.R_below (by (with_reducible repeat (first | apply Kd.R_alloc | apply Kd.R_drewN | apply Kd.R_drew)); exact HO247.out) hb); have n5_ := Aside0.mk (below_step (by repeat (first | (with_reducible first | exact HB.out | apply below_alloc | apply pw_below_drewN | apply below_drew1) | exact HB.out)) hb); clear HO229; clear HO232; clear HO235; clear HO244; clear HO247; clear HB; have HO229 := n0_; have HO232 := n1_; have HO235 := n2_; have HO244 := n3_; have HO247 := n4_; have HB := n5_; clear n0_ n1_ n2_ n3_ n4_ n5_; (try clear hb); (try clear hb2); (try clear hk); (try clear hi)) | (go_at_call 14; (with_reducible refine (ncr_Expand.calls kj3 _ _ y233 t249 _ ?side1 ?side2 A20.out).mono ?_); (case side1 => repeat (first | exact (Kd.R_reads' HO235.out).2.2 | (with_reducible refine Kd.C_alloc ?_ _) | (with_reducible refine Kd.C_drewN ?_ _) | (with_reducible refine Kd.C_drew ?_))); (case side2 => exact (Kd.R_reads' HO235.out).2.1); rintro e w41 ⟨v250, rfl, ho0, hb⟩; have n0_ := Aside0.mk (Kd.R_below (by (with_reducible repeat (first | apply Kd.R_alloc | apply Kd.R_drewN | apply Kd.R_drew)); exact HO229.out) hb); have n1_ := Aside0.mk (Kd.R_elder' (by (with_reducible repeat (first | apply Kd.R_alloc | apply Kd.R_drewN | apply Kd.R_drew)); exact HO232.out) (Kd.R_base ho0) hb); have n2_ := Aside0.mk (Kd.R_elder' (by (with_reducible repeat (first | apply Kd.R_alloc | apply Kd.R_drewN | apply Kd.R_drew)); exact HO235.out) (Kd.R_base ho0) hb); have n3_ := Aside0.mk (Kd.R_elder' (by (with_reducible repeat (first | apply Kd.R_alloc | apply Kd.R_drewN | apply Kd.R_drew)); exact HO244.out) (Kd.R_base ho0) hb); have n4_ := Aside0.mk (Kd.R_elder' (by (with_reducible repeat (first | apply Kd.R_alloc | apply Kd.R_drewN | apply Kd.R_drew)); exact HO247.out) (Kd.R_base ho0) hb); have n5_ := Aside0.mk (Kd.R_lower (Kd.R_new' (Kd.R_new' (Kd.R_new' (Kd.R_new' ho0 (Kd.R_lt (by (with_reducible repeat (first | apply Kd.R_alloc | apply Kd.R_drewN | apply Kd.R_drew)); exact HO232.out))) (Kd.R_lt (by (with_reducible repeat (first | apply Kd.R_alloc | apply Kd.R_drewN | apply Kd.R_drew)); exact HO235.out))) (Kd.R_lt (by (with_reducible repeat (first | apply Kd.R_alloc | apply Kd.R_drewN | apply Kd.R_drew)); exact HO244.out))) (Kd.R_lt (by (with_reducible repeat (first | apply Kd.R_alloc | apply Kd.R_drewN | apply Kd.R_drew)); exact HO247.out))) (below_size (by repeat (first | (with_reducible first | exact HB.out | apply below_alloc | apply pw_below_drewN | apply below_drew1) | exact HB.out)))); have n6_ := Aside0.mk (below_step (by repeat (first | (with_reducible first | exact HB.out | apply below_alloc | apply pw_below_drewN | apply below_drew1) | exact HB.out)) hb); clear HO229; clear HO232; clear HO235; clear HO244; clear HO247; clear HB; have HO229 := n0_; have HO232 := n1_; have HO235 := n2_; have HO244 := n3_; have HO247 := n4_; have HO251 := n5_; have HB := n6_; clear n0_ n1_ n2_ n3_ n4_ n5_ n6_; (try clear hb); (try clear hb2); (try clear hk); (try clear hi); (try clear ho0)) | (go_at_call 14; (with_reducible refine (ncr_Expand.calls kj3 _ _ l2 t252 _ ?side1 ?side2 A21.out).mono ?_); (case side1 => repeat (first | exact (Kd.C_below HR2.out HB.out) | (with_reducible refine Kd.C_alloc ?_ _) | (with_reducible refine Kd.C_drewN ?_ _) | (with_reducible refine Kd.C_drew ?_))); (case side2 => exact HC2.out); rintro e w42 ⟨v253, rfl, ho0, hb⟩; have n0_ := Aside0.mk (Kd.R_below (by (with_reducible repeat (first | apply Kd.R_alloc | apply Kd.R_drewN | apply Kd.R_drew)); exact HO229.out) hb); have n1_ := Aside0.mk (Kd.R_elder' (by (with_reducible repeat (first | apply Kd.R_alloc | apply Kd.R_drewN | apply Kd.R_drew)); exact HO232.out) (Kd.R_base ho0) hb); have n2_ := Aside0.mk (Kd.R_elder' (by (with_reducible repeat (first | apply Kd.R_alloc | apply Kd.R_drewN | apply Kd.R_drew)); exact HO235.out) (Kd.R_base ho0) hb); have n3_ := Aside0.mk (Kd.R_elder' (by (with_reducible repeat (first | apply Kd.R_alloc | apply Kd.R_drewN | apply Kd.R_drew)); exact HO244.out) (Kd.R_base ho0) hb); have n4_ := Aside0.mk (Kd.R_elder' (by (with_reducible repeat (first | apply Kd.R_alloc | apply Kd.R_drewN | apply Kd.R_drew)); exact HO247.out) (Kd.R_base ho0) hb); have n5_ := Aside0.mk (Kd.R_elder' (by (with_reducible repeat (first | apply Kd.R_alloc | apply Kd.R_drewN | apply Kd.R_drew)); exact HO251.out) (Kd.R_base ho0) hb); have n6_ := Aside0.mk (Kd.R_lower (Kd.R_new' (Kd.R_new' (Kd.R_new' (Kd.R_new' (Kd.R_new' ho0 (Kd.R_lt (by (with_reducible repeat (first | apply Kd.R_alloc | apply Kd.R_drewN | apply Kd.R_drew)); exact HO232.out))) (Kd.R_lt (by (with_reducible repeat (first | apply Kd.R_alloc | apply Kd.R_drewN | apply Kd.R_drew)); exact HO235.out))) (Kd.R_lt (by (with_reducible repeat (first | apply Kd.R_alloc | apply Kd.R_drewN | apply Kd.R_drew)); exact HO244.out))) (Kd.R_lt (by (with_reducible repeat (first | apply Kd.R_alloc | apply Kd.R_drewN | apply Kd.R_drew)); exact HO247.out))) (Kd.R_lt (by (with_reducible repeat (first | apply Kd.R_alloc | apply Kd.R_drewN | apply Kd.R_drew)); exact HO251.out))) (below_size (by repeat (first | (with_reducible first | exact HB.out | apply below_alloc | apply pw_below_drewN | apply below_drew1) | exact HB.out)))); have n7_ := Aside0.mk (below_step (by repeat (first | (with_reducible first | exact HB.out | apply below_alloc | apply pw_below_drewN | apply below_drew1) | exact HB.out)) hb); clear HO229; clear HO232; clear HO235; clear HO244; clear HO247; clear HO251; clear HB; have HO229 := n0_; have HO232 := n1_; have HO235 := n2_; have HO244 := n3_; have HO247 := n4_; have HO251 := n5_; have HO254 := n6_; have HB := n7_; clear n0_ n1_ n2_ n3_ n4_ n5_ n6_ n7_; (try clear hb); (try clear hb2); (try clear hk); (try clear hi); (try clear ho0); obtain ⟨Ao44, co44, eo44⟩ := Kd.R_slice HO254.out; subst eo44) | ((with_reducible refine gate_builtin (b := .append) (xs := #[.tmp 41, .tmp 43]) rfl ?_); (try (refine gate_guard (by rfl) ?_; dsimp only)); at_builtin; refine Kd.R_append_rows (Kd.int .i32) (w0 := w) w.heap.size rfl (.tmp 41) (.tmp 43) 22 21 (.int .i32 0) 4 rfl Try.underlying22 info21 rfl (by decide) (by omega) v250 t249 t252 _ _ _ (fun k_ => some k_ ≠ (.slice Ao32 y230.length co32 : Value).ownBlock ∧ some k_ ≠ (.slice Ao36 y233.length co36 : Value).ownBlock ∧ some k_ ≠ (.slice Ao38 y242.length co38 : Value).ownBlock ∧ some k_ ≠ (v246 : Value).ownBlock ∧ some k_ ≠ (.slice Ao44 t252.length co44 : Value).ownBlock) (fun _ => False) rfl rfl ?aO ?aR (fun _ _ h => h) (fun _ h => h.elim) ?aF ?aB ?aS ?aL ?_; (case aR => repeat (first | exact (Kd.R_reads' HO254.out).2.2 | (with_reducible refine Kd.C_alloc ?_ _) | (with_reducible refine Kd.C_drewN ?_ _) | (with_reducible refine Kd.C_drew ?_))); (case aB => exact (by repeat (first | (with_reducible first | exact HB.out | apply below_alloc | apply pw_below_drewN | apply below_drew1) | exact HB.out))); (case aF => exact (fun k_ hk => ⟨Kd.fresh' (Kd.R_lt (by (with_reducible repeat (first | apply Kd.R_alloc | apply Kd.R_drewN | apply Kd.R_drew)); exact HO232.out)) k_ hk, Kd.fresh' (Kd.R_lt (by (with_reducible repeat (first | apply Kd.R_alloc | apply Kd.R_drewN | apply Kd.R_drew)); exact HO235.out)) k_ hk, Kd.fresh' (Kd.R_lt (by (with_reducible repeat (first | apply Kd.R_alloc | apply Kd.R_drewN | apply Kd.R_drew)); exact HO244.out)) k_ hk, Kd.fresh' (Kd.R_lt (by (with_reducible repeat (first | apply Kd.R_alloc | apply Kd.R_drewN | apply Kd.R_drew)); exact HO247.out)) k_ hk, Kd.fresh' (Kd.R_lt (by (with_reducible repeat (first | apply Kd.R_alloc | apply Kd.R_drewN | apply Kd.R_drew)); exact HO254.out)) k_ hk⟩)); (case aO => exact (by (with_reducible repeat (first | apply Kd.R_alloc | apply Kd.R_drewN | apply Kd.R_drew)); exact Kd.R_mono HO251.out (fun _ hk => ⟨hk.1.1.1.1.2, ⟨hk.1.1.1.2, ⟨hk.1.1.2, ⟨hk.1.2, hk.2⟩⟩⟩⟩))); (case aS => exact (below_size (by repeat (first | (with_reducible first | exact HB.out | apply below_alloc | apply pw_below_drewN | apply below_drew1) | exact HB.out)))); (case aL => have := LMc22.out; omega); intro v256 w43 ho hb hg hat; rw [← Ny255.out] at ho; have n0_ := Aside0.mk (Kd.R_over' (by (with_reducible repeat (first | apply Kd.R_alloc | apply Kd.R_drewN | apply Kd.R_drew)); exact HO229.out) (Kd.R_typed (by (with_reducible repeat (first | apply Kd.R_alloc | apply Kd.R_drewN | apply Kd.R_drew)); exact HO251.out)) (by decide) hg); have n1_ := Aside0.mk (Kd.R_after (ok := (fun k_ => some k_ ≠ (.slice Ao36 y233.length co36 : Value).ownBlock ∧ some k_ ≠ (.slice Ao38 y242.length co38 : Value).ownBlock ∧ some k_ ≠ (v246 : Value).ownBlock ∧ some k_ ≠ (.slice Ao44 t252.length co44 : Value).ownBlock)) (by (with_reducible repeat (first | apply Kd.R_alloc | apply Kd.R_drewN | apply Kd.R_drew)); exact Kd.R_mono HO232.out (fun _ hk => ⟨⟨hk.1.1.1.1, ⟨hk.1.1.1.2, ⟨hk.1.1.2, hk.2⟩⟩⟩, hk.1.2⟩)) hg hat); have n2_ := Aside0.mk (Kd.R_after (ok := (fun k_ => some k_ ≠ (.slice Ao32 y230.length co32 : Value).ownBlock ∧ some k_ ≠ (.slice Ao38 y242.length co38 : Value).ownBlock ∧ some k_ ≠ (v246 : Value).ownBlock ∧ some k_ ≠ (.slice Ao44 t252.length co44 : Value).ownBlock)) (by (with_reducible repeat (first | apply Kd.R_alloc | apply Kd.R_drewN | apply Kd.R_drew)); exact Kd.R_mono HO235.out (fun _ hk => ⟨⟨hk.1.1.1.1, ⟨hk.1.1.1.2, ⟨hk.1.1.2, hk.2⟩⟩⟩, hk.1.2⟩)) hg hat); have n3_ := Aside0.mk (Kd.R_after (ok := (fun k_ => some k_ ≠ (.slice Ao32 y230.length co32 : Value).ownBlock ∧ some k_ ≠ (.slice Ao36 y233.length co36 : Value).ownBlock ∧ some k_ ≠ (v246 : Value).ownBlock ∧ some k_ ≠ (.slice Ao44 t252.length co44 : Value).ownBlock)) (by (with_reducible repeat (first | apply Kd.R_alloc | apply Kd.R_drewN | apply Kd.R_drew)); exact Kd.R_mono HO244.out (fun _ hk => ⟨⟨hk.1.1.1.1, ⟨hk.1.1.1.2, ⟨hk.1.1.2, hk.2⟩⟩⟩, hk.1.2⟩)) hg hat); have n4_ := Aside0.mk (Kd.R_after (ok := (fun k_ => some k_ ≠ (.slice Ao32 y230.length co32 : Value).ownBlock ∧ some k_ ≠ (.slice Ao36 y233.length co36 : Value).ownBlock ∧ some k_ ≠ (.slice Ao38 y242.length co38 : Value).ownBlock ∧ some k_ ≠ (.slice Ao44 t252.length co44 : Value).ownBlock)) (by (with_reducible repeat (first | apply Kd.R_alloc | apply Kd.R_drewN | apply Kd.R_drew)); exact Kd.R_mono HO247.out (fun _ hk => ⟨⟨hk.1.1.1.1.2, ⟨hk.1.1.1.2, ⟨hk.1.1.2, hk.2⟩⟩⟩, hk.1.2⟩)) hg hat); have n5_ := Aside0.mk (Kd.R_after (ok := (fun k_ => some k_ ≠ (.slice Ao32 y230.length co32 : Value).ownBlock ∧ some k_ ≠ (.slice Ao36 y233.length co36 : Value).ownBlock ∧ some k_ ≠ (.slice Ao38 y242.length co38 : Value).ownBlock ∧ some k_ ≠ (v246 : Value).ownBlock)) (by (with_reducible repeat (first | apply Kd.R_alloc | apply Kd.R_drewN | apply Kd.R_drew)); exact Kd.R_mono HO254.out (fun _ hk => ⟨⟨hk.1.1.1.1.2, ⟨hk.1.1.1.2, ⟨hk.1.1.2, hk.1.2⟩⟩⟩, hk.2⟩)) hg hat); have n6_ := Aside0.mk (hb); have n7_ := Aside0.mk (ho); clear HO229; clear HO232; clear HO235; clear HO244; clear HO247; clear HO254; clear HB; clear HO251; have HO229 := n0_; have HO232 := n1_; have HO235 := n2_; have HO244 := n3_; have HO247 := n4_; have HO254 := n5_; have HB := n6_; have HO257 := n7_; clear n0_ n1_ n2_ n3_ n4_ n5_ n6_ n7_; clear ho hb hg hat; obtain ⟨Ao45, co45, eo45⟩ := Kd.R_slice HO247.out; subst eo45; obtain ⟨Ao46, co46, eo46⟩ := Kd.R_slice HO257.out; subst eo46) | (go_at_call 15; (with_reducible refine (amanuensisref01_Runes.calls kj3 _ _ t245 _ _ y255 t258 _ ?side1 ?side2 ?side3 ?side4 A23.out).mono ?_); (case side1 => repeat (first | exact (Kd.R_reads' HO247.out).2.2 | (with_reducible refine Kd.C_alloc ?_ _) | (with_reducible refine Kd.C_drewN ?_ _) | (with_reducible refine Kd.C_drew ?_))); (case side2 => exact (Kd.R_reads' HO247.out).2.1); (case side3 => repeat (first | exact (Kd.R_reads' HO257.out).2.2 | (with_reducible refine Kd.C_alloc ?_ _) | (with_reducible refine Kd.C_drewN ?_ _) | (with_reducible refine Kd.C_drew ?_))); (case side4 => exact (Kd.R_reads' HO257.out).2.1); rintro e w' ⟨rfl, ⟨nd, rfl⟩⟩))
                      go_ret
                      exact ⟨by first | rfl | (simp [errW_none, errW_some] <;> rfl) | (simp [*, errW_none, errW_some] <;> rfl), by repeat (first | (with_reducible first | exact HB.out | apply below_alloc | apply pw_below_drewN | apply below_drew1) | exact HB.out)⟩
                    · rw [if_neg c22] at H
                      exact absurd H (by simp)
                  · replace c19 := Bool.eq_false_iff.mpr c19
                    subst c19
                    have H1 : (some false) = some r := by rw [if_neg (show ¬ (false = true) by decide)] at H; exact H
                    clear H
                    have H := H1
                    clear H1
                    obtain rfl := Option.some.inj H
                    go_wp2_with (first | ((with_reducible refine gate_dst (N := 23) rfl ?_); (try (refine gate_guard (by rfl) ?_; dsimp only)); refine Kd.R_lit (Kd.int .i32) _ 21 ?hg (N := 23) ?hd (xs := ([] : List Int)) (inner := []) (ok := fun _ => True) (okp := fun _ => True) ?hr ?hp (fun _ hk => hk) trivial (Below.refl _ _) (Nat.le_refl _) (by simp) ?_; (case hd => rfl); (case hg => rfl); (case hr => first | (go_simp; done) | (go_simp; rfl)); (case hp => exact (Reps.none _ _)); intro v222 w47 ho48 hb hg_ hnew_; clear hg_ hnew_; (first | rw [← Ny221.out] at ho48 | (simp only [Int.reduceToNat] at ho48; rw [← Ny221.out] at ho48)); have n0_ := Aside0.mk (Kd.R_lower ho48 (below_size (by repeat (first | (with_reducible first | exact HB.out | apply below_alloc | apply pw_below_drewN | apply below_drew1) | exact HB.out)))); have n1_ := Aside0.mk (below_step (by repeat (first | (with_reducible first | exact HB.out | apply below_alloc | apply pw_below_drewN | apply below_drew1) | exact HB.out)) hb); clear HB; have HO223 := n0_; have HB := n1_; clear n0_ n1_; clear hb ho48) | ((with_reducible refine gate_builtin (b := .append) (xs := #[.tmp 23, .tmp 24]) rfl ?_); (try (refine gate_guard (by rfl) ?_; dsimp only)); at_builtin; refine Kd.R_append_rows (Kd.int .i32) (w0 := w) w.heap.size rfl (.tmp 23) (.tmp 24) 22 21 (.int .i32 0) 4 rfl Try.underlying22 info21 rfl (by decide) (by omega) v222 y221 l0 _ _ _ (fun _ => True) (fun _ => False) rfl rfl ?aO ?aR (fun _ _ h => h) (fun _ h => h.elim) ?aF ?aB ?aS ?aL ?_; (case aR => repeat (first | exact (Kd.C_below HR0.out HB.out) | (with_reducible refine Kd.C_alloc ?_ _) | (with_reducible refine Kd.C_drewN ?_ _) | (with_reducible refine Kd.C_drew ?_))); (case aB => exact (by repeat (first | (with_reducible first | exact HB.out | apply below_alloc | apply pw_below_drewN | apply below_drew1) | exact HB.out))); (case aF => exact (fun _ _ => trivial)); (case aO => exact (by (with_reducible repeat (first | apply Kd.R_alloc | apply Kd.R_drewN | apply Kd.R_drew)); exact HO223.out)); (case aS => exact (below_size (by repeat (first | (with_reducible first | exact HB.out | apply below_alloc | apply pw_below_drewN | apply below_drew1) | exact HB.out)))); (case aL => have := LMc11.out; omega); intro v225 w49 ho hb hg hat; rw [← Ny224.out] at ho; have n0_ := Aside0.mk (hb); have n1_ := Aside0.mk (ho); clear HB; clear HO223; have HB := n0_; have HO226 := n1_; clear n0_ n1_; clear ho hb hg hat) | ((with_reducible refine gate_callee (f := 12) rfl ?_); refine goesL_ (some 27) rfl rfl Try.func12 (by kernel_rfl) rfl #[.int .i32 a1] rfl (by (try simp only [List.map_toArray, List.map_cons, List.map_nil]); first | done | rfl | (simp only [List.length_drop, List.length_take]; rfl)) ?_; (with_reducible refine (amanuensisref01_Ref.calls kj3 a1 t227 _ A12.out).mono ?_); rintro e w50 ⟨v228, rfl, ho0, hb⟩; refine ⟨_, rfl, ?_⟩; have n0_ := Aside0.mk (Kd.R_below (by (with_reducible repeat (first | apply Kd.R_alloc | apply Kd.R_drewN | apply Kd.R_drew)); exact HO226.out) hb); have n1_ := Aside0.mk (Kd.R_lower ho0 (below_size (by repeat (first | (with_reducible first | exact HB.out | apply below_alloc | apply pw_below_drewN | apply below_drew1) | exact HB.out)))); have n2_ := Aside0.mk (below_step (by repeat (first | (with_reducible first | exact HB.out | apply below_alloc | apply pw_below_drewN | apply below_drew1) | exact HB.out)) hb); clear HO226; clear HB; have HO226 := n0_; have HO229 := n1_; have HB := n2_; clear n0_ n1_ n2_; (try clear hb); (try clear hb2); (try clear hk); (try clear hi); (try clear ho0); have hcv51 := own_string (P := Try.prog) Try.underlying24 Try.underlying5 Try.underlying9 (Kd.own_of_R HO229.out)) | ((with_reducible refine gate_dst (N := 29) rfl ?_); (try (refine gate_guard (by rfl) ?_; dsimp only)); refine Given.R_conv _ 21 ?hg (N := 29) ?hd 9 22 _ rfl (strOfNums t227) ?hx Try.underlying9 Try.underlying22 Try.underlying21 (of_decide_eq_true (by first | (with_reducible assumption) | assumption)) (ok := fun _ => True) (okp := fun _ => True) (fun _ hk => hk) trivial (Below.refl _ _) (Nat.le_refl _) ?_; (case hd => rfl); (case hg => rfl); (case hx => first | rfl | (go_simp; done) | (go_simp; rfl)); intro v231 w52 ho53 hb hg_ hnew_; clear hg_ hnew_; (first | rw [← Ny230.out] at ho53 | (simp only [Int.reduceToNat] at ho53; rw [← Ny230.out] at ho53)); have n0_ := Aside0.mk (Kd.R_elder' (by (with_reducible repeat (first | apply Kd.R_alloc | apply Kd.R_drewN | apply Kd.R_drew)); exact HO226.out) (Kd.R_base ho53) hb); have n1_ := Aside0.mk (Kd.R_below (by (with_reducible repeat (first | apply Kd.R_alloc | apply Kd.R_drewN | apply Kd.R_drew)); exact HO229.out) hb); have n2_ := Aside0.mk (Kd.R_lower (Kd.R_new' ho53 (Kd.R_lt (by (with_reducible repeat (first | apply Kd.R_alloc | apply Kd.R_drewN | apply Kd.R_drew)); exact HO226.out))) (below_size (by repeat (first | (with_reducible first | exact HB.out | apply below_alloc | apply pw_below_drewN | apply below_drew1) | exact HB.out)))); have n3_ := Aside0.mk (below_step (by repeat (first | (with_reducible first | exact HB.out | apply below_alloc | apply pw_below_drewN | apply below_drew1) | exact HB.out)) hb); clear HO226; clear HO229; clear HB; have HO226 := n0_; have HO229 := n1_; have HO232 := n2_; have HB := n3_; clear n0_ n1_ n2_ n3_; clear hb ho53; obtain ⟨Ao55, co55, eo55⟩ := Kd.R_slice HO232.out; subst eo55) | ((with_reducible refine gate_builtin (b := .append) (xs := #[.tmp 25, .tmp 29]) rfl ?_); (try (refine gate_guard (by rfl) ?_; dsimp only)); at_builtin; refine Kd.R_append_rows (Kd.int .i32) (w0 := w) w.heap.size rfl (.tmp 25) (.tmp 29) 22 21 (.int .i32 0) 4 rfl Try.underlying22 info21 rfl (by decide) (by omega) v225 y224 y230 _ _ _ (fun k_ => some k_ ≠ (.slice Ao55 y230.length co55 : Value).ownBlock) (fun _ => False) rfl rfl ?aO ?aR (fun _ _ h => h) (fun _ h => h.elim) ?aF ?aB ?aS ?aL ?_; (case aR => repeat (first | exact (Kd.R_reads' HO232.out).2.2 | (with_reducible refine Kd.C_alloc ?_ _) | (with_reducible refine Kd.C_drewN ?_ _) | (with_reducible refine Kd.C_drew ?_))); (case aB => exact (by repeat (first | (with_reducible first | exact HB.out | apply below_alloc | apply pw_below_drewN | apply below_drew1) | exact HB.out))); (case aF => exact (fun k_ hk => Kd.fresh' (Kd.R_lt (by (with_reducible repeat (first | apply Kd.R_alloc | apply Kd.R_drewN | apply Kd.R_drew)); exact HO232.out)) k_ hk)); (case aO => exact (by (with_reducible repeat (first | apply Kd.R_alloc | apply Kd.R_drewN | apply Kd.R_drew)); exact Kd.R_mono HO226.out (fun _ hk => hk.2))); (case aS => exact (below_size (by repeat (first | (with_reducible first | exact HB.out | apply below_alloc | apply pw_below_drewN | apply below_drew1) | exact HB.out)))); (case aL => have := LMc14.out; omega); intro v234 w54 ho hb hg hat; rw [← Ny233.out] at ho; have n0_ := Aside0.mk (Kd.R_over' (by (with_reducible repeat (first | apply Kd.R_alloc | apply Kd.R_drewN | apply Kd.R_drew)); exact HO229.out) (Kd.R_typed (by (with_reducible repeat (first | apply Kd.R_alloc | apply Kd.R_drewN | apply Kd.R_drew)); exact HO226.out)) (by decide) hg); have n1_ := Aside0.mk (Kd.R_after (ok := (fun _ => True)) (by (with_reducible repeat (first | apply Kd.R_alloc | apply Kd.R_drewN | apply Kd.R_drew)); exact HO232.out) hg hat); have n2_ := Aside0.mk (hb); have n3_ := Aside0.mk (ho); clear HO229; clear HO232; clear HB; clear HO226; have HO229 := n0_; have HO232 := n1_; have HB := n2_; have HO235 := n3_; clear n0_ n1_ n2_ n3_; clear ho hb hg hat) | ((with_reducible refine gate_dst (N := 31) rfl ?_); (try (refine gate_guard (by rfl) ?_; dsimp only)); refine Kd.R_lit (Kd.int .i32) _ 21 ?hg (N := 31) ?hd (xs := ([] : List Int)) (inner := []) (ok := fun _ => True) (okp := fun _ => True) ?hr ?hp (fun _ hk => hk) trivial (Below.refl _ _) (Nat.le_refl _) (by simp) ?_; (case hd => rfl); (case hg => rfl); (case hr => first | (go_simp; done) | (go_simp; rfl)); (case hp => exact (Reps.none _ _)); intro v237 w56 ho57 hb hg_ hnew_; clear hg_ hnew_; (first | rw [← Ny236.out] at ho57 | (simp only [Int.reduceToNat] at ho57; rw [← Ny236.out] at ho57)); have n0_ := Aside0.mk (Kd.R_below (by (with_reducible repeat (first | apply Kd.R_alloc | apply Kd.R_drewN | apply Kd.R_drew)); exact HO229.out) hb); have n1_ := Aside0.mk (Kd.R_elder' (by (with_reducible repeat (first | apply Kd.R_alloc | apply Kd.R_drewN | apply Kd.R_drew)); exact HO232.out) (Kd.R_base ho57) hb); have n2_ := Aside0.mk (Kd.R_elder' (by (with_reducible repeat (first | apply Kd.R_alloc | apply Kd.R_drewN | apply Kd.R_drew)); exact HO235.out) (Kd.R_base ho57) hb); have n3_ := Aside0.mk (Kd.R_lower (Kd.R_new' (Kd.R_new' ho57 (Kd.R_lt (by (with_reducible repeat (first | apply Kd.R_alloc | apply Kd.R_drewN | apply Kd.R_drew)); exact HO232.out))) (Kd.R_lt (by (with_reducible repeat (first | apply Kd.R_alloc | apply Kd.R_drewN | apply Kd.R_drew)); exact HO235.out))) (below_size (by repeat (first | (with_reducible first | exact HB.out | apply below_alloc | apply pw_below_drewN | apply below_drew1) | exact HB.out)))); have n4_ := Aside0.mk (below_step (by repeat (first | (with_reducible first | exact HB.out | apply below_alloc | apply pw_below_drewN | apply below_drew1) | exact HB.out)) hb); clear HO229; clear HO232; clear HO235; clear HB; have HO229 := n0_; have HO232 := n1_; have HO235 := n2_; have HO238 := n3_; have HB := n4_; clear n0_ n1_ n2_ n3_ n4_; clear hb ho57; obtain ⟨Ao59, co59, eo59⟩ := Kd.R_slice HO235.out; subst eo59) | ((with_reducible refine gate_builtin (b := .append) (xs := #[.tmp 31, .tmp 32]) rfl ?_); (try (refine gate_guard (by rfl) ?_; dsimp only)); at_builtin; refine Kd.R_append_rows (Kd.int .i32) (w0 := w) w.heap.size rfl (.tmp 31) (.tmp 32) 22 21 (.int .i32 0) 4 rfl Try.underlying22 info21 rfl (by decide) (by omega) v237 y236 y233 _ _ _ (fun k_ => some k_ ≠ (.slice Ao55 y230.length co55 : Value).ownBlock ∧ some k_ ≠ (.slice Ao59 y233.length co59 : Value).ownBlock) (fun _ => False) rfl rfl ?aO ?aR (fun _ _ h => h) (fun _ h => h.elim) ?aF ?aB ?aS ?aL ?_; (case aR => repeat (first | exact (Kd.R_reads' HO235.out).2.2 | (with_reducible refine Kd.C_alloc ?_ _) | (with_reducible refine Kd.C_drewN ?_ _) | (with_reducible refine Kd.C_drew ?_))); (case aB => exact (by repeat (first | (with_reducible first | exact HB.out | apply below_alloc | apply pw_below_drewN | apply below_drew1) | exact HB.out))); (case aF => exact (fun k_ hk => ⟨Kd.fresh' (Kd.R_lt (by (with_reducible repeat (first | apply Kd.R_alloc | apply Kd.R_drewN | apply Kd.R_drew)); exact HO232.out)) k_ hk, Kd.fresh' (Kd.R_lt (by (with_reducible repeat (first | apply Kd.R_alloc | apply Kd.R_drewN | apply Kd.R_drew)); exact HO235.out)) k_ hk⟩)); (case aO => exact (by (with_reducible repeat (first | apply Kd.R_alloc | apply Kd.R_drewN | apply Kd.R_drew)); exact Kd.R_mono HO238.out (fun _ hk => ⟨hk.1.2, hk.2⟩))); (case aS => exact (below_size (by repeat (first | (with_reducible first | exact HB.out | apply below_alloc | apply pw_below_drewN | apply below_drew1) | exact HB.out)))); (case aL => have := LMc15.out; omega); intro v240 w58 ho hb hg hat; rw [← Ny239.out] at ho; have n0_ := Aside0.mk (Kd.R_over' (by (with_reducible repeat (first | apply Kd.R_alloc | apply Kd.R_drewN | apply Kd.R_drew)); exact HO229.out) (Kd.R_typed (by (with_reducible repeat (first | apply Kd.R_alloc | apply Kd.R_drewN | apply Kd.R_drew)); exact HO238.out)) (by decide) hg); have n1_ := Aside0.mk (Kd.R_after (ok := (fun k_ => some k_ ≠ (.slice Ao59 y233.length co59 : Value).ownBlock)) (by (with_reducible repeat (first | apply Kd.R_alloc | apply Kd.R_drewN | apply Kd.R_drew)); exact Kd.R_mono HO232.out (fun _ hk => ⟨hk.1.2, hk.2⟩)) hg hat); have n2_ := Aside0.mk (Kd.R_after (ok := (fun k_ => some k_ ≠ (.slice Ao55 y230.length co55 : Value).ownBlock)) (by (with_reducible repeat (first | apply Kd.R_alloc | apply Kd.R_drewN | apply Kd.R_drew)); exact HO235.out) hg hat); have n3_ := Aside0.mk (hb); have n4_ := Aside0.mk (ho); clear HO229; clear HO232; clear HO235; clear HB; clear HO238; have HO229 := n0_; have HO232 := n1_; have HO235 := n2_; have HB := n3_; have HO241 := n4_; clear n0_ n1_ n2_ n3_ n4_; clear ho hb hg hat) | ((with_reducible refine gate_builtin (b := .append) (xs := #[.tmp 33, .tmp 34]) rfl ?_); (try (refine gate_guard (by rfl) ?_; dsimp only)); at_builtin; refine Kd.R_append_rows (Kd.int .i32) (w0 := w) w.heap.size rfl (.tmp 33) (.tmp 34) 22 21 (.int .i32 0) 4 rfl Try.underlying22 info21 rfl (by decide) (by omega) v240 y239 l2 _ _ _ (fun k_ => some k_ ≠ (.slice Ao55 y230.length co55 : Value).ownBlock ∧ some k_ ≠ (.slice Ao59 y233.length co59 : Value).ownBlock) (fun _ => False) rfl rfl ?aO ?aR (fun _ _ h => h) (fun _ h => h.elim) ?aF ?aB ?aS ?aL ?_; (case aR => repeat (first | exact (Kd.C_below HR2.out HB.out) | (with_reducible refine Kd.C_alloc ?_ _) | (with_reducible refine Kd.C_drewN ?_ _) | (with_reducible refine Kd.C_drew ?_))); (case aB => exact (by repeat (first | (with_reducible first | exact HB.out | apply below_alloc | apply pw_below_drewN | apply below_drew1) | exact HB.out))); (case aF => exact (fun k_ hk => ⟨Kd.fresh' (Kd.R_lt (by (with_reducible repeat (first | apply Kd.R_alloc | apply Kd.R_drewN | apply Kd.R_drew)); exact HO232.out)) k_ hk, Kd.fresh' (Kd.R_lt (by (with_reducible repeat (first | apply Kd.R_alloc | apply Kd.R_drewN | apply Kd.R_drew)); exact HO235.out)) k_ hk⟩)); (case aO => exact (by (with_reducible repeat (first | apply Kd.R_alloc | apply Kd.R_drewN | apply Kd.R_drew)); exact HO241.out)); (case aS => exact (below_size (by repeat (first | (with_reducible first | exact HB.out | apply below_alloc | apply pw_below_drewN | apply below_drew1) | exact HB.out)))); (case aL => have := LMc16.out; omega); intro v243 w60 ho hb hg hat; rw [← Ny242.out] at ho; have n0_ := Aside0.mk (Kd.R_over' (by (with_reducible repeat (first | apply Kd.R_alloc | apply Kd.R_drewN | apply Kd.R_drew)); exact HO229.out) (Kd.R_typed (by (with_reducible repeat (first | apply Kd.R_alloc | apply Kd.R_drewN | apply Kd.R_drew)); exact HO241.out)) (by decide) hg); have n1_ := Aside0.mk (Kd.R_after (ok := (fun k_ => some k_ ≠ (.slice Ao59 y233.length co59 : Value).ownBlock)) (by (with_reducible repeat (first | apply Kd.R_alloc | apply Kd.R_drewN | apply Kd.R_drew)); exact HO232.out) hg hat); have n2_ := Aside0.mk (Kd.R_after (ok := (fun k_ => some k_ ≠ (.slice Ao55 y230.length co55 : Value).ownBlock)) (by (with_reducible repeat (first | apply Kd.R_alloc | apply Kd.R_drewN | apply Kd.R_drew)); exact HO235.out) hg hat); have n3_ := Aside0.mk (hb); have n4_ := Aside0.mk (ho); clear HO229; clear HO232; clear HO235; clear HB; clear HO241; have HO229 := n0_; have HO232 := n1_; have HO235 := n2_; have HB := n3_; have HO244 := n4_; clear n0_ n1_ n2_ n3_ n4_; clear ho hb hg hat; obtain ⟨Ao61, co61, eo61⟩ := Kd.R_slice HO244.out; subst eo61) | ((with_reducible refine gate_callee (f := 14) rfl ?_); refine goesL_ (some 36) rfl rfl Try.func14 (by kernel_rfl) rfl #[.slice Ao61 y242.length co61] rfl (by (try simp only [List.map_toArray, List.map_cons, List.map_nil]); first | done | rfl | (simp only [List.length_drop, List.length_take]; rfl)) ?_; (with_reducible refine (ncr_Expand.calls kj3 _ _ y242 t245 _ ?side1 ?side2 A17.out).mono ?_); (case side1 => repeat (first | exact (Kd.R_reads' HO244.out).2.2 | (with_reducible refine Kd.C_alloc ?_ _) | (with_reducible refine Kd.C_drewN ?_ _) | (with_reducible refine Kd.C_drew ?_))); (case side2 => exact (Kd.R_reads' HO244.out).2.1); rintro e w62 ⟨v246, rfl, ho0, hb⟩; refine ⟨_, rfl, ?_⟩; have n0_ := Aside0.mk (Kd.R_below (by (with_reducible repeat (first | apply Kd.R_alloc | apply Kd.R_drewN | apply Kd.R_drew)); exact HO229.out) hb); have n1_ := Aside0.mk (Kd.R_elder' (by (with_reducible repeat (first | apply Kd.R_alloc | apply Kd.R_drewN | apply Kd.R_drew)); exact HO232.out) (Kd.R_base ho0) hb); have n2_ := Aside0.mk (Kd.R_elder' (by (with_reducible repeat (first | apply Kd.R_alloc | apply Kd.R_drewN | apply Kd.R_drew)); exact HO235.out) (Kd.R_base ho0) hb); have n3_ := Aside0.mk (Kd.R_elder' (by (with_reducible repeat (first | apply Kd.R_alloc | apply Kd.R_drewN | apply Kd.R_drew)); exact HO244.out) (Kd.R_base ho0) hb); have n4_ := Aside0.mk (Kd.R_lower (Kd.R_new' (Kd.R_new' (Kd.R_new' ho0 (Kd.R_lt (by (with_reducible repeat (first | apply Kd.R_alloc | apply Kd.R_drewN | apply Kd.R_drew)); exact HO232.out))) (Kd.R_lt (by (with_reducible repeat (first | apply Kd.R_alloc | apply Kd.R_drewN | apply Kd.R_drew)); exact HO235.out))) (Kd.R_lt (by (with_reducible repeat (first | apply Kd.R_alloc | apply Kd.R_drewN | apply Kd.R_drew)); exact HO244.out))) (below_size (by repeat (first | (with_reducible first | exact HB.out | apply below_alloc | apply pw_below_drewN | apply below_drew1) | exact HB.out)))); have n5_ := Aside0.mk (below_step (by repeat (first | (with_reducible first | exact HB.out | apply below_alloc | apply pw_below_drewN | apply below_drew1) | exact HB.out)) hb); clear HO229; clear HO232; clear HO235; clear HO244; clear HB; have HO229 := n0_; have HO232 := n1_; have HO235 := n2_; have HO244 := n3_; have HO247 := n4_; have HB := n5_; clear n0_ n1_ n2_ n3_ n4_ n5_; (try clear hb); (try clear hb2); (try clear hk); (try clear hi); (try clear ho0)) | ((with_reducible refine gate_callee (f := 8) rfl ?_); refine goesL_ (some 37) rfl rfl Try.func8 (by kernel_rfl) rfl #[] rfl (by (try simp only [List.map_toArray, List.map_cons, List.map_nil]); first | done | rfl | (simp only [List.length_drop, List.length_take]; rfl)) ?_; (with_reducible refine (amanuensislaw02_answers.calls kj3  false _ A18.out).mono ?_); rintro e w63 ⟨rfl, hb⟩; refine ⟨_, rfl, ?_⟩; have n0_ := Aside0.mk (Kd.R_below (by (with_reducible repeat (first | apply Kd.R_alloc | apply Kd.R_drewN | apply Kd.R_drew)); exact HO229.out) hb); have n1_ := Aside0.mk (Kd.R_below (by (with_reducible repeat (first | apply Kd.R_alloc | apply Kd.R_drewN | apply Kd.R_drew)); exact HO232.out) hb); have n2_ := Aside0.mk (Kd.R_below (by (with_reducible repeat (first | apply Kd.R_alloc | apply Kd.R_drewN | apply Kd.R_drew)); exact HO235.out) hb); have n3_ := Aside0.mk (Kd.R_below (by (with_reducible repeat (first | apply Kd.R_alloc | apply Kd.R_drewN | apply Kd.R_drew)); exact HO244.out) hb); have n4_ := Aside0.mk (Kd.R_below (by (with_reducible repeat (first | apply Kd.R_alloc | apply Kd.R_drewN | apply Kd.R_drew)); exact HO247.out) hb); have n5_ := Aside0.mk (below_step (by repeat (first | (with_reducible first | exact HB.out | apply below_alloc | apply pw_below_drewN | apply below_drew1) | exact HB.out)) hb); clear HO229; clear HO232; clear HO235; clear HO244; clear HO247; clear HB; have HO229 := n0_; have HO232 := n1_; have HO235 := n2_; have HO244 := n3_; have HO247 := n4_; have HB := n5_; clear n0_ n1_ n2_ n3_ n4_ n5_; (try clear hb); (try clear hb2); (try clear hk); (try clear hi)))
                    go_ret
                    exact ⟨by first | rfl | (simp [errW_none, errW_some] <;> rfl) | (simp [*, errW_none, errW_some] <;> rfl), by repeat (first | (with_reducible first | exact HB.out | apply below_alloc | apply pw_below_drewN | apply below_drew1) | exact HB.out)⟩
                · rw [if_neg c16] at H
                  exact absurd H (by simp)
              · rw [if_neg c15] at H
                exact absurd H (by simp)
            · rw [if_neg c14] at H
              exact absurd H (by simp)
          · rw [if_neg c13] at H
            exact absurd H (by simp)
        · rw [if_neg c11] at H
          exact absurd H (by simp)

/-- THE ONE PURE STATEMENT of amanuensislaw02_NcrJoins: yours. -/
def amanuensislaw02_NcrJoins.Pure : Prop := ∀ (l0 : List Int) (a1 : Int) (l2 : List Int), l0.length ≤ maxLen → l0.length * 4 ≤ 140737488351232 → (∀ x ∈ l0, (Lit.int .i32 x).wf = true) → (Lit.int .i32 a1).wf = true → l2.length ≤ maxLen → l2.length * 4 ≤ 140737488351232 → (∀ x ∈ l2, (Lit.int .i32 x).wf = true) → ∃ k, amanuensislaw02_NcrJoins.f k l0 a1 l2 = some true
theorem amanuensislaw02_NcrJoins.walk (P : amanuensislaw02_NcrJoins.Pure) (a0 : Option Addr) (len0 cap0 : Nat) (z0 : List Int) (a1 : Int) (a2 : Option Addr) (len2 cap2 : Nat) (z2 : List Int) (w : World) (w0 : (a0 = none ∧ len0 = 0 ∧ cap0 = 0 ∧ z0 = []) ∨ ∃ x, a0 = some x ∧ len0 ≤ cap0 ∧ cap0 ≤ maxLen ∧ z0.length = cap0 ∧ (∀ i, i < z0.length → w.cell? (x.add i) = some (.int .i32 (z0.getD i 0))) ∧ ∀ n ∈ z0, (Lit.int .i32 n).wf = true) (y0 : len0 * 4 ≤ 140737488351232) (w1 : (Lit.int .i32 a1).wf = true) (w2 : (a2 = none ∧ len2 = 0 ∧ cap2 = 0 ∧ z2 = []) ∨ ∃ x, a2 = some x ∧ len2 ≤ cap2 ∧ cap2 ≤ maxLen ∧ z2.length = cap2 ∧ (∀ i, i < z2.length → w.cell? (x.add i) = some (.int .i32 (z2.getD i 0))) ∧ ∀ n ∈ z2, (Lit.int .i32 n).wf = true) (y2 : len2 * 4 ≤ 140737488351232) :
    Calls Try.prog 5 #[.slice a0 len0 cap0, .int .i32 a1, .slice a2 len2 cap2] w fun e w' => e = .returned (.bool true) ∧ Below w.heap.size w w' := by
  obtain ⟨l0, rfl, hr0, hm0, hw0, hc0⟩ := ReadsInt.ofRowC w0
  obtain ⟨l2, rfl, hr2, hm2, hw2, hc2⟩ := ReadsInt.ofRowC w2
  obtain ⟨k, h⟩ := P l0 a1 l2 hm0 y0 hw0 w1 hm2 y2 hw2
  refine (amanuensislaw02_NcrJoins.calls k _ _ l0 a1 _ _ l2 true w (Kd.C_of_reads (d := (0 : Int)) (h1 := fun _ => rfl) hr0) hc0 (Kd.C_of_reads (d := (0 : Int)) (h1 := fun _ => rfl) hr2) hc2 h).mono ?_
  rintro e w' ⟨rfl, hd⟩
  exact ⟨rfl, hd⟩

/-! ### amanuensisref01_Scan: function 16 -/
mutual
def amanuensisref01_Scan.l0 : Nat → List Int → Int → Option (Int × Int)
  | 0, _, _ => none
  | k + 1, x0, x4 => if x4 ≤ 6 then (if (x0.length : Int) < (wrap64 (x4 + 4)) then (some (0, 0)) else (amanuensisref01_Scan.l1 k x0 x4 0 true 0)) else (some (0, 0))
def amanuensisref01_Scan.l1 : Nat → List Int → Int → Int → Bool → Int → Option (Int × Int)
  | 0, _, _, _, _, _ => none
  | k + 1, x0, x4, x5, x6, x7 => if x7 < x4 then (if 0 ≤ (wrap64 (3 + x7)) then (if (wrap64 (3 + x7)) < (x0.length : Int) then (if (rd x0 (wrap64 (3 + x7))) ≥ 48 then (amanuensisref01_Scan.j2 k x0 x4 x5 x6 x7 (rd x0 (wrap64 (3 + x7))) (decide ((rd x0 (wrap64 (3 + x7))) ≤ 57))) else (amanuensisref01_Scan.j2 k x0 x4 x5 x6 x7 (rd x0 (wrap64 (3 + x7))) false)) else (none)) else (none)) else (if x6 = true then ((amanuensisref01_Scalar.f (wrap32 (x5))).bind fun t260 => (amanuensisref01_Scan.j3 k x0 x4 x5 (!t260))) else (amanuensisref01_Scan.j3 k x0 x4 x5 true))
def amanuensisref01_Scan.j2 : Nat → List Int → Int → Int → Bool → Int → Int → Bool → Option (Int × Int)
  | 0, _, _, _, _, _, _, _ => none
  | k + 1, x0, x4, x5, x6, x7, x8, x31 => if x31 = true then (amanuensisref01_Scan.l1 k x0 x4 (wrap64 ((wrap64 (16 * x5)) + (wrap64 (wrap32 (x8 - 48))))) x6 (wrap64 (x7 + 1))) else (if x8 ≥ 65 then (if x8 ≤ 70 then (amanuensisref01_Scan.l1 k x0 x4 (wrap64 ((wrap64 ((wrap64 (16 * x5)) + (wrap64 (wrap32 (x8 - 65))))) + 10)) x6 (wrap64 (x7 + 1))) else (amanuensisref01_Scan.l1 k x0 x4 x5 false (wrap64 (x7 + 1)))) else (amanuensisref01_Scan.l1 k x0 x4 x5 false (wrap64 (x7 + 1))))
def amanuensisref01_Scan.j3 : Nat → List Int → Int → Int → Bool → Option (Int × Int)
  | 0, _, _, _, _ => none
  | k + 1, x0, x4, x5, x65 => if x65 = true then (amanuensisref01_Scan.l0 k x0 (wrap64 (x4 + 1))) else ((amanuensisref01_Ref.f k (wrap32 (x5))).bind fun t261 => (amanuensisref01_Scan.l2 k x0 x4 x5 t261 ((t261.length : Int) == (wrap64 (x4 + 4))) 0))
def amanuensisref01_Scan.l2 : Nat → List Int → Int → Int → List Int → Bool → Int → Option (Int × Int)
  | 0, _, _, _, _, _, _ => none
  | k + 1, x0, x4, x5, x9, x10, x11 => if x11 < (x9.length : Int) then (if x10 = true then (if 0 ≤ x11 then (if x11 < (x0.length : Int) then (amanuensisref01_Scan.l2 k x0 x4 x5 x9 ((rd x0 x11) == (wrap32 (rd x9 x11))) (wrap64 (x11 + 1))) else (none)) else (none)) else (amanuensisref01_Scan.l0 k x0 (wrap64 (x4 + 1)))) else (if x10 = true then (some (wrap32 (x5), wrap64 (x4 + 4))) else (amanuensisref01_Scan.l0 k x0 (wrap64 (x4 + 1))))
end
def amanuensisref01_Scan.f (k : Nat) (l0 : List Int) : Option (Int × Int) := amanuensisref01_Scan.l0 k l0 4
theorem amanuensisref01_Scan.mono_l : ∀ k, (∀ y0 y1, LeO (amanuensisref01_Scan.l0 k y0 y1) (amanuensisref01_Scan.l0 (k + 1) y0 y1)) ∧ (∀ y0 y1 y2 y3 y4, LeO (amanuensisref01_Scan.l1 k y0 y1 y2 y3 y4) (amanuensisref01_Scan.l1 (k + 1) y0 y1 y2 y3 y4)) ∧ (∀ y0 y1 y2 y3 y4 y5 y6, LeO (amanuensisref01_Scan.j2 k y0 y1 y2 y3 y4 y5 y6) (amanuensisref01_Scan.j2 (k + 1) y0 y1 y2 y3 y4 y5 y6)) ∧ (∀ y0 y1 y2 y3, LeO (amanuensisref01_Scan.j3 k y0 y1 y2 y3) (amanuensisref01_Scan.j3 (k + 1) y0 y1 y2 y3)) ∧ (∀ y0 y1 y2 y3 y4 y5, LeO (amanuensisref01_Scan.l2 k y0 y1 y2 y3 y4 y5) (amanuensisref01_Scan.l2 (k + 1) y0 y1 y2 y3 y4 y5))
  | 0 => ⟨fun _ _ r h => by simp [amanuensisref01_Scan.l0] at h, fun _ _ _ _ _ r h => by simp [amanuensisref01_Scan.l1] at h, fun _ _ _ _ _ _ _ r h => by simp [amanuensisref01_Scan.j2] at h, fun _ _ _ _ r h => by simp [amanuensisref01_Scan.j3] at h, fun _ _ _ _ _ _ r h => by simp [amanuensisref01_Scan.l2] at h⟩
  | k + 1 => by
    obtain ⟨ih0, ih1, ih2, ih3, ih4⟩ := amanuensisref01_Scan.mono_l k
    refine ⟨?_, ?_, ?_, ?_, ?_⟩
    · intro y0 y1
      unfold amanuensisref01_Scan.l0
      repeat' first
      | (with_reducible exact ih0 _ _)
      | (with_reducible exact ih1 _ _ _ _ _)
      | (with_reducible exact ih2 _ _ _ _ _ _ _)
      | (with_reducible exact ih3 _ _ _ _)
      | (with_reducible exact ih4 _ _ _ _ _ _)
      | (with_reducible exact amanuensisref01_Ref.mono _ _)
      | (with_reducible exact LeO.refl _)
      | (with_reducible exact LeO.none _)
      | (with_reducible refine LeO.ite ?_ ?_)
      | (with_reducible refine LeO.bind ?_ (fun _ => ?_))
      | exact ih0 _ _
      | exact ih1 _ _ _ _ _
      | exact ih2 _ _ _ _ _ _ _
      | exact ih3 _ _ _ _
      | exact ih4 _ _ _ _ _ _
      | exact amanuensisref01_Ref.mono _ _
      | exact LeO.none _
      | refine LeO.ite ?_ ?_
      | refine LeO.bind ?_ (fun _ => ?_)
    · intro y0 y1 y2 y3 y4
      unfold amanuensisref01_Scan.l1
      repeat' first
      | (with_reducible exact ih0 _ _)
      | (with_reducible exact ih1 _ _ _ _ _)
      | (with_reducible exact ih2 _ _ _ _ _ _ _)
      | (with_reducible exact ih3 _ _ _ _)
      | (with_reducible exact ih4 _ _ _ _ _ _)
      | (with_reducible exact amanuensisref01_Ref.mono _ _)
      | (with_reducible exact LeO.refl _)
      | (with_reducible exact LeO.none _)
      | (with_reducible refine LeO.ite ?_ ?_)
      | (with_reducible refine LeO.bind ?_ (fun _ => ?_))
      | exact ih0 _ _
      | exact ih1 _ _ _ _ _
      | exact ih2 _ _ _ _ _ _ _
      | exact ih3 _ _ _ _
      | exact ih4 _ _ _ _ _ _
      | exact amanuensisref01_Ref.mono _ _
      | exact LeO.none _
      | refine LeO.ite ?_ ?_
      | refine LeO.bind ?_ (fun _ => ?_)
    · intro y0 y1 y2 y3 y4 y5 y6
      unfold amanuensisref01_Scan.j2
      repeat' first
      | (with_reducible exact ih0 _ _)
      | (with_reducible exact ih1 _ _ _ _ _)
      | (with_reducible exact ih2 _ _ _ _ _ _ _)
      | (with_reducible exact ih3 _ _ _ _)
      | (with_reducible exact ih4 _ _ _ _ _ _)
      | (with_reducible exact amanuensisref01_Ref.mono _ _)
      | (with_reducible exact LeO.refl _)
      | (with_reducible exact LeO.none _)
      | (with_reducible refine LeO.ite ?_ ?_)
      | (with_reducible refine LeO.bind ?_ (fun _ => ?_))
      | exact ih0 _ _
      | exact ih1 _ _ _ _ _
      | exact ih2 _ _ _ _ _ _ _
      | exact ih3 _ _ _ _
      | exact ih4 _ _ _ _ _ _
      | exact amanuensisref01_Ref.mono _ _
      | exact LeO.none _
      | refine LeO.ite ?_ ?_
      | refine LeO.bind ?_ (fun _ => ?_)
    · intro y0 y1 y2 y3
      unfold amanuensisref01_Scan.j3
      repeat' first
      | (with_reducible exact ih0 _ _)
      | (with_reducible exact ih1 _ _ _ _ _)
      | (with_reducible exact ih2 _ _ _ _ _ _ _)
      | (with_reducible exact ih3 _ _ _ _)
      | (with_reducible exact ih4 _ _ _ _ _ _)
      | (with_reducible exact amanuensisref01_Ref.mono _ _)
      | (with_reducible exact LeO.refl _)
      | (with_reducible exact LeO.none _)
      | (with_reducible refine LeO.ite ?_ ?_)
      | (with_reducible refine LeO.bind ?_ (fun _ => ?_))
      | exact ih0 _ _
      | exact ih1 _ _ _ _ _
      | exact ih2 _ _ _ _ _ _ _
      | exact ih3 _ _ _ _
      | exact ih4 _ _ _ _ _ _
      | exact amanuensisref01_Ref.mono _ _
      | exact LeO.none _
      | refine LeO.ite ?_ ?_
      | refine LeO.bind ?_ (fun _ => ?_)
    · intro y0 y1 y2 y3 y4 y5
      unfold amanuensisref01_Scan.l2
      repeat' first
      | (with_reducible exact ih0 _ _)
      | (with_reducible exact ih1 _ _ _ _ _)
      | (with_reducible exact ih2 _ _ _ _ _ _ _)
      | (with_reducible exact ih3 _ _ _ _)
      | (with_reducible exact ih4 _ _ _ _ _ _)
      | (with_reducible exact amanuensisref01_Ref.mono _ _)
      | (with_reducible exact LeO.refl _)
      | (with_reducible exact LeO.none _)
      | (with_reducible refine LeO.ite ?_ ?_)
      | (with_reducible refine LeO.bind ?_ (fun _ => ?_))
      | exact ih0 _ _
      | exact ih1 _ _ _ _ _
      | exact ih2 _ _ _ _ _ _ _
      | exact ih3 _ _ _ _
      | exact ih4 _ _ _ _ _ _
      | exact amanuensisref01_Ref.mono _ _
      | exact LeO.none _
      | refine LeO.ite ?_ ?_
      | refine LeO.bind ?_ (fun _ => ?_)
theorem amanuensisref01_Scan.mono : ∀ a0 k, LeO (amanuensisref01_Scan.f k a0) (amanuensisref01_Scan.f (k + 1) a0) := by
  intro a0 k
  obtain ⟨ih0, ih1, ih2, ih3, ih4⟩ := amanuensisref01_Scan.mono_l k
  unfold amanuensisref01_Scan.f
  repeat' first
      | (with_reducible exact ih0 _ _)
      | (with_reducible exact ih1 _ _ _ _ _)
      | (with_reducible exact ih2 _ _ _ _ _ _ _)
      | (with_reducible exact ih3 _ _ _ _)
      | (with_reducible exact ih4 _ _ _ _ _ _)
      | (with_reducible exact amanuensisref01_Ref.mono _ _)
      | (with_reducible exact LeO.refl _)
      | (with_reducible exact LeO.none _)
      | (with_reducible refine LeO.ite ?_ ?_)
      | (with_reducible refine LeO.bind ?_ (fun _ => ?_))
      | exact ih0 _ _
      | exact ih1 _ _ _ _ _
      | exact ih2 _ _ _ _ _ _ _
      | exact ih3 _ _ _ _
      | exact ih4 _ _ _ _ _ _
      | exact amanuensisref01_Ref.mono _ _
      | exact LeO.none _
      | refine LeO.ite ?_ ?_
      | refine LeO.bind ?_ (fun _ => ?_)
set_option maxHeartbeats 8000000 in
set_option maxRecDepth 100000 in
theorem amanuensisref01_Scan.calls (k : Nat) (A0 : Option Addr) (c0 : Nat) (l0 : List Int) (r1 : Int) (r2 : Int) (w : World) (hr0 : Kd.C (Kd.int .i32) w A0 l0.length l0) (hc0 : l0.length ≤ c0) (h : amanuensisref01_Scan.f k l0 = some (r1, r2)) :
    Calls Try.prog 16 #[.slice A0 l0.length c0] w fun e w' => e = .returned (.tuple #[.int .i32 r1, .int .i64 r2]) ∧ Below w.heap.size w w' := by
  have HR0 := Aside0.mk hr0
  have HC0 := Aside0.mk hc0
  clear hr0 hc0
  have HB := Aside0.mk (Below.refl w.heap.size w)
  have H : (amanuensisref01_Scan.l0 k l0 4) = some (r1, r2) := h
  clear h
  have H' := Aside0.mk H
  clear H
  go_enter Try.func16, Try.ntmps16
  go_wp2
  repeat (go_quiet (fail); try go_wp2)
  go_loopg [4] k (fun kq v4 w' => ∃ (x4_1 : Int), v4 = .int .i64 x4_1 ∧ Aside0 (amanuensisref01_Scan.l0 kq l0 x4_1 = some (r1, r2)) ∧ Aside0 (kq ≤ k) ∧ Aside0 (Below w.heap.size w w'))
  case atStart => exact ⟨(4), (by first | rfl | (simp; done) | (simp [*]; done)), H', ⟨Nat.le_refl _⟩, ⟨by repeat (first | (with_reducible first | exact HB.out | apply below_alloc | apply pw_below_drewN | apply below_drew1) | exact HB.out)⟩⟩
  case round =>
    clear H'
    try clear c1
    obtain ⟨x4_1, rfl, HA, HK1, HB⟩ := hrel
    cases gk with
    | zero => exact absurd HA.out (by simp [amanuensisref01_Scan.l0])
    | succ k1 =>
      have H := HA.out
      clear HA
      simp only [amanuensisref01_Scan.l0] at H
      by_cases c2 : x4_1 ≤ 6
      · rw [if_pos c2] at H
        have c2b0 : decide (x4_1 ≤ 6) = true := decide_eq_true c2
        clear c2
        by_cases c3 : (l0.length : Int) < (wrap64 (x4_1 + 4))
        · rw [if_pos c3] at H
          have c3b0 : decide ((l0.length : Int) < (wrap64 (x4_1 + 4))) = true := decide_eq_true c3
          clear c3
          simp only [Option.some.injEq, Prod.mk.injEq] at H
          obtain ⟨rfl, rfl⟩ := H
          go_wp2
          repeat (go_quiet (fail); try go_wp2)
          go_ret2
          exact ⟨by first | rfl | (simp [errW_none, errW_some] <;> rfl) | (simp [*, errW_none, errW_some] <;> rfl), by repeat (first | (with_reducible first | exact HB.out | apply below_alloc | apply pw_below_drewN | apply below_drew1) | exact HB.out)⟩
        · rw [if_neg c3] at H
          have c3b0 : decide ((l0.length : Int) < (wrap64 (x4_1 + 4))) = false := decide_eq_false c3
          clear c3
          have H' := Aside0.mk H
          clear H
          go_wp2
          repeat (go_quiet (fail); try go_wp2)
          go_loopg [5, 6, 7] k1 (fun kq v5 v6 v7 w' => ∃ (x5_2 : Int) (x6_2 : Bool) (x7_2 : Int), v5 = .int .i64 x5_2 ∧ v6 = .bool x6_2 ∧ v7 = .int .i64 x7_2 ∧ Aside0 (amanuensisref01_Scan.l1 kq l0 x4_1 x5_2 x6_2 x7_2 = some (r1, r2)) ∧ Aside0 (kq ≤ k1) ∧ Aside0 (Below w.heap.size w w'))
          case atStart => exact ⟨(0), (true), (0), (by first | rfl | (simp; done) | (simp [*]; done)), (by first | rfl | (simp; done) | (simp [*]; done)), (by first | rfl | (simp; done) | (simp [*]; done)), H', ⟨Nat.le_refl _⟩, ⟨by repeat (first | (with_reducible first | exact HB.out | apply below_alloc | apply pw_below_drewN | apply below_drew1) | exact HB.out)⟩⟩
          case round =>
            clear H'
            try clear c1
            try clear c2
            try clear c2b0
            try clear p2
            try clear c3
            try clear c3b0
            obtain ⟨x5_2, x6_2, x7_2, rfl, rfl, rfl, HA, HK2, HB⟩ := hrel
            cases gk with
            | zero => exact absurd HA.out (by simp [amanuensisref01_Scan.l1])
            | succ k2 =>
              have H := HA.out
              clear HA
              simp only [amanuensisref01_Scan.l1] at H
              by_cases c4 : x7_2 < x4_1
              · rw [if_pos c4] at H
                have c4b0 : decide (x7_2 < x4_1) = true := decide_eq_true c4
                clear c4
                obtain ⟨ji5, hji5⟩ : ∃ j_ : Int, (wrap64 (3 + x7_2)) = j_ := ⟨_, rfl⟩
                replace H : (if 0 ≤ (ji5) then (if (ji5) < (l0.length : Int) then (if (rd l0 (ji5)) ≥ 48 then (amanuensisref01_Scan.j2 k2 l0 x4_1 x5_2 x6_2 x7_2 (rd l0 (ji5)) (decide ((rd l0 (ji5)) ≤ 57))) else (amanuensisref01_Scan.j2 k2 l0 x4_1 x5_2 x6_2 x7_2 (rd l0 (ji5)) false)) else (none)) else (none)) = some (r1, r2) := by first | (rw [hji5] at H; exact H) | (simp only [hji5] at H ⊢; exact H)
                have hji5w : (IntKind.i64.wrap (3 + x7_2)) = ji5 := (i64_w _).trans hji5
                by_cases c6 : 0 ≤ (ji5)
                · rw [if_pos c6] at H
                  have c6b0 : decide (0 ≤ (ji5)) = true := decide_eq_true c6
                  clear c6
                  by_cases c7 : (ji5) < (l0.length : Int)
                  · rw [if_pos c7] at H
                    have c7b0 : decide ((ji5) < (l0.length : Int)) = true := decide_eq_true c7
                    clear c7
                    have HC8 := Aside0.mk H
                    clear H
                    have p259 : 0 ≤ ((ji5) : Int) := of_decide_eq_true (by first | (with_reducible assumption) | assumption)
                    have q259 : (ji5) < (l0.length : Int) := of_decide_eq_true (by first | (with_reducible assumption) | assumption)
                    obtain ⟨ad259, e259, hx259_0⟩ := Kd.at_int HR0.out (ji5) p259 q259
                    cases e259
                    replace hx259_0 := (HB.out.cell (World.block_lt_of_cell? w _ hx259_0)).trans hx259_0
                    replace p259 := eq_true p259
                    replace q259 := eq_true q259
                    go_upto_region 13 with (fail)
                    repeat (go_quiet (fail); go_upto_region 13 with (fail))
                    go_cut [31] (fun v31 wc => ∃ (kq : Nat) (x31_7 : Bool), v31 = .bool x31_7 ∧ Aside0 (amanuensisref01_Scan.j2 kq l0 x4_1 x5_2 x6_2 x7_2 (rd l0 (ji5)) x31_7 = some (r1, r2)) ∧ Aside0 (kq ≤ k2) ∧ Aside0 (Below w.heap.size w wc))
                    case first =>
                      have H := HC8.out
                      clear HC8
                      by_cases c9 : (rd l0 (ji5)) ≥ 48
                      · rw [if_pos c9] at H
                        have c9b0 : decide (48 ≤ (rd l0 (ji5))) = true := decide_eq_true c9
                        clear c9
                        (first | rw [c9b0] | (simp only [i64_w, i32_w]; rw [c9b0]) | skip)
                        have H' := Aside0.mk H
                        clear H
                        go_wp2
                        repeat (go_quiet (fail); try go_wp2)
                        go_meet
                        case rel => exact ⟨_, (decide ((rd l0 (ji5)) ≤ 57)), (by first | rfl | (simp; done) | (simp only [← hji5] <;> (first | rfl | simp)) | (simp [*]; done)), H', ⟨by have := HK1.out; have := HK2.out; first | omega | exact Nat.le_refl _⟩, ⟨by repeat (first | (with_reducible first | exact HB.out | apply below_alloc | apply pw_below_drewN | apply below_drew1) | exact HB.out)⟩⟩
                      · rw [if_neg c9] at H
                        have c9b0 : decide (48 ≤ (rd l0 (ji5))) = false := decide_eq_false c9
                        clear c9
                        (first | rw [c9b0] | (simp only [i64_w, i32_w]; rw [c9b0]) | skip)
                        have H' := Aside0.mk H
                        clear H
                        go_wp2
                        repeat (go_quiet (fail); try go_wp2)
                        go_meet
                        case rel => exact ⟨_, (false), (by first | rfl | (simp; done) | (simp [*]; done)), H', ⟨by have := HK1.out; have := HK2.out; first | omega | exact Nat.le_refl _⟩, ⟨by repeat (first | (with_reducible first | exact HB.out | apply below_alloc | apply pw_below_drewN | apply below_drew1) | exact HB.out)⟩⟩
                    case rest =>
                      clear HC8
                      try clear c1
                      try clear c2
                      try clear c2b0
                      try clear p2
                      try clear q2
                      try clear hx2
                      try clear c3
                      try clear c3b0
                      try clear c4
                      try clear c4b0
                      try clear c6
                      try clear c6b0
                      try clear p6
                      try clear c7
                      try clear c7b0
                      try clear c9
                      try clear c9b0
                      try clear hx259_0
                      try clear p2
                      try clear p259
                      try clear q259
                      obtain ⟨kq, x31_7, rfl, HA, HJ7, HB⟩ := hcut
                      cases kq with
                      | zero => exact absurd HA.out (by simp [amanuensisref01_Scan.j2])
                      | succ kj7 =>
                        have H := HA.out
                        clear HA
                        simp only [amanuensisref01_Scan.j2] at H
                        by_cases c10 : x31_7 = true
                        · subst c10
                          have H1 : (amanuensisref01_Scan.l1 kj7 l0 x4_1 (wrap64 ((wrap64 (16 * x5_2)) + (wrap64 (wrap32 ((rd l0 (ji5)) - 48))))) x6_2 (wrap64 (x7_2 + 1))) = some (r1, r2) := by rw [if_pos rfl] at H; exact H
                          clear H
                          have H := H1
                          clear H1
                          have H' := Aside0.mk H
                          clear H
                          go_wp2
                          repeat (go_quiet (fail); try go_wp2)
                          go_roundg kj7
                          case measure => have := HK1.out; have := HK2.out; have := HJ7.out; omega
                          case rel => exact ⟨(wrap64 ((wrap64 (16 * x5_2)) + (wrap64 (wrap32 ((rd l0 (ji5)) - 48))))), (x6_2), (wrap64 (x7_2 + 1)), (by first | rfl | (simp; done) | (simp only [← hji5] <;> (first | rfl | simp)) | (simp [*]; done)), (by first | rfl | (simp; done) | (simp [*]; done)), (by first | rfl | (simp; done) | (simp [*]; done)), H', ⟨by have := HK1.out; have := HK2.out; have := HJ7.out; omega⟩, ⟨by repeat (first | (with_reducible first | exact HB.out | apply below_alloc | apply pw_below_drewN | apply below_drew1) | exact HB.out)⟩⟩
                        · replace c10 := Bool.eq_false_iff.mpr c10
                          subst c10
                          have H1 : (if (rd l0 (ji5)) ≥ 65 then (if (rd l0 (ji5)) ≤ 70 then (amanuensisref01_Scan.l1 kj7 l0 x4_1 (wrap64 ((wrap64 ((wrap64 (16 * x5_2)) + (wrap64 (wrap32 ((rd l0 (ji5)) - 65))))) + 10)) x6_2 (wrap64 (x7_2 + 1))) else (amanuensisref01_Scan.l1 kj7 l0 x4_1 x5_2 false (wrap64 (x7_2 + 1)))) else (amanuensisref01_Scan.l1 kj7 l0 x4_1 x5_2 false (wrap64 (x7_2 + 1)))) = some (r1, r2) := by rw [if_neg (show ¬ (false = true) by decide)] at H; exact H
                          clear H
                          have H := H1
                          clear H1
                          by_cases c11 : (rd l0 (ji5)) ≥ 65
                          · rw [if_pos c11] at H
                            have c11b0 : decide (65 ≤ (rd l0 (ji5))) = true := decide_eq_true c11
                            clear c11
                            by_cases c12 : (rd l0 (ji5)) ≤ 70
                            · rw [if_pos c12] at H
                              have c12b0 : decide ((rd l0 (ji5)) ≤ 70) = true := decide_eq_true c12
                              clear c12
                              have H' := Aside0.mk H
                              clear H
                              go_wp2
                              repeat (go_quiet (fail); try go_wp2)
                              go_roundg kj7
                              case measure => have := HK1.out; have := HK2.out; have := HJ7.out; omega
                              case rel => exact ⟨(wrap64 ((wrap64 ((wrap64 (16 * x5_2)) + (wrap64 (wrap32 ((rd l0 (ji5)) - 65))))) + 10)), (x6_2), (wrap64 (x7_2 + 1)), (by first | rfl | (simp; done) | (simp only [← hji5] <;> (first | rfl | simp)) | (simp [*]; done)), (by first | rfl | (simp; done) | (simp [*]; done)), (by first | rfl | (simp; done) | (simp [*]; done)), H', ⟨by have := HK1.out; have := HK2.out; have := HJ7.out; omega⟩, ⟨by repeat (first | (with_reducible first | exact HB.out | apply below_alloc | apply pw_below_drewN | apply below_drew1) | exact HB.out)⟩⟩
                            · rw [if_neg c12] at H
                              have c12b0 : decide ((rd l0 (ji5)) ≤ 70) = false := decide_eq_false c12
                              clear c12
                              have H' := Aside0.mk H
                              clear H
                              go_wp2
                              repeat (go_quiet (fail); try go_wp2)
                              go_roundg kj7
                              case measure => have := HK1.out; have := HK2.out; have := HJ7.out; omega
                              case rel => exact ⟨(x5_2), (false), (wrap64 (x7_2 + 1)), (by first | rfl | (simp; done) | (simp [*]; done)), (by first | rfl | (simp; done) | (simp [*]; done)), (by first | rfl | (simp; done) | (simp [*]; done)), H', ⟨by have := HK1.out; have := HK2.out; have := HJ7.out; omega⟩, ⟨by repeat (first | (with_reducible first | exact HB.out | apply below_alloc | apply pw_below_drewN | apply below_drew1) | exact HB.out)⟩⟩
                          · rw [if_neg c11] at H
                            have c11b0 : decide (65 ≤ (rd l0 (ji5))) = false := decide_eq_false c11
                            clear c11
                            have H' := Aside0.mk H
                            clear H
                            go_wp2
                            repeat (go_quiet (fail); try go_wp2)
                            go_roundg kj7
                            case measure => have := HK1.out; have := HK2.out; have := HJ7.out; omega
                            case rel => exact ⟨(x5_2), (false), (wrap64 (x7_2 + 1)), (by first | rfl | (simp; done) | (simp [*]; done)), (by first | rfl | (simp; done) | (simp [*]; done)), (by first | rfl | (simp; done) | (simp [*]; done)), H', ⟨by have := HK1.out; have := HK2.out; have := HJ7.out; omega⟩, ⟨by repeat (first | (with_reducible first | exact HB.out | apply below_alloc | apply pw_below_drewN | apply below_drew1) | exact HB.out)⟩⟩
                  · rw [if_neg c7] at H
                    exact absurd H (by simp)
                · rw [if_neg c6] at H
                  exact absurd H (by simp)
              · rw [if_neg c4] at H
                have c4b0 : decide (x7_2 < x4_1) = false := decide_eq_false c4
                clear c4
                have HC13 := Aside0.mk H
                clear H
                go_upto_region 17 with (fail)
                repeat (go_quiet (fail); go_upto_region 17 with (fail))
                go_cut [65] (fun v65 wc => ∃ (kq : Nat) (x65_12 : Bool), v65 = .bool x65_12 ∧ Aside0 (amanuensisref01_Scan.j3 kq l0 x4_1 x5_2 x65_12 = some (r1, r2)) ∧ Aside0 (kq ≤ k2) ∧ Aside0 (Below w.heap.size w wc))
                case first =>
                  have H := HC13.out
                  clear HC13
                  by_cases c14 : x6_2 = true
                  · subst c14
                    have H1 : ((amanuensisref01_Scalar.f (wrap32 (x5_2))).bind fun t260 => (amanuensisref01_Scan.j3 k2 l0 x4_1 x5_2 (!t260))) = some (r1, r2) := by rw [if_pos rfl] at H; exact H
                    clear H
                    have H := H1
                    clear H1
                    replace H := Option.bind_eq_some_iff.mp H
                    obtain ⟨t260, A150, H⟩ := H
                    replace H : (amanuensisref01_Scan.j3 k2 l0 x4_1 x5_2 (!t260)) = some (r1, r2) := H
                    have A15 := Aside0.mk A150
                    clear A150
                    have H' := Aside0.mk H
                    clear H
                    go_wp2_with (first | (go_at_call 10; (with_reducible refine (amanuensisref01_Scalar.calls (wrap32 (x5_2)) t260 _ A15.out).mono ?_); rintro e w' ⟨rfl, ⟨nd, rfl⟩⟩; (try first | exact ⟨rfl, _, World.drewN_drewN _ _ _⟩ | exact ⟨rfl, _, Eq.trans (World.drewN_drewN _ _ _) (congrArg (World.drewN _) (Nat.add_assoc _ _ _))⟩)))
                    repeat (go_quiet (first | (go_at_call 10; (with_reducible refine (amanuensisref01_Scalar.calls (wrap32 (x5_2)) t260 _ A15.out).mono ?_); rintro e w' ⟨rfl, ⟨nd, rfl⟩⟩; (try first | exact ⟨rfl, _, World.drewN_drewN _ _ _⟩ | exact ⟨rfl, _, Eq.trans (World.drewN_drewN _ _ _) (congrArg (World.drewN _) (Nat.add_assoc _ _ _))⟩))); try go_wp2_with (first | (go_at_call 10; (with_reducible refine (amanuensisref01_Scalar.calls (wrap32 (x5_2)) t260 _ A15.out).mono ?_); rintro e w' ⟨rfl, ⟨nd, rfl⟩⟩; (try first | exact ⟨rfl, _, World.drewN_drewN _ _ _⟩ | exact ⟨rfl, _, Eq.trans (World.drewN_drewN _ _ _) (congrArg (World.drewN _) (Nat.add_assoc _ _ _))⟩))))
                    go_meet
                    case rel => exact ⟨_, (!t260), (by first | rfl | (simp; done) | (simp [*]; done)), H', ⟨by have := HK1.out; have := HK2.out; first | omega | exact Nat.le_refl _⟩, ⟨by repeat (first | (with_reducible first | exact HB.out | apply below_alloc | apply pw_below_drewN | apply below_drew1) | exact HB.out)⟩⟩
                  · replace c14 := Bool.eq_false_iff.mpr c14
                    subst c14
                    have H1 : (amanuensisref01_Scan.j3 k2 l0 x4_1 x5_2 true) = some (r1, r2) := by rw [if_neg (show ¬ (false = true) by decide)] at H; exact H
                    clear H
                    have H := H1
                    clear H1
                    have H' := Aside0.mk H
                    clear H
                    go_wp2
                    repeat (go_quiet (fail); try go_wp2)
                    go_meet
                    case rel => exact ⟨_, (true), (by first | rfl | (simp; done) | (simp [*]; done)), H', ⟨by have := HK1.out; have := HK2.out; first | omega | exact Nat.le_refl _⟩, ⟨by repeat (first | (with_reducible first | exact HB.out | apply below_alloc | apply pw_below_drewN | apply below_drew1) | exact HB.out)⟩⟩
                case rest =>
                  clear HC13
                  try clear c1
                  try clear c2
                  try clear c2b0
                  try clear p2
                  try clear q2
                  try clear hx2
                  try clear c3
                  try clear c3b0
                  try clear p3
                  try clear c4
                  try clear c4b0
                  try clear c6
                  try clear c6b0
                  try clear p6
                  try clear c7
                  try clear c7b0
                  try clear c9
                  try clear c9b0
                  try clear c10
                  try clear c11
                  try clear c11b0
                  try clear c12
                  try clear c12b0
                  try clear c14
                  try clear hx259_0
                  try clear p2
                  try clear p259
                  try clear p6
                  try clear q2
                  try clear q259
                  obtain ⟨kq, x65_12, rfl, HA, HJ12, HB⟩ := hcut
                  cases kq with
                  | zero => exact absurd HA.out (by simp [amanuensisref01_Scan.j3])
                  | succ kj12 =>
                    have H := HA.out
                    clear HA
                    simp only [amanuensisref01_Scan.j3] at H
                    by_cases c16 : x65_12 = true
                    · subst c16
                      have H1 : (amanuensisref01_Scan.l0 kj12 l0 (wrap64 (x4_1 + 1))) = some (r1, r2) := by rw [if_pos rfl] at H; exact H
                      clear H
                      have H := H1
                      clear H1
                      have H' := Aside0.mk H
                      clear H
                      go_wp2
                      repeat (go_quiet (fail); try go_wp2)
                      go_roundg kj12
                      case measure => have := HK1.out; have := HK2.out; have := HJ12.out; omega
                      case rel => exact ⟨(wrap64 (x4_1 + 1)), (by first | rfl | (simp; done) | (simp [*]; done)), H', ⟨by have := HK1.out; have := HK2.out; have := HJ12.out; omega⟩, ⟨by repeat (first | (with_reducible first | exact HB.out | apply below_alloc | apply pw_below_drewN | apply below_drew1) | exact HB.out)⟩⟩
                    · replace c16 := Bool.eq_false_iff.mpr c16
                      subst c16
                      have H1 : ((amanuensisref01_Ref.f kj12 (wrap32 (x5_2))).bind fun t261 => (amanuensisref01_Scan.l2 kj12 l0 x4_1 x5_2 t261 ((t261.length : Int) == (wrap64 (x4_1 + 4))) 0)) = some (r1, r2) := by rw [if_neg (show ¬ (false = true) by decide)] at H; exact H
                      clear H
                      have H := H1
                      clear H1
                      replace H := Option.bind_eq_some_iff.mp H
                      obtain ⟨t261, A170, H⟩ := H
                      replace H : (amanuensisref01_Scan.l2 kj12 l0 x4_1 x5_2 t261 ((t261.length : Int) == (wrap64 (x4_1 + 4))) 0) = some (r1, r2) := H
                      have A17 := Aside0.mk A170
                      clear A170
                      have H' := Aside0.mk H
                      clear H
                      go_wp2_with (first | (go_at_call 12; (with_reducible refine (amanuensisref01_Ref.calls kj12 (wrap32 (x5_2)) t261 _ A17.out).mono ?_); rintro e w18 ⟨v262, rfl, ho0, hb⟩; have n0_ := Aside0.mk (Kd.R_lower ho0 (below_size (by repeat (first | (with_reducible first | exact HB.out | apply below_alloc | apply pw_below_drewN | apply below_drew1) | exact HB.out)))); have n1_ := Aside0.mk (below_step (by repeat (first | (with_reducible first | exact HB.out | apply below_alloc | apply pw_below_drewN | apply below_drew1) | exact HB.out)) hb); clear HB; have HO263 := n0_; have HB := n1_; clear n0_ n1_; (try clear hb); (try clear hb2); (try clear hk); (try clear hi); (try clear ho0); obtain ⟨Ao19, co19, eo19⟩ := Kd.R_slice HO263.out; subst eo19))
                      repeat (go_quiet (first | (go_at_call 12; (with_reducible refine (amanuensisref01_Ref.calls kj12 (wrap32 (x5_2)) t261 _ A17.out).mono ?_); rintro e w18 ⟨v262, rfl, ho0, hb⟩; have n0_ := Aside0.mk (Kd.R_lower ho0 (below_size (by repeat (first | (with_reducible first | exact HB.out | apply below_alloc | apply pw_below_drewN | apply below_drew1) | exact HB.out)))); have n1_ := Aside0.mk (below_step (by repeat (first | (with_reducible first | exact HB.out | apply below_alloc | apply pw_below_drewN | apply below_drew1) | exact HB.out)) hb); clear HB; have HO263 := n0_; have HB := n1_; clear n0_ n1_; (try clear hb); (try clear hb2); (try clear hk); (try clear hi); (try clear ho0); obtain ⟨Ao19, co19, eo19⟩ := Kd.R_slice HO263.out; subst eo19)); try go_wp2_with (first | (go_at_call 12; (with_reducible refine (amanuensisref01_Ref.calls kj12 (wrap32 (x5_2)) t261 _ A17.out).mono ?_); rintro e w18 ⟨v262, rfl, ho0, hb⟩; have n0_ := Aside0.mk (Kd.R_lower ho0 (below_size (by repeat (first | (with_reducible first | exact HB.out | apply below_alloc | apply pw_below_drewN | apply below_drew1) | exact HB.out)))); have n1_ := Aside0.mk (below_step (by repeat (first | (with_reducible first | exact HB.out | apply below_alloc | apply pw_below_drewN | apply below_drew1) | exact HB.out)) hb); clear HB; have HO263 := n0_; have HB := n1_; clear n0_ n1_; (try clear hb); (try clear hb2); (try clear hk); (try clear hi); (try clear ho0); obtain ⟨Ao19, co19, eo19⟩ := Kd.R_slice HO263.out; subst eo19)))
                      go_loopg [10, 11] kj12 (fun kq v10 v11 w' => ∃ (x10_4 : Bool) (x11_4 : Int), v10 = .bool x10_4 ∧ v11 = .int .i64 x11_4 ∧ Aside0 (amanuensisref01_Scan.l2 kq l0 x4_1 x5_2 t261 x10_4 x11_4 = some (r1, r2)) ∧ Aside0 (kq ≤ kj12) ∧ Aside0 (Kd.R (Kd.int .u8) 5 w' w.heap.size (fun _ => True) (.slice Ao19 t261.length co19) t261) ∧ Aside0 (Below w.heap.size w w'))
                      case atStart => exact ⟨(((t261.length : Int) == (wrap64 (x4_1 + 4)))), (0), (by first | rfl | (simp; done) | (simp [*]; done)), (by first | rfl | (simp; done) | (simp [*]; done)), H', ⟨Nat.le_refl _⟩, ⟨by (with_reducible repeat (first | apply Kd.R_alloc | apply Kd.R_drewN | apply Kd.R_drew)); exact HO263.out⟩, ⟨by repeat (first | (with_reducible first | exact HB.out | apply below_alloc | apply pw_below_drewN | apply below_drew1) | exact HB.out)⟩⟩
                      case round =>
                        clear H'
                        try clear c1
                        try clear c2
                        try clear c2b0
                        try clear p2
                        try clear q2
                        try clear hx2
                        try clear c3
                        try clear c3b0
                        try clear p3
                        try clear c4
                        try clear c4b0
                        try clear c6
                        try clear c6b0
                        try clear p6
                        try clear c7
                        try clear c7b0
                        try clear c9
                        try clear c9b0
                        try clear c10
                        try clear c11
                        try clear c11b0
                        try clear c12
                        try clear c12b0
                        try clear c14
                        try clear c16
                        try clear hx259_0
                        try clear p2
                        try clear p259
                        try clear p3
                        try clear p6
                        try clear q2
                        try clear q259
                        obtain ⟨x10_4, x11_4, rfl, rfl, HA, HK4, HO_9, HB⟩ := hrel
                        cases gk with
                        | zero => exact absurd HA.out (by simp [amanuensisref01_Scan.l2])
                        | succ k4 =>
                          have H := HA.out
                          clear HA
                          simp only [amanuensisref01_Scan.l2] at H
                          by_cases c20 : x11_4 < (t261.length : Int)
                          · rw [if_pos c20] at H
                            have c20b0 : decide (x11_4 < (t261.length : Int)) = true := decide_eq_true c20
                            clear c20
                            by_cases c21 : x10_4 = true
                            · subst c21
                              have H1 : (if 0 ≤ x11_4 then (if x11_4 < (l0.length : Int) then (amanuensisref01_Scan.l2 k4 l0 x4_1 x5_2 t261 ((rd l0 x11_4) == (wrap32 (rd t261 x11_4))) (wrap64 (x11_4 + 1))) else (none)) else (none)) = some (r1, r2) := by rw [if_pos rfl] at H; exact H
                              clear H
                              have H := H1
                              clear H1
                              by_cases c22 : 0 ≤ x11_4
                              · rw [if_pos c22] at H
                                have c22b0 : decide (0 ≤ x11_4) = true := decide_eq_true c22
                                clear c22
                                by_cases c23 : x11_4 < (l0.length : Int)
                                · rw [if_pos c23] at H
                                  have c23b0 : decide (x11_4 < (l0.length : Int)) = true := decide_eq_true c23
                                  clear c23
                                  have H' := Aside0.mk H
                                  clear H
                                  have p264 : 0 ≤ (x11_4 : Int) := of_decide_eq_true (by first | (with_reducible assumption) | assumption)
                                  have q264 : x11_4 < (l0.length : Int) := of_decide_eq_true (by first | (with_reducible assumption) | assumption)
                                  obtain ⟨ad264, e264, hx264_0⟩ := Kd.at_int HR0.out x11_4 p264 q264
                                  cases e264
                                  replace hx264_0 := (HB.out.cell (World.block_lt_of_cell? w _ hx264_0)).trans hx264_0
                                  replace p264 := eq_true p264
                                  replace q264 := eq_true q264
                                  have p265 : 0 ≤ (x11_4 : Int) := of_decide_eq_true (by first | (with_reducible assumption) | assumption)
                                  have q265 : x11_4 < (t261.length : Int) := of_decide_eq_true (by first | (with_reducible assumption) | assumption)
                                  obtain ⟨ad265, e265, hx265_0⟩ := Kd.at_int (Kd.R_reads' HO_9.out).2.2 x11_4 p265 q265
                                  cases e265
                                  replace p265 := eq_true p265
                                  replace q265 := eq_true q265
                                  go_wp2
                                  repeat (go_quiet (fail); try go_wp2)
                                  go_roundg k4
                                  case measure => have := HK1.out; have := HK2.out; have := HJ12.out; have := HK4.out; omega
                                  case rel => exact ⟨(((rd l0 x11_4) == (wrap32 (rd t261 x11_4)))), (wrap64 (x11_4 + 1)), (by first | rfl | (simp; done) | (simp [*]; done)), (by first | rfl | (simp; done) | (simp [*]; done)), H', ⟨by have := HK1.out; have := HK2.out; have := HJ12.out; have := HK4.out; omega⟩, ⟨by (with_reducible repeat (first | apply Kd.R_alloc | apply Kd.R_drewN | apply Kd.R_drew)); exact HO_9.out⟩, ⟨by repeat (first | (with_reducible first | exact HB.out | apply below_alloc | apply pw_below_drewN | apply below_drew1) | exact HB.out)⟩⟩
                                · rw [if_neg c23] at H
                                  exact absurd H (by simp)
                              · rw [if_neg c22] at H
                                exact absurd H (by simp)
                            · replace c21 := Bool.eq_false_iff.mpr c21
                              subst c21
                              have H1 : (amanuensisref01_Scan.l0 k4 l0 (wrap64 (x4_1 + 1))) = some (r1, r2) := by rw [if_neg (show ¬ (false = true) by decide)] at H; exact H
                              clear H
                              have H := H1
                              clear H1
                              have H' := Aside0.mk H
                              clear H
                              go_wp2
                              repeat (go_quiet (fail); try go_wp2)
                              go_roundg k4
                              case measure => have := HK1.out; have := HK2.out; have := HJ12.out; have := HK4.out; omega
                              case rel => exact ⟨(wrap64 (x4_1 + 1)), (by first | rfl | (simp; done) | (simp [*]; done)), H', ⟨by have := HK1.out; have := HK2.out; have := HJ12.out; have := HK4.out; omega⟩, ⟨by repeat (first | (with_reducible first | exact HB.out | apply below_alloc | apply pw_below_drewN | apply below_drew1) | exact HB.out)⟩⟩
                          · rw [if_neg c20] at H
                            have c20b0 : decide (x11_4 < (t261.length : Int)) = false := decide_eq_false c20
                            clear c20
                            by_cases c24 : x10_4 = true
                            · subst c24
                              have H1 : (some (wrap32 (x5_2), wrap64 (x4_1 + 4))) = some (r1, r2) := by rw [if_pos rfl] at H; exact H
                              clear H
                              have H := H1
                              clear H1
                              simp only [Option.some.injEq, Prod.mk.injEq] at H
                              obtain ⟨rfl, rfl⟩ := H
                              go_wp2
                              repeat (go_quiet (fail); try go_wp2)
                              go_ret2
                              exact ⟨by first | rfl | (simp [errW_none, errW_some] <;> rfl) | (simp [*, errW_none, errW_some] <;> rfl), by repeat (first | (with_reducible first | exact HB.out | apply below_alloc | apply pw_below_drewN | apply below_drew1) | exact HB.out)⟩
                            · replace c24 := Bool.eq_false_iff.mpr c24
                              subst c24
                              have H1 : (amanuensisref01_Scan.l0 k4 l0 (wrap64 (x4_1 + 1))) = some (r1, r2) := by rw [if_neg (show ¬ (false = true) by decide)] at H; exact H
                              clear H
                              have H := H1
                              clear H1
                              have H' := Aside0.mk H
                              clear H
                              go_wp2
                              repeat (go_quiet (fail); try go_wp2)
                              go_roundg k4
                              case measure => have := HK1.out; have := HK2.out; have := HJ12.out; have := HK4.out; omega
                              case rel => exact ⟨(wrap64 (x4_1 + 1)), (by first | rfl | (simp; done) | (simp [*]; done)), H', ⟨by have := HK1.out; have := HK2.out; have := HJ12.out; have := HK4.out; omega⟩, ⟨by repeat (first | (with_reducible first | exact HB.out | apply below_alloc | apply pw_below_drewN | apply below_drew1) | exact HB.out)⟩⟩
      · rw [if_neg c2] at H
        have c2b0 : decide (x4_1 ≤ 6) = false := decide_eq_false c2
        clear c2
        simp only [Option.some.injEq, Prod.mk.injEq] at H
        obtain ⟨rfl, rfl⟩ := H
        go_wp2
        repeat (go_quiet (fail); try go_wp2)
        go_ret2
        exact ⟨by first | rfl | (simp [errW_none, errW_some] <;> rfl) | (simp [*, errW_none, errW_some] <;> rfl), by repeat (first | (with_reducible first | exact HB.out | apply below_alloc | apply pw_below_drewN | apply below_drew1) | exact HB.out)⟩

end Go.Proofs.Ytfoffegcglommaa.PNcr
