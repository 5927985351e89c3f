-- Written by a program of this session (wip/mkprint.py) out of the translation. Not trusted: Lean checks it.
import Derived.Test.YtfoffegcglommaaPNcrx0
import Derived.Test.YtfoffegcglommaaPNcrx1
import Derived.Test.YtfoffegcglommaaPNcrx3
import Derived.Test.YtfoffegcglommaaPNcrx5
namespace Go.Proofs.Ytfoffegcglommaa.PNcr
open Go.RowKit Go.Proofs.YtfoffegcglommaaW.PrintWords Go.Proofs.YtfoffegcglommaaW.PrintLast Go.Proofs.YtfoffegcglommaaW.PrintMore
attribute [local go_sem] max2_int min2_int max_two min_two max_three min_three max_four min_four   -- for this text's walks alone
set_option linter.unusedVariables false
set_option linter.unusedSimpArgs false

/-! ### amanuensislaw02_NcrBack: function 7 -/
mutual
def amanuensislaw02_NcrBack.j0 : Nat → List Int → List Bool → Bool → Option (Bool)
  | 0, _, _, _ => none
  | k + 1, x0, x1, x15 => if x15 = true then ((amanuensislaw02_answers.f k).bind fun t305 => (some t305)) else (amanuensislaw02_NcrBack.l0 k x0 x1 ([] : List Int) 0)
def amanuensislaw02_NcrBack.l0 : Nat → List Int → List Bool → List Int → Int → Option (Bool)
  | 0, _, _, _, _ => none
  | k + 1, x0, x1, x5, x6 => if x6 < (x0.length : Int) then (if 0 ≤ x6 then ((amanuensisref01_Scalar.f (rd x0 x6)).bind fun t307 => (if t307 = true then (if x6 < (x1.length : Int) then (if rdOf false x1 x6 = true then ((amanuensisref01_Ref.f k (rd x0 x6)).bind fun t310 => (if (strRunes (strOfNums t310)).length ≤ 70368744177664 then ((some (strRunes (strOfNums t310) : List Int)).bind fun y313 => (if x5.length + y313.length < 35184372088832 then (amanuensislaw02_NcrBack.l0 k x0 x1 (x5 ++ y313) (wrap64 (x6 + 1))) else (none))) else (none))) else (if x5.length < 35184372088832 then (amanuensislaw02_NcrBack.l0 k x0 x1 (x5 ++ [rd x0 x6]) (wrap64 (x6 + 1))) else (none))) else (if x5.length < 35184372088832 then (amanuensislaw02_NcrBack.l0 k x0 x1 (x5 ++ [rd x0 x6]) (wrap64 (x6 + 1))) else (none))) else ((amanuensislaw02_answers.f k).bind fun t327 => (some t327)))) else (none)) else (amanuensislaw02_NcrBack.l1 k x0 x1 x5 false 0)
def amanuensislaw02_NcrBack.j3 : Nat → List Int → List Int → Bool → Option (Bool)
  | 0, _, _, _ => none
  | k + 1, x0, x5, x7 => (amanuensislaw02_answers.f k).bind fun t329 => (if t329 = true then ((ncr_Expand.f k x5).bind fun t330 => ((amanuensisref01_Runes.f k t330 x0).bind fun t333 => (if t333 = true then ((ncr_Has.f k x5).bind fun t334 => (some (t334 == x7))) else (some false)))) else (some false))
def amanuensislaw02_NcrBack.l1 : Nat → List Int → List Bool → List Int → Bool → Int → Option (Bool)
  | 0, _, _, _, _, _ => none
  | k + 1, x0, x1, x5, x7, x8 => if x8 < (x0.length : Int) then (if x8 < (x1.length : Int) then (if x7 = true then (amanuensislaw02_NcrBack.l1 k x0 x1 x5 true (wrap64 (x8 + 1))) else (if 0 ≤ x8 then (amanuensislaw02_NcrBack.l1 k x0 x1 x5 (rdOf false x1 x8) (wrap64 (x8 + 1))) else (none))) else (amanuensislaw02_NcrBack.j3 k x0 x5 x7)) else (amanuensislaw02_NcrBack.j3 k x0 x5 x7)
end
def amanuensislaw02_NcrBack.f (k : Nat) (l0 : List Int) (l1 : List Bool) : Option (Bool) := if (l0.length : Int) > 200 then (amanuensislaw02_NcrBack.j0 k l0 l1 true) else ((amanuensisref01_Has.f k l0).bind fun t304 => (amanuensislaw02_NcrBack.j0 k l0 l1 t304))
theorem amanuensislaw02_NcrBack.mono_l : ∀ k, (∀ y0 y1 y2, LeO (amanuensislaw02_NcrBack.j0 k y0 y1 y2) (amanuensislaw02_NcrBack.j0 (k + 1) y0 y1 y2)) ∧ (∀ y0 y1 y2 y3, LeO (amanuensislaw02_NcrBack.l0 k y0 y1 y2 y3) (amanuensislaw02_NcrBack.l0 (k + 1) y0 y1 y2 y3)) ∧ (∀ y0 y1 y2, LeO (amanuensislaw02_NcrBack.j3 k y0 y1 y2) (amanuensislaw02_NcrBack.j3 (k + 1) y0 y1 y2)) ∧ (∀ y0 y1 y2 y3 y4, LeO (amanuensislaw02_NcrBack.l1 k y0 y1 y2 y3 y4) (amanuensislaw02_NcrBack.l1 (k + 1) y0 y1 y2 y3 y4))
  | 0 => ⟨fun _ _ _ r h => by simp [amanuensislaw02_NcrBack.j0] at h, fun _ _ _ _ r h => by simp [amanuensislaw02_NcrBack.l0] at h, fun _ _ _ r h => by simp [amanuensislaw02_NcrBack.j3] at h, fun _ _ _ _ _ r h => by simp [amanuensislaw02_NcrBack.l1] at h⟩
  | k + 1 => by
    obtain ⟨ih0, ih1, ih2, ih3⟩ := amanuensislaw02_NcrBack.mono_l k
    refine ⟨?_, ?_, ?_, ?_⟩
    · intro y0 y1 y2
      unfold amanuensislaw02_NcrBack.j0
      repeat' first
      | (with_reducible exact ih0 _ _ _)
      | (with_reducible exact ih1 _ _ _ _)
      | (with_reducible exact ih2 _ _ _)
      | (with_reducible exact ih3 _ _ _ _ _)
      | (with_reducible exact amanuensislaw02_answers.mono _)
      | (with_reducible exact amanuensisref01_Has.mono _ _)
      | (with_reducible exact amanuensisref01_Ref.mono _ _)
      | (with_reducible exact amanuensisref01_Runes.mono _ _ _)
      | (with_reducible exact ncr_Expand.mono _ _)
      | (with_reducible exact ncr_Has.mono _ _)
      | (with_reducible exact LeO.refl _)
      | (with_reducible exact LeO.none _)
      | (with_reducible refine LeO.ite ?_ ?_)
      | (with_reducible refine LeO.bind ?_ (fun _ => ?_))
      | exact ih0 _ _ _
      | exact ih1 _ _ _ _
      | exact ih2 _ _ _
      | exact ih3 _ _ _ _ _
      | exact amanuensislaw02_answers.mono _
      | exact amanuensisref01_Has.mono _ _
      | exact amanuensisref01_Ref.mono _ _
      | exact amanuensisref01_Runes.mono _ _ _
      | exact ncr_Expand.mono _ _
      | exact ncr_Has.mono _ _
      | exact LeO.none _
      | refine LeO.ite ?_ ?_
      | refine LeO.bind ?_ (fun _ => ?_)
    · intro y0 y1 y2 y3
      unfold amanuensislaw02_NcrBack.l0
      repeat' first
      | (with_reducible exact ih0 _ _ _)
      | (with_reducible exact ih1 _ _ _ _)
      | (with_reducible exact ih2 _ _ _)
      | (with_reducible exact ih3 _ _ _ _ _)
      | (with_reducible exact amanuensislaw02_answers.mono _)
      | (with_reducible exact amanuensisref01_Has.mono _ _)
      | (with_reducible exact amanuensisref01_Ref.mono _ _)
      | (with_reducible exact amanuensisref01_Runes.mono _ _ _)
      | (with_reducible exact ncr_Expand.mono _ _)
      | (with_reducible exact ncr_Has.mono _ _)
      | (with_reducible exact LeO.refl _)
      | (with_reducible exact LeO.none _)
      | (with_reducible refine LeO.ite ?_ ?_)
      | (with_reducible refine LeO.bind ?_ (fun _ => ?_))
      | exact ih0 _ _ _
      | exact ih1 _ _ _ _
      | exact ih2 _ _ _
      | exact ih3 _ _ _ _ _
      | exact amanuensislaw02_answers.mono _
      | exact amanuensisref01_Has.mono _ _
      | exact amanuensisref01_Ref.mono _ _
      | exact amanuensisref01_Runes.mono _ _ _
      | exact ncr_Expand.mono _ _
      | exact ncr_Has.mono _ _
      | exact LeO.none _
      | refine LeO.ite ?_ ?_
      | refine LeO.bind ?_ (fun _ => ?_)
    · intro y0 y1 y2
      unfold amanuensislaw02_NcrBack.j3
      repeat' first
      | (with_reducible exact ih0 _ _ _)
      | (with_reducible exact ih1 _ _ _ _)
      | (with_reducible exact ih2 _ _ _)
      | (with_reducible exact ih3 _ _ _ _ _)
      | (with_reducible exact amanuensislaw02_answers.mono _)
      | (with_reducible exact amanuensisref01_Has.mono _ _)
      | (with_reducible exact amanuensisref01_Ref.mono _ _)
      | (with_reducible exact amanuensisref01_Runes.mono _ _ _)
      | (with_reducible exact ncr_Expand.mono _ _)
      | (with_reducible exact ncr_Has.mono _ _)
      | (with_reducible exact LeO.refl _)
      | (with_reducible exact LeO.none _)
      | (with_reducible refine LeO.ite ?_ ?_)
      | (with_reducible refine LeO.bind ?_ (fun _ => ?_))
      | exact ih0 _ _ _
      | exact ih1 _ _ _ _
      | exact ih2 _ _ _
      | exact ih3 _ _ _ _ _
      | exact amanuensislaw02_answers.mono _
      | exact amanuensisref01_Has.mono _ _
      | exact amanuensisref01_Ref.mono _ _
      | exact amanuensisref01_Runes.mono _ _ _
      | exact ncr_Expand.mono _ _
      | exact ncr_Has.mono _ _
      | exact LeO.none _
      | refine LeO.ite ?_ ?_
      | refine LeO.bind ?_ (fun _ => ?_)
    · intro y0 y1 y2 y3 y4
      unfold amanuensislaw02_NcrBack.l1
      repeat' first
      | (with_reducible exact ih0 _ _ _)
      | (with_reducible exact ih1 _ _ _ _)
      | (with_reducible exact ih2 _ _ _)
      | (with_reducible exact ih3 _ _ _ _ _)
      | (with_reducible exact amanuensislaw02_answers.mono _)
      | (with_reducible exact amanuensisref01_Has.mono _ _)
      | (with_reducible exact amanuensisref01_Ref.mono _ _)
      | (with_reducible exact amanuensisref01_Runes.mono _ _ _)
      | (with_reducible exact ncr_Expand.mono _ _)
      | (with_reducible exact ncr_Has.mono _ _)
      | (with_reducible exact LeO.refl _)
      | (with_reducible exact LeO.none _)
      | (with_reducible refine LeO.ite ?_ ?_)
      | (with_reducible refine LeO.bind ?_ (fun _ => ?_))
      | exact ih0 _ _ _
      | exact ih1 _ _ _ _
      | exact ih2 _ _ _
      | exact ih3 _ _ _ _ _
      | exact amanuensislaw02_answers.mono _
      | exact amanuensisref01_Has.mono _ _
      | exact amanuensisref01_Ref.mono _ _
      | exact amanuensisref01_Runes.mono _ _ _
      | exact ncr_Expand.mono _ _
      | exact ncr_Has.mono _ _
      | exact LeO.none _
      | refine LeO.ite ?_ ?_
      | refine LeO.bind ?_ (fun _ => ?_)
theorem amanuensislaw02_NcrBack.mono : ∀ a0 a1 k, LeO (amanuensislaw02_NcrBack.f k a0 a1) (amanuensislaw02_NcrBack.f (k + 1) a0 a1) := by
  intro a0 a1 k
  obtain ⟨ih0, ih1, ih2, ih3⟩ := amanuensislaw02_NcrBack.mono_l k
  unfold amanuensislaw02_NcrBack.f
  repeat' first
      | (with_reducible exact ih0 _ _ _)
      | (with_reducible exact ih1 _ _ _ _)
      | (with_reducible exact ih2 _ _ _)
      | (with_reducible exact ih3 _ _ _ _ _)
      | (with_reducible exact amanuensislaw02_answers.mono _)
      | (with_reducible exact amanuensisref01_Has.mono _ _)
      | (with_reducible exact amanuensisref01_Ref.mono _ _)
      | (with_reducible exact amanuensisref01_Runes.mono _ _ _)
      | (with_reducible exact ncr_Expand.mono _ _)
      | (with_reducible exact ncr_Has.mono _ _)
      | (with_reducible exact LeO.refl _)
      | (with_reducible exact LeO.none _)
      | (with_reducible refine LeO.ite ?_ ?_)
      | (with_reducible refine LeO.bind ?_ (fun _ => ?_))
      | exact ih0 _ _ _
      | exact ih1 _ _ _ _
      | exact ih2 _ _ _
      | exact ih3 _ _ _ _ _
      | exact amanuensislaw02_answers.mono _
      | exact amanuensisref01_Has.mono _ _
      | exact amanuensisref01_Ref.mono _ _
      | exact amanuensisref01_Runes.mono _ _ _
      | exact ncr_Expand.mono _ _
      | exact ncr_Has.mono _ _
      | exact LeO.none _
      | refine LeO.ite ?_ ?_
      | refine LeO.bind ?_ (fun _ => ?_)
set_option maxHeartbeats 8000000 in
set_option maxRecDepth 100000 in
theorem amanuensislaw02_NcrBack.calls (k : Nat) (A0 : Option Addr) (c0 : Nat) (l0 : List Int) (A1 : Option Addr) (c1 : Nat) (l1 : List Bool) (r : Bool) (w : World) (hr0 : Kd.C (Kd.int .i32) w A0 l0.length l0) (hc0 : l0.length ≤ c0) (hr1 : Kd.C Kd.bool w A1 l1.length l1) (hc1 : l1.length ≤ c1) (h : amanuensislaw02_NcrBack.f k l0 l1 = some r) :
    Calls Try.prog 7 #[.slice A0 l0.length c0, .slice A1 l1.length c1] w fun e w' => e = .returned (.bool r) ∧ Below w.heap.size w w' := by
  have HR0 := Aside0.mk hr0
  have HC0 := Aside0.mk hc0
  clear hr0 hc0
  have HR1 := Aside0.mk hr1
  have HC1 := Aside0.mk hc1
  clear hr1 hc1
  have HB := Aside0.mk (Below.refl w.heap.size w)
  have H : (if (l0.length : Int) > 200 then (amanuensislaw02_NcrBack.j0 k l0 l1 true) else ((amanuensisref01_Has.f k l0).bind fun t304 => (amanuensislaw02_NcrBack.j0 k l0 l1 t304))) = some r := h
  clear h
  have HC3 := Aside0.mk H
  clear H
  go_enter Try.func7, Try.ntmps7
  go_upto_region 1 with (fail)
  go_cut [15] (fun v15 wc => ∃ (kq : Nat) (x15_2 : Bool), v15 = .bool x15_2 ∧ Aside0 (amanuensislaw02_NcrBack.j0 kq l0 l1 x15_2 = some r) ∧ Aside0 (kq ≤ k) ∧ Aside0 (Below w.heap.size w wc))
  case first =>
    have H := HC3.out
    clear HC3
    by_cases c4 : (l0.length : Int) > 200
    · rw [if_pos c4] at H
      have c4b0 : decide (200 < (l0.length : Int)) = true := decide_eq_true c4
      have c4b1 : decide (200 < l0.length) = true := decide_eq_true (by omega)
      clear c4
      (first | rw [c4b0] | (simp only [i64_w, i32_w]; rw [c4b0]) | skip)
      have H' := Aside0.mk H
      clear H
      go_wp2
      go_meet
      case rel => exact ⟨_, (true), (by first | rfl | (simp; done) | (simp [*]; done)), H', ⟨by first | omega | exact Nat.le_refl _⟩, ⟨by repeat (first | (with_reducible first | exact HB.out | apply below_alloc | apply pw_below_drewN | apply below_drew1) | exact HB.out)⟩⟩
    · rw [if_neg c4] at H
      have c4b0 : decide (200 < (l0.length : Int)) = false := decide_eq_false c4
      have c4b1 : decide (200 < l0.length) = false := decide_eq_false (by omega)
      clear c4
      (first | rw [c4b0] | (simp only [i64_w, i32_w]; rw [c4b0]) | skip)
      replace H := Option.bind_eq_some_iff.mp H
      obtain ⟨t304, A50, H⟩ := H
      replace H : (amanuensislaw02_NcrBack.j0 k l0 l1 t304) = some r := H
      have A5 := Aside0.mk A50
      clear A50
      have H' := Aside0.mk H
      clear H
      go_wp2_with (first | (go_at_call 18; (with_reducible refine (amanuensisref01_Has.calls k _ _ l0 t304 _ ?side1 ?side2 A5.out).mono ?_); (case side1 => repeat (first | exact (Kd.C_below HR0.out HB.out) | (with_reducible refine Kd.C_alloc ?_ _) | (with_reducible refine Kd.C_drewN ?_ _) | (with_reducible refine Kd.C_drew ?_))); (case side2 => exact HC0.out); rintro e w6 ⟨rfl, hb⟩; have n0_ := Aside0.mk (below_step (by repeat (first | (with_reducible first | exact HB.out | apply below_alloc | apply pw_below_drewN | apply below_drew1) | exact HB.out)) hb); clear HB; have HB := n0_; clear n0_; (try clear hb); (try clear hb2); (try clear hk); (try clear hi)))
      go_meet
      case rel => exact ⟨_, (t304), (by first | rfl | (simp; done) | (simp [*]; done)), H', ⟨by first | omega | exact Nat.le_refl _⟩, ⟨by repeat (first | (with_reducible first | exact HB.out | apply below_alloc | apply pw_below_drewN | apply below_drew1) | exact HB.out)⟩⟩
  case rest =>
    clear HC3
    try clear c1
    try clear p2
    try clear c4
    try clear c4b0
    try clear c4b1
    obtain ⟨kq, x15_2, rfl, HA, HJ2, HB⟩ := hcut
    cases kq with
    | zero => exact absurd HA.out (by simp [amanuensislaw02_NcrBack.j0])
    | succ kj2 =>
      have H := HA.out
      clear HA
      simp only [amanuensislaw02_NcrBack.j0] at H
      by_cases c7 : x15_2 = true
      · subst c7
        have H1 : ((amanuensislaw02_answers.f kj2).bind fun t305 => (some t305)) = some r := by rw [if_pos rfl] at H; exact H
        clear H
        have H := H1
        clear H1
        replace H := Option.bind_eq_some_iff.mp H
        obtain ⟨t305, A80, H⟩ := H
        replace H : (some t305) = some r := H
        have A8 := Aside0.mk A80
        clear A80
        obtain rfl := Option.some.inj H
        go_wp2_with (first | ((with_reducible refine gate_callee (f := 8) rfl ?_); refine goesL_ (some 16) rfl rfl Try.func8 (by kernel_rfl) rfl #[] rfl (by (try simp only [List.map_toArray, List.map_cons, List.map_nil]); first | done | rfl | (simp only [List.length_drop, List.length_take]; rfl)) ?_; (with_reducible refine (amanuensislaw02_answers.calls kj2  t305 _ A8.out).mono ?_); rintro e w9 ⟨rfl, hb⟩; refine ⟨_, rfl, ?_⟩; have n0_ := Aside0.mk (below_step (by repeat (first | (with_reducible first | exact HB.out | apply below_alloc | apply pw_below_drewN | apply below_drew1) | exact HB.out)) hb); clear HB; have HB := n0_; clear n0_; (try clear hb); (try clear hb2); (try clear hk); (try clear hi)))
        go_ret
        exact ⟨by first | rfl | (simp [errW_none, errW_some] <;> rfl) | (simp [*, errW_none, errW_some] <;> rfl), by repeat (first | (with_reducible first | exact HB.out | apply below_alloc | apply pw_below_drewN | apply below_drew1) | exact HB.out)⟩
      · replace c7 := Bool.eq_false_iff.mpr c7
        subst c7
        have H1 : (amanuensislaw02_NcrBack.l0 kj2 l0 l1 ([] : List Int) 0) = some r := by rw [if_neg (show ¬ (false = true) by decide)] at H; exact H
        clear H
        have H := H1
        clear H1
        have H' := Aside0.mk H
        clear H
        go_wp2
        go_loopg [5, 6] kj2 (fun kq v5 v6 w' => ∃ (x5_2 : List Int) (x6_2 : Int), v6 = .int .i64 x6_2 ∧ Aside0 (amanuensislaw02_NcrBack.l0 kq l0 l1 x5_2 x6_2 = some r) ∧ Aside0 (kq ≤ kj2) ∧ Aside0 (Kd.R (Kd.int .i32) 21 w' w.heap.size (fun _ => True) v5 x5_2) ∧ Aside0 (Below w.heap.size w w'))
        case atStart => exact ⟨(([] : List Int)), (0), (by first | rfl | (simp; done) | (simp [*]; done)), H', ⟨Nat.le_refl _⟩, ⟨by first | exact Kd.R_nil _ _ _ _ _ | exact Kd.N_nil _ _ _ _ _ | exact Kd.V_nil _ _ _ _ _ | exact Kd.Q_nil _ _ _ _ _ | exact Kd.S_nil _ _ _ _ _⟩, ⟨by repeat (first | (with_reducible first | exact HB.out | apply below_alloc | apply pw_below_drewN | apply below_drew1) | exact HB.out)⟩⟩
        case round =>
          clear H'
          try clear c1
          try clear p2
          try clear c4
          try clear c4b0
          try clear c4b1
          try clear c7
          try clear c8
          try clear p2
          obtain ⟨x5_2, x6_2, rfl, HA, HK2, HO_5, HB⟩ := hrel
          cases gk with
          | zero => exact absurd HA.out (by simp [amanuensislaw02_NcrBack.l0])
          | succ k2 =>
            have H := HA.out
            clear HA
            simp only [amanuensislaw02_NcrBack.l0] at H
            by_cases c10 : x6_2 < (l0.length : Int)
            · rw [if_pos c10] at H
              have c10b0 : decide (x6_2 < (l0.length : Int)) = true := decide_eq_true c10
              clear c10
              by_cases c11 : 0 ≤ x6_2
              · rw [if_pos c11] at H
                have c11b0 : decide (0 ≤ x6_2) = true := decide_eq_true c11
                clear c11
                replace H := Option.bind_eq_some_iff.mp H
                obtain ⟨t307, A120, H⟩ := H
                replace H : (if t307 = true then (if x6_2 < (l1.length : Int) then (if rdOf false l1 x6_2 = true then ((amanuensisref01_Ref.f k2 (rd l0 x6_2)).bind fun t310 => (if (strRunes (strOfNums t310)).length ≤ 70368744177664 then ((some (strRunes (strOfNums t310) : List Int)).bind fun y313 => (if x5_2.length + y313.length < 35184372088832 then (amanuensislaw02_NcrBack.l0 k2 l0 l1 (x5_2 ++ y313) (wrap64 (x6_2 + 1))) else (none))) else (none))) else (if x5_2.length < 35184372088832 then (amanuensislaw02_NcrBack.l0 k2 l0 l1 (x5_2 ++ [rd l0 x6_2]) (wrap64 (x6_2 + 1))) else (none))) else (if x5_2.length < 35184372088832 then (amanuensislaw02_NcrBack.l0 k2 l0 l1 (x5_2 ++ [rd l0 x6_2]) (wrap64 (x6_2 + 1))) else (none))) else ((amanuensislaw02_answers.f k2).bind fun t327 => (some t327))) = some r := H
                have A12 := Aside0.mk A120
                clear A120
                by_cases c13 : t307 = true
                · subst c13
                  have H1 : (if x6_2 < (l1.length : Int) then (if rdOf false l1 x6_2 = true then ((amanuensisref01_Ref.f k2 (rd l0 x6_2)).bind fun t310 => (if (strRunes (strOfNums t310)).length ≤ 70368744177664 then ((some (strRunes (strOfNums t310) : List Int)).bind fun y313 => (if x5_2.length + y313.length < 35184372088832 then (amanuensislaw02_NcrBack.l0 k2 l0 l1 (x5_2 ++ y313) (wrap64 (x6_2 + 1))) else (none))) else (none))) else (if x5_2.length < 35184372088832 then (amanuensislaw02_NcrBack.l0 k2 l0 l1 (x5_2 ++ [rd l0 x6_2]) (wrap64 (x6_2 + 1))) else (none))) else (if x5_2.length < 35184372088832 then (amanuensislaw02_NcrBack.l0 k2 l0 l1 (x5_2 ++ [rd l0 x6_2]) (wrap64 (x6_2 + 1))) else (none))) = some r := by rw [if_pos rfl] at H; exact H
                  clear H
                  have H := H1
                  clear H1
                  by_cases c14 : x6_2 < (l1.length : Int)
                  · rw [if_pos c14] at H
                    have c14b0 : decide (x6_2 < (l1.length : Int)) = true := decide_eq_true c14
                    clear c14
                    obtain ⟨bq15, hbq15⟩ : ∃ b_ : Bool, b_ = (rdOf false l1 x6_2) := ⟨_, rfl⟩
                    replace H : (if bq15 = true then ((amanuensisref01_Ref.f k2 (rd l0 x6_2)).bind fun t310 => (if (strRunes (strOfNums t310)).length ≤ 70368744177664 then ((some (strRunes (strOfNums t310) : List Int)).bind fun y313 => (if x5_2.length + y313.length < 35184372088832 then (amanuensislaw02_NcrBack.l0 k2 l0 l1 (x5_2 ++ y313) (wrap64 (x6_2 + 1))) else (none))) else (none))) else (if x5_2.length < 35184372088832 then (amanuensislaw02_NcrBack.l0 k2 l0 l1 (x5_2 ++ [rd l0 x6_2]) (wrap64 (x6_2 + 1))) else (none))) = some r := by rw [← hbq15] at H; exact H
                    have Nbq15 := Aside0.mk hbq15
                    clear hbq15
                    by_cases c16 : bq15 = true
                    · subst c16
                      have H1 : ((amanuensisref01_Ref.f k2 (rd l0 x6_2)).bind fun t310 => (if (strRunes (strOfNums t310)).length ≤ 70368744177664 then ((some (strRunes (strOfNums t310) : List Int)).bind fun y313 => (if x5_2.length + y313.length < 35184372088832 then (amanuensislaw02_NcrBack.l0 k2 l0 l1 (x5_2 ++ y313) (wrap64 (x6_2 + 1))) else (none))) else (none))) = some r := by rw [if_pos rfl] at H; exact H
                      clear H
                      have H := H1
                      clear H1
                      replace H := Option.bind_eq_some_iff.mp H
                      obtain ⟨t310, A170, H⟩ := H
                      replace H : (if (strRunes (strOfNums t310)).length ≤ 70368744177664 then ((some (strRunes (strOfNums t310) : List Int)).bind fun y313 => (if x5_2.length + y313.length < 35184372088832 then (amanuensislaw02_NcrBack.l0 k2 l0 l1 (x5_2 ++ y313) (wrap64 (x6_2 + 1))) else (none))) else (none)) = some r := H
                      have A17 := Aside0.mk A170
                      clear A170
                      by_cases c18 : (strRunes (strOfNums t310)).length ≤ 70368744177664
                      · rw [if_pos c18] at H
                        have c18b0 := eq_true c18
                        have c18b1 : decide ((strRunes (strOfNums t310)).length ≤ 70368744177664) = true := decide_eq_true c18
                        clear c18
                        obtain ⟨y313, hy313⟩ : ∃ y_ : List Int, y_ = (strRunes (strOfNums t310)) := ⟨_, rfl⟩
                        replace H : (if x5_2.length + y313.length < 35184372088832 then (amanuensislaw02_NcrBack.l0 k2 l0 l1 (x5_2 ++ y313) (wrap64 (x6_2 + 1))) else (none)) = some r := by first | (rw [hy313]; with_reducible exact H) | (have H2_ := (Option.bind_some _ _).symm.trans H; rw [hy313]; with_reducible exact H2_) | (have H2_ := (Option.bind_some _ _).symm.trans H; with_reducible exact H2_) | with_reducible exact H | (rw [hy313]; exact H) | exact H
                        have Ny313 := Aside0.mk hy313
                        clear hy313
                        by_cases c19 : x5_2.length + y313.length < 35184372088832
                        · rw [if_pos c19] at H
                          have LMc19 := Aside0.mk c19
                          clear c19
                          obtain ⟨y316, hy316⟩ : ∃ y_ : List Int, y_ = (x5_2 ++ y313) := ⟨_, rfl⟩
                          replace H : (amanuensislaw02_NcrBack.l0 k2 l0 l1 y316 (wrap64 (x6_2 + 1))) = some r := by first | (rw [hy316]; with_reducible exact H) | (have H2_ := (Option.bind_some _ _).symm.trans H; rw [hy316]; with_reducible exact H2_) | (have H2_ := (Option.bind_some _ _).symm.trans H; with_reducible exact H2_) | with_reducible exact H | (rw [hy316]; exact H) | exact H
                          have Ny316 := Aside0.mk hy316
                          clear hy316
                          have H' := Aside0.mk H
                          clear H
                          have p306 : 0 ≤ (x6_2 : Int) := of_decide_eq_true (by first | (with_reducible assumption) | assumption)
                          have q306 : x6_2 < (l0.length : Int) := of_decide_eq_true (by first | (with_reducible assumption) | assumption)
                          obtain ⟨ad306, e306, hx306_0⟩ := Kd.at_int HR0.out x6_2 p306 q306
                          cases e306
                          replace hx306_0 := (HB.out.cell (World.block_lt_of_cell? w _ hx306_0)).trans hx306_0
                          replace p306 := eq_true p306
                          replace q306 := eq_true q306
                          go_wp2_with (first | ((with_reducible refine gate_callee (f := 10) rfl ?_); refine goesL_ (some 27) rfl rfl Try.func10 (by kernel_rfl) rfl #[.int .i32 (rd l0 x6_2)] rfl (by (try simp only [List.map_toArray, List.map_cons, List.map_nil]); first | done | rfl | (simp only [List.length_drop, List.length_take]; rfl)) ?_; (with_reducible refine (amanuensisref01_Scalar.calls (rd l0 x6_2) true _ A12.out).mono ?_); rintro e w' ⟨rfl, ⟨nd, rfl⟩⟩; refine ⟨_, rfl, ?_⟩; have p308 : 0 ≤ (x6_2 : Int) := of_decide_eq_true (by first | (with_reducible assumption) | assumption); have q308 : x6_2 < (l1.length : Int) := of_decide_eq_true (by first | (with_reducible assumption) | assumption); obtain ⟨ad308, e308, hx308_0⟩ := Kd.at_bool HR1.out x6_2 p308 q308; (try rw [← Nbq15.out] at hx308_0); cases e308; replace hx308_0 := (HB.out.cell (World.block_lt_of_cell? w _ hx308_0)).trans hx308_0; replace p308 := eq_true p308; replace q308 := eq_true q308; have p309 : 0 ≤ (x6_2 : Int) := of_decide_eq_true (by first | (with_reducible assumption) | assumption); have q309 : x6_2 < (l0.length : Int) := of_decide_eq_true (by first | (with_reducible assumption) | assumption); obtain ⟨ad309, e309, hx309_0⟩ := Kd.at_int HR0.out x6_2 p309 q309; obtain rfl : ad306 = ad309 := (by injection e309); replace hx309_0 := (HB.out.cell (World.block_lt_of_cell? w _ hx309_0)).trans hx309_0; replace p309 := eq_true p309; replace q309 := eq_true q309) | ((with_reducible refine gate_callee (f := 12) rfl ?_); refine goesL_ (some 45) rfl rfl Try.func12 (by kernel_rfl) rfl #[.int .i32 (rd l0 x6_2)] rfl (by (try simp only [List.map_toArray, List.map_cons, List.map_nil]); first | done | rfl | (simp only [List.length_drop, List.length_take]; rfl)) ?_; (with_reducible refine (amanuensisref01_Ref.calls k2 (rd l0 x6_2) t310 _ A17.out).mono ?_); rintro e w20 ⟨v311, rfl, ho0, hb⟩; refine ⟨_, rfl, ?_⟩; have n0_ := Aside0.mk (Kd.R_below (by (with_reducible repeat (first | apply Kd.R_alloc | apply Kd.R_drewN | apply Kd.R_drew)); exact HO_5.out) hb); have n1_ := Aside0.mk (Kd.R_lower ho0 (below_size (by repeat (first | (with_reducible first | exact HB.out | apply below_alloc | apply pw_below_drewN | apply below_drew1) | exact HB.out)))); have n2_ := Aside0.mk (below_step (by repeat (first | (with_reducible first | exact HB.out | apply below_alloc | apply pw_below_drewN | apply below_drew1) | exact HB.out)) hb); clear HO_5; clear HB; have HO_5 := n0_; have HO312 := n1_; have HB := n2_; clear n0_ n1_ n2_; (try clear hb); (try clear hb2); (try clear hk); (try clear hi); (try clear ho0); have hcv21 := own_string (P := Try.prog) Try.underlying24 Try.underlying5 Try.underlying9 (Kd.own_of_R HO312.out)) | ((with_reducible refine gate_dst (N := 47) rfl ?_); (try (refine gate_guard (by rfl) ?_; dsimp only)); refine Given.R_conv _ 21 ?hg (N := 47) ?hd 9 22 _ rfl (strOfNums t310) ?hx Try.underlying9 Try.underlying22 Try.underlying21 (of_decide_eq_true (by first | (with_reducible assumption) | assumption)) (ok := fun _ => True) (okp := fun _ => True) (fun _ hk => hk) trivial (Below.refl _ _) (Nat.le_refl _) ?_; (case hd => rfl); (case hg => rfl); (case hx => first | rfl | (go_simp; done) | (go_simp; rfl)); intro v314 w22 ho23 hb hg_ hnew_; clear hg_ hnew_; (first | rw [← Ny313.out] at ho23 | (simp only [Int.reduceToNat] at ho23; rw [← Ny313.out] at ho23)); have n0_ := Aside0.mk (Kd.R_elder' (by (with_reducible repeat (first | apply Kd.R_alloc | apply Kd.R_drewN | apply Kd.R_drew)); exact HO_5.out) (Kd.R_base ho23) hb); have n1_ := Aside0.mk (Kd.R_below (by (with_reducible repeat (first | apply Kd.R_alloc | apply Kd.R_drewN | apply Kd.R_drew)); exact HO312.out) hb); have n2_ := Aside0.mk (Kd.R_lower (Kd.R_new' ho23 (Kd.R_lt (by (with_reducible repeat (first | apply Kd.R_alloc | apply Kd.R_drewN | apply Kd.R_drew)); exact HO_5.out))) (below_size (by repeat (first | (with_reducible first | exact HB.out | apply below_alloc | apply pw_below_drewN | apply below_drew1) | exact HB.out)))); have n3_ := Aside0.mk (below_step (by repeat (first | (with_reducible first | exact HB.out | apply below_alloc | apply pw_below_drewN | apply below_drew1) | exact HB.out)) hb); clear HO_5; clear HO312; clear HB; have HO_5 := n0_; have HO312 := n1_; have HO315 := n2_; have HB := n3_; clear n0_ n1_ n2_ n3_; clear hb ho23; obtain ⟨Ao25, co25, eo25⟩ := Kd.R_slice HO315.out; subst eo25) | ((with_reducible refine gate_builtin (b := .append) (xs := #[.tmp 40, .tmp 47]) rfl ?_); (try (refine gate_guard (by rfl) ?_; dsimp only)); at_builtin; refine Kd.R_append_rows (Kd.int .i32) (w0 := w) w.heap.size rfl (.tmp 40) (.tmp 47) 22 21 (.int .i32 0) 4 rfl Try.underlying22 info21 rfl (by decide) (by omega) u5 x5_2 y313 _ _ _ (fun k_ => some k_ ≠ (.slice Ao25 y313.length co25 : Value).ownBlock) (fun _ => False) rfl rfl ?aO ?aR (fun _ _ h => h) (fun _ h => h.elim) ?aF ?aB ?aS ?aL ?_; (case aR => repeat (first | exact (Kd.R_reads' HO315.out).2.2 | (with_reducible refine Kd.C_alloc ?_ _) | (with_reducible refine Kd.C_drewN ?_ _) | (with_reducible refine Kd.C_drew ?_))); (case aB => exact (by repeat (first | (with_reducible first | exact HB.out | apply below_alloc | apply pw_below_drewN | apply below_drew1) | exact HB.out))); (case aF => exact (fun k_ hk => Kd.fresh' (Kd.R_lt (by (with_reducible repeat (first | apply Kd.R_alloc | apply Kd.R_drewN | apply Kd.R_drew)); exact HO315.out)) k_ hk)); (case aO => exact (by (with_reducible repeat (first | apply Kd.R_alloc | apply Kd.R_drewN | apply Kd.R_drew)); exact Kd.R_mono HO_5.out (fun _ hk => hk.2))); (case aS => exact (below_size (by repeat (first | (with_reducible first | exact HB.out | apply below_alloc | apply pw_below_drewN | apply below_drew1) | exact HB.out)))); (case aL => have := LMc19.out; omega); intro v317 w24 ho hb hg hat; rw [← Ny316.out] at ho; have n0_ := Aside0.mk (Kd.R_over' (by (with_reducible repeat (first | apply Kd.R_alloc | apply Kd.R_drewN | apply Kd.R_drew)); exact HO312.out) (Kd.R_typed (by (with_reducible repeat (first | apply Kd.R_alloc | apply Kd.R_drewN | apply Kd.R_drew)); exact HO_5.out)) (by decide) hg); have n1_ := Aside0.mk (Kd.R_after (ok := (fun _ => True)) (by (with_reducible repeat (first | apply Kd.R_alloc | apply Kd.R_drewN | apply Kd.R_drew)); exact HO315.out) hg hat); have n2_ := Aside0.mk (hb); have n3_ := Aside0.mk (ho); clear HO312; clear HO315; clear HB; clear HO_5; have HO312 := n0_; have HO315 := n1_; have HB := n2_; have HO318 := n3_; clear n0_ n1_ n2_ n3_; clear ho hb hg hat))
                          go_roundg k2
                          case measure => have := HJ2.out; have := HK2.out; omega
                          case rel => exact ⟨(y316), (wrap64 (x6_2 + 1)), (by first | rfl | (simp; done) | (simp [*]; done)), H', ⟨by have := HJ2.out; have := HK2.out; omega⟩, ⟨by (with_reducible repeat (first | apply Kd.R_alloc | apply Kd.R_drewN | apply Kd.R_drew)); exact Kd.R_mono HO318.out (fun _ hk => trivial)⟩, ⟨by repeat (first | (with_reducible first | exact HB.out | apply below_alloc | apply pw_below_drewN | apply below_drew1) | exact HB.out)⟩⟩
                        · rw [if_neg c19] at H
                          exact absurd H (by simp)
                      · rw [if_neg c18] at H
                        exact absurd H (by simp)
                    · replace c16 := Bool.eq_false_iff.mpr c16
                      subst c16
                      have H1 : (if x5_2.length < 35184372088832 then (amanuensislaw02_NcrBack.l0 k2 l0 l1 (x5_2 ++ [rd l0 x6_2]) (wrap64 (x6_2 + 1))) else (none)) = some r := by rw [if_neg (show ¬ (false = true) by decide)] at H; exact H
                      clear H
                      have H := H1
                      clear H1
                      by_cases c26 : x5_2.length < 35184372088832
                      · rw [if_pos c26] at H
                        have LMc26 := Aside0.mk c26
                        clear c26
                        obtain ⟨y320, hy320⟩ : ∃ y_ : List Int, y_ = (x5_2 ++ [rd l0 x6_2]) := ⟨_, rfl⟩
                        replace H : (amanuensislaw02_NcrBack.l0 k2 l0 l1 y320 (wrap64 (x6_2 + 1))) = some r := by first | (rw [hy320]; with_reducible exact H) | (have H2_ := (Option.bind_some _ _).symm.trans H; rw [hy320]; with_reducible exact H2_) | (have H2_ := (Option.bind_some _ _).symm.trans H; with_reducible exact H2_) | with_reducible exact H | (rw [hy320]; exact H) | exact H
                        have Ny320 := Aside0.mk hy320
                        clear hy320
                        have H' := Aside0.mk H
                        clear H
                        have p306 : 0 ≤ (x6_2 : Int) := of_decide_eq_true (by first | (with_reducible assumption) | assumption)
                        have q306 : x6_2 < (l0.length : Int) := of_decide_eq_true (by first | (with_reducible assumption) | assumption)
                        obtain ⟨ad306, e306, hx306_0⟩ := Kd.at_int HR0.out x6_2 p306 q306
                        cases e306
                        replace hx306_0 := (HB.out.cell (World.block_lt_of_cell? w _ hx306_0)).trans hx306_0
                        replace p306 := eq_true p306
                        replace q306 := eq_true q306
                        go_wp2_with (first | ((with_reducible refine gate_callee (f := 10) rfl ?_); refine goesL_ (some 27) rfl rfl Try.func10 (by kernel_rfl) rfl #[.int .i32 (rd l0 x6_2)] rfl (by (try simp only [List.map_toArray, List.map_cons, List.map_nil]); first | done | rfl | (simp only [List.length_drop, List.length_take]; rfl)) ?_; (with_reducible refine (amanuensisref01_Scalar.calls (rd l0 x6_2) true _ A12.out).mono ?_); rintro e w' ⟨rfl, ⟨nd, rfl⟩⟩; refine ⟨_, rfl, ?_⟩; have p308 : 0 ≤ (x6_2 : Int) := of_decide_eq_true (by first | (with_reducible assumption) | assumption); have q308 : x6_2 < (l1.length : Int) := of_decide_eq_true (by first | (with_reducible assumption) | assumption); obtain ⟨ad308, e308, hx308_0⟩ := Kd.at_bool HR1.out x6_2 p308 q308; (try rw [← Nbq15.out] at hx308_0); cases e308; replace hx308_0 := (HB.out.cell (World.block_lt_of_cell? w _ hx308_0)).trans hx308_0; replace p308 := eq_true p308; replace q308 := eq_true q308; have p319 : 0 ≤ (x6_2 : Int) := of_decide_eq_true (by first | (with_reducible assumption) | assumption); have q319 : x6_2 < (l0.length : Int) := of_decide_eq_true (by first | (with_reducible assumption) | assumption); obtain ⟨ad319, e319, hx319_0⟩ := Kd.at_int HR0.out x6_2 p319 q319; obtain rfl : ad306 = ad319 := (by injection e319); replace hx319_0 := (HB.out.cell (World.block_lt_of_cell? w _ hx319_0)).trans hx319_0; replace p319 := eq_true p319; replace q319 := eq_true q319) | ((with_reducible refine gate_builtin (b := .append) (xs := #[.tmp 49, .tmp 54]) rfl ?_); (try (refine gate_guard (by rfl) ?_; dsimp only)); at_builtin; refine Kd.R_append (Kd.int .i32) (w0 := w) w.heap.size rfl (.tmp 49) (.tmp 54) 22 21 (.int .i32 0) 4 rfl Try.underlying22 info21 rfl (by decide) (by omega) u5 x5_2 (rd l0 x6_2) [.int .i32 (rd l0 x6_2)] (fun _ => True) (fun _ => False) rfl rfl ?aP (fun _ hk => hk.elim) ?aF ?aO ?aB ?aS ?aL ?_; (case aP => exact rfl); (case aB => exact (by repeat (first | (with_reducible first | exact HB.out | apply below_alloc | apply pw_below_drewN | apply below_drew1) | exact HB.out))); (case aF => exact (fun _ _ => trivial)); (case aO => exact (by (with_reducible repeat (first | apply Kd.R_alloc | apply Kd.R_drewN | apply Kd.R_drew)); exact HO_5.out)); (case aS => exact (below_size (by repeat (first | (with_reducible first | exact HB.out | apply below_alloc | apply pw_below_drewN | apply below_drew1) | exact HB.out)))); (case aL => have := LMc26.out; omega); intro v321 w27 ho hb hg hat; rw [← Ny320.out] at ho; have n0_ := Aside0.mk (hb); have n1_ := Aside0.mk (ho); clear HB; clear HO_5; have HB := n0_; have HO322 := n1_; clear n0_ n1_; clear ho hb hg hat))
                        go_roundg k2
                        case measure => have := HJ2.out; have := HK2.out; omega
                        case rel => exact ⟨(y320), (wrap64 (x6_2 + 1)), (by first | rfl | (simp; done) | (simp [*]; done)), H', ⟨by have := HJ2.out; have := HK2.out; omega⟩, ⟨by (with_reducible repeat (first | apply Kd.R_alloc | apply Kd.R_drewN | apply Kd.R_drew)); exact HO322.out⟩, ⟨by repeat (first | (with_reducible first | exact HB.out | apply below_alloc | apply pw_below_drewN | apply below_drew1) | exact HB.out)⟩⟩
                      · rw [if_neg c26] at H
                        exact absurd H (by simp)
                  · rw [if_neg c14] at H
                    have c14b0 : decide (x6_2 < (l1.length : Int)) = false := decide_eq_false c14
                    clear c14
                    by_cases c28 : x5_2.length < 35184372088832
                    · rw [if_pos c28] at H
                      have LMc28 := Aside0.mk c28
                      clear c28
                      obtain ⟨y324, hy324⟩ : ∃ y_ : List Int, y_ = (x5_2 ++ [rd l0 x6_2]) := ⟨_, rfl⟩
                      replace H : (amanuensislaw02_NcrBack.l0 k2 l0 l1 y324 (wrap64 (x6_2 + 1))) = some r := by first | (rw [hy324]; with_reducible exact H) | (have H2_ := (Option.bind_some _ _).symm.trans H; rw [hy324]; with_reducible exact H2_) | (have H2_ := (Option.bind_some _ _).symm.trans H; with_reducible exact H2_) | with_reducible exact H | (rw [hy324]; exact H) | exact H
                      have Ny324 := Aside0.mk hy324
                      clear hy324
                      have H' := Aside0.mk H
                      clear H
                      have p306 : 0 ≤ (x6_2 : Int) := of_decide_eq_true (by first | (with_reducible assumption) | assumption)
                      have q306 : x6_2 < (l0.length : Int) := of_decide_eq_true (by first | (with_reducible assumption) | assumption)
                      obtain ⟨ad306, e306, hx306_0⟩ := Kd.at_int HR0.out x6_2 p306 q306
                      cases e306
                      replace hx306_0 := (HB.out.cell (World.block_lt_of_cell? w _ hx306_0)).trans hx306_0
                      replace p306 := eq_true p306
                      replace q306 := eq_true q306
                      go_wp2_with (first | ((with_reducible refine gate_callee (f := 10) rfl ?_); refine goesL_ (some 27) rfl rfl Try.func10 (by kernel_rfl) rfl #[.int .i32 (rd l0 x6_2)] rfl (by (try simp only [List.map_toArray, List.map_cons, List.map_nil]); first | done | rfl | (simp only [List.length_drop, List.length_take]; rfl)) ?_; (with_reducible refine (amanuensisref01_Scalar.calls (rd l0 x6_2) true _ A12.out).mono ?_); rintro e w' ⟨rfl, ⟨nd, rfl⟩⟩; refine ⟨_, rfl, ?_⟩; have p323 : 0 ≤ (x6_2 : Int) := of_decide_eq_true (by first | (with_reducible assumption) | assumption); have q323 : x6_2 < (l0.length : Int) := of_decide_eq_true (by first | (with_reducible assumption) | assumption); obtain ⟨ad323, e323, hx323_0⟩ := Kd.at_int HR0.out x6_2 p323 q323; obtain rfl : ad306 = ad323 := (by injection e323); replace hx323_0 := (HB.out.cell (World.block_lt_of_cell? w _ hx323_0)).trans hx323_0; replace p323 := eq_true p323; replace q323 := eq_true q323) | ((with_reducible refine gate_builtin (b := .append) (xs := #[.tmp 49, .tmp 54]) rfl ?_); (try (refine gate_guard (by rfl) ?_; dsimp only)); at_builtin; refine Kd.R_append (Kd.int .i32) (w0 := w) w.heap.size rfl (.tmp 49) (.tmp 54) 22 21 (.int .i32 0) 4 rfl Try.underlying22 info21 rfl (by decide) (by omega) u5 x5_2 (rd l0 x6_2) [.int .i32 (rd l0 x6_2)] (fun _ => True) (fun _ => False) rfl rfl ?aP (fun _ hk => hk.elim) ?aF ?aO ?aB ?aS ?aL ?_; (case aP => exact rfl); (case aB => exact (by repeat (first | (with_reducible first | exact HB.out | apply below_alloc | apply pw_below_drewN | apply below_drew1) | exact HB.out))); (case aF => exact (fun _ _ => trivial)); (case aO => exact (by (with_reducible repeat (first | apply Kd.R_alloc | apply Kd.R_drewN | apply Kd.R_drew)); exact HO_5.out)); (case aS => exact (below_size (by repeat (first | (with_reducible first | exact HB.out | apply below_alloc | apply pw_below_drewN | apply below_drew1) | exact HB.out)))); (case aL => have := LMc28.out; omega); intro v325 w29 ho hb hg hat; rw [← Ny324.out] at ho; have n0_ := Aside0.mk (hb); have n1_ := Aside0.mk (ho); clear HB; clear HO_5; have HB := n0_; have HO326 := n1_; clear n0_ n1_; clear ho hb hg hat))
                      go_roundg k2
                      case measure => have := HJ2.out; have := HK2.out; omega
                      case rel => exact ⟨(y324), (wrap64 (x6_2 + 1)), (by first | rfl | (simp; done) | (simp [*]; done)), H', ⟨by have := HJ2.out; have := HK2.out; omega⟩, ⟨by (with_reducible repeat (first | apply Kd.R_alloc | apply Kd.R_drewN | apply Kd.R_drew)); exact HO326.out⟩, ⟨by repeat (first | (with_reducible first | exact HB.out | apply below_alloc | apply pw_below_drewN | apply below_drew1) | exact HB.out)⟩⟩
                    · rw [if_neg c28] at H
                      exact absurd H (by simp)
                · replace c13 := Bool.eq_false_iff.mpr c13
                  subst c13
                  have H1 : ((amanuensislaw02_answers.f k2).bind fun t327 => (some t327)) = some r := by rw [if_neg (show ¬ (false = true) by decide)] at H; exact H
                  clear H
                  have H := H1
                  clear H1
                  replace H := Option.bind_eq_some_iff.mp H
                  obtain ⟨t327, A300, H⟩ := H
                  replace H : (some t327) = some r := H
                  have A30 := Aside0.mk A300
                  clear A300
                  obtain rfl := Option.some.inj H
                  have p306 : 0 ≤ (x6_2 : Int) := of_decide_eq_true (by first | (with_reducible assumption) | assumption)
                  have q306 : x6_2 < (l0.length : Int) := of_decide_eq_true (by first | (with_reducible assumption) | assumption)
                  obtain ⟨ad306, e306, hx306_0⟩ := Kd.at_int HR0.out x6_2 p306 q306
                  cases e306
                  replace hx306_0 := (HB.out.cell (World.block_lt_of_cell? w _ hx306_0)).trans hx306_0
                  replace p306 := eq_true p306
                  replace q306 := eq_true q306
                  go_wp2_with (first | ((with_reducible refine gate_callee (f := 10) rfl ?_); refine goesL_ (some 27) rfl rfl Try.func10 (by kernel_rfl) rfl #[.int .i32 (rd l0 x6_2)] rfl (by (try simp only [List.map_toArray, List.map_cons, List.map_nil]); first | done | rfl | (simp only [List.length_drop, List.length_take]; rfl)) ?_; (with_reducible refine (amanuensisref01_Scalar.calls (rd l0 x6_2) false _ A12.out).mono ?_); rintro e w' ⟨rfl, ⟨nd, rfl⟩⟩; refine ⟨_, rfl, ?_⟩) | ((with_reducible refine gate_callee (f := 8) rfl ?_); refine goesL_ (some 29) rfl rfl Try.func8 (by kernel_rfl) rfl #[] rfl (by (try simp only [List.map_toArray, List.map_cons, List.map_nil]); first | done | rfl | (simp only [List.length_drop, List.length_take]; rfl)) ?_; (with_reducible refine (amanuensislaw02_answers.calls k2  t327 _ A30.out).mono ?_); rintro e w31 ⟨rfl, hb⟩; refine ⟨_, rfl, ?_⟩; have n0_ := Aside0.mk (Kd.R_below (by (with_reducible repeat (first | apply Kd.R_alloc | apply Kd.R_drewN | apply Kd.R_drew)); exact HO_5.out) hb); have n1_ := Aside0.mk (below_step (by repeat (first | (with_reducible first | exact HB.out | apply below_alloc | apply pw_below_drewN | apply below_drew1) | exact HB.out)) hb); clear HO_5; clear HB; have HO_5 := n0_; have HB := n1_; clear n0_ n1_; (try clear hb); (try clear hb2); (try clear hk); (try clear hi)))
                  go_ret
                  exact ⟨by first | rfl | (simp [errW_none, errW_some] <;> rfl) | (simp [*, errW_none, errW_some] <;> rfl), by repeat (first | (with_reducible first | exact HB.out | apply below_alloc | apply pw_below_drewN | apply below_drew1) | exact HB.out)⟩
              · rw [if_neg c11] at H
                exact absurd H (by simp)
            · rw [if_neg c10] at H
              have c10b0 : decide (x6_2 < (l0.length : Int)) = false := decide_eq_false c10
              clear c10
              have HC32 := Aside0.mk H
              clear H
              go_upto_block 2 with (fail)
              go_cut [7] (fun v7 wc => ∃ (kq : Nat) (x7_31 : Bool), v7 = .bool x7_31 ∧ Aside0 (amanuensislaw02_NcrBack.j3 kq l0 x5_2 x7_31 = some r) ∧ Aside0 (kq ≤ k2) ∧ Aside0 (Kd.R (Kd.int .i32) 21 wc w.heap.size (fun _ => True) u5 x5_2) ∧ Aside0 (Below w.heap.size w wc))
              case first =>
                have H := HC32.out
                clear HC32
                have H' := Aside0.mk H
                clear H
                go_wp2
                go_loopg [7, 8] k2 (fun kq v7 v8 w' => ∃ (x7_3 : Bool) (x8_3 : Int), v7 = .bool x7_3 ∧ v8 = .int .i64 x8_3 ∧ Aside0 (amanuensislaw02_NcrBack.l1 kq l0 l1 x5_2 x7_3 x8_3 = some r) ∧ Aside0 (kq ≤ k2) ∧ Aside0 (Kd.R (Kd.int .i32) 21 w' w.heap.size (fun _ => True) u5 x5_2) ∧ Aside0 (Below w.heap.size w w'))
                case atStart => exact ⟨(false), (0), (by first | rfl | (simp; done) | (simp [*]; done)), (by first | rfl | (simp; done) | (simp [*]; done)), H', ⟨Nat.le_refl _⟩, ⟨by (with_reducible repeat (first | apply Kd.R_alloc | apply Kd.R_drewN | apply Kd.R_drew)); exact HO_5.out⟩, ⟨by repeat (first | (with_reducible first | exact HB.out | apply below_alloc | apply pw_below_drewN | apply below_drew1) | exact HB.out)⟩⟩
                case round =>
                  clear H'
                  try clear c1
                  try clear q1
                  try clear c2
                  try clear p2
                  try clear hcv2
                  try clear p3
                  try clear q3
                  try clear hx3
                  try clear c4
                  try clear c4b0
                  try clear c4b1
                  try clear p6
                  try clear c7
                  try clear c8
                  try clear c10
                  try clear c10b0
                  try clear c11
                  try clear c11b0
                  try clear c12
                  try clear c13
                  try clear c14
                  try clear c14b0
                  try clear q15
                  try clear c16
                  try clear c18
                  try clear c18b0
                  try clear c18b1
                  try clear c19
                  try clear hcv21
                  try clear c26
                  try clear c28
                  try clear p30
                  try clear q30
                  try clear hx30
                  try clear p31
                  try clear q31
                  try clear hx31
                  try clear p32
                  try clear q32
                  try clear hx32
                  try clear hx306_0
                  try clear hx308_0
                  try clear hx309_0
                  try clear hx319_0
                  try clear hx323_0
                  try clear p2
                  try clear p306
                  try clear p308
                  try clear p309
                  try clear p319
                  try clear p323
                  try clear q306
                  try clear q308
                  try clear q309
                  try clear q319
                  try clear q323
                  obtain ⟨x7_3, x8_3, rfl, rfl, HA, HK3, HO_5, HB⟩ := hrel
                  cases gk with
                  | zero => exact absurd HA.out (by simp [amanuensislaw02_NcrBack.l1])
                  | succ k3 =>
                    have H := HA.out
                    clear HA
                    simp only [amanuensislaw02_NcrBack.l1] at H
                    by_cases c33 : x8_3 < (l0.length : Int)
                    · rw [if_pos c33] at H
                      have c33b0 : decide (x8_3 < (l0.length : Int)) = true := decide_eq_true c33
                      clear c33
                      (first | rw [c33b0] | (simp only [i64_w, i32_w]; rw [c33b0]) | skip)
                      by_cases c34 : x8_3 < (l1.length : Int)
                      · rw [if_pos c34] at H
                        have c34b0 : decide (x8_3 < (l1.length : Int)) = true := decide_eq_true c34
                        clear c34
                        by_cases c35 : x7_3 = true
                        · subst c35
                          have H1 : (amanuensislaw02_NcrBack.l1 k3 l0 l1 x5_2 true (wrap64 (x8_3 + 1))) = some r := by rw [if_pos rfl] at H; exact H
                          clear H
                          have H := H1
                          clear H1
                          have H' := Aside0.mk H
                          clear H
                          go_wp2
                          go_roundg k3
                          case measure => have := HJ2.out; have := HK2.out; have := HK3.out; omega
                          case rel => exact ⟨(true), (wrap64 (x8_3 + 1)), (by first | rfl | (simp; done) | (simp [*]; done)), (by first | rfl | (simp; done) | (simp [*]; done)), H', ⟨by have := HJ2.out; have := HK2.out; have := HK3.out; omega⟩, ⟨by (with_reducible repeat (first | apply Kd.R_alloc | apply Kd.R_drewN | apply Kd.R_drew)); exact HO_5.out⟩, ⟨by repeat (first | (with_reducible first | exact HB.out | apply below_alloc | apply pw_below_drewN | apply below_drew1) | exact HB.out)⟩⟩
                        · replace c35 := Bool.eq_false_iff.mpr c35
                          subst c35
                          have H1 : (if 0 ≤ x8_3 then (amanuensislaw02_NcrBack.l1 k3 l0 l1 x5_2 (rdOf false l1 x8_3) (wrap64 (x8_3 + 1))) else (none)) = some r := by rw [if_neg (show ¬ (false = true) by decide)] at H; exact H
                          clear H
                          have H := H1
                          clear H1
                          by_cases c36 : 0 ≤ x8_3
                          · rw [if_pos c36] at H
                            have c36b0 : decide (0 ≤ x8_3) = true := decide_eq_true c36
                            clear c36
                            have H' := Aside0.mk H
                            clear H
                            have p328 : 0 ≤ (x8_3 : Int) := of_decide_eq_true (by first | (with_reducible assumption) | assumption)
                            have q328 : x8_3 < (l1.length : Int) := of_decide_eq_true (by first | (with_reducible assumption) | assumption)
                            obtain ⟨ad328, e328, hx328_0⟩ := Kd.at_bool HR1.out x8_3 p328 q328
                            cases e328
                            replace hx328_0 := (HB.out.cell (World.block_lt_of_cell? w _ hx328_0)).trans hx328_0
                            replace p328 := eq_true p328
                            replace q328 := eq_true q328
                            go_wp2
                            go_roundg k3
                            case measure => have := HJ2.out; have := HK2.out; have := HK3.out; omega
                            case rel => exact ⟨(rdOf false l1 x8_3), (wrap64 (x8_3 + 1)), (by first | rfl | (simp; done) | (simp [*]; done)), (by first | rfl | (simp; done) | (simp [*]; done)), H', ⟨by have := HJ2.out; have := HK2.out; have := HK3.out; omega⟩, ⟨by (with_reducible repeat (first | apply Kd.R_alloc | apply Kd.R_drewN | apply Kd.R_drew)); exact HO_5.out⟩, ⟨by repeat (first | (with_reducible first | exact HB.out | apply below_alloc | apply pw_below_drewN | apply below_drew1) | exact HB.out)⟩⟩
                          · rw [if_neg c36] at H
                            exact absurd H (by simp)
                      · rw [if_neg c34] at H
                        have c34b0 : decide (x8_3 < (l1.length : Int)) = false := decide_eq_false c34
                        clear c34
                        have H' := Aside0.mk H
                        clear H
                        go_wp2
                        go_meet
                        case rel => exact ⟨_, (x7_3), (by first | rfl | (simp; done) | (simp [*]; done)), H', ⟨by have := HJ2.out; have := HK2.out; have := HK3.out; first | omega | exact Nat.le_refl _⟩, ⟨by (with_reducible repeat (first | apply Kd.R_alloc | apply Kd.R_drewN | apply Kd.R_drew)); exact HO_5.out⟩, ⟨by repeat (first | (with_reducible first | exact HB.out | apply below_alloc | apply pw_below_drewN | apply below_drew1) | exact HB.out)⟩⟩
                    · rw [if_neg c33] at H
                      have c33b0 : decide (x8_3 < (l0.length : Int)) = false := decide_eq_false c33
                      clear c33
                      (first | rw [c33b0] | (simp only [i64_w, i32_w]; rw [c33b0]) | skip)
                      have H' := Aside0.mk H
                      clear H
                      go_wp2
                      go_meet
                      case rel => exact ⟨_, (x7_3), (by first | rfl | (simp; done) | (simp [*]; done)), H', ⟨by have := HJ2.out; have := HK2.out; have := HK3.out; first | omega | exact Nat.le_refl _⟩, ⟨by (with_reducible repeat (first | apply Kd.R_alloc | apply Kd.R_drewN | apply Kd.R_drew)); exact HO_5.out⟩, ⟨by repeat (first | (with_reducible first | exact HB.out | apply below_alloc | apply pw_below_drewN | apply below_drew1) | exact HB.out)⟩⟩
              case rest =>
                clear HC32
                try clear c1
                try clear q1
                try clear c2
                try clear p2
                try clear hcv2
                try clear c3
                try clear p3
                try clear q3
                try clear hx3
                try clear c4
                try clear c4b0
                try clear c4b1
                try clear p6
                try clear c7
                try clear c8
                try clear c10
                try clear c10b0
                try clear c11
                try clear c11b0
                try clear c12
                try clear c13
                try clear c14
                try clear c14b0
                try clear q15
                try clear c16
                try clear c18
                try clear c18b0
                try clear c18b1
                try clear c19
                try clear hcv21
                try clear c26
                try clear c28
                try clear p30
                try clear q30
                try clear hx30
                try clear p31
                try clear q31
                try clear hx31
                try clear p32
                try clear q32
                try clear hx32
                try clear c33
                try clear c33b0
                try clear c34
                try clear c34b0
                try clear c35
                try clear c36
                try clear c36b0
                try clear hx306_0
                try clear hx308_0
                try clear hx309_0
                try clear hx319_0
                try clear hx323_0
                try clear hx328_0
                try clear p2
                try clear p3
                try clear p30
                try clear p306
                try clear p308
                try clear p309
                try clear p31
                try clear p319
                try clear p32
                try clear p323
                try clear p328
                try clear p6
                try clear q1
                try clear q15
                try clear q3
                try clear q30
                try clear q306
                try clear q308
                try clear q309
                try clear q31
                try clear q319
                try clear q32
                try clear q323
                try clear q328
                obtain ⟨kq, x7_31, rfl, HA, HJ31, HO_5, HB⟩ := hcut
                cases kq with
                | zero => exact absurd HA.out (by simp [amanuensislaw02_NcrBack.j3])
                | succ kj31 =>
                  have H := HA.out
                  clear HA
                  simp only [amanuensislaw02_NcrBack.j3] at H
                  replace H := Option.bind_eq_some_iff.mp H
                  obtain ⟨t329, A370, H⟩ := H
                  replace H : (if t329 = true then ((ncr_Expand.f kj31 x5_2).bind fun t330 => ((amanuensisref01_Runes.f kj31 t330 l0).bind fun t333 => (if t333 = true then ((ncr_Has.f kj31 x5_2).bind fun t334 => (some (t334 == x7_31))) else (some false)))) else (some false)) = some r := H
                  have A37 := Aside0.mk A370
                  clear A370
                  by_cases c38 : t329 = true
                  · subst c38
                    have H1 : ((ncr_Expand.f kj31 x5_2).bind fun t330 => ((amanuensisref01_Runes.f kj31 t330 l0).bind fun t333 => (if t333 = true then ((ncr_Has.f kj31 x5_2).bind fun t334 => (some (t334 == x7_31))) else (some false)))) = some r := by rw [if_pos rfl] at H; exact H
                    clear H
                    have H := H1
                    clear H1
                    replace H := Option.bind_eq_some_iff.mp H
                    obtain ⟨t330, A390, H⟩ := H
                    replace H : ((amanuensisref01_Runes.f kj31 t330 l0).bind fun t333 => (if t333 = true then ((ncr_Has.f kj31 x5_2).bind fun t334 => (some (t334 == x7_31))) else (some false))) = some r := H
                    have A39 := Aside0.mk A390
                    clear A390
                    replace H := Option.bind_eq_some_iff.mp H
                    obtain ⟨t333, A400, H⟩ := H
                    replace H : (if t333 = true then ((ncr_Has.f kj31 x5_2).bind fun t334 => (some (t334 == x7_31))) else (some false)) = some r := H
                    have A40 := Aside0.mk A400
                    clear A400
                    by_cases c41 : t333 = true
                    · subst c41
                      have H1 : ((ncr_Has.f kj31 x5_2).bind fun t334 => (some (t334 == x7_31))) = some r := by rw [if_pos rfl] at H; exact H
                      clear H
                      have H := H1
                      clear H1
                      replace H := Option.bind_eq_some_iff.mp H
                      obtain ⟨t334, A420, H⟩ := H
                      replace H : (some (t334 == x7_31)) = some r := H
                      have A42 := Aside0.mk A420
                      clear A420
                      obtain rfl := Option.some.inj H
                      go_wp2_with (first | ((with_reducible refine gate_callee (f := 8) rfl ?_); refine goesL_ (some 75) rfl rfl Try.func8 (by kernel_rfl) rfl #[] rfl (by (try simp only [List.map_toArray, List.map_cons, List.map_nil]); first | done | rfl | (simp only [List.length_drop, List.length_take]; rfl)) ?_; (with_reducible refine (amanuensislaw02_answers.calls kj31  true _ A37.out).mono ?_); rintro e w43 ⟨rfl, hb⟩; refine ⟨_, rfl, ?_⟩; have n0_ := Aside0.mk (Kd.R_below (by (with_reducible repeat (first | apply Kd.R_alloc | apply Kd.R_drewN | apply Kd.R_drew)); exact HO_5.out) hb); have n1_ := Aside0.mk (below_step (by repeat (first | (with_reducible first | exact HB.out | apply below_alloc | apply pw_below_drewN | apply below_drew1) | exact HB.out)) hb); clear HO_5; clear HB; have HO_5 := n0_; have HB := n1_; clear n0_ n1_; (try clear hb); (try clear hb2); (try clear hk); (try clear hi); obtain ⟨Ao44, co44, eo44⟩ := Kd.R_slice HO_5.out; subst eo44) | (go_at_call 14; (with_reducible refine (ncr_Expand.calls kj31 _ _ x5_2 t330 _ ?side1 ?side2 A39.out).mono ?_); (case side1 => repeat (first | exact (Kd.R_reads' HO_5.out).2.2 | (with_reducible refine Kd.C_alloc ?_ _) | (with_reducible refine Kd.C_drewN ?_ _) | (with_reducible refine Kd.C_drew ?_))); (case side2 => exact (Kd.R_reads' HO_5.out).2.1); rintro e w45 ⟨v331, rfl, ho0, hb⟩; have n0_ := Aside0.mk (Kd.R_elder' (by (with_reducible repeat (first | apply Kd.R_alloc | apply Kd.R_drewN | apply Kd.R_drew)); exact HO_5.out) (Kd.R_base ho0) hb); have n1_ := Aside0.mk (Kd.R_lower (Kd.R_new' ho0 (Kd.R_lt (by (with_reducible repeat (first | apply Kd.R_alloc | apply Kd.R_drewN | apply Kd.R_drew)); exact HO_5.out))) (below_size (by repeat (first | (with_reducible first | exact HB.out | apply below_alloc | apply pw_below_drewN | apply below_drew1) | exact HB.out)))); have n2_ := Aside0.mk (below_step (by repeat (first | (with_reducible first | exact HB.out | apply below_alloc | apply pw_below_drewN | apply below_drew1) | exact HB.out)) hb); clear HO_5; clear HB; have HO_5 := n0_; have HO332 := n1_; have HB := n2_; clear n0_ n1_ n2_; (try clear hb); (try clear hb2); (try clear hk); (try clear hi); (try clear ho0); obtain ⟨Ao46, co46, eo46⟩ := Kd.R_slice HO332.out; subst eo46) | (go_at_call 15; (with_reducible refine (amanuensisref01_Runes.calls kj31 _ _ t330 _ _ l0 true _ ?side1 ?side2 ?side3 ?side4 A40.out).mono ?_); (case side1 => repeat (first | exact (Kd.R_reads' HO332.out).2.2 | (with_reducible refine Kd.C_alloc ?_ _) | (with_reducible refine Kd.C_drewN ?_ _) | (with_reducible refine Kd.C_drew ?_))); (case side2 => exact (Kd.R_reads' HO332.out).2.1); (case side3 => repeat (first | exact (Kd.C_below HR0.out HB.out) | (with_reducible refine Kd.C_alloc ?_ _) | (with_reducible refine Kd.C_drewN ?_ _) | (with_reducible refine Kd.C_drew ?_))); (case side4 => exact HC0.out); rintro e w' ⟨rfl, ⟨nd, rfl⟩⟩) | (go_at_call 17; (with_reducible refine (ncr_Has.calls kj31 _ _ x5_2 t334 _ ?side1 ?side2 A42.out).mono ?_); (case side1 => repeat (first | exact (Kd.R_reads' HO_5.out).2.2 | (with_reducible refine Kd.C_alloc ?_ _) | (with_reducible refine Kd.C_drewN ?_ _) | (with_reducible refine Kd.C_drew ?_))); (case side2 => exact (Kd.R_reads' HO_5.out).2.1); rintro e w' ⟨rfl, ⟨nd, rfl⟩⟩))
                      go_ret
                      exact ⟨by first | rfl | (simp [errW_none, errW_some] <;> rfl) | (simp [*, errW_none, errW_some] <;> rfl), by repeat (first | (with_reducible first | exact HB.out | apply below_alloc | apply pw_below_drewN | apply below_drew1) | exact HB.out)⟩
                    · replace c41 := Bool.eq_false_iff.mpr c41
                      subst c41
                      have H1 : (some false) = some r := by rw [if_neg (show ¬ (false = true) by decide)] at H; exact H
                      clear H
                      have H := H1
                      clear H1
                      obtain rfl := Option.some.inj H
                      go_wp2_with (first | ((with_reducible refine gate_callee (f := 8) rfl ?_); refine goesL_ (some 75) rfl rfl Try.func8 (by kernel_rfl) rfl #[] rfl (by (try simp only [List.map_toArray, List.map_cons, List.map_nil]); first | done | rfl | (simp only [List.length_drop, List.length_take]; rfl)) ?_; (with_reducible refine (amanuensislaw02_answers.calls kj31  true _ A37.out).mono ?_); rintro e w47 ⟨rfl, hb⟩; refine ⟨_, rfl, ?_⟩; have n0_ := Aside0.mk (Kd.R_below (by (with_reducible repeat (first | apply Kd.R_alloc | apply Kd.R_drewN | apply Kd.R_drew)); exact HO_5.out) hb); have n1_ := Aside0.mk (below_step (by repeat (first | (with_reducible first | exact HB.out | apply below_alloc | apply pw_below_drewN | apply below_drew1) | exact HB.out)) hb); clear HO_5; clear HB; have HO_5 := n0_; have HB := n1_; clear n0_ n1_; (try clear hb); (try clear hb2); (try clear hk); (try clear hi); obtain ⟨Ao48, co48, eo48⟩ := Kd.R_slice HO_5.out; subst eo48) | (go_at_call 14; (with_reducible refine (ncr_Expand.calls kj31 _ _ x5_2 t330 _ ?side1 ?side2 A39.out).mono ?_); (case side1 => repeat (first | exact (Kd.R_reads' HO_5.out).2.2 | (with_reducible refine Kd.C_alloc ?_ _) | (with_reducible refine Kd.C_drewN ?_ _) | (with_reducible refine Kd.C_drew ?_))); (case side2 => exact (Kd.R_reads' HO_5.out).2.1); rintro e w49 ⟨v331, rfl, ho0, hb⟩; have n0_ := Aside0.mk (Kd.R_elder' (by (with_reducible repeat (first | apply Kd.R_alloc | apply Kd.R_drewN | apply Kd.R_drew)); exact HO_5.out) (Kd.R_base ho0) hb); have n1_ := Aside0.mk (Kd.R_lower (Kd.R_new' ho0 (Kd.R_lt (by (with_reducible repeat (first | apply Kd.R_alloc | apply Kd.R_drewN | apply Kd.R_drew)); exact HO_5.out))) (below_size (by repeat (first | (with_reducible first | exact HB.out | apply below_alloc | apply pw_below_drewN | apply below_drew1) | exact HB.out)))); have n2_ := Aside0.mk (below_step (by repeat (first | (with_reducible first | exact HB.out | apply below_alloc | apply pw_below_drewN | apply below_drew1) | exact HB.out)) hb); clear HO_5; clear HB; have HO_5 := n0_; have HO332 := n1_; have HB := n2_; clear n0_ n1_ n2_; (try clear hb); (try clear hb2); (try clear hk); (try clear hi); (try clear ho0); obtain ⟨Ao50, co50, eo50⟩ := Kd.R_slice HO332.out; subst eo50) | (go_at_call 15; (with_reducible refine (amanuensisref01_Runes.calls kj31 _ _ t330 _ _ l0 false _ ?side1 ?side2 ?side3 ?side4 A40.out).mono ?_); (case side1 => repeat (first | exact (Kd.R_reads' HO332.out).2.2 | (with_reducible refine Kd.C_alloc ?_ _) | (with_reducible refine Kd.C_drewN ?_ _) | (with_reducible refine Kd.C_drew ?_))); (case side2 => exact (Kd.R_reads' HO332.out).2.1); (case side3 => repeat (first | exact (Kd.C_below HR0.out HB.out) | (with_reducible refine Kd.C_alloc ?_ _) | (with_reducible refine Kd.C_drewN ?_ _) | (with_reducible refine Kd.C_drew ?_))); (case side4 => exact HC0.out); rintro e w' ⟨rfl, ⟨nd, rfl⟩⟩))
                      go_ret
                      exact ⟨by first | rfl | (simp [errW_none, errW_some] <;> rfl) | (simp [*, errW_none, errW_some] <;> rfl), by repeat (first | (with_reducible first | exact HB.out | apply below_alloc | apply pw_below_drewN | apply below_drew1) | exact HB.out)⟩
                  · replace c38 := Bool.eq_false_iff.mpr c38
                    subst c38
                    have H1 : (some false) = some r := by rw [if_neg (show ¬ (false = true) by decide)] at H; exact H
                    clear H
                    have H := H1
                    clear H1
                    obtain rfl := Option.some.inj H
                    go_wp2_with (first | ((with_reducible refine gate_callee (f := 8) rfl ?_); refine goesL_ (some 75) rfl rfl Try.func8 (by kernel_rfl) rfl #[] rfl (by (try simp only [List.map_toArray, List.map_cons, List.map_nil]); first | done | rfl | (simp only [List.length_drop, List.length_take]; rfl)) ?_; (with_reducible refine (amanuensislaw02_answers.calls kj31  false _ A37.out).mono ?_); rintro e w51 ⟨rfl, hb⟩; refine ⟨_, rfl, ?_⟩; have n0_ := Aside0.mk (Kd.R_below (by (with_reducible repeat (first | apply Kd.R_alloc | apply Kd.R_drewN | apply Kd.R_drew)); exact HO_5.out) hb); have n1_ := Aside0.mk (below_step (by repeat (first | (with_reducible first | exact HB.out | apply below_alloc | apply pw_below_drewN | apply below_drew1) | exact HB.out)) hb); clear HO_5; clear HB; have HO_5 := n0_; have HB := n1_; clear n0_ n1_; (try clear hb); (try clear hb2); (try clear hk); (try clear hi)))
                    go_ret
                    exact ⟨by first | rfl | (simp [errW_none, errW_some] <;> rfl) | (simp [*, errW_none, errW_some] <;> rfl), by repeat (first | (with_reducible first | exact HB.out | apply below_alloc | apply pw_below_drewN | apply below_drew1) | exact HB.out)⟩

end Go.Proofs.Ytfoffegcglommaa.PNcr
