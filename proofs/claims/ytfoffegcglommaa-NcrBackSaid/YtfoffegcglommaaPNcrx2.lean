-- Written by a program of this session (wip/mkprint.py) out of the translation. Not trusted: Lean checks it.
import Derived.Test.YtfoffegcglommaaPNcrx0
import Derived.Test.YtfoffegcglommaaPNcrx1
namespace Go.Proofs.Ytfoffegcglommaa.PNcr
open Go.RowKit Go.Proofs.YtfoffegcglommaaW.PrintWords Go.Proofs.YtfoffegcglommaaW.PrintLast Go.Proofs.YtfoffegcglommaaW.PrintMore
attribute [local go_sem] max2_int min2_int max_two min_two max_three min_three max_four min_four   -- for this text's walks alone
set_option linter.unusedVariables false
set_option linter.unusedSimpArgs false

/-! ### ncr_Scan: function 13 -/
mutual
def ncr_Scan.j0 : Nat → List Int → Int → Bool → Option (Int × Int)
  | 0, _, _, _ => none
  | k + 1, x0, x4, x17 => if x17 = true then (some (0, 0)) else (ncr_Scan.l0 k x0 x4 0)
def ncr_Scan.l0 : Nat → List Int → Int → Int → Option (Int × Int)
  | 0, _, _, _ => none
  | k + 1, x0, x4, x5 => if x4 < (x0.length : Int) then (if 0 ≤ x4 then ((ncr_digit.f (rd x0 x4)).bind fun t145 => (if t145 ≥ 0 then (if x4 < 9 then ((ncr_digit.f (rd x0 x4)).bind fun t147 => (ncr_Scan.l0 k x0 (wrap64 (x4 + 1)) (Go.bits .or .i32 (wrap32 (x5 * 16)) (wrap32 (t147))))) else (if (wrap64 (x4 - 3)) < 4 then (some (0, 0)) else (if (wrap64 (x4 - 3)) > 4 then (if 3 < (x0.length : Int) then (if (rd x0 3) = 48 then (some (0, 0)) else (if x4 ≥ (x0.length : Int) then (some (0, 0)) else (if (rd x0 x4) = 59 then ((utf_Scalar.f x5).bind fun t150 => (if t150 = true then (some (x5, wrap64 (x4 + 1))) else (some (0, 0)))) else (some (0, 0))))) else (none)) else (if x4 ≥ (x0.length : Int) then (some (0, 0)) else (if (rd x0 x4) = 59 then ((utf_Scalar.f x5).bind fun t152 => (if t152 = true then (some (x5, wrap64 (x4 + 1))) else (some (0, 0)))) else (some (0, 0))))))) else (if (wrap64 (x4 - 3)) < 4 then (some (0, 0)) else (if (wrap64 (x4 - 3)) > 4 then (if 3 < (x0.length : Int) then (if (rd x0 3) = 48 then (some (0, 0)) else (if x4 ≥ (x0.length : Int) then (some (0, 0)) else (if (rd x0 x4) = 59 then ((utf_Scalar.f x5).bind fun t155 => (if t155 = true then (some (x5, wrap64 (x4 + 1))) else (some (0, 0)))) else (some (0, 0))))) else (none)) else (if x4 ≥ (x0.length : Int) then (some (0, 0)) else (if (rd x0 x4) = 59 then ((utf_Scalar.f x5).bind fun t157 => (if t157 = true then (some (x5, wrap64 (x4 + 1))) else (some (0, 0)))) else (some (0, 0)))))))) else (none)) else (if (wrap64 (x4 - 3)) < 4 then (some (0, 0)) else (if (wrap64 (x4 - 3)) > 4 then (if 3 < (x0.length : Int) then (if (rd x0 3) = 48 then (some (0, 0)) else (if x4 ≥ (x0.length : Int) then (some (0, 0)) else (if 0 ≤ x4 then (none) else (none)))) else (none)) else (if x4 ≥ (x0.length : Int) then (some (0, 0)) else (if 0 ≤ x4 then (none) else (none)))))
end
def ncr_Scan.f (k : Nat) (l0 : List Int) : Option (Int × Int) := if (l0.length : Int) < 3 then (ncr_Scan.j0 k l0 3 true) else (if 3 ≤ (l0.length : Int) then (ncr_Scan.j0 k l0 3 ((runesBytes (l0.take 3)).toList != ([38, 35, 120] : List UInt8))) else (none))
theorem ncr_Scan.mono_l : ∀ k, (∀ y0 y1 y2, LeO (ncr_Scan.j0 k y0 y1 y2) (ncr_Scan.j0 (k + 1) y0 y1 y2)) ∧ (∀ y0 y1 y2, LeO (ncr_Scan.l0 k y0 y1 y2) (ncr_Scan.l0 (k + 1) y0 y1 y2))
  | 0 => ⟨fun _ _ _ r h => by simp [ncr_Scan.j0] at h, fun _ _ _ r h => by simp [ncr_Scan.l0] at h⟩
  | k + 1 => by
    obtain ⟨ih0, ih1⟩ := ncr_Scan.mono_l k
    refine ⟨?_, ?_⟩
    · intro y0 y1 y2
      unfold ncr_Scan.j0
      repeat' first
      | (with_reducible exact ih0 _ _ _)
      | (with_reducible exact ih1 _ _ _)
      | (with_reducible exact LeO.refl _)
      | (with_reducible exact LeO.none _)
      | (with_reducible refine LeO.ite ?_ ?_)
      | (with_reducible refine LeO.bind ?_ (fun _ => ?_))
      | exact ih0 _ _ _
      | exact ih1 _ _ _
      | exact LeO.none _
      | refine LeO.ite ?_ ?_
      | refine LeO.bind ?_ (fun _ => ?_)
    · intro y0 y1 y2
      unfold ncr_Scan.l0
      repeat' first
      | (with_reducible exact ih0 _ _ _)
      | (with_reducible exact ih1 _ _ _)
      | (with_reducible exact LeO.refl _)
      | (with_reducible exact LeO.none _)
      | (with_reducible refine LeO.ite ?_ ?_)
      | (with_reducible refine LeO.bind ?_ (fun _ => ?_))
      | exact ih0 _ _ _
      | exact ih1 _ _ _
      | exact LeO.none _
      | refine LeO.ite ?_ ?_
      | refine LeO.bind ?_ (fun _ => ?_)
theorem ncr_Scan.mono : ∀ a0 k, LeO (ncr_Scan.f k a0) (ncr_Scan.f (k + 1) a0) := by
  intro a0 k
  obtain ⟨ih0, ih1⟩ := ncr_Scan.mono_l k
  unfold ncr_Scan.f
  repeat' first
      | (with_reducible exact ih0 _ _ _)
      | (with_reducible exact ih1 _ _ _)
      | (with_reducible exact LeO.refl _)
      | (with_reducible exact LeO.none _)
      | (with_reducible refine LeO.ite ?_ ?_)
      | (with_reducible refine LeO.bind ?_ (fun _ => ?_))
      | exact ih0 _ _ _
      | exact ih1 _ _ _
      | exact LeO.none _
      | refine LeO.ite ?_ ?_
      | refine LeO.bind ?_ (fun _ => ?_)
set_option maxHeartbeats 8000000 in
set_option maxRecDepth 100000 in
theorem ncr_Scan.calls (k : Nat) (A0 : Option Addr) (c0 : Nat) (l0 : List Int) (r1 : Int) (r2 : Int) (w : World) (hr0 : Kd.C (Kd.int .i32) w A0 l0.length l0) (hc0 : l0.length ≤ c0) (h : ncr_Scan.f k l0 = some (r1, r2)) :
    Calls Try.prog 13 #[.slice A0 l0.length c0] w fun e w' => e = .returned (.tuple #[.int .i32 r1, .int .i64 r2]) ∧ Drawn0 w w' := by
  have HR0 := Aside0.mk hr0
  have HC0 := Aside0.mk hc0
  clear hr0 hc0
  have H : (if (l0.length : Int) < 3 then (ncr_Scan.j0 k l0 3 true) else (if 3 ≤ (l0.length : Int) then (ncr_Scan.j0 k l0 3 ((runesBytes (l0.take 3)).toList != ([38, 35, 120] : List UInt8))) else (none))) = some (r1, r2) := h
  clear h
  have HC2 := Aside0.mk H
  clear H
  go_enter Try.func13, Try.ntmps13
  go_upto_region 2 with (fail)
  go_cut [17] (fun v17 wc => ∃ (kq : Nat) (x17_1 : Bool), v17 = .bool x17_1 ∧ Aside0 (ncr_Scan.j0 kq l0 3 x17_1 = some (r1, r2)) ∧ Aside0 (kq ≤ k) ∧ Drawn0 w wc)
  case first =>
    have H := HC2.out
    clear HC2
    by_cases c3 : (l0.length : Int) < 3
    · rw [if_pos c3] at H
      have c3b0 : decide ((l0.length : Int) < 3) = true := decide_eq_true c3
      have c3b1 : decide (l0.length < 3) = true := decide_eq_true (by omega)
      clear c3
      (first | rw [c3b0] | (simp only [i64_w, i32_w]; rw [c3b0]) | skip)
      have H' := Aside0.mk H
      clear H
      go_wp2
      go_meet
      case rel => exact ⟨_, (true), (by first | rfl | (simp; done) | (simp [*]; done)), H', ⟨by first | omega | exact Nat.le_refl _⟩, by repeat (first | exact Drawn0.refl _ | apply Drawn0.step)⟩
    · rw [if_neg c3] at H
      have c3b0 : decide ((l0.length : Int) < 3) = false := decide_eq_false c3
      have c3b1 : decide (l0.length < 3) = false := decide_eq_false (by omega)
      clear c3
      (first | rw [c3b0] | (simp only [i64_w, i32_w]; rw [c3b0]) | skip)
      by_cases c4 : 3 ≤ (l0.length : Int)
      · rw [if_pos c4] at H
        have c4b0 := eq_true c4
        have c4b1 : decide (3 ≤ (l0.length : Int)) = true := decide_eq_true c4
        clear c4
        have H' := Aside0.mk H
        clear H
        obtain ⟨i05, hi05, _, hsz5, _⟩ := info_parts info21
        obtain ⟨hcut5, hA5, hC5⟩ := print_take_of (P := Try.prog) (Value.int .i32) 0 22 21 .i64 Try.underlying22 hi05 hsz5 A0 c0 l0 3 (by omega) (of_decide_eq_true (by first | (with_reducible assumption) | assumption)) HC0.out
        have HR143 := Aside0.mk (Kd.C_of_reads (h1 := fun _ => rfl) (hA5 _ (Kd.reads_of_C HR0.out)))
        have HC143 := Aside0.mk hC5
        clear hA5 hC5 hi05 hsz5
        have hmn6 : min 3 l0.length = 3 := (by have h_ : (3 : Int) ≤ (l0.length : Int) := of_decide_eq_true (by first | (with_reducible assumption) | assumption); omega)
        have hcv7 := Given.C_rstring (P := Try.prog) (A := A0) (c := c0) Try.underlying22 Try.underlying21 Try.underlying9 (by have h_ : Kd.C (Kd.int .i32) _ _ (l0.take 3).length (l0.take 3) := HR143.out; rw [show (l0.take 3).length = 3 from (by rw [List.length_take]; have h_ : (3 : Int) ≤ (l0.length : Int) := of_decide_eq_true (by first | (with_reducible assumption) | assumption); omega)] at h_; exact h_)
        go_wp2
        go_meet
        case rel => exact ⟨_, (((runesBytes (l0.take 3)).toList != ([38, 35, 120] : List UInt8))), (by first | rfl | (simp; done) | (simp [*]; done)), H', ⟨by first | omega | exact Nat.le_refl _⟩, by repeat (first | exact Drawn0.refl _ | apply Drawn0.step)⟩
      · rw [if_neg c4] at H
        exact absurd H (by simp)
  case rest =>
    clear HC2
    try clear c1
    try clear p2
    try clear c3
    try clear c3b0
    try clear c3b1
    try clear c4
    try clear c4b0
    try clear c4b1
    try clear hcv7
    obtain ⟨kq, x17_1, rfl, HA, HJ1, ⟨mc1, rfl⟩⟩ := hcut
    cases kq with
    | zero => exact absurd HA.out (by simp [ncr_Scan.j0])
    | succ kj1 =>
      have H := HA.out
      clear HA
      simp only [ncr_Scan.j0] at H
      by_cases c8 : x17_1 = true
      · subst c8
        have H1 : (some (0, 0)) = some (r1, r2) := by rw [if_pos rfl] at H; exact H
        clear H
        have H := H1
        clear H1
        simp only [Option.some.injEq, Prod.mk.injEq] at H
        obtain ⟨rfl, rfl⟩ := H
        go_wp2
        go_ret2
        exact ⟨by first | rfl | (simp; done) | (simp [*]; done), by repeat (first | exact Drawn0.refl _ | apply Drawn0.step)⟩
      · replace c8 := Bool.eq_false_iff.mpr c8
        subst c8
        have H1 : (ncr_Scan.l0 kj1 l0 3 0) = some (r1, r2) := by rw [if_neg (show ¬ (false = true) by decide)] at H; exact H
        clear H
        have H := H1
        clear H1
        have H' := Aside0.mk H
        clear H
        go_wp2
        go_loopg [4, 5] kj1 (fun kq v4 v5 w' => ∃ (x4_2 : Int) (x5_2 : Int), v4 = .int .i64 x4_2 ∧ v5 = .int .i32 x5_2 ∧ Aside0 (ncr_Scan.l0 kq l0 x4_2 x5_2 = some (r1, r2)) ∧ Aside0 (kq ≤ kj1) ∧ Drawn0 w w')
        case atStart => exact ⟨(3), (0), (by first | rfl | (simp; done) | (simp [*]; done)), (by first | rfl | (simp; done) | (simp [*]; done)), H', ⟨Nat.le_refl _⟩, by repeat (first | exact Drawn0.refl _ | apply Drawn0.step)⟩
        case round =>
          clear H'
          try clear c1
          try clear p2
          try clear c3
          try clear c3b0
          try clear c3b1
          try clear c4
          try clear c4b0
          try clear c4b1
          try clear hcv7
          try clear c8
          try clear p2
          obtain ⟨x4_2, x5_2, rfl, rfl, HA, HK2, ⟨m2, rfl⟩⟩ := hrel
          cases gk with
          | zero => exact absurd HA.out (by simp [ncr_Scan.l0])
          | succ k2 =>
            have H := HA.out
            clear HA
            simp only [ncr_Scan.l0] at H
            by_cases c9 : x4_2 < (l0.length : Int)
            · rw [if_pos c9] at H
              have c9b0 : decide (x4_2 < (l0.length : Int)) = true := decide_eq_true c9
              clear c9
              by_cases c10 : 0 ≤ x4_2
              · rw [if_pos c10] at H
                have c10b0 : decide (0 ≤ x4_2) = true := decide_eq_true c10
                clear c10
                replace H := Option.bind_eq_some_iff.mp H
                obtain ⟨t145, A110, H⟩ := H
                replace H : (if t145 ≥ 0 then (if x4_2 < 9 then ((ncr_digit.f (rd l0 x4_2)).bind fun t147 => (ncr_Scan.l0 k2 l0 (wrap64 (x4_2 + 1)) (Go.bits .or .i32 (wrap32 (x5_2 * 16)) (wrap32 (t147))))) else (if (wrap64 (x4_2 - 3)) < 4 then (some (0, 0)) else (if (wrap64 (x4_2 - 3)) > 4 then (if 3 < (l0.length : Int) then (if (rd l0 3) = 48 then (some (0, 0)) else (if x4_2 ≥ (l0.length : Int) then (some (0, 0)) else (if (rd l0 x4_2) = 59 then ((utf_Scalar.f x5_2).bind fun t150 => (if t150 = true then (some (x5_2, wrap64 (x4_2 + 1))) else (some (0, 0)))) else (some (0, 0))))) else (none)) else (if x4_2 ≥ (l0.length : Int) then (some (0, 0)) else (if (rd l0 x4_2) = 59 then ((utf_Scalar.f x5_2).bind fun t152 => (if t152 = true then (some (x5_2, wrap64 (x4_2 + 1))) else (some (0, 0)))) else (some (0, 0))))))) else (if (wrap64 (x4_2 - 3)) < 4 then (some (0, 0)) else (if (wrap64 (x4_2 - 3)) > 4 then (if 3 < (l0.length : Int) then (if (rd l0 3) = 48 then (some (0, 0)) else (if x4_2 ≥ (l0.length : Int) then (some (0, 0)) else (if (rd l0 x4_2) = 59 then ((utf_Scalar.f x5_2).bind fun t155 => (if t155 = true then (some (x5_2, wrap64 (x4_2 + 1))) else (some (0, 0)))) else (some (0, 0))))) else (none)) else (if x4_2 ≥ (l0.length : Int) then (some (0, 0)) else (if (rd l0 x4_2) = 59 then ((utf_Scalar.f x5_2).bind fun t157 => (if t157 = true then (some (x5_2, wrap64 (x4_2 + 1))) else (some (0, 0)))) else (some (0, 0))))))) = some (r1, r2) := H
                have A11 := Aside0.mk A110
                clear A110
                by_cases c12 : t145 ≥ 0
                · rw [if_pos c12] at H
                  have c12b0 : decide (0 ≤ t145) = true := decide_eq_true c12
                  clear c12
                  by_cases c13 : x4_2 < 9
                  · rw [if_pos c13] at H
                    have c13b0 : decide (x4_2 < 9) = true := decide_eq_true c13
                    clear c13
                    replace H := Option.bind_eq_some_iff.mp H
                    obtain ⟨t147, A140, H⟩ := H
                    replace H : (ncr_Scan.l0 k2 l0 (wrap64 (x4_2 + 1)) (Go.bits .or .i32 (wrap32 (x5_2 * 16)) (wrap32 (t147)))) = some (r1, r2) := H
                    have A14 := Aside0.mk A140
                    clear A140
                    have H' := Aside0.mk H
                    clear H
                    have p144 : 0 ≤ (x4_2 : Int) := of_decide_eq_true (by first | (with_reducible assumption) | assumption)
                    have q144 : x4_2 < (l0.length : Int) := of_decide_eq_true (by first | (with_reducible assumption) | assumption)
                    obtain ⟨ad144, e144, hx144_0⟩ := Kd.at_int HR0.out x4_2 p144 q144
                    cases e144
                    replace p144 := eq_true p144
                    replace q144 := eq_true q144
                    go_wp2_with (first | (go_at_call 21; (with_reducible refine (ncr_digit.calls (rd l0 x4_2) t145 _ A11.out).mono ?_); rintro e w' ⟨rfl, ⟨nd, rfl⟩⟩; have p146 : 0 ≤ (x4_2 : Int) := of_decide_eq_true (by first | (with_reducible assumption) | assumption); have q146 : x4_2 < (l0.length : Int) := of_decide_eq_true (by first | (with_reducible assumption) | assumption); obtain ⟨ad146, e146, hx146_0⟩ := Kd.at_int HR0.out x4_2 p146 q146; obtain rfl : ad144 = ad146 := (by injection e146); replace p146 := eq_true p146; replace q146 := eq_true q146) | ((with_reducible refine gate_callee (f := 21) rfl ?_); refine goesL_ (some 40) rfl rfl Try.func21 (by kernel_rfl) rfl #[.int .i32 (rd l0 x4_2)] rfl (by (try simp only [List.map_toArray, List.map_cons, List.map_nil]); first | done | rfl | (simp only [List.length_drop, List.length_take]; rfl)) ?_; (with_reducible refine (ncr_digit.calls (rd l0 x4_2) t147 _ A14.out).mono ?_); rintro e w' ⟨rfl, ⟨nd, rfl⟩⟩; refine ⟨_, rfl, ?_⟩))
                    go_roundg k2
                    case measure => have := HJ1.out; have := HK2.out; omega
                    case rel => exact ⟨(wrap64 (x4_2 + 1)), (Go.bits .or .i32 (wrap32 (x5_2 * 16)) (wrap32 (t147))), (by first | rfl | (simp; done) | (simp [*]; done)), (by first | rfl | (simp; done) | (simp [*]; done)), H', ⟨by have := HJ1.out; have := HK2.out; omega⟩, by repeat (first | exact Drawn0.refl _ | apply Drawn0.step)⟩
                  · rw [if_neg c13] at H
                    have c13b0 : decide (x4_2 < 9) = false := decide_eq_false c13
                    clear c13
                    by_cases c15 : (wrap64 (x4_2 - 3)) < 4
                    · rw [if_pos c15] at H
                      have c15b0 : decide ((wrap64 (x4_2 - 3)) < 4) = true := decide_eq_true c15
                      clear c15
                      simp only [Option.some.injEq, Prod.mk.injEq] at H
                      obtain ⟨rfl, rfl⟩ := H
                      have p144 : 0 ≤ (x4_2 : Int) := of_decide_eq_true (by first | (with_reducible assumption) | assumption)
                      have q144 : x4_2 < (l0.length : Int) := of_decide_eq_true (by first | (with_reducible assumption) | assumption)
                      obtain ⟨ad144, e144, hx144_0⟩ := Kd.at_int HR0.out x4_2 p144 q144
                      cases e144
                      replace p144 := eq_true p144
                      replace q144 := eq_true q144
                      go_wp2_with (first | (go_at_call 21; (with_reducible refine (ncr_digit.calls (rd l0 x4_2) t145 _ A11.out).mono ?_); rintro e w' ⟨rfl, ⟨nd, rfl⟩⟩))
                      go_ret2
                      exact ⟨by first | rfl | (simp; done) | (simp [*]; done), by repeat (first | exact Drawn0.refl _ | apply Drawn0.step)⟩
                    · rw [if_neg c15] at H
                      have c15b0 : decide ((wrap64 (x4_2 - 3)) < 4) = false := decide_eq_false c15
                      clear c15
                      by_cases c16 : (wrap64 (x4_2 - 3)) > 4
                      · rw [if_pos c16] at H
                        have c16b0 : decide (4 < (wrap64 (x4_2 - 3))) = true := decide_eq_true c16
                        clear c16
                        by_cases c17 : 3 < (l0.length : Int)
                        · rw [if_pos c17] at H
                          have c17b0 : decide (3 < (l0.length : Int)) = true := decide_eq_true c17
                          have c17b1 : decide (3 < l0.length) = true := decide_eq_true (by omega)
                          clear c17
                          by_cases c18 : (rd l0 3) = 48
                          · rw [if_pos c18] at H
                            have c18b0 : ((rd l0 3) == 48) = true := beq_iff_eq.mpr c18
                            have c18b1 : ((rd l0 3) != 48) = false := bne_eq_false_iff_eq.mpr c18
                            clear c18
                            simp only [Option.some.injEq, Prod.mk.injEq] at H
                            obtain ⟨rfl, rfl⟩ := H
                            have p144 : 0 ≤ (x4_2 : Int) := of_decide_eq_true (by first | (with_reducible assumption) | assumption)
                            have q144 : x4_2 < (l0.length : Int) := of_decide_eq_true (by first | (with_reducible assumption) | assumption)
                            obtain ⟨ad144, e144, hx144_0⟩ := Kd.at_int HR0.out x4_2 p144 q144
                            cases e144
                            replace p144 := eq_true p144
                            replace q144 := eq_true q144
                            go_wp2_with (first | (go_at_call 21; (with_reducible refine (ncr_digit.calls (rd l0 x4_2) t145 _ A11.out).mono ?_); rintro e w' ⟨rfl, ⟨nd, rfl⟩⟩; have p148 : 0 ≤ (3 : Int) := (by omega); have q148 : 3 < (l0.length : Int) := of_decide_eq_true (by first | (with_reducible assumption) | assumption); obtain ⟨ad148, e148, hx148_0⟩ := Kd.at_int HR0.out 3 p148 q148; obtain rfl : ad144 = ad148 := (by injection e148); (try simp only [show (3 : Int).toNat = 3 from rfl, Nat.reduceMul, Nat.reduceEqDiff, Go.Addr.add, ↓reduceIte] at hx148_0); have qi148 : (3 < l0.length) = True := eq_true (by omega); (try rw [show ((3 : Int)).toNat = 3 from rfl] at hx148_0); replace p148 := eq_true p148; replace q148 := eq_true q148))
                            go_ret2
                            exact ⟨by first | rfl | (simp; done) | (simp [*]; done), by repeat (first | exact Drawn0.refl _ | apply Drawn0.step)⟩
                          · rw [if_neg c18] at H
                            have c18b0 : ((rd l0 3) == 48) = false := beq_eq_false_iff_ne.mpr c18
                            have c18b1 : ((rd l0 3) != 48) = true := bne_iff_ne.mpr c18
                            by_cases c19 : x4_2 ≥ (l0.length : Int)
                            · rw [if_pos c19] at H
                              have c19b0 : decide ((l0.length : Int) ≤ x4_2) = true := decide_eq_true c19
                              clear c19
                              simp only [Option.some.injEq, Prod.mk.injEq] at H
                              obtain ⟨rfl, rfl⟩ := H
                              have p144 : 0 ≤ (x4_2 : Int) := of_decide_eq_true (by first | (with_reducible assumption) | assumption)
                              have q144 : x4_2 < (l0.length : Int) := of_decide_eq_true (by first | (with_reducible assumption) | assumption)
                              obtain ⟨ad144, e144, hx144_0⟩ := Kd.at_int HR0.out x4_2 p144 q144
                              cases e144
                              replace p144 := eq_true p144
                              replace q144 := eq_true q144
                              go_wp2_with (first | (go_at_call 21; (with_reducible refine (ncr_digit.calls (rd l0 x4_2) t145 _ A11.out).mono ?_); rintro e w' ⟨rfl, ⟨nd, rfl⟩⟩; have p148 : 0 ≤ (3 : Int) := (by omega); have q148 : 3 < (l0.length : Int) := of_decide_eq_true (by first | (with_reducible assumption) | assumption); obtain ⟨ad148, e148, hx148_0⟩ := Kd.at_int HR0.out 3 p148 q148; obtain rfl : ad144 = ad148 := (by injection e148); (try simp only [show (3 : Int).toNat = 3 from rfl, Nat.reduceMul, Nat.reduceEqDiff, Go.Addr.add, ↓reduceIte] at hx148_0); have qi148 : (3 < l0.length) = True := eq_true (by omega); (try rw [show ((3 : Int)).toNat = 3 from rfl] at hx148_0); replace p148 := eq_true p148; replace q148 := eq_true q148))
                              go_ret2
                              exact ⟨by first | rfl | (simp; done) | (simp [*]; done), by repeat (first | exact Drawn0.refl _ | apply Drawn0.step)⟩
                            · rw [if_neg c19] at H
                              have c19b0 : decide ((l0.length : Int) ≤ x4_2) = false := decide_eq_false c19
                              clear c19
                              by_cases c20 : (rd l0 x4_2) = 59
                              · rw [if_pos c20] at H
                                have c20b0 : ((rd l0 x4_2) == 59) = true := beq_iff_eq.mpr c20
                                have c20b1 : ((rd l0 x4_2) != 59) = false := bne_eq_false_iff_eq.mpr c20
                                clear c20
                                replace H := Option.bind_eq_some_iff.mp H
                                obtain ⟨t150, A210, H⟩ := H
                                replace H : (if t150 = true then (some (x5_2, wrap64 (x4_2 + 1))) else (some (0, 0))) = some (r1, r2) := H
                                have A21 := Aside0.mk A210
                                clear A210
                                by_cases c22 : t150 = true
                                · subst c22
                                  have H1 : (some (x5_2, wrap64 (x4_2 + 1))) = some (r1, r2) := by rw [if_pos rfl] at H; exact H
                                  clear H
                                  have H := H1
                                  clear H1
                                  simp only [Option.some.injEq, Prod.mk.injEq] at H
                                  obtain ⟨rfl, rfl⟩ := H
                                  have p144 : 0 ≤ (x4_2 : Int) := of_decide_eq_true (by first | (with_reducible assumption) | assumption)
                                  have q144 : x4_2 < (l0.length : Int) := of_decide_eq_true (by first | (with_reducible assumption) | assumption)
                                  obtain ⟨ad144, e144, hx144_0⟩ := Kd.at_int HR0.out x4_2 p144 q144
                                  cases e144
                                  replace p144 := eq_true p144
                                  replace q144 := eq_true q144
                                  go_wp2_with (first | (go_at_call 21; (with_reducible refine (ncr_digit.calls (rd l0 x4_2) t145 _ A11.out).mono ?_); rintro e w' ⟨rfl, ⟨nd, rfl⟩⟩; have p148 : 0 ≤ (3 : Int) := (by omega); have q148 : 3 < (l0.length : Int) := of_decide_eq_true (by first | (with_reducible assumption) | assumption); obtain ⟨ad148, e148, hx148_0⟩ := Kd.at_int HR0.out 3 p148 q148; obtain rfl : ad144 = ad148 := (by injection e148); (try simp only [show (3 : Int).toNat = 3 from rfl, Nat.reduceMul, Nat.reduceEqDiff, Go.Addr.add, ↓reduceIte] at hx148_0); have qi148 : (3 < l0.length) = True := eq_true (by omega); (try rw [show ((3 : Int)).toNat = 3 from rfl] at hx148_0); replace p148 := eq_true p148; replace q148 := eq_true q148; have p149 : 0 ≤ (x4_2 : Int) := of_decide_eq_true (by first | (with_reducible assumption) | assumption); have q149 : x4_2 < (l0.length : Int) := of_decide_eq_true (by first | (with_reducible assumption) | assumption); obtain ⟨ad149, e149, hx149_0⟩ := Kd.at_int HR0.out x4_2 p149 q149; obtain rfl : ad144 = ad149 := (by injection e149); replace p149 := eq_true p149; replace q149 := eq_true q149) | (go_at_call 20; (with_reducible refine (utf_Scalar.calls x5_2 true _ A21.out).mono ?_); rintro e w' ⟨rfl, ⟨nd, rfl⟩⟩))
                                  go_ret2
                                  exact ⟨by first | rfl | (simp; done) | (simp [*]; done), by repeat (first | exact Drawn0.refl _ | apply Drawn0.step)⟩
                                · replace c22 := Bool.eq_false_iff.mpr c22
                                  subst c22
                                  have H1 : (some (0, 0)) = some (r1, r2) := by rw [if_neg (show ¬ (false = true) by decide)] at H; exact H
                                  clear H
                                  have H := H1
                                  clear H1
                                  simp only [Option.some.injEq, Prod.mk.injEq] at H
                                  obtain ⟨rfl, rfl⟩ := H
                                  have p144 : 0 ≤ (x4_2 : Int) := of_decide_eq_true (by first | (with_reducible assumption) | assumption)
                                  have q144 : x4_2 < (l0.length : Int) := of_decide_eq_true (by first | (with_reducible assumption) | assumption)
                                  obtain ⟨ad144, e144, hx144_0⟩ := Kd.at_int HR0.out x4_2 p144 q144
                                  cases e144
                                  replace p144 := eq_true p144
                                  replace q144 := eq_true q144
                                  go_wp2_with (first | (go_at_call 21; (with_reducible refine (ncr_digit.calls (rd l0 x4_2) t145 _ A11.out).mono ?_); rintro e w' ⟨rfl, ⟨nd, rfl⟩⟩; have p148 : 0 ≤ (3 : Int) := (by omega); have q148 : 3 < (l0.length : Int) := of_decide_eq_true (by first | (with_reducible assumption) | assumption); obtain ⟨ad148, e148, hx148_0⟩ := Kd.at_int HR0.out 3 p148 q148; obtain rfl : ad144 = ad148 := (by injection e148); (try simp only [show (3 : Int).toNat = 3 from rfl, Nat.reduceMul, Nat.reduceEqDiff, Go.Addr.add, ↓reduceIte] at hx148_0); have qi148 : (3 < l0.length) = True := eq_true (by omega); (try rw [show ((3 : Int)).toNat = 3 from rfl] at hx148_0); replace p148 := eq_true p148; replace q148 := eq_true q148; have p149 : 0 ≤ (x4_2 : Int) := of_decide_eq_true (by first | (with_reducible assumption) | assumption); have q149 : x4_2 < (l0.length : Int) := of_decide_eq_true (by first | (with_reducible assumption) | assumption); obtain ⟨ad149, e149, hx149_0⟩ := Kd.at_int HR0.out x4_2 p149 q149; obtain rfl : ad144 = ad149 := (by injection e149); replace p149 := eq_true p149; replace q149 := eq_true q149) | (go_at_call 20; (with_reducible refine (utf_Scalar.calls x5_2 false _ A21.out).mono ?_); rintro e w' ⟨rfl, ⟨nd, rfl⟩⟩))
                                  go_ret2
                                  exact ⟨by first | rfl | (simp; done) | (simp [*]; done), by repeat (first | exact Drawn0.refl _ | apply Drawn0.step)⟩
                              · rw [if_neg c20] at H
                                have c20b0 : ((rd l0 x4_2) == 59) = false := beq_eq_false_iff_ne.mpr c20
                                have c20b1 : ((rd l0 x4_2) != 59) = true := bne_iff_ne.mpr c20
                                simp only [Option.some.injEq, Prod.mk.injEq] at H
                                obtain ⟨rfl, rfl⟩ := H
                                have p144 : 0 ≤ (x4_2 : Int) := of_decide_eq_true (by first | (with_reducible assumption) | assumption)
                                have q144 : x4_2 < (l0.length : Int) := of_decide_eq_true (by first | (with_reducible assumption) | assumption)
                                obtain ⟨ad144, e144, hx144_0⟩ := Kd.at_int HR0.out x4_2 p144 q144
                                cases e144
                                replace p144 := eq_true p144
                                replace q144 := eq_true q144
                                go_wp2_with (first | (go_at_call 21; (with_reducible refine (ncr_digit.calls (rd l0 x4_2) t145 _ A11.out).mono ?_); rintro e w' ⟨rfl, ⟨nd, rfl⟩⟩; have p148 : 0 ≤ (3 : Int) := (by omega); have q148 : 3 < (l0.length : Int) := of_decide_eq_true (by first | (with_reducible assumption) | assumption); obtain ⟨ad148, e148, hx148_0⟩ := Kd.at_int HR0.out 3 p148 q148; obtain rfl : ad144 = ad148 := (by injection e148); (try simp only [show (3 : Int).toNat = 3 from rfl, Nat.reduceMul, Nat.reduceEqDiff, Go.Addr.add, ↓reduceIte] at hx148_0); have qi148 : (3 < l0.length) = True := eq_true (by omega); (try rw [show ((3 : Int)).toNat = 3 from rfl] at hx148_0); replace p148 := eq_true p148; replace q148 := eq_true q148; have p149 : 0 ≤ (x4_2 : Int) := of_decide_eq_true (by first | (with_reducible assumption) | assumption); have q149 : x4_2 < (l0.length : Int) := of_decide_eq_true (by first | (with_reducible assumption) | assumption); obtain ⟨ad149, e149, hx149_0⟩ := Kd.at_int HR0.out x4_2 p149 q149; obtain rfl : ad144 = ad149 := (by injection e149); replace p149 := eq_true p149; replace q149 := eq_true q149))
                                go_ret2
                                exact ⟨by first | rfl | (simp; done) | (simp [*]; done), by repeat (first | exact Drawn0.refl _ | apply Drawn0.step)⟩
                        · rw [if_neg c17] at H
                          exact absurd H (by simp)
                      · rw [if_neg c16] at H
                        have c16b0 : decide (4 < (wrap64 (x4_2 - 3))) = false := decide_eq_false c16
                        clear c16
                        by_cases c23 : x4_2 ≥ (l0.length : Int)
                        · rw [if_pos c23] at H
                          have c23b0 : decide ((l0.length : Int) ≤ x4_2) = true := decide_eq_true c23
                          clear c23
                          simp only [Option.some.injEq, Prod.mk.injEq] at H
                          obtain ⟨rfl, rfl⟩ := H
                          have p144 : 0 ≤ (x4_2 : Int) := of_decide_eq_true (by first | (with_reducible assumption) | assumption)
                          have q144 : x4_2 < (l0.length : Int) := of_decide_eq_true (by first | (with_reducible assumption) | assumption)
                          obtain ⟨ad144, e144, hx144_0⟩ := Kd.at_int HR0.out x4_2 p144 q144
                          cases e144
                          replace p144 := eq_true p144
                          replace q144 := eq_true q144
                          go_wp2_with (first | (go_at_call 21; (with_reducible refine (ncr_digit.calls (rd l0 x4_2) t145 _ A11.out).mono ?_); rintro e w' ⟨rfl, ⟨nd, rfl⟩⟩))
                          go_ret2
                          exact ⟨by first | rfl | (simp; done) | (simp [*]; done), by repeat (first | exact Drawn0.refl _ | apply Drawn0.step)⟩
                        · rw [if_neg c23] at H
                          have c23b0 : decide ((l0.length : Int) ≤ x4_2) = false := decide_eq_false c23
                          clear c23
                          by_cases c24 : (rd l0 x4_2) = 59
                          · rw [if_pos c24] at H
                            have c24b0 : ((rd l0 x4_2) == 59) = true := beq_iff_eq.mpr c24
                            have c24b1 : ((rd l0 x4_2) != 59) = false := bne_eq_false_iff_eq.mpr c24
                            clear c24
                            replace H := Option.bind_eq_some_iff.mp H
                            obtain ⟨t152, A250, H⟩ := H
                            replace H : (if t152 = true then (some (x5_2, wrap64 (x4_2 + 1))) else (some (0, 0))) = some (r1, r2) := H
                            have A25 := Aside0.mk A250
                            clear A250
                            by_cases c26 : t152 = true
                            · subst c26
                              have H1 : (some (x5_2, wrap64 (x4_2 + 1))) = some (r1, r2) := by rw [if_pos rfl] at H; exact H
                              clear H
                              have H := H1
                              clear H1
                              simp only [Option.some.injEq, Prod.mk.injEq] at H
                              obtain ⟨rfl, rfl⟩ := H
                              have p144 : 0 ≤ (x4_2 : Int) := of_decide_eq_true (by first | (with_reducible assumption) | assumption)
                              have q144 : x4_2 < (l0.length : Int) := of_decide_eq_true (by first | (with_reducible assumption) | assumption)
                              obtain ⟨ad144, e144, hx144_0⟩ := Kd.at_int HR0.out x4_2 p144 q144
                              cases e144
                              replace p144 := eq_true p144
                              replace q144 := eq_true q144
                              go_wp2_with (first | (go_at_call 21; (with_reducible refine (ncr_digit.calls (rd l0 x4_2) t145 _ A11.out).mono ?_); rintro e w' ⟨rfl, ⟨nd, rfl⟩⟩; have p151 : 0 ≤ (x4_2 : Int) := of_decide_eq_true (by first | (with_reducible assumption) | assumption); have q151 : x4_2 < (l0.length : Int) := of_decide_eq_true (by first | (with_reducible assumption) | assumption); obtain ⟨ad151, e151, hx151_0⟩ := Kd.at_int HR0.out x4_2 p151 q151; obtain rfl : ad144 = ad151 := (by injection e151); replace p151 := eq_true p151; replace q151 := eq_true q151) | (go_at_call 20; (with_reducible refine (utf_Scalar.calls x5_2 true _ A25.out).mono ?_); rintro e w' ⟨rfl, ⟨nd, rfl⟩⟩))
                              go_ret2
                              exact ⟨by first | rfl | (simp; done) | (simp [*]; done), by repeat (first | exact Drawn0.refl _ | apply Drawn0.step)⟩
                            · replace c26 := Bool.eq_false_iff.mpr c26
                              subst c26
                              have H1 : (some (0, 0)) = some (r1, r2) := by rw [if_neg (show ¬ (false = true) by decide)] at H; exact H
                              clear H
                              have H := H1
                              clear H1
                              simp only [Option.some.injEq, Prod.mk.injEq] at H
                              obtain ⟨rfl, rfl⟩ := H
                              have p144 : 0 ≤ (x4_2 : Int) := of_decide_eq_true (by first | (with_reducible assumption) | assumption)
                              have q144 : x4_2 < (l0.length : Int) := of_decide_eq_true (by first | (with_reducible assumption) | assumption)
                              obtain ⟨ad144, e144, hx144_0⟩ := Kd.at_int HR0.out x4_2 p144 q144
                              cases e144
                              replace p144 := eq_true p144
                              replace q144 := eq_true q144
                              go_wp2_with (first | (go_at_call 21; (with_reducible refine (ncr_digit.calls (rd l0 x4_2) t145 _ A11.out).mono ?_); rintro e w' ⟨rfl, ⟨nd, rfl⟩⟩; have p151 : 0 ≤ (x4_2 : Int) := of_decide_eq_true (by first | (with_reducible assumption) | assumption); have q151 : x4_2 < (l0.length : Int) := of_decide_eq_true (by first | (with_reducible assumption) | assumption); obtain ⟨ad151, e151, hx151_0⟩ := Kd.at_int HR0.out x4_2 p151 q151; obtain rfl : ad144 = ad151 := (by injection e151); replace p151 := eq_true p151; replace q151 := eq_true q151) | (go_at_call 20; (with_reducible refine (utf_Scalar.calls x5_2 false _ A25.out).mono ?_); rintro e w' ⟨rfl, ⟨nd, rfl⟩⟩))
                              go_ret2
                              exact ⟨by first | rfl | (simp; done) | (simp [*]; done), by repeat (first | exact Drawn0.refl _ | apply Drawn0.step)⟩
                          · rw [if_neg c24] at H
                            have c24b0 : ((rd l0 x4_2) == 59) = false := beq_eq_false_iff_ne.mpr c24
                            have c24b1 : ((rd l0 x4_2) != 59) = true := bne_iff_ne.mpr c24
                            simp only [Option.some.injEq, Prod.mk.injEq] at H
                            obtain ⟨rfl, rfl⟩ := H
                            have p144 : 0 ≤ (x4_2 : Int) := of_decide_eq_true (by first | (with_reducible assumption) | assumption)
                            have q144 : x4_2 < (l0.length : Int) := of_decide_eq_true (by first | (with_reducible assumption) | assumption)
                            obtain ⟨ad144, e144, hx144_0⟩ := Kd.at_int HR0.out x4_2 p144 q144
                            cases e144
                            replace p144 := eq_true p144
                            replace q144 := eq_true q144
                            go_wp2_with (first | (go_at_call 21; (with_reducible refine (ncr_digit.calls (rd l0 x4_2) t145 _ A11.out).mono ?_); rintro e w' ⟨rfl, ⟨nd, rfl⟩⟩; have p151 : 0 ≤ (x4_2 : Int) := of_decide_eq_true (by first | (with_reducible assumption) | assumption); have q151 : x4_2 < (l0.length : Int) := of_decide_eq_true (by first | (with_reducible assumption) | assumption); obtain ⟨ad151, e151, hx151_0⟩ := Kd.at_int HR0.out x4_2 p151 q151; obtain rfl : ad144 = ad151 := (by injection e151); replace p151 := eq_true p151; replace q151 := eq_true q151))
                            go_ret2
                            exact ⟨by first | rfl | (simp; done) | (simp [*]; done), by repeat (first | exact Drawn0.refl _ | apply Drawn0.step)⟩
                · rw [if_neg c12] at H
                  have c12b0 : decide (0 ≤ t145) = false := decide_eq_false c12
                  clear c12
                  by_cases c27 : (wrap64 (x4_2 - 3)) < 4
                  · rw [if_pos c27] at H
                    have c27b0 : decide ((wrap64 (x4_2 - 3)) < 4) = true := decide_eq_true c27
                    clear c27
                    simp only [Option.some.injEq, Prod.mk.injEq] at H
                    obtain ⟨rfl, rfl⟩ := H
                    have p144 : 0 ≤ (x4_2 : Int) := of_decide_eq_true (by first | (with_reducible assumption) | assumption)
                    have q144 : x4_2 < (l0.length : Int) := of_decide_eq_true (by first | (with_reducible assumption) | assumption)
                    obtain ⟨ad144, e144, hx144_0⟩ := Kd.at_int HR0.out x4_2 p144 q144
                    cases e144
                    replace p144 := eq_true p144
                    replace q144 := eq_true q144
                    go_wp2_with (first | (go_at_call 21; (with_reducible refine (ncr_digit.calls (rd l0 x4_2) t145 _ A11.out).mono ?_); rintro e w' ⟨rfl, ⟨nd, rfl⟩⟩))
                    go_ret2
                    exact ⟨by first | rfl | (simp; done) | (simp [*]; done), by repeat (first | exact Drawn0.refl _ | apply Drawn0.step)⟩
                  · rw [if_neg c27] at H
                    have c27b0 : decide ((wrap64 (x4_2 - 3)) < 4) = false := decide_eq_false c27
                    clear c27
                    by_cases c28 : (wrap64 (x4_2 - 3)) > 4
                    · rw [if_pos c28] at H
                      have c28b0 : decide (4 < (wrap64 (x4_2 - 3))) = true := decide_eq_true c28
                      clear c28
                      by_cases c29 : 3 < (l0.length : Int)
                      · rw [if_pos c29] at H
                        have c29b0 : decide (3 < (l0.length : Int)) = true := decide_eq_true c29
                        have c29b1 : decide (3 < l0.length) = true := decide_eq_true (by omega)
                        clear c29
                        by_cases c30 : (rd l0 3) = 48
                        · rw [if_pos c30] at H
                          have c30b0 : ((rd l0 3) == 48) = true := beq_iff_eq.mpr c30
                          have c30b1 : ((rd l0 3) != 48) = false := bne_eq_false_iff_eq.mpr c30
                          clear c30
                          simp only [Option.some.injEq, Prod.mk.injEq] at H
                          obtain ⟨rfl, rfl⟩ := H
                          have p144 : 0 ≤ (x4_2 : Int) := of_decide_eq_true (by first | (with_reducible assumption) | assumption)
                          have q144 : x4_2 < (l0.length : Int) := of_decide_eq_true (by first | (with_reducible assumption) | assumption)
                          obtain ⟨ad144, e144, hx144_0⟩ := Kd.at_int HR0.out x4_2 p144 q144
                          cases e144
                          replace p144 := eq_true p144
                          replace q144 := eq_true q144
                          go_wp2_with (first | (go_at_call 21; (with_reducible refine (ncr_digit.calls (rd l0 x4_2) t145 _ A11.out).mono ?_); rintro e w' ⟨rfl, ⟨nd, rfl⟩⟩; have p153 : 0 ≤ (3 : Int) := (by omega); have q153 : 3 < (l0.length : Int) := of_decide_eq_true (by first | (with_reducible assumption) | assumption); obtain ⟨ad153, e153, hx153_0⟩ := Kd.at_int HR0.out 3 p153 q153; obtain rfl : ad144 = ad153 := (by injection e153); (try simp only [show (3 : Int).toNat = 3 from rfl, Nat.reduceMul, Nat.reduceEqDiff, Go.Addr.add, ↓reduceIte] at hx153_0); have qi153 : (3 < l0.length) = True := eq_true (by omega); (try rw [show ((3 : Int)).toNat = 3 from rfl] at hx153_0); replace p153 := eq_true p153; replace q153 := eq_true q153))
                          go_ret2
                          exact ⟨by first | rfl | (simp; done) | (simp [*]; done), by repeat (first | exact Drawn0.refl _ | apply Drawn0.step)⟩
                        · rw [if_neg c30] at H
                          have c30b0 : ((rd l0 3) == 48) = false := beq_eq_false_iff_ne.mpr c30
                          have c30b1 : ((rd l0 3) != 48) = true := bne_iff_ne.mpr c30
                          by_cases c31 : x4_2 ≥ (l0.length : Int)
                          · rw [if_pos c31] at H
                            have c31b0 : decide ((l0.length : Int) ≤ x4_2) = true := decide_eq_true c31
                            clear c31
                            simp only [Option.some.injEq, Prod.mk.injEq] at H
                            obtain ⟨rfl, rfl⟩ := H
                            have p144 : 0 ≤ (x4_2 : Int) := of_decide_eq_true (by first | (with_reducible assumption) | assumption)
                            have q144 : x4_2 < (l0.length : Int) := of_decide_eq_true (by first | (with_reducible assumption) | assumption)
                            obtain ⟨ad144, e144, hx144_0⟩ := Kd.at_int HR0.out x4_2 p144 q144
                            cases e144
                            replace p144 := eq_true p144
                            replace q144 := eq_true q144
                            go_wp2_with (first | (go_at_call 21; (with_reducible refine (ncr_digit.calls (rd l0 x4_2) t145 _ A11.out).mono ?_); rintro e w' ⟨rfl, ⟨nd, rfl⟩⟩; have p153 : 0 ≤ (3 : Int) := (by omega); have q153 : 3 < (l0.length : Int) := of_decide_eq_true (by first | (with_reducible assumption) | assumption); obtain ⟨ad153, e153, hx153_0⟩ := Kd.at_int HR0.out 3 p153 q153; obtain rfl : ad144 = ad153 := (by injection e153); (try simp only [show (3 : Int).toNat = 3 from rfl, Nat.reduceMul, Nat.reduceEqDiff, Go.Addr.add, ↓reduceIte] at hx153_0); have qi153 : (3 < l0.length) = True := eq_true (by omega); (try rw [show ((3 : Int)).toNat = 3 from rfl] at hx153_0); replace p153 := eq_true p153; replace q153 := eq_true q153))
                            go_ret2
                            exact ⟨by first | rfl | (simp; done) | (simp [*]; done), by repeat (first | exact Drawn0.refl _ | apply Drawn0.step)⟩
                          · rw [if_neg c31] at H
                            have c31b0 : decide ((l0.length : Int) ≤ x4_2) = false := decide_eq_false c31
                            clear c31
                            by_cases c32 : (rd l0 x4_2) = 59
                            · rw [if_pos c32] at H
                              have c32b0 : ((rd l0 x4_2) == 59) = true := beq_iff_eq.mpr c32
                              have c32b1 : ((rd l0 x4_2) != 59) = false := bne_eq_false_iff_eq.mpr c32
                              clear c32
                              replace H := Option.bind_eq_some_iff.mp H
                              obtain ⟨t155, A330, H⟩ := H
                              replace H : (if t155 = true then (some (x5_2, wrap64 (x4_2 + 1))) else (some (0, 0))) = some (r1, r2) := H
                              have A33 := Aside0.mk A330
                              clear A330
                              by_cases c34 : t155 = true
                              · subst c34
                                have H1 : (some (x5_2, wrap64 (x4_2 + 1))) = some (r1, r2) := by rw [if_pos rfl] at H; exact H
                                clear H
                                have H := H1
                                clear H1
                                simp only [Option.some.injEq, Prod.mk.injEq] at H
                                obtain ⟨rfl, rfl⟩ := H
                                have p144 : 0 ≤ (x4_2 : Int) := of_decide_eq_true (by first | (with_reducible assumption) | assumption)
                                have q144 : x4_2 < (l0.length : Int) := of_decide_eq_true (by first | (with_reducible assumption) | assumption)
                                obtain ⟨ad144, e144, hx144_0⟩ := Kd.at_int HR0.out x4_2 p144 q144
                                cases e144
                                replace p144 := eq_true p144
                                replace q144 := eq_true q144
                                go_wp2_with (first | (go_at_call 21; (with_reducible refine (ncr_digit.calls (rd l0 x4_2) t145 _ A11.out).mono ?_); rintro e w' ⟨rfl, ⟨nd, rfl⟩⟩; have p153 : 0 ≤ (3 : Int) := (by omega); have q153 : 3 < (l0.length : Int) := of_decide_eq_true (by first | (with_reducible assumption) | assumption); obtain ⟨ad153, e153, hx153_0⟩ := Kd.at_int HR0.out 3 p153 q153; obtain rfl : ad144 = ad153 := (by injection e153); (try simp only [show (3 : Int).toNat = 3 from rfl, Nat.reduceMul, Nat.reduceEqDiff, Go.Addr.add, ↓reduceIte] at hx153_0); have qi153 : (3 < l0.length) = True := eq_true (by omega); (try rw [show ((3 : Int)).toNat = 3 from rfl] at hx153_0); replace p153 := eq_true p153; replace q153 := eq_true q153; have p154 : 0 ≤ (x4_2 : Int) := of_decide_eq_true (by first | (with_reducible assumption) | assumption); have q154 : x4_2 < (l0.length : Int) := of_decide_eq_true (by first | (with_reducible assumption) | assumption); obtain ⟨ad154, e154, hx154_0⟩ := Kd.at_int HR0.out x4_2 p154 q154; obtain rfl : ad144 = ad154 := (by injection e154); replace p154 := eq_true p154; replace q154 := eq_true q154) | (go_at_call 20; (with_reducible refine (utf_Scalar.calls x5_2 true _ A33.out).mono ?_); rintro e w' ⟨rfl, ⟨nd, rfl⟩⟩))
                                go_ret2
                                exact ⟨by first | rfl | (simp; done) | (simp [*]; done), by repeat (first | exact Drawn0.refl _ | apply Drawn0.step)⟩
                              · replace c34 := Bool.eq_false_iff.mpr c34
                                subst c34
                                have H1 : (some (0, 0)) = some (r1, r2) := by rw [if_neg (show ¬ (false = true) by decide)] at H; exact H
                                clear H
                                have H := H1
                                clear H1
                                simp only [Option.some.injEq, Prod.mk.injEq] at H
                                obtain ⟨rfl, rfl⟩ := H
                                have p144 : 0 ≤ (x4_2 : Int) := of_decide_eq_true (by first | (with_reducible assumption) | assumption)
                                have q144 : x4_2 < (l0.length : Int) := of_decide_eq_true (by first | (with_reducible assumption) | assumption)
                                obtain ⟨ad144, e144, hx144_0⟩ := Kd.at_int HR0.out x4_2 p144 q144
                                cases e144
                                replace p144 := eq_true p144
                                replace q144 := eq_true q144
                                go_wp2_with (first | (go_at_call 21; (with_reducible refine (ncr_digit.calls (rd l0 x4_2) t145 _ A11.out).mono ?_); rintro e w' ⟨rfl, ⟨nd, rfl⟩⟩; have p153 : 0 ≤ (3 : Int) := (by omega); have q153 : 3 < (l0.length : Int) := of_decide_eq_true (by first | (with_reducible assumption) | assumption); obtain ⟨ad153, e153, hx153_0⟩ := Kd.at_int HR0.out 3 p153 q153; obtain rfl : ad144 = ad153 := (by injection e153); (try simp only [show (3 : Int).toNat = 3 from rfl, Nat.reduceMul, Nat.reduceEqDiff, Go.Addr.add, ↓reduceIte] at hx153_0); have qi153 : (3 < l0.length) = True := eq_true (by omega); (try rw [show ((3 : Int)).toNat = 3 from rfl] at hx153_0); replace p153 := eq_true p153; replace q153 := eq_true q153; have p154 : 0 ≤ (x4_2 : Int) := of_decide_eq_true (by first | (with_reducible assumption) | assumption); have q154 : x4_2 < (l0.length : Int) := of_decide_eq_true (by first | (with_reducible assumption) | assumption); obtain ⟨ad154, e154, hx154_0⟩ := Kd.at_int HR0.out x4_2 p154 q154; obtain rfl : ad144 = ad154 := (by injection e154); replace p154 := eq_true p154; replace q154 := eq_true q154) | (go_at_call 20; (with_reducible refine (utf_Scalar.calls x5_2 false _ A33.out).mono ?_); rintro e w' ⟨rfl, ⟨nd, rfl⟩⟩))
                                go_ret2
                                exact ⟨by first | rfl | (simp; done) | (simp [*]; done), by repeat (first | exact Drawn0.refl _ | apply Drawn0.step)⟩
                            · rw [if_neg c32] at H
                              have c32b0 : ((rd l0 x4_2) == 59) = false := beq_eq_false_iff_ne.mpr c32
                              have c32b1 : ((rd l0 x4_2) != 59) = true := bne_iff_ne.mpr c32
                              simp only [Option.some.injEq, Prod.mk.injEq] at H
                              obtain ⟨rfl, rfl⟩ := H
                              have p144 : 0 ≤ (x4_2 : Int) := of_decide_eq_true (by first | (with_reducible assumption) | assumption)
                              have q144 : x4_2 < (l0.length : Int) := of_decide_eq_true (by first | (with_reducible assumption) | assumption)
                              obtain ⟨ad144, e144, hx144_0⟩ := Kd.at_int HR0.out x4_2 p144 q144
                              cases e144
                              replace p144 := eq_true p144
                              replace q144 := eq_true q144
                              go_wp2_with (first | (go_at_call 21; (with_reducible refine (ncr_digit.calls (rd l0 x4_2) t145 _ A11.out).mono ?_); rintro e w' ⟨rfl, ⟨nd, rfl⟩⟩; have p153 : 0 ≤ (3 : Int) := (by omega); have q153 : 3 < (l0.length : Int) := of_decide_eq_true (by first | (with_reducible assumption) | assumption); obtain ⟨ad153, e153, hx153_0⟩ := Kd.at_int HR0.out 3 p153 q153; obtain rfl : ad144 = ad153 := (by injection e153); (try simp only [show (3 : Int).toNat = 3 from rfl, Nat.reduceMul, Nat.reduceEqDiff, Go.Addr.add, ↓reduceIte] at hx153_0); have qi153 : (3 < l0.length) = True := eq_true (by omega); (try rw [show ((3 : Int)).toNat = 3 from rfl] at hx153_0); replace p153 := eq_true p153; replace q153 := eq_true q153; have p154 : 0 ≤ (x4_2 : Int) := of_decide_eq_true (by first | (with_reducible assumption) | assumption); have q154 : x4_2 < (l0.length : Int) := of_decide_eq_true (by first | (with_reducible assumption) | assumption); obtain ⟨ad154, e154, hx154_0⟩ := Kd.at_int HR0.out x4_2 p154 q154; obtain rfl : ad144 = ad154 := (by injection e154); replace p154 := eq_true p154; replace q154 := eq_true q154))
                              go_ret2
                              exact ⟨by first | rfl | (simp; done) | (simp [*]; done), by repeat (first | exact Drawn0.refl _ | apply Drawn0.step)⟩
                      · rw [if_neg c29] at H
                        exact absurd H (by simp)
                    · rw [if_neg c28] at H
                      have c28b0 : decide (4 < (wrap64 (x4_2 - 3))) = false := decide_eq_false c28
                      clear c28
                      by_cases c35 : x4_2 ≥ (l0.length : Int)
                      · rw [if_pos c35] at H
                        have c35b0 : decide ((l0.length : Int) ≤ x4_2) = true := decide_eq_true c35
                        clear c35
                        simp only [Option.some.injEq, Prod.mk.injEq] at H
                        obtain ⟨rfl, rfl⟩ := H
                        have p144 : 0 ≤ (x4_2 : Int) := of_decide_eq_true (by first | (with_reducible assumption) | assumption)
                        have q144 : x4_2 < (l0.length : Int) := of_decide_eq_true (by first | (with_reducible assumption) | assumption)
                        obtain ⟨ad144, e144, hx144_0⟩ := Kd.at_int HR0.out x4_2 p144 q144
                        cases e144
                        replace p144 := eq_true p144
                        replace q144 := eq_true q144
                        go_wp2_with (first | (go_at_call 21; (with_reducible refine (ncr_digit.calls (rd l0 x4_2) t145 _ A11.out).mono ?_); rintro e w' ⟨rfl, ⟨nd, rfl⟩⟩))
                        go_ret2
                        exact ⟨by first | rfl | (simp; done) | (simp [*]; done), by repeat (first | exact Drawn0.refl _ | apply Drawn0.step)⟩
                      · rw [if_neg c35] at H
                        have c35b0 : decide ((l0.length : Int) ≤ x4_2) = false := decide_eq_false c35
                        clear c35
                        by_cases c36 : (rd l0 x4_2) = 59
                        · rw [if_pos c36] at H
                          have c36b0 : ((rd l0 x4_2) == 59) = true := beq_iff_eq.mpr c36
                          have c36b1 : ((rd l0 x4_2) != 59) = false := bne_eq_false_iff_eq.mpr c36
                          clear c36
                          replace H := Option.bind_eq_some_iff.mp H
                          obtain ⟨t157, A370, H⟩ := H
                          replace H : (if t157 = true then (some (x5_2, wrap64 (x4_2 + 1))) else (some (0, 0))) = some (r1, r2) := H
                          have A37 := Aside0.mk A370
                          clear A370
                          by_cases c38 : t157 = true
                          · subst c38
                            have H1 : (some (x5_2, wrap64 (x4_2 + 1))) = some (r1, r2) := by rw [if_pos rfl] at H; exact H
                            clear H
                            have H := H1
                            clear H1
                            simp only [Option.some.injEq, Prod.mk.injEq] at H
                            obtain ⟨rfl, rfl⟩ := H
                            have p144 : 0 ≤ (x4_2 : Int) := of_decide_eq_true (by first | (with_reducible assumption) | assumption)
                            have q144 : x4_2 < (l0.length : Int) := of_decide_eq_true (by first | (with_reducible assumption) | assumption)
                            obtain ⟨ad144, e144, hx144_0⟩ := Kd.at_int HR0.out x4_2 p144 q144
                            cases e144
                            replace p144 := eq_true p144
                            replace q144 := eq_true q144
                            go_wp2_with (first | (go_at_call 21; (with_reducible refine (ncr_digit.calls (rd l0 x4_2) t145 _ A11.out).mono ?_); rintro e w' ⟨rfl, ⟨nd, rfl⟩⟩; have p156 : 0 ≤ (x4_2 : Int) := of_decide_eq_true (by first | (with_reducible assumption) | assumption); have q156 : x4_2 < (l0.length : Int) := of_decide_eq_true (by first | (with_reducible assumption) | assumption); obtain ⟨ad156, e156, hx156_0⟩ := Kd.at_int HR0.out x4_2 p156 q156; obtain rfl : ad144 = ad156 := (by injection e156); replace p156 := eq_true p156; replace q156 := eq_true q156) | (go_at_call 20; (with_reducible refine (utf_Scalar.calls x5_2 true _ A37.out).mono ?_); rintro e w' ⟨rfl, ⟨nd, rfl⟩⟩))
                            go_ret2
                            exact ⟨by first | rfl | (simp; done) | (simp [*]; done), by repeat (first | exact Drawn0.refl _ | apply Drawn0.step)⟩
                          · replace c38 := Bool.eq_false_iff.mpr c38
                            subst c38
                            have H1 : (some (0, 0)) = some (r1, r2) := by rw [if_neg (show ¬ (false = true) by decide)] at H; exact H
                            clear H
                            have H := H1
                            clear H1
                            simp only [Option.some.injEq, Prod.mk.injEq] at H
                            obtain ⟨rfl, rfl⟩ := H
                            have p144 : 0 ≤ (x4_2 : Int) := of_decide_eq_true (by first | (with_reducible assumption) | assumption)
                            have q144 : x4_2 < (l0.length : Int) := of_decide_eq_true (by first | (with_reducible assumption) | assumption)
                            obtain ⟨ad144, e144, hx144_0⟩ := Kd.at_int HR0.out x4_2 p144 q144
                            cases e144
                            replace p144 := eq_true p144
                            replace q144 := eq_true q144
                            go_wp2_with (first | (go_at_call 21; (with_reducible refine (ncr_digit.calls (rd l0 x4_2) t145 _ A11.out).mono ?_); rintro e w' ⟨rfl, ⟨nd, rfl⟩⟩; have p156 : 0 ≤ (x4_2 : Int) := of_decide_eq_true (by first | (with_reducible assumption) | assumption); have q156 : x4_2 < (l0.length : Int) := of_decide_eq_true (by first | (with_reducible assumption) | assumption); obtain ⟨ad156, e156, hx156_0⟩ := Kd.at_int HR0.out x4_2 p156 q156; obtain rfl : ad144 = ad156 := (by injection e156); replace p156 := eq_true p156; replace q156 := eq_true q156) | (go_at_call 20; (with_reducible refine (utf_Scalar.calls x5_2 false _ A37.out).mono ?_); rintro e w' ⟨rfl, ⟨nd, rfl⟩⟩))
                            go_ret2
                            exact ⟨by first | rfl | (simp; done) | (simp [*]; done), by repeat (first | exact Drawn0.refl _ | apply Drawn0.step)⟩
                        · rw [if_neg c36] at H
                          have c36b0 : ((rd l0 x4_2) == 59) = false := beq_eq_false_iff_ne.mpr c36
                          have c36b1 : ((rd l0 x4_2) != 59) = true := bne_iff_ne.mpr c36
                          simp only [Option.some.injEq, Prod.mk.injEq] at H
                          obtain ⟨rfl, rfl⟩ := H
                          have p144 : 0 ≤ (x4_2 : Int) := of_decide_eq_true (by first | (with_reducible assumption) | assumption)
                          have q144 : x4_2 < (l0.length : Int) := of_decide_eq_true (by first | (with_reducible assumption) | assumption)
                          obtain ⟨ad144, e144, hx144_0⟩ := Kd.at_int HR0.out x4_2 p144 q144
                          cases e144
                          replace p144 := eq_true p144
                          replace q144 := eq_true q144
                          go_wp2_with (first | (go_at_call 21; (with_reducible refine (ncr_digit.calls (rd l0 x4_2) t145 _ A11.out).mono ?_); rintro e w' ⟨rfl, ⟨nd, rfl⟩⟩; have p156 : 0 ≤ (x4_2 : Int) := of_decide_eq_true (by first | (with_reducible assumption) | assumption); have q156 : x4_2 < (l0.length : Int) := of_decide_eq_true (by first | (with_reducible assumption) | assumption); obtain ⟨ad156, e156, hx156_0⟩ := Kd.at_int HR0.out x4_2 p156 q156; obtain rfl : ad144 = ad156 := (by injection e156); replace p156 := eq_true p156; replace q156 := eq_true q156))
                          go_ret2
                          exact ⟨by first | rfl | (simp; done) | (simp [*]; done), by repeat (first | exact Drawn0.refl _ | apply Drawn0.step)⟩
              · rw [if_neg c10] at H
                exact absurd H (by simp)
            · rw [if_neg c9] at H
              have c9b0 : decide (x4_2 < (l0.length : Int)) = false := decide_eq_false c9
              clear c9
              by_cases c39 : (wrap64 (x4_2 - 3)) < 4
              · rw [if_pos c39] at H
                have c39b0 : decide ((wrap64 (x4_2 - 3)) < 4) = true := decide_eq_true c39
                clear c39
                simp only [Option.some.injEq, Prod.mk.injEq] at H
                obtain ⟨rfl, rfl⟩ := H
                go_wp2
                go_ret2
                exact ⟨by first | rfl | (simp; done) | (simp [*]; done), by repeat (first | exact Drawn0.refl _ | apply Drawn0.step)⟩
              · rw [if_neg c39] at H
                have c39b0 : decide ((wrap64 (x4_2 - 3)) < 4) = false := decide_eq_false c39
                clear c39
                by_cases c40 : (wrap64 (x4_2 - 3)) > 4
                · rw [if_pos c40] at H
                  have c40b0 : decide (4 < (wrap64 (x4_2 - 3))) = true := decide_eq_true c40
                  clear c40
                  by_cases c41 : 3 < (l0.length : Int)
                  · rw [if_pos c41] at H
                    have c41b0 : decide (3 < (l0.length : Int)) = true := decide_eq_true c41
                    have c41b1 : decide (3 < l0.length) = true := decide_eq_true (by omega)
                    clear c41
                    by_cases c42 : (rd l0 3) = 48
                    · rw [if_pos c42] at H
                      have c42b0 : ((rd l0 3) == 48) = true := beq_iff_eq.mpr c42
                      have c42b1 : ((rd l0 3) != 48) = false := bne_eq_false_iff_eq.mpr c42
                      clear c42
                      simp only [Option.some.injEq, Prod.mk.injEq] at H
                      obtain ⟨rfl, rfl⟩ := H
                      have p158 : 0 ≤ (3 : Int) := (by omega)
                      have q158 : 3 < (l0.length : Int) := of_decide_eq_true (by first | (with_reducible assumption) | assumption)
                      obtain ⟨ad158, e158, hx158_0⟩ := Kd.at_int HR0.out 3 p158 q158
                      cases e158
                      (try simp only [show (3 : Int).toNat = 3 from rfl, Nat.reduceMul, Nat.reduceEqDiff, Go.Addr.add, ↓reduceIte] at hx158_0)
                      have qi158 : (3 < l0.length) = True := eq_true (by omega)
                      (try rw [show ((3 : Int)).toNat = 3 from rfl] at hx158_0)
                      replace p158 := eq_true p158
                      replace q158 := eq_true q158
                      go_wp2
                      go_ret2
                      exact ⟨by first | rfl | (simp; done) | (simp [*]; done), by repeat (first | exact Drawn0.refl _ | apply Drawn0.step)⟩
                    · rw [if_neg c42] at H
                      have c42b0 : ((rd l0 3) == 48) = false := beq_eq_false_iff_ne.mpr c42
                      have c42b1 : ((rd l0 3) != 48) = true := bne_iff_ne.mpr c42
                      by_cases c43 : x4_2 ≥ (l0.length : Int)
                      · rw [if_pos c43] at H
                        have c43b0 : decide ((l0.length : Int) ≤ x4_2) = true := decide_eq_true c43
                        clear c43
                        simp only [Option.some.injEq, Prod.mk.injEq] at H
                        obtain ⟨rfl, rfl⟩ := H
                        have p158 : 0 ≤ (3 : Int) := (by omega)
                        have q158 : 3 < (l0.length : Int) := of_decide_eq_true (by first | (with_reducible assumption) | assumption)
                        obtain ⟨ad158, e158, hx158_0⟩ := Kd.at_int HR0.out 3 p158 q158
                        cases e158
                        (try simp only [show (3 : Int).toNat = 3 from rfl, Nat.reduceMul, Nat.reduceEqDiff, Go.Addr.add, ↓reduceIte] at hx158_0)
                        have qi158 : (3 < l0.length) = True := eq_true (by omega)
                        (try rw [show ((3 : Int)).toNat = 3 from rfl] at hx158_0)
                        replace p158 := eq_true p158
                        replace q158 := eq_true q158
                        go_wp2
                        go_ret2
                        exact ⟨by first | rfl | (simp; done) | (simp [*]; done), by repeat (first | exact Drawn0.refl _ | apply Drawn0.step)⟩
                      · rw [if_neg c43] at H
                        have c43b0 : decide ((l0.length : Int) ≤ x4_2) = false := decide_eq_false c43
                        clear c43
                        by_cases c44 : 0 ≤ x4_2
                        · rw [if_pos c44] at H
                          exact absurd H (by simp)
                        · rw [if_neg c44] at H
                          exact absurd H (by simp)
                  · rw [if_neg c41] at H
                    exact absurd H (by simp)
                · rw [if_neg c40] at H
                  have c40b0 : decide (4 < (wrap64 (x4_2 - 3))) = false := decide_eq_false c40
                  clear c40
                  by_cases c45 : x4_2 ≥ (l0.length : Int)
                  · rw [if_pos c45] at H
                    have c45b0 : decide ((l0.length : Int) ≤ x4_2) = true := decide_eq_true c45
                    clear c45
                    simp only [Option.some.injEq, Prod.mk.injEq] at H
                    obtain ⟨rfl, rfl⟩ := H
                    go_wp2
                    go_ret2
                    exact ⟨by first | rfl | (simp; done) | (simp [*]; done), by repeat (first | exact Drawn0.refl _ | apply Drawn0.step)⟩
                  · rw [if_neg c45] at H
                    have c45b0 : decide ((l0.length : Int) ≤ x4_2) = false := decide_eq_false c45
                    clear c45
                    by_cases c46 : 0 ≤ x4_2
                    · rw [if_pos c46] at H
                      exact absurd H (by simp)
                    · rw [if_neg c46] at H
                      exact absurd H (by simp)

end Go.Proofs.Ytfoffegcglommaa.PNcr
