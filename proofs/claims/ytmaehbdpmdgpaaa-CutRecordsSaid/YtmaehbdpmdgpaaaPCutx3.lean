-- Written by a program of this session (wip/mkprint.py) out of the translation. Not trusted: Lean checks it.
import Derived.Test.YtmaehbdpmdgpaaaPCutx0
namespace Go.Proofs.Ytmaehbdpmdgpaaa.PCut
open Go.RowKit Go.Proofs.YtmaehbdpmdgpaaaW.PrintWords Go.Proofs.YtmaehbdpmdgpaaaW.PrintLast Go.Proofs.YtmaehbdpmdgpaaaW.PrintMore
attribute [local go_sem] max2_int min2_int max_two min_two max_three min_three max_four min_four   -- for this text's walks alone
set_option linter.unusedVariables false
set_option linter.unusedSimpArgs false

/-! ### amanuensisref19_num: function 17 -/
def amanuensisref19_num.l0 : Nat → List Int → Int → Int → Option (Int)
  | 0, _, _, _ => none
  | k + 1, x0, x3, x4 => if x4 < (x0.length : Int) then (if 0 ≤ x4 then (if (rd x0 x4) < 48 then (some (-1)) else (if (rd x0 x4) > 57 then (some (-1)) else (amanuensisref19_num.l0 k x0 (wrap64 ((wrap64 (10 * x3)) + (((rd x0 x4) - 48) % 256))) (wrap64 (x4 + 1))))) else (none)) else (some x3)
def amanuensisref19_num.f (k : Nat) (l0 : List Int) : Option (Int) := amanuensisref19_num.l0 k l0 0 0
theorem amanuensisref19_num.mono_l : ∀ k, (∀ y0 y1 y2, LeO (amanuensisref19_num.l0 k y0 y1 y2) (amanuensisref19_num.l0 (k + 1) y0 y1 y2))
  | 0 => fun _ _ _ r h => by simp [amanuensisref19_num.l0] at h
  | k + 1 => by
    have ih0 := amanuensisref19_num.mono_l k
    · intro y0 y1 y2
      unfold amanuensisref19_num.l0
      repeat' first
      | (with_reducible exact ih0 _ _ _)
      | (with_reducible exact LeO.refl _)
      | (with_reducible exact LeO.none _)
      | (with_reducible refine LeO.ite ?_ ?_)
      | (with_reducible refine LeO.bind ?_ (fun _ => ?_))
      | exact ih0 _ _ _
      | exact LeO.none _
      | refine LeO.ite ?_ ?_
      | refine LeO.bind ?_ (fun _ => ?_)
theorem amanuensisref19_num.mono : ∀ a0 k, LeO (amanuensisref19_num.f k a0) (amanuensisref19_num.f (k + 1) a0) := by
  intro a0 k
  have ih0 := amanuensisref19_num.mono_l k
  unfold amanuensisref19_num.f
  repeat' first
      | (with_reducible exact ih0 _ _ _)
      | (with_reducible exact LeO.refl _)
      | (with_reducible exact LeO.none _)
      | (with_reducible refine LeO.ite ?_ ?_)
      | (with_reducible refine LeO.bind ?_ (fun _ => ?_))
      | exact ih0 _ _ _
      | exact LeO.none _
      | refine LeO.ite ?_ ?_
      | refine LeO.bind ?_ (fun _ => ?_)
set_option maxHeartbeats 8000000 in
set_option maxRecDepth 100000 in
theorem amanuensisref19_num.calls (k : Nat) (A0 : Option Addr) (c0 : Nat) (l0 : List Int) (r : Int) (w : World) (hr0 : Kd.C (Kd.int .u8) w A0 l0.length l0) (hc0 : l0.length ≤ c0) (h : amanuensisref19_num.f k l0 = some r) :
    Calls Try.prog 17 #[.slice A0 l0.length c0] w fun e w' => e = .returned (.int .i64 r) ∧ Drawn0 w w' := by
  have HR0 := Aside0.mk hr0
  have HC0 := Aside0.mk hc0
  clear hr0 hc0
  have H : (amanuensisref19_num.l0 k l0 0 0) = some r := h
  clear h
  have H' := Aside0.mk H
  clear H
  go_enter Try.func17, Try.ntmps17
  go_wp2
  go_loopg [3, 4] k (fun kq v3 v4 w' => ∃ (x3_1 : Int) (x4_1 : Int), v3 = .int .i64 x3_1 ∧ v4 = .int .i64 x4_1 ∧ Aside0 (amanuensisref19_num.l0 kq l0 x3_1 x4_1 = some r) ∧ Aside0 (kq ≤ k) ∧ Drawn0 w w')
  case atStart => exact ⟨(0), (0), (by first | rfl | (simp; done) | (simp [*]; done)), (by first | rfl | (simp; done) | (simp [*]; done)), H', ⟨Nat.le_refl _⟩, by repeat (first | exact Drawn0.refl _ | apply Drawn0.step)⟩
  case round =>
    clear H'
    try clear c1
    obtain ⟨x3_1, x4_1, rfl, rfl, HA, HK1, ⟨m1, rfl⟩⟩ := hrel
    cases gk with
    | zero => exact absurd HA.out (by simp [amanuensisref19_num.l0])
    | succ k1 =>
      have H := HA.out
      clear HA
      simp only [amanuensisref19_num.l0] at H
      by_cases c2 : x4_1 < (l0.length : Int)
      · rw [if_pos c2] at H
        have c2b0 : decide (x4_1 < (l0.length : Int)) = true := decide_eq_true c2
        clear c2
        by_cases c3 : 0 ≤ x4_1
        · rw [if_pos c3] at H
          have c3b0 : decide (0 ≤ x4_1) = true := decide_eq_true c3
          clear c3
          by_cases c4 : (rd l0 x4_1) < 48
          · rw [if_pos c4] at H
            have c4b0 : decide ((rd l0 x4_1) < 48) = true := decide_eq_true c4
            clear c4
            obtain rfl := Option.some.inj H
            have p118 : 0 ≤ (x4_1 : Int) := of_decide_eq_true (by first | (with_reducible assumption) | assumption)
            have q118 : x4_1 < (l0.length : Int) := of_decide_eq_true (by first | (with_reducible assumption) | assumption)
            obtain ⟨ad118, e118, hx118_0⟩ := Kd.at_int HR0.out x4_1 p118 q118
            cases e118
            replace p118 := eq_true p118
            replace q118 := eq_true q118
            go_wp2
            go_ret
            exact ⟨by first | rfl | (simp; done) | (simp [*]; done), by repeat (first | exact Drawn0.refl _ | apply Drawn0.step)⟩
          · rw [if_neg c4] at H
            have c4b0 : decide ((rd l0 x4_1) < 48) = false := decide_eq_false c4
            clear c4
            by_cases c5 : (rd l0 x4_1) > 57
            · rw [if_pos c5] at H
              have c5b0 : decide (57 < (rd l0 x4_1)) = true := decide_eq_true c5
              clear c5
              obtain rfl := Option.some.inj H
              have p118 : 0 ≤ (x4_1 : Int) := of_decide_eq_true (by first | (with_reducible assumption) | assumption)
              have q118 : x4_1 < (l0.length : Int) := of_decide_eq_true (by first | (with_reducible assumption) | assumption)
              obtain ⟨ad118, e118, hx118_0⟩ := Kd.at_int HR0.out x4_1 p118 q118
              cases e118
              replace p118 := eq_true p118
              replace q118 := eq_true q118
              have p119 : 0 ≤ (x4_1 : Int) := of_decide_eq_true (by first | (with_reducible assumption) | assumption)
              have q119 : x4_1 < (l0.length : Int) := of_decide_eq_true (by first | (with_reducible assumption) | assumption)
              obtain ⟨ad119, e119, hx119_0⟩ := Kd.at_int HR0.out x4_1 p119 q119
              obtain rfl : ad118 = ad119 := (by injection e119)
              replace p119 := eq_true p119
              replace q119 := eq_true q119
              go_wp2
              go_ret
              exact ⟨by first | rfl | (simp; done) | (simp [*]; done), by repeat (first | exact Drawn0.refl _ | apply Drawn0.step)⟩
            · rw [if_neg c5] at H
              have c5b0 : decide (57 < (rd l0 x4_1)) = false := decide_eq_false c5
              clear c5
              have H' := Aside0.mk H
              clear H
              have p118 : 0 ≤ (x4_1 : Int) := of_decide_eq_true (by first | (with_reducible assumption) | assumption)
              have q118 : x4_1 < (l0.length : Int) := of_decide_eq_true (by first | (with_reducible assumption) | assumption)
              obtain ⟨ad118, e118, hx118_0⟩ := Kd.at_int HR0.out x4_1 p118 q118
              cases e118
              replace p118 := eq_true p118
              replace q118 := eq_true q118
              have p119 : 0 ≤ (x4_1 : Int) := of_decide_eq_true (by first | (with_reducible assumption) | assumption)
              have q119 : x4_1 < (l0.length : Int) := of_decide_eq_true (by first | (with_reducible assumption) | assumption)
              obtain ⟨ad119, e119, hx119_0⟩ := Kd.at_int HR0.out x4_1 p119 q119
              obtain rfl : ad118 = ad119 := (by injection e119)
              replace p119 := eq_true p119
              replace q119 := eq_true q119
              have p120 : 0 ≤ (x4_1 : Int) := of_decide_eq_true (by first | (with_reducible assumption) | assumption)
              have q120 : x4_1 < (l0.length : Int) := of_decide_eq_true (by first | (with_reducible assumption) | assumption)
              obtain ⟨ad120, e120, hx120_0⟩ := Kd.at_int HR0.out x4_1 p120 q120
              obtain rfl : ad118 = ad120 := (by injection e120)
              replace p120 := eq_true p120
              replace q120 := eq_true q120
              go_wp2
              go_roundg k1
              case measure => have := HK1.out; omega
              case rel => exact ⟨(wrap64 ((wrap64 (10 * x3_1)) + (((rd l0 x4_1) - 48) % 256))), (wrap64 (x4_1 + 1)), (by first | rfl | (simp; done) | (simp [*]; done)), (by first | rfl | (simp; done) | (simp [*]; done)), H', ⟨by have := HK1.out; omega⟩, by repeat (first | exact Drawn0.refl _ | apply Drawn0.step)⟩
        · rw [if_neg c3] at H
          exact absurd H (by simp)
      · rw [if_neg c2] at H
        have c2b0 : decide (x4_1 < (l0.length : Int)) = false := decide_eq_false c2
        clear c2
        obtain rfl := Option.some.inj H
        go_wp2
        go_ret
        exact ⟨by first | rfl | (simp; done) | (simp [*]; done), by repeat (first | exact Drawn0.refl _ | apply Drawn0.step)⟩

/-! ### amanuensisref19_Cut: function 13 -/
mutual
def amanuensisref19_Cut.l0 : Nat → List Int → List (S37) → Int → Option ((List (S37)))
  | 0, _, _, _ => none
  | k + 1, x0, x3, x4 => if x4 < (x0.length : Int) then (if (wrap64 (x4 + 5)) ≤ (x0.length : Int) then (if 0 ≤ x4 then (if x4 ≤ (wrap64 (x4 + 5)) then ((amanuensisref19_num.f k ((x0.take ((wrap64 (x4 + 5)) : Int).toNat).drop (x4 : Int).toNat)).bind fun t126 => (amanuensisref19_Cut.j1 k x0 x3 x4 t126)) else (none)) else (none)) else (amanuensisref19_Cut.j1 k x0 x3 x4 (-1))) else (some x3)
def amanuensisref19_Cut.j1 : Nat → List Int → List (S37) → Int → Int → Option ((List (S37)))
  | 0, _, _, _, _ => none
  | k + 1, x0, x3, x4, x5 => if x5 ≥ 26 then (if (wrap64 (x4 + x5)) ≤ (x0.length : Int) then (if 0 ≤ (wrap64 ((wrap64 (x4 + x5)) - 1)) then (if (wrap64 ((wrap64 (x4 + x5)) - 1)) < (x0.length : Int) then (amanuensisref19_Cut.j2 k x0 x3 x4 x5 ((rd x0 (wrap64 ((wrap64 (x4 + x5)) - 1))) == 29)) else (none)) else (none)) else (amanuensisref19_Cut.j2 k x0 x3 x4 x5 false)) else (amanuensisref19_Cut.j2 k x0 x3 x4 x5 false)
def amanuensisref19_Cut.j2 : Nat → List Int → List (S37) → Int → Int → Bool → Option ((List (S37)))
  | 0, _, _, _, _, _ => none
  | k + 1, x0, x3, x4, x5, x41 => if x41 = true then (if 0 ≤ x4 then (if x4 ≤ (wrap64 (x4 + x5)) then (if (wrap64 (x4 + x5)) ≤ (x0.length : Int) then (if x3.length < 3518437208883 then (amanuensisref19_Cut.l0 k x0 (x3 ++ [(⟨x4, true, ((x0.take ((wrap64 (x4 + x5)) : Int).toNat).drop (x4 : Int).toNat)⟩ : S37)]) (wrap64 (x4 + x5))) else (none)) else (none)) else (none)) else (none)) else (amanuensisref19_Cut.l1 k x0 x3 x4 x4)
def amanuensisref19_Cut.l1 : Nat → List Int → List (S37) → Int → Int → Option ((List (S37)))
  | 0, _, _, _, _ => none
  | k + 1, x0, x3, x4, x6 => if x6 < (x0.length : Int) then (if 0 ≤ x6 then (if (rd x0 x6) = 29 then (if 0 ≤ x4 then (if x4 ≤ (wrap64 (x6 + 1)) then (if (wrap64 (x6 + 1)) ≤ (x0.length : Int) then (if x3.length < 3518437208883 then (amanuensisref19_Cut.l0 k x0 (x3 ++ [(⟨x4, false, ((x0.take ((wrap64 (x6 + 1)) : Int).toNat).drop (x4 : Int).toNat)⟩ : S37)]) (wrap64 (x6 + 1))) else (none)) else (none)) else (none)) else (none)) else (amanuensisref19_Cut.l1 k x0 x3 x4 (wrap64 (x6 + 1)))) else (none)) else (if 0 ≤ x4 then (if x4 ≤ x6 then (if x6 ≤ (x0.length : Int) then (if x3.length < 3518437208883 then (amanuensisref19_Cut.l0 k x0 (x3 ++ [(⟨x4, false, ((x0.take (x6 : Int).toNat).drop (x4 : Int).toNat)⟩ : S37)]) x6) else (none)) else (none)) else (none)) else (none))
end
def amanuensisref19_Cut.f (k : Nat) (l0 : List Int) : Option ((List (S37))) := amanuensisref19_Cut.l0 k l0 ([] : List (S37)) 0
theorem amanuensisref19_Cut.mono_l : ∀ k, (∀ y0 y1 y2, LeO (amanuensisref19_Cut.l0 k y0 y1 y2) (amanuensisref19_Cut.l0 (k + 1) y0 y1 y2)) ∧ (∀ y0 y1 y2 y3, LeO (amanuensisref19_Cut.j1 k y0 y1 y2 y3) (amanuensisref19_Cut.j1 (k + 1) y0 y1 y2 y3)) ∧ (∀ y0 y1 y2 y3 y4, LeO (amanuensisref19_Cut.j2 k y0 y1 y2 y3 y4) (amanuensisref19_Cut.j2 (k + 1) y0 y1 y2 y3 y4)) ∧ (∀ y0 y1 y2 y3, LeO (amanuensisref19_Cut.l1 k y0 y1 y2 y3) (amanuensisref19_Cut.l1 (k + 1) y0 y1 y2 y3))
  | 0 => ⟨fun _ _ _ r h => by simp [amanuensisref19_Cut.l0] at h, fun _ _ _ _ r h => by simp [amanuensisref19_Cut.j1] at h, fun _ _ _ _ _ r h => by simp [amanuensisref19_Cut.j2] at h, fun _ _ _ _ r h => by simp [amanuensisref19_Cut.l1] at h⟩
  | k + 1 => by
    obtain ⟨ih0, ih1, ih2, ih3⟩ := amanuensisref19_Cut.mono_l k
    refine ⟨?_, ?_, ?_, ?_⟩
    · intro y0 y1 y2
      unfold amanuensisref19_Cut.l0
      repeat' first
      | (with_reducible exact ih0 _ _ _)
      | (with_reducible exact ih1 _ _ _ _)
      | (with_reducible exact ih2 _ _ _ _ _)
      | (with_reducible exact ih3 _ _ _ _)
      | (with_reducible exact amanuensisref19_num.mono _ _)
      | (with_reducible exact LeO.refl _)
      | (with_reducible exact LeO.none _)
      | (with_reducible refine LeO.ite ?_ ?_)
      | (with_reducible refine LeO.bind ?_ (fun _ => ?_))
      | exact ih0 _ _ _
      | exact ih1 _ _ _ _
      | exact ih2 _ _ _ _ _
      | exact ih3 _ _ _ _
      | exact amanuensisref19_num.mono _ _
      | exact LeO.none _
      | refine LeO.ite ?_ ?_
      | refine LeO.bind ?_ (fun _ => ?_)
    · intro y0 y1 y2 y3
      unfold amanuensisref19_Cut.j1
      repeat' first
      | (with_reducible exact ih0 _ _ _)
      | (with_reducible exact ih1 _ _ _ _)
      | (with_reducible exact ih2 _ _ _ _ _)
      | (with_reducible exact ih3 _ _ _ _)
      | (with_reducible exact amanuensisref19_num.mono _ _)
      | (with_reducible exact LeO.refl _)
      | (with_reducible exact LeO.none _)
      | (with_reducible refine LeO.ite ?_ ?_)
      | (with_reducible refine LeO.bind ?_ (fun _ => ?_))
      | exact ih0 _ _ _
      | exact ih1 _ _ _ _
      | exact ih2 _ _ _ _ _
      | exact ih3 _ _ _ _
      | exact amanuensisref19_num.mono _ _
      | exact LeO.none _
      | refine LeO.ite ?_ ?_
      | refine LeO.bind ?_ (fun _ => ?_)
    · intro y0 y1 y2 y3 y4
      unfold amanuensisref19_Cut.j2
      repeat' first
      | (with_reducible exact ih0 _ _ _)
      | (with_reducible exact ih1 _ _ _ _)
      | (with_reducible exact ih2 _ _ _ _ _)
      | (with_reducible exact ih3 _ _ _ _)
      | (with_reducible exact amanuensisref19_num.mono _ _)
      | (with_reducible exact LeO.refl _)
      | (with_reducible exact LeO.none _)
      | (with_reducible refine LeO.ite ?_ ?_)
      | (with_reducible refine LeO.bind ?_ (fun _ => ?_))
      | exact ih0 _ _ _
      | exact ih1 _ _ _ _
      | exact ih2 _ _ _ _ _
      | exact ih3 _ _ _ _
      | exact amanuensisref19_num.mono _ _
      | exact LeO.none _
      | refine LeO.ite ?_ ?_
      | refine LeO.bind ?_ (fun _ => ?_)
    · intro y0 y1 y2 y3
      unfold amanuensisref19_Cut.l1
      repeat' first
      | (with_reducible exact ih0 _ _ _)
      | (with_reducible exact ih1 _ _ _ _)
      | (with_reducible exact ih2 _ _ _ _ _)
      | (with_reducible exact ih3 _ _ _ _)
      | (with_reducible exact amanuensisref19_num.mono _ _)
      | (with_reducible exact LeO.refl _)
      | (with_reducible exact LeO.none _)
      | (with_reducible refine LeO.ite ?_ ?_)
      | (with_reducible refine LeO.bind ?_ (fun _ => ?_))
      | exact ih0 _ _ _
      | exact ih1 _ _ _ _
      | exact ih2 _ _ _ _ _
      | exact ih3 _ _ _ _
      | exact amanuensisref19_num.mono _ _
      | exact LeO.none _
      | refine LeO.ite ?_ ?_
      | refine LeO.bind ?_ (fun _ => ?_)
theorem amanuensisref19_Cut.mono : ∀ a0 k, LeO (amanuensisref19_Cut.f k a0) (amanuensisref19_Cut.f (k + 1) a0) := by
  intro a0 k
  obtain ⟨ih0, ih1, ih2, ih3⟩ := amanuensisref19_Cut.mono_l k
  unfold amanuensisref19_Cut.f
  repeat' first
      | (with_reducible exact ih0 _ _ _)
      | (with_reducible exact ih1 _ _ _ _)
      | (with_reducible exact ih2 _ _ _ _ _)
      | (with_reducible exact ih3 _ _ _ _)
      | (with_reducible exact amanuensisref19_num.mono _ _)
      | (with_reducible exact LeO.refl _)
      | (with_reducible exact LeO.none _)
      | (with_reducible refine LeO.ite ?_ ?_)
      | (with_reducible refine LeO.bind ?_ (fun _ => ?_))
      | exact ih0 _ _ _
      | exact ih1 _ _ _ _
      | exact ih2 _ _ _ _ _
      | exact ih3 _ _ _ _
      | exact amanuensisref19_num.mono _ _
      | exact LeO.none _
      | refine LeO.ite ?_ ?_
      | refine LeO.bind ?_ (fun _ => ?_)
set_option maxHeartbeats 8000000 in
set_option maxRecDepth 100000 in
theorem amanuensisref19_Cut.calls (k : Nat) (P0_ : Nat → Prop) (A0 : Option Addr) (c0 : Nat) (l0 : List Int) (r : List (S37)) (w : World) (hs0 : Kd.V (Kd.int .u8) 5 w w.heap.size (fun k_ => P0_ k_) (.slice A0 l0.length c0) l0) (h : amanuensisref19_Cut.f k l0 = some r) :
    Calls Try.prog 13 #[.slice A0 l0.length c0] w fun e w' => ∃ v0_ : Value, e = .returned (v0_) ∧ Kd.N k37 37 w' w.heap.size (fun k_ => (P0_ k_ ∨ w.heap.size ≤ k_)) v0_ r ∧ Below w.heap.size w w' := by
  have hu37 := Try.underlying37
  have HO0 := Aside0.mk (show Kd.V (Kd.int .u8) 5 w w.heap.size (fun k_ => (P0_ k_ ∨ w.heap.size ≤ k_)) (.slice A0 l0.length c0) l0 from Kd.V_mono hs0 (fun k_ hk => .inl hk))
  have HB := Aside0.mk (Below.refl w.heap.size w)
  have H : (amanuensisref19_Cut.l0 k l0 ([] : List (S37)) 0) = some r := h
  clear h
  have H' := Aside0.mk H
  clear H
  go_enter Try.func13, Try.ntmps13
  go_wp2
  go_loopg [3, 4] k (fun kq v3 v4 w' => ∃ (x3_1 : List (S37)) (x4_1 : Int), v4 = .int .i64 x4_1 ∧ Aside0 (amanuensisref19_Cut.l0 kq l0 x3_1 x4_1 = some r) ∧ Aside0 (kq ≤ k) ∧ Aside0 (Kd.V (Kd.int .u8) 5 w' w.heap.size (fun k_ => (P0_ k_ ∨ w.heap.size ≤ k_) ∧ some k_ ≠ (v3 : Value).ownBlock) (.slice A0 l0.length c0) l0) ∧ Aside0 (Kd.N k37 37 w' w.heap.size (fun k_ => (P0_ k_ ∨ w.heap.size ≤ k_)) v3 x3_1) ∧ Aside0 (Below w.heap.size w w'))
  case atStart => exact ⟨(([] : List (S37))), (0), (by first | rfl | (simp; done) | (simp [*]; done)), H', ⟨Nat.le_refl _⟩, ⟨by (with_reducible repeat (first | apply Kd.V_alloc | apply Kd.V_drewN | apply Kd.V_drew)); exact Kd.V_mono HO0.out (fun _ hk => ⟨hk, (by simp [Value.ownBlock])⟩)⟩, ⟨by first | exact Kd.S_nil _ _ _ _ _ | exact Kd.N_nil _ _ _ _ _ | exact Kd.V_nil _ _ _ _ _ | exact Kd.Q_nil _ _ _ _ _ | exact Kd.R_nil _ _ _ _ _⟩, ⟨by repeat (first | (with_reducible first | exact HB.out | apply below_alloc | apply pw_below_drewN | apply below_drew1) | exact HB.out)⟩⟩
  case round =>
    clear H'
    try clear c1
    obtain ⟨x3_1, x4_1, rfl, HA, HK1, HO_0, HO_3, HB⟩ := hrel
    cases gk with
    | zero => exact absurd HA.out (by simp [amanuensisref19_Cut.l0])
    | succ k1 =>
      have H := HA.out
      clear HA
      simp only [amanuensisref19_Cut.l0] at H
      by_cases c2 : x4_1 < (l0.length : Int)
      · rw [if_pos c2] at H
        have c2b0 : decide (x4_1 < (l0.length : Int)) = true := decide_eq_true c2
        clear c2
        have HC3 := Aside0.mk H
        clear H
        go_upto_if 15 with (fail)
        go_cut [5] (fun v5 wc => ∃ (kq : Nat) (x5_2 : Int), v5 = .int .i64 x5_2 ∧ Aside0 (amanuensisref19_Cut.j1 kq l0 x3_1 x4_1 x5_2 = some r) ∧ Aside0 (kq ≤ k1) ∧ Aside0 (Kd.V (Kd.int .u8) 5 wc w.heap.size (fun k_ => (P0_ k_ ∨ w.heap.size ≤ k_) ∧ some k_ ≠ (u3 : Value).ownBlock) (.slice A0 l0.length c0) l0) ∧ Aside0 (Kd.N k37 37 wc w.heap.size (fun k_ => (P0_ k_ ∨ w.heap.size ≤ k_)) u3 x3_1) ∧ Aside0 (Below w.heap.size w wc))
        case first =>
          have H := HC3.out
          clear HC3
          by_cases c4 : (wrap64 (x4_1 + 5)) ≤ (l0.length : Int)
          · rw [if_pos c4] at H
            have c4b0 : decide ((wrap64 (x4_1 + 5)) ≤ (l0.length : Int)) = true := decide_eq_true c4
            clear c4
            (first | rw [c4b0] | (simp only [i64_w, i32_w]; rw [c4b0]) | skip)
            by_cases c5 : 0 ≤ x4_1
            · rw [if_pos c5] at H
              have c5b0 := eq_true c5
              have c5b1 : decide (0 ≤ x4_1) = true := decide_eq_true c5
              clear c5
              by_cases c6 : x4_1 ≤ (wrap64 (x4_1 + 5))
              · rw [if_pos c6] at H
                have c6b0 := eq_true c6
                have c6b1 : decide (x4_1 ≤ (wrap64 (x4_1 + 5))) = true := decide_eq_true c6
                have c7b0 := eq_true (of_decide_eq_true (by first | (with_reducible assumption) | assumption) : (wrap64 (x4_1 + 5)) ≤ (l0.length : Int))
                obtain ⟨y121, hy121⟩ : ∃ y_ : List Int, y_ = ((l0.take ((wrap64 (x4_1 + 5)) : Int).toNat).drop (x4_1 : Int).toNat) := ⟨_, rfl⟩
                replace H : ((amanuensisref19_num.f k1 y121).bind fun t126 => (amanuensisref19_Cut.j1 k1 l0 x3_1 x4_1 t126)) = some r := by first | (rw [hy121]; with_reducible exact H) | (have H2_ := (Option.bind_some _ _).symm.trans H; rw [hy121]; with_reducible exact H2_) | (have H2_ := (Option.bind_some _ _).symm.trans H; with_reducible exact H2_) | with_reducible exact H | (rw [hy121]; exact H) | exact H
                have Ny121 := Aside0.mk hy121
                clear hy121
                replace H := Option.bind_eq_some_iff.mp H
                obtain ⟨t126, A80, H⟩ := H
                replace H : (amanuensisref19_Cut.j1 k1 l0 x3_1 x4_1 t126) = some r := H
                have A8 := Aside0.mk A80
                clear A80
                have H' := Aside0.mk H
                clear H
                have q9 : ((wrap64 (x4_1 + 5)) : Int) ≤ ((l0.length : Int) : Int) := of_decide_eq_true (by first | (with_reducible assumption) | assumption)
                obtain ⟨i09, hi09, _, hsz9, _⟩ := info_parts info5
                have hroom9 : l0.length ≤ c0 := (Kd.V_reads' HO_0.out).2.1
                have hC9 : Kd.F (Kd.int .u8) _ _ A0 l0.length l0 := (Kd.V_at (base := w.heap.size) HO_0.out).2.2
                have ql9 : (x4_1 : Int) ≤ ((wrap64 (x4_1 + 5)) : Int) := of_decide_eq_true (by first | (with_reducible assumption) | assumption)
                have q09 : (0 : Int) ≤ (x4_1 : Int) := of_decide_eq_true (by first | (with_reducible assumption) | assumption)
                have hcut9 := cut_mid (P := Try.prog) 22 5 .i64 .i64 Try.underlying22 hi09 1 hsz9 A0 l0.length c0 x4_1 (wrap64 (x4_1 + 5)) q09 ql9 q9 hroom9
                have hr9 := Kd.F_mid (lo := (x4_1 : Int).toNat) (hi := ((wrap64 (x4_1 + 5)) : Int).toNat) (c := c0) hC9 (by omega) (by omega) hroom9
                obtain ⟨A9, hA9⟩ : ∃ A1, A1 = (if c0 = (x4_1 : Int).toNat then A0 else (A0 : Option Addr).map (·.add ((x4_1 : Int).toNat * 1))) := ⟨_, rfl⟩
                obtain ⟨c9, hc9⟩ : ∃ c1, c1 = c0 - (x4_1 : Int).toNat := ⟨_, rfl⟩
                have hy9 : y121.length = ((wrap64 (x4_1 + 5)) : Int).toNat - (x4_1 : Int).toNat := (by rw [Ny121.out, List.length_drop, List.length_take] <;> omega)
                rw [show ((l0).take ((wrap64 (x4_1 + 5)) : Int).toNat).drop (x4_1 : Int).toNat = y121 from Ny121.out.symm] at hr9
                replace hr9 : Kd.F (Kd.int .u8) _ _ A9 y121.length y121 := (by rw [hA9]; exact hr9)
                rw [← hy9, ← hA9, ← hc9] at hcut9
                have HO125 := Aside0.mk (show Kd.V (Kd.int .u8) 5 _ w.heap.size _ (.slice A9 y121.length c9) y121 from Kd.V_mk (by rw [hy9, hc9]; exact Nat.sub_le_sub_right (Nat.le_trans (by omega) hroom9) _) hr9)
                have HC125 := Aside0.mk (show y121.length ≤ c9 from by rw [hy9, hc9]; exact Nat.sub_le_sub_right (Nat.le_trans (by omega) hroom9) _)
                clear hr9 hC9 hroom9 hi09 hsz9 hc9
                have KY9 := Aside0.mk hy9
                have KA9 := Aside0.mk hA9
                clear hy9 hA9
                replace q9 := eq_true q9
                go_wp2_with (first | ((with_reducible refine gate_callee (f := 17) rfl ?_); refine goesL_ (some 21) rfl rfl Try.func17 (by kernel_rfl) rfl #[.slice A9 y121.length c9] rfl (by (try simp only [List.map_toArray, List.map_cons, List.map_nil]); first | done | rfl | (simp only [List.length_drop, List.length_take]; rfl)) ?_; (with_reducible refine (amanuensisref19_num.calls k1 _ _ y121 t126 _ ?side1 ?side2 A8.out).mono ?_); (case side1 => repeat (first | exact (Kd.V_reads' HO125.out).2.2 | (with_reducible refine Kd.C_alloc ?_ _) | (with_reducible refine Kd.C_drewN ?_ _) | (with_reducible refine Kd.C_drew ?_))); (case side2 => exact (Kd.V_reads' HO125.out).2.1); rintro e w' ⟨rfl, ⟨nd, rfl⟩⟩; refine ⟨_, rfl, ?_⟩))
                go_meet
                case rel => exact ⟨_, (t126), (by first | rfl | (simp; done) | (simp [*]; done)), H', ⟨by have := HK1.out; first | omega | exact Nat.le_refl _⟩, ⟨by (with_reducible repeat (first | apply Kd.V_alloc | apply Kd.V_drewN | apply Kd.V_drew)); exact HO_0.out⟩, ⟨by (with_reducible repeat (first | apply Kd.N_alloc | apply Kd.N_drewN | apply Kd.N_drew)); exact HO_3.out⟩, ⟨by repeat (first | (with_reducible first | exact HB.out | apply below_alloc | apply pw_below_drewN | apply below_drew1) | exact HB.out)⟩⟩
              · rw [if_neg c6] at H
                exact absurd H (by simp)
            · rw [if_neg c5] at H
              exact absurd H (by simp)
          · rw [if_neg c4] at H
            have c4b0 : decide ((wrap64 (x4_1 + 5)) ≤ (l0.length : Int)) = false := decide_eq_false c4
            clear c4
            (first | rw [c4b0] | (simp only [i64_w, i32_w]; rw [c4b0]) | skip)
            have H' := Aside0.mk H
            clear H
            go_wp2
            go_meet
            case rel => exact ⟨_, ((-1)), (by first | rfl | (simp; done) | (simp [*]; done)), H', ⟨by have := HK1.out; first | omega | exact Nat.le_refl _⟩, ⟨by (with_reducible repeat (first | apply Kd.V_alloc | apply Kd.V_drewN | apply Kd.V_drew)); exact HO_0.out⟩, ⟨by (with_reducible repeat (first | apply Kd.N_alloc | apply Kd.N_drewN | apply Kd.N_drew)); exact HO_3.out⟩, ⟨by repeat (first | (with_reducible first | exact HB.out | apply below_alloc | apply pw_below_drewN | apply below_drew1) | exact HB.out)⟩⟩
        case rest =>
          clear HC3
          try clear c1
          try clear c2
          try clear c2b0
          try clear p2
          try clear c4
          try clear c4b0
          try clear c5
          try clear c5b0
          try clear c5b1
          try clear c6
          try clear c6b0
          try clear c6b1
          try clear p6
          try clear c7
          try clear c7b0
          try clear c9
          try clear q9
          try clear q09
          try clear q9
          obtain ⟨kq, x5_2, rfl, HA, HJ2, HO_0, HO_3, HB⟩ := hcut
          cases kq with
          | zero => exact absurd HA.out (by simp [amanuensisref19_Cut.j1])
          | succ kj2 =>
            have H := HA.out
            clear HA
            simp only [amanuensisref19_Cut.j1] at H
            have HC10 := Aside0.mk H
            clear H
            go_upto_region 7 with (fail)
            go_cut [41] (fun v41 wc => ∃ (kq : Nat) (x41_9 : Bool), v41 = .bool x41_9 ∧ Aside0 (amanuensisref19_Cut.j2 kq l0 x3_1 x4_1 x5_2 x41_9 = some r) ∧ Aside0 (kq ≤ kj2) ∧ Aside0 (Kd.V (Kd.int .u8) 5 wc w.heap.size (fun k_ => (P0_ k_ ∨ w.heap.size ≤ k_) ∧ some k_ ≠ (u3 : Value).ownBlock) (.slice A0 l0.length c0) l0) ∧ Aside0 (Kd.N k37 37 wc w.heap.size (fun k_ => (P0_ k_ ∨ w.heap.size ≤ k_)) u3 x3_1) ∧ Aside0 (Below w.heap.size w wc))
            case first =>
              have H := HC10.out
              clear HC10
              by_cases c11 : x5_2 ≥ 26
              · rw [if_pos c11] at H
                have c11b0 : decide (26 ≤ x5_2) = true := decide_eq_true c11
                clear c11
                (first | rw [c11b0] | (simp only [i64_w, i32_w]; rw [c11b0]) | skip)
                by_cases c12 : (wrap64 (x4_1 + x5_2)) ≤ (l0.length : Int)
                · rw [if_pos c12] at H
                  have c12b0 : decide ((wrap64 (x4_1 + x5_2)) ≤ (l0.length : Int)) = true := decide_eq_true c12
                  clear c12
                  obtain ⟨ji13, hji13⟩ : ∃ j_ : Int, (wrap64 ((wrap64 (x4_1 + x5_2)) - 1)) = j_ := ⟨_, rfl⟩
                  replace H : (if 0 ≤ (ji13) then (if (ji13) < (l0.length : Int) then (amanuensisref19_Cut.j2 kj2 l0 x3_1 x4_1 x5_2 ((rd l0 (ji13)) == 29)) else (none)) else (none)) = some r := by first | (rw [hji13] at H; exact H) | (simp only [hji13] at H ⊢; exact H)
                  have hji13w : (IntKind.i64.wrap ((wrap64 (x4_1 + x5_2)) - 1)) = ji13 := (i64_w _).trans hji13
                  by_cases c14 : 0 ≤ (ji13)
                  · rw [if_pos c14] at H
                    have c14b0 : decide (0 ≤ (ji13)) = true := decide_eq_true c14
                    clear c14
                    by_cases c15 : (ji13) < (l0.length : Int)
                    · rw [if_pos c15] at H
                      have c15b0 : decide ((ji13) < (l0.length : Int)) = true := decide_eq_true c15
                      clear c15
                      have H' := Aside0.mk H
                      clear H
                      have p127 : 0 ≤ ((ji13) : Int) := of_decide_eq_true (by first | (with_reducible assumption) | assumption)
                      have q127 : (ji13) < (l0.length : Int) := of_decide_eq_true (by first | (with_reducible assumption) | assumption)
                      obtain ⟨ad127, e127, hx127_0⟩ := Kd.at_int (Kd.V_reads' HO_0.out).2.2 (ji13) p127 q127
                      cases e127
                      replace p127 := eq_true p127
                      replace q127 := eq_true q127
                      go_wp2
                      go_meet
                      case rel => exact ⟨_, (((rd l0 (ji13)) == 29)), (by first | rfl | (simp; done) | (simp only [← hji13] <;> (first | rfl | simp)) | (simp [*]; done)), H', ⟨by have := HK1.out; have := HJ2.out; first | omega | exact Nat.le_refl _⟩, ⟨by (with_reducible repeat (first | apply Kd.V_alloc | apply Kd.V_drewN | apply Kd.V_drew)); exact HO_0.out⟩, ⟨by (with_reducible repeat (first | apply Kd.N_alloc | apply Kd.N_drewN | apply Kd.N_drew)); exact HO_3.out⟩, ⟨by repeat (first | (with_reducible first | exact HB.out | apply below_alloc | apply pw_below_drewN | apply below_drew1) | exact HB.out)⟩⟩
                    · rw [if_neg c15] at H
                      exact absurd H (by simp)
                  · rw [if_neg c14] at H
                    exact absurd H (by simp)
                · rw [if_neg c12] at H
                  have c12b0 : decide ((wrap64 (x4_1 + x5_2)) ≤ (l0.length : Int)) = false := decide_eq_false c12
                  clear c12
                  have H' := Aside0.mk H
                  clear H
                  go_wp2
                  go_meet
                  case rel => exact ⟨_, (false), (by first | rfl | (simp; done) | (simp [*]; done)), H', ⟨by have := HK1.out; have := HJ2.out; first | omega | exact Nat.le_refl _⟩, ⟨by (with_reducible repeat (first | apply Kd.V_alloc | apply Kd.V_drewN | apply Kd.V_drew)); exact HO_0.out⟩, ⟨by (with_reducible repeat (first | apply Kd.N_alloc | apply Kd.N_drewN | apply Kd.N_drew)); exact HO_3.out⟩, ⟨by repeat (first | (with_reducible first | exact HB.out | apply below_alloc | apply pw_below_drewN | apply below_drew1) | exact HB.out)⟩⟩
              · rw [if_neg c11] at H
                have c11b0 : decide (26 ≤ x5_2) = false := decide_eq_false c11
                clear c11
                (first | rw [c11b0] | (simp only [i64_w, i32_w]; rw [c11b0]) | skip)
                have H' := Aside0.mk H
                clear H
                go_wp2
                go_meet
                case rel => exact ⟨_, (false), (by first | rfl | (simp; done) | (simp [*]; done)), H', ⟨by have := HK1.out; have := HJ2.out; first | omega | exact Nat.le_refl _⟩, ⟨by (with_reducible repeat (first | apply Kd.V_alloc | apply Kd.V_drewN | apply Kd.V_drew)); exact HO_0.out⟩, ⟨by (with_reducible repeat (first | apply Kd.N_alloc | apply Kd.N_drewN | apply Kd.N_drew)); exact HO_3.out⟩, ⟨by repeat (first | (with_reducible first | exact HB.out | apply below_alloc | apply pw_below_drewN | apply below_drew1) | exact HB.out)⟩⟩
            case rest =>
              clear HC10
              try clear c1
              try clear p1
              try clear q1
              try clear hx1
              try clear c2
              try clear c2b0
              try clear p2
              try clear c4
              try clear c4b0
              try clear c5
              try clear c5b0
              try clear c5b1
              try clear c6
              try clear c6b0
              try clear c6b1
              try clear p6
              try clear c7
              try clear c7b0
              try clear c9
              try clear q9
              try clear c11
              try clear c11b0
              try clear c12
              try clear c12b0
              try clear p12
              try clear q12
              try clear hx12
              try clear c13
              try clear c14
              try clear c14b0
              try clear c15
              try clear c15b0
              try clear hx127_0
              try clear p127
              try clear p2
              try clear p6
              try clear q09
              try clear q127
              try clear q9
              obtain ⟨kq, x41_9, rfl, HA, HJ9, HO_0, HO_3, HB⟩ := hcut
              cases kq with
              | zero => exact absurd HA.out (by simp [amanuensisref19_Cut.j2])
              | succ kj9 =>
                have H := HA.out
                clear HA
                simp only [amanuensisref19_Cut.j2] at H
                by_cases c16 : x41_9 = true
                · subst c16
                  have H1 : (if 0 ≤ x4_1 then (if x4_1 ≤ (wrap64 (x4_1 + x5_2)) then (if (wrap64 (x4_1 + x5_2)) ≤ (l0.length : Int) then (if x3_1.length < 3518437208883 then (amanuensisref19_Cut.l0 kj9 l0 (x3_1 ++ [(⟨x4_1, true, ((l0.take ((wrap64 (x4_1 + x5_2)) : Int).toNat).drop (x4_1 : Int).toNat)⟩ : S37)]) (wrap64 (x4_1 + x5_2))) else (none)) else (none)) else (none)) else (none)) = some r := by rw [if_pos rfl] at H; exact H
                  clear H
                  have H := H1
                  clear H1
                  by_cases c17 : 0 ≤ x4_1
                  · rw [if_pos c17] at H
                    have c17b0 := eq_true c17
                    have c17b1 : decide (0 ≤ x4_1) = true := decide_eq_true c17
                    clear c17
                    by_cases c18 : x4_1 ≤ (wrap64 (x4_1 + x5_2))
                    · rw [if_pos c18] at H
                      have c18b0 := eq_true c18
                      have c18b1 : decide (x4_1 ≤ (wrap64 (x4_1 + x5_2))) = true := decide_eq_true c18
                      by_cases c19 : (wrap64 (x4_1 + x5_2)) ≤ (l0.length : Int)
                      · rw [if_pos c19] at H
                        have c19b0 := eq_true c19
                        have c19b1 : decide ((wrap64 (x4_1 + x5_2)) ≤ (l0.length : Int)) = true := decide_eq_true c19
                        obtain ⟨y128, hy128⟩ : ∃ y_ : List Int, y_ = ((l0.take ((wrap64 (x4_1 + x5_2)) : Int).toNat).drop (x4_1 : Int).toNat) := ⟨_, rfl⟩
                        replace H : (if x3_1.length < 3518437208883 then (amanuensisref19_Cut.l0 kj9 l0 (x3_1 ++ [(⟨x4_1, true, y128⟩ : S37)]) (wrap64 (x4_1 + x5_2))) else (none)) = some r := by first | (rw [hy128]; with_reducible exact H) | (have H2_ := (Option.bind_some _ _).symm.trans H; rw [hy128]; with_reducible exact H2_) | (have H2_ := (Option.bind_some _ _).symm.trans H; with_reducible exact H2_) | with_reducible exact H | (rw [hy128]; exact H) | exact H
                        have Ny128 := Aside0.mk hy128
                        clear hy128
                        by_cases c20 : x3_1.length < 3518437208883
                        · rw [if_pos c20] at H
                          have LMc20 := Aside0.mk c20
                          clear c20
                          obtain ⟨y133, hy133⟩ : ∃ y_ : List (S37), y_ = (x3_1 ++ [(⟨x4_1, true, y128⟩ : S37)]) := ⟨_, rfl⟩
                          replace H : (amanuensisref19_Cut.l0 kj9 l0 y133 (wrap64 (x4_1 + x5_2))) = some r := by first | (rw [hy133]; with_reducible exact H) | (have H2_ := (Option.bind_some _ _).symm.trans H; rw [hy133]; with_reducible exact H2_) | (have H2_ := (Option.bind_some _ _).symm.trans H; with_reducible exact H2_) | with_reducible exact H | (rw [hy133]; exact H) | exact H
                          have Ny133 := Aside0.mk hy133
                          clear hy133
                          have H' := Aside0.mk H
                          clear H
                          have q21 : ((wrap64 (x4_1 + x5_2)) : Int) ≤ ((l0.length : Int) : Int) := of_decide_eq_true (by first | (with_reducible assumption) | assumption)
                          obtain ⟨i021, hi021, _, hsz21, _⟩ := info_parts info5
                          have hroom21 : l0.length ≤ c0 := (Kd.V_reads' HO_0.out).2.1
                          have hC21 : Kd.F (Kd.int .u8) _ _ A0 l0.length l0 := (Kd.V_at (base := w.heap.size) HO_0.out).2.2
                          have ql21 : (x4_1 : Int) ≤ ((wrap64 (x4_1 + x5_2)) : Int) := of_decide_eq_true (by first | (with_reducible assumption) | assumption)
                          have q021 : (0 : Int) ≤ (x4_1 : Int) := of_decide_eq_true (by first | (with_reducible assumption) | assumption)
                          have hcut21 := cut_mid (P := Try.prog) 22 5 .i64 .i64 Try.underlying22 hi021 1 hsz21 A0 l0.length c0 x4_1 (wrap64 (x4_1 + x5_2)) q021 ql21 q21 hroom21
                          have hr21 := Kd.F_mid (lo := (x4_1 : Int).toNat) (hi := ((wrap64 (x4_1 + x5_2)) : Int).toNat) (c := c0) hC21 (by omega) (by omega) hroom21
                          obtain ⟨A21, hA21⟩ : ∃ A1, A1 = (if c0 = (x4_1 : Int).toNat then A0 else (A0 : Option Addr).map (·.add ((x4_1 : Int).toNat * 1))) := ⟨_, rfl⟩
                          obtain ⟨c21, hc21⟩ : ∃ c1, c1 = c0 - (x4_1 : Int).toNat := ⟨_, rfl⟩
                          have hy21 : y128.length = ((wrap64 (x4_1 + x5_2)) : Int).toNat - (x4_1 : Int).toNat := (by rw [Ny128.out, List.length_drop, List.length_take] <;> omega)
                          rw [show ((l0).take ((wrap64 (x4_1 + x5_2)) : Int).toNat).drop (x4_1 : Int).toNat = y128 from Ny128.out.symm] at hr21
                          replace hr21 : Kd.F (Kd.int .u8) _ _ A21 y128.length y128 := (by rw [hA21]; exact hr21)
                          rw [← hy21, ← hA21, ← hc21] at hcut21
                          have HO132 := Aside0.mk (show Kd.V (Kd.int .u8) 5 _ w.heap.size _ (.slice A21 y128.length c21) y128 from Kd.V_mk (by rw [hy21, hc21]; exact Nat.sub_le_sub_right (Nat.le_trans (by omega) hroom21) _) hr21)
                          have HC132 := Aside0.mk (show y128.length ≤ c21 from by rw [hy21, hc21]; exact Nat.sub_le_sub_right (Nat.le_trans (by omega) hroom21) _)
                          clear hr21 hC21 hroom21 hi021 hsz21 hc21
                          have KY21 := Aside0.mk hy21
                          have KA21 := Aside0.mk hA21
                          clear hy21 hA21
                          replace q21 := eq_true q21
                          go_wp2_with (first | ((with_reducible refine gate_builtin (b := .append) (xs := #[.tmp 42, .tmp 51]) rfl ?_); (try (refine gate_guard (by rfl) ?_; dsimp only)); at_builtin; refine Kd.N_append k37 (w0 := w) w.heap.size rfl (.tmp 42) (.tmp 51) 30 37 (.agg #[(.int .i64 0), (.bool false), (.slice none 0 0)]) 40 rfl Try.underlying30 info37 rfl (by decide) (by omega) u3 x3_1 (⟨x4_1, true, y128⟩ : S37) [.int .i64 x4_1, .bool true, .slice A21 y128.length c21] (fun k_ => (P0_ k_ ∨ w.heap.size ≤ k_)) (fun k_ => ((fun k_ => (P0_ k_ ∨ w.heap.size ≤ k_))) k_ ∧ some k_ ≠ (u3 : Value).ownBlock) rfl rfl ?aP (fun _ hk => hk) ?aF ?aO ?aB ?aS ?aL ?_; (case aP => exact (k37_mkF _ _ (⟨x4_1, true, y128⟩ : S37) (Kd.V_reads' (Kd.V_mono (ok' := (fun k_ => ((fun k_ => (P0_ k_ ∨ w.heap.size ≤ k_))) k_ ∧ some k_ ≠ (u3 : Value).ownBlock)) (HO132.out) (fun k_ hk => ⟨hk.1, hk.2⟩))).2.1 (Kd.V_F (Kd.V_mono (ok' := (fun k_ => ((fun k_ => (P0_ k_ ∨ w.heap.size ≤ k_))) k_ ∧ some k_ ≠ (u3 : Value).ownBlock)) (HO132.out) (fun k_ hk => ⟨hk.1, hk.2⟩))))); (case aB => exact (by repeat (first | (with_reducible first | exact HB.out | apply below_alloc | apply pw_below_drewN | apply below_drew1) | exact HB.out))); (case aF => exact (fun k_ hk => (.inr (Nat.le_trans (below_size (by repeat (first | (with_reducible first | exact HB.out | apply below_alloc | apply pw_below_drewN | apply below_drew1) | exact HB.out))) hk)))); (case aO => exact (by (with_reducible repeat (first | apply Kd.N_alloc | apply Kd.N_drewN | apply Kd.N_drew)); exact HO_3.out)); (case aS => exact (below_size (by repeat (first | (with_reducible first | exact HB.out | apply below_alloc | apply pw_below_drewN | apply below_drew1) | exact HB.out)))); (case aL => have := LMc20.out; omega); intro v134 w22 ho hb hg hat; rw [← Ny133.out] at ho; have n0_ := Aside0.mk (Kd.V_afterv (ok := (fun k_ => (P0_ k_ ∨ w.heap.size ≤ k_))) (by (with_reducible repeat (first | apply Kd.V_alloc | apply Kd.V_drewN | apply Kd.V_drew)); exact HO_0.out) hg hat); have n1_ := Aside0.mk (Kd.V_afterv (ok := (fun k_ => (P0_ k_ ∨ w.heap.size ≤ k_))) (by (with_reducible repeat (first | apply Kd.V_alloc | apply Kd.V_drewN | apply Kd.V_drew)); exact HO132.out) hg hat); have n2_ := Aside0.mk (hb); have n3_ := Aside0.mk (ho); clear HO_0; clear HO132; clear HB; clear HO_3; have HO_0 := n0_; have HO132 := n1_; have HB := n2_; have HO135 := n3_; clear n0_ n1_ n2_ n3_; clear ho hb hg hat))
                          go_roundg kj9
                          case measure => have := HK1.out; have := HJ2.out; have := HJ9.out; omega
                          case rel => exact ⟨(y133), (wrap64 (x4_1 + x5_2)), (by first | rfl | (simp; done) | (simp [*]; done)), H', ⟨by have := HK1.out; have := HJ2.out; have := HJ9.out; omega⟩, ⟨by (with_reducible repeat (first | apply Kd.V_alloc | apply Kd.V_drewN | apply Kd.V_drew)); exact HO_0.out⟩, ⟨by (with_reducible repeat (first | apply Kd.N_alloc | apply Kd.N_drewN | apply Kd.N_drew)); exact HO135.out⟩, ⟨by repeat (first | (with_reducible first | exact HB.out | apply below_alloc | apply pw_below_drewN | apply below_drew1) | exact HB.out)⟩⟩
                        · rw [if_neg c20] at H
                          exact absurd H (by simp)
                      · rw [if_neg c19] at H
                        exact absurd H (by simp)
                    · rw [if_neg c18] at H
                      exact absurd H (by simp)
                  · rw [if_neg c17] at H
                    exact absurd H (by simp)
                · replace c16 := Bool.eq_false_iff.mpr c16
                  subst c16
                  have H1 : (amanuensisref19_Cut.l1 kj9 l0 x3_1 x4_1 x4_1) = some r := by rw [if_neg (show ¬ (false = true) by decide)] at H; exact H
                  clear H
                  have H := H1
                  clear H1
                  have H' := Aside0.mk H
                  clear H
                  go_wp2
                  go_loopg [6] kj9 (fun kq v6 w' => ∃ (x6_4 : Int), v6 = .int .i64 x6_4 ∧ Aside0 (amanuensisref19_Cut.l1 kq l0 x3_1 x4_1 x6_4 = some r) ∧ Aside0 (kq ≤ kj9) ∧ Aside0 (Kd.V (Kd.int .u8) 5 w' w.heap.size (fun k_ => (P0_ k_ ∨ w.heap.size ≤ k_) ∧ some k_ ≠ (u3 : Value).ownBlock) (.slice A0 l0.length c0) l0) ∧ Aside0 (Kd.N k37 37 w' w.heap.size (fun k_ => (P0_ k_ ∨ w.heap.size ≤ k_)) u3 x3_1) ∧ Aside0 (Below w.heap.size w w'))
                  case atStart => exact ⟨(x4_1), (by first | rfl | (simp; done) | (simp [*]; done)), H', ⟨Nat.le_refl _⟩, ⟨by (with_reducible repeat (first | apply Kd.V_alloc | apply Kd.V_drewN | apply Kd.V_drew)); exact HO_0.out⟩, ⟨by (with_reducible repeat (first | apply Kd.N_alloc | apply Kd.N_drewN | apply Kd.N_drew)); exact HO_3.out⟩, ⟨by repeat (first | (with_reducible first | exact HB.out | apply below_alloc | apply pw_below_drewN | apply below_drew1) | exact HB.out)⟩⟩
                  case round =>
                    clear H'
                    try clear c1
                    try clear p1
                    try clear q1
                    try clear hx1
                    try clear c2
                    try clear c2b0
                    try clear p2
                    try clear q2
                    try clear c4
                    try clear c4b0
                    try clear c5
                    try clear c5b0
                    try clear c5b1
                    try clear c6
                    try clear c6b0
                    try clear c6b1
                    try clear p6
                    try clear c7
                    try clear c7b0
                    try clear c9
                    try clear q9
                    try clear c11
                    try clear c11b0
                    try clear c12
                    try clear c12b0
                    try clear p12
                    try clear q12
                    try clear hx12
                    try clear c13
                    try clear c14
                    try clear c14b0
                    try clear c15
                    try clear c15b0
                    try clear c16
                    try clear c17
                    try clear c17b0
                    try clear c17b1
                    try clear c18
                    try clear c18b0
                    try clear c18b1
                    try clear c19
                    try clear c19b0
                    try clear c19b1
                    try clear c20
                    try clear c21
                    try clear q21
                    try clear hx127_0
                    try clear p1
                    try clear p12
                    try clear p127
                    try clear p2
                    try clear p6
                    try clear q021
                    try clear q09
                    try clear q1
                    try clear q12
                    try clear q127
                    try clear q21
                    try clear q9
                    obtain ⟨x6_4, rfl, HA, HK4, HO_0, HO_3, HB⟩ := hrel
                    cases gk with
                    | zero => exact absurd HA.out (by simp [amanuensisref19_Cut.l1])
                    | succ k4 =>
                      have H := HA.out
                      clear HA
                      simp only [amanuensisref19_Cut.l1] at H
                      by_cases c23 : x6_4 < (l0.length : Int)
                      · rw [if_pos c23] at H
                        have c23b0 : decide (x6_4 < (l0.length : Int)) = true := decide_eq_true c23
                        clear c23
                        by_cases c24 : 0 ≤ x6_4
                        · rw [if_pos c24] at H
                          have c24b0 : decide (0 ≤ x6_4) = true := decide_eq_true c24
                          clear c24
                          by_cases c25 : (rd l0 x6_4) = 29
                          · rw [if_pos c25] at H
                            have c25b0 : ((rd l0 x6_4) == 29) = true := beq_iff_eq.mpr c25
                            have c25b1 : ((rd l0 x6_4) != 29) = false := bne_eq_false_iff_eq.mpr c25
                            clear c25
                            by_cases c26 : 0 ≤ x4_1
                            · rw [if_pos c26] at H
                              have c26b0 := eq_true c26
                              have c26b1 : decide (0 ≤ x4_1) = true := decide_eq_true c26
                              clear c26
                              by_cases c27 : x4_1 ≤ (wrap64 (x6_4 + 1))
                              · rw [if_pos c27] at H
                                have c27b0 := eq_true c27
                                have c27b1 : decide (x4_1 ≤ (wrap64 (x6_4 + 1))) = true := decide_eq_true c27
                                by_cases c28 : (wrap64 (x6_4 + 1)) ≤ (l0.length : Int)
                                · rw [if_pos c28] at H
                                  have c28b0 := eq_true c28
                                  have c28b1 : decide ((wrap64 (x6_4 + 1)) ≤ (l0.length : Int)) = true := decide_eq_true c28
                                  obtain ⟨y137, hy137⟩ : ∃ y_ : List Int, y_ = ((l0.take ((wrap64 (x6_4 + 1)) : Int).toNat).drop (x4_1 : Int).toNat) := ⟨_, rfl⟩
                                  replace H : (if x3_1.length < 3518437208883 then (amanuensisref19_Cut.l0 k4 l0 (x3_1 ++ [(⟨x4_1, false, y137⟩ : S37)]) (wrap64 (x6_4 + 1))) else (none)) = some r := by first | (rw [hy137]; with_reducible exact H) | (have H2_ := (Option.bind_some _ _).symm.trans H; rw [hy137]; with_reducible exact H2_) | (have H2_ := (Option.bind_some _ _).symm.trans H; with_reducible exact H2_) | with_reducible exact H | (rw [hy137]; exact H) | exact H
                                  have Ny137 := Aside0.mk hy137
                                  clear hy137
                                  by_cases c29 : x3_1.length < 3518437208883
                                  · rw [if_pos c29] at H
                                    have LMc29 := Aside0.mk c29
                                    clear c29
                                    obtain ⟨y142, hy142⟩ : ∃ y_ : List (S37), y_ = (x3_1 ++ [(⟨x4_1, false, y137⟩ : S37)]) := ⟨_, rfl⟩
                                    replace H : (amanuensisref19_Cut.l0 k4 l0 y142 (wrap64 (x6_4 + 1))) = some r := by first | (rw [hy142]; with_reducible exact H) | (have H2_ := (Option.bind_some _ _).symm.trans H; rw [hy142]; with_reducible exact H2_) | (have H2_ := (Option.bind_some _ _).symm.trans H; with_reducible exact H2_) | with_reducible exact H | (rw [hy142]; exact H) | exact H
                                    have Ny142 := Aside0.mk hy142
                                    clear hy142
                                    have H' := Aside0.mk H
                                    clear H
                                    have p136 : 0 ≤ (x6_4 : Int) := of_decide_eq_true (by first | (with_reducible assumption) | assumption)
                                    have q136 : x6_4 < (l0.length : Int) := of_decide_eq_true (by first | (with_reducible assumption) | assumption)
                                    obtain ⟨ad136, e136, hx136_0⟩ := Kd.at_int (Kd.V_reads' HO_0.out).2.2 x6_4 p136 q136
                                    cases e136
                                    replace p136 := eq_true p136
                                    replace q136 := eq_true q136
                                    have q30 : ((wrap64 (x6_4 + 1)) : Int) ≤ ((l0.length : Int) : Int) := of_decide_eq_true (by first | (with_reducible assumption) | assumption)
                                    obtain ⟨i030, hi030, _, hsz30, _⟩ := info_parts info5
                                    have hroom30 : l0.length ≤ c0 := (Kd.V_reads' HO_0.out).2.1
                                    have hC30 : Kd.F (Kd.int .u8) _ _ (some ad136) l0.length l0 := (Kd.V_at (base := w.heap.size) HO_0.out).2.2
                                    have ql30 : (x4_1 : Int) ≤ ((wrap64 (x6_4 + 1)) : Int) := of_decide_eq_true (by first | (with_reducible assumption) | assumption)
                                    have q030 : (0 : Int) ≤ (x4_1 : Int) := of_decide_eq_true (by first | (with_reducible assumption) | assumption)
                                    have hcut30 := cut_mid (P := Try.prog) 22 5 .i64 .i64 Try.underlying22 hi030 1 hsz30 (some ad136) l0.length c0 x4_1 (wrap64 (x6_4 + 1)) q030 ql30 q30 hroom30
                                    have hr30 := Kd.F_mid (lo := (x4_1 : Int).toNat) (hi := ((wrap64 (x6_4 + 1)) : Int).toNat) (c := c0) hC30 (by omega) (by omega) hroom30
                                    obtain ⟨A30, hA30⟩ : ∃ A1, A1 = (if c0 = (x4_1 : Int).toNat then (some ad136) else ((some ad136) : Option Addr).map (·.add ((x4_1 : Int).toNat * 1))) := ⟨_, rfl⟩
                                    obtain ⟨c30, hc30⟩ : ∃ c1, c1 = c0 - (x4_1 : Int).toNat := ⟨_, rfl⟩
                                    have hy30 : y137.length = ((wrap64 (x6_4 + 1)) : Int).toNat - (x4_1 : Int).toNat := (by rw [Ny137.out, List.length_drop, List.length_take] <;> omega)
                                    rw [show ((l0).take ((wrap64 (x6_4 + 1)) : Int).toNat).drop (x4_1 : Int).toNat = y137 from Ny137.out.symm] at hr30
                                    replace hr30 : Kd.F (Kd.int .u8) _ _ A30 y137.length y137 := (by rw [hA30]; exact hr30)
                                    rw [← hy30, ← hA30, ← hc30] at hcut30
                                    have HO141 := Aside0.mk (show Kd.V (Kd.int .u8) 5 _ w.heap.size _ (.slice A30 y137.length c30) y137 from Kd.V_mk (by rw [hy30, hc30]; exact Nat.sub_le_sub_right (Nat.le_trans (by omega) hroom30) _) hr30)
                                    have HC141 := Aside0.mk (show y137.length ≤ c30 from by rw [hy30, hc30]; exact Nat.sub_le_sub_right (Nat.le_trans (by omega) hroom30) _)
                                    clear hr30 hC30 hroom30 hi030 hsz30 hc30
                                    have KY30 := Aside0.mk hy30
                                    have KA30 := Aside0.mk hA30
                                    clear hy30 hA30
                                    replace q30 := eq_true q30
                                    go_wp2_with (first | ((with_reducible refine gate_builtin (b := .append) (xs := #[.tmp 76, .tmp 83]) rfl ?_); (try (refine gate_guard (by rfl) ?_; dsimp only)); at_builtin; refine Kd.N_append k37 (w0 := w) w.heap.size rfl (.tmp 76) (.tmp 83) 30 37 (.agg #[(.int .i64 0), (.bool false), (.slice none 0 0)]) 40 rfl Try.underlying30 info37 rfl (by decide) (by omega) u3 x3_1 (⟨x4_1, false, y137⟩ : S37) [.int .i64 x4_1, .bool false, .slice A30 y137.length c30] (fun k_ => (P0_ k_ ∨ w.heap.size ≤ k_)) (fun k_ => ((fun k_ => (P0_ k_ ∨ w.heap.size ≤ k_))) k_ ∧ some k_ ≠ (u3 : Value).ownBlock) rfl rfl ?aP (fun _ hk => hk) ?aF ?aO ?aB ?aS ?aL ?_; (case aP => exact (k37_mkF _ _ (⟨x4_1, false, y137⟩ : S37) (Kd.V_reads' (Kd.V_mono (ok' := (fun k_ => ((fun k_ => (P0_ k_ ∨ w.heap.size ≤ k_))) k_ ∧ some k_ ≠ (u3 : Value).ownBlock)) (HO141.out) (fun k_ hk => ⟨hk.1, hk.2⟩))).2.1 (Kd.V_F (Kd.V_mono (ok' := (fun k_ => ((fun k_ => (P0_ k_ ∨ w.heap.size ≤ k_))) k_ ∧ some k_ ≠ (u3 : Value).ownBlock)) (HO141.out) (fun k_ hk => ⟨hk.1, hk.2⟩))))); (case aB => exact (by repeat (first | (with_reducible first | exact HB.out | apply below_alloc | apply pw_below_drewN | apply below_drew1) | exact HB.out))); (case aF => exact (fun k_ hk => (.inr (Nat.le_trans (below_size (by repeat (first | (with_reducible first | exact HB.out | apply below_alloc | apply pw_below_drewN | apply below_drew1) | exact HB.out))) hk)))); (case aO => exact (by (with_reducible repeat (first | apply Kd.N_alloc | apply Kd.N_drewN | apply Kd.N_drew)); exact HO_3.out)); (case aS => exact (below_size (by repeat (first | (with_reducible first | exact HB.out | apply below_alloc | apply pw_below_drewN | apply below_drew1) | exact HB.out)))); (case aL => have := LMc29.out; omega); intro v143 w31 ho hb hg hat; rw [← Ny142.out] at ho; have n0_ := Aside0.mk (Kd.V_afterv (ok := (fun k_ => (P0_ k_ ∨ w.heap.size ≤ k_))) (by (with_reducible repeat (first | apply Kd.V_alloc | apply Kd.V_drewN | apply Kd.V_drew)); exact HO_0.out) hg hat); have n1_ := Aside0.mk (Kd.V_afterv (ok := (fun k_ => (P0_ k_ ∨ w.heap.size ≤ k_))) (by (with_reducible repeat (first | apply Kd.V_alloc | apply Kd.V_drewN | apply Kd.V_drew)); exact HO141.out) hg hat); have n2_ := Aside0.mk (hb); have n3_ := Aside0.mk (ho); clear HO_0; clear HO141; clear HB; clear HO_3; have HO_0 := n0_; have HO141 := n1_; have HB := n2_; have HO144 := n3_; clear n0_ n1_ n2_ n3_; clear ho hb hg hat))
                                    go_roundg k4
                                    case measure => have := HK1.out; have := HJ2.out; have := HJ9.out; have := HK4.out; omega
                                    case rel => exact ⟨(y142), (wrap64 (x6_4 + 1)), (by first | rfl | (simp; done) | (simp [*]; done)), H', ⟨by have := HK1.out; have := HJ2.out; have := HJ9.out; have := HK4.out; omega⟩, ⟨by (with_reducible repeat (first | apply Kd.V_alloc | apply Kd.V_drewN | apply Kd.V_drew)); exact HO_0.out⟩, ⟨by (with_reducible repeat (first | apply Kd.N_alloc | apply Kd.N_drewN | apply Kd.N_drew)); exact HO144.out⟩, ⟨by repeat (first | (with_reducible first | exact HB.out | apply below_alloc | apply pw_below_drewN | apply below_drew1) | exact HB.out)⟩⟩
                                  · rw [if_neg c29] at H
                                    exact absurd H (by simp)
                                · rw [if_neg c28] at H
                                  exact absurd H (by simp)
                              · rw [if_neg c27] at H
                                exact absurd H (by simp)
                            · rw [if_neg c26] at H
                              exact absurd H (by simp)
                          · rw [if_neg c25] at H
                            have c25b0 : ((rd l0 x6_4) == 29) = false := beq_eq_false_iff_ne.mpr c25
                            have c25b1 : ((rd l0 x6_4) != 29) = true := bne_iff_ne.mpr c25
                            have H' := Aside0.mk H
                            clear H
                            have p136 : 0 ≤ (x6_4 : Int) := of_decide_eq_true (by first | (with_reducible assumption) | assumption)
                            have q136 : x6_4 < (l0.length : Int) := of_decide_eq_true (by first | (with_reducible assumption) | assumption)
                            obtain ⟨ad136, e136, hx136_0⟩ := Kd.at_int (Kd.V_reads' HO_0.out).2.2 x6_4 p136 q136
                            cases e136
                            replace p136 := eq_true p136
                            replace q136 := eq_true q136
                            go_wp2
                            go_roundg k4
                            case measure => have := HK1.out; have := HJ2.out; have := HJ9.out; have := HK4.out; omega
                            case rel => exact ⟨(wrap64 (x6_4 + 1)), (by first | rfl | (simp; done) | (simp [*]; done)), H', ⟨by have := HK1.out; have := HJ2.out; have := HJ9.out; have := HK4.out; omega⟩, ⟨by (with_reducible repeat (first | apply Kd.V_alloc | apply Kd.V_drewN | apply Kd.V_drew)); exact HO_0.out⟩, ⟨by (with_reducible repeat (first | apply Kd.N_alloc | apply Kd.N_drewN | apply Kd.N_drew)); exact HO_3.out⟩, ⟨by repeat (first | (with_reducible first | exact HB.out | apply below_alloc | apply pw_below_drewN | apply below_drew1) | exact HB.out)⟩⟩
                        · rw [if_neg c24] at H
                          exact absurd H (by simp)
                      · rw [if_neg c23] at H
                        have c23b0 : decide (x6_4 < (l0.length : Int)) = false := decide_eq_false c23
                        clear c23
                        by_cases c32 : 0 ≤ x4_1
                        · rw [if_pos c32] at H
                          have c32b0 := eq_true c32
                          have c32b1 : decide (0 ≤ x4_1) = true := decide_eq_true c32
                          clear c32
                          by_cases c33 : x4_1 ≤ x6_4
                          · rw [if_pos c33] at H
                            have c33b0 := eq_true c33
                            have c33b1 : decide (x4_1 ≤ x6_4) = true := decide_eq_true c33
                            clear c33
                            by_cases c34 : x6_4 ≤ (l0.length : Int)
                            · rw [if_pos c34] at H
                              have c34b0 := eq_true c34
                              have c34b1 : decide (x6_4 ≤ (l0.length : Int)) = true := decide_eq_true c34
                              clear c34
                              obtain ⟨y145, hy145⟩ : ∃ y_ : List Int, y_ = ((l0.take (x6_4 : Int).toNat).drop (x4_1 : Int).toNat) := ⟨_, rfl⟩
                              replace H : (if x3_1.length < 3518437208883 then (amanuensisref19_Cut.l0 k4 l0 (x3_1 ++ [(⟨x4_1, false, y145⟩ : S37)]) x6_4) else (none)) = some r := by first | (rw [hy145]; with_reducible exact H) | (have H2_ := (Option.bind_some _ _).symm.trans H; rw [hy145]; with_reducible exact H2_) | (have H2_ := (Option.bind_some _ _).symm.trans H; with_reducible exact H2_) | with_reducible exact H | (rw [hy145]; exact H) | exact H
                              have Ny145 := Aside0.mk hy145
                              clear hy145
                              by_cases c35 : x3_1.length < 3518437208883
                              · rw [if_pos c35] at H
                                have LMc35 := Aside0.mk c35
                                clear c35
                                obtain ⟨y150, hy150⟩ : ∃ y_ : List (S37), y_ = (x3_1 ++ [(⟨x4_1, false, y145⟩ : S37)]) := ⟨_, rfl⟩
                                replace H : (amanuensisref19_Cut.l0 k4 l0 y150 x6_4) = some r := by first | (rw [hy150]; with_reducible exact H) | (have H2_ := (Option.bind_some _ _).symm.trans H; rw [hy150]; with_reducible exact H2_) | (have H2_ := (Option.bind_some _ _).symm.trans H; with_reducible exact H2_) | with_reducible exact H | (rw [hy150]; exact H) | exact H
                                have Ny150 := Aside0.mk hy150
                                clear hy150
                                have H' := Aside0.mk H
                                clear H
                                have q36 : (x6_4 : Int) ≤ ((l0.length : Int) : Int) := of_decide_eq_true (by first | (with_reducible assumption) | assumption)
                                obtain ⟨i036, hi036, _, hsz36, _⟩ := info_parts info5
                                have hroom36 : l0.length ≤ c0 := (Kd.V_reads' HO_0.out).2.1
                                have hC36 : Kd.F (Kd.int .u8) _ _ A0 l0.length l0 := (Kd.V_at (base := w.heap.size) HO_0.out).2.2
                                have ql36 : (x4_1 : Int) ≤ (x6_4 : Int) := of_decide_eq_true (by first | (with_reducible assumption) | assumption)
                                have q036 : (0 : Int) ≤ (x4_1 : Int) := of_decide_eq_true (by first | (with_reducible assumption) | assumption)
                                have hcut36 := cut_mid (P := Try.prog) 22 5 .i64 .i64 Try.underlying22 hi036 1 hsz36 A0 l0.length c0 x4_1 x6_4 q036 ql36 q36 hroom36
                                have hr36 := Kd.F_mid (lo := (x4_1 : Int).toNat) (hi := (x6_4 : Int).toNat) (c := c0) hC36 (by omega) (by omega) hroom36
                                obtain ⟨A36, hA36⟩ : ∃ A1, A1 = (if c0 = (x4_1 : Int).toNat then A0 else (A0 : Option Addr).map (·.add ((x4_1 : Int).toNat * 1))) := ⟨_, rfl⟩
                                obtain ⟨c36, hc36⟩ : ∃ c1, c1 = c0 - (x4_1 : Int).toNat := ⟨_, rfl⟩
                                have hy36 : y145.length = (x6_4 : Int).toNat - (x4_1 : Int).toNat := (by rw [Ny145.out, List.length_drop, List.length_take] <;> omega)
                                rw [show ((l0).take (x6_4 : Int).toNat).drop (x4_1 : Int).toNat = y145 from Ny145.out.symm] at hr36
                                replace hr36 : Kd.F (Kd.int .u8) _ _ A36 y145.length y145 := (by rw [hA36]; exact hr36)
                                rw [← hy36, ← hA36, ← hc36] at hcut36
                                have HO149 := Aside0.mk (show Kd.V (Kd.int .u8) 5 _ w.heap.size _ (.slice A36 y145.length c36) y145 from Kd.V_mk (by rw [hy36, hc36]; exact Nat.sub_le_sub_right (Nat.le_trans (by omega) hroom36) _) hr36)
                                have HC149 := Aside0.mk (show y145.length ≤ c36 from by rw [hy36, hc36]; exact Nat.sub_le_sub_right (Nat.le_trans (by omega) hroom36) _)
                                clear hr36 hC36 hroom36 hi036 hsz36 hc36
                                have KY36 := Aside0.mk hy36
                                have KA36 := Aside0.mk hA36
                                clear hy36 hA36
                                replace q36 := eq_true q36
                                go_wp2_with (first | ((with_reducible refine gate_builtin (b := .append) (xs := #[.tmp 76, .tmp 83]) rfl ?_); (try (refine gate_guard (by rfl) ?_; dsimp only)); at_builtin; refine Kd.N_append k37 (w0 := w) w.heap.size rfl (.tmp 76) (.tmp 83) 30 37 (.agg #[(.int .i64 0), (.bool false), (.slice none 0 0)]) 40 rfl Try.underlying30 info37 rfl (by decide) (by omega) u3 x3_1 (⟨x4_1, false, y145⟩ : S37) [.int .i64 x4_1, .bool false, .slice A36 y145.length c36] (fun k_ => (P0_ k_ ∨ w.heap.size ≤ k_)) (fun k_ => ((fun k_ => (P0_ k_ ∨ w.heap.size ≤ k_))) k_ ∧ some k_ ≠ (u3 : Value).ownBlock) rfl rfl ?aP (fun _ hk => hk) ?aF ?aO ?aB ?aS ?aL ?_; (case aP => exact (k37_mkF _ _ (⟨x4_1, false, y145⟩ : S37) (Kd.V_reads' (Kd.V_mono (ok' := (fun k_ => ((fun k_ => (P0_ k_ ∨ w.heap.size ≤ k_))) k_ ∧ some k_ ≠ (u3 : Value).ownBlock)) (HO149.out) (fun k_ hk => ⟨hk.1, hk.2⟩))).2.1 (Kd.V_F (Kd.V_mono (ok' := (fun k_ => ((fun k_ => (P0_ k_ ∨ w.heap.size ≤ k_))) k_ ∧ some k_ ≠ (u3 : Value).ownBlock)) (HO149.out) (fun k_ hk => ⟨hk.1, hk.2⟩))))); (case aB => exact (by repeat (first | (with_reducible first | exact HB.out | apply below_alloc | apply pw_below_drewN | apply below_drew1) | exact HB.out))); (case aF => exact (fun k_ hk => (.inr (Nat.le_trans (below_size (by repeat (first | (with_reducible first | exact HB.out | apply below_alloc | apply pw_below_drewN | apply below_drew1) | exact HB.out))) hk)))); (case aO => exact (by (with_reducible repeat (first | apply Kd.N_alloc | apply Kd.N_drewN | apply Kd.N_drew)); exact HO_3.out)); (case aS => exact (below_size (by repeat (first | (with_reducible first | exact HB.out | apply below_alloc | apply pw_below_drewN | apply below_drew1) | exact HB.out)))); (case aL => have := LMc35.out; omega); intro v151 w37 ho hb hg hat; rw [← Ny150.out] at ho; have n0_ := Aside0.mk (Kd.V_afterv (ok := (fun k_ => (P0_ k_ ∨ w.heap.size ≤ k_))) (by (with_reducible repeat (first | apply Kd.V_alloc | apply Kd.V_drewN | apply Kd.V_drew)); exact HO_0.out) hg hat); have n1_ := Aside0.mk (Kd.V_afterv (ok := (fun k_ => (P0_ k_ ∨ w.heap.size ≤ k_))) (by (with_reducible repeat (first | apply Kd.V_alloc | apply Kd.V_drewN | apply Kd.V_drew)); exact HO149.out) hg hat); have n2_ := Aside0.mk (hb); have n3_ := Aside0.mk (ho); clear HO_0; clear HO149; clear HB; clear HO_3; have HO_0 := n0_; have HO149 := n1_; have HB := n2_; have HO152 := n3_; clear n0_ n1_ n2_ n3_; clear ho hb hg hat))
                                go_roundg k4
                                case measure => have := HK1.out; have := HJ2.out; have := HJ9.out; have := HK4.out; omega
                                case rel => exact ⟨(y150), (x6_4), (by first | rfl | (simp; done) | (simp [*]; done)), H', ⟨by have := HK1.out; have := HJ2.out; have := HJ9.out; have := HK4.out; omega⟩, ⟨by (with_reducible repeat (first | apply Kd.V_alloc | apply Kd.V_drewN | apply Kd.V_drew)); exact HO_0.out⟩, ⟨by (with_reducible repeat (first | apply Kd.N_alloc | apply Kd.N_drewN | apply Kd.N_drew)); exact HO152.out⟩, ⟨by repeat (first | (with_reducible first | exact HB.out | apply below_alloc | apply pw_below_drewN | apply below_drew1) | exact HB.out)⟩⟩
                              · rw [if_neg c35] at H
                                exact absurd H (by simp)
                            · rw [if_neg c34] at H
                              exact absurd H (by simp)
                          · rw [if_neg c33] at H
                            exact absurd H (by simp)
                        · rw [if_neg c32] at H
                          exact absurd H (by simp)
      · rw [if_neg c2] at H
        have c2b0 : decide (x4_1 < (l0.length : Int)) = false := decide_eq_false c2
        clear c2
        obtain rfl := Option.some.inj H
        go_wp2
        go_ret
        exact ⟨_, by first | rfl | (simp [errW_none, errW_some] <;> rfl) | (simp [*, errW_none, errW_some] <;> rfl), by (with_reducible repeat (first | apply Kd.N_alloc | apply Kd.N_drewN | apply Kd.N_drew)); exact HO_3.out, by repeat (first | (with_reducible first | exact HB.out | apply below_alloc | apply pw_below_drewN | apply below_drew1) | exact HB.out)⟩

-- NOT PRINTED: function 3 (amanuensislaw27_CutPieces)

-- NOT PRINTED: function 4 (amanuensislaw27_CutAll)

-- NOT PRINTED: function 5 (amanuensislaw27_CutSoon)

-- NOT PRINTED: function 6 (amanuensislaw27_CutNone)

end Go.Proofs.Ytmaehbdpmdgpaaa.PCut
