/- The walks of the codings: what the small helpers compute, each function once. Conditions: those that each theorem states. -/
import Derived.Test.YtkhnnbfgjfkfeaaGreatDoorProg
import Derived.Below
import Derived.Deep.Draws
import Derived.Deep.AppendLies
import Derived.Maps.AppendAt
import Derived.OwnWalk
import Derived.Laws.BytesArg
import Derived.Laws.MakeOwn
import Derived.Laws.OwnMore
import Derived.Deep.OwnRows
import Derived.Tactics
import Derived.Lib.ConvBytes
import Derived.Laws.Slices
import Derived.WalkKit
import Derived.KernelRfl
import Derived.RowKit3
import Derived.Deep.LoopGhost
import Derived.Deep.QuietTactic
import Derived.BigQuiet
import Derived.WideLaws
import Derived.Deep.DeepCutAuto
import Derived.Deep.CutBlock
import Derived.Deep.RegionHeld3
import Derived.Laws.Rows
import Derived.Lib.AppendStr
import Derived.ArgAppend
import Derived.Laws.IdiomCopy
import Derived.OrdersHeld
import Derived.Laws.BitsLemmas
import Derived.RowKit
import Derived.Test.YtkhnnbfgjfkfeaaGreatDoorKWa
import Derived.Test.YtkhnnbfgjfkfeaaGreatDoorKWb
import Derived.Laws.StructEq
section
namespace Go.Proofs.YtkhnnbfgjfkfeaaGreatDoor.PCod
open Go.RowKit Go.Proofs.YtkhnnbfgjfkfeaaGreatDoorW.PrintWords Go.Proofs.YtkhnnbfgjfkfeaaGreatDoorW.PrintLast Go.Proofs.YtkhnnbfgjfkfeaaGreatDoorW.PrintMore
attribute [local go_sem] max2_int min2_int max_two min_two max_three min_three max_four min_four   -- for this text's walks alone
set_option linter.unusedVariables false
set_option linter.unusedSimpArgs false

def errW : Option Int → Value
  | none => .nilIface
  | some c => .iface 0 (.int .i64 c)
theorem errW_none : errW none = .nilIface := rfl
theorem errW_some (c : Int) : errW (some c) = .iface 0 (.int .i64 c) := rfl

theorem info5 : (Tryz.prog.info? 5).map (fun i => (i.zero, i.size, i.bytes)) = some (some (.int .u8 0), 1, 1) := by kernel_rfl
/-! #### struct type 46 -/
structure S46 where
  f0 : ByteArray
  f1 : Int
  f2 : Int
def z46 : S46 := ⟨(⟨#[]⟩ : ByteArray), (0 : Int), (0 : Int)⟩
def k46 : Kd S46 := Kd.iso (Kd.pair Kd.string (Kd.pair (Kd.int .i64) (Kd.int .i64))) (fun x : S46 => (x.f0, x.f1, x.f2))
theorem k46_open {w : World} {x : S46} {cs : List Value} (h : k46.K w x cs) : cs = [.string x.f0, .int .i64 x.f1, .int .i64 x.f2] := by
  obtain ⟨_, _, rfl, rfl, ⟨_, _, rfl, rfl, rfl⟩⟩ := h
  exact rfl
theorem k46_mkM (w : World) (base : Nat) (ok : Nat → Prop) (x : S46)  : k46.M w base ok x [.string x.f0, .int .i64 x.f1, .int .i64 x.f2] := ⟨[.string x.f0], [.int .i64 x.f1, .int .i64 x.f2], rfl, rfl, ⟨[.int .i64 x.f1], [.int .i64 x.f2], rfl, rfl, rfl⟩⟩
def rd_T46 (xs : List S46) (i : Int) : S46 := xs.getD i.toNat z46
theorem at_T46 {w : World} {A : Option Addr} {n : Nat} {xs : List S46} (h : Kd.C k46 w A n xs) (i : Int) (h0 : 0 ≤ i) (h1 : i < n) : ∃ ad , A = some ad ∧ w.cell? (ad.add (i.toNat * 3)) = some (.string (rd_T46 xs i).f0) ∧ w.cell? ⟨(ad.add (i.toNat * 3)).block, (ad.add (i.toNat * 3)).off + 1, none⟩ = some (.int .i64 (rd_T46 xs i).f1) ∧ w.cell? ⟨(ad.add (i.toNat * 3)).block, (ad.add (i.toNat * 3)).off + 2, none⟩ = some (.int .i64 (rd_T46 xs i).f2) := by
  obtain ⟨ad, c, e, _, hK, hc0⟩ := Kd.C_get h z46 i h0 h1
  have hc : ∀ j u, c[j]? = some u → w.cell? (ad.add (i.toNat * 3 + j)) = some u := hc0
  obtain rfl := k46_open hK
  exact ⟨ad, e, hc 0 _ rfl, by rw [← add_field _ _ 1 (by omega)]; exact hc 1 _ rfl, by rw [← add_field _ _ 2 (by omega)]; exact hc 2 _ rfl⟩

end Go.Proofs.YtkhnnbfgjfkfeaaGreatDoor.PCod
end
section
namespace Go.Proofs.YtkhnnbfgjfkfeaaGreatDoor.PCod
open Go.RowKit Go.Proofs.YtkhnnbfgjfkfeaaGreatDoorW.PrintWords Go.Proofs.YtkhnnbfgjfkfeaaGreatDoorW.PrintLast Go.Proofs.YtkhnnbfgjfkfeaaGreatDoorW.PrintMore
attribute [local go_sem] max2_int min2_int max_two min_two max_three min_three max_four min_four   -- for this text's walks alone
set_option linter.unusedVariables false
set_option linter.unusedSimpArgs false

/-! ### amanuensisref19_at: function 17 -/
mutual
def amanuensisref19_at.j0 : Nat → Int → Int → Bool → Bool → Option (Bool)
  | 0, _, _, _, _ => none
  | k + 1, x0, x1, x2, x16 => if x16 = true then (if x2 = true then (some true) else (if x1 ≥ 48 then (some (decide (x1 ≤ 57))) else (some false))) else (if x0 = 9 then (if x1 = 32 then (some true) else (some (x1 == 97))) else (if x0 = 10 then (amanuensisref19_at.j1 k x1 x0 (x0 == 10)) else (amanuensisref19_at.j1 k x1 x0 (x0 == 11))))
def amanuensisref19_at.j1 : Nat → Int → Int → Bool → Option (Bool)
  | 0, _, _, _ => none
  | k + 1, x1, x26, x35 => if x35 = true then (some (x1 == 50)) else (if x26 = 20 then (some (x1 == 52)) else (if x26 = 21 then (some (x1 == 53)) else (if x26 = 22 then (some (x1 == 48)) else (if x26 = 23 then (some (x1 == 48)) else (if x1 ≥ 32 then (some (decide (x1 ≤ 126))) else (some false))))))
end
def amanuensisref19_at.f (k : Nat) (a0 : Int) (a1 : Int) (a2 : Bool) : Option (Bool) := if a0 < 5 then (amanuensisref19_at.j0 k a0 a1 a2 true) else (if a0 ≥ 12 then (amanuensisref19_at.j0 k a0 a1 a2 (decide (a0 < 17))) else (amanuensisref19_at.j0 k a0 a1 a2 false))
theorem amanuensisref19_at.mono_l : ∀ k, (∀ y0 y1 y2 y3, LeO (amanuensisref19_at.j0 k y0 y1 y2 y3) (amanuensisref19_at.j0 (k + 1) y0 y1 y2 y3)) ∧ (∀ y0 y1 y2, LeO (amanuensisref19_at.j1 k y0 y1 y2) (amanuensisref19_at.j1 (k + 1) y0 y1 y2))
  | 0 => ⟨fun _ _ _ _ r h => by simp [amanuensisref19_at.j0] at h, fun _ _ _ r h => by simp [amanuensisref19_at.j1] at h⟩
  | k + 1 => by
    obtain ⟨ih0, ih1⟩ := amanuensisref19_at.mono_l k
    refine ⟨?_, ?_⟩
    · intro y0 y1 y2 y3
      unfold amanuensisref19_at.j0
      repeat' first
      | (with_reducible exact ih0 _ _ _ _)
      | (with_reducible exact ih1 _ _ _)
      | (with_reducible exact LeO.refl _)
      | (with_reducible exact LeO.none _)
      | (with_reducible refine LeO.ite ?_ ?_)
      | (with_reducible refine LeO.bind ?_ (fun _ => ?_))
      | exact ih0 _ _ _ _
      | exact ih1 _ _ _
      | exact LeO.none _
      | refine LeO.ite ?_ ?_
      | refine LeO.bind ?_ (fun _ => ?_)
    · intro y0 y1 y2
      unfold amanuensisref19_at.j1
      repeat' first
      | (with_reducible exact ih0 _ _ _ _)
      | (with_reducible exact ih1 _ _ _)
      | (with_reducible exact LeO.refl _)
      | (with_reducible exact LeO.none _)
      | (with_reducible refine LeO.ite ?_ ?_)
      | (with_reducible refine LeO.bind ?_ (fun _ => ?_))
      | exact ih0 _ _ _ _
      | exact ih1 _ _ _
      | exact LeO.none _
      | refine LeO.ite ?_ ?_
      | refine LeO.bind ?_ (fun _ => ?_)
theorem amanuensisref19_at.mono : ∀ a0 a1 a2 k, LeO (amanuensisref19_at.f k a0 a1 a2) (amanuensisref19_at.f (k + 1) a0 a1 a2) := by
  intro a0 a1 a2 k
  obtain ⟨ih0, ih1⟩ := amanuensisref19_at.mono_l k
  unfold amanuensisref19_at.f
  repeat' first
      | (with_reducible exact ih0 _ _ _ _)
      | (with_reducible exact ih1 _ _ _)
      | (with_reducible exact LeO.refl _)
      | (with_reducible exact LeO.none _)
      | (with_reducible refine LeO.ite ?_ ?_)
      | (with_reducible refine LeO.bind ?_ (fun _ => ?_))
      | exact ih0 _ _ _ _
      | exact ih1 _ _ _
      | exact LeO.none _
      | refine LeO.ite ?_ ?_
      | refine LeO.bind ?_ (fun _ => ?_)
set_option maxHeartbeats 8000000 in
set_option maxRecDepth 100000 in
theorem amanuensisref19_at.calls (k : Nat) (a0 : Int) (a1 : Int) (a2 : Bool) (r : Bool) (w : World) (h : amanuensisref19_at.f k a0 a1 a2 = some r) :
    Calls Tryz.prog 17 #[.int .i64 a0, .int .u8 a1, .bool a2] w fun e w' => e = .returned (.bool r) ∧ Drawn0 w w' := by
  have H : (if a0 < 5 then (amanuensisref19_at.j0 k a0 a1 a2 true) else (if a0 ≥ 12 then (amanuensisref19_at.j0 k a0 a1 a2 (decide (a0 < 17))) else (amanuensisref19_at.j0 k a0 a1 a2 false))) = some r := h
  clear h
  have HC4 := Aside0.mk H
  clear H
  go_enter Tryz.func17, Tryz.ntmps17
  go_upto_region 1 with (fail)
  go_cut [16] (fun v16 wc => ∃ (kq : Nat) (x16_3 : Bool), v16 = .bool x16_3 ∧ Aside0 (amanuensisref19_at.j0 kq a0 a1 a2 x16_3 = some r) ∧ Aside0 (kq ≤ k) ∧ Drawn0 w wc)
  case first =>
    have H := HC4.out
    clear HC4
    by_cases c5 : a0 < 5
    · rw [if_pos c5] at H
      have c5b0 : decide (a0 < 5) = true := decide_eq_true c5
      clear c5
      (first | rw [c5b0] | (simp only [i64_w, i32_w]; rw [c5b0]) | skip)
      have H' := Aside0.mk H
      clear H
      go_wp2
      go_meet
      case rel => exact ⟨_, (true), (by first | rfl | (simp; done) | (simp [*]; done)), H', ⟨by first | omega | exact Nat.le_refl _⟩, by repeat (first | exact Drawn0.refl _ | apply Drawn0.step)⟩
    · rw [if_neg c5] at H
      have c5b0 : decide (a0 < 5) = false := decide_eq_false c5
      clear c5
      (first | rw [c5b0] | (simp only [i64_w, i32_w]; rw [c5b0]) | skip)
      by_cases c6 : a0 ≥ 12
      · rw [if_pos c6] at H
        have c6b0 : decide (12 ≤ a0) = true := decide_eq_true c6
        clear c6
        have H' := Aside0.mk H
        clear H
        go_wp2
        go_meet
        case rel => exact ⟨_, (decide (a0 < 17)), (by first | rfl | (simp; done) | (simp [*]; done)), H', ⟨by first | omega | exact Nat.le_refl _⟩, by repeat (first | exact Drawn0.refl _ | apply Drawn0.step)⟩
      · rw [if_neg c6] at H
        have c6b0 : decide (12 ≤ a0) = false := decide_eq_false c6
        clear c6
        have H' := Aside0.mk H
        clear H
        go_wp2
        go_meet
        case rel => exact ⟨_, (false), (by first | rfl | (simp; done) | (simp [*]; done)), H', ⟨by first | omega | exact Nat.le_refl _⟩, by repeat (first | exact Drawn0.refl _ | apply Drawn0.step)⟩
  case rest =>
    clear HC4
    try clear c1
    try clear p2
    try clear c5
    try clear c5b0
    try clear c6
    try clear c6b0
    obtain ⟨kq, x16_3, rfl, HA, HJ3, ⟨mc3, rfl⟩⟩ := hcut
    cases kq with
    | zero => exact absurd HA.out (by simp [amanuensisref19_at.j0])
    | succ kj3 =>
      have H := HA.out
      clear HA
      simp only [amanuensisref19_at.j0] at H
      by_cases c7 : x16_3 = true
      · subst c7
        have H1 : (if a2 = true then (some true) else (if a1 ≥ 48 then (some (decide (a1 ≤ 57))) else (some false))) = some r := by rw [if_pos rfl] at H; exact H
        clear H
        have H := H1
        clear H1
        by_cases c8 : a2 = true
        · subst c8
          have H1 : (some true) = some r := by rw [if_pos rfl] at H; exact H
          clear H
          have H := H1
          clear H1
          obtain rfl := Option.some.inj H
          go_wp2
          go_ret
          exact ⟨by first | rfl | (simp; done) | (simp [*]; done), by repeat (first | exact Drawn0.refl _ | apply Drawn0.step)⟩
        · replace c8 := Bool.eq_false_iff.mpr c8
          subst c8
          have H1 : (if a1 ≥ 48 then (some (decide (a1 ≤ 57))) else (some false)) = some r := by rw [if_neg (show ¬ (false = true) by decide)] at H; exact H
          clear H
          have H := H1
          clear H1
          by_cases c9 : a1 ≥ 48
          · rw [if_pos c9] at H
            have c9b0 : decide (48 ≤ a1) = true := decide_eq_true c9
            clear c9
            obtain rfl := Option.some.inj H
            go_wp2
            go_ret
            exact ⟨by first | rfl | (simp; done) | (simp [*]; done), by repeat (first | exact Drawn0.refl _ | apply Drawn0.step)⟩
          · rw [if_neg c9] at H
            have c9b0 : decide (48 ≤ a1) = false := decide_eq_false c9
            clear c9
            obtain rfl := Option.some.inj H
            go_wp2
            go_ret
            exact ⟨by first | rfl | (simp; done) | (simp [*]; done), by repeat (first | exact Drawn0.refl _ | apply Drawn0.step)⟩
      · replace c7 := Bool.eq_false_iff.mpr c7
        subst c7
        have H1 : (if a0 = 9 then (if a1 = 32 then (some true) else (some (a1 == 97))) else (if a0 = 10 then (amanuensisref19_at.j1 kj3 a1 a0 (a0 == 10)) else (amanuensisref19_at.j1 kj3 a1 a0 (a0 == 11)))) = some r := by rw [if_neg (show ¬ (false = true) by decide)] at H; exact H
        clear H
        have H := H1
        clear H1
        by_cases c10 : a0 = 9
        · rw [if_pos c10] at H
          have c10b0 : (a0 == 9) = true := beq_iff_eq.mpr c10
          have c10b1 : (a0 != 9) = false := bne_eq_false_iff_eq.mpr c10
          clear c10
          by_cases c11 : a1 = 32
          · rw [if_pos c11] at H
            have c11b0 : (a1 == 32) = true := beq_iff_eq.mpr c11
            have c11b1 : (a1 != 32) = false := bne_eq_false_iff_eq.mpr c11
            clear c11
            obtain rfl := Option.some.inj H
            go_wp2
            go_ret
            exact ⟨by first | rfl | (simp; done) | (simp [*]; done), by repeat (first | exact Drawn0.refl _ | apply Drawn0.step)⟩
          · rw [if_neg c11] at H
            have c11b0 : (a1 == 32) = false := beq_eq_false_iff_ne.mpr c11
            have c11b1 : (a1 != 32) = true := bne_iff_ne.mpr c11
            obtain rfl := Option.some.inj H
            go_wp2
            go_ret
            exact ⟨by first | rfl | (simp; done) | (simp [*]; done), by repeat (first | exact Drawn0.refl _ | apply Drawn0.step)⟩
        · rw [if_neg c10] at H
          have c10b0 : (a0 == 9) = false := beq_eq_false_iff_ne.mpr c10
          have c10b1 : (a0 != 9) = true := bne_iff_ne.mpr c10
          have HC12 := Aside0.mk H
          clear H
          go_upto_if 35 with (fail)
          go_cut [35] (fun v35 wc => ∃ (kq : Nat) (x35_11 : Bool), v35 = .bool x35_11 ∧ Aside0 (amanuensisref19_at.j1 kq a1 a0 x35_11 = some r) ∧ Aside0 (kq ≤ kj3) ∧ Drawn0 w wc)
          case first =>
            have H := HC12.out
            clear HC12
            by_cases c13 : a0 = 10
            · rw [if_pos c13] at H
              have c13b0 : (a0 == 10) = true := beq_iff_eq.mpr c13
              have c13b1 : (a0 != 10) = false := bne_eq_false_iff_eq.mpr c13
              clear c13
              (first | rw [c13b0] | (simp only [i64_w, i32_w]; rw [c13b0]) | skip)
              have H' := Aside0.mk H
              clear H
              go_wp2
              go_meet
              case rel => exact ⟨_, ((a0 == 10)), (by first | rfl | (simp; done) | (simp [*]; done)), H', ⟨by have := HJ3.out; first | omega | exact Nat.le_refl _⟩, by repeat (first | exact Drawn0.refl _ | apply Drawn0.step)⟩
            · rw [if_neg c13] at H
              have c13b0 : (a0 == 10) = false := beq_eq_false_iff_ne.mpr c13
              have c13b1 : (a0 != 10) = true := bne_iff_ne.mpr c13
              (first | rw [c13b0] | (simp only [i64_w, i32_w]; rw [c13b0]) | skip)
              have H' := Aside0.mk H
              clear H
              go_wp2
              go_meet
              case rel => exact ⟨_, ((a0 == 11)), (by first | rfl | (simp; done) | (simp [*]; done)), H', ⟨by have := HJ3.out; first | omega | exact Nat.le_refl _⟩, by repeat (first | exact Drawn0.refl _ | apply Drawn0.step)⟩
          case rest =>
            clear HC12
            try clear c1
            try clear p2
            try clear c3
            try clear c5
            try clear c5b0
            try clear c6
            try clear c6b0
            try clear c7
            try clear c8
            try clear c9
            try clear c9b0
            try clear c10
            try clear c10b0
            try clear c10b1
            try clear c11
            try clear c11b0
            try clear c11b1
            try clear c13
            try clear c13b0
            try clear c13b1
            try clear p2
            obtain ⟨kq, x35_11, rfl, HA, HJ11, ⟨mc11, rfl⟩⟩ := hcut
            cases kq with
            | zero => exact absurd HA.out (by simp [amanuensisref19_at.j1])
            | succ kj11 =>
              have H := HA.out
              clear HA
              simp only [amanuensisref19_at.j1] at H
              by_cases c14 : x35_11 = true
              · subst c14
                have H1 : (some (a1 == 50)) = some r := by rw [if_pos rfl] at H; exact H
                clear H
                have H := H1
                clear H1
                obtain rfl := Option.some.inj H
                go_wp2
                go_ret
                exact ⟨by first | rfl | (simp; done) | (simp [*]; done), by repeat (first | exact Drawn0.refl _ | apply Drawn0.step)⟩
              · replace c14 := Bool.eq_false_iff.mpr c14
                subst c14
                have H1 : (if a0 = 20 then (some (a1 == 52)) else (if a0 = 21 then (some (a1 == 53)) else (if a0 = 22 then (some (a1 == 48)) else (if a0 = 23 then (some (a1 == 48)) else (if a1 ≥ 32 then (some (decide (a1 ≤ 126))) else (some false)))))) = some r := by rw [if_neg (show ¬ (false = true) by decide)] at H; exact H
                clear H
                have H := H1
                clear H1
                by_cases c15 : a0 = 20
                · rw [if_pos c15] at H
                  have c15b0 : (a0 == 20) = true := beq_iff_eq.mpr c15
                  have c15b1 : (a0 != 20) = false := bne_eq_false_iff_eq.mpr c15
                  clear c15
                  obtain rfl := Option.some.inj H
                  go_wp2
                  go_ret
                  exact ⟨by first | rfl | (simp; done) | (simp [*]; done), by repeat (first | exact Drawn0.refl _ | apply Drawn0.step)⟩
                · rw [if_neg c15] at H
                  have c15b0 : (a0 == 20) = false := beq_eq_false_iff_ne.mpr c15
                  have c15b1 : (a0 != 20) = true := bne_iff_ne.mpr c15
                  by_cases c16 : a0 = 21
                  · rw [if_pos c16] at H
                    have c16b0 : (a0 == 21) = true := beq_iff_eq.mpr c16
                    have c16b1 : (a0 != 21) = false := bne_eq_false_iff_eq.mpr c16
                    clear c16
                    obtain rfl := Option.some.inj H
                    go_wp2
                    go_ret
                    exact ⟨by first | rfl | (simp; done) | (simp [*]; done), by repeat (first | exact Drawn0.refl _ | apply Drawn0.step)⟩
                  · rw [if_neg c16] at H
                    have c16b0 : (a0 == 21) = false := beq_eq_false_iff_ne.mpr c16
                    have c16b1 : (a0 != 21) = true := bne_iff_ne.mpr c16
                    by_cases c17 : a0 = 22
                    · rw [if_pos c17] at H
                      have c17b0 : (a0 == 22) = true := beq_iff_eq.mpr c17
                      have c17b1 : (a0 != 22) = false := bne_eq_false_iff_eq.mpr c17
                      clear c17
                      obtain rfl := Option.some.inj H
                      go_wp2
                      go_ret
                      exact ⟨by first | rfl | (simp; done) | (simp [*]; done), by repeat (first | exact Drawn0.refl _ | apply Drawn0.step)⟩
                    · rw [if_neg c17] at H
                      have c17b0 : (a0 == 22) = false := beq_eq_false_iff_ne.mpr c17
                      have c17b1 : (a0 != 22) = true := bne_iff_ne.mpr c17
                      by_cases c18 : a0 = 23
                      · rw [if_pos c18] at H
                        have c18b0 : (a0 == 23) = true := beq_iff_eq.mpr c18
                        have c18b1 : (a0 != 23) = false := bne_eq_false_iff_eq.mpr c18
                        clear c18
                        obtain rfl := Option.some.inj H
                        go_wp2
                        go_ret
                        exact ⟨by first | rfl | (simp; done) | (simp [*]; done), by repeat (first | exact Drawn0.refl _ | apply Drawn0.step)⟩
                      · rw [if_neg c18] at H
                        have c18b0 : (a0 == 23) = false := beq_eq_false_iff_ne.mpr c18
                        have c18b1 : (a0 != 23) = true := bne_iff_ne.mpr c18
                        by_cases c19 : a1 ≥ 32
                        · rw [if_pos c19] at H
                          have c19b0 : decide (32 ≤ a1) = true := decide_eq_true c19
                          clear c19
                          obtain rfl := Option.some.inj H
                          go_wp2
                          go_ret
                          exact ⟨by first | rfl | (simp; done) | (simp [*]; done), by repeat (first | exact Drawn0.refl _ | apply Drawn0.step)⟩
                        · rw [if_neg c19] at H
                          have c19b0 : decide (32 ≤ a1) = false := decide_eq_false c19
                          clear c19
                          obtain rfl := Option.some.inj H
                          go_wp2
                          go_ret
                          exact ⟨by first | rfl | (simp; done) | (simp [*]; done), by repeat (first | exact Drawn0.refl _ | apply Drawn0.step)⟩

/-! ### amanuensisref19_num: function 18 -/
def amanuensisref19_num.l0 : Nat → List Int → Int → Int → Option (Int)
  | 0, _, _, _ => none
  | k + 1, x0, x3, x4 => if x4 < (x0.length : Int) then (if 0 ≤ x4 then (if (rd x0 x4) < 48 then (some (-1)) else (if (rd x0 x4) > 57 then (some (-1)) else (amanuensisref19_num.l0 k x0 (wrap64 ((wrap64 (10 * x3)) + (((rd x0 x4) - 48) % 256))) (wrap64 (x4 + 1))))) else (none)) else (some x3)
def amanuensisref19_num.f (k : Nat) (l0 : List Int) : Option (Int) := amanuensisref19_num.l0 k l0 0 0
theorem amanuensisref19_num.mono_l : ∀ k, (∀ y0 y1 y2, LeO (amanuensisref19_num.l0 k y0 y1 y2) (amanuensisref19_num.l0 (k + 1) y0 y1 y2))
  | 0 => fun _ _ _ r h => by simp [amanuensisref19_num.l0] at h
  | k + 1 => by
    have ih0 := amanuensisref19_num.mono_l k
    · intro y0 y1 y2
      unfold amanuensisref19_num.l0
      repeat' first
      | (with_reducible exact ih0 _ _ _)
      | (with_reducible exact LeO.refl _)
      | (with_reducible exact LeO.none _)
      | (with_reducible refine LeO.ite ?_ ?_)
      | (with_reducible refine LeO.bind ?_ (fun _ => ?_))
      | exact ih0 _ _ _
      | exact LeO.none _
      | refine LeO.ite ?_ ?_
      | refine LeO.bind ?_ (fun _ => ?_)
theorem amanuensisref19_num.mono : ∀ a0 k, LeO (amanuensisref19_num.f k a0) (amanuensisref19_num.f (k + 1) a0) := by
  intro a0 k
  have ih0 := amanuensisref19_num.mono_l k
  unfold amanuensisref19_num.f
  repeat' first
      | (with_reducible exact ih0 _ _ _)
      | (with_reducible exact LeO.refl _)
      | (with_reducible exact LeO.none _)
      | (with_reducible refine LeO.ite ?_ ?_)
      | (with_reducible refine LeO.bind ?_ (fun _ => ?_))
      | exact ih0 _ _ _
      | exact LeO.none _
      | refine LeO.ite ?_ ?_
      | refine LeO.bind ?_ (fun _ => ?_)
set_option maxHeartbeats 8000000 in
set_option maxRecDepth 100000 in
theorem amanuensisref19_num.calls (k : Nat) (A0 : Option Addr) (c0 : Nat) (l0 : List Int) (r : Int) (w : World) (hr0 : Kd.C (Kd.int .u8) w A0 l0.length l0) (hc0 : l0.length ≤ c0) (h : amanuensisref19_num.f k l0 = some r) :
    Calls Tryz.prog 18 #[.slice A0 l0.length c0] w fun e w' => e = .returned (.int .i64 r) ∧ Drawn0 w w' := by
  have HR0 := Aside0.mk hr0
  have HC0 := Aside0.mk hc0
  clear hr0 hc0
  have H : (amanuensisref19_num.l0 k l0 0 0) = some r := h
  clear h
  have H' := Aside0.mk H
  clear H
  go_enter Tryz.func18, Tryz.ntmps18
  go_wp2
  go_loopg [3, 4] k (fun kq v3 v4 w' => ∃ (x3_1 : Int) (x4_1 : Int), v3 = .int .i64 x3_1 ∧ v4 = .int .i64 x4_1 ∧ Aside0 (amanuensisref19_num.l0 kq l0 x3_1 x4_1 = some r) ∧ Aside0 (kq ≤ k) ∧ Drawn0 w w')
  case atStart => exact ⟨(0), (0), (by first | rfl | (simp; done) | (simp [*]; done)), (by first | rfl | (simp; done) | (simp [*]; done)), H', ⟨Nat.le_refl _⟩, by repeat (first | exact Drawn0.refl _ | apply Drawn0.step)⟩
  case round =>
    clear H'
    try clear c1
    obtain ⟨x3_1, x4_1, rfl, rfl, HA, HK1, ⟨m1, rfl⟩⟩ := hrel
    cases gk with
    | zero => exact absurd HA.out (by simp [amanuensisref19_num.l0])
    | succ k1 =>
      have H := HA.out
      clear HA
      simp only [amanuensisref19_num.l0] at H
      by_cases c2 : x4_1 < (l0.length : Int)
      · rw [if_pos c2] at H
        have c2b0 : decide (x4_1 < (l0.length : Int)) = true := decide_eq_true c2
        clear c2
        by_cases c3 : 0 ≤ x4_1
        · rw [if_pos c3] at H
          have c3b0 : decide (0 ≤ x4_1) = true := decide_eq_true c3
          clear c3
          by_cases c4 : (rd l0 x4_1) < 48
          · rw [if_pos c4] at H
            have c4b0 : decide ((rd l0 x4_1) < 48) = true := decide_eq_true c4
            clear c4
            obtain rfl := Option.some.inj H
            have p101 : 0 ≤ (x4_1 : Int) := of_decide_eq_true (by first | (with_reducible assumption) | assumption)
            have q101 : x4_1 < (l0.length : Int) := of_decide_eq_true (by first | (with_reducible assumption) | assumption)
            obtain ⟨ad101, e101, hx101_0⟩ := Kd.at_int HR0.out x4_1 p101 q101
            cases e101
            replace p101 := eq_true p101
            replace q101 := eq_true q101
            go_wp2
            go_ret
            exact ⟨by first | rfl | (simp; done) | (simp [*]; done), by repeat (first | exact Drawn0.refl _ | apply Drawn0.step)⟩
          · rw [if_neg c4] at H
            have c4b0 : decide ((rd l0 x4_1) < 48) = false := decide_eq_false c4
            clear c4
            by_cases c5 : (rd l0 x4_1) > 57
            · rw [if_pos c5] at H
              have c5b0 : decide (57 < (rd l0 x4_1)) = true := decide_eq_true c5
              clear c5
              obtain rfl := Option.some.inj H
              have p101 : 0 ≤ (x4_1 : Int) := of_decide_eq_true (by first | (with_reducible assumption) | assumption)
              have q101 : x4_1 < (l0.length : Int) := of_decide_eq_true (by first | (with_reducible assumption) | assumption)
              obtain ⟨ad101, e101, hx101_0⟩ := Kd.at_int HR0.out x4_1 p101 q101
              cases e101
              replace p101 := eq_true p101
              replace q101 := eq_true q101
              have p102 : 0 ≤ (x4_1 : Int) := of_decide_eq_true (by first | (with_reducible assumption) | assumption)
              have q102 : x4_1 < (l0.length : Int) := of_decide_eq_true (by first | (with_reducible assumption) | assumption)
              obtain ⟨ad102, e102, hx102_0⟩ := Kd.at_int HR0.out x4_1 p102 q102
              obtain rfl : ad101 = ad102 := (by injection e102)
              replace p102 := eq_true p102
              replace q102 := eq_true q102
              go_wp2
              go_ret
              exact ⟨by first | rfl | (simp; done) | (simp [*]; done), by repeat (first | exact Drawn0.refl _ | apply Drawn0.step)⟩
            · rw [if_neg c5] at H
              have c5b0 : decide (57 < (rd l0 x4_1)) = false := decide_eq_false c5
              clear c5
              have H' := Aside0.mk H
              clear H
              have p101 : 0 ≤ (x4_1 : Int) := of_decide_eq_true (by first | (with_reducible assumption) | assumption)
              have q101 : x4_1 < (l0.length : Int) := of_decide_eq_true (by first | (with_reducible assumption) | assumption)
              obtain ⟨ad101, e101, hx101_0⟩ := Kd.at_int HR0.out x4_1 p101 q101
              cases e101
              replace p101 := eq_true p101
              replace q101 := eq_true q101
              have p102 : 0 ≤ (x4_1 : Int) := of_decide_eq_true (by first | (with_reducible assumption) | assumption)
              have q102 : x4_1 < (l0.length : Int) := of_decide_eq_true (by first | (with_reducible assumption) | assumption)
              obtain ⟨ad102, e102, hx102_0⟩ := Kd.at_int HR0.out x4_1 p102 q102
              obtain rfl : ad101 = ad102 := (by injection e102)
              replace p102 := eq_true p102
              replace q102 := eq_true q102
              have p103 : 0 ≤ (x4_1 : Int) := of_decide_eq_true (by first | (with_reducible assumption) | assumption)
              have q103 : x4_1 < (l0.length : Int) := of_decide_eq_true (by first | (with_reducible assumption) | assumption)
              obtain ⟨ad103, e103, hx103_0⟩ := Kd.at_int HR0.out x4_1 p103 q103
              obtain rfl : ad101 = ad103 := (by injection e103)
              replace p103 := eq_true p103
              replace q103 := eq_true q103
              go_wp2
              go_roundg k1
              case measure => have := HK1.out; omega
              case rel => exact ⟨(wrap64 ((wrap64 (10 * x3_1)) + (((rd l0 x4_1) - 48) % 256))), (wrap64 (x4_1 + 1)), (by first | rfl | (simp; done) | (simp [*]; done)), (by first | rfl | (simp; done) | (simp [*]; done)), H', ⟨by have := HK1.out; omega⟩, by repeat (first | exact Drawn0.refl _ | apply Drawn0.step)⟩
        · rw [if_neg c3] at H
          exact absurd H (by simp)
      · rw [if_neg c2] at H
        have c2b0 : decide (x4_1 < (l0.length : Int)) = false := decide_eq_false c2
        clear c2
        obtain rfl := Option.some.inj H
        go_wp2
        go_ret
        exact ⟨by first | rfl | (simp; done) | (simp [*]; done), by repeat (first | exact Drawn0.refl _ | apply Drawn0.step)⟩

/-! ### amanuensisref19_Leader: function 10 -/
def amanuensisref19_Leader.l0 : Nat → List Int → Int → Option (Int × Int × Int × Int)
  | 0, _, _ => none
  | k + 1, x0, x5 => if x5 < 24 then (if x5 = (x0.length : Int) then (some (0, 0, 10, x5)) else (if 0 ≤ x5 then (if x5 < (x0.length : Int) then ((amanuensisref19_at.f k x5 (rd x0 x5) false).bind fun t106 => (if t106 = true then (amanuensisref19_Leader.l0 k x0 (wrap64 (x5 + 1))) else (some (0, 0, 10, x5)))) else (none)) else (none))) else (if 5 ≤ (x0.length : Int) then ((amanuensisref19_num.f k (x0.take 5)).bind fun t108 => (if 12 ≤ 17 then (if 17 ≤ (x0.length : Int) then ((amanuensisref19_num.f k ((x0.take 17).drop 12)).bind fun t110 => (some (t108, t110, 0, 0))) else (none)) else (none))) else (none))
def amanuensisref19_Leader.f (k : Nat) (l0 : List Int) : Option (Int × Int × Int × Int) := amanuensisref19_Leader.l0 k l0 0
theorem amanuensisref19_Leader.mono_l : ∀ k, (∀ y0 y1, LeO (amanuensisref19_Leader.l0 k y0 y1) (amanuensisref19_Leader.l0 (k + 1) y0 y1))
  | 0 => fun _ _ r h => by simp [amanuensisref19_Leader.l0] at h
  | k + 1 => by
    have ih0 := amanuensisref19_Leader.mono_l k
    · intro y0 y1
      unfold amanuensisref19_Leader.l0
      repeat' first
      | (with_reducible exact ih0 _ _)
      | (with_reducible exact amanuensisref19_at.mono _ _ _ _)
      | (with_reducible exact amanuensisref19_num.mono _ _)
      | (with_reducible exact LeO.refl _)
      | (with_reducible exact LeO.none _)
      | (with_reducible refine LeO.ite ?_ ?_)
      | (with_reducible refine LeO.bind ?_ (fun _ => ?_))
      | exact ih0 _ _
      | exact amanuensisref19_at.mono _ _ _ _
      | exact amanuensisref19_num.mono _ _
      | exact LeO.none _
      | refine LeO.ite ?_ ?_
      | refine LeO.bind ?_ (fun _ => ?_)
theorem amanuensisref19_Leader.mono : ∀ a0 k, LeO (amanuensisref19_Leader.f k a0) (amanuensisref19_Leader.f (k + 1) a0) := by
  intro a0 k
  have ih0 := amanuensisref19_Leader.mono_l k
  unfold amanuensisref19_Leader.f
  repeat' first
      | (with_reducible exact ih0 _ _)
      | (with_reducible exact amanuensisref19_at.mono _ _ _ _)
      | (with_reducible exact amanuensisref19_num.mono _ _)
      | (with_reducible exact LeO.refl _)
      | (with_reducible exact LeO.none _)
      | (with_reducible refine LeO.ite ?_ ?_)
      | (with_reducible refine LeO.bind ?_ (fun _ => ?_))
      | exact ih0 _ _
      | exact amanuensisref19_at.mono _ _ _ _
      | exact amanuensisref19_num.mono _ _
      | exact LeO.none _
      | refine LeO.ite ?_ ?_
      | refine LeO.bind ?_ (fun _ => ?_)
def amanuensisref19_Leader.T6 : Bool × List (List Nat × List Nat) := (true, [([], []), ([0], [0]), ([1], [1]), ([], []), ([3], [3]), ([4, 2], [4]), ([], []), ([2, 5, 0, 1, 2], [2]), ([5, 7, 0, 1, 2, 3, 4, 5, 7], [5]), ([6, 8, 0, 1, 2, 3, 4, 5, 6, 7, 8], [6])])
def amanuensisref19_Leader.B6 : List Nat := [0, 1, 3, 0, 8, 31, 0, 63, 191, 511]
theorem amanuensisref19_Leader.tab6 : rtab .any (opsOf Tryz.f10 6) = amanuensisref19_Leader.T6 := by kernel_rfl
theorem amanuensisref19_Leader.bits6 : waitsOk amanuensisref19_Leader.T6.2 amanuensisref19_Leader.B6 = true := by kernel_rfl
set_option maxHeartbeats 8000000 in
set_option maxRecDepth 100000 in
theorem amanuensisref19_Leader.calls (k : Nat) (A0 : Option Addr) (c0 : Nat) (l0 : List Int) (r1 : Int) (r2 : Int) (r3 : Int) (r4 : Int) (w : World) (hr0 : Kd.C (Kd.int .u8) w A0 l0.length l0) (hc0 : l0.length ≤ c0) (h : amanuensisref19_Leader.f k l0 = some (r1, r2, r3, r4)) :
    Calls Tryz.prog 10 #[.slice A0 l0.length c0] w fun e w' => e = .returned (.tuple #[.int .i64 r1, .int .i64 r2, .agg #[.int .i64 r3, .int .i64 r4]]) ∧ Below w.heap.size w w' := by
  have hu31 := Tryz.underlying31
  have HR0 := Aside0.mk hr0
  have HC0 := Aside0.mk hc0
  clear hr0 hc0
  have HB := Aside0.mk (Below.refl w.heap.size w)
  have H : (amanuensisref19_Leader.l0 k l0 0) = some (r1, r2, r3, r4) := h
  clear h
  have H' := Aside0.mk H
  clear H
  go_enter Tryz.func10, Tryz.ntmps10
  go_wp2_with (first | ((with_reducible refine gate_dst (N := 4) rfl ?_); refine box_event ?hg (N := 4) ?hd (cs := #[.int .i64 0, .int .i64 0]) (t := 31) ?hr ?_; (case hd => rfl); (case hg => rfl); (case hr => first | (go_simp; done) | (go_simp; rfl)); intro gb104 hg w2 hbox hb; have n0_ := Aside0.mk (below_step (by repeat (first | (with_reducible first | exact HB.out | apply below_alloc | apply pw_below_drewN | apply below_drew1) | exact HB.out)) hb); have n1_ := Aside0.mk (hbox); have n2_ := Aside0.mk ((by rw [hg]; exact (below_size (by repeat (first | (with_reducible first | exact HB.out | apply below_alloc | apply pw_below_drewN | apply below_drew1) | exact HB.out))) : w.heap.size ≤ gb104)); have n3_ := Aside0.mk ((by rw [hg]; exact (below_size (by repeat (first | (with_reducible first | exact HB.out | apply below_alloc | apply pw_below_drewN | apply below_drew1) | exact HB.out))) : w.heap.size ≤ gb104)); clear HB; have HB := n0_; have BK104 := n1_; have GW104 := n2_; have GE104 := n3_; clear n0_ n1_ n2_ n3_; clear hb hbox hg))
  go_loopg [5] k (fun kq v5 w' => ∃ (x5_1 : Int) (x105000_1 : Int) (x105001_1 : Int), v5 = .int .i64 x5_1 ∧ Aside0 (amanuensisref19_Leader.l0 kq l0 x5_1 = some (r1, r2, r3, r4)) ∧ Aside0 (kq ≤ k) ∧ Aside0 (w'.heap[gb104]? = some (.cells #[.int .i64 x105000_1, .int .i64 x105001_1] 31 (0, 0))) ∧ Aside0 (Below w.heap.size w w'))
  case atStart => exact ⟨(0), (0), (0), (by first | rfl | (simp; done) | (simp [*]; done)), H', ⟨Nat.le_refl _⟩, ⟨by (with_reducible repeat (first | refine blk_drewN ?_ _ | refine blk_drew ?_ | refine blk_alloc ?_ _)); exact BK104.out⟩, ⟨by repeat (first | (with_reducible first | exact HB.out | apply below_alloc | apply pw_below_drewN | apply below_drew1 | refine below_set ?_ GE104.out) | exact HB.out)⟩⟩
  case round =>
    clear H'
    try clear c1
    try clear p2
    obtain ⟨x5_1, x105000_1, x105001_1, rfl, HA, HK1, BK104, HB⟩ := hrel
    cases gk with
    | zero => exact absurd HA.out (by simp [amanuensisref19_Leader.l0])
    | succ k1 =>
      have H := HA.out
      clear HA
      simp only [amanuensisref19_Leader.l0] at H
      by_cases c3 : x5_1 < 24
      · rw [if_pos c3] at H
        have c3b0 : decide (x5_1 < 24) = true := decide_eq_true c3
        clear c3
        by_cases c4 : x5_1 = (l0.length : Int)
        · rw [if_pos c4] at H
          have c4b0 : (x5_1 == (l0.length : Int)) = true := beq_iff_eq.mpr c4
          have c4b1 : (x5_1 != (l0.length : Int)) = false := bne_eq_false_iff_eq.mpr c4
          clear c4
          simp only [Option.some.injEq, Prod.mk.injEq] at H
          obtain ⟨rfl, rfl, rfl, rfl⟩ := H
          have hcz5_0 : wr.cell? ⟨gb104, 0, none⟩ = some (.int .i64 x105000_1) := (blk_cell BK104.out 0).trans rfl
          have hcz5_1 : wr.cell? ⟨gb104, 1, none⟩ = some (.int .i64 x105001_1) := (blk_cell BK104.out 1).trans rfl
          have hfz5_0 := blk_frozen BK104.out 0
          have hfz5_1 := blk_frozen BK104.out 1
          go_wp2
          refine bodyPost_ret (results_list (rs := [.tmp 2, .tmp 3, .cell 4 31]) rfl (by simp) (.tmp (.tmp (.cell gb104 31 #[.int .i64 10, .int .i64 x5_1] (0, 0) _ rfl (by (with_reducible repeat (first | refine blk_drewN ?_ _ | refine blk_drew ?_ | refine blk_alloc ?_ _)); refine blk_put (cs := #[.int .i64 10, .int .i64 x105001_1]) ?_ 1 _ rfl; (with_reducible repeat (first | refine blk_drewN ?_ _ | refine blk_drew ?_ | refine blk_alloc ?_ _)); refine blk_put (cs := #[.int .i64 x105000_1, .int .i64 x105001_1]) ?_ 0 _ rfl; (with_reducible repeat (first | refine blk_drewN ?_ _ | refine blk_drew ?_ | refine blk_alloc ?_ _)); exact BK104.out) Tryz.underlying31 rfl (by kernel_rfl) .nil)))) rfl ?_
          exact ⟨by first | rfl | (simp [errW_none, errW_some] <;> rfl) | (simp [*, errW_none, errW_some] <;> rfl), by repeat (first | (with_reducible first | exact HB.out | apply below_alloc | apply pw_below_drewN | apply below_drew1 | refine below_set ?_ GE104.out) | exact HB.out)⟩
        · rw [if_neg c4] at H
          have c4b0 : (x5_1 == (l0.length : Int)) = false := beq_eq_false_iff_ne.mpr c4
          have c4b1 : (x5_1 != (l0.length : Int)) = true := bne_iff_ne.mpr c4
          by_cases c6 : 0 ≤ x5_1
          · rw [if_pos c6] at H
            have c6b0 : decide (0 ≤ x5_1) = true := decide_eq_true c6
            clear c6
            by_cases c7 : x5_1 < (l0.length : Int)
            · rw [if_pos c7] at H
              have c7b0 : decide (x5_1 < (l0.length : Int)) = true := decide_eq_true c7
              clear c7
              replace H := Option.bind_eq_some_iff.mp H
              obtain ⟨t106, A80, H⟩ := H
              replace H : (if t106 = true then (amanuensisref19_Leader.l0 k1 l0 (wrap64 (x5_1 + 1))) else (some (0, 0, 10, x5_1))) = some (r1, r2, r3, r4) := H
              have A8 := Aside0.mk A80
              clear A80
              by_cases c9 : t106 = true
              · subst c9
                have H1 : (amanuensisref19_Leader.l0 k1 l0 (wrap64 (x5_1 + 1))) = some (r1, r2, r3, r4) := by rw [if_pos rfl] at H; exact H
                clear H
                have H := H1
                clear H1
                have H' := Aside0.mk H
                clear H
                have p105 : 0 ≤ (x5_1 : Int) := of_decide_eq_true (by first | (with_reducible assumption) | assumption)
                have q105 : x5_1 < (l0.length : Int) := of_decide_eq_true (by first | (with_reducible assumption) | assumption)
                obtain ⟨ad105, e105, hx105_0⟩ := Kd.at_int HR0.out x5_1 p105 q105
                cases e105
                replace hx105_0 := (HB.out.cell (World.block_lt_of_cell? w _ hx105_0)).trans hx105_0
                replace p105 := eq_true p105
                replace q105 := eq_true q105
                go_wp2_with (first | (go_at_call 17; (with_reducible refine (amanuensisref19_at.calls k1 x5_1 (rd l0 x5_1) false true _ A8.out).mono ?_); rintro e w' ⟨rfl, ⟨nd, rfl⟩⟩))
                go_roundg k1
                case measure => have := HK1.out; omega
                case rel => exact ⟨(wrap64 (x5_1 + 1)), (x105000_1), (x105001_1), (by first | rfl | (simp; done) | (simp [*]; done)), H', ⟨by have := HK1.out; omega⟩, ⟨by (with_reducible repeat (first | refine blk_drewN ?_ _ | refine blk_drew ?_ | refine blk_alloc ?_ _)); exact BK104.out⟩, ⟨by repeat (first | (with_reducible first | exact HB.out | apply below_alloc | apply pw_below_drewN | apply below_drew1 | refine below_set ?_ GE104.out) | exact HB.out)⟩⟩
              · replace c9 := Bool.eq_false_iff.mpr c9
                subst c9
                have H1 : (some (0, 0, 10, x5_1)) = some (r1, r2, r3, r4) := by rw [if_neg (show ¬ (false = true) by decide)] at H; exact H
                clear H
                have H := H1
                clear H1
                simp only [Option.some.injEq, Prod.mk.injEq] at H
                obtain ⟨rfl, rfl, rfl, rfl⟩ := H
                have p105 : 0 ≤ (x5_1 : Int) := of_decide_eq_true (by first | (with_reducible assumption) | assumption)
                have q105 : x5_1 < (l0.length : Int) := of_decide_eq_true (by first | (with_reducible assumption) | assumption)
                obtain ⟨ad105, e105, hx105_0⟩ := Kd.at_int HR0.out x5_1 p105 q105
                cases e105
                replace hx105_0 := (HB.out.cell (World.block_lt_of_cell? w _ hx105_0)).trans hx105_0
                replace p105 := eq_true p105
                replace q105 := eq_true q105
                go_wp2_with (first | (go_at_call 17; (with_reducible refine (amanuensisref19_at.calls k1 x5_1 (rd l0 x5_1) false false _ A8.out).mono ?_); rintro e w' ⟨rfl, ⟨nd, rfl⟩⟩; (try (rw [drewN_self wr]; generalize hq_ : World.drewN wr _ = wr; have n0_ : Aside0 (wr.heap[gb104]? = some (.cells #[.int .i64 x105000_1, .int .i64 x105001_1] 31 (0, 0))) := ⟨by rw [← hq_]; exact (by (with_reducible repeat (first | refine blk_drewN ?_ _ | refine blk_drew ?_ | refine blk_alloc ?_ _)); exact BK104.out)⟩; have n1_ : Aside0 (Below w.heap.size w wr) := ⟨by rw [← hq_]; exact (by repeat (first | (with_reducible first | exact HB.out | apply below_alloc | apply pw_below_drewN | apply below_drew1 | refine below_set ?_ GE104.out) | exact HB.out))⟩; clear BK104 HB hq_; have BK104 := n0_; have HB := n1_; clear n0_ n1_)); have hcz10_0 : wr.cell? ⟨gb104, 0, none⟩ = some (.int .i64 x105000_1) := (blk_cell BK104.out 0).trans rfl; have hcz10_1 : wr.cell? ⟨gb104, 1, none⟩ = some (.int .i64 x105001_1) := (blk_cell BK104.out 1).trans rfl; have hfz10_0 := blk_frozen BK104.out 0; have hfz10_1 := blk_frozen BK104.out 1))
                refine bodyPost_ret (results_list (rs := [.tmp 2, .tmp 3, .cell 4 31]) rfl (by simp) (.tmp (.tmp (.cell gb104 31 #[.int .i64 10, .int .i64 x5_1] (0, 0) _ rfl (by (with_reducible repeat (first | refine blk_drewN ?_ _ | refine blk_drew ?_ | refine blk_alloc ?_ _)); refine blk_put (cs := #[.int .i64 10, .int .i64 x105001_1]) ?_ 1 _ rfl; (with_reducible repeat (first | refine blk_drewN ?_ _ | refine blk_drew ?_ | refine blk_alloc ?_ _)); refine blk_put (cs := #[.int .i64 x105000_1, .int .i64 x105001_1]) ?_ 0 _ rfl; (with_reducible repeat (first | refine blk_drewN ?_ _ | refine blk_drew ?_ | refine blk_alloc ?_ _)); exact BK104.out) Tryz.underlying31 rfl (by kernel_rfl) .nil)))) rfl ?_
                exact ⟨by first | rfl | (simp [errW_none, errW_some] <;> rfl) | (simp [*, errW_none, errW_some] <;> rfl), by repeat (first | (with_reducible first | exact HB.out | apply below_alloc | apply pw_below_drewN | apply below_drew1 | refine below_set ?_ GE104.out) | exact HB.out)⟩
            · rw [if_neg c7] at H
              exact absurd H (by simp)
          · rw [if_neg c6] at H
            exact absurd H (by simp)
      · rw [if_neg c3] at H
        have c3b0 : decide (x5_1 < 24) = false := decide_eq_false c3
        clear c3
        by_cases c11 : 5 ≤ (l0.length : Int)
        · rw [if_pos c11] at H
          have c11b0 := eq_true c11
          have c11b1 : decide (5 ≤ (l0.length : Int)) = true := decide_eq_true c11
          clear c11
          replace H := Option.bind_eq_some_iff.mp H
          obtain ⟨t108, A120, H⟩ := H
          replace H : (if 12 ≤ 17 then (if 17 ≤ (l0.length : Int) then ((amanuensisref19_num.f k1 ((l0.take 17).drop 12)).bind fun t110 => (some (t108, t110, 0, 0))) else (none)) else (none)) = some (r1, r2, r3, r4) := H
          have A12 := Aside0.mk A120
          clear A120
          by_cases c13 : 12 ≤ 17
          · rw [if_pos c13] at H
            have c13b0 := eq_true c13
            have c13b1 : decide (12 ≤ 17) = true := decide_eq_true c13
            clear c13
            by_cases c14 : 17 ≤ (l0.length : Int)
            · rw [if_pos c14] at H
              have c14b0 := eq_true c14
              have c14b1 : decide (17 ≤ (l0.length : Int)) = true := decide_eq_true c14
              clear c14
              replace H := Option.bind_eq_some_iff.mp H
              obtain ⟨t110, A150, H⟩ := H
              replace H : (some (t108, t110, 0, 0)) = some (r1, r2, r3, r4) := H
              have A15 := Aside0.mk A150
              clear A150
              simp only [Option.some.injEq, Prod.mk.injEq] at H
              obtain ⟨rfl, rfl, rfl, rfl⟩ := H
              try go_wp2
              have n0_ := Aside0.mk (blk_drew BK104.out)
              have n1_ := Aside0.mk (below_drew1 HB.out)
              clear BK104
              clear HB
              have BK104 := n0_
              have HB := n1_
              clear n0_ n1_
              obtain ⟨i017, hi017, _, hsz17, _⟩ := info_parts info5
              obtain ⟨hcut17, hA17, hC17⟩ := print_take_of (P := Tryz.prog) (Value.int .u8) 0 22 5 .i64 Tryz.underlying22 hi017 hsz17 A0 c0 l0 5 (by omega) (of_decide_eq_true (by first | (with_reducible assumption) | assumption)) HC0.out
              have HR107 := Aside0.mk (Kd.C_of_reads (h1 := fun _ => rfl) (hA17 _ (Kd.reads_of_C HR0.out)))
              have HC107 := Aside0.mk hC17
              clear hA17 hC17 hi017 hsz17
              obtain ⟨i018, hi018, _, hsz18, _⟩ := info_parts info5
              obtain ⟨A18, hcut18, hA18, hC18⟩ := print_mid_of (P := Tryz.prog) (Value.int .u8) 0 22 5 .i64 .i64 Tryz.underlying22 hi018 hsz18 A0 c0 l0 12 17 (by omega) (by first | omega | exact of_decide_eq_true (by first | (with_reducible assumption) | assumption)) (of_decide_eq_true (by first | (with_reducible assumption) | assumption)) HC0.out
              have HR109 := Aside0.mk (Kd.C_of_reads (h1 := fun _ => rfl) (hA18 _ (Kd.reads_of_C HR0.out)))
              have HC109 := Aside0.mk hC18
              clear hA18 hC18 hi018 hsz18
              refine start_ (n := 10) (S := fun w' => True) (ds := []) #[false, false, false, false, false, false, false, false, false, false] (by kernel_rfl) rfl rfl trivial (fun hHeld => ?_); refine with_tabW amanuensisref19_Leader.tab6 amanuensisref19_Leader.bits6 (fun HT_ HW_ => ?_)
              generalize wr.drew = w16 at BK104 HB HR107 HR109 hHeld ⊢
              refine pure_ (i := 0) (N := some 25) (v := ?_) (a' := ?_) #[true, false, false, false, false, false, false, false, false, false] rfl rfl (any_of HT_.out (by kernel_rfl)) (fun _ _ _ h => h) (Or.inl ⟨by rfl, ?_⟩) ?_ ?_
              rotate_left
              · intro w'
                go_simp
                with_reducible rfl
              rotate_left
              · simp only [Act.put, List.setIfInBounds_toArray, List.set_cons_zero, List.set_cons_succ, i64_w, i32_w]
                rfl
              refine pure_ (i := 1) (N := some 26) (v := ?_) (a' := ?_) #[true, true, false, false, false, false, false, false, false, false] rfl rfl (any_of HT_.out (by kernel_rfl)) (fun _ _ _ h => h) (Or.inl ⟨by rfl, ?_⟩) ?_ ?_
              rotate_left
              · intro w'
                go_simp
                with_reducible rfl
              rotate_left
              · simp only [Act.put, List.setIfInBounds_toArray, List.set_cons_zero, List.set_cons_succ, i64_w, i32_w]
                rfl
              refine pure_ (i := 3) (N := some 28) (v := ?_) (a' := ?_) #[true, true, false, true, false, false, false, false, false, false] rfl rfl (any_of HT_.out (by kernel_rfl)) (fun _ _ _ h => h) (Or.inl ⟨by rfl, ?_⟩) ?_ ?_
              rotate_left
              · intro w'
                go_simp
                with_reducible rfl
              rotate_left
              · simp only [Act.put, List.setIfInBounds_toArray, List.set_cons_zero, List.set_cons_succ, i64_w, i32_w]
                rfl
              refine pure_ (i := 4) (N := some 29) (v := ?_) (a' := ?_) #[true, true, false, true, true, false, false, false, false, false] rfl rfl (any_of HT_.out (by kernel_rfl)) (fun _ _ _ h => h) (Or.inl ⟨by rfl, ?_⟩) ?_ ?_
              rotate_left
              · intro w'
                go_simp
                with_reducible rfl
              rotate_left
              · simp only [Act.put, List.setIfInBounds_toArray, List.set_cons_zero, List.set_cons_succ, i64_w, i32_w]
                rfl
              refine pure_ (i := 6) (N := some 31) (v := ?_) (a' := ?_) #[true, true, false, true, true, false, true, false, false, false] rfl rfl (any_of HT_.out (by kernel_rfl)) (fun _ _ _ h => h) (Or.inl ⟨by rfl, ?_⟩) ?_ ?_
              rotate_left
              · intro w'
                go_simp
                with_reducible rfl
              rotate_left
              · simp only [Act.put, List.setIfInBounds_toArray, List.set_cons_zero, List.set_cons_succ, i64_w, i32_w]
                rfl
              refine one_ (i := 2) (N := some 27) #[true, true, true, true, true, false, true, false, false, false] rfl rfl (one_of HT_.out (by kernel_rfl)) (by decide) (fun K hK => ?_)
              refine goes_ Tryz.func18 (by kernel_rfl) rfl #[.slice A0 (l0.take 5).length c0] (by rfl) rfl rfl (by (try simp only [List.map_toArray, List.map_cons, List.map_nil]); first | done | (rw [show (l0.take 5).length = 5 from (by rw [List.length_take]; have h_ : (5 : Int) ≤ (l0.length : Int) := of_decide_eq_true (by first | (with_reducible assumption) | assumption); omega)] <;> rfl) | rfl | (simp only [List.length_drop, List.length_take]; rfl)) ?_
              with_reducible refine (amanuensisref19_num.calls k1 _ _ (l0.take 5) t108 _ ?side1 ?side2 A12.out).mono ?_
              (case side1 => repeat (first | exact (Kd.C_below HR107.out HB.out) | (with_reducible refine Kd.C_alloc ?_ _) | (with_reducible refine Kd.C_drewN ?_ _) | (with_reducible refine Kd.C_drew ?_)))
              (case side2 => exact HC107.out)
              rintro e w' ⟨rfl, ⟨nd, rfl⟩⟩
              refine ⟨_, rfl, ?_⟩
              refine hK.out _ _ trivial (fun hHeld => ?_)
              clear hK K
              refine norm_ (a' := ?_) ?_ ?_
              rotate_left
              · show Act.put _ (some 27) _ = _
                simp only [Act.put, List.setIfInBounds_toArray, List.set_cons_zero, List.set_cons_succ, i64_w, i32_w]
                rfl
              refine one_ (i := 5) (N := some 30) #[true, true, true, true, true, true, true, false, false, false] rfl rfl (one_of HT_.out (by kernel_rfl)) (by decide) (fun K hK => ?_)
              refine goes_ Tryz.func18 (by kernel_rfl) rfl #[.slice A18 ((l0.take 17).drop 12).length (c0 - 12)] (by rfl) rfl rfl (by (try simp only [List.map_toArray, List.map_cons, List.map_nil]); first | done | (rw [show ((l0.take 17).drop 12).length = (17 - 12) from (by rw [List.length_drop, List.length_take]; have h_ : (17 : Int) ≤ (l0.length : Int) := of_decide_eq_true (by first | (with_reducible assumption) | assumption); omega)] <;> rfl) | rfl | (simp only [List.length_drop, List.length_take]; rfl)) ?_
              with_reducible refine (amanuensisref19_num.calls k1 _ _ ((l0.take 17).drop 12) t110 _ ?side1 ?side2 A15.out).mono ?_
              (case side1 => repeat (first | exact (Kd.C_below HR109.out (by repeat (first | (with_reducible first | exact HB.out | apply below_alloc | apply pw_below_drewN | apply below_drew1 | refine below_set ?_ GE104.out) | exact HB.out))) | (with_reducible refine Kd.C_alloc ?_ _) | (with_reducible refine Kd.C_drewN ?_ _) | (with_reducible refine Kd.C_drew ?_)))
              (case side2 => exact HC109.out)
              rintro e w' ⟨rfl, ⟨nd, rfl⟩⟩
              refine ⟨_, rfl, ?_⟩
              refine hK.out _ _ trivial (fun hHeld => ?_)
              clear hK K
              refine norm_ (a' := ?_) ?_ ?_
              rotate_left
              · show Act.put _ (some 30) _ = _
                simp only [Act.put, List.setIfInBounds_toArray, List.set_cons_zero, List.set_cons_succ, i64_w, i32_w]
                rfl
              refine pure_ (i := 7) (N := some 2) (v := ?_) (a' := ?_) #[true, true, true, true, true, true, true, true, false, false] rfl rfl (any_of HT_.out (by kernel_rfl)) (fun _ _ _ h => h) (Or.inl ⟨by rfl, ?_⟩) ?_ ?_
              rotate_left
              · intro w'
                go_simp
                with_reducible rfl
              rotate_left
              · simp only [Act.put, List.setIfInBounds_toArray, List.set_cons_zero, List.set_cons_succ, i64_w, i32_w]
                rfl
              refine pure_ (i := 8) (N := some 3) (v := ?_) (a' := ?_) #[true, true, true, true, true, true, true, true, true, false] rfl rfl (any_of HT_.out (by kernel_rfl)) (fun _ _ _ h => h) (Or.inl ⟨by rfl, ?_⟩) ?_ ?_
              rotate_left
              · intro w'
                go_simp
                with_reducible rfl
              rotate_left
              · simp only [Act.put, List.setIfInBounds_toArray, List.set_cons_zero, List.set_cons_succ, i64_w, i32_w]
                rfl
              refine one_ (i := 9) (N := none) #[true, true, true, true, true, true, true, true, true, true] rfl rfl (one_of HT_.out (by kernel_rfl)) (by decide) (fun K hK => ?_)
              have hs19 : w16.cell? ⟨gb104, 0, none⟩ = some (.int .i64 x105000_1) := (blk_cell BK104.out 0).trans rfl
              have hfs19 := blk_frozen BK104.out 0
              have hs20 : w16.cell? ⟨gb104, 1, none⟩ = some (.int .i64 x105001_1) := (blk_cell BK104.out 1).trans rfl
              have hfs20 := blk_frozen BK104.out 1
              refine skip_ (w1 := ?_) (by rfl) rfl ?_ ?_
              rotate_left
              · go_simp
                rfl
              refine hK.out _ _ trivial (fun hHeld => ?_)
              clear hK K
              refine done_ (done_of HT_.out (by kernel_rfl)) ?_
              try go_wp2
              refine bodyPost_ret (results_list (rs := [.tmp 2, .tmp 3, .cell 4 31]) rfl (by simp) (.tmp (.tmp (.cell gb104 31 #[.int .i64 0, .int .i64 0] (0, 0) _ rfl (by (with_reducible repeat (first | refine blk_drewN ?_ _ | refine blk_drew ?_ | refine blk_alloc ?_ _)); refine blk_put (cs := #[.int .i64 0, .int .i64 x105001_1]) ?_ 1 _ rfl; (with_reducible repeat (first | refine blk_drewN ?_ _ | refine blk_drew ?_ | refine blk_alloc ?_ _)); refine blk_put (cs := #[.int .i64 x105000_1, .int .i64 x105001_1]) ?_ 0 _ rfl; (with_reducible repeat (first | refine blk_drewN ?_ _ | refine blk_drew ?_ | refine blk_alloc ?_ _)); exact BK104.out) Tryz.underlying31 rfl (by kernel_rfl) .nil)))) rfl ?_
              exact ⟨by first | rfl | (simp [errW_none, errW_some] <;> rfl) | (simp [*, errW_none, errW_some] <;> rfl), by repeat (first | (with_reducible first | exact HB.out | apply below_alloc | apply pw_below_drewN | apply below_drew1 | refine below_set ?_ GE104.out) | exact HB.out)⟩
            · rw [if_neg c14] at H
              exact absurd H (by simp)
          · rw [if_neg c13] at H
            exact absurd H (by simp)
        · rw [if_neg c11] at H
          exact absurd H (by simp)

end Go.Proofs.YtkhnnbfgjfkfeaaGreatDoor.PCod
end
