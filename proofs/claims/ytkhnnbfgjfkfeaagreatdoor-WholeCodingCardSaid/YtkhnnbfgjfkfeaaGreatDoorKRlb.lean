/- A helper of the faults is walked. Conditions: those that each theorem states. -/
import Derived.Test.YtkhnnbfgjfkfeaaGreatDoorKRla
import Derived.Test.YtkhnnbfgjfkfeaaGreatDoorKPd
namespace Go.Proofs.YtkhnnbfgjfkfeaaGreatDoor
open Go.RowKit Go.Proofs.YtkhnnbfgjfkfeaaGreatDoorW.PrintWords Go.Proofs.YtkhnnbfgjfkfeaaGreatDoorW.PrintLast Go.Proofs.YtkhnnbfgjfkfeaaGreatDoorW.PrintMore Go.Proofs.YtkhnnbfgjfkfeaaGreatDoor.PCod
set_option linter.unusedVariables false
set_option linter.unusedSimpArgs false
theorem num_eq0 (k : Nat) (x4 : Int) (x7 : List Int) (x8 x9 : Int) (h : ¬ x9 < x8) : dir_number.l0 (k + 1) x4 x7 x8 x9 = some (x4, true) := by
  show (if x9 < x8 then _ else _) = _
  rw [if_neg h]
theorem num_eq1 (k : Nat) (x4 : Int) (x7 : List Int) (x8 x9 : Int) (h1 : x9 < x8) (h2 : 0 ≤ x9) (h3 : x9 < (x7.length : Int)) (h4 : ¬ rd x7 x9 < 48) (h5 : ¬ rd x7 x9 > 57) : dir_number.l0 (k + 1) x4 x7 x8 x9 = dir_number.l0 k (wrap64 ((wrap64 (10 * x4)) + (((rd x7 x9) - 48) % 256))) x7 x8 (wrap64 (x9 + 1)) := by
  show (if x9 < x8 then _ else _) = _
  rw [if_pos h1, if_pos h2, if_pos h3, if_neg h4, if_neg h5]
theorem number_l (l : List Int) (hb : l.length ≤ 5) (hd : l.all dig = true) : ∀ (d j : Nat), j + d = l.length → ∀ k, d + 1 ≤ k → dir_number.l0 k (val5 (l.take j)) l (l.length : Int) j = some (val5 l, true)
  | 0, j, hj, k + 1, hk => by
    rw [num_eq0 _ _ _ _ _ (by omega), List.take_of_length_le (by omega)]
  | d + 1, j, hj, k + 1, hk => by
    have hlt : j < l.length := by omega
    have hc := dig_at hd hlt
    have hv := val_take l j (fun i hi => dig_at hd (by omega)) (by omega)
    have h5 : (10 : Int) ^ j ≤ 100000 := by
      have : j = 0 ∨ j = 1 ∨ j = 2 ∨ j = 3 ∨ j = 4 := by omega
      rcases this with h | h | h | h | h <;> rw [h] <;> decide
    have hr : rd l (j : Int) = l.getD j 0 := rfl
    have e1 : wrap64 (wrap64 (10 * val5 (l.take j)) + (l.getD j 0 - 48) % 256) = val5 (l.take (j + 1)) := by
      rw [val_succ l j hlt]
      unfold wrap64
      omega
    have e2 : wrap64 ((j : Int) + 1) = ((j + 1 : Nat) : Int) := by unfold wrap64; omega
    have q1 : ¬ rd l (j : Int) < 48 := by rw [hr]; omega
    have q2 : ¬ rd l (j : Int) > 57 := by rw [hr]; omega
    have q3 : (j : Int) < (l.length : Int) := by omega
    rw [num_eq1 k (val5 (l.take j)) l (l.length : Int) (j : Int) q3 (Int.natCast_nonneg j) q3 q1 q2, hr, e1, e2]
    exact number_l l hb hd d (j + 1) (by omega) k (by omega)
theorem number_is (l : List Int) (hb : l.length ≤ 5) (hd : l.all dig = true) (k : Nat) (hk : 6 ≤ k) : dir_number.f k l = some (val5 l, true) := by
  have := number_l l hb hd l.length 0 (by omega) k (by omega)
  exact this
end Go.Proofs.YtkhnnbfgjfkfeaaGreatDoor
