/- Shared words on worlds for the walks of this seat. Conditions: those that each theorem states. -/
import Derived.Test.YtkhnnbfgjfkfeaaGreatDoorKPa
namespace Go.Proofs.YtkhnnbfgjfkfeaaGreatDoor
open Go.RowKit Go.Proofs.YtkhnnbfgjfkfeaaGreatDoorW.PrintWords Go.Proofs.YtkhnnbfgjfkfeaaGreatDoorW.PrintLast Go.Proofs.YtkhnnbfgjfkfeaaGreatDoorW.PrintMore Go.Proofs.YtkhnnbfgjfkfeaaGreatDoor.PCod
set_option linter.unusedVariables false
set_option linter.unusedSimpArgs false
def dig (c : Int) : Bool := decide (48 ≤ c ∧ c ≤ 57)
def val5 (l : List Int) : Int := l.foldl (fun v c => 10 * v + (c - 48)) 0
theorem val_take (xs : List Int) (k : Nat) (h : ∀ j, j < k → 48 ≤ xs.getD j 0 ∧ xs.getD j 0 ≤ 57) (hk : k ≤ xs.length) : 0 ≤ val5 (xs.take k) ∧ val5 (xs.take k) < 10 ^ k := by
  induction k with
  | zero => simp [val5]
  | succ k ih =>
    have h1 := ih (fun j hj => h j (by omega)) (by omega)
    have h2 := h k (by omega)
    have e : xs.take (k + 1) = xs.take k ++ [xs.getD k 0] := by
      rw [List.take_succ_eq_append_getElem (by omega), List.getD_eq_getElem?_getD, List.getElem?_eq_getElem (by omega)]; rfl
    have e2 : val5 (xs.take (k + 1)) = 10 * val5 (xs.take k) + (xs.getD k 0 - 48) := by rw [e]; simp [val5]
    rw [e2, Int.pow_succ]; omega
theorem val_succ (xs : List Int) (k : Nat) (hk : k < xs.length) : val5 (xs.take (k + 1)) = 10 * val5 (xs.take k) + (xs.getD k 0 - 48) := by
  have e : xs.take (k + 1) = xs.take k ++ [xs.getD k 0] := by
    rw [List.take_succ_eq_append_getElem (by omega), List.getD_eq_getElem?_getD, List.getElem?_eq_getElem (by omega)]; rfl
  rw [e]; simp [val5]
def numP (l : List Int) : Int := if l.all dig then val5 l else -1
theorem num_l (l : List Int) (hb : l.length ≤ 5) : ∀ (d j : Nat), j + d = l.length → (l.take j).all dig = true → ∀ k, d + 1 ≤ k → amanuensisref19_num.l0 k l (val5 (l.take j)) j = some (numP l)
  | 0, j, hj, ha, k + 1, hk => by
    rw [amanuensisref19_num.l0, if_neg (by omega)]
    have e : l.take j = l := List.take_of_length_le (by omega)
    rw [e] at ha ⊢
    unfold numP; rw [if_pos ha]
  | d + 1, j, hj, ha, k + 1, hk => by
    have hd : ∀ i, i < j → 48 ≤ l.getD i 0 ∧ l.getD i 0 ≤ 57 := fun i hi => by
      have := List.all_eq_true.1 ha (l.getD i 0) (by
        rw [List.getD_eq_getElem?_getD, List.getElem?_eq_getElem (by omega)]
        exact List.mem_take_iff_getElem.2 ⟨i, by omega, rfl⟩)
      unfold dig at this; exact of_decide_eq_true this
    have hv := val_take l j hd (by omega)
    have hv2 : val5 (l.take j) ≤ 10000 := by
      have : (10 : Int) ^ j ≤ 10000 := by
        have : j = 0 ∨ j = 1 ∨ j = 2 ∨ j = 3 ∨ j = 4 := by omega
        rcases this with rfl | rfl | rfl | rfl | rfl <;> decide
      omega
    have hvv := val_succ l j (by omega)
    have hrd : rd l (j : Int) = l.getD j 0 := rfl
    have et : l.take (j + 1) = l.take j ++ [l.getD j 0] := by
      rw [List.take_succ_eq_append_getElem (by omega), List.getD_eq_getElem?_getD, List.getElem?_eq_getElem (by omega)]; rfl
    have hmem : l.getD j 0 ∈ l := by rw [List.getD_eq_getElem?_getD, List.getElem?_eq_getElem (by omega)]; exact List.getElem_mem _
    rw [amanuensisref19_num.l0, if_pos (by omega), if_pos (by omega), hrd]
    by_cases c1 : l.getD j 0 < 48
    · rw [if_pos c1]
      unfold numP; rw [if_neg]
      intro hh
      have := List.all_eq_true.1 hh _ hmem
      unfold dig at this; have := of_decide_eq_true this; omega
    rw [if_neg c1]
    by_cases c2 : l.getD j 0 > 57
    · rw [if_pos c2]
      unfold numP; rw [if_neg]
      intro hh
      have := List.all_eq_true.1 hh _ hmem
      unfold dig at this; have := of_decide_eq_true this; omega
    rw [if_neg c2]
    have e1 : wrap64 (10 * val5 (l.take j)) = 10 * val5 (l.take j) := by unfold wrap64; omega
    have e2 : (l.getD j 0 - 48) % 256 = l.getD j 0 - 48 := by omega
    rw [e1, e2]
    have e3 : wrap64 (10 * val5 (l.take j) + (l.getD j 0 - 48)) = val5 (l.take (j + 1)) := by rw [hvv]; unfold wrap64; omega
    have e4 : wrap64 ((j : Int) + 1) = ((j + 1 : Nat) : Int) := by unfold wrap64; omega
    rw [e3, e4]
    refine num_l l hb d (j + 1) (by omega) ?_ k (by omega)
    have hdg : dig (l.getD j 0) = true := by unfold dig; exact decide_eq_true ⟨by omega, by omega⟩
    rw [et, List.all_append, ha, List.all_cons, hdg]; rfl
theorem num_eq (l : List Int) (hb : l.length ≤ 5) (k : Nat) (hk : 7 ≤ k) : amanuensisref19_num.f k l = some (numP l) := by
  unfold amanuensisref19_num.f
  exact num_l l hb l.length 0 (by omega) rfl k (by omega)
end Go.Proofs.YtkhnnbfgjfkfeaaGreatDoor
