/- Texts of the faults are walked. Conditions: those that each theorem states. -/
import Derived.Test.YtkhnnbfgjfkfeaaGreatDoorKRhd
import Derived.Test.YtkhnnbfgjfkfeaaGreatDoorKPe
namespace Go.Proofs.YtkhnnbfgjfkfeaaGreatDoor
open Go.RowKit Go.Proofs.YtkhnnbfgjfkfeaaGreatDoorW.PrintWords Go.Proofs.YtkhnnbfgjfkfeaaGreatDoorW.PrintLast Go.Proofs.YtkhnnbfgjfkfeaaGreatDoorW.PrintMore Go.Proofs.YtkhnnbfgjfkfeaaGreatDoor.PCod
set_option linter.unusedVariables false
set_option linter.unusedSimpArgs false
theorem good_of_at (c : Int) (m : Nat) (hm : m < 24) (k : Nat) (h : amanuensisref19_at.f k m c false = some true) (k' : Nat) : leader_good.f (k' + 1) m c false = some true := by
  have hh : m = 0 ∨ m = 1 ∨ m = 2 ∨ m = 3 ∨ m = 4 ∨ m = 5 ∨ m = 6 ∨ m = 7 ∨ m = 8 ∨ m = 9 ∨ m = 10 ∨ m = 11 ∨ m = 12 ∨ m = 13 ∨ m = 14 ∨ m = 15 ∨ m = 16 ∨ m = 17 ∨ m = 18 ∨ m = 19 ∨ m = 20 ∨ m = 21 ∨ m = 22 ∨ m = 23 := by omega
  unfold amanuensisref19_at.f at h
  unfold leader_good.f leader_number.f leader_must.f
  rcases hh with rfl | rfl | rfl | rfl | rfl | rfl | rfl | rfl | rfl | rfl | rfl | rfl | rfl | rfl | rfl | rfl | rfl | rfl | rfl | rfl | rfl | rfl | rfl | rfl <;> (cases k with
    | zero => simp [amanuensisref19_at.j0] at h
    | succ k => cases k with
      | zero => simp_all [amanuensisref19_at.j0, amanuensisref19_at.j1, leader_must.j0]
      | succ k => simp_all [amanuensisref19_at.j0, amanuensisref19_at.j1, leader_must.j0])
theorem dig_at {l : List Int} (hd : l.all dig = true) {j : Nat} (hj : j < l.length) : 48 ≤ l.getD j 0 ∧ l.getD j 0 ≤ 57 := by
  have := List.all_eq_true.1 hd (l.getD j 0) (by rw [List.getD_eq_getElem?_getD, List.getElem?_eq_getElem hj]; exact List.getElem_mem hj)
  unfold dig at this; exact of_decide_eq_true this
theorem value_l (l : List Int) (hb : l.length ≤ 5) (hd : l.all dig = true) : ∀ (d j : Nat), j + d = l.length → ∀ k, d + 1 ≤ k → leader_value.l0 k (val5 (l.take j)) l (l.length : Int) j = some (val5 l)
  | 0, j, hj, k + 1, hk => by
    rw [leader_value.l0, if_neg (by omega), List.take_of_length_le (by omega)]
  | d + 1, j, hj, k + 1, hk => by
    have hlt : j < l.length := by omega
    have hc := dig_at hd hlt
    have hv := val_take l j (fun i hi => dig_at hd (by omega)) (by omega)
    have h5 : (10 : Int) ^ j ≤ 100000 := by
      have : j = 0 ∨ j = 1 ∨ j = 2 ∨ j = 3 ∨ j = 4 := by omega
      rcases this with h | h | h | h | h <;> rw [h] <;> decide
    have hr : rd l (j : Int) = l.getD j 0 := rfl
    rw [leader_value.l0, if_pos (by omega), if_pos (by omega), if_pos (by omega), hr]
    have e1 : wrap64 (wrap64 (10 * val5 (l.take j)) + (l.getD j 0 - 48) % 256) = val5 (l.take (j + 1)) := by
      rw [val_succ l j hlt]
      unfold wrap64
      omega
    have e2 : wrap64 ((j : Int) + 1) = ((j + 1 : Nat) : Int) := by unfold wrap64; omega
    rw [e1, e2]
    exact value_l l hb hd d (j + 1) (by omega) k (by omega)
theorem value_is (l : List Int) (hb : l.length ≤ 5) (hd : l.all dig = true) (k : Nat) (hk : 6 ≤ k) : leader_value.f k l = some (val5 l) := by
  have := value_l l hb hd l.length 0 (by omega) k (by omega)
  exact this
theorem dig_of_at {xs : List Int} {m : Nat} (h : LeadAt xs m) (hm : 12 ≤ m) (hm2 : m < 17) : 48 ≤ xs.getD m 0 ∧ xs.getD m 0 ≤ 57 := by
  obtain ⟨k, h⟩ := h
  unfold amanuensisref19_at.f at h
  rw [if_neg (by omega), if_pos (by omega), decide_eq_true (by omega)] at h
  cases k with
  | zero => simp [amanuensisref19_at.j0] at h
  | succ k =>
    rw [amanuensisref19_at.j0, if_pos rfl, if_neg (by decide)] at h
    split at h
    · rename_i h48
      exact ⟨h48, of_decide_eq_true (Option.some.inj h)⟩
    · exact absurd (Option.some.inj h) (by decide)
theorem base_dig {xs : List Int} (h24 : 24 ≤ xs.length) (hl : ∀ m, m < 24 → LeadAt xs m) : ((xs.take 17).drop 12).all dig = true := by
  rw [List.all_eq_true]
  intro x hx
  obtain ⟨i, hi, rfl⟩ := List.mem_iff_getElem.1 hx
  rw [List.length_drop, List.length_take] at hi
  have h := dig_of_at (hl (12 + i) (by omega)) (by omega) (by omega)
  rw [List.getD_eq_getElem?_getD, List.getElem?_eq_getElem (by omega)] at h
  unfold dig
  rw [List.getElem_drop, List.getElem_take]
  exact decide_eq_true h
theorem lead_l {xs : List Int} (h24 : 24 ≤ xs.length) (hl : ∀ m, m < 24 → LeadAt xs m) (hd : (xs.take 5).all dig = true) :
    ∀ (d j : Nat), j + d = 24 → ∀ k, d + 10 ≤ k → leader_Parse.l0 k xs (xs.take 24) ((xs.take 24).length : Int) j = some (val5 (xs.take 5), val5 ((xs.take 17).drop 12), 0, 0)
  | 0, j, hj, k + 1, hk => by
    have e : (xs.take 24).length = 24 := by rw [List.length_take]; omega
    rw [leader_Parse.l0, if_neg (by omega), if_neg (by omega), if_pos (by omega), value_is (xs.take 5) (by rw [List.length_take]; omega) hd k (by omega), Option.bind_some, if_pos (by decide), if_pos (by omega), value_is _ (by rw [List.length_drop, List.length_take]; omega) (base_dig h24 hl) k (by omega), Option.bind_some]
  | d + 1, j, hj, k + 1, hk => by
    have e : (xs.take 24).length = 24 := by rw [List.length_take]; omega
    obtain ⟨k, rfl⟩ : ∃ k', k = k' + 1 := ⟨k - 1, by omega⟩
    have hr : rd (xs.take 24) (j : Int) = xs.getD j 0 := by
      show (xs.take 24).getD j 0 = xs.getD j 0
      rw [List.getD_eq_getElem?_getD, List.getD_eq_getElem?_getD, List.getElem?_take, if_pos (by omega)]
    obtain ⟨ka, ha⟩ := hl j (by omega)
    have e2 : wrap64 ((j : Int) + 1) = ((j + 1 : Nat) : Int) := by unfold wrap64; omega
    rw [leader_Parse.l0, if_pos (by omega), if_pos (by omega), if_pos (by omega), hr, good_of_at _ j (by omega) ka ha k, Option.bind_some, if_pos rfl, e2]
    exact lead_l h24 hl hd d (j + 1) (by omega) (k + 1) (by omega)
theorem lead_is {xs : List Int} (h24 : 24 ≤ xs.length) (hl : ∀ m, m < 24 → LeadAt xs m) (hd : (xs.take 5).all dig = true) (k : Nat) (hk : 34 ≤ k) : leader_Parse.f k xs = some (val5 (xs.take 5), val5 ((xs.take 17).drop 12), 0, 0) := by
  have hm : mn (xs.length : Int) 24 = 24 := by unfold mn; split <;> omega
  unfold leader_Parse.f
  rw [hm, if_pos (by decide), if_pos (by omega)]
  exact lead_l h24 hl hd 24 0 (by omega) k (by omega)
theorem frame_is {xs : List Int} {base : Int} {l : List S46} {nx : Int} (h : RecOk xs base l nx) (k : Nat) (hk : 34 ≤ k) : record_frame.f k xs = some (base, 0, 0) := by
  have h24 := h.l24
  have hmx := h.max
  have hb1 := h.b25
  have hb2 := h.blt
  have e5 : val5 (xs.take 5) = (xs.length : Int) := by have := h.len; unfold numP at this; rw [if_pos h.dig] at this; exact this.symm
  have eb : val5 ((xs.take 17).drop 12) = base := by have := h.bas; unfold numP at this; rw [if_pos (base_dig h24 h.lead)] at this; exact this.symm
  have w1 : wrap64 ((xs.length : Int) - 1) = ((xs.length - 1 : Nat) : Int) := by unfold wrap64; omega
  have w2 : wrap64 (base - 1) = base - 1 := by unfold wrap64; omega
  have w3 : wrap64 (base - 1 - 24) = base - 25 := by unfold wrap64; omega
  have r1 : rd xs ((xs.length - 1 : Nat) : Int) = 29 := h.last
  have r2 : rd xs (base - 1) = 30 := by
    have e : (base - 1).toNat = base.toNat - 1 := by omega
    show xs.getD (base - 1).toNat 0 = 30
    rw [e]; exact h.b30
  have t1 : Int.tmod (base - 25) 12 = 0 := by rw [Int.tmod_eq_emod_of_nonneg (by omega)]; exact h.b12
  obtain ⟨k, rfl⟩ : ∃ k', k = k' + 1 := ⟨k - 1, by omega⟩
  unfold record_frame.f
  rw [lead_is h24 h.lead h.dig (k + 1) hk, Option.bind_some]
  simp only [e5, eb]
  rw [if_pos trivial, if_pos trivial, w1, if_pos (by omega), if_pos (by omega), r1]
  rw [record_frame.j0, if_neg (by decide), if_neg (by omega), if_neg (by omega), w2, w3, if_pos t1, if_pos (by omega), if_pos (by omega), r2, if_pos rfl]
end Go.Proofs.YtkhnnbfgjfkfeaaGreatDoor
