/- leader.Coding is walked. Conditions: those that each theorem states. -/
import Derived.Test.YtkhnnbfgjfkfeaaGreatDoorKRoh
namespace Go.Proofs.YtkhnnbfgjfkfeaaGreatDoor
open Go.RowKit Go.Proofs.YtkhnnbfgjfkfeaaGreatDoorW.PrintWords Go.Proofs.YtkhnnbfgjfkfeaaGreatDoorW.PrintLast Go.Proofs.YtkhnnbfgjfkfeaaGreatDoorW.PrintMore Go.Proofs.YtkhnnbfgjfkfeaaGreatDoor.PCod
set_option linter.unusedVariables false
set_option linter.unusedSimpArgs false
theorem str_size (l : List Int) : (strOfNums l).size = l.length := by simp [strOfNums, ByteArray.size]
theorem bt_str (l : List Int) (hb : ∀ x ∈ l, 0 ≤ x ∧ x ≤ 255) (i : Nat) (hi : i < l.length) : bt (strOfNums l) (i : Int) = l.getD i 0 := by
  have hs : i < (strOfNums l).size := by rw [str_size]; exact hi
  have hx := hb l[i] (List.getElem_mem hi)
  unfold bt
  rw [dif_pos (by simpa using hs)]
  have : (strOfNums l)[(i : Int).toNat]'(by simpa using hs) = UInt8.ofNat (l[i]).toNat := by simp [strOfNums, ByteArray.getElem_eq_getElem_data]
  rw [this, List.getD_eq_getElem?_getD, List.getElem?_eq_getElem hi]
  simp
  omega
theorem at_free (c : Int) (m : Nat) (hm : m < 24) (k : Nat) (h : amanuensisref19_at.f k m c false = some true) (k' : Nat) : amanuensisref19_at.f (k' + 2) m c true = some true := by
  have hh : m = 0 ∨ m = 1 ∨ m = 2 ∨ m = 3 ∨ m = 4 ∨ m = 5 ∨ m = 6 ∨ m = 7 ∨ m = 8 ∨ m = 9 ∨ m = 10 ∨ m = 11 ∨ m = 12 ∨ m = 13 ∨ m = 14 ∨ m = 15 ∨ m = 16 ∨ m = 17 ∨ m = 18 ∨ m = 19 ∨ m = 20 ∨ m = 21 ∨ m = 22 ∨ m = 23 := by omega
  unfold amanuensisref19_at.f at h ⊢
  rcases hh with rfl | rfl | rfl | rfl | rfl | rfl | rfl | rfl | rfl | rfl | rfl | rfl | rfl | rfl | rfl | rfl | rfl | rfl | rfl | rfl | rfl | rfl | rfl | rfl <;> (cases k with
    | zero => simp [amanuensisref19_at.j0] at h
    | succ k => cases k with
      | zero => simp_all [amanuensisref19_at.j0, amanuensisref19_at.j1]
      | succ k => simp_all [amanuensisref19_at.j0, amanuensisref19_at.j1])
theorem good_plain (c : Int) (m : Nat) (hm : m < 24) (k : Nat) (h : amanuensisref19_at.f k m c false = some true) (k' : Nat) : leader_good.f (k' + 1) m c true = some true := by
  have hh : m = 0 ∨ m = 1 ∨ m = 2 ∨ m = 3 ∨ m = 4 ∨ m = 5 ∨ m = 6 ∨ m = 7 ∨ m = 8 ∨ m = 9 ∨ m = 10 ∨ m = 11 ∨ m = 12 ∨ m = 13 ∨ m = 14 ∨ m = 15 ∨ m = 16 ∨ m = 17 ∨ m = 18 ∨ m = 19 ∨ m = 20 ∨ m = 21 ∨ m = 22 ∨ m = 23 := by omega
  unfold amanuensisref19_at.f at h
  unfold leader_good.f leader_number.f leader_must.f
  rcases hh with rfl | rfl | rfl | rfl | rfl | rfl | rfl | rfl | rfl | rfl | rfl | rfl | rfl | rfl | rfl | rfl | rfl | rfl | rfl | rfl | rfl | rfl | rfl | rfl <;> (cases k with
    | zero => simp [amanuensisref19_at.j0] at h
    | succ k => cases k with
      | zero => simp_all [amanuensisref19_at.j0, amanuensisref19_at.j1, leader_must.j0]
      | succ k => simp_all [amanuensisref19_at.j0, amanuensisref19_at.j1, leader_must.j0])
/-- the leader of a record that is taken -/
structure LeadS (s : ByteArray) : Prop where
  size : s.size = 24
  each : ∀ m : Nat, m < 24 → ∃ k, amanuensisref19_at.f k m (bt s m) false = some true
theorem leadS_of {xs : List Int} (hb : ∀ x ∈ xs, 0 ≤ x ∧ x ≤ 255) (h24 : 24 ≤ xs.length) (h : ∀ m, m < 24 → LeadAt xs m) : LeadS (strOfNums (xs.take 24)) := by
  have hl : (xs.take 24).length = 24 := by rw [List.length_take]; omega
  refine ⟨by rw [str_size]; exact hl, fun m hm => ?_⟩
  rw [bt_str _ (fun x hx => hb x (List.mem_of_mem_take hx)) m (by omega)]
  obtain ⟨k, hk⟩ := h m hm
  refine ⟨k, ?_⟩
  rw [List.getD_eq_getElem?_getD, List.getElem?_take, if_pos hm, ← List.getD_eq_getElem?_getD]
  exact hk
theorem rsound_l {s : ByteArray} (h : LeadS s) : ∀ (d j : Nat), j + d = 24 → ∀ k, d + 3 ≤ k → amanuensisref19_Sound.l0 k s (j : Int) = some true
  | 0, j, hj, k + 1, hk => by rw [amanuensisref19_Sound.l0, if_neg (by omega)]
  | d + 1, j, hj, k + 1, hk => by
    obtain ⟨ka, ha⟩ := h.each j (by omega)
    have e : wrap64 ((j : Int) + 1) = ((j + 1 : Nat) : Int) := by unfold wrap64; omega
    obtain ⟨k', rfl⟩ : ∃ k', k = k' + 2 := ⟨k - 2, by omega⟩
    rw [amanuensisref19_Sound.l0, if_pos (by omega), if_pos (by omega), if_pos (by rw [h.size]; omega), at_free _ j (by omega) ka ha k', Option.bind_some, if_pos rfl, e]
    exact rsound_l h d (j + 1) (by omega) (k' + 2) (by omega)
theorem lsound_l {s : ByteArray} (h : LeadS s) : ∀ (d j : Nat), j + d = 24 → ∀ k, d + 3 ≤ k → leader_Sound.l0 k s (s.size : Int) (j : Int) = some true
  | 0, j, hj, k + 1, hk => by
    rw [leader_Sound.l0, if_neg (by rw [h.size]; omega), h.size]; rfl
  | d + 1, j, hj, k + 1, hk => by
    obtain ⟨ka, ha⟩ := h.each j (by omega)
    have e : wrap64 ((j : Int) + 1) = ((j + 1 : Nat) : Int) := by unfold wrap64; omega
    obtain ⟨k', rfl⟩ : ∃ k', k = k' + 1 := ⟨k - 1, by omega⟩
    rw [leader_Sound.l0, if_pos (by rw [h.size]; omega), if_pos (by omega), if_pos (by omega), if_pos (by rw [h.size]; omega), good_plain _ j (by omega) ka ha k', Option.bind_some, if_pos rfl, e]
    exact lsound_l h d (j + 1) (by omega) (k' + 1) (by omega)
def codeOf (s : ByteArray) : Int := if bt s 9 = 97 then 2 else 1
theorem rcoding_is {s : ByteArray} (h : LeadS s) : amanuensisref19_Coding.f 40 s = some (codeOf s) := by
  unfold amanuensisref19_Coding.f amanuensisref19_Sound.f codeOf
  rw [if_pos (by rw [h.size]; rfl), show (0 : Int) = ((0 : Nat) : Int) from rfl, rsound_l h 24 0 (by omega) 40 (by omega), Option.bind_some, if_pos rfl, if_pos (by rw [h.size]; decide)]
  split <;> rfl
theorem lcoding_is {s : ByteArray} (h : LeadS s) : leader_Coding.f 40 s = some (codeOf s) := by
  unfold leader_Coding.f leader_Sound.f codeOf
  rw [show (0 : Int) = ((0 : Nat) : Int) from rfl, lsound_l h 24 0 (by omega) 40 (by omega), Option.bind_some, if_pos rfl, if_pos (by rw [h.size]; decide)]
  split <;> rfl
end Go.Proofs.YtkhnnbfgjfkfeaaGreatDoor
