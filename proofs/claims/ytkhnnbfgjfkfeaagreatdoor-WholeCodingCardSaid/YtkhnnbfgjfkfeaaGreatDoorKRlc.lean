/- A further helper of the faults is walked. Conditions: those that each theorem states. -/
import Derived.Test.YtkhnnbfgjfkfeaaGreatDoorKRlb
namespace Go.Proofs.YtkhnnbfgjfkfeaaGreatDoor
open Go.RowKit Go.Proofs.YtkhnnbfgjfkfeaaGreatDoorW.PrintWords Go.Proofs.YtkhnnbfgjfkfeaaGreatDoorW.PrintLast Go.Proofs.YtkhnnbfgjfkfeaaGreatDoorW.PrintMore Go.Proofs.YtkhnnbfgjfkfeaaGreatDoor.PCod
set_option linter.unusedVariables false
set_option linter.unusedSimpArgs false
def tagC (c : Int) : Prop := (48 ≤ c ∧ c ≤ 57) ∨ (65 ≤ c ∧ c ≤ 90) ∨ (97 ≤ c ∧ c ≤ 122)
theorem tag_step (k : Nat) (s : ByteArray) (i : Int) (h1 : i < (s.size : Int)) (h0 : 0 ≤ i) (h : amanuensisref19_Tag.l0 (k + 1) s i = some true) : tagC (bt s i) ∧ amanuensisref19_Tag.l0 k s (wrap64 (i + 1)) = some true := by
  obtain ⟨c, hc⟩ : ∃ c, bt s i = c := ⟨_, rfl⟩
  obtain ⟨r, hr⟩ : ∃ r, amanuensisref19_Tag.l0 k s (wrap64 (i + 1)) = r := ⟨_, rfl⟩
  simp only [amanuensisref19_Tag.l0, hc, hr, if_pos h1, if_pos h0] at h
  rw [hc, hr]
  unfold tagC
  clear hc hr h1 h0
  repeat' split at h
  all_goals first
    | (exact absurd (Option.some.inj h) (by decide))
    | (refine ⟨?_, h⟩; omega)
theorem good_step (k : Nat) (s : ByteArray) (n i : Int) (h1 : i < n) (h0 : 0 ≤ i) (h2 : i < (s.size : Int)) (h : tagC (bt s i)) : dir_GoodTag.l0 (k + 1) s n i = dir_GoodTag.l0 k s n (wrap64 (i + 1)) := by
  obtain ⟨c, hc⟩ : ∃ c, bt s i = c := ⟨_, rfl⟩
  obtain ⟨r, hr⟩ : ∃ r, dir_GoodTag.l0 k s n (wrap64 (i + 1)) = r := ⟨_, rfl⟩
  simp only [dir_GoodTag.l0, hc, hr, if_pos h1, if_pos h0, if_pos h2]
  rw [hc] at h
  unfold tagC at h
  clear hc hr h1 h0 h2
  repeat' split
  all_goals first
    | rfl
    | omega
theorem tag_end (k : Nat) (s : ByteArray) (i : Int) (h1 : ¬ i < (s.size : Int)) (h : amanuensisref19_Tag.l0 (k + 1) s i = some true) : ((s.size : Int) == 3) = true := by
  simp only [amanuensisref19_Tag.l0, if_neg h1] at h
  exact Option.some.inj h
theorem goodtag_l (s : ByteArray) (hs : (s.size : Int) ≤ 10) : ∀ (kq j : Nat), amanuensisref19_Tag.l0 kq s (j : Int) = some true → j ≤ s.size → ∀ k, (s.size - j) + 1 ≤ k → dir_GoodTag.l0 k s (s.size : Int) (j : Int) = some true
  | 0, j, h, _, _, _ => by simp [amanuensisref19_Tag.l0] at h
  | kq + 1, j, h, hj, k + 1, hk => by
    have e2 : wrap64 ((j : Int) + 1) = ((j + 1 : Nat) : Int) := by unfold wrap64; omega
    by_cases c1 : (j : Int) < (s.size : Int)
    · obtain ⟨a1, a2⟩ := tag_step kq s (j : Int) c1 (Int.natCast_nonneg j) h
      rw [e2] at a2
      rw [good_step k s (s.size : Int) (j : Int) c1 (Int.natCast_nonneg j) c1 a1, e2]
      exact goodtag_l s hs kq (j + 1) a2 (by omega) k (by omega)
    · have a1 := tag_end kq s (j : Int) c1 h
      simp only [dir_GoodTag.l0, if_neg c1]
      rw [a1]
end Go.Proofs.YtkhnnbfgjfkfeaaGreatDoor
