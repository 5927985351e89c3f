/- CutRecords, plain: records, one behind the other, with "x" 1d ahead of each: these are the pieces. -/
import Derived.Test.YtmaehbdpmdgpaaaCfd
namespace Go.Proofs.Ytmaehbdpmdgpaaa
open Go.Proofs.Ytmaehbdpmdgpaaa.PCut
set_option linter.unusedVariables false
set_option linter.unusedSimpArgs false
def recL : List (List Int) → List Int
  | [] => []
  | r :: l => [120, 29] ++ (r ++ recL l)
def recP : Int → List (List Int) → List (Int × Bool × List Int)
  | _, [] => []
  | a, r :: l => (a, false, [120, 29]) :: (a + 2, true, r) :: recP (a + 2 + r.length) l
theorem next_x : nextP [120, 29] false = some (2, false) := by decide
theorem next_rec {r : List Int} (h : GoodRec r) : nextP r false = some (r.length, true) := by
  obtain ⟨h26, h9, hd, hv, h29⟩ := h
  have hl : lenP r false = (val5 (r.take 5), true) := by
    unfold lenP
    rw [if_pos hd, if_neg (by omega), if_neg (by omega)]
  have hne : r ≠ [] := by intro e; rw [e] at h26; simp at h26
  unfold nextP
  rw [if_neg hne, hl, if_neg (by simp), if_neg (by show ¬ val5 (r.take 5) = 0; omega), if_neg (by show ¬ ((r.length : Int) < val5 (r.take 5) ∧ _); omega)]
  show (if (r.length : Int) < val5 (r.take 5) ∨ r.getD ((val5 (r.take 5)).toNat - 1) 0 ≠ 29 then badP r false else some ((val5 (r.take 5)).toNat, true)) = some (r.length, true)
  rw [hv, Int.toNat_natCast, if_neg (by rw [h29]; simp)]
theorem rec_all : ∀ (l : List (List Int)) (a : Int), (∀ r ∈ l, GoodRec r) → allF (recL l) a false = (recP a l, [], a + (recL l).length)
  | [], a, _ => by
    have : allF ([] : List Int) a false = ([], [], a) := allF_none rfl
    simp [recL, recP, this]
  | r :: l, a, h => by
    have hr := h r (by simp)
    have h1 : nextP ([120, 29] ++ (r ++ recL l)) false = some (2, false) := nextP_mono _ _ next_x
    have h2 : nextP (r ++ recL l) false = some (r.length, true) := nextP_mono _ _ (next_rec hr)
    have ih := rec_all l (a + 2 + r.length) (fun q hq => h q (List.mem_cons_of_mem _ hq))
    have e1 : ([120, 29] ++ (r ++ recL l)).drop 2 = r ++ recL l := rfl
    have e2 : ([120, 29] ++ (r ++ recL l)).take 2 = [120, 29] := rfl
    have e3 : (r ++ recL l).drop r.length = recL l := List.drop_left
    have e4 : (r ++ recL l).take r.length = r := List.take_left
    show allF ([120, 29] ++ (r ++ recL l)) a false = _
    rw [allF_some h1, e1, e2]
    have e5 : ((2 : Nat) : Int) = 2 := rfl
    rw [e5, allF_some h2, e3, e4, ih]
    show (_, ([] : List Int), _) = (recP a (r :: l), [], _)
    have e6 : a + 2 + (r.length : Int) + ((recL l).length : Int) = a + ((recL (r :: l)).length : Int) := by
      show _ = a + (([120, 29] ++ (r ++ recL l)).length : Int)
      rw [List.length_append, List.length_append]; simp; omega
    rw [e6]; rfl
theorem rec_len : ∀ (l : List (List Int)) (a : Int), (recP a l).length = 2 * l.length
  | [], _ => rfl
  | r :: l, a => by simp only [recP, List.length_cons, rec_len l]; omega
theorem rec_even : ∀ (l : List (List Int)) (a : Int) (i : Nat), i < l.length → ∃ b, ((recP a l).map toS).getD (2 * i) z34 = ⟨b, false, [120, 29]⟩
  | r :: l, a, 0, _ => ⟨a, rfl⟩
  | r :: l, a, i + 1, h => by
    obtain ⟨b, hb⟩ := rec_even l (a + 2 + r.length) i (by simpa using h)
    exact ⟨b, by rw [show 2 * (i + 1) = 2 * i + 1 + 1 by omega]; simp only [recP, List.map_cons, List.getD_cons_succ]; exact hb⟩
theorem rec_odd : ∀ (l : List (List Int)) (a : Int) (i : Nat), i < l.length → ∃ b, ((recP a l).map toS).getD (2 * i + 1) z34 = ⟨b, true, l.getD i []⟩
  | r :: l, a, 0, _ => ⟨a + 2, rfl⟩
  | r :: l, a, i + 1, h => by
    obtain ⟨b, hb⟩ := rec_odd l (a + 2 + r.length) i (by simpa using h)
    exact ⟨b, by rw [show 2 * (i + 1) + 1 = 2 * i + 1 + 1 + 1 by omega]; simp only [recP, List.map_cons, List.getD_cons_succ]; exact hb⟩
theorem recL_snoc (l : List (List Int)) (r : List Int) : recL (l ++ [r]) = (recL l ++ [120, 29]) ++ r := by
  induction l with
  | nil => simp [recL]
  | cons q l ih => simp only [List.cons_append, recL, ih, List.append_assoc]
end Go.Proofs.Ytmaehbdpmdgpaaa
