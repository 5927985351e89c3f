/- Streams in parts: the pieces of a stream do not hang on how it is fed. -/
import Derived.Test.YtmaehbdpmdgpaaaPure1
namespace Go.Proofs.Ytmaehbdpmdgpaaa
set_option linter.unusedVariables false
theorem idx_append : ∀ {xs : List Int} (ys : List Int), 0 ≤ idx xs → idx (xs ++ ys) = idx xs
  | [], _, h => by simp [idx] at h
  | c :: l, ys, h => by
    show idx (c :: (l ++ ys)) = idx (c :: l)
    unfold idx at h ⊢
    by_cases hc : c = 29
    · rw [if_pos hc, if_pos hc]
    · rw [if_neg hc] at h ⊢
      rw [if_neg hc]
      by_cases hn : idx l = -1
      · rw [if_pos hn] at h; omega
      · have := idx_ge l
        rw [idx_append ys (by omega)]
theorem badP_mono {xs : List Int} {r : Nat × Bool} (ys : List Int) (en : Bool) (h : badP xs false = some r) : badP (xs ++ ys) en = some r := by
  unfold badP at h ⊢
  by_cases h0 : 0 ≤ idx xs
  · rw [if_pos h0] at h
    rw [idx_append ys h0, if_pos h0]; exact h
  · rw [if_neg h0] at h; simp at h
theorem lenP_mono {xs : List Int} (ys : List Int) (en : Bool) (h : (lenP xs false).2 = true) : lenP (xs ++ ys) en = lenP xs false := by
  unfold lenP at h ⊢
  by_cases ha : (xs.take 5).all dig = true
  · rw [if_pos ha] at h ⊢
    by_cases hl : xs.length < 5
    · rw [if_pos hl] at h; cases h
    · have e : (xs ++ ys).take 5 = xs.take 5 := by rw [List.take_append_of_le_length (by omega)]
      rw [e, if_pos ha, if_neg hl, if_neg (by rw [List.length_append]; omega)]
  · rw [if_neg ha]
    rw [if_neg]
    intro h2
    apply ha
    rw [List.all_eq_true] at h2 ⊢
    intro c hc
    apply h2
    rw [List.take_append]
    exact List.mem_append_left _ hc
theorem nextP_mono {xs : List Int} {r : Nat × Bool} (ys : List Int) (en : Bool) (h : nextP xs false = some r) : nextP (xs ++ ys) en = some r := by
  have hr := lenP_range xs false
  unfold nextP at h
  by_cases h1 : xs = []
  · rw [if_pos h1] at h; cases h
  have hne : xs ++ ys ≠ [] := by simp [h1]
  rw [if_neg h1] at h
  by_cases h2 : (lenP xs false).2 = false
  · rw [if_pos h2] at h; cases h
  rw [if_neg h2] at h
  have h2' : (lenP xs false).2 = true := by simpa using h2
  unfold nextP
  rw [if_neg hne, lenP_mono ys en h2', if_neg h2]
  by_cases h3 : (lenP xs false).1 = 0
  · rw [if_pos h3] at h ⊢; exact badP_mono ys en h
  rw [if_neg h3] at h ⊢
  by_cases h4 : (xs.length : Int) < (lenP xs false).1
  · rw [if_pos ⟨h4, rfl⟩] at h; cases h
  have hl : (lenP xs false).1 ≤ xs.length := by omega
  have e : (xs ++ ys).getD ((lenP xs false).1.toNat - 1) 0 = xs.getD ((lenP xs false).1.toNat - 1) 0 := by
    rw [List.getD_eq_getElem?_getD, List.getD_eq_getElem?_getD, List.getElem?_append_left (by omega)]
  rw [if_neg (fun hh => h4 hh.1)] at h
  rw [if_neg (fun hh => absurd hh.1 (by rw [List.length_append]; omega)), e]
  by_cases h5 : xs.getD ((lenP xs false).1.toNat - 1) 0 ≠ 29
  · rw [if_pos (.inr h5)] at h ⊢; exact badP_mono ys en h
  · rw [if_neg (fun hh => hh.elim h4 h5)] at h
    rw [if_neg (fun hh => hh.elim (by rw [List.length_append]; omega) h5)]; exact h
theorem allP_fuel (en : Bool) : ∀ (k k' : Nat) (xs : List Int) (at0 : Int), xs.length + 1 ≤ k → xs.length + 1 ≤ k' → allP k xs at0 en = allP k' xs at0 en
  | 0, _, _, _, h, _ => by omega
  | _ + 1, 0, _, _, _, h => by omega
  | k + 1, k' + 1, xs, at0, h, h' => by
    cases hr : nextP xs en with
    | none => rw [allP_none hr, allP_none hr]
    | some p =>
      obtain ⟨n, good⟩ := p
      have hn := nextP_some hr
      rw [allP_some hr, allP_some hr, allP_fuel en k k' (xs.drop n) (at0 + n) (by rw [List.length_drop]; omega) (by rw [List.length_drop]; omega)]
/-- all pieces, with fuel enough -/
def allF (xs : List Int) (at0 : Int) (en : Bool) : List (Int × Bool × List Int) × List Int × Int := allP (xs.length + 2) xs at0 en
theorem allF_none {xs : List Int} {at0 : Int} {en : Bool} (h : nextP xs en = none) : allF xs at0 en = ([], xs, at0) := allP_none h
theorem allF_some {xs : List Int} {at0 : Int} {en : Bool} {n : Nat} {good : Bool} (h : nextP xs en = some (n, good)) : allF xs at0 en = ((at0, good, xs.take n) :: (allF (xs.drop n) (at0 + n) en).1, (allF (xs.drop n) (at0 + n) en).2) := by
  have hn := nextP_some h
  unfold allF
  rw [allP_some h, allP_fuel en (xs.length + 1) ((xs.drop n).length + 2) (xs.drop n) (at0 + n) (by rw [List.length_drop]; omega) (by omega)]
theorem allF_split (ys : List Int) (en : Bool) : ∀ (m : Nat) (xs : List Int) (at0 : Int), xs.length ≤ m → allF (xs ++ ys) at0 en = ((allF xs at0 false).1 ++ (allF ((allF xs at0 false).2.1 ++ ys) (allF xs at0 false).2.2 en).1, (allF ((allF xs at0 false).2.1 ++ ys) (allF xs at0 false).2.2 en).2)
  | 0, xs, at0, h => by
    obtain rfl : xs = [] := List.eq_nil_of_length_eq_zero (by omega)
    have : allF ([] : List Int) at0 false = ([], [], at0) := allF_none rfl
    rw [this]; rfl
  | m + 1, xs, at0, h => by
    cases hr : nextP xs false with
    | none => rw [allF_none hr]; rfl
    | some p =>
      obtain ⟨n, good⟩ := p
      have hn := nextP_some hr
      rw [allF_some hr, allF_some (nextP_mono ys en hr)]
      have e1 : (xs ++ ys).take n = xs.take n := List.take_append_of_le_length hn.2
      have e2 : (xs ++ ys).drop n = xs.drop n ++ ys := List.drop_append_of_le_length hn.2
      rw [e1, e2, allF_split ys en m (xs.drop n) (at0 + n) (by rw [List.length_drop]; omega)]
      rfl
end Go.Proofs.Ytmaehbdpmdgpaaa
