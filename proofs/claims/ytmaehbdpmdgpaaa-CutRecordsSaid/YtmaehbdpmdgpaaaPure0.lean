/- What the cutter does, as plain functions on lists: how long the next piece is, and which ones there are. No program in sight. -/
import Derived.RowKit
namespace Go.Proofs.Ytmaehbdpmdgpaaa

def dig (c : Int) : Bool := decide (48 ≤ c ∧ c ≤ 57)
def val5 (l : List Int) : Int := l.foldl (fun v c => 10 * v + (c - 48)) 0
/-- what the first bytes tell: the length, and whether that is sure -/
def lenP (xs : List Int) (en : Bool) : Int × Bool :=
  if (xs.take 5).all dig then (if xs.length < 5 then (0, en) else if val5 (xs.take 5) < 26 ∨ 99999 < val5 (xs.take 5) then (0, true) else (val5 (xs.take 5), true)) else (0, true)
/-- where the first byte 1d stands; -1: nowhere -/
def idx : List Int → Int
  | [] => -1
  | c :: l => if c = 29 then 0 else if idx l = -1 then -1 else idx l + 1
def badP (xs : List Int) (en : Bool) : Option (Nat × Bool) :=
  if 0 ≤ idx xs then some ((idx xs).toNat + 1, false) else if en then some (xs.length, false) else none
/-- the next piece: how many bytes, and whether it is good; none: it is not sure yet -/
def nextP (xs : List Int) (en : Bool) : Option (Nat × Bool) :=
  if xs = [] then none
  else if (lenP xs en).2 = false then none
  else if (lenP xs en).1 = 0 then badP xs en
  else if (xs.length : Int) < (lenP xs en).1 ∧ en = false then none
  else if (xs.length : Int) < (lenP xs en).1 ∨ xs.getD ((lenP xs en).1.toNat - 1) 0 ≠ 29 then badP xs en
  else some ((lenP xs en).1.toNat, true)

theorem idx_ge (l : List Int) : -1 ≤ idx l := by
  induction l with
  | nil => simp [idx]
  | cons c l ih => unfold idx; split; · omega
                   · split <;> omega
theorem idx_lt (l : List Int) (h : 0 ≤ idx l) : (idx l).toNat < l.length ∧ l.getD (idx l).toNat 0 = 29 := by
  induction l with
  | nil => simp [idx] at h
  | cons c l ih =>
    unfold idx at h ⊢
    by_cases hc : c = 29
    · simp [hc]
    · rw [if_neg hc] at h ⊢
      by_cases hn : idx l = -1
      · rw [if_pos hn] at h; omega
      · rw [if_neg hn] at h ⊢
        have := idx_ge l
        have h2 := ih (by omega)
        have e : (idx l + 1).toNat = (idx l).toNat + 1 := by omega
        rw [e]
        exact ⟨by simp; exact h2.1, by simpa using h2.2⟩
theorem val5_bound (l : List Int) (h : ∀ c ∈ l, 48 ≤ c ∧ c ≤ 57) : ∀ v : Int, 0 ≤ v → 0 ≤ l.foldl (fun v c => 10 * v + (c - 48)) v := by
  induction l with
  | nil => intro v hv; exact hv
  | cons c l ih =>
    intro v hv
    have := h c (by simp)
    exact ih (fun x hx => h x (List.mem_cons_of_mem _ hx)) (10 * v + (c - 48)) (by omega)
theorem lenP_bad (xs : List Int) (en : Bool) (k : Nat) (h5 : k < 5) (hk : k < xs.length) (hd : dig (xs.getD k 0) = false) : lenP xs en = (0, true) := by
  unfold lenP
  rw [if_neg]
  intro h
  have := List.all_eq_true.1 h (xs.getD k 0) (by
    rw [List.getD_eq_getElem?_getD, List.getElem?_eq_getElem hk]
    exact List.mem_take_iff_getElem.2 ⟨k, by omega, rfl⟩)
  rw [hd] at this; cases this
theorem all_dig (xs : List Int) (k : Nat) (h : ∀ j, j < k → j < xs.length → dig (xs.getD j 0) = true) : (xs.take k).all dig = true := by
  rw [List.all_eq_true]
  intro c hc
  obtain ⟨j, hj, e⟩ := List.mem_take_iff_getElem.1 hc
  have := h j (by omega) (by omega)
  rw [List.getD_eq_getElem?_getD, List.getElem?_eq_getElem (by omega)] at this
  rw [← e]; exact this
theorem lenP_range (xs : List Int) (en : Bool) : 0 ≤ (lenP xs en).1 ∧ (lenP xs en).1 ≤ 99999 ∧ ((lenP xs en).1 ≠ 0 → 26 ≤ (lenP xs en).1) := by
  unfold lenP
  repeat' split
  all_goals simp
  rename_i h
  omega
theorem nextP_some {xs : List Int} {en : Bool} {n : Nat} {good : Bool} (h : nextP xs en = some (n, good)) : 1 ≤ n ∧ n ≤ xs.length := by
  have hb : ∀ {n good}, xs ≠ [] → badP xs en = some (n, good) → 1 ≤ n ∧ n ≤ xs.length := by
    intro n good hne h
    have hl : 0 < xs.length := List.length_pos_iff.2 hne
    unfold badP at h
    split at h
    · rename_i h0
      have := idx_lt xs h0
      injection h with h; injection h with h1 h2; omega
    · split at h
      · injection h with h; injection h with h1 h2; omega
      · cases h
  have hr := lenP_range xs en
  unfold nextP at h
  by_cases h1 : xs = []
  · rw [if_pos h1] at h; cases h
  · rw [if_neg h1] at h
    by_cases h2 : (lenP xs en).2 = false
    · rw [if_pos h2] at h; cases h
    · rw [if_neg h2] at h
      by_cases h3 : (lenP xs en).1 = 0
      · rw [if_pos h3] at h; exact hb h1 h
      · rw [if_neg h3] at h
        by_cases h4 : (xs.length : Int) < (lenP xs en).1 ∧ en = false
        · rw [if_pos h4] at h; cases h
        · rw [if_neg h4] at h
          by_cases h5 : (xs.length : Int) < (lenP xs en).1 ∨ xs.getD ((lenP xs en).1.toNat - 1) 0 ≠ 29
          · rw [if_pos h5] at h; exact hb h1 h
          · rw [if_neg h5] at h
            injection h with h; injection h with h6 h7; omega
/-- all pieces that are sure: where each begins, whether it is good, its bytes; what is left, and where that begins -/
def allP : Nat → List Int → Int → Bool → List (Int × Bool × List Int) × List Int × Int
  | 0, xs, at0, _ => ([], xs, at0)
  | k + 1, xs, at0, en => match nextP xs en with
    | none => ([], xs, at0)
    | some (n, good) => let r := allP k (xs.drop n) (at0 + n) en; ((at0, good, xs.take n) :: r.1, r.2)
end Go.Proofs.Ytmaehbdpmdgpaaa
