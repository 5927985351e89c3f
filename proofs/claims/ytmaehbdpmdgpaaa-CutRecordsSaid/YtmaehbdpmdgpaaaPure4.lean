/- CutSoon, plain: when a piece is sure before the end. -/
import Derived.Test.YtmaehbdpmdgpaaaPure3
namespace Go.Proofs.Ytmaehbdpmdgpaaa
open Go.RowKit Go.Proofs.YtmaehbdpmdgpaaaW.PrintWords Go.Proofs.Ytmaehbdpmdgpaaa.PCut
set_option linter.unusedVariables false
set_option linter.unusedSimpArgs false
/-- how many digits open a list, five at most -/
def lead : Nat → List Int → Nat
  | 0, _ => 0
  | _, [] => 0
  | k + 1, c :: l => if dig c then lead k l + 1 else 0
/-- the law's three reasons to wait, at what is left of the stream -/
def openP (d : List Int) : Bool := (d.take (refN d).1).getD ((d.take (refN d).1).length - 1) 0 != 29
def shortP (d : List Int) : Bool := decide (lead 5 d = d.length ∧ lead 5 d < 5)
def waitP (d : List Int) : Bool := decide (lead 5 d = 5 ∧ 26 ≤ val5 (d.take 5) ∧ (d.length : Int) < val5 (d.take 5))
def breakP (d : List Int) : Bool := openP d || shortP d || waitP d
theorem lead_le : ∀ (k : Nat) (d : List Int), lead k d ≤ k ∧ lead k d ≤ d.length
  | 0, d => by simp [lead]
  | k + 1, [] => by simp [lead]
  | k + 1, c :: l => by
    have := lead_le k l
    unfold lead
    split
    · constructor
      · omega
      · rw [List.length_cons]; omega
    · simp
theorem lead_all : ∀ (k : Nat) (d : List Int), (d.take k).all dig = true → lead k d = min k d.length
  | 0, d, _ => by simp [lead]
  | k + 1, [], _ => by simp [lead]
  | k + 1, c :: l, h => by
    rw [List.take_succ_cons, List.all_cons, Bool.and_eq_true] at h
    rw [lead, if_pos h.1, lead_all k l h.2, List.length_cons]; omega
theorem lead_not : ∀ (k : Nat) (d : List Int), (d.take k).all dig = false → lead k d < k ∧ lead k d < d.length
  | 0, d, h => by simp at h
  | k + 1, [], h => by simp at h
  | k + 1, c :: l, h => by
    unfold lead
    by_cases hc : dig c = true
    · rw [if_pos hc]
      rw [List.take_succ_cons, List.all_cons, hc, Bool.true_and] at h
      have := lead_not k l h
      rw [List.length_cons]; omega
    · rw [if_neg hc]; simp
theorem idx_none : ∀ {d : List Int}, ¬ 0 ≤ idx d → ∀ c ∈ d, c ≠ 29
  | [], _, c, hc => by cases hc
  | e :: l, h, c, hc => by
    unfold idx at h
    by_cases h29 : e = 29
    · rw [if_pos h29] at h; omega
    · rw [if_neg h29] at h
      rcases List.mem_cons.1 hc with rfl | hc
      · exact h29
      · have hge := idx_ge l
        refine idx_none (d := l) (fun h0 => ?_) c hc
        rw [if_neg (by omega)] at h; omega
theorem bad_open {d : List Int} (hd : d ≠ []) (h : ¬ (26 ≤ refT d ∧ refT d ≤ d.length ∧ d.getD ((refT d).toNat - 1) 0 = 29)) : badP d false = if openP d then none else some (refN d) := by
  have hr := refN_bad h
  have hl : 0 < d.length := List.length_pos_iff.2 hd
  unfold badP openP
  rw [hr]
  by_cases h0 : 0 ≤ idx d
  · have := idx_lt d h0
    rw [if_pos h0, if_pos h0]
    have e : (d.take ((idx d).toNat + 1)).length = (idx d).toNat + 1 := by rw [List.length_take]; omega
    have e2 : (d.take ((idx d).toNat + 1)).getD ((idx d).toNat + 1 - 1) 0 = 29 := by
      rw [← this.2, List.getD_eq_getElem?_getD, List.getD_eq_getElem?_getD, List.getElem?_take, if_pos (by omega)]; rfl
    simp only [e, e2]; rfl
  · rw [if_neg h0, if_neg h0]
    have e : d.take d.length = d := List.take_length
    have e2 : (d.getD (d.length - 1) 0 != 29) = true := by
      rw [bne_iff_ne, List.getD_eq_getElem?_getD, List.getElem?_eq_getElem (by omega)]
      exact idx_none h0 _ (List.getElem_mem _)
    simp only [e, e2]; rfl
theorem soon (d : List Int) (hd : d ≠ []) : nextP d false = if breakP d then none else some (refN d) := by
  have hlt : lenP d false = if (d.take 5).all dig then (if d.length < 5 then (0, false) else if val5 (d.take 5) < 26 ∨ 99999 < val5 (d.take 5) then (0, true) else (val5 (d.take 5), true)) else (0, true) := rfl
  have hvb : (d.take 5).all dig = true → 5 ≤ d.length → val5 (d.take 5) ≤ 99999 := fun ha h5 => by
    have := (val_take d 5 (fun i hi => by
      have := List.all_eq_true.1 ha (d.getD i 0) (by
        rw [List.getD_eq_getElem?_getD, List.getElem?_eq_getElem (by omega)]
        exact List.mem_take_iff_getElem.2 ⟨i, by omega, rfl⟩)
      unfold dig at this; exact of_decide_eq_true this) h5).2
    have e : (10 : Int) ^ 5 = 100000 := by decide
    omega
  unfold nextP breakP
  rw [if_neg hd]
  by_cases ha : (d.take 5).all dig = true
  · rw [if_pos ha] at hlt
    have hle := lead_all 5 d ha
    by_cases h5 : d.length < 5
    · rw [if_pos h5] at hlt
      have hs : shortP d = true := by unfold shortP; exact decide_eq_true ⟨by omega, by omega⟩
      rw [hlt, if_pos rfl, hs]; simp
    · rw [if_neg h5] at hlt
      have hv := hvb ha (by omega)
      have ht : refT d = val5 (d.take 5) := by unfold refT numP; rw [if_pos (by omega), if_pos ha]
      have hs : shortP d = false := by unfold shortP; exact decide_eq_false (fun h => by omega)
      by_cases h26 : val5 (d.take 5) < 26 ∨ 99999 < val5 (d.take 5)
      · rw [if_pos h26] at hlt
        have hw : waitP d = false := by unfold waitP; exact decide_eq_false (fun h => by omega)
        rw [hlt, if_neg (by simp), if_pos rfl, hs, hw, Bool.or_false, Bool.or_false]
        exact bad_open hd (by rw [ht]; omega)
      · rw [if_neg h26] at hlt
        rw [hlt, if_neg (by simp), if_neg (by show ¬ val5 (d.take 5) = 0; omega)]
        by_cases hlv : (d.length : Int) < val5 (d.take 5)
        · have hw : waitP d = true := by unfold waitP; exact decide_eq_true ⟨by omega, by omega, hlv⟩
          rw [if_pos ⟨hlv, rfl⟩, hw]; simp
        · have hw : waitP d = false := by unfold waitP; exact decide_eq_false (fun h => by omega)
          rw [if_neg (fun h => hlv h.1), hs, hw, Bool.or_false, Bool.or_false]
          by_cases h29 : d.getD ((val5 (d.take 5)).toNat - 1) 0 = 29
          · have hg := refN_good (d := d) (by rw [ht]; exact ⟨by omega, by omega, h29⟩)
            rw [ht] at hg
            have ho : openP d = false := by
              unfold openP
              rw [hg]
              have e : (d.take (val5 (d.take 5)).toNat).length = (val5 (d.take 5)).toNat := by rw [List.length_take]; omega
              have e2 : (d.take (val5 (d.take 5)).toNat).getD ((val5 (d.take 5)).toNat - 1) 0 = 29 := by
                rw [← h29, List.getD_eq_getElem?_getD, List.getD_eq_getElem?_getD, List.getElem?_take, if_pos (by omega)]
              simp only [e, e2]; rfl
            rw [if_neg (fun h => h.elim hlv (fun h => h h29)), ho, hg]; rfl
          · rw [if_pos (.inr h29)]
            exact bad_open hd (by rw [ht]; exact fun h => h29 h.2.2)
  · rw [if_neg ha] at hlt
    have hn := lead_not 5 d (by simpa using ha)
    have ht : refT d = -1 := by unfold refT numP; rw [if_neg ha]; simp
    have hs : shortP d = false := by unfold shortP; exact decide_eq_false (fun h => by omega)
    have hw : waitP d = false := by unfold waitP; exact decide_eq_false (fun h => by omega)
    rw [hlt, if_neg (by simp), if_pos rfl, hs, hw, Bool.or_false, Bool.or_false]
    exact bad_open hd (by rw [ht]; omega)
/-- the law's count -/
def wantL (b : List Int) : List (Int × Bool × List Int) → Nat
  | [] => 0
  | p :: l => if breakP (b.drop p.1.toNat) then 0 else wantL b l + 1
theorem soon_take (b : List Int) : ∀ (m q : Nat), q ≤ b.length → b.length - q ≤ m → (allF (b.drop q) q false).1 = (allF (b.drop q) q true).1.take (wantL b (allF (b.drop q) q true).1)
  | m, q, hq, hm => by
    by_cases hd : b.drop q = []
    · rw [hd, show allF ([] : List Int) (q : Int) false = (([] : List (Int × Bool × List Int)), ([] : List Int), (q : Int)) from allF_none rfl]; simp [show allF ([] : List Int) (q : Int) true = (([] : List (Int × Bool × List Int)), ([] : List Int), (q : Int)) from allF_none rfl]
    · have hdl : (b.drop q).length = b.length - q := List.length_drop
      have hpos : 0 < (b.drop q).length := List.length_pos_iff.2 hd
      obtain ⟨n, good, hn⟩ : ∃ n good, refN (b.drop q) = (n, good) := ⟨_, _, rfl⟩
      have hT := refN_eq (b.drop q) hd
      rw [hn] at hT
      have hb := nextP_some hT
      have hF := soon (b.drop q) hd
      rw [hn] at hF
      cases m with
      | zero => omega
      | succ m =>
        have ih := soon_take b m (q + n) (by omega) (by omega)
        have e : (b.drop q).drop n = b.drop (q + n) := List.drop_drop
        have e2 : ((q + n : Nat) : Int) = (q : Int) + n := by omega
        rw [e2] at ih
        rw [allF_some hT, e]
        have hw : ∀ l, wantL b (((q : Int), good, (b.drop q).take n) :: l) = if breakP (b.drop q) then 0 else wantL b l + 1 := fun l => by
          rw [wantL]; simp only [Int.toNat_natCast]
        rw [hw]
        by_cases hbr : breakP (b.drop q) = true
        · rw [if_pos hbr] at hF ⊢
          rw [allF_none hF]; rfl
        · rw [if_neg hbr] at hF ⊢
          rw [allF_some hF, e, List.take_succ_cons, ← ih]
end Go.Proofs.Ytmaehbdpmdgpaaa
