/- CutSoon, plain: the reference's pieces one by one, and what the law's inner loops count. -/
import Derived.Test.YtmaehbdpmdgpaaaPure4
namespace Go.Proofs.Ytmaehbdpmdgpaaa
open Go.RowKit Go.Proofs.YtmaehbdpmdgpaaaW.PrintWords Go.Proofs.Ytmaehbdpmdgpaaa.PCut
set_option linter.unusedVariables false
set_option linter.unusedSimpArgs false
theorem allF_elem (b : List Int) : ∀ (m q : Nat), q ≤ b.length → b.length - q ≤ m → ∀ p ∈ (allF (b.drop q) q true).1, 0 ≤ p.1 ∧ p.1 < b.length ∧ p.2.2 = (b.drop p.1.toNat).take (refN (b.drop p.1.toNat)).1 ∧ 1 ≤ p.2.2.length
  | m, q, hq, hm => by
    by_cases hd : b.drop q = []
    · rw [hd, show allF ([] : List Int) (q : Int) true = (([] : List (Int × Bool × List Int)), ([] : List Int), (q : Int)) from allF_none rfl]; simp
    · have hdl : (b.drop q).length = b.length - q := List.length_drop
      have hpos : 0 < (b.drop q).length := List.length_pos_iff.2 hd
      obtain ⟨n, good, hn⟩ : ∃ n good, refN (b.drop q) = (n, good) := ⟨_, _, rfl⟩
      have hT := refN_eq (b.drop q) hd
      rw [hn] at hT
      have hb := nextP_some hT
      cases m with
      | zero => omega
      | succ m =>
        have ih := allF_elem b m (q + n) (by omega) (by omega)
        have e : (b.drop q).drop n = b.drop (q + n) := List.drop_drop
        have e2 : ((q + n : Nat) : Int) = (q : Int) + n := by omega
        rw [e2] at ih
        rw [allF_some hT, e]
        intro p hp
        rcases List.mem_cons.1 hp with rfl | hp
        · refine ⟨by simp, by simp; omega, ?_, ?_⟩
          · simp only [Int.toNat_natCast]; rw [hn]
          · show 1 ≤ ((b.drop q).take n).length
            rw [List.length_take]; omega
        · exact ih p hp
/-- an element of the reference's list, by its place -/
theorem elem_at (b : List Int) (L : List (Int × Bool × List Int)) (hL : (allF b 0 true).1 = L) (i : Int) (h0 : 0 ≤ i) (h1 : i < (L.map toT).length) :
    ∃ p : Int × Bool × List Int, rd_T37 (L.map toT) i = toT p ∧ L.drop i.toNat = p :: L.drop (i.toNat + 1) ∧ 0 ≤ p.1 ∧ p.1 < b.length ∧ p.2.2 = (b.drop p.1.toNat).take (refN (b.drop p.1.toNat)).1 ∧ 1 ≤ p.2.2.length := by
  rw [List.length_map] at h1
  have hi : i.toNat < L.length := by omega
  have hm : L[i.toNat] ∈ (allF b 0 true).1 := by
    subst hL; exact List.getElem_mem hi
  have he := allF_elem b b.length 0 (by omega) (by omega) L[i.toNat] hm
  refine ⟨L[i.toNat], ?_, ?_, he⟩
  · unfold rd_T37
    rw [List.getD_eq_getElem?_getD, List.getElem?_map, List.getElem?_eq_getElem hi]; rfl
  · exact List.drop_eq_getElem_cons hi
/-- what the law has counted -/
def WantI (b : List Int) (L : List (Int × Bool × List Int)) (i : Int) : Prop := (wantL b L : Int) = i + wantL b (L.drop i.toNat)
theorem WantI.zero (b : List Int) (L : List (Int × Bool × List Int)) : WantI b L 0 := by unfold WantI; simp
theorem WantI.stop {b : List Int} {L : List (Int × Bool × List Int)} {i : Int} (h : WantI b L i) {p : Int × Bool × List Int} (hd : L.drop i.toNat = p :: L.drop (i.toNat + 1)) (hb : breakP (b.drop p.1.toNat) = true) : i = wantL b L := by
  unfold WantI at h; rw [hd, wantL, if_pos hb] at h; omega
theorem WantI.next {b : List Int} {L : List (Int × Bool × List Int)} {i : Int} (h : WantI b L i) (h0 : 0 ≤ i) {p : Int × Bool × List Int} (hd : L.drop i.toNat = p :: L.drop (i.toNat + 1)) (hb : breakP (b.drop p.1.toNat) = false) : WantI b L (i + 1) := by
  unfold WantI at h ⊢; rw [hd, wantL, hb, if_neg (by decide)] at h
  have e : (i + 1).toNat = i.toNat + 1 := by omega
  rw [e]; omega
theorem WantI.done {b : List Int} {L : List (Int × Bool × List Int)} {i : Int} (h : WantI b L i) (hi : (L.length : Int) ≤ i) : i = wantL b L := by
  unfold WantI at h; rw [List.drop_eq_nil_of_le (by omega)] at h; simp [wantL] at h; omega
theorem wantL_le (b : List Int) : ∀ L, wantL b L ≤ L.length
  | [] => by simp [wantL]
  | p :: l => by unfold wantL; split; · simp
                 · have := wantL_le b l; rw [List.length_cons]; omega
/-- the digits so far -/
def LeadI (b : List Int) (a j : Int) : Prop := 0 ≤ j ∧ j ≤ 5 ∧ (lead 5 (b.drop a.toNat) : Int) = j + lead (5 - j.toNat) (b.drop (a.toNat + j.toNat))
theorem LeadI.zero (b : List Int) (a : Int) : LeadI b a 0 := ⟨by omega, by omega, by simp⟩
theorem drop_rd (b : List Int) (k : Int) (h0 : 0 ≤ k) (h1 : k < b.length) : b.drop k.toNat = rd b k :: b.drop (k.toNat + 1) := by
  have hi : k.toNat < b.length := by omega
  rw [List.drop_eq_getElem_cons hi]
  unfold rd
  rw [List.getD_eq_getElem?_getD, List.getElem?_eq_getElem hi]; rfl
theorem LeadI.next {b : List Int} {a j c : Int} (h : LeadI b a j) (ha : 0 ≤ a) (hj : j < 5) (hl : a + j < b.length) (hc : rd b (a + j) = c) (h1 : 48 ≤ c) (h2 : c ≤ 57) : LeadI b a (j + 1) := by
  obtain ⟨g0, g1, g2⟩ := h
  refine ⟨by omega, by omega, ?_⟩
  have e : b.drop (a.toNat + j.toNat) = c :: b.drop (a.toNat + (j + 1).toNat) := by
    have := drop_rd b (a + j) (by omega) hl
    rw [hc, show (a + j).toNat = a.toNat + j.toNat by omega] at this
    rw [this, show a.toNat + j.toNat + 1 = a.toNat + (j + 1).toNat by omega]
  obtain ⟨d, hd⟩ : ∃ d, 5 - j.toNat = d + 1 := ⟨4 - j.toNat, by omega⟩
  rw [e, hd, lead, if_pos (by unfold dig; exact decide_eq_true ⟨h1, h2⟩)] at g2
  rw [show 5 - (j + 1).toNat = d by omega]; omega
theorem LeadI.stop {b : List Int} {a j : Int} (h : LeadI b a j) (ha : 0 ≤ a) (hn : j < 5 → a + j < b.length → ¬ (48 ≤ rd b (a + j) ∧ rd b (a + j) ≤ 57)) : j = lead 5 (b.drop a.toNat) := by
  obtain ⟨g0, g1, g2⟩ := h
  rw [g2]
  by_cases hj : j < 5
  · by_cases hl : a + j < b.length
    · have e := drop_rd b (a + j) (by omega) hl
      rw [show (a + j).toNat = a.toNat + j.toNat by omega] at e
      obtain ⟨d, hd⟩ : ∃ d, 5 - j.toNat = d + 1 := ⟨4 - j.toNat, by omega⟩
      rw [e, hd, lead, if_neg (by unfold dig; rw [decide_eq_true_iff]; exact hn hj hl)]; omega
    · rw [List.drop_eq_nil_of_le (by omega)]
      have : lead (5 - j.toNat) [] = 0 := by cases (5 - j.toNat) <;> rfl
      rw [this]; omega
  · rw [show 5 - j.toNat = 0 by omega]; simp [lead]
theorem lead_dig : ∀ (k : Nat) (d : List Int) (j : Nat), j < lead k d → 48 ≤ d.getD j 0 ∧ d.getD j 0 ≤ 57
  | 0, d, j, h => by simp [lead] at h
  | k + 1, [], j, h => by simp [lead] at h
  | k + 1, c :: l, j, h => by
    unfold lead at h
    by_cases hc : dig c = true
    · rw [if_pos hc] at h
      cases j with
      | zero => unfold dig at hc; simpa using of_decide_eq_true hc
      | succ j => simpa using lead_dig k l j (by omega)
    · rw [if_neg hc] at h; omega
/-- the length so far -/
def LenI (b : List Int) (a y v : Int) : Prop := 0 ≤ y ∧ y ≤ lead 5 (b.drop a.toNat) ∧ v = val5 ((b.drop a.toNat).take y.toNat)
theorem LenI.zero (b : List Int) (a : Int) : LenI b a 0 0 := ⟨by omega, by omega, by simp [val5]⟩
theorem LenI.bound {b : List Int} {a y v : Int} (h : LenI b a y v) : 0 ≤ v ∧ v ≤ 99999 ∧ (y < 5 → v ≤ 9999) := by
  obtain ⟨g0, g1, g2⟩ := h
  have hl := lead_le 5 (b.drop a.toNat)
  have := val_take (b.drop a.toNat) y.toNat (fun j hj => lead_dig 5 _ j (by omega)) (by omega)
  rw [← g2] at this
  have hk : y.toNat = 0 ∨ y.toNat = 1 ∨ y.toNat = 2 ∨ y.toNat = 3 ∨ y.toNat = 4 ∨ y.toNat = 5 := by omega
  refine ⟨this.1, ?_, fun h5 => ?_⟩
  · have : (10 : Int) ^ y.toNat ≤ 100000 := by rcases hk with h | h | h | h | h | h <;> rw [h] <;> decide
    omega
  · have : (10 : Int) ^ y.toNat ≤ 10000 := by
      have hk : y.toNat = 0 ∨ y.toNat = 1 ∨ y.toNat = 2 ∨ y.toNat = 3 ∨ y.toNat = 4 := by omega
      rcases hk with h | h | h | h | h <;> rw [h] <;> decide
    omega
theorem LenI.step {b : List Int} {a y v j : Int} (h : LenI b a y v) (ha : 0 ≤ a) (hab : a < b.length) (hj : j = lead 5 (b.drop a.toNat)) (hy : y < j) :
    v ≤ 9999 ∧ a + y < b.length ∧ 48 ≤ rd b (a + y) ∧ rd b (a + y) ≤ 57 ∧ LenI b a (y + 1) (10 * v + (rd b (a + y) - 48)) := by
  have hb := h.bound
  obtain ⟨g0, g1, g2⟩ := h
  have hl := lead_le 5 (b.drop a.toNat)
  have hdl : (b.drop a.toNat).length = b.length - a.toNat := List.length_drop
  have e : (b.drop a.toNat).getD y.toNat 0 = rd b (a + y) := by
    unfold rd
    rw [List.getD_eq_getElem?_getD, List.getElem?_drop, List.getD_eq_getElem?_getD, show a.toNat + y.toNat = (a + y).toNat by omega]
  have hd := lead_dig 5 (b.drop a.toNat) y.toNat (by omega)
  rw [e] at hd
  refine ⟨hb.2.2 (by omega), by omega, hd.1, hd.2, by omega, by omega, ?_⟩
  rw [show (y + 1).toNat = y.toNat + 1 by omega, val_succ _ _ (by omega), e, ← g2]
/-- the law's two other reasons, as it reckons them -/
theorem short_is {b : List Int} {a j : Int} (ha : 0 ≤ a) (hab : a < b.length) (hj : j = lead 5 (b.drop a.toNat)) {b1 b2 : Bool} (h1 : (a + j == (b.length : Int)) = b1) (h2 : decide (j < 5) = b2) : shortP (b.drop a.toNat) = (b1 && b2) := by
  have hdl : (b.drop a.toNat).length = b.length - a.toNat := List.length_drop
  unfold shortP
  rw [← h1, ← h2, Bool.eq_iff_iff, decide_eq_true_iff, Bool.and_eq_true, beq_iff_eq, decide_eq_true_iff]
  constructor
  · intro h; omega
  · intro h; omega
theorem wait_is {b : List Int} {a j v : Int} (ha : 0 ≤ a) (hab : a < b.length) (hj : j = lead 5 (b.drop a.toNat)) (hv : LenI b a j v) {b4 b5 b6 : Bool} (h4 : (j == 5) = b4) (h5 : decide (26 ≤ v) = b5) (h6 : decide ((b.length : Int) < a + v) = b6) : waitP (b.drop a.toNat) = (b4 && (b5 && b6)) := by
  have hdl : (b.drop a.toNat).length = b.length - a.toNat := List.length_drop
  obtain ⟨g0, g1, g2⟩ := hv
  unfold waitP
  rw [← h4, ← h5, ← h6, Bool.eq_iff_iff, decide_eq_true_iff, Bool.and_eq_true, Bool.and_eq_true, beq_iff_eq, decide_eq_true_iff, decide_eq_true_iff]
  constructor
  · rintro ⟨k1, k2, k3⟩
    have hj5 : j.toNat = 5 := by omega
    rw [hj5] at g2
    omega
  · rintro ⟨k1, k2, k3⟩
    have hj5 : j.toNat = 5 := by omega
    rw [hj5] at g2
    omega
end Go.Proofs.Ytmaehbdpmdgpaaa
