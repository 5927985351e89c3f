/- ref.Cut is 'all' of the whole stream, ended; and 'same' of alike lists. -/
import Derived.Test.YtmaehbdpmdgpaaaPure2
import Derived.Test.YtmaehbdpmdgpaaaPCutx3
namespace Go.Proofs.Ytmaehbdpmdgpaaa
open Go.RowKit Go.Proofs.YtmaehbdpmdgpaaaW.PrintWords Go.Proofs.YtmaehbdpmdgpaaaW.PrintLast Go.Proofs.YtmaehbdpmdgpaaaW.PrintMore Go.Proofs.Ytmaehbdpmdgpaaa.PCut
set_option linter.unusedVariables false
set_option linter.unusedSimpArgs false
def toT (p : Int × Bool × List Int) : S37 := ⟨p.1, p.2.1, p.2.2⟩
def numP (l : List Int) : Int := if l.all dig then val5 l else -1
theorem num_l (l : List Int) (hb : l.length ≤ 5) : ∀ (d j : Nat), j + d = l.length → (l.take j).all dig = true → ∀ k, d + 1 ≤ k → amanuensisref19_num.l0 k l (val5 (l.take j)) j = some (numP l)
  | 0, j, hj, ha, k + 1, hk => by
    rw [amanuensisref19_num.l0, if_neg (by omega)]
    have e : l.take j = l := List.take_of_length_le (by omega)
    rw [e] at ha ⊢
    unfold numP; rw [if_pos ha]
  | d + 1, j, hj, ha, k + 1, hk => by
    have hd : ∀ i, i < j → 48 ≤ l.getD i 0 ∧ l.getD i 0 ≤ 57 := fun i hi => by
      have := List.all_eq_true.1 ha (l.getD i 0) (by
        rw [List.getD_eq_getElem?_getD, List.getElem?_eq_getElem (by omega)]
        exact List.mem_take_iff_getElem.2 ⟨i, by omega, rfl⟩)
      unfold dig at this; exact of_decide_eq_true this
    have hv := val_take l j hd (by omega)
    have hv2 : val5 (l.take j) ≤ 10000 := by
      have : (10 : Int) ^ j ≤ 10000 := by
        have : j = 0 ∨ j = 1 ∨ j = 2 ∨ j = 3 ∨ j = 4 := by omega
        rcases this with rfl | rfl | rfl | rfl | rfl <;> decide
      omega
    have hvv := val_succ l j (by omega)
    have hrd : rd l (j : Int) = l.getD j 0 := rfl
    have et : l.take (j + 1) = l.take j ++ [l.getD j 0] := by
      rw [List.take_succ_eq_append_getElem (by omega), List.getD_eq_getElem?_getD, List.getElem?_eq_getElem (by omega)]; rfl
    have hmem : l.getD j 0 ∈ l := by rw [List.getD_eq_getElem?_getD, List.getElem?_eq_getElem (by omega)]; exact List.getElem_mem _
    rw [amanuensisref19_num.l0, if_pos (by omega), if_pos (by omega), hrd]
    by_cases c1 : l.getD j 0 < 48
    · rw [if_pos c1]
      unfold numP; rw [if_neg]
      intro hh
      have := List.all_eq_true.1 hh _ hmem
      unfold dig at this; have := of_decide_eq_true this; omega
    rw [if_neg c1]
    by_cases c2 : l.getD j 0 > 57
    · rw [if_pos c2]
      unfold numP; rw [if_neg]
      intro hh
      have := List.all_eq_true.1 hh _ hmem
      unfold dig at this; have := of_decide_eq_true this; omega
    rw [if_neg c2]
    have e1 : wrap64 (10 * val5 (l.take j)) = 10 * val5 (l.take j) := by unfold wrap64; omega
    have e2 : (l.getD j 0 - 48) % 256 = l.getD j 0 - 48 := by omega
    rw [e1, e2]
    have e3 : wrap64 (10 * val5 (l.take j) + (l.getD j 0 - 48)) = val5 (l.take (j + 1)) := by rw [hvv]; unfold wrap64; omega
    have e4 : wrap64 ((j : Int) + 1) = ((j + 1 : Nat) : Int) := by unfold wrap64; omega
    rw [e3, e4]
    refine num_l l hb d (j + 1) (by omega) ?_ k (by omega)
    have hdg : dig (l.getD j 0) = true := by unfold dig; exact decide_eq_true ⟨by omega, by omega⟩
    rw [et, List.all_append, ha, List.all_cons, hdg]; rfl
theorem num_eq (l : List Int) (hb : l.length ≤ 5) (k : Nat) (hk : 7 ≤ k) : amanuensisref19_num.f k l = some (numP l) := by
  unfold amanuensisref19_num.f
  exact num_l l hb l.length 0 (by omega) rfl k (by omega)
/-- the next piece as ref.Cut finds it -/
def refT (d : List Int) : Int := if 5 ≤ d.length then numP (d.take 5) else -1
def refN (d : List Int) : Nat × Bool :=
  if 26 ≤ refT d ∧ refT d ≤ d.length ∧ d.getD ((refT d).toNat - 1) 0 = 29 then ((refT d).toNat, true) else if 0 ≤ idx d then ((idx d).toNat + 1, false) else (d.length, false)
theorem refN_bad {d : List Int} (h : ¬ (26 ≤ refT d ∧ refT d ≤ d.length ∧ d.getD ((refT d).toNat - 1) 0 = 29)) : refN d = if 0 ≤ idx d then ((idx d).toNat + 1, false) else (d.length, false) := by
  unfold refN; rw [if_neg h]
theorem refN_good {d : List Int} (h : 26 ≤ refT d ∧ refT d ≤ d.length ∧ d.getD ((refT d).toNat - 1) 0 = 29) : refN d = ((refT d).toNat, true) := by
  unfold refN; rw [if_pos h]
theorem refN_eq (d : List Int) (hd : d ≠ []) : nextP d true = some (refN d) := by
  have hb : badP d true = some (if 0 ≤ idx d then ((idx d).toNat + 1, false) else (d.length, false)) := by
    unfold badP; split <;> simp
  unfold nextP
  rw [if_neg hd, hb]
  have hlt : lenP d true = if (d.take 5).all dig then (if d.length < 5 then (0, true) else if val5 (d.take 5) < 26 ∨ 99999 < val5 (d.take 5) then (0, true) else (val5 (d.take 5), true)) else (0, true) := rfl
  have hvb : (d.take 5).all dig = true → 5 ≤ d.length → val5 (d.take 5) ≤ 99999 := fun ha h5 => by
    have := (val_take d 5 (fun i hi => by
      have := List.all_eq_true.1 ha (d.getD i 0) (by
        rw [List.getD_eq_getElem?_getD, List.getElem?_eq_getElem (by omega)]
        exact List.mem_take_iff_getElem.2 ⟨i, by omega, rfl⟩)
      unfold dig at this; exact of_decide_eq_true this) h5).2
    have e : (10 : Int) ^ 5 = 100000 := by decide
    omega
  by_cases ha : (d.take 5).all dig = true
  · rw [if_pos ha] at hlt
    by_cases h5 : d.length < 5
    · rw [if_pos h5] at hlt
      have ht : refT d = -1 := by unfold refT; rw [if_neg (by omega)]
      rw [hlt, if_neg (by decide), if_pos rfl, refN_bad (by rw [ht]; omega)]
    · rw [if_neg h5] at hlt
      have ht : refT d = val5 (d.take 5) := by unfold refT numP; rw [if_pos (by omega), if_pos ha]
      have hv := hvb ha (by omega)
      by_cases h26 : val5 (d.take 5) < 26 ∨ 99999 < val5 (d.take 5)
      · rw [if_pos h26] at hlt
        rw [hlt, if_neg (by decide), if_pos rfl, refN_bad (by rw [ht]; omega)]
      · rw [if_neg h26] at hlt
        rw [hlt, if_neg (by simp), if_neg (by show ¬ val5 (d.take 5) = 0; omega), if_neg (by simp)]
        by_cases hc : (d.length : Int) < val5 (d.take 5) ∨ d.getD ((val5 (d.take 5)).toNat - 1) 0 ≠ 29
        · rw [if_pos hc, refN_bad (by rw [ht]; exact fun h => hc.elim (fun h2 => by omega) (fun h2 => h2 h.2.2))]
        · rw [if_neg hc, refN_good (by rw [ht]; exact ⟨by omega, by omega, by
            by_cases h8 : d.getD ((val5 (d.take 5)).toNat - 1) 0 = 29
            · exact h8
            · exact absurd (Or.inr h8) hc⟩), ht]
  · rw [if_neg ha] at hlt
    have ht : refT d = -1 := by unfold refT numP; split <;> simp [ha]
    rw [hlt, if_neg (by decide), if_pos rfl, refN_bad (by rw [ht]; omega)]
theorem l1_eq (xs : List Int) (hx : xs.length ≤ 1000000) (x3 : List S37) (hx3 : x3.length < 3518437208883) (p : Nat) : ∀ (d j : Nat), j + d = xs.length → p ≤ j →
    ∃ s, s ≤ d + 1 ∧ ∀ k, amanuensisref19_Cut.l1 (k + s) xs x3 p j = amanuensisref19_Cut.l0 k xs (x3 ++ [⟨p, false, (xs.take (if 0 ≤ idx (xs.drop j) then j + (idx (xs.drop j)).toNat + 1 else xs.length)).drop p⟩]) (if 0 ≤ idx (xs.drop j) then j + (idx (xs.drop j)).toNat + 1 else xs.length : Nat)
  | 0, j, hj, hp => by
    have e : xs.drop j = [] := List.drop_eq_nil_of_le (by omega)
    obtain rfl : j = xs.length := by omega
    refine ⟨1, by omega, fun k => ?_⟩
    rw [e, amanuensisref19_Cut.l1, if_neg (by omega), if_pos (by omega), if_pos (by omega), if_pos (by omega), if_pos hx3]
    rfl
  | d + 1, j, hj, hp => by
    have hrd : rd xs (j : Int) = xs.getD j 0 := rfl
    have hdr : xs.drop j = xs.getD j 0 :: xs.drop (j + 1) := by
      rw [List.drop_eq_getElem_cons (by omega), List.getD_eq_getElem?_getD, List.getElem?_eq_getElem (by omega)]; rfl
    by_cases h29 : xs.getD j 0 = 29
    · have hi : idx (xs.drop j) = 0 := by rw [hdr, idx, if_pos h29]
      refine ⟨1, by omega, fun k => ?_⟩
      have e4 : wrap64 ((j : Int) + 1) = ((j + 1 : Nat) : Int) := by unfold wrap64; omega
      rw [hi, if_pos (by omega), amanuensisref19_Cut.l1, if_pos (by omega), if_pos (by omega), hrd, if_pos h29, e4, if_pos (by omega), if_pos (by omega), if_pos (by omega), if_pos hx3]
      rfl
    · obtain ⟨s, hs, h⟩ := l1_eq xs hx x3 hx3 p d (j + 1) (by omega) (by omega)
      refine ⟨s + 1, by omega, fun k => ?_⟩
      have e4 : wrap64 ((j : Int) + 1) = ((j + 1 : Nat) : Int) := by unfold wrap64; omega
      have hi : idx (xs.drop j) = if idx (xs.drop (j + 1)) = -1 then -1 else idx (xs.drop (j + 1)) + 1 := by rw [hdr, idx, if_neg h29]
      have hge := idx_ge (xs.drop (j + 1))
      have en : (if 0 ≤ idx (xs.drop j) then j + (idx (xs.drop j)).toNat + 1 else xs.length) = (if 0 ≤ idx (xs.drop (j + 1)) then (j + 1) + (idx (xs.drop (j + 1))).toNat + 1 else xs.length) := by
        rw [hi]
        by_cases hm : idx (xs.drop (j + 1)) = -1
        · rw [if_pos hm, hm]; simp
        · rw [if_neg hm, if_pos (by omega), if_pos (by omega)]; omega
      rw [en, ← h]
      show amanuensisref19_Cut.l1 (k + s + 1) xs x3 p j = _
      rw [amanuensisref19_Cut.l1, if_pos (by omega), if_pos (by omega), hrd, if_neg h29, e4]
theorem cut_step (xs : List Int) (hx : xs.length ≤ 1000000) (x3 : List S37) (hx3 : x3.length < 3518437208883) (p : Nat) (hp : p < xs.length) :
    ∃ s, s ≤ xs.length + 10 ∧ ∀ k, 20 ≤ k → amanuensisref19_Cut.l0 (k + s) xs x3 p = amanuensisref19_Cut.l0 k xs (x3 ++ [⟨p, (refN (xs.drop p)).2, (xs.drop p).take (refN (xs.drop p)).1⟩]) (p + (refN (xs.drop p)).1 : Nat) := by
  have hdl : (xs.drop p).length = xs.length - p := List.length_drop
  have hbad : ∃ s, s ≤ xs.length + 2 ∧ ∀ k', amanuensisref19_Cut.j2 (k' + s) xs x3 p (refT (xs.drop p)) false = amanuensisref19_Cut.l0 k' xs (x3 ++ [⟨p, false, (xs.drop p).take (if 0 ≤ idx (xs.drop p) then (idx (xs.drop p)).toNat + 1 else (xs.drop p).length)⟩]) (p + (if 0 ≤ idx (xs.drop p) then (idx (xs.drop p)).toNat + 1 else (xs.drop p).length) : Nat) := by
    obtain ⟨s, hs, h⟩ := l1_eq xs hx x3 hx3 p (xs.length - p) p (by omega) (by omega)
    refine ⟨s + 1, by omega, fun k' => ?_⟩
    show amanuensisref19_Cut.j2 (k' + s + 1) xs x3 p (refT (xs.drop p)) false = _
    rw [amanuensisref19_Cut.j2, if_neg (by decide), h]
    have e : (if 0 ≤ idx (xs.drop p) then p + (idx (xs.drop p)).toNat + 1 else xs.length) = p + (if 0 ≤ idx (xs.drop p) then (idx (xs.drop p)).toNat + 1 else (xs.drop p).length) := by
      split
      · omega
      · rw [hdl]; omega
    rw [e]
    have e2 : ∀ n, (xs.take (p + n)).drop p = (xs.drop p).take n := fun n => by rw [List.drop_take]; congr 1; omega
    rw [e2]
  have hj1 : ∃ s, s ≤ xs.length + 4 ∧ ∀ k', amanuensisref19_Cut.j1 (k' + s) xs x3 p (refT (xs.drop p)) = amanuensisref19_Cut.l0 k' xs (x3 ++ [⟨p, (refN (xs.drop p)).2, (xs.drop p).take (refN (xs.drop p)).1⟩]) (p + (refN (xs.drop p)).1 : Nat) := by
    by_cases hg : 26 ≤ refT (xs.drop p) ∧ refT (xs.drop p) ≤ (xs.drop p).length ∧ (xs.drop p).getD ((refT (xs.drop p)).toNat - 1) 0 = 29
    · obtain ⟨t, ht⟩ : ∃ t : Nat, refT (xs.drop p) = t := ⟨(refT (xs.drop p)).toNat, by omega⟩
      have hr : refN (xs.drop p) = (t, true) := by unfold refN; rw [if_pos hg, ht]; rfl
      rw [ht] at hg
      obtain ⟨q1, q2, q3⟩ := hg
      rw [hr, ht]
      refine ⟨2, by omega, fun k' => ?_⟩
      have e1 : wrap64 ((p : Int) + t) = ((p + t : Nat) : Int) := by unfold wrap64; omega
      have e2 : wrap64 (((p + t : Nat) : Int) - 1) = ((p + t - 1 : Nat) : Int) := by unfold wrap64; omega
      have e3 : rd xs ((p + t - 1 : Nat) : Int) = 29 := by
        show xs.getD (p + t - 1) 0 = 29
        rw [← q3, List.getD_eq_getElem?_getD, List.getD_eq_getElem?_getD, List.getElem?_drop]
        congr 2
        omega
      have e4 : ((xs.take (p + t)).drop p) = (xs.drop p).take t := by rw [List.drop_take]; congr 1; omega
      show amanuensisref19_Cut.j1 (k' + 1 + 1) xs x3 p t = _
      rw [amanuensisref19_Cut.j1, if_pos (by omega), e1, if_pos (by omega), e2, if_pos (by omega), if_pos (by omega), e3]
      show amanuensisref19_Cut.j2 (k' + 1) xs x3 p t true = _
      rw [amanuensisref19_Cut.j2, if_pos rfl, e1, if_pos (by omega), if_pos (by omega), if_pos (by omega), if_pos hx3]
      show amanuensisref19_Cut.l0 k' xs (x3 ++ [⟨p, true, (xs.take (p + t)).drop p⟩]) _ = _
      rw [e4]
    · have hr : refN (xs.drop p) = (if 0 ≤ idx (xs.drop p) then (idx (xs.drop p)).toNat + 1 else (xs.drop p).length, false) := by
        unfold refN; rw [if_neg hg]; split <;> rfl
      rw [hr]
      obtain ⟨s, hs, h⟩ := hbad
      refine ⟨s + 1, by omega, fun k' => ?_⟩
      rw [← h]
      show amanuensisref19_Cut.j1 (k' + s + 1) xs x3 p (refT (xs.drop p)) = _
      rw [amanuensisref19_Cut.j1]
      by_cases c1 : refT (xs.drop p) ≥ 26
      · rw [if_pos c1]
        have hT : refT (xs.drop p) ≤ 100000 := by
          have h1 := refN_eq (xs.drop p) (by intro e; rw [e] at hdl; simp at hdl; omega)
          unfold refT numP at c1 ⊢
          split
          · split
            · rename_i h5 ha
              have := (val_take (xs.drop p) 5 (fun i hi => by
                have := List.all_eq_true.1 ha ((xs.drop p).getD i 0) (by
                  rw [List.getD_eq_getElem?_getD, List.getElem?_eq_getElem (by omega)]
                  exact List.mem_take_iff_getElem.2 ⟨i, by omega, rfl⟩)
                unfold dig at this; exact of_decide_eq_true this) h5).2
              have e : (10 : Int) ^ 5 = 100000 := by decide
              omega
            · omega
          · omega
        obtain ⟨t, ht⟩ : ∃ t : Nat, refT (xs.drop p) = t := ⟨(refT (xs.drop p)).toNat, by omega⟩
        rw [ht] at hg c1 hT ⊢
        have e1 : wrap64 ((p : Int) + t) = ((p + t : Nat) : Int) := by unfold wrap64; omega
        have e2 : wrap64 (((p + t : Nat) : Int) - 1) = ((p + t - 1 : Nat) : Int) := by unfold wrap64; omega
        rw [e1]
        by_cases c2 : ((p + t : Nat) : Int) ≤ xs.length
        · rw [if_pos c2, e2, if_pos (by omega), if_pos (by omega)]
          have e3 : (rd xs ((p + t - 1 : Nat) : Int) == 29) = false := by
            rw [beq_eq_false_iff_ne]
            intro e3
            apply hg
            refine ⟨by omega, by rw [hdl]; omega, ?_⟩
            rw [← e3]
            show _ = xs.getD (p + t - 1) 0
            rw [List.getD_eq_getElem?_getD, List.getD_eq_getElem?_getD, List.getElem?_drop]
            congr 2
            omega
          rw [e3]
        · rw [if_neg c2]
      · rw [if_neg c1]
  obtain ⟨s, hs, h⟩ := hj1
  refine ⟨s + 1, by omega, fun k hk => ?_⟩
  rw [← h]
  show amanuensisref19_Cut.l0 (k + s + 1) xs x3 p = _
  have e1 : wrap64 ((p : Int) + 5) = ((p + 5 : Nat) : Int) := by unfold wrap64; omega
  rw [amanuensisref19_Cut.l0, if_pos (by omega), e1]
  by_cases c5 : ((p + 5 : Nat) : Int) ≤ xs.length
  · rw [if_pos c5, if_pos (by omega), if_pos (by omega)]
    have e4 : ((xs.take (((p + 5 : Nat) : Int)).toNat).drop ((p : Int)).toNat) = (xs.drop p).take 5 := by
      rw [Int.toNat_natCast, Int.toNat_natCast, List.drop_take]; congr 1; omega
    rw [e4, num_eq _ (by rw [List.length_take]; omega) _ (by omega)]
    show amanuensisref19_Cut.j1 (k + s) xs x3 p (numP ((xs.drop p).take 5)) = _
    have : refT (xs.drop p) = numP ((xs.drop p).take 5) := by unfold refT; rw [if_pos (by rw [hdl]; omega)]
    rw [this]
  · rw [if_neg c5]
    have : refT (xs.drop p) = -1 := by unfold refT; rw [if_neg (by rw [hdl]; omega)]
    rw [this]
theorem cut_all (xs : List Int) (hx : xs.length ≤ 1000000) : ∀ (m p : Nat), p ≤ xs.length → xs.length - p ≤ m → ∃ k0, ∀ k, k0 ≤ k → ∀ x3 : List S37, x3.length + (xs.length - p) < 3518437208883 →
    amanuensisref19_Cut.l0 k xs x3 p = some (x3 ++ (allF (xs.drop p) p true).1.map toT) := by
  intro m
  induction m with
  | zero =>
    intro p hp hm
    have e : xs.drop p = [] := List.drop_eq_nil_of_le (by omega)
    refine ⟨1, fun k hk x3 _ => ?_⟩
    obtain ⟨k, rfl⟩ : ∃ k', k = k' + 1 := ⟨k - 1, by omega⟩
    have e2 : allF ([] : List Int) (p : Int) true = (([] : List (Int × Bool × List Int)), ([] : List Int), (p : Int)) := allF_none rfl
    rw [amanuensisref19_Cut.l0, if_neg (by omega), e, e2]; simp
  | succ m ih =>
    intro p hp hm
    by_cases hpl : p = xs.length
    · have e : xs.drop p = [] := List.drop_eq_nil_of_le (by omega)
      refine ⟨1, fun k hk x3 _ => ?_⟩
      obtain ⟨k, rfl⟩ : ∃ k', k = k' + 1 := ⟨k - 1, by omega⟩
      have e2 : allF ([] : List Int) (p : Int) true = (([] : List (Int × Bool × List Int)), ([] : List Int), (p : Int)) := allF_none rfl
      rw [amanuensisref19_Cut.l0, if_neg (by omega), e, e2]; simp
    · have hdl : (xs.drop p).length = xs.length - p := List.length_drop
      have hnx := refN_eq (xs.drop p) (by intro e; rw [e] at hdl; simp at hdl; omega)
      obtain ⟨n, good, hn⟩ : ∃ n good, refN (xs.drop p) = (n, good) := ⟨_, _, rfl⟩
      rw [hn] at hnx
      have hb := nextP_some hnx
      obtain ⟨k0, h0⟩ := ih (p + n) (by omega) (by omega)
      refine ⟨k0 + xs.length + 40, fun k hk x3 hx3 => ?_⟩
      obtain ⟨s, hs, h⟩ := cut_step xs hx x3 (by omega) p (by omega)
      obtain ⟨k1, rfl⟩ : ∃ k1, k = k1 + s := ⟨k - s, by omega⟩
      rw [h k1 (by omega), hn, h0 k1 (by omega) _ (by rw [List.length_append]; simp; omega), allF_some hnx]
      have e : (xs.drop p).drop n = xs.drop (p + n) := List.drop_drop
      rw [e]
      have e2 : ((p + n : Nat) : Int) = (p : Int) + n := by omega
      rw [e2, List.append_assoc]
      rfl
theorem cut_is (xs : List Int) (hx : xs.length ≤ 1000000) : ∃ k, amanuensisref19_Cut.f k xs = some ((allF xs 0 true).1.map toT) := by
  obtain ⟨k0, h⟩ := cut_all xs hx xs.length 0 (by omega) (by omega)
  refine ⟨k0, ?_⟩
  have := h k0 (Nat.le_refl _) [] (by simp; omega)
  simpa [amanuensisref19_Cut.f] using this
theorem same_lk (xs : List Int) (h : xs.length ≤ 1000000) : ∀ (d : Nat) (j : Nat), j + d = xs.length → ∀ k, d + 1 ≤ k → amanuensisref01_Same.l0 k xs xs j = some true
  | 0, j, hj, k + 1, hk => by simp only [amanuensisref01_Same.l0]; rw [if_neg (by omega)]
  | d + 1, j, hj, k + 1, hk => by
    rw [amanuensisref01_Same.l0, if_pos (by omega), if_pos (by omega), if_pos (by omega), if_pos rfl]
    have e : wrap64 ((j : Int) + 1) = ((j + 1 : Nat) : Int) := by unfold wrap64; omega
    rw [e]
    exact same_lk xs h d (j + 1) (by omega) k (by omega)
theorem same_ps (ps : List (Int × Bool × List Int)) (hl : ps.length ≤ 1000000) (hb : ∀ p ∈ ps, p.2.2.length ≤ 1000000) : ∀ (d j : Nat), j + d = ps.length → ∀ k, d + 1000002 ≤ k → amanuensislaw27_same.l0 k (ps.map toS) (ps.map toT) j = some true
  | 0, j, hj, k + 1, hk => by rw [amanuensislaw27_same.l0, if_neg (by rw [List.length_map]; omega)]
  | d + 1, j, hj, k + 1, hk => by
    have h1 : rd_T34 (ps.map toS) (j : Int) = toS (ps[j]'(by omega)) := by
      show (ps.map toS).getD j z34 = _
      rw [List.getD_eq_getElem?_getD, List.getElem?_map, List.getElem?_eq_getElem (by omega)]; rfl
    have h2 : rd_T37 (ps.map toT) (j : Int) = toT (ps[j]'(by omega)) := by
      show (ps.map toT).getD j z37 = _
      rw [List.getD_eq_getElem?_getD, List.getElem?_map, List.getElem?_eq_getElem (by omega)]; rfl
    have hm : ps[j]'(by omega) ∈ ps := List.getElem_mem _
    obtain ⟨p, hp⟩ : ∃ p, ps[j]'(by omega) = p := ⟨_, rfl⟩
    rw [hp] at h1 h2 hm
    rw [amanuensislaw27_same.l0, if_pos (by rw [List.length_map]; omega), if_pos (by omega), if_pos (by rw [List.length_map]; omega), h1, h2]
    have e : wrap64 ((j : Int) + 1) = ((j + 1 : Nat) : Int) := by unfold wrap64; omega
    have hs : amanuensisref01_Same.f k p.2.2 p.2.2 = some true := by
      unfold amanuensisref01_Same.f
      rw [if_pos rfl]
      exact same_lk p.2.2 (hb p hm) p.2.2.length 0 (by omega) k (by have := hb p hm; omega)
    rw [if_pos (show (toS p).f0 = (toT p).f0 from rfl), if_neg (show ¬ (((toS p).f1 != (toT p).f1) = true) from by simp [toS, toT])]
    show (amanuensisref01_Same.f k p.2.2 p.2.2).bind _ = _
    rw [hs]
    show (if true = true then amanuensislaw27_same.l0 k (ps.map toS) (ps.map toT) (wrap64 ((j : Int) + 1)) else some false) = some true
    rw [if_pos rfl, e]
    exact same_ps ps hl hb d (j + 1) (by omega) k (by omega)
theorem same_is (ps : List (Int × Bool × List Int)) (hl : ps.length ≤ 1000000) (hb : ∀ p ∈ ps, p.2.2.length ≤ 1000000) : amanuensislaw27_same.f (ps.length + 1000002) (ps.map toS) (ps.map toT) = some true := by
  unfold amanuensislaw27_same.f
  rw [if_pos (by rw [List.length_map, List.length_map])]
  exact same_ps ps hl hb ps.length 0 (by omega) _ (by omega)
end Go.Proofs.Ytmaehbdpmdgpaaa
