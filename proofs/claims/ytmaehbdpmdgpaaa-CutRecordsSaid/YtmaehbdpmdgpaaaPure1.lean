/- The pieces of 'all', as plain lists. -/
import Derived.Test.YtmaehbdpmdgpaaaCwf
namespace Go.Proofs.Ytmaehbdpmdgpaaa
open Go.RowKit Go.Proofs.Ytmaehbdpmdgpaaa.PCut Go.Proofs.YtmaehbdpmdgpaaaW.PrintWords
set_option linter.unusedVariables false
def joinS (l : List S34) : List Int := l.flatMap (·.f2)
def AllOk : Int → List S34 → Prop
  | _, [] => True
  | at0, p :: l => p.f0 = at0 ∧ 1 ≤ p.f2.length ∧ (p.f1 = true → 26 ≤ p.f2.length ∧ p.f2.getD (p.f2.length - 1) 0 = 29) ∧ AllOk (at0 + p.f2.length) l
theorem AllOk.append : ∀ {l m : List S34} {a : Int}, AllOk a l → AllOk (a + (joinS l).length) m → AllOk a (l ++ m)
  | [], m, a, _, h => by simpa [joinS] using h
  | p :: l, m, a, h1, h2 => by
    refine ⟨h1.1, h1.2.1, h1.2.2.1, AllOk.append h1.2.2.2 ?_⟩
    have e : a + ((joinS (p :: l)).length : Int) = a + p.f2.length + (joinS l).length := by simp [joinS]; omega
    rwa [e] at h2
theorem joinS_append (l m : List S34) : joinS (l ++ m) = joinS l ++ joinS m := by simp [joinS]
theorem badP_some {xs : List Int} {en : Bool} {n : Nat} {good : Bool} (h : badP xs en = some (n, good)) : good = false := by
  unfold badP at h
  split at h
  · injection h with h; injection h with _ h; exact h.symm
  · split at h
    · injection h with h; injection h with _ h; exact h.symm
    · cases h
theorem nextP_good {xs : List Int} {en : Bool} {n : Nat} (h : nextP xs en = some (n, true)) : 26 ≤ n ∧ xs.getD (n - 1) 0 = 29 := by
  have hr := lenP_range xs en
  unfold nextP at h
  by_cases h1 : xs = []
  · rw [if_pos h1] at h; cases h
  · rw [if_neg h1] at h
    by_cases h2 : (lenP xs en).2 = false
    · rw [if_pos h2] at h; cases h
    · rw [if_neg h2] at h
      by_cases h3 : (lenP xs en).1 = 0
      · rw [if_pos h3] at h; cases badP_some h
      · rw [if_neg h3] at h
        by_cases h4 : (xs.length : Int) < (lenP xs en).1 ∧ en = false
        · rw [if_pos h4] at h; cases h
        · rw [if_neg h4] at h
          by_cases h5 : (xs.length : Int) < (lenP xs en).1 ∨ xs.getD ((lenP xs en).1.toNat - 1) 0 ≠ 29
          · rw [if_pos h5] at h; cases badP_some h
          · rw [if_neg h5] at h
            injection h with h; injection h with h6 h7
            subst h6
            have := hr.2.2 h3
            refine ⟨by omega, ?_⟩
            by_cases h8 : xs.getD ((lenP xs en).1.toNat - 1) 0 = 29
            · exact h8
            · exact absurd (Or.inr h8) h5
theorem nextP_end {xs : List Int} (hx : xs ≠ []) : nextP xs true ≠ none := by
  have hb : badP xs true ≠ none := by unfold badP; split <;> simp
  have hl : (lenP xs true).2 = true := by unfold lenP; repeat' split
                                          all_goals rfl
  unfold nextP
  rw [if_neg hx, if_neg (by rw [hl]; decide)]
  by_cases h3 : (lenP xs true).1 = 0
  · rw [if_pos h3]; exact hb
  · rw [if_neg h3, if_neg (by simp)]
    split
    · exact hb
    · simp
theorem allP_ok (en : Bool) : ∀ (k : Nat) (xs : List Int) (at0 : Int), AllOk at0 ((allP k xs at0 en).1.map toS) ∧ joinS ((allP k xs at0 en).1.map toS) ++ (allP k xs at0 en).2.1 = xs ∧ (allP k xs at0 en).2.2 = at0 + (joinS ((allP k xs at0 en).1.map toS)).length
  | 0, xs, at0 => ⟨trivial, by simp [allP, joinS], by simp [allP, joinS]⟩
  | k + 1, xs, at0 => by
    cases hr : nextP xs en with
    | none => rw [allP_none hr]; exact ⟨trivial, by simp [joinS], by simp [joinS]⟩
    | some p =>
      obtain ⟨n, good⟩ := p
      have hn := nextP_some hr
      obtain ⟨i1, i2, i3⟩ := allP_ok en k (xs.drop n) (at0 + n)
      have hl : (xs.take n).length = n := by rw [List.length_take]; omega
      rw [allP_some hr]
      refine ⟨⟨rfl, by show 1 ≤ (xs.take n).length; omega, ?_, ?_⟩, ?_, ?_⟩
      · intro hg
        have hg' : good = true := hg
        subst hg'
        have := nextP_good hr
        show 26 ≤ (xs.take n).length ∧ (xs.take n).getD ((xs.take n).length - 1) 0 = 29
        rw [hl]
        refine ⟨this.1, ?_⟩
        rw [← this.2, List.getD_eq_getElem?_getD, List.getD_eq_getElem?_getD, List.getElem?_take, if_pos (by omega)]
      · show AllOk (at0 + ((xs.take n).length : Nat)) _
        rw [hl]; exact i1
      · show joinS (toS (at0, good, xs.take n) :: _) ++ _ = xs
        have : ∀ (p : S34) (l : List S34), joinS (p :: l) = p.f2 ++ joinS l := fun p l => rfl
        rw [this, List.append_assoc, i2]
        exact List.take_append_drop n xs
      · show (allP k (xs.drop n) (at0 + n) en).2.2 = at0 + ((joinS (toS (at0, good, xs.take n) :: (allP k (xs.drop n) (at0 + n) en).1.map toS)).length : Nat)
        rw [i3]
        have : ∀ (p : S34) (l : List S34), joinS (p :: l) = p.f2 ++ joinS l := fun p l => rfl
        rw [this, List.length_append]
        show at0 + n + _ = at0 + ((xs.take n).length + _ : Nat)
        rw [hl]; omega
theorem allP_end : ∀ (k : Nat) (xs : List Int) (at0 : Int), xs.length ≤ k → (allP k xs at0 true).2.1 = []
  | 0, xs, at0, h => by have : xs = [] := List.eq_nil_of_length_eq_zero (by omega)
                        subst this; rfl
  | k + 1, xs, at0, h => by
    by_cases hx : xs = []
    · subst hx; rfl
    · cases hr : nextP xs true with
      | none => exact absurd hr (nextP_end hx)
      | some p =>
        obtain ⟨n, good⟩ := p
        have hn := nextP_some hr
        rw [allP_some hr]
        exact allP_end k (xs.drop n) (at0 + n) (by rw [List.length_drop]; omega)
theorem AllOk.at : ∀ {l : List S34} {a : Int}, AllOk a l → ∀ i, i < l.length → (l.getD i z34).f0 = a + (joinS (l.take i)).length ∧ 1 ≤ (l.getD i z34).f2.length ∧ ((l.getD i z34).f1 = true → 26 ≤ (l.getD i z34).f2.length ∧ (l.getD i z34).f2.getD ((l.getD i z34).f2.length - 1) 0 = 29) ∧ joinS (l.take (i + 1)) = joinS (l.take i) ++ (l.getD i z34).f2
  | [], _, _, i, hi => absurd hi (by simp)
  | p :: l, a, h, 0, _ => ⟨by simp [joinS, h.1], h.2.1, h.2.2.1, by simp [joinS]⟩
  | p :: l, a, h, i + 1, hi => by
    obtain ⟨a1, a2, a3, a4⟩ := AllOk.at h.2.2.2 i (by simpa using hi)
    refine ⟨?_, a2, a3, ?_⟩
    · show (l.getD i z34).f0 = a + (joinS (p :: l.take i)).length
      rw [a1]
      have : joinS (p :: l.take i) = p.f2 ++ joinS (l.take i) := rfl
      rw [this, List.length_append]; omega
    · show p.f2 ++ joinS (l.take (i + 1)) = (p.f2 ++ joinS (l.take i)) ++ _
      rw [a4, List.append_assoc]; rfl
theorem join_take (l : List S34) (i : Nat) : (joinS (l.take i)).length ≤ (joinS l).length := by
  have : joinS l = joinS (l.take i) ++ joinS (l.drop i) := by rw [← joinS_append, List.take_append_drop]
  rw [this, List.length_append]; omega
theorem AllOk.count : ∀ {l : List S34} {a : Int}, AllOk a l → l.length ≤ (joinS l).length
  | [], _, _ => by simp
  | p :: l, a, h => by
    have := AllOk.count h.2.2.2
    have e : joinS (p :: l) = p.f2 ++ joinS l := rfl
    rw [e, List.length_append, List.length_cons]
    have := h.2.1; omega
theorem same_l (xs : List Int) (h : xs.length ≤ 1000000) : ∀ (d : Nat) (j : Nat), j + d = xs.length → amanuensisref01_Same.l0 (d + 1) xs xs j = some true
  | 0, j, hj => by simp only [amanuensisref01_Same.l0]; rw [if_neg (by omega)]
  | d + 1, j, hj => by
    rw [amanuensisref01_Same.l0, if_pos (by omega), if_pos (by omega), if_pos (by omega), if_pos rfl]
    have e : wrap64 ((j : Int) + 1) = ((j + 1 : Nat) : Int) := by unfold wrap64; omega
    rw [e]
    exact same_l xs h d (j + 1) (by omega)
theorem same_refl (xs : List Int) (h : xs.length ≤ 1000000) : amanuensisref01_Same.f (xs.length + 1) xs xs = some true := by
  unfold amanuensisref01_Same.f
  rw [if_pos rfl]
  exact same_l xs h xs.length 0 (by omega)
/-- two Feeds, or a Feed and an End, one behind the other: the two rows, ready for one append -/
theorem two_rows {w w2 w3 : World} {B g : Nat} {o : Option Nat} {v1 v2 : Value} {ps1 ps2 : List S34} {A1 A2 : Option Addr} {c1 c2 : Nat} {ys zs : List Int} {at1 at2 : Int} {e1 e2 : Bool} (ho : ∀ k, o = some k → B ≤ k) (hB : B ≤ w.heap.size)
    (F1 : Fed w w2 o B g v1 ps1 A1 c1 ys at1 e1) (F2 : Fed w2 w3 (Value.slice A1 ys.length c1).ownBlock B g v2 ps2 A2 c2 zs at2 e2) :
    Kd.N k34 34 w3 B (fun k => B ≤ k) v1 ps1 ∧ ∃ A c, v2 = .slice A ps2.length c ∧ Kd.F k34 w3 (fun k => B ≤ k ∧ some k ≠ v1.ownBlock) A ps2.length ps2 := by
  have hsz := F1.kept.1
  have hn1 := Kd.N_kept F1.nn F2.kept (fun k hk hs => hs.elim hk.1 (fun e => hk.2.1 e.symm))
  have hup : ∀ k, (w.heap.size ≤ k ∨ o = some k) → B ≤ k := fun k h => h.elim (fun h => by omega) (ho k)
  obtain ⟨A, c, rfl⟩ := Kd.N_slice F2.nn
  refine ⟨Kd.N_lower (Kd.N_mono hn1 (fun k hk => hup k hk.2.2)) hB, A, c, rfl, Kd.F_mono (Kd.N_F F2.nn) (fun k hk => ?_)⟩
  have hlt := Kd.N_bound F1.nn
  rcases hk.2.2 with h | h
  · exact ⟨by omega, fun e => by have := (hlt.1 k e.symm).2; omega⟩
  · refine ⟨hup k (F1.fr k h), fun e => (F1.nn.1 k e.symm).2.1 h.symm⟩
end Go.Proofs.Ytmaehbdpmdgpaaa
