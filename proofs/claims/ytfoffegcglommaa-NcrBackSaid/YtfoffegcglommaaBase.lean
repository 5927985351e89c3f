/- Plain facts on references to characters: the digits of a number, what refers to it, and what a list of characters is, its references put back. No program in sight. -/
import Derived.RowKit
namespace Go.Proofs.Ytfoffegcglommaa

def hx (d : Int) : Int := if d < 10 then 48 + d else 55 + d
def hexv (c : Int) : Int := if 48 ≤ c ∧ c ≤ 57 then c - 48 else if 65 ≤ c ∧ c ≤ 70 then c - 55 else -1
def vfold (v : Int) (D : List Int) : Int := D.foldl (fun v c => v * 16 + hexv c) v
def Scal (c : Int) : Prop := (0 ≤ c ∧ c < 55296) ∨ (57344 ≤ c ∧ c < 1114112)
def digs (c : Int) : List Int :=
  if c < 65536 then [hx (c / 4096 % 16), hx (c / 256 % 16), hx (c / 16 % 16), hx (c % 16)]
  else if c < 1048576 then [hx (c / 65536 % 16), hx (c / 4096 % 16), hx (c / 256 % 16), hx (c / 16 % 16), hx (c % 16)]
  else [hx (c / 1048576 % 16), hx (c / 65536 % 16), hx (c / 4096 % 16), hx (c / 256 % 16), hx (c / 16 % 16), hx (c % 16)]
def refL (c : Int) : List Int := 38 :: 35 :: 120 :: (digs c ++ [59])
/-- what the digits of a reference are -/
def Form (D : List Int) : Prop := (∀ x ∈ D, 0 ≤ hexv x) ∧ 4 ≤ D.length ∧ D.length ≤ 6 ∧ (4 < D.length → D.getD 0 0 ≠ 48)

theorem Scal.rng {c : Int} (h : Scal c) : 0 ≤ c ∧ c < 1114112 := by unfold Scal at h; omega
theorem hexv_hx {d : Int} (h0 : 0 ≤ d) (h1 : d < 16) : hexv (hx d) = d := by
  unfold hx hexv
  split
  · rw [if_pos (by omega)]; omega
  · rw [if_neg (by omega), if_pos (by omega)]; omega
theorem hx_hexv {c : Int} (h : 0 ≤ hexv c) : hx (hexv c) = c := by
  unfold hexv at *
  split
  · unfold hx; rw [if_pos (by omega)]; omega
  · split
    · unfold hx; rw [if_neg (by omega)]; omega
    · rename_i h1 h2; rw [if_neg h1, if_neg h2] at h; omega
theorem hexv_lt (c : Int) : hexv c < 16 := by
  unfold hexv
  repeat' split
  all_goals omega
theorem hex_range {c : Int} (h : 0 ≤ hexv c) : 48 ≤ c ∧ c ≤ 70 ∧ c ≠ 59 := by
  unfold hexv at h
  split at h
  · omega
  · split at h
    · omega
    · omega
theorem hex_of_hx {d : Int} (h0 : 0 ≤ d) (h1 : d < 16) : 0 ≤ hexv (hx d) := by rw [hexv_hx h0 h1]; exact h0
theorem hx_ne {d : Int} (h0 : 0 < d) : hx d ≠ 48 := by unfold hx; split <;> omega

theorem digs_form {c : Int} (h : Scal c) : Form (digs c) := by
  have hr := h.rng
  unfold digs
  split
  · refine ⟨?_, by simp, by simp, by simp⟩
    intro x hx
    simp only [List.mem_cons, List.not_mem_nil, or_false] at hx
    rcases hx with rfl | rfl | rfl | rfl <;> exact hex_of_hx (by omega) (by omega)
  · split
    · refine ⟨?_, by simp, by simp, fun _ => ?_⟩
      · intro x hx
        simp only [List.mem_cons, List.not_mem_nil, or_false] at hx
        rcases hx with rfl | rfl | rfl | rfl | rfl <;> exact hex_of_hx (by omega) (by omega)
      · exact hx_ne (by omega)
    · refine ⟨?_, by simp, by simp, fun _ => ?_⟩
      · intro x hx
        simp only [List.mem_cons, List.not_mem_nil, or_false] at hx
        rcases hx with rfl | rfl | rfl | rfl | rfl | rfl <;> exact hex_of_hx (by omega) (by omega)
      · exact hx_ne (by omega)
theorem vfold_digs {c : Int} (h : Scal c) : vfold 0 (digs c) = c := by
  have hr := h.rng
  unfold digs vfold
  have e0 := @hexv_hx (c % 16) (by omega) (by omega)
  have e1 := @hexv_hx (c / 16 % 16) (by omega) (by omega)
  have e2 := @hexv_hx (c / 256 % 16) (by omega) (by omega)
  have e3 := @hexv_hx (c / 4096 % 16) (by omega) (by omega)
  have e4 := @hexv_hx (c / 65536 % 16) (by omega) (by omega)
  have e5 := @hexv_hx (c / 1048576 % 16) (by omega) (by omega)
  repeat' split
  all_goals simp only [List.foldl_cons, List.foldl_nil, e0, e1, e2, e3, e4, e5]; omega
theorem digs_vfold {D : List Int} (h : Form D) : digs (vfold 0 D) = D := by
  obtain ⟨h1, h2, h3, h4⟩ := h
  have hd : ∀ x ∈ D, 0 ≤ hexv x ∧ hexv x < 16 := fun x hx => ⟨h1 x hx, hexv_lt x⟩
  have hh : ∀ x ∈ D, hx (hexv x) = x := fun x hx => hx_hexv (h1 x hx)
  have n0 : ∀ x, 0 ≤ hexv x → x ≠ 48 → 1 ≤ hexv x := by
    intro x h0 hne
    have := hx_hexv h0
    by_cases e : hexv x = 0
    · rw [e] at this; exact absurd this.symm hne
    · omega
  have one : ∀ (x d : Int), x ∈ D → d = hexv x → hx d = x := fun x d hm e => by rw [e]; exact hh x hm
  match D, h2, h3, h4, hd, one with
  | [a, b, c, d], _, _, _, hd, one =>
    have ha := hd a (by simp); have hb := hd b (by simp); have hc := hd c (by simp); have hdd := hd d (by simp)
    have e : vfold 0 [a, b, c, d] = (((0 * 16 + hexv a) * 16 + hexv b) * 16 + hexv c) * 16 + hexv d := rfl
    rw [e]; unfold digs
    rw [if_pos (by omega), one a _ (by simp) (by omega), one b _ (by simp) (by omega), one c _ (by simp) (by omega), one d _ (by simp) (by omega)]
  | [z, a, b, c, d], _, _, h4, hd, one =>
    have hz := hd z (by simp); have ha := hd a (by simp); have hb := hd b (by simp); have hc := hd c (by simp); have hdd := hd d (by simp)
    have hz1 := n0 z hz.1 (h4 (by simp))
    have e : vfold 0 [z, a, b, c, d] = ((((0 * 16 + hexv z) * 16 + hexv a) * 16 + hexv b) * 16 + hexv c) * 16 + hexv d := rfl
    rw [e]; unfold digs
    rw [if_neg (by omega), if_pos (by omega), one z _ (by simp) (by omega), one a _ (by simp) (by omega), one b _ (by simp) (by omega), one c _ (by simp) (by omega), one d _ (by simp) (by omega)]
  | [y, z, a, b, c, d], _, _, h4, hd, one =>
    have hy := hd y (by simp); have hz := hd z (by simp); have ha := hd a (by simp); have hb := hd b (by simp); have hc := hd c (by simp); have hdd := hd d (by simp)
    have hy1 := n0 y hy.1 (h4 (by simp))
    have e : vfold 0 [y, z, a, b, c, d] = (((((0 * 16 + hexv y) * 16 + hexv z) * 16 + hexv a) * 16 + hexv b) * 16 + hexv c) * 16 + hexv d := rfl
    rw [e]; unfold digs
    rw [if_neg (by omega), if_neg (by omega), one y _ (by simp) (by omega), one z _ (by simp) (by omega), one a _ (by simp) (by omega), one b _ (by simp) (by omega), one c _ (by simp) (by omega), one d _ (by simp) (by omega)]
  | [], h2, _, _, _, _ => simp at h2
  | [_], h2, _, _, _, _ => simp at h2
  | [_, _], h2, _, _, _, _ => simp at h2
  | [_, _, _], h2, _, _, _, _ => simp at h2
  | _ :: _ :: _ :: _ :: _ :: _ :: _ :: _, _, h3, _, _, _ => simp at h3
theorem vfold_bound : ∀ (D : List Int) (v : Int) (n : Nat), (∀ x ∈ D, 0 ≤ hexv x) → 0 ≤ v → v < 16 ^ n → 0 ≤ vfold v D ∧ vfold v D < 16 ^ (n + D.length)
  | [], v, n, _, h0, h1 => ⟨h0, h1⟩
  | a :: D, v, n, h, h0, h1 => by
    have ha := h a (by simp)
    have hl := hexv_lt a
    have := vfold_bound D (v * 16 + hexv a) (n + 1) (fun x hx => h x (List.mem_cons_of_mem _ hx)) (by omega) (by rw [Int.pow_succ]; omega)
    have e : n + (a :: D).length = n + 1 + D.length := by rw [List.length_cons]; omega
    rw [e]
    exact this

theorem split_at : ∀ {D D' r r' : List Int}, (∀ x ∈ D, x ≠ 59) → (∀ x ∈ D', x ≠ 59) → D ++ 59 :: r = D' ++ 59 :: r' → D = D' ∧ r = r'
  | [], [], r, r', _, _, h => by simpa using h
  | [], a :: D', r, r', _, h', h => by
    simp only [List.nil_append, List.cons_append, List.cons.injEq] at h
    exact absurd h.1.symm (h' a (by simp))
  | a :: D, [], r, r', h1, _, h => by
    simp only [List.nil_append, List.cons_append, List.cons.injEq] at h
    exact absurd h.1 (h1 a (by simp))
  | a :: D, b :: D', r, r', h1, h2, h => by
    simp only [List.cons_append, List.cons.injEq] at h
    obtain ⟨e, h⟩ := h
    have := split_at (fun x hx => h1 x (List.mem_cons_of_mem _ hx)) (fun x hx => h2 x (List.mem_cons_of_mem _ hx)) h
    exact ⟨by rw [e, this.1], this.2⟩
theorem form_ne59 {D : List Int} (h : Form D) : ∀ x ∈ D, x ≠ 59 := fun x hx => (hex_range (h.1 x hx)).2.2
theorem ref_eq {c : Int} (r : List Int) : refL c ++ r = 38 :: 35 :: 120 :: (digs c ++ 59 :: r) := by simp [refL]
theorem ref_unique {c c' : Int} {r r' : List Int} (h : Scal c) (h' : Scal c') (e : refL c ++ r = refL c' ++ r') : c = c' ∧ r = r' := by
  rw [ref_eq, ref_eq] at e
  simp only [List.cons.injEq, true_and] at e
  obtain ⟨e1, e2⟩ := split_at (form_ne59 (digs_form h)) (form_ne59 (digs_form h')) e
  exact ⟨by rw [← vfold_digs h, ← vfold_digs h', e1], e2⟩
theorem ref_length {c : Int} : (refL c).length = (digs c).length + 4 := by simp [refL]
theorem digs_len {c : Int} : 4 ≤ (digs c).length ∧ (digs c).length ≤ 6 := by
  unfold digs; repeat' split
  all_goals simp
theorem ref_ascii {c : Int} (h : Scal c) : ∀ x ∈ refL c, 0 ≤ x ∧ x < 128 := by
  intro x hx
  simp only [refL, List.mem_cons, List.mem_append, List.not_mem_nil, or_false] at hx
  rcases hx with rfl | rfl | rfl | hx | rfl <;> try omega
  have := hex_range ((digs_form h).1 x hx); omega
/-- behind its begin a reference has no '&' -/
theorem ref_tail {c : Int} (h : Scal c) : ∀ x ∈ (refL c).tail, x ≠ 38 := by
  intro x hx
  simp only [refL, List.tail_cons, List.mem_cons, List.mem_append, List.not_mem_nil, or_false] at hx
  rcases hx with rfl | rfl | hx | rfl <;> try omega
  have := hex_range ((digs_form h).1 x hx); omega

/-- a reference stands at the begin -/
def At (l : List Int) (c : Int) : Prop := Scal c ∧ ∃ r, l = refL c ++ r
def NoAt (l : List Int) : Prop := ∀ c, ¬ At l c
/-- the list, its references put back, in n steps -/
def Exp : Nat → List Int → List Int → Prop
  | 0, l, r => l = [] ∧ r = []
  | n + 1, l, r => (∃ c l' r', Scal c ∧ l = refL c ++ l' ∧ r = c :: r' ∧ Exp n l' r') ∨ (∃ a l' r', l = a :: l' ∧ r = a :: r' ∧ NoAt l ∧ Exp n l' r')
theorem exp_all : ∀ (m : Nat) (l : List Int), l.length ≤ m → ∃ n r, n ≤ l.length ∧ Exp n l r
  | _, [], _ => ⟨0, [], by simp, rfl, rfl⟩
  | 0, a :: l, h => by simp at h
  | m + 1, a :: l, h => by
    by_cases hA : ∃ c, At (a :: l) c
    · obtain ⟨c, hs, r, e⟩ := hA
      have hl : r.length ≤ m := by
        have := congrArg List.length e
        rw [List.length_append, ref_length] at this
        have := (@digs_len c).1
        simp at *; omega
      obtain ⟨n, r', hn, hx⟩ := exp_all m r hl
      exact ⟨n + 1, c :: r', by rw [e, List.length_append, ref_length]; omega, .inl ⟨c, r, r', hs, e, rfl, hx⟩⟩
    · obtain ⟨n, r', hn, hx⟩ := exp_all m l (by simpa using h)
      exact ⟨n + 1, a :: r', by simpa using hn, .inr ⟨a, l, r', rfl, rfl, fun c hc => hA ⟨c, hc⟩, hx⟩⟩
theorem exp_ref {c : Int} (h : Scal c) {n : Nat} {l r : List Int} (hx : Exp n l r) : Exp (n + 1) (refL c ++ l) (c :: r) := .inl ⟨c, l, r, h, rfl, rfl, hx⟩
theorem exp_plain : ∀ (l : List Int), (∀ x ∈ l, x ≠ 38) → Exp l.length l l
  | [], _ => ⟨rfl, rfl⟩
  | a :: l, h => .inr ⟨a, l, l, rfl, rfl, fun c ⟨hs, r, e⟩ => by
      rw [ref_eq] at e
      simp only [List.cons.injEq] at e
      exact h a (by simp) e.1, exp_plain l fun x hx => h x (List.mem_cons_of_mem _ hx)⟩
theorem exp_len : ∀ (n : Nat) (l r : List Int), Exp n l r → r.length = n ∧ n ≤ l.length
  | 0, l, r, ⟨h1, h2⟩ => by subst h1 h2; simp
  | n + 1, l, r, h => by
    rcases h with ⟨c, l', r', hs, e1, e2, hx⟩ | ⟨a, l', r', e1, e2, _, hx⟩
    · have := exp_len n l' r' hx
      subst e1 e2; rw [List.length_append, ref_length]; simp; omega
    · have := exp_len n l' r' hx
      subst e1 e2; simp; omega
/-- A reference that begins within a stands in a, where a '&' stands behind a. -/
theorem ref_within {a l r : List Int} {c : Int} (hs : Scal c) (ha : a ≠ []) (e : a ++ 38 :: l = refL c ++ r) : ∃ a', a = refL c ++ a' ∧ r = a' ++ 38 :: l := by
  have hlen : (refL c).length ≤ a.length := by
    rcases Nat.lt_or_ge a.length (refL c).length with h | h
    · exfalso
      obtain ⟨x, a2, rfl⟩ := List.exists_cons_of_ne_nil ha
      have e2 := congrArg List.tail e
      have hne : refL c ≠ [] := by simp [refL]
      rw [List.cons_append, List.tail_cons, List.tail_append_of_ne_nil hne] at e2
      have h3 : (a2 ++ 38 :: l)[a2.length]? = some 38 := by simp
      rw [e2, List.getElem?_append_left (by simp at h ⊢; omega)] at h3
      exact ref_tail hs 38 (List.mem_of_getElem? h3) rfl
    · exact h
  have h1 : a.take (refL c).length = refL c := by
    have := congrArg (List.take (refL c).length) e
    rwa [List.take_append_of_le_length hlen, List.take_left'  rfl] at this
  have h2 : a.drop (refL c).length ++ 38 :: l = r := by
    have := congrArg (List.drop (refL c).length) e
    rwa [List.drop_append_of_le_length hlen, List.drop_left' rfl] at this
  refine ⟨a.drop (refL c).length, ?_, h2.symm⟩
  have := List.take_append_drop (refL c).length a
  rw [h1] at this; exact this.symm
theorem exp_join (c : Int) (hc : Scal c) : ∀ (m : Nat) (a : List Int), a.length ≤ m → ∃ n1 r1, Exp n1 (a ++ refL c) r1 ∧ ∀ n2 b r2, Exp n2 b r2 → Exp (n1 + n2) (a ++ refL c ++ b) (r1 ++ r2)
  | _, [], _ => ⟨1, [c], .inl ⟨c, [], [], hc, by simp, rfl, rfl, rfl⟩, fun n2 b r2 h => by rw [Nat.add_comm]; exact .inl ⟨c, b, r2, hc, by simp, rfl, h⟩⟩
  | 0, x :: a, h => by simp at h
  | m + 1, x :: a, h => by
    by_cases hA : ∃ c', At (x :: a ++ refL c) c'
    · obtain ⟨c', hs, r, e⟩ := hA
      rw [show refL c = 38 :: (refL c).tail from rfl] at e
      obtain ⟨a', e1, e2⟩ := ref_within hs (by simp) e
      have hl : a'.length ≤ m := by
        have := congrArg List.length e1
        rw [List.length_append, ref_length] at this
        simp at *; omega
      obtain ⟨n1, r1, h1, h2⟩ := exp_join c hc m a' hl
      rw [e1]
      refine ⟨n1 + 1, c' :: r1, .inl ⟨c', a' ++ refL c, r1, hs, by simp, rfl, h1⟩, fun n2 b r2 hb => ?_⟩
      rw [show n1 + 1 + n2 = (n1 + n2) + 1 by omega]
      exact .inl ⟨c', a' ++ refL c ++ b, r1 ++ r2, hs, by simp, rfl, h2 n2 b r2 hb⟩
    · obtain ⟨n1, r1, h1, h2⟩ := exp_join c hc m a (by simpa using h)
      refine ⟨n1 + 1, x :: r1, .inr ⟨x, a ++ refL c, r1, by simp, rfl, fun c' hc' => hA ⟨c', hc'⟩, h1⟩, fun n2 b r2 hb => ?_⟩
      rw [show n1 + 1 + n2 = (n1 + n2) + 1 by omega]
      refine .inr ⟨x, a ++ refL c ++ b, r1 ++ r2, by simp, rfl, fun c' ⟨hs, r, e⟩ => ?_, h2 n2 b r2 hb⟩
      rw [show refL c = 38 :: (refL c).tail from rfl, List.append_assoc, List.cons_append (a := 38)] at e
      obtain ⟨a', e1, e2⟩ := ref_within (a := x :: a) hs (by simp) e
      exact hA ⟨c', hs, a' ++ refL c, by rw [← List.append_assoc, ← e1]⟩

/-! characters of which some are told by their numbers -/
def told : List Int → List Bool → List Int
  | [], _ => []
  | a :: l, w => (if w.headD false = true then refL a else [a]) ++ told l w.tail
theorem told_nil : ∀ (l : List Int), told l [] = l
  | [] => rfl
  | a :: l => by show [a] ++ told l [] = _; rw [told_nil l]; rfl
/-- what has no '&' and stands at the begin of it, stands at the begin of the characters -/
theorem told_pre : ∀ (l : List Int) (w : List Bool) (p r : List Int), (∀ x ∈ p, x ≠ 38) → told l w = p ++ r → ∃ r', l = p ++ r'
  | l, w, [], r, _, _ => ⟨l, rfl⟩
  | [], w, x :: p, r, _, e => by simp [told] at e
  | a :: l, w, x :: p, r, h, e => by
    unfold told at e
    by_cases hw : w.headD false = true
    · rw [if_pos hw] at e
      simp only [refL, List.cons_append, List.cons.injEq] at e
      exact absurd e.1.symm (h x (by simp))
    · rw [if_neg hw] at e
      simp only [List.cons_append, List.nil_append, List.cons.injEq] at e
      obtain ⟨r', e'⟩ := told_pre l w.tail p r (fun y hy => h y (List.mem_cons_of_mem _ hy)) e.2
      exact ⟨r', by rw [e.1, e']; rfl⟩
/-- does a reference stand anywhere? -/
def Any (l : List Int) : Prop := ∃ i, i < l.length ∧ ∃ c, At (l.drop i) c
theorem any_cons {a : Int} {l : List Int} : Any (a :: l) ↔ (∃ c, At (a :: l) c) ∨ Any l := by
  constructor
  · rintro ⟨i, hi, c, hc⟩
    cases i with
    | zero => exact .inl ⟨c, hc⟩
    | succ i => exact .inr ⟨i, by simpa using hi, c, hc⟩
  · rintro (⟨c, hc⟩ | ⟨i, hi, c, hc⟩)
    · exact ⟨0, by simp, c, hc⟩
    · exact ⟨i + 1, by simpa using hi, c, hc⟩
theorem told_exp : ∀ (l : List Int) (w : List Bool), (∀ x ∈ l, Scal x) → ¬ Any l → Exp l.length (told l w) l
  | [], _, _, _ => ⟨rfl, rfl⟩
  | a :: l, w, h, hn => by
    have hl : ¬ Any l := fun h => hn (any_cons.2 (.inr h))
    have ih := told_exp l w.tail (fun x hx => h x (List.mem_cons_of_mem _ hx)) hl
    unfold told
    by_cases hw : w.headD false = true
    · rw [if_pos hw]; exact exp_ref (h a (by simp)) ih
    · rw [if_neg hw]
      refine .inr ⟨a, told l w.tail, l, rfl, rfl, fun c ⟨hs, r, e⟩ => ?_, ih⟩
      rw [show refL c = 38 :: (refL c).tail from rfl] at e
      simp only [List.cons_append, List.nil_append, List.cons.injEq] at e
      obtain ⟨r', e'⟩ := told_pre l w.tail (refL c).tail r (ref_tail hs) e.2
      exact hn (any_cons.2 (.inl ⟨c, hs, r', by rw [e.1, e']; rfl⟩))
theorem any_append {a l : List Int} (h : Any l) : Any (a ++ l) := by
  obtain ⟨i, hi, c, hc⟩ := h
  refine ⟨a.length + i, by simp; omega, c, ?_⟩
  rw [show a.length + i = a.length + i from rfl, List.drop_append]
  simp [List.drop_of_length_le]; exact hc
/-- some flag within the list is set -/
def Some1 : List Int → List Bool → Prop
  | [], _ => False
  | _ :: l, w => w.headD false = true ∨ Some1 l w.tail
theorem told_none : ∀ (l : List Int) (w : List Bool), ¬ Some1 l w → told l w = l
  | [], _, _ => rfl
  | a :: l, w, h => by
    unfold told Some1 at *
    rw [if_neg (fun e => h (.inl e)), told_none l w.tail (fun e => h (.inr e))]; rfl
theorem told_some : ∀ (l : List Int) (w : List Bool), (∀ x ∈ l, Scal x) → Some1 l w → Any (told l w)
  | [], _, _, h => h.elim
  | a :: l, w, hs, h => by
    unfold told
    by_cases hw : w.headD false = true
    · rw [if_pos hw]; exact ⟨0, by simp [refL], a, hs a (by simp), told l w.tail, rfl⟩
    · exact any_append (told_some l w.tail (fun x hx => hs x (List.mem_cons_of_mem _ hx)) (h.resolve_left hw))
theorem told_len : ∀ (l : List Int) (w : List Bool), (told l w).length ≤ 10 * l.length
  | [], _ => by simp [told]
  | a :: l, w => by
    have := told_len l w.tail
    have hd := (@digs_len a).2
    unfold told
    rw [List.length_append]
    split
    · rw [ref_length]; simp; omega
    · simp; omega
end Go.Proofs.Ytfoffegcglommaa
