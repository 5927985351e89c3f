/- What the reference's Scan, Has and Expand answer, and the program's Has, in the words of the Base text. -/
import Derived.Test.YtfoffegcglommaaEval
import Derived.Test.YtfoffegcglommaaPNcrx6
namespace Go.Proofs.Ytfoffegcglommaa.Pure
open Go.RowKit Go.Proofs.Ytfoffegcglommaa.PNcr Go.Proofs.YtfoffegcglommaaW.PrintWords Go.Proofs.YtfoffegcglommaaW.PrintLast
set_option linter.unusedVariables false
set_option linter.unusedSimpArgs false

theorem l1_step (l : List Int) (n i : Nat) (x c : Int) (ok : Bool) (hn : n ≤ 6) (hi : i < n) (hc : l[3 + i]? = some c) (hll : l.length < 1000000000000) (hr : -2147483648 ≤ c ∧ c ≤ 2147483647) :
    ∃ y ok', (∀ k, amanuensisref01_Scan.l1 (k + 2) l (n : Int) x ok (i : Int) = amanuensisref01_Scan.l1 k l (n : Int) y ok' ((i + 1 : Nat) : Int)) ∧
      ((0 ≤ hexv c ∧ ok' = ok ∧ (0 ≤ x → x < 16777216 → y = x * 16 + hexv c)) ∨ (hexv c < 0 ∧ ok' = false)) := by
  have hp : 3 + i < l.length := (List.getElem?_eq_some_iff.1 hc).1
  have q1 : (i : Int) < (n : Int) := by omega
  have q2 : 0 ≤ (3 : Int) + i := by omega
  have q3 : (3 : Int) + i < (l.length : Int) := by omega
  have q4 : wrap64 ((i : Int) + 1) = ((i + 1 : Nat) : Int) := by rw [w64 (by omega) (by omega)]; omega
  have e3 : wrap64 (3 + (i : Int)) = 3 + (i : Int) := w64 (by omega) (by omega)
  have rn : rd l (3 + (i : Int)) = c := by
    unfold rd
    have : (3 + (i : Int)).toNat = 3 + i := by omega
    rw [this, List.getD_eq_getElem?_getD, hc]; rfl
  by_cases h1 : c ≥ 48
  · by_cases h2 : c ≤ 57
    · refine ⟨wrap64 (wrap64 (16 * x) + wrap64 (wrap32 (c - 48))), ok, fun k => ?_, .inl ⟨?_, rfl, fun x0 x1 => ?_⟩⟩
      · rw [amanuensisref01_Scan.l1, if_pos q1, e3, if_pos q2, if_pos q3, rn, if_pos h1, amanuensisref01_Scan.j2, decide_eq_true h2, if_pos rfl, q4]
      · unfold hexv; rw [if_pos ⟨h1, h2⟩]; omega
      · rw [w32 (by omega) (by omega), w64 (x := c - 48) (by omega) (by omega), w64 (x := 16 * x) (by omega) (by omega), w64 (by omega) (by omega)]
        unfold hexv; rw [if_pos ⟨h1, h2⟩]; omega
    · by_cases h3 : c ≥ 65
      · by_cases h4 : c ≤ 70
        · refine ⟨wrap64 (wrap64 (wrap64 (16 * x) + wrap64 (wrap32 (c - 65))) + 10), ok, fun k => ?_, .inl ⟨?_, rfl, fun x0 x1 => ?_⟩⟩
          · rw [amanuensisref01_Scan.l1, if_pos q1, e3, if_pos q2, if_pos q3, rn, if_pos h1, amanuensisref01_Scan.j2, decide_eq_false h2, if_neg (by decide), if_pos h3, if_pos h4, q4]
          · unfold hexv; rw [if_neg (by omega), if_pos ⟨h3, h4⟩]; omega
          · rw [w32 (by omega) (by omega), w64 (x := c - 65) (by omega) (by omega), w64 (x := 16 * x) (by omega) (by omega), w64 (x := 16 * x + (c - 65)) (by omega) (by omega), w64 (by omega) (by omega)]
            unfold hexv; rw [if_neg (by omega), if_pos ⟨h3, h4⟩]; omega
        · refine ⟨x, false, fun k => ?_, .inr ⟨?_, rfl⟩⟩
          · rw [amanuensisref01_Scan.l1, if_pos q1, e3, if_pos q2, if_pos q3, rn, if_pos h1, amanuensisref01_Scan.j2, decide_eq_false h2, if_neg (by decide), if_pos h3, if_neg h4, q4]
          · unfold hexv; rw [if_neg (by omega), if_neg (by omega)]; omega
      · refine ⟨x, false, fun k => ?_, .inr ⟨?_, rfl⟩⟩
        · rw [amanuensisref01_Scan.l1, if_pos q1, e3, if_pos q2, if_pos q3, rn, if_pos h1, amanuensisref01_Scan.j2, decide_eq_false h2, if_neg (by decide), if_neg h3, q4]
        · unfold hexv; rw [if_neg (by omega), if_neg (by omega)]; omega
  · refine ⟨x, false, fun k => ?_, .inr ⟨?_, rfl⟩⟩
    · rw [amanuensisref01_Scan.l1, if_pos q1, e3, if_pos q2, if_pos q3, rn, if_neg h1, amanuensisref01_Scan.j2, if_neg (by decide), if_neg (by omega), q4]
    · unfold hexv; rw [if_neg (by omega), if_neg (by omega)]; omega
theorem ev_two {α : Type} {g f : Nat → Option α} {r : α} (h : ∀ k, g (k + 2) = f k) (k : Ev f r) : Ev g r := by
  obtain ⟨K, k⟩ := k
  exact ⟨K + 2, fun n hn => by obtain ⟨m, rfl⟩ : ∃ m, n = m + 2 := ⟨n - 2, by omega⟩; rw [h]; exact k m (by omega)⟩
/-- the digits are read: the number that they are, or that one of them is none -/
theorem l1_all (l : List Int) (n : Nat) (hn : n ≤ 6) (hl : n + 3 ≤ l.length) (hll : l.length < 1000000000000) (hr : ∀ x ∈ l, -2147483648 ≤ x ∧ x ≤ 2147483647) (r : Int × Int)
    (hno : ∀ y, Ev (fun k => amanuensisref01_Scan.l1 k l (n : Int) y false (n : Int)) r) : ∀ (d i : Nat) (x : Int) (ok : Bool), i + d = n → 0 ≤ x → x < 16 ^ i →
    (ok = true → (∀ z ∈ (l.drop (3 + i)).take d, 0 ≤ hexv z) → Ev (fun k => amanuensisref01_Scan.l1 k l (n : Int) (vfold x ((l.drop (3 + i)).take d)) true (n : Int)) r) →
    Ev (fun k => amanuensisref01_Scan.l1 k l (n : Int) x ok (i : Int)) r
  | 0, i, x, ok, e, h0, h1, h => by
    obtain rfl : i = n := by omega
    cases ok with
    | true => exact h rfl (by simp)
    | false => exact hno x
  | d + 1, i, x, ok, e, h0, h1, h => by
    have hp : 3 + i < l.length := by omega
    have hc : l[3 + i]? = some l[3 + i] := List.getElem?_eq_getElem hp
    have hb := pow16 i (by omega)
    have ht : (l.drop (3 + i)).take (d + 1) = l[3 + i] :: (l.drop (3 + (i + 1))).take d := by
      rw [List.drop_eq_getElem_cons hp]; rfl
    obtain ⟨y, ok', hs, hy⟩ := l1_step l n i x l[3 + i] ok hn (by omega) hc hll (hr _ (List.getElem_mem hp))
    refine ev_two hs ?_
    have hf : ∀ (m j : Nat) (y : Int), j + m = n → Ev (fun k => amanuensisref01_Scan.l1 k l (n : Int) y false (j : Int)) r := by
      intro m
      induction m with
      | zero => intro j y ej; obtain rfl : j = n := by omega
                exact hno y
      | succ m ih =>
        intro j y ej
        have hpj : 3 + j < l.length := by omega
        obtain ⟨y', ok'', hs', hy'⟩ := l1_step l n j y l[3 + j] false hn (by omega) (List.getElem?_eq_getElem hpj) hll (hr _ (List.getElem_mem hpj))
        have : ok'' = false := by
          rcases hy' with ⟨_, h, _⟩ | ⟨_, h⟩ <;> exact h
        subst this
        exact ev_two hs' (ih (j + 1) y' (by omega))
    rcases hy with ⟨hx, rfl, hy⟩ | ⟨hx, rfl⟩
    · have ey := hy h0 (by omega)
      subst ey
      have hl16 := hexv_lt l[3 + i]
      refine l1_all l n hn hl hll hr r hno d (i + 1) _ ok' (by omega) (by omega) (by rw [Int.pow_succ]; omega) (fun e1 e2 => ?_)
      have := h e1 (by
        rw [ht]; intro z hz
        rcases List.mem_cons.1 hz with rfl | hz
        · exact hx
        · exact e2 z hz)
      rw [ht] at this
      exact this
    · exact hf d (i + 1) y (by omega)
theorem l2_run (l : List Int) (n : Nat) (x : Int) (R : List Int) (hR : ∀ z ∈ R, 0 ≤ z ∧ z < 128) (hn : n ≤ 6) (hll : l.length < 1000000000000) (hRl : R.length ≤ l.length) (r : Int × Int)
    (hno : Ev (fun k => amanuensisref01_Scan.l0 k l ((n + 1 : Nat) : Int)) r) (hyes : R <+: l → (wrap32 x, ((n + 4 : Nat) : Int)) = r) : ∀ (d i : Nat), i + d = R.length → (R.take i <+: l) →
    Ev (fun k => amanuensisref01_Scan.l2 k l (n : Int) x R true (i : Int)) r
  | 0, i, e, hp => by
    have : R.take i = R := List.take_of_length_le (by omega)
    rw [this] at hp
    have q : ¬ ((i : Int) < (R.length : Int)) := by omega
    have q4 : wrap64 ((n : Int) + 4) = ((n + 4 : Nat) : Int) := by rw [w64 (by omega) (by omega)]; omega
    refine Ev.step (f := fun k => some (wrap32 x, ((n + 4 : Nat) : Int))) (fun k => ?_) (by rw [hyes hp]; exact Ev.now _)
    rw [amanuensisref01_Scan.l2, if_neg q, if_pos rfl, q4]
  | d + 1, i, e, hp => by
    have hi : i < R.length := by omega
    have hil : i < l.length := by omega
    have q1 : (i : Int) < (R.length : Int) := by omega
    have q2 : 0 ≤ (i : Int) := by omega
    have q3 : (i : Int) < (l.length : Int) := by omega
    have q4 : wrap64 ((i : Int) + 1) = ((i + 1 : Nat) : Int) := by rw [w64 (by omega) (by omega)]; omega
    have q5 : wrap64 ((n : Int) + 1) = ((n + 1 : Nat) : Int) := by rw [w64 (by omega) (by omega)]; omega
    have rl : rd l (i : Int) = l[i] := by simp [rd, List.getD_eq_getElem?_getD, List.getElem?_eq_getElem hil]
    have rR : rd R (i : Int) = R[i] := by simp [rd, List.getD_eq_getElem?_getD, List.getElem?_eq_getElem hi]
    have hz := hR R[i] (List.getElem_mem hi)
    have ew : wrap32 R[i] = R[i] := w32 (by omega) (by omega)
    refine Ev.step (f := fun k => amanuensisref01_Scan.l2 k l (n : Int) x R (l[i] == R[i]) ((i + 1 : Nat) : Int)) (fun k => ?_) ?_
    · rw [amanuensisref01_Scan.l2, if_pos q1, if_pos rfl, if_pos q2, if_pos q3, rl, rR, ew, q4]
    · by_cases h : l[i] = R[i]
      · rw [beq_iff_eq.2 h]
        refine l2_run l n x R hR hn hll hRl r hno hyes d (i + 1) (by omega) ?_
        obtain ⟨s, hs⟩ := hp
        rw [List.take_succ_eq_append_getElem hi]
        have hlen : (R.take i).length = i := by rw [List.length_take]; omega
        have hs2 : s = l.drop i := by rw [← hs, List.drop_left' hlen]
        refine ⟨l.drop (i + 1), ?_⟩
        rw [List.append_assoc, ← h, List.singleton_append, ← List.drop_eq_getElem_cons hil, ← hs2]; exact hs
      · rw [beq_eq_false_iff_ne.2 h]
        by_cases h2 : i + 1 < R.length
        · have q6 : ((i + 1 : Nat) : Int) < (R.length : Int) := by omega
          refine Ev.step (f := fun k => amanuensisref01_Scan.l0 k l ((n + 1 : Nat) : Int)) (fun k => ?_) hno
          rw [amanuensisref01_Scan.l2, if_pos q6, if_neg (by decide), q5]
        · have q6 : ¬ ((i + 1 : Nat) : Int) < (R.length : Int) := by omega
          refine Ev.step (f := fun k => amanuensisref01_Scan.l0 k l ((n + 1 : Nat) : Int)) (fun k => ?_) hno
          rw [amanuensisref01_Scan.l2, if_neg q6, if_neg (by decide), q5]
/-- one try, of n digits -/
theorem att (l : List Int) (n : Nat) (h4 : 4 ≤ n) (hn : n ≤ 6) (hl : n + 4 ≤ l.length) (hll : l.length < 1000000000000) (hr : ∀ x ∈ l, -2147483648 ≤ x ∧ x ≤ 2147483647) (r : Int × Int)
    (hno : (¬ ∃ c, At l c ∧ (refL c).length = n + 4) → Ev (fun k => amanuensisref01_Scan.l0 k l ((n + 1 : Nat) : Int)) r) (hyes : ∀ c, At l c → (refL c).length = n + 4 → (c, ((n + 4 : Nat) : Int)) = r) :
    Ev (fun k => amanuensisref01_Scan.l0 k l (n : Int)) r := by
  have q1 : (n : Int) ≤ 6 := by omega
  have q2 : ¬ ((l.length : Int) < (n : Int) + 4) := by omega
  have q3 : wrap64 ((n : Int) + 4) = (n : Int) + 4 := w64 (by omega) (by omega)
  have q5 : wrap64 ((n : Int) + 1) = ((n + 1 : Nat) : Int) := by rw [w64 (by omega) (by omega)]; omega
  have q6 : ¬ ((n : Int) < (n : Int)) := by omega
  refine Ev.step (f := fun k => amanuensisref01_Scan.l1 k l (n : Int) 0 true ((0 : Nat) : Int)) (fun k => ?_) ?_
  · rw [amanuensisref01_Scan.l0, if_pos q1, q3, if_neg q2]; rfl
  by_cases hA : ∃ c, At l c ∧ (refL c).length = n + 4
  · -- the one that stands there
    obtain ⟨c, ⟨hs, s, e⟩, hlen⟩ := hA
    rw [ref_length] at hlen
    have hD : (l.drop (3 + 0)).take n = digs c := by
      rw [e, ref_eq]; show ((digs c ++ 59 :: s)).take n = _
      rw [List.take_left' (by omega)]
    have hf := digs_form hs
    have hrr := hyes c ⟨hs, s, e⟩ (by rw [ref_length]; omega)
    subst hrr
    have hc32 : wrap32 c = c := by have := hs.rng; exact w32 (by omega) (by omega)
    have final : Ev (fun k => amanuensisref01_Scan.l1 k l (n : Int) c true (n : Int)) (c, ((n + 4 : Nat) : Int)) := by
      refine Ev.step (f := fun k => amanuensisref01_Scan.j3 k l (n : Int) c false) (fun k => ?_) ?_
      · rw [amanuensisref01_Scan.l1, if_neg q6, if_pos rfl, hc32, (scalar_yes hs).2]; rfl
      · refine Ev.step (f := fun k => (amanuensisref01_Ref.f k c).bind fun R => amanuensisref01_Scan.l2 k l (n : Int) c R ((R.length : Int) == (n : Int) + 4) 0) (fun k => ?_) ?_
        · rw [amanuensisref01_Scan.j3, if_neg (by decide), hc32, q3]
        · refine Ev.bind (ev_ref hs) ?_
          have hl2 : ((refL c).length : Int) = (n : Int) + 4 := by rw [ref_length]; omega
          have hpre : ∀ i, (refL c).take i <+: l := fun i => (List.take_prefix i _).trans ⟨s, e.symm⟩
          -- it never comes to the next try
          have key : ∀ (d i : Nat), i + d = (refL c).length → Ev (fun k => amanuensisref01_Scan.l2 k l (n : Int) c (refL c) true (i : Int)) (c, ((n + 4 : Nat) : Int)) := by
            intro d
            induction d with
            | zero =>
              intro i ei
              have q : ¬ ((i : Int) < ((refL c).length : Int)) := by omega
              refine Ev.step (f := fun k => some (c, ((n + 4 : Nat) : Int))) (fun k => ?_) (Ev.now _)
              rw [amanuensisref01_Scan.l2, if_neg q, if_pos rfl, q3, hc32]; rfl
            | succ d ih =>
              intro i ei
              have hi : i < (refL c).length := by omega
              have hil : i < l.length := by rw [ref_length] at hi; omega
              have p1 : (i : Int) < ((refL c).length : Int) := by omega
              have p2 : 0 ≤ (i : Int) := by omega
              have p3 : (i : Int) < (l.length : Int) := by omega
              have p4 : wrap64 ((i : Int) + 1) = ((i + 1 : Nat) : Int) := by rw [w64 (by omega) (by omega)]; omega
              have rl : rd l (i : Int) = l[i] := by simp [rd, List.getD_eq_getElem?_getD, List.getElem?_eq_getElem hil]
              have rR : rd (refL c) (i : Int) = (refL c)[i] := by simp [rd, List.getD_eq_getElem?_getD, List.getElem?_eq_getElem hi]
              have hz := ref_ascii hs (refL c)[i] (List.getElem_mem hi)
              have ew : wrap32 (refL c)[i] = (refL c)[i] := w32 (by omega) (by omega)
              have hg : l[i] = (refL c)[i] := by
                have : l[i]? = some (refL c)[i] := by rw [e, List.getElem?_append_left hi, List.getElem?_eq_getElem hi]
                exact (List.getElem?_eq_some_iff.1 this).2
              refine Ev.step (f := fun k => amanuensisref01_Scan.l2 k l (n : Int) c (refL c) true ((i + 1 : Nat) : Int)) (fun k => ?_) (ih (i + 1) (by omega))
              rw [amanuensisref01_Scan.l2, if_pos p1, if_pos rfl, if_pos p2, if_pos p3, rl, rR, ew, p4, hg, beq_self_eq_true]
          rw [hl2, beq_self_eq_true]
          exact key (refL c).length 0 (by omega)
    -- the digits are read one by one
    have dig : ∀ (d i : Nat) (x : Int), i + d = n → 0 ≤ x → x < 16 ^ i → vfold x ((l.drop (3 + i)).take d) = c → (∀ z ∈ (l.drop (3 + i)).take d, 0 ≤ hexv z) → Ev (fun k => amanuensisref01_Scan.l1 k l (n : Int) x true (i : Int)) (c, ((n + 4 : Nat) : Int)) := by
      intro d
      induction d with
      | zero =>
        intro i x ei x0 x1 hv _
        obtain rfl : i = n := by omega
        have : x = c := by simpa [vfold] using hv
        subst this; exact final
      | succ d ih =>
        intro i x ei x0 x1 hv hz
        have hp : 3 + i < l.length := by omega
        have hb := pow16 i (by omega)
        have ht : (l.drop (3 + i)).take (d + 1) = l[3 + i] :: (l.drop (3 + (i + 1))).take d := by
          rw [List.drop_eq_getElem_cons hp]; rfl
        rw [ht] at hv hz
        obtain ⟨y, ok', hst, hy⟩ := l1_step l n i x l[3 + i] true hn (by omega) (List.getElem?_eq_getElem hp) hll (hr _ (List.getElem_mem hp))
        have hx := hz l[3 + i] (by simp)
        have hl16 := hexv_lt l[3 + i]
        rcases hy with ⟨_, rfl, hy⟩ | ⟨hx', _⟩
        · have ey := hy x0 (by omega)
          subst ey
          exact ev_two hst (ih (i + 1) _ (by omega) (by omega) (by rw [Int.pow_succ]; omega) hv (fun z h => hz z (List.mem_cons_of_mem _ h)))
        · omega
    exact dig n 0 0 (by omega) (by omega) (by decide) (by rw [hD, vfold_digs hs]) (by rw [hD]; exact hf.1)
  · have hno' := hno hA
    have skip : ∀ x, Ev (fun k => amanuensisref01_Scan.j3 k l (n : Int) x true) r := by
      intro x
      refine Ev.step (f := fun k => amanuensisref01_Scan.l0 k l ((n + 1 : Nat) : Int)) (fun k => ?_) hno'
      rw [amanuensisref01_Scan.j3, if_pos rfl, q5]
    refine l1_all l n hn (by omega) hll hr r (fun y => ?_) n 0 0 true (by omega) (by omega) (by decide) (fun _ hz => ?_)
    · refine Ev.step (f := fun k => amanuensisref01_Scan.j3 k l (n : Int) y true) (fun k => ?_) (skip y)
      rw [amanuensisref01_Scan.l1, if_neg q6, if_neg (by decide)]
    · obtain ⟨D, hD⟩ : ∃ D, (l.drop (3 + 0)).take n = D := ⟨_, rfl⟩
      rw [hD] at hz ⊢
      have hDl : D.length = n := by rw [← hD, List.length_take, List.length_drop]; omega
      have hb := vfold_bound D 0 0 hz (by omega) (by decide)
      rw [hDl, Nat.zero_add] at hb
      have hb6 : (16 : Int) ^ n ≤ 16777216 := by
        have : n = 4 ∨ n = 5 ∨ n = 6 := by omega
        rcases this with rfl | rfl | rfl <;> decide
      obtain ⟨x, hx⟩ : ∃ x, vfold 0 D = x := ⟨_, rfl⟩
      rw [hx] at hb ⊢
      have hx32 : wrap32 x = x := w32 (by omega) (by omega)
      by_cases hs : Scal x
      · refine Ev.step (f := fun k => amanuensisref01_Scan.j3 k l (n : Int) x false) (fun k => ?_) ?_
        · rw [amanuensisref01_Scan.l1, if_neg q6, if_pos rfl, hx32, (scalar_yes hs).2]; rfl
        · refine Ev.step (f := fun k => (amanuensisref01_Ref.f k x).bind fun R => amanuensisref01_Scan.l2 k l (n : Int) x R ((R.length : Int) == (n : Int) + 4) 0) (fun k => ?_) ?_
          · rw [amanuensisref01_Scan.j3, if_neg (by decide), hx32, q3]
          · refine Ev.bind (ev_ref hs) ?_
            by_cases hlen : (refL x).length = n + 4
            · have hl2 : ((refL x).length : Int) = (n : Int) + 4 := by omega
              rw [hl2, beq_self_eq_true]
              exact l2_run l n x (refL x) (ref_ascii hs) hn hll (by omega) r hno' (fun ⟨s, e⟩ => absurd ⟨x, ⟨hs, s, e.symm⟩, hlen⟩ hA) (refL x).length 0 (by omega) (by simp)
            · have hl2 : (((refL x).length : Int) == (n : Int) + 4) = false := by rw [beq_eq_false_iff_ne]; omega
              rw [hl2]
              have q : (0 : Int) < ((refL x).length : Int) := by rw [ref_length]; omega
              refine Ev.step (f := fun k => amanuensisref01_Scan.l0 k l ((n + 1 : Nat) : Int)) (fun k => ?_) hno'
              rw [amanuensisref01_Scan.l2, if_pos q, if_neg (by decide), q5]
      · refine Ev.step (f := fun k => amanuensisref01_Scan.j3 k l (n : Int) x true) (fun k => ?_) (skip x)
        rw [amanuensisref01_Scan.l1, if_neg q6, if_pos rfl, hx32, (scalar_no hs).2]; rfl
theorem l0_short (l : List Int) (n : Nat) (h4 : 4 ≤ n) (hn : n ≤ 6) (hl : l.length < n + 4) : Ev (fun k => amanuensisref01_Scan.l0 k l (n : Int)) (0, 0) := by
  have q1 : (n : Int) ≤ 6 := by omega
  have q2 : ((l.length : Int) < (n : Int) + 4) := by omega
  have q3 : wrap64 ((n : Int) + 4) = (n : Int) + 4 := w64 (by omega) (by omega)
  refine Ev.step (f := fun k => some (0, 0)) (fun k => ?_) (Ev.now _)
  rw [amanuensisref01_Scan.l0, if_pos q1, q3, if_pos q2]
theorem l0_seven (l : List Int) : Ev (fun k => amanuensisref01_Scan.l0 k l ((7 : Nat) : Int)) (0, 0) := by
  have q1 : ¬ (((7 : Nat) : Int) ≤ 6) := by decide
  refine Ev.step (f := fun k => some (0, 0)) (fun k => ?_) (Ev.now _)
  rw [amanuensisref01_Scan.l0, if_neg q1]
theorem rscan_no {l : List Int} (hll : l.length < 1000000000000) (hr : ∀ x ∈ l, -2147483648 ≤ x ∧ x ≤ 2147483647) (h : NoAt l) : Ev (fun k => amanuensisref01_Scan.f k l) (0, 0) := by
  have no : ∀ n : Nat, ∀ c, At l c → (refL c).length = n + 4 → (c, ((n + 4 : Nat) : Int)) = (0, 0) := fun n c hc _ => absurd hc (h c)
  have step : ∀ n : Nat, 4 ≤ n → n ≤ 6 → Ev (fun k => amanuensisref01_Scan.l0 k l ((n + 1 : Nat) : Int)) (0, 0) → Ev (fun k => amanuensisref01_Scan.l0 k l (n : Int)) (0, 0) := by
    intro n h4 h6 hx
    by_cases hl : n + 4 ≤ l.length
    · exact att l n h4 h6 hl hll hr _ (fun _ => hx) (no n)
    · exact l0_short l n h4 h6 (by omega)
  exact step 4 (by omega) (by omega) (step 5 (by omega) (by omega) (step 6 (by omega) (by omega) (l0_seven l)))
theorem rscan_at {l : List Int} {c : Int} (hll : l.length < 1000000000000) (hr : ∀ x ∈ l, -2147483648 ≤ x ∧ x ≤ 2147483647) (h : At l c) : Ev (fun k => amanuensisref01_Scan.f k l) (c, ((refL c).length : Int)) := by
  have hlen := @digs_len c
  have hle : (refL c).length ≤ l.length := by obtain ⟨_, s, e⟩ := h; rw [e, List.length_append]; omega
  have hrl := @ref_length c
  have uni : ∀ n : Nat, ∀ c', At l c' → (refL c').length = n + 4 → (c', ((n + 4 : Nat) : Int)) = (c, ((refL c).length : Int)) := by
    intro n c' ⟨hs', s', e'⟩ hl'
    obtain ⟨hs, s, e⟩ := h
    obtain ⟨rfl, _⟩ := ref_unique hs' hs (e'.symm.trans e)
    rw [hl']
  have step : ∀ n : Nat, 4 ≤ n → n ≤ 6 → n ≤ (digs c).length → (n ≠ (digs c).length → Ev (fun k => amanuensisref01_Scan.l0 k l ((n + 1 : Nat) : Int)) (c, ((refL c).length : Int))) → Ev (fun k => amanuensisref01_Scan.l0 k l (n : Int)) (c, ((refL c).length : Int)) := by
    intro n h4 h6 hnd hx
    refine att l n h4 h6 (by omega) hll hr _ (fun hA => hx (fun e => hA ⟨c, h, by omega⟩)) (uni n)
  exact step 4 (by omega) (by omega) (by omega) fun h4 => step 5 (by omega) (by omega) (by omega) fun h5 => step 6 (by omega) (by omega) (by omega) fun h6 => by omega

/-! Has -/
theorem ev_has_from (x0 : List Int) (h0 : x0.length < 1000000000000) (hr : ∀ x ∈ x0, -2147483648 ≤ x ∧ x ≤ 2147483647) : ∀ (d i : Nat), i + d = x0.length →
    (Any (x0.drop i) → Ev (fun k => ncr_Has.l0 k x0 (x0.length : Int) (i : Int)) true ∧ Ev (fun k => amanuensisref01_Has.l0 k x0 (i : Int)) true) ∧
    (¬ Any (x0.drop i) → Ev (fun k => ncr_Has.l0 k x0 (x0.length : Int) (i : Int)) false ∧ Ev (fun k => amanuensisref01_Has.l0 k x0 (i : Int)) false)
  | 0, i, e => by
    have hd : x0.drop i = [] := List.drop_of_length_le (by omega)
    rw [hd]
    have q : ¬ ((i : Int) < (x0.length : Int)) := by omega
    refine ⟨fun ⟨j, hj, _⟩ => absurd hj (by simp), fun _ => ⟨?_, ?_⟩⟩
    · refine Ev.step (f := fun _ => some false) (fun k => ?_) (Ev.now _)
      rw [ncr_Has.l0, if_neg q]
    · refine Ev.step (f := fun _ => some false) (fun k => ?_) (Ev.now _)
      rw [amanuensisref01_Has.l0, if_neg q]
  | d + 1, i, e => by
    have hlt : i < x0.length := by omega
    have ih := ev_has_from x0 h0 hr d (i + 1) (by omega)
    have q1 : (i : Int) < (x0.length : Int) := by omega
    have q2 : 0 ≤ (i : Int) := by omega
    have q3 : (i : Int) ≤ (x0.length : Int) := by omega
    have q4 : wrap64 ((i : Int) + 1) = ((i + 1 : Nat) : Int) := by rw [w64 (by omega) (by omega)]; omega
    have hrD : ∀ x ∈ x0.drop i, -2147483648 ≤ x ∧ x ≤ 2147483647 := fun x hx => hr x (List.mem_of_mem_drop hx)
    have hlD : (x0.drop i).length < 1000000000000 := by rw [List.length_drop]; omega
    have s1 : ∀ k, ncr_Has.l0 (k + 1) x0 (x0.length : Int) (i : Int) = (ncr_Scan.f k (x0.drop i)).bind fun b => if b.2 > 0 then some true else ncr_Has.l0 k x0 (x0.length : Int) ((i + 1 : Nat) : Int) := by
      intro k; rw [ncr_Has.l0, if_pos q1, if_pos q2, if_pos q3, q4, Int.toNat_natCast]
    have s2 : ∀ k, amanuensisref01_Has.l0 (k + 1) x0 (i : Int) = (amanuensisref01_Scan.f k (x0.drop i)).bind fun b => if b.2 > 0 then some true else amanuensisref01_Has.l0 k x0 ((i + 1 : Nat) : Int) := by
      intro k; rw [amanuensisref01_Has.l0, if_pos q1, if_pos q2, if_pos q3, q4, Int.toNat_natCast]
    have hcons : x0.drop i = x0[i] :: x0.drop (i + 1) := List.drop_eq_getElem_cons hlt
    by_cases hA : ∃ c, At (x0.drop i) c
    · have hany : Any (x0.drop i) := by
        obtain ⟨c, hc⟩ := hA
        exact ⟨0, by rw [List.length_drop]; omega, c, hc⟩
      refine ⟨fun _ => ?_, fun h => absurd hany h⟩
      obtain ⟨c, hc⟩ := hA
      have q : ((refL c).length : Int) > 0 := by rw [ref_length]; omega
      constructor
      · refine Ev.step s1 (Ev.bind (scan_at hlD (fun x hx => (hrD x hx).1) hc) ?_)
        simp only [if_pos q]; exact Ev.now _
      · refine Ev.step s2 (Ev.bind (rscan_at hlD hrD hc) ?_)
        simp only [if_pos q]; exact Ev.now _
    · have hno : NoAt (x0.drop i) := fun c hc => hA ⟨c, hc⟩
      have hiff : Any (x0.drop i) ↔ Any (x0.drop (i + 1)) := by
        rw [hcons, any_cons, ← hcons]
        exact ⟨fun h => h.resolve_left hA, .inr⟩
      have q : ¬ ((0 : Int) > 0) := by omega
      have go1 : ∀ r, Ev (fun k => ncr_Has.l0 k x0 (x0.length : Int) ((i + 1 : Nat) : Int)) r → Ev (fun k => ncr_Has.l0 k x0 (x0.length : Int) (i : Int)) r := by
        intro r h
        refine Ev.step s1 (Ev.bind (scan_no hlD (fun x hx => (hrD x hx).1) hno) ?_)
        simp only [if_neg q]; exact h
      have go2 : ∀ r, Ev (fun k => amanuensisref01_Has.l0 k x0 ((i + 1 : Nat) : Int)) r → Ev (fun k => amanuensisref01_Has.l0 k x0 (i : Int)) r := by
        intro r h
        refine Ev.step s2 (Ev.bind (rscan_no hlD hrD hno) ?_)
        simp only [if_neg q]; exact h
      exact ⟨fun h => ⟨go1 _ (ih.1 (hiff.1 h)).1, go2 _ (ih.1 (hiff.1 h)).2⟩, fun h => ⟨go1 _ (ih.2 (fun h' => h (hiff.2 h'))).1, go2 _ (ih.2 (fun h' => h (hiff.2 h'))).2⟩⟩
theorem ev_has {l : List Int} (h0 : l.length < 1000000000000) (hr : ∀ x ∈ l, -2147483648 ≤ x ∧ x ≤ 2147483647) :
    (Any l → Ev (fun k => ncr_Has.f k l) true ∧ Ev (fun k => amanuensisref01_Has.f k l) true) ∧ (¬ Any l → Ev (fun k => ncr_Has.f k l) false ∧ Ev (fun k => amanuensisref01_Has.f k l) false) :=
  ev_has_from l h0 hr l.length 0 (by omega)

/-! the reference's Expand -/
theorem ev_rexpand : ∀ (n : Nat) (x0 x3 : List Int) (i : Nat) (r : List Int), x0.length < 1000000000000 → x3.length + n < 1000000000000 → (∀ x ∈ x0, -2147483648 ≤ x ∧ x ≤ 2147483647) → i ≤ x0.length → Exp n (x0.drop i) r →
    Ev (fun k => amanuensisref01_Expand.l0 k x0 x3 (i : Int)) (x3 ++ r)
  | 0, x0, x3, i, r, h0, h3, hr, hi, ⟨e1, e2⟩ => by
    subst e2
    have hl : x0.length ≤ i := by have := congrArg List.length e1; simp at this; omega
    have q : ¬ ((i : Int) < (x0.length : Int)) := by omega
    refine Ev.step (f := fun _ => some x3) (fun k => ?_) (by rw [List.append_nil]; exact Ev.now _)
    rw [amanuensisref01_Expand.l0, if_neg q]
  | n + 1, x0, x3, i, r, h0, h3, hr, hi, h => by
    have hlt : i < x0.length := by
      rcases Nat.lt_or_ge i x0.length with h' | h'
      · exact h'
      · exfalso
        have h1 := exp_len _ _ _ h
        rw [List.length_drop] at h1; omega
    have hne : (x0.drop i) = x0[i] :: x0.drop (i + 1) := List.drop_eq_getElem_cons hlt
    have hrd : rd x0 (i : Int) = x0[i] := by simp [rd, List.getD_eq_getElem?_getD, List.getElem?_eq_getElem hlt]
    have hrD : ∀ x ∈ x0.drop i, -2147483648 ≤ x ∧ x ≤ 2147483647 := fun x hx => hr x (List.mem_of_mem_drop hx)
    have hlD : (x0.drop i).length < 1000000000000 := by rw [List.length_drop]; omega
    have q1 : (i : Int) < (x0.length : Int) := by omega
    have q2 : 0 ≤ (i : Int) := by omega
    have q3 : (i : Int) ≤ (x0.length : Int) := by omega
    have q4 : wrap64 ((i : Int) + 1) = ((i + 1 : Nat) : Int) := by rw [w64 (by omega) (by omega)]; omega
    have q5 : x3.length < 35184372088832 := by omega
    have step : ∀ k, amanuensisref01_Expand.l0 (k + 1) x0 x3 (i : Int) = (amanuensisref01_Scan.f k (x0.drop i)).bind fun b => if b.2 = 0 then amanuensisref01_Expand.l0 k x0 (x3 ++ [x0[i]]) ((i + 1 : Nat) : Int) else amanuensisref01_Expand.l0 k x0 (x3 ++ [b.1]) (wrap64 ((i : Int) + b.2)) := by
      intro k
      rw [amanuensisref01_Expand.l0, if_pos q1, if_pos q2, if_pos q3, q4, hrd, Int.toNat_natCast]
      simp only [if_pos q5]
    refine Ev.step step ?_
    rcases h with ⟨c, l', r', hs, e1, rfl, hx⟩ | ⟨a, l', r', e1, rfl, hno, hx⟩
    · refine Ev.bind (rscan_at hlD hrD ⟨hs, l', e1⟩) ?_
      have hlc : 0 < (refL c).length := by rw [ref_length]; omega
      have hle : (refL c).length + i ≤ x0.length := by
        have := congrArg List.length e1
        rw [List.length_drop, List.length_append] at this; omega
      have ih := ev_rexpand n x0 (x3 ++ [c]) (i + (refL c).length) r' h0 (by simp; omega) hr (by omega) (by rw [← List.drop_drop, e1, List.drop_left' rfl]; exact hx)
      have q : ¬ (((refL c).length : Int) = 0) := by omega
      have qw : wrap64 ((i : Int) + ((refL c).length : Int)) = ((i + (refL c).length : Nat) : Int) := by rw [w64 (by omega) (by omega)]; omega
      simp only [if_neg q, qw]
      rw [List.append_assoc] at ih; exact ih
    · refine Ev.bind (rscan_no hlD hrD hno) ?_
      rw [hne] at e1
      injection e1 with e1 e2
      subst e1 e2
      have ih := ev_rexpand n x0 (x3 ++ [x0[i]]) (i + 1) r' h0 (by simp; omega) hr (by omega) hx
      simp only [if_true]
      rw [List.append_assoc] at ih; exact ih
theorem ev_rexp {n : Nat} {l r : List Int} (hl : l.length < 100000000000) (hr : ∀ x ∈ l, -2147483648 ≤ x ∧ x ≤ 2147483647) (h : Exp n l r) : Ev (fun k => amanuensisref01_Expand.f k l) r := by
  have := ev_rexpand n l [] 0 r (by omega) (by have := (exp_len _ _ _ h).2; simp; omega) hr (by omega) h
  exact this
end Go.Proofs.Ytfoffegcglommaa.Pure
