/- Rows of fields and entries in worlds. Conditions: those that each theorem states. -/
import Derived.Test.YtkhnnbfgjfkfeaaGreatDoorKRhc
namespace Go.Proofs.YtkhnnbfgjfkfeaaGreatDoor
open Go.RowKit Go.Proofs.YtkhnnbfgjfkfeaaGreatDoorW.PrintWords Go.Proofs.YtkhnnbfgjfkfeaaGreatDoorW.PrintLast Go.Proofs.YtkhnnbfgjfkfeaaGreatDoorW.PrintMore Go.Proofs.YtkhnnbfgjfkfeaaGreatDoor.PCod
set_option linter.unusedVariables false
set_option linter.unusedSimpArgs false
theorem at_total (i c : Int) (k : Nat) (hk : 2 ≤ k) : ∃ r, amanuensisref19_at.f k i c false = some r ∧ (i < 5 → r = true → 48 ≤ c ∧ c ≤ 57) := by
  obtain ⟨k, rfl⟩ : ∃ k', k = k' + 2 := ⟨k - 2, by omega⟩
  have j1 : ∀ x26 x35, ∃ r, amanuensisref19_at.j1 (k + 1) c x26 x35 = some r := by
    intro x26 x35
    rw [amanuensisref19_at.j1]
    repeat' split
    all_goals exact ⟨_, rfl⟩
  have j0 : ∀ x16, ∃ r, amanuensisref19_at.j0 (k + 2) i c false x16 = some r ∧ (x16 = true → r = true → 48 ≤ c ∧ c ≤ 57) := by
    intro x16
    rw [amanuensisref19_at.j0]
    cases x16 with
    | true =>
      rw [if_pos rfl, if_neg (by decide)]
      by_cases h : c ≥ 48
      · rw [if_pos h]; exact ⟨_, rfl, fun _ h2 => ⟨h, of_decide_eq_true h2⟩⟩
      · rw [if_neg h]; exact ⟨_, rfl, fun _ h2 => by simp at h2⟩
    | false =>
      rw [if_neg (by decide)]
      repeat' split
      all_goals first
        | exact ⟨_, rfl, fun h => by simp at h⟩
        | (obtain ⟨r, hr⟩ := j1 i (i == 10); exact ⟨r, hr, fun h => by simp at h⟩)
        | (obtain ⟨r, hr⟩ := j1 i (i == 11); exact ⟨r, hr, fun h => by simp at h⟩)
  unfold amanuensisref19_at.f
  by_cases h5 : i < 5
  · rw [if_pos h5]
    obtain ⟨r, h1, h2⟩ := j0 true
    exact ⟨r, h1, fun _ => h2 rfl⟩
  · rw [if_neg h5]
    split
    · obtain ⟨r, h1, _⟩ := j0 (decide (i < 17)); exact ⟨r, h1, fun h => absurd h h5⟩
    · obtain ⟨r, h1, _⟩ := j0 false; exact ⟨r, h1, fun h => absurd h h5⟩
/-- what ref19.Leader asks of the byte at a place -/
def LeadAt (xs : List Int) (m : Nat) : Prop := ∃ k, amanuensisref19_at.f k m (xs.getD m 0) false = some true
theorem leader_l (xs : List Int) : ∀ (d j : Nat), j + d = 24 → j ≤ xs.length → (∀ m, m < j → LeadAt xs m ∧ (m < 5 → dig (xs.getD m 0) = true)) → ∀ k, d + 20 ≤ k → ∃ r1 r2 r3 r4, amanuensisref19_Leader.l0 k xs j = some (r1, r2, r3, r4) ∧ (r3 = 0 → 24 ≤ xs.length ∧ (xs.take 5).all dig = true ∧ r1 = numP (xs.take 5) ∧ r2 = numP ((xs.take 17).drop 12) ∧ ∀ m, m < 24 → LeadAt xs m)
  | 0, j, hj, hl, hd, k + 1, hk => by
    rw [amanuensisref19_Leader.l0, if_neg (by omega), if_pos (by omega), num_eq (xs.take 5) (by rw [List.length_take]; omega) k (by omega)]
    rw [Option.bind_some, if_pos (by decide), if_pos (by omega), num_eq ((xs.take 17).drop 12) (by rw [List.length_drop, List.length_take]; omega) k (by omega), Option.bind_some]
    refine ⟨_, _, _, _, rfl, fun _ => ⟨by omega, ?_, rfl, rfl, fun m hm => (hd m (by omega)).1⟩⟩
    rw [List.all_eq_true]
    intro x hx
    obtain ⟨m, hm, rfl⟩ := List.mem_take_iff_getElem.1 hx
    have := (hd m (by omega)).2 (by omega)
    rwa [List.getD_eq_getElem?_getD, List.getElem?_eq_getElem (by omega)] at this
  | d + 1, j, hj, hl, hd, k + 1, hk => by
    rw [amanuensisref19_Leader.l0, if_pos (by omega)]
    by_cases he : (j : Int) = xs.length
    · rw [if_pos he]; exact ⟨_, _, _, _, rfl, fun h => absurd h (by decide)⟩
    · rw [if_neg he, if_pos (by omega), if_pos (by omega)]
      obtain ⟨r, hr, hr2⟩ := at_total j (rd xs j) k (by omega)
      rw [hr, Option.bind_some]
      cases r with
      | false => rw [if_neg (by decide)]; exact ⟨_, _, _, _, rfl, fun h => absurd h (by decide)⟩
      | true =>
        rw [if_pos rfl]
        have e : wrap64 ((j : Int) + 1) = ((j + 1 : Nat) : Int) := by unfold wrap64; omega
        rw [e]
        refine leader_l xs d (j + 1) (by omega) (by omega) (fun m hm => ?_) k (by omega)
        rcases Nat.lt_or_ge m j with h | h
        · exact hd m h
        · obtain rfl : m = j := by omega
          refine ⟨⟨k, hr⟩, fun h5 => ?_⟩
          have := hr2 (by omega) rfl
          unfold dig
          exact decide_eq_true this
theorem leader_is (xs : List Int) : ∃ k r1 r2 r3 r4, amanuensisref19_Leader.f k xs = some (r1, r2, r3, r4) ∧ (r3 = 0 → 24 ≤ xs.length ∧ (xs.take 5).all dig = true ∧ r1 = numP (xs.take 5) ∧ r2 = numP ((xs.take 17).drop 12) ∧ ∀ m, m < 24 → LeadAt xs m) := by
  obtain ⟨r1, r2, r3, r4, h1, h2⟩ := leader_l xs 24 0 (by omega) (by omega) (fun m hm => absurd hm (by omega)) 44 (by omega)
  exact ⟨44, r1, r2, r3, r4, h1, h2⟩
theorem EntOk.at : ∀ {l : List S46} {s e : Int} (i : Nat), EntOk s l e → i < l.length → s ≤ (l.getD i z46).f2 ∧ 1 ≤ (l.getD i z46).f1 ∧ (l.getD i z46).f1 ≤ 9999 ∧ (l.getD i z46).f2 + (l.getD i z46).f1 ≤ e
  | [], _, _, i, _, hi => by simp at hi
  | q :: l, s, e, 0, h, _ => by
    have := EntOk.bound h.2.2.2
    have h1 := h.1
    have h2 := h.2.1
    have h3 := h.2.2.1
    simp; omega
  | q :: l, s, e, i + 1, h, hi => by
    have h2 := h.2.1
    have := EntOk.at i h.2.2.2 (by simpa using hi)
    simp only [List.getD_cons_succ]
    omega
theorem EntOk.next {l : List S46} {s e : Int} {i : Nat} (h : EntOk s (l.drop i) e) (hi : i < l.length) : EntOk (s + (l.getD i z46).f1) (l.drop (i + 1)) e ∧ 1 ≤ (l.getD i z46).f1 ∧ (l.getD i z46).f1 ≤ 9999 := by
  rw [List.drop_eq_getElem_cons hi] at h
  have e : l.getD i z46 = l[i] := by rw [List.getD_eq_getElem?_getD, List.getElem?_eq_getElem hi]; rfl
  rw [e]
  exact ⟨h.2.2.2, h.2.1, h.2.2.1⟩
/-- Parse's own blocks -/
structure PB (w W : World) (g2 g3 g6 : Nat) (E6 a6 : Int) : Prop where
  below : Below w.heap.size w W
  b2 : W.heap[g2]? = some (.cells #[.string ByteArray.empty, .slice none 0 0] 28 (0, 0))
  b3 : W.heap[g3]? = some (.cells #[.int .i64 0, .int .i64 0] 31 (0, 0))
  b6 : W.heap[g6]? = some (.cells #[.int .i64 E6, .int .i64 a6] 31 (0, 0))
  e2 : w.heap.size ≤ g2
  e3 : w.heap.size ≤ g3
  e6 : w.heap.size ≤ g6
  n36 : g3 ≠ g6
namespace PB
variable {w W W1 : World} {g2 g3 g6 : Nat} {E6 a6 : Int}
theorem of_below (h : PB w W g2 g3 g6 E6 a6) (hb : Below W.heap.size W W1) : PB w W1 g2 g3 g6 E6 a6 := ⟨h.below.trans (hb.mono h.below.size), blk_below h.b2 hb, blk_below h.b3 hb, blk_below h.b6 hb, h.e2, h.e3, h.e6, h.n36⟩
theorem cells (h : PB w W g2 g3 g6 E6 a6) : (W.cell? ⟨g2, 0, none⟩ = some (.string ByteArray.empty) ∧ W.cell? ⟨g2, 1, none⟩ = some (.slice none 0 0)) ∧ (W.cell? ⟨g3, 0, none⟩ = some (.int .i64 0) ∧ W.cell? ⟨g3, 1, none⟩ = some (.int .i64 0)) ∧ (W.cell? ⟨g6, 0, none⟩ = some (.int .i64 E6) ∧ W.cell? ⟨g6, 1, none⟩ = some (.int .i64 a6)) ∧
    (∀ i, W.frozen? ⟨g2, i, none⟩ = false) ∧ (∀ i, W.frozen? ⟨g3, i, none⟩ = false) ∧ (∀ i, W.frozen? ⟨g6, i, none⟩ = false) := by
  refine ⟨⟨?_, ?_⟩, ⟨?_, ?_⟩, ⟨?_, ?_⟩, fun i => blk_frozen h.b2 i, fun i => blk_frozen h.b3 i, fun i => blk_frozen h.b6 i⟩
  · rw [blk_cell h.b2]; rfl
  · rw [blk_cell h.b2]; rfl
  · rw [blk_cell h.b3]; rfl
  · rw [blk_cell h.b3]; rfl
  · rw [blk_cell h.b6]; rfl
  · rw [blk_cell h.b6]; rfl
theorem ne23 (h : PB w W g2 g3 g6 E6 a6) : g2 ≠ g3 := blk_ne h.b2 h.b3 (by decide)
theorem ne26 (h : PB w W g2 g3 g6 E6 a6) : g2 ≠ g6 := blk_ne h.b2 h.b6 (by decide)
theorem ret2 (h : PB w W g2 g3 g6 E6 a6) (u v e a : Value) : ((((W.setCell ⟨g2, 0, none⟩ u).setCell ⟨g2, 1, none⟩ v).setCell ⟨g3, 0, none⟩ e).setCell ⟨g3, 1, none⟩ a).heap[g2]? = some (.cells #[u, v] 28 (0, 0)) :=
  blk_far (blk_far (blk_put (blk_put h.b2 0 u rfl) 1 v rfl) h.ne23 e) h.ne23 a
theorem ret3 (h : PB w W g2 g3 g6 E6 a6) (u v e a : Value) : ((((W.setCell ⟨g2, 0, none⟩ u).setCell ⟨g2, 1, none⟩ v).setCell ⟨g3, 0, none⟩ e).setCell ⟨g3, 1, none⟩ a).heap[g3]? = some (.cells #[e, a] 31 (0, 0)) :=
  have hn := fun e => h.ne23 (Eq.symm e)
  blk_put (blk_put (blk_far (blk_far h.b3 hn u) hn v) 0 e rfl) 1 a rfl
theorem retB (h : PB w W g2 g3 g6 E6 a6) (u v e a : Value) : Below w.heap.size w ((((W.setCell ⟨g2, 0, none⟩ u).setCell ⟨g2, 1, none⟩ v).setCell ⟨g3, 0, none⟩ e).setCell ⟨g3, 1, none⟩ a) :=
  Below.setCell (Below.setCell (Below.setCell (Below.setCell h.below h.e2 u) h.e2 v) h.e3 e) h.e3 a
theorem put6 (h : PB w W g2 g3 g6 E6 a6) (E a : Int) : PB w ((W.setCell ⟨g6, 0, none⟩ (.int .i64 E)).setCell ⟨g6, 1, none⟩ (.int .i64 a)) g2 g3 g6 E a :=
  ⟨Below.setCell (Below.setCell h.below h.e6 _) h.e6 _, blk_far (blk_far h.b2 h.ne26 _) h.ne26 _, blk_far (blk_far h.b3 h.n36 _) h.n36 _, blk_put (blk_put h.b6 0 _ rfl) 1 _ rfl, h.e2, h.e3, h.e6, h.n36⟩
end PB
/-- a field of a record that is taken -/
structure RecAt (xs : List Int) (base : Int) (p : S46) : Prop where
  stop : xs.getD (base + p.f2 + p.f1 - 1).toNat 0 = 30
  field : ∃ bt bc, (∃ k, amanuensisref19_Tag.f k p.f0 = some bt) ∧ amanuensisref19_Control.f p.f0 = some bc ∧ FieldOk bt bc ((xs.take (base + p.f2 + p.f1 - 1).toNat).drop (base + p.f2).toNat)
/-- what a record that is taken is -/
structure RecOk (xs : List Int) (base : Int) (l : List S46) (nx : Int) : Prop where
  l24 : 24 ≤ xs.length
  lead : ∀ m, m < 24 → LeadAt xs m
  max : xs.length ≤ 99999
  dig : (xs.take 5).all dig = true
  len : (xs.length : Int) = numP (xs.take 5)
  bas : base = numP ((xs.take 17).drop 12)
  b25 : 25 ≤ base
  blt : base < xs.length
  b12 : (base - 25) % 12 = 0
  b30 : xs.getD (base.toNat - 1) 0 = 30
  last : xs.getD (xs.length - 1) 0 = 29
  ents : Ents ((xs.take (base - 1).toNat).drop 24) l
  dlen : ((xs.take (base - 1).toNat).drop 24).length = 12 * l.length
  ok : EntOk 0 l nx
  fin : base + nx = xs.length - 1
  each : ∀ j, j < l.length → RecAt xs base (l.getD j z46)
def ParseRes (xs : List Int) (e : Ending) : Prop := ∃ (s : ByteArray) (A : Option Addr) (n c : Nat) (E a : Int), e = .returned (.tuple #[.agg #[.string s, .slice A n c], .agg #[.int .i64 E, .int .i64 a]]) ∧ (E = 0 → s = strOfNums (xs.take 24) ∧ ∃ base l nx, RecOk xs base l nx)
theorem ParseRes.bad (xs : List Int) (s : ByteArray) (A : Option Addr) (n c : Nat) (E a : Int) (h : E ≠ 0) : ParseRes xs (.returned (.tuple #[.agg #[.string s, .slice A n c], .agg #[.int .i64 E, .int .i64 a]])) := ⟨s, A, n, c, E, a, rfl, fun h0 => absurd h0 h⟩
theorem ParseRes.good {xs : List Int} {s : ByteArray} (hs : s = strOfNums (xs.take 24)) {base : Int} {l : List S46} {nx : Int} (h : RecOk xs base l nx) (A : Option Addr) (n c : Nat) (E a : Int) : ParseRes xs (.returned (.tuple #[.agg #[.string s, .slice A n c], .agg #[.int .i64 E, .int .i64 a]])) := ⟨s, A, n, c, E, a, rfl, fun _ => ⟨hs, base, l, nx, h⟩⟩
end Go.Proofs.YtkhnnbfgjfkfeaaGreatDoor
