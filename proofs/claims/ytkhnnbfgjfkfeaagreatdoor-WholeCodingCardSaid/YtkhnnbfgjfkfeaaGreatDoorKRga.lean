/- The plain shapes of fields, entries and records, and the first helpers walked. Conditions: those that each theorem states. -/
import Derived.Test.YtkhnnbfgjfkfeaaGreatDoorKPa
import Derived.Test.YtkhnnbfgjfkfeaaGreatDoorKPb
import Derived.Lib.BytesEntry
import Derived.WalkSpells
import Derived.Outline
import Derived.Lib.Hide
import Derived.RegionTactic
import Derived.Deep.RegionLaw
namespace Go.Proofs.YtkhnnbfgjfkfeaaGreatDoor
open Go.RowKit Go.Proofs.YtkhnnbfgjfkfeaaGreatDoorW.PrintWords Go.Proofs.YtkhnnbfgjfkfeaaGreatDoorW.PrintLast Go.Proofs.YtkhnnbfgjfkfeaaGreatDoorW.PrintMore Go.Proofs.YtkhnnbfgjfkfeaaGreatDoor.PCod
set_option linter.unusedVariables false
set_option linter.unusedSimpArgs false
/-- a contract that only draws, the world behind it as a letter -/
theorem told {n : Nat} {args : Array Value} {w : World} {v : Value} (h : Calls Tryz.prog n args w fun e w' => e = .returned v ∧ Drawn0 w w') : Calls Tryz.prog n args w fun e w' => e = .returned v ∧ Below w.heap.size w w' ∧ w'.heap = w.heap := by
  refine h.mono ?_
  rintro e w1 ⟨h1, m, rfl⟩
  exact ⟨h1, pw_below_drewN (Below.refl _ _) m, rfl⟩
/-- the call's own blocks: the results, the fault -/
structure FB (w W : World) (g4 g5 g6 : Nat) (at1 : Int) : Prop where
  below : Below w.heap.size w W
  b4 : W.heap[g4]? = some (.cells #[.string ByteArray.empty, .slice none 0 0, .int .u8 0, .int .u8 0, .slice none 0 0] 50 (0, 0))
  b5 : W.heap[g5]? = some (.cells #[.int .i64 0, .int .i64 0] 31 (0, 0))
  b6 : W.heap[g6]? = some (.cells #[.int .i64 12, .int .i64 at1] 31 (0, 0))
  e4 : w.heap.size ≤ g4
  e5 : w.heap.size ≤ g5
  e6 : w.heap.size ≤ g6
namespace FB
variable {w W W1 : World} {g4 g5 g6 : Nat} {at1 : Int}
theorem c40 (h : FB w W g4 g5 g6 at1) : W.cell? ⟨g4, 0, none⟩ = some (.string ByteArray.empty) := by rw [blk_cell h.b4]; rfl
theorem c41 (h : FB w W g4 g5 g6 at1) : W.cell? ⟨g4, 1, none⟩ = some (.slice none 0 0) := by rw [blk_cell h.b4]; rfl
theorem c42 (h : FB w W g4 g5 g6 at1) : W.cell? ⟨g4, 2, none⟩ = some (.int .u8 0) := by rw [blk_cell h.b4]; rfl
theorem c43 (h : FB w W g4 g5 g6 at1) : W.cell? ⟨g4, 3, none⟩ = some (.int .u8 0) := by rw [blk_cell h.b4]; rfl
theorem c44 (h : FB w W g4 g5 g6 at1) : W.cell? ⟨g4, 4, none⟩ = some (.slice none 0 0) := by rw [blk_cell h.b4]; rfl
theorem c50 (h : FB w W g4 g5 g6 at1) : W.cell? ⟨g5, 0, none⟩ = some (.int .i64 0) := by rw [blk_cell h.b5]; rfl
theorem c51 (h : FB w W g4 g5 g6 at1) : W.cell? ⟨g5, 1, none⟩ = some (.int .i64 0) := by rw [blk_cell h.b5]; rfl
theorem c60 (h : FB w W g4 g5 g6 at1) : W.cell? ⟨g6, 0, none⟩ = some (.int .i64 12) := by rw [blk_cell h.b6]; rfl
theorem c61 (h : FB w W g4 g5 g6 at1) : W.cell? ⟨g6, 1, none⟩ = some (.int .i64 at1) := by rw [blk_cell h.b6]; rfl
theorem f4 (h : FB w W g4 g5 g6 at1) (i : Nat) : W.frozen? ⟨g4, i, none⟩ = false := blk_frozen h.b4 i
theorem f5 (h : FB w W g4 g5 g6 at1) (i : Nat) : W.frozen? ⟨g5, i, none⟩ = false := blk_frozen h.b5 i
theorem f6 (h : FB w W g4 g5 g6 at1) (i : Nat) : W.frozen? ⟨g6, i, none⟩ = false := blk_frozen h.b6 i
theorem alloc_size (w : World) (o : Obj) : (w.alloc o).heap.size = w.heap.size + 1 := by rw [show (w.alloc o).heap = w.heap.push o from rfl, Array.size_push]
theorem of_heap (h : FB w W g4 g5 g6 at1) (hb : Below W.heap.size W W1) (hh : W1.heap = W.heap) : FB w W1 g4 g5 g6 at1 :=
  ⟨h.below.trans (hb.mono h.below.size), by rw [hh]; exact h.b4, by rw [hh]; exact h.b5, by rw [hh]; exact h.b6, h.e4, h.e5, h.e6⟩
theorem start (w : World) : FB w (((w.alloc (.cells #[.string ByteArray.empty, .slice none 0 0, .int .u8 0, .int .u8 0, .slice none 0 0] 50)).alloc (.cells #[.int .i64 0, .int .i64 0] 31)).alloc (.cells #[.int .i64 12, .int .i64 0] 31)) w.heap.size (w.heap.size + 1) (w.heap.size + 1 + 1) 0 := by
  refine ⟨below_alloc (below_alloc (below_alloc (Below.refl _ _) _) _) _, blk_alloc (blk_alloc (blk_new _ _) _) _, ?_, ?_, Nat.le_refl _, by omega, by omega⟩
  · have := blk_new (w.alloc (.cells #[.string ByteArray.empty, .slice none 0 0, .int .u8 0, .int .u8 0, .slice none 0 0] 50)) (.cells #[.int .i64 0, .int .i64 0] 31)
    rw [alloc_size] at this
    exact blk_alloc this _
  · have := blk_new ((w.alloc (.cells #[.string ByteArray.empty, .slice none 0 0, .int .u8 0, .int .u8 0, .slice none 0 0] 50)).alloc (.cells #[.int .i64 0, .int .i64 0] 31)) (.cells #[.int .i64 12, .int .i64 0] 31)
    rw [alloc_size, alloc_size] at this
    exact this
theorem drew (h : FB w W g4 g5 g6 at1) : FB w W.drew g4 g5 g6 at1 := ⟨h.below.drew, h.b4, h.b5, h.b6, h.e4, h.e5, h.e6⟩
theorem ne45 (h : FB w W g4 g5 g6 at1) : g4 ≠ g5 := blk_ne h.b4 h.b5 (by decide)
/-- behind a return: the results' blocks -/
theorem ret4 (h : FB w W g4 g5 g6 at1) (v0 v1 v2 v3 v4 e a : Value) : (((((((W.setCell ⟨g4, 0, none⟩ v0).setCell ⟨g4, 1, none⟩ v1).setCell ⟨g4, 2, none⟩ v2).setCell ⟨g4, 3, none⟩ v3).setCell ⟨g4, 4, none⟩ v4).setCell ⟨g5, 0, none⟩ e).setCell ⟨g5, 1, none⟩ a).heap[g4]? = some (.cells #[v0, v1, v2, v3, v4] 50 (0, 0)) :=
  blk_far (blk_far (blk_put (blk_put (blk_put (blk_put (blk_put h.b4 0 v0 rfl) 1 v1 rfl) 2 v2 rfl) 3 v3 rfl) 4 v4 rfl) h.ne45 e) h.ne45 a
theorem ret5 (h : FB w W g4 g5 g6 at1) (v0 v1 v2 v3 v4 e a : Value) : (((((((W.setCell ⟨g4, 0, none⟩ v0).setCell ⟨g4, 1, none⟩ v1).setCell ⟨g4, 2, none⟩ v2).setCell ⟨g4, 3, none⟩ v3).setCell ⟨g4, 4, none⟩ v4).setCell ⟨g5, 0, none⟩ e).setCell ⟨g5, 1, none⟩ a).heap[g5]? = some (.cells #[e, a] 31 (0, 0)) :=
  have hn := fun e => h.ne45 (Eq.symm e)
  blk_put (blk_put (blk_far (blk_far (blk_far (blk_far (blk_far h.b5 hn v0) hn v1) hn v2) hn v3) hn v4) 0 e rfl) 1 a rfl
theorem retB (h : FB w W g4 g5 g6 at1) (v0 v1 v2 v3 v4 e a : Value) : Below w.heap.size w (((((((W.setCell ⟨g4, 0, none⟩ v0).setCell ⟨g4, 1, none⟩ v1).setCell ⟨g4, 2, none⟩ v2).setCell ⟨g4, 3, none⟩ v3).setCell ⟨g4, 4, none⟩ v4).setCell ⟨g5, 0, none⟩ e).setCell ⟨g5, 1, none⟩ a) :=
  Below.setCell (Below.setCell (Below.setCell (Below.setCell (Below.setCell (Below.setCell (Below.setCell h.below h.e4 v0) h.e4 v1) h.e4 v2) h.e4 v3) h.e4 v4) h.e5 e) h.e5 a
theorem of_below (h : FB w W g4 g5 g6 at1) (hb : Below W.heap.size W W1) : FB w W1 g4 g5 g6 at1 :=
  ⟨h.below.trans (hb.mono h.below.size), blk_below h.b4 hb, blk_below h.b5 hb, blk_below h.b6 hb, h.e4, h.e5, h.e6⟩
theorem ne46 (h : FB w W g4 g5 g6 at1) : g4 ≠ g6 := blk_ne h.b4 h.b6 (by decide)
end FB
/-- .. and the field that is made -/
structure FF (w W : World) (g4 g5 g6 g7 : Nat) (at1 : Int) (tag : ByteArray) (vt vs : Value) (i0 i1 : Int) : Prop where
  fb : FB w W g4 g5 g6 at1
  b7 : W.heap[g7]? = some (.cells #[.string tag, vt, .int .u8 i0, .int .u8 i1, vs] 50 (0, 0))
  e7 : w.heap.size ≤ g7
  n47 : g4 ≠ g7
  n56 : g5 ≠ g6
namespace FF
variable {w W W1 : World} {g4 g5 g6 g7 : Nat} {at1 : Int} {tag : ByteArray} {vt vs : Value} {i0 i1 : Int}
theorem cells (h : FF w W g4 g5 g6 g7 at1 tag vt vs i0 i1) : (W.cell? ⟨g4, 0, none⟩ = some (.string ByteArray.empty) ∧ W.cell? ⟨g4, 1, none⟩ = some (.slice none 0 0) ∧ W.cell? ⟨g4, 2, none⟩ = some (.int .u8 0) ∧ W.cell? ⟨g4, 3, none⟩ = some (.int .u8 0) ∧ W.cell? ⟨g4, 4, none⟩ = some (.slice none 0 0)) ∧
    (W.cell? ⟨g5, 0, none⟩ = some (.int .i64 0) ∧ W.cell? ⟨g5, 1, none⟩ = some (.int .i64 0)) ∧ (W.cell? ⟨g6, 0, none⟩ = some (.int .i64 12) ∧ W.cell? ⟨g6, 1, none⟩ = some (.int .i64 at1)) ∧
    (W.cell? ⟨g7, 0, none⟩ = some (.string tag) ∧ W.cell? ⟨g7, 1, none⟩ = some vt ∧ W.cell? ⟨g7, 2, none⟩ = some (.int .u8 i0) ∧ W.cell? ⟨g7, 3, none⟩ = some (.int .u8 i1) ∧ W.cell? ⟨g7, 4, none⟩ = some vs) ∧
    (∀ i, W.frozen? ⟨g4, i, none⟩ = false) ∧ (∀ i, W.frozen? ⟨g5, i, none⟩ = false) ∧ (∀ i, W.frozen? ⟨g6, i, none⟩ = false) ∧ (∀ i, W.frozen? ⟨g7, i, none⟩ = false) := by
  refine ⟨⟨h.fb.c40, h.fb.c41, h.fb.c42, h.fb.c43, h.fb.c44⟩, ⟨h.fb.c50, h.fb.c51⟩, ⟨h.fb.c60, h.fb.c61⟩, ⟨?_, ?_, ?_, ?_, ?_⟩, h.fb.f4, h.fb.f5, h.fb.f6, fun i => blk_frozen h.b7 i⟩
  all_goals rw [blk_cell h.b7]; rfl
theorem of_below (h : FF w W g4 g5 g6 g7 at1 tag vt vs i0 i1) (hb : Below W.heap.size W W1) : FF w W1 g4 g5 g6 g7 at1 tag vt vs i0 i1 :=
  ⟨h.fb.of_below hb, blk_below h.b7 hb, h.e7, h.n47, h.n56⟩
theorem start {w1 : World} (h : FB w w1 g4 g5 g6 at1) (hn : g5 ≠ g6) (tag : ByteArray) : FF w (w1.alloc (.cells #[.string tag, .slice none 0 0, .int .u8 0, .int .u8 0, .slice none 0 0] 50)) g4 g5 g6 w1.heap.size at1 tag (.slice none 0 0) (.slice none 0 0) 0 0 :=
  ⟨h.of_below (below_alloc (Below.refl _ _) _), blk_new _ _, h.below.size, Nat.ne_of_lt (blk_lt h.b4), hn⟩
theorem ne67 (h : FF w W g4 g5 g6 g7 at1 tag vt vs i0 i1) : g6 ≠ g7 := blk_ne h.fb.b6 h.b7 (by decide)
theorem ne57 (h : FF w W g4 g5 g6 g7 at1 tag vt vs i0 i1) : g5 ≠ g7 := blk_ne h.fb.b5 h.b7 (by decide)
theorem put6 (h : FF w W g4 g5 g6 g7 at1 tag vt vs i0 i1) (a : Int) : FF w (W.setCell ⟨g6, 1, none⟩ (.int .i64 a)) g4 g5 g6 g7 a tag vt vs i0 i1 :=
  ⟨⟨Below.setCell h.fb.below h.fb.e6 _, blk_far h.fb.b4 h.fb.ne46 _, blk_far h.fb.b5 h.n56 _, blk_put h.fb.b6 1 _ rfl, h.fb.e4, h.fb.e5, h.fb.e6⟩, blk_far h.b7 (Ne.symm h.ne67) _, h.e7, h.n47, h.n56⟩
theorem put7 (h : FF w W g4 g5 g6 g7 at1 tag vt vs i0 i1) (j : Nat) (u : Value) {vt' vs' : Value} {j0 j1 : Int} (e : (#[Value.string tag, vt, .int .u8 i0, .int .u8 i1, vs] : Array Value).setIfInBounds j u = #[.string tag, vt', .int .u8 j0, .int .u8 j1, vs']) : FF w (W.setCell ⟨g7, j, none⟩ u) g4 g5 g6 g7 at1 tag vt' vs' j0 j1 :=
  ⟨⟨Below.setCell h.fb.below h.e7 _, blk_far h.fb.b4 h.n47 _, blk_far h.fb.b5 h.ne57 _, blk_far h.fb.b6 h.ne67 _, h.fb.e4, h.fb.e5, h.fb.e6⟩, blk_put h.b7 j u e, h.e7, h.n47, h.n56⟩
/-- a change that leaves blocks of the types 52 and 29 alone -/
theorem grown (h : FF w W g4 g5 g6 g7 at1 tag vt vs i0 i1) {row : Option Nat} (hg : W.grownBy W1 row) (hb : Below w.heap.size w W1) (hr : ∀ k, row = some k → ∃ cells t, W.heap[k]? = some (.cells cells t (0, 0)) ∧ t ≠ 50 ∧ t ≠ 31) : FF w W1 g4 g5 g6 g7 at1 tag vt vs i0 i1 := by
  have hne : ∀ {g t cs}, W.heap[g]? = some (Obj.cells cs t (0, 0)) → (t = 50 ∨ t = 31) → some g ≠ row := by
    intro g t cs hbk ht e
    obtain ⟨cells, t', h1, h2, h3⟩ := hr g e.symm
    rw [hbk] at h1
    injection h1 with h1
    injection h1 with _ h1
    subst h1
    exact ht.elim h2 h3
  exact ⟨⟨hb, blk_grown h.fb.b4 hg (hne h.fb.b4 (.inl rfl)), blk_grown h.fb.b5 hg (hne h.fb.b5 (.inr rfl)), blk_grown h.fb.b6 hg (hne h.fb.b6 (.inr rfl)), h.fb.e4, h.fb.e5, h.fb.e6⟩, blk_grown h.b7 hg (hne h.b7 (.inl rfl)), h.e7, h.n47, h.n56⟩
end FF
theorem info58 : (Tryz.prog.info? 58).map (fun i => (i.zero, i.size, i.bytes)) = some (some (.agg #[.int .u8 0, .slice none 0 0]), 2, 32) := by kernel_rfl
/-- what ref19.Field asks of the byte at a place of a data field -/
structure FAt (xs : List Int) (j : Nat) : Prop where
  lt : j < xs.length
  ind : j < 2 → 32 ≤ xs.getD j 0 ∧ xs.getD j 0 ≤ 126
  two : j = 2 → xs.getD j 0 = 31
  code : 3 ≤ j → xs.getD (j - 1) 0 = 31 → 33 ≤ xs.getD j 0 ∧ xs.getD j 0 ≤ 126
  more : 3 ≤ j → xs.getD (j - 1) 0 ≠ 31 → xs.getD j 0 = 31 → j + 1 ≠ xs.length
  free : 3 ≤ j → xs.getD (j - 1) 0 ≠ 31 → xs.getD j 0 ≠ 31 → amanuensisref19_free.f (xs.getD j 0) = some true
theorem FAt.mk_ind {xs : List Int} {i : Int} (hl : i < xs.length) (hl0 : 0 ≤ i) (h0 : 0 ≤ i) (h2 : i < 2) (h : 32 ≤ rd xs i ∧ rd xs i ≤ 126) : FAt xs i.toNat :=
  ⟨by omega, fun _ => h, fun e => by omega, fun e => by omega, fun e => by omega, fun e => by omega⟩
theorem FAt.mk_two {xs : List Int} {i : Int} (hl : i < xs.length) (hl0 : 0 ≤ i) (h2 : i = 2) (h : rd xs i = 31) : FAt xs i.toNat :=
  ⟨by omega, fun e => by omega, fun _ => h, fun e => by omega, fun e => by omega, fun e => by omega⟩
theorem FAt.mk_code {xs : List Int} {i : Int} (hl : i < xs.length) (hl0 : 0 ≤ i) (h3 : 3 ≤ i) (hp : rd xs (i - 1) = 31) (h : 33 ≤ rd xs i ∧ rd xs i ≤ 126) : FAt xs i.toNat := by
  have e1 : (i - 1).toNat = i.toNat - 1 := by omega
  have hp : xs.getD (i.toNat - 1) 0 = 31 := by rw [← e1]; exact hp
  exact ⟨by omega, fun e => by omega, fun e => by omega, fun _ _ => h, fun _ e => absurd hp e, fun _ e => absurd hp e⟩
theorem FAt.mk_more {xs : List Int} {i : Int} (hl : i < xs.length) (hl0 : 0 ≤ i) (h3 : 3 ≤ i) (hp : rd xs (i - 1) ≠ 31) (hc : rd xs i = 31) (h : i + 1 ≠ xs.length) : FAt xs i.toNat := by
  have e1 : (i - 1).toNat = i.toNat - 1 := by omega
  have hp : xs.getD (i.toNat - 1) 0 ≠ 31 := by rw [← e1]; exact hp
  exact ⟨by omega, fun e => by omega, fun e => by omega, fun _ e => absurd e hp, fun _ _ _ => by omega, fun _ _ e => absurd hc e⟩
theorem FAt.mk_free {xs : List Int} {i : Int} (hl : i < xs.length) (hl0 : 0 ≤ i) (h3 : 3 ≤ i) (hp : rd xs (i - 1) ≠ 31) (hc : rd xs i ≠ 31) (h : amanuensisref19_free.f (rd xs i) = some true) : FAt xs i.toNat := by
  have e1 : (i - 1).toNat = i.toNat - 1 := by omega
  have hp : xs.getD (i.toNat - 1) 0 ≠ 31 := by rw [← e1]; exact hp
  exact ⟨by omega, fun e => by omega, fun e => by omega, fun _ e => absurd e hp, fun _ _ e => absurd e hc, fun _ _ _ => h⟩
theorem fat_next {xs : List Int} {i : Int} (h : ∀ j : Nat, (j : Int) < i → FAt xs j) (h0 : 0 ≤ i) (hA : FAt xs i.toNat) : ∀ j : Nat, (j : Int) < i + 1 → FAt xs j := fun j hj => by
  by_cases hji : (j : Int) < i
  · exact h j hji
  · have : j = i.toNat := by omega
    rw [this]; exact hA
/-- what a field that is taken is -/
def FieldOk (bt bc : Bool) (xs : List Int) : Prop := bt = true ∧ (bc = true → ∀ j : Nat, j < xs.length → amanuensisref19_free.f (xs.getD j 0) = some true) ∧ (bc = false → 4 ≤ xs.length ∧ ∀ j : Nat, j < xs.length → FAt xs j)
/-- the subfields' row: its own; the last one's text: its own -/
structure FR (w W : World) (xs : List Int) (i : Int) (vs : Value) (rows : List (List Value)) : Prop where
  rr : (Kd.raw 2).R 58 W w.heap.size (fun _ => True) vs rows
  rl : rows.length ≤ i.toNat
  b2 : 3 ≤ i → rd xs 2 = 31
  ats : ∀ j : Nat, (j : Int) < i → FAt xs j
  lst : 4 ≤ i → ∃ (pre : List (List Value)) (c0 : Int) (ut : Value) (us : List Int), rows = pre ++ [[.int .u8 c0, ut]] ∧ (Kd.int .u8).R 5 W w.heap.size (fun _ => True) ut us ∧ us.length ≤ i.toNat
namespace FR
variable {w W W1 : World} {xs : List Int} {i : Int} {vs : Value} {rows : List (List Value)}
theorem start (w W : World) (xs : List Int) : FR w W xs 0 (.slice none 0 0) [] := ⟨Kd.R_nil _ _ _ _ _, by simp, fun h => absurd h (by decide), fun j hj => absurd hj (by omega), fun h => absurd h (by decide)⟩
theorem set (h : FR w W xs i vs rows) {g t : Nat} {cells : Array Value} (hb : W.heap[g]? = some (.cells cells t (0, 0))) (h1 : t ≠ 58) (h2 : t ≠ 5) (j : Nat) (u : Value) : FR w (W.setCell ⟨g, j, none⟩ u) xs i vs rows := by
  refine ⟨Kd.R_set h.rr hb (fun q hq => ?_) j u, h.rl, h.b2, h.ats, fun h4 => ?_⟩
  · have : q = 58 := by simpa [Kd.raw] using hq
    omega
  · obtain ⟨pre, c0, ut, us, e, hR, hu⟩ := h.lst h4
    refine ⟨pre, c0, ut, us, e, Kd.R_set hR hb (fun q hq => ?_) j u, hu⟩
    have : q = 5 := by simpa [Kd.int, Kd.scalar] using hq
    omega
theorem of_below (h : FR w W xs i vs rows) (hb : Below W.heap.size W W1) : FR w W1 xs i vs rows := by
  refine ⟨Kd.R_below h.rr hb, h.rl, h.b2, h.ats, fun h4 => ?_⟩
  obtain ⟨pre, c0, ut, us, e, hR, hu⟩ := h.lst h4
  exact ⟨pre, c0, ut, us, e, Kd.R_below hR hb, hu⟩
theorem next (h : FR w W xs i vs rows) (h0 : 0 ≤ i) (hb : i = 2 → rd xs 2 = 31) (hn : i ≠ 3) (hA : FAt xs i.toNat) : FR w W xs (i + 1) vs rows := by
  refine ⟨h.rr, by have := h.rl; omega, fun h3 => ?_, fat_next h.ats h0 hA, fun h4 => ?_⟩
  · by_cases hi : i = 2
    · exact hb hi
    · exact h.b2 (by omega)
  · obtain ⟨pre, c0, ut, us, e, hR, hu⟩ := h.lst (by omega)
    exact ⟨pre, c0, ut, us, e, hR, by omega⟩
theorem sub (h : FR w W xs i vs rows) (h3 : 3 ≤ i) (hA : FAt xs i.toNat) {v1 : Value} {cc : Int} (ho : (Kd.raw 2).R 58 W1 w.heap.size (fun _ => True) v1 (rows ++ [[.int .u8 cc, .slice none 0 0]])) : FR w W1 xs (i + 1) v1 (rows ++ [[.int .u8 cc, .slice none 0 0]]) :=
  ⟨ho, by have := h.rl; rw [List.length_append, List.length_cons, List.length_nil]; omega, fun _ => h.b2 h3, fat_next h.ats (by omega) hA, fun _ => ⟨rows, cc, .slice none 0 0, [], rfl, Kd.R_nil _ _ _ _ _, by simp⟩⟩
theorem text {w W W1 : World} {xs us : List Int} {i c0 cc : Int} {rows pre : List (List Value)} {gs cap uc : Nat} {uA : Option Addr} {v1 : Value} (h : FR w W xs i (.slice (some ⟨gs, 0, none⟩) rows.length cap) rows) (h4 : 4 ≤ i) (hrows : rows = pre ++ [[.int .u8 c0, .slice uA us.length uc]])
    (hU : (Kd.int .u8).R 5 W w.heap.size (fun _ => True) (.slice uA us.length uc) us) (hus : us.length ≤ i.toNat) (ho : (Kd.int .u8).R 5 W1 w.heap.size (fun _ => True) v1 (us ++ [cc])) (hg : W.grownBy W1 (Value.slice uA us.length uc).ownBlock) (hA : FAt xs i.toNat) :
    FR w (W1.setCell ⟨gs, pre.length * 2 + 1, none⟩ v1) xs (i + 1) (.slice (some ⟨gs, 0, none⟩) rows.length cap) (pre ++ [[.int .u8 c0, v1]]) ∧ W1.cell? ⟨gs, pre.length * 2 + 1, none⟩ = some (.slice uA us.length uc) ∧ W1.frozen? ⟨gs, pre.length * 2 + 1, none⟩ = false ∧ ∃ cells, W1.heap[gs]? = some (.cells cells 58 (0, 0)) := by
  obtain ⟨cells, hb⟩ := Kd.R_typed h.rr gs rfl
  have hne := Kd.R_ne hU hb (by decide)
  have r5 := Kd.raw_any (Kd.R_grown (Kd.raw_tight h.rr) hg (fun k hk => by
    have : k = gs := by simpa [Value.ownBlock] using hk
    rw [this]; exact hne))
  have hb5 := blk_grown hb hg hne
  have hl : rows.length = pre.length + 1 := by rw [hrows]; simp
  have hgd : rows.getD pre.length [] = [.int .u8 c0, .slice uA us.length uc] := by rw [hrows]; simp
  obtain ⟨c, hc1, ⟨hc2, _, _⟩, hc3, hc4⟩ := Kd.R_elem r5 [] (pre.length : Int) (by omega) (by omega)
  rw [Int.toNat_natCast] at hc2 hc3 hc4
  rw [hgd] at hc2
  subst hc2
  have hv := Kd.R_val ho
  obtain ⟨s1, _⟩ := Kd.R_seg r5 (pre.length : Int) (by omega) (by omega) (c := [.int .u8 c0, .slice uA us.length uc]) (seg := [v1]) (j := 1) (x' := [.int .u8 c0, v1]) (okp := fun _ => False) rfl (by rw [Int.toNat_natCast]; exact hc3) (Nat.le_refl 2) ⟨rfl, rfl, by
    intro u hu
    rcases List.mem_cons.1 hu with rfl | hu
    · rfl
    · rcases List.mem_cons.1 hu with rfl | hu
      · exact hv.2
      · cases hu⟩ (fun _ hk => hk.elim)
  rw [Int.toNat_natCast] at s1
  have hset : rows.set pre.length [.int .u8 c0, v1] = pre ++ [[.int .u8 c0, v1]] := by rw [hrows]; simp
  rw [hset] at s1
  refine ⟨⟨s1, by have := h.rl; simp; omega, fun h3 => h.b2 (by omega), fat_next h.ats (by omega) hA, fun _ => ⟨pre, c0, v1, us ++ [cc], rfl, Kd.R_set ho hb5 (fun q hq => ?_) _ _, by rw [List.length_append, List.length_cons, List.length_nil]; omega⟩⟩, hc3 1 _ rfl, hc4 1, cells, hb5⟩
  have : q = 5 := by simpa [Kd.int, Kd.scalar] using hq
  omega
end FR
theorem FF.setfar {w W : World} {g4 g5 g6 g7 : Nat} {at1 : Int} {tag : ByteArray} {vt vs : Value} {i0 i1 : Int} (h : FF w W g4 g5 g6 g7 at1 tag vt vs i0 i1) {g t : Nat} {cells : Array Value} (hb : W.heap[g]? = some (.cells cells t (0, 0))) (hw : w.heap.size ≤ g) (h1 : 50 ≠ t) (h2 : 31 ≠ t) (j : Nat) (u : Value) : FF w (W.setCell ⟨g, j, none⟩ u) g4 g5 g6 g7 at1 tag vt vs i0 i1 :=
  ⟨⟨Below.setCell h.fb.below hw _, blk_far h.fb.b4 (blk_ne h.fb.b4 hb h1) _, blk_far h.fb.b5 (blk_ne h.fb.b5 hb h2) _, blk_far h.fb.b6 (blk_ne h.fb.b6 hb h2) _, h.fb.e4, h.fb.e5, h.fb.e6⟩, blk_far h.b7 (blk_ne h.b7 hb h1) _, h.e7, h.n47, h.n56⟩
/-- what Field gives: some field, some fault -/
def FieldRes (bt bc : Bool) (xs : List Int) (e : Ending) : Prop := ∃ (s : ByteArray) (A1 : Option Addr) (n1 c1 : Nat) (i0 i1 : Int) (A4 : Option Addr) (n4 c4 : Nat) (e1 a1 : Int), e = .returned (.tuple #[.agg #[.string s, .slice A1 n1 c1, .int .u8 i0, .int .u8 i1, .slice A4 n4 c4], .agg #[.int .i64 e1, .int .i64 a1]]) ∧ (e1 = 0 → FieldOk bt bc xs)
theorem FieldRes.bad {bt bc : Bool} {xs : List Int} (s : ByteArray) (A1 : Option Addr) (n1 c1 : Nat) (i0 i1 : Int) (A4 : Option Addr) (n4 c4 : Nat) (e1 a1 : Int) (h : e1 ≠ 0) : FieldRes bt bc xs (.returned (.tuple #[.agg #[.string s, .slice A1 n1 c1, .int .u8 i0, .int .u8 i1, .slice A4 n4 c4], .agg #[.int .i64 e1, .int .i64 a1]])) :=
  ⟨s, A1, n1, c1, i0, i1, A4, n4, c4, e1, a1, rfl, fun e => absurd e h⟩
theorem FieldRes.good {bt bc : Bool} {xs : List Int} (h : FieldOk bt bc xs) (s : ByteArray) (A1 : Option Addr) (n1 c1 : Nat) (i0 i1 : Int) (A4 : Option Addr) (n4 c4 : Nat) (e1 a1 : Int) : FieldRes bt bc xs (.returned (.tuple #[.agg #[.string s, .slice A1 n1 c1, .int .u8 i0, .int .u8 i1, .slice A4 n4 c4], .agg #[.int .i64 e1, .int .i64 a1]])) :=
  ⟨s, A1, n1, c1, i0, i1, A4, n4, c4, e1, a1, rfl, fun _ => h⟩
set_option maxHeartbeats 4000000 in
set_option maxRecDepth 100000 in
theorem field_calls (w : World) (tag : ByteArray) (kt : Nat) (bt : Bool) (ht : amanuensisref19_Tag.f kt tag = some bt) (bc : Bool) (hcf : amanuensisref19_Control.f tag = some bc) (A : Option Addr) (c : Nat) (xs : List Int) (h : (Kd.int .u8).C w A xs.length xs) (hc : xs.length ≤ c) (hx : ∀ x ∈ xs, 0 ≤ x ∧ x ≤ 255) (hl : xs.length ≤ 100000) :
    Calls Tryz.prog 12 #[.string tag, .slice A xs.length c] w fun e w' => FieldRes bt bc xs e ∧ Below w.heap.size w w' := by
  have HT := Aside0.mk ht
  have HCF := Aside0.mk hcf
  have HI := Aside0.mk h
  have HIC := Aside0.mk hc
  have HX := Aside0.mk hx
  clear ht hcf h hc hx
  go_enter Tryz.func12, Tryz.ntmps12
  go_wp2_with fail
  refine (told (amanuensisref19_Tag.calls kt tag bt _ HT.out)).mono ?_
  rintro e w1 ⟨rfl, hb, hh⟩
  have F1 := (FB.start w).of_below hb
  have HF := Aside0.mk F1
  clear hb hh
  cases bt with
  | false =>
    have c40 := F1.c40
    have c41 := F1.c41
    have c42 := F1.c42
    have c43 := F1.c43
    have c44 := F1.c44
    have c50 := F1.c50
    have c51 := F1.c51
    have c60 := F1.c60
    have c61 := F1.c61
    have f4 := F1.f4
    have f5 := F1.f5
    have f6 := F1.f6
    clear F1
    go_wp2
    go_region
    go_wp2
    refine bodyPost_ret (results_list (rs := [.cell 4 50, .cell 5 31]) rfl (by simp) (.cell _ 50 _ (0, 0) _ rfl (blk_drew (FB.ret4 HF.out _ _ _ _ _ _ _)) Tryz.underlying50 rfl (by kernel_rfl) (.cell _ 31 _ (0, 0) _ rfl (blk_drew (FB.ret5 HF.out _ _ _ _ _ _ _)) Tryz.underlying31 rfl (by kernel_rfl) .nil))) rfl ?_
    exact ⟨FieldRes.bad _ _ _ _ _ _ _ _ _ _ _ (by decide), (FB.retB HF.out _ _ _ _ _ _ _).drew⟩
  | true =>
    go_wp2_with fail
    have F2 := FF.start F1 (by omega) tag
    obtain ⟨g7, hg7⟩ : ∃ g, w1.heap.size = g := ⟨_, rfl⟩
    rw [hg7] at F2 ⊢
    have HF2 := Aside0.mk F2
    clear F1 F2 HF hg7
    refine (told (amanuensisref19_Control.calls tag bc _ HCF.out)).mono ?_
    rintro e w2 ⟨rfl, hb, hh⟩
    have HF := Aside0.mk (HF2.out.of_below hb)
    have HBI := Aside0.mk (Kd.C_below HI.out HF.out.fb.below)
    clear hb hh HF2
    cases bc with
    | true =>
      go_wp2
      go_loopg [8] xs.length (fun kq v8 w' => ∃ i : Int, v8 = .int .i64 i ∧ 0 ≤ i ∧ Aside0 (i.toNat + kq = xs.length) ∧ Aside0 (FF w w' w.heap.size (w.heap.size + 1) (w.heap.size + 1 + 1) g7 0 tag (.slice none 0 0) (.slice none 0 0) 0 0) ∧ Aside0 (∀ j : Nat, (j : Int) < i → amanuensisref19_free.f (xs.getD j 0) = some true))
      case atStart => exact ⟨0, rfl, by omega, ⟨by simp⟩, HF, ⟨fun j hj => absurd hj (by omega)⟩⟩
      case round =>
        obtain ⟨i, rfl, i0, ikq, IF, HFA⟩ := hrel
        have HIW := Aside0.mk (Kd.C_below HI.out IF.out.fb.below)
        by_cases hi : i < xs.length
        · have hib : decide (i < (xs.length : Int)) = true := decide_eq_true hi
          obtain ⟨ab, rfl, hcb⟩ := Kd.at_int HIW.out i i0 hi
          obtain ⟨fr, hfr⟩ : ∃ r, amanuensisref19_free.f (rd xs i) = some r := by unfold amanuensisref19_free.f; split <;> exact ⟨_, rfl⟩
          obtain ⟨cc, hcc⟩ : ∃ cc, rd xs i = cc := ⟨_, rfl⟩
          rw [hcc] at hcb hfr
          have HFR := Aside0.mk hfr
          have HCC := Aside0.mk hcc
          clear hfr hcc
          go_wp2_with fail
          refine (told (amanuensisref19_free.calls cc fr _ HFR.out)).mono ?_
          rintro e w3 ⟨rfl, hb, hh⟩
          have F3 := IF.out.of_below hb
          have H3 := Aside0.mk F3
          cases fr with
          | true =>
            clear F3 hb hh
            cases gk with
            | zero => exact absurd ikq.out (by omega)
            | succ k1 =>
              go_wp2
              go_roundg k1
              case measure => omega
              case rel => exact ⟨i + 1, rfl, by omega, ⟨by have := ikq.out; omega⟩, H3, ⟨fun j hj => by
                by_cases hji : (j : Int) < i
                · exact HFA.out j hji
                · have e : j = i.toNat := by omega
                  have := HFR.out
                  rw [← HCC.out] at this
                  rw [e]; exact this⟩⟩
          | false =>
            have H4 := Aside0.mk (F3.put6 i)
            obtain ⟨⟨c40, c41, c42, c43, c44⟩, ⟨c50, c51⟩, ⟨c60, c61⟩, ⟨c70, c71, c72, c73, c74⟩, f4, f5, f6, f7⟩ := F3.cells
            clear F3 hb hh c70 c71 c72 c73 c74 f7
            go_wp2
            go_region
            go_wp2
            refine bodyPost_ret (results_list (rs := [.cell 4 50, .cell 5 31]) rfl (by simp) (.cell _ 50 _ (0, 0) _ rfl (blk_drew (FB.ret4 H4.out.fb _ _ _ _ _ _ _)) Tryz.underlying50 rfl (by kernel_rfl) (.cell _ 31 _ (0, 0) _ rfl (blk_drew (FB.ret5 H4.out.fb _ _ _ _ _ _ _)) Tryz.underlying31 rfl (by kernel_rfl) .nil))) rfl ?_
            exact ⟨FieldRes.bad _ _ _ _ _ _ _ _ _ _ _ (by decide), (FB.retB H4.out.fb _ _ _ _ _ _ _).drew⟩
        · have hib : decide (i < (xs.length : Int)) = false := decide_eq_false hi
          have HLN := Aside0.mk hi
          go_wp2_with (first | ((with_reducible refine gate_dst (N := 38) rfl ?_); refine Kd.R_lit (Kd.int .u8) wr.heap.size 5 ?hg (N := 38) ?hd (xs := ([] : List Int)) (inner := []) (ok := fun _ => True) (okp := fun _ => True) ?hr ?hp (fun _ hk => hk) trivial (Below.refl _ _) (Nat.le_refl _) (by simp) ?_; (case hd => rfl); (case hg => rfl); (case hr => first | (go_simp; done) | (go_simp; rfl)); (case hp => exact Reps.none _ _); intro v1 w4 ho1 hb1 hg1 hn1; clear hg1 hn1; have HO1 := Aside0.mk ho1; have HB1 := Aside0.mk hb1; clear ho1 hb1) | ((with_reducible refine gate_builtin (b := .append) (xs := #[.tmp 38, .tmp 39]) rfl ?_); at_builtin; refine Kd.R_append_rows (Kd.int .u8) (w0 := wr) wr.heap.size rfl (.tmp 38) (.tmp 39) 22 5 (.int .u8 0) 1 rfl Tryz.underlying22 info5 rfl (by decide) (by omega) v1 [] xs _ _ _ (fun _ => True) (fun _ => False) rfl rfl ?aO ?aR (fun _ _ h => h) (fun _ h => h.elim) ?aF ?aB ?aS ?aL ?_; (case aO => exact HO1.out); (case aR => exact Kd.C_below HIW.out HB1.out); (case aF => exact fun _ _ => trivial); (case aB => exact HB1.out); (case aS => exact HB1.out.size); (case aL => simp; omega); intro v2 w5 ho2 hb2 hg2 hat2; clear hg2 hat2; obtain ⟨v2A, v2c, hv2⟩ := Kd.R_slice ho2; subst hv2; clear ho2; have F5 := IF.out.of_below hb2; have H6 := Aside0.mk (F5.put7 1 (.slice v2A ([] ++ xs).length v2c) rfl); obtain ⟨⟨c40, c41, c42, c43, c44⟩, ⟨c50, c51⟩, ⟨c60, c61⟩, ⟨c70, c71, c72, c73, c74⟩, f4, f5, f6, f7⟩ := F5.cells; have n1 := F5.n47; have n2 := F5.ne57; have n3 := Ne.symm n1; have n4 := Ne.symm n2; clear F5 hb2))
          refine bodyPost_ret (results_list (rs := [.cell 4 50, .cell 5 31]) rfl (by simp) (.cell _ 50 _ (0, 0) _ rfl (FB.ret4 H6.out.fb _ _ _ _ _ _ _) Tryz.underlying50 rfl (by kernel_rfl) (.cell _ 31 _ (0, 0) _ rfl (FB.ret5 H6.out.fb _ _ _ _ _ _ _) Tryz.underlying31 rfl (by kernel_rfl) .nil))) rfl ?_
          exact ⟨FieldRes.good ⟨rfl, fun _ j hj => HFA.out j (by have := HLN.out; omega), fun e => by cases e⟩ _ _ _ _ _ _ _ _ _ _ _, FB.retB H6.out.fb _ _ _ _ _ _ _⟩
    | false =>
      go_wp2
      go_loopg [9] (xs.length + 5) (fun kq v9 w' => ∃ (i at1 j0 j1 : Int) (vs : Value) (rows : List (List Value)), v9 = .int .i64 i ∧ 0 ≤ i ∧ Aside0 (i.toNat + kq = xs.length + 5) ∧ Aside0 (FF w w' w.heap.size (w.heap.size + 1) (w.heap.size + 1 + 1) g7 at1 tag (.slice none 0 0) vs j0 j1) ∧ Aside0 (FR w w' xs i vs rows))
      case atStart => exact ⟨0, 0, 0, 0, _, [], rfl, by omega, ⟨by simp⟩, HF, ⟨FR.start _ _ _⟩⟩
      case round =>
        obtain ⟨i, at1, j0, j1, vs, rows, rfl, i0, ikq, IF0, IR0⟩ := hrel
        go_upto_region 15 with (fail)
        go_cut [51] (fun v51 wc => v51 = .bool (decide (i < 4 ∨ i < xs.length)) ∧ wr = wc)
        case first =>
          by_cases c1 : i < 4
          · have b1 : decide (i < 4) = true := decide_eq_true c1
            have HDD : Aside0 (decide (i < 4 ∨ i < xs.length) = true) := ⟨decide_eq_true (.inl c1)⟩
            go_wp2
            go_meet
            case rel => exact ⟨by rw [HDD.out], rfl⟩
          · have b1 : decide (i < 4) = false := decide_eq_false c1
            obtain ⟨b2, hb2⟩ : ∃ b, decide (i < (xs.length : Int)) = b := ⟨_, rfl⟩
            have HDD : Aside0 (decide (i < 4 ∨ i < xs.length) = b2) := ⟨by rw [← hb2]; simp [c1]⟩
            clear c1
            go_wp2
            go_meet
            case rel => exact ⟨by rw [HDD.out], rfl⟩
        case rest =>
          obtain ⟨rfl, rfl⟩ := hcut
          by_cases hcond : i < 4 ∨ i < xs.length
          · rw [decide_eq_true hcond]
            have HCD := Aside0.mk hcond
            clear hcond
            go_upto_region 17 with (fail)
            have c61 := IF0.out.fb.c61
            have f6 := IF0.out.fb.f6
            go_cut [55] (fun v55 wc => Aside0 (FF w wc w.heap.size (w.heap.size + 1) (w.heap.size + 1 + 1) g7 i tag (.slice none 0 0) vs j0 j1) ∧ Aside0 (FR w wc xs i vs rows))
            case first =>
              go_wp2
              go_meet
              case rel => exact ⟨⟨IF0.out.put6 i⟩, ⟨IR0.out.set IF0.out.fb.b6 (by decide) (by decide) _ _⟩⟩
            case rest =>
              obtain ⟨IF, IR⟩ := hcut
              obtain ⟨Av, cv, hv⟩ := Kd.R_slice IR.out.rr
              subst hv
              clear IF0 IR0 c61 f6
              obtain ⟨⟨c40, c41, c42, c43, c44⟩, ⟨c50, c51⟩, ⟨c60, c61⟩, ⟨c70, c71, c72, c73, c74⟩, f4, f5, f6, f7⟩ := IF.out.cells
              by_cases hi : i < xs.length
              · obtain ⟨ab, rfl, hcb⟩ := Kd.at_int (Kd.C_below HI.out IF.out.fb.below) i i0 hi
                obtain ⟨cc, hcc⟩ : ∃ cc, rd xs i = cc := ⟨_, rfl⟩
                have hccb : 0 ≤ cc ∧ cc ≤ 255 := by
                  rw [← hcc]; unfold rd
                  rw [List.getD_eq_getElem?_getD, List.getElem?_eq_getElem (by omega)]; exact HX.out _ (List.getElem_mem (by omega))
                rw [hcc] at hcb
                have HCC := Aside0.mk hcc
                clear hcc
                obtain ⟨hcc0, hcc1⟩ := hccb
                have hib : decide ((xs.length : Int) ≤ i) = false := decide_eq_false (by omega)
                by_cases h2 : i < 2
                · have hi2 : decide (i < 2) = true := decide_eq_true h2
                  by_cases hg : 32 ≤ cc ∧ cc ≤ 126
                  · have d1 : decide (cc < 32) = false := decide_eq_false (by omega)
                    have d2 : decide (126 < cc) = false := decide_eq_false (by omega)
                    have HN := Aside0.mk (IR.out.next i0 (by omega) (by omega) (FAt.mk_ind hi i0 i0 h2 (by rw [HCC.out]; exact hg)))
                    clear hg
                    have h01 : i = 0 ∨ i = 1 := by omega
                    cases gk with
                    | zero => exact absurd ikq.out (by omega)
                    | succ k1 =>
                      go_upto_region 26 with (fail)
                      rcases h01 with rfl | rfl
                      · go_wp2
                        go_roundg k1
                        case measure => omega
                        case rel => exact ⟨0 + 1, 0, cc, j1, _, rows, rfl, by omega, ⟨by have := ikq.out; omega⟩, ⟨IF.out.put7 2 (.int .u8 cc) rfl⟩, ⟨HN.out.set IF.out.b7 (by decide) (by decide) _ _⟩⟩
                      · go_wp2
                        go_roundg k1
                        case measure => omega
                        case rel => exact ⟨1 + 1, 1, j0, cc, _, rows, rfl, by omega, ⟨by have := ikq.out; omega⟩, ⟨IF.out.put7 3 (.int .u8 cc) rfl⟩, ⟨HN.out.set IF.out.b7 (by decide) (by decide) _ _⟩⟩
                  · by_cases d : cc < 32
                    · have d1 : decide (cc < 32) = true := decide_eq_true d
                      clear hg d
                      go_wp2
                      go_region
                      go_wp2
                      refine bodyPost_ret (results_list (rs := [.cell 4 50, .cell 5 31]) rfl (by simp) (.cell _ 50 _ (0, 0) _ rfl (blk_drew (FB.ret4 IF.out.fb _ _ _ _ _ _ _)) Tryz.underlying50 rfl (by kernel_rfl) (.cell _ 31 _ (0, 0) _ rfl (blk_drew (FB.ret5 IF.out.fb _ _ _ _ _ _ _)) Tryz.underlying31 rfl (by kernel_rfl) .nil))) rfl ?_
                      exact ⟨FieldRes.bad _ _ _ _ _ _ _ _ _ _ _ (by decide), (FB.retB IF.out.fb _ _ _ _ _ _ _).drew⟩
                    · have d1 : decide (cc < 32) = false := decide_eq_false d
                      have d2 : decide (126 < cc) = true := decide_eq_true (by omega)
                      clear hg d
                      go_wp2
                      go_region
                      go_wp2
                      refine bodyPost_ret (results_list (rs := [.cell 4 50, .cell 5 31]) rfl (by simp) (.cell _ 50 _ (0, 0) _ rfl (blk_drew (FB.ret4 IF.out.fb _ _ _ _ _ _ _)) Tryz.underlying50 rfl (by kernel_rfl) (.cell _ 31 _ (0, 0) _ rfl (blk_drew (FB.ret5 IF.out.fb _ _ _ _ _ _ _)) Tryz.underlying31 rfl (by kernel_rfl) .nil))) rfl ?_
                      exact ⟨FieldRes.bad _ _ _ _ _ _ _ _ _ _ _ (by decide), (FB.retB IF.out.fb _ _ _ _ _ _ _).drew⟩
                · have hi2 : decide (i < 2) = false := decide_eq_false h2
                  by_cases h3 : i = 2
                  · have hi3 : (i == 2) = true := by rw [beq_iff_eq]; exact h3
                    by_cases h31 : cc = 31
                    · have hc31 : (cc != 31) = false := by rw [h31]; rfl
                      have HN := Aside0.mk (IR.out.next i0 (fun _ => by rw [← h3, HCC.out]; exact h31) (by omega) (FAt.mk_two hi i0 h3 (by rw [HCC.out]; exact h31)))
                      clear h3 h31
                      cases gk with
                      | zero => exact absurd ikq.out (by omega)
                      | succ k1 =>
                        go_wp2
                        go_roundg k1
                        case measure => omega
                        case rel => exact ⟨i + 1, i, j0, j1, _, rows, rfl, by omega, ⟨by have := ikq.out; omega⟩, IF, HN⟩
                    · have hc31 : (cc != 31) = true := by rw [bne_iff_ne]; exact h31
                      clear h3 h31
                      go_wp2
                      go_region
                      go_wp2
                      refine bodyPost_ret (results_list (rs := [.cell 4 50, .cell 5 31]) rfl (by simp) (.cell _ 50 _ (0, 0) _ rfl (blk_drew (FB.ret4 IF.out.fb _ _ _ _ _ _ _)) Tryz.underlying50 rfl (by kernel_rfl) (.cell _ 31 _ (0, 0) _ rfl (blk_drew (FB.ret5 IF.out.fb _ _ _ _ _ _ _)) Tryz.underlying31 rfl (by kernel_rfl) .nil))) rfl ?_
                      exact ⟨FieldRes.bad _ _ _ _ _ _ _ _ _ _ _ (by decide), (FB.retB IF.out.fb _ _ _ _ _ _ _).drew⟩
                  · have hi3 : (i == 2) = false := by rw [beq_eq_false_iff_ne]; exact h3
                    obtain ⟨ab2, e, hpb⟩ := Kd.at_int (Kd.C_below HI.out IF.out.fb.below) (i - 1) (by omega) (by omega)
                    cases e
                    obtain ⟨pp, hpp⟩ : ∃ pp, rd xs (i - 1) = pp := ⟨_, rfl⟩
                    rw [hpp] at hpb
                    have hpb2 := hpb
                    rw [show (i - 1).toNat = i.toNat - 1 by omega] at hpb2
                    have hge : 3 ≤ i := by omega
                    have H24 : Aside0 (pp ≠ 31 → 4 ≤ i) := ⟨fun hne => by
                      by_cases h4 : 4 ≤ i
                      · exact h4
                      · exfalso; apply hne; rw [← hpp, show i - 1 = 2 by omega]; exact IR.out.b2 hge⟩
                    have HPP := Aside0.mk hpp
                    clear hpp h3 h2
                    by_cases hp31 : pp = 31
                    · have hpe : (pp == 31) = true := by rw [beq_iff_eq]; exact hp31
                      have HP31 := Aside0.mk hp31
                      clear hp31 H24
                      by_cases hg : 33 ≤ cc ∧ cc ≤ 126
                      · have d1 : decide (cc < 33) = false := decide_eq_false (by omega)
                        have d2 : decide (126 < cc) = false := decide_eq_false (by omega)
                        have HFC := Aside0.mk (FAt.mk_code hi i0 hge (by rw [HPP.out]; exact HP31.out) (by rw [HCC.out]; exact hg))
                        clear hg
                        have hrl : rows.length ≤ 200000 := by have := IR.out.rl; omega
                        go_wp2_with (((with_reducible refine gate_builtin (b := .append) (xs := #[.tmp 123, .tmp 126]) rfl ?_); at_builtin; refine Kd.R_append (Kd.raw 2) (w0 := w) w.heap.size rfl (.tmp 123) (.tmp 126) 48 58 (.agg #[.int .u8 0, .slice none 0 0]) 32 rfl Tryz.underlying48 info58 rfl (by decide) (by omega) (.slice Av rows.length cv) rows [.int .u8 cc, .slice none 0 0] [.int .u8 cc, .slice none 0 0] (fun _ => True) (fun _ => False) rfl rfl ?bP (fun _ hk => hk.elim) (fun _ _ => trivial) ?bO ?bB ?bS ?bL ?_; (case bP => exact ⟨rfl, rfl, by simp [Value.oneCell']⟩); (case bO => exact IR.out.rr); (case bB => exact IF.out.fb.below); (case bS => exact IF.out.fb.below.size); (case bL => omega); intro v1 w5 ho hb hg hat; clear hat; obtain ⟨v1A, v1c, hv1⟩ := Kd.R_slice ho; rw [List.length_append, List.length_cons, List.length_nil] at hv1; subst hv1; have F5 := Aside0.mk (IF.out.grown hg hb (fun k hk => (Kd.R_typed IR.out.rr k hk).elim fun cells hc => ⟨cells, 58, hc, by decide, by decide⟩)); have R5 := Aside0.mk (IR.out.sub hge HFC.out ho); have c744 := (F5.out.cells).2.2.2.1.2.2.2.2; have f77 := (F5.out.cells).2.2.2.2.2.2.2; have H5 := Aside0.mk (F5.out.put7 (vt' := .slice none 0 0) (vs' := .slice v1A (rows.length + (0 + 1)) v1c) (j0 := j0) (j1 := j1) 4 (.slice v1A (rows.length + (0 + 1)) v1c) rfl); have HR5 := Aside0.mk (R5.out.set F5.out.b7 (by decide) (by decide) 4 (.slice v1A (rows.length + (0 + 1)) v1c))))
                        cases gk with
                        | zero => exact absurd ikq.out (by omega)
                        | succ k1 =>
                          go_roundg k1
                          case measure => omega
                          case rel => exact ⟨i + 1, i, j0, j1, _, _, rfl, by omega, ⟨by have := ikq.out; omega⟩, H5, HR5⟩
                      · by_cases d : cc < 33
                        · have d1 : decide (cc < 33) = true := decide_eq_true d
                          clear hg d
                          go_wp2
                          go_region
                          go_wp2
                          refine bodyPost_ret (results_list (rs := [.cell 4 50, .cell 5 31]) rfl (by simp) (.cell _ 50 _ (0, 0) _ rfl (blk_drew (FB.ret4 IF.out.fb _ _ _ _ _ _ _)) Tryz.underlying50 rfl (by kernel_rfl) (.cell _ 31 _ (0, 0) _ rfl (blk_drew (FB.ret5 IF.out.fb _ _ _ _ _ _ _)) Tryz.underlying31 rfl (by kernel_rfl) .nil))) rfl ?_
                          exact ⟨FieldRes.bad _ _ _ _ _ _ _ _ _ _ _ (by decide), (FB.retB IF.out.fb _ _ _ _ _ _ _).drew⟩
                        · have d1 : decide (cc < 33) = false := decide_eq_false d
                          have d2 : decide (126 < cc) = true := decide_eq_true (by omega)
                          clear hg d
                          go_wp2
                          go_region
                          go_wp2
                          refine bodyPost_ret (results_list (rs := [.cell 4 50, .cell 5 31]) rfl (by simp) (.cell _ 50 _ (0, 0) _ rfl (blk_drew (FB.ret4 IF.out.fb _ _ _ _ _ _ _)) Tryz.underlying50 rfl (by kernel_rfl) (.cell _ 31 _ (0, 0) _ rfl (blk_drew (FB.ret5 IF.out.fb _ _ _ _ _ _ _)) Tryz.underlying31 rfl (by kernel_rfl) .nil))) rfl ?_
                          exact ⟨FieldRes.bad _ _ _ _ _ _ _ _ _ _ _ (by decide), (FB.retB IF.out.fb _ _ _ _ _ _ _).drew⟩
                    · have hpe : (pp == 31) = false := by rw [beq_eq_false_iff_ne]; exact hp31
                      have hi4 : 4 ≤ i := H24.out hp31
                      have HPN := Aside0.mk hp31
                      clear hp31 H24
                      by_cases h31 : cc = 31
                      · have hc31 : (cc == 31) = true := by rw [beq_iff_eq]; exact h31
                        have HC31 := Aside0.mk h31
                        clear h31
                        by_cases he : i + 1 = xs.length
                        · have heb : ((i + 1) == (xs.length : Int)) = true := by rw [beq_iff_eq]; exact he
                          have H4 := Aside0.mk (IF.out.put6 (i + 1))
                          clear he
                          go_wp2
                          go_region
                          go_wp2
                          refine bodyPost_ret (results_list (rs := [.cell 4 50, .cell 5 31]) rfl (by simp) (.cell _ 50 _ (0, 0) _ rfl (blk_drew (FB.ret4 H4.out.fb _ _ _ _ _ _ _)) Tryz.underlying50 rfl (by kernel_rfl) (.cell _ 31 _ (0, 0) _ rfl (blk_drew (FB.ret5 H4.out.fb _ _ _ _ _ _ _)) Tryz.underlying31 rfl (by kernel_rfl) .nil))) rfl ?_
                          exact ⟨FieldRes.bad _ _ _ _ _ _ _ _ _ _ _ (by decide), (FB.retB H4.out.fb _ _ _ _ _ _ _).drew⟩
                        · have heb : ((i + 1) == (xs.length : Int)) = false := by rw [beq_eq_false_iff_ne]; exact he
                          have HN := Aside0.mk (IR.out.next i0 (by omega) (by omega) (FAt.mk_more hi i0 hge (by rw [HPP.out]; exact HPN.out) (by rw [HCC.out]; exact HC31.out) he))
                          clear he
                          cases gk with
                          | zero => exact absurd ikq.out (by omega)
                          | succ k1 =>
                            go_wp2
                            go_roundg k1
                            case measure => omega
                            case rel => exact ⟨i + 1, i, j0, j1, _, rows, rfl, by omega, ⟨by have := ikq.out; omega⟩, IF, HN⟩
                      · have hc31 : (cc == 31) = false := by rw [beq_eq_false_iff_ne]; exact h31
                        have HC31 := Aside0.mk h31
                        clear h31
                        obtain ⟨fr, hfr⟩ : ∃ r, amanuensisref19_free.f cc = some r := by unfold amanuensisref19_free.f; split <;> exact ⟨_, rfl⟩
                        have HFR := Aside0.mk hfr
                        clear hfr
                        go_wp2_with fail
                        refine (told (amanuensisref19_free.calls cc fr _ HFR.out)).mono ?_
                        rintro e w3 ⟨rfl, hb, hh⟩
                        have HF3 := Aside0.mk (IF.out.of_below hb)
                        have HR3 := Aside0.mk (IR.out.of_below hb)
                        clear hb hh c40 c41 c42 c43 c44 c50 c51 c60 c61 c70 c71 c72 c73 c74 f4 f5 f6 f7 hcb hpb hpb2
                        obtain ⟨⟨c40, c41, c42, c43, c44⟩, ⟨c50, c51⟩, ⟨c60, c61⟩, ⟨c70, c71, c72, c73, c74⟩, f4, f5, f6, f7⟩ := HF3.out.cells
                        cases fr with
                        | false =>
                          go_wp2
                          go_region
                          go_wp2
                          refine bodyPost_ret (results_list (rs := [.cell 4 50, .cell 5 31]) rfl (by simp) (.cell _ 50 _ (0, 0) _ rfl (blk_drew (FB.ret4 HF3.out.fb _ _ _ _ _ _ _)) Tryz.underlying50 rfl (by kernel_rfl) (.cell _ 31 _ (0, 0) _ rfl (blk_drew (FB.ret5 HF3.out.fb _ _ _ _ _ _ _)) Tryz.underlying31 rfl (by kernel_rfl) .nil))) rfl ?_
                          exact ⟨FieldRes.bad _ _ _ _ _ _ _ _ _ _ _ (by decide), (FB.retB HF3.out.fb _ _ _ _ _ _ _).drew⟩
                        | true =>
                          go_upto_region 22 with (fail)
                          have hi5 := hi4
                          obtain ⟨pre, c0, ut, us, hrows, hU, hus⟩ := HR3.out.lst hi4
                          obtain ⟨gs, cap, hvs, hgB, hglt, cells, hgb⟩ := Kd.R_form HR3.out.rr (by rw [hrows]; simp)
                          injection hvs with h1 h2 h3
                          subst h1 h3
                          obtain ⟨uA, uc, hut⟩ := Kd.R_slice hU
                          subst hut
                          have hlen : rows.length = pre.length + 1 := by rw [hrows]; simp
                          have hgd : rows.getD pre.length [] = [.int .u8 c0, .slice uA us.length uc] := by rw [hrows]; simp
                          obtain ⟨ce, hce1, ⟨hce2, _, _⟩, hce3, hce4⟩ := Kd.R_elem HR3.out.rr [] (pre.length : Int) (by omega) (by omega)
                          rw [Int.toNat_natCast] at hce2 hce3 hce4
                          rw [hgd] at hce2
                          subst hce2
                          have ct : w3.cell? ⟨gs, pre.length * 2 + 1, none⟩ = some (.slice uA us.length uc) := hce3 1 _ rfl
                          have cta : ∀ o, (w3.alloc o).cell? ⟨gs, pre.length * 2 + 1, none⟩ = some (.slice uA us.length uc) := fun o => ((below_alloc (Below.refl _ w3) o).cell hglt).trans ct
                          have c7a : ∀ o, (w3.alloc o).cell? ⟨g7, 4, none⟩ = some (.slice (some ⟨gs, 0, none⟩) rows.length cv) := fun o => ((below_alloc (Below.refl _ w3) o).cell (blk_lt HF3.out.b7)).trans c74
                          have hus' : us.length ≤ 200000 := by omega
                          have HU := Aside0.mk (Kd.R_drew hU)
                          have HRW := Aside0.mk hrows
                          have HR4 := Aside0.mk (HR3.out.of_below (below_drew (Below.refl _ w3)))
                          have HF4 := Aside0.mk (HF3.out.of_below (below_drew (Below.refl _ w3)))
                          obtain ⟨m, hm⟩ : ∃ m, pre.length = m := ⟨_, rfl⟩
                          rw [hm] at hlen ct cta
                          have hml : m ≤ 200000 := by have := HR3.out.rl; omega
                          have hwm : IntKind.i64.wrap (m : Int) = (m : Int) := (i64_w _).trans (by unfold wrap64; omega)
                          have hlm : ((m : Int) < (m : Int) + 1) = True := eq_true (by omega)
                          have hlm2 : (0 ≤ (m : Int)) = True := eq_true (by omega)
                          have HM := Aside0.mk hm
                          clear hrows hU hce3 hce4 hce1 hgd hgb hm c40 c41 c42 c43 c44 c50 c51 c60 c61 c70 c71 c72 c73 f4 f5 f6
                          go_region_law (first
                            | (refine Kd.R_append_step (Kd.int .u8) (w0 := w) (W := w3.drew) w.heap.size rfl (.tmp 79) (.tmp 81) 22 5 (.int .u8 0) 1 rfl Tryz.underlying22 info5 rfl (by decide) (by omega) (.slice uA us.length uc) us cc [.int .u8 cc] (fun _ => True) (fun _ => False) rfl rfl ?tP (fun _ hk => hk.elim) (fun _ _ => trivial) ?tO ?tB ?tS ?tL ?_
                               (case tP => exact rfl)
                               (case tO => exact HU.out)
                               (case tB => exact HF4.out.fb.below)
                               (case tS => exact HF4.out.fb.below.size)
                               (case tL => omega)
                               intro v1 w5 ho hb hg hat
                               obtain ⟨v1A, v1c, hv1⟩ := Kd.R_slice ho
                               rw [List.length_append, List.length_cons, List.length_nil] at hv1
                               subst hv1
                               have HT5 := Aside0.mk (HR4.out.text hi5 HRW.out HU.out hus ho hg (FAt.mk_free hi i0 (by omega) (by rw [HPP.out]; exact HPN.out) (by rw [HCC.out]; exact HC31.out) (by rw [HCC.out]; exact HFR.out)))
                               have HF5 := Aside0.mk (HF4.out.grown hg hb (fun k hk => (Kd.R_typed HU.out k hk).elim fun cells hc => ⟨cells, 5, hc, by decide, by decide⟩))
                               have c75 := (HF5.out.cells).2.2.2.1.2.2.2.2
                               have ct5 := HT5.out.2.1
                               have ft5 := HT5.out.2.2.1
                               rw [HM.out] at ct5 ft5
                               clear hat))
                          all_goals
                            cases gk with
                            | zero => exact absurd ikq.out (by omega)
                            | succ k1 =>
                              go_wp2
                              go_roundg k1
                              case measure => omega
                              case rel => exact ⟨i + 1, i, j0, j1, _, _, rfl, by omega, ⟨by have := ikq.out; omega⟩, ⟨HF5.out.setfar HT5.out.2.2.2.choose_spec hgB (by decide) (by decide) _ _⟩, ⟨by have := HT5.out.1; rw [HM.out] at this; exact this⟩⟩
              · have hib : decide ((xs.length : Int) ≤ i) = true := decide_eq_true (by omega)
                go_wp2
                go_region
                go_wp2
                refine bodyPost_ret (results_list (rs := [.cell 4 50, .cell 5 31]) rfl (by simp) (.cell _ 50 _ (0, 0) _ rfl (blk_drew (FB.ret4 IF.out.fb _ _ _ _ _ _ _)) Tryz.underlying50 rfl (by kernel_rfl) (.cell _ 31 _ (0, 0) _ rfl (blk_drew (FB.ret5 IF.out.fb _ _ _ _ _ _ _)) Tryz.underlying31 rfl (by kernel_rfl) .nil))) rfl ?_
                exact ⟨FieldRes.bad _ _ _ _ _ _ _ _ _ _ _ (by decide), (FB.retB IF.out.fb _ _ _ _ _ _ _).drew⟩
          · rw [decide_eq_false hcond]
            have HNC := Aside0.mk hcond
            obtain ⟨⟨c40, c41, c42, c43, c44⟩, ⟨c50, c51⟩, ⟨c60, c61⟩, ⟨c70, c71, c72, c73, c74⟩, f4, f5, f6, f7⟩ := IF0.out.cells
            obtain ⟨Av, cv, hv⟩ := Kd.R_slice IR0.out.rr
            subst hv
            clear hcond
            go_wp2
            refine bodyPost_ret (results_list (rs := [.cell 4 50, .cell 5 31]) rfl (by simp) (.cell _ 50 _ (0, 0) _ rfl (FB.ret4 IF0.out.fb _ _ _ _ _ _ _) Tryz.underlying50 rfl (by kernel_rfl) (.cell _ 31 _ (0, 0) _ rfl (FB.ret5 IF0.out.fb _ _ _ _ _ _ _) Tryz.underlying31 rfl (by kernel_rfl) .nil))) rfl ?_
            exact ⟨FieldRes.good ⟨rfl, fun e => (by cases e), fun _ => ⟨by have := HNC.out; have := (IR0.out.ats 3 (by omega)).lt; omega, fun j hj => IR0.out.ats j (by have := HNC.out; omega)⟩⟩ _ _ _ _ _ _ _ _ _ _ _, (FB.retB IF0.out.fb _ _ _ _ _ _ _)⟩
end Go.Proofs.YtkhnnbfgjfkfeaaGreatDoor
