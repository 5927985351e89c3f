/- The parts of field.Parse are walked. Conditions: those that each theorem states. -/
import Derived.Test.YtkhnnbfgjfkfeaaGreatDoorKRob
import Derived.Test.YtkhnnbfgjfkfeaaGreatDoorKPd
namespace Go.Proofs.YtkhnnbfgjfkfeaaGreatDoor
open Go.RowKit Go.Proofs.YtkhnnbfgjfkfeaaGreatDoorW.PrintWords Go.Proofs.YtkhnnbfgjfkfeaaGreatDoorW.PrintLast Go.Proofs.YtkhnnbfgjfkfeaaGreatDoorW.PrintMore Go.Proofs.YtkhnnbfgjfkfeaaGreatDoor.PCod
set_option linter.unusedVariables false
set_option linter.unusedSimpArgs false
theorem seg_from (A : Option Addr) (c : Nat) (xs : List Int) (a : Int) (h0 : 0 ≤ a) (hm : a ≤ xs.length) (hc : xs.length ≤ c) : ∃ (A' : Option Addr) (c' : Nat) (ys : List Int), (∀ W : World, (Instr.slice 22 (.slice A xs.length c) (some (.int .i64 a)) none none).run Tryz.prog W = .ok (.slice A' ys.length c') W) ∧ ys.length ≤ c' ∧ (∀ W : World, (Kd.int .u8).C W A xs.length xs → (Kd.int .u8).C W A' ys.length ys) ∧ ys = xs.drop a.toNat := by
  obtain ⟨i05, hi05, _, hsz5, _⟩ := info_parts info5
  obtain ⟨A', h2, h3, h4⟩ := print_cut_int (P := Tryz.prog) (k := .u8) 22 5 Tryz.underlying22 hi05 hsz5 A c xs a h0 hm hc
  exact ⟨A', _, _, h2, h4, fun W h => Kd.C_of_reads (enc := Value.int .u8) (d := (0 : Int)) (h1 := fun _ => rfl) (h3 W (Kd.reads_of_C (enc := Value.int .u8) (d := (0 : Int)) (h1 := fun _ => rfl) h)), rfl⟩
theorem first_stop (p : Nat → Bool) (L : Nat) : ∀ (d a : Nat), a + d = L → ∃ n, a ≤ n ∧ n ≤ L ∧ (∀ j, a ≤ j → j < n → p j = true) ∧ (n < L → p n = false)
  | 0, a, h => ⟨a, Nat.le_refl _, by omega, fun j h1 h2 => absurd h2 (by omega), fun h1 => absurd h1 (by omega)⟩
  | d + 1, a, h => by
    cases hp : p a with
    | false => exact ⟨a, Nat.le_refl _, by omega, fun j h1 h2 => absurd h2 (by omega), fun _ => hp⟩
    | true =>
      obtain ⟨n, h1, h2, h3, h4⟩ := first_stop p L d (a + 1) (by omega)
      refine ⟨n, by omega, h2, fun j hj hj2 => ?_, h4⟩
      rcases Nat.lt_or_ge a j with h5 | h5
      · exact h3 j (by omega) hj2
      · obtain rfl : j = a := by omega
        exact hp
theorem free_is (c : Int) : field_Free.f c = some (c != 29 && (c != 30 && c != 31)) := by
  unfold field_Free.f
  split
  · rename_i h; subst h; rfl
  · rename_i h
    split
    · rename_i h2; subst h2; rfl
    · rename_i h2
      have a : (c != 29) = true := bne_iff_ne.2 h
      have b : (c != 30) = true := bne_iff_ne.2 h2
      rw [a, b]; rfl
theorem free_of_ref {c : Int} (h : amanuensisref19_free.f c = some true) : field_Free.f c = some true := by
  unfold amanuensisref19_free.f at h
  rw [free_is]
  split at h
  · rename_i h1
    have a : c ≠ 29 := by omega
    have b : c ≠ 30 := by omega
    have d : c ≠ 31 := by omega
    simp [a, b, d]
  · have h2 := of_decide_eq_true (Option.some.inj h)
    have a : c ≠ 29 := by omega
    have b : c ≠ 30 := by omega
    have d : c ≠ 31 := by omega
    simp [a, b, d]
theorem code_of {c : Int} (h : 33 ≤ c ∧ c ≤ 126) : field_Code.f c = some true := by
  unfold field_Code.f
  rw [if_pos (by omega), decide_eq_true h.2]
theorem ind_of {c : Int} (h : 32 ≤ c ∧ c ≤ 126) : field_Indicator.f c = some true := by
  unfold field_Indicator.f
  rw [if_pos (by omega), decide_eq_true h.2]
/-- at a subfield's begin -/
def SubAt (xs : List Int) (i : Nat) : Prop := i = xs.length ∨ (i + 1 < xs.length ∧ xs.getD i 0 = 31)
theorem sub_next {xs : List Int} (hf : ∀ j : Nat, j < xs.length → FAt xs j) (i : Nat) (h2 : 2 ≤ i) (hi : i + 1 < xs.length) (h : xs.getD i 0 = 31) :
    field_Code.f (xs.getD (i + 1) 0) = some true ∧ ∃ n, 2 ≤ n ∧ i + n ≤ xs.length ∧ (∀ j, 2 ≤ j → j < n → field_Free.f (xs.getD (i + j) 0) = some true) ∧ (i + n < xs.length → field_Free.f (xs.getD (i + n) 0) = some false) ∧ SubAt xs (i + n) := by
  have hcode := (hf (i + 1) hi).code (by omega) (by simpa using h)
  refine ⟨code_of hcode, ?_⟩
  obtain ⟨n, h1, h3, h4, h5⟩ := first_stop (fun j => xs.getD (i + j) 0 != 29 && (xs.getD (i + j) 0 != 30 && xs.getD (i + j) 0 != 31)) (xs.length - i) (xs.length - i - 2) 2 (by omega)
  refine ⟨n, h1, by omega, fun j hj hj2 => by rw [free_is, h4 j hj hj2], fun hn => by rw [free_is, h5 (by omega)], ?_⟩
  rcases Nat.lt_or_ge (i + n) xs.length with hn | hn
  · right
    have hA := hf (i + n) hn
    have hp : xs.getD (i + n - 1) 0 ≠ 31 := by
      rcases Nat.lt_or_ge 2 n with hn2 | hn2
      · have := h4 (n - 1) (by omega) (by omega)
        rw [show i + (n - 1) = i + n - 1 by omega] at this
        simp at this
        exact this.2.2
      · obtain rfl : n = 2 := by omega
        have e : i + 2 - 1 = i + 1 := by omega
        rw [e]; omega
    have h31 : xs.getD (i + n) 0 = 31 := by
      rcases Classical.em (xs.getD (i + n) 0 = 31) with h31 | h31
      · exact h31
      · have := hA.free (by omega) hp h31
        have h6 := free_of_ref this
        rw [free_is, h5 (by omega)] at h6
        exact absurd (Option.some.inj h6) (by decide)
    have := hA.more (by omega) hp h31
    exact ⟨by omega, h31⟩
  · left; omega
/-- the call's own blocks: the results, the field -/
structure FP (w W : World) (g6 : Nat) (tag : ByteArray) (i0 i1 : Int) (vs : Value) (rows : List (List Value)) : Prop where
  below : Below w.heap.size w W
  b4 : W.heap[w.heap.size]? = some (.cells #[.string ByteArray.empty, .slice none 0 0, .int .u8 0, .int .u8 0, .slice none 0 0] 50 (0, 0))
  b5 : W.heap[w.heap.size + 1]? = some (.cells #[.int .i64 0, .int .i64 0] 31 (0, 0))
  b6 : W.heap[g6]? = some (.cells #[.string tag, .slice none 0 0, .int .u8 i0, .int .u8 i1, vs] 50 (0, 0))
  e6 : w.heap.size + 2 ≤ g6
  rr : (Kd.raw 2).R 58 W w.heap.size (fun _ => True) vs rows
namespace FP
variable {w W W1 : World} {g6 : Nat} {tag : ByteArray} {i0 i1 : Int} {vs v1 : Value} {rows : List (List Value)} {r : List Value}
theorem of_below (h : FP w W g6 tag i0 i1 vs rows) (hb : Below W.heap.size W W1) : FP w W1 g6 tag i0 i1 vs rows :=
  ⟨below_then h.below h.below.size hb, blk_below h.b4 hb, blk_below h.b5 hb, blk_below h.b6 hb, h.e6, Kd.R_below h.rr hb⟩
theorem ty (h : (Kd.raw 2).R 58 W w.heap.size (fun _ => True) vs rows) {g t : Nat} {cells : Array Value} (hb : W.heap[g]? = some (.cells cells t (0, 0))) (ht : t ≠ 58) (j : Nat) (u : Value) : (Kd.raw 2).R 58 (W.setCell ⟨g, j, none⟩ u) w.heap.size (fun _ => True) vs rows :=
  Kd.R_set h hb (fun q hq => by
    have : q = 58 := by simpa [Kd.raw] using hq
    omega) j u
theorem put (h : FP w W g6 tag i0 i1 vs rows) (j : Nat) (u : Value) {j0 j1 : Int} (e : (#[.string tag, .slice none 0 0, .int .u8 i0, .int .u8 i1, vs] : Array Value).setIfInBounds j u = #[.string tag, .slice none 0 0, .int .u8 j0, .int .u8 j1, vs]) : FP w (W.setCell ⟨g6, j, none⟩ u) g6 tag j0 j1 vs rows := by
  have h6 := h.e6
  exact ⟨Below.setCell h.below (by show _ ≤ g6; omega) u, blk_far h.b4 (by show _ ≠ g6; omega) u, blk_far h.b5 (by show _ ≠ g6; omega) u, blk_put h.b6 j u e, h.e6, ty h.rr h.b6 (by decide) j u⟩
theorem grown (h : FP w W g6 tag i0 i1 vs rows) (ho : (Kd.raw 2).R 58 W1 w.heap.size (fun _ => True) v1 (rows ++ [r])) (hb : Below w.heap.size w W1) (hg : W.grownBy W1 vs.ownBlock) :
    W1.heap[g6]? = some (.cells #[.string tag, .slice none 0 0, .int .u8 i0, .int .u8 i1, vs] 50 (0, 0)) ∧ FP w (W1.setCell ⟨g6, 4, none⟩ v1) g6 tag i0 i1 v1 (rows ++ [r]) := by
  have hne : ∀ {g t : Nat} {cs : Array Value}, W.heap[g]? = some (Obj.cells cs t (0, 0)) → t ≠ 58 → some g ≠ vs.ownBlock := fun hbk ht => Kd.R_ne h.rr hbk ht.symm
  have k6 := blk_grown h.b6 hg (hne h.b6 (by decide))
  have h6 := h.e6
  exact ⟨k6, Below.setCell hb (by show _ ≤ g6; omega) v1, blk_far (blk_grown h.b4 hg (hne h.b4 (by decide))) (by show _ ≠ g6; omega) v1, blk_far (blk_grown h.b5 hg (hne h.b5 (by decide))) (by show _ ≠ g6; omega) v1, blk_put k6 4 v1 rfl, h.e6, ty ho k6 (by decide) 4 v1⟩
end FP
end Go.Proofs.YtkhnnbfgjfkfeaaGreatDoor
