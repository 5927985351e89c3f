/- More shapes for the walks of fields. Conditions: those that each theorem states. -/
import Derived.Test.YtkhnnbfgjfkfeaaGreatDoorKRga
import Derived.Test.YtkhnnbfgjfkfeaaGreatDoorKRpa
namespace Go.Proofs.YtkhnnbfgjfkfeaaGreatDoor
open Go.RowKit Go.Proofs.YtkhnnbfgjfkfeaaGreatDoorW.PrintWords Go.Proofs.YtkhnnbfgjfkfeaaGreatDoorW.PrintLast Go.Proofs.YtkhnnbfgjfkfeaaGreatDoorW.PrintMore Go.Proofs.YtkhnnbfgjfkfeaaGreatDoor.PCod
set_option linter.unusedVariables false
set_option linter.unusedSimpArgs false
theorem seg_is (A : Option Addr) (c : Nat) (xs : List Int) (a b : Int) (h0 : 0 ≤ a) (h1 : a ≤ b) (hm : b ≤ xs.length) (hc : xs.length ≤ c) : ∃ (A' : Option Addr) (n c' : Nat) (ys : List Int), (∀ W : World, (Instr.slice 22 (.slice A xs.length c) (some (.int .i64 a)) (some (.int .i64 b)) none).run Tryz.prog W = .ok (.slice A' n c') W) ∧ ys.length = n ∧ n ≤ c' ∧ (n : Int) = b - a ∧ (∀ W : World, (Kd.int .u8).C W A xs.length xs → (Kd.int .u8).C W A' n ys) ∧ ys = (xs.take b.toNat).drop a.toNat := by
  obtain ⟨i05, hi05, _, hsz5, _⟩ := info_parts info5
  obtain ⟨A', h2, h3, h4⟩ := print_mid_int (P := Tryz.prog) (k := .u8) 22 5 Tryz.underlying22 hi05 hsz5 A c xs a b h0 h1 hm hc
  refine ⟨A', _, _, _, h2, rfl, h4, ?_, fun W h => Kd.C_of_reads (enc := Value.int .u8) (d := (0 : Int)) (h1 := fun _ => rfl) (h3 W (Kd.reads_of_C (enc := Value.int .u8) (d := (0 : Int)) (h1 := fun _ => rfl) h)), rfl⟩
  rw [List.length_drop, List.length_take]; omega
theorem num_bound (l : List Int) (h : l.length ≤ 5) : -1 ≤ numP l ∧ numP l < 10 ^ l.length := by
  unfold numP
  split
  · rename_i ha
    have := val_take l l.length (fun j hj => by
      have := List.all_eq_true.1 ha (l.getD j 0) (by rw [List.getD_eq_getElem?_getD, List.getElem?_eq_getElem hj]; exact List.getElem_mem hj)
      unfold dig at this; exact of_decide_eq_true this) (Nat.le_refl _)
    rw [List.take_length] at this
    omega
  · have : (0 : Int) < 10 ^ l.length := Int.pow_pos (by decide)
    omega
theorem num_calls (w : World) (A : Option Addr) (n c : Nat) (ys : List Int) (hn : ys.length = n) (h5 : n ≤ 5) (hC : (Kd.int .u8).C w A n ys) (hc : n ≤ c) : Calls Tryz.prog 18 #[.slice A n c] w fun e w' => e = .returned (.int .i64 (numP ys)) ∧ Below w.heap.size w w' ∧ w'.heap = w.heap := by
  subst hn
  exact told (amanuensisref19_num.calls 7 A c ys _ w hC hc (num_eq ys h5 7 (Nat.le_refl _)))
theorem tag_total (s : ByteArray) (hs : (s.size : Int) ≤ 4611686018427387904) : ∃ k r, amanuensisref19_Tag.f k s = some r := by
  have : ∀ (d j : Nat), j + d = s.size → ∀ k, d + 1 ≤ k → ∃ r, amanuensisref19_Tag.l0 k s j = some r := by
    intro d
    induction d with
    | zero =>
      intro j hj k hk
      obtain ⟨k, rfl⟩ : ∃ k', k = k' + 1 := ⟨k - 1, by omega⟩
      exact ⟨_, by rw [amanuensisref19_Tag.l0, if_neg (by omega)]⟩
    | succ d ih =>
      intro j hj k hk
      obtain ⟨k, rfl⟩ : ∃ k', k = k' + 1 := ⟨k - 1, by omega⟩
      obtain ⟨r, hr⟩ := ih (j + 1) (by omega) k (by omega)
      have e : wrap64 ((j : Int) + 1) = ((j + 1 : Nat) : Int) := by unfold wrap64; omega
      rw [amanuensisref19_Tag.l0, if_pos (by omega), if_pos (by omega), e, hr]
      repeat' split
      all_goals exact ⟨_, rfl⟩
  obtain ⟨r, hr⟩ := this s.size 0 (by omega) (s.size + 1) (by omega)
  exact ⟨_, r, hr⟩
theorem control_total (s : ByteArray) : ∃ r, amanuensisref19_Control.f s = some r := by
  unfold amanuensisref19_Control.f
  repeat' split
  all_goals first | exact ⟨_, rfl⟩ | omega
/-- entries, one behind the other -/
def EntOk : Int → List S46 → Int → Prop
  | s, [], e => s = e
  | s, p :: l, e => p.f2 = s ∧ 1 ≤ p.f1 ∧ p.f1 ≤ 9999 ∧ EntOk (s + p.f1) l e
theorem EntOk.snoc : ∀ {l : List S46} {s e : Int} {p : S46}, EntOk s l e → p.f2 = e → 1 ≤ p.f1 → p.f1 ≤ 9999 → EntOk s (l ++ [p]) (e + p.f1)
  | [], s, e, p, h, h1, h2, h3 => by
    unfold EntOk at h; subst h
    exact ⟨h1, h2, h3, rfl⟩
  | q :: l, s, e, p, h, h1, h2, h3 => ⟨h.1, h.2.1, h.2.2.1, EntOk.snoc h.2.2.2 h1 h2 h3⟩
theorem EntOk.bound : ∀ {l : List S46} {s e : Int}, EntOk s l e → s ≤ e ∧ e ≤ s + 9999 * l.length
  | [], s, e, h => by unfold EntOk at h; subst h; simp
  | q :: l, s, e, h => by
    have := EntOk.bound h.2.2.2
    have := h.2.1
    have := h.2.2.1
    rw [List.length_cons]; omega
/-- Dir's own blocks -/
structure DB (w W : World) (g3 : Nat) (vl : Value) (l : List S46) : Prop where
  below : Below w.heap.size w W
  b3 : W.heap[g3]? = some (.cells #[.int .i64 0, .int .i64 0] 31 (0, 0))
  e3 : w.heap.size ≤ g3
  row : k46.R 46 W w.heap.size (fun _ => True) vl l
namespace DB
variable {w W W1 : World} {g3 : Nat} {vl v1 : Value} {l : List S46}
theorem start (w : World) : DB w (w.alloc (.cells #[.int .i64 0, .int .i64 0] 31)) w.heap.size (.slice none 0 0) [] := ⟨below_alloc (Below.refl _ _) _, blk_new _ _, Nat.le_refl _, Kd.R_nil _ _ _ _ _⟩
theorem of_below (h : DB w W g3 vl l) (hb : Below W.heap.size W W1) : DB w W1 g3 vl l := ⟨h.below.trans (hb.mono h.below.size), blk_below h.b3 hb, h.e3, Kd.R_below h.row hb⟩
theorem append (h : DB w W g3 vl l) {p : S46} (ho : k46.R 46 W1 w.heap.size (fun _ => True) v1 (l ++ [p])) (hb : Below w.heap.size w W1) (hg : W.grownBy W1 vl.ownBlock) : DB w W1 g3 v1 (l ++ [p]) :=
  ⟨hb, blk_grown h.b3 hg (Kd.R_ne h.row h.b3 (by decide)), h.e3, ho⟩
theorem cells (h : DB w W g3 vl l) : W.cell? ⟨g3, 0, none⟩ = some (.int .i64 0) ∧ W.cell? ⟨g3, 1, none⟩ = some (.int .i64 0) ∧ ∀ i, W.frozen? ⟨g3, i, none⟩ = false :=
  ⟨by rw [blk_cell h.b3]; rfl, by rw [blk_cell h.b3]; rfl, fun i => blk_frozen h.b3 i⟩
theorem ret (h : DB w W g3 vl l) (e a : Value) : ((W.setCell ⟨g3, 0, none⟩ e).setCell ⟨g3, 1, none⟩ a).heap[g3]? = some (.cells #[e, a] 31 (0, 0)) := blk_put (blk_put h.b3 0 e rfl) 1 a rfl
theorem retB (h : DB w W g3 vl l) (e a : Value) : Below w.heap.size w ((W.setCell ⟨g3, 0, none⟩ e).setCell ⟨g3, 1, none⟩ a) := Below.setCell (Below.setCell h.below h.e3 e) h.e3 a
theorem retR (h : DB w W g3 vl l) (e a : Value) : k46.R 46 ((W.setCell ⟨g3, 0, none⟩ e).setCell ⟨g3, 1, none⟩ a) w.heap.size (fun _ => True) vl l := by
  have hE : ∀ q, q ∈ 46 :: k46.E → q ≠ 31 := by
    intro q hq
    have : q = 46 := by simpa [k46, Kd.iso, Kd.pair, Kd.string, Kd.int, Kd.scalar] using hq
    omega
  exact Kd.R_set (Kd.R_set h.row h.b3 hE 0 e) (blk_put h.b3 0 e rfl) hE 1 a
end DB
theorem via {wr W w1 : World} (hx : Below wr.heap.size wr W) (hb : Below W.heap.size W w1) : Below wr.heap.size wr w1 := hx.trans (hb.mono hx.size)
theorem num_via (wr W : World) (hx : Below wr.heap.size wr W) (A : Option Addr) (n c : Nat) (ys : List Int) (v : Int) (hv : numP ys = v) (hn : ys.length = n) (h5 : n ≤ 5) (hC : (Kd.int .u8).C wr A n ys) (hc : n ≤ c) : Calls Tryz.prog 18 #[.slice A n c] W fun e w' => e = .returned (.int .i64 v) ∧ Below wr.heap.size wr w' ∧ w'.heap = W.heap := by
  subst hv
  refine (num_calls W A n c ys hn h5 (Kd.C_below hC hx) hc).mono ?_
  rintro e w1 ⟨h1, h2, h3⟩
  exact ⟨h1, via hx h2, h3⟩
end Go.Proofs.YtkhnnbfgjfkfeaaGreatDoor
