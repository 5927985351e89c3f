/- The cutter's walks, third part: bad. -/
import Derived.Test.YtmaehbdpmdgpaaaCwb
namespace Go.Proofs.Ytmaehbdpmdgpaaa
open Go.RowKit Go.Proofs.YtmaehbdpmdgpaaaW.PrintWords Go.Proofs.YtmaehbdpmdgpaaaW.PrintLast Go.Proofs.YtmaehbdpmdgpaaaW.PrintMore Go.Proofs.Ytmaehbdpmdgpaaa.PCut
set_option linter.unusedVariables false
set_option linter.unusedSimpArgs false
theorem IsC.below {w w' : World} {B g : Nat} {v : Value} {xs : List Int} {at0 : Int} {en : Bool} (h : IsC w B g v xs at0 en) (hb : Below w.heap.size w w') : IsC w' B g v xs at0 en :=
  ⟨blk_below h.blk hb, h.ge, Kd.R_step h.row (fun k _ hk => hb.block k hk), h.byt, h.len⟩
theorem IsC.far {w : World} {B g : Nat} {v : Value} {xs : List Int} {at0 : Int} {en : Bool} (h : IsC w B g v xs at0 en) {p : Addr} (hg : g ≠ p.block) (hv : v.ownBlock ≠ some p.block) (u : Value) : IsC (w.setCell p u) B g v xs at0 en :=
  ⟨blk_far h.blk hg u, h.ge, Kd.R_mono (Kd.R_far (Kd.R_tight rfl h.row) (fun k hk e => hv (by rw [← e, hk])) u) (fun _ _ => trivial), h.byt, h.len⟩
/-- a struct of three cells, stored -/
def stW (w : World) (s : Nat) (a b c : Value) : World := ((w.setCell ⟨s, 0, none⟩ a).setCell ⟨s, 1, none⟩ b).setCell ⟨s, 2, none⟩ c
theorem stW_blk {w : World} {s : Nat} {x y z : Value} (h : w.heap[s]? = some (.cells #[x, y, z] 34 (0, 0))) (a b c : Value) : (stW w s a b c).heap[s]? = some (.cells #[a, b, c] 34 (0, 0)) :=
  blk_set (blk_set (blk_set h 0 a) 1 b) 2 c
theorem stW_kept {w w1 : World} {S : Nat → Prop} (h : Kept w w1 S) {s : Nat} (hs : S s ∨ w.heap.size ≤ s) (a b c : Value) : Kept w (stW w1 s a b c) S := by
  have k1 := Kept.setCell (p := ⟨s, 0, none⟩) h hs a
  have k2 := Kept.setCell (p := ⟨s, 1, none⟩) k1 hs b
  exact Kept.setCell (p := ⟨s, 2, none⟩) k2 hs c
theorem stW_below {w w1 : World} {B : Nat} (h : Below B w w1) {s : Nat} (hs : B ≤ s) (a b c : Value) : Below B w (stW w1 s a b c) := by
  have k1 := Below.setCell (p := ⟨s, 0, none⟩) h hs a
  have k2 := Below.setCell (p := ⟨s, 1, none⟩) k1 hs b
  exact Below.setCell (p := ⟨s, 2, none⟩) k2 hs c
theorem stW_c {w : World} {B g : Nat} {v : Value} {xs : List Int} {at0 : Int} {en : Bool} (h : IsC w B g v xs at0 en) {s : Nat} (hg : g ≠ s) (hv : v.ownBlock ≠ some s) (a b c : Value) : IsC (stW w s a b c) B g v xs at0 en := by
  have k1 := IsC.far (p := ⟨s, 0, none⟩) h hg hv a
  have k2 := IsC.far (p := ⟨s, 1, none⟩) k1 hg hv b
  exact IsC.far (p := ⟨s, 2, none⟩) k2 hg hv c
theorem stW_f {w : World} {ok : Nat → Prop} {A : Option Addr} {n : Nat} {xs : List Int} (h : Kd.F (Kd.int .u8) w ok A n xs) {s : Nat} (hs : ∀ k, ok k → k ≠ s) (a b c : Value) : Kd.F (Kd.int .u8) (stW w s a b c) ok A n xs := by
  have k1 := Kd.F_far (p := ⟨s, 0, none⟩) h hs a
  have k2 := Kd.F_far (p := ⟨s, 1, none⟩) k1 hs b
  exact Kd.F_far (p := ⟨s, 2, none⟩) k2 hs c
/-- 'take' behind a variable that was made first, and its answer stored there. -/
theorem Took.store {w w1 : World} {X : Obj} {B g : Nat} {A : Option Addr} {c : Nat} {v' : Value} {xs : List Int} {at0 : Int} {en : Bool} {n : Nat} (h : IsC w B g (.slice A xs.length c) xs at0 en)
    (t : Took (w.alloc X) w1 B g A v' xs at0 en n) (a b d : Value) : Took w (stW w1 w.heap.size a b d) B g A v' xs at0 en n := by
  have hgl := blk_lt h.blk
  have hB : B ≤ w.heap.size := Nat.le_trans h.ge (Nat.le_of_lt hgl)
  have hg : g ≠ w.heap.size := by omega
  have hsz : (w.alloc X).heap.size = w.heap.size + 1 := by simp
  have hfr := t.fresh
  rw [hsz] at hfr
  have hA := Kd.R_lt h.row
  refine ⟨stW_c t.c hg (fun e => ?_) a b d, stW_f t.f (fun k hk e => ?_) a b d, stW_kept ?_ (.inr (Nat.le_refl _)) a b d, fun k hk => by have := hfr k hk; omega, stW_below ?_ hB a b d⟩
  · have := hfr _ e; omega
  · subst e
    have hob : (Value.slice A xs.length c).ownBlock = some w.heap.size := by cases A <;> exact hk.symm
    have := hA _ hob; omega
  · exact Kept.then_ (Kept.of_below (below_alloc (Below.refl _ _) X) _) t.kept (fun k hk => .inl hk)
  · exact Below.trans ((Below.refl _ _).alloc hB X) t.below
/-- the variable that was made first, behind 'take' -/
theorem Took.var {w w1 : World} {X : Obj} {B g : Nat} {A : Option Addr} {v' : Value} {xs : List Int} {at0 : Int} {en : Bool} {n : Nat} (hgl : g < w.heap.size) (t : Took (w.alloc X) w1 B g A v' xs at0 en n) : w1.heap[w.heap.size]? = some X :=
  (t.kept.2 w.heap.size (by simp) (by omega)).trans (blk_new w X)
set_option maxHeartbeats 8000000 in
set_option maxRecDepth 100000 in
theorem bad_calls (w : World) (B g : Nat) (A : Option Addr) (c : Nat) (xs : List Int) (at0 : Int) (en : Bool) (h : IsC w B g (.slice A xs.length c) xs at0 en) (hne : 1 ≤ xs.length) (h0 : 0 ≤ at0) (h1 : at0 ≤ 4611686018427387904) :
    Calls Try.prog 27 #[.pointer (some ⟨g, 0, none⟩)] w fun e w' => match badP xs en with
      | none => e = .returned (.tuple #[.agg #[.int .i64 0, .bool false, .slice none 0 0], .bool false]) ∧ Below w.heap.size w w'
      | some (n, good) => ∃ v' : Value, e = .returned (.tuple #[.agg #[.int .i64 at0, .bool good, .slice A n n], .bool true]) ∧ Took w w' B g A v' xs at0 en n := by
  have c0 := h.cell0
  have c2 := h.cell2
  have hgl := blk_lt h.blk
  have HH := Aside0.mk h
  have hx := index_calls (w.alloc (.cells #[.int .i64 0, .bool false, .slice none 0 0] 34)) B _ _ _ (h.below (below_alloc (Below.refl _ _) _)).row h.byt
  have HX := Aside0.mk hx
  clear hx h
  by_cases hi : 0 ≤ idx xs
  · obtain ⟨j, hj⟩ : ∃ j : Nat, idx xs = j := ⟨(idx xs).toNat, by omega⟩
    have hjl := (idx_lt xs hi).1
    rw [hj, Int.toNat_natCast] at hjl
    have hb : badP xs en = some (j + 1, false) := by unfold badP; rw [if_pos hi, hj, Int.toNat_natCast]
    rw [hb]
    rw [hj] at HX
    have hl : xs.length ≤ 140737488355328 := HH.out.len
    clear hb hi hj
    go_enter Try.func27, Try.ntmps27
    go_wp2_with fail
    refine HX.out.mono ?_
    rintro e w1 ⟨rfl, rfl⟩
    go_wp2_with fail
    rw [show ((j : Int) + 1) = ((j + 1 : Nat) : Int) from by omega]
    refine (take_calls _ B g A c xs at0 en (j + 1) false (HH.out.below (below_alloc (Below.refl _ _) _)) (by omega) (by omega) h0 h1).mono ?_
    rintro e w1 ⟨v', rfl, tk⟩
    have s0 := tk.var hgl
    have TK := Aside0.mk (Took.store HH.out tk (.int .i64 at0) (.bool false) (.slice A (j + 1) (j + 1)))
    have TB := Aside0.mk (stW_blk s0 (.int .i64 at0) (.bool false) (.slice A (j + 1) (j + 1)))
    have r0 : w1.cell? ⟨w.heap.size, 0, none⟩ = some (.int .i64 0) := by rw [blk_cell s0]; rfl
    have r1 : w1.cell? ⟨w.heap.size, 1, none⟩ = some (.bool false) := by rw [blk_cell s0]; rfl
    have r2 : w1.cell? ⟨w.heap.size, 2, none⟩ = some (.slice none 0 0) := by rw [blk_cell s0]; rfl
    have rf0 := blk_frozen s0 0
    have rf1 := blk_frozen s0 1
    have rf2 := blk_frozen s0 2
    clear s0 tk
    go_wp2
    exact bodyPost_ret (results_ct rfl _ _ w.heap.size 34 #[.int .i64 at0, .bool false, .slice A (j + 1) (j + 1)] (0, 0) _ rfl TB.out Try.underlying34 rfl (by kernel_rfl)) rfl ⟨v', rfl, TK.out⟩
  · obtain ⟨j, hj⟩ : ∃ j, idx xs = j := ⟨_, rfl⟩
    rw [hj] at HX hi
    have hl : xs.length ≤ 140737488355328 := HH.out.len
    have hjb : decide (0 ≤ j) = false := decide_eq_false hi
    cases en with
    | true =>
      have hb : badP xs true = some (xs.length, false) := by unfold badP; rw [hj, if_neg hi, if_pos rfl]
      rw [hb]
      clear hb hj hi
      go_enter Try.func27, Try.ntmps27
      go_wp2_with fail
      refine HX.out.mono ?_
      rintro e w1 ⟨rfl, rfl⟩
      go_wp2_with fail
      refine (take_calls _ B g A c xs at0 true xs.length false (HH.out.below (below_alloc (Below.refl _ _) _)) (by omega) (by omega) h0 h1).mono ?_
      rintro e w1 ⟨v', rfl, tk⟩
      have s0 := tk.var hgl
      have TK := Aside0.mk (Took.store HH.out tk (.int .i64 at0) (.bool false) (.slice A xs.length xs.length))
      have TB := Aside0.mk (stW_blk s0 (.int .i64 at0) (.bool false) (.slice A xs.length xs.length))
      have r0 : w1.cell? ⟨w.heap.size, 0, none⟩ = some (.int .i64 0) := by rw [blk_cell s0]; rfl
      have r1 : w1.cell? ⟨w.heap.size, 1, none⟩ = some (.bool false) := by rw [blk_cell s0]; rfl
      have r2 : w1.cell? ⟨w.heap.size, 2, none⟩ = some (.slice none 0 0) := by rw [blk_cell s0]; rfl
      have rf0 := blk_frozen s0 0
      have rf1 := blk_frozen s0 1
      have rf2 := blk_frozen s0 2
      clear s0 tk
      go_wp2
      exact bodyPost_ret (results_ct rfl _ _ w.heap.size 34 #[.int .i64 at0, .bool false, .slice A xs.length xs.length] (0, 0) _ rfl TB.out Try.underlying34 rfl (by kernel_rfl)) rfl ⟨v', rfl, TK.out⟩
    | false =>
      have hb : badP xs false = none := by unfold badP; rw [hj, if_neg hi, if_neg (by decide)]
      rw [hb]
      clear hb hj hi
      go_enter Try.func27, Try.ntmps27
      go_wp2_with fail
      refine HX.out.mono ?_
      rintro e w1 ⟨rfl, rfl⟩
      go_wp2
      exact bodyPost_ret (results_ct rfl _ _ w.heap.size 34 #[.int .i64 0, .bool false, .slice none 0 0] (0, 0) _ rfl (blk_new _ _) Try.underlying34 rfl (by kernel_rfl)) rfl ⟨rfl, below_alloc (Below.refl _ _) _⟩
end Go.Proofs.Ytmaehbdpmdgpaaa
