/- The helpers bad and control are walked. Conditions: those that each theorem states. -/
import Derived.Test.YtkhnnbfgjfkfeaaGreatDoorKPc
import Derived.Test.YtkhnnbfgjfkfeaaGreatDoorKRka
import Derived.Test.YtkhnnbfgjfkfeaaGreatDoorKRga
namespace Go.Proofs.YtkhnnbfgjfkfeaaGreatDoor
open Go.RowKit Go.Proofs.YtkhnnbfgjfkfeaaGreatDoorW.PrintWords Go.Proofs.YtkhnnbfgjfkfeaaGreatDoorW.PrintLast Go.Proofs.YtkhnnbfgjfkfeaaGreatDoorW.PrintMore Go.Proofs.YtkhnnbfgjfkfeaaGreatDoor.PCod
set_option linter.unusedVariables false
set_option linter.unusedSimpArgs false
theorem isbad_calls (w : World) (c : Int) (h : field_Free.f c = some true) : Calls Tryz.prog 271 #[.int .u8 c] w fun e w' => e = .returned (.bool false) ∧ Drawn0 w w' := by
  have HF := Aside0.mk h
  clear h
  go_enter Tryz.func271, Tryz.ntmps271
  go_wp2_with fail
  refine (field_Free.calls c true _ HF.out).mono ?_
  rintro e w1 ⟨rfl, m, rfl⟩
  go_wp2
  go_ret
  exact ⟨rfl, m, rfl⟩
theorem index_calls (w : World) (A : Option Addr) (c : Nat) (xs : List Int) (h : (Kd.int .u8).C w A xs.length xs) (hc : xs.length ≤ c) (hl : xs.length ≤ 100000) (hf : ∀ j, j < xs.length → field_Free.f (xs.getD j 0) = some true) :
    Calls Tryz.prog 270 #[.slice A xs.length c, .func (.func 271) #[] #[]] w fun e w' => e = .returned (.int .i64 (-1)) ∧ Below w.heap.size w w' := by
  have HI := Aside0.mk h
  have HF := Aside0.mk hf
  clear h hf hc
  go_enter Tryz.func270, Tryz.ntmps270
  go_wp2
  go_loopg [8] xs.length (fun kq v8 w' => ∃ i : Int, v8 = .int .i64 i ∧ 0 ≤ i ∧ Aside0 (i.toNat + kq = xs.length) ∧ Aside0 (Below w.heap.size w w'))
  case atStart => exact ⟨0, rfl, by omega, ⟨by simp⟩, ⟨Below.refl _ _⟩⟩
  case round =>
    obtain ⟨i, rfl, i0, ikq, HD⟩ := hrel
    by_cases hi : i < xs.length
    · have hib : decide (i < (xs.length : Int)) = true := decide_eq_true hi
      have hfr := HF.out i.toNat (by omega)
      have hcell : (Kd.int .u8).C wr A xs.length xs := Kd.C_below HI.out HD.out
      obtain ⟨ad, rfl, hcb⟩ := Kd.at_int hcell i i0 hi
      obtain ⟨cc, hcc⟩ : ∃ cc, rd xs i = cc := ⟨_, rfl⟩
      rw [hcc] at hcb
      have HB := Aside0.mk (isbad_calls wr cc (by rw [← hcc]; exact hfr))
      clear hcc hfr hcell
      go_wp2_with fail
      refine (told HB.out).mono ?_
      rintro e w1 ⟨rfl, hb, hh⟩
      have HD1 := Aside0.mk (HD.out.trans (hb.mono HD.out.size))
      clear hb hh
      cases gk with
      | zero => exact absurd ikq.out (by omega)
      | succ k1 =>
        go_wp2
        go_roundg k1
        case measure => omega
        case rel => exact ⟨i + 1, rfl, by omega, ⟨by have := ikq.out; omega⟩, HD1⟩
    · have hib : decide (i < (xs.length : Int)) = false := decide_eq_false hi
      go_wp2
      go_ret
      exact ⟨rfl, HD.out⟩
theorem bad_calls (w : World) (A : Option Addr) (c : Nat) (xs : List Int) (h : (Kd.int .u8).C w A xs.length xs) (hc : xs.length ≤ c) (hl : xs.length ≤ 100000) (hf : ∀ j, j < xs.length → field_Free.f (xs.getD j 0) = some true) :
    Calls Tryz.prog 212 #[.slice A xs.length c] w fun e w' => e = .returned (.int .i64 (-1)) ∧ Below w.heap.size w w' := by
  have HX := Aside0.mk (index_calls w A c xs h hc hl hf)
  clear h hc hl hf
  go_enter Tryz.func212, Tryz.ntmps212
  go_wp2_with fail
  refine HX.out.mono ?_
  rintro e w1 ⟨rfl, hb⟩
  have HB := Aside0.mk hb
  clear hb
  go_wp2
  go_ret
  exact ⟨rfl, HB.out⟩
/-- the two results' blocks, filled -/
theorem fin45 {W : World} {g4 g5 : Nat} {a0 a1 a2 a3 a4 b0 b1 : Value} (h4 : W.heap[g4]? = some (.cells #[a0, a1, a2, a3, a4] 50 (0, 0))) (h5 : W.heap[g5]? = some (.cells #[b0, b1] 31 (0, 0))) (v0 v1 v2 v3 v4 e a : Value) :
    (((((((W.setCell ⟨g4, 0, none⟩ v0).setCell ⟨g4, 1, none⟩ v1).setCell ⟨g4, 2, none⟩ v2).setCell ⟨g4, 3, none⟩ v3).setCell ⟨g4, 4, none⟩ v4).setCell ⟨g5, 0, none⟩ e).setCell ⟨g5, 1, none⟩ a).heap[g4]? = some (.cells #[v0, v1, v2, v3, v4] 50 (0, 0)) ∧
    (((((((W.setCell ⟨g4, 0, none⟩ v0).setCell ⟨g4, 1, none⟩ v1).setCell ⟨g4, 2, none⟩ v2).setCell ⟨g4, 3, none⟩ v3).setCell ⟨g4, 4, none⟩ v4).setCell ⟨g5, 0, none⟩ e).setCell ⟨g5, 1, none⟩ a).heap[g5]? = some (.cells #[e, a] 31 (0, 0)) := by
  have hn : g4 ≠ g5 := blk_ne h4 h5 (by decide)
  refine ⟨?_, ?_⟩
  · exact blk_far (blk_far (blk_put (blk_put (blk_put (blk_put (blk_put h4 0 v0 rfl) 1 v1 rfl) 2 v2 rfl) 3 v3 rfl) 4 v4 rfl) hn e) hn a
  · exact blk_put (blk_put (blk_far (blk_far (blk_far (blk_far (blk_far h5 hn.symm v0) hn.symm v1) hn.symm v2) hn.symm v3) hn.symm v4) 0 e rfl) 1 a rfl
theorem fin45B {w W : World} {g4 g5 : Nat} (hb : Below w.heap.size w W) (h4 : w.heap.size ≤ g4) (h5 : w.heap.size ≤ g5) (v0 v1 v2 v3 v4 e a : Value) :
    Below w.heap.size w (((((((W.setCell ⟨g4, 0, none⟩ v0).setCell ⟨g4, 1, none⟩ v1).setCell ⟨g4, 2, none⟩ v2).setCell ⟨g4, 3, none⟩ v3).setCell ⟨g4, 4, none⟩ v4).setCell ⟨g5, 0, none⟩ e).setCell ⟨g5, 1, none⟩ a) :=
  Below.setCell (Below.setCell (Below.setCell (Below.setCell (Below.setCell (Below.setCell (Below.setCell hb h4 _) h4 _) h4 _) h4 _) h4 _) h5 _) h5 _
/-- a block of five cells, of two: as the walk asks for them -/
theorem cells5 {W : World} {g t : Nat} {a0 a1 a2 a3 a4 : Value} (h : W.heap[g]? = some (.cells #[a0, a1, a2, a3, a4] t (0, 0))) : W.cell? ⟨g, 0, none⟩ = some a0 ∧ W.cell? ⟨g, 1, none⟩ = some a1 ∧ W.cell? ⟨g, 2, none⟩ = some a2 ∧ W.cell? ⟨g, 3, none⟩ = some a3 ∧ W.cell? ⟨g, 4, none⟩ = some a4 ∧ ∀ i, W.frozen? ⟨g, i, none⟩ = false :=
  ⟨by rw [blk_cell h]; rfl, by rw [blk_cell h]; rfl, by rw [blk_cell h]; rfl, by rw [blk_cell h]; rfl, by rw [blk_cell h]; rfl, fun i => blk_frozen h i⟩
theorem cells2 {W : World} {g t : Nat} {a0 a1 : Value} (h : W.heap[g]? = some (.cells #[a0, a1] t (0, 0))) : W.cell? ⟨g, 0, none⟩ = some a0 ∧ W.cell? ⟨g, 1, none⟩ = some a1 ∧ ∀ i, W.frozen? ⟨g, i, none⟩ = false :=
  ⟨by rw [blk_cell h]; rfl, by rw [blk_cell h]; rfl, fun i => blk_frozen h i⟩
/-- a field, and no fault -/
def FieldV (e : Ending) : Prop := ∃ (s : ByteArray) (A1 : Option Addr) (n1 c1 : Nat) (i0 i1 : Int) (A4 : Option Addr) (n4 c4 : Nat), e = .returned (.tuple #[.agg #[.string s, .slice A1 n1 c1, .int .u8 i0, .int .u8 i1, .slice A4 n4 c4], .agg #[.int .i64 0, .int .i64 0]])
theorem FieldV.mk (s : ByteArray) (A1 : Option Addr) (n1 c1 : Nat) (i0 i1 : Int) (A4 : Option Addr) (n4 c4 : Nat) : FieldV (.returned (.tuple #[.agg #[.string s, .slice A1 n1 c1, .int .u8 i0, .int .u8 i1, .slice A4 n4 c4], .agg #[.int .i64 0, .int .i64 0]])) := ⟨s, A1, n1, c1, i0, i1, A4, n4, c4, rfl⟩
set_option maxHeartbeats 4000000 in
set_option maxRecDepth 100000 in
theorem control_calls (w : World) (tag : ByteArray) (A : Option Addr) (c : Nat) (xs : List Int) (h : (Kd.int .u8).C w A xs.length xs) (hc : xs.length ≤ c) (hl : xs.length ≤ 100000) (hf : ∀ j, j < xs.length → field_Free.f (xs.getD j 0) = some true) :
    Calls Tryz.prog 159 #[.string tag, .slice A xs.length c] w fun e w' => FieldV e ∧ Below w.heap.size w w' := by
  have HI := Aside0.mk h
  have HF := Aside0.mk hf
  have HC := Aside0.mk hc
  have HW : Aside0 (Below w.heap.size w ((w.alloc (.cells #[.string ByteArray.empty, .slice none 0 0, .int .u8 0, .int .u8 0, .slice none 0 0] 50)).alloc (.cells #[.int .i64 0, .int .i64 0] 31))) := ⟨below_alloc (below_alloc (Below.refl _ _) _) _⟩
  have H4 := Aside0.mk (blk_alloc (blk_new w (.cells #[.string ByteArray.empty, .slice none 0 0, .int .u8 0, .int .u8 0, .slice none 0 0] 50)) (.cells #[.int .i64 0, .int .i64 0] 31))
  have H5 := Aside0.mk (blk_new (w.alloc (.cells #[.string ByteArray.empty, .slice none 0 0, .int .u8 0, .int .u8 0, .slice none 0 0] 50)) (.cells #[.int .i64 0, .int .i64 0] 31))
  rw [FB.alloc_size] at H5
  clear h hf hc
  go_enter Tryz.func159, Tryz.ntmps159
  go_wp2_with fail
  refine (bad_calls _ A c xs (Kd.C_below HI.out HW.out) HC.out hl HF.out).mono ?_
  rintro e w1 ⟨rfl, hb⟩
  have K4 := Aside0.mk (blk_below H4.out hb)
  have K5 := Aside0.mk (blk_below H5.out hb)
  have KW := Aside0.mk (below_then HW.out HW.out.size hb)
  clear hb H4 H5 HW
  go_wp2_with fail
  refine (clone_calls _ A c xs (Kd.C_below HI.out KW.out) (by omega) HC.out).mono ?_
  rintro e w2 ⟨v, rfl, hr, hb⟩
  have L4 := Aside0.mk (blk_below K4.out hb)
  have L5 := Aside0.mk (blk_below K5.out hb)
  have LW := Aside0.mk (below_then KW.out KW.out.size hb)
  obtain ⟨A1, c1, rfl⟩ := Kd.R_slice hr
  clear hb hr K4 K5 KW
  obtain ⟨c40, c41, c42, c43, c44, f4⟩ := cells5 L4.out
  obtain ⟨c50, c51, f5⟩ := cells2 L5.out
  go_wp2
  refine bodyPost_ret (results_list (rs := [.cell 4 50, .cell 5 31]) rfl (by simp) (.cell _ 50 _ (0, 0) _ rfl (fin45 L4.out L5.out _ _ _ _ _ _ _).1 Tryz.underlying50 rfl (by kernel_rfl) (.cell _ 31 _ (0, 0) _ rfl (fin45 L4.out L5.out _ _ _ _ _ _ _).2 Tryz.underlying31 rfl (by kernel_rfl) .nil))) rfl ?_
  exact ⟨FieldV.mk _ _ _ _ _ _ _ _ _, fin45B LW.out (Nat.le_refl _) (Nat.le_succ _) _ _ _ _ _ _ _⟩
end Go.Proofs.YtkhnnbfgjfkfeaaGreatDoor
