/- The checks of a directory are walked. Conditions: those that each theorem states. -/
import Derived.Test.YtkhnnbfgjfkfeaaGreatDoorKRhd
namespace Go.Proofs.YtkhnnbfgjfkfeaaGreatDoor
open Go.RowKit Go.Proofs.YtkhnnbfgjfkfeaaGreatDoorW.PrintWords Go.Proofs.YtkhnnbfgjfkfeaaGreatDoorW.PrintLast Go.Proofs.YtkhnnbfgjfkfeaaGreatDoorW.PrintMore Go.Proofs.YtkhnnbfgjfkfeaaGreatDoor.PCod
set_option linter.unusedVariables false
set_option linter.unusedSimpArgs false
theorem dir_l (w : World) (A : Option Addr) (n c : Nat) (ys : List Int) (hn : ys.length = n) (h : (Kd.int .u8).C w A n ys) (hc : n ≤ c) (hl : n ≤ 100000) : Calls Tryz.prog 11 #[.slice A n c] w fun e w' => DirRes ys n w e w' ∧ Below w.heap.size w w' := by
  subst hn; exact dir_calls w A c ys h hc hl
theorem PB.start {w w1 : World} (hb : Below ((w.alloc (.cells #[.string ByteArray.empty, .slice none 0 0] 28)).alloc (.cells #[.int .i64 0, .int .i64 0] 31)).heap.size ((w.alloc (.cells #[.string ByteArray.empty, .slice none 0 0] 28)).alloc (.cells #[.int .i64 0, .int .i64 0] 31)) w1) (E a : Int) :
    PB w (w1.alloc (.cells #[.int .i64 E, .int .i64 a] 31)) w.heap.size (w.heap.size + 1) w1.heap.size E a := by
  have h2 := blk_below (blk_alloc (blk_new w (.cells #[.string ByteArray.empty, .slice none 0 0] 28)) (.cells #[.int .i64 0, .int .i64 0] 31)) hb
  have h3 := blk_new (w.alloc (.cells #[.string ByteArray.empty, .slice none 0 0] 28)) (.cells #[.int .i64 0, .int .i64 0] 31)
  rw [FB.alloc_size] at h3
  have h3' := blk_below h3 hb
  have h0 : Below w.heap.size w ((w.alloc (.cells #[.string ByteArray.empty, .slice none 0 0] 28)).alloc (.cells #[.int .i64 0, .int .i64 0] 31)) := below_alloc (below_alloc (Below.refl _ _) _) _
  have hw := h0.trans (hb.mono h0.size)
  exact ⟨below_alloc hw _, blk_alloc h2 _, blk_alloc h3' _, blk_new _ _, Nat.le_refl _, by omega, hw.size, Nat.ne_of_lt (blk_lt h3')⟩
structure PF (w W : World) (g2 g3 g6 g10 : Nat) (E6 a6 : Int) (s : ByteArray) (vf : Value) (rows : List (List Value)) (vl : Value) (l : List S46) : Prop where
  pb : PB w W g2 g3 g6 E6 a6
  b10 : W.heap[g10]? = some (.cells #[.string s, vf] 28 (0, 0))
  e10 : w.heap.size ≤ g10
  n2 : g2 ≠ g10
  rf : (Kd.raw 5).R 50 W w.heap.size (fun _ => True) vf rows
  rl : k46.R 46 W w.heap.size (fun _ => True) vl l
theorem k46_E : k46.E = [] := rfl
theorem k46_set {W : World} {B g t : Nat} {cells : Array Value} {vl : Value} {l : List S46} (h : k46.R 46 W B (fun _ => True) vl l) (hb : W.heap[g]? = some (.cells cells t (0, 0))) (ht : 46 ≠ t) (j : Nat) (u : Value) : k46.R 46 (W.setCell ⟨g, j, none⟩ u) B (fun _ => True) vl l :=
  Kd.R_set h hb (fun q hq => by have : q = 46 := by simpa [k46_E] using hq
                                rw [this]; exact ht) j u
namespace PF
variable {w W W1 : World} {g2 g3 g6 g10 : Nat} {E6 a6 : Int} {s : ByteArray} {vf v1 vl : Value} {rows rows1 : List (List Value)} {l : List S46}
theorem of_below (h : PF w W g2 g3 g6 g10 E6 a6 s vf rows vl l) (hb : Below W.heap.size W W1) : PF w W1 g2 g3 g6 g10 E6 a6 s vf rows vl l :=
  ⟨h.pb.of_below hb, blk_below h.b10 hb, h.e10, h.n2, Kd.R_below h.rf hb, Kd.R_below h.rl hb⟩
theorem start (h : PB w W g2 g3 g6 E6 a6) (hl : k46.R 46 W w.heap.size (fun _ => True) vl l) (s : ByteArray) : PF w (W.alloc (.cells #[.string s, .slice none 0 0] 28)) g2 g3 g6 W.heap.size E6 a6 s (.slice none 0 0) [] vl l :=
  ⟨h.of_below (below_alloc (Below.refl _ _) _), blk_new _ _, h.below.size, Nat.ne_of_lt (blk_lt h.b2), Kd.R_nil _ _ _ _ _, Kd.R_alloc hl _⟩
theorem grown (h : PF w W g2 g3 g6 g10 E6 a6 s vf rows vl l) (ho : (Kd.raw 5).R 50 W1 w.heap.size (fun _ => True) v1 rows1) (hb : Below w.heap.size w W1) (hg : W.grownBy W1 vf.ownBlock) :
    PB w W1 g2 g3 g6 E6 a6 ∧ W1.heap[g10]? = some (.cells #[.string s, vf] 28 (0, 0)) ∧ PF w (W1.setCell ⟨g10, 1, none⟩ v1) g2 g3 g6 g10 E6 a6 s v1 rows1 vl l := by
  have hne : ∀ {g t cs}, W.heap[g]? = some (Obj.cells cs t (0, 0)) → 50 ≠ t → some g ≠ vf.ownBlock := fun hbk ht => Kd.R_ne h.rf hbk ht
  have hpb : PB w W1 g2 g3 g6 E6 a6 := ⟨hb, blk_grown h.pb.b2 hg (hne h.pb.b2 (by decide)), blk_grown h.pb.b3 hg (hne h.pb.b3 (by decide)), blk_grown h.pb.b6 hg (hne h.pb.b6 (by decide)), h.pb.e2, h.pb.e3, h.pb.e6, h.pb.n36⟩
  have h10 := blk_grown h.b10 hg (hne h.b10 (by decide))
  have hl1 : k46.R 46 W1 w.heap.size (fun _ => True) vl l := Kd.R_mono (Kd.R_grown (Kd.R_tight k46_E h.rl) hg (fun k hk he => by
    obtain ⟨cells, hc⟩ := Kd.R_typed h.rf k he.symm
    exact Kd.R_ne h.rl hc (by decide) hk)) (fun _ _ => trivial)
  refine ⟨hpb, h10, ⟨⟨Below.setCell hb h.e10 _, blk_far hpb.b2 h.n2 _, blk_far hpb.b3 (blk_ne hpb.b3 h10 (by decide)) _, blk_far hpb.b6 (blk_ne hpb.b6 h10 (by decide)) _, h.pb.e2, h.pb.e3, h.pb.e6, h.pb.n36⟩, blk_put h10 1 _ rfl, h.e10, h.n2, Kd.R_set ho h10 (fun q hq => ?_) _ _, k46_set hl1 h10 (by decide) _ _⟩⟩
  have : q = 50 := by simpa [Kd.raw] using hq
  omega
end PF
def FldOf (tag : ByteArray) (ys : List Int) : Prop := ∃ bt bc, (∃ k, amanuensisref19_Tag.f k tag = some bt) ∧ amanuensisref19_Control.f tag = some bc ∧ FieldOk bt bc ys
def FieldVia (tag : ByteArray) (ys : List Int) (e : Ending) : Prop := ∃ (s : ByteArray) (A1 : Option Addr) (n1 c1 : Nat) (i0 i1 : Int) (A4 : Option Addr) (n4 c4 : Nat) (e1 a1 : Int), e = .returned (.tuple #[.agg #[.string s, .slice A1 n1 c1, .int .u8 i0, .int .u8 i1, .slice A4 n4 c4], .agg #[.int .i64 e1, .int .i64 a1]]) ∧ (e1 = 0 → FldOf tag ys)
theorem RecAt.of {xs y2 : List Int} {r2 fr tt p1 p2 : Int} {p0 : ByteArray} {q : S46} (hp : q = ⟨p0, p1, p2⟩) (hfr : fr = r2 + p2) (htt : tt = fr + p1 - 1) (hct : rd xs tt = 30) (hy : y2 = (xs.take tt.toNat).drop fr.toNat) (hf : FldOf p0 y2) : RecAt xs r2 q := by
  subst hp hfr hy
  have e : r2 + p2 + p1 - 1 = tt := by omega
  refine ⟨?_, ?_⟩
  · show xs.getD (r2 + p2 + p1 - 1).toNat 0 = 30
    rw [e]; exact hct
  · show ∃ bt bc, (∃ k, amanuensisref19_Tag.f k p0 = some bt) ∧ amanuensisref19_Control.f p0 = some bc ∧ FieldOk bt bc ((xs.take (r2 + p2 + p1 - 1).toNat).drop (r2 + p2).toNat)
    rw [e]; exact hf
theorem field_via (wr W : World) (hx : Below wr.heap.size wr W) (tag : ByteArray) (hts : (tag.size : Int) ≤ 10) (A : Option Addr) (n c : Nat) (ys : List Int) (hn : ys.length = n) (h5 : n ≤ 100000) (hC : (Kd.int .u8).C wr A n ys) (hc : n ≤ c) (hb : ∀ y ∈ ys, 0 ≤ y ∧ y ≤ 255) : Calls Tryz.prog 12 #[.string tag, .slice A n c] W fun e w' => FieldVia tag ys e ∧ Below wr.heap.size wr w' ∧ Below W.heap.size W w' := by
  subst hn
  obtain ⟨kt, bt, ht⟩ := tag_total tag (by omega)
  obtain ⟨bc, hbc⟩ := control_total tag
  refine (field_calls W tag kt bt ht bc hbc A c ys (Kd.C_below hC hx) hc hb h5).mono ?_
  rintro e w1 ⟨h1, h2⟩
  obtain ⟨s, A1, n1, c1, i0, i1, A4, n4, c4, e1, a1, he, ho⟩ := h1
  exact ⟨⟨s, A1, n1, c1, i0, i1, A4, n4, c4, e1, a1, he, fun h0 => ⟨bt, bc, ⟨kt, ht⟩, hbc, ho h0⟩⟩, via hx h2, h2⟩
theorem info50 : (Tryz.prog.info? 50).map (fun i => (i.zero, i.size, i.bytes)) = some (some (.agg #[.string ByteArray.empty, .slice none 0 0, .int .u8 0, .int .u8 0, .slice none 0 0]), 5, 72) := by kernel_rfl
theorem blk_new2 (w : World) (o o2 : Obj) : ((w.alloc o).alloc o2).heap[w.heap.size + 1]? = some o2 := by
  have := blk_new (w.alloc o) o2
  rwa [FB.alloc_size] at this
theorem fld_cells {W : World} {g : Nat} {u0 u1 u2 u3 u4 : Value} (hb : W.heap[g]? = some (.cells #[u0, u1, u2, u3, u4] 50 (0, 0))) : W.cell? ⟨g, 0, none⟩ = some u0 ∧ W.cell? ⟨g, 1, none⟩ = some u1 ∧ W.cell? ⟨g, 2, none⟩ = some u2 ∧ W.cell? ⟨g, 3, none⟩ = some u3 ∧ W.cell? ⟨g, 4, none⟩ = some u4 ∧ ∀ i, W.frozen? ⟨g, i, none⟩ = false :=
  ⟨by rw [blk_cell hb]; rfl, by rw [blk_cell hb]; rfl, by rw [blk_cell hb]; rfl, by rw [blk_cell hb]; rfl, by rw [blk_cell hb]; rfl, fun i => blk_frozen hb i⟩
theorem flt_cells {W : World} {g : Nat} {e a : Value} (hb : W.heap[g]? = some (.cells #[e, a] 31 (0, 0))) : W.cell? ⟨g, 0, none⟩ = some e ∧ W.cell? ⟨g, 1, none⟩ = some a ∧ ∀ i, W.frozen? ⟨g, i, none⟩ = false :=
  ⟨by rw [blk_cell hb]; rfl, by rw [blk_cell hb]; rfl, fun i => blk_frozen hb i⟩
section
variable {W wr wf : World} {g4 g5 B : Nat} {a0 a1 a2 a3 a4 e0 e1 : Value}
theorem ch4 (h4 : W.heap[g4]? = some (.cells #[a0, a1, a2, a3, a4] 50 (0, 0))) (h5 : W.heap[g5]? = some (.cells #[e0, e1] 31 (0, 0))) (v0 v1 v2 v3 v4 e a : Value) : (((((((W.setCell ⟨g4, 0, none⟩ v0).setCell ⟨g4, 1, none⟩ v1).setCell ⟨g4, 2, none⟩ v2).setCell ⟨g4, 3, none⟩ v3).setCell ⟨g4, 4, none⟩ v4).setCell ⟨g5, 0, none⟩ e).setCell ⟨g5, 1, none⟩ a).heap[g4]? = some (.cells #[v0, v1, v2, v3, v4] 50 (0, 0)) :=
  have hn : g4 ≠ g5 := blk_ne h4 h5 (by decide)
  blk_far (blk_far (blk_put (blk_put (blk_put (blk_put (blk_put h4 0 v0 rfl) 1 v1 rfl) 2 v2 rfl) 3 v3 rfl) 4 v4 rfl) hn e) hn a
theorem ch5 (h4 : W.heap[g4]? = some (.cells #[a0, a1, a2, a3, a4] 50 (0, 0))) (h5 : W.heap[g5]? = some (.cells #[e0, e1] 31 (0, 0))) (v0 v1 v2 v3 v4 e a : Value) : (((((((W.setCell ⟨g4, 0, none⟩ v0).setCell ⟨g4, 1, none⟩ v1).setCell ⟨g4, 2, none⟩ v2).setCell ⟨g4, 3, none⟩ v3).setCell ⟨g4, 4, none⟩ v4).setCell ⟨g5, 0, none⟩ e).setCell ⟨g5, 1, none⟩ a).heap[g5]? = some (.cells #[e, a] 31 (0, 0)) :=
  have hn : g5 ≠ g4 := blk_ne h5 h4 (by decide)
  blk_put (blk_put (blk_far (blk_far (blk_far (blk_far (blk_far h5 hn v0) hn v1) hn v2) hn v3) hn v4) 0 e rfl) 1 a rfl
theorem chB (h : Below B wr W) (h4 : B ≤ g4) (h5 : B ≤ g5) (v0 v1 v2 v3 v4 e a : Value) : Below B wr (((((((W.setCell ⟨g4, 0, none⟩ v0).setCell ⟨g4, 1, none⟩ v1).setCell ⟨g4, 2, none⟩ v2).setCell ⟨g4, 3, none⟩ v3).setCell ⟨g4, 4, none⟩ v4).setCell ⟨g5, 0, none⟩ e).setCell ⟨g5, 1, none⟩ a) :=
  Below.setCell (Below.setCell (Below.setCell (Below.setCell (Below.setCell (Below.setCell (Below.setCell h h4 v0) h4 v1) h4 v2) h4 v3) h4 v4) h5 e) h5 a
theorem p5_4 (h4 : W.heap[g4]? = some (.cells #[a0, a1, a2, a3, a4] 50 (0, 0))) (v0 v1 v2 v3 v4 : Value) (o : Obj) : ((((((W.setCell ⟨g4, 0, none⟩ v0).setCell ⟨g4, 1, none⟩ v1).setCell ⟨g4, 2, none⟩ v2).setCell ⟨g4, 3, none⟩ v3).setCell ⟨g4, 4, none⟩ v4).alloc o).heap[g4]? = some (.cells #[v0, v1, v2, v3, v4] 50 (0, 0)) :=
  blk_alloc (blk_put (blk_put (blk_put (blk_put (blk_put h4 0 v0 rfl) 1 v1 rfl) 2 v2 rfl) 3 v3 rfl) 4 v4 rfl) o
theorem p5_5 (W : World) (g4 : Nat) (v0 v1 v2 v3 v4 : Value) (o : Obj) : ((((((W.setCell ⟨g4, 0, none⟩ v0).setCell ⟨g4, 1, none⟩ v1).setCell ⟨g4, 2, none⟩ v2).setCell ⟨g4, 3, none⟩ v3).setCell ⟨g4, 4, none⟩ v4).alloc o).heap[W.heap.size]? = some o := by
  have := blk_new (((((W.setCell ⟨g4, 0, none⟩ v0).setCell ⟨g4, 1, none⟩ v1).setCell ⟨g4, 2, none⟩ v2).setCell ⟨g4, 3, none⟩ v3).setCell ⟨g4, 4, none⟩ v4) o
  rwa [World.size_setCell, World.size_setCell, World.size_setCell, World.size_setCell, World.size_setCell] at this
theorem p5_B (h : Below wr.heap.size wr W) (h4 : wr.heap.size ≤ g4) (v0 v1 v2 v3 v4 : Value) (o : Obj) : Below wr.heap.size wr ((((((W.setCell ⟨g4, 0, none⟩ v0).setCell ⟨g4, 1, none⟩ v1).setCell ⟨g4, 2, none⟩ v2).setCell ⟨g4, 3, none⟩ v3).setCell ⟨g4, 4, none⟩ v4).alloc o) :=
  below_alloc (Below.setCell (p := ⟨g4, 4, none⟩) (Below.setCell (p := ⟨g4, 3, none⟩) (Below.setCell (p := ⟨g4, 2, none⟩) (Below.setCell (p := ⟨g4, 1, none⟩) (Below.setCell (p := ⟨g4, 0, none⟩) h h4 v0) h4 v1) h4 v2) h4 v3) h4 v4) o
theorem q2_4 {u0 u1 u2 u3 u4 : Value} (h5 : g5 < W.heap.size) (e a : Value) : ((((W.alloc (.cells #[u0, u1, u2, u3, u4] 50)).setCell ⟨g5, 0, none⟩ e).setCell ⟨g5, 1, none⟩ a)).heap[W.heap.size]? = some (.cells #[u0, u1, u2, u3, u4] 50 (0, 0)) :=
  have hn : W.heap.size ≠ g5 := Nat.ne_of_gt h5
  blk_far (blk_far (blk_new W _) hn e) hn a
theorem q2_5 (h5 : W.heap[g5]? = some (.cells #[e0, e1] 31 (0, 0))) (o : Obj) (e a : Value) : (((W.alloc o).setCell ⟨g5, 0, none⟩ e).setCell ⟨g5, 1, none⟩ a).heap[g5]? = some (.cells #[e, a] 31 (0, 0)) := blk_put (blk_put (blk_alloc h5 o) 0 e rfl) 1 a rfl
theorem q2_B (h : Below wr.heap.size wr W) (h5 : wr.heap.size ≤ g5) (o : Obj) (e a : Value) : Below wr.heap.size wr (((W.alloc o).setCell ⟨g5, 0, none⟩ e).setCell ⟨g5, 1, none⟩ a) := Below.setCell (p := ⟨g5, 1, none⟩) (Below.setCell (p := ⟨g5, 0, none⟩) (below_alloc h o) h5 e) h5 a
end
set_option maxHeartbeats 4000000 in
set_option maxRecDepth 100000 in
theorem parse_calls (w : World) (A : Option Addr) (c : Nat) (xs : List Int) (h : (Kd.int .u8).C w A xs.length xs) (hc : xs.length ≤ c) (hx : ∀ x ∈ xs, 0 ≤ x ∧ x ≤ 255) :
    Calls Tryz.prog 5 #[.slice A xs.length c] w fun e w' => ParseRes xs e ∧ Below w.heap.size w w' := by
  obtain ⟨kl, r1, r2, r3, r4, hld, hlq⟩ := leader_is xs
  have hmax := h.2.1
  have HI := Aside0.mk h
  have HIC := Aside0.mk hc
  have HX := Aside0.mk hx
  have HLD := Aside0.mk hld
  have HLQ := Aside0.mk hlq
  clear h hc hx hld hlq
  go_enter Tryz.func5, Tryz.ntmps5
  go_wp2_with fail
  refine (amanuensisref19_Leader.calls kl A c xs r1 r2 r3 r4 _ (Kd.C_alloc (Kd.C_alloc HI.out _) _) HIC.out HLD.out).mono ?_
  rintro e w1 ⟨rfl, hb⟩
  have HP0 := Aside0.mk (PB.start hb r3 r4)
  clear hb
  obtain ⟨b0, hb0⟩ : ∃ b, (r3 != 0) = b := ⟨_, rfl⟩
  go_upto_region 2 with (fail)
  obtain ⟨g6, hg6⟩ : ∃ g, w1.heap.size = g := ⟨_, rfl⟩
  have HP1 := HP0
  rw [hg6] at HP1
  have HG6 := Aside0.mk hg6
  go_cut [24] (fun v24 wc => v24 = .bool b0 ∧ Aside0 (PB w wc w.heap.size (w.heap.size + 1) w1.heap.size r3 r4))
  case first =>
    clear hg6
    go_wp2
    go_meet
    case rel => exact ⟨rfl, HP0⟩
  case rest =>
    obtain ⟨rfl, HP⟩ := hcut
    rw [hg6] at HP ⊢
    clear hg6 HP0 HP1 HG6
    obtain ⟨⟨c20, c21⟩, ⟨c30, c31⟩, ⟨c60, c61⟩, f2, f3, f6⟩ := HP.out.cells
    have n1 := HP.out.ne26
    have n2 := Ne.symm n1
    have n3 := HP.out.n36
    have n4 := Ne.symm n3
    cases b0 with
    | true =>
      have hr3 : r3 ≠ 0 := by simpa using hb0
      go_wp2
      go_region
      all_goals go_wp2
      all_goals
        refine bodyPost_ret (results_list (rs := [.cell 2 28, .cell 3 31]) rfl (by simp) (.cell _ 28 _ (0, 0) _ rfl (blk_drew (PB.ret2 HP.out _ _ _ _)) Tryz.underlying28 rfl (by kernel_rfl) (.cell _ 31 _ (0, 0) _ rfl (blk_drew (PB.ret3 HP.out _ _ _ _)) Tryz.underlying31 rfl (by kernel_rfl) .nil))) rfl ?_
        exact ⟨ParseRes.bad _ _ _ _ _ _ _ hr3, (PB.retB HP.out _ _ _ _).drew⟩
    | false =>
      have hr3 : r3 = 0 := by simpa using hb0
      obtain ⟨h24, hdg, hr1, hr2, hlead⟩ := HLQ.out hr3
      have HRA := Aside0.mk hr1
      have HR2A := Aside0.mk hr2
      have HLEAD := Aside0.mk hlead
      have hr1v : r1 = val5 (xs.take 5) := by rw [hr1]; unfold numP; rw [if_pos hdg]
      have hr1b : 0 ≤ r1 ∧ r1 ≤ 99999 := by
        have := num_bound (xs.take 5) (by rw [List.length_take]; omega)
        have h5 : (xs.take 5).length = 5 := by rw [List.length_take]; omega
        rw [h5, ← hr1] at this
        have h0 := val_take xs 5 (fun j hj => by
          have := List.all_eq_true.1 hdg (xs.getD j 0) (by
            rw [List.getD_eq_getElem?_getD, List.getElem?_eq_getElem (by omega)]
            exact List.mem_take_iff_getElem.2 ⟨j, by omega, rfl⟩)
          unfold dig at this; exact of_decide_eq_true this) (by omega)
        have e : (10 : Int) ^ 5 = 100000 := by decide
        omega
      have hr2b : -1 ≤ r2 ∧ r2 ≤ 99999 := by
        have := num_bound ((xs.take 17).drop 12) (by rw [List.length_drop, List.length_take]; omega)
        have h5 : ((xs.take 17).drop 12).length = 5 := by rw [List.length_drop, List.length_take]; omega
        rw [h5, ← hr2] at this
        have e : (10 : Int) ^ 5 = 100000 := by decide
        omega
      have HDG := Aside0.mk hdg
      have HR1 := Aside0.mk hr1v
      clear hr1 hr2 hdg hr1v hr3 hb0 hlead
      obtain ⟨hr10, hr11⟩ := hr1b
      obtain ⟨hr20, hr21⟩ := hr2b
      have HXC := Aside0.mk (Kd.C_below HI.out HP.out.below)
      obtain ⟨ab, rfl, _⟩ := Kd.at_int HXC.out 0 (by omega) (by omega)
      go_upto_region 4 with (fail)
      go_cut [39] (fun v39 wd => ∃ b : Bool, v39 = .bool b ∧ Aside0 (b = false → r1 = xs.length ∧ xs.getD (xs.length - 1) 0 = 29) ∧ wc = wd)
      case first =>
        by_cases c1 : r1 = xs.length
        · have b1 : (r1 != (xs.length : Int)) = false := by rw [c1]; simp
          obtain ⟨ab2, e, hcb⟩ := Kd.at_int HXC.out ((xs.length : Int) - 1) (by omega) (by omega)
          cases e
          obtain ⟨cl, hcl⟩ : ∃ cl, rd xs ((xs.length : Int) - 1) = cl := ⟨_, rfl⟩
          rw [hcl] at hcb
          have hcb2 := hcb
          rw [show ((xs.length : Int) - 1).toNat = xs.length - 1 by omega] at hcb2
          obtain ⟨b2, hb2⟩ : ∃ b, (cl != 29) = b := ⟨_, rfl⟩
          have HG : Aside0 (b2 = false → r1 = xs.length ∧ xs.getD (xs.length - 1) 0 = 29) := ⟨fun h => by
            have hc29 : cl = 29 := by rw [h] at hb2; simpa using hb2
            refine ⟨c1, ?_⟩
            unfold rd at hcl
            rw [show ((xs.length : Int) - 1).toNat = xs.length - 1 by omega] at hcl
            rw [hcl]; exact hc29⟩
          have hml : xs.length ≤ 100000 := by omega
          clear c1 hcl
          go_wp2
          go_meet
          case rel => exact ⟨b2, rfl, HG, rfl⟩
        · have b1 : (r1 != (xs.length : Int)) = true := by rw [bne_iff_ne]; exact c1
          clear c1
          go_wp2
          go_meet
          case rel => exact ⟨true, rfl, ⟨fun h => absurd h (by decide)⟩, rfl⟩
      case rest =>
        obtain ⟨b4, rfl, H4, rfl⟩ := hcut
        cases b4 with
        | true =>
          go_wp2
          refine bodyPost_ret (results_list (rs := [.cell 2 28, .cell 3 31]) rfl (by simp) (.cell _ 28 _ (0, 0) _ rfl (PB.ret2 HP.out _ _ _ _) Tryz.underlying28 rfl (by kernel_rfl) (.cell _ 31 _ (0, 0) _ rfl (PB.ret3 HP.out _ _ _ _) Tryz.underlying31 rfl (by kernel_rfl) .nil))) rfl ?_
          exact ⟨ParseRes.bad _ _ _ _ _ _ _ (by decide), (PB.retB HP.out _ _ _ _)⟩
        | false =>
          obtain ⟨hr1e, hlast⟩ := H4.out rfl
          have HL29 := Aside0.mk hlast
          have hlen : xs.length ≤ 99999 := by omega
          have hr1e' := hr1e
          subst hr1e'
          clear hlast H4
          go_upto_region 6 with (fail)
          go_cut [62] (fun v62 wd => ∃ b : Bool, v62 = .bool b ∧ Aside0 (b = false → 25 ≤ r2 ∧ r2 < xs.length ∧ (r2 - 25) % 12 = 0 ∧ xs.getD (r2.toNat - 1) 0 = 30) ∧ wc = wd)
          case first =>
            by_cases c1 : r2 < 25
            · have b1 : decide (r2 < 25) = true := decide_eq_true c1
              go_wp2
              go_meet
              case rel => exact ⟨true, rfl, ⟨fun h => absurd h (by decide)⟩, rfl⟩
            · have b1 : decide (r2 < 25) = false := decide_eq_false c1
              by_cases c2 : (xs.length : Int) ≤ r2
              · have b2 : decide ((xs.length : Int) ≤ r2) = true := decide_eq_true c2
                go_wp2
                go_meet
                case rel => exact ⟨true, rfl, ⟨fun h => absurd h (by decide)⟩, rfl⟩
              · have b2 : decide ((xs.length : Int) ≤ r2) = false := decide_eq_false c2
                have HG : Aside0 (25 ≤ r2 ∧ r2 < xs.length) := ⟨by omega⟩
                obtain ⟨b3, hb3⟩ : ∃ b, ((r2 - 25) % 12 != 0) = b := ⟨_, rfl⟩
                cases b3 with
                | true =>
                  have c1' : 25 ≤ r2 := by omega
                  go_wp2
                  go_meet
                  case rel => exact ⟨true, rfl, ⟨fun h => absurd h (by decide)⟩, rfl⟩
                | false =>
                  obtain ⟨ab2, e, hcb⟩ := Kd.at_int HXC.out (r2 - 1) (by omega) (by omega)
                  cases e
                  have hcb2 := hcb
                  rw [show (r2 - 1).toNat = r2.toNat - 1 by omega] at hcb2
                  obtain ⟨cl, hcl⟩ : ∃ cl, rd xs (r2 - 1) = cl := ⟨_, rfl⟩
                  rw [hcl] at hcb hcb2
                  obtain ⟨b5, hb5⟩ : ∃ b, (cl != 30) = b := ⟨_, rfl⟩
                  have c1' : 25 ≤ r2 := by omega
                  have HM : Aside0 ((r2 - 25) % 12 = 0) := ⟨by
                    by_cases h : (r2 - 25) % 12 = 0
                    · exact h
                    · exact absurd ((bne_iff_ne.2 h).symm.trans hb3) (by decide)⟩
                  have HB30 : Aside0 (b5 = false → xs.getD (r2.toNat - 1) 0 = 30) := ⟨fun h => by
                    have h30 : cl = 30 := by
                      by_cases h30 : cl = 30
                      · exact h30
                      · exact absurd ((bne_iff_ne.2 h30).symm.trans (hb5.trans h)) (by decide)
                    have e1 : (r2 - 1).toNat = r2.toNat - 1 := by omega
                    have hcl2 : xs.getD (r2 - 1).toNat 0 = cl := hcl
                    rw [e1] at hcl2
                    rw [hcl2]; exact h30⟩
                  clear hcl
                  go_wp2
                  go_meet
                  case rel => exact ⟨b5, rfl, ⟨fun h => ⟨HG.out.1, HG.out.2, HM.out, HB30.out h⟩⟩, rfl⟩
          case rest =>
            obtain ⟨b6, rfl, H6, rfl⟩ := hcut
            cases b6 with
            | true =>
              go_wp2
              refine bodyPost_ret (results_list (rs := [.cell 2 28, .cell 3 31]) rfl (by simp) (.cell _ 28 _ (0, 0) _ rfl (PB.ret2 HP.out _ _ _ _) Tryz.underlying28 rfl (by kernel_rfl) (.cell _ 31 _ (0, 0) _ rfl (PB.ret3 HP.out _ _ _ _) Tryz.underlying31 rfl (by kernel_rfl) .nil))) rfl ?_
              exact ⟨ParseRes.bad _ _ _ _ _ _ _ (by decide), (PB.retB HP.out _ _ _ _)⟩
            | false =>
              obtain ⟨hb25, hblt, hb12, hb30⟩ := H6.out rfl
              have HB12 := Aside0.mk hb12
              have HB30 := Aside0.mk hb30
              clear H6 HR1 hb12 hb30
              obtain ⟨A1, m1, e1, y1, hs1, hy1, he1, hd1, hC1, hyq1⟩ := seg_is (some ab) c xs 24 (r2 - 1) (by omega) (by omega) (by omega) HIC.out
              have HC1 := Aside0.mk (hC1 _ HXC.out)
              have HY1 := Aside0.mk hy1
              have hm1 : m1 ≤ 100000 := by omega
              have HY1Q : Aside0 (y1 = (xs.take (r2 - 1).toNat).drop 24) := ⟨hyq1⟩
              clear hC1 hy1 hd1 hyq1
              go_wp2_with fail
              refine (dir_l _ A1 m1 e1 y1 HY1.out HC1.out he1 hm1).mono ?_
              rintro e w8 ⟨⟨vl, E8, a8, nx, l, rfl, hE8⟩, hb8⟩
              have HP8 := Aside0.mk (HP.out.of_below hb8)
              have HP9 := Aside0.mk (HP8.out.put6 E8 a8)
              obtain ⟨b8, hb8'⟩ : ∃ b, (E8 != 0) = b := ⟨_, rfl⟩
              have HE : Aside0 (b8 = false → EntOk 0 l nx ∧ l.length ≤ m1 ∧ (∀ p ∈ l, (p.f0.size : Int) ≤ 10) ∧ Ents y1 l ∧ y1.length = 12 * l.length ∧ k46.R 46 ((w8.setCell ⟨g6, 0, none⟩ (.int .i64 E8)).setCell ⟨g6, 1, none⟩ (.int .i64 a8)) w.heap.size (fun _ => True) vl l) := ⟨fun h => by
                have h0 : E8 = 0 := by rw [h] at hb8'; simpa using hb8'
                obtain ⟨q1, q2, q3, q5, q6, q4⟩ := hE8 h0
                exact ⟨q1, q2, q3, q5, q6, k46_set (k46_set (Kd.R_lower q4 HP.out.below.size) HP8.out.b6 (by decide) _ _) (blk_put HP8.out.b6 0 _ rfl) (by decide) _ _⟩⟩
              have HBN : Aside0 (b8 = true → E8 ≠ 0) := ⟨fun h => by rw [h] at hb8'; exact bne_iff_ne.1 hb8'⟩
              clear hE8 hb8 c20 c21 c30 c31 c60 c61 f2 f3 f6
              obtain ⟨⟨c20, c21⟩, ⟨c30, c31⟩, ⟨c60, c61⟩, f2, f3, f6⟩ := HP8.out.cells
              go_upto_region 9 with (fail)
              go_cut [75] (fun v75 wd => v75 = .bool b8 ∧ Aside0 (PB w wd w.heap.size (w.heap.size + 1) g6 E8 a8) ∧ Aside0 (b8 = false → EntOk 0 l nx ∧ l.length ≤ m1 ∧ (∀ p ∈ l, (p.f0.size : Int) ≤ 10) ∧ Ents y1 l ∧ y1.length = 12 * l.length ∧ k46.R 46 wd w.heap.size (fun _ => True) vl l))
              case first =>
                go_wp2
                go_meet
                case rel => exact ⟨rfl, HP9, HE⟩
              case rest =>
                obtain ⟨rfl, HQ, HE9⟩ := hcut
                clear HP8 HP9 HE c20 c21 c30 c31 c60 c61 f2 f3 f6 HC1 HY1
                obtain ⟨⟨c20, c21⟩, ⟨c30, c31⟩, ⟨c60, c61⟩, f2, f3, f6⟩ := HQ.out.cells
                cases b8 with
                | true =>
                  have HB8 : Aside0 (E8 ≠ 0) := ⟨HBN.out rfl⟩
                  clear HBN
                  go_wp2
                  go_region
                  all_goals go_wp2
                  all_goals
                    refine bodyPost_ret (results_list (rs := [.cell 2 28, .cell 3 31]) rfl (by simp) (.cell _ 28 _ (0, 0) _ rfl (blk_drew (PB.ret2 HQ.out _ _ _ _)) Tryz.underlying28 rfl (by kernel_rfl) (.cell _ 31 _ (0, 0) _ rfl (blk_drew (PB.ret3 HQ.out _ _ _ _)) Tryz.underlying31 rfl (by kernel_rfl) .nil))) rfl ?_
                    exact ⟨ParseRes.bad _ _ _ _ _ _ _ HB8.out, (PB.retB HQ.out _ _ _ _).drew⟩
                | false =>
                  obtain ⟨hEO, hlm, hsz, hen, hdl, hrl⟩ := HE9.out rfl
                  obtain ⟨Al, cl, hvl⟩ := Kd.R_slice hrl
                  subst hvl
                  have hll : l.length ≤ 100000 := by omega
                  have hnb := EntOk.bound hEO
                  have hnx0 : 0 ≤ nx := hnb.1
                  have hnx1 : nx ≤ 999900000 := by omega
                  have HEO := Aside0.mk hEO
                  have HSZ := Aside0.mk hsz
                  have HRL := Aside0.mk hrl
                  have HEN := Aside0.mk hen
                  have HDL := Aside0.mk hdl
                  clear HE9 hEO hsz hrl hnb hen hdl
                  go_wp2
                  go_loopg [8, 9] l.length (fun kq v8 v9 w' => ∃ (i s u : Int), v8 = .int .i64 u ∧ v9 = .int .i64 i ∧ 0 ≤ i ∧ 0 ≤ s ∧ Aside0 (u = r2 + s) ∧ Aside0 (i.toNat + kq = l.length) ∧ Aside0 (EntOk s (l.drop i.toNat) nx) ∧ wc = w')
                  case atStart => exact ⟨0, 0, r2, rfl, rfl, by omega, by omega, ⟨by omega⟩, ⟨by simp⟩, ⟨by simpa using HEO.out⟩, rfl⟩
                  case round =>
                    obtain ⟨i, s, u, rfl, rfl, i0, s0, hu, ikq, hEs, rfl⟩ := hrel
                    have hsb := EntOk.bound hEs.out
                    have hu0 : -1 ≤ u := by have := hu.out; omega
                    have hu1 : u ≤ 1000000000 := by have := hu.out; omega
                    clear hsb
                    by_cases hi : i < l.length
                    · have hib : decide (i < (l.length : Int)) = true := decide_eq_true hi
                      obtain ⟨hn1, hn2, hn3⟩ := hEs.out.next (by omega)
                      obtain ⟨ad, e, m0, mm1, m2⟩ := at_T46 ((Kd.R_reads' HRL.out).2.2) i i0 hi
                      subst e
                      obtain ⟨p1, hp1⟩ : ∃ p1, (rd_T46 l i).f1 = p1 := ⟨_, rfl⟩
                      rw [hp1] at mm1
                      rw [show (l.getD i.toNat z46).f1 = p1 from hp1] at hn1 hn2 hn3
                      have HN1 := Aside0.mk hn1
                      clear hn1 hp1 m0 m2
                      cases gk with
                      | zero => exact absurd ikq.out (by omega)
                      | succ k1 =>
                        go_wp2
                        go_roundg k1
                        case measure => omega
                        case rel => exact ⟨i + 1, s + p1, u + p1, rfl, rfl, by omega, by omega, ⟨by have := hu.out; omega⟩, ⟨by have := ikq.out; omega⟩, ⟨by rw [show (i + 1).toNat = i.toNat + 1 by omega]; exact HN1.out⟩, rfl⟩
                    · have hib : decide (i < (l.length : Int)) = false := decide_eq_false hi
                      have hsx : s = nx := by
                        have := hEs.out
                        rw [List.drop_eq_nil_of_le (by omega)] at this
                        exact this
                      have hux : u = r2 + nx := by rw [hu.out, hsx]
                      by_cases hend : u = xs.length - 1
                      · have hbe : (u != (xs.length : Int) - 1) = false := by rw [hend]; simp
                        have HNX : Aside0 (r2 + nx = xs.length - 1) := ⟨by omega⟩
                        clear hend hux hsx
                        have HX2 := Aside0.mk (Kd.C_below HI.out HQ.out.below)
                        obtain ⟨tgs, htgs⟩ : ∃ s, strOfNums (xs.take 24) = s := ⟨_, rfl⟩
                        have h24c : 24 ≤ c := by have := HIC.out; omega
                        have hcv : (convert 22 9 (.slice (some ab) 24 c)).run Tryz.prog wc = .ok (.string tgs) wc := by
                          rw [← htgs]
                          have := Kd.C_take HX2.out (m := 24) (by omega)
                          rw [show (xs.take 24).length = 24 by rw [List.length_take]; omega] at this
                          exact Kd.C_string Tryz.underlying22 Tryz.underlying5 Tryz.underlying9 this
                        have HPF := Aside0.mk (PF.start HQ.out HRL.out tgs)
                        obtain ⟨g10, hg10⟩ : ∃ g, wc.heap.size = g := ⟨_, rfl⟩
                        have HTG := Aside0.mk htgs
                        clear htgs
                        go_wp2
                        rw [hg10] at HPF
                        clear hg10
                        go_loopg [11] l.length (fun kq v11 w' => ∃ (i : Int) (vf : Value) (rows : List (List Value)), v11 = .int .i64 i ∧ 0 ≤ i ∧ Aside0 (i.toNat + kq = l.length) ∧ Aside0 (rows.length ≤ i.toNat) ∧ Aside0 (PF w w' w.heap.size (w.heap.size + 1) g6 g10 E8 a8 tgs vf rows (.slice Al l.length cl) l) ∧ Aside0 (∀ j : Nat, (j : Int) < i → RecAt xs r2 (l.getD j z46)))
                        case atStart => exact ⟨0, _, [], rfl, by omega, ⟨by simp⟩, ⟨by simp⟩, HPF, ⟨fun j hj => absurd hj (by omega)⟩⟩
                        case round =>
                          clear HPF hcv c20 c21 c30 c31 c60 c61 f2 f3 f6
                          obtain ⟨i, vf, rows, rfl, i0, ikq, hrw, PFh, HEA⟩ := hrel
                          obtain ⟨Af, cf, hvf⟩ := Kd.R_slice PFh.out.rf
                          subst hvf
                          obtain ⟨⟨c20, c21⟩, ⟨c30, c31⟩, ⟨c60, c61⟩, f2, f3, f6⟩ := PFh.out.pb.cells
                          have c100 : wr.cell? ⟨g10, 0, none⟩ = some (.string tgs) := by rw [blk_cell PFh.out.b10]; rfl
                          have c101 : wr.cell? ⟨g10, 1, none⟩ = some (.slice Af rows.length cf) := by rw [blk_cell PFh.out.b10]; rfl
                          have f10 : ∀ i, wr.frozen? ⟨g10, i, none⟩ = false := fun i => blk_frozen PFh.out.b10 i
                          by_cases hi : i < l.length
                          · have hib : decide (i < (l.length : Int)) = true := decide_eq_true hi
                            have hat := HEO.out.at i.toNat (by omega)
                            obtain ⟨ad, e, m0, mm1, m2⟩ := at_T46 ((Kd.R_reads' PFh.out.rl).2.2) i i0 hi
                            subst e
                            have hps := HSZ.out (rd_T46 l i) (by unfold rd_T46; rw [List.getD_eq_getElem?_getD, List.getElem?_eq_getElem (by omega)]; exact List.getElem_mem (by omega))
                            obtain ⟨⟨p0, p1, p2⟩, hpp⟩ : ∃ p, rd_T46 l i = p := ⟨_, rfl⟩
                            rw [hpp] at m0 mm1 m2 hps
                            rw [show l.getD i.toNat z46 = ⟨p0, p1, p2⟩ from hpp] at hat
                            simp only at m0 mm1 m2 hps hat
                            obtain ⟨ha1, ha2, ha3, ha4⟩ := hat
                            have HPPA : Aside0 (l.getD i.toNat z46 = ⟨p0, p1, p2⟩) := ⟨hpp⟩
                            clear hpp
                            go_upto_region 22 with (fail)
                            go_cut [12] (fun v12 wd => ∃ fr : Int, v12 = .int .i64 fr ∧ Aside0 (fr = r2 + p2) ∧ wr = wd)
                            case first =>
                              go_wp2
                              go_meet
                              case rel => exact ⟨_, rfl, ⟨rfl⟩, rfl⟩
                            case rest =>
                              obtain ⟨fr, rfl, hfr, rfl⟩ := hcut
                              have hfr0 : 0 ≤ fr := by have := hfr.out; omega
                              have hfr1 : fr ≤ 100000 := by have := hfr.out; have := HNX.out; omega
                              go_upto_region 23 with (fail)
                              go_cut [13] (fun v13 wd => ∃ tt : Int, v13 = .int .i64 tt ∧ Aside0 (tt = fr + p1 - 1) ∧ wr = wd)
                              case first =>
                                go_wp2
                                go_meet
                                case rel => exact ⟨_, rfl, ⟨rfl⟩, rfl⟩
                              case rest =>
                                obtain ⟨tt, rfl, htt, rfl⟩ := hcut
                                have ht0 : fr ≤ tt := by have := htt.out; omega
                                have ht1 : tt < xs.length := by have := htt.out; have := hfr.out; have := HNX.out; omega
                                have HXR := Aside0.mk (Kd.C_below HI.out PFh.out.pb.below)
                                obtain ⟨ab2, e, hcb⟩ := Kd.at_int HXR.out tt (by omega) ht1
                                cases e
                                obtain ⟨ct, hct⟩ : ∃ ct, rd xs tt = ct := ⟨_, rfl⟩
                                rw [hct] at hcb
                                obtain ⟨b30, hb30⟩ : ∃ b, (ct != 30) = b := ⟨_, rfl⟩
                                have ht00 : 0 ≤ tt := by omega
                                have HCT := Aside0.mk hct
                                clear hct mm1 m2
                                cases b30 with
                                | true =>
                                  go_wp2
                                  refine bodyPost_ret (results_list (rs := [.cell 2 28, .cell 3 31]) rfl (by simp) (.cell _ 28 _ (0, 0) _ rfl (PB.ret2 PFh.out.pb _ _ _ _) Tryz.underlying28 rfl (by kernel_rfl) (.cell _ 31 _ (0, 0) _ rfl (PB.ret3 PFh.out.pb _ _ _ _) Tryz.underlying31 rfl (by kernel_rfl) .nil))) rfl ?_
                                  exact ⟨ParseRes.bad _ _ _ _ _ _ _ (by decide), (PB.retB PFh.out.pb _ _ _ _)⟩
                                | false =>
                                  obtain ⟨A2, n2, e2, y2, hs2, hy2, he2, hd2, hC2, hyq⟩ := seg_is (some ab) c xs fr tt hfr0 ht0 (by omega) HIC.out
                                  have HC2 := Aside0.mk (hC2 _ HXR.out)
                                  have HY2 := Aside0.mk hy2
                                  have HYB : Aside0 (∀ y ∈ y2, 0 ≤ y ∧ y ≤ 255) := ⟨fun y hy => HX.out y (by rw [hyq] at hy; exact List.mem_of_mem_take (List.mem_of_mem_drop hy))⟩
                                  have hn2 : n2 ≤ 100000 := by omega
                                  have blt := World.block_lt_of_cell? wr _ m0
                                  have m0a : ∀ o, (wr.alloc o).cell? (ad.add (i.toNat * 3)) = some (.string p0) := fun o => ((below_alloc (Below.refl _ wr) o).cell blt).trans m0
                                  have m0b : ∀ o o2, ((wr.alloc o).alloc o2).cell? (ad.add (i.toNat * 3)) = some (.string p0) := fun o o2 => ((below_alloc (below_alloc (Below.refl _ wr) o) o2).cell blt).trans m0
                                  have HYQ := Aside0.mk hyq
                                  have HC30 : Aside0 (rd xs tt = 30) := ⟨by
                                    by_cases h30 : ct = 30
                                    · rw [HCT.out]; exact h30
                                    · exact absurd ((bne_iff_ne.2 h30).symm.trans hb30) (by decide)⟩
                                  clear hy2 hyq hC2 hd2
                                  go_upto_region 26 with (fail)
                                  go_cut [14, 15] (fun v14 v15 wd => ∃ (ga gb : Nat) (us : ByteArray) (uA : Option Addr) (un uc : Nat) (ui uj : Int) (uB : Option Addr) (um ud : Nat) (fe fa : Int), v14 = .pointer (some ⟨ga, 0, none⟩) ∧ v15 = .pointer (some ⟨gb, 0, none⟩) ∧ wr.heap.size ≤ ga ∧ wr.heap.size ≤ gb ∧ Aside0 (Below wr.heap.size wr wd) ∧ Aside0 (wd.heap[ga]? = some (.cells #[.string us, .slice uA un uc, .int .u8 ui, .int .u8 uj, .slice uB um ud] 50 (0, 0))) ∧ Aside0 (wd.heap[gb]? = some (.cells #[.int .i64 fe, .int .i64 fa] 31 (0, 0))) ∧ Aside0 (fe = 0 → FldOf p0 y2))
                                  case first =>
                                    go_region_law (first
                                      | (go_simp
                                         go_at_call 12
                                         refine (field_via wr _ ?_ p0 hps A2 n2 e2 y2 HY2.out hn2 HC2.out he2 HYB.out).mono ?_
                                         focus (repeat (first | exact Below.refl _ _ | (with_reducible apply below_drew) | (with_reducible apply below_alloc)))
                                         rintro e wf ⟨⟨us, uA, un, uc, ui, uj, uB, um, ud, fe, fa, rfl, hfe⟩, hbf, hbg⟩
                                         have HFE := Aside0.mk hfe
                                         clear hfe
                                         have KF := Aside0.mk hbf
                                         (first
                                           | (have GA : Aside0 (wf.heap[wr.heap.size]? = some (.cells #[.string ByteArray.empty, .slice none 0 0, .int .u8 0, .int .u8 0, .slice none 0 0] 50 (0, 0))) := ⟨blk_below (blk_drew (blk_alloc (blk_new wr _) _)) hbg⟩
                                              have GB : Aside0 (wf.heap[wr.heap.size + 1]? = some (.cells #[.int .i64 0, .int .i64 0] 31 (0, 0))) := ⟨blk_below (blk_drew (blk_new2 wr _ _)) hbg⟩
                                              obtain ⟨x0, x1, x2, x3, x4, xf⟩ := fld_cells GA.out
                                              have x0a := fun o => (fld_cells (blk_alloc GA.out o)).1
                                              have x1a := fun o => (fld_cells (blk_alloc GA.out o)).2.1
                                              have x2a := fun o => (fld_cells (blk_alloc GA.out o)).2.2.1
                                              have x3a := fun o => (fld_cells (blk_alloc GA.out o)).2.2.2.1
                                              have x4a := fun o => (fld_cells (blk_alloc GA.out o)).2.2.2.2.1
                                              have xfa := fun o => (fld_cells (blk_alloc GA.out o)).2.2.2.2.2
                                              obtain ⟨y0, y1', yf⟩ := flt_cells GB.out
                                              have y0a := fun o => (flt_cells (blk_alloc GB.out o)).1
                                              have y1a := fun o => (flt_cells (blk_alloc GB.out o)).2.1
                                              have yfa := fun o => (flt_cells (blk_alloc GB.out o)).2.2)
                                           | (have GB : Aside0 (wf.heap[wr.heap.size]? = some (.cells #[.int .i64 0, .int .i64 0] 31 (0, 0))) := ⟨blk_below (blk_drew (blk_alloc (blk_new wr _) _)) hbg⟩
                                              have GA : Aside0 (wf.heap[wr.heap.size + 1]? = some (.cells #[.string ByteArray.empty, .slice none 0 0, .int .u8 0, .int .u8 0, .slice none 0 0] 50 (0, 0))) := ⟨blk_below (blk_drew (blk_new2 wr _ _)) hbg⟩
                                              obtain ⟨x0, x1, x2, x3, x4, xf⟩ := fld_cells GA.out
                                              have x0a := fun o => (fld_cells (blk_alloc GA.out o)).1
                                              have x1a := fun o => (fld_cells (blk_alloc GA.out o)).2.1
                                              have x2a := fun o => (fld_cells (blk_alloc GA.out o)).2.2.1
                                              have x3a := fun o => (fld_cells (blk_alloc GA.out o)).2.2.2.1
                                              have x4a := fun o => (fld_cells (blk_alloc GA.out o)).2.2.2.2.1
                                              have xfa := fun o => (fld_cells (blk_alloc GA.out o)).2.2.2.2.2
                                              obtain ⟨y0, y1', yf⟩ := flt_cells GB.out
                                              have y0a := fun o => (flt_cells (blk_alloc GB.out o)).1
                                              have y1a := fun o => (flt_cells (blk_alloc GB.out o)).2.1
                                              have yfa := fun o => (flt_cells (blk_alloc GB.out o)).2.2)
                                           | (have GA : Aside0 (wf.heap[wr.heap.size]? = some (.cells #[.string ByteArray.empty, .slice none 0 0, .int .u8 0, .int .u8 0, .slice none 0 0] 50 (0, 0))) := ⟨blk_below (blk_drew (blk_new wr _)) hbg⟩
                                              obtain ⟨x0, x1, x2, x3, x4, xf⟩ := fld_cells GA.out
                                              have x0a := fun o => (fld_cells (blk_alloc GA.out o)).1
                                              have x1a := fun o => (fld_cells (blk_alloc GA.out o)).2.1
                                              have x2a := fun o => (fld_cells (blk_alloc GA.out o)).2.2.1
                                              have x3a := fun o => (fld_cells (blk_alloc GA.out o)).2.2.2.1
                                              have x4a := fun o => (fld_cells (blk_alloc GA.out o)).2.2.2.2.1
                                              have xfa := fun o => (fld_cells (blk_alloc GA.out o)).2.2.2.2.2
                                              have z1 : wr.heap.size ≠ wf.heap.size := Nat.ne_of_lt (blk_lt GA.out)
                                              have z2 := Ne.symm z1)
                                           | (have GB : Aside0 (wf.heap[wr.heap.size]? = some (.cells #[.int .i64 0, .int .i64 0] 31 (0, 0))) := ⟨blk_below (blk_drew (blk_new wr _)) hbg⟩
                                              obtain ⟨y0, y1', yf⟩ := flt_cells GB.out
                                              have y0a := fun o => (flt_cells (blk_alloc GB.out o)).1
                                              have y1a := fun o => (flt_cells (blk_alloc GB.out o)).2.1
                                              have yfa := fun o => (flt_cells (blk_alloc GB.out o)).2.2
                                              have z1 : wr.heap.size ≠ wf.heap.size := Nat.ne_of_lt (blk_lt GB.out)
                                              have z2 := Ne.symm z1)
                                           | skip)
                                         clear hbf hbg))
                                    all_goals go_wp2
                                    all_goals go_meet
                                    all_goals first
                                      | with_reducible exact ⟨wf.heap.size, wf.heap.size + 1, us, uA, un, uc, ui, uj, uB, um, ud, fe, fa, rfl, rfl, KF.out.size, Nat.le_add_right_of_le KF.out.size, ⟨below_alloc (below_alloc KF.out _) _⟩, ⟨blk_alloc (blk_new wf _) _⟩, ⟨blk_new2 wf _ _⟩, HFE⟩
                                      | with_reducible exact ⟨wf.heap.size + 1, wf.heap.size, us, uA, un, uc, ui, uj, uB, um, ud, fe, fa, rfl, rfl, Nat.le_add_right_of_le KF.out.size, KF.out.size, ⟨below_alloc (below_alloc KF.out _) _⟩, ⟨blk_new2 wf _ _⟩, ⟨blk_alloc (blk_new wf _) _⟩, HFE⟩
                                      | with_reducible exact ⟨wr.heap.size, wr.heap.size + 1, us, uA, un, uc, ui, uj, uB, um, ud, fe, fa, rfl, rfl, Nat.le_refl _, Nat.le_add_right _ 1, ⟨chB KF.out (Nat.le_refl _) (Nat.le_add_right _ 1) _ _ _ _ _ _ _⟩, ⟨ch4 GA.out GB.out _ _ _ _ _ _ _⟩, ⟨ch5 GA.out GB.out _ _ _ _ _ _ _⟩, HFE⟩
                                      | with_reducible exact ⟨wr.heap.size + 1, wr.heap.size, us, uA, un, uc, ui, uj, uB, um, ud, fe, fa, rfl, rfl, Nat.le_add_right _ 1, Nat.le_refl _, ⟨chB KF.out (Nat.le_add_right _ 1) (Nat.le_refl _) _ _ _ _ _ _ _⟩, ⟨ch4 GA.out GB.out _ _ _ _ _ _ _⟩, ⟨ch5 GA.out GB.out _ _ _ _ _ _ _⟩, HFE⟩
                                      | with_reducible exact ⟨wr.heap.size, wf.heap.size, us, uA, un, uc, ui, uj, uB, um, ud, fe, fa, rfl, rfl, Nat.le_refl _, KF.out.size, ⟨chB (below_alloc KF.out _) (Nat.le_refl _) KF.out.size _ _ _ _ _ _ _⟩, ⟨ch4 (blk_alloc GA.out _) (blk_new wf _) _ _ _ _ _ _ _⟩, ⟨ch5 (blk_alloc GA.out _) (blk_new wf _) _ _ _ _ _ _ _⟩, HFE⟩
                                      | with_reducible exact ⟨wr.heap.size, wf.heap.size, us, uA, un, uc, ui, uj, uB, um, ud, fe, fa, rfl, rfl, Nat.le_refl _, KF.out.size, ⟨p5_B KF.out (Nat.le_refl _) _ _ _ _ _ _⟩, ⟨p5_4 GA.out _ _ _ _ _ _⟩, ⟨p5_5 wf _ _ _ _ _ _ _⟩, HFE⟩
                                      | with_reducible exact ⟨wf.heap.size, wr.heap.size, us, uA, un, uc, ui, uj, uB, um, ud, fe, fa, rfl, rfl, KF.out.size, Nat.le_refl _, ⟨q2_B KF.out (Nat.le_refl _) _ _ _⟩, ⟨q2_4 (blk_lt GB.out) _ _⟩, ⟨q2_5 GB.out _ _ _⟩, HFE⟩
                                  case rest =>
                                    obtain ⟨ga, gb, us, uA, un, uc, ui, uj, uB, um, ud, fe, fa, rfl, rfl, hga, hgb, KF, GA, GB, HFE⟩ := hcut
                                    have PF2 := Aside0.mk (PFh.out.of_below KF.out)
                                    clear c20 c21 c30 c31 c60 c61 f2 f3 f6 c100 c101 f10 m0 m0a m0b blt hs2
                                    obtain ⟨⟨c20, c21⟩, ⟨c30, c31⟩, ⟨c60, c61⟩, f2, f3, f6⟩ := PF2.out.pb.cells
                                    have c100 : wc.cell? ⟨g10, 0, none⟩ = some (.string tgs) := by rw [blk_cell PF2.out.b10]; rfl
                                    have c101 : wc.cell? ⟨g10, 1, none⟩ = some (.slice Af rows.length cf) := by rw [blk_cell PF2.out.b10]; rfl
                                    have f10 : ∀ i, wc.frozen? ⟨g10, i, none⟩ = false := fun i => blk_frozen PF2.out.b10 i
                                    obtain ⟨x0, x1, x2, x3, x4, xf⟩ := fld_cells GA.out
                                    obtain ⟨y0, y1', yf⟩ := flt_cells GB.out
                                    obtain ⟨b27, hb27⟩ : ∃ b, (fe != 0) = b := ⟨_, rfl⟩
                                    cases b27 with
                                    | true =>
                                      have o1 : gb ≠ w.heap.size := by have := blk_lt PFh.out.pb.b2; omega
                                      have o2 := Ne.symm o1
                                      have o3 : gb ≠ w.heap.size + 1 := by have := blk_lt PFh.out.pb.b3; omega
                                      have o4 := Ne.symm o3
                                      go_wp2
                                      go_region
                                      all_goals go_wp2
                                      all_goals
                                        refine bodyPost_ret (results_list (rs := [.cell 2 28, .cell 3 31]) rfl (by simp) (.cell _ 28 _ (0, 0) _ rfl (blk_drew (PB.ret2 PF2.out.pb _ _ _ _)) Tryz.underlying28 rfl (by kernel_rfl) (.cell _ 31 _ (0, 0) _ rfl (blk_drew (PB.ret3 PF2.out.pb _ _ _ _)) Tryz.underlying31 rfl (by kernel_rfl) .nil))) rfl ?_
                                        exact ⟨ParseRes.bad _ _ _ _ _ _ _ (bne_iff_ne.1 hb27), (PB.retB PF2.out.pb _ _ _ _).drew⟩
                                    | false =>
                                      have HF0 : Aside0 (FldOf p0 y2) := ⟨HFE.out (by
                                        by_cases h0 : fe = 0
                                        · exact h0
                                        · exact absurd ((bne_iff_ne.2 h0).symm.trans hb27) (by decide))⟩
                                      have hrl2 : rows.length ≤ 200000 := by have := hrw.out; omega
                                      cases gk with
                                      | zero => exact absurd ikq.out (by omega)
                                      | succ k1 =>
                                        go_wp2_with (((with_reducible refine gate_builtin (b := .append) (xs := #[.tmp 161, .tmp 163]) rfl ?_); at_builtin; refine Kd.R_append (Kd.raw 5) (w0 := w) w.heap.size rfl (.tmp 161) (.tmp 163) 26 50 (.agg #[.string ByteArray.empty, .slice none 0 0, .int .u8 0, .int .u8 0, .slice none 0 0]) 72 rfl Tryz.underlying26 info50 rfl (by decide) (by omega) (.slice Af rows.length cf) rows [.string us, .slice uA un uc, .int .u8 ui, .int .u8 uj, .slice uB um ud] [.string us, .slice uA un uc, .int .u8 ui, .int .u8 uj, .slice uB um ud] (fun _ => True) (fun _ => False) rfl rfl ?zP (fun _ hk => hk.elim) (fun _ _ => trivial) ?zO ?zB ?zS ?zL ?_; (case zP => exact ⟨rfl, rfl, by simp [Value.oneCell']⟩); (case zO => exact PF2.out.rf); (case zB => exact PF2.out.pb.below); (case zS => exact PF2.out.pb.below.size); (case zL => omega); intro v7 w7 ho hb hg hat; clear hat; have PG := Aside0.mk (PF2.out.grown ho hb hg); obtain ⟨v7A, v7c, hv7⟩ := Kd.R_slice ho; rw [List.length_append, List.length_cons, List.length_nil] at hv7; subst hv7; have d101 : w7.cell? ⟨g10, 1, none⟩ = some (.slice Af rows.length cf) := (by rw [blk_cell PG.out.2.1]; rfl); have e10 := blk_frozen PG.out.2.1 1))
                                        go_roundg k1
                                        case measure => omega
                                        case rel => exact ⟨i + 1, _, _, rfl, by omega, ⟨by have := ikq.out; omega⟩, ⟨by have := hrw.out; show (rows ++ [[Value.string us, Value.slice uA un uc, Value.int .u8 ui, Value.int .u8 uj, Value.slice uB um ud]]).length ≤ _; rw [List.length_append, List.length_cons, List.length_nil]; omega⟩, ⟨PG.out.2.2⟩, ⟨fun j hj => by
                                          by_cases hji : (j : Int) < i
                                          · exact HEA.out j hji
                                          · have e : j = i.toNat := by omega
                                            rw [e]
                                            exact RecAt.of HPPA.out hfr.out htt.out HC30.out HYQ.out HF0.out⟩⟩
                          · have hib : decide (i < (l.length : Int)) = false := decide_eq_false hi
                            have n5 := PFh.out.n2
                            have n6 := Ne.symm n5
                            have n7 := blk_ne PFh.out.pb.b3 PFh.out.b10 (by decide)
                            have n8 := Ne.symm n7
                            go_wp2
                            refine bodyPost_ret (results_list (rs := [.cell 2 28, .cell 3 31]) rfl (by simp) (.cell _ 28 _ (0, 0) _ rfl (PB.ret2 PFh.out.pb _ _ _ _) Tryz.underlying28 rfl (by kernel_rfl) (.cell _ 31 _ (0, 0) _ rfl (PB.ret3 PFh.out.pb _ _ _ _) Tryz.underlying31 rfl (by kernel_rfl) .nil))) rfl ?_
                            exact ⟨ParseRes.good HTG.out.symm ⟨h24, HLEAD.out, hlen, HDG.out, HRA.out, HR2A.out, hb25, hblt, HB12.out, HB30.out, HL29.out, by rw [← HY1Q.out]; exact HEN.out, by rw [← HY1Q.out]; exact HDL.out, HEO.out, by have := HNX.out; omega, fun j hj => HEA.out j (by omega)⟩ _ _ _ _ _, (PB.retB PFh.out.pb _ _ _ _)⟩
                      · have hbe : (u != (xs.length : Int) - 1) = true := by rw [bne_iff_ne]; exact hend
                        clear hend hux hsx
                        go_wp2
                        refine bodyPost_ret (results_list (rs := [.cell 2 28, .cell 3 31]) rfl (by simp) (.cell _ 28 _ (0, 0) _ rfl (PB.ret2 HQ.out _ _ _ _) Tryz.underlying28 rfl (by kernel_rfl) (.cell _ 31 _ (0, 0) _ rfl (PB.ret3 HQ.out _ _ _ _) Tryz.underlying31 rfl (by kernel_rfl) .nil))) rfl ?_
                        exact ⟨ParseRes.bad _ _ _ _ _ _ _ (by decide), (PB.retB HQ.out _ _ _ _)⟩
end Go.Proofs.YtkhnnbfgjfkfeaaGreatDoor
