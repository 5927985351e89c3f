/- record.one is walked. Conditions: those that each theorem states. -/
import Derived.Test.YtkhnnbfgjfkfeaaGreatDoorKRof
import Derived.Test.YtkhnnbfgjfkfeaaGreatDoorKRhd
import Derived.Deep.QuietTactic
import Derived.BigQuiet
namespace Go.Proofs.YtkhnnbfgjfkfeaaGreatDoor
open Go.RowKit Go.Proofs.YtkhnnbfgjfkfeaaGreatDoorW.PrintWords Go.Proofs.YtkhnnbfgjfkfeaaGreatDoorW.PrintLast Go.Proofs.YtkhnnbfgjfkfeaaGreatDoorW.PrintMore Go.Proofs.YtkhnnbfgjfkfeaaGreatDoor.PCod
set_option linter.unusedVariables false
set_option linter.unusedSimpArgs false
theorem pre_below {W X w9 : World} (h : Below W.heap.size W X) (hb : Below X.heap.size X w9) : Below W.heap.size W w9 := below_then h h.size hb
theorem two_pre {W X w9 : World} {o1 o2 : Obj} (hb : Below X.heap.size X w9) (hX : X.heap = ((W.alloc o1).alloc o2).heap) : w9.heap[W.heap.size]? = some o1 ∧ w9.heap[W.heap.size + 1]? = some o2 := by
  refine ⟨blk_below (by rw [hX]; exact blk_alloc (blk_new W o1) o2) hb, blk_below (by rw [hX]; have := blk_new (W.alloc o1) o2; rwa [FB.alloc_size] at this) hb⟩
theorem one_pre {W X w9 : World} {o1 : Obj} (hb : Below X.heap.size X w9) (hX : X.heap = (W.alloc o1).heap) : w9.heap[W.heap.size]? = some o1 := blk_below (by rw [hX]; exact blk_new W o1) hb
/-- behind the call of field.Parse: a field and a fault, in blocks of their own -/
def Cut4 (W1 wc : World) (v10 v11 : Value) : Prop := ∃ (ga gb : Nat) (s : ByteArray) (F1 : Option Addr) (m1 d1 : Nat) (i0 i1 : Int) (F4 : Option Addr) (m4 d4 : Nat), v10 = .pointer (some ⟨ga, 0, none⟩) ∧ v11 = .pointer (some ⟨gb, 0, none⟩) ∧ Below W1.heap.size W1 wc ∧ wc.heap[ga]? = some (.cells #[.string s, .slice F1 m1 d1, .int .u8 i0, .int .u8 i1, .slice F4 m4 d4] 50 (0, 0)) ∧ wc.heap[gb]? = some (.cells #[.int .i64 0, .int .i64 0] 31 (0, 0))
theorem Cut4.mk {W1 wc : World} {ga gb : Nat} {s : ByteArray} {F1 : Option Addr} {m1 d1 : Nat} {i0 i1 : Int} {F4 : Option Addr} {m4 d4 : Nat} (h : Below W1.heap.size W1 wc) (ha : wc.heap[ga]? = some (.cells #[.string s, .slice F1 m1 d1, .int .u8 i0, .int .u8 i1, .slice F4 m4 d4] 50 (0, 0))) (hb : wc.heap[gb]? = some (.cells #[.int .i64 0, .int .i64 0] 31 (0, 0))) : Cut4 W1 wc (.pointer (some ⟨ga, 0, none⟩)) (.pointer (some ⟨gb, 0, none⟩)) := ⟨ga, gb, s, F1, m1, d1, i0, i1, F4, m4, d4, rfl, rfl, h, ha, hb⟩
theorem new1 (w : World) (o o' : Obj) : ((w.alloc o).alloc o').heap[w.heap.size + 1]? = some o' := by
  have := blk_new (w.alloc o) o'
  rwa [FB.alloc_size] at this
theorem set_size (w : World) (p : Addr) (v : Value) : (w.setCell p v).heap.size = w.heap.size := by simp [World.setCell]
theorem new5 (w : World) (g : Nat) (v0 v1 v2 v3 v4 : Value) (o : Obj) : ((((((w.setCell ⟨g, 0, none⟩ v0).setCell ⟨g, 1, none⟩ v1).setCell ⟨g, 2, none⟩ v2).setCell ⟨g, 3, none⟩ v3).setCell ⟨g, 4, none⟩ v4).alloc o).heap[w.heap.size]? = some o := by
  have := blk_new (((((w.setCell ⟨g, 0, none⟩ v0).setCell ⟨g, 1, none⟩ v1).setCell ⟨g, 2, none⟩ v2).setCell ⟨g, 3, none⟩ v3).setCell ⟨g, 4, none⟩ v4) o
  rwa [set_size, set_size, set_size, set_size, set_size] at this
theorem new2 (w : World) (g : Nat) (v0 v1 : Value) (o : Obj) : (((w.setCell ⟨g, 0, none⟩ v0).setCell ⟨g, 1, none⟩ v1).alloc o).heap[w.heap.size]? = some o := by
  have := blk_new ((w.setCell ⟨g, 0, none⟩ v0).setCell ⟨g, 1, none⟩ v1) o
  rwa [set_size, set_size] at this
theorem set5 {W : World} {g t : Nat} {a0 a1 a2 a3 a4 : Value} (h : W.heap[g]? = some (.cells #[a0, a1, a2, a3, a4] t (0, 0))) (v0 v1 v2 v3 v4 : Value) : (((((W.setCell ⟨g, 0, none⟩ v0).setCell ⟨g, 1, none⟩ v1).setCell ⟨g, 2, none⟩ v2).setCell ⟨g, 3, none⟩ v3).setCell ⟨g, 4, none⟩ v4).heap[g]? = some (.cells #[v0, v1, v2, v3, v4] t (0, 0)) :=
  blk_put (blk_put (blk_put (blk_put (blk_put h 0 v0 rfl) 1 v1 rfl) 2 v2 rfl) 3 v3 rfl) 4 v4 rfl
theorem set2 {W : World} {g t : Nat} {a0 a1 : Value} (h : W.heap[g]? = some (.cells #[a0, a1] t (0, 0))) (v0 v1 : Value) : ((W.setCell ⟨g, 0, none⟩ v0).setCell ⟨g, 1, none⟩ v1).heap[g]? = some (.cells #[v0, v1] t (0, 0)) := blk_put (blk_put h 0 v0 rfl) 1 v1 rfl
theorem set5B {w W : World} {g : Nat} (hb : Below w.heap.size w W) (hg : w.heap.size ≤ g) (v0 v1 v2 v3 v4 : Value) : Below w.heap.size w (((((W.setCell ⟨g, 0, none⟩ v0).setCell ⟨g, 1, none⟩ v1).setCell ⟨g, 2, none⟩ v2).setCell ⟨g, 3, none⟩ v3).setCell ⟨g, 4, none⟩ v4) :=
  Below.setCell (Below.setCell (Below.setCell (Below.setCell (Below.setCell hb hg _) hg _) hg _) hg _) hg _
theorem set2B {w W : World} {g : Nat} (hb : Below w.heap.size w W) (hg : w.heap.size ≤ g) (v0 v1 : Value) : Below w.heap.size w ((W.setCell ⟨g, 0, none⟩ v0).setCell ⟨g, 1, none⟩ v1) := Below.setCell (Below.setCell hb hg _) hg _
set_option maxHeartbeats 4000000 in
set_option maxRecDepth 100000 in
theorem rone_calls (w : World) (A : Option Addr) (c : Nat) (xs : List Int) (h : (Kd.int .u8).C w A xs.length xs) (hc : xs.length ≤ c) (hl : xs.length ≤ 100000) (base : Int) (t : ByteArray) (f1 f2 : Int) (hb : 25 ≤ base) (h1 : 1 ≤ f1) (h2 : f1 ≤ 9999) (h3 : 0 ≤ f2) (hle : base + f2 + f1 ≤ xs.length) (hst : rd xs (base + f2 + f1 - 1) = 30)
    (hf : ∀ (W : World) (A' : Option Addr) (c' : Nat) (ys : List Int), (Kd.int .u8).C W A' ys.length ys → ys.length ≤ c' → ys = (xs.take (base + f2 + f1 - 1).toNat).drop (base + f2).toNat → Calls Tryz.prog 109 #[.string t, .slice A' ys.length c'] W fun e w' => FieldV e ∧ Below W.heap.size W w') :
    Calls Tryz.prog 63 #[.slice A xs.length c, .int .i64 base, .agg #[.string t, .int .i64 f1, .int .i64 f2]] w fun e w' => FieldV e ∧ Below w.heap.size w w' := by
  have HI := Aside0.mk h
  have HC := Aside0.mk hc
  have HF := Aside0.mk hf
  obtain ⟨W0, hW0⟩ : ∃ W, ((w.alloc (.cells #[.string t, .int .i64 f1, .int .i64 f2] 46)).alloc (.cells #[.string ⟨#[]⟩, .slice none 0 0, .int .u8 0, .int .u8 0, .slice none 0 0] 50)).alloc (.cells #[.int .i64 0, .int .i64 0] 31) = W := ⟨_, rfl⟩
  have B5 : Aside0 (W0.heap[w.heap.size]? = some (.cells #[.string t, .int .i64 f1, .int .i64 f2] 46 (0, 0))) := ⟨by rw [← hW0]; exact blk_alloc (blk_alloc (blk_new _ _) _) _⟩
  have B6 : Aside0 (W0.heap[w.heap.size + 1]? = some (.cells #[.string ⟨#[]⟩, .slice none 0 0, .int .u8 0, .int .u8 0, .slice none 0 0] 50 (0, 0))) := ⟨by rw [← hW0]; refine blk_alloc ?_ _; have := blk_new (w.alloc (.cells #[.string t, .int .i64 f1, .int .i64 f2] 46)) (.cells #[.string ⟨#[]⟩, .slice none 0 0, .int .u8 0, .int .u8 0, .slice none 0 0] 50); rwa [FB.alloc_size] at this⟩
  have B7 : Aside0 (W0.heap[w.heap.size + 1 + 1]? = some (.cells #[.int .i64 0, .int .i64 0] 31 (0, 0))) := ⟨by rw [← hW0]; have := blk_new ((w.alloc (.cells #[.string t, .int .i64 f1, .int .i64 f2] 46)).alloc (.cells #[.string ⟨#[]⟩, .slice none 0 0, .int .u8 0, .int .u8 0, .slice none 0 0] 50)) (.cells #[.int .i64 0, .int .i64 0] 31); rwa [FB.alloc_size, FB.alloc_size] at this⟩
  have BW : Aside0 (Below w.heap.size w W0) := ⟨by rw [← hW0]; exact below_alloc (below_alloc (below_alloc (Below.refl _ _) _) _) _⟩
  have HW0 := Aside0.mk hW0
  obtain ⟨ad, rfl, _⟩ := at0 h (by omega)
  obtain ⟨A1, n1, e1, y1, hs1, hn1, he1, hd1, hC1, hq1⟩ := seg_is (some ad) c xs (base + f2) (base + f2 + f1 - 1) (by omega) (by omega) (by omega) hc
  subst hn1
  have q1 : IntKind.i64.wrap (base + f2) = base + f2 := (i64_w _).trans (by unfold wrap64; omega)
  have q2 : IntKind.i64.wrap (base + f2 + f1) = base + f2 + f1 := (i64_w _).trans (by unfold wrap64; omega)
  have q3 : IntKind.i64.wrap (base + f2 + f1 - 1) = base + f2 + f1 - 1 := (i64_w _).trans (by unfold wrap64; omega)
  have HST := Aside0.mk hst
  have HG := Aside0.mk (fun W (hW : Below w.heap.size w W) => hf W A1 e1 y1 (hC1 _ (Kd.C_below h hW)) he1 hq1)
  have hi0 : 0 ≤ base + f2 + f1 - 1 := by omega
  have hi1 : base + f2 + f1 - 1 < (xs.length : Int) := by omega
  clear h hc hf hW0 hst hC1 hq1 hd1
  obtain ⟨b50, b51, b52, g5⟩ := cells3 B5.out
  go_enter Tryz.func63, Tryz.ntmps63
  go_wp2
  rw [HW0.out]
  go_quiet (fail)
  have D5 := Aside0.mk (blk_drewN B5.out nq)
  have D6 := Aside0.mk (blk_drewN B6.out nq)
  have D7 := Aside0.mk (blk_drewN B7.out nq)
  have DW := Aside0.mk (pw_below_drewN BW.out nq)
  clear b50 b51 b52 g5 q1 q2 q3 HW0
  generalize W0.drewN nq = W1 at D5 D6 D7 DW ⊢
  clear B5 B6 B7 BW
  have hcb : W1.cell? (ad.add ((base + f2 + f1).toNat - 1)) = some (.int .u8 30) := by
    obtain ⟨ad', e, hcb⟩ := Kd.at_int (Kd.C_below HI.out DW.out) (base + f2 + f1 - 1) hi0 hi1
    obtain rfl := Option.some.inj e
    rw [HST.out, show (base + f2 + f1 - 1).toNat = (base + f2 + f1).toNat - 1 by omega] at hcb
    exact hcb
  obtain ⟨b50, b51, b52, g5⟩ := cells3 D5.out
  go_wp2
  clear hcb
  have HG1 : Aside0 (∀ W, Below W1.heap.size W1 W → Calls Tryz.prog 109 #[.string t, .slice A1 y1.length e1] W fun e w' => FieldV e ∧ Below W.heap.size W w') := ⟨fun W hW => HG.out W (below_then DW.out DW.out.size hW)⟩
  go_upto_region 4 with (fail)
  have hz := blk_lt D5.out
  go_cut [10, 11] (fun v10 v11 wc => Cut4 W1 wc v10 v11)
  case first =>
    go_region_law (go_simp
                   go_at_call_of 109 (Value.string t)
                   refine (HG1.out _ ?_).mono ?_
                   focus (repeat (first | exact Below.refl _ _ | (with_reducible apply below_drew) | (with_reducible apply below_alloc)))
                   rintro e w9 ⟨⟨s, F1, m1, d1, i0, i1, F4, m4, d4, rfl⟩, hb9⟩
                   have K9 : Aside0 (Below W1.heap.size W1 w9) := ⟨pre_below (by focus (repeat (first | exact Below.refl _ _ | (with_reducible apply below_drew) | (with_reducible apply below_alloc)))) hb9⟩
                   (first
                     | (have E2 := Aside0.mk (two_pre (W := W1) (o1 := .cells #[.string ByteArray.empty, .slice none 0 0, .int .u8 0, .int .u8 0, .slice none 0 0] 50) (o2 := .cells #[.int .i64 0, .int .i64 0] 31) hb9 rfl)
                        obtain ⟨x0, x1, x2, x3, x4, x5⟩ := cells5 E2.out.1
                        obtain ⟨y0, y1, y2⟩ := cells2 E2.out.2)
                     | (have E3 := Aside0.mk (two_pre (W := W1) (o1 := .cells #[.int .i64 0, .int .i64 0] 31) (o2 := .cells #[.string ByteArray.empty, .slice none 0 0, .int .u8 0, .int .u8 0, .slice none 0 0] 50) hb9 rfl)
                        obtain ⟨x0, x1, x2, x3, x4, x5⟩ := cells5 E3.out.2
                        obtain ⟨y0, y1, y2⟩ := cells2 E3.out.1)
                     | (have E4 := Aside0.mk (one_pre (W := W1) (o1 := .cells #[.string ByteArray.empty, .slice none 0 0, .int .u8 0, .int .u8 0, .slice none 0 0] 50) hb9 rfl)
                        have z1 := blk_lt E4.out
                        obtain ⟨x0, x1, x2, x3, x4, x5⟩ := cells5 E4.out)
                     | (have E5 := Aside0.mk (one_pre (W := W1) (o1 := .cells #[.int .i64 0, .int .i64 0] 31) hb9 rfl)
                        have z1 := blk_lt E5.out
                        obtain ⟨y0, y1, y2⟩ := cells2 E5.out)
                     | skip)
                   clear hb9)
    all_goals go_wp2
    all_goals go_meet
    all_goals first
      | (with_reducible exact Cut4.mk (below_alloc (below_alloc K9.out _) _) (blk_alloc (blk_new _ _) _) (new1 _ _ _))
      | (with_reducible exact Cut4.mk (below_alloc (below_alloc K9.out _) _) (new1 _ _ _) (blk_alloc (blk_new _ _) _))
      | (with_reducible exact Cut4.mk (below_alloc (set5B K9.out (Nat.le_refl _) _ _ _ _ _) _) (blk_alloc (set5 E4.out _ _ _ _ _) _) (new5 _ _ _ _ _ _ _ _))
      | (with_reducible exact Cut4.mk (fin45B K9.out (Nat.le_refl _) (Nat.le_succ _) _ _ _ _ _ _ _) (fin45 E2.out.1 E2.out.2 _ _ _ _ _ _ _).1 (fin45 E2.out.1 E2.out.2 _ _ _ _ _ _ _).2)
      | (with_reducible exact Cut4.mk (below_alloc (set2B K9.out (Nat.le_refl _) _ _) _) (new2 _ _ _ _ _) (blk_alloc (set2 E5.out _ _) _))
      | (with_reducible exact Cut4.mk (fin45B K9.out (Nat.le_succ _) (Nat.le_refl _) _ _ _ _ _ _ _) (fin45 E3.out.2 E3.out.1 _ _ _ _ _ _ _).1 (fin45 E3.out.2 E3.out.1 _ _ _ _ _ _ _).2)
  case rest =>
    obtain ⟨ga, gb, s, F1, m1, d1, i0, i1, F4, m4, d4, rfl, rfl, hcb, hca, hcd⟩ := hcut
    have KA := Aside0.mk hca
    have KD := Aside0.mk hcd
    have K6 := Aside0.mk (blk_below D6.out hcb)
    have K7 := Aside0.mk (blk_below D7.out hcb)
    have KW := Aside0.mk (below_then DW.out DW.out.size hcb)
    clear hca hcd hcb
    obtain ⟨x0, x1, x2, x3, x4, x5⟩ := cells5 KA.out
    obtain ⟨y0, y1', y2⟩ := cells2 KD.out
    obtain ⟨c40, c41, c42, c43, c44, f4⟩ := cells5 K6.out
    obtain ⟨c50, c51, f5⟩ := cells2 K7.out
    go_wp2
    refine bodyPost_ret (results_list (rs := [.cell 6 50, .cell 7 31]) rfl (by simp) (.cell _ 50 _ (0, 0) _ rfl (fin45 K6.out K7.out _ _ _ _ _ _ _).1 Tryz.underlying50 rfl (by kernel_rfl) (.cell _ 31 _ (0, 0) _ rfl (fin45 K6.out K7.out _ _ _ _ _ _ _).2 Tryz.underlying31 rfl (by kernel_rfl) .nil))) rfl ?_
    exact ⟨FieldV.mk _ _ _ _ _ _ _ _ _, fin45B KW.out (Nat.le_succ _) (by omega) _ _ _ _ _ _ _⟩
end Go.Proofs.YtkhnnbfgjfkfeaaGreatDoor
