/- The cutter's walks, sixth part: New, Feed, End. -/
import Derived.Test.YtmaehbdpmdgpaaaCwe
namespace Go.Proofs.Ytmaehbdpmdgpaaa
open Go.RowKit Go.Proofs.YtmaehbdpmdgpaaaW.PrintWords Go.Proofs.YtmaehbdpmdgpaaaW.PrintLast Go.Proofs.YtmaehbdpmdgpaaaW.PrintMore Go.Proofs.Ytmaehbdpmdgpaaa.PCut
set_option linter.unusedVariables false
set_option linter.unusedSimpArgs false
/-- what Feed and End leave: the cutter, the pieces' row -/
structure Fed (w W : World) (o : Option Nat) (B g : Nat) (v : Value) (ps : List S34) (A : Option Addr) (c : Nat) (ys : List Int) (at1 : Int) (en : Bool) : Prop where
  cu : IsC W B g (.slice A ys.length c) ys at1 en
  nn : Kd.N k34 34 W w.heap.size (fun k => k ≠ g ∧ some k ≠ (Value.slice A ys.length c).ownBlock ∧ (w.heap.size ≤ k ∨ o = some k)) v ps
  kept : Kept w W (fun k => k = g ∨ o = some k)
  below : Below B w W
  fr : ∀ k, (Value.slice A ys.length c).ownBlock = some k → w.heap.size ≤ k ∨ o = some k
theorem new_calls (w : World) (B : Nat) (hB : B ≤ w.heap.size) : Calls Try.prog 9 #[] w fun e w' => ∃ g : Nat, e = .returned (.pointer (some ⟨g, 0, none⟩)) ∧ w.heap.size ≤ g ∧ IsC w' B g (.slice none ([] : List Int).length 0) [] 0 false ∧ Below w.heap.size w w' := by
  go_enter Try.func9, Try.ntmps9
  go_wp2
  go_ret
  exact ⟨w.heap.size, rfl, Nat.le_refl _, ⟨blk_new _ _, hB, Kd.R_nil _ _ _ _ _, by simp, by simp⟩, below_alloc (Below.refl _ _) _⟩
theorem nil_feed (w : World) (v : Value) : Calls Try.prog 10 #[.pointer none, v] w fun e w' => e = .returned (.slice none 0 0) ∧ w' = w := by
  go_enter Try.func10, Try.ntmps10
  go_wp2
  go_ret
  exact ⟨rfl, rfl⟩
theorem nil_end (w : World) : Calls Try.prog 11 #[.pointer none] w fun e w' => e = .returned (.slice none 0 0) ∧ w' = w := by
  go_enter Try.func11, Try.ntmps11
  go_wp2
  go_ret
  exact ⟨rfl, rfl⟩
theorem ended_feed (w : World) (v : Value) (g : Nat) (h : w.cell? ⟨g, 2, none⟩ = some (.bool true)) : Calls Try.prog 10 #[.pointer (some ⟨g, 0, none⟩), v] w fun e w' => e = .returned (.slice none 0 0) ∧ w' = w := by
  go_enter Try.func10, Try.ntmps10
  go_wp2
  go_ret
  exact ⟨rfl, rfl⟩
theorem ended_end (w : World) (g : Nat) (h : w.cell? ⟨g, 2, none⟩ = some (.bool true)) : Calls Try.prog 11 #[.pointer (some ⟨g, 0, none⟩)] w fun e w' => e = .returned (.slice none 0 0) ∧ w' = w := by
  go_enter Try.func11, Try.ntmps11
  go_wp2
  go_ret
  exact ⟨rfl, rfl⟩
theorem Fed.of {w w2 W : World} {o o2 : Option Nat} {B g s : Nat} {v : Value} {ps : List S34} {A : Option Addr} {c : Nat} {ys : List Int} {at1 : Int} {en : Bool} (S : AllS w2 W o2 B g s v ps A c ys at1 en)
    (hk : Kept w w2 (fun k => k = g ∨ o = some k)) (hb : Below B w w2) (ho : ∀ k, o2 = some k → w.heap.size ≤ k ∨ o = some k) : Fed w W o B g v ps A c ys at1 en := by
  have hsz := hk.1
  have hf : ∀ k, (w2.heap.size ≤ k ∨ o2 = some k) → (w.heap.size ≤ k ∨ o = some k) := fun k h => by
    rcases h with h | h
    · exact .inl (by omega)
    · exact ho k h
  exact ⟨S.cu, Kd.N_lower (Kd.N_mono S.nn (fun k hk => ⟨hk.1, hk.2.1, hf k hk.2.2.2⟩)) hsz, Kept.then_ hk S.kept (fun k h => .inl (.inl h)), hb.trans S.below, fun k e => hf k (S.fr k e)⟩
set_option maxHeartbeats 1600000 in
set_option maxRecDepth 100000 in
theorem end_calls (w : World) (B g : Nat) (A : Option Addr) (c : Nat) (xs : List Int) (at0 : Int) (h : IsC w B g (.slice A xs.length c) xs at0 false) (h0 : 0 ≤ at0) (h1 : at0 + xs.length ≤ 4611686018427387904) (hN : xs.length ≤ 1000000) :
    Calls Try.prog 11 #[.pointer (some ⟨g, 0, none⟩)] w fun e w' => ∃ v : Value, e = .returned v ∧ ∃ A1 c1, Fed w w' (Value.slice A xs.length c).ownBlock B g v ((allP (xs.length + 2) xs at0 true).1.map toS) A1 c1 (allP (xs.length + 2) xs at0 true).2.1 (allP (xs.length + 2) xs at0 true).2.2 true := by
  have c2 := h.cell2
  have f2 := blk_frozen h.blk 2
  have hc : IsC (w.setCell ⟨g, 2, none⟩ (.bool true)) B g (.slice A xs.length c) xs at0 true :=
    ⟨blk_set h.blk 2 (.bool true), h.ge, Kd.R_mono (Kd.R_far (p := ⟨g, 2, none⟩) (Kd.R_tight rfl h.row) (fun k hk e => by subst e; exact row_ne_g h hk.symm) (.bool true)) (fun _ _ => trivial), h.byt, h.len⟩
  have hk : Kept w (w.setCell ⟨g, 2, none⟩ (.bool true)) (fun k => k = g ∨ (Value.slice A xs.length c).ownBlock = some k) := Kept.setCell (p := ⟨g, 2, none⟩) (Kept.of_below (Below.refl _ _) _) (.inl (.inl rfl)) (.bool true)
  have hb : Below B w (w.setCell ⟨g, 2, none⟩ (.bool true)) := Below.setCell (p := ⟨g, 2, none⟩) (Below.refl _ _) h.ge (.bool true)
  have HC := Aside0.mk hc
  have HK := Aside0.mk hk
  have HB := Aside0.mk hb
  clear hc hk hb h
  go_enter Try.func11, Try.ntmps11
  go_wp2_with fail
  refine (all_calls _ B g A c xs at0 true HC.out h0 h1 hN).mono ?_
  rintro e w1 ⟨v, rfl, A1, c1, s, S⟩
  have RS := Aside0.mk (Fed.of S HK.out HB.out (fun k e => .inr e))
  clear S
  go_wp2
  go_ret
  exact ⟨_, rfl, A1, c1, RS.out⟩
theorem fed_g {w w1 : World} {B g : Nat} {v : Value} {xs : List Int} {at0 : Int} {en : Bool} (h : IsC w B g v xs at0 en) (hg : w.grownBy w1 v.ownBlock) : w1.heap[g]? = some (.cells #[v, .int .i64 at0, .bool en] 50 (0, 0)) :=
  (hg.block g (blk_lt h.blk) (fun e => row_ne_g h e.symm)).trans h.blk
theorem fed_world {w w1 : World} {B g : Nat} {v v1 : Value} {xs ys : List Int} {at0 : Int} {en : Bool} (h : IsC w B g v xs at0 en) (hyb : ∀ x ∈ ys, 0 ≤ x ∧ x ≤ 255) (hl : (xs ++ ys).length ≤ 140737488355328)
    (ho : (Kd.int .u8).R 5 w1 B (fun _ => True) v1 (xs ++ ys)) (hg : w.grownBy w1 v.ownBlock) : IsC (w1.setCell ⟨g, 0, none⟩ v1) B g v1 (xs ++ ys) at0 en := by
  have z0 := fed_g h hg
  refine ⟨blk_set z0 0 v1, h.ge, Kd.R_mono (Kd.R_far (p := ⟨g, 0, none⟩) (Kd.R_tight rfl ho) (fun k hk e => ?_) v1) (fun _ _ => trivial), fun x hx => ?_, hl⟩
  · subst e
    obtain ⟨cells, hc⟩ := Kd.R_typed ho _ hk.symm
    rw [z0] at hc
    injection hc with hc
    injection hc with _ ht
    exact absurd ht (by decide)
  · rcases List.mem_append.1 hx with hx | hx
    · exact h.byt x hx
    · exact hyb x hx
theorem fed_kept {w w1 : World} {B g : Nat} {v : Value} {xs : List Int} {at0 : Int} {en : Bool} (h : IsC w B g v xs at0 en) (hg : w.grownBy w1 v.ownBlock) (v1 : Value) : Kept w (w1.setCell ⟨g, 0, none⟩ v1) (fun k => k = g ∨ v.ownBlock = some k) :=
  Kept.setCell (p := ⟨g, 0, none⟩) ⟨hg.size, fun k hk hs => hg.block k hk (fun e => hs (.inr e.symm))⟩ (.inl (.inl rfl)) v1
theorem fed_below {w w1 : World} {B g : Nat} {v : Value} {xs : List Int} {at0 : Int} {en : Bool} (h : IsC w B g v xs at0 en) (hb : Below B w w1) (v1 : Value) : Below B w (w1.setCell ⟨g, 0, none⟩ v1) := Below.setCell (p := ⟨g, 0, none⟩) hb h.ge v1
theorem fed_fr {w : World} {v v1 : Value} (h : v1.ownBlock = v.ownBlock ∨ ∃ b, v1.ownBlock = some b ∧ w.heap.size ≤ b) : ∀ k, v1.ownBlock = some k → w.heap.size ≤ k ∨ v.ownBlock = some k := by
  intro k hk
  rcases h with h | ⟨b, h, hb⟩
  · exact .inr (h.symm.trans hk)
  · rw [h] at hk; injection hk with hk; subst hk; exact .inl hb
set_option maxHeartbeats 1600000 in
set_option maxRecDepth 100000 in
theorem feed_calls (w : World) (B g : Nat) (A : Option Addr) (c : Nat) (xs : List Int) (at0 : Int) (h : IsC w B g (.slice A xs.length c) xs at0 false) (hB : B ≤ w.heap.size) (A2 : Option Addr) (c2 : Nat) (ys : List Int) (hy : (Kd.int .u8).C w A2 ys.length ys) (hyc : ys.length ≤ c2) (hyb : ∀ x ∈ ys, 0 ≤ x ∧ x ≤ 255)
    (h0 : 0 ≤ at0) (h1 : at0 + (xs ++ ys).length ≤ 4611686018427387904) (hN : (xs ++ ys).length ≤ 1000000) :
    Calls Try.prog 10 #[.pointer (some ⟨g, 0, none⟩), .slice A2 ys.length c2] w fun e w' => ∃ v : Value, e = .returned v ∧ ∃ A1 c1, Fed w w' (Value.slice A xs.length c).ownBlock B g v ((allP ((xs ++ ys).length + 2) (xs ++ ys) at0 false).1.map toS) A1 c1 (allP ((xs ++ ys).length + 2) (xs ++ ys) at0 false).2.1 (allP ((xs ++ ys).length + 2) (xs ++ ys) at0 false).2.2 false := by
  have k0 := h.cell0
  have k2 := h.cell2
  have HH := Aside0.mk h
  have HY := Aside0.mk hy
  have HYB := Aside0.mk hyb
  have HN := Aside0.mk hN
  have H1 := Aside0.mk h1
  clear h hy hyb hN h1
  go_enter Try.func10, Try.ntmps10
  go_wp2_with (((with_reducible refine gate_builtin (b := .append) (xs := #[.tmp 17, .tmp 18]) rfl ?_); at_builtin; refine Kd.R_append_rows (Kd.int .u8) (w0 := w) B rfl (.tmp 17) (.tmp 18) 22 5 (.int .u8 0) 1 rfl Try.underlying22 info5 rfl (by decide) (by omega) (.slice A xs.length c) xs ys _ _ _ (fun _ => True) (fun _ => False) rfl rfl ?aO ?aR (fun _ _ h => h) (fun _ h => h.elim) ?aF ?aB ?aS ?aL ?_; (case aO => exact HH.out.row); (case aR => exact HY.out); (case aF => exact fun _ _ => trivial); (case aB => exact Below.refl _ _); (case aS => exact hB); (case aL => have := HN.out; simp at this ⊢; omega); intro v1 w1 ho hb hg hat; have HO := Aside0.mk ho; have HB := Aside0.mk hb; have HG := Aside0.mk hg; have HA := Aside0.mk hat; obtain ⟨v1A, v1c, hv1⟩ := Kd.R_slice ho; subst hv1; have z0 := fed_g HH.out hg; have zc : w1.cell? ⟨g, 0, none⟩ = some (.slice A xs.length c) := (by rw [blk_cell z0]; rfl); have zf := blk_frozen z0 0; clear z0 ho hb hg hat))
  have hla : (xs ++ ys).length = xs.length + ys.length := List.length_append
  rw [← hla]
  clear hla
  refine (all_calls _ B g v1A v1c (xs ++ ys) at0 false (fed_world HH.out HYB.out (by have := HN.out; omega) HO.out HG.out) h0 H1.out HN.out).mono ?_
  rintro e w2 ⟨v, rfl, A1, c1, s, S⟩
  have RS := Aside0.mk (Fed.of S (fed_kept HH.out HG.out _) (fed_below HH.out HB.out _) (fun k e => fed_fr HA.out k e))
  clear S
  go_wp2
  go_ret
  exact ⟨_, rfl, A1, c1, RS.out⟩
end Go.Proofs.Ytmaehbdpmdgpaaa
