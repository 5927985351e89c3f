/- Appending a field or an entry is walked. Conditions: those that each theorem states. -/
import Derived.Test.YtkhnnbfgjfkfeaaGreatDoorKRgb
namespace Go.Proofs.YtkhnnbfgjfkfeaaGreatDoor
open Go.RowKit Go.Proofs.YtkhnnbfgjfkfeaaGreatDoorW.PrintWords Go.Proofs.YtkhnnbfgjfkfeaaGreatDoorW.PrintLast Go.Proofs.YtkhnnbfgjfkfeaaGreatDoorW.PrintMore Go.Proofs.YtkhnnbfgjfkfeaaGreatDoor.PCod
set_option linter.unusedVariables false
set_option linter.unusedSimpArgs false
/-- an entry's block, made before it is filled: filled -/
theorem ent_put {W : World} {g : Nat} {a b c : Value} (hb : W.heap[g]? = some (.cells #[a, b, c] 46 (0, 0))) (u v x : Value) : (((W.setCell ⟨g, 0, none⟩ u).setCell ⟨g, 1, none⟩ v).setCell ⟨g, 2, none⟩ x).heap[g]? = some (.cells #[u, v, x] 46 (0, 0)) := blk_put (blk_put (blk_put hb 0 u rfl) 1 v rfl) 2 x rfl
theorem ent_cells {W : World} {g : Nat} {a b c : Value} (hb : W.heap[g]? = some (.cells #[a, b, c] 46 (0, 0))) : W.cell? ⟨g, 0, none⟩ = some a ∧ W.cell? ⟨g, 1, none⟩ = some b ∧ W.cell? ⟨g, 2, none⟩ = some c ∧ ∀ i, W.frozen? ⟨g, i, none⟩ = false :=
  ⟨by rw [blk_cell hb]; rfl, by rw [blk_cell hb]; rfl, by rw [blk_cell hb]; rfl, fun i => blk_frozen hb i⟩
theorem ent_below {wr W : World} (h : Below wr.heap.size wr W) (g : Nat) (hg : wr.heap.size ≤ g) (u v x : Value) : Below wr.heap.size wr (((W.setCell ⟨g, 0, none⟩ u).setCell ⟨g, 1, none⟩ v).setCell ⟨g, 2, none⟩ x) := Below.setCell (Below.setCell (Below.setCell h hg u) hg v) hg x
theorem info46e : (Tryz.prog.info? 46).map (fun i => (i.zero, i.size, i.bytes)) = some (some (.agg #[.string ByteArray.empty, .int .i64 0, .int .i64 0]), 3, 32) := by kernel_rfl
/-- an entry, where it stands -/
structure EntAt (xs : List Int) (i : Nat) (p : S46) : Prop where
  tag : p.f0 = strOfNums ((xs.take (12 * i + 3)).drop (12 * i))
  len : p.f1 = numP ((xs.take (12 * i + 7)).drop (12 * i + 3))
  at' : p.f2 = numP ((xs.take (12 * i + 12)).drop (12 * i + 7))
  good : ∃ k, amanuensisref19_Tag.f k p.f0 = some true
def Ents (xs : List Int) (l : List S46) : Prop := ∀ j, j < l.length → EntAt xs j (l.getD j z46)
theorem Ents.snoc {xs : List Int} {l : List S46} {p : S46} (h : Ents xs l) (hp : EntAt xs l.length p) : Ents xs (l ++ [p]) := fun j hj => by
  rw [List.length_append, List.length_cons, List.length_nil] at hj
  by_cases hl : j < l.length
  · rw [List.getD_eq_getElem?_getD, List.getElem?_append_left hl, ← List.getD_eq_getElem?_getD]; exact h j hl
  · obtain rfl : j = l.length := by omega
    rw [List.getD_eq_getElem?_getD, List.getElem?_append_right (Nat.le_refl _), Nat.sub_self]; exact hp
/-- what Dir gives -/
def DirRes (xs : List Int) (n : Nat) (w : World) (e : Ending) (w' : World) : Prop := ∃ (vl : Value) (E a nx : Int) (l : List S46), e = .returned (.tuple #[vl, .agg #[.int .i64 E, .int .i64 a]]) ∧ (E = 0 → EntOk 0 l nx ∧ l.length ≤ n ∧ (∀ p ∈ l, (p.f0.size : Int) ≤ 10) ∧ Ents xs l ∧ xs.length = 12 * l.length ∧ k46.R 46 w' w.heap.size (fun _ => True) vl l)
theorem DirRes.bad {xs : List Int} (n : Nat) (w w' : World) (vl : Value) (a : Int) : DirRes xs n w (.returned (.tuple #[vl, .agg #[.int .i64 11, .int .i64 a]])) w' := ⟨vl, 11, a, 0, [], rfl, fun h => absurd h (by decide)⟩
theorem DirRes.good {xs : List Int} {n : Nat} {w w' : World} {vl : Value} {l : List S46} {nx : Int} (h : EntOk 0 l nx ∧ l.length ≤ n ∧ (∀ p ∈ l, (p.f0.size : Int) ≤ 10) ∧ Ents xs l ∧ xs.length = 12 * l.length ∧ k46.R 46 w' w.heap.size (fun _ => True) vl l) : DirRes xs n w (.returned (.tuple #[vl, .agg #[.int .i64 0, .int .i64 0]])) w' := ⟨vl, 0, 0, nx, l, rfl, fun _ => h⟩
set_option maxHeartbeats 4000000 in
set_option maxRecDepth 100000 in
theorem dir_calls (w : World) (A : Option Addr) (c : Nat) (xs : List Int) (h : (Kd.int .u8).C w A xs.length xs) (hc : xs.length ≤ c) (hl : xs.length ≤ 100000) :
    Calls Tryz.prog 11 #[.slice A xs.length c] w fun e w' => DirRes xs xs.length w e w' ∧ Below w.heap.size w w' := by
  have HI := Aside0.mk h
  have HIC := Aside0.mk hc
  have HD := Aside0.mk (DB.start w)
  clear h hc
  go_enter Tryz.func11, Tryz.ntmps11
  go_wp2
  go_loopg [4, 5, 6] (xs.length + 1) (fun kq v4 v5 v6 w' => ∃ (i nx : Int) (l : List S46), v5 = .int .i64 nx ∧ v6 = .int .i64 i ∧ i = 12 * l.length ∧ i ≤ xs.length ∧ Aside0 (l.length + kq = xs.length + 1) ∧ Aside0 (EntOk 0 l nx ∧ (∀ p ∈ l, (p.f0.size : Int) ≤ 10)) ∧ Aside0 (DB w w' w.heap.size v4 l) ∧ Aside0 (Ents xs l))
  case atStart => exact ⟨0, 0, [], rfl, rfl, by simp, by omega, ⟨by simp⟩, ⟨rfl, by simp⟩, HD, ⟨fun j hj => absurd hj (by simp)⟩⟩
  case round =>
    obtain ⟨i, nx, l, rfl, rfl, hi12, hil, lkq, LE, LD, LN⟩ := hrel
    have i0 : 0 ≤ i := by omega
    have HI12 := Aside0.mk hi12
    have hnb := EntOk.bound LE.out.1
    have hll : l.length ≤ 100000 := by omega
    have hn0 : 0 ≤ nx := hnb.1
    have hn1 : nx ≤ 999900000 := by omega
    clear hnb hi12
    obtain ⟨c30, c31, f3⟩ := LD.out.cells
    obtain ⟨Al, cl, hul⟩ := Kd.R_slice LD.out.row
    subst hul
    by_cases c1 : i < xs.length
    · have b1 : decide (i < (xs.length : Int)) = true := decide_eq_true c1
      by_cases c2 : i + 12 ≤ xs.length
      · have b2 : decide ((xs.length : Int) < i + 12) = false := decide_eq_false (by omega)
        obtain ⟨A1, n1, e1, y1, hs1, hn1', he1, hd1, hC1, hq1⟩ := seg_is A c xs i (i + 3) i0 (by omega) (by omega) HIC.out
        obtain ⟨A2, n2, e2, y2, hs2, hn2, he2, hd2, hC2, hq2⟩ := seg_is A c xs (i + 3) (i + 7) (by omega) (by omega) (by omega) HIC.out
        obtain ⟨A3, n3, e3, y3, hs3, hn3, he3, hd3, hC3, hq3⟩ := seg_is A c xs (i + 7) (i + 12) (by omega) (by omega) (by omega) HIC.out
        have HIW := Aside0.mk (Kd.C_below HI.out LD.out.below)
        obtain ⟨tg, htg⟩ : ∃ s, strOfNums y1 = s := ⟨_, rfl⟩
        obtain ⟨v4, hv4⟩ : ∃ v, numP y2 = v := ⟨_, rfl⟩
        obtain ⟨v5, hv5⟩ : ∃ v, numP y3 = v := ⟨_, rfl⟩
        have hcv : ∀ W : World, Below wr.heap.size wr W → (convert 22 9 (.slice A1 n1 e1)).run Tryz.prog W = .ok (.string tg) W := fun W hW => by
          rw [← htg]; exact Kd.C_string Tryz.underlying22 Tryz.underlying5 Tryz.underlying9 (Kd.C_below (hC1 _ HIW.out) hW)
        have hts : (tg.size : Int) ≤ 10 := by rw [← htg]; have : (strOfNums y1).size = y1.length := by simp [strOfNums, ByteArray.size]
                                              omega
        have hb4 : -1 ≤ v4 ∧ v4 ≤ 9999 := by
          have := num_bound y2 (by omega); rw [hn2, show n2 = 4 by omega, hv4] at this
          have e : (10 : Int) ^ 4 = 10000 := by decide
          omega
        have hb5 : -1 ≤ v5 ∧ v5 ≤ 99999 := by
          have := num_bound y3 (by omega); rw [hn3, show n3 = 5 by omega, hv5] at this
          have e : (10 : Int) ^ 5 = 100000 := by decide
          omega
        have k0 := hcv wr.drew (below_drew (Below.refl _ _))
        have k1 := fun o => hcv (wr.alloc o).drew (below_drew (below_alloc (Below.refl _ _) o))
        have HCV := Aside0.mk hcv
        have HV4 := Aside0.mk hv4
        have HV5 := Aside0.mk hv5
        have HC2 := Aside0.mk (hC2 _ HIW.out)
        have HC3 := Aside0.mk (hC3 _ HIW.out)
        have HN2 := Aside0.mk hn2
        have HN3 := Aside0.mk hn3
        have H25 : n2 ≤ 5 := by omega
        have q3 : IntKind.i64.wrap (i + 3) = i + 3 := (i64_w _).trans (by unfold wrap64; omega)
        have q7 : IntKind.i64.wrap (i + 7) = i + 7 := (i64_w _).trans (by unfold wrap64; omega)
        have q12 : IntKind.i64.wrap (i + 12) = i + 12 := (i64_w _).trans (by unfold wrap64; omega)
        have H35 : n3 ≤ 5 := by omega
        have HEA : Aside0 (tg = strOfNums ((xs.take (12 * l.length + 3)).drop (12 * l.length)) ∧ v4 = numP ((xs.take (12 * l.length + 7)).drop (12 * l.length + 3)) ∧ v5 = numP ((xs.take (12 * l.length + 12)).drop (12 * l.length + 7))) := by
          have h12 := HI12.out
          have t0 : i.toNat = 12 * l.length := by omega
          have t3 : (i + 3).toNat = 12 * l.length + 3 := by omega
          have t7 : (i + 7).toNat = 12 * l.length + 7 := by omega
          have t12 : (i + 12).toNat = 12 * l.length + 12 := by omega
          exact ⟨by rw [← htg, hq1, t3, t0], by rw [← hv4, hq2, t7, t3], by rw [← hv5, hq3, t12, t7]⟩
        clear hq1 hq2 hq3
        clear hcv hv4 hv5 hC1 hC2 hC3 hn1' hn2 hn3 htg hd1 hd2 hd3
        go_upto_region 8 with (fail)
        go_cut [7] (fun v7 wc => ∃ ge : Nat, v7 = .pointer (some ⟨ge, 0, none⟩) ∧ wr.heap.size ≤ ge ∧ Aside0 (Below wr.heap.size wr wc) ∧ Aside0 (wc.heap[ge]? = some (.cells #[.string tg, .int .i64 v4, .int .i64 v5] 46 (0, 0))))
        case first =>
          go_region_law (first
            | (go_simp
               go_at_call_of 18 (Value.slice A2 n2 e2)
               refine (num_via wr _ ?_ A2 n2 e2 y2 v4 HV4.out HN2.out H25 HC2.out he2).mono ?_
               focus (repeat (first | exact Below.refl _ _ | (with_reducible apply below_drew) | (with_reducible apply below_alloc)))
               rintro e w1 ⟨rfl, hb1, hh1⟩
               have K1 := Aside0.mk hb1
               have k2 := HCV.out w1 hb1
               have k3 := fun o => HCV.out (w1.alloc o) (below_alloc hb1 o)
               (try (have E1 : Aside0 (w1.heap[wr.heap.size]? = some (.cells #[.string ByteArray.empty, .int .i64 0, .int .i64 0] 46 (0, 0))) := ⟨(congrArg (fun H : Array Obj => H[wr.heap.size]?) hh1).trans (blk_new wr _)⟩))
               clear hb1 hh1)
            | (go_simp
               go_at_call_of 18 (Value.slice A3 n3 e3)
               refine (num_via wr _ ?_ A3 n3 e3 y3 v5 HV5.out HN3.out H35 HC3.out he3).mono ?_
               focus (repeat (first | exact K1.out | (with_reducible apply below_drew) | (with_reducible apply below_alloc)))
               rintro e w2 ⟨rfl, hb2, hh2⟩
               have K2 := Aside0.mk hb2
               have k4 := HCV.out w2 hb2
               have k5 := fun o => HCV.out (w2.alloc o) (below_alloc hb2 o)
               (first
                 | (have E2 : Aside0 (w2.heap[wr.heap.size]? = some (.cells #[.string ByteArray.empty, .int .i64 0, .int .i64 0] 46 (0, 0))) := ⟨(congrArg (fun H : Array Obj => H[wr.heap.size]?) hh2).trans E1.out⟩
                    obtain ⟨x0, x1, x2, xf⟩ := ent_cells E2.out)
                 | (have E3 : Aside0 (w2.heap[w1.heap.size]? = some (.cells #[.string ByteArray.empty, .int .i64 0, .int .i64 0] 46 (0, 0))) := ⟨(congrArg (fun H : Array Obj => H[w1.heap.size]?) hh2).trans (blk_new w1 _)⟩
                    obtain ⟨x0, x1, x2, xf⟩ := ent_cells E3.out)
                 | skip)
               clear hb2 hh2))
          all_goals go_wp2
          all_goals go_meet
          all_goals first
            | exact ⟨w2.heap.size, rfl, K2.out.size, ⟨below_alloc K2.out _⟩, ⟨blk_new _ _⟩⟩
            | exact ⟨w1.heap.size, rfl, K1.out.size, ⟨ent_below K2.out _ K1.out.size _ _ _⟩, ⟨ent_put E3.out _ _ _⟩⟩
            | exact ⟨wr.heap.size, rfl, Nat.le_refl _, ⟨ent_below K2.out _ (Nat.le_refl _) _ _ _⟩, ⟨ent_put E2.out _ _ _⟩⟩
        case rest =>
          obtain ⟨ge, rfl, hge, KB, EB⟩ := hcut
          have HTS := Aside0.mk hts
          obtain ⟨kt, bt, ht⟩ := tag_total tg (by omega)
          have HT := Aside0.mk ht
          have LD5 := Aside0.mk (LD.out.of_below KB.out)
          obtain ⟨x0, x1, x2, xf⟩ := ent_cells EB.out
          clear ht hts c30 c31 f3 k0 k1
          go_wp2_with fail
          refine (told (amanuensisref19_Tag.calls kt tg bt _ HT.out)).mono ?_
          rintro e w6 ⟨rfl, hb, hh⟩
          have LD6 := Aside0.mk (LD5.out.of_below hb)
          have EB6 := Aside0.mk (blk_below EB.out hb)
          clear hb hh x0 x1 x2 xf
          obtain ⟨c30, c31, f3⟩ := LD6.out.cells
          obtain ⟨x0, x1, x2, xf⟩ := ent_cells EB6.out
          cases bt with
          | false =>
            go_wp2
            refine bodyPost_ret (results_list (rs := [.tmp 2, .cell 3 31]) rfl (by simp) (.tmp (.cell _ 31 _ (0, 0) _ rfl (LD6.out.ret _ _) Tryz.underlying31 rfl (by kernel_rfl) .nil))) rfl ?_
            exact ⟨DirRes.bad _ _ _ _ _, LD6.out.retB _ _⟩
          | true =>
            by_cases c4 : v4 < 1
            · have b4 : decide (v4 < 1) = true := decide_eq_true c4
              go_wp2
              refine bodyPost_ret (results_list (rs := [.tmp 2, .cell 3 31]) rfl (by simp) (.tmp (.cell _ 31 _ (0, 0) _ rfl (LD6.out.ret _ _) Tryz.underlying31 rfl (by kernel_rfl) .nil))) rfl ?_
              exact ⟨DirRes.bad _ _ _ _ _, LD6.out.retB _ _⟩
            · have b4 : decide (v4 < 1) = false := decide_eq_false c4
              by_cases c5 : v5 = nx
              · have b5 : (v5 != nx) = false := by rw [c5]; simp
                have HE5 := Aside0.mk c5
                have HB4 := Aside0.mk hb4
                obtain ⟨hb40, hb41⟩ := hb4
                clear c5
                cases gk with
                | zero => exact absurd lkq.out (by have := HI12.out; omega)
                | succ k1 =>
                  go_wp2_with (((with_reducible refine gate_builtin (b := .append) (xs := #[.tmp 63, .tmp 65]) rfl ?_); at_builtin; refine Kd.R_append k46 (w0 := w) w.heap.size rfl (.tmp 63) (.tmp 65) 42 46 (.agg #[.string ByteArray.empty, .int .i64 0, .int .i64 0]) 32 rfl Tryz.underlying42 info46e rfl (by decide) (by omega) (.slice Al l.length cl) l (⟨tg, v4, v5⟩ : S46) [.string tg, .int .i64 v4, .int .i64 v5] (fun _ => True) (fun _ => False) rfl rfl ?dP (fun _ hk => hk.elim) (fun _ _ => trivial) ?dO ?dB ?dS ?dL ?_; (case dP => exact k46_mkM _ _ _ (⟨tg, v4, v5⟩ : S46)); (case dO => exact LD6.out.row); (case dB => exact LD6.out.below); (case dS => exact LD6.out.below.size); (case dL => omega); intro v1 w7 ho hb hg hat; have LD7 := Aside0.mk (LD6.out.append ho hb hg); clear ho hb hg hat))
                  go_roundg k1
                  case measure => omega
                  case rel => exact ⟨i + 12, nx + v4, l ++ [(⟨tg, v4, v5⟩ : S46)], rfl, rfl, by have := HI12.out; rw [List.length_append, List.length_cons, List.length_nil]; omega, by omega, ⟨by have := lkq.out; rw [List.length_append, List.length_cons, List.length_nil]; omega⟩, ⟨LE.out.1.snoc HE5.out (by show 1 ≤ v4; omega) (by show v4 ≤ 9999; omega), fun p hp => by
                    rcases List.mem_append.1 hp with hp | hp
                    · exact LE.out.2 p hp
                    · rcases List.mem_cons.1 hp with rfl | hp
                      · exact HTS.out
                      · cases hp⟩, LD7, ⟨LN.out.snoc ⟨HEA.out.1, HEA.out.2.1, HEA.out.2.2, ⟨_, HT.out⟩⟩⟩⟩
              · have b5 : (v5 != nx) = true := by rw [bne_iff_ne]; exact c5
                go_wp2
                refine bodyPost_ret (results_list (rs := [.tmp 2, .cell 3 31]) rfl (by simp) (.tmp (.cell _ 31 _ (0, 0) _ rfl (LD6.out.ret _ _) Tryz.underlying31 rfl (by kernel_rfl) .nil))) rfl ?_
                exact ⟨DirRes.bad _ _ _ _ _, LD6.out.retB _ _⟩
      · have b2 : decide ((xs.length : Int) < i + 12) = true := decide_eq_true (by omega)
        go_wp2
        refine bodyPost_ret (results_list (rs := [.tmp 2, .cell 3 31]) rfl (by simp) (.tmp (.cell _ 31 _ (0, 0) _ rfl (LD.out.ret _ _) Tryz.underlying31 rfl (by kernel_rfl) .nil))) rfl ?_
        exact ⟨DirRes.bad _ _ _ _ _, LD.out.retB _ _⟩
    · have b1 : decide (i < (xs.length : Int)) = false := decide_eq_false c1
      go_wp2
      refine bodyPost_ret (results_list (rs := [.tmp 2, .cell 3 31]) rfl (by simp) (.tmp (.cell _ 31 _ (0, 0) _ rfl (LD.out.ret _ _) Tryz.underlying31 rfl (by kernel_rfl) .nil))) rfl ?_
      exact ⟨DirRes.good ⟨LE.out.1, by have := HI12.out; omega, LE.out.2, LN.out, by have := HI12.out; omega, LD.out.retR _ _⟩, LD.out.retB _ _⟩
end Go.Proofs.YtkhnnbfgjfkfeaaGreatDoor
