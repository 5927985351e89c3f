/- dir.Parse is walked. Conditions: those that each theorem states. -/
import Derived.Test.YtkhnnbfgjfkfeaaGreatDoorKRoe
namespace Go.Proofs.YtkhnnbfgjfkfeaaGreatDoor
open Go.RowKit Go.Proofs.YtkhnnbfgjfkfeaaGreatDoorW.PrintWords Go.Proofs.YtkhnnbfgjfkfeaaGreatDoorW.PrintLast Go.Proofs.YtkhnnbfgjfkfeaaGreatDoorW.PrintMore Go.Proofs.YtkhnnbfgjfkfeaaGreatDoor.PCod
set_option linter.unusedVariables false
set_option linter.unusedSimpArgs false
theorem sub_seg (xs : List Int) (a b p q : Nat) (hq : a + q ≤ b) : (((xs.take b).drop a).take q).drop p = (xs.take (a + q)).drop (a + p) := by
  rw [List.drop_take, List.drop_drop, List.drop_take, List.take_take, List.drop_take]
  congr 1
  omega
theorem num_pos {l : List Int} (h : 0 ≤ numP l) : l.all dig = true ∧ numP l = val5 l := by
  unfold numP at h ⊢
  split
  · exact ⟨by assumption, rfl⟩
  · rename_i h1
    rw [if_neg h1] at h
    exact absurd h (by decide)
theorem tag_size {ys : List Int} (h : 3 ≤ ys.length) : (strOfNums (ys.take 3)).size = 3 := by
  have : (strOfNums (ys.take 3)).size = (ys.take 3).length := by simp [strOfNums, ByteArray.size]
  rw [this, List.length_take]; omega
theorem goodtag_is {s : ByteArray} (hs : s.size = 3) (k : Nat) (h : amanuensisref19_Tag.f k s = some true) : dir_GoodTag.f 10 s = some true := by
  unfold amanuensisref19_Tag.f at h
  unfold dir_GoodTag.f
  exact goodtag_l s (by omega) k 0 h (by omega) 10 (by omega)
/-- an entry that ref19.Dir takes: what dir.entry asks -/
theorem ent_is {xs : List Int} {i : Nat} {p : S46} (hE : EntAt xs i p) (h12 : 12 * i + 12 ≤ xs.length) (h1 : 1 ≤ p.f1) (h2 : 0 ≤ p.f2) :
    let ys := (xs.take (12 * i + 12)).drop (12 * i)
    ys.length = 12 ∧ strOfNums (ys.take 3) = p.f0 ∧ dir_number.f 6 ((ys.take 7).drop 3) = some (p.f1, true) ∧ dir_number.f 6 ((ys.take 12).drop 7) = some (p.f2, true) ∧ dir_GoodTag.f 10 p.f0 = some true := by
  intro ys
  have hl : ys.length = 12 := by show ((xs.take (12 * i + 12)).drop (12 * i)).length = 12; rw [List.length_drop, List.length_take]; omega
  have e1 : ys.take 3 = (xs.take (12 * i + 3)).drop (12 * i) := by have := sub_seg xs (12 * i) (12 * i + 12) 0 3 (by omega); rwa [List.drop_zero, Nat.add_zero] at this
  have e2 : (ys.take 7).drop 3 = (xs.take (12 * i + 7)).drop (12 * i + 3) := sub_seg xs (12 * i) (12 * i + 12) 3 7 (by omega)
  have e3 : (ys.take 12).drop 7 = (xs.take (12 * i + 12)).drop (12 * i + 7) := sub_seg xs (12 * i) (12 * i + 12) 7 12 (by omega)
  have et : strOfNums (ys.take 3) = p.f0 := by rw [e1, hE.tag]
  have n1 := num_pos (l := (ys.take 7).drop 3) (by rw [e2, ← hE.len]; omega)
  have n2 := num_pos (l := (ys.take 12).drop 7) (by rw [e3, ← hE.at']; omega)
  refine ⟨hl, et, ?_, ?_, ?_⟩
  · rw [number_is _ (by rw [List.length_drop, List.length_take]; omega) n1.1 6 (by omega), ← n1.2, e2, ← hE.len]
  · rw [number_is _ (by rw [List.length_drop, List.length_take]; omega) n2.1 6 (by omega), ← n2.2, e3, ← hE.at']
  · obtain ⟨k, hk⟩ := hE.good
    exact goodtag_is (by rw [← et]; exact tag_size (by omega)) k hk
set_option maxHeartbeats 4000000 in
set_option maxRecDepth 100000 in
theorem dparse_calls (w : World) (A : Option Addr) (c : Nat) (xs : List Int) (h : (Kd.int .u8).C w A xs.length xs) (hc : xs.length ≤ c) (hl : xs.length ≤ 100000) (l : List S46) (nx : Int) (hE : EntOk 0 l nx) (hN : Ents xs l) (hn : xs.length = 12 * l.length) (hnx : nx ≤ 99999) :
    Calls Tryz.prog 61 #[.slice A xs.length c] w fun e w' => ∃ vl, e = .returned (.tuple #[vl, .agg #[.int .i64 0, .int .i64 0]]) ∧ k46.R 46 w' w.heap.size (fun _ => True) vl l ∧ Below w.heap.size w w' := by
  have HI := Aside0.mk h
  have HC := Aside0.mk hc
  have HE := Aside0.mk hE
  have HN := Aside0.mk hN
  have HL := Aside0.mk hn
  have HD := Aside0.mk (DB.start w)
  have HT0 : Aside0 (EntOk 0 (l.drop ([] : List S46).length) nx) := ⟨hE⟩
  clear h hc hE hN hn
  go_enter Tryz.func61, Tryz.ntmps61
  go_wp2
  go_loopg [4, 5, 6] (l.length + 1) (fun kq v4 v5 v6 w' => ∃ (i n0 : Int) (lj : List S46), v5 = .int .i64 n0 ∧ v6 = .int .i64 i ∧ 0 ≤ n0 ∧ 0 ≤ i ∧ Aside0 (i = 12 * lj.length) ∧ i ≤ xs.length ∧ Aside0 (lj.length + kq = l.length + 1) ∧ Aside0 (EntOk n0 (l.drop lj.length) nx) ∧ Aside0 (lj = l.take lj.length) ∧ Aside0 (DB w w' w.heap.size v4 lj))
  case atStart => exact ⟨0, 0, [], rfl, rfl, by omega, by omega, ⟨by simp⟩, by omega, ⟨by simp⟩, HT0, ⟨by simp⟩, HD⟩
  case round =>
    obtain ⟨i, n0, lj, rfl, rfl, hn0, hi0, HI12, hil, LK, LE, LT, LD⟩ := hrel
    obtain ⟨Al, cl, hul⟩ := Kd.R_slice LD.out.row
    subst hul
    by_cases c1 : i < (xs.length : Int)
    · have b1 : decide (i < (xs.length : Int)) = true := decide_eq_true c1
      have hj : lj.length < l.length := by have := HI12.out; have := HL.out; omega
      have h12 : i + 12 ≤ xs.length := by have := HI12.out; have := HL.out; omega
      have b2 : decide ((xs.length : Int) - i < 12) = false := decide_eq_false (by omega)
      obtain ⟨p, hp⟩ : ∃ p, l.getD lj.length z46 = p := ⟨_, rfl⟩
      have hx := LE.out.next hj
      rw [hp] at hx
      obtain ⟨hx1, hx2, hx3⟩ := hx
      have hp2 : p.f2 = n0 := by
        have h2 := LE.out
        rw [List.drop_eq_getElem_cons hj] at h2
        have h3 := h2.1
        rw [← hp, List.getD_eq_getElem?_getD, List.getElem?_eq_getElem hj]; exact h3
      have hnb := EntOk.bound HE.out
      have hnb2 := EntOk.bound hx1
      have hll : l.length ≤ 10000 := by have := HL.out; omega
      obtain ⟨t, f1, f2⟩ := p
      obtain rfl : f2 = n0 := hp2
      have hEA := HN.out lj.length hj
      rw [hp] at hEA
      obtain ⟨q1, q2, q3, q4, q5⟩ := ent_is hEA (by have := HI12.out; omega) hx2 hn0
      obtain ⟨A1, n1, e1, y1, hs1, hn1', he1, hd1, hC1, hq1⟩ := seg_is A c xs i (i + 12) hi0 (by omega) (by omega) HC.out
      have ey : y1 = (xs.take (12 * lj.length + 12)).drop (12 * lj.length) := by
        have h12 := HI12.out
        rw [hq1, show (i + 12).toNat = 12 * lj.length + 12 by omega, show i.toNat = 12 * lj.length by omega]
      rw [← ey] at q1 q2 q3 q4
      subst hn1'
      have hnb3 : f1 ≤ 9999 := hx3
      have hnb4 : 1 ≤ f1 := hx2
      have hnb5 : f2 ≤ 99999 := by omega
      have HO := Aside0.mk (entry_calls wr A1 e1 y1 (hC1 _ (Kd.C_below HI.out LD.out.below)) q1 he1 t q2 10 6 6 f1 f2 q3 q4 q5 (by omega) (by omega) hn0 hnb5)
      have HX1 := Aside0.mk hx1
      have LT1 : Aside0 (lj ++ [(⟨t, f1, f2⟩ : S46)] = l.take (lj ++ [(⟨t, f1, f2⟩ : S46)]).length) := ⟨by
        rw [List.length_append, List.length_cons, List.length_nil, List.take_succ_eq_append_getElem hj, ← LT.out]
        rw [List.getD_eq_getElem?_getD, List.getElem?_eq_getElem hj] at hp
        rw [← hp]; rfl⟩
      have bne0 : (f2 != f2) = false := by simp
      clear hp hx1 hx2 hx3 hnb hnb2 hEA q1 q2 q3 q4 q5 hd1 hC1 hq1 ey
      go_wp2_with fail
      refine HO.out.mono ?_
      rintro e w5 ⟨rfl, hb⟩
      have P6 := Aside0.mk ((LD.out.of_below hb).of_below (below_alloc (Below.refl _ _) (.cells #[.string t, .int .i64 f1, .int .i64 f2] 46)))
      have B7 := Aside0.mk (blk_new w5 (.cells #[.string t, .int .i64 f1, .int .i64 f2] 46))
      clear hb HO
      go_upto_region 9 with (fail)
      generalize w5.alloc (.cells #[.string t, .int .i64 f1, .int .i64 f2] 46) = wB at P6 B7 ⊢
      generalize w5.heap.size = g7 at B7 ⊢
      obtain ⟨c70, c71, c72, f7⟩ := cells3 B7.out
      cases gk with
      | zero => exact absurd LK.out (by omega)
      | succ k1 =>
        go_wp2_with (((with_reducible refine gate_builtin (b := .append) (xs := #[.tmp 45, .tmp 47]) rfl ?_); at_builtin; refine Kd.R_append k46 (w0 := w) w.heap.size rfl (.tmp 45) (.tmp 47) 42 46 (.agg #[.string ByteArray.empty, .int .i64 0, .int .i64 0]) 32 rfl Tryz.underlying42 info46e rfl (by decide) (by omega) (.slice Al lj.length cl) lj (⟨t, f1, f2⟩ : S46) [.string t, .int .i64 f1, .int .i64 f2] (fun _ => True) (fun _ => False) rfl rfl ?dP (fun _ hk => hk.elim) (fun _ _ => trivial) ?dO ?dB ?dS ?dL ?_; (case dP => exact k46_mkM _ _ _ (⟨t, f1, f2⟩ : S46)); (case dO => exact P6.out.row); (case dB => exact P6.out.below); (case dS => exact P6.out.below.size); (case dL => omega); intro v1 w7 ho hb hg hat; have LD7 := Aside0.mk (P6.out.append ho hb hg); clear ho hb hg hat))
        go_roundg k1
        case measure => omega
        case rel => exact ⟨i + 12, f2 + f1, lj ++ [(⟨t, f1, f2⟩ : S46)], rfl, rfl, by omega, by omega, ⟨by have := HI12.out; rw [List.length_append, List.length_cons, List.length_nil]; omega⟩, by omega, ⟨by have := LK.out; rw [List.length_append, List.length_cons, List.length_nil]; omega⟩, ⟨by rw [List.length_append, List.length_cons, List.length_nil]; exact HX1.out⟩, LT1, LD7⟩
    · have b1 : decide (i < (xs.length : Int)) = false := decide_eq_false c1
      have hlen : lj = l := by
        have h1 := LT.out
        rw [List.take_of_length_le (by have := HI12.out; have := HL.out; omega)] at h1
        exact h1
      obtain ⟨c30, c31, f3⟩ := LD.out.cells
      have HLE := Aside0.mk hlen
      clear hlen
      go_wp2
      refine bodyPost_ret (results_list (rs := [.tmp 2, .cell 3 31]) rfl (by simp) (.tmp (.cell _ 31 _ (0, 0) _ rfl (LD.out.ret _ _) Tryz.underlying31 rfl (by kernel_rfl) .nil))) rfl ?_
      exact ⟨_, rfl, by have := LD.out.retR (.int .i64 0) (.int .i64 0); rw [← HLE.out]; exact this, LD.out.retB _ _⟩
end Go.Proofs.YtkhnnbfgjfkfeaaGreatDoor
