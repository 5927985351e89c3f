/- field.Parse is walked. Conditions: those that each theorem states. -/
import Derived.Test.YtkhnnbfgjfkfeaaGreatDoorKRoc
namespace Go.Proofs.YtkhnnbfgjfkfeaaGreatDoor
open Go.RowKit Go.Proofs.YtkhnnbfgjfkfeaaGreatDoorW.PrintWords Go.Proofs.YtkhnnbfgjfkfeaaGreatDoorW.PrintLast Go.Proofs.YtkhnnbfgjfkfeaaGreatDoorW.PrintMore Go.Proofs.YtkhnnbfgjfkfeaaGreatDoor.PCod
set_option linter.unusedVariables false
set_option linter.unusedSimpArgs false
set_option maxHeartbeats 4000000 in
set_option maxRecDepth 100000 in
theorem fparse_control (w : World) (tag : ByteArray) (kt : Nat) (ht : dir_GoodTag.f kt tag = some true) (hcf : dir_Control.f tag = some true) (A : Option Addr) (c : Nat) (xs : List Int) (h : (Kd.int .u8).C w A xs.length xs) (hc : xs.length ≤ c) (hl : xs.length ≤ 100000) (hf : ∀ j, j < xs.length → field_Free.f (xs.getD j 0) = some true) :
    Calls Tryz.prog 109 #[.string tag, .slice A xs.length c] w fun e w' => FieldV e ∧ Below w.heap.size w w' := by
  have HI := Aside0.mk h
  have HF := Aside0.mk hf
  have HC := Aside0.mk hc
  have HT := Aside0.mk ht
  have HCF := Aside0.mk hcf
  have HW : Aside0 (Below w.heap.size w ((w.alloc (.cells #[.string ByteArray.empty, .slice none 0 0, .int .u8 0, .int .u8 0, .slice none 0 0] 50)).alloc (.cells #[.int .i64 0, .int .i64 0] 31))) := ⟨below_alloc (below_alloc (Below.refl _ _) _) _⟩
  have H4 := Aside0.mk (blk_alloc (blk_new w (.cells #[.string ByteArray.empty, .slice none 0 0, .int .u8 0, .int .u8 0, .slice none 0 0] 50)) (.cells #[.int .i64 0, .int .i64 0] 31))
  have H5 := Aside0.mk (blk_new (w.alloc (.cells #[.string ByteArray.empty, .slice none 0 0, .int .u8 0, .int .u8 0, .slice none 0 0] 50)) (.cells #[.int .i64 0, .int .i64 0] 31))
  rw [FB.alloc_size] at H5
  clear h hf hc ht hcf
  go_enter Tryz.func109, Tryz.ntmps109
  go_wp2_with fail
  refine (told (dir_GoodTag.calls kt tag true _ HT.out)).mono ?_
  rintro e w1 ⟨rfl, hb, hh⟩
  have K4 := Aside0.mk (blk_below H4.out hb)
  have K5 := Aside0.mk (blk_below H5.out hb)
  have KW := Aside0.mk (below_then HW.out HW.out.size hb)
  clear hb hh H4 H5 HW
  go_wp2_with fail
  refine (told (dir_Control.calls tag true _ HCF.out)).mono ?_
  rintro e w2 ⟨rfl, hb, hh⟩
  have L4 := Aside0.mk (blk_below K4.out hb)
  have L5 := Aside0.mk (blk_below K5.out hb)
  have LW := Aside0.mk (below_then KW.out KW.out.size hb)
  clear hb hh K4 K5 KW
  go_wp2_with fail
  refine (control_calls _ tag A c xs (Kd.C_below HI.out LW.out) HC.out hl HF.out).mono ?_
  rintro e w3 ⟨⟨s, A1, n1, c1, i0, i1, A4, n4, c4, rfl⟩, hb⟩
  have M4 := Aside0.mk (blk_below L4.out hb)
  have M5 := Aside0.mk (blk_below L5.out hb)
  have MW := Aside0.mk (below_then LW.out LW.out.size hb)
  clear hb L4 L5 LW
  obtain ⟨c40, c41, c42, c43, c44, f4⟩ := cells5 M4.out
  obtain ⟨c50, c51, f5⟩ := cells2 M5.out
  go_wp2
  refine bodyPost_ret (results_list (rs := [.cell 4 50, .cell 5 31]) rfl (by simp) (.cell _ 50 _ (0, 0) _ rfl (fin45 M4.out M5.out _ _ _ _ _ _ _).1 Tryz.underlying50 rfl (by kernel_rfl) (.cell _ 31 _ (0, 0) _ rfl (fin45 M4.out M5.out _ _ _ _ _ _ _).2 Tryz.underlying31 rfl (by kernel_rfl) .nil))) rfl ?_
  exact ⟨FieldV.mk _ _ _ _ _ _ _ _ _, fin45B MW.out (Nat.le_refl _) (Nat.le_succ _) _ _ _ _ _ _ _⟩
set_option maxHeartbeats 4000000 in
set_option maxRecDepth 100000 in
theorem fparse_data (w : World) (tag : ByteArray) (kt : Nat) (ht : dir_GoodTag.f kt tag = some true) (hcf : dir_Control.f tag = some false) (A : Option Addr) (c : Nat) (xs : List Int) (h : (Kd.int .u8).C w A xs.length xs) (hc : xs.length ≤ c) (hl : xs.length ≤ 100000) (h4 : 4 ≤ xs.length) (hf : ∀ j : Nat, j < xs.length → FAt xs j) :
    Calls Tryz.prog 109 #[.string tag, .slice A xs.length c] w fun e w' => FieldV e ∧ Below w.heap.size w w' := by
  have HI := Aside0.mk h
  have HF := Aside0.mk hf
  have HC := Aside0.mk hc
  have HT := Aside0.mk ht
  have HCF := Aside0.mk hcf
  have HW : Aside0 (Below w.heap.size w ((w.alloc (.cells #[.string ByteArray.empty, .slice none 0 0, .int .u8 0, .int .u8 0, .slice none 0 0] 50)).alloc (.cells #[.int .i64 0, .int .i64 0] 31))) := ⟨below_alloc (below_alloc (Below.refl _ _) _) _⟩
  have H4 := Aside0.mk (blk_alloc (blk_new w (.cells #[.string ByteArray.empty, .slice none 0 0, .int .u8 0, .int .u8 0, .slice none 0 0] 50)) (.cells #[.int .i64 0, .int .i64 0] 31))
  have H5 := Aside0.mk (blk_new (w.alloc (.cells #[.string ByteArray.empty, .slice none 0 0, .int .u8 0, .int .u8 0, .slice none 0 0] 50)) (.cells #[.int .i64 0, .int .i64 0] 31))
  rw [FB.alloc_size] at H5
  obtain ⟨ad, rfl, _⟩ := at0 h (by omega)
  have HI0 := Aside0.mk ((hf 0 (by omega)).ind (by omega))
  have HI1 := Aside0.mk ((hf 1 (by omega)).ind (by omega))
  obtain ⟨x0, hx0⟩ : ∃ x, rd xs 0 = x := ⟨_, rfl⟩
  obtain ⟨x1, hx1⟩ : ∃ x, rd xs 1 = x := ⟨_, rfl⟩
  have J0 : Aside0 (field_Indicator.f x0 = some true) := ⟨by rw [← hx0]; exact ind_of HI0.out⟩
  have J1 : Aside0 (field_Indicator.f x1 = some true) := ⟨by rw [← hx1]; exact ind_of HI1.out⟩
  have X0 := Aside0.mk hx0
  have X1 := Aside0.mk hx1
  have hl0 : (0 : Int) < xs.length := by omega
  have hl1 : (1 : Int) < xs.length := by omega
  have g0 : decide ((xs.length : Int) ≤ 0) = false := decide_eq_false (by omega)
  have g2 : ¬ xs.length = 0 := by omega
  have g3 : ¬ xs = [] := fun e => by rw [e] at h4; exact absurd h4 (by decide)
  have g4 : (xs.length == 0) = false := by rw [beq_eq_false_iff_ne]; omega
  have g5 : 0 < xs.length := by omega
  have g6 : 1 < xs.length := by omega
  have g1 : decide ((xs.length : Int) ≤ 1) = false := decide_eq_false (by omega)
  have SB : Aside0 (SubAt xs 2) := ⟨.inr ⟨by omega, (hf 2 (by omega)).two rfl⟩⟩
  clear h hf hc ht hcf HI0 HI1 hx0 hx1
  go_enter Tryz.func109, Tryz.ntmps109
  go_wp2_with fail
  refine (told (dir_GoodTag.calls kt tag true _ HT.out)).mono ?_
  rintro e w1 ⟨rfl, hb, hh⟩
  have K4 := Aside0.mk (blk_below H4.out hb)
  have K5 := Aside0.mk (blk_below H5.out hb)
  have KW := Aside0.mk (below_then HW.out HW.out.size hb)
  clear hb hh H4 H5
  go_wp2_with fail
  refine (told (dir_Control.calls tag false _ HCF.out)).mono ?_
  rintro e w2 ⟨rfl, hb, hh⟩
  have LP : Aside0 (FP w (w2.alloc (.cells #[.string tag, .slice none 0 0, .int .u8 0, .int .u8 0, .slice none 0 0] 50)) w2.heap.size tag 0 0 (.slice none 0 0) []) := by
    have hs : w.heap.size + 2 ≤ w2.heap.size := by
      have h1 := hb.size
      have h2 := blk_lt K5.out
      omega
    exact ⟨below_alloc (below_then KW.out KW.out.size hb) _, blk_alloc (blk_below K4.out hb) _, blk_alloc (blk_below K5.out hb) _, blk_new _ _, hs, Kd.R_nil _ _ _ _ _⟩
  clear hb hh K4 K5 KW HW
  go_wp2_with fail
  generalize w2.alloc (.cells #[.string tag, .slice none 0 0, .int .u8 0, .int .u8 0, .slice none 0 0] 50) = wA at LP ⊢
  generalize w2.heap.size = gf at LP ⊢
  have r0 : ∀ W : World, Below w.heap.size w W → W.cell? ad = some (.int .u8 x0) := fun W hW => by
    obtain ⟨ad', e, hc⟩ := at0 (Kd.C_below HI.out hW) (by omega)
    obtain rfl := Option.some.inj e
    rw [X0.out] at hc; exact hc
  have r1 : ∀ W : World, Below w.heap.size w W → W.cell? ⟨ad.block, ad.off + 1, none⟩ = some (.int .u8 x1) := fun W hW => by
    have hc := at1 (Kd.C_below HI.out hW) (by omega)
    rw [X1.out] at hc; exact hc
  have R0 := Aside0.mk r0
  have R1 := Aside0.mk r1
  clear r0 r1
  have a0 := R0.out wA LP.out.below
  refine wp_loop_rounds 3 ?_
  rw [rounds_succ]
  go_wp2_with fail
  refine (told (field_Indicator.calls x0 true _ J0.out)).mono ?_
  rintro e w3 ⟨rfl, hb, hh⟩
  have MP := Aside0.mk (LP.out.of_below hb)
  have a1 := R0.out w3 MP.out.below
  obtain ⟨c60, c61, c62, c63, c64, f6⟩ := cells5 MP.out.b6
  have NP := Aside0.mk (MP.out.put (j0 := x0) (j1 := 0) 2 (.int .u8 x0) rfl)
  clear hb hh a0 LP MP
  go_wp2_with fail
  rw [rounds_succ]
  have a2 := R1.out _ NP.out.below
  go_wp2_with fail
  refine (told (field_Indicator.calls x1 true _ J1.out)).mono ?_
  rintro e w4 ⟨rfl, hb, hh⟩
  have OP := Aside0.mk (NP.out.of_below hb)
  have a3 := R1.out w4 OP.out.below
  clear c60 c61 c62 c63 c64 f6 a1 a2 hb hh
  obtain ⟨c60, c61, c62, c63, c64, f6⟩ := cells5 OP.out.b6
  have QP := Aside0.mk (OP.out.put (j0 := x0) (j1 := x1) 3 (.int .u8 x1) rfl)
  clear NP OP
  go_wp2_with fail
  rw [rounds_succ]
  go_wp2
  clear c60 c61 c62 c63 c64 f6 a3 R0 R1 J0 J1 X0 X1
  go_loopg [8] xs.length (fun kq v8 w' => ∃ (i : Int) (vs : Value) (rows : List (List Value)), v8 = .int .i64 i ∧ 2 ≤ i ∧ i ≤ xs.length ∧ Aside0 (xs.length ≤ i.toNat + kq) ∧ Aside0 (SubAt xs i.toNat) ∧ Aside0 (rows.length ≤ i.toNat) ∧ Aside0 (FP w w' gf tag x0 x1 vs rows))
  case atStart => exact ⟨2, _, [], rfl, by omega, by omega, ⟨by omega⟩, SB, ⟨by simp⟩, QP⟩
  case round =>
    obtain ⟨i, vs, rows, rfl, i2, il, ikq, SA, RL, P⟩ := hrel
    by_cases hi : i < (xs.length : Int)
    · have hib : decide (i < (xs.length : Int)) = true := decide_eq_true hi
      obtain ⟨m, rfl⟩ : ∃ m : Nat, i = (m : Int) := ⟨i.toNat, by omega⟩
      simp only [Int.toNat_natCast] at ikq SA RL
      obtain ⟨hm1, hm31⟩ : m + 1 < xs.length ∧ xs.getD m 0 = 31 := SA.out.resolve_left (by omega)
      obtain ⟨hcd, n, hn2, hnl, hfr, hst, hnx⟩ := sub_next HF.out m (by omega) hm1 hm31
      obtain ⟨A', c', ys, hsl, hyc, hC, hys⟩ := seg_from (some ad) c xs (m : Int) (by omega) (by omega) HC.out
      simp only [Int.toNat_natCast] at hys
      have hyl : ys.length = xs.length - m := by rw [hys, List.length_drop]
      have hyd : ∀ j, ys.getD j 0 = xs.getD (m + j) 0 := fun j => by rw [hys, List.getD_eq_getElem?_getD, List.getD_eq_getElem?_getD, List.getElem?_drop]
      have HO := Aside0.mk (one_calls wr A' c' ys (hC _ (Kd.C_below HI.out P.out.below)) hyc (by omega) n hn2 (by omega) (by show ys.getD 0 0 = 31; rw [hyd]; exact hm31) (by show field_Code.f (ys.getD 1 0) = some true; rw [hyd]; exact hcd) (fun j h1 h2 => by rw [hyd]; exact hfr j h1 h2) (fun h1 => by rw [hyd]; exact hst (by omega)))
      have NX := Aside0.mk hnx
      have hn0 : decide ((n : Int) < 0) = false := decide_eq_false (by omega)
      obtain ⟨Av, cv, hvs⟩ := Kd.R_slice P.out.rr
      subst hvs
      have hrl : rows.length ≤ 100000 := by have := RL.out; omega
      clear hm31 hcd hfr hst hnx hC hys hyl hyd SA
      go_wp2_with fail
      refine HO.out.mono ?_
      rintro e w5 ⟨⟨c0, A1, n1, c1, rfl⟩, hb⟩
      have P6 := Aside0.mk ((P.out.of_below hb).of_below (below_alloc (Below.refl _ _) (.cells #[.int .u8 c0, .slice A1 n1 c1] 58)))
      have B9 := Aside0.mk (blk_new w5 (.cells #[.int .u8 c0, .slice A1 n1 c1] 58))
      clear hb P HO
      go_upto_region 18 with (fail)
      generalize w5.alloc (.cells #[.int .u8 c0, .slice A1 n1 c1] 58) = wB at P6 B9 ⊢
      generalize w5.heap.size = g9 at B9 ⊢
      obtain ⟨c60, c61, c62, c63, c64, f6⟩ := cells5 P6.out.b6
      obtain ⟨c90, c91, f9⟩ := cells2 B9.out
      go_wp2_with (((with_reducible refine gate_builtin (b := .append) (xs := #[.tmp 78, .tmp 80]) rfl ?_); at_builtin; refine Kd.R_append (Kd.raw 2) (w0 := w) w.heap.size rfl (.tmp 78) (.tmp 80) 48 58 (.agg #[.int .u8 0, .slice none 0 0]) 32 rfl Tryz.underlying48 info58 rfl (by decide) (by omega) (.slice Av rows.length cv) rows [.int .u8 c0, .slice A1 n1 c1] [.int .u8 c0, .slice A1 n1 c1] (fun _ => True) (fun _ => False) rfl rfl ?bP (fun _ hk => hk.elim) (fun _ _ => trivial) ?bO ?bB ?bS ?bL ?_; (case bP => exact ⟨rfl, rfl, by simp [Value.oneCell']⟩); (case bO => exact P6.out.rr); (case bB => exact P6.out.below); (case bS => exact P6.out.below.size); (case bL => omega); intro v1 w6 ho hb hg hat; clear hat; obtain ⟨v1A, v1c, hv1⟩ := Kd.R_slice ho; rw [List.length_append, List.length_cons, List.length_nil] at hv1; subst hv1; have G6 := P6.out.grown ho hb hg; have d64 := blk_frozen G6.1; have e64 : w6.cell? ⟨gf, 4, none⟩ = some (.slice Av rows.length cv) := (blk_cell G6.1 4).trans rfl; have P7 := Aside0.mk G6.2; clear ho hb hg G6))
      cases gk with
      | zero => exact absurd ikq.out (by omega)
      | succ k1 =>
        go_roundg k1
        case measure => omega
        case rel => exact ⟨(m : Int) + (n : Int), _, _, rfl, by omega, by omega, ⟨by have := ikq.out; omega⟩, (show Aside0 (SubAt xs ((m : Int) + (n : Int)).toNat) by rw [show ((m : Int) + (n : Int)).toNat = m + n by omega]; exact NX), ⟨by have := RL.out; simp; omega⟩, P7⟩
    · obtain rfl : i = (xs.length : Int) := by omega
      have hib : ((xs.length : Int) == 2) = false := by rw [beq_eq_false_iff_ne]; omega
      obtain ⟨c40, c41, c42, c43, c44, f4⟩ := cells5 P.out.b4
      obtain ⟨c50, c51, f5⟩ := cells2 P.out.b5
      obtain ⟨c60, c61, c62, c63, c64, f6⟩ := cells5 P.out.b6
      obtain ⟨Av, cv, hvs⟩ := Kd.R_slice P.out.rr
      subst hvs
      go_wp2
      refine bodyPost_ret (results_list (rs := [.cell 4 50, .cell 5 31]) rfl (by simp) (.cell _ 50 _ (0, 0) _ rfl (fin45 P.out.b4 P.out.b5 _ _ _ _ _ _ _).1 Tryz.underlying50 rfl (by kernel_rfl) (.cell _ 31 _ (0, 0) _ rfl (fin45 P.out.b4 P.out.b5 _ _ _ _ _ _ _).2 Tryz.underlying31 rfl (by kernel_rfl) .nil))) rfl ?_
      exact ⟨FieldV.mk _ _ _ _ _ _ _ _ _, fin45B P.out.below (Nat.le_refl _) (Nat.le_succ _) _ _ _ _ _ _ _⟩
end Go.Proofs.YtkhnnbfgjfkfeaaGreatDoor
