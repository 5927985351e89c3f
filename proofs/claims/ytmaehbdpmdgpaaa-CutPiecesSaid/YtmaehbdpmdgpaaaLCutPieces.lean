/- The law CutPieces: what it does. -/
import Derived.Test.YtmaehbdpmdgpaaaPiA
namespace Go.Proofs.Ytmaehbdpmdgpaaa
open Go.RowKit Go.Proofs.YtmaehbdpmdgpaaaW.PrintWords Go.Proofs.YtmaehbdpmdgpaaaW.PrintLast Go.Proofs.YtmaehbdpmdgpaaaW.PrintMore Go.Proofs.Ytmaehbdpmdgpaaa.PCut
set_option linter.unusedVariables false
set_option linter.unusedSimpArgs false
/-- where a round of the feeding begins -/
def FeedI (w : World) (g : Nat) (xs : List Int) (kq : Nat) (v6 v7 v8 : Value) (W : World) : Prop :=
  ∃ (a i : Nat) (ps : List (Int × Bool × List Int)) (rest : List Int) (at1 : Int) (A1 : Option Addr) (c1 : Nat), v7 = .int .i64 a ∧ v8 = .int .i64 i ∧ i ≤ a ∧ a ≤ xs.length ∧ xs.length ≤ a + kq ∧ allF (xs.take a) 0 false = (ps, rest, at1) ∧
    IsC W w.heap.size g (.slice A1 rest.length c1) rest at1 false ∧ Kd.N k34 34 W w.heap.size (fun k => w.heap.size ≤ k ∧ k ≠ g ∧ some k ≠ (Value.slice A1 rest.length c1).ownBlock) v6 (ps.map toS) ∧ Below w.heap.size w W
set_option maxHeartbeats 4000000 in
set_option maxRecDepth 100000 in
theorem cutPieces_law (w : World) (A : Option Addr) (c : Nat) (xs : List Int) (h : (Kd.int .u8).C w A xs.length xs) (hc : xs.length ≤ c) (hx : ∀ x ∈ xs, 0 ≤ x ∧ x ≤ 255)
    (A' : Option Addr) (c' : Nat) (zs : List Int) (h' : (Kd.int .u8).C w A' zs.length zs) (hc' : zs.length ≤ c') (hx' : ∀ x ∈ zs, 0 ≤ x ∧ x ≤ 255) :
    Calls Try.prog 3 #[.slice A xs.length c, .slice A' zs.length c'] w fun e w' => e = .returned (.bool true) ∧ Below w.heap.size w w' := by
  by_cases hl : 5000 < xs.length ∨ zs.length = 0 ∨ 100 < zs.length
  · clear h hc hx h' hc' hx'
    obtain ⟨b1, hb1⟩ : ∃ b, decide ((xs.length : Int) > 5000) = b := ⟨_, rfl⟩
    obtain ⟨b2, hb2⟩ : ∃ b, ((zs.length : Int) == 0) = b := ⟨_, rfl⟩
    obtain ⟨b3, hb3⟩ : ∃ b, decide ((zs.length : Int) > 100) = b := ⟨_, rfl⟩
    have hor : b1 = true ∨ b2 = true ∨ b3 = true := by
      rcases hl with h | h | h
      · left; rw [← hb1]; exact decide_eq_true (by omega)
      · right; left; rw [← hb2, beq_iff_eq]; omega
      · right; right; rw [← hb3]; exact decide_eq_true (by omega)
    clear hl
    cases b1 <;> cases b2 <;> cases b3 <;> first
      | (exfalso; simp at hor; done)
      | (clear hor
         go_enter Try.func3, Try.ntmps3
         go_wp2_with fail
         refine (answers_calls _).mono ?_
         rintro e w1 ⟨rfl, hb⟩
         have HB := Aside0.mk hb
         clear hb
         go_wp2
         go_ret
         exact ⟨rfl, HB.out⟩)
  have hb1 : decide ((xs.length : Int) > 5000) = false := decide_eq_false (by omega)
  have hb2 : ((zs.length : Int) == 0) = false := by rw [beq_eq_false_iff_ne]; omega
  have hb3 : decide ((zs.length : Int) > 100) = false := decide_eq_false (by omega)
  have hl2 : xs.length ≤ 5000 := by omega
  have hz1 : 1 ≤ zs.length := by omega
  have hz2 : zs.length ≤ 100 := by omega
  have HI := Aside0.mk h
  have HIC := Aside0.mk hc
  have HX := Aside0.mk hx
  have HZ := Aside0.mk h'
  have HZC := Aside0.mk hc'
  have HZX := Aside0.mk hx'
  clear h hc hx hl h' hc' hx'
  go_enter Try.func3, Try.ntmps3
  go_wp2_with fail
  refine (new_calls w w.heap.size (Nat.le_refl _)).mono ?_
  rintro e w1 ⟨g, rfl, hg, hcu, hb⟩
  have HC := Aside0.mk hcu
  have HB1 := Aside0.mk hb
  clear hcu hb
  go_wp2_with fail
  refine (answers_calls _).mono ?_
  rintro e w2 ⟨rfl, hb⟩
  have HC2 := Aside0.mk (HC.out.below hb)
  have HB2 := Aside0.mk (HB1.out.trans (hb.mono HB1.out.size))
  clear hb HC
  go_wp2_with fail
  have hI : FeedI w g xs xs.length (.slice none 0 0) (.int .i64 0) (.int .i64 0) w2 :=
    ⟨0, 0, [], [], 0, none, 0, rfl, rfl, by omega, by omega, by omega, allF_none rfl, HC2.out, Kd.N_nil _ _ _ _ _, HB2.out⟩
  have HI0 := Aside0.mk hI
  clear hI HC2
  go_loopg [6, 7, 8] xs.length (fun kq v6 v7 v8 w' => Aside0 (FeedI w g xs kq v6 v7 v8 w'))
  case atStart => exact HI0
  case round =>
    clear HI0
    obtain ⟨a, i, ps, rest, at1, A1, c1, rfl, rfl, hia, hax, hkq, hF, hC, hN, hB⟩ := hrel.out
    clear hrel
    have RF := Aside0.mk hF
    have RC := Aside0.mk hC
    have RN := Aside0.mk hN
    have RB := Aside0.mk hB
    clear hF hC hN hB
    by_cases ha : a < xs.length
    · have hab : decide ((a : Int) < (xs.length : Int)) = true := decide_eq_true (by omega)
      obtain ⟨k0, rfl⟩ : ∃ k0, gk = k0 + 1 := ⟨gk - 1, by omega⟩
      obtain ⟨j, hj, hmod⟩ : ∃ j : Nat, j < zs.length ∧ (i : Int) % (zs.length : Int) = (j : Int) := ⟨i % zs.length, Nat.mod_lt _ (by omega), by omega⟩
      obtain ⟨adz, rfl, hcz⟩ := (Kd.reads_of_C (enc := Value.int .u8) (d := (0:Int)) (h1 := fun _ => rfl) (Kd.C_below HZ.out RB.out)).2.2 (by omega)
      have hcj := hcz j hj
      obtain ⟨q, hq, hqb⟩ : ∃ q : Nat, zs.getD j 0 = q ∧ q ≤ 255 := by
        have := HZX.out (zs.getD j 0) (by rw [List.getD_eq_getElem?_getD, List.getElem?_eq_getElem hj]; exact List.getElem_mem hj)
        exact ⟨(zs.getD j 0).toNat, by omega, by omega⟩
      rw [hq] at hcj
      clear hq hcz
      by_cases hgt : a + q + 1 > xs.length
      · have hgb : decide ((a : Int) + (q : Int) + 1 > (xs.length : Int)) = true := decide_eq_true (by omega)
        have hae : a < xs.length := ha
        clear hgt
        obtain ⟨i05, hi05, _, hsz5, _⟩ := info_parts info5
        have hcut := cut_mid (P := Try.prog) 22 5 .i64 .i64 Try.underlying22 hi05 1 hsz5 A xs.length c (a : Int) (xs.length : Int) (by omega) (by omega) (by omega) HIC.out
        have hCm := Kd.C_mid (k := Kd.int .u8) (lo := a) (hi := xs.length) (Kd.C_below HI.out RB.out) (by omega) (by omega) HIC.out
        simp only [Int.toNat_natCast] at hcut
        obtain ⟨ch, hch⟩ : ∃ ch, (xs.take xs.length).drop a = ch := ⟨_, rfl⟩
        rw [hch] at hCm
        have hchl : ch.length = xs.length - a := by rw [← hch, List.length_drop, List.length_take]; omega
        rw [← hchl] at hcut
        obtain ⟨A5, hA5⟩ : ∃ A5, (if c = a then A else A.map (·.add (a * 1))) = A5 := ⟨_, rfl⟩
        rw [hA5] at hcut
        have hCm2 : (Kd.int .u8).C wr A5 ch.length ch := by rw [← hA5]; exact hCm
        have HCM := Aside0.mk hCm2
        have HCH := Aside0.mk hch
        have HCL := Aside0.mk hchl
        clear hCm hCm2 hch hchl hA5 hi05 hsz5
        go_wp2_with (first | ((with_reducible refine gate_dst (N := 56) rfl ?_); refine Kd.R_lit (Kd.int .u8) _ 5 ?hg (N := 56) ?hd (xs := ([] : List Int)) (inner := []) (ok := fun _ => True) (okp := fun _ => True) ?hr ?hp (fun _ hk => hk) trivial (Below.refl _ _) (Nat.le_refl _) (by simp) ?_; (case hd => rfl); (case hg => rfl); (case hr => first | (go_simp; done) | (go_simp; rfl)); (case hp => exact Reps.none _ _); intro v1 w1 ho1 hb1 hg1 hn1; clear hg1 hn1; have HO1 := Aside0.mk ho1; have HB1' := Aside0.mk hb1; clear ho1 hb1) | ((with_reducible refine gate_builtin (b := .append) (xs := #[.tmp 56, .tmp 60]) rfl ?_); at_builtin; refine Kd.R_append_rows (Kd.int .u8) (w0 := wr) wr.heap.size rfl (.tmp 56) (.tmp 60) 22 5 (.int .u8 0) 1 rfl Try.underlying22 info5 rfl (by decide) (by omega) v1 [] ch _ _ _ (fun _ => True) (fun _ => False) rfl rfl ?aO ?aR (fun _ _ h => h) (fun _ h => h.elim) ?aF ?aB ?aS ?aL ?_; (case aO => exact HO1.out); (case aR => exact Kd.C_below HCM.out HB1'.out); (case aF => exact fun _ _ => trivial); (case aB => exact HB1'.out); (case aS => exact HB1'.out.size); (case aL => have := HCL.out; simp; omega); intro v2 w2 ho2 hb2 hg2 hat2; clear hg2 hat2; rw [List.nil_append] at ho2; have HO2 := Aside0.mk ho2; have HBB2 := Aside0.mk hb2; clear ho2 hb2))
        obtain ⟨gi, c6, rfl, _, _⟩ := Kd.R_form HO2.out (by rw [HCL.out]; omega)
        obtain ⟨⟨ps3, rest3, at3⟩, hT3⟩ : ∃ T, allF (rest ++ ch) at1 false = T := ⟨_, rfl⟩
        have hbd := part_bounds RF.out hax
        have hbl : (rest ++ ch).length ≤ 5000 ∧ 0 ≤ at1 ∧ at1 ≤ 5000 := by rw [List.length_append, HCL.out]; omega
        obtain ⟨hbl1, hbl2, hbl3⟩ := hbl
        have hpc := hbd.2.2
        clear hbd
        refine (feed_calls w2 w.heap.size g A1 c1 rest at1 (RC.out.below HBB2.out) (Nat.le_trans RB.out.size HBB2.out.size) (some ⟨gi, 0, none⟩) c6 ch (Kd.R_reads' HO2.out).2.2 (Kd.R_reads' HO2.out).2.1 (fun x hx => HX.out x (List.mem_of_mem_take (List.mem_of_mem_drop (HCH.out ▸ hx)))) hbl2 (by omega) (by omega)).mono ?_
        have hpc3 := part_count hT3
        obtain ⟨S3, hS3⟩ : ∃ S3, ps3.map toS = S3 := ⟨_, rfl⟩
        obtain ⟨S0, hS0⟩ : ∃ S0, ps.map toS = S0 := ⟨_, rfl⟩
        rw [hS3] at hpc3
        rw [hS0] at hpc
        have RN' := RN.out
        rw [hS0] at RN'
        rw [show allP ((rest ++ ch).length + 2) (rest ++ ch) at1 false = (ps3, rest3, at3) from hT3]
        simp only [hS3]
        rintro e w3 ⟨vf, rfl, A3, c3, F⟩
        obtain ⟨hI, ⟨A7, c7, rfl, hF7⟩, hfr⟩ := feed_rows RC.out RN' HO2.out HBB2.out F RB.out.size
        have hb3 : Below w.heap.size w w3 := (RB.out.trans (HBB2.out.mono RB.out.size)).trans F.below
        have HT3 := Aside0.mk hT3
        have II := Aside0.mk hI
        have IF := Aside0.mk hF7
        have IFR := Aside0.mk hfr
        have IB := Aside0.mk hb3
        have hpl : S0.length + S3.length ≤ 10000 := by omega
        have HS := Aside0.mk (show S0 ++ S3 = (ps ++ ps3).map toS from by rw [List.map_append, hS0, hS3])
        clear hI hF7 hfr hb3 F hT3 hS3 hS0 hpc hpc3 RN'
        go_wp2_with (((with_reducible refine gate_builtin (b := .append) (xs := #[.tmp 62, .tmp 65]) rfl ?_); at_builtin; refine Kd.N_append_rows k34 (w0 := w) w.heap.size rfl (.tmp 62) (.tmp 65) 26 34 (.agg #[(.int .i64 0), (.bool false), (.slice none 0 0)]) 40 rfl Try.underlying26 info34 rfl (by decide) (by omega) u6 S0 S3 A7 S3.length c7 (fun k => w.heap.size ≤ k ∧ k ≠ g ∧ some k ≠ (Value.slice A3 rest3.length c3).ownBlock ∧ some k ≠ (Value.slice (some ⟨gi, 0, none⟩) ch.length c6).ownBlock) _ rfl rfl II.out.nn IF.out (fun _ hk => hk) IFR.out IB.out ?aS ?aL ?_; (case aS => exact IB.out.size); (case aL => omega); intro v3 w4 ho hb hg hat; have I4 := Aside0.mk (II.out.grown ho hg); have IB4 := Aside0.mk hb; clear ho hb hg hat))
        clear II IF IFR HCM HO1 HB1' HO2 HBB2 RC RN RB hcut
        obtain ⟨L, hL⟩ : ∃ L, ch.length = L := ⟨_, rfl⟩
        rw [hL] at I4 ⊢
        have HLL := Aside0.mk hL
        have hLb : L ≤ 5000 := by have := HCL.out; omega
        clear hL
        go_loopg [11] L (fun kq v11 w' => ∃ (k : Nat) (cur : List Int), v11 = .int .i64 k ∧ Aside0 (k + kq = L) ∧ Aside0 (cur.length = L) ∧ Aside0 (InI w.heap.size w' g A3 c3 rest3 at3 (.slice (some ⟨gi, 0, none⟩) L c6) cur v3 (S0 ++ S3)) ∧ Aside0 (Below w.heap.size w w'))
        case atStart => exact ⟨0, ch, rfl, ⟨by omega⟩, HLL, I4, IB4⟩
        case round =>
          clear I4 IB4
          obtain ⟨k, cur, rfl, hk, hcl, hIn, hBn⟩ := hrel
          by_cases hkl : k < L
          · have hkb : decide ((k : Int) < (L : Int)) = true := decide_eq_true (by omega)
            obtain ⟨⟨x, hcx⟩, hfx⟩ := in_cell hIn.out k (by rw [hcl.out]; exact hkl)
            obtain ⟨k1, hk1⟩ : ∃ k1, gk = k1 + 1 := ⟨gk - 1, by have := hk.out; omega⟩
            have HK1 := Aside0.mk hk1
            clear hk1
            go_wp2
            go_roundg k1
            case measure => have := HK1.out; omega
            case rel => exact ⟨k + 1, _, by simp, ⟨by have := HK1.out; have := hk.out; omega⟩, ⟨by rw [List.length_set]; exact hcl.out⟩, ⟨hIn.out.put hcl.out.symm k _⟩, ⟨Below.setCell (p := ⟨gi, k, none⟩) hBn.out (by obtain ⟨g', c', e, hb, _⟩ := Kd.R_form hIn.out.inn (by rw [hcl.out]; omega); injection e with e1 _ _; injection e1 with e1; injection e1 with e1 _ _; rw [e1]; exact hb) _⟩⟩
          · obtain rfl : k = L := by have := hk.out; omega
            have hkb : decide ((k : Int) < (k : Int)) = false := decide_eq_false (by omega)
            go_wp2
            go_roundg k0
            case measure => omega
            case rel => exact ⟨xs.length, i + 1, ps ++ ps3, rest3, at3, A3, c3, rfl, by simp, by omega, by omega, by omega, next_part RF.out HCH.out (by omega) HT3.out, hIn.out.cu, by rw [← HS.out]; exact hIn.out.back, hBn.out⟩
      · have hgb : decide ((a : Int) + (q : Int) + 1 > (xs.length : Int)) = false := decide_eq_false (by omega)
        obtain ⟨e0, he0⟩ : ∃ e0, a + q + 1 = e0 := ⟨_, rfl⟩
        have hae : a < e0 := by omega
        have hex : e0 ≤ xs.length := by omega
        have hee : (a : Int) + (q : Int) + 1 = (e0 : Int) := by omega
        have hgb : decide ((e0 : Int) > (xs.length : Int)) = false := decide_eq_false (by omega)
        clear hgt he0
        obtain ⟨i05, hi05, _, hsz5, _⟩ := info_parts info5
        have hcut := cut_mid (P := Try.prog) 22 5 .i64 .i64 Try.underlying22 hi05 1 hsz5 A xs.length c (a : Int) (e0 : Int) (by omega) (by omega) (by omega) HIC.out
        have hCm := Kd.C_mid (k := Kd.int .u8) (lo := a) (hi := e0) (Kd.C_below HI.out RB.out) (by omega) (by omega) HIC.out
        simp only [Int.toNat_natCast] at hcut
        obtain ⟨ch, hch⟩ : ∃ ch, (xs.take e0).drop a = ch := ⟨_, rfl⟩
        rw [hch] at hCm
        have hchl : ch.length = e0 - a := by rw [← hch, List.length_drop, List.length_take]; omega
        rw [← hchl] at hcut
        obtain ⟨A5, hA5⟩ : ∃ A5, (if c = a then A else A.map (·.add (a * 1))) = A5 := ⟨_, rfl⟩
        rw [hA5] at hcut
        have hCm2 : (Kd.int .u8).C wr A5 ch.length ch := by rw [← hA5]; exact hCm
        have HCM := Aside0.mk hCm2
        have HCH := Aside0.mk hch
        have HCL := Aside0.mk hchl
        clear hCm hCm2 hch hchl hA5 hi05 hsz5
        go_wp2_with (first | ((with_reducible refine gate_dst (N := 56) rfl ?_); refine Kd.R_lit (Kd.int .u8) _ 5 ?hg (N := 56) ?hd (xs := ([] : List Int)) (inner := []) (ok := fun _ => True) (okp := fun _ => True) ?hr ?hp (fun _ hk => hk) trivial (Below.refl _ _) (Nat.le_refl _) (by simp) ?_; (case hd => rfl); (case hg => rfl); (case hr => first | (go_simp; done) | (go_simp; rfl)); (case hp => exact Reps.none _ _); intro v1 w1 ho1 hb1 hg1 hn1; clear hg1 hn1; have HO1 := Aside0.mk ho1; have HB1' := Aside0.mk hb1; clear ho1 hb1) | ((with_reducible refine gate_builtin (b := .append) (xs := #[.tmp 56, .tmp 60]) rfl ?_); at_builtin; refine Kd.R_append_rows (Kd.int .u8) (w0 := wr) wr.heap.size rfl (.tmp 56) (.tmp 60) 22 5 (.int .u8 0) 1 rfl Try.underlying22 info5 rfl (by decide) (by omega) v1 [] ch _ _ _ (fun _ => True) (fun _ => False) rfl rfl ?aO ?aR (fun _ _ h => h) (fun _ h => h.elim) ?aF ?aB ?aS ?aL ?_; (case aO => exact HO1.out); (case aR => exact Kd.C_below HCM.out HB1'.out); (case aF => exact fun _ _ => trivial); (case aB => exact HB1'.out); (case aS => exact HB1'.out.size); (case aL => have := HCL.out; simp; omega); intro v2 w2 ho2 hb2 hg2 hat2; clear hg2 hat2; rw [List.nil_append] at ho2; have HO2 := Aside0.mk ho2; have HBB2 := Aside0.mk hb2; clear ho2 hb2))
        obtain ⟨gi, c6, rfl, _, _⟩ := Kd.R_form HO2.out (by rw [HCL.out]; omega)
        obtain ⟨⟨ps3, rest3, at3⟩, hT3⟩ : ∃ T, allF (rest ++ ch) at1 false = T := ⟨_, rfl⟩
        have hbd := part_bounds RF.out hax
        have hbl : (rest ++ ch).length ≤ 5000 ∧ 0 ≤ at1 ∧ at1 ≤ 5000 := by rw [List.length_append, HCL.out]; omega
        obtain ⟨hbl1, hbl2, hbl3⟩ := hbl
        have hpc := hbd.2.2
        clear hbd
        refine (feed_calls w2 w.heap.size g A1 c1 rest at1 (RC.out.below HBB2.out) (Nat.le_trans RB.out.size HBB2.out.size) (some ⟨gi, 0, none⟩) c6 ch (Kd.R_reads' HO2.out).2.2 (Kd.R_reads' HO2.out).2.1 (fun x hx => HX.out x (List.mem_of_mem_take (List.mem_of_mem_drop (HCH.out ▸ hx)))) hbl2 (by omega) (by omega)).mono ?_
        have hpc3 := part_count hT3
        obtain ⟨S3, hS3⟩ : ∃ S3, ps3.map toS = S3 := ⟨_, rfl⟩
        obtain ⟨S0, hS0⟩ : ∃ S0, ps.map toS = S0 := ⟨_, rfl⟩
        rw [hS3] at hpc3
        rw [hS0] at hpc
        have RN' := RN.out
        rw [hS0] at RN'
        rw [show allP ((rest ++ ch).length + 2) (rest ++ ch) at1 false = (ps3, rest3, at3) from hT3]
        simp only [hS3]
        rintro e w3 ⟨vf, rfl, A3, c3, F⟩
        obtain ⟨hI, ⟨A7, c7, rfl, hF7⟩, hfr⟩ := feed_rows RC.out RN' HO2.out HBB2.out F RB.out.size
        have hb3 : Below w.heap.size w w3 := (RB.out.trans (HBB2.out.mono RB.out.size)).trans F.below
        have HT3 := Aside0.mk hT3
        have II := Aside0.mk hI
        have IF := Aside0.mk hF7
        have IFR := Aside0.mk hfr
        have IB := Aside0.mk hb3
        have hpl : S0.length + S3.length ≤ 10000 := by omega
        have HS := Aside0.mk (show S0 ++ S3 = (ps ++ ps3).map toS from by rw [List.map_append, hS0, hS3])
        clear hI hF7 hfr hb3 F hT3 hS3 hS0 hpc hpc3 RN'
        go_wp2_with (((with_reducible refine gate_builtin (b := .append) (xs := #[.tmp 62, .tmp 65]) rfl ?_); at_builtin; refine Kd.N_append_rows k34 (w0 := w) w.heap.size rfl (.tmp 62) (.tmp 65) 26 34 (.agg #[(.int .i64 0), (.bool false), (.slice none 0 0)]) 40 rfl Try.underlying26 info34 rfl (by decide) (by omega) u6 S0 S3 A7 S3.length c7 (fun k => w.heap.size ≤ k ∧ k ≠ g ∧ some k ≠ (Value.slice A3 rest3.length c3).ownBlock ∧ some k ≠ (Value.slice (some ⟨gi, 0, none⟩) ch.length c6).ownBlock) _ rfl rfl II.out.nn IF.out (fun _ hk => hk) IFR.out IB.out ?aS ?aL ?_; (case aS => exact IB.out.size); (case aL => omega); intro v3 w4 ho hb hg hat; have I4 := Aside0.mk (II.out.grown ho hg); have IB4 := Aside0.mk hb; clear ho hb hg hat))
        clear II IF IFR HCM HO1 HB1' HO2 HBB2 RC RN RB hcut
        obtain ⟨L, hL⟩ : ∃ L, ch.length = L := ⟨_, rfl⟩
        rw [hL] at I4 ⊢
        have HLL := Aside0.mk hL
        have hLb : L ≤ 5000 := by have := HCL.out; omega
        clear hL
        go_loopg [11] L (fun kq v11 w' => ∃ (k : Nat) (cur : List Int), v11 = .int .i64 k ∧ Aside0 (k + kq = L) ∧ Aside0 (cur.length = L) ∧ Aside0 (InI w.heap.size w' g A3 c3 rest3 at3 (.slice (some ⟨gi, 0, none⟩) L c6) cur v3 (S0 ++ S3)) ∧ Aside0 (Below w.heap.size w w'))
        case atStart => exact ⟨0, ch, rfl, ⟨by omega⟩, HLL, I4, IB4⟩
        case round =>
          clear I4 IB4
          obtain ⟨k, cur, rfl, hk, hcl, hIn, hBn⟩ := hrel
          by_cases hkl : k < L
          · have hkb : decide ((k : Int) < (L : Int)) = true := decide_eq_true (by omega)
            obtain ⟨⟨x, hcx⟩, hfx⟩ := in_cell hIn.out k (by rw [hcl.out]; exact hkl)
            obtain ⟨k1, hk1⟩ : ∃ k1, gk = k1 + 1 := ⟨gk - 1, by have := hk.out; omega⟩
            have HK1 := Aside0.mk hk1
            clear hk1
            go_wp2
            go_roundg k1
            case measure => have := HK1.out; omega
            case rel => exact ⟨k + 1, _, by simp, ⟨by have := HK1.out; have := hk.out; omega⟩, ⟨by rw [List.length_set]; exact hcl.out⟩, ⟨hIn.out.put hcl.out.symm k _⟩, ⟨Below.setCell (p := ⟨gi, k, none⟩) hBn.out (by obtain ⟨g', c', e, hb, _⟩ := Kd.R_form hIn.out.inn (by rw [hcl.out]; omega); injection e with e1 _ _; injection e1 with e1; injection e1 with e1 _ _; rw [e1]; exact hb) _⟩⟩
          · obtain rfl : k = L := by have := hk.out; omega
            have hkb : decide ((k : Int) < (k : Int)) = false := decide_eq_false (by omega)
            go_wp2
            go_roundg k0
            case measure => omega
            case rel => exact ⟨e0, i + 1, ps ++ ps3, rest3, at3, A3, c3, rfl, by simp, by omega, by omega, by omega, next_part RF.out HCH.out (by omega) HT3.out, hIn.out.cu, by rw [← HS.out]; exact hIn.out.back, hBn.out⟩
    · obtain rfl : a = xs.length := by omega
      have hab : decide ((xs.length : Int) < (xs.length : Int)) = false := decide_eq_false (by omega)
      obtain ⟨⟨ps2, ys2, at2⟩, hT2⟩ : ∃ T, allF rest at1 true = T := ⟨_, rfl⟩
      have hsp := allF_split [] true xs.length xs 0 (Nat.le_refl _)
      have hF := RF.out
      rw [List.take_length] at hF
      rw [List.append_nil, hF] at hsp
      simp only [List.append_nil] at hsp
      rw [hT2] at hsp
      simp only at hsp
      obtain ⟨hbd1, hbd2, hbd3⟩ := part_bounds RF.out (Nat.le_refl _)
      have hpc := part_count hsp
      have hpl := piece_len hsp
      obtain ⟨kk, hsame⟩ : ∃ kk, amanuensislaw27_same.f kk ((ps ++ ps2).map toS) ((ps ++ ps2).map toT) = some true := ⟨_, same_is (ps ++ ps2) (by rw [List.length_map] at hpc; omega) (fun p hp => by have := hpl p hp; omega)⟩
      obtain ⟨kc, hkc⟩ := cut_is xs (by omega)
      rw [hsp] at hkc
      simp only at hkc
      obtain ⟨S0, hS0⟩ : ∃ S0, ps.map toS = S0 := ⟨_, rfl⟩
      obtain ⟨S2, hS2⟩ : ∃ S2, ps2.map toS = S2 := ⟨_, rfl⟩
      obtain ⟨U, hU⟩ : ∃ U, (ps ++ ps2).map toT = U := ⟨_, rfl⟩
      rw [List.map_append, hS0, hS2] at hpc
      rw [List.map_append, hS0, hS2, hU] at hsame
      rw [hU] at hkc
      have RN' := RN.out
      rw [hS0] at RN'
      have hsl : S0.length + S2.length ≤ 5000 := by rw [List.length_append] at hpc; omega
      have HKC := Aside0.mk hkc
      have HSM := Aside0.mk hsame
      have HRN := Aside0.mk RN'
      have HT2 := Aside0.mk hT2
      have HS2 := Aside0.mk hS2
      clear hF hsp hpc hpl hsame hkc hS0 hS2 hU RN' hT2 hbd3
      go_wp2_with fail
      refine (end_calls wr w.heap.size g A1 c1 rest at1 RC.out hbd2 (by omega) (by omega)).mono ?_
      rw [show allP (rest.length + 2) rest at1 true = (ps2, ys2, at2) from HT2.out]
      simp only [HS2.out]
      rintro e w3 ⟨vf, rfl, A3, c3, F⟩
      obtain ⟨hN, ⟨A7, c7, rfl, hF7⟩, hfr⟩ := end_rows RC.out HRN.out F RB.out.size
      have hb3 : Below w.heap.size w w3 := RB.out.trans F.below
      have hgb := F.cu.blk
      have HN := Aside0.mk hN
      have HF7 := Aside0.mk hF7
      have HFR := Aside0.mk hfr
      have HB3 := Aside0.mk hb3
      have HGB := Aside0.mk hgb
      clear hN hF7 hfr hb3 F hgb
      go_wp2_with (((with_reducible refine gate_builtin (b := .append) (xs := #[.tmp 80, .tmp 82]) rfl ?_); at_builtin; refine Kd.N_append_rows k34 (w0 := w) w.heap.size rfl (.tmp 80) (.tmp 82) 26 34 (.agg #[(.int .i64 0), (.bool false), (.slice none 0 0)]) 40 rfl Try.underlying26 info34 rfl (by decide) (by omega) u6 S0 S2 A7 S2.length c7 (fun k => w.heap.size ≤ k ∧ k ≠ g) _ rfl rfl HN.out HF7.out (fun _ hk => hk) HFR.out HB3.out ?aS ?aL ?_; (case aS => exact HB3.out.size); (case aL => omega); intro v3 w4 ho hb hg hat; have HN4 := Aside0.mk ho; have HB4 := Aside0.mk hb; have HG4 := Aside0.mk ((hg.block g (blk_lt HGB.out) (fun e => (HN.out.1 g e.symm).2 rfl)).trans HGB.out); clear ho hb hg hat))
      obtain ⟨S, hS⟩ : ∃ S, S0 ++ S2 = S := ⟨_, rfl⟩
      rw [hS] at HN4 HSM
      clear hS
      obtain ⟨A9, c9, rfl⟩ := Kd.N_slice HN4.out
      refine (amanuensisref19_Cut.calls kc (fun k => k < w4.heap.size) A c xs U w4 (Kd.V_mk HIC.out (Kd.C_F (Kd.heap_int .u8) (Kd.C_below HI.out HB4.out))) HKC.out).mono ?_
      rintro e w5 ⟨v5, rfl, hN5, hb5⟩
      obtain ⟨A8, c8, rfl⟩ := Kd.N_slice hN5
      have HN5 := Aside0.mk hN5
      have HB5 := Aside0.mk hb5
      clear hN5 hb5
      go_wp2_with fail
      have hN45 := Kd.N_reads' (Kd.N_below HN4.out HB5.out)
      refine (amanuensislaw27_same.calls kk A9 c9 S A8 c8 U true w5 hN45.2.2 hN45.2.1 (Kd.N_reads' HN5.out).2.2 (Kd.N_reads' HN5.out).2.1 HSM.out).mono ?_
      rintro e w6 ⟨rfl, hb6⟩
      have h5b := (HB5.out.block g (blk_lt HG4.out)).trans HG4.out
      have h6b := (hb6.block g (blk_lt h5b)).trans h5b
      have h6c : w6.cell? ⟨g, 2, none⟩ = some (.bool true) := by rw [blk_cell h6b]; rfl
      have HBF := Aside0.mk ((HB4.out.trans (HB5.out.mono HB4.out.size)).trans (hb6.mono (Nat.le_trans HB4.out.size HB5.out.size)))
      have E1 := Aside0.mk (ended_end w6 g h6c)
      have E2 := Aside0.mk (ended_feed w6 (.slice A xs.length c) g h6c)
      clear hb6 h5b h6b h6c hN45
      go_wp2_with fail
      refine E1.out.mono ?_
      rintro e w7 ⟨rfl, rfl⟩
      go_wp2_with fail
      refine E2.out.mono ?_
      rintro e w8 ⟨rfl, rfl⟩
      go_wp2
      go_ret
      exact ⟨rfl, HBF.out⟩
end Go.Proofs.Ytmaehbdpmdgpaaa
