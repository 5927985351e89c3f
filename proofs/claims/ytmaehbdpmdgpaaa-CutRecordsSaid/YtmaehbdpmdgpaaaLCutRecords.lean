/- The law CutRecords: what it does. -/
import Derived.Test.YtmaehbdpmdgpaaaCfe
import Derived.Test.YtmaehbdpmdgpaaaCfg
import Derived.Test.YtmaehbdpmdgpaaaLCutSoon
import Derived.Deep.QuietTactic
import Derived.BigQuiet
namespace Go.Proofs.Ytmaehbdpmdgpaaa
open Go.RowKit Go.Proofs.YtmaehbdpmdgpaaaW.PrintWords Go.Proofs.YtmaehbdpmdgpaaaW.PrintLast Go.Proofs.YtmaehbdpmdgpaaaW.PrintMore Go.Proofs.Ytmaehbdpmdgpaaa.PCut
set_option linter.unusedVariables false
set_option linter.unusedSimpArgs false
theorem recL_len : ∀ (l : List (List Int)), (∀ r ∈ l, GoodRec r ∧ r.length ≤ 2000) → (recL l).length ≤ 2002 * l.length
  | [], _ => by simp [recL]
  | r :: l, h => by
    have h1 := (h r (by simp)).2
    have h2 := recL_len l (fun q hq => h q (List.mem_cons_of_mem _ hq))
    simp only [recL, List.length_append, List.length_cons, List.length_nil]; omega
theorem recL_byt : ∀ (l : List (List Int)), (∀ r ∈ l, ∀ x ∈ r, 0 ≤ x ∧ x ≤ 255) → ∀ x ∈ recL l, 0 ≤ x ∧ x ≤ 255
  | [], _, x, hx => by simp [recL] at hx
  | r :: l, h, x, hx => by
    simp only [recL, List.mem_append, List.mem_cons, List.not_mem_nil, or_false] at hx
    rcases hx with (rfl | rfl) | hx | hx
    · decide
    · decide
    · exact h r (by simp) x hx
    · exact recL_byt l (fun q hq => h q (List.mem_cons_of_mem _ hq)) x hx
theorem x1d : bytesOf (⟨#[120, 29]⟩ : ByteArray) = [120, 29] := by decide
theorem x1d_list : (⟨#[120, 29]⟩ : ByteArray).toList = [120, 29] := by first | rfl | (simp; done) | (simp [ByteArray.toList, ByteArray.toList.loop]; done) | (unfold ByteArray.toList; simp [ByteArray.toList.loop]; done)
theorem take_snoc {l : List (List Int)} {i : Nat} (h : i < l.length) : l.take (i + 1) = l.take i ++ [l.getD i []] := by
  rw [List.take_succ_eq_append_getElem h, List.getD_eq_getElem?_getD, List.getElem?_eq_getElem h]; rfl
theorem IsC.of_below {w W : World} {B g : Nat} {v : Value} {xs : List Int} {at0 : Int} {en : Bool} (h : IsC w B g v xs at0 en) (hb : Below w.heap.size w W) : IsC W B g v xs at0 en := ⟨blk_below h.blk hb, h.ge, Kd.R_below h.row hb, h.byt, h.len⟩
set_option maxHeartbeats 4000000 in
set_option maxRecDepth 100000 in
theorem cutRecords_law (w : World) (n c : Nat) (A : Option Addr) (lists : List (List Int)) (hn : lists.length = n)
    (hrow : ∀ i : Nat, i < n → ∃ ad Ai ci, A = some ad ∧ w.cell? (ad.add i) = some (.slice Ai (lists.getD i []).length ci) ∧ (lists.getD i []).length ≤ ci ∧ (Kd.int .u8).C w Ai (lists.getD i []).length (lists.getD i []) ∧ ∀ x ∈ lists.getD i [], 0 ≤ x ∧ x ≤ 255) :
    Calls Try.prog 7 #[.slice A n c] w fun e w' => e = .returned (.bool true) ∧ Below w.heap.size w w' := by
  by_cases hl : 10 < n
  · clear hrow
    have hb : decide ((n : Int) > 10) = true := decide_eq_true (by omega)
    go_enter Try.func7, Try.ntmps7
    go_wp2_with fail
    refine (answers_calls _).mono ?_
    rintro e w1 ⟨rfl, hb⟩
    have HB := Aside0.mk hb
    clear hb
    go_wp2
    go_ret
    exact ⟨rfl, HB.out⟩
  have hlb : decide ((n : Int) > 10) = false := decide_eq_false (by omega)
  have HRW := Aside0.mk hrow
  have HLN := Aside0.mk hn
  have hn10 : n ≤ 10 := by omega
  have HBY : Aside0 (∀ r ∈ lists, ∀ x ∈ r, 0 ≤ x ∧ x ≤ 255) := ⟨fun r hr x hx => by
    obtain ⟨i, hi, rfl⟩ := List.getElem_of_mem hr
    obtain ⟨_, _, _, _, _, _, _, hb⟩ := hrow i (by omega)
    rw [List.getD_eq_getElem?_getD, List.getElem?_eq_getElem hi] at hb
    exact hb x hx⟩
  clear hrow hn hl
  go_enter Try.func7, Try.ntmps7
  go_wp2
  go_loopg [3, 4] n (fun kq v3 v4 w' => ∃ i : Int, v4 = .int .i64 i ∧ 0 ≤ i ∧ Aside0 (i.toNat + kq = n) ∧ Aside0 ((Kd.int .u8).R 5 w' w.heap.size (fun _ => True) v3 (recL (lists.take i.toNat))) ∧ Aside0 (Below w.heap.size w w') ∧ Aside0 (∀ r ∈ lists.take i.toNat, GoodRec r ∧ r.length ≤ 2000))
  case atStart => exact ⟨0, rfl, by omega, ⟨by simp⟩, ⟨by simpa [recL] using Kd.R_nil _ _ _ _ _⟩, ⟨Below.refl _ _⟩, ⟨by simp⟩⟩
  case round =>
    obtain ⟨i, rfl, i0, ikq, RR, RB, RG⟩ := hrel
    obtain ⟨J, hJ⟩ : ∃ J, recL (lists.take i.toNat) = J := ⟨_, rfl⟩
    rw [hJ] at RR
    have hJl : J.length ≤ 30000 := by
      have := recL_len _ RG.out
      rw [hJ, List.length_take] at this
      have := HLN.out; omega
    have HJ := Aside0.mk hJ
    clear hJ
    obtain ⟨Ab, cb, hub⟩ := Kd.R_slice RR.out
    subst hub
    by_cases hi : i < n
    · have hib : decide (i < (n : Int)) = true := decide_eq_true hi
      obtain ⟨ad, Ai, ci, rfl, hcell, hci, hCi, hbi⟩ := HRW.out i.toNat (by omega)
      obtain ⟨ys, hys⟩ : ∃ ys, lists.getD i.toNat [] = ys := ⟨_, rfl⟩
      rw [hys] at hcell hci hCi hbi
      have HYS := Aside0.mk hys
      have HCI := Aside0.mk hCi
      have HBI := Aside0.mk hbi
      have HCC := Aside0.mk hci
      have HCL := Aside0.mk hcell
      have hcw := (RB.out.cell (World.block_lt_of_cell? w _ hcell)).trans hcell
      clear hys hCi hbi hcell hci
      go_wp2_with fail
      refine (parse_calls _ Ai ci ys (Kd.C_below HCI.out RB.out) HCC.out HBI.out).mono ?_
      rintro e w1 ⟨⟨s, A1, n1, c1, E, a, rfl, hE⟩, hb⟩
      have HB1 := Aside0.mk (RB.out.trans (hb.mono RB.out.size))
      have R1 := Aside0.mk (Kd.R_below RR.out hb)
      have HE := Aside0.mk hE
      clear hE hb hcw
      have hc2 : ∀ o o2, ((w1.alloc o).alloc o2).cell? (ad.add i.toNat) = some (.slice Ai ys.length ci) := fun o o2 => ((below_alloc (below_alloc HB1.out o) o2).cell (World.block_lt_of_cell? w _ HCL.out)).trans HCL.out
      obtain ⟨bE, hbE⟩ : ∃ b, (E != 0) = b := ⟨_, rfl⟩
      obtain ⟨b2, hb2⟩ : ∃ b, decide ((ys.length : Int) > 2000) = b := ⟨_, rfl⟩
      have HGD : Aside0 (bE = false → b2 = false → GoodRec ys ∧ ys.length ≤ 2000) := ⟨fun h1 h2 => ⟨HE.out (by rw [h1] at hbE; simpa using hbE), by rw [h2] at hb2; have := of_decide_eq_false hb2; omega⟩⟩
      go_upto_region 8 with (fail)
      go_cut [38] (fun v38 wd => v38 = .bool (bE || b2) ∧ Aside0 ((Kd.int .u8).R 5 wd w.heap.size (fun _ => True) (.slice Ab J.length cb) J) ∧ Aside0 (Below w.heap.size w wd))
      case first =>
        cases bE <;> cases b2 <;>
          (go_wp2
           go_meet
           case rel => exact ⟨rfl, ⟨Kd.R_alloc (Kd.R_alloc R1.out _) _⟩, ⟨below_alloc (below_alloc HB1.out _) _⟩⟩)
      case rest =>
        obtain ⟨rfl, RC, HC⟩ := hcut
        clear hc2 HE R1 HB1 RR RB
        obtain ⟨bb, hbb⟩ : ∃ b, (bE || b2) = b := ⟨_, rfl⟩
        rw [hbb]
        cases bb with
        | true =>
          clear hbE hb2 hbb
          go_wp2_with fail
          refine (answers_calls _).mono ?_
          rintro e w6 ⟨rfl, hb6⟩
          have HBF := Aside0.mk (HC.out.trans (hb6.mono HC.out.size))
          clear hb6
          go_wp2
          go_ret
          exact ⟨rfl, HBF.out⟩
        | false =>
          have hbEf : bE = false := by cases bE <;> simp_all
          have hb2f : b2 = false := by cases b2 <;> simp_all
          obtain ⟨hgr, hyl⟩ := HGD.out hbEf hb2f
          have HGR := Aside0.mk hgr
          have hcw := (HC.out.cell (World.block_lt_of_cell? w _ HCL.out)).trans HCL.out
          have HCIw := Aside0.mk (Kd.C_below HCI.out HC.out)
          clear hbE hb2 hbb hgr hbEf hb2f HGD
          go_upto_region 10 with (fail)
          go_region_law (first
            | (refine step_append_str (w0 := w) (W := wc.drew) w.heap.size rfl (.tmp 40) (.const (.string ⟨#[120, 29]⟩)) 22 9 5 rfl Try.underlying22 Try.underlying9 info5 (.slice Ab J.length cb) J ⟨#[120, 29]⟩ rfl rfl (Kd.R_drew RC.out) HC.out.drew HC.out.size (show J.length + 2 ≤ 140737488355328 by omega) ?_
               intro v1 w5 ho hb hg
               have R5 := Aside0.mk ho
               have B5 := Aside0.mk hb
               have hcw5 := (hb.cell (World.block_lt_of_cell? w _ HCL.out)).trans HCL.out
               clear hb hg ho)
            | (refine Kd.R_append_rows_step (Kd.int .u8) (w0 := w) w.heap.size rfl (.tmp 41) (.tmp 45) 22 5 (.int .u8 0) 1 rfl Try.underlying22 info5 rfl (by decide) (by omega) v1 (J ++ bytesOf (⟨#[120, 29]⟩ : ByteArray)) ys Ai ys.length ci (fun _ => True) (fun _ => False) rfl rfl R5.out (Kd.C_below HCI.out B5.out) (fun _ _ h => h) (fun _ h => h.elim) (fun _ _ => trivial) B5.out B5.out.size (show ((J ++ bytesOf (⟨#[120, 29]⟩ : ByteArray)).length + ys.length) * 1 ≤ 140737488355328 by rw [x1d, List.length_append, List.length_cons, List.length_cons, List.length_nil]; omega) ?_
               intro v2 w6 ho hb hg hat
               have R6 := Aside0.mk ho
               have B6 := Aside0.mk hb
               clear hb hg ho hat))
          all_goals
            cases gk with
            | zero => exact absurd ikq.out (by omega)
            | succ k1 =>
              go_wp2
              go_roundg k1
              case measure => omega
              case rel => exact ⟨i + 1, rfl, by omega, ⟨by have := ikq.out; omega⟩, ⟨by
                have := R6.out
                rw [x1d] at this
                rw [show (i + 1).toNat = i.toNat + 1 by omega, take_snoc (by have := HLN.out; omega), recL_snoc, HJ.out, HYS.out]
                exact this⟩, B6, ⟨fun r hr => by
                rw [show (i + 1).toNat = i.toNat + 1 by omega, take_snoc (by have := HLN.out; omega), HYS.out] at hr
                rcases List.mem_append.1 hr with hr | hr
                · exact RG.out r hr
                · rcases List.mem_cons.1 hr with rfl | hr
                  · exact ⟨HGR.out, hyl⟩
                  · cases hr⟩⟩
    · have hib : decide (i < (n : Int)) = false := decide_eq_false hi
      have hin : lists.take i.toNat = lists := List.take_of_length_le (by have := HLN.out; omega)
      have hJ2 : recL lists = J := by rw [← HJ.out, hin]
      have hG : ∀ r ∈ lists, GoodRec r := fun r hr => (RG.out r (by rw [hin]; exact hr)).1
      have hT : allF J 0 false = (recP 0 lists, [], (J.length : Int)) := by
        have := rec_all lists 0 hG
        rw [hJ2, Int.zero_add] at this; exact this
      have hJb : ∀ x ∈ J, 0 ≤ x ∧ x ≤ 255 := by rw [← hJ2]; exact recL_byt lists HBY.out
      have hYL : ∀ i : Nat, i < n → (lists.getD i []).length ≤ 2000 := fun j hj => (RG.out _ (by
        rw [hin, List.getD_eq_getElem?_getD, List.getElem?_eq_getElem (by have := HLN.out; omega)]; exact List.getElem_mem _)).2
      obtain ⟨S, hS⟩ : ∃ S, (recP 0 lists).map toS = S := ⟨_, rfl⟩
      have hSl : S.length = 2 * n := by rw [← hS, List.length_map, rec_len, HLN.out]
      have HT := Aside0.mk hT
      have HS := Aside0.mk hS
      have HSL := Aside0.mk hSl
      have HJB := Aside0.mk hJb
      have HYL := Aside0.mk hYL
      clear hin hJ2 hG hT hJb hS hSl hYL hi
      go_wp2_with fail
      refine (new_calls wr w.heap.size RB.out.size).mono ?_
      rintro e w1 ⟨g, rfl, hg, hcu, hb⟩
      have B1 := Aside0.mk (RB.out.trans (hb.mono RB.out.size))
      have R1 := Aside0.mk (Kd.R_below RR.out hb)
      have HC := Aside0.mk hcu
      clear hcu hb
      go_wp2_with fail
      refine (feed_l w1 w.heap.size g none 0 [] 0 HC.out B1.out.size Ab cb J J.length rfl (Kd.R_reads' R1.out).2.2 (Kd.R_reads' R1.out).2.1 HJB.out (Int.le_refl 0) (by rw [List.nil_append]; omega) (by rw [List.nil_append]; omega) (List.nil_append _) HT.out HS.out).mono ?_
      rintro e w2 ⟨v1, rfl, A1, c1, F1⟩
      obtain ⟨Av, cv, hv1⟩ := Kd.N_slice F1.nn
      subst hv1
      have HF1 := Aside0.mk F1
      clear F1
      have hlen : ((S.length : Int) != 2 * (n : Int)) = false := by rw [HSL.out]; simp
      go_wp2_with fail
      refine (answers_calls _).mono ?_
      rintro e w3 ⟨rfl, hb3⟩
      have HU3 := Aside0.mk (HF1.out.cu.of_below hb3)
      have HN3 := Aside0.mk (Kd.N_below HF1.out.nn hb3)
      have B3 := Aside0.mk (((B1.out.trans HF1.out.below)).trans (hb3.mono ((B1.out.trans HF1.out.below)).size))
      clear hb3
      have hnil : allP (([] : List Int).length + 2) [] (J.length : Int) true = ([], [], (J.length : Int)) := (allF_none rfl : allF ([] : List Int) (J.length : Int) true = _)
      have hE := end_calls w3 w.heap.size g A1 c1 [] (J.length : Int) HU3.out (by omega) (by simp; omega) (by simp)
      rw [hnil] at hE
      have HE := Aside0.mk hE
      clear hE hnil
      go_wp2_with fail
      refine HE.out.mono ?_
      rintro e w4 ⟨v2, rfl, A2, c2, F2⟩
      obtain ⟨Aw, cw, hv2⟩ := Kd.N_slice F2.nn
      subst hv2
      have HN4 := Aside0.mk (Kd.N_reads' (Kd.N_kept HN3.out F2.kept (fun k hk hs => hs.elim hk.1 (fun e => hk.2.1 e.symm)))).2.2
      have B4 := Aside0.mk (B3.out.trans F2.below)
      clear F2 HE
      go_wp2
      go_loopg [9] n (fun kq v9 w' => ∃ i : Int, v9 = .int .i64 i ∧ 0 ≤ i ∧ Aside0 (i.toNat + kq = n) ∧ Aside0 (Kd.C k34 w' Av S.length S) ∧ Aside0 (Below w.heap.size w w'))
      case atStart => exact ⟨0, rfl, by omega, ⟨by simp⟩, HN4, B4⟩
      case round =>
        obtain ⟨j, rfl, j0, jkq, JC, JB⟩ := hrel
        by_cases hj : j < n
        · have hjb : decide (j < (n : Int)) = true := decide_eq_true hj
          obtain ⟨ad, Ai, ci, rfl, hcell, hci, hCi, hbi⟩ := HRW.out j.toNat (by omega)
          have hyl := HYL.out j.toNat (by omega)
          obtain ⟨e2, he2⟩ : ∃ e2, 2 * j = e2 := ⟨_, rfl⟩
          obtain ⟨o2, ho2⟩ : ∃ o2, e2 + 1 = o2 := ⟨_, rfl⟩
          obtain ⟨be, hev⟩ := rec_even lists 0 j.toNat (by have := HLN.out; omega)
          obtain ⟨bo, hod⟩ := rec_odd lists 0 j.toNat (by have := HLN.out; omega)
          rw [HS.out] at hev hod
          have hre : rd_T34 S e2 = ⟨be, false, [120, 29]⟩ := by unfold rd_T34; rw [show e2.toNat = 2 * j.toNat by omega]; exact hev
          have hro : rd_T34 S o2 = ⟨bo, true, lists.getD j.toNat []⟩ := by unfold rd_T34; rw [show o2.toNat = 2 * j.toNat + 1 by omega]; exact hod
          obtain ⟨ys, hys⟩ : ∃ ys, lists.getD j.toNat [] = ys := ⟨_, rfl⟩
          rw [hys] at hcell hci hCi hro hyl
          have k1 : 0 ≤ e2 := by omega
          have k2 : e2 < S.length := by have := HSL.out; omega
          have k3 : 0 ≤ o2 := by omega
          have k4 : o2 < S.length := by have := HSL.out; omega
          obtain ⟨al, A5, c5, ee, h0, h1, h2, hl5, hC5⟩ := at_T34 JC.out e2 k1 k2
          subst ee
          obtain ⟨al2, A6, c6, ee, g0, g1, g2, hl6, hC6⟩ := at_T34 JC.out o2 k3 k4
          cases ee
          rw [hre] at h0 h1 h2 hl5 hC5
          rw [hro] at g0 g1 g2 hl6 hC6
          simp only at h0 h1 h2 hl5 hC5 g0 g1 g2 hl6 hC6
          have qe : IntKind.i64.wrap (2 * j) = e2 := by rw [he2]; exact (i64_w _).trans (by unfold wrap64; omega)
          have qo : IntKind.i64.wrap (e2 + 1) = o2 := by rw [ho2]; exact (i64_w _).trans (by unfold wrap64; omega)
          obtain ⟨tx, htx⟩ : ∃ tx : ByteArray, tx = ⟨#[120, 29]⟩ := ⟨_, rfl⟩
          have hcv2 : ∀ q, (convert 22 9 (.slice A5 2 c5)).run Try.prog (wr.drewN q) = .ok (.string tx) (wr.drewN q) := fun q => by
            rw [htx]; exact Kd.C_string Try.underlying22 Try.underlying5 Try.underlying9 (Kd.C_drewN hC5 q)
          have y1 : (⟨#[120, 29]⟩ : ByteArray).toList = [120, 29] := x1d_list
          have y2 : (tx.toList == ([120, 29] : List UInt8)) = true := by rw [htx, y1]; rfl
          have y3 : (tx.toList == (⟨#[120, 29]⟩ : ByteArray).toList) = true := by rw [htx]; exact beq_self_eq_true _
          clear htx
          have hcw := (JB.out.cell (World.block_lt_of_cell? w _ hcell)).trans hcell
          have HC6 := Aside0.mk hC6
          have HCI := Aside0.mk (Kd.C_below hCi JB.out)
          have HCC := Aside0.mk hci
          have HL6 := Aside0.mk hl6
          have HRF := Aside0.mk (same_refl ys (by omega))
          have t1 := eq_true k1
          have t2 := eq_true k2
          have t3 := eq_true k3
          have t4 := eq_true k4
          clear hev hod hre hro hys h0 g0 hC5 hC6 hCi hl5 hl6 hci hbi hcell he2 ho2
          go_upto_region 18 with (fail)
          have HQ : Aside0 (∀ q, Calls Try.prog 14 #[.slice A6 ys.length c6, .slice Ai ys.length ci] (wr.drewN q) fun e w'' => e = .returned (.bool true) ∧ ∃ m, w'' = wr.drewN m) := ⟨fun q => by
            refine (amanuensisref01_Same.calls _ A6 c6 ys Ai ci ys true _ (Kd.C_drewN HC6.out q) HL6.out (Kd.C_drewN HCI.out q) HCC.out HRF.out).mono ?_
            rintro e w5 ⟨h5, m5, rfl⟩
            exact ⟨h5, q + m5, by rw [World.drewN_drewN]⟩⟩
          go_quiet (first | (go_at_call 14; refine HQ.out _))
          cases gk with
          | zero => exact absurd jkq.out (by omega)
          | succ k1 =>
            go_wp2
            go_roundg k1
            case measure => omega
            case rel => exact ⟨j + 1, rfl, by omega, ⟨by have := jkq.out; omega⟩, ⟨Kd.C_drewN JC.out _⟩, ⟨pw_below_drewN JB.out _⟩⟩
        · have hjb : decide (j < (n : Int)) = false := decide_eq_false hj
          go_wp2
          go_ret
          exact ⟨rfl, JB.out⟩
end Go.Proofs.Ytmaehbdpmdgpaaa
