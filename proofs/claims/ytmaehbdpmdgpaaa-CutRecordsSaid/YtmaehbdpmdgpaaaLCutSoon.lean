/- The law CutSoon: what it does. -/
import Derived.Test.YtmaehbdpmdgpaaaPure5
import Derived.Test.YtmaehbdpmdgpaaaPiA
import Derived.Deep.RegionLaw
namespace Go.Proofs.Ytmaehbdpmdgpaaa
open Go.RowKit Go.Proofs.YtmaehbdpmdgpaaaW.PrintWords Go.Proofs.YtmaehbdpmdgpaaaW.PrintLast Go.Proofs.YtmaehbdpmdgpaaaW.PrintMore Go.Proofs.Ytmaehbdpmdgpaaa.PCut
set_option linter.unusedVariables false
set_option linter.unusedSimpArgs false
theorem feed_l (w : World) (B g : Nat) (A : Option Addr) (c : Nat) (xs : List Int) (at0 : Int) (h : IsC w B g (.slice A xs.length c) xs at0 false) (hB : B ≤ w.heap.size) (A2 : Option Addr) (c2 : Nat) (ys : List Int) (m : Nat) (hm : ys.length = m) (hy : (Kd.int .u8).C w A2 m ys) (hyc : m ≤ c2) (hyb : ∀ x ∈ ys, 0 ≤ x ∧ x ≤ 255)
    (h0 : 0 ≤ at0) (h1 : at0 + (xs ++ ys).length ≤ 4611686018427387904) (hN : (xs ++ ys).length ≤ 1000000) {zs : List Int} (hz : xs ++ ys = zs) {ps : List (Int × Bool × List Int)} {r : List Int} {a : Int} (hT : allF zs at0 false = (ps, r, a)) {S : List S34} (hS : ps.map toS = S) :
    Calls Try.prog 10 #[.pointer (some ⟨g, 0, none⟩), .slice A2 m c2] w fun e w' => ∃ v : Value, e = .returned v ∧ ∃ A1 c1, Fed w w' (Value.slice A xs.length c).ownBlock B g v S A1 c1 r a false := by
  subst hm hz hS
  have := feed_calls w B g A c xs at0 h hB A2 c2 ys hy hyc hyb h0 h1 hN
  rw [show allP ((xs ++ ys).length + 2) (xs ++ ys) at0 false = (ps, r, a) from hT] at this
  exact this
theorem IsC.drew {w : World} {B g : Nat} {v : Value} {xs : List Int} {at0 : Int} {en : Bool} (h : IsC w B g v xs at0 en) : IsC w.drew B g v xs at0 en := ⟨h.blk, h.ge, Kd.R_drew h.row, h.byt, h.len⟩
theorem two_rows_a {w w2 w3 : World} {B g : Nat} {o : Option Nat} {v1 v2 : Value} {ps1 ps2 : List S34} {A1 A2 : Option Addr} {c1 c2 : Nat} {ys zs : List Int} {at1 at2 : Int} {e1 e2 : Bool} (ho : ∀ k, o = some k → B ≤ k) (hB : B ≤ w.heap.size)
    (F1 : Fed w w2 o B g v1 ps1 A1 c1 ys at1 e1) (F2 : Fed w2 w3 (Value.slice A1 ys.length c1).ownBlock B g v2 ps2 A2 c2 zs at2 e2) :
    Aside0 (Kd.N k34 34 w3 B (fun k => B ≤ k) v1 ps1) ∧ ∃ A c, v2 = .slice A ps2.length c ∧ Aside0 (Kd.F k34 w3 (fun k => B ≤ k ∧ some k ≠ v1.ownBlock) A ps2.length ps2) := by
  obtain ⟨h1, A, c, h2, h3⟩ := two_rows ho hB F1 F2
  exact ⟨⟨h1⟩, A, c, h2, ⟨h3⟩⟩
theorem same_m (k : Nat) (A0 : Option Addr) (c0 : Nat) (l0 : List S34) (A1 : Option Addr) (c1 : Nat) (l1 : List S37) (n : Nat) (hn : l1.length = n) (w : World) (hr0 : Kd.C k34 w A0 l0.length l0) (hc0 : l0.length ≤ c0) (hr1 : Kd.C k37 w A1 l1.length l1) (hc1 : n ≤ c1) (h : amanuensislaw27_same.f k l0 l1 = some true) :
    Calls Try.prog 12 #[.slice A0 l0.length c0, .slice A1 n c1] w fun e w' => e = .returned (.bool true) ∧ Below w.heap.size w w' := by
  subst hn
  exact amanuensislaw27_same.calls k A0 c0 l0 A1 c1 l1 true w hr0 hc0 hr1 hc1 h
theorem soon_same (b : List Int) (hb : b.length ≤ 3000) (L : List (Int × Bool × List Int)) (hL : (allF b 0 true).1 = L) (hl : L.length ≤ 3000) (n : Nat) : amanuensislaw27_same.f ((L.take n).length + 1000002) ((L.take n).map toS) ((L.map toT).take n) = some true := by
  rw [← List.map_take]
  refine same_is (L.take n) (by rw [List.length_take]; omega) (fun p hp => ?_)
  have hm : p ∈ (allF b 0 true).1 := by rw [hL]; exact List.mem_of_mem_take hp
  have := (allF_elem b b.length 0 (by omega) (by omega) p hm).2.2.1
  rw [this, List.length_take, List.length_drop]; omega
set_option maxHeartbeats 4000000 in
set_option maxRecDepth 100000 in
theorem cutSoon_law (w : World) (A : Option Addr) (c : Nat) (xs : List Int) (h : (Kd.int .u8).C w A xs.length xs) (hc : xs.length ≤ c) (hx : ∀ x ∈ xs, 0 ≤ x ∧ x ≤ 255) (n : Int) (hn0 : 0 ≤ n) (hn1 : n ≤ 65535) :
    Calls Try.prog 5 #[.slice A xs.length c, .int .u16 n] w fun e w' => e = .returned (.bool true) ∧ Below w.heap.size w w' := by
  by_cases hl : 3000 < xs.length ∨ xs.length = 0
  · clear h hc hx
    obtain ⟨b1, hb1⟩ : ∃ b, decide ((xs.length : Int) > 3000) = b := ⟨_, rfl⟩
    obtain ⟨b2, hb2⟩ : ∃ b, ((xs.length : Int) == 0) = b := ⟨_, rfl⟩
    have hor : b1 = true ∨ b2 = true := by
      rcases hl with h | h
      · left; rw [← hb1]; exact decide_eq_true (by omega)
      · right; rw [← hb2, beq_iff_eq]; omega
    clear hl
    cases b1 <;> cases b2 <;> first
      | (exfalso; simp at hor; done)
      | (clear hor
         go_enter Try.func5, Try.ntmps5
         go_wp2_with fail
         refine (answers_calls _).mono ?_
         rintro e w1 ⟨rfl, hb⟩
         have HB := Aside0.mk hb
         clear hb
         go_wp2
         go_ret
         exact ⟨rfl, HB.out⟩)
  have hb1 : decide ((xs.length : Int) > 3000) = false := decide_eq_false (by omega)
  have hb2 : ((xs.length : Int) == 0) = false := by rw [beq_eq_false_iff_ne]; omega
  have hl2 : xs.length ≤ 3000 := by omega
  have hl1 : 1 ≤ xs.length := by omega
  have HI := Aside0.mk h
  have HIC := Aside0.mk hc
  have HX := Aside0.mk hx
  obtain ⟨k, hk, hmod⟩ : ∃ k : Nat, k < xs.length ∧ n % (xs.length : Int) = (k : Int) := ⟨(n % (xs.length : Int)).toNat, by have := Int.emod_lt_of_pos n (show (0 : Int) < xs.length by omega); have := Int.emod_nonneg n (show (xs.length : Int) ≠ 0 by omega); omega, by have := Int.emod_nonneg n (show (xs.length : Int) ≠ 0 by omega); omega⟩
  clear h hc hx hl
  obtain ⟨⟨ps1, r1, a1⟩, hT1⟩ : ∃ T, allF (xs.take k) 0 false = T := ⟨_, rfl⟩
  obtain ⟨⟨ps2, r2, a2⟩, hT2⟩ : ∃ T, allF (r1 ++ xs.drop k) a1 false = T := ⟨_, rfl⟩
  obtain ⟨hbd1, hbd2, hbd3⟩ := part_bounds hT1 (by omega)
  obtain ⟨L, hL⟩ : ∃ L, (allF xs 0 true).1 = L := ⟨_, rfl⟩
  have hsp : ps1 ++ ps2 = L.take (wantL xs L) := by
    have h1 := allF_split (xs.drop k) false (xs.take k).length (xs.take k) 0 (Nat.le_refl _)
    rw [List.take_append_drop, hT1] at h1
    simp only at h1
    rw [hT2] at h1
    have h2 := soon_take xs xs.length 0 (by omega) (by omega)
    rw [List.drop_zero, show ((0 : Nat) : Int) = 0 from rfl, hL, h1] at h2
    exact h2
  have hLo := allF_ok (show allF xs 0 true = (L, (allF xs 0 true).2.1, (allF xs 0 true).2.2) by rw [← hL])
  have hLn : (L.map toS).length ≤ 3000 := by
    have := AllOk.count hLo.1
    have h2 := congrArg List.length hLo.2.1
    rw [List.length_append] at h2; omega
  obtain ⟨S1, hS1⟩ : ∃ S, ps1.map toS = S := ⟨_, rfl⟩
  obtain ⟨S2, hS2⟩ : ∃ S, ps2.map toS = S := ⟨_, rfl⟩
  have hSS : S1 ++ S2 = (L.take (wantL xs L)).map toS := by rw [← hsp, List.map_append, hS1, hS2]
  have hn1 : S1.length + S2.length ≤ 3000 := by
    have := congrArg List.length hSS
    rw [List.length_append, List.length_map, List.length_take] at this
    rw [List.length_map] at hLn; omega
  have hyk : (xs.take k).length = k := by rw [List.length_take]; omega
  have HT1 := Aside0.mk hT1
  have HT2 := Aside0.mk hT2
  have HS1 := Aside0.mk hS1
  have HS2 := Aside0.mk hS2
  have HSS := Aside0.mk hSS
  have HL := Aside0.mk hL
  have HLN := Aside0.mk hLn
  have HN1 := Aside0.mk hn1
  have HYK := Aside0.mk hyk
  clear hT1 hT2 hS1 hS2 hSS hL hLn hn1 hyk hLo hsp hbd3
  go_enter Try.func5, Try.ntmps5
  go_wp2_with fail
  refine (new_calls w w.heap.size (Nat.le_refl _)).mono ?_
  rintro e w1 ⟨g, rfl, hg, hcu, hb⟩
  have HC := Aside0.mk hcu
  have HB1 := Aside0.mk hb
  clear hcu hb
  obtain ⟨i05, hi05, _, hsz5, _⟩ := info_parts info5
  obtain ⟨A5, hdrop, hdr, hdc⟩ := print_cut_int (P := Try.prog) (k := .u8) 22 5 Try.underlying22 hi05 hsz5 A c xs (k : Int) (by omega) (by omega) HIC.out
  rw [Int.toNat_natCast] at hdrop hdr hdc
  have hroom : k ≤ c := Nat.le_trans (Nat.le_of_lt hk) HIC.out
  have HDR : Aside0 ((Kd.int .u8).C w A5 (xs.drop k).length (xs.drop k)) := ⟨Kd.C_of_reads (enc := Value.int .u8) (d := (0 : Int)) (h1 := fun _ => rfl) (hdr w (Kd.reads_of_C (enc := Value.int .u8) (d := (0 : Int)) (h1 := fun _ => rfl) HI.out))⟩
  have HDC := Aside0.mk hdc
  have HFX : Aside0 (∀ x ∈ xs.take k, 0 ≤ x ∧ x ≤ 255) := ⟨fun x hx => HX.out x (List.mem_of_mem_take hx)⟩
  have HFY : Aside0 (∀ x ∈ xs.drop k, 0 ≤ x ∧ x ≤ 255) := ⟨fun x hx => HX.out x (List.mem_of_mem_drop hx)⟩
  clear hdr hdc hi05 hsz5
  have hdl : (xs.drop k).length = xs.length - k := List.length_drop
  have HDL := Aside0.mk hdl
  clear hdl
  have HON : Aside0 (∀ k, (Value.slice none ([] : List Int).length 0).ownBlock = some k → w.heap.size ≤ k) := ⟨fun k e => by simp [Value.ownBlock] at e⟩
  go_wp2
  go_region_law (first
    | (refine Kd.N_append_rows_step k34 (w0 := w) w.heap.size rfl (.tmp 37) (.tmp 42) 26 34 (.agg #[(.int .i64 0), (.bool false), (.slice none 0 0)]) 40 rfl Try.underlying26 info34 rfl (by decide) (by omega) _ S1 S2 A6 S2.length c6 (fun k => w.heap.size ≤ k) _ rfl rfl HN.out HF.out (fun _ hk => hk) ?aF HB3.out ?aS ?aL ?_
       (case aF => exact fun k hk => Nat.le_trans HB3.out.size hk)
       (case aS => exact HB3.out.size)
       (case aL => have := HN1.out; omega)
       intro v3 w4 ho hb hg hat
       have HN4 := Aside0.mk ho
       have HB4 := Aside0.mk hb
       clear ho hb hg hat)
    | (go_simp
       go_at_call_of 10 (Value.slice A k c)
       refine (feed_l _ w.heap.size g none 0 [] 0 ?h1 ?h2 A c (xs.take k) k HYK.out ?h3 hroom HFX.out (Int.le_refl 0) ?h4 ?h5 (List.nil_append _) HT1.out HS1.out).mono ?h6
       (case h1 => exact HC.out.drew)
       (case h2 => exact HB1.out.size)
       (case h3 => have := Kd.C_take HI.out (m := k) (by omega); rw [HYK.out] at this; exact Kd.C_drew (Kd.C_below this HB1.out))
       (case h4 => rw [List.nil_append, HYK.out]; omega)
       (case h5 => rw [List.nil_append, HYK.out]; omega)
       rintro e w2 ⟨v1, rfl, A1, c1, F1⟩
       have RF1 := Aside0.mk F1
       clear F1)
    | (go_simp
       go_at_call 10
       refine (feed_l _ w.heap.size g A1 c1 r1 a1 ?q1 ?q2 A5 (c - k) (xs.drop k) _ ?q0 ?q3 ?qc HFY.out hbd2 ?q4 ?q5 rfl HT2.out HS2.out).mono ?q6
       (case q0 => first | rfl | exact HDL.out)
       (case q1 => exact RF1.out.cu)
       (case q2 => exact (HB1.out.drew.trans RF1.out.below).size)
       (case q3 => first | exact Kd.C_below HDR.out (HB1.out.drew.trans RF1.out.below) | (have := Kd.C_below HDR.out (HB1.out.drew.trans RF1.out.below); rw [HDL.out] at this; exact this))
       (case qc => first | exact HDC.out | (have := HDC.out; rw [HDL.out] at this; exact this))
       (case q4 => have := HDL.out; rw [List.length_append]; omega)
       (case q5 => have := HDL.out; rw [List.length_append]; omega)
       rintro e w3 ⟨v2, rfl, A2, c2, F2⟩
       have HB3 : Aside0 (Below w.heap.size w w3) := ⟨(HB1.out.drew.trans RF1.out.below).trans F2.below⟩
       obtain ⟨HN, A6, c6, rfl, HF⟩ := two_rows_a HON.out HB1.out.drew.size RF1.out F2))
  obtain ⟨S, hS⟩ : ∃ S, S1 ++ S2 = S := ⟨_, rfl⟩
  have HSS' := HSS.out
  have hSn : S.length ≤ 3000 := by have := HN1.out; rw [← hS, List.length_append]; omega
  rw [hS] at HN4 HSS'
  have HSL := Aside0.mk HSS'
  obtain ⟨A7, c7, rfl⟩ := Kd.N_slice HN4.out
  clear hS HSS HSS' HN HF HB3 RF1 HC HT1 HT2 HS1 HS2 HN1 HYK HDR HDC HFX HFY HDL hdrop
  go_wp2_with fail
  clear F2
  obtain ⟨kc, hkc⟩ := cut_is xs (by omega)
  rw [HL.out] at hkc
  obtain ⟨U, hU⟩ : ∃ U, L.map toT = U := ⟨_, rfl⟩
  rw [hU] at hkc
  refine (amanuensisref19_Cut.calls kc (fun k => k < w4.heap.size) A c xs U w4 (Kd.V_mk HIC.out (Kd.C_F (Kd.heap_int .u8) (Kd.C_below HI.out HB4.out))) hkc).mono ?_
  rintro e w5 ⟨v5, rfl, hN5, hb5⟩
  obtain ⟨A8, c8, rfl⟩ := Kd.N_slice hN5
  have hU5 := Kd.N_reads' hN5
  have hS5 := Kd.N_reads' (Kd.N_below HN4.out hb5)
  have hUl : U.length = L.length := by rw [← hU, List.length_map]
  have hLl : L.length ≤ 3000 := by have := HLN.out; rwa [List.length_map] at this
  have HU5 := Aside0.mk hU5.2.2
  have HUC := Aside0.mk hU5.2.1
  have HS5 := Aside0.mk hS5.2.2
  have HSC := Aside0.mk hS5.2.1
  have HBW := Aside0.mk (HB4.out.trans (hb5.mono HB4.out.size))
  have HX5 := Aside0.mk (Kd.C_below HI.out HBW.out)
  have hUn : U.length ≤ 3000 := by omega
  have hsm := soon_same xs hl2 L HL.out hLl (wantL xs L)
  rw [hU, ← HSL.out] at hsm
  have HSM := Aside0.mk hsm
  have HU := Aside0.mk hU
  obtain ⟨ab, rfl, _⟩ := Kd.at_int HX5.out 0 (by omega) (by omega)
  have HUL := Aside0.mk hUl
  clear hsm hkc hU hUl hLl hU5 hS5 hN5 hb5 HB4 HN4 HB1 HON HLN hroom HI
  go_wp2
  go_loopg [9, 10] U.length (fun kq v9 v10 w' => ∃ x : Int, v9 = .int .i64 x ∧ v10 = .int .i64 x ∧ 0 ≤ x ∧ Aside0 (x.toNat + kq = U.length) ∧ Aside0 (WantI xs L x) ∧ w5 = w')
  case atStart => exact ⟨0, rfl, rfl, by omega, ⟨by simp⟩, ⟨WantI.zero _ _⟩, rfl⟩
  case round =>
    obtain ⟨x, rfl, rfl, g0, hkq, HW, rfl⟩ := hrel
    by_cases hi : x < U.length
    · have hib : decide (x < (U.length : Int)) = true := decide_eq_true hi
      cases gk with
      | zero => exact absurd hkq.out (by omega)
      | succ k1 =>
        obtain ⟨⟨a, pg, px⟩, hp, hd, hp0, hp1, hpx, hpl⟩ := elem_at xs L HL.out x g0 (by rw [HU.out]; exact hi)
        obtain ⟨ad, A9, c9, e, m0, m1, m2, ml, mC⟩ := at_T37 HU5.out x g0 hi
        cases e
        rw [HU.out] at hp
        rw [hp] at m0 m1 m2 ml mC
        simp only [toT] at m0 m1 m2 ml mC hp0 hp1 hpx hpl hd
        obtain ⟨m, hm⟩ : ∃ m, px.length = m + 1 := ⟨px.length - 1, by omega⟩
        obtain ⟨ad5, rfl, hcell⟩ := (Kd.reads_of_C (enc := Value.int .u8) (d := (0:Int)) (h1 := fun _ => rfl) mC).2.2 (by omega)
        have hcm := hcell m (by omega)
        obtain ⟨cl, hcl⟩ : ∃ cl, px.getD m 0 = cl := ⟨_, rfl⟩
        rw [hcl] at hcm
        have hop : openP (xs.drop a.toNat) = (cl != 29) := by
          unfold openP; rw [← hpx, hm, ← hcl]; rfl
        have hml : m ≤ 3000 := by have := congrArg List.length hpx; rw [List.length_take, List.length_drop] at this; omega
        have HOP := Aside0.mk hop
        have HD := Aside0.mk hd
        have HP1 := Aside0.mk hp1
        clear hop hd hp hpx hcl hcell mC m1 hpl
        go_upto_region 12 with (fail)
        go_cut [12] (fun v12 wc => v12 = .bool (openP (xs.drop a.toNat)) ∧ w5 = wc)
        case first =>
          obtain ⟨bo, hbo⟩ : ∃ b, (cl != 29) = b := ⟨_, rfl⟩
          have hob := HOP.out
          rw [hbo] at hob
          have HOB := Aside0.mk hob
          clear hob
          go_wp2
          go_meet
          case rel => rw [HOB.out]; exact ⟨rfl, rfl⟩
        case rest =>
          obtain ⟨rfl, rfl⟩ := hcut
          clear hcm m2 hm hml ml
          go_wp2
          go_loopg [13] 6 (fun kq v13 w' => ∃ j : Int, v13 = .int .i64 j ∧ 0 ≤ j ∧ j ≤ 5 ∧ Aside0 (j.toNat + kq = 6) ∧ Aside0 (LeadI xs a j) ∧ w5 = w')
          case atStart => exact ⟨0, rfl, by omega, by omega, ⟨by omega⟩, ⟨LeadI.zero _ _⟩, rfl⟩
          case round =>
            obtain ⟨j, rfl, j0, j5, jkq, JL, rfl⟩ := hrel
            obtain ⟨cc, hcc⟩ : ∃ cc, rd xs (a + j) = cc := ⟨_, rfl⟩
            have HCC := Aside0.mk hcc
            clear hcc
            go_upto_region 14 with (fail)
            go_cut [103] (fun v103 wc => v103 = .bool (decide (j < 5 ∧ a + j < xs.length ∧ 48 ≤ cc ∧ cc ≤ 57)) ∧ w5 = wc)
            case first =>
              by_cases c1 : j < 5
              · have b1 : decide (j < 5) = true := decide_eq_true c1
                by_cases c2 : a + j < xs.length
                · have b2 : decide (a + j < (xs.length : Int)) = true := decide_eq_true c2
                  obtain ⟨ab2, e, hcb⟩ := Kd.at_int HX5.out (a + j) (by omega) c2
                  cases e
                  rw [HCC.out] at hcb
                  by_cases c3 : 48 ≤ cc
                  · have b3 : decide (48 ≤ cc) = true := decide_eq_true c3
                    by_cases c4 : cc ≤ 57
                    · have b4 : decide (cc ≤ 57) = true := decide_eq_true c4
                      have HDD : Aside0 (decide (j < 5 ∧ a + j < xs.length ∧ 48 ≤ cc ∧ cc ≤ 57) = true) := ⟨decide_eq_true ⟨c1, c2, c3, c4⟩⟩
                      go_wp2
                      go_meet
                      case rel => exact ⟨by rw [HDD.out], rfl⟩
                    · have b4 : decide (cc ≤ 57) = false := decide_eq_false c4
                      have HDD : Aside0 (decide (j < 5 ∧ a + j < xs.length ∧ 48 ≤ cc ∧ cc ≤ 57) = false) := ⟨decide_eq_false (fun h => c4 h.2.2.2)⟩
                      go_wp2
                      go_meet
                      case rel => exact ⟨by rw [HDD.out], rfl⟩
                  · have b3 : decide (48 ≤ cc) = false := decide_eq_false c3
                    have HDD : Aside0 (decide (j < 5 ∧ a + j < xs.length ∧ 48 ≤ cc ∧ cc ≤ 57) = false) := ⟨decide_eq_false (fun h => c3 h.2.2.1)⟩
                    go_wp2
                    go_meet
                    case rel => exact ⟨by rw [HDD.out], rfl⟩
                · have b2 : decide (a + j < (xs.length : Int)) = false := decide_eq_false c2
                  have HDD : Aside0 (decide (j < 5 ∧ a + j < xs.length ∧ 48 ≤ cc ∧ cc ≤ 57) = false) := ⟨decide_eq_false (fun h => c2 h.2.1)⟩
                  go_wp2
                  go_meet
                  case rel => exact ⟨by rw [HDD.out], rfl⟩
              · have b1 : decide (j < 5) = false := decide_eq_false c1
                have HDD : Aside0 (decide (j < 5 ∧ a + j < xs.length ∧ 48 ≤ cc ∧ cc ≤ 57) = false) := ⟨decide_eq_false (fun h => c1 h.1)⟩
                go_wp2
                go_meet
                case rel => exact ⟨by rw [HDD.out], rfl⟩
            case rest =>
              obtain ⟨rfl, rfl⟩ := hcut
              by_cases hc4 : j < 5 ∧ a + j < xs.length ∧ 48 ≤ cc ∧ cc ≤ 57
              · rw [decide_eq_true hc4]
                obtain ⟨c1, c2, c3, c4⟩ := hc4
                cases gk with
                | zero => exact absurd jkq.out (by omega)
                | succ k2 =>
                  go_wp2
                  go_roundg k2
                  case measure => omega
                  case rel => exact ⟨j + 1, rfl, by omega, by omega, ⟨by have := jkq.out; omega⟩, ⟨JL.out.next hp0 c1 c2 HCC.out c3 c4⟩, rfl⟩
              · rw [decide_eq_false hc4]
                have hjl := JL.out.stop hp0 (fun h1 h2 h3 => hc4 ⟨h1, h2, by rw [← HCC.out]; exact h3⟩)
                have HJ := Aside0.mk hjl
                clear hjl hc4 JL HCC
                go_wp2
                go_loopg [14, 15] 6 (fun kq v14 v15 w' => ∃ y v : Int, v14 = .int .i64 v ∧ v15 = .int .i64 y ∧ 0 ≤ y ∧ Aside0 (y.toNat + kq = 6) ∧ Aside0 (LenI xs a y v) ∧ w5 = w')
                case atStart => exact ⟨0, 0, rfl, rfl, by omega, ⟨by omega⟩, ⟨LenI.zero _ _⟩, rfl⟩
                case round =>
                  obtain ⟨y, v, rfl, rfl, y0, ykq, YL, rfl⟩ := hrel
                  obtain ⟨v0, v1', v2'⟩ := YL.out.bound
                  by_cases hy : y < j
                  · have hyb : decide (y < j) = true := decide_eq_true hy
                    obtain ⟨s1, s2, s3, s4, s5⟩ := YL.out.step hp0 HP1.out HJ.out hy
                    obtain ⟨cy, hcy⟩ : ∃ cy, rd xs (a + y) = cy := ⟨_, rfl⟩
                    obtain ⟨ab2, e, hcb⟩ := Kd.at_int HX5.out (a + y) (by omega) s2
                    cases e
                    rw [hcy] at hcb s3 s4 s5
                    have HS := Aside0.mk s5
                    clear s5 hcy v2'
                    cases gk with
                    | zero => exact absurd ykq.out (by omega)
                    | succ k3 =>
                      go_wp2
                      go_roundg k3
                      case measure => omega
                      case rel => exact ⟨y + 1, 10 * v + (cy - 48), by go_num, rfl, by omega, ⟨by have := ykq.out; omega⟩, HS, rfl⟩
                  · have hyb : decide (y < j) = false := decide_eq_false hy
                    have hyj : y = j := by have := YL.out.2.1; have := HJ.out; omega
                    subst hyj
                    clear v2' ykq jkq
                    go_upto_region 21 with (fail)
                    go_cut [16] (fun v16 wc => v16 = .bool (shortP (xs.drop a.toNat)) ∧ w5 = wc)
                    case first =>
                      obtain ⟨b1, hb1⟩ : ∃ b, (a + y == (xs.length : Int)) = b := ⟨_, rfl⟩
                      obtain ⟨b2, hb2⟩ : ∃ b, decide (y < 5) = b := ⟨_, rfl⟩
                      have hs := short_is hp0 HP1.out HJ.out hb1 hb2
                      have HS := Aside0.mk hs
                      clear hs
                      cases b1 <;> cases b2 <;>
                        (go_wp2
                         go_meet
                         case rel => rw [HS.out]; exact ⟨rfl, rfl⟩)
                    case rest =>
                      obtain ⟨rfl, rfl⟩ := hcut
                      go_upto_region 22 with (fail)
                      go_cut [17] (fun v17 wc => v17 = .bool (waitP (xs.drop a.toNat)) ∧ w5 = wc)
                      case first =>
                        obtain ⟨b4, hb4⟩ : ∃ b, (y == 5) = b := ⟨_, rfl⟩
                        obtain ⟨b5, hb5⟩ : ∃ b, decide (26 ≤ v) = b := ⟨_, rfl⟩
                        obtain ⟨b6, hb6⟩ : ∃ b, decide ((xs.length : Int) < a + v) = b := ⟨_, rfl⟩
                        have hs := wait_is hp0 HP1.out HJ.out YL.out hb4 hb5 hb6
                        have HS := Aside0.mk hs
                        clear hs
                        cases b4 <;> cases b5 <;> cases b6 <;>
                          (go_wp2
                           go_meet
                           case rel => rw [HS.out]; exact ⟨rfl, rfl⟩)
                      case rest =>
                        obtain ⟨rfl, rfl⟩ := hcut
                        go_upto_region 23 with (fail)
                        go_cut [12, 16, 17, 164] (fun v12 v16 v17 v164 wc => v164 = .bool (breakP (xs.drop a.toNat)) ∧ w5 = wc)
                        case first =>
                          have hs : breakP (xs.drop a.toNat) = (openP (xs.drop a.toNat) || shortP (xs.drop a.toNat) || waitP (xs.drop a.toNat)) := rfl
                          obtain ⟨b1, hb1⟩ : ∃ b, openP (xs.drop a.toNat) = b := ⟨_, rfl⟩
                          obtain ⟨b2, hb2⟩ : ∃ b, shortP (xs.drop a.toNat) = b := ⟨_, rfl⟩
                          obtain ⟨b3, hb3⟩ : ∃ b, waitP (xs.drop a.toNat) = b := ⟨_, rfl⟩
                          rw [hb1, hb2, hb3] at hs
                          rw [hb1, hb2, hb3]
                          have HS := Aside0.mk hs
                          clear hs hb1 hb2 hb3
                          cases b1 <;> cases b2 <;> cases b3 <;>
                            (go_wp2
                             go_meet
                             case rel => rw [HS.out]; exact ⟨rfl, rfl⟩)
                        case rest =>
                          obtain ⟨rfl, rfl⟩ := hcut
                          obtain ⟨bb, hbb⟩ : ∃ b, breakP (xs.drop a.toNat) = b := ⟨_, rfl⟩
                          rw [hbb]
                          cases bb with
                          | false =>
                            have HWN := Aside0.mk (HW.out.next g0 HD.out hbb)
                            clear hbb
                            go_wp2
                            go_roundg k1
                            case measure => omega
                            case rel => exact ⟨x + 1, rfl, rfl, by omega, ⟨by have := hkq.out; omega⟩, HWN, rfl⟩
                          | true =>
                            obtain ⟨nw, hnw⟩ : ∃ nw, wantL xs L = nw := ⟨_, rfl⟩
                            have hxw := HW.out.stop HD.out hbb
                            rw [hnw] at hxw
                            subst hxw
                            have hxl : nw ≤ U.length := by have := HUL.out; have := wantL_le xs L; omega
                            have hxb : decide ((nw : Int) ≤ (U.length : Int)) = true := decide_eq_true (by omega)
                            have HSM' : Aside0 (amanuensislaw27_same.f ((L.take (wantL xs L)).length + 1000002) S (U.take nw) = some true) := ⟨by rw [← hnw]; exact HSM.out⟩
                            have hxc : nw ≤ c8 := by have := HUC.out; omega
                            clear hnw
                            clear hbb
                            go_wp2_with fail
                            refine (answers_calls _).mono ?_
                            rintro e w6 ⟨rfl, hb6⟩
                            have HS6 := Aside0.mk (Kd.C_below HS5.out hb6)
                            have HU6 := Aside0.mk (Kd.C_take (Kd.C_below HU5.out hb6) (m := nw) hxl)
                            have HB6 := Aside0.mk (HBW.out.trans (hb6.mono HBW.out.size))
                            clear hb6
                            go_wp2_with fail
                            refine (same_m _ A7 c7 S _ c8 (U.take nw) nw (by rw [List.length_take]; omega) w6 HS6.out HSC.out HU6.out hxc HSM'.out).mono ?_
                            rintro e w7 ⟨rfl, hb7⟩
                            have HB7 := Aside0.mk (HB6.out.trans (hb7.mono HB6.out.size))
                            clear hb7
                            go_wp2
                            go_ret
                            exact ⟨rfl, HB7.out⟩
    · have hib : decide (x < (U.length : Int)) = false := decide_eq_false hi
      obtain ⟨nw, hnw⟩ : ∃ nw, wantL xs L = nw := ⟨_, rfl⟩
      have hxw := HW.out.done (by have := HUL.out; omega)
      rw [hnw] at hxw
      subst hxw
      have hxl : nw ≤ U.length := by have := HUL.out; have := wantL_le xs L; omega
      have hxb : decide ((nw : Int) ≤ (U.length : Int)) = true := decide_eq_true (by omega)
      have HSM' : Aside0 (amanuensislaw27_same.f ((L.take (wantL xs L)).length + 1000002) S (U.take nw) = some true) := ⟨by rw [← hnw]; exact HSM.out⟩
      have hxc : nw ≤ c8 := by have := HUC.out; omega
      clear hnw
      go_wp2_with fail
      refine (answers_calls _).mono ?_
      rintro e w6 ⟨rfl, hb6⟩
      have HS6 := Aside0.mk (Kd.C_below HS5.out hb6)
      have HU6 := Aside0.mk (Kd.C_take (Kd.C_below HU5.out hb6) (m := nw) hxl)
      have HB6 := Aside0.mk (HBW.out.trans (hb6.mono HBW.out.size))
      clear hb6
      go_wp2_with fail
      refine (same_m _ A7 c7 S _ c8 (U.take nw) nw (by rw [List.length_take]; omega) w6 HS6.out HSC.out HU6.out hxc HSM'.out).mono ?_
      rintro e w7 ⟨rfl, hb7⟩
      have HB7 := Aside0.mk (HB6.out.trans (hb7.mono HB6.out.size))
      clear hb7
      go_wp2
      go_ret
      exact ⟨rfl, HB7.out⟩
end Go.Proofs.Ytmaehbdpmdgpaaa
