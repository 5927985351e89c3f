/- The law CutAll: what it does. -/
import Derived.Test.YtmaehbdpmdgpaaaPure1
import Derived.Test.YtmaehbdpmdgpaaaLCutNone
namespace Go.Proofs.Ytmaehbdpmdgpaaa
open Go.RowKit Go.Proofs.YtmaehbdpmdgpaaaW.PrintWords Go.Proofs.YtmaehbdpmdgpaaaW.PrintLast Go.Proofs.YtmaehbdpmdgpaaaW.PrintMore Go.Proofs.Ytmaehbdpmdgpaaa.PCut
set_option linter.unusedVariables false
set_option linter.unusedSimpArgs false
theorem round_rel {w w' : World} {v : Value} {A6 : Option Addr} {c6 : Nat} {S : List S34} {x6 : Int} {k1 : Nat} (hkq : x6.toNat + (k1 + 1) = S.length) (g0 : 0 ≤ x6) (hx : x6 ≤ 20000)
    (hN : Aside0 (Kd.N k34 34 w' w.heap.size (fun k => w.heap.size ≤ k ∧ some k ≠ v.ownBlock) (.slice A6 S.length c6) S)) (hB : Aside0 (Below w.heap.size w w')) (hR : Aside0 ((Kd.int .u8).R 5 w' w.heap.size (fun _ => True) v (joinS (S.take (x6.toNat + 1))))) :
    ∃ y6 : Int, Value.int .i64 (x6 + 1) = .int .i64 y6 ∧ 0 ≤ y6 ∧ Aside0 (y6.toNat + k1 = S.length) ∧ Aside0 (Kd.N k34 34 w' w.heap.size (fun k => w.heap.size ≤ k ∧ some k ≠ v.ownBlock) (.slice A6 S.length c6) S) ∧ Aside0 ((Kd.int .u8).R 5 w' w.heap.size (fun _ => True) v (joinS (S.take y6.toNat))) ∧ Aside0 (Below w.heap.size w w') := by
  have e2 : (x6 + 1).toNat = x6.toNat + 1 := by omega
  exact ⟨x6 + 1, rfl, by omega, ⟨by omega⟩, hN, by rw [e2]; exact hR, hB⟩
set_option maxHeartbeats 4000000 in
set_option maxRecDepth 100000 in
theorem cutAll_law (w : World) (A : Option Addr) (c : Nat) (xs : List Int) (h : (Kd.int .u8).C w A xs.length xs) (hc : xs.length ≤ c) (hx : ∀ x ∈ xs, 0 ≤ x ∧ x ≤ 255) :
    Calls Try.prog 4 #[.slice A xs.length c] w fun e w' => e = .returned (.bool true) ∧ Below w.heap.size w w' := by
  by_cases hl : 20000 < xs.length
  · clear h hc hx
    have hb : decide ((xs.length : Int) > 20000) = true := decide_eq_true (by omega)
    go_enter Try.func4, Try.ntmps4
    go_wp2_with fail
    refine (answers_calls _).mono ?_
    rintro e w1 ⟨rfl, hb⟩
    have HB := Aside0.mk hb
    clear hb
    go_wp2
    go_ret
    exact ⟨rfl, HB.out⟩
  have hlb : decide ((xs.length : Int) > 20000) = false := decide_eq_false (by omega)
  have hl2 : xs.length ≤ 20000 := by omega
  have HI := Aside0.mk h
  have HIC := Aside0.mk hc
  have HX := Aside0.mk hx
  clear h hc hx hl
  obtain ⟨T1, hT1⟩ : ∃ T, allP (([] ++ xs).length + 2) ([] ++ xs) 0 false = T := ⟨_, rfl⟩
  obtain ⟨i1, i2, i3⟩ := allP_ok false (([] ++ xs).length + 2) ([] ++ xs) 0
  rw [hT1] at i1 i2 i3
  obtain ⟨ps1, ys, at1⟩ := T1
  simp only [List.nil_append, Int.zero_add] at i1 i2 i3
  obtain ⟨T2, hT2⟩ : ∃ T, allP (ys.length + 2) ys at1 true = T := ⟨_, rfl⟩
  obtain ⟨k1, k2, k3⟩ := allP_ok true (ys.length + 2) ys at1
  have k4 := allP_end (ys.length + 2) ys at1 (by omega)
  rw [hT2] at k1 k2 k3 k4
  obtain ⟨ps2, zs, at2⟩ := T2
  simp only at k1 k2 k3 k4
  subst k4
  rw [List.append_nil] at k2
  obtain ⟨S1, hS1⟩ : ∃ S, ps1.map toS = S := ⟨_, rfl⟩
  obtain ⟨S2, hS2⟩ : ∃ S, ps2.map toS = S := ⟨_, rfl⟩
  rw [hS1] at i1 i2 i3
  rw [hS2] at k1 k2 k3
  have hok : AllOk 0 (S1 ++ S2) := AllOk.append i1 (by rw [Int.zero_add, ← i3]; exact k1)
  have hjo : joinS (S1 ++ S2) = xs := by rw [joinS_append, k2, i2]
  have hyl : ys.length ≤ xs.length := by rw [← i2, List.length_append]; omega
  have hat : 0 ≤ at1 ∧ at1 ≤ xs.length := by rw [i3, ← i2, List.length_append]; omega
  have hn1 : S1.length + S2.length ≤ 20000 := by have := AllOk.count hok; rw [hjo, List.length_append] at this; omega
  have hSl : (S1 ++ S2).length = S1.length + S2.length := List.length_append
  have HJ := Aside0.mk hjo
  have HOK := Aside0.mk hok
  have HT1 := Aside0.mk hT1
  have HT2 := Aside0.mk hT2
  have HS1 := Aside0.mk hS1
  have HS2 := Aside0.mk hS2
  have HSL := Aside0.mk hSl
  clear hT1 hT2 hS1 hS2 i1 i2 i3 k1 k2 k3 hok hjo hSl
  obtain ⟨hat0, hat1⟩ := hat
  go_enter Try.func4, Try.ntmps4
  go_wp2_with fail
  refine (new_calls w w.heap.size (Nat.le_refl _)).mono ?_
  rintro e w1 ⟨g, rfl, hg, hcu, hb⟩
  have HC := Aside0.mk hcu
  have HB1 := Aside0.mk hb
  clear hcu hb
  go_wp2_with fail
  refine (feed_calls _ w.heap.size g none 0 [] 0 HC.out HB1.out.size A c xs (Kd.C_below HI.out HB1.out) HIC.out HX.out (by omega) (by simp; omega) (by simp; omega)).mono ?_
  rw [HT1.out, HS1.out]
  rintro e w2 ⟨v1, rfl, A1, c1, F1⟩
  have RF1 := Aside0.mk F1
  clear F1
  go_wp2_with fail
  refine (end_calls _ w.heap.size g A1 c1 ys at1 RF1.out.cu hat0 (by omega) (by omega)).mono ?_
  rw [HT2.out, HS2.out]
  rintro e w3 ⟨v2, rfl, A2, c2, F2⟩
  have hb3 : Below w.heap.size w w3 := (HB1.out.trans RF1.out.below).trans F2.below
  obtain ⟨hN, A3, c3, rfl, hF⟩ := two_rows (fun k e => by cases e) HB1.out.size RF1.out F2
  obtain ⟨A4, c4, rfl⟩ := Kd.N_slice hN
  have HN := Aside0.mk hN
  have HF := Aside0.mk hF
  have HB3 := Aside0.mk hb3
  clear hN hF hb3 F2
  go_wp2_with (((with_reducible refine gate_builtin (b := .append) (xs := #[.tmp 14, .tmp 16]) rfl ?_); at_builtin; refine Kd.N_append_rows k34 (w0 := w) w.heap.size rfl (.tmp 14) (.tmp 16) 26 34 (.agg #[(.int .i64 0), (.bool false), (.slice none 0 0)]) 40 rfl Try.underlying26 info34 rfl (by decide) (by omega) _ S1 S2 A3 S2.length c3 (fun k => w.heap.size ≤ k) _ rfl rfl HN.out HF.out (fun _ hk => hk) ?aF HB3.out ?aS ?aL ?_; (case aF => exact fun k hk => Nat.le_trans HB3.out.size hk); (case aS => exact HB3.out.size); (case aL => omega); intro v3 w4 ho hb hg hat; have HL := Aside0.mk ho; have HB4 := Aside0.mk hb; clear ho hb hg hat))
  obtain ⟨A6, c6, rfl⟩ := Kd.N_slice HL.out
  obtain ⟨S, hS⟩ : ∃ S, S1 ++ S2 = S := ⟨_, rfl⟩
  rw [hS] at HL HJ HOK HSL ⊢
  have hsn : S.length ≤ 20000 := by have := HSL.out; omega
  clear hS HSL HN HF HB3 RF1 HC HT1 HT2 HS1 HS2
  go_wp2_with fail
  go_loopg [5, 6] S.length (fun kq v5 v6 w' => ∃ x6 : Int, v6 = .int .i64 x6 ∧ 0 ≤ x6 ∧ Aside0 (x6.toNat + kq = S.length) ∧ Aside0 (Kd.N k34 34 w' w.heap.size (fun k => w.heap.size ≤ k ∧ some k ≠ v5.ownBlock) (.slice A6 S.length c6) S) ∧ Aside0 ((Kd.int .u8).R 5 w' w.heap.size (fun _ => True) v5 (joinS (S.take x6.toNat))) ∧ Aside0 (Below w.heap.size w w'))
  case atStart => exact ⟨0, rfl, by omega, ⟨by simp⟩, ⟨Kd.N_apart_nil HL.out⟩, ⟨by simpa [joinS] using Kd.R_nil _ _ _ _ _⟩, HB4⟩
  case round =>
    obtain ⟨x6, rfl, g0, hkq, hRN, hRA, hRB⟩ := hrel
    obtain ⟨J, hJ⟩ : ∃ J, joinS (S.take x6.toNat) = J := ⟨_, rfl⟩
    rw [hJ] at hRA
    obtain ⟨A7, c7, rfl⟩ := Kd.R_slice hRA.out
    have hJl : J.length ≤ 20000 := by have := join_take S x6.toNat; rw [hJ, HJ.out] at this; omega
    have HJJ := Aside0.mk hJ
    clear hJ
    by_cases hi : x6 < S.length
    · have hib : decide (x6 < (S.length : Int)) = true := decide_eq_true hi
      obtain ⟨ad, A5, c5, e, h0, h1, h2, hl5, hC5⟩ := at_T34 (Kd.N_reads' hRN.out).2.2 x6 g0 hi
      obtain rfl := e
      obtain ⟨f1, f2, f3, f4⟩ := AllOk.at HOK.out x6.toNat (by omega)
      have hrd : rd_T34 S x6 = S.getD x6.toNat z34 := rfl
      rw [hrd] at h0 h1 h2 hl5 hC5
      obtain ⟨⟨p0, p1, p2⟩, hp⟩ : ∃ p, S.getD x6.toNat z34 = p := ⟨_, rfl⟩
      rw [hp] at h0 h1 h2 hl5 hC5 f1 f2 f3 f4
      simp only at h0 h1 h2 hl5 hC5 f1 f2 f3 f4
      rw [HJJ.out] at f1 f4
      rw [Int.zero_add] at f1
      subst f1
      have hp2 : p2.length ≤ 20000 := by
        have := join_take S (x6.toNat + 1)
        rw [f4, HJ.out, List.length_append] at this; omega
      have HF4 := Aside0.mk f4
      have HC5 := Aside0.mk hC5
      have HF3 := Aside0.mk f3
      cases p1 with
      | false =>
        have hz : ((p2.length : Int) == 0) = false := by rw [beq_eq_false_iff_ne]; omega
        have hm : Aside0 (1 ≤ p2.length) := ⟨f2⟩
        clear hrd hp f3 f4 hC5 f2
        go_wp2
        go_region
        go_wp2_with (((with_reducible refine gate_builtin (b := .append) (xs := #[.tmp 74, .tmp 79]) rfl ?_); at_builtin; refine Kd.R_append_rows (Kd.int .u8) (w0 := w) w.heap.size rfl (.tmp 74) (.tmp 79) 22 5 (.int .u8 0) 1 rfl Try.underlying22 info5 rfl (by decide) (by omega) (.slice A7 J.length c7) J p2 _ _ _ (fun _ => True) (fun _ => False) rfl rfl ?aO ?aR (fun _ _ h => h) (fun _ h => h.elim) ?aF ?aB ?aS ?aL ?_; (case aO => exact Kd.R_drew hRA.out); (case aR => exact Kd.C_below HC5.out (below_drew (Below.refl _ _))); (case aF => exact fun _ _ => trivial); (case aB => exact hRB.out.drew); (case aS => exact hRB.out.size); (case aL => omega); intro v1 w1 ho hb hg hat; have HO := Aside0.mk ho; have HB := Aside0.mk hb; have HNN := Aside0.mk (Kd.N_afterv (Kd.N_drew hRN.out) hg hat); clear ho hb hg hat))
        cases gk with
        | zero => exact absurd hkq.out (by omega)
        | succ k1 =>
          go_roundg k1
          case measure => omega
          case rel => exact round_rel hkq.out g0 (by omega) HNN HB (by rw [HF4.out]; exact HO)
      | true =>
        obtain ⟨m, hm⟩ : ∃ m, p2.length = m + 1 := ⟨p2.length - 1, by omega⟩
        obtain ⟨q1, q2⟩ := f3 rfl
        obtain ⟨ad5, rfl, hcell⟩ := (Kd.reads_of_C (enc := Value.int .u8) (d := (0:Int)) (h1 := fun _ => rfl) hC5).2.2 (by omega)
        have hcm := hcell m (by omega)
        rw [hm] at q2
        rw [show m + 1 - 1 = m from rfl] at q2
        rw [q2] at hcm
        have hz : ((m : Int) + 1 == 0) = false := by rw [beq_eq_false_iff_ne]; omega
        have hz2 : decide ((m : Int) + 1 < 26) = false := decide_eq_false (by omega)
        have hmb : m ≤ 20000 := by omega
        clear hrd hp f3 f4 hC5 f2 hcell q1 q2
        go_wp2
        go_region
        go_wp2_with (((with_reducible refine gate_builtin (b := .append) (xs := #[.tmp 74, .tmp 79]) rfl ?_); at_builtin; refine Kd.R_append_rows (Kd.int .u8) (w0 := w) w.heap.size rfl (.tmp 74) (.tmp 79) 22 5 (.int .u8 0) 1 rfl Try.underlying22 info5 rfl (by decide) (by omega) (.slice A7 J.length c7) J p2 _ _ _ (fun _ => True) (fun _ => False) rfl rfl ?aO ?aR (fun _ _ h => h) (fun _ h => h.elim) ?aF ?aB ?aS ?aL ?_; (case aO => exact Kd.R_drew hRA.out); (case aR => rw [← hm]; exact Kd.C_below HC5.out (below_drew (Below.refl _ _))); (case aF => exact fun _ _ => trivial); (case aB => exact hRB.out.drew); (case aS => exact hRB.out.size); (case aL => omega); intro v1 w1 ho hb hg hat; have HO := Aside0.mk ho; have HB := Aside0.mk hb; have HNN := Aside0.mk (Kd.N_afterv (Kd.N_drew hRN.out) hg hat); clear ho hb hg hat))
        cases gk with
        | zero => exact absurd hkq.out (by omega)
        | succ k1 =>
          go_roundg k1
          case measure => omega
          case rel => exact round_rel hkq.out g0 (by omega) HNN HB (by rw [HF4.out]; exact HO)
    · obtain rfl : x6 = S.length := by have := hkq.out; omega
      have hib : decide ((S.length : Int) < (S.length : Int)) = false := decide_eq_false (by omega)
      have hJx : J = xs := by rw [← HJJ.out, ← HJ.out]; simp
      subst hJx
      go_wp2_with fail
      refine (answers_calls _).mono ?_
      rintro e w5 ⟨rfl, hb5⟩
      have HB5 := Aside0.mk hb5
      have HBF := Aside0.mk (hRB.out.trans (hb5.mono hRB.out.size))
      clear hb5
      go_wp2_with fail
      refine (amanuensisref01_Same.calls _ A7 c7 J A c J true w5 (Kd.C_below (Kd.R_reads' hRA.out).2.2 HB5.out) (Kd.R_reads' hRA.out).2.1 (Kd.C_below HI.out HBF.out) HIC.out (same_refl J (by omega))).mono ?_
      rintro e w6 ⟨rfl, ⟨m6, rfl⟩⟩
      go_wp2
      go_ret
      exact ⟨rfl, pw_below_drewN HBF.out m6⟩
end Go.Proofs.Ytmaehbdpmdgpaaa
