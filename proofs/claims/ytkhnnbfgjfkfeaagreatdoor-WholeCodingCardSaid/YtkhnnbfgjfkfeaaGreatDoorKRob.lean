/- field.one is walked. Conditions: those that each theorem states. -/
import Derived.Test.YtkhnnbfgjfkfeaaGreatDoorKRma
import Derived.Test.YtkhnnbfgjfkfeaaGreatDoorKRgb
namespace Go.Proofs.YtkhnnbfgjfkfeaaGreatDoor
open Go.RowKit Go.Proofs.YtkhnnbfgjfkfeaaGreatDoorW.PrintWords Go.Proofs.YtkhnnbfgjfkfeaaGreatDoorW.PrintLast Go.Proofs.YtkhnnbfgjfkfeaaGreatDoorW.PrintMore Go.Proofs.YtkhnnbfgjfkfeaaGreatDoor.PCod
set_option linter.unusedVariables false
set_option linter.unusedSimpArgs false
theorem at0 {W : World} {A : Option Addr} {n : Nat} {xs : List Int} (h : (Kd.int .u8).C W A n xs) (h0 : 0 < n) : ∃ ad, A = some ad ∧ W.cell? ad = some (.int .u8 (rd xs 0)) := by
  obtain ⟨ad, e, hc⟩ := Kd.at_int h 0 (by omega) (by omega)
  exact ⟨ad, e, by simpa [Addr.add] using hc⟩
theorem at1 {W : World} {ad : Addr} {n : Nat} {xs : List Int} (h : (Kd.int .u8).C W (some ad) n xs) (h0 : 1 < n) : W.cell? ⟨ad.block, ad.off + 1, none⟩ = some (.int .u8 (rd xs 1)) := by
  obtain ⟨ad', e, hc⟩ := Kd.at_int h 1 (by omega) (by omega)
  obtain rfl := Option.some.inj e
  simpa [Addr.add] using hc
/-- a subfield, of n bytes -/
def OneV (n : Nat) (e : Ending) : Prop := ∃ (c0 : Int) (A1 : Option Addr) (n1 c1 : Nat), e = .returned (.tuple #[.agg #[.int .u8 c0, .slice A1 n1 c1], .int .i64 n, .int .i64 0])
theorem fin58 {W : World} {g : Nat} {a0 a1 : Value} (h : W.heap[g]? = some (.cells #[a0, a1] 58 (0, 0))) (u v x : Value) : (((W.setCell ⟨g, 1, none⟩ u).setCell ⟨g, 0, none⟩ v).setCell ⟨g, 1, none⟩ x).heap[g]? = some (.cells #[v, x] 58 (0, 0)) :=
  blk_put (blk_put (blk_put h 1 u rfl) 0 v rfl) 1 x rfl
theorem fin58B {w W : World} {g : Nat} (hb : Below w.heap.size w W) (hg : w.heap.size ≤ g) (u v x : Value) : Below w.heap.size w (((W.setCell ⟨g, 1, none⟩ u).setCell ⟨g, 0, none⟩ v).setCell ⟨g, 1, none⟩ x) :=
  Below.setCell (Below.setCell (Below.setCell hb hg _) hg _) hg _
set_option maxHeartbeats 4000000 in
set_option maxRecDepth 100000 in
theorem one_calls (w : World) (A : Option Addr) (c : Nat) (xs : List Int) (h : (Kd.int .u8).C w A xs.length xs) (hc : xs.length ≤ c) (hl : xs.length ≤ 100000) (n : Nat) (hn : 2 ≤ n) (hle : n ≤ xs.length) (h0 : rd xs 0 = 31) (hcode : field_Code.f (rd xs 1) = some true)
    (hf : ∀ j, 2 ≤ j → j < n → field_Free.f (xs.getD j 0) = some true) (hs : n < xs.length → field_Free.f (xs.getD n 0) = some false) :
    Calls Tryz.prog 160 #[.slice A xs.length c] w fun e w' => OneV n e ∧ Below w.heap.size w w' := by
  have HI := Aside0.mk h
  have HF := Aside0.mk hf
  have HS := Aside0.mk hs
  have HC := Aside0.mk hc
  have HK := Aside0.mk hcode
  have HW : Aside0 (Below w.heap.size w (w.alloc (.cells #[.int .u8 0, .slice none 0 0] 58))) := ⟨below_alloc (Below.refl _ _) _⟩
  have H2 := Aside0.mk (blk_new w (.cells #[.int .u8 0, .slice none 0 0] 58))
  obtain ⟨ad, rfl, hc0⟩ := at0 (Kd.C_below h HW.out) (by omega)
  have hc1 := at1 (Kd.C_below h HW.out) (by omega)
  rw [h0] at hc0
  obtain ⟨cc, hcc⟩ : ∃ cc, rd xs 1 = cc := ⟨_, rfl⟩
  rw [hcc] at HK hc1
  have b1 : decide ((xs.length : Int) < 1) = false := decide_eq_false (by omega)
  have b2 : decide ((xs.length : Int) < 2) = false := decide_eq_false (by omega)
  have l0 : (0 : Int) < xs.length := by omega
  have l1 : (1 : Int) < xs.length := by omega
  clear h hf hs hc hcode h0 hcc
  go_enter Tryz.func160, Tryz.ntmps160
  go_wp2_with fail
  refine (told (field_Code.calls cc true _ HK.out)).mono ?_
  rintro e w1 ⟨rfl, hb, hh⟩
  have K2 := Aside0.mk (blk_below H2.out hb)
  have KW := Aside0.mk (below_then HW.out HW.out.size hb)
  have hc2 := at1 (Kd.C_below HI.out KW.out) (by omega)
  have hcc1 := pw_cell_below hb hc1
  obtain ⟨c20, c21, f2⟩ := cells2 K2.out
  clear hb hh hc0 hc1 hc2
  go_wp2
  obtain ⟨A', m, c', ys, hsl, hm, hm', hd, hC', hq⟩ := seg_is (some ad) c xs 2 n (by omega) (by omega) (by omega) HC.out
  subst hm
  have HC' : ∀ W : World, Below w.heap.size w W → (Kd.int .u8).C W A' ys.length ys := fun W hW => hC' W (Kd.C_below HI.out hW)
  have HCH := Aside0.mk HC'
  have hmy : ys.length ≤ 100000 := by omega
  clear hC' HC' hd hq
  have S2 := Aside0.mk (blk_put K2.out 0 (.int .u8 cc) rfl)
  have SW := Aside0.mk (Below.setCell KW.out (p := ⟨w.heap.size, 0, none⟩) (Nat.le_refl _) (.int .u8 cc))
  clear c20 c21 f2 K2 KW H2 HW hcc1
  go_loopg [3] (n - 2) (fun kq v3 w' => ∃ i : Int, v3 = .int .i64 i ∧ 2 ≤ i ∧ Aside0 (i.toNat + kq = n) ∧ Aside0 (w'.heap[w.heap.size]? = some (.cells #[.int .u8 cc, .slice none 0 0] 58 (0, 0))) ∧ Aside0 (Below w.heap.size w w'))
  case atStart => exact ⟨2, rfl, by omega, ⟨by omega⟩, S2, SW⟩
  case round =>
    obtain ⟨i, rfl, i0, ikq, KP, KQ⟩ := hrel
    by_cases hi : i < (n : Int)
    · have hib : decide (i < (xs.length : Int)) = true := decide_eq_true (by omega)
      have hil : i < (xs.length : Int) := by omega
      have hfr := HF.out i.toNat (by omega) (by omega)
      obtain ⟨ad1, had, hcb⟩ := Kd.at_int (Kd.C_below HI.out KQ.out) i (by omega) hil
      obtain rfl := Option.some.inj had
      obtain ⟨cf, hcf⟩ : ∃ cf, rd xs i = cf := ⟨_, rfl⟩
      rw [hcf] at hcb
      have HBF := Aside0.mk (field_Free.calls cf true wr (by rw [← hcf]; exact hfr))
      clear hcf hfr had
      go_wp2_with fail
      refine (told HBF.out).mono ?_
      rintro e w3 ⟨rfl, hb, hh⟩
      have KP1 := Aside0.mk (blk_below KP.out hb)
      have KQ1 := Aside0.mk (below_then KQ.out KQ.out.size hb)
      clear hb hh
      cases gk with
      | zero => exact absurd ikq.out (by omega)
      | succ k1 =>
        go_wp2
        go_roundg k1
        case measure => omega
        case rel => exact ⟨i + 1, rfl, by omega, ⟨by have := ikq.out; omega⟩, KP1, KQ1⟩
    · obtain rfl : i = (n : Int) := by have := ikq.out; omega
      by_cases hx : n < xs.length
      · have hib : decide ((n : Int) < (xs.length : Int)) = true := decide_eq_true (by omega)
        have hil : (n : Int) < (xs.length : Int) := by omega
        have hfr := HS.out hx
        obtain ⟨ad1, had, hcb⟩ := Kd.at_int (Kd.C_below HI.out KQ.out) (n : Int) (by omega) hil
        obtain rfl := Option.some.inj had
        simp only [Int.toNat_natCast] at hcb
        obtain ⟨cf, hcf⟩ : ∃ cf, rd xs (n : Int) = cf := ⟨_, rfl⟩
        rw [hcf] at hcb
        have HBF := Aside0.mk (field_Free.calls cf false wr (by rw [← hcf]; exact hfr))
        clear hcf hfr had
        go_wp2_with fail
        refine (told HBF.out).mono ?_
        rintro e w3 ⟨rfl, hb, hh⟩
        have KP1 := Aside0.mk (blk_below KP.out hb)
        have KQ1 := Aside0.mk (below_then KQ.out KQ.out.size hb)
        clear hb hh hcb KP KQ
        have KP := KP1
        have KQ := KQ1
        clear KP1 KQ1
        go_wp2_with fail
        refine (clone_calls _ A' c' ys (HCH.out _ KQ.out) (by omega) hm').mono ?_
        rintro e w4 ⟨v, rfl, hr, hb⟩
        have L2 := Aside0.mk (blk_below KP.out hb)
        have LW := Aside0.mk (below_then KQ.out KQ.out.size hb)
        obtain ⟨A1, c1, rfl⟩ := Kd.R_slice hr
        clear hb hr
        obtain ⟨e20, e21, e2⟩ := cells2 L2.out
        go_wp2
        refine bodyPost_ret (results_list (rs := [.cell 2 58, .tmp 3, .tmp 4]) rfl (by simp) (.cell _ 58 _ (0, 0) _ rfl (fin58 L2.out _ _ _) Tryz.underlying58 rfl (by kernel_rfl) (.tmp (.tmp .nil)))) rfl ?_
        exact ⟨⟨_, _, _, _, rfl⟩, fin58B LW.out (Nat.le_refl _) _ _ _⟩
      · have hib : decide ((n : Int) < (xs.length : Int)) = false := decide_eq_false (by omega)
        go_wp2_with fail
        refine (clone_calls _ A' c' ys (HCH.out _ KQ.out) (by omega) hm').mono ?_
        rintro e w4 ⟨v, rfl, hr, hb⟩
        have L2 := Aside0.mk (blk_below KP.out hb)
        have LW := Aside0.mk (below_then KQ.out KQ.out.size hb)
        obtain ⟨A1, c1, rfl⟩ := Kd.R_slice hr
        clear hb hr
        obtain ⟨e20, e21, e2⟩ := cells2 L2.out
        go_wp2
        refine bodyPost_ret (results_list (rs := [.cell 2 58, .tmp 3, .tmp 4]) rfl (by simp) (.cell _ 58 _ (0, 0) _ rfl (fin58 L2.out _ _ _) Tryz.underlying58 rfl (by kernel_rfl) (.tmp (.tmp .nil)))) rfl ?_
        exact ⟨⟨_, _, _, _, rfl⟩, fin58B LW.out (Nat.le_refl _) _ _ _⟩
end Go.Proofs.YtkhnnbfgjfkfeaaGreatDoor
