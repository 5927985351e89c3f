/- The law WholeCoding is walked: it answers true. Conditions: those that each theorem states. -/
import Derived.Test.YtkhnnbfgjfkfeaaGreatDoorKRol
namespace Go.Proofs.YtkhnnbfgjfkfeaaGreatDoor
open Go.RowKit Go.Proofs.YtkhnnbfgjfkfeaaGreatDoorW.PrintWords Go.Proofs.YtkhnnbfgjfkfeaaGreatDoorW.PrintLast Go.Proofs.YtkhnnbfgjfkfeaaGreatDoorW.PrintMore Go.Proofs.YtkhnnbfgjfkfeaaGreatDoor.PCod
set_option linter.unusedVariables false
set_option linter.unusedSimpArgs false
theorem and1 (p : Int) : bits .and .i64 p 1 = 0 ∨ bits .and .i64 p 1 = 1 := by
  have h : ∀ a : Nat, a &&& 1 = a % 2 := fun a => Nat.and_one_is_mod a
  have e : bits .and .i64 p 1 = IntKind.i64.wrap (((BitVec.ofInt 64 p).toNat &&& 1 : Nat) : Int) := by
    simp only [bits, BitVec.toNat_and]
    rfl
  rw [e, h, IntKind.wrap_i64]
  rcases Nat.mod_two_eq_zero_or_one (BitVec.ofInt 64 p).toNat with h1 | h1
  · left; rw [h1]; decide
  · right; rw [h1]; decide
set_option maxHeartbeats 4000000 in
set_option maxRecDepth 100000 in
theorem law_calls (w : World) (hE : ErrT w) (hans : ∀ W : World, Below w.heap.size w W → Calls Tryz.prog 4 #[] W fun e w' => e = .returned (.bool true) ∧ Below W.heap.size W w') (A : Option Addr) (c : Nat) (xs : List Int) (h : (Kd.int .u8).C w A xs.length xs) (hc : xs.length ≤ c) (hx : ∀ x ∈ xs, 0 ≤ x ∧ x ≤ 255) (o p : Int) (ex me : Bool) :
    Calls Tryz.prog 3 #[.slice A xs.length c, .agg #[.int .i64 o, .int .i64 p, .bool ex, .bool me]] w fun e w' => e = .returned (.bool true) ∧ Below w.heap.size w w' := by
  have HAN := Aside0.mk hans
  have HW : Aside0 (Below w.heap.size w (w.alloc (.cells #[.int .i64 o, .int .i64 p, .bool ex, .bool me] 24))) := ⟨below_alloc (Below.refl _ _) _⟩
  by_cases hl : 800 < xs.length
  · have hlb : decide ((xs.length : Int) > 800) = true := decide_eq_true (by omega)
    clear h hc hx hans hE
    go_enter Tryz.func3, Tryz.ntmps3
    go_wp2_with fail
    refine (HAN.out _ HW.out).mono ?_
    rintro e w1 ⟨rfl, hb⟩
    have HW1 := Aside0.mk (below_then HW.out HW.out.size hb)
    clear hb
    go_wp2
    go_ret
    exact ⟨rfl, HW1.out⟩
  have hlb : decide (800 < (xs.length : Int)) = false := decide_eq_false (by omega)
  have HI := Aside0.mk h
  have HC := Aside0.mk hc
  have HX := Aside0.mk hx
  have HE := Aside0.mk hE
  have H3 := Aside0.mk (blk_new w (.cells #[.int .i64 o, .int .i64 p, .bool ex, .bool me] 24))
  clear h hc hx hans hE
  go_enter Tryz.func3, Tryz.ntmps3
  go_wp2_with fail
  refine (parse_calls _ A c xs (Kd.C_below HI.out HW.out) HC.out HX.out).mono ?_
  rintro e w1 ⟨⟨s, F, m, d, E, a, rfl, hg⟩, hb⟩
  have HP := Aside0.mk hg
  have J3 := Aside0.mk (blk_alloc (blk_alloc (blk_below H3.out hb) (.cells #[.string s, .slice F m d] 28)) (.cells #[.int .i64 E, .int .i64 a] 31))
  have J5 := Aside0.mk (blk_alloc (blk_new w1 (.cells #[.string s, .slice F m d] 28)) (.cells #[.int .i64 E, .int .i64 a] 31))
  have J6 := Aside0.mk (new1 w1 (.cells #[.string s, .slice F m d] 28) (.cells #[.int .i64 E, .int .i64 a] 31))
  have JW := Aside0.mk (below_then HW.out HW.out.size (below_then hb hb.size (below_alloc (below_alloc (Below.refl _ w1) (.cells #[.string s, .slice F m d] 28)) (.cells #[.int .i64 E, .int .i64 a] 31))))
  clear hg hb H3 HW
  go_upto_region 4 with (fail)
  generalize (w1.alloc (.cells #[.string s, .slice F m d] 28)).alloc (.cells #[.int .i64 E, .int .i64 a] 31) = wA at J3 J5 J6 JW ⊢
  generalize w1.heap.size = g5 at J5 J6 ⊢
  obtain ⟨c50, c51, f5⟩ := cells2 J5.out
  obtain ⟨c60, c61, f6⟩ := cells2 J6.out
  by_cases hE0 : E = 0
  · subst hE0
    obtain ⟨hs, base, l, nx, hr⟩ := HP.out rfl
    have HR := Aside0.mk hr
    have HL : Aside0 (LeadS s) := ⟨by rw [hs]; exact leadS_of HX.out hr.l24 hr.lead⟩
    have HS := Aside0.mk hs.symm
    have HRC : Aside0 (amanuensisref19_Coding.f 40 s = some (codeOf s)) := ⟨rcoding_is HL.out⟩
    have HLC : Aside0 (leader_Coding.f 40 s = some (codeOf s)) := ⟨lcoding_is HL.out⟩
    obtain ⟨c30, c31, c32, c33, f3⟩ := cells4 J3.out
    have hcd : codeOf s = 2 ∨ codeOf s = 1 := by unfold codeOf; split <;> simp
    obtain ⟨cd, hcde⟩ : ∃ cd, codeOf s = cd := ⟨_, rfl⟩
    rw [hcde] at HRC HLC hcd
    clear hs hr hcde HP HL
    go_wp2_with fail
    refine (told (amanuensisref19_Coding.calls 40 s cd _ HRC.out)).mono ?_
    rintro e w2 ⟨rfl, hb, hh⟩
    have K3 := Aside0.mk (blk_below J3.out hb)
    have KW := Aside0.mk (below_then JW.out JW.out.size hb)
    clear hb hh c30 c31 c32 c33 f3 J3 J5 J6 JW c50 c51 f5 c60 c61 f6 HRC
    obtain ⟨c30, c31, c32, c33, f3⟩ := cells4 K3.out
    obtain ⟨q, hq⟩ : ∃ q, bits .and .i64 p 1 = q := ⟨_, rfl⟩
    have hq01 : q = 0 ∨ q = 1 := by rw [← hq]; exact and1 p
    go_upto_region 8 with (fail)
    have L3 := Aside0.mk (blk_put (blk_put K3.out 0 (.int .i64 cd) rfl) 1 (.int .i64 q) rfl)
    have LW := Aside0.mk (Below.setCell (Below.setCell KW.out (p := ⟨w.heap.size, 0, none⟩) (Nat.le_refl _) (.int .i64 cd)) (p := ⟨w.heap.size, 1, none⟩) (Nat.le_refl _) (.int .i64 q))
    clear hq c30 c31 c32 c33 f3 K3 KW
    generalize (w2.setCell ⟨w.heap.size, 0, none⟩ (.int .i64 cd)).setCell ⟨w.heap.size, 1, none⟩ (.int .i64 q) = wB at L3 LW ⊢
    obtain ⟨c30, c31, c32, c33, f3⟩ := cells4 L3.out
    rcases hcd with rfl | rfl
    · have HO := Aside0.mk (sone2_calls wB (HE.out.below LW.out) A c xs (Kd.C_below HI.out LW.out) HC.out base l nx HR.out s HS.out HLC.out q ex me)
      go_wp2_with fail
      refine HO.out.mono ?_
      rintro e w3 ⟨rfl, hb⟩
      have M8 := Aside0.mk (blk_new w3 (.cells #[.int .i64 15, .int .i64 9] 31))
      have MW := Aside0.mk (below_then LW.out LW.out.size (below_then hb hb.size (below_alloc (Below.refl _ w3) (.cells #[.int .i64 15, .int .i64 9] 31))))
      clear hb HO LW L3 c30 c31 c32 c33 f3
      go_wp2_with fail
      refine (HAN.out _ MW.out).mono ?_
      rintro e w4 ⟨rfl, hb⟩
      have N8 := Aside0.mk (blk_below M8.out hb)
      have NW := Aside0.mk (below_then MW.out MW.out.size hb)
      clear hb M8 MW
      obtain ⟨c80, c81, f8⟩ := cells2 N8.out
      go_wp2
      go_ret
      exact ⟨rfl, NW.out⟩
    · have HO := Aside0.mk (sone1_calls wB (HE.out.below LW.out) A c xs (Kd.C_below HI.out LW.out) HC.out base l nx HR.out s HS.out HLC.out q hq01 ex me)
      go_wp2_with fail
      refine HO.out.mono ?_
      rintro e w3 ⟨rfl, hb⟩
      have M8 := Aside0.mk (blk_new w3 (.cells #[.int .i64 15, .int .i64 9] 31))
      have MW := Aside0.mk (below_then LW.out LW.out.size (below_then hb hb.size (below_alloc (Below.refl _ w3) (.cells #[.int .i64 15, .int .i64 9] 31))))
      clear hb HO LW L3 c30 c31 c32 c33 f3
      go_wp2_with fail
      refine (HAN.out _ MW.out).mono ?_
      rintro e w4 ⟨rfl, hb⟩
      have N8 := Aside0.mk (blk_below M8.out hb)
      have NW := Aside0.mk (below_then MW.out MW.out.size hb)
      clear hb M8 MW
      obtain ⟨c80, c81, f8⟩ := cells2 N8.out
      go_wp2
      go_ret
      exact ⟨rfl, NW.out⟩
  · have hE1 : (E != 0) = true := bne_iff_ne.2 hE0
    clear hE0 HP
    go_wp2_with fail
    refine (HAN.out _ JW.out).mono ?_
    rintro e w2 ⟨rfl, hb⟩
    have HW1 := Aside0.mk (below_then JW.out JW.out.size hb)
    clear hb
    go_wp2
    go_ret
    exact ⟨rfl, HW1.out⟩
end Go.Proofs.YtkhnnbfgjfkfeaaGreatDoor
