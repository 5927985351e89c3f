/- Mend and Turn are walked. Conditions: those that each theorem states. -/
import Derived.Test.YtkhnnbfgjfkfeaaGreatDoorKRoi
import Derived.Test.YtkhnnbfgjfkfeaaGreatDoorKRoa
namespace Go.Proofs.YtkhnnbfgjfkfeaaGreatDoor
open Go.RowKit Go.Proofs.YtkhnnbfgjfkfeaaGreatDoorW.PrintWords Go.Proofs.YtkhnnbfgjfkfeaaGreatDoorW.PrintLast Go.Proofs.YtkhnnbfgjfkfeaaGreatDoorW.PrintMore Go.Proofs.YtkhnnbfgjfkfeaaGreatDoor.PCod
set_option linter.unusedVariables false
set_option linter.unusedSimpArgs false
set_option maxHeartbeats 4000000 in
set_option maxRecDepth 100000 in
theorem mend_calls (w : World) (A : Option Addr) (c : Nat) (xs : List Int) (h : (Kd.int .u8).C w A xs.length xs) (hc : xs.length ≤ c) (base : Int) (l : List S46) (nx : Int) (hr : RecOk xs base l nx) :
    Calls Tryz.prog 36 #[.slice A xs.length c] w fun e w' => (∃ (A1 : Option Addr) (c1 : Nat), e = .returned (.slice A1 xs.length c1) ∧ (Kd.int .u8).C w' A1 xs.length xs ∧ xs.length ≤ c1) ∧ Below w.heap.size w w' := by
  have HI := Aside0.mk h
  have HC := Aside0.mk hc
  have hmx := hr.max
  have HO := Aside0.mk (rparse_calls w A c xs h hc base l nx hr)
  obtain ⟨tgs, htgs⟩ : ∃ s, strOfNums (xs.take 24) = s := ⟨_, rfl⟩
  rw [htgs] at HO
  clear h hc hr htgs
  go_enter Tryz.func36, Tryz.ntmps36
  go_wp2_with fail
  refine HO.out.mono ?_
  rintro e w1 ⟨⟨F, m, d, rfl⟩, hb⟩
  have HW := Aside0.mk (below_then hb hb.size (below_alloc (below_alloc (Below.refl _ w1) (.cells #[.string tgs, .slice F m d] 28)) (.cells #[.int .i64 0, .int .i64 0] 31)))
  clear hb HO
  have BF := Aside0.mk (new1 w1 (.cells #[.string tgs, .slice F m d] 28) (.cells #[.int .i64 0, .int .i64 0] 31))
  go_upto_region 2 with (fail)
  generalize (w1.alloc (.cells #[.string tgs, .slice F m d] 28)).alloc (.cells #[.int .i64 0, .int .i64 0] 31) = wA at HW BF ⊢
  generalize w1.heap.size = g3 at BF ⊢
  obtain ⟨c40, c41, f4⟩ := cells2 BF.out
  go_wp2_with fail
  refine (clone_calls _ A c xs (Kd.C_below HI.out HW.out) (by omega) HC.out).mono ?_
  rintro e w2 ⟨v, rfl, hr, hb⟩
  obtain ⟨A1, c1, rfl⟩ := Kd.R_slice hr
  have HR := Aside0.mk (Kd.R_reads' hr)
  have HW2 := Aside0.mk (below_then HW.out HW.out.size hb)
  clear hb hr HW BF c40 c41 f4
  go_wp2
  go_ret
  exact ⟨⟨A1, c1, rfl, HR.out.2.2, HR.out.2.1⟩, HW2.out⟩
/-- the problem that Turn gives -/
def TurnV (e : Ending) (w' : World) : Prop := ∃ g, e = .returned (.tuple #[.slice none 0 0, .iface 86 (.pointer (some ⟨g, 0, none⟩))]) ∧ w'.heap[g]? = some (.cells #[.int .i64 15, .int .i64 9] 92 (0, 0))
set_option maxHeartbeats 4000000 in
set_option maxRecDepth 100000 in
theorem turn_calls (w : World) (A : Option Addr) (c : Nat) (xs : List Int) (h : (Kd.int .u8).C w A xs.length xs) (hc : xs.length ≤ c) (base : Int) (l : List S46) (nx : Int) (hr : RecOk xs base l nx) (tgs : ByteArray) (htgs : strOfNums (xs.take 24) = tgs) (cd : Int) (hcd : leader_Coding.f 40 tgs = some cd) (fr to' : Int) (hne : (cd != fr) = true) (mends : Bool) (vf : Value) :
    Calls Tryz.prog 27 #[.slice A xs.length c, .int .i64 fr, .int .i64 to', .bool mends, vf] w fun e w' => TurnV e w' ∧ Below w.heap.size w w' := by
  have HI := Aside0.mk h
  have HC := Aside0.mk hc
  have HCD := Aside0.mk hcd
  have hmx := hr.max
  cases mends with
  | false =>
    have HO := Aside0.mk (rparse_calls w A c xs h hc base l nx hr)
    rw [htgs] at HO
    clear h hc hr htgs hcd
    go_enter Tryz.func27, Tryz.ntmps27
    go_wp2_with fail
    refine HO.out.mono ?_
    rintro e w1 ⟨⟨F, m, d, rfl⟩, hb⟩
    have BR := Aside0.mk (blk_alloc (blk_new w1 (.cells #[.string tgs, .slice F m d] 28)) (.cells #[.int .i64 0, .int .i64 0] 31))
    have BF := Aside0.mk (new1 w1 (.cells #[.string tgs, .slice F m d] 28) (.cells #[.int .i64 0, .int .i64 0] 31))
    have HW := Aside0.mk (below_then (Below.refl w.heap.size w) (Nat.le_refl _) (below_then hb hb.size (below_alloc (below_alloc (Below.refl _ w1) (.cells #[.string tgs, .slice F m d] 28)) (.cells #[.int .i64 0, .int .i64 0] 31))))
    clear hb HO
    go_upto_region 4 with (fail)
    generalize (w1.alloc (.cells #[.string tgs, .slice F m d] 28)).alloc (.cells #[.int .i64 0, .int .i64 0] 31) = wA at HW BR BF ⊢
    generalize w1.heap.size = g12 at BR BF ⊢
    obtain ⟨c120, c121, f12⟩ := cells2 BR.out
    obtain ⟨c130, c131, f13⟩ := cells2 BF.out
    go_wp2_with fail
    refine (told (leader_Coding.calls 40 tgs cd _ HCD.out)).mono ?_
    rintro e w2 ⟨rfl, hb, hh⟩
    have HW2 := Aside0.mk (below_then HW.out HW.out.size hb)
    clear hb hh c120 c121 c130 c131 f12 f13 BR BF HW
    go_wp2_with fail
    refine (wrap_calls 15 9 (by decide) _).mono ?_
    rintro e w3 ⟨g, rfl, hg, hb⟩
    have HG := Aside0.mk hg
    have HW3 := Aside0.mk (below_then HW2.out HW2.out.size hb)
    clear hg hb HW2
    go_wp2
    go_ret2
    exact ⟨⟨g, rfl, HG.out⟩, HW3.out⟩
  | true =>
    have HM := Aside0.mk (mend_calls w A c xs h hc base l nx hr)
    have HX := Aside0.mk (fun (W : World) (A1 : Option Addr) (c1 : Nat) (h1 : (Kd.int .u8).C W A1 xs.length xs) (h2 : xs.length ≤ c1) => rparse_calls W A1 c1 xs h1 h2 base l nx hr)
    rw [htgs] at HX
    clear h hc hr htgs hcd
    go_enter Tryz.func27, Tryz.ntmps27
    go_wp2_with fail
    refine HM.out.mono ?_
    rintro e w0 ⟨⟨A1, c1, rfl, h1, h2⟩, hb0⟩
    have HB0 := Aside0.mk hb0
    have HO := Aside0.mk (HX.out w0 A1 c1 h1 h2)
    clear hb0 h1 h2 HM HX
    go_wp2_with fail
    refine HO.out.mono ?_
    rintro e w1 ⟨⟨F, m, d, rfl⟩, hb⟩
    have BR := Aside0.mk (blk_alloc (blk_new w1 (.cells #[.string tgs, .slice F m d] 28)) (.cells #[.int .i64 0, .int .i64 0] 31))
    have BF := Aside0.mk (new1 w1 (.cells #[.string tgs, .slice F m d] 28) (.cells #[.int .i64 0, .int .i64 0] 31))
    have HW := Aside0.mk (below_then HB0.out HB0.out.size (below_then hb hb.size (below_alloc (below_alloc (Below.refl _ w1) (.cells #[.string tgs, .slice F m d] 28)) (.cells #[.int .i64 0, .int .i64 0] 31))))
    clear hb HO
    go_upto_region 4 with (fail)
    generalize (w1.alloc (.cells #[.string tgs, .slice F m d] 28)).alloc (.cells #[.int .i64 0, .int .i64 0] 31) = wA at HW BR BF ⊢
    generalize w1.heap.size = g12 at BR BF ⊢
    obtain ⟨c120, c121, f12⟩ := cells2 BR.out
    obtain ⟨c130, c131, f13⟩ := cells2 BF.out
    go_wp2_with fail
    refine (told (leader_Coding.calls 40 tgs cd _ HCD.out)).mono ?_
    rintro e w2 ⟨rfl, hb, hh⟩
    have HW2 := Aside0.mk (below_then HW.out HW.out.size hb)
    clear hb hh c120 c121 c130 c131 f12 f13 BR BF HW
    go_wp2_with fail
    refine (wrap_calls 15 9 (by decide) _).mono ?_
    rintro e w3 ⟨g, rfl, hg, hb⟩
    have HG := Aside0.mk hg
    have HW3 := Aside0.mk (below_then HW2.out HW2.out.size hb)
    clear hg hb HW2
    go_wp2
    go_ret2
    exact ⟨⟨g, rfl, HG.out⟩, HW3.out⟩
end Go.Proofs.YtkhnnbfgjfkfeaaGreatDoor
