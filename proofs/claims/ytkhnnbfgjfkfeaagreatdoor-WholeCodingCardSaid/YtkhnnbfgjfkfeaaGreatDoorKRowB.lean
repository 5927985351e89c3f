/- The row of WholeCoding holds. Conditions: those that each theorem states. -/
import Derived.Test.YtkhnnbfgjfkfeaaGreatDoorKRowA
import Derived.Test.YtkhnnbfgjfkfeaaGreatDoorKEvWr
import Derived.Test.YtkhnnbfgjfkfeaaGreatDoorKRql
import Derived.Test.YtkhnnbfgjfkfeaaGreatDoorKRowC
import Derived.Stop.Joined
import Derived.WalkKit
import Derived.ProofKit
import Derived.OpenShut
import Derived.ShutString
import Derived.ChangeOld
import Derived.Below
import Derived.SizedLaws
import Derived.Lib.SmallJoins
import Derived.ChangeSlices
namespace Go.Proofs.YtkhnnbfgjfkfeaaGreatDoor.wholeCoding
open Go.ChangeShapes Go.WideShapes Go.ChangeAt Go.RowKit
set_option linter.unusedVariables false
theorem u8_of {x : Int} (h : (Lit.int .u8 x).wf = true) : 0 ≤ x ∧ x ≤ 255 := by
  simp [Lit.wf] at h
  exact ⟨by have := h.1; simpa [IntKind.min, IntKind.signed, IntKind.bits] using this, by have := h.2; simp [IntKind.max, IntKind.signed, IntKind.bits] at this; omega⟩
theorem own : ownKnob Tryz.prog.godebug = none := by kernel_rfl
theorem laidOut : laidOutB Tryz.prog = true := by kernel_rfl
def IsRow (k : IntKind) (w : World) (a : Option Addr) (len cap : Nat) (zs : List Int) : Prop :=
  (a = none ∧ len = 0 ∧ cap = 0 ∧ zs = []) ∨
  ∃ x, a = some x ∧ len ≤ cap ∧ cap ≤ maxLen ∧ zs.length = cap ∧ (∀ i, i < zs.length → w.cell? (x.add i) = some (.int k (zs.getD i 0))) ∧ ∀ n ∈ zs, (Lit.int k n).wf = true
def args0 : Array Value := #[.slice none 0 0, .agg #[.int .i64 0, .int .i64 0, .bool false, .bool false]]
theorem wit1 (os : Os) : ((laidW os).forCall (fun _ _ => 0) ⟨#[], args0, []⟩).variablesZipB Tryz.prog = true := by kernel_rfl
theorem wit2 (os : Os) : (((laidW os).forCall (fun _ _ => 0) ⟨#[], args0, []⟩).heap.toList.drop Tryz.prog.globals.size).take ((begin Tryz.prog (fun _ _ => 0) default).world.heap.size - Tryz.prog.globals.size) = (begin Tryz.prog (fun _ _ => 0) default).world.heap.toList.drop Tryz.prog.globals.size := by kernel_rfl
theorem wit3 (os : Os) : Input.okWideB Tryz.prog ((laidW os).forCall (fun _ _ => 0) ⟨#[], args0, []⟩) 3 ⟨#[], args0, []⟩ = true := by kernel_rfl
theorem wit4 (os : Os) (H : Type) (enc : TypeId × Value → H) : Rows.wholeCodingSpec.preB enc Tryz.prog Tryz.f3 [] false ((laidW os).forCall (fun _ _ => 0) ⟨#[], args0, []⟩).memory args0 8 = true := by kernel_rfl
theorem wit5 (os : Os) (H : Type) (enc : TypeId × Value → H) : Rows.wholeCodingSpec.sizedB enc Tryz.prog Tryz.f3 false ((laidW os).forCall (fun _ _ => 0) ⟨#[], args0, []⟩).memory args0 8 = true := by kernel_rfl
set_option maxRecDepth 100000 in
theorem lifted (os : Os) (started : os.Started) (H : Type) (enc : TypeId × Value → H) :
    ReturnsInHanded {} Tryz.checked os 3 .any (fun w args => (Rows.wholeCodingSpec.pre enc Tryz.prog Tryz.f3 [] false w args ∧ laidMetH Tryz.prog lays w) ∧ sizedMet enc Tryz.prog Tryz.f3 (OpenSpec.ofChange Rows.wholeCodingSpec) false w args)
      (Rows.wholeCodingSpec.post enc Tryz.prog Tryz.f3 false true false false) := by
  refine returnsInHanded_of_change_and (C := Tryz.checked) (X := fun w _ => laidMetH Tryz.prog lays w) (fun _ _ _ hh h => laidMetH.of_heap hh h) own started (by kernel_rfl) Tryz.func3
    ⟨laidW os, fun _ _ => 0, ⟨#[], args0, []⟩, laidW_os os, World.shaped_of_ZipB (wit1 os) (wit2 os), (Input.okWide_of_okWideB (base := 0) (wit3 os)).1, (Input.okWide_of_okWideB (wit3 os)).2, ⟨⟨ChangeSpec.pre_of_preB (wit4 os H enc), laidW_met os args0⟩, sizedMet_of_sizedB (wit5 os H enc)⟩, by
      simp only [Assume.holds]
      exact ⟨by simp, by simp, by simp, by simp, by simp⟩⟩ ?_
  intro W base args ds gs before hval0 hW _ _ hL _
  have hval : ∀ (j : Nat) t v, Tryz.f3.params[j]? = some t → args[j]? = some v → Value.okWide Tryz.prog W .any base t v := hval0
  have hW' := hW
  obtain ⟨p, q, hA0, hV, rfl, hfz, hnd⟩ := hW
  have hA : DataW.TrodAll enc Tryz.prog W 0 (fun _ => true) true Tryz.f3.params.toList args.toList ds p := hA0
  rw [Tryz.params3] at hA hval
  obtain ⟨v0, vs0, d0, ds0, p0, q0, hargs, rfl, rfl, h0, r0⟩ := trodAll_cons hA
  obtain ⟨v1, vs1, d1, ds1, p1, q1, rfl, rfl, rfl, h1, r1⟩ := trodAll_cons r0
  obtain ⟨rfl, rfl, rfl⟩ := trodAll_nil r1
  obtain rfl : args = #[v0, v1] := by cases args; simp_all
  obtain ⟨rfl, rfl⟩ := trodVars_none hV
  obtain ⟨a0, len0, cap0, rfl⟩ := okWide_slice Tryz.underlying22 (hval 0 22 v0 rfl rfl)
  have k0 := h0
  have lt0 : ∀ x ∈ p0, x.block < W.heap.size := by obtain ⟨m, hm⟩ := k0; exact DataW.trod_lt m _ _ _ hm
  obtain ⟨z0, w0⟩ : ∃ zs, IsRow .u8 W a0 len0 cap0 zs := by
    obtain ⟨fuel, hf⟩ := h0
    rcases open_ints Tryz.underlying22 Tryz.underlying5 (by kernel_rfl) hf with ⟨hcs, _⟩ | ⟨x, l, c, zs, hcs, _, hl, hm, hz, _, hcell, hwz⟩
    · simp [Value.cells] at hcs
      obtain ⟨rfl, rfl, rfl⟩ := hcs
      exact ⟨[], .inl ⟨rfl, rfl, rfl, rfl⟩⟩
    · simp [Value.cells] at hcs
      obtain ⟨rfl, rfl, rfl⟩ := hcs
      exact ⟨zs, .inr ⟨_, rfl, hl, hm, by simpa using hz, hcell, hwz⟩⟩
  have k1 := h1
  have lt1 : ∀ x ∈ p1, x.block < W.heap.size := by obtain ⟨m, hm⟩ := k1; exact DataW.trod_lt m _ _ _ hm
  obtain ⟨n1, n2, b1, b2, rfl⟩ : ∃ (n1 n2 : Int) (b1 b2 : Bool), v1 = .agg #[.int .i64 n1, .int .i64 n2, .bool b1, .bool b2] := by
    obtain ⟨c0, c1, c2, c3, y0, y1, y2, y3, n, rfl, _, _, g0, g1, g2, g3⟩ := Go.Joins.open_agg4 Tryz.underlying24 (by kernel_rfl) (by kernel_rfl) (hval 1 24 v1 rfl rfl) h1
    obtain ⟨m0, e0, _⟩ := DataW.trod_int Tryz.underlying3 g0
    obtain ⟨m1, e1, _⟩ := DataW.trod_int Tryz.underlying3 g1
    obtain ⟨m2, e2, _⟩ := DataW.trod_bool Tryz.underlying4 g2
    obtain ⟨m3, e3, _⟩ := DataW.trod_bool Tryz.underlying4 g3
    cases e0
    cases e1
    cases e2
    cases e3
    exact ⟨_, _, _, _, rfl⟩
  clear hA0 hval0
  obtain ⟨l0, rfl, hr0, hm0, hw0, hc0⟩ := Go.Proofs.YtkhnnbfgjfkfeaaGreatDoorW.PrintWords.ReadsInt.ofRowC w0
  refine (law_calls W (handle_of hL) (Go.Ev.answers_all (Go.Ev.tables_of (plain_of hL))) a0 cap0 l0 (Go.Proofs.YtkhnnbfgjfkfeaaGreatDoorW.PrintWords.Kd.C_of_reads (d := (0 : Int)) (h1 := fun _ => rfl) hr0) hc0 (fun x hx => u8_of (hw0 x hx)) n1 n2 b1 b2).mono fun e W' ⟨he, bel⟩ => ?_
  subst he
  exact ⟨_, rfl, _, _, _, [], _, [], hW', trodAll_mk1 (shut_bool Tryz.underlying4 _), (trodAll_cons_mk (Below.trod laidOut (by kernel_rfl) (of_decide_eq_true (by kernel_rfl)) k0 bel lt0) (trodAll_cons_mk (Below.trod laidOut (by kernel_rfl) (of_decide_eq_true (by kernel_rfl)) k1 bel lt1) trodAll_mk0)), rfl, bel.frame _, fun h => by cases h⟩
theorem over : Rows.wholeCodingRow.holds Tryz.pinned (OpenSpec.ofChange Rows.wholeCodingSpec) :=
  OpenClaim.holds_of_wide 3 Tryz.f3 rfl rfl rfl rfl rfl rfl rfl ⟨rfl, rfl, rfl, rfl, rfl⟩ rfl rfl rfl rfl rfl named3 Tryz.func3 joined
    (of_decide_eq_true (by kernel_rfl)) (by unfold Func.isWrapper; first | (rw [if_pos (by decide +kernel)]; kernel_rfl) | (rw [if_neg (by decide +kernel)]; exact ⟨rfl, rfl⟩))
    (fun os started H enc _ => lifted os started H enc)
theorem proved : Rows.WholeCodingSaid := over
end Go.Proofs.YtkhnnbfgjfkfeaaGreatDoor.wholeCoding
