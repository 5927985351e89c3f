/- The row of the law CutRecords. Written by wip/cut/mkrow.py. -/
import Derived.Test.YtmaehbdpmdgpaaaRows
import Derived.Test.YtmaehbdpmdgpaaaLCutRecords
import Derived.Deep.Matrix
import Derived.WalkKit
import Derived.ProofKit
import Derived.OpenShut
import Derived.ShutString
import Derived.ChangeOld
import Derived.Below
import Derived.SizedLaws
import Derived.Test.YtmaehbdpmdgpaaaWSized
namespace Go.Proofs.Ytmaehbdpmdgpaaa.cutRecords
open Go.ChangeShapes Go.WideShapes Go.ChangeAt Go.RowKit
set_option linter.unusedVariables false
theorem own : ownKnob Try.prog.godebug = none := by kernel_rfl
theorem laidOut : laidOutB Try.prog = true := by kernel_rfl
def IsRow (k : IntKind) (w : World) (a : Option Addr) (len cap : Nat) (zs : List Int) : Prop :=
  (a = none ∧ len = 0 ∧ cap = 0 ∧ zs = []) ∨
  ∃ x, a = some x ∧ len ≤ cap ∧ cap ≤ maxLen ∧ zs.length = cap ∧ (∀ i, i < zs.length → w.cell? (x.add i) = some (.int k (zs.getD i 0))) ∧ ∀ n ∈ zs, (Lit.int k n).wf = true
set_option maxRecDepth 100000 in
theorem lifted (os : Os) (started : os.Started) (H : Type) (enc : TypeId × Value → H) :
    ReturnsInHanded {} Try.checked os 7 .any (Rows.cutRecordsSpec.pre6 enc Try.prog Try.f7 Rows.cutRecordsRow.domain false) (Rows.cutRecordsSpec.post enc Try.prog Try.f7 false true false false) := by
  refine returnsInHanded_of_change_sized (C := Try.checked) own started (by kernel_rfl) Try.func7
    (ChangeSpec.witness6 (enc := enc) (C := Try.checked) false ⟨#[], #[.slice none 0 0], []⟩ 8 (by kernel_rfl) (by kernel_rfl) (by kernel_rfl) (by kernel_rfl)) ?_
  intro W base args ds gs before hval0 hW hcnd hsz0 _
  have hval : ∀ (j : Nat) t v, Try.f7.params[j]? = some t → args[j]? = some v → Value.okWide Try.prog W .any base t v := hval0
  have hW' := hW
  obtain ⟨p, q, hA0, hV, rfl, hfz, hnd⟩ := hW
  have hA : DataW.TrodAll enc Try.prog W 0 (fun _ => true) true Try.f7.params.toList args.toList ds p := hA0
  rw [Try.params7] at hA hval
  obtain ⟨v0, vs0, d0, ds0, p0, q0, hargs, rfl, rfl, h0, r0⟩ := trodAll_cons hA
  obtain ⟨rfl, rfl, rfl⟩ := trodAll_nil r0
  obtain rfl : args = #[v0] := by cases args; simp_all
  obtain ⟨rfl, rfl⟩ := trodVars_none hV
  obtain ⟨a0, len0, cap0, rfl⟩ := okWide_slice Try.underlying39 (hval 0 39 v0 rfl rfl)
  have k0 := h0
  have lt0 : ∀ x ∈ p0, x.block < W.heap.size := by obtain ⟨m, hm⟩ := k0; exact DataW.trod_lt m _ _ _ hm
  obtain ⟨lists, hls, hrow⟩ : ∃ lists : List (List Int), lists.length = len0 ∧ ∀ i : Nat, i < len0 → ∃ ad Ai ci, a0 = some ad ∧ W.cell? (ad.add i) = some (.slice Ai (lists.getD i []).length ci) ∧ (lists.getD i []).length ≤ ci ∧ (Go.Proofs.YtmaehbdpmdgpaaaW.PrintWords.Kd.int .u8).C W Ai (lists.getD i []).length (lists.getD i []) ∧ ∀ x ∈ lists.getD i [], 0 ≤ x ∧ x ≤ 255 := by
    obtain ⟨fuel, hf⟩ := h0
    rcases Go.Deep.open_int_rows Try.underlying39 Try.underlying22 Try.underlying5 (by kernel_rfl) (by kernel_rfl) hf with ⟨hcs, _⟩ | ⟨a, len, cap, A, L, C, Z, hcs, _, hl, hm, _, hrow⟩
    · simp [Value.cells] at hcs
      obtain ⟨rfl, rfl, rfl⟩ := hcs
      exact ⟨[], rfl, fun i hi => absurd hi (by omega)⟩
    · simp [Value.cells] at hcs
      obtain ⟨rfl, rfl, rfl⟩ := hcs
      refine ⟨(List.range len0).map (fun r => (Z r).take (L r)), by simp, fun i hi => ?_⟩
      obtain ⟨h1, h2, h3, h4, h5, h6, h7⟩ := hrow i (by omega)
      have e : ((List.range len0).map (fun r => (Z r).take (L r))).getD i [] = (Z i).take (L i) := by simp [List.getD_eq_getElem?_getD, hi]
      rw [e]
      have el : ((Z i).take (L i)).length = L i := by rw [List.length_take]; omega
      refine ⟨a, A i, C i, rfl, by rw [el]; exact h1, by omega, ?_, fun x hx => u8_of (h5 x (List.mem_of_mem_take hx))⟩
      refine Go.Proofs.YtmaehbdpmdgpaaaW.PrintWords.Kd.C_of_reads (enc := Value.int .u8) (d := (0 : Int)) (h1 := fun _ => rfl) ⟨rfl, by rw [el]; simp only [maxLen] at h3; omega, fun hp => ?_⟩
      rw [el] at hp ⊢
      cases hA : A i with
      | none => have := h6 hA; omega
      | some a' =>
        obtain ⟨_, h8⟩ := h7 a' hA
        refine ⟨a', rfl, fun j hj => ?_⟩
        rw [h8 j (by omega), List.getD_eq_getElem?_getD, List.getD_eq_getElem?_getD, List.getElem?_take, if_pos hj]
  clear hA0 hval0 hsz0
  refine (cutRecords_law W len0 cap0 a0 lists hls hrow).mono fun e W' ⟨he, bel⟩ => ?_
  subst he
  exact ⟨_, rfl, _, _, _, [], _, [], hW', trodAll_mk1 (shut_bool Try.underlying4 _), (trodAll_cons_mk (Below.trod laidOut (by kernel_rfl) (of_decide_eq_true (by kernel_rfl)) k0 bel lt0) trodAll_mk0), rfl, bel.frame _, fun h => by cases h⟩
theorem over : Rows.cutRecordsRow.holds Try.pinned (OpenSpec.ofChange Rows.cutRecordsSpec) :=
  OpenClaim.holds_of_wide 7 Try.f7 rfl rfl rfl rfl rfl rfl rfl ⟨rfl, rfl, rfl, rfl, rfl⟩ rfl rfl rfl rfl rfl (by kernel_rfl) Try.func7 (by kernel_rfl)
    (of_decide_eq_true (by kernel_rfl)) (by unfold Func.isWrapper; first | (rw [if_pos (by decide +kernel)]; kernel_rfl) | (rw [if_neg (by decide +kernel)]; exact ⟨rfl, rfl⟩))
    (fun os started H enc _ => lifted os started H enc)
theorem proved : Rows.CutRecordsSaid := over
#print axioms proved
end Go.Proofs.Ytmaehbdpmdgpaaa.cutRecords
namespace Go.Proofs.Ytmaehbdpmdgpaaa
/-- The row, under a short name, for the claim. -/
theorem cutRecords_holds : Rows.CutRecordsSaid := cutRecords.proved
end Go.Proofs.Ytmaehbdpmdgpaaa

