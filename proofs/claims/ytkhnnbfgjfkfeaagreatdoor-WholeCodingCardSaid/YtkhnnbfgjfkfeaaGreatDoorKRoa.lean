/- errors.Is and the wrapping of a problem are walked. Conditions: those that each theorem states. -/
import Derived.Test.YtkhnnbfgjfkfeaaGreatDoorKRna
import Derived.Test.YtkhnnbfgjfkfeaaGreatDoorKRga
import Derived.Outline
import Derived.Deep.RegionWith
namespace Go.Proofs.YtkhnnbfgjfkfeaaGreatDoor
open Go.RowKit Go.Extern.Stop Go.Stop Go.Extern Go.Proofs.YtkhnnbfgjfkfeaaGreatDoorW.PrintWords Go.Proofs.YtkhnnbfgjfkfeaaGreatDoorW.PrintLast Go.Proofs.YtkhnnbfgjfkfeaaGreatDoorW.PrintMore Go.Proofs.YtkhnnbfgjfkfeaaGreatDoor.PCod
set_option linter.unusedVariables false
set_option linter.unusedSimpArgs false
theorem run_eql_iface_string {P : Program} (w : World) {t tx : TypeId} {ms : Array (String × TypeId)} (s : ByteArray) (hs : (s == s) = true)
    (ht : P.underlying t = some (.interface ms)) (hc : (P.info? tx).map (·.comparable) = some true) (hx : P.underlying tx = some .string) :
    (binOp .eql t (.iface tx (.string s)) (.iface tx (.string s))).run P w = .ok (.bool true) w := by
  cases hi : P.info? tx with
  | none => simp [hi] at hc
  | some i =>
    have hcc : i.comparable = true := by simpa [hi] using hc
    have h : ∀ d : Nat, (Op.equalIn (d + 2) t (.iface tx (.string s)) (.iface tx (.string s))).run P w = .ok true w := fun d => by
      simp [Op.equalIn, run_underlying ht, run_underlying hx, typeInfo, hi, hcc, hs]
    simp only [binOp]
    simp [Op.equal, Op.maxDepth, h 9998]
theorem Tryz.isTypeOf (v : Value) (w : World) : (Extern.ReflectliteType.typeOf #[.iface 90 v]).run Tryz.prog w = .ok (.iface 203 (.agg #[.pointer (some ⟨12, 90, none⟩)])) w := by kernel_rfl
theorem Tryz.isMethodComparable (v : Value) (w : World) : (Go.method 575 203 v "Comparable").run Tryz.prog w = .ok (386, v) w := by kernel_rfl
theorem Tryz.noIsP (v : Value) (xT : TypeId) (w : World) : (Instr.typeAssert (.iface 86 v) xT 215 true).run Tryz.prog w = .ok (.tuple #[.nilIface, .bool false]) w := run_typeAssert_lacksB Tryz.underlying215 (by kernel_rfl) (by kernel_rfl) v xT w
theorem Tryz.hasUnwrapP (v : Value) (xT : TypeId) (w : World) : (Instr.typeAssert (.iface 86 v) xT 210 true).run Tryz.prog w = .ok (.tuple #[.iface 86 v, .bool true]) w := run_typeAssert_hasB Tryz.underlying210 (by kernel_rfl) v xT w
theorem Tryz.methodUnwrap (v : Value) (w : World) : (Go.method 575 86 v "Unwrap").run Tryz.prog w = .ok (379, v) w := by kernel_rfl
/-- Wrap of a fault that is none of the good ones. -/
theorem wrap_calls (E a : Int) (hE : (E == 0) = false) (w : World) : Calls Tryz.prog 38 #[.agg #[.int .i64 E, .int .i64 a]] w fun e w' => ∃ g, e = .returned (.iface 86 (.pointer (some ⟨g, 0, none⟩))) ∧ w'.heap[g]? = some (.cells #[.int .i64 E, .int .i64 a] 92 (0, 0)) ∧ Below w.heap.size w w' := by
  go_enter Tryz.func38, Tryz.ntmps38
  go_wp2
  go_ret
  refine ⟨w.heap.size + 1, rfl, ?_, below_alloc (below_alloc (Below.refl _ _) _) _⟩
  have := blk_new (w.alloc (.cells #[.int .i64 E, .int .i64 a] 31)) (.cells #[.int .i64 E, .int .i64 a] 92)
  rwa [FB.alloc_size] at this
theorem Tryz.isComparable (w : World) : ((ReflectliteType.method fun t => do Rtype.noPackHeld "Comparable" t; (fun a : TypeInfo => Value.bool a.comparable) <$> typeInfo t) #[.agg #[.pointer (some ⟨12, 90, none⟩)]]).run Tryz.prog w = .ok (.bool true) w := by kernel_rfl
theorem unwrap_calls (a : Addr) (w : World) : Calls Tryz.prog 379 #[.pointer (some a)] w fun e w' => e = .returned (.iface 90 (.string (⟨#[97, 32, 102, 97, 117, 108, 116]⟩ : ByteArray))) ∧ w' = w := by
  go_enter Tryz.func379, Tryz.ntmps379
  go_wp2
  go_ret
  exact ⟨rfl, rfl⟩
set_option maxRecDepth 100000 in
set_option maxHeartbeats 4000000 in
theorem is_inner (a : Addr) (w : World) :
    Calls Tryz.prog 83 #[.iface 86 (.pointer (some a)), .iface 90 (.string (⟨#[97, 32, 102, 97, 117, 108, 116]⟩ : ByteArray)), .bool true] w fun e w' => e = .returned (.bool true) ∧ w' = w := by
  have nW := Tryz.noIsP
  have uW := Tryz.hasUnwrapP
  have mU := Tryz.methodUnwrap
  have heq := run_eql_iface_string (P := Tryz.prog) w (⟨#[97, 32, 102, 97, 117, 108, 116]⟩ : ByteArray) (by kernel_rfl) Tryz.underlying66 (tx := 90) (by kernel_rfl) Tryz.underlying90
  have hty := run_eql_iface_types (P := Tryz.prog) 86 90 (.pointer (some a)) (.string (⟨#[97, 32, 102, 97, 117, 108, 116]⟩ : ByteArray)) Tryz.underlying66 (by decide) w
  go_enter Tryz.func83, Tryz.ntmps83
  go_wp2
  refine wp_loop_rounds 2 ?_
  rw [rounds_succ]
  go_wp2_with (go_at_call 379; refine (unwrap_calls _ _).mono ?_; rintro e w1 ⟨rfl, rfl⟩)
  rw [rounds_succ]
  go_wp2
  go_ret
  exact ⟨rfl, rfl⟩
set_option maxRecDepth 100000 in
set_option maxHeartbeats 4000000 in
theorem is_problem (a : Addr) (w : World) :
    Calls Tryz.prog 47 #[.iface 86 (.pointer (some a)), .iface 90 (.string (⟨#[97, 32, 102, 97, 117, 108, 116]⟩ : ByteArray))] w fun e w' => e = .returned (.bool true) ∧ w' = w := by
  have h82 := @run_callFunc_extern Tryz.prog 82 _ Extern.ReflectliteType.typeOf Tryz.func82 (by kernel_rfl) (by kernel_rfl) (by kernel_rfl) (by kernel_rfl)
  have h386 := @run_callFunc_extern Tryz.prog 386 _ (ReflectliteType.method fun t => do Rtype.noPackHeld "Comparable" t; pure (.bool (← typeInfo t).comparable)) Tryz.func386 (by kernel_rfl) (by kernel_rfl) (by kernel_rfl) (by kernel_rfl)
  have tT := Tryz.isTypeOf
  have cT := Tryz.isComparable
  have mR := Tryz.isMethodComparable
  go_enter Tryz.func47, Tryz.ntmps47
  go_wp2_with fail
  refine (is_inner a _).mono ?_
  rintro e w1 ⟨rfl, rfl⟩
  go_wp2
  go_ret
  exact ⟨rfl, rfl⟩
/-- errors.As, its own blocks told as far as Told needs them: 'h', 'b' two blocks that were, t the target's -/
theorem as_told (e t : Nat) (cs : Array Value) (w : World) (hg : w.cell? ⟨0, 0, none⟩ = some (.iface 203 (.agg #[.pointer (some ⟨12, 66, none⟩)]))) (ht : w.heap[t]? = some (.cells #[.pointer none] 86 (0, 0))) :
    Calls Tryz.prog 46 #[.iface 86 (.pointer (some ⟨e, 0, none⟩)), .iface 88 (.pointer (some ⟨t, 0, none⟩))] w fun ev w' => ev = .returned (.bool true) ∧ (∀ g o, g ≠ t → w.heap[g]? = some o → w'.heap[g]? = some o) ∧ w'.heap[t]? = some (.cells #[.pointer (some ⟨e, 0, none⟩)] 86 (0, 0)) ∧ ∀ B, B ≤ t → B ≤ w.heap.size → Below B w w' := by
  refine (as_hit ⟨e, 0, none⟩ ⟨t, 0, none⟩ (.pointer none) w hg (by rw [blk_cell ht]; rfl) (blk_frozen ht 0)).mono ?_
  rintro ev w1 ⟨rfl, rfl⟩
  refine ⟨rfl, fun g o hne h => ?_, ?_, fun B hB hw => ?_⟩
  · exact (Below.heap_setCell _ _ _ g hne).trans (blk_alloc (blk_alloc (blk_alloc (blk_alloc h _) _) _) _)
  · exact blk_put (blk_alloc (blk_alloc (blk_alloc (blk_alloc ht _) _) _) _) 0 _ rfl
  · exact Below.setCell (((((Below.refl B w).alloc hw _).alloc (by rw [FB.alloc_size]; omega) _).alloc (by rw [FB.alloc_size, FB.alloc_size]; omega) _).alloc (by rw [FB.alloc_size, FB.alloc_size, FB.alloc_size]; omega) _) hB _
set_option maxRecDepth 100000 in
set_option maxHeartbeats 4000000 in
theorem told_calls (g : Nat) (E a : Int) (w : World) (hg : w.cell? ⟨0, 0, none⟩ = some (.iface 203 (.agg #[.pointer (some ⟨12, 66, none⟩)]))) (hb : w.heap[g]? = some (.cells #[.int .i64 E, .int .i64 a] 92 (0, 0))) :
    Calls Tryz.prog 30 #[.iface 86 (.pointer (some ⟨g, 0, none⟩))] w fun e w' => e = .returned (.agg #[.int .i64 E, .int .i64 a]) ∧ Below w.heap.size w w' := by
  have h0 : 0 < w.heap.size := by
    rcases Nat.eq_zero_or_pos w.heap.size with h0 | h
    · simp [World.cell?, h0] at hg
    · exact h
  have HG := Aside0.mk hg
  have HB := Aside0.mk hb
  have HT := Aside0.mk (blk_new (w.alloc (.cells #[.int .i64 0, .int .i64 0] 31)) (.cells #[.pointer none] 86))
  have HR := Aside0.mk (blk_alloc (blk_new w (.cells #[.int .i64 0, .int .i64 0] 31)) (.cells #[.pointer none] 86))
  have HP := Aside0.mk (blk_alloc (blk_alloc hb (.cells #[.int .i64 0, .int .i64 0] 31)) (.cells #[.pointer none] 86))
  have HC : Aside0 (((w.alloc (.cells #[.int .i64 0, .int .i64 0] 31)).alloc (.cells #[.pointer none] 86)).cell? ⟨0, 0, none⟩ = some (.iface 203 (.agg #[.pointer (some ⟨12, 66, none⟩)]))) := ⟨by
    rw [World.cell?_alloc_lt _ _ ⟨0, 0, none⟩ (by simp), World.cell?_alloc_lt _ _ ⟨0, 0, none⟩ h0]; exact hg⟩
  have hgl := blk_lt hb
  have HW : Aside0 (Below w.heap.size w ((w.alloc (.cells #[.int .i64 0, .int .i64 0] 31)).alloc (.cells #[.pointer none] 86))) := ⟨below_alloc (below_alloc (Below.refl _ _) _) _⟩
  rw [FB.alloc_size] at HT
  clear hg hb
  go_enter Tryz.func30, Tryz.ntmps30
  go_wp2_with fail
  refine (as_told g (w.heap.size + 1) #[] _ HC.out HT.out).mono ?_
  rintro e w1 ⟨rfl, hk, ht, hb1⟩
  have H1 := Aside0.mk (hk _ _ (by omega) HR.out)
  have H2 := Aside0.mk (hk _ _ (by omega) HP.out)
  have H3 := Aside0.mk ht
  have H4 := Aside0.mk (HW.out.trans (hb1 w.heap.size (by omega) HW.out.size))
  clear hk ht hb1 HT HR HP HC
  go_wp2_with fail
  refine (is_problem _ _).mono ?_
  rintro e w2 ⟨rfl, rfl⟩
  have c1 : w2.cell? ⟨w.heap.size + 1, 0, none⟩ = some (.pointer (some ⟨g, 0, none⟩)) := by rw [blk_cell H3.out]; rfl
  have c2 : w2.cell? ⟨g, 0, none⟩ = some (.int .i64 E) := by rw [blk_cell H2.out]; rfl
  have c3 : w2.cell? ⟨g, 1, none⟩ = some (.int .i64 a) := by rw [blk_cell H2.out]; rfl
  have c4 : w2.cell? ⟨w.heap.size, 0, none⟩ = some (.int .i64 0) := by rw [blk_cell H1.out]; rfl
  have c5 : w2.cell? ⟨w.heap.size, 1, none⟩ = some (.int .i64 0) := by rw [blk_cell H1.out]; rfl
  have c6 : ∀ i, w2.frozen? ⟨w.heap.size, i, none⟩ = false := fun i => blk_frozen H1.out i
  go_wp2
  exact bodyPost_ret (results_single rfl (.cell _ 31 _ (0, 0) _ rfl (blk_put (blk_put H1.out 0 _ rfl) 1 _ rfl) Tryz.underlying31 rfl (by kernel_rfl) .nil)) rfl ⟨rfl, Below.setCell (Below.setCell H4.out (Nat.le_refl _) _) (Nat.le_refl _) _⟩
end Go.Proofs.YtkhnnbfgjfkfeaaGreatDoor
