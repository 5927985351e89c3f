/- stream.One is walked. Conditions: those that each theorem states. -/
import Derived.Test.YtkhnnbfgjfkfeaaGreatDoorKRok
namespace Go.Proofs.YtkhnnbfgjfkfeaaGreatDoor
open Go.RowKit Go.Proofs.YtkhnnbfgjfkfeaaGreatDoorW.PrintWords Go.Proofs.YtkhnnbfgjfkfeaaGreatDoorW.PrintLast Go.Proofs.YtkhnnbfgjfkfeaaGreatDoorW.PrintMore Go.Proofs.YtkhnnbfgjfkfeaaGreatDoor.PCod
set_option linter.unusedVariables false
set_option linter.unusedSimpArgs false
theorem may2 (p : Int) (ex me : Bool) : stream_may.f 2 p ex me = some true := by unfold stream_may.f; rw [if_pos rfl]
theorem may1 (p : Int) (hp : p = 0 ∨ p = 1) (ex me : Bool) : stream_may.f 1 p ex me = some true := by
  unfold stream_may.f
  rcases hp with rfl | rfl <;> rfl
theorem pol1 (p : Int) (hp : p = 0 ∨ p = 1) : tomarc_policy.f p = some true := by
  unfold tomarc_policy.f
  rcases hp with rfl | rfl <;> rfl
set_option maxHeartbeats 4000000 in
set_option maxRecDepth 100000 in
theorem sone2_calls (w : World) (hE : ErrT w) (A : Option Addr) (c : Nat) (xs : List Int) (h : (Kd.int .u8).C w A xs.length xs) (hc : xs.length ≤ c) (base : Int) (l : List S46) (nx : Int) (hr : RecOk xs base l nx) (tgs : ByteArray) (htgs : strOfNums (xs.take 24) = tgs) (hcd : leader_Coding.f 40 tgs = some 2) (p : Int) (ex me : Bool) :
    Calls Tryz.prog 7 #[.slice A xs.length c, .agg #[.int .i64 2, .int .i64 p, .bool ex, .bool me]] w fun e w' => CodV e ∧ Below w.heap.size w w' := by
  have HW : Aside0 (Below w.heap.size w ((w.alloc (.cells #[.int .i64 2, .int .i64 p, .bool ex, .bool me] 24)).alloc (.cells #[.int .i64 0, .int .i64 0] 31))) := ⟨below_alloc (below_alloc (Below.refl _ _) _) _⟩
  have HEW := Aside0.mk (hE.below HW.out)
  have H3 := Aside0.mk (blk_alloc (blk_new w (.cells #[.int .i64 2, .int .i64 p, .bool ex, .bool me] 24)) (.cells #[.int .i64 0, .int .i64 0] 31))
  have H5 := Aside0.mk (new1 w (.cells #[.int .i64 2, .int .i64 p, .bool ex, .bool me] 24) (.cells #[.int .i64 0, .int .i64 0] 31))
  have HT := Aside0.mk (fun (W : World) (hW : Below w.heap.size w W) => toutf_calls W (hE.below hW) A c xs (Kd.C_below h hW) hc base l nx hr tgs htgs hcd 2 p ex me)
  clear h hc hr htgs hcd hE
  go_enter Tryz.func7, Tryz.ntmps7
  go_wp2_with fail
  refine (stream_may.calls 2 p ex me true _ (may2 p ex me)).mono ?_
  rintro e w0 ⟨rfl, hb⟩
  have J3 := Aside0.mk (blk_below H3.out hb)
  have J5 := Aside0.mk (blk_below H5.out hb)
  have JW := Aside0.mk (below_then HW.out HW.out.size hb)
  clear hb H3 H5 HW HEW
  obtain ⟨c30, c31, c32, c33, f3⟩ := cells4 J3.out
  go_upto_region 3 with (fail)
  have hz := blk_lt J3.out
  go_region_law (first
    | (go_simp
       go_at_call 15
       refine (way2_calls _ p ex me).mono ?_
       rintro e w1 ⟨rfl, hb1⟩
       have K1 : Aside0 (Below w0.heap.size w0 w1) := ⟨below_then (below_drew (Below.refl _ _)) (Nat.le_refl _) hb1⟩
       obtain ⟨d30, d31, d32, d33, e3⟩ := cells4 (blk_below J3.out K1.out)
       clear hb1)
    | (go_simp
       go_at_call 22
       refine (HT.out w1 (below_then JW.out JW.out.size K1.out)).mono ?_
       rintro e w2 ⟨rfl, hb2⟩
       have K2 := Aside0.mk (below_then K1.out K1.out.size hb2)
       obtain ⟨d50, d51, e5⟩ := cells2 (blk_below J5.out K2.out)
       clear hb2))
  all_goals
    go_wp2
    refine bodyPost_ret (results_list (rs := [.tmp 4, .cell 5 31]) rfl (by simp) (.tmp (.cell _ 31 _ (0, 0) _ rfl (set2 (blk_below J5.out K2.out) _ _) Tryz.underlying31 rfl (by kernel_rfl) .nil))) rfl ?_
    exact ⟨rfl, set2B (below_then JW.out JW.out.size K2.out) (Nat.le_succ _) _ _⟩
set_option maxHeartbeats 4000000 in
set_option maxRecDepth 100000 in
theorem sone1_calls (w : World) (hE : ErrT w) (A : Option Addr) (c : Nat) (xs : List Int) (h : (Kd.int .u8).C w A xs.length xs) (hc : xs.length ≤ c) (base : Int) (l : List S46) (nx : Int) (hr : RecOk xs base l nx) (tgs : ByteArray) (htgs : strOfNums (xs.take 24) = tgs) (hcd : leader_Coding.f 40 tgs = some 1) (p : Int) (hp : p = 0 ∨ p = 1) (ex me : Bool) :
    Calls Tryz.prog 7 #[.slice A xs.length c, .agg #[.int .i64 1, .int .i64 p, .bool ex, .bool me]] w fun e w' => CodV e ∧ Below w.heap.size w w' := by
  have HW : Aside0 (Below w.heap.size w ((w.alloc (.cells #[.int .i64 1, .int .i64 p, .bool ex, .bool me] 24)).alloc (.cells #[.int .i64 0, .int .i64 0] 31))) := ⟨below_alloc (below_alloc (Below.refl _ _) _) _⟩
  have HEW := Aside0.mk (hE.below HW.out)
  have H3 := Aside0.mk (blk_alloc (blk_new w (.cells #[.int .i64 1, .int .i64 p, .bool ex, .bool me] 24)) (.cells #[.int .i64 0, .int .i64 0] 31))
  have H5 := Aside0.mk (new1 w (.cells #[.int .i64 1, .int .i64 p, .bool ex, .bool me] 24) (.cells #[.int .i64 0, .int .i64 0] 31))
  have HT := Aside0.mk (fun (W : World) (hW : Below w.heap.size w W) => tomarc_calls W (hE.below hW) A c xs (Kd.C_below h hW) hc base l nx hr tgs htgs hcd 1 p (pol1 p hp) ex me)
  have HMY := Aside0.mk (may1 p hp ex me)
  clear h hc hr htgs hcd hE hp
  go_enter Tryz.func7, Tryz.ntmps7
  go_wp2_with fail
  refine (stream_may.calls 1 p ex me true _ HMY.out).mono ?_
  rintro e w0 ⟨rfl, hb⟩
  have J3 := Aside0.mk (blk_below H3.out hb)
  have J5 := Aside0.mk (blk_below H5.out hb)
  have JW := Aside0.mk (below_then HW.out HW.out.size hb)
  clear hb H3 H5 HW HEW
  obtain ⟨c30, c31, c32, c33, f3⟩ := cells4 J3.out
  go_upto_region 3 with (fail)
  have hz := blk_lt J3.out
  go_region_law (first
    | (go_simp
       go_at_call 15
       refine (way1_calls _ p ex me).mono ?_
       rintro e w1 ⟨rfl, hb1⟩
       have K1 : Aside0 (Below w0.heap.size w0 w1) := ⟨below_then (below_drew (Below.refl _ _)) (Nat.le_refl _) hb1⟩
       obtain ⟨d30, d31, d32, d33, e3⟩ := cells4 (blk_below J3.out K1.out)
       clear hb1)
    | (go_simp
       go_at_call 23
       refine (HT.out w1 (below_then JW.out JW.out.size K1.out)).mono ?_
       rintro e w2 ⟨rfl, hb2⟩
       have K2 := Aside0.mk (below_then K1.out K1.out.size hb2)
       obtain ⟨d50, d51, e5⟩ := cells2 (blk_below J5.out K2.out)
       clear hb2))
  all_goals
    go_wp2
    refine bodyPost_ret (results_list (rs := [.tmp 4, .cell 5 31]) rfl (by simp) (.tmp (.cell _ 31 _ (0, 0) _ rfl (set2 (blk_below J5.out K2.out) _ _) Tryz.underlying31 rfl (by kernel_rfl) .nil))) rfl ?_
    exact ⟨rfl, set2B (below_then JW.out JW.out.size K2.out) (Nat.le_succ _) _ _⟩
end Go.Proofs.YtkhnnbfgjfkfeaaGreatDoor
