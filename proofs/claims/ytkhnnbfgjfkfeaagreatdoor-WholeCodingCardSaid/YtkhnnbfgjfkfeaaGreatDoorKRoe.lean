/- dir.entry is walked. Conditions: those that each theorem states. -/
import Derived.Test.YtkhnnbfgjfkfeaaGreatDoorKRod
import Derived.Test.YtkhnnbfgjfkfeaaGreatDoorKRhc
import Derived.Test.YtkhnnbfgjfkfeaaGreatDoorKRlc
namespace Go.Proofs.YtkhnnbfgjfkfeaaGreatDoor
open Go.RowKit Go.Proofs.YtkhnnbfgjfkfeaaGreatDoorW.PrintWords Go.Proofs.YtkhnnbfgjfkfeaaGreatDoorW.PrintLast Go.Proofs.YtkhnnbfgjfkfeaaGreatDoorW.PrintMore Go.Proofs.YtkhnnbfgjfkfeaaGreatDoor.PCod
set_option linter.unusedVariables false
set_option linter.unusedSimpArgs false
theorem seg_to (A : Option Addr) (c : Nat) (xs : List Int) (b : Int) (h0 : 0 ≤ b) (hm : b ≤ xs.length) (hc : xs.length ≤ c) : ∃ (ys : List Int), (∀ W : World, (Instr.slice 22 (.slice A xs.length c) none (some (.int .i64 b)) none).run Tryz.prog W = .ok (.slice A ys.length c) W) ∧ ys.length ≤ c ∧ (∀ W : World, (Kd.int .u8).C W A xs.length xs → (Kd.int .u8).C W A ys.length ys) ∧ ys = xs.take b.toNat := by
  obtain ⟨i05, hi05, _, hsz5, _⟩ := info_parts info5
  obtain ⟨h2, h3, h4⟩ := print_take_int (P := Tryz.prog) (k := .u8) 22 5 Tryz.underlying22 hi05 hsz5 A c xs b h0 hm hc
  exact ⟨_, h2, h4, fun W h => Kd.C_of_reads (enc := Value.int .u8) (d := (0 : Int)) (h1 := fun _ => rfl) (h3 W (Kd.reads_of_C (enc := Value.int .u8) (d := (0 : Int)) (h1 := fun _ => rfl) h)), rfl⟩
theorem cells3 {W : World} {g t : Nat} {a0 a1 a2 : Value} (h : W.heap[g]? = some (.cells #[a0, a1, a2] t (0, 0))) : W.cell? ⟨g, 0, none⟩ = some a0 ∧ W.cell? ⟨g, 1, none⟩ = some a1 ∧ W.cell? ⟨g, 2, none⟩ = some a2 ∧ ∀ i, W.frozen? ⟨g, i, none⟩ = false :=
  ⟨by rw [blk_cell h]; rfl, by rw [blk_cell h]; rfl, by rw [blk_cell h]; rfl, fun i => blk_frozen h i⟩
set_option maxHeartbeats 4000000 in
set_option maxRecDepth 100000 in
theorem entry_calls (w : World) (A : Option Addr) (c : Nat) (ys : List Int) (h : (Kd.int .u8).C w A ys.length ys) (hl : ys.length = 12) (hc : ys.length ≤ c) (tg : ByteArray) (htg : strOfNums (ys.take 3) = tg) (kt k1 k2 : Nat) (v1 v2 : Int)
    (hn1 : dir_number.f k1 ((ys.take 7).drop 3) = some (v1, true)) (hn2 : dir_number.f k2 ((ys.take 12).drop 7) = some (v2, true)) (ht : dir_GoodTag.f kt tg = some true) (hv : 0 < v1) (hv2 : v1 ≤ 99999) (hv3 : 0 ≤ v2) (hv4 : v2 ≤ 99999) :
    Calls Tryz.prog 108 #[.slice A ys.length c] w fun e w' => e = .returned (.tuple #[.agg #[.string tg, .int .i64 v1, .int .i64 v2], .bool true]) ∧ Below w.heap.size w w' := by
  have HI := Aside0.mk h
  have HC := Aside0.mk hc
  have HT := Aside0.mk ht
  obtain ⟨y1, hs1, hy1, hC1, hq1⟩ := seg_to A c ys 3 (by omega) (by omega) hc
  obtain ⟨A2, n2, c2, y2, hs2, hm2, hy2, hd2, hC2, hq2⟩ := seg_is A c ys 3 7 (by omega) (by omega) (by omega) hc
  obtain ⟨A3, n3, c3, y3, hs3, hm3, hy3, hd3, hC3, hq3⟩ := seg_is A c ys 7 12 (by omega) (by omega) (by omega) hc
  subst hm2
  subst hm3
  have hcv : ∀ W : World, Below w.heap.size w W → (convert 22 9 (.slice A y1.length c)).run Tryz.prog W = .ok (.string tg) W := fun W hW => by
    rw [← htg, show ys.take 3 = y1 from hq1.symm]; exact Kd.C_string Tryz.underlying22 Tryz.underlying5 Tryz.underlying9 (Kd.C_below (hC1 _ h) hW)
  have k0 := fun o => hcv (w.alloc o) (below_alloc (Below.refl w.heap.size w) o)
  have HCV := Aside0.mk hcv
  have N1 : Aside0 (dir_number.f k1 y2 = some (v1, true)) := ⟨by rw [show y2 = (ys.take 7).drop 3 from hq2]; exact hn1⟩
  have N2 : Aside0 (dir_number.f k2 y3 = some (v2, true)) := ⟨by rw [show y3 = (ys.take 12).drop 7 from hq3]; exact hn2⟩
  have C2 := Aside0.mk (hC2 _ h)
  have C3 := Aside0.mk (hC3 _ h)
  clear h hc ht hcv hq1 hq2 hq3 hd2 hd3 hC1 hC2 hC3 hn1 hn2 htg hl
  go_enter Tryz.func108, Tryz.ntmps108
  go_wp2_with fail
  have B2 : Aside0 (((w.alloc (.cells #[.string ByteArray.empty, .int .i64 0, .int .i64 0] 46)).alloc (.cells #[.string tg, .int .i64 0, .int .i64 0] 46)).heap[w.heap.size]? = some (.cells #[.string ByteArray.empty, .int .i64 0, .int .i64 0] 46 (0, 0))) := ⟨blk_alloc (blk_new w _) _⟩
  have B4 : Aside0 (((w.alloc (.cells #[.string ByteArray.empty, .int .i64 0, .int .i64 0] 46)).alloc (.cells #[.string tg, .int .i64 0, .int .i64 0] 46)).heap[w.heap.size + 1]? = some (.cells #[.string tg, .int .i64 0, .int .i64 0] 46 (0, 0))) := ⟨by have := blk_new (w.alloc (.cells #[.string ByteArray.empty, .int .i64 0, .int .i64 0] 46)) (.cells #[.string tg, .int .i64 0, .int .i64 0] 46); rwa [FB.alloc_size] at this⟩
  have BW : Aside0 (Below w.heap.size w ((w.alloc (.cells #[.string ByteArray.empty, .int .i64 0, .int .i64 0] 46)).alloc (.cells #[.string tg, .int .i64 0, .int .i64 0] 46))) := ⟨below_alloc (below_alloc (Below.refl _ _) _) _⟩
  refine (told (dir_number.calls k1 A2 c2 y2 v1 true _ (Kd.C_below C2.out BW.out) hy2 N1.out)).mono ?_
  rintro e w1 ⟨rfl, hb, hh⟩
  have D2 := Aside0.mk (blk_below B2.out hb)
  have D4 := Aside0.mk (blk_below B4.out hb)
  have DW := Aside0.mk (below_then BW.out BW.out.size hb)
  clear hb hh B2 B4 BW k0
  obtain ⟨c40, c41, c42, f4⟩ := cells3 D4.out
  have E4 := Aside0.mk (blk_put D4.out 1 (.int .i64 v1) rfl)
  have E2 := Aside0.mk (blk_far D2.out (p := ⟨w.heap.size + 1, 1, none⟩) (by show w.heap.size ≠ w.heap.size + 1; omega) (.int .i64 v1))
  have EW := Aside0.mk (Below.setCell DW.out (p := ⟨w.heap.size + 1, 1, none⟩) (Nat.le_succ _) (.int .i64 v1))
  go_wp2_with fail
  refine (told (dir_number.calls k2 A3 c3 y3 v2 true _ (Kd.C_below C3.out EW.out) hy3 N2.out)).mono ?_
  rintro e w2 ⟨rfl, hb, hh⟩
  have F2 := Aside0.mk (blk_below E2.out hb)
  have F4 := Aside0.mk (blk_below E4.out hb)
  have FW := Aside0.mk (below_then EW.out EW.out.size hb)
  clear hb hh D2 D4 DW E2 E4 EW c40 c41 c42 f4
  obtain ⟨c40, c41, c42, f4⟩ := cells3 F4.out
  have G4 := Aside0.mk (blk_put F4.out 2 (.int .i64 v2) rfl)
  have G2 := Aside0.mk (blk_far F2.out (p := ⟨w.heap.size + 1, 2, none⟩) (by show w.heap.size ≠ w.heap.size + 1; omega) (.int .i64 v2))
  have GW := Aside0.mk (Below.setCell FW.out (p := ⟨w.heap.size + 1, 2, none⟩) (Nat.le_succ _) (.int .i64 v2))
  go_upto_region 5 with (fail)
  generalize w2.setCell ⟨w.heap.size + 1, 2, none⟩ (.int .i64 v2) = wR at G4 G2 GW ⊢
  clear c40 c41 c42 f4 F2 F4 FW
  obtain ⟨c40, c41, c42, f4⟩ := cells3 G4.out
  have hv1 : decide (0 < v1) = true := decide_eq_true hv
  go_region_law (go_simp
                 go_at_call_of 99 (Value.string tg)
                 refine (told (dir_GoodTag.calls kt tg true _ HT.out)).mono ?_
                 rintro e w9 ⟨rfl, hb9, hh9⟩
                 have P2 : Aside0 (w9.heap[w.heap.size]? = some (.cells #[.string ByteArray.empty, .int .i64 0, .int .i64 0] 46 (0, 0))) := ⟨(congrArg (fun H : Array Obj => H[w.heap.size]?) hh9).trans G2.out⟩
                 have P4 : Aside0 (w9.heap[w.heap.size + 1]? = some (.cells #[.string tg, .int .i64 v1, .int .i64 v2] 46 (0, 0))) := ⟨(congrArg (fun H : Array Obj => H[w.heap.size + 1]?) hh9).trans G4.out⟩
                 have PW : Aside0 (Below w.heap.size w w9) := ⟨below_then GW.out GW.out.size (below_then (below_drew (Below.refl _ _)) (Nat.le_refl _) hb9)⟩
                 obtain ⟨p40, p41, p42, q4⟩ := cells3 P4.out
                 obtain ⟨p20, p21, p22, q2⟩ := cells3 P2.out
                 clear hb9 hh9)
  all_goals
    go_wp2
    refine bodyPost_ret (results_list (rs := [.cell 2 46, .tmp 3]) rfl (by simp) (.cell _ 46 _ (0, 0) _ rfl (ent_put P2.out _ _ _) Tryz.underlying46 rfl (by kernel_rfl) (.tmp .nil))) rfl ?_
    exact ⟨rfl, ent_below PW.out _ (Nat.le_refl _) _ _ _⟩
end Go.Proofs.YtkhnnbfgjfkfeaaGreatDoor
