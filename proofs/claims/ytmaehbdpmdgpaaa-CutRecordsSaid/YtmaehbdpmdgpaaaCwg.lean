/- The cutter's walks, seventh part: answers. -/
import Derived.Test.YtmaehbdpmdgpaaaCwf
import Derived.Lib.SlBytesConst
namespace Go.Proofs.Ytmaehbdpmdgpaaa
open Go.RowKit Go.Proofs.YtmaehbdpmdgpaaaW.PrintWords Go.Proofs.YtmaehbdpmdgpaaaW.PrintLast Go.Proofs.YtmaehbdpmdgpaaaW.PrintMore Go.Proofs.Ytmaehbdpmdgpaaa.PCut
set_option linter.unusedVariables false
set_option linter.unusedSimpArgs false
theorem one_piece {W : World} {base : Nat} {ok : Nat → Prop} {v : Value} {p : S34} (h : Kd.N k34 34 W base ok v [p]) : ∃ gl cap A2 c2, v = .slice (some ⟨gl, 0, none⟩) 1 cap ∧ W.cell? ⟨gl, 0, none⟩ = some (.int .i64 p.f0) ∧ W.cell? ⟨gl, 1, none⟩ = some (.bool p.f1) ∧ W.cell? ⟨gl, 2, none⟩ = some (.slice A2 p.f2.length c2) := by
  obtain ⟨gl, cap, rfl, _, _, _⟩ := Kd.N_form h (by simp)
  obtain ⟨ad, A2, c2, e, h0, h1, h2, _⟩ := at_T34 (Kd.N_reads' h).2.2 0 (by omega) (by simp)
  injection e with e
  subst e
  exact ⟨gl, cap, A2, c2, rfl, h0, h1, h2⟩
theorem ans1 : allP (([] ++ [97, 98, 29, 99] : List Int).length + 2) ([] ++ [97, 98, 29, 99]) 0 false = ([(0, false, [97, 98, 29])], [99], 3) := by decide
theorem ans2 : allP (([99] : List Int).length + 2) [99] 3 true = ([(3, false, [99])], [], 4) := by decide
theorem lit_C (w : World) : (Kd.int .u8).C (w.alloc (.cells #[.int .u8 97, .int .u8 98, .int .u8 29, .int .u8 99] 5 (4, 5))) (some ⟨w.heap.size, 0, none⟩) ([97, 98, 29, 99] : List Int).length [97, 98, 29, 99] := by
  refine Kd.C_of_reads (enc := Value.int .u8) (d := (0 : Int)) (h1 := fun _ => rfl) ⟨rfl, by simp, fun _ => ⟨_, rfl, fun j hj => ?_⟩⟩
  have hb := blk_new w (.cells #[.int .u8 97, .int .u8 98, .int .u8 29, .int .u8 99] 5 (4, 5))
  have : j = 0 ∨ j = 1 ∨ j = 2 ∨ j = 3 := by simp at hj; omega
  rcases this with rfl | rfl | rfl | rfl <;> (first | exact (cell_of_row _ _ 0 _ _ _ hb).trans rfl | exact (cell_of_row _ _ 1 _ _ _ hb).trans rfl | exact (cell_of_row _ _ 2 _ _ _ hb).trans rfl | exact (cell_of_row _ _ 3 _ _ _ hb).trans rfl)
set_option maxHeartbeats 1600000 in
set_option maxRecDepth 100000 in
theorem answers_calls (w : World) : Calls Try.prog 8 #[] w fun e w' => e = .returned (.bool true) ∧ Below w.heap.size w w' := by
  have kc := fun (w : World) (C : Array Value) (n c : Nat) => Lib.run_convert_bytes_const (P := Try.prog) w 22 5 C n c Try.underlying22 Try.underlying5
  go_enter Try.func8, Try.ntmps8
  go_wp2_with fail
  refine (new_calls w w.heap.size (Nat.le_refl _)).mono ?_
  rintro e w1 ⟨g, rfl, hg, hc, hb⟩
  have HC := Aside0.mk hc
  have HB := Aside0.mk hb
  clear hc hb
  go_wp2_with fail
  rw [show (Value.slice (some ⟨w1.heap.size, 0, none⟩) 4 4) = (Value.slice (some ⟨w1.heap.size, 0, none⟩) ([97, 98, 29, 99] : List Int).length 4) from rfl]
  have hwl := HB.out.size
  refine (feed_calls _ w.heap.size g none 0 [] 0 (HC.out.below (below_alloc (Below.refl _ _) _)) (by simp; omega) (some ⟨w1.heap.size, 0, none⟩) 4 [97, 98, 29, 99] (lit_C w1) (by simp) (by simp) (by omega) (by simp) (by simp)).mono ?_
  rw [ans1]
  rintro e w2 ⟨v, rfl, A1, c1, F1⟩
  have hf1 := F1
  have F1' := Aside0.mk F1
  clear F1 hf1
  go_wp2_with fail
  refine (end_calls _ w.heap.size g A1 c1 [99] 3 F1'.out.cu (by omega) (by simp) (by simp)).mono ?_
  rw [ans2]
  rintro e w3 ⟨v2, rfl, A2, c2, F2⟩
  have hn1 := Kd.N_kept F1'.out.nn F2.kept (fun k hk => fun hs => hs.elim hk.1 (fun e => hk.2.1 e.symm))
  obtain ⟨g1, k1, B1, d1, rfl, p0, p1, p2⟩ := one_piece hn1
  obtain ⟨g2, k2, B2, d2, rfl, q0, q1, q2⟩ := one_piece F2.nn
  have FB := Aside0.mk (((HB.out.alloc HB.out.size (.cells #[.int .u8 97, .int .u8 98, .int .u8 29, .int .u8 99] 5 (4, 5))).trans F1'.out.below).trans F2.below)
  clear hn1 F2
  simp only [toS] at p0 p1 p2 q0 q1 q2
  go_wp2
  go_ret
  exact ⟨rfl, FB.out⟩
end Go.Proofs.Ytmaehbdpmdgpaaa
