/- The cutter's walks, first part: the state, bytes.IndexByte, bytes.Clone, length. -/
import Derived.Test.YtmaehbdpmdgpaaaPCutx2
import Derived.Test.YtmaehbdpmdgpaaaPure0
import Derived.Lib.BytesEntry
import Derived.WalkSpells
import Derived.Outline
import Derived.Lib.Hide
namespace Go.Proofs.Ytmaehbdpmdgpaaa
open Go.RowKit Go.Proofs.YtmaehbdpmdgpaaaW.PrintWords Go.Proofs.YtmaehbdpmdgpaaaW.PrintLast Go.Proofs.YtmaehbdpmdgpaaaW.PrintMore Go.Proofs.Ytmaehbdpmdgpaaa.PCut
set_option linter.unusedVariables false
set_option linter.unusedSimpArgs false

/-- The cutter at block g: what waits is a row of its own. -/
structure IsC (w : World) (B g : Nat) (v : Value) (xs : List Int) (at0 : Int) (en : Bool) : Prop where
  blk : w.heap[g]? = some (.cells #[v, .int .i64 at0, .bool en] 50 (0, 0))
  ge : B ≤ g
  row : (Kd.int .u8).R 5 w B (fun _ => True) v xs
  byt : ∀ x ∈ xs, 0 ≤ x ∧ x ≤ 255
  len : xs.length ≤ 140737488355328
theorem IsC.cell0 {w : World} {B g : Nat} {v : Value} {xs : List Int} {at0 : Int} {en : Bool} (h : IsC w B g v xs at0 en) : w.cell? ⟨g, 0, none⟩ = some v := by rw [blk_cell h.blk]; rfl
theorem IsC.cell1 {w : World} {B g : Nat} {v : Value} {xs : List Int} {at0 : Int} {en : Bool} (h : IsC w B g v xs at0 en) : w.cell? ⟨g, 1, none⟩ = some (.int .i64 at0) := by rw [blk_cell h.blk]; rfl
theorem IsC.cell2 {w : World} {B g : Nat} {v : Value} {xs : List Int} {at0 : Int} {en : Bool} (h : IsC w B g v xs at0 en) : w.cell? ⟨g, 2, none⟩ = some (.bool en) := by rw [blk_cell h.blk]; rfl

theorem val_take (xs : List Int) (k : Nat) (h : ∀ j, j < k → 48 ≤ xs.getD j 0 ∧ xs.getD j 0 ≤ 57) (hk : k ≤ xs.length) : 0 ≤ val5 (xs.take k) ∧ val5 (xs.take k) < 10 ^ k := by
  induction k with
  | zero => simp [val5]
  | succ k ih =>
    have h1 := ih (fun j hj => h j (by omega)) (by omega)
    have h2 := h k (by omega)
    have e : xs.take (k + 1) = xs.take k ++ [xs.getD k 0] := by
      rw [List.take_succ_eq_append_getElem (by omega), List.getD_eq_getElem?_getD, List.getElem?_eq_getElem (by omega)]; rfl
    have e2 : val5 (xs.take (k + 1)) = 10 * val5 (xs.take k) + (xs.getD k 0 - 48) := by rw [e]; simp [val5]
    rw [e2, Int.pow_succ]; omega
theorem val_succ (xs : List Int) (k : Nat) (hk : k < xs.length) : val5 (xs.take (k + 1)) = 10 * val5 (xs.take k) + (xs.getD k 0 - 48) := by
  have e : xs.take (k + 1) = xs.take k ++ [xs.getD k 0] := by
    rw [List.take_succ_eq_append_getElem (by omega), List.getD_eq_getElem?_getD, List.getElem?_eq_getElem (by omega)]; rfl
  rw [e]; simp [val5]
theorem idx_eq (xs : List Int) (h : ∀ x ∈ xs, 0 ≤ x ∧ x ≤ 255) : Lib.indexByte (Lib.bytesOf xs) (29 : Int).toNat.toUInt8 = idx xs := by
  induction xs with
  | nil => rfl
  | cons c l ih =>
    have hc := h c (by simp)
    have ih' := ih (fun x hx => h x (List.mem_cons_of_mem _ hx))
    show (if c.toNat.toUInt8 == (29 : Int).toNat.toUInt8 then (0 : Int) else if Lib.indexByte (Lib.bytesOf l) (29 : Int).toNat.toUInt8 == -1 then -1 else Lib.indexByte (Lib.bytesOf l) (29 : Int).toNat.toUInt8 + 1) = idx (c :: l)
    rw [ih', show idx (c :: l) = if c = 29 then 0 else if idx l = -1 then -1 else idx l + 1 from rfl]
    have e : (c.toNat.toUInt8 == (29 : Int).toNat.toUInt8) = decide (c = 29) := by
      rw [Bool.eq_iff_iff, beq_iff_eq, decide_eq_true_iff]
      constructor
      · intro h1
        have := congrArg UInt8.toNat h1
        simp at this
        omega
      · rintro rfl; rfl
    rw [e]
    by_cases h1 : c = 29
    · simp [h1]
    · simp [h1]
set_option maxHeartbeats 1000000 in
set_option maxRecDepth 100000 in
theorem index_calls (w : World) (base : Nat) (ok : Nat → Prop) (v : Value) (xs : List Int) (h : (Kd.int .u8).R 5 w base ok v xs) (hb : ∀ x ∈ xs, 0 ≤ x ∧ x ≤ 255) :
    Calls Try.prog 29 #[v, .int .u8 29] w fun e w' => e = .returned (.int .i64 (idx xs)) ∧ w = w' := by
  have ho := Kd.own_of_R (enc := Value.int .u8) (h1 := fun _ => rfl) h
  rcases ho.2 with ⟨rfl, h0⟩ | ⟨g, cap, cur, rfl, _⟩
  · obtain rfl : xs = [] := List.eq_nil_of_length_eq_zero h0
    clear ho h
    go_enter Try.func29, Try.ntmps29
    go_wp2
    rw [run_callFunc_extern Try.func31 (by kernel_rfl) (by kernel_rfl) (by kernel_rfl) (e := Extern.BytealgIndexByte.indexByte) (by kernel_rfl), Lib.run_indexByteNil w 0 0 29]
    simp only [Result.andThen]
    rw [Oper.upon_value]
    go_wp2
    go_ret
    exact ⟨rfl, rfl⟩
  · have hc : ∀ i, i < xs.length → w.cell? ⟨g, 0 + i, none⟩ = some (.int .u8 (xs.getD i 0)) := fun i hi => by
      have hcc := ho.cells (g := g) rfl i (.int .u8 (xs.getD i 0)) (by simp [encs, List.getElem?_eq_getElem hi, List.getD_eq_getElem?_getD])
      have ha : (⟨g, 0, none⟩ : Addr).add i = ⟨g, 0 + i, none⟩ := by unfold Addr.add; split <;> simp_all
      rwa [ha] at hcc
    have hrun := Lib.run_indexByteSlice (P := Try.prog) w g 0 xs.length cap xs rfl hc 29
    have e := idx_eq xs hb
    rw [e] at hrun
    have HR := Lib.hid hrun
    clear hrun e hc ho h hb
    go_enter Try.func29, Try.ntmps29
    go_wp2
    rw [run_callFunc_extern Try.func31 (by kernel_rfl) (by kernel_rfl) (by kernel_rfl) (e := Extern.BytealgIndexByte.indexByte) (by kernel_rfl), HR.out]
    simp only [Result.andThen]
    rw [Oper.upon_value]
    go_wp2
    go_ret
    exact ⟨rfl, rfl⟩

set_option maxHeartbeats 4000000 in
set_option maxRecDepth 100000 in
theorem clone_calls (w : World) (A : Option Addr) (c : Nat) (xs : List Int) (h : (Kd.int .u8).C w A xs.length xs) (hl : xs.length ≤ 140737488355328) (hc : xs.length ≤ c) :
    Calls Try.prog 30 #[.slice A xs.length c] w fun e w' => ∃ v, e = .returned v ∧ (Kd.int .u8).R 5 w' w.heap.size (fun _ => True) v xs ∧ Below w.heap.size w w' := by
  have hnil := fun (W : World) => Lib.run_eql_slice_nil (P := Try.prog) W 22 5 A xs.length c 0 0 Try.underlying22
  rcases A with _ | ad
  · have h0 : xs = [] := by
      rcases Nat.eq_zero_or_pos xs.length with h0 | h0
      · exact List.eq_nil_of_length_eq_zero h0
      · obtain ⟨ad, h', _⟩ := h.2.2 h0
        cases h'
    subst h0
    clear h
    simp only [List.length_nil] at hnil ⊢
    go_enter Try.func30, Try.ntmps30
    go_wp2
    go_ret
    exact ⟨_, rfl, Kd.R_nil _ _ _ _ _, Below.refl _ _⟩
  · have HC := Aside0.mk h
    have HL := Aside0.mk hl
    clear h hl hc
    go_enter Try.func30, Try.ntmps30
    go_wp2_with (first | ((with_reducible refine gate_dst (N := 5) rfl ?_); refine Kd.R_lit (Kd.int .u8) _ 5 ?hg (N := 5) ?hd (xs := ([] : List Int)) (inner := []) (ok := fun _ => True) (okp := fun _ => True) ?hr ?hp (fun _ hk => hk) trivial (Below.refl _ _) (Nat.le_refl _) (by simp) ?_; (case hd => rfl); (case hg => rfl); (case hr => first | (go_simp; done) | (go_simp; rfl)); (case hp => exact Reps.none _ _); intro v1 w1 ho1 hb1 hg1 hn1; clear hg1 hn1; have HO1 := Aside0.mk ho1; have HB1 := Aside0.mk hb1; clear ho1 hb1) | ((with_reducible refine gate_builtin (b := .append) (xs := #[.tmp 5, .tmp 6]) rfl ?_); at_builtin; refine Kd.R_append_rows (Kd.int .u8) (w0 := w) w.heap.size rfl (.tmp 5) (.tmp 6) 22 5 (.int .u8 0) 1 rfl Try.underlying22 info5 rfl (by decide) (by omega) v1 [] xs _ _ _ (fun _ => True) (fun _ => False) rfl rfl ?aO ?aR (fun _ _ h => h) (fun _ h => h.elim) ?aF ?aB ?aS ?aL ?_; (case aO => exact HO1.out); (case aR => exact Kd.C_below HC.out HB1.out); (case aF => exact fun _ _ => trivial); (case aB => exact HB1.out); (case aS => exact HB1.out.size); (case aL => have := HL.out; simp; omega); intro v2 w2 ho2 hb2 hg2 hat2; clear hg2 hat2; have HO2 := Aside0.mk ho2; have HB2 := Aside0.mk hb2; clear ho2 hb2))
    go_ret
    exact ⟨_, rfl, by have := HO2.out; rwa [List.nil_append] at this, HB2.out⟩

set_option maxHeartbeats 4000000 in
set_option maxRecDepth 100000 in
theorem length_calls (w : World) (B g : Nat) (v : Value) (xs : List Int) (at0 : Int) (en : Bool) (h : IsC w B g v xs at0 en) :
    Calls Try.prog 26 #[.pointer (some ⟨g, 0, none⟩)] w fun e w' => e = .returned (.tuple #[.int .i64 (lenP xs en).1, .bool (lenP xs en).2]) ∧ Drawn0 w w' := by
  have h0 := h.cell0
  have h2 := h.cell2
  obtain ⟨A, c, rfl⟩ := Kd.R_slice h.row
  have hr := (Kd.R_reads' h.row).2.2
  have hcell : ∀ k : Nat, k < xs.length → ∃ ad, A = some ad ∧ w.cell? (ad.add k) = some (.int .u8 (xs.getD k 0)) := fun k hk => by
    have := Kd.at_int hr (k : Int) (by omega) (by omega)
    obtain ⟨ad, e, hc⟩ := this
    exact ⟨ad, e, by simpa [rd] using hc⟩
  have HX := Aside0.mk hcell
  have HB := Aside0.mk h.byt
  have hl : xs.length ≤ 140737488355328 := h.len
  clear hcell hr h
  go_enter Try.func26, Try.ntmps26
  go_wp2
  go_loop [2, 11] (fun n i => ∃ k : Nat, k ≤ 5 ∧ k ≤ xs.length ∧ Aside0 (∀ j, j < k → dig (xs.getD j 0) = true) ∧ i = .int .i64 k ∧ n = .int .i64 (val5 (xs.take k))) (fun _ i => xs.length - (intOf i).toNat)
  case atStart => exact ⟨0, by omega, by omega, ⟨fun j hj => absurd hj (by omega)⟩, rfl, rfl⟩
  case round =>
    obtain ⟨k, hk5, hkl, HD, rfl, rfl⟩ := hrel
    have hvb := val_take xs k (fun j hj => by have := HD.out j hj; unfold dig at this; exact of_decide_eq_true this) hkl
    obtain ⟨vv, hvv⟩ : ∃ vv, val5 (xs.take k) = vv := ⟨_, rfl⟩
    rw [hvv] at hvb
    have HVV := Aside0.mk hvv
    rw [hvv]
    clear hvv
    have hvv5 : k < 5 → vv ≤ 9999 := fun h5 => by
      have : (10 : Int) ^ k ≤ 10000 := by
        have : k = 0 ∨ k = 1 ∨ k = 2 ∨ k = 3 ∨ k = 4 := by omega
        rcases this with rfl | rfl | rfl | rfl | rfl <;> decide
      omega
    have hv0 : 0 ≤ vv := hvb.1
    clear hvb
    by_cases hk : k < xs.length
    · obtain ⟨ad, rfl, hc⟩ := HX.out k hk
      obtain ⟨x, hx⟩ : ∃ x, xs.getD k 0 = x := ⟨_, rfl⟩
      rw [hx] at hc
      have HXX := Aside0.mk hx
      have hxb : 0 ≤ x ∧ x ≤ 255 := by
        rw [← hx, List.getD_eq_getElem?_getD, List.getElem?_eq_getElem hk]; exact HB.out _ (List.getElem_mem hk)
      clear hx
      obtain ⟨hx0, hx1⟩ := hxb
      by_cases hk5' : k < 5
      · have hv9 := hvv5 hk5'
        have hne : ((k : Int) == 5) = false := by rw [beq_eq_false_iff_ne]; omega
        clear hvv5
        by_cases hd : 48 ≤ x ∧ x ≤ 57
        · obtain ⟨hd0, hd1⟩ := hd
          go_wp2
          all_goals
            go_round
            case rel => exact ⟨k + 1, by omega, by omega, ⟨fun j hj => by
                rcases Nat.lt_or_ge j k with h | h
                · exact HD.out j h
                · obtain rfl : j = k := by omega
                  rw [HXX.out]; unfold dig; exact decide_eq_true ⟨hd0, hd1⟩⟩, by go_num, by
                have e := val_succ xs k hk
                rw [HVV.out, HXX.out] at e
                rw [e]⟩
            case measure => simp [intOf]; omega
        · have hbad : lenP xs en = (0, true) := lenP_bad xs en k hk5' hk (by rw [HXX.out]; unfold dig; exact decide_eq_false hd)
          have HF := Aside0.mk hbad
          clear hbad
          go_wp2
          all_goals
            go_ret2
            rw [HF.out]
            exact ⟨rfl, Drawn0.refl _⟩
      · have hge : 5 ≤ k := by omega
        have hbe : ((k : Int) == 5) = true := by rw [beq_iff_eq]; omega
        have hv5 : val5 (xs.take 5) = vv := by rw [← HVV.out, show k = 5 by omega]
        have HV5 := Aside0.mk hv5
        clear hv5 hvv5
        have hlen : decide ((xs.length : Int) < 5) = false := by simp; omega
        have hall := all_dig xs 5 (fun j hj _ => HD.out j (by omega))
        by_cases hr : vv < 26 ∨ 99999 < vv
        · have hfin : lenP xs en = (0, true) := by
            unfold lenP
            rw [if_pos hall, if_neg (by omega), if_pos (by rw [HV5.out]; exact hr)]
          have HF := Aside0.mk hfin
          clear hfin
          go_wp2
          all_goals
            first
            | (exfalso; omega)
            | (go_ret2; rw [HF.out]; exact ⟨rfl, Drawn0.refl _⟩)
        · have hfin : lenP xs en = (vv, true) := by
            unfold lenP
            rw [if_pos hall, if_neg (by omega), if_neg (by rw [HV5.out]; exact hr), HV5.out]
          have HF := Aside0.mk hfin
          clear hfin
          have hr1 : 26 ≤ vv := by omega
          have hr2 : vv ≤ 99999 := by omega
          go_wp2
          all_goals
            first
            | (exfalso; omega)
            | (go_ret2; rw [HF.out]; exact ⟨rfl, Drawn0.refl _⟩)
    · obtain rfl : k = xs.length := by omega
      have hall : (xs.take 5).all dig = true := all_dig xs 5 (fun j _ hj => HD.out j hj)
      have htk : xs.take 5 = xs.take xs.length := by rw [List.take_of_length_le (by omega), List.take_of_length_le (by omega)]
      by_cases hlen : xs.length < 5
      · have hlb : decide ((xs.length : Int) < 5) = true := by simp; omega
        have hfin : lenP xs en = (0, en) := by
          unfold lenP
          rw [if_pos hall, if_pos hlen]
        have HF := Aside0.mk hfin
        clear hfin
        go_wp2
        repeat (go_quiet (fail); try go_wp2)
        go_ret2
        rw [HF.out]
        exact ⟨rfl, by repeat (first | exact Drawn0.refl _ | apply Drawn0.step)⟩
      · have hlb : decide ((xs.length : Int) < 5) = false := by simp; omega
        have hv5 : val5 (xs.take 5) = vv := by rw [htk]; exact HVV.out
        by_cases hr : vv < 26 ∨ 99999 < vv
        · have hfin : lenP xs en = (0, true) := by
            unfold lenP
            rw [if_pos hall, if_neg hlen, if_pos (by rw [hv5]; exact hr)]
          clear hv5
          have HF := Aside0.mk hfin
          clear hfin
          go_wp2
          all_goals
            first
            | (exfalso; omega)
            | (go_ret2; rw [HF.out]; exact ⟨rfl, Drawn0.refl _⟩)
        · have hfin : lenP xs en = (vv, true) := by
            unfold lenP
            rw [if_pos hall, if_neg hlen, if_neg (by rw [hv5]; exact hr), hv5]
          clear hv5
          have HF := Aside0.mk hfin
          clear hfin
          have hr1 : 26 ≤ vv := by omega
          have hr2 : vv ≤ 99999 := by omega
          go_wp2
          all_goals
            first
            | (exfalso; omega)
            | (go_ret2; rw [HF.out]; exact ⟨rfl, Drawn0.refl _⟩)
end Go.Proofs.Ytmaehbdpmdgpaaa
