/- The cutter's walks, fourth part: next. -/
import Derived.Test.YtmaehbdpmdgpaaaCwc
namespace Go.Proofs.Ytmaehbdpmdgpaaa
open Go.RowKit Go.Proofs.YtmaehbdpmdgpaaaW.PrintWords Go.Proofs.YtmaehbdpmdgpaaaW.PrintLast Go.Proofs.YtmaehbdpmdgpaaaW.PrintMore Go.Proofs.Ytmaehbdpmdgpaaa.PCut
set_option linter.unusedVariables false
set_option linter.unusedSimpArgs false
theorem IsC.drewN {w : World} {B g : Nat} {v : Value} {xs : List Int} {at0 : Int} {en : Bool} (h : IsC w B g v xs at0 en) (m : Nat) : IsC (w.drewN m) B g v xs at0 en := h.below (pw_below_drewN (Below.refl _ _) m)
theorem Took.drawn {w w' : World} {B g : Nat} {A : Option Addr} {v' : Value} {xs : List Int} {at0 : Int} {en : Bool} {n : Nat} {m : Nat} (t : Took (w.drewN m) w' B g A v' xs at0 en n) : Took w w' B g A v' xs at0 en n :=
  ⟨t.c, t.f, t.kept, t.fresh, ⟨t.below.os, t.below.tape, t.below.output, t.below.size, t.below.block⟩⟩
/-- what 'next' and 'bad' answer -/
def Answer (r : Option (Nat × Bool)) (w : World) (B g : Nat) (A : Option Addr) (xs : List Int) (at0 : Int) (en : Bool) (e : Ending) (w' : World) : Prop :=
  match r with
  | none => e = .returned (.tuple #[.agg #[.int .i64 0, .bool false, .slice none 0 0], .bool false]) ∧ Below w.heap.size w w'
  | some (n, good) => ∃ v' : Value, e = .returned (.tuple #[.agg #[.int .i64 at0, .bool good, .slice A n n], .bool true]) ∧ Took w w' B g A v' xs at0 en n
abbrev X34 : Obj := .cells #[.int .i64 0, .bool false, .slice none 0 0] 34
set_option maxHeartbeats 1600000 in
set_option maxRecDepth 100000 in
theorem next_nil (w : World) (B g : Nat) (A : Option Addr) (c : Nat) (at0 : Int) (en : Bool) (h : IsC w B g (.slice A ([] : List Int).length c) [] at0 en) :
    Calls Try.prog 21 #[.pointer (some ⟨g, 0, none⟩)] w fun e w' => Answer none w B g A [] at0 en e w' := by
  have c0 := h.cell0
  simp only [List.length_nil] at c0
  have hgl := blk_lt h.blk
  clear h
  go_enter Try.func21, Try.ntmps21
  go_wp2
  exact bodyPost_ret (results_ct rfl _ _ w.heap.size 34 #[.int .i64 0, .bool false, .slice none 0 0] (0, 0) _ rfl (blk_new _ _) Try.underlying34 rfl (by kernel_rfl)) rfl ⟨rfl, below_alloc (Below.refl _ _) _⟩
set_option maxHeartbeats 1600000 in
set_option maxRecDepth 100000 in
theorem next_wait (w : World) (B g : Nat) (A : Option Addr) (c : Nat) (xs : List Int) (at0 : Int) (en : Bool) (n : Int) (h : IsC w B g (.slice A xs.length c) xs at0 en) (hne : 1 ≤ xs.length) (hL : lenP xs en = (n, false)) :
    Calls Try.prog 21 #[.pointer (some ⟨g, 0, none⟩)] w fun e w' => Answer none w B g A xs at0 en e w' := by
  have c0 := h.cell0
  have hgl := blk_lt h.blk
  have hl : xs.length ≤ 140737488355328 := h.len
  have hle : ((xs.length : Int) == 0) = false := by rw [beq_eq_false_iff_ne]; omega
  have hx := length_calls (w.alloc (.cells #[.int .i64 0, .bool false, .slice none 0 0] 34)) B g _ xs at0 en (h.below (below_alloc (Below.refl _ _) _))
  rw [hL] at hx
  simp only at hx
  have HX := Aside0.mk hx
  clear hx h hL
  go_enter Try.func21, Try.ntmps21
  go_wp2_with fail
  refine HX.out.mono ?_
  rintro e w1 ⟨rfl, ⟨⟨m, rfl⟩⟩⟩
  have TB := Aside0.mk (stW_blk (blk_drewN (blk_new w (.cells #[.int .i64 0, .bool false, .slice none 0 0] 34)) m) (.int .i64 0) (.bool false) (.slice none 0 0))
  have TL := Aside0.mk (stW_below (pw_below_drewN (below_alloc (Below.refl w.heap.size w) (.cells #[.int .i64 0, .bool false, .slice none 0 0] 34)) m) (Nat.le_refl w.heap.size) (.int .i64 0) (.bool false) (.slice none 0 0))
  go_wp2
  exact bodyPost_ret (results_ct rfl _ _ w.heap.size 34 #[.int .i64 0, .bool false, .slice none 0 0] (0, 0) _ rfl TB.out Try.underlying34 rfl (by kernel_rfl)) rfl ⟨rfl, TL.out⟩
set_option maxHeartbeats 1600000 in
set_option maxRecDepth 100000 in
/-- no length: up to the next end -/
theorem next_bad0 (w : World) (B g : Nat) (A : Option Addr) (c : Nat) (xs : List Int) (at0 : Int) (en : Bool) (h : IsC w B g (.slice A xs.length c) xs at0 en) (hne : 1 ≤ xs.length) (h0 : 0 ≤ at0) (h1 : at0 ≤ 4611686018427387904) (hL : lenP xs en = (0, true)) :
    Calls Try.prog 21 #[.pointer (some ⟨g, 0, none⟩)] w fun e w' => Answer (badP xs en) w B g A xs at0 en e w' := by
  have c0 := h.cell0
  have hgl := blk_lt h.blk
  have hl : xs.length ≤ 140737488355328 := h.len
  have hle : ((xs.length : Int) == 0) = false := by rw [beq_eq_false_iff_ne]; omega
  have hx := length_calls (w.alloc (.cells #[.int .i64 0, .bool false, .slice none 0 0] 34)) B g _ xs at0 en (h.below (below_alloc (Below.refl _ _) _))
  rw [hL] at hx
  simp only at hx
  have HX := Aside0.mk hx
  have HH := Aside0.mk h
  have HE := Aside0.mk hne
  clear hx h hL
  go_enter Try.func21, Try.ntmps21
  go_wp2_with fail
  refine HX.out.mono ?_
  rintro e w1 ⟨rfl, ⟨⟨m, rfl⟩⟩⟩
  go_wp2_with fail
  refine (bad_calls _ B g A c xs at0 en ((HH.out.below (below_alloc (Below.refl _ _) _)).drewN m) HE.out h0 h1).mono ?_
  intro e w1 hb
  cases hr : badP xs en with
  | none =>
    rw [hr] at hb
    obtain ⟨rfl, hb⟩ := hb
    have s0 : w1.heap[w.heap.size]? = some (.cells #[.int .i64 0, .bool false, .slice none 0 0] 34) := (hb.block w.heap.size (by simp)).trans (blk_drewN (blk_new w _) m)
    have hbw : Below w.heap.size w w1 := below_then (pw_below_drewN (below_alloc (Below.refl w.heap.size w) (.cells #[.int .i64 0, .bool false, .slice none 0 0] 34)) m) (by simp) hb
    have TB := Aside0.mk (stW_blk s0 (.int .i64 0) (.bool false) (.slice none 0 0))
    have TL := Aside0.mk (stW_below hbw (Nat.le_refl w.heap.size) (.int .i64 0) (.bool false) (.slice none 0 0))
    have r0 : w1.cell? ⟨w.heap.size, 0, none⟩ = some (.int .i64 0) := by rw [blk_cell s0]; rfl
    have r1 : w1.cell? ⟨w.heap.size, 1, none⟩ = some (.bool false) := by rw [blk_cell s0]; rfl
    have r2 : w1.cell? ⟨w.heap.size, 2, none⟩ = some (.slice none 0 0) := by rw [blk_cell s0]; rfl
    have rf0 := blk_frozen s0 0
    have rf1 := blk_frozen s0 1
    have rf2 := blk_frozen s0 2
    have HR := Aside0.mk hr
    clear s0 hb hbw hr
    go_wp2
    refine bodyPost_ret (results_ct rfl _ _ w.heap.size 34 #[.int .i64 0, .bool false, .slice none 0 0] (0, 0) _ rfl TB.out Try.underlying34 rfl (by kernel_rfl)) rfl ?_
    rw [HR.out]
    exact ⟨rfl, TL.out⟩
  | some p =>
    obtain ⟨n, good⟩ := p
    rw [hr] at hb
    obtain ⟨v', rfl, tk⟩ := hb
    have tk2 := tk.drawn
    have s0 := tk2.var hgl
    have TK := Aside0.mk (Took.store HH.out tk2 (.int .i64 at0) (.bool good) (.slice A n n))
    have TB := Aside0.mk (stW_blk s0 (.int .i64 at0) (.bool good) (.slice A n n))
    have r0 : w1.cell? ⟨w.heap.size, 0, none⟩ = some (.int .i64 0) := by rw [blk_cell s0]; rfl
    have r1 : w1.cell? ⟨w.heap.size, 1, none⟩ = some (.bool false) := by rw [blk_cell s0]; rfl
    have r2 : w1.cell? ⟨w.heap.size, 2, none⟩ = some (.slice none 0 0) := by rw [blk_cell s0]; rfl
    have rf0 := blk_frozen s0 0
    have rf1 := blk_frozen s0 1
    have rf2 := blk_frozen s0 2
    have HR := Aside0.mk hr
    clear s0 tk tk2 hr
    go_wp2
    refine bodyPost_ret (results_ct rfl _ _ w.heap.size 34 #[.int .i64 at0, .bool good, .slice A n n] (0, 0) _ rfl TB.out Try.underlying34 rfl (by kernel_rfl)) rfl ?_
    rw [HR.out]
    exact ⟨v', rfl, TK.out⟩
set_option maxHeartbeats 1600000 in
set_option maxRecDepth 100000 in
/-- a length, and it is not there yet -/
theorem next_more (w : World) (B g : Nat) (A : Option Addr) (c : Nat) (xs : List Int) (at0 : Int) (k : Nat) (h : IsC w B g (.slice A xs.length c) xs at0 false) (hne : 1 ≤ xs.length) (hk : xs.length ≤ k) (hk2 : k < 99999) (hL : lenP xs false = ((k : Int) + 1, true)) :
    Calls Try.prog 21 #[.pointer (some ⟨g, 0, none⟩)] w fun e w' => Answer none w B g A xs at0 false e w' := by
  have c0 := h.cell0
  have c2 := h.cell2
  have hgl := blk_lt h.blk
  have hl : xs.length ≤ 140737488355328 := h.len
  have hle : ((xs.length : Int) == 0) = false := by rw [beq_eq_false_iff_ne]; omega
  have hke : ((k : Int) + 1 == 0) = false := by rw [beq_eq_false_iff_ne]; omega
  have hkl : decide ((xs.length : Int) < (k : Int) + 1) = true := decide_eq_true (by omega)
  have hx := length_calls (w.alloc (.cells #[.int .i64 0, .bool false, .slice none 0 0] 34)) B g _ xs at0 false (h.below (below_alloc (Below.refl _ _) _))
  rw [hL] at hx
  simp only at hx
  have HX := Aside0.mk hx
  clear hx h hL
  go_enter Try.func21, Try.ntmps21
  go_wp2_with fail
  refine HX.out.mono ?_
  rintro e w1 ⟨rfl, ⟨⟨m, rfl⟩⟩⟩
  have TB := Aside0.mk (stW_blk (blk_drewN (blk_new w (.cells #[.int .i64 0, .bool false, .slice none 0 0] 34)) m) (.int .i64 0) (.bool false) (.slice none 0 0))
  have TL := Aside0.mk (stW_below (pw_below_drewN (below_alloc (Below.refl w.heap.size w) (.cells #[.int .i64 0, .bool false, .slice none 0 0] 34)) m) (Nat.le_refl w.heap.size) (.int .i64 0) (.bool false) (.slice none 0 0))
  go_wp2
  exact bodyPost_ret (results_ct rfl _ _ w.heap.size 34 #[.int .i64 0, .bool false, .slice none 0 0] (0, 0) _ rfl TB.out Try.underlying34 rfl (by kernel_rfl)) rfl ⟨rfl, TL.out⟩
set_option maxHeartbeats 1600000 in
set_option maxRecDepth 100000 in
/-- a length that will not be there: up to the next end -/
theorem next_bad1 (w : World) (B g : Nat) (A : Option Addr) (c : Nat) (xs : List Int) (at0 : Int) (k : Nat) (h : IsC w B g (.slice A xs.length c) xs at0 true) (hne : 1 ≤ xs.length) (h0 : 0 ≤ at0) (h1 : at0 ≤ 4611686018427387904) (hk : xs.length ≤ k) (hk2 : k < 99999) (hL : lenP xs true = ((k : Int) + 1, true)) :
    Calls Try.prog 21 #[.pointer (some ⟨g, 0, none⟩)] w fun e w' => Answer (badP xs true) w B g A xs at0 true e w' := by
  have c0 := h.cell0
  have c2 := h.cell2
  have hke : ((k : Int) + 1 == 0) = false := by rw [beq_eq_false_iff_ne]; omega
  have hkl : decide ((xs.length : Int) < (k : Int) + 1) = true := decide_eq_true (by omega)
  have hgl := blk_lt h.blk
  have hl : xs.length ≤ 140737488355328 := h.len
  have hle : ((xs.length : Int) == 0) = false := by rw [beq_eq_false_iff_ne]; omega
  have hx := length_calls (w.alloc (.cells #[.int .i64 0, .bool false, .slice none 0 0] 34)) B g _ xs at0 true (h.below (below_alloc (Below.refl _ _) _))
  rw [hL] at hx
  simp only at hx
  have HX := Aside0.mk hx
  have HH := Aside0.mk h
  have HE := Aside0.mk hne
  clear hx h hL
  go_enter Try.func21, Try.ntmps21
  go_wp2_with fail
  refine HX.out.mono ?_
  rintro e w1 ⟨rfl, ⟨⟨m, rfl⟩⟩⟩
  go_wp2_with fail
  refine (bad_calls _ B g A c xs at0 true ((HH.out.below (below_alloc (Below.refl _ _) _)).drewN m) HE.out h0 h1).mono ?_
  intro e w1 hb
  cases hr : badP xs true with
  | none =>
    rw [hr] at hb
    obtain ⟨rfl, hb⟩ := hb
    have s0 : w1.heap[w.heap.size]? = some (.cells #[.int .i64 0, .bool false, .slice none 0 0] 34) := (hb.block w.heap.size (by simp)).trans (blk_drewN (blk_new w _) m)
    have hbw : Below w.heap.size w w1 := below_then (pw_below_drewN (below_alloc (Below.refl w.heap.size w) (.cells #[.int .i64 0, .bool false, .slice none 0 0] 34)) m) (by simp) hb
    have TB := Aside0.mk (stW_blk s0 (.int .i64 0) (.bool false) (.slice none 0 0))
    have TL := Aside0.mk (stW_below hbw (Nat.le_refl w.heap.size) (.int .i64 0) (.bool false) (.slice none 0 0))
    have r0 : w1.cell? ⟨w.heap.size, 0, none⟩ = some (.int .i64 0) := by rw [blk_cell s0]; rfl
    have r1 : w1.cell? ⟨w.heap.size, 1, none⟩ = some (.bool false) := by rw [blk_cell s0]; rfl
    have r2 : w1.cell? ⟨w.heap.size, 2, none⟩ = some (.slice none 0 0) := by rw [blk_cell s0]; rfl
    have rf0 := blk_frozen s0 0
    have rf1 := blk_frozen s0 1
    have rf2 := blk_frozen s0 2
    have HR := Aside0.mk hr
    clear s0 hb hbw hr
    go_wp2
    refine bodyPost_ret (results_ct rfl _ _ w.heap.size 34 #[.int .i64 0, .bool false, .slice none 0 0] (0, 0) _ rfl TB.out Try.underlying34 rfl (by kernel_rfl)) rfl ?_
    rw [HR.out]
    exact ⟨rfl, TL.out⟩
  | some p =>
    obtain ⟨n, good⟩ := p
    rw [hr] at hb
    obtain ⟨v', rfl, tk⟩ := hb
    have tk2 := tk.drawn
    have s0 := tk2.var hgl
    have TK := Aside0.mk (Took.store HH.out tk2 (.int .i64 at0) (.bool good) (.slice A n n))
    have TB := Aside0.mk (stW_blk s0 (.int .i64 at0) (.bool good) (.slice A n n))
    have r0 : w1.cell? ⟨w.heap.size, 0, none⟩ = some (.int .i64 0) := by rw [blk_cell s0]; rfl
    have r1 : w1.cell? ⟨w.heap.size, 1, none⟩ = some (.bool false) := by rw [blk_cell s0]; rfl
    have r2 : w1.cell? ⟨w.heap.size, 2, none⟩ = some (.slice none 0 0) := by rw [blk_cell s0]; rfl
    have rf0 := blk_frozen s0 0
    have rf1 := blk_frozen s0 1
    have rf2 := blk_frozen s0 2
    have HR := Aside0.mk hr
    clear s0 tk tk2 hr
    go_wp2
    refine bodyPost_ret (results_ct rfl _ _ w.heap.size 34 #[.int .i64 at0, .bool good, .slice A n n] (0, 0) _ rfl TB.out Try.underlying34 rfl (by kernel_rfl)) rfl ?_
    rw [HR.out]
    exact ⟨v', rfl, TK.out⟩
theorem cellAt {w : World} {B g : Nat} {ad : Addr} {c : Nat} {xs : List Int} {at0 : Int} {en : Bool} (h : IsC w B g (.slice (some ad) xs.length c) xs at0 en) (k : Nat) (hk : k < xs.length) : w.cell? (ad.add k) = some (.int .u8 (xs.getD k 0)) := by
  obtain ⟨ad', e, hc⟩ := Kd.at_int (Kd.R_reads' h.row).2.2 (k : Int) (by omega) (by omega)
  rw [Int.toNat_natCast] at hc
  injection e with e
  rw [e]; exact hc
set_option maxHeartbeats 1600000 in
set_option maxRecDepth 100000 in
/-- a length, but no end there: up to the next end -/
theorem next_bad2 (w : World) (B g : Nat) (A : Option Addr) (c : Nat) (xs : List Int) (at0 : Int) (en : Bool) (h : IsC w B g (.slice A xs.length c) xs at0 en) (hne : 1 ≤ xs.length) (h0 : 0 ≤ at0) (h1 : at0 ≤ 4611686018427387904) (k : Nat) (hk : k < xs.length) (hk2 : k < 99999) (h29 : xs.getD k 0 ≠ 29) (hL : lenP xs en = ((k : Int) + 1, true)) :
    Calls Try.prog 21 #[.pointer (some ⟨g, 0, none⟩)] w fun e w' => Answer (badP xs en) w B g A xs at0 en e w' := by
  have c0 := h.cell0
  have c2 := h.cell2
  have hke : ((k : Int) + 1 == 0) = false := by rw [beq_eq_false_iff_ne]; omega
  have hkl : decide ((xs.length : Int) < (k : Int) + 1) = false := decide_eq_false (by omega)
  obtain ⟨ad, rfl, hc⟩ := Kd.at_int (Kd.R_reads' h.row).2.2 (k : Int) (by omega) (by omega)
  clear hc
  have hc := cellAt h k hk
  have hcA := cellAt (h.below (below_alloc (Below.refl _ _) (.cells #[.int .i64 0, .bool false, .slice none 0 0] 34))) k hk
  have hcB := fun m => cellAt ((h.below (below_alloc (Below.refl _ _) (.cells #[.int .i64 0, .bool false, .slice none 0 0] 34))).drewN m) k hk
  have h29b : (xs.getD k 0 != 29) = true := by rw [bne_iff_ne]; exact h29
  obtain ⟨x, hx0⟩ : ∃ x, xs.getD k 0 = x := ⟨_, rfl⟩
  rw [hx0] at hc hcA h29b
  simp only [hx0] at hcB
  have HCB := Aside0.mk hcB
  clear h29 hx0 hcB
  have hgl := blk_lt h.blk
  have hl : xs.length ≤ 140737488355328 := h.len
  have hle : ((xs.length : Int) == 0) = false := by rw [beq_eq_false_iff_ne]; omega
  have hx := length_calls (w.alloc (.cells #[.int .i64 0, .bool false, .slice none 0 0] 34)) B g _ xs at0 en (h.below (below_alloc (Below.refl _ _) _))
  rw [hL] at hx
  simp only at hx
  have HX := Aside0.mk hx
  have HH := Aside0.mk h
  have HE := Aside0.mk hne
  clear hx h hL
  go_enter Try.func21, Try.ntmps21
  go_wp2_with fail
  refine HX.out.mono ?_
  rintro e w1 ⟨rfl, ⟨⟨m, rfl⟩⟩⟩
  have hcC := HCB.out m
  go_wp2_with fail
  refine (bad_calls _ B g (some ad) c xs at0 en ((HH.out.below (below_alloc (Below.refl _ _) _)).drewN m) HE.out h0 h1).mono ?_
  intro e w1 hb
  cases hr : badP xs en with
  | none =>
    rw [hr] at hb
    obtain ⟨rfl, hb⟩ := hb
    have s0 : w1.heap[w.heap.size]? = some (.cells #[.int .i64 0, .bool false, .slice none 0 0] 34) := (hb.block w.heap.size (by simp)).trans (blk_drewN (blk_new w _) m)
    have hbw : Below w.heap.size w w1 := below_then (pw_below_drewN (below_alloc (Below.refl w.heap.size w) (.cells #[.int .i64 0, .bool false, .slice none 0 0] 34)) m) (by simp) hb
    have TB := Aside0.mk (stW_blk s0 (.int .i64 0) (.bool false) (.slice none 0 0))
    have TL := Aside0.mk (stW_below hbw (Nat.le_refl w.heap.size) (.int .i64 0) (.bool false) (.slice none 0 0))
    have r0 : w1.cell? ⟨w.heap.size, 0, none⟩ = some (.int .i64 0) := by rw [blk_cell s0]; rfl
    have r1 : w1.cell? ⟨w.heap.size, 1, none⟩ = some (.bool false) := by rw [blk_cell s0]; rfl
    have r2 : w1.cell? ⟨w.heap.size, 2, none⟩ = some (.slice none 0 0) := by rw [blk_cell s0]; rfl
    have rf0 := blk_frozen s0 0
    have rf1 := blk_frozen s0 1
    have rf2 := blk_frozen s0 2
    have HR := Aside0.mk hr
    clear s0 hb hbw hr
    go_wp2
    refine bodyPost_ret (results_ct rfl _ _ w.heap.size 34 #[.int .i64 0, .bool false, .slice none 0 0] (0, 0) _ rfl TB.out Try.underlying34 rfl (by kernel_rfl)) rfl ?_
    rw [HR.out]
    exact ⟨rfl, TL.out⟩
  | some p =>
    obtain ⟨n, good⟩ := p
    rw [hr] at hb
    obtain ⟨v', rfl, tk⟩ := hb
    have tk2 := tk.drawn
    have s0 := tk2.var hgl
    have TK := Aside0.mk (Took.store HH.out tk2 (.int .i64 at0) (.bool good) (.slice (some ad) n n))
    have TB := Aside0.mk (stW_blk s0 (.int .i64 at0) (.bool good) (.slice (some ad) n n))
    have r0 : w1.cell? ⟨w.heap.size, 0, none⟩ = some (.int .i64 0) := by rw [blk_cell s0]; rfl
    have r1 : w1.cell? ⟨w.heap.size, 1, none⟩ = some (.bool false) := by rw [blk_cell s0]; rfl
    have r2 : w1.cell? ⟨w.heap.size, 2, none⟩ = some (.slice none 0 0) := by rw [blk_cell s0]; rfl
    have rf0 := blk_frozen s0 0
    have rf1 := blk_frozen s0 1
    have rf2 := blk_frozen s0 2
    have HR := Aside0.mk hr
    clear s0 tk tk2 hr
    go_wp2
    refine bodyPost_ret (results_ct rfl _ _ w.heap.size 34 #[.int .i64 at0, .bool good, .slice (some ad) n n] (0, 0) _ rfl TB.out Try.underlying34 rfl (by kernel_rfl)) rfl ?_
    rw [HR.out]
    exact ⟨v', rfl, TK.out⟩
set_option maxHeartbeats 1600000 in
set_option maxRecDepth 100000 in
/-- a length, and the end there -/
theorem next_good (w : World) (B g : Nat) (A : Option Addr) (c : Nat) (xs : List Int) (at0 : Int) (en : Bool) (h : IsC w B g (.slice A xs.length c) xs at0 en) (hne : 1 ≤ xs.length) (h0 : 0 ≤ at0) (h1 : at0 ≤ 4611686018427387904) (k : Nat) (hk : k < xs.length) (hk2 : k < 99999) (h29 : xs.getD k 0 = 29) (hL : lenP xs en = ((k : Int) + 1, true)) :
    Calls Try.prog 21 #[.pointer (some ⟨g, 0, none⟩)] w fun e w' => Answer (some (k + 1, true)) w B g A xs at0 en e w' := by
  have c0 := h.cell0
  have c2 := h.cell2
  have hke : ((k : Int) + 1 == 0) = false := by rw [beq_eq_false_iff_ne]; omega
  have hkl : decide ((xs.length : Int) < (k : Int) + 1) = false := decide_eq_false (by omega)
  obtain ⟨ad, rfl, hc⟩ := Kd.at_int (Kd.R_reads' h.row).2.2 (k : Int) (by omega) (by omega)
  clear hc
  have hc := cellAt h k hk
  have hcA := cellAt (h.below (below_alloc (Below.refl _ _) (.cells #[.int .i64 0, .bool false, .slice none 0 0] 34))) k hk
  have hcB := fun m => cellAt ((h.below (below_alloc (Below.refl _ _) (.cells #[.int .i64 0, .bool false, .slice none 0 0] 34))).drewN m) k hk
  have h29b : (xs.getD k 0 != 29) = false := by rw [h29]; rfl
  obtain ⟨x, hx0⟩ : ∃ x, xs.getD k 0 = x := ⟨_, rfl⟩
  rw [hx0] at hc hcA h29b
  simp only [hx0] at hcB
  have HCB := Aside0.mk hcB
  clear h29 hx0 hcB
  have hgl := blk_lt h.blk
  have hl : xs.length ≤ 140737488355328 := h.len
  have hle : ((xs.length : Int) == 0) = false := by rw [beq_eq_false_iff_ne]; omega
  have hx := length_calls (w.alloc (.cells #[.int .i64 0, .bool false, .slice none 0 0] 34)) B g _ xs at0 en (h.below (below_alloc (Below.refl _ _) _))
  rw [hL] at hx
  simp only at hx
  have HX := Aside0.mk hx
  have HH := Aside0.mk h
  have HE := Aside0.mk hne
  clear hx h hL
  go_enter Try.func21, Try.ntmps21
  go_wp2_with fail
  refine HX.out.mono ?_
  rintro e w1 ⟨rfl, ⟨⟨m, rfl⟩⟩⟩
  have hcC := HCB.out m
  go_wp2_with fail
  rw [show ((k : Int) + 1) = ((k + 1 : Nat) : Int) from by omega]
  refine (take_calls _ B g (some ad) c xs at0 en (k + 1) true ((HH.out.below (below_alloc (Below.refl _ _) _)).drewN m) (by omega) (by omega) h0 h1).mono ?_
  rintro e w1 ⟨v', rfl, tk⟩
  have tk2 := tk.drawn
  have s0 := tk2.var hgl
  have TK := Aside0.mk (Took.store HH.out tk2 (.int .i64 at0) (.bool true) (.slice (some ad) (k + 1) (k + 1)))
  have TB := Aside0.mk (stW_blk s0 (.int .i64 at0) (.bool true) (.slice (some ad) (k + 1) (k + 1)))
  have r0 : w1.cell? ⟨w.heap.size, 0, none⟩ = some (.int .i64 0) := by rw [blk_cell s0]; rfl
  have r1 : w1.cell? ⟨w.heap.size, 1, none⟩ = some (.bool false) := by rw [blk_cell s0]; rfl
  have r2 : w1.cell? ⟨w.heap.size, 2, none⟩ = some (.slice none 0 0) := by rw [blk_cell s0]; rfl
  have rf0 := blk_frozen s0 0
  have rf1 := blk_frozen s0 1
  have rf2 := blk_frozen s0 2
  clear s0 tk tk2
  go_wp2
  exact bodyPost_ret (results_ct rfl _ _ w.heap.size 34 #[.int .i64 at0, .bool true, .slice (some ad) (k + 1) (k + 1)] (0, 0) _ rfl TB.out Try.underlying34 rfl (by kernel_rfl)) rfl ⟨v', rfl, TK.out⟩
end Go.Proofs.Ytmaehbdpmdgpaaa
