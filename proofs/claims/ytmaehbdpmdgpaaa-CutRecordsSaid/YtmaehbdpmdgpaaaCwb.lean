/- The cutter's walks, second part: take. -/
import Derived.Test.YtmaehbdpmdgpaaaCwa
import Derived.RegionTactic
namespace Go.Proofs.Ytmaehbdpmdgpaaa
open Go.RowKit Go.Proofs.YtmaehbdpmdgpaaaW.PrintWords Go.Proofs.YtmaehbdpmdgpaaaW.PrintLast Go.Proofs.YtmaehbdpmdgpaaaW.PrintMore Go.Proofs.Ytmaehbdpmdgpaaa.PCut
set_option linter.unusedVariables false
set_option linter.unusedSimpArgs false
theorem info34 : (Try.prog.info? 34).map (fun i => (i.zero, i.size, i.bytes)) = some (some (.agg #[(.int .i64 0), (.bool false), (.slice none 0 0)]), 3, 40) := by kernel_rfl
theorem cut_hm (A : Option Addr) (len c n : Nat) (h1 : 1 ≤ n) (hc : n ≤ c) : ∀ W : World, (Instr.slice 22 (.slice A len c) none (some (.int .i64 (n : Int))) (some (.int .i64 (n : Int)))).run Try.prog W = .ok (.slice A n n) W := by
  intro W
  have hel : Try.prog.elem 22 = 5 := by simp [Program.elem, Try.underlying22]
  obtain ⟨i0, hi, _, hsz, _⟩ := info_parts info5
  rw [run_slice_hm W 22 A len c (by rw [hel]; exact Try.underlying22) .i64 .i64 (n : Int) (n : Int) (by omega) (by omega) (by omega), hel]
  have hne : ¬ n = 0 := by omega
  have : A.map (fun a => a.add 0) = A := by cases A <;> simp [Addr.add]
  simp [sizeOf, typeInfo, hi, hsz, sliced, Result.andThen, hne, this]
theorem C_take {w : World} {A : Option Addr} {xs : List Int} {k : IntKind} (h : (Kd.int k).C w A xs.length xs) (n : Nat) (hn : n ≤ xs.length) : (Kd.int k).C w A n (xs.take n) := by
  have h2 := Kd.reads_of_C (enc := Value.int k) (d := (0 : Int)) (h1 := fun _ => rfl) h
  refine Kd.C_of_reads (enc := Value.int k) (d := (0 : Int)) (h1 := fun _ => rfl) ⟨by rw [List.length_take]; omega, by have := h2.2.1; omega, fun h0 => ?_⟩
  obtain ⟨ad, e, hc⟩ := h2.2.2 (by omega)
  refine ⟨ad, e, fun j hj => ?_⟩
  rw [hc j (by omega)]
  simp [List.getD_eq_getElem?_getD, List.getElem?_take, hj]
/-- What 'take' leaves: the cutter behind the piece; the piece's bytes, which nobody writes any more. -/
structure Took (w w' : World) (B g : Nat) (A : Option Addr) (v' : Value) (xs : List Int) (at0 : Int) (en : Bool) (n : Nat) : Prop where
  c : IsC w' B g v' (xs.drop n) (at0 + n) en
  f : Kd.F (Kd.int .u8) w' (fun k => some k = (Value.slice A n n).ownBlock) A n (xs.take n)
  kept : Kept w w' (fun k => k = g)
  fresh : ∀ k, v'.ownBlock = some k → w.heap.size ≤ k
  below : Below B w w'
theorem row_ne_g {w : World} {B g : Nat} {v : Value} {xs : List Int} {at0 : Int} {en : Bool} (h : IsC w B g v xs at0 en) : v.ownBlock ≠ some g := fun e => by
  obtain ⟨cells, hc⟩ := Kd.R_typed h.row g e
  rw [h.blk] at hc
  injection hc with hc
  injection hc with _ ht
  exact absurd ht (by decide)
/-- the world behind the stores of 'take' -/
def tookW (w1 : World) (g s : Nat) (v1 : Value) (at1 at0 : Int) (good : Bool) (A : Option Addr) (n : Nat) : World :=
  (((((w1.setCell ⟨g, 0, none⟩ v1).setCell ⟨g, 1, none⟩ (.int .i64 at1)).setCell ⟨s, 0, none⟩ (.int .i64 at0)).setCell ⟨s, 1, none⟩ (.bool good)).setCell ⟨s, 2, none⟩ (.slice A n n))
theorem took_of {w w1 : World} {B g : Nat} {A A1 : Option Addr} {c c1 : Nat} {xs : List Int} {at0 : Int} {en good : Bool} {n : Nat} (h : IsC w B g (.slice A xs.length c) xs at0 en) (hn : n ≤ xs.length)
    (hbw : Below w.heap.size w w1) (q1 : w1.heap[w.heap.size]? = some (.cells #[.int .i64 0, .bool false, .slice none 0 0] 34 (0, 0)))
    (hv1 : (Kd.int .u8).R 5 w1 (w.heap.size + 2) (fun _ => True) (.slice A1 (xs.length - n) c1) (xs.drop n)) :
    (tookW w1 g w.heap.size (.slice A1 (xs.length - n) c1) (at0 + n) at0 good A n).heap[w.heap.size]? = some (.cells #[.int .i64 at0, .bool good, .slice A n n] 34 (0, 0)) ∧
    Took w (tookW w1 g w.heap.size (.slice A1 (xs.length - n) c1) (at0 + n) at0 good A n) B g A (.slice A1 (xs.length - n) c1) xs at0 en n := by
  have hgl := blk_lt h.blk
  have hB : B ≤ w.heap.size := Nat.le_trans h.ge (Nat.le_of_lt hgl)
  have hg1 : g ≠ w.heap.size := by omega
  have q0 : w1.heap[g]? = some (.cells #[.slice A xs.length c, .int .i64 at0, .bool en] 50 (0, 0)) := (hbw.block g hgl).trans h.blk
  have b0 : (tookW w1 g w.heap.size (.slice A1 (xs.length - n) c1) (at0 + n) at0 good A n).heap[g]? = some (.cells #[.slice A1 (xs.length - n) c1, .int .i64 (at0 + ↑n), .bool en] 50 (0, 0)) :=
    blk_far (blk_far (blk_far (blk_set (blk_set q0 0 _) 1 _) hg1 _) hg1 _) hg1 _
  have b1 : (tookW w1 g w.heap.size (.slice A1 (xs.length - n) c1) (at0 + n) at0 good A n).heap[w.heap.size]? = some (.cells #[.int .i64 at0, .bool good, .slice A n n] 34 (0, 0)) :=
    blk_set (blk_set (blk_set (blk_far (blk_far q1 hg1.symm _) hg1.symm _) 0 _) 1 _) 2 _
  have k1 := Kept.setCell (p := ⟨g, 0, none⟩) (Kept.of_below hbw (fun k => k = g)) (Or.inl rfl) (.slice A1 (xs.length - n) c1)
  have k2 := Kept.setCell (p := ⟨g, 1, none⟩) k1 (Or.inl rfl) (.int .i64 (at0 + ↑n))
  have k3 := Kept.setCell (p := ⟨w.heap.size, 0, none⟩) k2 (Or.inr (Nat.le_refl _)) (.int .i64 at0)
  have k4 := Kept.setCell (p := ⟨w.heap.size, 1, none⟩) k3 (Or.inr (Nat.le_refl _)) (.bool good)
  have kp : Kept w (tookW w1 g w.heap.size (.slice A1 (xs.length - n) c1) (at0 + n) at0 good A n) (fun k => k = g) := Kept.setCell (p := ⟨w.heap.size, 2, none⟩) k4 (Or.inr (Nat.le_refl _)) (.slice A n n)
  have l1 := Below.setCell (p := ⟨g, 0, none⟩) (hbw.mono hB) h.ge (.slice A1 (xs.length - n) c1)
  have l2 := Below.setCell (p := ⟨g, 1, none⟩) l1 h.ge (.int .i64 (at0 + ↑n))
  have l3 := Below.setCell (p := ⟨w.heap.size, 0, none⟩) l2 hB (.int .i64 at0)
  have l4 := Below.setCell (p := ⟨w.heap.size, 1, none⟩) l3 hB (.bool good)
  have bl : Below B w (tookW w1 g w.heap.size (.slice A1 (xs.length - n) c1) (at0 + n) at0 good A n) := Below.setCell (p := ⟨w.heap.size, 2, none⟩) l4 hB (.slice A n n)
  have hv2 : (Kd.int .u8).R 5 w1 (w.heap.size + 2) (fun k => w.heap.size + 2 ≤ k) (.slice A1 (xs.length - n) c1) (xs.drop n) := Kd.R_mono (Kd.R_bound hv1) (fun k hk => hk.2.1)
  have ng : ∀ k, w.heap.size + 2 ≤ k → k ≠ g := fun k hk => by omega
  have ns : ∀ k, w.heap.size + 2 ≤ k → k ≠ w.heap.size := fun k hk => by omega
  have m1 := Kd.R_far (p := ⟨g, 0, none⟩) hv2 ng (.slice A1 (xs.length - n) c1)
  have m2 := Kd.R_far (p := ⟨g, 1, none⟩) m1 ng (.int .i64 (at0 + ↑n))
  have m3 := Kd.R_far (p := ⟨w.heap.size, 0, none⟩) m2 ns (.int .i64 at0)
  have m4 := Kd.R_far (p := ⟨w.heap.size, 1, none⟩) m3 ns (.bool good)
  have hv3 : (Kd.int .u8).R 5 (tookW w1 g w.heap.size (.slice A1 (xs.length - n) c1) (at0 + n) at0 good A n) (w.heap.size + 2) (fun k => w.heap.size + 2 ≤ k) (.slice A1 (xs.length - n) c1) (xs.drop n) := Kd.R_far (p := ⟨w.heap.size, 2, none⟩) m4 ns (.slice A n n)
  clear m1 m2 m3 m4 l1 l2 l3 l4 k1 k2 k3 k4
  have hbase := Kd.R_base hv3
  refine ⟨b1, ⟨⟨b0, h.ge, Kd.R_mono (Kd.R_lower hv3 (by omega)) (fun _ _ => trivial), fun x hx => h.byt x (List.mem_of_mem_drop hx), by rw [List.length_drop]; have := h.len; omega⟩, ?_, kp, fun k hk => by have := hbase k hk; omega, bl⟩⟩
  have hg := row_ne_g h
  have hF : Kd.F (Kd.int .u8) w (fun k => some k = (Value.slice A xs.length c).ownBlock) A xs.length xs := Kd.R_F (Kd.R_tight rfl h.row)
  have hF2 := Kd.F_kept hF kp (fun k hk e => by subst e; exact hg hk.symm)
  have hob : ∀ k, some k = (Value.slice A xs.length c).ownBlock → some k = (Value.slice A n n).ownBlock := fun k hk => by cases A <;> exact hk
  exact Kd.F_imp (d' := Kd.int .u8) (Kd.F_mono hF2 hob) (fun W' hc => C_take hc n hn)
theorem two_new0 (w : World) (X Y : Obj) : ((w.alloc X).alloc Y).drew.heap[w.heap.size]? = some X := by
  show ((w.alloc X).alloc Y).heap[w.heap.size]? = _
  rw [Below.heap_alloc _ _ _ (by simp)]; exact blk_new w X
theorem two_new1 (w : World) (X Y : Obj) : ((w.alloc X).alloc Y).drew.heap[w.heap.size + 1]? = some Y := by
  show ((w.alloc X).alloc Y).heap[w.heap.size + 1]? = _
  have := blk_new (w.alloc X) Y
  simpa using this
set_option maxHeartbeats 8000000 in
set_option maxRecDepth 100000 in
theorem take_calls (w : World) (B g : Nat) (A : Option Addr) (c : Nat) (xs : List Int) (at0 : Int) (en : Bool) (n : Nat) (good : Bool) (h : IsC w B g (.slice A xs.length c) xs at0 en) (hn1 : 1 ≤ n) (hn : n ≤ xs.length) (h0 : 0 ≤ at0) (h1 : at0 ≤ 4611686018427387904) :
    Calls Try.prog 28 #[.pointer (some ⟨g, 0, none⟩), .int .i64 (n : Int), .bool good] w fun e w' => ∃ v' : Value, e = .returned (.tuple #[.agg #[.int .i64 at0, .bool good, .slice A n n], .bool true]) ∧ Took w w' B g A v' xs at0 en n := by
  have c0 := h.cell0
  have c1 := h.cell1
  have c2 := h.cell2
  have f0 := blk_frozen h.blk 0
  have f1 := blk_frozen h.blk 1
  have hgl := blk_lt h.blk
  have hr := Kd.R_reads' h.row
  have hcut := cut_hm A xs.length c n hn1 (Nat.le_trans hn hr.2.1)
  obtain ⟨i05, hi05, _, hsz5, _⟩ := info_parts info5
  obtain ⟨A', hdrop, hdr, hdc⟩ := print_cut_int (P := Try.prog) (k := .u8) 22 5 Try.underlying22 hi05 hsz5 A c xs (n : Int) (by omega) (by omega) hr.2.1
  rw [Int.toNat_natCast] at hdrop hdr hdc
  have HDR := Aside0.mk hdr
  have HDC := Aside0.mk hdc
  clear hdr hdc hi05 hsz5
  have HH := Aside0.mk h
  have HN := Aside0.mk hn
  have HW64 : Aside0 (wrap64 (at0 + ↑n) = at0 + ↑n) := ⟨by have := h.len; unfold wrap64; omega⟩
  obtain ⟨hr1, hr2, hr3⟩ := hr
  have HR := Aside0.mk hr3
  clear hr1 hr3 h
  go_enter Try.func28, Try.ntmps28
  go_wp2
  go_region
  go_wp2_with fail
  have hld : (xs.drop n).length = xs.length - n := List.length_drop
  rw [← hld]
  refine (clone_calls _ A' (c - n) (xs.drop n) ?_ (by rw [hld]; have := HH.out.len; omega) HDC.out).mono ?_
  · exact Kd.C_of_reads (h1 := fun _ => rfl) (HDR.out _ (Kd.reads_of_C (Kd.C_below HR.out (((((Below.refl _ _).alloc (Nat.le_refl _) _).alloc (by simp) _).drew)))))
  · rintro e w1 ⟨v1, rfl, hv1, hb1⟩
    obtain ⟨A1, c1', rfl⟩ := Kd.R_slice hv1
    have hbw : Below w.heap.size w w1 := below_then (((((Below.refl _ _).alloc (Nat.le_refl _) _).alloc (by simp) _).drew)) (by simp; omega) hb1
    have q0 : w1.heap[g]? = some (.cells #[.slice A xs.length c, .int .i64 at0, .bool en] 50 (0, 0)) := (hbw.block g hgl).trans HH.out.blk
    have q1 : w1.heap[w.heap.size]? = some (.cells #[.int .i64 0, .bool false, .slice none 0 0] 34 (0, 0)) := (hb1.block _ (by simp; omega)).trans (two_new0 w _ _)
    have q2 : w1.heap[w.heap.size + 1]? = some (.cells #[.int .i64 at0, .bool good, .slice A n n] 34 (0, 0)) := (hb1.block _ (by simp)).trans (two_new1 w _ _)
    rw [hld] at hv1 ⊢
    have HV1 := Aside0.mk (show (Kd.int .u8).R 5 w1 (w.heap.size + 2) (fun _ => True) (.slice A1 (xs.length - n) c1') (xs.drop n) from Kd.R_lower hv1 (by simp))
    have HB1 := Aside0.mk hb1
    have HBW := Aside0.mk hbw
    clear hv1 hb1 hbw
    have z0 : w1.cell? ⟨g, 0, none⟩ = some (.slice A xs.length c) := by rw [blk_cell q0]; rfl
    have z1 : w1.cell? ⟨g, 1, none⟩ = some (.int .i64 at0) := by rw [blk_cell q0]; rfl
    have zf0 := blk_frozen q0 0
    have zf1 := blk_frozen q0 1
    have p0 : w1.cell? ⟨w.heap.size + 1, 0, none⟩ = some (.int .i64 at0) := by rw [blk_cell q2]; rfl
    have p1 : w1.cell? ⟨w.heap.size + 1, 1, none⟩ = some (.bool good) := by rw [blk_cell q2]; rfl
    have p2 : w1.cell? ⟨w.heap.size + 1, 2, none⟩ = some (.slice A n n) := by rw [blk_cell q2]; rfl
    have r0 : w1.cell? ⟨w.heap.size, 0, none⟩ = some (.int .i64 0) := by rw [blk_cell q1]; rfl
    have r1 : w1.cell? ⟨w.heap.size, 1, none⟩ = some (.bool false) := by rw [blk_cell q1]; rfl
    have r2 : w1.cell? ⟨w.heap.size, 2, none⟩ = some (.slice none 0 0) := by rw [blk_cell q1]; rfl
    have rf0 := blk_frozen q1 0
    have rf1 := blk_frozen q1 1
    have rf2 := blk_frozen q1 2
    have Q0 := Aside0.mk q0
    have Q1 := Aside0.mk q1
    have Q2 := Aside0.mk q2
    clear q0 q1 q2
    go_wp2
    have hw64 := HW64.out
    rw [hw64]
    obtain ⟨b1, tk⟩ := took_of (good := good) HH.out HN.out HBW.out Q1.out (c1 := c1') (A1 := A1) (HV1.out)
    exact bodyPost_ret (results_ct rfl _ _ w.heap.size 34 #[.int .i64 at0, .bool good, .slice A n n] (0, 0) _ rfl b1 Try.underlying34 rfl (by kernel_rfl)) rfl ⟨.slice A1 (xs.length - n) c1', rfl, tk⟩
end Go.Proofs.Ytmaehbdpmdgpaaa
