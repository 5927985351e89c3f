/- CutPieces: what one part's feeding leaves. -/
import Derived.Test.YtmaehbdpmdgpaaaPure3
import Derived.Test.YtmaehbdpmdgpaaaLCutNone
namespace Go.Proofs.Ytmaehbdpmdgpaaa
open Go.RowKit Go.Proofs.YtmaehbdpmdgpaaaW.PrintWords Go.Proofs.YtmaehbdpmdgpaaaW.PrintLast Go.Proofs.YtmaehbdpmdgpaaaW.PrintMore Go.Proofs.Ytmaehbdpmdgpaaa.PCut
set_option linter.unusedVariables false
set_option linter.unusedSimpArgs false
/-- the cutter, the part that was fed, the pieces' row: apart from one another -/
structure InI (B : Nat) (W : World) (g : Nat) (A : Option Addr) (c : Nat) (rest : List Int) (at1 : Int) (vi : Value) (ch : List Int) (vl : Value) (S : List S34) : Prop where
  cu : IsC W B g (.slice A rest.length c) rest at1 false
  inn : (Kd.int .u8).R 5 W B (fun _ => True) vi ch
  nn : Kd.N k34 34 W B (fun k => B ≤ k ∧ k ≠ g ∧ some k ≠ (Value.slice A rest.length c).ownBlock ∧ some k ≠ vi.ownBlock) vl S
  ci : ∀ k, vi.ownBlock = some k → (Value.slice A rest.length c).ownBlock ≠ some k
  gi : vi.ownBlock ≠ some g
theorem feed_rows {B : Nat} {wr w2 w3 : World} {g : Nat} {A1 A3 : Option Addr} {c1 c3 : Nat} {rest rest3 : List Int} {at1 at3 : Int} {vl vi vf : Value} {S S3 : List S34} {ch : List Int}
    (RC : IsC wr B g (.slice A1 rest.length c1) rest at1 false) (RN : Kd.N k34 34 wr B (fun k => B ≤ k ∧ k ≠ g ∧ some k ≠ (Value.slice A1 rest.length c1).ownBlock) vl S)
    (HO2 : (Kd.int .u8).R 5 w2 wr.heap.size (fun _ => True) vi ch) (HB2 : Below wr.heap.size wr w2) (F : Fed w2 w3 (Value.slice A1 rest.length c1).ownBlock B g vf S3 A3 c3 rest3 at3 false) (hBw : B ≤ wr.heap.size) :
    InI B w3 g A3 c3 rest3 at3 vi ch vl S ∧ (∃ A c, vf = .slice A S3.length c ∧ Kd.F k34 w3 (fun k => (B ≤ k ∧ k ≠ g ∧ some k ≠ (Value.slice A3 rest3.length c3).ownBlock ∧ some k ≠ vi.ownBlock) ∧ some k ≠ vl.ownBlock) A S3.length S3) ∧
      (∀ k, w3.heap.size ≤ k → B ≤ k ∧ k ≠ g ∧ some k ≠ (Value.slice A3 rest3.length c3).ownBlock ∧ some k ≠ vi.ownBlock) := by
  have hb1 := Kd.R_base HO2
  have hb2 := Kd.R_lt HO2
  have hc1 := Kd.R_lt RC.row
  have hc1b := Kd.R_base RC.row
  have hc3 := Kd.R_lt F.cu.row
  have hn1 := (Kd.N_bound RN).1
  have hgl := blk_lt RC.blk
  have hs2 := HB2.size
  have hs3 := F.kept.1
  have hig : vi.ownBlock ≠ some g := fun e => by have := hb1 _ e; omega
  have hic : ∀ k, vi.ownBlock = some k → (Value.slice A3 rest3.length c3).ownBlock ≠ some k := fun k hk e => by
    have h1 := hb1 k hk
    have h2 := hb2 k hk
    rcases F.fr k e with h | h
    · omega
    · have := hc1 k h; omega
  have hin : (Kd.int .u8).R 5 w3 B (fun _ => True) vi ch := by
    have t := Kd.R_step (Kd.R_tight rfl HO2) (w1 := w3) (fun k hk hl => F.kept.2 k hl (fun hh => by
      rcases hh with h | h
      · subst h; exact hig hk.symm
      · have := hb1 k hk.symm; have := hc1 k h; omega))
    exact Kd.R_mono (Kd.R_lower t hBw) (fun _ _ => trivial)
  have hnn := Kd.N_kept (Kd.N_below (Kd.N_bound RN) HB2) F.kept (fun k hk hs => hs.elim hk.1.2.1 (fun e => hk.1.2.2 e.symm))
  refine ⟨⟨F.cu, hin, Kd.N_mono hnn (fun k hk => ⟨hk.1.1, hk.1.2.1, fun e => ?_, fun e => ?_⟩), hic, hig⟩, ?_, fun k hk => ⟨by omega, by omega, fun e => ?_, fun e => ?_⟩⟩
  · rcases F.fr k e.symm with h | h
    · have := hk.2; omega
    · exact hk.1.2.2 h.symm
  · have := hb1 k e.symm; have := hk.2; omega
  · obtain ⟨A, c, rfl⟩ := Kd.N_slice F.nn
    refine ⟨A, c, rfl, Kd.F_mono (Kd.N_F F.nn) (fun k hk => ?_)⟩
    rcases hk.2.2 with h | h
    · exact ⟨⟨by omega, hk.1, hk.2.1, fun e => by have := hb2 k e.symm; omega⟩, fun e => by have := (hn1 k e.symm).2; omega⟩
    · exact ⟨⟨hc1b k h, hk.1, hk.2.1, fun e => by have := hb1 k e.symm; have := hc1 k h; omega⟩, fun e => (hn1 k e.symm).1.2.2 h.symm⟩
  · have := hc3 k e.symm; omega
  · have := hb2 k e.symm; omega
theorem InI.grown {B : Nat} {W W1 : World} {g : Nat} {A : Option Addr} {c : Nat} {rest : List Int} {at1 : Int} {vi : Value} {ch : List Int} {vl vl1 : Value} {S S1 : List S34} (I : InI B W g A c rest at1 vi ch vl S)
    (hN : Kd.N k34 34 W1 B (fun k => B ≤ k ∧ k ≠ g ∧ some k ≠ (Value.slice A rest.length c).ownBlock ∧ some k ≠ vi.ownBlock) vl1 S1) (hg : W.grownBy W1 vl.ownBlock) : InI B W1 g A c rest at1 vi ch vl1 S1 := by
  refine ⟨I.cu.grown hg (fun e => (I.nn.1 g e.symm).2.1 rfl) (fun k hk e => (I.nn.1 k e.symm).2.2.1 hk), ?_, hN, I.ci, I.gi⟩
  exact Kd.R_mono (Kd.R_step (Kd.R_tight rfl I.inn) (fun k hk hl => hg.block k hl (fun e => (I.nn.1 k e.symm).2.2.2 hk))) (fun _ _ => trivial)
theorem InI.put {B : Nat} {W : World} {g gi : Nat} {A : Option Addr} {c cap : Nat} {rest : List Int} {at1 : Int} {ch : List Int} {vl : Value} {S : List S34} {n : Nat} (hn : n = ch.length) (I : InI B W g A c rest at1 (.slice (some ⟨gi, 0, none⟩) n cap) ch vl S) (j : Nat) (x : Int) :
    InI B (W.setCell ⟨gi, j, none⟩ (.int .u8 x)) g A c rest at1 (.slice (some ⟨gi, 0, none⟩) n cap) (ch.set j x) vl S := by
  subst hn
  have hl : (ch.set j x).length = ch.length := List.length_set
  refine ⟨IsC.far (p := ⟨gi, j, none⟩) I.cu (fun e => I.gi (by rw [e]; rfl)) (fun e => I.ci gi rfl e) _, ?_, Kd.N_far (p := ⟨gi, j, none⟩) I.nn (fun k hk e => hk.2.2.2 (by rw [e]; rfl)) _, I.ci, I.gi⟩
  exact (Kd.R_put (enc := Value.int .u8) (h1 := fun _ => rfl) I.inn (j : Int) x).1
theorem InI.back {B : Nat} {W : World} {g : Nat} {A : Option Addr} {c : Nat} {rest : List Int} {at1 : Int} {vi : Value} {ch : List Int} {vl : Value} {S : List S34} (I : InI B W g A c rest at1 vi ch vl S) :
    Kd.N k34 34 W B (fun k => B ≤ k ∧ k ≠ g ∧ some k ≠ (Value.slice A rest.length c).ownBlock) vl S := Kd.N_mono I.nn (fun k hk => ⟨hk.1, hk.2.1, hk.2.2.1⟩)
theorem allF_ok {xs : List Int} {at0 : Int} {en : Bool} {ps : List (Int × Bool × List Int)} {rest : List Int} {at1 : Int} (h : allF xs at0 en = (ps, rest, at1)) : AllOk at0 (ps.map toS) ∧ joinS (ps.map toS) ++ rest = xs ∧ at1 = at0 + (joinS (ps.map toS)).length := by
  have := allP_ok en (xs.length + 2) xs at0
  rw [show allP (xs.length + 2) xs at0 en = (ps, rest, at1) from h] at this
  exact this
theorem part_bounds {xs : List Int} {a : Nat} {ps : List (Int × Bool × List Int)} {rest : List Int} {at1 : Int} (h : allF (xs.take a) 0 false = (ps, rest, at1)) (ha : a ≤ xs.length) : at1 + rest.length = a ∧ 0 ≤ at1 ∧ (ps.map toS).length ≤ a := by
  obtain ⟨h1, h2, h3⟩ := allF_ok h
  have h4 := congrArg List.length h2
  rw [List.length_append, List.length_take] at h4
  have h5 := AllOk.count h1
  omega
theorem part_count {xs : List Int} {at0 : Int} {en : Bool} {ps : List (Int × Bool × List Int)} {rest : List Int} {at1 : Int} (h : allF xs at0 en = (ps, rest, at1)) : (ps.map toS).length ≤ xs.length := by
  obtain ⟨h1, h2, h3⟩ := allF_ok h
  have h4 := congrArg List.length h2
  rw [List.length_append] at h4
  have h5 := AllOk.count h1
  omega
theorem next_part {xs ch : List Int} {a e : Nat} {ps ps3 : List (Int × Bool × List Int)} {rest rest3 : List Int} {at1 at3 : Int} (hF : allF (xs.take a) 0 false = (ps, rest, at1)) (hch : (xs.take e).drop a = ch) (hae : a ≤ e) {en : Bool} (hT : allF (rest ++ ch) at1 en = (ps3, rest3, at3)) : allF (xs.take e) 0 en = (ps ++ ps3, rest3, at3) := by
  have e1 : xs.take e = xs.take a ++ ch := by
    have h1 := List.take_append_drop a (xs.take e)
    rw [List.take_take, Nat.min_eq_left hae, hch] at h1
    exact h1.symm
  have := allF_split ch en (xs.take a).length (xs.take a) 0 (Nat.le_refl _)
  rw [hF] at this
  simp only [hT] at this
  rw [e1]; exact this
theorem in_cell {B : Nat} {W : World} {g gi : Nat} {A : Option Addr} {c cap n : Nat} {rest : List Int} {at1 : Int} {ch : List Int} {vl : Value} {S : List S34} (I : InI B W g A c rest at1 (.slice (some ⟨gi, 0, none⟩) n cap) ch vl S) (k : Nat) (hk : k < ch.length) : (∃ x, W.cell? ⟨gi, k, none⟩ = some (.int .u8 x)) ∧ W.frozen? ⟨gi, k, none⟩ = false := by
  obtain ⟨cells, hb⟩ := Kd.R_typed I.inn gi rfl
  refine ⟨?_, blk_frozen hb k⟩
  have hr := (Kd.R_reads' I.inn)
  obtain ⟨ad, e, hc⟩ := (Kd.reads_of_C (enc := Value.int .u8) (d := (0:Int)) (h1 := fun _ => rfl) hr.2.2).2.2 (by omega)
  injection e with e
  subst e
  have := hc k hk
  have ha : (⟨gi, 0, none⟩ : Addr).add k = ⟨gi, 0 + k, none⟩ := by unfold Addr.add; split <;> simp_all
  rw [Nat.zero_add] at ha
  rw [ha] at this
  exact ⟨_, this⟩
theorem end_rows {B : Nat} {wr w3 : World} {g : Nat} {A1 A3 : Option Addr} {c1 c3 : Nat} {rest rest3 : List Int} {at1 at3 : Int} {vl vf : Value} {S S3 : List S34}
    (RC : IsC wr B g (.slice A1 rest.length c1) rest at1 false) (RN : Kd.N k34 34 wr B (fun k => B ≤ k ∧ k ≠ g ∧ some k ≠ (Value.slice A1 rest.length c1).ownBlock) vl S)
    (F : Fed wr w3 (Value.slice A1 rest.length c1).ownBlock B g vf S3 A3 c3 rest3 at3 true) (hBw : B ≤ wr.heap.size) :
    Kd.N k34 34 w3 B (fun k => B ≤ k ∧ k ≠ g) vl S ∧ (∃ A c, vf = .slice A S3.length c ∧ Kd.F k34 w3 (fun k => (B ≤ k ∧ k ≠ g) ∧ some k ≠ vl.ownBlock) A S3.length S3) ∧ (∀ k, w3.heap.size ≤ k → B ≤ k ∧ k ≠ g) := by
  have hc1b := Kd.R_base RC.row
  have hn1 := (Kd.N_bound RN).1
  have hgl := blk_lt RC.blk
  have hs3 := F.kept.1
  have hnn := Kd.N_kept RN F.kept (fun k hk hs => hs.elim hk.2.1 (fun e => hk.2.2 e.symm))
  refine ⟨Kd.N_mono hnn (fun k hk => ⟨hk.1, hk.2.1⟩), ?_, fun k hk => ⟨by omega, by omega⟩⟩
  obtain ⟨A, c, rfl⟩ := Kd.N_slice F.nn
  refine ⟨A, c, rfl, Kd.F_mono (Kd.N_F F.nn) (fun k hk => ?_)⟩
  rcases hk.2.2 with h | h
  · exact ⟨⟨by omega, hk.1⟩, fun e => by have := (hn1 k e.symm).2; omega⟩
  · exact ⟨⟨hc1b k h, hk.1⟩, fun e => (hn1 k e.symm).1.2.2 h.symm⟩
theorem mem_join : ∀ {l : List S34} {p : S34}, p ∈ l → p.f2.length ≤ (joinS l).length
  | q :: l, p, h => by
    have e : joinS (q :: l) = q.f2 ++ joinS l := rfl
    rw [e, List.length_append]
    rcases List.mem_cons.1 h with rfl | h
    · omega
    · have := mem_join h; omega
theorem piece_len {xs : List Int} {at0 : Int} {en : Bool} {ps : List (Int × Bool × List Int)} {rest : List Int} {at1 : Int} (h : allF xs at0 en = (ps, rest, at1)) : ∀ p ∈ ps, p.2.2.length ≤ xs.length := by
  intro p hp
  obtain ⟨_, h2, _⟩ := allF_ok h
  have h3 := mem_join (l := ps.map toS) (List.mem_map_of_mem (f := toS) hp)
  have h4 := congrArg List.length h2
  rw [List.length_append] at h4
  have : (toS p).f2.length = p.2.2.length := rfl
  omega
end Go.Proofs.Ytmaehbdpmdgpaaa
