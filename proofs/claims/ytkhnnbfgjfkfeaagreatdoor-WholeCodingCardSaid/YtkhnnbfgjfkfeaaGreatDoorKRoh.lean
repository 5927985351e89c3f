/- record.Parse is walked. Conditions: those that each theorem states. -/
import Derived.Test.YtkhnnbfgjfkfeaaGreatDoorKRog
import Derived.Test.YtkhnnbfgjfkfeaaGreatDoorKRhe
import Derived.Test.YtkhnnbfgjfkfeaaGreatDoorKPc
namespace Go.Proofs.YtkhnnbfgjfkfeaaGreatDoor
open Go.RowKit Go.Proofs.YtkhnnbfgjfkfeaaGreatDoorW.PrintWords Go.Proofs.YtkhnnbfgjfkfeaaGreatDoorW.PrintLast Go.Proofs.YtkhnnbfgjfkfeaaGreatDoorW.PrintMore Go.Proofs.YtkhnnbfgjfkfeaaGreatDoor.PCod
set_option linter.unusedVariables false
set_option linter.unusedSimpArgs false
theorem control_is {t : ByteArray} {bc : Bool} (h : amanuensisref19_Control.f t = some bc) : dir_Control.f t = some bc := by
  have e0 : ((⟨#[48, 48]⟩ : ByteArray).size : Int) = 2 := rfl
  have e1 : (⟨#[48, 48]⟩ : ByteArray).toList = ([48, 48] : List UInt8) := by first | rfl | (simp; done) | (simp [ByteArray.toList, ByteArray.toList.loop]; done) | (unfold ByteArray.toList; simp [ByteArray.toList.loop]; done)
  unfold amanuensisref19_Control.f at h
  unfold dir_Control.f strings_HasPrefix.f stringslite_HasPrefix.f
  rw [e0, e1]
  split at h
  · rename_i h2
    rw [if_pos h2, if_pos (by omega), if_pos (by omega)]
    simp only [Option.bind_some]
    have e2 : (2 : Int).toNat = 2 := rfl
    rw [e2]
    exact h
  · rename_i h2
    rw [if_neg h2]
    exact h
/-- a field that ref19 takes: what field.Parse gives of it -/
theorem fparse_of {t : ByteArray} (hg : dir_GoodTag.f 10 t = some true) {ys : List Int} (hf : FldOf t ys) (hl : ys.length ≤ 100000) (W : World) (A : Option Addr) (c : Nat) (h : (Kd.int .u8).C W A ys.length ys) (hc : ys.length ≤ c) : Calls Tryz.prog 109 #[.string t, .slice A ys.length c] W fun e w' => FieldV e ∧ Below W.heap.size W w' := by
  obtain ⟨bt, bc, _, h2, h3, h4, h5⟩ := hf
  cases bc with
  | true => exact fparse_control W t 10 hg (control_is h2) A c ys h hc hl (fun j hj => free_of_ref (h4 rfl j hj))
  | false => exact fparse_data W t 10 hg (control_is h2) A c ys h hc hl (h5 rfl).1 (h5 rfl).2
/-- a record, and no fault -/
def RecV (s : ByteArray) (e : Ending) : Prop := ∃ (A : Option Addr) (n c : Nat), e = .returned (.tuple #[.agg #[.string s, .slice A n c], .agg #[.int .i64 0, .int .i64 0]])
set_option maxHeartbeats 4000000 in
set_option maxRecDepth 100000 in
theorem rparse_calls (w : World) (A : Option Addr) (c : Nat) (xs : List Int) (h : (Kd.int .u8).C w A xs.length xs) (hc : xs.length ≤ c) (base : Int) (l : List S46) (nx : Int) (hr : RecOk xs base l nx) :
    Calls Tryz.prog 37 #[.slice A xs.length c] w fun e w' => RecV (strOfNums (xs.take 24)) e ∧ Below w.heap.size w w' := by
  have HI := Aside0.mk h
  have HC := Aside0.mk hc
  have HR := Aside0.mk hr
  have hmx := hr.max
  have hb25 := hr.b25
  have hblt := hr.blt
  have h24 := hr.l24
  have HF := Aside0.mk (frame_is hr 34 (by omega))
  obtain ⟨ab, rfl, _⟩ := at0 h (by omega)
  obtain ⟨A1, n1, e1, y1, hs1, hn1, he1, hd1, hC1, hq1⟩ := seg_is (some ab) c xs 24 (base - 1) (by omega) (by omega) (by omega) hc
  have hyq : y1 = (xs.take (base - 1).toNat).drop 24 := hq1
  subst hn1
  have HY := Aside0.mk hyq
  have HCY := Aside0.mk (fun W (hW : Below w.heap.size w W) => hC1 W (Kd.C_below h hW))
  have hyl : y1.length ≤ 100000 := by omega
  have HW : Aside0 (Below w.heap.size w ((w.alloc (.cells #[.string ByteArray.empty, .slice none 0 0] 28)).alloc (.cells #[.int .i64 0, .int .i64 0] 31))) := ⟨below_alloc (below_alloc (Below.refl _ _) _) _⟩
  clear h hc hr hC1 hq1 hyq hd1
  go_enter Tryz.func37, Tryz.ntmps37
  go_wp2_with fail
  refine (record_frame.calls 34 (some ab) c xs base 0 0 _ (Kd.C_below HI.out HW.out) HC.out HF.out).mono ?_
  rintro e w1 ⟨rfl, hb⟩
  have HP := Aside0.mk (PB.start hb 0 0)
  have hg6 : w.heap.size + 2 ≤ w1.heap.size := by have := hb.size; rw [FB.alloc_size, FB.alloc_size] at this; omega
  clear hb HW HF
  go_upto_region 2 with (fail)
  generalize w1.alloc (.cells #[.int .i64 0, .int .i64 0] 31) = wA at HP ⊢
  generalize w1.heap.size = g6 at HP hg6 ⊢
  obtain ⟨⟨c20, c21⟩, ⟨c30, c31⟩, ⟨c60, c61⟩, f2, f3, f6⟩ := HP.out.cells
  have HO := Aside0.mk (dparse_calls wA A1 e1 y1 (HCY.out wA HP.out.below) he1 hyl l nx HR.out.ok (by rw [HY.out]; exact HR.out.ents) (by rw [HY.out]; exact HR.out.dlen) (by have := HR.out.fin; omega))
  go_wp2_with fail
  refine HO.out.mono ?_
  rintro e w2 ⟨vl, rfl, hrl, hb⟩
  have HQ := Aside0.mk (HP.out.of_below hb)
  have HRL := Aside0.mk (Kd.R_lower hrl HP.out.below.size)
  clear hb hrl HO HP c20 c21 c30 c31 c60 c61 f2 f3 f6
  obtain ⟨Al, cl, hul⟩ := Kd.R_slice HRL.out
  subst hul
  obtain ⟨⟨c20, c21⟩, ⟨c30, c31⟩, ⟨c60, c61⟩, f2, f3, f6⟩ := HQ.out.cells
  go_wp2
  have HP3 := Aside0.mk (HQ.out.put6 0 0)
  have HL3 : Aside0 (k46.R 46 ((w2.setCell ⟨g6, 0, none⟩ (.int .i64 0)).setCell ⟨g6, 1, none⟩ (.int .i64 0)) w.heap.size (fun _ => True) (.slice Al l.length cl) l) := ⟨k46_set (k46_set HRL.out HQ.out.b6 (by decide) 0 _) (blk_put HQ.out.b6 0 _ rfl) (by decide) 1 _⟩
  have HE0 : Aside0 (EntOk 0 (l.drop (0 : Int).toNat) nx) := ⟨by simpa using HR.out.ok⟩
  have hlb : l.length ≤ 10000 := by have := HR.out.dlen; rw [← HY.out] at this; omega
  have hnb := EntOk.bound HR.out.ok
  have hfin := HR.out.fin
  clear c20 c21 c30 c31 c60 c61 f2 f3 f6 HQ HRL
  go_loopg [7, 46] l.length (fun kq v7 v46 w' => ∃ (i s u : Int), v7 = .int .i64 u ∧ v46 = .int .i64 i ∧ 0 ≤ i ∧ 0 ≤ s ∧ Aside0 (u = base + s) ∧ Aside0 (i.toNat + kq = l.length) ∧ Aside0 (EntOk s (l.drop i.toNat) nx) ∧ Aside0 (PB w w' w.heap.size (w.heap.size + 1) g6 0 0) ∧ Aside0 (k46.R 46 w' w.heap.size (fun _ => True) (.slice Al l.length cl) l))
  case atStart => exact ⟨0, 0, base, rfl, rfl, by omega, by omega, ⟨by omega⟩, ⟨by simp⟩, HE0, HP3, HL3⟩
  case round =>
    clear HP3 HL3 HE0
    obtain ⟨i, s, u, rfl, rfl, i0, s0, hu, ikq, hEs, HP, HRL⟩ := hrel
    have hsb := EntOk.bound hEs.out
    have hu0 : -1 ≤ u := by have := hu.out; omega
    have hu1 : u ≤ 1000000000 := by have := hu.out; omega
    clear hsb
    by_cases hi : i < l.length
    · have hib : decide (i < (l.length : Int)) = true := decide_eq_true hi
      obtain ⟨hn1, hn2, hn3⟩ := hEs.out.next (by omega)
      obtain ⟨ad, e, m0, mm1, m2⟩ := at_T46 ((Kd.R_reads' HRL.out).2.2) i i0 hi
      subst e
      obtain ⟨⟨p0, p1, p2⟩, hpp⟩ : ∃ p, rd_T46 l i = p := ⟨_, rfl⟩
      rw [hpp] at m0 mm1 m2
      rw [show l.getD i.toNat z46 = ⟨p0, p1, p2⟩ from hpp] at hn1 hn2 hn3
      simp only at m0 mm1 m2 hn1 hn2 hn3
      have HN1 := Aside0.mk hn1
      have HP2 := Aside0.mk (HP.out.of_below (below_alloc (Below.refl _ wr) (.cells #[.string p0, .int .i64 p1, .int .i64 p2] 46)))
      have HR2 := Aside0.mk (Kd.R_alloc HRL.out (.cells #[.string p0, .int .i64 p1, .int .i64 p2] 46))
      clear hn1 hpp
      cases gk with
      | zero => exact absurd ikq.out (by omega)
      | succ k1 =>
        go_wp2
        go_roundg k1
        case measure => omega
        case rel => exact ⟨i + 1, s + p1, u + p1, rfl, rfl, by omega, by omega, ⟨by have := hu.out; omega⟩, ⟨by have := ikq.out; omega⟩, ⟨by rw [show (i + 1).toNat = i.toNat + 1 by omega]; exact HN1.out⟩, HP2, HR2⟩
    · have hib : decide (i < (l.length : Int)) = false := decide_eq_false hi
      have hsx : s = nx := by
        have := hEs.out
        rw [List.drop_eq_nil_of_le (by omega)] at this
        exact this
      have hux : u = (xs.length : Int) - 1 := by have := hu.out; omega
      have hbe : (u != (xs.length : Int) - 1) = false := by rw [hux]; simp
      clear hux hsx
      have HX2 := Aside0.mk (Kd.C_below HI.out HP.out.below)
      obtain ⟨tgs, htgs⟩ : ∃ s, strOfNums (xs.take 24) = s := ⟨_, rfl⟩
      have h24c : 24 ≤ c := by have := HC.out; omega
      have hcv : (convert 22 9 (.slice (some ab) 24 c)).run Tryz.prog wr = .ok (.string tgs) wr := by
        rw [← htgs]
        have := Kd.C_take HX2.out (m := 24) (by omega)
        rw [show (xs.take 24).length = 24 by rw [List.length_take]; omega] at this
        exact Kd.C_string Tryz.underlying22 Tryz.underlying5 Tryz.underlying9 this
      have HPF := Aside0.mk (PF.start HP.out HRL.out tgs)
      have hg10 : w.heap.size + 2 ≤ wr.heap.size := by have := blk_lt HP.out.b3; omega
      have HTG := Aside0.mk htgs
      clear htgs
      go_wp2
      generalize wr.alloc (.cells #[.string tgs, .slice none 0 0] 28) = wB at HPF ⊢
      generalize wr.heap.size = g10 at HPF hg10 ⊢
      go_loopg [68] l.length (fun kq v68 w' => ∃ (i : Int) (vf : Value) (rows : List (List Value)), v68 = .int .i64 i ∧ 0 ≤ i ∧ Aside0 (i.toNat + kq = l.length) ∧ Aside0 (rows.length ≤ i.toNat) ∧ Aside0 (PF w w' w.heap.size (w.heap.size + 1) g6 g10 0 0 tgs vf rows (.slice Al l.length cl) l))
      case atStart => exact ⟨0, _, [], rfl, by omega, ⟨by simp⟩, ⟨by simp⟩, HPF⟩
      case round =>
        clear HPF hcv HP HRL HX2
        obtain ⟨j, vf, rows, rfl, j0, jkq, hrw, PFh⟩ := hrel
        obtain ⟨Af, cf, hvf⟩ := Kd.R_slice PFh.out.rf
        subst hvf
        by_cases hj : j < l.length
        · have hjb : decide (j < (l.length : Int)) = true := decide_eq_true hj
          have hat := HR.out.ok.at j.toNat (by omega)
          have hEA := HR.out.ents j.toNat (by omega)
          have hRA := HR.out.each j.toNat (by omega)
          obtain ⟨ad, e, m0, mm1, m2⟩ := at_T46 ((Kd.R_reads' PFh.out.rl).2.2) j j0 hj
          subst e
          obtain ⟨⟨p0, p1, p2⟩, hpp⟩ : ∃ p, rd_T46 l j = p := ⟨_, rfl⟩
          rw [hpp] at m0 mm1 m2
          rw [show l.getD j.toNat z46 = ⟨p0, p1, p2⟩ from hpp] at hat hEA hRA
          simp only at m0 mm1 m2 hat
          obtain ⟨ha1, ha2, ha3, ha4⟩ := hat
          have hgt := (ent_is hEA (by have := HR.out.dlen; omega) ha2 ha1).2.2.2.2
          have HP2 := Aside0.mk (PFh.out.of_below (below_alloc (Below.refl _ wr) (.cells #[.string p0, .int .i64 p1, .int .i64 p2] 46)))
          have HO := Aside0.mk (rone_calls (wr.alloc (.cells #[.string p0, .int .i64 p1, .int .i64 p2] 46)) (some ab) c xs (Kd.C_below HI.out HP2.out.pb.below) HC.out (by omega) base p0 p1 p2 hb25 ha2 ha3 ha1 (by omega) hRA.stop
            (fun W A' c' ys h1 h2 h3 => fparse_of hgt (by rw [h3]; exact hRA.field) (by rw [h3, List.length_drop, List.length_take]; omega) W A' c' h1 h2))
          clear hEA hRA hgt hpp
          go_wp2_with fail
          refine HO.out.mono ?_
          rintro e w5 ⟨⟨s5, F1, m1, d1, i1, i2, F4, m4, d4, rfl⟩, hb⟩
          have HP5 := Aside0.mk ((HP2.out.of_below hb).of_below (below_alloc (below_alloc (Below.refl _ w5) (.cells #[.string s5, .slice F1 m1 d1, .int .u8 i1, .int .u8 i2, .slice F4 m4 d4] 50)) (.cells #[.int .i64 0, .int .i64 0] 31)))
          have B13 := Aside0.mk (blk_alloc (blk_new w5 (.cells #[.string s5, .slice F1 m1 d1, .int .u8 i1, .int .u8 i2, .slice F4 m4 d4] 50)) (.cells #[.int .i64 0, .int .i64 0] 31))
          clear hb HO HP2 PFh m0 mm1 m2
          go_upto_region 22 with (fail)
          generalize (w5.alloc (.cells #[.string s5, .slice F1 m1 d1, .int .u8 i1, .int .u8 i2, .slice F4 m4 d4] 50)).alloc (.cells #[.int .i64 0, .int .i64 0] 31) = wC at HP5 B13 ⊢
          generalize w5.heap.size = g13 at B13 ⊢
          have c100 : wC.cell? ⟨g10, 0, none⟩ = some (.string tgs) := by rw [blk_cell HP5.out.b10]; rfl
          have c101 : wC.cell? ⟨g10, 1, none⟩ = some (.slice Af rows.length cf) := by rw [blk_cell HP5.out.b10]; rfl
          have f10 : ∀ i, wC.frozen? ⟨g10, i, none⟩ = false := fun i => blk_frozen HP5.out.b10 i
          obtain ⟨x0, x1, x2, x3, x4, x5⟩ := cells5 B13.out
          have hrl2 : rows.length ≤ 200000 := by have := hrw.out; omega
          cases gk with
          | zero => exact absurd jkq.out (by omega)
          | succ k1 =>
            go_wp2_with (((with_reducible refine gate_builtin (b := .append) (xs := #[.tmp 85, .tmp 87]) rfl ?_); at_builtin; refine Kd.R_append (Kd.raw 5) (w0 := w) w.heap.size rfl (.tmp 85) (.tmp 87) 26 50 (.agg #[.string ByteArray.empty, .slice none 0 0, .int .u8 0, .int .u8 0, .slice none 0 0]) 72 rfl Tryz.underlying26 info50 rfl (by decide) (by omega) (.slice Af rows.length cf) rows [.string s5, .slice F1 m1 d1, .int .u8 i1, .int .u8 i2, .slice F4 m4 d4] [.string s5, .slice F1 m1 d1, .int .u8 i1, .int .u8 i2, .slice F4 m4 d4] (fun _ => True) (fun _ => False) rfl rfl ?zP (fun _ hk => hk.elim) (fun _ _ => trivial) ?zO ?zB ?zS ?zL ?_; (case zP => exact ⟨rfl, rfl, by simp [Value.oneCell']⟩); (case zO => exact HP5.out.rf); (case zB => exact HP5.out.pb.below); (case zS => exact HP5.out.pb.below.size); (case zL => omega); intro v1 w7 ho hb hg hat; clear hat; have PG := Aside0.mk (HP5.out.grown ho hb hg); obtain ⟨v7A, v7c, hv7⟩ := Kd.R_slice ho; rw [List.length_append, List.length_cons, List.length_nil] at hv7; subst hv7; have d101 : w7.cell? ⟨g10, 1, none⟩ = some (.slice Af rows.length cf) := (by rw [blk_cell PG.out.2.1]; rfl); have e10 := blk_frozen PG.out.2.1 1; clear ho hb hg))
            go_roundg k1
            case measure => omega
            case rel => exact ⟨j + 1, _, _, rfl, by omega, ⟨by have := jkq.out; omega⟩, ⟨by have := hrw.out; show (rows ++ [[Value.string s5, Value.slice F1 m1 d1, Value.int .u8 i1, Value.int .u8 i2, Value.slice F4 m4 d4]]).length ≤ _; rw [List.length_append, List.length_cons, List.length_nil]; omega⟩, ⟨PG.out.2.2⟩⟩
        · have hjb : decide (j < (l.length : Int)) = false := decide_eq_false hj
          obtain ⟨⟨c20, c21⟩, ⟨c30, c31⟩, ⟨c60, c61⟩, f2, f3, f6⟩ := PFh.out.pb.cells
          have c100 : wr.cell? ⟨g10, 0, none⟩ = some (.string tgs) := by rw [blk_cell PFh.out.b10]; rfl
          have c101 : wr.cell? ⟨g10, 1, none⟩ = some (.slice Af rows.length cf) := by rw [blk_cell PFh.out.b10]; rfl
          have f10 : ∀ i, wr.frozen? ⟨g10, i, none⟩ = false := fun i => blk_frozen PFh.out.b10 i
          have n5 := PFh.out.n2
          have n6 := Ne.symm n5
          have n7 := blk_ne PFh.out.pb.b3 PFh.out.b10 (by decide)
          have n8 := Ne.symm n7
          go_wp2
          refine bodyPost_ret (results_list (rs := [.cell 2 28, .cell 3 31]) rfl (by simp) (.cell _ 28 _ (0, 0) _ rfl (PB.ret2 PFh.out.pb _ _ _ _) Tryz.underlying28 rfl (by kernel_rfl) (.cell _ 31 _ (0, 0) _ rfl (PB.ret3 PFh.out.pb _ _ _ _) Tryz.underlying31 rfl (by kernel_rfl) .nil))) rfl ?_
          exact ⟨⟨_, _, _, by rw [HTG.out]⟩, (PB.retB PFh.out.pb _ _ _ _)⟩
end Go.Proofs.YtkhnnbfgjfkfeaaGreatDoor
