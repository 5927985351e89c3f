/- The plain model, part 3: rows, tables and texts carried by the relation of the two runs. Conditions: those that each theorem states. -/
import Derived.Test.YtkhnnbfgjfkfeaaGreatDoorKEvB
import Derived.Laws.Slices
import Derived.Laws.Tables
import Derived.Great.FillDense
import Derived.Deep.MidRow
import Derived.Laws.BytesString
import Derived.Great.BuildSlice
section
namespace Go.Ev
open Go.RowKit
open Tr (path)
variable {P : Program} {β : Type} {o : Oper}

theorem elemIs_eq {t : TypeId} {z : Nat} (h : elemIs P t z = true) : ∃ e i zv, P.underlying t = some (.slice e) ∧ P.info? e = some i ∧ i.size = z ∧ 1 ≤ z ∧ i.bytes ≤ 1048576 ∧ i.zero = some zv ∧ zv.cells.size = z := by
  unfold elemIs at h
  split at h
  · split at h
    · simp only [Bool.and_eq_true, beq_iff_eq, decide_eq_true_eq] at h
      obtain ⟨⟨⟨h1, h2⟩, h3⟩, h4⟩ := h
      split at h4
      · exact ⟨_, _, _, ‹_›, ‹_›, h1, h2, h3, ‹_›, by simpa using h4⟩
      · cases h4
    · cases h
  · cases h
theorem szIs_eq {t : TypeId} {z : Nat} (h : szIs P t z = true) : ∃ i, P.info? t = some i ∧ i.size = z := by
  unfold szIs at h
  split at h
  · exact ⟨_, ‹_›, by simpa using h⟩
  · cases h
theorem run_sizeOf {t : TypeId} {i : TypeInfo} (h : P.info? t = some i) (w : World) : (sizeOf t).run P w = .ok i.size w := by simp [sizeOf, typeInfo, h]

/-! ### lengths -/
theorem sv_len {x : Operand} {x' : Opd} {st : Bool} {ty : TypeId} {args : Array Operand} {ats : Array TypeId} (ho : o.op = .call { callee := .builtin .len, args := args, argTypes := ats }) (ha : args.toList = [x]) (ht' : ats.toList = [ty])
    (hs : (if st then isStr P ty else isSl P ty) = true) (hx : chkX x x' = true) : SoundV P o (.len st x') := by
  have ha : args = #[x] := by rw [← Array.toArray_toList (xs := args), ha]
  have ht' : ats = #[ty] := by rw [← Array.toArray_toList (xs := ats), ht']
  subst ha; subst ht'
  intro φ N t a cl clv h n v h' n' ht hg e
  obtain ⟨u1, e1, e⟩ := ob_iff.1 e
  have hx' := eval_ok hx ht hg e1
  cases st with
  | true =>
    have e : asS u1 (fun l => r1o (mkN (llen l)) h n) = some ⟨v, h', n'⟩ := e
    obtain ⟨l, rfl, f⟩ := asS_iff.1 e
    obtain ⟨e3, rfl, rfl⟩ := r1o_iff.1 f
    rw [mkN_eq, llen_eq] at e3; cases e3
    obtain ⟨s, hx2, rfl⟩ := vr_s hx'
    refine ⟨rfl, rfl, _, .i _ _, fun w => ?_⟩
    simp [execOp, ho, resolve, invoke, builtin, hx2, Builtin.len_, run_underlying (isStr_eq (by simpa using hs : isStr P ty = true)), goInt, bytesN_length]
  | false =>
    have e : asL u1 (r1o (mkN (nat_lit 0)) h n) (fun _ _ k _ _ => r1o (mkN k) h n) = some ⟨v, h', n'⟩ := e
    have hsl : ∃ el, P.underlying ty = some (.slice el) := by
      have : isSl P ty = true := by simpa using hs
      unfold isSl at this; split at this
      · exact ⟨_, ‹_›⟩
      · cases this
    obtain ⟨el, hel⟩ := hsl
    rcases asL_iff.1 e with ⟨rfl, f⟩ | ⟨b, off, m, c, xx, rfl, f⟩
    · obtain ⟨e3, rfl, rfl⟩ := r1o_iff.1 f
      rw [mkN_eq] at e3; cases e3
      generalize hq : a.eval x = q at hx'
      cases hx'
      refine ⟨rfl, rfl, _, .i _ _, fun w => ?_⟩
      simp [execOp, ho, resolve, invoke, builtin, hq, Builtin.len_, run_underlying hel, goInt]
    · obtain ⟨e3, rfl, rfl⟩ := r1o_iff.1 f
      rw [mkN_eq] at e3; cases e3
      generalize hq : a.eval x = q at hx'
      cases hx'
      refine ⟨rfl, rfl, _, .i _ _, fun w => ?_⟩
      simp [execOp, ho, resolve, invoke, builtin, hq, Builtin.len_, run_underlying hel, goInt]

/-! ### bounds -/
def BN (a : Act) : Option Operand → Option Nat → Prop
  | none, none => True
  | some x, some m => ∃ q, a.eval x = .int q (m : Int)
  | _, _ => False
theorem evO_ok {φ : Phi} {N : Nat} {t : Tr AV} {a : Act} {lo : Option Operand} {lo' : Option Opd} {k : Option Nat → Option β} {r : β} (hx : chkXo lo lo' = true) (ht : TM φ N t a.tmps) (hg : GL φ) (e : evO t lo' k = some r) : ∃ ln, BN a lo ln ∧ k ln = some r := by
  cases lo with
  | none => cases lo' with
    | none => exact ⟨none, trivial, e⟩
    | some _ => cases hx
  | some x => cases lo' with
    | none => cases hx
    | some x' =>
      obtain ⟨u, e1, e2⟩ := ob_iff.1 (e : ob (ev t x') (fun v => asN v fun n => k (some n)) = some r)
      obtain ⟨q, m, rfl, e3⟩ := asN_iff.1 e2
      exact ⟨some m, ⟨q, vr_i (eval_ok hx ht hg e1)⟩, e3⟩
theorem getO_eq (x : Option Nat) (d : Nat) : getO x d = x.getD d := by cases x <;> rfl
theorem cut_iff {lo hi mx : Option Nat} {n cap : Nat} {k : Nat → Nat → Nat → Option β} {r : β} : cut lo hi mx n cap k = some r ↔ mx.getD cap ≤ cap ∧ hi.getD n ≤ mx.getD cap ∧ lo.getD 0 ≤ hi.getD n ∧ k (lo.getD 0) (hi.getD n) (mx.getD cap) = some r := by
  unfold cut
  simp only [guardB_iff, getO_eq, Nat.ble_eq]
theorem bounds_ok {a : Act} {lo hi mx : Option Operand} {ln hn mn : Option Nat} (hl : BN a lo ln) (hh : BN a hi hn) (hm : BN a mx mn) (hmh : (mx.isNone || hi.isSome) = true) (s : Bool) {n cap cap' : Nat} (hc : cap ≤ cap')
    (h1 : mn.getD cap ≤ cap) (h2 : hn.getD n ≤ mn.getD cap) (h3 : ln.getD 0 ≤ hn.getD n) (w : World) :
    (Instr.sliceBounds s n cap' (lo.map a.eval) (hi.map a.eval) (mx.map a.eval)).run P w = .ok (ln.getD 0, hn.getD n, mn.getD cap') w := by
  cases lo <;> cases ln <;> first | (cases hl; done) | skip
  all_goals cases hi <;> cases hn <;> first | (cases hh; done) | skip
  all_goals cases mx <;> cases mn <;> first | (cases hm; done) | (cases hmh; done) | skip
  all_goals
    simp only [Option.getD_some, Option.getD_none] at h1 h2 h3
    (try obtain ⟨ql, hl⟩ := hl)
    (try obtain ⟨qh, hh⟩ := hh)
    (try obtain ⟨qm, hm⟩ := hm)
    simp only [Instr.sliceBounds, Option.map_some, Option.map_none, Sem.run_bind, Sem.run_pure, Result.andThen_ok, *]
    repeat (first | rfl | (rw [run_sliceBound _ _ _ _ _ (by omega) (by omega)]; simp only [Result.andThen_ok, Int.toNat_natCast]))
theorem sv_slS {ty : TypeId} {x : Operand} {x' : Opd} {lo hi : Option Operand} {lo' hi' : Option Opd} (ho : o.op = .slice ty x lo hi none) (hs : isStr P ty = true) (hx : chkX x x' = true) (hlo : chkXo lo lo' = true) (hhi : chkXo hi hi' = true) : SoundV P o (.slS x' lo' hi') := by
  intro φ N t a cl clv h n v h' n' ht hg e
  obtain ⟨u1, e1, e⟩ := ob_iff.1 e
  obtain ⟨l, rfl, f1⟩ := asS_iff.1 e
  obtain ⟨ln, bl, f2⟩ := evO_ok hlo ht hg f1
  obtain ⟨hn, bh, f3⟩ := evO_ok hhi ht hg f2
  rw [forceN_eq, cut_iff] at f3
  obtain ⟨g1, g2, g3, f4⟩ := f3
  obtain ⟨rfl, rfl, rfl⟩ := r1_iff.1 f4
  obtain ⟨s, hx2, rfl⟩ := vr_s (eval_ok hx ht hg e1)
  rw [llen_eq, bytesN_length] at g1 g2 g3
  have hb := bounds_ok (P := P) (mx := none) (mn := none) bl bh trivial rfl false (Nat.le_refl s.size) g1 g2 g3
  have hty := isStr_eq hs
  have hres : ltake (Nat.sub (hn.getD s.size) (ln.getD 0)) (ldrop (ln.getD 0) (bytesN s)) = bytesN (s.extract (ln.getD 0) (hn.getD s.size)) := by
    rw [ltake_eq, ldrop_eq]
    simp only [bytesN, ByteArray.data_extract, Array.toList_extract, List.extract_eq_take_drop, List.map_take, List.map_drop]
    rfl
  rw [llen_eq, bytesN_length, hres]
  refine ⟨rfl, rfl, _, .s _, fun w => ?_⟩
  simp [execOp, ho, Instr.sliceAt, Instr.slice, run_underlying hty, hx2]
  have := hb w
  simp only [Option.map_none] at this
  rw [this]; rfl
theorem sv_slL {ty : TypeId} {z : Nat} {x : Operand} {x' : Opd} {lo hi mx : Option Operand} {lo' hi' mx' : Option Opd} (ho : o.op = .slice ty x lo hi mx) (hs : elemIs P ty z = true) (hx : chkX x x' = true) (hlo : chkXo lo lo' = true) (hhi : chkXo hi hi' = true) (hmx : chkXo mx mx' = true)
    (hmh : (mx.isNone || hi.isSome) = true) : SoundV P o (.slL z x' lo' hi' mx') := by
  obtain ⟨el, i, zv, hty, hi1, rfl, hz1, _, _, _⟩ := elemIs_eq hs
  intro φ N t a cl clv h n v h' n' ht hg e
  obtain ⟨u1, e1, e⟩ := ob_iff.1 e
  obtain ⟨ln, bl, f2⟩ := evO_ok hlo ht hg e
  obtain ⟨hn, bh, f3⟩ := evO_ok hhi ht hg f2
  obtain ⟨mn, bm, f4⟩ := evO_ok hmx ht hg f3
  have hx' := eval_ok hx ht hg e1
  unfold opCutL at f4
  rcases asL_iff.1 f4 with ⟨rfl, f⟩ | ⟨b, off, m, c, xx, rfl, f⟩
  · rw [cut_iff] at f
    obtain ⟨g1, g2, g3, f⟩ := f
    obtain ⟨rfl, rfl, rfl⟩ := r1_iff.1 f
    generalize hq : a.eval x = q at hx'
    cases hx'
    refine ⟨rfl, rfl, _, .sn, fun w => ?_⟩
    have hb := bounds_ok (P := P) bl bh bm hmh true (Nat.le_refl 0) g1 g2 g3 w
    simp only [Nat.le_zero_eq] at g1
    rw [g1] at g2
    have e0 : hn.getD 0 = 0 := Nat.le_zero.1 g2
    rw [e0] at g3
    have e00 : ln.getD 0 = 0 := Nat.le_zero.1 g3
    simp [execOp, ho, Instr.sliceAt, Instr.slice, run_underlying hty, hq, hb, run_sizeOf hi1, g1, e0, e00]
  · rw [cut_iff] at f
    obtain ⟨g1, g2, g3, f⟩ := f
    rw [forceN_eq, forceN_eq, forceB_eq, rec_beq] at f
    generalize hq : a.eval x = q at hx'
    cases hx' with
    | sl _ _ _ _ c' γ _ hφ hnc hcc hxx hkk =>
    have hb := fun w => bounds_ok (P := P) bl bh bm hmh true hcc g1 g2 g3 w
    have hex : hasO mn xx = true → mn.getD c = mn.getD c' := by
      intro q; cases mn with
      | some m => rfl
      | none => exact hxx q
    have hle : mn.getD c ≤ mn.getD c' := by cases mn with
      | some m => exact Nat.le_refl _
      | none => exact hcc
    by_cases hml : mn.getD c = ln.getD 0
    · rw [if_pos hml] at f
      obtain ⟨hxo, f⟩ := guardB_iff.1 f
      obtain ⟨rfl, rfl, rfl⟩ := r1_iff.1 f
      have hm2 := hex hxo
      refine ⟨rfl, rfl, _, .sl b off _ _ (mn.getD c' - ln.getD 0) γ _ hφ ?_ ?_ ?_ (fun q => by rw [hxo] at q; cases q), fun w => ?_⟩
      · show hn.getD m - ln.getD 0 ≤ mn.getD c - ln.getD 0; omega
      · show mn.getD c - ln.getD 0 ≤ _; omega
      · intro _; show mn.getD c - ln.getD 0 = _; omega
      · simp only [execOp, ho, Instr.sliceAt, Instr.slice, run_underlying hty, hq, hb, run_sizeOf hi1, Sem.run_bind, Result.andThen_ok, Sem.run_pure]
        rw [if_pos (by omega)]; rfl
    · rw [if_neg hml, forceN_eq] at f
      obtain ⟨rfl, rfl, rfl⟩ := r1_iff.1 f
      refine ⟨rfl, rfl, _, .sl b _ _ _ (mn.getD c' - ln.getD 0) γ _ hφ ?_ ?_ ?_ (fun q q0 => ?_), fun w => ?_⟩
      · show hn.getD m - ln.getD 0 ≤ mn.getD c - ln.getD 0; omega
      · show mn.getD c - ln.getD 0 ≤ _; omega
      · intro q; have := hex q; show mn.getD c - ln.getD 0 = _; omega
      · cases mn with
        | some m => cases q
        | none =>
          have q0 : off + ln.getD 0 * i.size = 0 := q0
          have h1 : ln.getD 0 * i.size = 0 := by omega
          have h2 : ln.getD 0 = 0 := by
            rcases Nat.mul_eq_zero.1 h1 with h | h
            · exact h
            · omega
          rw [h2]
          show c' - 0 = _
          rw [Nat.sub_zero]
          exact hkk q (by omega)
      · simp only [execOp, ho, Instr.sliceAt, Instr.slice, run_underlying hty, hq, hb, run_sizeOf hi1, Sem.run_bind, Result.andThen_ok, Sem.run_pure]
        rw [if_neg (by omega)]
        simp only [Option.map_some, Addr.add_lit]; rfl
end Go.Ev
end
section
namespace Go.Ev
open Go.RowKit
open Tr (path)
variable {P : Program} {β : Type} {o : Oper}

theorem vr_p {φ : Phi} {b : List Bool} {off : Nat} {v' : Value} (h : VR φ (.p b off) v') : ∃ γ, v' = .pointer (some ⟨γ, off, none⟩) ∧ φ b = some γ := by cases h; exact ⟨_, rfl, ‹_›⟩
theorem sv_slA {ty e0 : TypeId} {k z : Nat} {x : Operand} {x' : Opd} {lo hi mx : Option Operand} {lo' hi' mx' : Option Opd} (ho : o.op = .slice ty x lo hi mx) (hu : P.underlying ty = some (.array k e0)) (hz : szIs P e0 z = true) (hx : chkX x x' = true) (hlo : chkXo lo lo' = true) (hhi : chkXo hi hi' = true) (hmx : chkXo mx mx' = true)
    (hmh : (mx.isNone || hi.isSome) = true) : SoundV P o (.slA k z x' lo' hi' mx') := by
  obtain ⟨i, hi1, rfl⟩ := szIs_eq hz
  intro φ N t a cl clv h n v h' n' ht hg e
  obtain ⟨u1, e1, e⟩ := ob_iff.1 e
  obtain ⟨b, off, rfl, f1⟩ := asP_iff.1 e
  obtain ⟨ln, bl, f2⟩ := evO_ok hlo ht hg f1
  obtain ⟨hn, bh, f3⟩ := evO_ok hhi ht hg f2
  obtain ⟨mn, bm, f4⟩ := evO_ok hmx ht hg f3
  obtain ⟨γ, hq, hφ⟩ := vr_p (eval_ok hx ht hg e1)
  rw [cut_iff] at f4
  obtain ⟨g1, g2, g3, f⟩ := f4
  rw [forceN_eq, forceN_eq, rec_beq] at f
  have hb := fun w => bounds_ok (P := P) bl bh bm hmh false (Nat.le_refl k) g1 g2 g3 w
  by_cases hml : mn.getD k = ln.getD 0
  · rw [if_pos hml] at f
    obtain ⟨rfl, rfl, rfl⟩ := r1_iff.1 f
    refine ⟨rfl, rfl, _, .sl b off _ _ (mn.getD k - ln.getD 0) γ _ hφ ?_ (Nat.le_refl _) (fun _ => rfl) (fun q => by cases q), fun w => ?_⟩
    · show hn.getD k - ln.getD 0 ≤ mn.getD k - ln.getD 0; omega
    · simp only [execOp, ho, Instr.sliceAt, run_underlying hu, hq, Instr.sureAddr, hb, run_sizeOf hi1, Sem.run_bind, Result.andThen_ok, Sem.run_pure]
      rw [if_pos hml]; rfl
  · rw [if_neg hml, forceN_eq] at f
    obtain ⟨rfl, rfl, rfl⟩ := r1_iff.1 f
    refine ⟨rfl, rfl, _, .sl b _ _ _ (mn.getD k - ln.getD 0) γ _ hφ ?_ (Nat.le_refl _) (fun _ => rfl) (fun q => by cases q), fun w => ?_⟩
    · show hn.getD k - ln.getD 0 ≤ mn.getD k - ln.getD 0; omega
    · simp only [execOp, ho, Instr.sliceAt, run_underlying hu, hq, Instr.sureAddr, hb, run_sizeOf hi1, Sem.run_bind, Result.andThen_ok, Sem.run_pure]
      rw [if_neg hml]
      simp only [Addr.add_lit]; rfl
theorem sv_fa {ty : TypeId} {i off : Nat} {x : Operand} {x' : Opd} (ho : o.op = .fieldAddr ty x i)
    (hs : (match P.underlying ty with | some (.struct fs) => (match fs[i]? with | some f => f.offset == off && (match P.info? f.type with | some j => decide (1 ≤ j.size) | none => false) | none => false) | _ => false) = true) (hx : chkX x x' = true) : SoundV P o (.fa off x') := by
  intro φ N t a cl clv h n v h' n' ht hg e
  obtain ⟨u1, e1, e⟩ := ob_iff.1 e
  obtain ⟨b, off', rfl, f1⟩ := asP_iff.1 e
  rw [forceN_eq] at f1
  obtain ⟨rfl, rfl, rfl⟩ := r1_iff.1 f1
  obtain ⟨γ, hq, hφ⟩ := vr_p (eval_ok hx ht hg e1)
  split at hs
  · rename_i fs hu
    split at hs
    · rename_i f hf
      rw [Bool.and_eq_true, beq_iff_eq] at hs
      obtain ⟨rfl, hs⟩ := hs
      split at hs
      · rename_i j hj
        have hj2 : 1 ≤ j.size := by simpa using hs
        have hj1 : ¬ j.size = 0 := by omega
        refine ⟨rfl, rfl, _, .p b _ γ hφ, fun w => ?_⟩
        simp [execOp, ho, Instr.fieldAt, run_underlying hu, hf, hq, Instr.sureAddr, fieldPlace, run_sizeOf hj, hj1, Addr.add_lit]
      · cases hs
    · cases hs
  · cases hs

/-! ### parts of values -/
theorem aggB_run {t : TypeId} {d : TypeDesc} (h : P.underlying t = some d) (w : World) : (isAgg t).run P w = .ok (aggB d) w := by
  simp only [isAgg, Sem.run_bind, run_underlying h, Result.andThen_ok]
  cases d <;> rfl
theorem tyIs_eq {t : TypeId} {n : Nat} {agg : Bool} (h : tyIs P t n agg = true) : ∃ d i, P.underlying t = some d ∧ P.info? t = some i ∧ aggB d = agg ∧ i.size = n ∧ (agg = false → n = 1) := by
  unfold tyIs at h
  split at h
  · simp only [Bool.and_eq_true, beq_iff_eq, Bool.or_eq_true] at h
    refine ⟨_, _, ‹_›, ‹_›, h.1.1, h.1.2, fun e => ?_⟩
    rcases h.2 with q | q
    · rw [e] at q; cases q
    · exact q
  · cases h
theorem allOne_take {l : List AV} (h : l.all one = true) (n : Nat) : (l.take n).all one = true := by
  rw [List.all_eq_true] at h ⊢; exact fun x hx => h x (List.mem_of_mem_take hx)
theorem allOne_drop {l : List AV} (h : l.all one = true) (n : Nat) : (l.drop n).all one = true := by
  rw [List.all_eq_true] at h ⊢; exact fun x hx => h x (List.mem_of_mem_drop hx)
theorem part_ok {φ : Phi} {t : TypeId} {n : Nat} {agg : Bool} (ht : tyIs P t n agg = true) {l : List AV} {cs : Array Value} (hl : VRs φ l cs.toList) (hf : l.all one = true) (off : Nat) {v : AV} (e : wrap1 agg (ltake n (ldrop off l)) = some v) :
    ∃ v', VR φ v v' ∧ ∀ w, (part t cs off).run P w = .ok v' w := by
  obtain ⟨d, i, h1, h2, h3, h4, h5⟩ := tyIs_eq ht
  rw [ltake_eq, ldrop_eq] at e
  cases agg with
  | true =>
    have e : some (AV.a ((l.drop off).take n)) = some v := e
    cases e
    refine ⟨.agg (cs.extract off (off + n)), .a _ _ ?_ (allOne_take (allOne_drop hf _) _), fun w => ?_⟩
    · have := (hl.drop off).take n
      simp only [Array.toList_extract, List.extract_eq_take_drop]
      rw [Nat.add_sub_cancel_left]; exact this
    · simp only [part, Sem.run_bind, aggB_run h1, h3, Result.andThen_ok, if_true, run_sizeOf h2, h4, Sem.run_pure]
  | false =>
    have e : lget ((l.drop off).take n) 0 = some v := e
    rw [h5 rfl, lget_eq] at e
    have e2 : l[off]? = some v := by
      rw [List.getElem?_take, if_pos (by omega), List.getElem?_drop] at e; simpa using e
    obtain ⟨v', e3, e4⟩ := hl.get off v e2
    have e5 : cs[off]? = some v' := by rw [← e3]; simp
    exact ⟨v', e4, fun w => by simp [part, aggB_run h1, h3, e5]⟩
theorem sv_fd {ty : TypeId} {i off k : Nat} {agg : Bool} {x : Operand} {x' : Opd} (ho : o.op = .field ty x i)
    (h1 : fieldIs P ty i off k = true) (hs : (match P.underlying ty with | some (.struct fs) => (match fs[i]? with | some f => tyIs P f.type k agg | none => false) | _ => false) = true) (hx : chkX x x' = true) : SoundV P o (.fd off k agg x') := by
  intro φ N t a cl clv h n v h' n' ht hg e
  obtain ⟨u1, e1, e⟩ := ob_iff.1 e
  obtain ⟨l, rfl, f1⟩ := asA_iff.1 e
  obtain ⟨e3, rfl, rfl⟩ := r1o_iff.1 f1
  obtain ⟨cs, hq, hl, hf⟩ := vr_a (eval_ok hx ht hg e1)
  unfold fieldIs at h1
  split at hs
  · rename_i fs hu
    rw [hu] at h1
    split at hs
    · rename_i f hf1
      simp only [hf1, Bool.and_eq_true, beq_iff_eq] at h1
      obtain ⟨v', r1, r2⟩ := part_ok hs hl hf off e3
      refine ⟨rfl, rfl, v', r1, fun w => ?_⟩
      simp [execOp, ho, Instr.field, run_underlying hu, hq, hf1, asAgg, h1.1, r2]
    · cases hs
  · cases hs
theorem sv_ixL {ty : TypeId} {z : Nat} {x y : Operand} {x' y' : Opd} (ho : o.op = .indexAddr ty x y) (hs : elemIs P ty z = true) (hx : chkX x x' = true) (hy : chkX y y' = true) : SoundV P o (.ixL z x' y') := by
  obtain ⟨el, i, zv, hty, hi1, rfl, hz1, _, _, _⟩ := elemIs_eq hs
  intro φ N t a cl clv h n v h' n' ht hg e
  obtain ⟨u1, e1, e⟩ := ob_iff.1 e
  obtain ⟨u2, e2, e⟩ := ob_iff.1 e
  obtain ⟨q, m, rfl, f1⟩ := asN_iff.1 e
  have hy' := vr_i (eval_ok hy ht hg e2)
  have hx' := eval_ok hx ht hg e1
  rcases asL_iff.1 f1 with ⟨rfl, f⟩ | ⟨b, off, len, c, xx, rfl, f⟩
  · cases f
  · obtain ⟨g1, f2⟩ := guardB_iff.1 f
    rw [forceN_eq] at f2
    obtain ⟨rfl, rfl, rfl⟩ := r1_iff.1 f2
    have g1 : m + 1 ≤ len := by rw [Nat.ble_eq] at g1; exact g1
    generalize hq : a.eval x = p at hx'
    cases hx' with
    | sl _ _ _ _ c' γ _ hφ hnc hcc hxx hkk =>
    refine ⟨rfl, rfl, _, .p b _ γ hφ, fun w => ?_⟩
    have hc : (0 : Int) ≤ (m : Int) ∧ (m : Int) < (len : Int) := by omega
    simp [execOp, ho, Instr.indexAt, asIntOf, hq, hy', run_underlying hty, hc, run_sizeOf hi1, Addr.add_lit, Int.ofNat_lt.1 hc.2]
theorem sv_ixA {ty e0 : TypeId} {k z : Nat} {x y : Operand} {x' y' : Opd} (ho : o.op = .indexAddr ty x y) (hu : P.underlying ty = some (.array k e0)) (hz : szIs P e0 z = true) (hx : chkX x x' = true) (hy : chkX y y' = true) : SoundV P o (.ixA k z x' y') := by
  obtain ⟨i, hi1, rfl⟩ := szIs_eq hz
  intro φ N t a cl clv h n v h' n' ht hg e
  obtain ⟨u1, e1, e⟩ := ob_iff.1 e
  obtain ⟨u2, e2, e⟩ := ob_iff.1 e
  obtain ⟨q, m, rfl, f1⟩ := asN_iff.1 e
  have hy' := vr_i (eval_ok hy ht hg e2)
  obtain ⟨b, off, rfl, f⟩ := asP_iff.1 f1
  obtain ⟨g1, f2⟩ := guardB_iff.1 f
  rw [forceN_eq] at f2
  obtain ⟨rfl, rfl, rfl⟩ := r1_iff.1 f2
  have g1 : m + 1 ≤ k := by rw [Nat.ble_eq] at g1; exact g1
  obtain ⟨γ, hq, hφ⟩ := vr_p (eval_ok hx ht hg e1)
  refine ⟨rfl, rfl, _, .p b _ γ hφ, fun w => ?_⟩
  have hc : (0 : Int) ≤ (m : Int) ∧ (m : Int) < (k : Int) := by omega
  simp [execOp, ho, Instr.indexAt, asIntOf, hq, hy', run_underlying hu, hc, run_sizeOf hi1, Addr.add_lit, Instr.sureAddr, Int.ofNat_lt.1 hc.2]
theorem sv_ixS {ty : TypeId} {x y : Operand} {x' y' : Opd} (ho : o.op = .index ty x y) (hs : isStr P ty = true) (hx : chkX x x' = true) (hy : chkX y y' = true) : SoundV P o (.ixS x' y') := by
  intro φ N t a cl clv h n v h' n' ht hg e
  obtain ⟨u1, e1, e⟩ := ob_iff.1 e
  obtain ⟨u2, e2, e⟩ := ob_iff.1 e
  obtain ⟨q, m, rfl, f1⟩ := asN_iff.1 e
  have hy' := vr_i (eval_ok hy ht hg e2)
  obtain ⟨l, rfl, f⟩ := asS_iff.1 f1
  obtain ⟨c, g1, f2⟩ := ob_iff.1 f
  obtain ⟨rfl, rfl, rfl⟩ := r1_iff.1 f2
  obtain ⟨s, hq, rfl⟩ := vr_s (eval_ok hx ht hg e1)
  rw [lget_eq] at g1
  have hm : m < s.size := by
    rw [← bytesN_length]; exact (List.getElem?_eq_some_iff.1 g1).1
  have hc : (s[m]'hm).toNat = c := by
    have : (bytesN s)[m]? = some (s[m]'hm).toNat := by
      unfold bytesN
      rw [List.getElem?_map, Array.getElem?_toList]
      have : s.data[m]? = some (s[m]'hm) := Array.getElem?_eq_getElem hm
      rw [this]; rfl
    rw [this] at g1; exact Option.some.inj g1
  refine ⟨rfl, rfl, _, .i _ _, fun w => ?_⟩
  have := run_index_string (P := P) w ty s q (m : Int) (isStr_eq hs)
  rw [dif_pos ⟨by omega, by omega⟩] at this
  simp only [execOp, ho, hq, hy', Sem.run_bind, this, Result.andThen_ok, Sem.run_pure]
  simp only [Int.toNat_natCast, hc]; rfl
theorem sv_ixV {ty e0 : TypeId} {k z : Nat} {agg : Bool} {x y : Operand} {x' y' : Opd} (ho : o.op = .index ty x y) (hu : P.underlying ty = some (.array k e0)) (hz : tyIs P e0 z agg = true) (hx : chkX x x' = true) (hy : chkX y y' = true) : SoundV P o (.ixV k z agg x' y') := by
  obtain ⟨_, i, _, hi1, _, hi2, _⟩ := tyIs_eq hz
  intro φ N t a cl clv h n v h' n' ht hg e
  obtain ⟨u1, e1, e⟩ := ob_iff.1 e
  obtain ⟨u2, e2, e⟩ := ob_iff.1 e
  obtain ⟨q, m, rfl, f1⟩ := asN_iff.1 e
  have hy' := vr_i (eval_ok hy ht hg e2)
  obtain ⟨l, rfl, f⟩ := asA_iff.1 f1
  obtain ⟨g1, f2⟩ := guardB_iff.1 f
  have g1 : m + 1 ≤ k := by rw [Nat.ble_eq] at g1; exact g1
  obtain ⟨e3, rfl, rfl⟩ := r1o_iff.1 f2
  obtain ⟨cs, hq, hl, hf⟩ := vr_a (eval_ok hx ht hg e1)
  obtain ⟨v', r1, r2⟩ := part_ok hz hl hf (m * z) e3
  refine ⟨rfl, rfl, v', r1, fun w => ?_⟩
  have hc : (0 : Int) ≤ (m : Int) ∧ (m : Int) < (k : Int) := by omega
  subst hi2
  simp [execOp, ho, Instr.index, asIntOf, hq, hy', run_underlying hu, hc, run_sizeOf hi1, r2, Int.ofNat_lt.1 hc.2]
theorem sv_nilck {x : Operand} {x' : Opd} (ho : o.op = .nilCheck x) (hx : chkX x x' = true) : SoundV P o (.nilck x') := by
  intro φ N t a cl clv h n v h' n' ht hg e
  obtain ⟨u1, e1, e⟩ := ob_iff.1 e
  have hx' := eval_ok hx ht hg e1
  generalize hq : a.eval x = p at hx'
  cases hx' <;> first | (cases e; done) | (obtain ⟨rfl, rfl, rfl⟩ := r1_iff.1 e) | skip
  all_goals refine ⟨rfl, rfl, _, by constructor <;> assumption, fun w => ?_⟩
  all_goals simp [execOp, ho, hq]
end Go.Ev
end
section
namespace Go.Ev
open Go.RowKit
open Tr (path)
variable {P : Program} {β : Type} {o : Oper}

theorem vc_ok {φ : Phi} {v : AV} {v' : Value} (h : VR φ v v') (hl : 1 ≤ (vc v).length) : VRs φ (vc v) v'.cells.toList ∧ (vc v).all one = true := by
  cases h
  case a cs cs' hv hf => exact ⟨hv, hf⟩
  case t => cases hl
  all_goals refine ⟨?_, rfl⟩
  all_goals refine .cons _ _ _ _ ?_ .nil
  all_goals constructor <;> assumption
theorem lput_length {α : Type} (cs : List α) (i : Nat) (vs : List α) (h : i + vs.length ≤ cs.length) : (lput cs i vs).length = cs.length := by
  rw [lput_eq]; simp; omega
theorem lput_get {α : Type} (cs : List α) (i : Nat) (vs : List α) (h : i + vs.length ≤ cs.length) (j : Nat) : (lput cs i vs)[j]? = if i ≤ j ∧ j < i + vs.length then vs[j - i]? else cs[j]? := by
  rw [lput_eq]
  by_cases h1 : j < i
  · rw [if_neg (by omega), List.getElem?_append_left (by simp; omega), List.getElem?_take, if_pos h1]
  · rw [List.getElem?_append_right (by simp; omega)]
    have hl : (cs.take i).length = i := by simp; omega
    rw [hl]
    by_cases h2 : j < i + vs.length
    · rw [if_pos ⟨by omega, h2⟩, List.getElem?_append_left (by omega)]
    · rw [if_neg (by omega), List.getElem?_append_right (by omega), List.getElem?_drop]
      congr 1; omega
theorem lput_one {cs vs : List AV} (i : Nat) (h1 : cs.all one = true) (h2 : vs.all one = true) : (lput cs i vs).all one = true := by
  rw [lput_eq, List.all_append, List.all_append, allOne_take h1, h2, allOne_drop h1]; rfl
/-- cells turned within -/
theorem VRs.put {φ : Phi} {cs : List AV} {cs' cs'' : List Value} {vs : List AV} {vs' : List Value} (h : VRs φ cs cs') (k : VRs φ vs vs') (i : Nat) (hi : i + vs.length ≤ cs.length) (hl : cs''.length = cs'.length)
    (hg : ∀ j, cs''[j]? = if i ≤ j ∧ j < i + vs'.length then vs'[j - i]? else cs'[j]?) : VRs φ (lput cs i vs) cs'' := by
  refine VRs.mk (by rw [lput_length _ _ _ hi, hl, h.length]) fun j v v' e e' => ?_
  rw [lput_get _ _ _ hi] at e
  rw [hg] at e'
  rw [← k.length] at e'
  by_cases c : i ≤ j ∧ j < i + vs.length
  · rw [if_pos c] at e e'
    obtain ⟨u, a, b⟩ := k.get _ _ e
    rw [a] at e'; cases e'; exact b
  · rw [if_neg c] at e e'
    obtain ⟨u, a, b⟩ := h.get _ _ e
    rw [a] at e'; cases e'; exact b
theorem putP_cons (t : Tr AV) (off k : Nat) (x : Opd) (ps : List (Nat × Nat × Opd)) (z : List AV) : putP t ((off, k, x) :: ps) z = ob (ev t x) fun v => guardB (Nat.beq (llen (vc v)) k) (guardB (Nat.ble (Nat.add off k) (llen z)) (putP t ps (lput z off (vc v)))) := rfl
theorem fill_ok {φ : Phi} {N : Nat} {t : Tr AV} {a : Act} (ht : TM φ N t a.tmps) (hg : GL φ) {ty : TypeId} (place : Nat → Option (Nat × Nat))
    (hp : ∀ i off k, (match P.underlying ty with | some (.struct _) => fieldIs P ty i off k | some (.array _ e) => szIs P e k && i * k == off | _ => false) = true → place i = some (off, k)) :
    ∀ (ps : List (Nat × Operand)) (qs : List (Nat × Nat × Opd)) (z z' : List AV) (cs : Array Value), partsIs P ty ps qs = true → VRs φ z cs.toList → z.all one = true → putP t qs z = some z' →
    ∃ cs', Instr.fill place cs (ps.map fun q => (q.1, a.eval q.2)) = some cs' ∧ VRs φ z' cs'.toList ∧ z'.all one = true := by
  intro ps
  induction ps with
  | nil =>
    intro qs z z' cs h1 h2 h3 h4
    cases qs with
    | nil => cases h4; exact ⟨cs, rfl, h2, h3⟩
    | cons q qs => cases h1
  | cons p ps ih =>
    intro qs z z' cs h1 h2 h3 h4
    cases qs with
    | nil => obtain ⟨i, x⟩ := p; cases h1
    | cons q qs =>
      obtain ⟨i, x⟩ := p
      obtain ⟨off, k, y⟩ := q
      unfold partsIs at h1
      simp only [Bool.and_eq_true, decide_eq_true_eq] at h1
      obtain ⟨⟨⟨g1, g2⟩, g3⟩, g4⟩ := h1
      rw [putP_cons] at h4
      obtain ⟨v, e1, e2⟩ := ob_iff.1 h4
      obtain ⟨e3, e4⟩ := guardB_iff.1 e2
      obtain ⟨e5, e6⟩ := guardB_iff.1 e4
      rw [Nat.beq_eq, llen_eq] at e3
      have e5 : off + k ≤ z.length := by rw [Nat.ble_eq, llen_eq] at e5; exact e5
      have hv := eval_ok (a := a) g3 ht hg e1
      obtain ⟨c1, c2⟩ := vc_ok hv (by omega)
      have hsz : (a.eval x).cells.size = k := by rw [← e3, c1.length]; simp
      obtain ⟨f1, f2⟩ := Great.foldl_set off (a.eval x).cells.toList 0 cs
      have hcl : z.length = cs.size := by rw [h2.length]; simp
      obtain ⟨cs', r1, r2, r3⟩ := ih qs (lput z off (vc v)) z' (((a.eval x).cells.toList.zipIdx 0).foldl (fun cs (x : Value × Nat) => cs.setIfInBounds (off + x.2) x.1) cs) g4
        (h2.put c1 off (by omega) (by rw [Array.length_toList, f1, Array.length_toList]) (fun j => by
          rw [Array.getElem?_toList, f2, Array.getElem?_toList]
          have : (a.eval x).cells.toList.length = k := by simp [hsz]
          rw [this]
          by_cases c : off ≤ j ∧ j < off + k
          · rw [if_pos (by omega), if_pos c]; simp
          · rw [if_neg (by omega), if_neg c]; simp)) (lput_one off h3 c2) e6
      refine ⟨cs', ?_, r2, r3⟩
      rw [List.map_cons]
      unfold Instr.fill
      rw [hp i off k g1]
      simp only [hsz]
      rw [if_neg (by simp; omega)]
      rw [← Array.foldl_toList, Array.toList_zipIdx]
      exact r1
theorem mapM_get {γ δ : Type} (f : γ → Option δ) : ∀ (l : List γ) (r : List δ), l.mapM f = some r → ∀ (i : Nat) (x : γ) (y : δ), l[i]? = some x → f x = some y → r[i]? = some y := by
  intro l
  induction l with
  | nil => intro r _ i x y e; simp at e
  | cons a l ih =>
    intro r h i x y e1 e2
    rw [List.mapM_cons] at h
    simp only [Option.bind_eq_bind, Option.pure_def, Option.bind_eq_some_iff] at h
    obtain ⟨b, hb, bs, hbs, he⟩ := h
    cases he
    cases i with
    | zero => simp at e1; subst e1; rw [hb] at e2; simpa using e2
    | succ i => simp at e1; simpa using ih bs hbs i x y e1 e2
theorem sv_build {ty : TypeId} {ps : Array (Nat × Operand)} {z : List AV} {qs : List (Nat × Nat × Opd)} (ho : o.op = .build ty ps)
    (hz : (match (P.info? ty).bind (·.zero) with | some v => chkVs z v.cells.toList && z.all one | none => false) = true) (hb : builtOk P ty = true) (hp : partsIs P ty ps.toList qs = true) : SoundV P o (.build z qs) := by
  intro φ N t a cl clv h n v h' n' ht hg e
  obtain ⟨cs, e1, e2⟩ := ob_iff.1 e
  obtain ⟨rfl, rfl, rfl⟩ := r1_iff.1 e2
  split at hz
  · rename_i zv hzv
    obtain ⟨i, hi, hzi⟩ := Option.bind_eq_some_iff.1 hzv
    rw [Bool.and_eq_true] at hz
    have hz1 := chkVs_ok φ hz.1
    have key : ∃ cs', P.built ty ((ps.map fun (i, x) => (i, a.eval x)).toList) = some cs' ∧ VRs φ cs cs'.toList ∧ cs.all one = true := by
      have hmap : (ps.map fun (i, x) => (i, a.eval x)).toList = ps.toList.map fun q => (q.1, a.eval q.2) := by rw [Array.toList_map]
      rw [hmap]
      unfold builtOk at hb
      split at hb
      · rename_i fs hu
        obtain ⟨pl, hpl⟩ := Option.isSome_iff_exists.1 hb
        obtain ⟨cs', r1, r2, r3⟩ := fill_ok (P := P) ht hg (ty := ty) (pl.toArray[·]?) (fun i off k hf => by
          rw [hu] at hf
          simp only [] at hf
          unfold fieldIs at hf
          rw [hu] at hf
          simp only [] at hf
          split at hf
          · rename_i f hfi
            rw [Bool.and_eq_true, beq_iff_eq] at hf
            obtain ⟨j, hj1, hj2⟩ := szIs_eq hf.2
            have := mapM_get _ _ _ hpl i f (off, k) (by rw [← hfi]; simp) (by rw [hj1, ← hf.1, ← hj2]; rfl)
            simpa using this
          · cases hf) ps.toList qs z cs zv.cells hp hz1 hz.2 e1
        refine ⟨cs', ?_, r2, r3⟩
        unfold Program.built
        rw [hi, hu]
        simp only [hzi, hpl]
        exact r1
      · rename_i m el hu
        obtain ⟨ie, hie⟩ := Option.isSome_iff_exists.1 hb
        obtain ⟨cs', r1, r2, r3⟩ := fill_ok (P := P) ht hg (ty := ty) (fun i => some (i * ie.size, ie.size)) (fun i off k hf => by
          rw [hu] at hf
          simp only [Bool.and_eq_true, beq_iff_eq] at hf
          obtain ⟨j, hj1, hj2⟩ := szIs_eq hf.1
          rw [hie] at hj1; cases hj1
          rw [hj2, hf.2]) ps.toList qs z cs zv.cells hp hz1 hz.2 e1
        refine ⟨cs', ?_, r2, r3⟩
        unfold Program.built
        rw [hi, hu]
        simp only [hzi, hie]
        exact r1
      · cases hb
    obtain ⟨cs', r1, r2, r3⟩ := key
    exact ⟨rfl, rfl, .agg cs', .a _ _ r2 r3, fun w => by simp [execOp, ho, run_build w ty _ cs' r1]⟩
  · cases hz

/-! ### the least, the greatest -/
noncomputable def mm (mx : Bool) (vs : List AV) : AV → Option AV := @List.rec AV (fun _ => AV → Option AV) (fun v => some v) (fun u _ ih v => asI v fun k a => asI u fun k' b => guardB (Nat.beq (kix k) (kix k')) (ih (@Bool.rec (fun _ => AV) (@Bool.rec (fun _ => AV) v u (ilt b a)) (@Bool.rec (fun _ => AV) v u (ilt a b)) mx))) vs
def m2 (mx : Bool) : Value → Value → Sem Value := if mx then Builtin.max2 else Builtin.min2
theorem mm_ok {φ : Phi} (mx : Bool) : ∀ (vs : List AV) (vs' : List Value) (v : AV) (v' : Value) (r : AV), VR φ v v' → VRs φ vs vs' → mm mx vs v = some r → ∃ r', VR φ r r' ∧ ∀ w, (vs'.foldlM (m2 mx) v').run P w = .ok r' w := by
  intro vs
  induction vs with
  | nil => intro vs' v v' r h1 h2 e; cases h2; cases e; exact ⟨v', h1, fun w => rfl⟩
  | cons u vs ih =>
    intro vs' v v' r h1 h2 e
    cases h2 with
    | cons _ u' _ us' hu hus =>
    obtain ⟨k, x, rfl, e1⟩ := asI_iff.1 e
    obtain ⟨k', y, rfl, e2⟩ := asI_iff.1 e1
    obtain ⟨e3, e4⟩ := guardB_iff.1 e2
    have := kix_inj e3; subst this
    have h1 := vr_i h1; subst h1
    have hu := vr_i hu; subst hu
    rw [ilt_eq, ilt_eq] at e4
    cases mx with
    | true =>
      have hst : VR φ (@Bool.rec (fun _ => AV) (.i k x) (.i k y) (decide (x < y))) (.int k (if y > x then y else x)) := by
        by_cases c : x < y
        · rw [if_pos c]; simp only [c, decide_true]; exact .i _ _
        · rw [if_neg c]; simp only [c, decide_false]; exact .i _ _
      obtain ⟨r', a, b⟩ := ih us' _ _ r hst hus e4
      exact ⟨r', a, fun w => by simp only [List.foldlM_cons, Sem.run_bind]; exact b w⟩
    | false =>
      have hst : VR φ (@Bool.rec (fun _ => AV) (.i k x) (.i k y) (decide (y < x))) (.int k (if y < x then y else x)) := by
        by_cases c : y < x
        · rw [if_pos c]; simp only [c, decide_true]; exact .i _ _
        · rw [if_neg c]; simp only [c, decide_false]; exact .i _ _
      obtain ⟨r', a, b⟩ := ih us' _ _ r hst hus e4
      exact ⟨r', a, fun w => by simp only [List.foldlM_cons, Sem.run_bind]; exact b w⟩
theorem sv_mnmx {mx : Bool} {args : Array Operand} {ats : Array TypeId} {as : List Opd} (ho : o.op = .call { callee := .builtin (if mx then .max else .min), args := args, argTypes := ats }) (hx : chkXs args.toList as = true) : SoundV P o (.mnmx mx as) := by
  intro φ N t a cl clv h n v h' n' ht hg e
  obtain ⟨vs, e1, e2⟩ := ob_iff.1 e
  cases vs with
  | nil => cases e2
  | cons u vs =>
    have e2 : r1o (mm mx vs u) h n = some ⟨v, h', n'⟩ := e2
    obtain ⟨e3, rfl, rfl⟩ := r1o_iff.1 e2
    have hv := evals_ok (a := a) hx ht hg e1
    generalize hm : args.toList.map a.eval = ms at hv
    cases hv with
    | cons _ u' _ us' h1 h2 =>
    obtain ⟨r', a1, b1⟩ := mm_ok (P := P) mx vs us' u u' v h1 h2 e3
    have hl : (args.map a.eval).toList = u' :: us' := by rw [Array.toList_map, hm]
    refine ⟨rfl, rfl, r', a1, fun w => ?_⟩
    have := b1 w
    cases mx with
    | true => simp only [execOp, ho, resolve, invoke, builtin, Sem.run_bind, Sem.run_pure, Result.andThen_ok, if_true, Builtin.max_, hl]; simp only [m2, if_true] at this; rw [this]; rfl
    | false => simp only [execOp, ho, resolve, invoke, builtin, Sem.run_bind, Sem.run_pure, Result.andThen_ok, if_false, Bool.false_eq_true, Builtin.min_, hl]; simp only [m2, Bool.false_eq_true, if_false] at this; rw [this]; rfl
end Go.Ev
end
section
namespace Go.Ev
open Go.RowKit
open Tr (path)
variable {P : Program} {β : Type} {o : Oper} {cr : Nat → AC → Code → Prop}

/-! ### laws -/
/-- these stand at cells o, o + 1, .. -/
structure RG (φ : Phi) (vs : List AV) (cs : Array Value) (o : Nat) : Prop where
  all : vs.all one = true
  get : ∀ j v, vs[j]? = some v → ∃ v', cs[o + j]? = some v' ∧ VR φ v v'
theorem RG.nil {φ : Phi} {cs : Array Value} {o : Nat} : RG φ [] cs o := ⟨rfl, fun j v e => by simp at e⟩
theorem RG.append {φ : Phi} {a b : List AV} {cs : Array Value} {o : Nat} (h : RG φ a cs o) (k : RG φ b cs (o + a.length)) : RG φ (a ++ b) cs o := by
  refine ⟨by rw [List.all_append, h.all, k.all]; rfl, fun j v e => ?_⟩
  by_cases c : j < a.length
  · rw [List.getElem?_append_left c] at e; exact h.get j v e
  · rw [List.getElem?_append_right (by omega)] at e
    obtain ⟨v', h1, h2⟩ := k.get _ v e
    exact ⟨v', by rw [← h1]; congr 1; omega, h2⟩
theorem RG.vrs {φ : Phi} {vs : List AV} {cs : Array Value} {o : Nat} (h : RG φ vs cs o) : VRs φ vs (cs.extract o (o + vs.length)).toList ∧ o + vs.length ≤ cs.size ∨ vs = [] := by
  cases hv : vs with
  | nil => exact .inr rfl
  | cons a l =>
    left
    rw [← hv]
    have hne : vs.length ≠ 0 := by rw [hv]; simp
    have hsz : o + vs.length ≤ cs.size := by
      obtain ⟨v', h1, _⟩ := h.get (vs.length - 1) (vs[vs.length - 1]'(by omega)) (List.getElem?_eq_getElem (by omega))
      have := (Array.getElem?_eq_some_iff.1 h1).1
      omega
    refine ⟨VRs.mk (by simp; omega) fun j v v' e e' => ?_, hsz⟩
    obtain ⟨u, h1, h2⟩ := h.get j v e
    have hj : j < vs.length := (List.getElem?_eq_some_iff.1 e).1
    have : (cs.extract o (o + vs.length)).toList[j]? = cs[o + j]? := by
      rw [Array.getElem?_toList, Array.getElem?_extract, if_pos (by omega)]
    rw [this, h1] at e'; cases e'; exact h2
theorem loadE_ok {φ : Phi} {z : Nat} {c : Tr (List AV)} {cs : Array Value} (h : CR φ z c cs) : ∀ (k e : Nat) (vs : List AV), loadE c k e = some vs → vs.length = k * z ∧ RG φ vs cs (e * z) := by
  intro k
  induction k with
  | zero => intro e vs q; cases q; exact ⟨by simp, .nil⟩
  | succ k ih =>
    intro e vs q
    have q : ob (c.get e) (fun vs => ob (forceN e fun e => loadE c k (Nat.succ e)) fun us => some (lapp vs us)) = some vs := q
    obtain ⟨us, q1, q2⟩ := ob_iff.1 q
    rw [forceN_eq] at q2
    obtain ⟨ws, q3, q4⟩ := ob_iff.1 q2
    cases q4
    rw [lapp_eq]
    obtain ⟨a1, a2, a3⟩ := h e us q1
    obtain ⟨b1, b2⟩ := ih (e + 1) ws q3
    refine ⟨by rw [List.length_append, a1, b1, Nat.add_mul]; omega, RG.append ⟨a2, a3⟩ ?_⟩
    rw [a1]
    have : (e + 1) * z = e * z + z := by rw [Nat.add_mul]; omega
    rw [← this]; exact b2
theorem loadC_ok {φ : Phi} {z : Nat} {c : Tr (List AV)} {cs : Array Value} (h : CR φ z c cs) {o k : Nat} {vs : List AV} (e : loadC z c o k = some vs) : vs.length = k ∧ RG φ vs cs o := by
  unfold loadC at e
  rw [rec_ble] at e
  have hdm : z * (o / z) + o % z = o := Nat.div_add_mod o z
  split at e
  · rename_i hle
    have hle : o % z + k ≤ z := hle
    obtain ⟨us, q1, q2⟩ := ob_iff.1 e
    cases q2
    obtain ⟨a1, a2, a3⟩ := h _ us q1
    have e1 : o / z * z + o % z = o := by rw [Nat.mul_comm]; exact hdm
    rw [ltake_eq, ldrop_eq]
    refine ⟨?_, allOne_take (allOne_drop a2 _) _, fun j v hv => ?_⟩
    · have : (us.drop (o % z)).length = z - o % z := by rw [List.length_drop, a1]
      rw [List.length_take]; show min k (us.drop (o % z)).length = k; omega
    · have hv : (List.take k (List.drop (o % z) us))[j]? = some v := hv
      rw [List.getElem?_take] at hv
      split at hv
      · rw [List.getElem?_drop] at hv
        obtain ⟨v', h1, h2⟩ := a3 _ v hv
        exact ⟨v', by rw [← h1]; congr 1; rw [← Nat.add_assoc]; show o + j = o / z * z + o % z + j; omega, h2⟩
      · cases hv
  · obtain ⟨g1, e1⟩ := guardB_iff.1 e
    obtain ⟨g2, e2⟩ := guardB_iff.1 e1
    have g1 : o % z = 0 := by rw [Nat.beq_eq] at g1; exact g1
    have g2 : k % z = 0 := by rw [Nat.beq_eq] at g2; exact g2
    obtain ⟨a1, a2⟩ := loadE_ok h _ _ _ e2
    have e3 : o / z * z = o := by rw [Nat.mul_comm]; omega
    have e4 : k / z * z = k := by have := Nat.div_add_mod k z; rw [Nat.mul_comm]; omega
    exact ⟨by rw [a1]; exact e4, by rw [← e3]; exact a2⟩
theorem storeE_get (z : Nat) : ∀ (k : Nat) (vs : List AV) (c : Tr (List AV)) (e i : Nat), (storeE z k vs c e).get i = if e ≤ i ∧ i < e + k then some ((vs.drop ((i - e) * z)).take z) else c.get i := by
  intro k
  induction k with
  | zero => intro vs c e i; rw [if_neg (by omega)]; rfl
  | succ k ih =>
    intro vs c e i
    show (forceN e fun e => storeE z k (ldrop z vs) (c.set (Nat.succ e) (some (ltake z vs)) e) (Nat.succ e)).get i = _
    rw [forceN_eq, ih, ldrop_eq, ltake_eq]
    by_cases h1 : e + 1 ≤ i ∧ i < e + 1 + k
    · rw [if_pos h1, if_pos (by omega), List.drop_drop]
      have : (i - e) * z = z + (i - (e + 1)) * z := by
        have : i - e = (i - (e + 1)) + 1 := by omega
        rw [this, Nat.add_mul]; omega
      rw [this]
    · rw [if_neg h1]
      show (c.set (e + 1) (some (vs.take z)) e).get i = _
      rw [Tr.get_set]
      by_cases h2 : e = i
      · subst h2; rw [if_pos rfl, if_pos (by omega)]; simp
      · rw [if_neg h2, if_neg (by omega)]
/-- cells turned: from o on these, the others as before -/
def Turned (cs cs' : Array Value) (o : Nat) (vs : List Value) : Prop := ∀ j, cs'[j]? = if o ≤ j ∧ j < o + vs.length then vs[j - o]? else cs[j]?
theorem storeE_ok {φ : Phi} {z : Nat} {c : Tr (List AV)} {cs cs' : Array Value} (h : CR φ z c cs) {vs : List AV} {vs' : List Value} (hv : VRs φ vs vs') (h1 : vs.all one = true) (k e : Nat) (hl : vs.length = k * z) (ht : Turned cs cs' (e * z) vs') : CR φ z (storeE z k vs c e) cs' := by
  have hl' : vs'.length = k * z := by rw [← hv.length]; exact hl
  intro i us hu
  rw [storeE_get] at hu
  by_cases c1 : e ≤ i ∧ i < e + k
  · rw [if_pos c1] at hu; cases hu
    have hm : (i - e) * z + z ≤ k * z := by
      have : (i - e + 1) * z ≤ k * z := Nat.mul_le_mul_right z (by omega)
      rw [Nat.add_mul] at this; omega
    have hi : i * z = e * z + (i - e) * z := by rw [← Nat.add_mul]; congr 1; omega
    refine ⟨by rw [List.length_take, List.length_drop]; omega, allOne_take (allOne_drop h1 _) _, fun j v hj => ?_⟩
    rw [List.getElem?_take] at hj
    split at hj
    · rename_i hjz
      rw [List.getElem?_drop] at hj
      obtain ⟨v', a, b⟩ := hv.get _ v hj
      refine ⟨v', ?_, b⟩
      rw [ht, if_pos (by omega), ← a]; congr 1; omega
    · cases hj
  · rw [if_neg c1] at hu
    obtain ⟨a1, a2, a3⟩ := h i us hu
    refine ⟨a1, a2, fun j v hj => ?_⟩
    obtain ⟨v', b1, b2⟩ := a3 j v hj
    refine ⟨v', ?_, b2⟩
    have hjz : j < z := by rw [← a1]; exact (List.getElem?_eq_some_iff.1 hj).1
    rw [ht, if_neg, b1]
    rw [hl']
    rintro ⟨q1, q2⟩
    rw [← Nat.add_mul] at q2
    by_cases c2 : i < e
    · have : (i + 1) * z ≤ e * z := Nat.mul_le_mul_right z (by omega)
      rw [Nat.add_mul] at this; omega
    · have : (e + k) * z ≤ i * z := Nat.mul_le_mul_right z (by omega)
      omega
theorem storeC_ok {z : Nat} {c : Tr (List AV)} {o : Nat} {vs : List AV} {k : Nat} {f : Tr (List AV) → Option β} {r : β} (e : storeC z c o vs k f = some r) :
    ∃ c', f c' = some r ∧ (∀ {φ : Phi} {cs cs' : Array Value} {vs' : List Value}, CR φ z c cs → vs.length = k → VRs φ vs vs' → vs.all one = true → Turned cs cs' o vs' → CR φ z c' cs') ∧ ∀ M, o + k ≤ M * z → (∀ e, M ≤ e → c.get e = none) → ∀ e, M ≤ e → c'.get e = none := by
  unfold storeC at e
  rw [rec_ble] at e
  have hdm : z * (o / z) + o % z = o := Nat.div_add_mod o z
  split at e
  · rename_i hle
    have hle : o % z + k ≤ z := hle
    obtain ⟨us, q1, q2⟩ := ob_iff.1 e
    rw [forceL_eq, forceT_eq] at q2
    refine ⟨_, q2, fun {φ cs cs' vs'} h hl hv h1 ht => ?_, fun M hM hn e he => ?_⟩
    case refine_2 =>
      have hget : (c.set (Nat.succ (o / z)) (some (lput us (o % z) vs)) (o / z)).get e = if o / z = e then some (lput us (o % z) vs) else c.get e := Tr.get_set _ _ _ _
      refine hget.trans ?_
      by_cases hc : o / z = e
      · have hz : c.get (o / z) = some us := q1
        rw [hc, hn e he] at hz; cases hz
      · rw [if_neg hc]; exact hn e he
    have e1 : o / z * z + o % z = o := by rw [Nat.mul_comm]; exact hdm
    obtain ⟨a1, a2, a3⟩ := h _ us q1
    intro i ws hw
    have hw : (c.set (o / z + 1) (some (lput us (o % z) vs)) (o / z)).get i = some ws := hw
    rw [Tr.get_set] at hw
    by_cases c1 : o / z = i
    · rw [if_pos c1] at hw; cases hw
      subst c1
      refine ⟨by rw [lput_length _ _ _ (by omega)]; exact a1, lput_one _ a2 h1, fun j v hj => ?_⟩
      rw [lput_get _ _ _ (by omega)] at hj
      rw [ht, ← hv.length]
      by_cases c2 : o % z ≤ j ∧ j < o % z + vs.length
      · rw [if_pos c2] at hj
        obtain ⟨v', b1, b2⟩ := hv.get _ v hj
        refine ⟨v', ?_, b2⟩
        rw [if_pos (by omega), ← b1]; congr 1; omega
      · rw [if_neg c2] at hj
        obtain ⟨v', b1, b2⟩ := a3 j v hj
        refine ⟨v', ?_, b2⟩
        rw [if_neg (by omega)]; exact b1
    · rw [if_neg c1] at hw
      obtain ⟨b1, b2, b3⟩ := h i ws hw
      refine ⟨b1, b2, fun j v hj => ?_⟩
      obtain ⟨v', d1, d2⟩ := b3 j v hj
      refine ⟨v', ?_, d2⟩
      have hjz : j < z := by rw [← b1]; exact (List.getElem?_eq_some_iff.1 hj).1
      rw [ht, if_neg, d1]
      rw [← hv.length]
      rintro ⟨p1, p2⟩
      by_cases c2 : i < o / z
      · have : (i + 1) * z ≤ o / z * z := Nat.mul_le_mul_right z (by omega)
        rw [Nat.add_mul] at this; omega
      · have : (o / z + 1) * z ≤ i * z := Nat.mul_le_mul_right z (by omega)
        rw [Nat.add_mul] at this; omega
  · obtain ⟨g1, e1⟩ := guardB_iff.1 e
    obtain ⟨g2, e2⟩ := guardB_iff.1 e1
    rw [forceT_eq] at e2
    have g1 : o % z = 0 := by rw [Nat.beq_eq] at g1; exact g1
    have g2 : k % z = 0 := by rw [Nat.beq_eq] at g2; exact g2
    have e3 : o / z * z = o := by rw [Nat.mul_comm]; omega
    have e4 : k / z * z = k := by have := Nat.div_add_mod k z; rw [Nat.mul_comm]; omega
    refine ⟨_, e2, fun {φ cs cs' vs'} h hl hv h1 ht => storeE_ok h hv h1 (k / z) (o / z) (by rw [e4]; exact hl) (by rw [e3]; exact ht), fun M hM hn e he => ?_⟩
    have hg : (storeE z (k / z) vs c (o / z)).get e = c.get e := by
      rw [storeE_get, if_neg]
      rintro ⟨q1, q2⟩
      have h5 : (o / z + k / z) * z ≤ M * z := by rw [Nat.add_mul, e3, e4]; exact hM
      have h6 : (e + 1) * z ≤ (o / z + k / z) * z := Nat.mul_le_mul_right z (by omega)
      have h7 : M * z ≤ e * z := Nat.mul_le_mul_right z he
      rw [Nat.add_mul] at h6
      have hz0 : z = 0 := by omega
      rw [hz0, Nat.div_zero, Nat.div_zero] at q2
      omega
    exact hg.trans (hn e he)
end Go.Ev
end
section
namespace Go.Ev
open Go.RowKit
open Tr (path)
variable {P : Program} {β : Type} {o : Oper} {cr : Nat → AC → Code → Prop}

/-- an operation that reads memory comes to a value; memory stands -/
def SoundR (P : Program) (cr : Nat → AC → Code → Prop) (o : Oper) (x : AOp) : Prop :=
  ∀ {φ : Phi} {N : Nat} {t : Tr AV} {a : Act} {cl : Cl} {clv : Clv} {h : Tr AO} {n : List Bool} {v : AV} {h' : Tr AO} {n' : List Bool} {w : World},
    TM φ N t a.tmps → GL φ → WR cr φ h.getP w → exec cl clv t h n x = some ⟨v, h', n'⟩ → h = h' ∧ n = n' ∧ ∃ v', VR φ v v' ∧ (execOp a.eval o).run P w = .ok (.value v') w
theorem SoundV.r {x : AOp} (s : SoundV P o x) : SoundR P cr o x := by
  intro φ N t a cl clv h n v h' n' w ht hg _ e
  obtain ⟨h1, h2, v', h3, h4⟩ := s ht hg e
  exact ⟨h1, h2, v', h3, h4 w⟩

theorem row_iff {h : Tr AO} {b : List Bool} {k : Nat → Nat → Bool → Tr (List AV) → Option β} {r : β} : row h b k = some r ↔ ∃ z m w c, h.getP b = some (.row z m w c) ∧ k z m w c = some r := by
  unfold row; rw [ob_iff]; constructor
  · rintro ⟨x, h1, h2⟩
    cases x <;> first | (cases h2; done) | exact ⟨_, _, _, _, h1, h2⟩
  · rintro ⟨z, m, w, c, h1, h2⟩; exact ⟨_, h1, h2⟩
theorem cellsOf_iff {h : Tr AO} {b : List Bool} {off k : Nat} {f : List AV → Option β} {r : β} (e : cellsOf h b off k f = some r) : ∃ z m w c vs, h.getP b = some (.row z m w c) ∧ off + k ≤ m * z ∧ (vs = [] ∧ k = 0 ∨ loadC z c off k = some vs) ∧ f vs = some r := by
  unfold cellsOf at e
  obtain ⟨z, m, w, c, h1, h2⟩ := row_iff.1 e
  obtain ⟨h3, h4⟩ := guardB_iff.1 h2
  have h3 : off + k ≤ m * z := by rw [Nat.ble_eq] at h3; exact h3
  cases k with
  | zero => exact ⟨z, m, w, c, [], h1, h3, .inl ⟨rfl, rfl⟩, h4⟩
  | succ k =>
    obtain ⟨vs, h5, h6⟩ := ob_iff.1 h4
    exact ⟨z, m, w, c, vs, h1, h3, .inr h5, h6⟩
theorem WR.row {φ : Phi} {h : Hp} {w : World} (r : WR cr φ h w) {b : List Bool} {γ z m : Nat} {wr : Bool} {c : Tr (List AV)} (hb : h b = some (.row z m wr c)) (hφ : φ b = some γ) :
    ∃ cs e fz, w.heap[γ]? = some (.cells cs e fz) ∧ m * z ≤ cs.size ∧ CR φ z c cs ∧ (wr = true → fz.1 = fz.2 ∨ cs.size ≤ fz.1) ∧ φ.cap b * z ≤ cs.size ∧ ∀ e, m ≤ e → c.get e = none := by
  obtain ⟨x, h1, h2⟩ := r.blk b _ γ hb hφ
  cases x <;> first | exact h2.elim | exact ⟨_, _, _, h1, h2⟩
theorem cell_at {w : World} {γ off : Nat} {cs : Array Value} {e : TypeId} {fz : Nat × Nat} (h : w.heap[γ]? = some (.cells cs e fz)) : w.cell? ⟨γ, off, none⟩ = cs[off]? := by simp [World.cell?, h]
theorem frozen_at {w : World} {γ off : Nat} {cs : Array Value} {e : TypeId} {fz : Nat × Nat} (h : w.heap[γ]? = some (.cells cs e fz)) (hf : fz.1 = fz.2 ∨ cs.size ≤ fz.1) (hi : off < cs.size) : w.frozen? ⟨γ, off, none⟩ = false := by
  simp only [World.frozen?, h]
  rw [Bool.eq_false_iff]; simp; omega
/-- what 'cellsOf' reads -/
theorem cells_read {φ : Phi} {h : Tr AO} {w : World} (r : WR cr φ h.getP w) {b : List Bool} {off k γ : Nat} {f : List AV → Option β} {q : β} (e : cellsOf h b off k f = some q) (hφ : φ b = some γ) :
    ∃ vs cs ty fz, f vs = some q ∧ w.heap[γ]? = some (.cells cs ty fz) ∧ vs.length = k ∧ RG φ vs cs off ∧ off + k ≤ cs.size := by
  obtain ⟨z, m, wr, c, vs, h1, h2, h3, h4⟩ := cellsOf_iff e
  obtain ⟨cs, ty, fz, g1, g2, g3, g4, _⟩ := r.row h1 hφ
  rcases h3 with ⟨rfl, rfl⟩ | h3
  · exact ⟨[], cs, ty, fz, h4, g1, rfl, .nil, by omega⟩
  · obtain ⟨a1, a2⟩ := loadC_ok g3 h3
    exact ⟨vs, cs, ty, fz, h4, g1, a1, a2, by omega⟩
theorem RG.list {φ : Phi} {vs : List AV} {cs : Array Value} {off : Nat} (h : RG φ vs cs off) (hs : off + vs.length ≤ cs.size) : VRs φ vs (cs.extract off (off + vs.length)).toList := by
  rcases h.vrs with h1 | h1
  · exact h1.1
  · subst h1
    have : (cs.extract off (off + 0)).toList = [] := by simp
    show VRs φ [] (cs.extract off (off + 0)).toList
    rw [this]; exact .nil
theorem extract_get {cs : Array Value} {off k : Nat} (j : Nat) (v : Value) (h : (cs.extract off (off + k)).toList[j]? = some v) : cs[off + j]? = some v := by
  rw [Array.getElem?_toList, Array.getElem?_extract] at h
  split at h
  · exact h
  · cases h
theorem sr_load {ty : TypeId} {k : Nat} {agg : Bool} {x : Operand} {x' : Opd} (ho : o.op = .load ty x) (hs : tyIs P ty k agg = true) (hx : chkX x x' = true) : SoundR P cr o (.load k agg x') := by
  intro φ N t a cl clv h n v h' n' w ht hg r e
  obtain ⟨u1, e1, e⟩ := ob_iff.1 e
  obtain ⟨b, off, rfl, f1⟩ := asP_iff.1 e
  obtain ⟨γ, hq, hφ⟩ := vr_p (eval_ok hx ht hg e1)
  obtain ⟨vs, cs, et, fz, f2, g1, g2, g3, g4⟩ := cells_read r f1 hφ
  obtain ⟨e3, rfl, rfl⟩ := r1o_iff.1 f2
  obtain ⟨d, i, d1, d2, d3, d4, d5⟩ := tyIs_eq hs
  refine ⟨rfl, rfl, ?_⟩
  cases agg with
  | true =>
    have e3 : some (AV.a vs) = some v := e3
    cases e3
    refine ⟨.agg (cs.extract off (off + k)), .a _ _ (by rw [← g2]; exact g3.list (by omega)) g3.all, ?_⟩
    have hl : (cs.extract off (off + k)).toList.length = k := by simp; omega
    have := run_loadAt_mid (P := P) w γ off ty (cs.extract off (off + k)).toList d (fun j u hu => by rw [cell_at g1]; exact extract_get j u hu) d1 (by cases d <;> first | rfl | (cases d3; done)) (by rw [d2, hl, ← d4]; rfl)
    rw [Array.toArray_toList] at this
    simp only [execOp, ho, hq, Sem.run_bind, this, Result.andThen_ok, Sem.run_pure]
  | false =>
    have hk := d5 rfl
    subst hk
    have e3 : lget vs 0 = some v := e3
    rw [lget_eq] at e3
    obtain ⟨v', q1, q2⟩ := g3.get 0 v e3
    refine ⟨v', q2, ?_⟩
    have hc : w.cell? ⟨γ, off, none⟩ = some v' := by rw [cell_at g1]; simpa using q1
    simp [execOp, ho, hq, Instr.loadAt, Instr.sureAddr, loadVar, aggB_run d1, d3, hc]

/-! ### bytes to a string -/
theorem vbytes_ok {φ : Phi} : ∀ (vs : List AV) (vs' : List Value) (l : List Nat), VRs φ vs vs' → vbytes vs = some l → ∃ ns : List Int, vs' = ns.map (Value.int .u8) ∧ ∀ s : ByteArray, bytesN (ns.foldl (fun r n => r.push (UInt8.ofNat n.toNat)) s) = bytesN s ++ l := by
  intro vs
  induction vs with
  | nil => intro vs' l h e; cases h; cases e; exact ⟨[], rfl, fun s => by simp⟩
  | cons v vs ih =>
    intro vs' l h e
    cases h with
    | cons _ v' _ us h1 h2 =>
    obtain ⟨q, m, rfl, e1⟩ := asI_iff.1 (e : asI v (fun k n => guardB (Nat.beq (kix k) (nat_lit 4)) (nn1 n fun a => guardB (Nat.ble (Nat.succ a) (nat_lit 256)) (ob (vbytes vs) fun r => some (a :: r)))) = some l)
    obtain ⟨e2, e3⟩ := guardB_iff.1 e1
    have : q = .u8 := kix_inj (k' := .u8) e2
    subst this
    obtain ⟨b, rfl, e4⟩ := nn1_iff.1 e3
    obtain ⟨e5, e6⟩ := guardB_iff.1 e4
    have hb : b + 1 ≤ 256 := by rw [Nat.ble_eq] at e5; exact e5
    obtain ⟨r, e7, e8⟩ := ob_iff.1 e6
    cases e8
    obtain ⟨ns, a1, a2⟩ := ih us r h2 e7
    have := vr_i h1; subst this
    refine ⟨(b : Int) :: ns, by simp [a1], fun s => ?_⟩
    rw [List.foldl_cons, a2]
    have : bytesN (s.push (UInt8.ofNat ((b : Int).toNat))) = bytesN s ++ [b] := by
      unfold bytesN
      show (s.data.push _).toList.map _ = _
      rw [Array.toList_push, List.map_append]
      simp
      omega
    rw [this]; simp
theorem isByte_eq {t : TypeId} (h : isByte P t = true) : ∃ e, P.underlying t = some (.slice e) ∧ P.underlying e = some (.int .u8) := by
  unfold isByte at h
  split at h
  · split at h
    · exact ⟨_, ‹_›, ‹_›⟩
    · cases h
  · cases h
theorem sr_cvBS {s d : TypeId} {x : Operand} {x' : Opd} (ho : o.op = .convert s d x) (hs : isByte P s = true) (hd : isStr P d = true) (hx : chkX x x' = true) : SoundR P cr o (.cvBS x') := by
  intro φ N t a cl clv h n v h' n' w ht hg r e
  obtain ⟨u1, e1, e⟩ := ob_iff.1 e
  obtain ⟨el, k1, k2⟩ := isByte_eq hs
  have k3 := isStr_eq hd
  have hx' := eval_ok hx ht hg e1
  rcases asL_iff.1 e with ⟨rfl, f⟩ | ⟨b, off, m, c, xx, rfl, f⟩
  · obtain ⟨rfl, rfl, rfl⟩ := r1_iff.1 f
    generalize hq : a.eval x = q at hx'
    cases hx'
    refine ⟨rfl, rfl, .string .empty, .s .empty, ?_⟩
    simp [execOp, ho, hq, convert, run_underlying k1, run_underlying k2, run_underlying k3, Conv.bytesToString]
  · generalize hq : a.eval x = q at hx'
    cases hx' with
    | sl _ _ _ _ c' γ _ hφ hnc hcc hxx hkk =>
    obtain ⟨vs, cs, et, fz, f2, g1, g2, g3, g4⟩ := cells_read r f hφ
    obtain ⟨l, e2, f3⟩ := ob_iff.1 f2
    obtain ⟨rfl, rfl, rfl⟩ := r1_iff.1 f3
    obtain ⟨ns, a1, a2⟩ := vbytes_ok vs _ l (g3.list (by omega)) e2
    have hl : (cs.extract off (off + vs.length)).toList.length = m := by simp; omega
    have hload : (loadCells ⟨γ, off, none⟩ m).run P w = .ok (ns.map (Value.int .u8)).toArray w := by
      rw [← a1, ← hl]
      exact run_loadCells_list (P := P) w ⟨γ, off, none⟩ _ (fun j u hu => by rw [Addr.add_mid, cell_at g1]; exact extract_get j u hu)
    have hb := run_bytesToString (P := P) w ⟨γ, off, none⟩ m c' ns hload
    have hl2 : l = bytesN (ns.foldl (fun r n => r.push (UInt8.ofNat n.toNat)) ByteArray.empty) := by rw [a2]; rfl
    refine ⟨rfl, rfl, _, by rw [hl2]; exact .s _, ?_⟩
    simp [execOp, ho, hq, convert, run_underlying k1, run_underlying k2, run_underlying k3, hb]
end Go.Ev
end
section
namespace Go.Ev
open Go.RowKit
open Tr (path)
variable {P : Program} {β : Type} {o : Oper} {cr : Nat → AC → Code → Prop}

/-- an operation that makes a block, and does nothing else -/
def SoundA (P : Program) (cr : Nat → AC → Code → Prop) (o : Oper) (x : AOp) : Prop :=
  ∀ {φ : Phi} {N : Nat} {t : Tr AV} {a : Act} {cl : Cl} {clv : Clv} {h : Tr AO} {m : List Bool} {v : AV} {h' : Tr AO} {n' : List Bool},
    TM φ N t a.tmps → GL φ → exec cl clv t h m x = some ⟨v, h', n'⟩ → ∃ ob, h' = h.setP m (some ob) ∧ n' = inc m ∧ ∀ w : World, ∃ y w' v' K, (execOp a.eval o).run P w = .ok (.value v') w' ∧ w'.heap = w.heap.push y ∧ Ax w w' ∧
      ∀ φ' : Phi, Sub φ φ' → φ' m = some w.heap.size → φ'.cap m = K → OR cr φ' K ob y ∧ VR φ' v v'

theorem newB_eq {h : Tr AO} {n : List Bool} {x : AO} {k : List Bool → Tr AO → List Bool → Option β} : newB h n x k = k n (h.setP n (some x)) (inc n) := by
  unfold newB setH; rw [forceT_eq, forceL_eq]
theorem newR_eq {h : Tr AO} {n : List Bool} {z k : Nat} {vs : List AV} {f : List Bool → Tr AO → List Bool → Option β} : newR h n z k vs f = f n (h.setP n (some (.row z k true (storeE z k vs .leaf 0)))) (inc n) := by
  unfold newR; rw [forceT_eq, newB_eq]
/-- a new row -/
theorem row_new {φ : Phi} {z k : Nat} {vs : List AV} {vs' : List Value} (h : VRs φ vs vs') (h1 : vs.all one = true) (hl : vs.length = k * z) {cs : Array Value} (hs : vs'.length ≤ cs.size) (hc : ∀ j, j < vs'.length → cs[j]? = vs'[j]?) (e : TypeId) (fz : Nat × Nat) (hf : fz.1 = fz.2 ∨ cs.size ≤ fz.1) (K : Nat) (hK : K * z ≤ cs.size) :
    OR cr φ K (.row z k true (storeE z k vs .leaf 0)) (.cells cs e fz) := by
  refine ⟨by rw [← hl, h.length]; exact hs, storeE_ok (cs := cs) (fun i vs e => by cases e) h h1 k 0 hl fun j => ?_, fun _ => hf, hK, fun e he => by rw [storeE_get, if_neg (by omega)]; rfl⟩
  split
  · rename_i hj
    rw [hc j (by omega)]; congr 1; omega
  · rfl
theorem no_frz (cs : Array Value) : ((0, 0) : Nat × Nat).1 = ((0, 0) : Nat × Nat).2 ∨ cs.size ≤ ((0, 0) : Nat × Nat).1 := .inl rfl
theorem no_cap (z : Nat) (cs : Array Value) : 0 * z ≤ cs.size := by rw [Nat.zero_mul]; exact Nat.zero_le _

theorem sa_new {ty : TypeId} {k : Nat} {z : List AV} (ho : o.op = .alloc ty) (hz : zIs P ty z = true) (hk : z.length = k) : SoundA P cr o (.new k z) := by
  intro φ N t a cl clv h m v h' n' ht hg e
  have e : newR h m k (nat_lit 1) z (fun b h n => r1 (.p b (nat_lit 0)) h n) = some ⟨v, h', n'⟩ := e
  rw [newR_eq] at e
  obtain ⟨rfl, rfl, rfl⟩ := r1_iff.1 e
  refine ⟨_, rfl, rfl, fun w => ?_⟩
  unfold zIs at hz
  split at hz
  · rename_i zv hzv
    obtain ⟨i, hi, hzi⟩ := Option.bind_eq_some_iff.1 hzv
    rw [Bool.and_eq_true] at hz
    refine ⟨.cells zv.cells ty, w.alloc (.cells zv.cells ty), .pointer (some ⟨w.heap.size, 0, none⟩), 0, ?_, rfl, ⟨rfl, rfl, rfl⟩, fun φ' hs hm hc => ⟨?_, .p _ _ _ hm⟩⟩
    · simp [execOp, ho, Instr.alloc, zeroValue, typeInfo, hi, hzi, newVar, newRow]
    · have h1 := chkVs_ok φ' hz.1
      exact row_new h1 hz.2 (by rw [hk]; simp) (by simp) (fun j _ => by simp) ty (0, 0) (no_frz _) 0 (no_cap _ _)
  · cases hz
theorem sa_box {ty : TypeId} {k : Nat} {x : Operand} {x' : Opd} (ho : o.op = .box ty x) (hk : 1 ≤ k) (hx : chkX x x' = true) : SoundA P cr o (.box k x') := by
  intro φ N t a cl clv h m v h' n' ht hg e
  obtain ⟨u1, e1, e⟩ := ob_iff.1 e
  obtain ⟨e2, e3⟩ := guardB_iff.1 e
  rw [newR_eq] at e3
  obtain ⟨rfl, rfl, rfl⟩ := r1_iff.1 e3
  have hx' := eval_ok hx ht hg e1
  have e2 : (vc u1).length = k := by rw [Nat.beq_eq, llen_eq] at e2; exact e2
  refine ⟨_, rfl, rfl, fun w => ?_⟩
  refine ⟨.cells (a.eval x).cells ty, w.alloc (.cells (a.eval x).cells ty), .pointer (some ⟨w.heap.size, 0, none⟩), 0, ?_, rfl, ⟨rfl, rfl, rfl⟩, fun φ' hs hm hc => ⟨?_, .p _ _ _ hm⟩⟩
  · simp [execOp, ho, Instr.box, newVar, newRow]
  · obtain ⟨c1, c2⟩ := vc_ok (hx'.sub hs) (by omega)
    exact row_new c1 c2 (by rw [e2]; simp) (by simp) (fun j _ => by simp) ty (0, 0) (no_frz _) 0 (no_cap _ _)
theorem sa_mkmap {ty : TypeId} {kc : Nat} (ho : o.op = .makeMap ty none) : SoundA P cr o (.mkmap kc) := by
  intro φ N t a cl clv h m v h' n' ht hg e
  have e : newB h m (.mp kc .leaf) (fun b h n => r1 (.m b) h n) = some ⟨v, h', n'⟩ := e
  rw [newB_eq] at e
  obtain ⟨rfl, rfl, rfl⟩ := r1_iff.1 e
  refine ⟨_, rfl, rfl, fun w => ⟨.map #[] 0, w.alloc (.map #[] 0), .map (some w.heap.size), 0, ?_, rfl, ⟨rfl, rfl, rfl⟩, fun φ' hs hm hc => ⟨⟨?_, ?_, ?_⟩, .m _ _ hm⟩⟩⟩
  · simp [execOp, ho, Instr.makeMap]
  · intro i x e; simp at e
  · intro n v e; cases e
  · intro i j x y e; simp at e
theorem sa_rngS {ty : TypeId} {x : Operand} {x' : Opd} (ho : o.op = .range ty x) (hs : isStr P ty = true) (hx : chkX x x' = true) : SoundA P cr o (.rngS x') := by
  intro φ N t a cl clv h m v h' n' ht hg e
  obtain ⟨u1, e1, e⟩ := ob_iff.1 e
  obtain ⟨l, rfl, f1⟩ := asS_iff.1 e
  rw [newB_eq] at f1
  obtain ⟨rfl, rfl, rfl⟩ := r1_iff.1 f1
  obtain ⟨s, hq, rfl⟩ := vr_s (eval_ok hx ht hg e1)
  refine ⟨_, rfl, rfl, fun w => ⟨.stringIter s 0, w.alloc (.stringIter s 0), .pointer (some ⟨w.heap.size, 0, none⟩), 0, ?_, rfl, ⟨rfl, rfl, rfl⟩, fun φ' hs hm hc => ⟨⟨rfl, rfl⟩, .p _ _ _ hm⟩⟩⟩
  simp [execOp, ho, Instr.range, run_underlying (isStr_eq hs), hq]
theorem cat_ok {φ : Phi} {z : Nat} (hz : 1 ≤ z) : ∀ (vs : List AV) (vs' : List Value) (cs : List AV), VRs φ vs vs' → cat z vs = some cs → (∀ v ∈ vs', v.cells.size = z) ∧ cs.length = vs.length * z ∧ cs.all one = true ∧ VRs φ cs (vs'.flatMap fun v => v.cells.toList) := by
  intro vs
  induction vs with
  | nil => intro vs' cs h e; cases h; cases e; exact ⟨fun v h => by simp at h, by simp, rfl, .nil⟩
  | cons v vs ih =>
    intro vs' cs h e
    cases h with
    | cons _ v' _ us h1 h2 =>
    have e : guardB (Nat.beq (llen (vc v)) z) (ob (cat z vs) fun r => some (lapp (vc v) r)) = some cs := e
    obtain ⟨e1, e2⟩ := guardB_iff.1 e
    obtain ⟨r, e3, e4⟩ := ob_iff.1 e2
    cases e4
    have e1 : (vc v).length = z := by rw [Nat.beq_eq, llen_eq] at e1; exact e1
    obtain ⟨a1, a2, a3, a4⟩ := ih us r h2 e3
    obtain ⟨c1, c2⟩ := vc_ok h1 (by omega)
    rw [lapp_eq]
    refine ⟨fun u hu => ?_, ?_, ?_, ?_⟩
    · rcases List.mem_cons.1 hu with rfl | hu
      · rw [← e1, c1.length]; simp
      · exact a1 u hu
    · rw [List.length_append, e1, a2, List.length_cons, Nat.add_mul]; omega
    · rw [List.all_append, c2, a3]; rfl
    · rw [List.flatMap_cons]; exact c1.append a4
theorem litIs_ok {φ : Phi} {N : Nat} {t : Tr AV} {a : Act} (ht : TM φ N t a.tmps) (hg : GL φ) : ∀ (ps : List (Nat × Operand)) (xs : List Opd) (j : Nat) (vs : List AV), litIs j ps xs = true → obl (ev t) xs = some vs → ∃ vs', VRs φ vs vs' ∧ ps.map (fun q => (q.1, a.eval q.2)) = (vs'.zipIdx j).map fun x => (x.2, x.1) := by
  intro ps
  induction ps with
  | nil => intro xs j vs h e; cases xs with
    | nil => cases e; exact ⟨[], .nil, rfl⟩
    | cons x xs => cases h
  | cons p ps ih =>
    intro xs j vs h e
    obtain ⟨i, x⟩ := p
    cases xs with
    | nil => cases h
    | cons y xs =>
      unfold litIs at h
      simp only [Bool.and_eq_true, beq_iff_eq] at h
      obtain ⟨⟨rfl, h2⟩, h3⟩ := h
      rw [obl_cons] at e
      obtain ⟨v, e1, e2⟩ := ob_iff.1 e
      obtain ⟨us, e3, e4⟩ := ob_iff.1 e2
      cases e4
      obtain ⟨us', a1, a2⟩ := ih xs (i + 1) us h3 e3
      exact ⟨a.eval x :: us', .cons _ _ _ _ (eval_ok h2 ht hg e1) a1, by simp [a2]⟩
theorem VRs.subs {φ ψ : Phi} (s : Sub φ ψ) {vs : List AV} {vs' : List Value} (h : VRs φ vs vs') : VRs ψ vs vs' := VRs.sub s h
theorem sa_lit {ty : TypeId} {k z : Nat} {ps : Array (Nat × Operand)} {xs : List Opd} (ho : o.op = .buildSlice ty k ps) (he : elemIs P ty z = true) (hb : k * z ≤ 16777216) (hp : litIs 0 ps.toList xs = true) : SoundA P cr o (.lit k z xs) := by
  obtain ⟨el, i, zv, hty, hi1, rfl, hz1, hby, hzi, hzs⟩ := elemIs_eq he
  intro φ N t a cl clv h m v h' n' ht hg e
  obtain ⟨vs, e1, e2⟩ := ob_iff.1 e
  obtain ⟨e3, e4⟩ := guardB_iff.1 e2
  obtain ⟨cs, e5, e6⟩ := ob_iff.1 e4
  rw [newR_eq] at e6
  obtain ⟨rfl, rfl, rfl⟩ := r1_iff.1 e6
  have e3 : xs.length = k := by rw [Nat.beq_eq, llen_eq] at e3; exact e3
  obtain ⟨vs', b1, b2⟩ := litIs_ok ht hg ps.toList xs 0 vs hp e1
  obtain ⟨c1, c2, c3, c4⟩ := cat_ok hz1 vs vs' cs b1 e5
  have hvl : vs.length = k := by
    rw [← e3]
    have : ∀ (xs : List Opd) (vs : List AV), obl (ev t) xs = some vs → vs.length = xs.length := by
      intro xs
      induction xs with
      | nil => intro vs e; cases e; rfl
      | cons x xs ih => intro vs e; rw [obl_cons] at e; obtain ⟨u, _, e2⟩ := ob_iff.1 e; obtain ⟨us, e3, e4⟩ := ob_iff.1 e2; cases e4; simp [ih us e3]
    exact this xs vs e1
  have hvl' : vs'.length = k := by rw [← b1.length]; exact hvl
  refine ⟨_, rfl, rfl, fun w => ?_⟩
  have hcells : ∃ arr : Array Value, arr.toList = (vs'.flatMap fun v => v.cells.toList) ∧ (Instr.buildSlice ty k (ps.map fun (i, x) => (i, a.eval x))).run P w = .ok (.slice (some ⟨w.heap.size, 0, none⟩) k k) (w.alloc (.cells arr el)) := by
    have hmap : (ps.map fun (i, x) => (i, a.eval x)).toList = (vs'.zipIdx 0).map fun x => (x.2, x.1) := by rw [Array.toList_map]; exact b2
    cases k with
    | zero =>
      have : vs' = [] := List.length_eq_zero_iff.1 hvl'
      subst this
      refine ⟨#[], rfl, ?_⟩
      have hm0 : (ps.map fun (i, x) => (i, a.eval x)).toList = [] := hmap
      simp only [Instr.buildSlice, run_underlying hty, Sem.run_bind, Result.andThen_ok, run_sizeOf hi1, Nat.zero_mul, hm0]
      simp [Instr.fill, newRow, Array.range_zero']
    | succ k =>
      have hf := Great.fill_whole (s := i.size) hz1 vs' ((Array.range ((k + 1) * i.size)).map (zv.cells[· % zv.cells.size]!)) c1 (by rw [hvl']; simp)
      have hpos : (k + 1) * i.size ≠ 0 := by have : 1 * 1 ≤ (k + 1) * i.size := Nat.mul_le_mul (by omega) hz1
                                             omega
      refine ⟨(vs'.flatMap fun v => v.cells.toList).toArray, rfl, run_buildSlice w ty el (k + 1) _ _ i zv hty hi1 hzi (by omega) (by omega) (by rw [hmap]; exact hf)⟩
  obtain ⟨arr, d1, d2⟩ := hcells
  refine ⟨.cells arr el, w.alloc (.cells arr el), .slice (some ⟨w.heap.size, 0, none⟩) k k, 0, ?_, rfl, ⟨rfl, rfl, rfl⟩, fun φ' hs hm hc => ⟨?_, .sl _ _ _ _ _ _ _ hm (Nat.le_refl _) (Nat.le_refl _) (fun _ => rfl) (fun q => by cases q)⟩⟩
  · simp only [execOp, ho, Sem.run_bind, d2, Result.andThen_ok, Sem.run_pure]
  · refine row_new (c4.subs hs) c3 (by rw [c2, hvl]) ?_ (fun j _ => by rw [← d1]; simp) el (0, 0) (no_frz _) 0 (no_cap _ _)
    rw [← d1]; simp
end Go.Ev
end
section
namespace Go.Ev
open Go.RowKit
open Tr (path)
variable {P : Program} {β : Type} {o : Oper} {cr : Nat → AC → Code → Prop}

/-! ### runes -/
theorem get_bytes (s : ByteArray) (i : Nat) : (s.get! i).toNat = (bytesN s).getD i 0 := by
  unfold bytesN
  show (s.data[i]!).toNat = _
  rw [List.getD_eq_getElem?_getD, List.getElem?_map, Array.getElem?_toList]
  by_cases h : i < s.data.size
  · rw [Array.getElem?_eq_getElem h, getElem!_pos s.data i h]; rfl
  · rw [Array.getElem?_eq_none (by omega), getElem!_neg s.data i (by omega)]; rfl
theorem okR_eq (c : Nat) : okR c = Utf8.valid (c : Int) := by
  unfold okR
  rw [rec_ble, rec_ble]
  unfold Utf8.valid
  have hb : (Nat.ble c 1114111 = true) ↔ c ≤ 1114111 := by rw [Nat.ble_eq]
  by_cases h1 : Nat.succ c ≤ 55296
  · rw [if_pos h1]; symm; simp; omega
  · rw [if_neg h1]
    by_cases h2 : 57344 ≤ c
    · rw [if_pos h2, Bool.eq_iff_iff, hb]; simp; omega
    · rw [if_neg h2]; symm; simp; omega
theorem bytes4_eq {γ : Type} (l : List Nat) (k : Nat → Nat → Nat → Nat → γ) : bytes4 l k = k (l.getD 0 0) (l.getD 1 0) (l.getD 2 0) (l.getD 3 0) := by
  rcases l with _ | ⟨a, _ | ⟨b, _ | ⟨c, _ | ⟨d, l⟩⟩⟩⟩ <;> rfl
theorem dec_core {γ : Type} (k : Nat → Nat → γ) (a r2 r3 r4 : Nat) (c1 c2 c3 : Bool) :
    (if a ≤ 127 then k a 1 else if a / 32 = 6 then (if c1 = true then (if 128 ≤ r2 then k r2 2 else k 65533 1) else k 65533 1)
      else if a / 16 = 14 then (if c1 = true then (if c2 = true then (if 2048 ≤ r3 then (if Utf8.valid (r3 : Int) = true then k r3 3 else k 65533 1) else k 65533 1) else k 65533 1) else k 65533 1)
      else if a / 8 = 30 then (if c1 = true then (if c2 = true then (if c3 = true then (if 65536 ≤ r4 then (if Utf8.valid (r4 : Int) = true then k r4 4 else k 65533 1) else k 65533 1) else k 65533 1) else k 65533 1) else k 65533 1)
      else k 65533 1) =
    (fun q : Nat × Nat => k q.1 q.2) (if a < 128 then (a, 1) else if (a / 32 == 6 && c1) = true then (if r2 ≥ 128 then (r2, 2) else (Utf8.runeError, 1))
      else if (a / 16 == 14 && c1 && c2) = true then (if (decide (r3 ≥ 2048) && Utf8.valid (r3 : Int)) = true then (r3, 3) else (Utf8.runeError, 1))
      else if (a / 8 == 30 && c1 && c2 && c3) = true then (if (decide (r4 ≥ 65536) && Utf8.valid (r4 : Int)) = true then (r4, 4) else (Utf8.runeError, 1))
      else (Utf8.runeError, 1)) := by
  by_cases h1 : a ≤ 127
  · have h1' : a < 128 := by omega
    simp only [h1, h1', if_true]
  · have h1' : ¬ a < 128 := by omega
    simp only [h1, h1', if_false]
    by_cases h2 : a / 32 = 6
    · have n3 : ¬ a / 16 = 14 := by omega
      have n4 : ¬ a / 8 = 30 := by omega
      have n3' : (a / 16 == 14) = false := by simp [n3]
      have n4' : (a / 8 == 30) = false := by simp [n4]
      have h2' : (a / 32 == 6) = true := by simp [h2]
      simp only [h2, n3', n4', if_true, Bool.false_and, Bool.false_eq_true, if_false]
      cases c1
      · simp [Utf8.runeError]
      · by_cases h5 : 128 ≤ r2
        · simp [h5]
        · simp [h5, Utf8.runeError]
    · have h2' : (a / 32 == 6) = false := by simp [h2]
      simp only [h2, h2', if_false, Bool.false_and, Bool.false_eq_true]
      by_cases h3 : a / 16 = 14
      · have n4 : ¬ a / 8 = 30 := by omega
        have n4' : (a / 8 == 30) = false := by simp [n4]
        have h3' : (a / 16 == 14) = true := by simp [h3]
        simp only [h3, n4', if_true, Bool.false_and, Bool.false_eq_true, if_false]
        cases c1
        · simp [Utf8.runeError]
        · cases c2
          · simp [Utf8.runeError]
          · by_cases h5 : 2048 ≤ r3
            · cases hv : Utf8.valid (r3 : Int) <;> simp [h5, Utf8.runeError]
            · simp [h5, Utf8.runeError]
      · have h3' : (a / 16 == 14) = false := by simp [h3]
        simp only [h3, h3', if_false, Bool.false_and, Bool.false_eq_true]
        by_cases h4 : a / 8 = 30
        · have h4' : (a / 8 == 30) = true := by simp [h4]
          simp only [h4, if_true]
          cases c1
          · simp [Utf8.runeError]
          · cases c2
            · simp [Utf8.runeError]
            · cases c3
              · simp [Utf8.runeError]
              · by_cases h5 : 65536 ≤ r4
                · cases hv : Utf8.valid (r4 : Int) <;> simp [h5, Utf8.runeError]
                · simp [h5, Utf8.runeError]
        · have h4' : (a / 8 == 30) = false := by simp [h4]
          simp [h4, Utf8.runeError]
theorem dec_eq {γ : Type} (s : ByteArray) (i : Nat) (k : Nat → Nat → γ) : dec ((bytesN s).drop i) k = k (Utf8.decode s i).1 (Utf8.decode s i).2 := by
  unfold dec
  rw [bytes4_eq]
  have hg : ∀ j, ((bytesN s).drop i).getD j 0 = (s.get! (i + j)).toNat := fun j => by rw [get_bytes, List.getD_eq_getElem?_getD, List.getElem?_drop, List.getD_eq_getElem?_getD]
  rw [hg, hg, hg, hg]
  have hcont : ∀ j, cont (s.get! (i + j)).toNat = (decide (i + j < s.size) && ((s.get! (i + j)).toNat / 64 == 2)) := fun j => by
    unfold cont
    by_cases h : i + j < s.size
    · simp only [h, decide_true, Bool.true_and]
      rw [Bool.eq_iff_iff, Nat.beq_eq, beq_iff_eq]; exact Iff.rfl
    · have h0 : (s.get! (i + j)).toNat = 0 := by
        rw [get_bytes, List.getD_eq_getElem?_getD, List.getElem?_eq_none (by rw [bytesN_length]; omega)]; rfl
      simp only [h0, h, decide_false, Bool.false_and]; rfl
  simp only [hcont, forceN_eq, ifb_eq, Nat.ble_eq, Nat.beq_eq, okR_eq]
  unfold Utf8.decode
  simp only [Nat.add_zero]
  have ea : ∀ a b : Nat, Nat.add a b = a + b := fun _ _ => rfl
  have em : ∀ a b : Nat, Nat.mul a b = a * b := fun _ _ => rfl
  have ed : ∀ a b : Nat, Nat.div a b = a / b := fun _ _ => rfl
  have eo : ∀ a b : Nat, Nat.mod a b = a % b := fun _ _ => rfl
  simp only [ea, em, ed, eo]
  exact dec_core k _ _ _ _ _ _ _
/-- all runes -/
theorem runes_ok {φ : Phi} (s : ByteArray) : ∀ (k i : Nat) (acc : List AV) (acc' : Array Value), VRs φ acc acc'.toList → VRs φ (acc ++ runes k ((bytesN s).drop i)) (Conv.runesFrom s k i acc').toList ∧ ((runes k ((bytesN s).drop i)).all one = true) := by
  intro k
  induction k with
  | zero => intro i acc acc' h; exact ⟨by show VRs φ (acc ++ []) acc'.toList; simpa using h, rfl⟩
  | succ k ih =>
    intro i acc acc' h
    show VRs φ (acc ++ @List.rec Nat (fun _ => List AV) [] (fun _ _ _ => dec ((bytesN s).drop i) fun r w => lcons (.i .i32 (Int.ofNat r)) (runes k (ldrop w ((bytesN s).drop i)))) ((bytesN s).drop i)) _ ∧ List.all (@List.rec Nat (fun _ => List AV) [] (fun _ _ _ => dec ((bytesN s).drop i) fun r w => lcons (.i .i32 (Int.ofNat r)) (runes k (ldrop w ((bytesN s).drop i)))) ((bytesN s).drop i)) one = true
    rw [dec_eq, lcons_eq, ldrop_eq, List.drop_drop]
    unfold Conv.runesFrom
    by_cases hi : i < s.size
    · rw [if_pos hi]
      obtain ⟨x, l, hl⟩ : ∃ x l, (bytesN s).drop i = x :: l := by
        cases hq : (bytesN s).drop i with
        | nil => have := congrArg List.length hq; rw [List.length_drop, bytesN_length] at this; simp at this; omega
        | cons x l => exact ⟨x, l, rfl⟩
      rw [hl]
      have := ih (i + (Utf8.decode s i).2) (acc ++ [.i .i32 (Int.ofNat (Utf8.decode s i).1)]) (acc'.push (.int .i32 (Int.ofNat (Utf8.decode s i).1))) (by rw [Array.toList_push]; exact h.append (.cons _ _ _ _ (.i _ _) .nil))
      refine ⟨?_, ?_⟩
      · have h1 := this.1
        rw [List.append_assoc] at h1
        exact h1
      · show List.all (_ :: _) one = true
        rw [List.all_cons, this.2]; rfl
    · rw [if_neg hi]
      have hl : (bytesN s).drop i = [] := List.drop_eq_nil_of_le (by rw [bytesN_length]; omega)
      rw [hl]
      exact ⟨by show VRs φ (acc ++ []) acc'.toList; simpa using h, rfl⟩
end Go.Ev
end
section
namespace Go.Ev
open Go.RowKit
open Tr (path)
variable {P : Program} {β : Type} {o : Oper} {cr : Nat → AC → Code → Prop}

theorem isRune_eq {t : TypeId} (h : isRune P t = true) : ∃ e, P.underlying t = some (.slice e) ∧ P.underlying e = some (.int .i32) := by
  unfold isRune at h
  split at h
  · split at h
    · exact ⟨_, ‹_›, ‹_›⟩
    · cases h
  · cases h
theorem bytesV_ok {φ : Phi} (l : List UInt8) : VRs φ (bytesV (l.map UInt8.toNat)) (l.map fun b => Value.int .u8 (b.toNat : Int)) ∧ (bytesV (l.map UInt8.toNat)).all one = true ∧ (bytesV (l.map UInt8.toNat)).length = l.length := by
  induction l with
  | nil => exact ⟨.nil, rfl, rfl⟩
  | cons b l ih =>
    show VRs φ (lcons (.i .u8 (Int.ofNat b.toNat)) (bytesV (l.map UInt8.toNat))) _ ∧ (lcons (.i .u8 (Int.ofNat b.toNat)) (bytesV (l.map UInt8.toNat))).all one = true ∧ (lcons (.i .u8 (Int.ofNat b.toNat)) (bytesV (l.map UInt8.toNat))).length = _
    rw [lcons_eq]
    exact ⟨.cons _ _ _ _ (.i _ _) ih.1, by rw [List.all_cons, ih.2.1]; rfl, by simp [ih.2.2]⟩
theorem cut_ge (need old : Nat) (e : TypeId) (x : Nat) : need ≤ (Question.appendCap need old e).cut x := Nat.le_add_right _ _
theorem run_appendCap (need old : Nat) (e : TypeId) (w : World) : (choose (.appendCap need old e)).run P w = .ok ((Question.appendCap need old e).cut (w.tape w.drawn (.appendCap need old e))) { w with drawn := w.drawn + 1 } := by
  rw [run_choose]; rfl
theorem sa_cvSR {s d : TypeId} {x : Operand} {x' : Opd} (ho : o.op = .convert s d x) (hs : has P s = true) (hd : isRune P d = true) (hx : chkX x x' = true) : SoundA P cr o (.cvSR x') := by
  intro φ N t a cl clv h m v h' n' ht hg e
  obtain ⟨u1, e1, e⟩ := ob_iff.1 e
  obtain ⟨l, rfl, f1⟩ := asS_iff.1 e
  obtain ⟨st, hq, rfl⟩ := vr_s (eval_ok hx ht hg e1)
  have f1 : forceN (llen (runes (llen (bytesN st)) (bytesN st))) (fun k => newR h m (nat_lit 1) k (runes (llen (bytesN st)) (bytesN st)) fun b h n => r1 (.sl b (nat_lit 0) k k false) h n) = some ⟨v, h', n'⟩ := f1
  rw [forceN_eq, newR_eq, llen_eq, llen_eq] at f1
  obtain ⟨rfl, rfl, rfl⟩ := r1_iff.1 f1
  obtain ⟨el, k1, k2⟩ := isRune_eq hd
  obtain ⟨sd, hsd⟩ := Option.isSome_iff_exists.1 (hs : (P.underlying s).isSome = true)
  refine ⟨_, rfl, rfl, fun w => ?_⟩
  have hr := fun φ => runes_ok (φ := φ) st st.size 0 [] #[] .nil
  simp only [List.nil_append, List.drop_zero] at hr
  rw [bytesN_length]
  generalize hE : Conv.runesFrom st st.size 0 #[] = E at hr
  have hlen : (runes st.size (bytesN st)).length = E.size := by rw [(hr φ).1.length]; simp
  let q := Question.appendCap E.size 0 el
  have hge : E.size ≤ q.cut (w.tape w.drawn q) := cut_ge _ _ _ _
  refine ⟨.cells (E ++ Array.replicate (q.cut (w.tape w.drawn q) - E.size) (.int .i32 0)) el, ({ w with drawn := w.drawn + 1 } : World).alloc (.cells (E ++ Array.replicate (q.cut (w.tape w.drawn q) - E.size) (.int .i32 0)) el),
    .slice (some ⟨w.heap.size, 0, none⟩) E.size (q.cut (w.tape w.drawn q)), q.cut (w.tape w.drawn q), ?_, rfl, ⟨rfl, rfl, rfl⟩, fun φ' hs' hm hcap => ⟨?_, ?_⟩⟩
  · have hc : (convert s d (.string st)).run P w = .ok (.slice (some ⟨w.heap.size, 0, none⟩) E.size (q.cut (w.tape w.drawn q))) (({ w with drawn := w.drawn + 1 } : World).alloc (.cells (E ++ Array.replicate (q.cut (w.tape w.drawn q) - E.size) (.int .i32 0)) el)) := by
      have hcv : (convert s d (.string st)).run P w = (Conv.stringToRunes el st).run P w := by
        cases sd <;> simp [convert, run_underlying hsd, run_underlying k1, run_underlying k2]
      rw [hcv]
      unfold Conv.stringToRunes
      simp only [hE, Sem.run_bind, run_appendCap, Result.andThen_ok, newRow, run_newObj, Sem.run_pure]
      rfl
    simp only [execOp, ho, hq, Sem.run_bind, hc, Result.andThen_ok, Sem.run_pure]
  · refine row_new (vs' := E.toList) (hr φ').1 (hr φ').2 (by simp) (by simp) (fun j hj => ?_) el (0, 0) (no_frz _) _ (by show q.cut (w.tape w.drawn q) * 1 ≤ (E ++ _).size; rw [Nat.mul_one, Array.size_append, Array.size_replicate]; omega)
    rw [Array.getElem?_append_left (by simpa using hj)]; simp
  · rw [hlen]
    exact .sl _ _ _ _ _ _ _ hm (Nat.le_refl _) hge (fun e => by cases e) (fun _ _ => hcap.symm)
theorem freeze_push (w2 : World) (H : Array Obj) (R : Array Value) (el : TypeId) (n : Nat) (h : w2.heap = H.push (.cells R el)) : (w2.freeze ⟨H.size, n, none⟩ 1).heap = H.push (.cells R el (n, n + 1)) := by
  unfold World.freeze
  rw [if_neg (by omega)]
  dsimp only
  rw [h]
  apply Array.ext_getElem?
  intro i
  rw [Array.getElem?_modify]
  by_cases hi : H.size = i
  · subst hi; rw [if_pos rfl]; simp
  · rw [if_neg hi, Array.getElem?_push, Array.getElem?_push, if_neg (by omega), if_neg (by omega)]
theorem run_mark (a : Addr) (e : TypeId) (n : Nat) (w : World) (h : w.shape? a.block = some (e, n)) : (markStringish a).run P w = .ok () (w.freeze ⟨a.block, n, none⟩ 1) := by
  simp [markStringish, h]
theorem sa_cvSB {s d : TypeId} {x : Operand} {x' : Opd} (ho : o.op = .convert s d x) (hs : has P s = true) (hd : isByte P d = true) (hx : chkX x x' = true) : SoundA P cr o (.cvSB x') := by
  intro φ N t a cl clv h m v h' n' ht hg e
  obtain ⟨u1, e1, e⟩ := ob_iff.1 e
  obtain ⟨l, rfl, f1⟩ := asS_iff.1 e
  obtain ⟨st, hq, rfl⟩ := vr_s (eval_ok hx ht hg e1)
  rw [forceN_eq, newR_eq, llen_eq, bytesN_length] at f1
  obtain ⟨rfl, rfl, rfl⟩ := r1_iff.1 f1
  obtain ⟨el, k1, k2⟩ := isByte_eq hd
  obtain ⟨sd, hsd⟩ := Option.isSome_iff_exists.1 (hs : (P.underlying s).isSome = true)
  refine ⟨_, rfl, rfl, fun w => ?_⟩
  have hr := fun φ => bytesV_ok (φ := φ) st.data.toList
  let E : Array Value := st.data.map fun b => .int .u8 (b.toNat : Int)
  have hEs : E.size = st.size := by show (st.data.map _).size = st.data.size; simp
  have hEl : E.toList = st.data.toList.map fun b => Value.int .u8 (b.toNat : Int) := by show (st.data.map _).toList = _; simp
  let q := Question.appendCap st.size 0 el
  let R : Array Value := E ++ Array.replicate (q.cut (w.tape w.drawn q) - st.size) (.int .u8 0)
  have hge : st.size ≤ q.cut (w.tape w.drawn q) := cut_ge _ _ _ _
  let w1 : World := ({ w with drawn := w.drawn + 1 } : World).alloc (.cells R el)
  have hsh : w1.shape? w.heap.size = some (el, R.size) := by
    have : w1.heap[w.heap.size]? = some (.cells R el) := by show (w.heap.push _)[w.heap.size]? = _; simp
    simp only [World.shape?, this]
  have hfr := freeze_push w1 w.heap R el R.size rfl
  refine ⟨.cells R el (R.size, R.size + 1), w1.freeze ⟨w.heap.size, R.size, none⟩ 1,
    .slice (some ⟨w.heap.size, 0, none⟩) st.size (q.cut (w.tape w.drawn q)), q.cut (w.tape w.drawn q), ?_, hfr, ⟨rfl, rfl, rfl⟩, fun φ' hs' hm hcap => ⟨?_, ?_⟩⟩
  · have hc : (convert s d (.string st)).run P w = .ok (.slice (some ⟨w.heap.size, 0, none⟩) st.size (q.cut (w.tape w.drawn q))) (w1.freeze ⟨w.heap.size, R.size, none⟩ 1) := by
      have hcv : (convert s d (.string st)).run P w = (Conv.stringToBytes el st).run P w := by
        cases sd <;> simp [convert, run_underlying hsd, run_underlying k1, run_underlying k2]
      rw [hcv]
      unfold Conv.stringToBytes
      simp only [Sem.run_bind, run_appendCap, Result.andThen_ok, newRow, run_newObj, Sem.run_pure]
      have hm := run_mark (P := P) ⟨w.heap.size, 0, none⟩ el R.size w1 hsh
      show ((markStringish ⟨w.heap.size, 0, none⟩).run P w1).andThen _ = _
      rw [hm]; rfl
    simp only [execOp, ho, hq, Sem.run_bind, hc, Result.andThen_ok, Sem.run_pure]
  · refine row_new (vs' := E.toList) (by rw [hEl]; exact (hr φ').1) (hr φ').2.1 (by rw [(hr φ').2.2]; show st.data.toList.length = st.data.size * 1; rw [Array.length_toList, Nat.mul_one]) ?_ (fun j hj => ?_) el (R.size, R.size + 1) (.inr (Nat.le_refl _)) _ (by show q.cut (w.tape w.drawn q) * 1 ≤ (E ++ _).size; rw [Nat.mul_one, Array.size_append, Array.size_replicate]; omega)
    · show E.toList.length ≤ (E ++ _).size; simp
    · show (E ++ _)[j]? = _
      rw [Array.getElem?_append_left (by simpa using hj)]; simp
  · exact .sl _ _ _ _ _ _ _ hm (Nat.le_refl _) hge (fun e => by cases e) (fun _ _ => hcap.symm)
end Go.Ev
end
section
namespace Go.Ev
open Go.RowKit
open Tr (path)
variable {P : Program} {β : Type} {o : Oper} {cr : Nat → AC → Code → Prop}

theorem reps_length (n : Nat) (z : List AV) : (reps n z).length = n * z.length := by
  induction n with
  | zero => show ([] : List AV).length = 0 * _; simp
  | succ n ih => show (lapp z (reps n z)).length = _; rw [lapp_eq, List.length_append, ih, Nat.add_mul]; omega
theorem reps_one (n : Nat) (z : List AV) (h : z.all one = true) : (reps n z).all one = true := by
  induction n with
  | zero => rfl
  | succ n ih => show (lapp z (reps n z)).all one = _; rw [lapp_eq, List.all_append, ih, h]; rfl
theorem reps_vrs {φ : Phi} (z : List AV) (z' : Array Value) (h : VRs φ z z'.toList) : ∀ n : Nat, VRs φ (reps n z) ((List.range (n * z'.size)).map (fun i => z'[i % z'.size]!)) := by
  intro n
  induction n with
  | zero => simp only [Nat.zero_mul, List.range_zero, List.map_nil]; exact .nil
  | succ n ih =>
    show VRs φ (lapp z (reps n z)) _
    rw [lapp_eq]
    have : (List.range ((n + 1) * z'.size)).map (fun i => z'[i % z'.size]!) = z'.toList ++ (List.range (n * z'.size)).map (fun i => z'[i % z'.size]!) := by
      have e : (n + 1) * z'.size = z'.size + n * z'.size := by rw [Nat.add_mul]; omega
      rw [e, List.range_add, List.map_append, List.map_map]
      congr 1
      · apply List.ext_getElem?
        intro i
        have hti : z'.toList[i]? = z'[i]? := Array.getElem?_toList
        rw [List.getElem?_map, hti]
        by_cases hi : i < z'.size
        · rw [List.getElem?_range hi, Array.getElem?_eq_getElem hi]
          simp only [Option.map_some, Nat.mod_eq_of_lt hi]
          rw [getElem!_pos z' i hi]
        · rw [List.getElem?_eq_none (by simp; omega), Array.getElem?_eq_none (by omega)]; rfl
      · congr 1
        funext i
        simp only [Function.comp]
        rw [Nat.add_mod_left]
    rw [this]
    exact h.append ih
theorem sa_mkslice {ty : TypeId} {k : Nat} {z : List AV} {x y : Operand} {x' y' : Opd} (ho : o.op = .makeSlice ty x y) (he : elemIs P ty k = true) (hz : (match elemOf? P ty with | some e => zIs P e z | none => false) = true) (hx : chkX x x' = true) (hy : chkX y y' = true) : SoundA P cr o (.mkslice k z x' y') := by
  obtain ⟨el, i, zv, hty, hi1, rfl, hz1, hby, hzi, hzs⟩ := elemIs_eq he
  intro φ N t a cl clv h m v h' n' ht hg e
  obtain ⟨u1, e1, e⟩ := ob_iff.1 e
  obtain ⟨u2, e2, e⟩ := ob_iff.1 e
  obtain ⟨q, len, rfl, f1⟩ := asN_iff.1 e
  obtain ⟨q', cap, rfl, f2⟩ := asN_iff.1 f1
  obtain ⟨g1, f3⟩ := guardB_iff.1 f2
  obtain ⟨g2, f4⟩ := guardB_iff.1 f3
  rw [newR_eq] at f4
  obtain ⟨rfl, rfl, rfl⟩ := r1_iff.1 f4
  have g1 : len ≤ cap := by rw [Nat.ble_eq] at g1; exact g1
  have g2 : cap ≤ 65536 := by rw [Nat.ble_eq] at g2; exact g2
  have hq := vr_i (eval_ok hx ht hg e1)
  have hq' := vr_i (eval_ok hy ht hg e2)
  have hel : elemOf? P ty = some el := by unfold elemOf?; rw [hty]
  rw [hel] at hz
  have hzv : chkVs z zv.cells.toList = true ∧ z.all one = true := by
    simp only [zIs, hi1, Option.bind_some, hzi, Bool.and_eq_true] at hz; exact hz
  have hbig : ((i.bytes : Int) * (cap : Int)) ≤ 68719476736 := by
    have : i.bytes * cap ≤ 1048576 * 65536 := Nat.mul_le_mul hby g2
    have h2 : ((i.bytes * cap : Nat) : Int) = (i.bytes : Int) * (cap : Int) := by simp
    omega
  have hwl : IntKind.i64.wrap (len : Int) = len := inR_wrap .i64 _ (Nat.ble_eq ▸ (by show len ≤ 9223372036854775807; omega))
  have hwc : IntKind.i64.wrap (cap : Int) = cap := inR_wrap .i64 _ (Nat.ble_eq ▸ (by show cap ≤ 9223372036854775807; omega))
  have hsz : zv.cells.size = i.size := hzs
  refine ⟨_, rfl, rfl, fun w => ?_⟩
  have hcells : ∃ arr : Array Value, arr.toList = (List.range (cap * i.size)).map (fun j => zv.cells[j % zv.cells.size]!) ∧ (Instr.makeSlice ty (.int q len) (.int q' cap)).run P w = .ok (.slice (some ⟨w.heap.size, 0, none⟩) len cap) (w.alloc (.cells arr el)) := by
    by_cases h0 : cap * i.size = 0
    · refine ⟨#[], by rw [h0]; rfl, ?_⟩
      simp only [Instr.makeSlice, run_underlying hty, asInt, asIntOf, typeInfo, hi1, Sem.run_bind, Sem.run_pure, Result.andThen_ok, run_program, hwl, hwc, Int.toNat_natCast]
      rw [if_neg (by simp; omega)]
      simp [newRow, Array.range_zero', h0, run_sizeOf hi1]
    · refine ⟨((Array.range (cap * i.size)).map (zv.cells[· % zv.cells.size]!)), by simp, ?_⟩
      simp only [Instr.makeSlice, run_underlying hty, asInt, asIntOf, typeInfo, hi1, Sem.run_bind, Sem.run_pure, Result.andThen_ok, run_program, hwl, hwc, Int.toNat_natCast]
      rw [if_neg (by simp; omega)]
      simp [newRow, h0, zeroValue, typeInfo, hi1, hzi, run_sizeOf hi1]
  obtain ⟨arr, d1, d2⟩ := hcells
  refine ⟨.cells arr el, w.alloc (.cells arr el), .slice (some ⟨w.heap.size, 0, none⟩) len cap, 0, ?_, rfl, ⟨rfl, rfl, rfl⟩, fun φ' hs hm hc => ⟨?_, .sl _ _ _ _ _ _ _ hm g1 (Nat.le_refl _) (fun _ => rfl) (fun q => by cases q)⟩⟩
  · simp only [execOp, ho, hq, hq', Sem.run_bind, d2, Result.andThen_ok, Sem.run_pure]
  · have hzl : z.length = i.size := by rw [(chkVs_ok φ' hzv.1).length]; simpa using hsz
    have hrv := reps_vrs z zv.cells (chkVs_ok φ' hzv.1) cap
    rw [hsz] at hrv
    refine row_new (hrv) (reps_one _ _ hzv.2) (by rw [reps_length, hzl]) ?_ (fun j _ => ?_) el (0, 0) (no_frz _) 0 (no_cap _ _)
    · rw [← Array.length_toList, d1]; simp
    · rw [← Array.getElem?_toList, d1, hsz]

/-! ### operations that turn memory -/
def SoundM (P : Program) (cr : Nat → AC → Code → Prop) (o : Oper) (x : AOp) : Prop :=
  ∀ {φ : Phi} {N : Nat} {t : Tr AV} {a : Act} {cl : Cl} {clv : Clv} {h : Tr AO} {n : List Bool} {v : AV} {h' : Tr AO} {n' : List Bool} {w : World},
    TM φ N t a.tmps → GL φ → WR cr φ h.getP w → Fresh φ n → exec cl clv t h n x = some ⟨v, h', n'⟩ → OpOk P cr φ h.getP n w (execOp a.eval o) v h'.getP n'
theorem SoundR.m {x : AOp} (s : SoundR P cr o x) : SoundM P cr o x := by
  intro φ N t a cl clv h n v h' n' w ht hg r f e
  obtain ⟨rfl, rfl, v', h3, h4⟩ := s ht hg r e
  exact OpOk.pure r f h4 h3
theorem St.congr {φ φ' : Phi} {h h' : Hp} {n n' : List Bool} {w w' w'' : World} (s : St cr φ h n w φ' h' n' w') (e : w''.heap = w'.heap) (a : Ax w w'') : St cr φ h n w φ' h' n' w'' :=
  ⟨⟨fun b o β p q => by rw [e]; exact s.wr.blk b o β p q, s.wr.inj, fun q hq => by rw [e]; exact s.wr.fx q hq⟩, s.fr, s.sub, a, by rw [e]; exact s.size, fun β p q => by rw [e]; exact s.old β p q, s.new, s.stay, s.le⟩
theorem SoundA.m {x : AOp} (s : SoundA P cr o x) : SoundM P cr o x := by
  intro φ N t a cl clv h n v h' n' w ht hg r f e
  obtain ⟨ob, rfl, rfl, k⟩ := s ht hg e
  obtain ⟨y, w', v', K, h1, h2, h3, h4⟩ := k w
  obtain ⟨o1, o2⟩ := h4 (φ.set n w.heap.size K) (f.sub _ _) (Phi.set_at _ _ _ _) (Phi.set_cap _ _ _ _)
  refine ⟨.value v', v', φ.set n w.heap.size K, w', h1, rfl, o2, ?_⟩
  have := (St.alloc r f ob y K o1).congr (w'' := w') (by rw [h2]; rfl) h3
  have hg : (h.setP n (some ob)).getP = upd (fun b => h.getP b) n (some ob) := getP_upd h n (some ob)
  rw [show (fun b => (h.setP n (some ob)).getP b) = upd (fun b => h.getP b) n (some ob) from hg]
  exact this
theorem setH_eq {h : Tr AO} {b : List Bool} {x : Option AO} {k : Tr AO → Option β} : setH h b x k = k (h.setP b x) := by unfold setH; rw [forceT_eq]
theorem hp_set (h : Tr AO) (b : List Bool) (x : Option AO) : (fun c => (h.setP b x).getP c) = upd (fun c => h.getP c) b x := getP_upd h b x
theorem setCells_heap {γ : Nat} {e : TypeId} {fz : Nat × Nat} : ∀ (vs : List Value) (off : Nat) (w : World) (cs : Array Value), w.heap[γ]? = some (.cells cs e fz) → off + vs.length ≤ cs.size →
    ∃ cs', (w.setCells γ off vs).heap[γ]? = some (.cells cs' e fz) ∧ cs'.size = cs.size ∧ Turned cs cs' off vs ∧ (∀ k, k ≠ γ → (w.setCells γ off vs).heap[k]? = w.heap[k]?) ∧ (w.setCells γ off vs).heap.size = w.heap.size ∧ Ax w (w.setCells γ off vs) := by
  intro vs
  induction vs with
  | nil => intro off w cs h _; exact ⟨cs, h, rfl, fun j => by rw [if_neg (by simp)], fun _ _ => rfl, rfl, .refl w⟩
  | cons v vs ih =>
    intro off w cs h hl
    simp only [List.length_cons] at hl
    have h1 : (w.setCell ⟨γ, off, none⟩ v).heap[γ]? = some (.cells (cs.setIfInBounds off v) e fz) := by
      simp [World.setCell, Array.getElem?_modify, h]
    obtain ⟨cs', a1, a2, a3, a4, a5, a6⟩ := ih (off + 1) (w.setCell ⟨γ, off, none⟩ v) (cs.setIfInBounds off v) h1 (by rw [Array.size_setIfInBounds]; omega)
    refine ⟨cs', a1, by rw [a2]; simp, fun j => ?_, fun k hk => ?_, ?_, ?_⟩
    · rw [a3]
      by_cases c : off + 1 ≤ j ∧ j < off + 1 + vs.length
      · rw [if_pos c, if_pos (by simp only [List.length_cons]; omega)]
        have : j - off = (j - (off + 1)) + 1 := by omega
        rw [this, List.getElem?_cons_succ]
      · rw [if_neg c]
        by_cases c2 : off = j
        · subst c2
          rw [if_pos (by simp only [List.length_cons]; omega)]
          have : off < cs.size := by omega
          simp [this]
        · rw [if_neg (by simp only [List.length_cons]; omega)]
          simp [c2]
    · show ((w.setCell ⟨γ, off, none⟩ v).setCells γ (off + 1) vs).heap[k]? = _
      rw [a4 k hk]
      simp only [World.setCell, Array.getElem?_modify]
      rw [if_neg (fun e => hk e.symm)]
    · show ((w.setCell ⟨γ, off, none⟩ v).setCells γ (off + 1) vs).heap.size = _
      rw [a5]; simp
    · exact Ax.trans (⟨rfl, rfl, rfl⟩ : Ax w (w.setCell ⟨γ, off, none⟩ v)) a6
theorem one_cell {φ : Phi} {v : AV} {v' : Value} (h : VR φ v v') (h1 : one v = true) : v'.oneCell' = true := by cases h <;> first | rfl | cases h1
theorem ones_cell {φ : Phi} : ∀ {vs : List AV} {vs' : List Value}, VRs φ vs vs' → vs.all one = true → ∀ u ∈ vs', u.oneCell' = true
  | _, _, .nil, _, u, hu => by simp at hu
  | _, _, .cons v v' vs vs' h hs, h1, u, hu => by
    rw [List.all_cons, Bool.and_eq_true] at h1
    rcases List.mem_cons.1 hu with rfl | hu
    · exact one_cell h h1.1
    · exact ones_cell hs h1.2 u hu
theorem und_vr (φ : Phi) : VR φ und undef := .t _ _ .nil
theorem sm_store {ty : TypeId} {k : Nat} {x y : Operand} {x' y' : Opd} (ho : o.op = .store ty x y) (hs : szIs P ty k = true) (hk : 1 ≤ k) (hx : chkX x x' = true) (hy : chkX y y' = true) : SoundM P cr o (.store k x' y') := by
  obtain ⟨i, hi1, rfl⟩ := szIs_eq hs
  intro φ N t a cl clv h n v h' n' w ht hg r f e
  obtain ⟨u1, e1, e⟩ := ob_iff.1 e
  obtain ⟨u2, e2, e⟩ := ob_iff.1 e
  obtain ⟨b, off, rfl, f1⟩ := asP_iff.1 e
  obtain ⟨z, m, wr, c, g1, f2⟩ := row_iff.1 f1
  obtain ⟨g2, f3⟩ := guardB_iff.1 f2
  obtain ⟨g3, f4⟩ := guardB_iff.1 f3
  obtain ⟨g4, f5⟩ := guardB_iff.1 f4
  obtain ⟨c', f6, hst, hnn⟩ := storeC_ok f5
  rw [setH_eq] at f6
  obtain ⟨rfl, rfl, rfl⟩ := r1_iff.1 f6
  subst g2
  have g3 : (vc u2).length = i.size := by rw [Nat.beq_eq, llen_eq] at g3; exact g3
  have g4 : off + i.size ≤ m * z := by rw [Nat.ble_eq] at g4; exact g4
  obtain ⟨γ, hq, hφ⟩ := vr_p (eval_ok hx ht hg e1)
  have hv := eval_ok hy ht hg e2
  obtain ⟨c1, c2⟩ := vc_ok hv (by omega)
  obtain ⟨cs, ty', fz, d1, d2, d3, d4, d5, d6⟩ := r.row g1 hφ
  have hsz : (a.eval y).cells.toList.length = i.size := by rw [← c1.length]; exact g3
  obtain ⟨cs', s1, s2, s3, s4, s5, s6⟩ := setCells_heap (a.eval y).cells.toList off w cs d1 (by omega)
  refine ⟨.skip, undef, φ, w.setCells γ off (a.eval y).cells.toList, ?_, rfl, und_vr φ, ?_⟩
  · have hrun := run_storeCells_cells (P := P) γ off (a.eval y).cells.toList 0 w (fun j hj => by rw [cell_at d1, Array.getElem?_eq_getElem (by omega)]; rfl) (fun j hj => frozen_at d1 (d4 rfl) (by omega)) (ones_cell c1 c2)
    simp only [Nat.add_zero] at hrun
    have hsz2 : (a.eval y).cells.size = i.size := by simpa using hsz
    simp [execOp, ho, hq, Instr.storeAt, Instr.sureAddr, storeVar, run_sizeOf hi1, hsz2, hrun]
  · rw [hp_set]
    exact St.turn r f b _ _ γ (.cells cs' ty' fz) g1 hφ rfl rfl ⟨by rw [s2]; exact d2, hst d3 g3 c1 c2 s3, fun _ => by rw [s2]; exact d4 rfl, by rw [s2]; exact d5, hnn m g4 d6⟩ s6 s5 s1 s4
theorem run_getObj {γ : Nat} {x : Obj} {w : World} (h : w.heap[γ]? = some x) (hc : ∀ cs e fz, x ≠ .cells cs e fz) : (getObj γ).run P w = .ok x w := by
  simp only [getObj, Sem.run, h]
theorem run_setObj {γ : Nat} {x y : Obj} {w : World} (h : w.heap[γ]? = some x) (hc : ∀ cs e fz, x ≠ .cells cs e fz) : (setObj γ y).run P w = .ok () { w with heap := w.heap.setIfInBounds γ y } := by
  simp only [setObj, Sem.run, h]
theorem set_facts {γ : Nat} {x y : Obj} {w : World} (h : w.heap[γ]? = some x) : ({ w with heap := w.heap.setIfInBounds γ y } : World).heap[γ]? = some y ∧ (∀ k, k ≠ γ → ({ w with heap := w.heap.setIfInBounds γ y } : World).heap[k]? = w.heap[k]?) ∧ ({ w with heap := w.heap.setIfInBounds γ y } : World).heap.size = w.heap.size := by
  have hlt : γ < w.heap.size := (Array.getElem?_eq_some_iff.1 h).1
  refine ⟨by simp [hlt], fun k hk => ?_, by simp⟩
  simp only []
  rw [Array.getElem?_setIfInBounds, if_neg (fun e => hk e.symm)]
theorem sm_nxtS {x : Operand} {x' : Opd} (ho : o.op = .next x true) (hx : chkX x x' = true) : SoundM P cr o (.nxtS x') := by
  intro φ N t a cl clv h n v h' n' w ht hg r f e
  obtain ⟨u1, e1, e⟩ := ob_iff.1 e
  obtain ⟨b, off, rfl, f0⟩ := asP_iff.1 e
  obtain ⟨g0, f1⟩ := guardB_iff.1 f0
  have g0 : off = 0 := by rw [Nat.beq_eq] at g0; exact g0
  subst g0
  obtain ⟨ob, g1, f2⟩ := ob_iff.1 f1
  obtain ⟨γ, hq, hφ⟩ := vr_p (eval_ok hx ht hg e1)
  obtain ⟨ox, d1, d2⟩ := r.blk b ob γ g1 hφ
  cases ob <;> first | (cases f2; done) | skip
  rename_i l pos
  cases ox <;> first | exact d2.elim | skip
  rename_i s p
  obtain ⟨hp, hl⟩ := (d2 : p = pos ∧ (bytesN s).drop pos = l)
  subst hp
  have f2 : @List.rec Nat (fun _ => Option R1) (r1 (.t [.b false]) h n) (fun _ _ _ => dec l fun r w => forceN (Nat.add p w) fun p' => setH h b (some (.it (ldrop w l) p')) fun h => r1 (.t [.b true, .i .i64 (Int.ofNat p), .i .i32 (Int.ofNat r)]) h n) l = some ⟨v, h', n'⟩ := f2
  have hnc : ∀ cs e fz, Obj.stringIter s p ≠ .cells cs e fz := fun _ _ _ q => by cases q
  have hgo := run_getObj (P := P) d1 hnc
  cases hll : l with
  | nil =>
    rw [hll] at f2
    obtain ⟨rfl, rfl, rfl⟩ := r1_iff.1 f2
    have hp : ¬ p < s.size := by
      have := congrArg List.length (hl.trans hll); rw [List.length_drop, bytesN_length] at this; simp at this; omega
    refine OpOk.pure r f (v' := .tuple #[.bool false]) ?_ (.t _ _ (.cons _ _ _ _ (.b _) .nil))
    simp [execOp, ho, hq, Instr.next, hgo, hp]
  | cons y ys =>
    have f3 : dec l (fun r w => forceN (Nat.add p w) fun p' => setH h b (some (.it (ldrop w l) p')) fun h => r1 (.t [.b true, .i .i64 (Int.ofNat p), .i .i32 (Int.ofNat r)]) h n) = some ⟨v, h', n'⟩ := by
      rw [hll] at f2 ⊢; exact f2
    rw [← hl, dec_eq, forceN_eq, setH_eq, ldrop_eq, List.drop_drop] at f3
    obtain ⟨rfl, rfl, rfl⟩ := r1_iff.1 f3
    have hp : p < s.size := by
      have := congrArg List.length (hl.trans hll); rw [List.length_drop, bytesN_length] at this; simp at this; omega
    have hso := run_setObj (P := P) (y := .stringIter s (p + (Utf8.decode s p).2)) d1 hnc
    obtain ⟨q1, q2, q3⟩ := set_facts (y := .stringIter s (p + (Utf8.decode s p).2)) d1
    refine ⟨.value (.tuple #[.bool true, goInt p, .int .i32 (Utf8.decode s p).1]), _, φ, { w with heap := w.heap.setIfInBounds γ (.stringIter s (p + (Utf8.decode s p).2)) }, ?_, rfl, .t _ _ (.cons _ _ _ _ (.b _) (.cons _ _ _ _ (.i _ _) (.cons _ _ _ _ (.i _ _) .nil))), ?_⟩
    · simp only [execOp, ho, hq, Instr.next, Sem.run_bind, hgo, Result.andThen_ok, hp, if_true, hso, Sem.run_pure]
    · rw [hp_set]
      exact St.turn r f b _ _ γ (.stringIter s (p + (Utf8.decode s p).2)) g1 hφ rfl rfl ⟨rfl, rfl⟩ ⟨rfl, rfl, rfl⟩ q3 q1 q2
end Go.Ev
end
