/- The plain model, part 6: one step, then many steps, then whole runs carried by the relation of the two runs. Conditions: those that each theorem states. -/
import Derived.Test.YtkhnnbfgjfkfeaaGreatDoorKEvE
import Derived.RangeFuncRecord
import Derived.Laws.StandIn
import Derived.OrdersIn
section
namespace Go.Ev
open Go.RowKit
open Tr (path)
variable {P : Program} {D : DrChk} {β : Type} {tab : Tr AFn} {ih : Run}

/-- where a byte first stands, by the machine's own -/
structure NatOk (P : Program) (g : Nat) : Prop where
  ok : ∃ fn, P.funcs[g]? = some fn ∧ (fn.name == "runtime.NumGoroutine") = false ∧ fn.body.isNone = true ∧ Extern.findNext fn = none ∧ Extern.find fn = some Extern.BytealgIndexByte.indexByte
/-- what another proof tells of a function -/
def OrcOk (P : Program) (cr : Nat → AC → Code → Prop) (g : Nat) (f : List AV → Tr AO → List Bool → Option R1) : Prop :=
  ∀ {F : Fence}, Open F → ∀ {vs : List AV} {h : Tr AO} {n : List Bool} {v : AV} {h' : Tr AO} {n' : List Bool} {φ : Phi} {w : World} {vs' : Array Value}, f vs h n = some ⟨v, h', n'⟩ → VRs φ vs vs'.toList → GL φ → WR cr φ h.getP w → Fresh φ n →
    (callFunc g vs').run P w = .ok (.enter g vs') w ∧ CallsIn F 0 P g vs' w fun e w' => ∃ v', e = .returned v' ∧ ∃ φ', VR φ' v v' ∧ St cr φ h.getP n w φ' h'.getP n' w'
def EntOk (P : Program) (D : DrChk) (g : Nat) : AFn → Prop
  | .go ps rs c => chkGo P D g ps rs c = true
  | .xIndexByteString => NatOk P g
  | .orc f => OrcOk P (crOf P D) g f
def TabOk (P : Program) (D : DrChk) (tab : Tr AFn) : Prop := ∀ g fn, tab.getP (path g) = some fn → EntOk P D g fn

theorem sfind_eq (c : Nat) : ∀ (l : List Nat) (k : Nat), sfind c l k = ((List.range l.length).find? fun i => l[i]? == some c).map (· + k) := by
  intro l
  induction l with
  | nil => intro k; rfl
  | cons a l ih =>
    intro k
    have e : sfind c (a :: l) k = @Bool.rec (fun _ => Option Nat) (forceN k fun n => tick (sfind c l (Nat.succ n))) (some k) (Nat.beq a c) := rfl
    rw [e, forceN_eq, tick_eq, ih, List.length_cons, List.range_succ_eq_map, List.find?_cons]
    by_cases h : a = c
    · subst h
      simp
    · have h1 : Nat.beq a c = false := by
        cases q : Nat.beq a c with
        | false => rfl
        | true => exact absurd (Nat.eq_of_beq_eq_true q) h
      have h2 : ((a :: l)[0]? == some c) = false := by simpa using h
      rw [h1, h2, List.find?_map]
      simp only [Option.map_map]
      congr 1
      · funext x; simp; omega
theorem bytesN_get (s : ByteArray) (i : Nat) : (bytesN s)[i]? = (s.data[i]?).map UInt8.toNat := by simp [bytesN]
theorem nat_ok {g : Nat} (hn : NatOk P g) {vs : List AV} {h : Tr AO} {n : List Bool} {v : AV} {h' : Tr AO} {n' : List Bool} {φ : Phi} {vs' : Array Value} (e : callFn ih .xIndexByteString vs h n = some ⟨v, h', n'⟩) (hv : VRs φ vs vs'.toList) (w : World) :
    h = h' ∧ n = n' ∧ ∃ v', (callFunc g vs').run P w = .ok (.value v') w ∧ VR φ v v' := by
  obtain ⟨fn, h1, h2, h3, h4, h5⟩ := hn.ok
  cases vs with
  | nil => cases e
  | cons x vs => cases vs with
    | nil => cases e
    | cons y vs => cases vs with
      | cons z vs => cases e
      | nil =>
        have e : asS x (fun l => asI y fun k c => guardB (Nat.beq (kix k) (nat_lit 4)) (nn1 c fun c => guardB (Nat.ble c (nat_lit 255)) (r1o (@Option.rec Nat (fun _ => Option AV) (some (.i .i64 (Int.negSucc (nat_lit 0)))) (fun k => mkN k) (sfind c l (nat_lit 0))) h n))) = some ⟨v, h', n'⟩ := e
        obtain ⟨l, rfl, e⟩ := asS_iff.1 e
        obtain ⟨k, c, rfl, e⟩ := asI_iff.1 e
        obtain ⟨e1, e⟩ := guardB_iff.1 e
        obtain ⟨c, rfl, e⟩ := nn1_iff.1 e
        obtain ⟨e2, e⟩ := guardB_iff.1 e
        obtain ⟨e3, rfl, rfl⟩ := r1o_iff.1 e
        have hk : k = .u8 := kix_inj (k' := .u8) e1
        subst hk
        have hc : c ≤ 255 := Nat.le_of_ble_eq_true e2
        have hvl : vs'.toList = [vs'.toList[0]!, vs'.toList[1]!] ∧ VR φ (.s l) vs'.toList[0]! ∧ VR φ (.i .u8 c) vs'.toList[1]! := by
          generalize vs'.toList = q at hv ⊢
          cases hv with
          | cons _ a _ q h1 h2 => cases h2 with
            | cons _ b _ q h2 h3 => cases h3 with
              | nil => exact ⟨rfl, h1, h2⟩
        obtain ⟨q1, q2, q3⟩ := hvl
        obtain ⟨s, q4, rfl⟩ := vr_s q2
        have q5 := vr_i q3
        rw [q4, q5] at q1
        have hvs : vs' = #[.string s, .int .u8 c] := by rw [← Array.toList_inj]; exact q1
        refine ⟨rfl, rfl, .int .i64 (firstIdx s (c : Int).toNat.toUInt8), ?_, ?_⟩
        · rw [run_callFunc_indexByte h1 h2 h3 h4 h5, hvs, run_indexByte_string, Result.andThen_ok]
        · have hf : (List.range s.size).find? (fun i => s[i]! == (c : Int).toNat.toUInt8) = (List.range (bytesN s).length).find? (fun i => (bytesN s)[i]? == some c) := by
            have hl : (bytesN s).length = s.size := by simp [bytesN]
            rw [hl]
            have : ∀ (xs : List Nat), (∀ i ∈ xs, i < s.size) → xs.find? (fun i => s[i]! == (c : Int).toNat.toUInt8) = xs.find? (fun i => (bytesN s)[i]? == some c) := by
              intro xs
              induction xs with
              | nil => intro _; rfl
              | cons i xs ih =>
                intro hx
                have hi := hx i List.mem_cons_self
                rw [List.find?_cons, List.find?_cons, ih (fun j hj => hx j (List.mem_cons_of_mem _ hj))]
                have hg : (bytesN s)[i]? = some (s[i]!).toNat := by
                  rw [bytesN_get]
                  have : i < s.data.size := hi
                  simp only [Array.getElem?_eq_getElem this, Option.map_some]
                  congr 2
                  simp [hi]
                  rfl
                rw [hg]
                have hb : (s[i]! == (c : Int).toNat.toUInt8) = (some (s[i]!).toNat == some c) := by
                  have h256 : (c : Int).toNat.toUInt8.toNat = c := by simp; omega
                  rw [Bool.eq_iff_iff]
                  simp only [beq_iff_eq, Option.some.injEq]
                  constructor
                  · intro q; rw [q, h256]
                  · intro q; rw [← UInt8.toNat_inj, h256]; exact q
                rw [hb]
            exact this _ (fun i hi => by simpa using hi)
          rw [sfind_eq] at e3
          unfold firstIdx
          rw [hf]
          cases q : (List.range (bytesN s).length).find? (fun i => (bytesN s)[i]? == some c) with
          | none =>
            rw [q] at e3
            cases e3
            exact .i _ _
          | some i =>
            rw [q] at e3
            have e3 : mkN (i + 0) = some v := e3
            rw [mkN_eq] at e3
            cases e3
            exact .i _ _
theorem InvOk.mono {F : Fence} {t : Target} {args : Array Value} {w : World} {R R' : Value → World → Prop} (h : InvOk P F t args w R) (k : ∀ v w, R v w → R' v w) : InvOk P F t args w R' := by
  rcases h with ⟨v', w', h1, h2⟩ | ⟨f, as, w1, h1, h2⟩ | ⟨l, f, tmps, x, y, w1, h1, h2⟩
  · exact .inl ⟨v', w', h1, k _ _ h2⟩
  · exact .inr (.inl ⟨f, as, w1, h1, h2.mono fun e w' ⟨v', a, b⟩ => ⟨v', a, k _ _ b⟩⟩)
  · exact .inr (.inr ⟨l, f, tmps, x, y, w1, h1, h2.mono fun e w' ⟨v', a, b⟩ => ⟨v', a, k _ _ b⟩⟩)
/-- an entry of the table, called -/
theorem fn_ok {F : Fence} (hF : Open F) (hr : RunOk P D ih) {g : Nat} {fn : AFn} (hc : EntOk P D g fn) {vs : List AV} {h : Tr AO} {n : List Bool} {v : AV} {h' : Tr AO} {n' : List Bool} (e : callFn ih fn vs h n = some ⟨v, h', n'⟩)
    {φ : Phi} {w : World} {cap args vs' : Array Value} (ha : args ++ cap = vs') (hv : VRs φ vs vs'.toList) (hg : GL φ) (r : WR (crOf P D) φ h.getP w) (f : Fresh φ n) :
    InvOk P F (.fn (.func g) cap) args w fun v' w' => ∃ φ', VR φ' v v' ∧ St (crOf P D) φ h.getP n w φ' h'.getP n' w' := by
  cases fn with
  | go ps rs c =>
    obtain ⟨h1, h2⟩ := go_ok hF hr hc e hv hg r f
    exact .inr (.inl ⟨g, vs', w, by simp only [invoke, ha]; exact h1, h2⟩)
  | orc q =>
    obtain ⟨h1, h2⟩ := hc hF (e : q vs h n = some _) hv hg r f
    exact .inr (.inl ⟨g, vs', w, by simp only [invoke, ha]; exact h1, h2⟩)
  | xIndexByteString =>
    obtain ⟨rfl, rfl, v', h1, h2⟩ := nat_ok (P := P) hc e hv w
    exact .inl ⟨v', w, by simp only [invoke, ha]; exact h1, φ, h2, St.refl r f⟩
theorem callG_ok (ht : TabOk P D tab) (hr : RunOk P D ih) : ∀ F, Open F → ClOk P (crOf P D) F (callG tab ih) := by
  intro F hF g vs h n v h' n' φ w vs' e hv hg r f
  obtain ⟨fn, e1, e2⟩ := ob_iff.1 (e : ob (tab.getP (path g)) (fun fn => tick (callFn ih fn vs h n)) = some _)
  rw [tick_eq] at e2
  exact fn_ok hF hr (ht g fn e1) e2 (by simp) hv hg r f
theorem asF_iff {v : AV} {k : Nat → List AV → List AV → Option β} {ky : List Bool → Option β} {r : β} : asF v k ky = some r ↔ (∃ g x y, v = .f g x y ∧ k g x y = some r) ∨ ∃ l, v = .y l ∧ ky l = some r := by
  constructor
  · intro e; cases v <;> first | exact .inl ⟨_, _, _, rfl, e⟩ | exact .inr ⟨_, rfl, e⟩ | cases e
  · rintro (⟨g, x, y, rfl, e⟩ | ⟨l, rfl, e⟩) <;> exact e
theorem callV_ok (ht : TabOk P D tab) (hr : RunOk P D ih) : ∀ F, Open F → ClvOk P (crOf P D) F (callV tab ih) := by
  intro F hF u vs h n v h' n' φ w u' vs' e hu hv hg r f
  rcases asF_iff.1 (e : asF u (fun g x y => ob (tab.get g) fun fn => tick (callFn ih fn (lapp x (lapp vs y)) h n)) (fun l => tick (roundY ih l vs h n)) = some _) with ⟨g, x, y, rfl, e'⟩ | ⟨l, rfl, e'⟩
  · clear e
    obtain ⟨fn, e1, e2⟩ := ob_iff.1 e'
    rw [Tr.get_eq] at e1
    rw [tick_eq, lapp_eq, lapp_eq] at e2
    cases hu
    rename_i x' y' hx hy
    refine ⟨{ target := .fn (.func g) y', args := x' ++ vs' }, by simp [Deferred.ofValue], ?_⟩
    refine fn_ok hF hr (ht g fn e1) e2 (vs' := x' ++ vs' ++ y') rfl ?_ hg r f
    rw [Array.toList_append, Array.toList_append, List.append_assoc]
    exact hx.append (hv.append hy)
  · clear e
    rw [tick_eq] at e'
    cases hu
    rename_i γ hγ
    refine ⟨{ target := .fn (.yield γ) #[], args := #[] ++ vs' }, by simp [Deferred.ofValue], ?_⟩
    have := round_ok hF hr e' hγ hv hg r f
    simpa using this

/-! ### a range over a function -/
theorem chkPs_ok {N : Nat} : ∀ {qs : List Tmp} {ps : List (List Bool)}, chkPs N qs ps = true → ps = qs.map path ∧ ∀ i ∈ qs, i < N
  | [], [], _ => ⟨rfl, by simp⟩
  | [], _ :: _, h => by cases h
  | _ :: _, [], h => by cases h
  | q :: qs, p :: ps, h => by
    simp only [chkPs, Bool.and_eq_true, decide_eq_true_eq] at h
    obtain ⟨a, b⟩ := chkPs_ok h.2
    exact ⟨by rw [chkP_eq h.1.1, a]; rfl, by simpa using ⟨h.1.2, b⟩⟩
theorem lsC_ne : ∀ s : LS, s ≠ .busy → lsC s ≠ .busy := by intro s; cases s <;> simp [lsC]
theorem pend_ok {F : Fence} {p : Option Ex} {c : Option Code} (hp : PR p c) {Q : Exit → Act → World → Prop} {a : Act} {w : World} (fin : Q (exE (@Option.rec Ex (fun _ => Ex) .nrm (fun e => e) p)) a w) :
    (match (generalizing := false) c with | none => Q .normal a w | some c => c.wpIn F 0 P Q a w) := by
  cases p with
  | none =>
    have hp : c = none := hp
    subst hp; exact fin
  | some e0 =>
    obtain ⟨c', hc1, hc2⟩ := hp
    subst hc2
    cases e0 with
    | nrm => cases hc1
    | ex i => cases hc1; exact wpIn_exit fin
    | ret => cases hc1; exact wpIn_ret fin
theorem isGo_eq {fn : AFn} (h : isGo fn = true) : ∃ ps rs c, fn = .go ps rs c := by cases fn <;> first | exact ⟨_, _, _, rfl⟩ | cases h
theorem rf_ok (ht : TabOk P D tab) (hr : RunOk P D ih) : RfOk P D tab ih := by
  intro F N fo ps x y code t h n ds e t' h' n' ds' hF hro hc q a φ w Q htm hg r f hd k
  cases code <;> first | (cases hc; done) | skip
  rename_i g qs ca cb
  simp only [chkC, Bool.and_eq_true] at hc
  obtain ⟨⟨⟨c1, c2⟩, c3⟩, c4⟩ := hc
  obtain ⟨rfl, hlt⟩ := chkPs_ok c2
  have q : ob (ev t fo) (fun v => newB h n .df fun b h n => newB h n (.lp .ready none t (qs.toList.map path) x y) fun l h n =>
      ob (callK tab ih v l h n) fun r => @R1.rec (fun _ => Option Rs) (fun _ h n => ob (h.getP l) fun o => @AO.rec (fun _ => Option Rs) (fun _ _ _ _ => none) (fun _ _ => none) (fun _ _ => none)
        (fun st p t0 ps x y => @LS.rec (fun _ => Option Rs)
          (setH h l (some (.lp .exhausted p t0 ps x y)) fun h => some ⟨@Option.rec Ex (fun _ => Ex) .nrm (fun e => e) p, t, h, n, b :: ds⟩) none
          (setH h l (some (.lp .exhausted p t0 ps x y)) fun h => some ⟨@Option.rec Ex (fun _ => Ex) .nrm (fun e => e) p, t, h, n, b :: ds⟩) none st) none o) r) = some ⟨e, t', h', n', ds'⟩ := q
  obtain ⟨v, q1, q⟩ := ob_iff.1 q
  rw [newB_eq, newB_eq] at q
  obtain ⟨⟨u, h3, n3⟩, q2, q⟩ := ob_iff.1 q
  obtain ⟨o, ho, q⟩ := ob_iff.1 q
  cases o <;> first | (cases q; done) | skip
  rename_i st p t0 ps0 x0 y0
  have key : st ≠ .busy ∧ setH h3 (inc n) (some (.lp .exhausted p t0 ps0 x0 y0)) (fun h => some (Rs.mk (@Option.rec Ex (fun _ => Ex) .nrm (fun e => e) p) t h n3 (n :: ds))) = some (Rs.mk e t' h' n' ds') := by
    cases st <;> first | (cases q; done) | exact ⟨(fun z => by cases z), q⟩
  obtain ⟨hst, q⟩ := key
  rw [setH_eq] at q
  cases q
  -- the function
  rcases asF_iff.1 (q2 : asF v (fun g x y => ob (tab.get g) fun fn => guardB (isGo fn) (tick (callFn ih fn (lapp x (lapp [.y (inc n)] y)) _ _))) (fun _ => none) = some _) with ⟨g0, xs, ys, rfl, q3⟩ | ⟨l, _, q3⟩
  case inr => cases q3
  obtain ⟨fn, q4, q5⟩ := ob_iff.1 q3
  obtain ⟨q6, q7⟩ := guardB_iff.1 q5
  rw [Tr.get_eq] at q4
  rw [tick_eq, lapp_eq, lapp_eq] at q7
  obtain ⟨fps, frs, fc, rfl⟩ := isGo_eq q6
  have hgo : chkGo P D g0 fps frs fc = true := ht g0 _ q4
  have hv := eval_ok (a := a) c1 htm hg q1
  obtain ⟨xs', ys', hev, hxs, hys⟩ : ∃ xs' ys', a.eval g = .func (.func g0) xs' ys' ∧ VRs φ xs xs'.toList ∧ VRs φ ys ys'.toList := by
    generalize a.eval g = z at hv
    cases hv
    exact ⟨_, _, rfl, by assumption, by assumption⟩
  refine wpIn_rangeFunc fun fid hfid => ?_
  rw [hro]
  -- the two blocks
  have s1 : St (crOf P D) φ h.getP n w (φ.set n w.heap.size 0) (h.setP n (some .df)).getP (inc n) (w.alloc (.deferred (some []))) := by
    rw [hp_set]; exact St.alloc r f .df (.deferred (some [])) 0 rfl
  obtain ⟨w1, hw1⟩ : ∃ w1, w1 = w.alloc (.deferred (some [])) := ⟨_, rfl⟩
  rw [← hw1] at s1
  have hsz1 : w1.heap.size = w.heap.size + 1 := by rw [hw1]; simp
  obtain ⟨L, hL⟩ : ∃ L : Loop, L = { state := .ready, pending := none, fn := fid, tmps := a.tmps, params := qs, assign := ca, body := cb, defers := w.heap.size } := ⟨_, rfl⟩
  have s2 : St (crOf P D) (φ.set n w.heap.size 0) (h.setP n (some .df)).getP (inc n) w1 ((φ.set n w.heap.size 0).set (inc n) w1.heap.size 0) ((h.setP n (some .df)).setP (inc n) (some (.lp .ready none t (qs.toList.map path) x y))).getP (inc (inc n)) (w1.alloc (.loop L)) := by
    rw [hp_set (h.setP n (some .df)) (inc n)]
    have hsub := s1.fr.sub w1.heap.size 0
    exact St.alloc s1.wr s1.fr (.lp .ready none t (qs.toList.map path) x y) (.loop L) 0 ⟨N, by rw [hL]; exact (htm.sub s1.sub).sub hsub, by rw [hL]; exact c3, by rw [hL]; exact c4, by rw [hL], by rw [hL]; exact hlt, by rw [hL]; rfl, by rw [hL]; rfl⟩
  have s12 := s1.trans s2
  have hl2 : ((φ.set n w.heap.size 0).set (inc n) w1.heap.size 0) (inc n) = some (w.heap.size + 1) := by rw [Phi.set_at, hsz1]
  have hv2 : VRs ((φ.set n w.heap.size 0).set (inc n) w1.heap.size 0) (xs ++ ([.y (inc n)] ++ ys)) (xs' ++ #[Value.func (.yield (w.heap.size + 1)) #[] #[]] ++ ys').toList := by
    rw [Array.toList_append, Array.toList_append, List.append_assoc]
    refine (VRs.sub s12.sub hxs).append (VRs.append ?_ (VRs.sub s12.sub hys))
    exact .cons _ _ _ _ (.y _ _ hl2) .nil
  obtain ⟨g1, g2⟩ := go_ok (F := F) hF hr hgo q7 hv2 (hg.sub s12.sub) s12.wr s12.fr
  refine ⟨w.heap.size + 1, [{ target := .collected w.heap.size, args := #[] }], w1.alloc (.loop L), { target := .fn (.func g0) ys', args := xs' ++ #[.func (.yield (w.heap.size + 1)) #[] #[]] }, w1.alloc (.loop L), g0, xs' ++ #[.func (.yield (w.heap.size + 1)) #[] #[]] ++ ys', w1.alloc (.loop L), ?_, ?_, fun f' _ => hF.fn f', ?_, (fun z => by rw [hF.depth] at z; cases z), ?_⟩
  · rw [run_enterLoop_outer, hw1, hL]
  · have hcv : ∀ (a : Act) (v : Value), a.eval (.const v) = v := fun _ _ => rfl
    simp [resolve, hev, Deferred.ofValue, hcv]
  · simp only [invoke]; exact g1
  · refine g2.mono fun e w3 he => ?_
    obtain ⟨v', rfl, φ3, _, s3⟩ := he
    have st := s12.trans s3
    have hl3 : φ3 (inc n) = some (w.heap.size + 1) := s3.sub.at' _ _ hl2
    have hn3 : φ3 n = some w.heap.size := by
      refine s3.sub.at' _ _ (s2.sub.at' _ _ ?_); rw [Phi.set_at]
    obtain ⟨L3, N3, hw3, lr3⟩ := lp_read s3.wr ho hl3
    obtain ⟨t1, t2⟩ := lp_turn (P := P) s3.wr s3.fr ho hl3 hw3 (⟨lr3.tm, lr3.x, lr3.y, lr3.ps, lr3.lt, rfl, lr3.pd⟩ : LR (crOf P D) φ3 .exhausted p t0 ps0 x0 y0 { L3 with state := .exhausted } N3)
    have hnb : L3.state ≠ .busy := by rw [lr3.st]; exact lsC_ne _ hst
    have hend := Go.run_endLoop (P := P) hw3 hnb
    refine ⟨L3.pending, w3.putObj (w.heap.size + 1) (.loop { L3 with state := .exhausted }), hend, ?_⟩
    have fin := k φ3 { a with defers := { target := .collected w.heap.size, args := #[] } :: a.defers } (w3.putObj (w.heap.size + 1) (.loop { L3 with state := .exhausted })) (htm.sub st.sub) ⟨⟨w.heap.size, hn3, rfl⟩, hd.sub st.sub⟩ (st.trans t2)
    exact pend_ok lr3.pd fin
end Go.Ev
end
section
namespace Go.Ev
open Tr (path)
set_option linter.unusedSimpArgs false

def opdT : Opd → List (List Bool)
  | .t p => [p]
  | .c _ => []
def optT : Option Opd → List (List Bool)
  | none => []
  | some x => opdT x
def opdsT : List Opd → List (List Bool)
  | [] => []
  | x :: xs => opdT x ++ opdsT xs
def partsT : List (Nat × Nat × Opd) → List (List Bool)
  | [] => []
  | q :: qs => opdT q.2.2 ++ partsT qs
def usesOp : AOp → List (List Bool)
  | .mv a => opdT a
  | .pick a b c => opdT a ++ opdT b ++ opdT c
  | .new _ _ => []
  | .box _ b => opdT b
  | .build _ b => partsT b
  | .lit _ _ c => opdsT c
  | .load _ _ c => opdT c
  | .store _ b c => opdT b ++ opdT c
  | .nilck a => opdT a
  | .bin _ b c => opdT b ++ opdT c
  | .eqB _ b c => opdT b ++ opdT c
  | .eqN _ _ c d => opdT c ++ opdT d
  | .eqA _ _ c d => opdT c ++ opdT d
  | .un _ b => opdT b
  | .cvI _ b => opdT b
  | .cvId a => opdT a
  | .cvSB a => opdT a
  | .cvSR a => opdT a
  | .cvBS a => opdT a
  | .cvM a => opdT a
  | .iface _ b => opdT b
  | .func _ b c => opdsT b ++ opdsT c
  | .mkmap _ => []
  | .mkslice _ _ c d => opdT c ++ opdT d
  | .slS a b c => opdT a ++ optT b ++ optT c
  | .slL _ b c d e => opdT b ++ optT c ++ optT d ++ optT e
  | .slA _ _ c d e f => opdT c ++ optT d ++ optT e ++ optT f
  | .fa _ b => opdT b
  | .fd _ _ _ d => opdT d
  | .ixL _ b c => opdT b ++ opdT c
  | .ixA _ _ c d => opdT c ++ opdT d
  | .ixS a b => opdT a ++ opdT b
  | .ixV _ _ _ d e => opdT d ++ opdT e
  | .look _ _ c d _ => opdT c ++ opdT d
  | .mupd _ b c d => opdT b ++ opdT c ++ opdT d
  | .rngS a => opdT a
  | .nxtS a => opdT a
  | .ext a _ => opdT a
  | .len _ b => opdT b
  | .mnmx _ b => opdsT b
  | .app _ b c => opdT b ++ opdT c
  | .call _ b => opdsT b
  | .callv a b => opdT a ++ opdsT b

variable {t t' : Tr AV} {β : Type}
theorem ev_congr {x : Opd} (h : ∀ p ∈ opdT x, t.getP p = t'.getP p) : ev t x = ev t' x := by
  cases x with
  | t p => exact h p (by simp [opdT])
  | c v => rfl
theorem evO_congr {x : Option Opd} (h : ∀ p ∈ optT x, t.getP p = t'.getP p) (k : Option Nat → Option β) : evO t x k = evO t' x k := by
  cases x with
  | none => rfl
  | some x =>
    show ob (ev t x) (fun v => asN v fun n => k (some n)) = ob (ev t' x) (fun v => asN v fun n => k (some n))
    rw [ev_congr h]
theorem evs_congr {xs : List Opd} (h : ∀ p ∈ opdsT xs, t.getP p = t'.getP p) : obl (ev t) xs = obl (ev t') xs := by
  induction xs with
  | nil => rfl
  | cons x xs ih =>
    rw [obl_cons, obl_cons, ev_congr (fun p hp => h p (List.mem_append_left _ hp)), ih (fun p hp => h p (List.mem_append_right _ hp))]
theorem putP_congr {ps : List (Nat × Nat × Opd)} (h : ∀ p ∈ partsT ps, t.getP p = t'.getP p) : ∀ z, putP t ps z = putP t' ps z := by
  induction ps with
  | nil => intro z; rfl
  | cons q ps ih =>
    intro z
    obtain ⟨o, k, x⟩ := q
    have e : ∀ t : Tr AV, putP t ((o, k, x) :: ps) z = ob (ev t x) fun v => guardB (Nat.beq (llen (vc v)) k) (guardB (Nat.ble (Nat.add o k) (llen z)) (putP t ps (lput z o (vc v)))) := fun _ => rfl
    rw [e, e, ev_congr (fun p hp => h p (List.mem_append_left _ hp))]
    simp only [ih (fun p hp => h p (List.mem_append_right _ hp))]
theorem exec_congr {cl : Cl} {clv : Clv} {h : Tr AO} {n : List Bool} : ∀ {x : AOp}, (∀ p ∈ usesOp x, t.getP p = t'.getP p) → exec cl clv t h n x = exec cl clv t' h n x := by
  intro x hu
  cases x
  case mv a =>
    have ea := ev_congr (x := a) (fun p hp => hu p (by simp only [usesOp, List.mem_append]; simp [hp]))
    simp only [exec, ea]
  case pick a b c =>
    have ea := ev_congr (x := a) (fun p hp => hu p (by simp only [usesOp, List.mem_append]; simp [hp]))
    have eb := ev_congr (x := b) (fun p hp => hu p (by simp only [usesOp, List.mem_append]; simp [hp]))
    have ec := ev_congr (x := c) (fun p hp => hu p (by simp only [usesOp, List.mem_append]; simp [hp]))
    simp only [exec, ea, eb, ec]
  case new a b =>
    rfl
  case box a b =>
    have eb := ev_congr (x := b) (fun p hp => hu p (by simp only [usesOp, List.mem_append]; simp [hp]))
    simp only [exec, eb]
  case build a b =>
    have eb := putP_congr (ps := b) (fun p hp => hu p (by simp only [usesOp, List.mem_append]; simp [hp]))
    simp only [exec, eb]
  case lit a b c =>
    have ec := evs_congr (xs := c) (fun p hp => hu p (by simp only [usesOp, List.mem_append]; simp [hp]))
    simp only [exec, ec]
  case load a b c =>
    have ec := ev_congr (x := c) (fun p hp => hu p (by simp only [usesOp, List.mem_append]; simp [hp]))
    simp only [exec, ec]
  case store a b c =>
    have eb := ev_congr (x := b) (fun p hp => hu p (by simp only [usesOp, List.mem_append]; simp [hp]))
    have ec := ev_congr (x := c) (fun p hp => hu p (by simp only [usesOp, List.mem_append]; simp [hp]))
    simp only [exec, eb, ec]
  case nilck a =>
    have ea := ev_congr (x := a) (fun p hp => hu p (by simp only [usesOp, List.mem_append]; simp [hp]))
    simp only [exec, ea]
  case bin a b c =>
    have eb := ev_congr (x := b) (fun p hp => hu p (by simp only [usesOp, List.mem_append]; simp [hp]))
    have ec := ev_congr (x := c) (fun p hp => hu p (by simp only [usesOp, List.mem_append]; simp [hp]))
    simp only [exec, eb, ec]
  case eqB a b c =>
    have eb := ev_congr (x := b) (fun p hp => hu p (by simp only [usesOp, List.mem_append]; simp [hp]))
    have ec := ev_congr (x := c) (fun p hp => hu p (by simp only [usesOp, List.mem_append]; simp [hp]))
    simp only [exec, eb, ec]
  case eqN a b c d =>
    have ec := ev_congr (x := c) (fun p hp => hu p (by simp only [usesOp, List.mem_append]; simp [hp]))
    have ed := ev_congr (x := d) (fun p hp => hu p (by simp only [usesOp, List.mem_append]; simp [hp]))
    simp only [exec, ec, ed]
  case eqA a b c d =>
    have ec := ev_congr (x := c) (fun p hp => hu p (by simp only [usesOp, List.mem_append]; simp [hp]))
    have ed := ev_congr (x := d) (fun p hp => hu p (by simp only [usesOp, List.mem_append]; simp [hp]))
    simp only [exec, ec, ed]
  case un a b =>
    have eb := ev_congr (x := b) (fun p hp => hu p (by simp only [usesOp, List.mem_append]; simp [hp]))
    simp only [exec, eb]
  case cvI a b =>
    have eb := ev_congr (x := b) (fun p hp => hu p (by simp only [usesOp, List.mem_append]; simp [hp]))
    simp only [exec, eb]
  case cvId a =>
    have ea := ev_congr (x := a) (fun p hp => hu p (by simp only [usesOp, List.mem_append]; simp [hp]))
    simp only [exec, ea]
  case cvSB a =>
    have ea := ev_congr (x := a) (fun p hp => hu p (by simp only [usesOp, List.mem_append]; simp [hp]))
    simp only [exec, ea]
  case cvSR a =>
    have ea := ev_congr (x := a) (fun p hp => hu p (by simp only [usesOp, List.mem_append]; simp [hp]))
    simp only [exec, ea]
  case cvBS a =>
    have ea := ev_congr (x := a) (fun p hp => hu p (by simp only [usesOp, List.mem_append]; simp [hp]))
    simp only [exec, ea]
  case cvM a =>
    have ea := ev_congr (x := a) (fun p hp => hu p (by simp only [usesOp, List.mem_append]; simp [hp]))
    simp only [exec, ea]
  case iface a b =>
    have eb := ev_congr (x := b) (fun p hp => hu p (by simp only [usesOp, List.mem_append]; simp [hp]))
    simp only [exec, eb]
  case func a b c =>
    have eb := evs_congr (xs := b) (fun p hp => hu p (by simp only [usesOp, List.mem_append]; simp [hp]))
    have ec := evs_congr (xs := c) (fun p hp => hu p (by simp only [usesOp, List.mem_append]; simp [hp]))
    simp only [exec, eb, ec]
  case mkmap a =>
    rfl
  case mkslice a b c d =>
    have ec := ev_congr (x := c) (fun p hp => hu p (by simp only [usesOp, List.mem_append]; simp [hp]))
    have ed := ev_congr (x := d) (fun p hp => hu p (by simp only [usesOp, List.mem_append]; simp [hp]))
    simp only [exec, ec, ed]
  case slS a b c =>
    have ea := ev_congr (x := a) (fun p hp => hu p (by simp only [usesOp, List.mem_append]; simp [hp]))
    have eb := @evO_congr t t' R1 b (fun p hp => hu p (by simp only [usesOp, List.mem_append]; simp [hp]))
    have ec := @evO_congr t t' R1 c (fun p hp => hu p (by simp only [usesOp, List.mem_append]; simp [hp]))
    simp only [exec, ea, eb, ec]
  case slL a b c d e =>
    have eb := ev_congr (x := b) (fun p hp => hu p (by simp only [usesOp, List.mem_append]; simp [hp]))
    have ec := @evO_congr t t' R1 c (fun p hp => hu p (by simp only [usesOp, List.mem_append]; simp [hp]))
    have ed := @evO_congr t t' R1 d (fun p hp => hu p (by simp only [usesOp, List.mem_append]; simp [hp]))
    have ee := @evO_congr t t' R1 e (fun p hp => hu p (by simp only [usesOp, List.mem_append]; simp [hp]))
    simp only [exec, eb, ec, ed, ee]
  case slA a b c d e f =>
    have ec := ev_congr (x := c) (fun p hp => hu p (by simp only [usesOp, List.mem_append]; simp [hp]))
    have ed := @evO_congr t t' R1 d (fun p hp => hu p (by simp only [usesOp, List.mem_append]; simp [hp]))
    have ee := @evO_congr t t' R1 e (fun p hp => hu p (by simp only [usesOp, List.mem_append]; simp [hp]))
    have ef := @evO_congr t t' R1 f (fun p hp => hu p (by simp only [usesOp, List.mem_append]; simp [hp]))
    simp only [exec, ec, ed, ee, ef]
  case fa a b =>
    have eb := ev_congr (x := b) (fun p hp => hu p (by simp only [usesOp, List.mem_append]; simp [hp]))
    simp only [exec, eb]
  case fd a b c d =>
    have ed := ev_congr (x := d) (fun p hp => hu p (by simp only [usesOp, List.mem_append]; simp [hp]))
    simp only [exec, ed]
  case ixL a b c =>
    have eb := ev_congr (x := b) (fun p hp => hu p (by simp only [usesOp, List.mem_append]; simp [hp]))
    have ec := ev_congr (x := c) (fun p hp => hu p (by simp only [usesOp, List.mem_append]; simp [hp]))
    simp only [exec, eb, ec]
  case ixA a b c d =>
    have ec := ev_congr (x := c) (fun p hp => hu p (by simp only [usesOp, List.mem_append]; simp [hp]))
    have ed := ev_congr (x := d) (fun p hp => hu p (by simp only [usesOp, List.mem_append]; simp [hp]))
    simp only [exec, ec, ed]
  case ixS a b =>
    have ea := ev_congr (x := a) (fun p hp => hu p (by simp only [usesOp, List.mem_append]; simp [hp]))
    have eb := ev_congr (x := b) (fun p hp => hu p (by simp only [usesOp, List.mem_append]; simp [hp]))
    simp only [exec, ea, eb]
  case ixV a b c d e =>
    have ed := ev_congr (x := d) (fun p hp => hu p (by simp only [usesOp, List.mem_append]; simp [hp]))
    have ee := ev_congr (x := e) (fun p hp => hu p (by simp only [usesOp, List.mem_append]; simp [hp]))
    simp only [exec, ed, ee]
  case look a b c d e =>
    have ec := ev_congr (x := c) (fun p hp => hu p (by simp only [usesOp, List.mem_append]; simp [hp]))
    have ed := ev_congr (x := d) (fun p hp => hu p (by simp only [usesOp, List.mem_append]; simp [hp]))
    simp only [exec, ec, ed]
  case mupd a b c d =>
    have eb := ev_congr (x := b) (fun p hp => hu p (by simp only [usesOp, List.mem_append]; simp [hp]))
    have ec := ev_congr (x := c) (fun p hp => hu p (by simp only [usesOp, List.mem_append]; simp [hp]))
    have ed := ev_congr (x := d) (fun p hp => hu p (by simp only [usesOp, List.mem_append]; simp [hp]))
    simp only [exec, eb, ec, ed]
  case rngS a =>
    have ea := ev_congr (x := a) (fun p hp => hu p (by simp only [usesOp, List.mem_append]; simp [hp]))
    simp only [exec, ea]
  case nxtS a =>
    have ea := ev_congr (x := a) (fun p hp => hu p (by simp only [usesOp, List.mem_append]; simp [hp]))
    simp only [exec, ea]
  case ext a b =>
    have ea := ev_congr (x := a) (fun p hp => hu p (by simp only [usesOp, List.mem_append]; simp [hp]))
    simp only [exec, ea]
  case len a b =>
    have eb := ev_congr (x := b) (fun p hp => hu p (by simp only [usesOp, List.mem_append]; simp [hp]))
    simp only [exec, eb]
  case mnmx a b =>
    have eb := evs_congr (xs := b) (fun p hp => hu p (by simp only [usesOp, List.mem_append]; simp [hp]))
    simp only [exec, eb]
  case app a b c =>
    have eb := ev_congr (x := b) (fun p hp => hu p (by simp only [usesOp, List.mem_append]; simp [hp]))
    have ec := ev_congr (x := c) (fun p hp => hu p (by simp only [usesOp, List.mem_append]; simp [hp]))
    simp only [exec, eb, ec]
  case call a b =>
    have eb := evs_congr (xs := b) (fun p hp => hu p (by simp only [usesOp, List.mem_append]; simp [hp]))
    simp only [exec, eb]
  case callv a b =>
    have ea := ev_congr (x := a) (fun p hp => hu p (by simp only [usesOp, List.mem_append]; simp [hp]))
    have eb := evs_congr (xs := b) (fun p hp => hu p (by simp only [usesOp, List.mem_append]; simp [hp]))
    simp only [exec, ea, eb]

/-- a frame with these temporaries alone -/
noncomputable def only (T : Tr AV) : List (List Bool) → Tr AV
  | [] => .leaf
  | p :: ps => (only T ps).setP p (T.getP p)
theorem only_get (T : Tr AV) : ∀ (ps : List (List Bool)) (q : List Bool), (only T ps).getP q = if q ∈ ps then T.getP q else none
  | [], q => by simp [only]
  | p :: ps, q => by
    rw [only, Tr.getP_setP]
    by_cases h : p = q
    · subst h; simp
    · have : q ≠ p := fun e => h e.symm
      rw [if_neg h, only_get T ps q]; simp [this]

/-! ### guards -/
def Wt (g : Option (List Bool × Bool)) (t : Tr AV) (b : Bool) : Prop := wants g t (some true) (some false) = some b
theorem wants_iff {g : Option (List Bool × Bool)} {yes no : Option β} {r : β} : wants g t yes no = some r ↔ (Wt g t true ∧ yes = some r) ∨ (Wt g t false ∧ no = some r) := by
  cases g with
  | none =>
    constructor
    · intro e; exact .inl ⟨rfl, e⟩
    · rintro (⟨_, e⟩ | ⟨h, _⟩)
      · exact e
      · cases h
  | some q =>
    obtain ⟨p, w⟩ := q
    have e : ∀ {γ : Type} (yes no : Option γ), wants (some (p, w)) t yes no = ob (t.getP p) fun v =>
      @AV.casesOn (fun _ => Option γ) v (fun x => @Bool.rec (fun _ => Option γ) (@Bool.rec (fun _ => Option γ) yes no x) (@Bool.rec (fun _ => Option γ) no yes x) w) (fun _ _ => no) (fun _ => no) no (fun _ _ => no) no (fun _ _ _ _ _ => no) no (fun _ => no) no (fun _ _ _ => no) (fun _ => no) no (fun _ _ => no) (fun _ => no) (fun _ => no) := fun _ _ => rfl
    unfold Wt
    rw [e, e]
    cases t.getP p with
    | none => simp
    | some v =>
      simp only [ob_some]
      cases v
      case b x => cases w <;> cases x <;> simp
      all_goals simp
def usesG : Option (List Bool × Bool) → List (List Bool)
  | none => []
  | some q => [q.1]
theorem wt_congr {g : Option (List Bool × Bool)} {b : Bool} (h : ∀ p ∈ usesG g, t.getP p = t'.getP p) (w : Wt g t b) : Wt g t' b := by
  cases g with
  | none => exact w
  | some q =>
    obtain ⟨p, u⟩ := q
    have e := h p (by simp [usesG])
    unfold Wt wants at w ⊢
    simp only [] at w ⊢
    rw [← e]; exact w
noncomputable def putT (d : Option (List Bool)) (v : AV) (t : Tr AV) : Tr AV := match d with
  | none => t
  | some p => t.setP p (some v)
theorem putD_eq {d : Option (List Bool)} {v : AV} {k : Tr AV → Option β} : putD d v t k = k (putT d v t) := by
  cases d with
  | none => rfl
  | some p =>
    have : putD (some p) v t k = forceT (t.setP p (some v)) k := rfl
    rw [this, forceT_eq]; rfl
theorem putT_get (d : Option (List Bool)) (v : AV) (t : Tr AV) (p : List Bool) : (putT d v t).getP p = if d = some p then some v else t.getP p := by
  cases d with
  | none => simp [putT]
  | some q =>
    show (t.setP q (some v)).getP p = _
    rw [Tr.getP_setP]
    by_cases h : q = p <;> simp [h]

/-! ### values that are the same -/
theorem beqL_eq : ∀ (x : List Bool) {y : List Bool}, beqL x y = true → x = y := by
  intro x
  induction x with
  | nil => intro y h; cases y with
    | nil => rfl
    | cons _ _ => cases h
  | cons a x ih =>
    intro y h
    cases y with
    | nil => cases h
    | cons b y =>
      have h : @Bool.rec (fun _ => Bool) (@Bool.rec (fun _ => Bool) (beqL x y) false b) (@Bool.rec (fun _ => Bool) false (beqL x y) b) a = true := h
      cases a <;> cases b <;> first | (cases h; done) | rw [ih h]
theorem opt_rec {o : Option Bool} (h : @Option.rec Bool (fun _ => Bool) false (fun b => b) o = true) : o = some true := by
  cases o with
  | none => cases h
  | some b => cases h; rfl
theorem brec {a b : Bool} (h : @Bool.rec (fun _ => Bool) false b a = true) : a = true ∧ b = true := by
  cases a with
  | true => exact ⟨rfl, h⟩
  | false => cases h
theorem same1_eq {x y : AV} (h : same1 x y = true) : x = y := by
  cases x
  case b a =>
    have h := opt_rec h
    obtain ⟨b, rfl, h⟩ := asB_iff.1 (h : asB y (fun b => some (@Bool.rec (fun _ => Bool) (bnot b) b a)) = some true)
    cases a <;> cases b <;> first | rfl | cases h
  case i k a =>
    have h := opt_rec h
    obtain ⟨k', b, rfl, h⟩ := asI_iff.1 (h : asI y (fun r b => guardB (Nat.beq (kix k) (kix r)) (some (ieq a b))) = some true)
    obtain ⟨h1, h2⟩ := guardB_iff.1 h
    rw [ieq_eq] at h2
    have h2 : a = b := by simpa using h2
    rw [kix_inj h1, h2]
  case s a =>
    have h := opt_rec h
    obtain ⟨b, rfl, h⟩ := asS_iff.1 (h : asS y (fun b => some (seq a b)) = some true)
    have h : seq a b = true := Option.some.inj h
    rw [seq_eq] at h
    have h : a = b := by simpa using h
    rw [h]
  case pn => cases y <;> first | rfl | cases h
  case p b o =>
    have h := opt_rec h
    obtain ⟨c, q, rfl, h⟩ := asP_iff.1 h
    have h : @Bool.rec (fun _ => Bool) false (Nat.beq o q) (beqL b c) = true := Option.some.inj h
    obtain ⟨h1, h2⟩ := brec h
    rw [beqL_eq _ h1, Nat.eq_of_beq_eq_true h2]
  case sn => cases y <;> first | rfl | cases h
  case sl b o n c x =>
    have h := opt_rec h
    rcases asL_iff.1 h with ⟨_, h⟩ | ⟨b', o', n', c', x', rfl, h⟩
    · cases h
    · have h : @Bool.rec (fun _ => Bool) false (@Bool.rec (fun _ => Bool) false (@Bool.rec (fun _ => Bool) false (@Bool.rec (fun _ => Bool) false (@Bool.rec (fun _ => Bool) (bnot x') x' x) (Nat.beq c c')) (Nat.beq n n')) (Nat.beq o o')) (beqL b b') = true := Option.some.inj h
      obtain ⟨h1, h⟩ := brec h
      obtain ⟨h2, h⟩ := brec h
      obtain ⟨h3, h⟩ := brec h
      obtain ⟨h4, h⟩ := brec h
      rw [beqL_eq _ h1, Nat.eq_of_beq_eq_true h2, Nat.eq_of_beq_eq_true h3, Nat.eq_of_beq_eq_true h4]
      cases x <;> cases x' <;> first | rfl | cases h
  case mn => cases y <;> first | rfl | cases h
  case m r =>
    have h := opt_rec h
    rcases asM_iff.1 h with ⟨_, h⟩ | ⟨r', rfl, h⟩
    · cases h
    · rw [beqL_eq _ (Option.some.inj h)]
  all_goals cases h
theorem sames_eq : ∀ {x y : List AV}, sames x y = true → x = y
  | [], [], _ => rfl
  | [], _ :: _, h => by cases h
  | _ :: _, [], h => by cases h
  | a :: x, b :: y, h => by
    obtain ⟨h1, h2⟩ := brec (h : @Bool.rec (fun _ => Bool) false (sames x y) (same1 a b) = true)
    rw [same1_eq h1, sames_eq h2]
theorem same_eq {x y : AV} (h : same x y = true) : x = y := by
  have h : @Bool.rec (fun _ => Bool) (@Option.rec Bool (fun _ => Bool) false (fun b => b) (@AV.casesOn (fun _ => Option Bool) x (fun _ => none) (fun _ _ => none) (fun _ => none) none (fun _ _ => none) none (fun _ _ _ _ _ => none) none (fun _ => none) none (fun _ _ _ => none) (fun _ => none) none (fun _ _ => none) (fun xs => asA y fun ys => some (sames xs ys)) (fun xs => asT y fun ys => some (sames xs ys)))) true (same1 x y) = true := h
  cases q : same1 x y with
  | true => exact same1_eq q
  | false =>
    rw [q] at h
    have h := opt_rec h
    cases x <;> first | (cases h; done) | skip
    · obtain ⟨ys, rfl, h⟩ := asA_iff.1 h
      rw [sames_eq (Option.some.inj h)]
    · obtain ⟨ys, rfl, h⟩ := asT_iff.1 h
      rw [sames_eq (Option.some.inj h)]
theorem steady_ok {n : List Bool} {op : AOp} {v : AV} : ∀ {hs : List (Tr AO)}, steady t n op v hs = true → ∀ h ∈ hs, ∃ h' n', exec (fun _ _ _ _ => none) (fun _ _ _ _ => none) t h n op = some ⟨v, h', n'⟩
  | [], _, h, hh => by cases hh
  | h0 :: hs, e, h, hh => by
    have e : @Bool.rec (fun _ => Bool) false (steady t n op v hs) (@Option.rec R1 (fun _ => Bool) false (fun r => @R1.rec (fun _ => Bool) (fun u _ _ => same u v) r) (exec (fun _ _ _ _ => none) (fun _ _ _ _ => none) t h0 n op)) = true := e
    obtain ⟨e1, e2⟩ := brec e
    rcases List.mem_cons.1 hh with rfl | hh
    · cases q : exec (fun _ _ _ _ => none) (fun _ _ _ _ => none) t h n op with
      | none => rw [q] at e1; cases e1
      | some r =>
        obtain ⟨u, h', n'⟩ := r
        rw [q] at e1
        exact ⟨h', n', by rw [same_eq (e1 : same u v = true)]⟩
    · exact steady_ok e2 h hh
end Go.Ev
end
section
namespace Go.Ev
open Tr (path)
variable {cl : Cl} {clv : Clv} {t : Tr AV} {h : Tr AO} {n : List Bool}

abbrev noC : Cl := fun _ _ _ _ => none
abbrev noV : Clv := fun _ _ _ _ => none
/-- an operation that makes a block makes just that -/
theorem new_ob {x : AOp} (hc : cls x = 2) {v : AV} {h1 : Tr AO} {n1 : List Bool} (e : exec cl clv t h n x = some ⟨v, h1, n1⟩) : ∃ ob, h1 = h.setP n (some ob) := by
  cases x <;> first | (cases hc; done) | skip
  case new k z =>
    have e : newR h n k (nat_lit 1) z (fun b h n => r1 (.p b (nat_lit 0)) h n) = some ⟨v, h1, n1⟩ := e
    rw [newR_eq] at e; obtain ⟨_, rfl, _⟩ := r1_iff.1 e; exact ⟨_, rfl⟩
  case box k x =>
    obtain ⟨u, _, e⟩ := ob_iff.1 (e : ob (ev t x) (fun v => guardB (Nat.beq (llen (vc v)) k) (newR h n k (nat_lit 1) (vc v) fun b h n => r1 (.p b (nat_lit 0)) h n)) = some ⟨v, h1, n1⟩)
    obtain ⟨_, e⟩ := guardB_iff.1 e
    rw [newR_eq] at e; obtain ⟨_, rfl, _⟩ := r1_iff.1 e; exact ⟨_, rfl⟩
  case lit k z xs =>
    obtain ⟨u, _, e⟩ := ob_iff.1 (e : ob (obl (ev t) xs) (fun vs => guardB (Nat.beq (llen xs) k) (ob (cat z vs) fun cs => newR h n z k cs fun b h n => r1 (.sl b (nat_lit 0) k k true) h n)) = some ⟨v, h1, n1⟩)
    obtain ⟨_, e⟩ := guardB_iff.1 e
    obtain ⟨cs, _, e⟩ := ob_iff.1 e
    rw [newR_eq] at e; obtain ⟨_, rfl, _⟩ := r1_iff.1 e; exact ⟨_, rfl⟩
  case cvSB x =>
    obtain ⟨u, _, e⟩ := ob_iff.1 (e : ob (ev t x) (fun v => asS v fun l => forceN (llen l) fun k => newR h n (nat_lit 1) k (bytesV l) fun b h n => r1 (.sl b (nat_lit 0) k k false) h n) = some ⟨v, h1, n1⟩)
    obtain ⟨l, rfl, e2⟩ := asS_iff.1 e
    rw [forceN_eq, newR_eq] at e2; obtain ⟨_, rfl, _⟩ := r1_iff.1 e2; exact ⟨_, rfl⟩
  case cvSR x =>
    obtain ⟨u, _, e⟩ := ob_iff.1 (e : ob (ev t x) (fun v => asS v fun l => (fun vs => forceN (llen vs) fun k => newR h n (nat_lit 1) k vs fun b h n => r1 (.sl b (nat_lit 0) k k false) h n) (runes (llen l) l)) = some ⟨v, h1, n1⟩)
    obtain ⟨l, rfl, e2⟩ := asS_iff.1 e
    simp only [] at e2
    rw [forceN_eq, newR_eq] at e2; obtain ⟨_, rfl, _⟩ := r1_iff.1 e2; exact ⟨_, rfl⟩
  case mkmap kc =>
    have e : newB h n (.mp kc .leaf) (fun b h n => r1 (.m b) h n) = some ⟨v, h1, n1⟩ := e
    rw [newB_eq] at e; obtain ⟨_, rfl, _⟩ := r1_iff.1 e; exact ⟨_, rfl⟩
  case mkslice k z x y =>
    obtain ⟨u, _, e⟩ := ob_iff.1 (e : ob (ev t x) (fun u => ob (ev t y) fun v => asN u fun len => asN v fun cap => guardB (Nat.ble len cap) (guardB (Nat.ble cap (nat_lit 65536)) (newR h n k cap (reps cap z) fun b h n => r1 (.sl b (nat_lit 0) len cap true) h n))) = some ⟨v, h1, n1⟩)
    obtain ⟨u', _, e⟩ := ob_iff.1 e
    obtain ⟨_, _, _, e⟩ := asN_iff.1 e
    obtain ⟨_, _, _, e⟩ := asN_iff.1 e
    obtain ⟨_, e⟩ := guardB_iff.1 e
    obtain ⟨_, e⟩ := guardB_iff.1 e
    rw [newR_eq] at e; obtain ⟨_, rfl, _⟩ := r1_iff.1 e; exact ⟨_, rfl⟩
  case rngS x =>
    obtain ⟨u, _, e⟩ := ob_iff.1 (e : ob (ev t x) (fun v => asS v fun l => newB h n (.it l (nat_lit 0)) fun b h n => r1 (.p b (nat_lit 0)) h n) = some ⟨v, h1, n1⟩)
    obtain ⟨l, rfl, e2⟩ := asS_iff.1 e
    rw [newB_eq] at e2; obtain ⟨_, rfl, _⟩ := r1_iff.1 e2; exact ⟨_, rfl⟩

theorem absent_iff : ∀ {rs : List (List Bool)}, absent rs h = true ↔ ∀ m ∈ rs, h.getP m = none
  | [] => by simp [absent]
  | m :: rs => by
    have e : absent (m :: rs) h = @Option.rec AO (fun _ => Bool) (absent rs h) (fun _ => false) (h.getP m) := rfl
    rw [e]
    cases q : h.getP m with
    | none =>
      have := absent_iff (rs := rs)
      simp only [this]
      constructor
      · intro k x hx
        rcases List.mem_cons.1 hx with rfl | hx
        · exact q
        · exact k x hx
      · intro k x hx; exact k x (List.mem_cons_of_mem _ hx)
    | some o =>
      constructor
      · intro k; cases k
      · intro k; have := k m List.mem_cons_self; rw [q] at this; cases this

/-- an operation of the region, what it came to, the block it made -/
structure Ent where
  d : DOper
  v : AV
  b : Option (List Bool × AO)
abbrev Ent.i (e : Ent) : Nat := e.d.i
abbrev Ent.dst (e : Ent) : Option (List Bool) := e.d.o.d
inductive EStep (cl : Cl) (clv : Clv) (t : Tr AV) (h : Tr AO) (n : List Bool) (hs : List (Tr AO)) : Ent → List (List Bool) → List (List Bool) → List (Tr AO) → Tr AO → List Bool → Prop
  | off {d : DOper} {rs : List (List Bool)} (h2 : d.k ≠ 2) (h3 : d.k ≠ 3) (hw : Wt d.o.g t false) : EStep cl clv t h n hs ⟨d, und, none⟩ rs rs hs h n
  | offA {d : DOper} {rs : List (List Bool)} {m : List Bool} (h2 : d.k = 2) (hw : Wt d.o.g t false) : EStep cl clv t h n hs ⟨d, und, none⟩ (m :: rs) rs hs h n
  | offE {d : DOper} {rs : List (List Bool)} (h3 : d.k = 3) (hw : Wt d.o.g t false) : EStep cl clv t h n hs ⟨d, und, none⟩ rs rs (hs ++ [h]) h n
  | val {d : DOper} {rs : List (List Bool)} {v : AV} {h1 : Tr AO} {n1 : List Bool} (h0 : d.k = 0) (hw : Wt d.o.g t true) (q : exec noC noV t .leaf n d.o.op = some ⟨v, h1, n1⟩) : EStep cl clv t h n hs ⟨d, v, none⟩ rs rs hs h n
  | read {d : DOper} {rs : List (List Bool)} {v : AV} (h1 : d.k = 1) (hw : Wt d.o.g t true) (hd : hs.drop d.k0 ≠ []) (q : ∀ g ∈ hs.drop d.k0, ∃ h1 n1, exec noC noV t g n d.o.op = some ⟨v, h1, n1⟩) : EStep cl clv t h n hs ⟨d, v, none⟩ rs rs hs h n
  | own {d : DOper} {rs : List (List Bool)} {v : AV} {h0 hx : Tr AO} {n1 : List Bool} (h1 : d.k = 1) (hw : Wt d.o.g t true) (hd : hs.drop d.k0 = []) (ho : own t h hs d.o.op = some h0) (q : exec noC noV t h0 n d.o.op = some ⟨v, hx, n1⟩) : EStep cl clv t h n hs ⟨d, v, none⟩ rs rs hs h n
  | new {d : DOper} {rs : List (List Bool)} {m : List Bool} {v : AV} {ob : AO} {n1 : List Bool} (h2 : d.k = 2) (hw : Wt d.o.g t true) (q : exec noC noV t h m d.o.op = some ⟨v, h.setP m (some ob), n1⟩) : EStep cl clv t h n hs ⟨d, v, some (m, ob)⟩ (m :: rs) rs hs (h.setP m (some ob)) n
  | eff {d : DOper} {rs : List (List Bool)} {v : AV} {h1 : Tr AO} {n1 : List Bool} (h3 : d.k = 3) (hw : Wt d.o.g t true) (q : exec cl clv t h n d.o.op = some ⟨v, h1, n1⟩) (ha : ∀ m ∈ rs, h1.getP m = none) : EStep cl clv t h n hs ⟨d, v, none⟩ rs rs (hs ++ [h1]) h1 n1
inductive DTr (cl : Cl) (clv : Clv) (fin : RT) : List Ent → List (List Bool) → List (Tr AO) → Tr AV → Tr AO → List Bool → Prop
  | nil (rs : List (List Bool)) (hs : List (Tr AO)) : DTr cl clv fin [] rs hs fin.t fin.h fin.n
  | cons {e : Ent} {es : List Ent} {rs rs' : List (List Bool)} {hs hs' : List (Tr AO)} {t : Tr AV} {h h' : Tr AO} {n n' : List Bool} (s : EStep cl clv t h n hs e rs rs' hs' h' n') (tl : DTr cl clv fin es rs' hs' (putT e.dst e.v t) h' n') : DTr cl clv fin (e :: es) rs hs t h n

def kOf (c : Nat) : Nat := if c = 4 then 3 else c
theorem cls_le (x : AOp) : cls x ≤ 4 := by cases x <;> simp [cls]
theorem dtr_of {fin : RT} : ∀ (L : List DOper) (rs : List (List Bool)) (hs : List (Tr AO)) (t : Tr AV) (h : Tr AO) (n : List Bool), (∀ d ∈ L, kOf (cls d.o.op) = d.k ∨ d.k = 3) → dopers cl clv L rs hs t h n = some fin → ∃ es : List Ent, es.map (·.d) = L ∧ DTr cl clv fin es rs hs t h n := by
  intro L
  induction L with
  | nil => intro rs hs t h n _ e; cases e; exact ⟨[], rfl, .nil rs hs⟩
  | cons d L ih =>
    intro rs hs t h n hk e
    have hk' : ∀ d ∈ L, kOf (cls d.o.op) = d.k ∨ d.k = 3 := fun x hx => hk x (List.mem_cons_of_mem _ hx)
    have hkd := hk d List.mem_cons_self
    obtain ⟨i, ⟨g, ds, op⟩, k, k0⟩ := d
    have hkd : kOf (cls op) = k ∨ k = 3 := hkd
    have go : ∀ {e : Ent} {rs' : List (List Bool)} {hs' : List (Tr AO)} {h' : Tr AO} {n' : List Bool}, e.d = ⟨i, ⟨g, ds, op⟩, k, k0⟩ → EStep cl clv t h n hs e rs rs' hs' h' n' → dopers cl clv L rs' hs' (putT ds e.v t) h' n' = some fin → ∃ es : List Ent, es.map (·.d) = ⟨i, ⟨g, ds, op⟩, k, k0⟩ :: L ∧ DTr cl clv fin es rs hs t h n := by
      intro e rs' hs' h' n' he s q
      obtain ⟨es, h1, h2⟩ := ih rs' hs' _ h' n' hk' q
      refine ⟨e :: es, by rw [List.map_cons, h1, he], .cons s ?_⟩
      have : e.dst = ds := by show e.d.o.d = ds; rw [he]
      rw [this]; exact h2
    have hk4 : k = 0 ∨ k = 1 ∨ k = 2 ∨ k = 3 := by
      have := cls_le op
      unfold kOf at hkd; split at hkd <;> omega
    rcases hk4 with rfl | rfl | rfl | rfl
    ·
      have e : wants g t (ob (exec noC noV t .leaf n op) fun r => @R1.rec (fun _ => Option RT) (fun v _ _ => putD ds v t fun t => dopers cl clv L rs hs t h n) r) (putD ds und t fun t => dopers cl clv L rs hs t h n) = some fin := e
      rcases wants_iff.1 e with ⟨hw, e⟩ | ⟨hw, e⟩
      · obtain ⟨⟨v, h1, n1⟩, q, e⟩ := ob_iff.1 e
        have e : putD ds v t (fun t => dopers cl clv L rs hs t h n) = some fin := e
        rw [putD_eq] at e
        exact go (e := ⟨⟨i, ⟨g, ds, op⟩, 0, k0⟩, v, none⟩) rfl (.val rfl hw q) e
      · rw [putD_eq] at e
        exact go (e := ⟨⟨i, ⟨g, ds, op⟩, 0, k0⟩, und, none⟩) rfl (.off (fun z => by cases z) (fun z => by cases z) hw) e
    ·
      have e : wants g t (@List.rec (Tr AO) (fun _ => Option RT) (ob (own t h hs op) fun h0 => ob (exec noC noV t h0 n op) fun r => @R1.rec (fun _ => Option RT) (fun v _ _ => putD ds v t fun t => dopers cl clv L rs hs t h n) r) (fun h0 l _ => ob (exec noC noV t h0 n op) fun r => @R1.rec (fun _ => Option RT) (fun v _ _ => guardB (steady t n op v l) (putD ds v t fun t => dopers cl clv L rs hs t h n)) r) (ldrop k0 hs)) (putD ds und t fun t => dopers cl clv L rs hs t h n) = some fin := e
      rcases wants_iff.1 e with ⟨hw, e⟩ | ⟨hw, e⟩
      · rw [ldrop_eq] at e
        cases q0 : hs.drop k0 with
        | nil =>
          rw [q0] at e
          obtain ⟨h0, qo, e⟩ := ob_iff.1 e
          obtain ⟨⟨v, h1, n1⟩, q, e⟩ := ob_iff.1 e
          have e : putD ds v t (fun t => dopers cl clv L rs hs t h n) = some fin := e
          rw [putD_eq] at e
          exact go (e := ⟨⟨i, ⟨g, ds, op⟩, 1, k0⟩, v, none⟩) rfl (.own rfl hw q0 qo q) e
        | cons h0 l =>
          rw [q0] at e
          obtain ⟨⟨v, h1, n1⟩, q, e⟩ := ob_iff.1 e
          obtain ⟨e1, e⟩ := guardB_iff.1 (e : guardB (steady t n op v l) (putD ds v t fun t => dopers cl clv L rs hs t h n) = some fin)
          rw [putD_eq] at e
          refine go (e := ⟨⟨i, ⟨g, ds, op⟩, 1, k0⟩, v, none⟩) rfl (.read rfl hw (by show hs.drop k0 ≠ []; rw [q0]; simp) ?_) e
          show ∀ g ∈ hs.drop k0, _
          rw [q0]
          intro g hg
          rcases List.mem_cons.1 hg with rfl | hg
          · exact ⟨h1, n1, q⟩
          · exact steady_ok e1 g hg
      · rw [putD_eq] at e
        exact go (e := ⟨⟨i, ⟨g, ds, op⟩, 1, k0⟩, und, none⟩) rfl (.off (fun z => by cases z) (fun z => by cases z) hw) e
    ·
      have hc : cls op = 2 := by unfold kOf at hkd; split at hkd <;> omega
      cases rs with
      | nil => cases e
      | cons m rs =>
        have e : wants g t (ob (exec noC noV t h m op) fun r => @R1.rec (fun _ => Option RT) (fun v h _ => putD ds v t fun t => dopers cl clv L rs hs t h n) r) (putD ds und t fun t => dopers cl clv L rs hs t h n) = some fin := e
        rcases wants_iff.1 e with ⟨hw, e⟩ | ⟨hw, e⟩
        · obtain ⟨⟨v, h1, n1⟩, q, e⟩ := ob_iff.1 e
          have e : putD ds v t (fun t => dopers cl clv L rs hs t h1 n) = some fin := e
          rw [putD_eq] at e
          obtain ⟨ob, rfl⟩ := new_ob hc q
          exact go (e := ⟨⟨i, ⟨g, ds, op⟩, 2, k0⟩, v, some (m, ob)⟩) rfl (.new rfl hw q) e
        · rw [putD_eq] at e
          exact go (e := ⟨⟨i, ⟨g, ds, op⟩, 2, k0⟩, und, none⟩) rfl (.offA rfl hw) e
    ·
      have e : wants g t (ob (exec cl clv t h n op) fun r => @R1.rec (fun _ => Option RT) (fun v h' n => guardB (absent rs h') (putD ds v t fun t => dopers cl clv L rs (lapp hs [h']) t h' n)) r) (putD ds und t fun t => dopers cl clv L rs (lapp hs [h]) t h n) = some fin := e
      rcases wants_iff.1 e with ⟨hw, e⟩ | ⟨hw, e⟩
      · obtain ⟨⟨v, h1, n1⟩, q, e⟩ := ob_iff.1 e
        obtain ⟨e1, e⟩ := guardB_iff.1 (e : guardB (absent rs h1) (putD ds v t fun t => dopers cl clv L rs (lapp hs [h1]) t h1 n1) = some fin)
        rw [putD_eq, lapp_eq] at e
        exact go (e := ⟨⟨i, ⟨g, ds, op⟩, 3, k0⟩, v, none⟩) rfl (.eff rfl hw q (absent_iff.1 e1)) e
      · rw [putD_eq, lapp_eq] at e
        exact go (e := ⟨⟨i, ⟨g, ds, op⟩, 3, k0⟩, und, none⟩) rfl (.offE rfl hw) e

/-! ### what the course says -/
variable {fin : RT}
theorem DTr.temps {p : List Bool} : ∀ {es : List Ent} {rs : List (List Bool)} {hs : List (Tr AO)} {t : Tr AV} {h : Tr AO} {n : List Bool}, DTr cl clv fin es rs hs t h n → (∀ e ∈ es, e.dst ≠ some p) → fin.t.getP p = t.getP p := by
  intro es
  induction es with
  | nil => intro rs hs t h n d _; cases d; rfl
  | cons e es ih =>
    intro rs hs t h n d hn
    cases d with
    | cons s tl =>
      rw [ih tl (fun x hx => hn x (List.mem_cons_of_mem _ hx)), putT_get, if_neg (hn e List.mem_cons_self)]
theorem DTr.value {p : List Bool} {e : Ent} {es : List Ent} {rs : List (List Bool)} {hs : List (Tr AO)} {t : Tr AV} {h : Tr AO} {n : List Bool} (d : DTr cl clv fin (e :: es) rs hs t h n) (hp : e.dst = some p) (hn : ∀ x ∈ es, x.dst ≠ some p) : fin.t.getP p = some e.v := by
  cases d with
  | cons s tl => rw [tl.temps hn, putT_get, if_pos hp]
theorem EStep.rs {e : Ent} {rs rs' : List (List Bool)} {hs hs' : List (Tr AO)} {h' : Tr AO} {n' : List Bool} (s : EStep cl clv t h n hs e rs rs' hs' h' n') : (∃ l, rs = l ++ rs') ∧ ∀ m o, e.b = some (m, o) → rs = m :: rs' := by
  cases s
  all_goals first
    | exact ⟨⟨[], rfl⟩, fun m o q => by cases q⟩
    | exact ⟨⟨[_], rfl⟩, fun m o q => by injection q with q; injection q with q _; rw [q]⟩
    | exact ⟨⟨[_], rfl⟩, fun m o q => by cases q⟩
theorem DTr.births : ∀ {es : List Ent} {rs : List (List Bool)} {hs : List (Tr AO)} {t : Tr AV} {h : Tr AO} {n : List Bool}, DTr cl clv fin es rs hs t h n → ∀ e ∈ es, ∀ m o, e.b = some (m, o) → m ∈ rs := by
  intro es
  induction es with
  | nil => intro rs hs t h n _ e he; cases he
  | cons x es ih =>
    intro rs hs t h n d e he m o hb
    cases d with
    | cons s tl =>
      obtain ⟨⟨l, h1⟩, h2⟩ := s.rs
      rcases List.mem_cons.1 he with rfl | he
      · rw [h2 m o hb]; exact List.mem_cons_self
      · rw [h1]; exact List.mem_append_right _ (ih tl e he m o hb)
theorem nodup_tail {α : Type} {l r : List α} (h : (l ++ r).Nodup) : r.Nodup := (List.nodup_append.1 h).2.1
theorem DTr.birth_inj : ∀ {es : List Ent} {rs : List (List Bool)} {hs : List (Tr AO)} {t : Tr AV} {h : Tr AO} {n : List Bool}, DTr cl clv fin es rs hs t h n → rs.Nodup → ∀ e ∈ es, ∀ e' ∈ es, ∀ m o o', e.b = some (m, o) → e'.b = some (m, o') → e = e' := by
  intro es
  induction es with
  | nil => intro rs hs t h n _ _ e he; cases he
  | cons x es ih =>
    intro rs hs t h n d hnd e he e' he' m o o' hb hb'
    cases d with
    | cons s tl =>
      obtain ⟨⟨l, h1⟩, h2⟩ := s.rs
      rcases List.mem_cons.1 he with q | r <;> rcases List.mem_cons.1 he' with q' | r'
      · rw [q, q']
      · subst q
        have := tl.births e' r' m o' hb'
        rw [h2 m o hb] at hnd
        exact absurd this (List.nodup_cons.1 hnd).1
      · subst q'
        have := tl.births e r m o hb
        rw [h2 m o' hb'] at hnd
        exact absurd this (List.nodup_cons.1 hnd).1
      · rw [h1] at hnd
        exact ih tl (nodup_tail hnd) e r e' r' m o o' hb hb'
def isE3 (e : Ent) : Bool := Nat.beq e.d.k 3
theorem isE3_iff {e : Ent} : isE3 e = true ↔ e.d.k = 3 := by unfold isE3; rw [Nat.beq_eq]
theorem EStep.eff_iff {e : Ent} {rs rs' : List (List Bool)} {hs hs' : List (Tr AO)} {h' : Tr AO} {n' : List Bool} (s : EStep cl clv t h n hs e rs rs' hs' h' n') : hs' = (if isE3 e = true then hs ++ [h'] else hs) := by
  cases s <;> simp_all [isE3]
/-- the course from a place on -/
theorem DTr.split : ∀ (A : List Ent) {B : List Ent} {rs : List (List Bool)} {hs : List (Tr AO)} {t : Tr AV} {h : Tr AO} {n : List Bool}, DTr cl clv fin (A ++ B) rs hs t h n →
    ∃ rs' more t' h' n', DTr cl clv fin B rs' (hs ++ more) t' h' n' ∧ (∃ l, rs = l ++ rs') ∧ more.length = (A.filter isE3).length ∧ ∀ p, (∀ e ∈ A, e.dst ≠ some p) → t'.getP p = t.getP p := by
  intro A
  induction A with
  | nil => intro B rs hs t h n d; exact ⟨rs, [], t, h, n, by simpa using d, ⟨[], rfl⟩, rfl, fun p _ => rfl⟩
  | cons e A ih =>
    intro B rs hs t h n d
    cases d with
    | cons s tl =>
      rename_i rs1 hs1 h1 n1
      obtain ⟨rs', more, t', h', n', k1, ⟨l, k2⟩, k3, k4⟩ := ih tl
      obtain ⟨⟨l0, h0⟩, _⟩ := s.rs
      have hh := s.eff_iff
      refine ⟨rs', (if isE3 e = true then [h1] else []) ++ more, t', h', n', ?_, ⟨l0 ++ l, by rw [h0, k2, List.append_assoc]⟩, ?_, fun p hp => by rw [k4 p (fun x hx => hp x (List.mem_cons_of_mem _ hx)), putT_get, if_neg (hp e List.mem_cons_self)]⟩
      · rw [hh] at k1
        cases q : isE3 e <;> rw [q] at k1 <;> simpa using k1
      · rw [List.length_append, k3, List.filter_cons]
        cases q : isE3 e <;> simp <;> omega
/-- .. through operations that turn no memory -/
theorem DTr.quiet : ∀ (A : List Ent) {B : List Ent} {rs : List (List Bool)} {hs : List (Tr AO)} {t : Tr AV} {h : Tr AO} {n : List Bool}, DTr cl clv fin (A ++ B) rs hs t h n → rs.Nodup → (∀ e ∈ A, e.d.k ≠ 3) →
    ∃ rs' t' h', DTr cl clv fin B rs' hs t' h' n ∧ (∃ l, rs = l ++ rs') ∧ (∀ e ∈ A, ∀ m o, e.b = some (m, o) → h'.getP m = some o ∧ m ∉ rs') ∧ (∀ b, (∀ e ∈ A, ∀ m o, e.b = some (m, o) → m ≠ b) → h'.getP b = h.getP b) ∧ ∀ p, (∀ e ∈ A, e.dst ≠ some p) → t'.getP p = t.getP p := by
  intro A
  induction A with
  | nil => intro B rs hs t h n d _ _; exact ⟨rs, t, h, d, ⟨[], rfl⟩, (fun e he => by cases he), (fun b _ => rfl), fun p _ => rfl⟩
  | cons e A ih =>
    intro B rs hs t h n d hnd hk
    cases d with
    | cons s tl =>
      rename_i rs1 hs1 h1 n1
      have hk1 := hk e List.mem_cons_self
      obtain ⟨⟨l0, h0⟩, hb⟩ := s.rs
      have hst : hs1 = hs ∧ n1 = n ∧ (∀ m o, e.b = some (m, o) → h1.getP m = some o) ∧ ∀ b, (∀ m o, e.b = some (m, o) → m ≠ b) → h1.getP b = h.getP b := by
        cases s
        case offE h3 _ => exact absurd h3 hk1
        case eff h3 _ _ _ => exact absurd h3 hk1
        case new d m v ob m1 h2 hw q =>
          refine ⟨rfl, rfl, fun m' o' q => ?_, fun b q => ?_⟩
          · cases q; rw [Tr.getP_setP, if_pos rfl]
          · rw [Tr.getP_setP, if_neg (q m ob rfl)]
        all_goals exact ⟨rfl, rfl, fun _ _ q => (by cases q), fun _ _ => rfl⟩
      obtain ⟨rfl, rfl, g1, g2⟩ := hst
      rw [h0] at hnd
      obtain ⟨rs', t', h', k1, ⟨l, k2⟩, k3, k4, k5⟩ := ih tl (nodup_tail hnd) (fun x hx => hk x (List.mem_cons_of_mem _ hx))
      have tl' := tl
      refine ⟨rs', t', h', k1, ⟨l0 ++ l, by rw [h0, k2, List.append_assoc]⟩, fun x hx m o hxb => ?_, fun b q => ?_, fun p hp => by rw [k5 p (fun x hx => hp x (List.mem_cons_of_mem _ hx)), putT_get, if_neg (hp e List.mem_cons_self)]⟩
      · rcases List.mem_cons.1 hx with rfl | hx
        · have hrs := hb m o hxb
          rw [← h0, hrs] at hnd
          have hnm := (List.nodup_cons.1 hnd).1
          refine ⟨?_, fun q => hnm (by rw [k2]; exact List.mem_append_right _ q)⟩
          rw [k4 m fun y hy m' o' hy' => ?_]
          · exact g1 m o hxb
          · intro q; subst q
            exact hnm (tl'.births y (List.mem_append_left _ hy) m' o' hy')
        · exact k3 x hx m o hxb
      · rw [k4 b fun y hy m' o' hy' => q y (List.mem_cons_of_mem _ hy) m' o' hy', g2 b fun m o hm => q e List.mem_cons_self m o hm]
theorem DTr.birth_two : ∀ {es : List Ent} {rs : List (List Bool)} {hs : List (Tr AO)} {t : Tr AV} {h : Tr AO} {n : List Bool}, DTr cl clv fin es rs hs t h n → ∀ e ∈ es, ∀ m o, e.b = some (m, o) → e.d.k = 2 := by
  intro es
  induction es with
  | nil => intro rs hs t h n _ e he; cases he
  | cons x es ih =>
    intro rs hs t h n d e he m o hb
    cases d with
    | cons s tl =>
      rcases List.mem_cons.1 he with q | he
      · subst q
        cases s
        case new z _ _ => exact z
        all_goals cases hb
      · exact ih tl e he m o hb
theorem last_eff : ∀ A : List Ent, (∀ e ∈ A, e.d.k ≠ 3) ∨ ∃ A0 e A2, A = A0 ++ e :: A2 ∧ e.d.k = 3 ∧ ∀ y ∈ A2, y.d.k ≠ 3
  | [] => .inl fun e he => by cases he
  | a :: A => by
    rcases last_eff A with h | ⟨A0, e, A2, h1, h2, h3⟩
    · by_cases ha : a.d.k = 3
      · exact .inr ⟨[], a, A, rfl, ha, h⟩
      · left
        intro e he
        rcases List.mem_cons.1 he with rfl | he
        · exact ha
        · exact h e he
    · exact .inr ⟨a :: A0, e, A2, by rw [h1]; rfl, h2, h3⟩
/-- .. with the operations behind the last that turns memory -/
theorem DTr.split2 (G : List Ent) {B : List Ent} {rs : List (List Bool)} {hs : List (Tr AO)} {t : Tr AV} {h : Tr AO} {n : List Bool} (d : DTr cl clv fin (G ++ B) rs (hs ++ [h]) t h n) (hnd : rs.Nodup) :
    ∃ rs' more t' h' n' A1 A2 h2, DTr cl clv fin B rs' ((hs ++ [h]) ++ more) t' h' n' ∧ (∃ l, rs = l ++ rs') ∧ more.length = (G.filter isE3).length ∧ (∀ p, (∀ e ∈ G, e.dst ≠ some p) → t'.getP p = t.getP p) ∧
      G = A1 ++ A2 ∧ (∀ e ∈ A2, e.d.k ≠ 3) ∧ h2 ∈ (hs ++ [h]) ++ more ∧ ∀ b o, h'.getP b = some o → h2.getP b = none → ∃ y ∈ A2, y.b = some (b, o) := by
  have tail : ∀ {A2 : List Ent} {rs2 : List (List Bool)} {hs2 : List (Tr AO)} {t2 : Tr AV} {h2 : Tr AO} {n2 : List Bool}, DTr cl clv fin (A2 ++ B) rs2 hs2 t2 h2 n2 → rs2.Nodup → (∀ e ∈ A2, e.d.k ≠ 3) →
      ∃ rs' t' h', DTr cl clv fin B rs' hs2 t' h' n2 ∧ (∃ l, rs2 = l ++ rs') ∧ (∀ p, (∀ e ∈ A2, e.dst ≠ some p) → t'.getP p = t2.getP p) ∧ ∀ b o, h'.getP b = some o → h2.getP b = none → ∃ y ∈ A2, y.b = some (b, o) := by
    intro A2 rs2 hs2 t2 h2 n2 d2 nd2 hk
    obtain ⟨rs', t', h', q1, q2, q3, q4, q5⟩ := DTr.quiet A2 d2 nd2 hk
    refine ⟨rs', t', h', q1, q2, q5, fun b o e e2 => ?_⟩
    apply Classical.byContradiction
    intro hno
    by_cases hb : ∃ y ∈ A2, ∃ o', y.b = some (b, o')
    · obtain ⟨y, hy, o', hyb⟩ := hb
      rw [(q3 y hy b o' hyb).1] at e; cases e
      exact hno ⟨y, hy, hyb⟩
    · rw [q4 b fun y hy m o' hm q => hb ⟨y, hy, o', by rw [← q]; exact hm⟩, e2] at e
      cases e
  have nofilt : ∀ {A : List Ent}, (∀ e ∈ A, e.d.k ≠ 3) → (A.filter isE3).length = 0 := fun hk => by
    rw [List.length_eq_zero_iff, List.filter_eq_nil_iff]
    intro e he q
    exact hk e he (isE3_iff.1 q)
  rcases last_eff G with hk | ⟨A0, e, A2, rfl, hk3, hk⟩
  · obtain ⟨rs', t', h', q1, q2, q3, q4⟩ := tail d hnd hk
    exact ⟨rs', [], t', h', n, [], G, h, by rw [List.append_nil]; exact q1, q2, by rw [nofilt hk]; rfl, q3, rfl, hk, by simp, q4⟩
  · rw [List.append_assoc] at d
    obtain ⟨rs1, more, t1, h1, n1, k1, ⟨l, k2⟩, k3, k4⟩ := DTr.split A0 d
    cases k1 with
    | cons s tl =>
      rename_i rs2 hs2 h2 n2
      obtain ⟨⟨l0, h0⟩, _⟩ := s.rs
      have hh := s.eff_iff
      rw [if_pos (isE3_iff.2 hk3)] at hh
      subst hh
      have nd2 : rs2.Nodup := by rw [k2, h0] at hnd; exact nodup_tail (nodup_tail hnd)
      obtain ⟨rs', t', h', q1, ⟨l2, q2⟩, q3, q4⟩ := tail tl nd2 hk
      refine ⟨rs', more ++ [h2], t', h', n2, A0 ++ [e], A2, h2, by rw [List.append_assoc] at q1; exact q1, ⟨l ++ l0 ++ l2, by rw [k2, h0, q2]; simp⟩, ?_, fun p hp => ?_, by simp, hk, by simp, q4⟩
      · rw [List.length_append, k3, List.filter_append, List.length_append, List.filter_cons, if_pos (isE3_iff.2 hk3)]
        simp [nofilt hk]
      · rw [q3 p (fun y hy => hp y (by simp [hy])), putT_get, if_neg (hp e (by simp)), k4 p (fun y hy => hp y (by simp [hy]))]
theorem own_iff {x : AOp} {hs : List (Tr AO)} {h0 : Tr AO} (e : own t h hs x = some h0) : ∃ b o, h.getP b = some o ∧ (∀ g ∈ hs, g.getP b = none) ∧ h0 = Tr.setP b (some o) .leaf := by
  unfold own at e
  split at e
  · obtain ⟨v, _, e⟩ := ob_iff.1 e
    rcases asL_iff.1 e with ⟨_, e⟩ | ⟨b, o, m, c, xx, _, e⟩
    · cases e
    · obtain ⟨ob', h1, e⟩ := ob_iff.1 e
      obtain ⟨h2, e⟩ := guardB_iff.1 e
      cases e
      refine ⟨b, ob', h1, ?_, rfl⟩
      clear h1
      have key : ∀ hs : List (Tr AO), free1 b hs = true → ∀ g ∈ hs, g.getP b = none := by
        intro hs
        induction hs with
        | nil => intro _ g hg; cases hg
        | cons a hs ih =>
          intro q g hg
          have q : @Option.rec AO (fun _ => Bool) (free1 b hs) (fun _ => false) (a.getP b) = true := q
          cases z : a.getP b with
          | some _ => rw [z] at q; cases q
          | none =>
            rw [z] at q
            rcases List.mem_cons.1 hg with rfl | hg
            · exact z
            · exact ih q g hg
      exact key hs h2
  · cases e
end Go.Ev
end
section
namespace Go.Ev
open Tr (path)
variable {P : Program} {N : Nat} {os : Array Oper} {md : Region.Mode}

/-! ### who stands ahead of whom in every order -/
/-- a set of operations that holds what each of its own waits for -/
def Closed (md : Region.Mode) (os : Array Oper) (S : Nat → Prop) : Prop := ∀ i o, S i → os[i]? = some o → ∀ e ∈ o.after, Region.binds md e = true → S e.on
def Waits (md : Region.Mode) (os : Array Oper) (S : Nat → Prop) (i : Nat) : Prop := ∀ o, os[i]? = some o → ∀ e ∈ o.after, Region.binds md e = true → S e.on
def Bef (os : Array Oper) (j i : Nat) : Prop := ∀ md S, Closed md os S → Waits md os S i → S j
theorem binds_any {e : Edge} (h : Region.binds .any e = true) : Region.binds md e = true := by
  unfold Region.binds at h ⊢
  cases q : e.ground <;> rw [q] at h <;> first | rfl | (simp at h)

def maskE (acc : List Nat) : List Edge → Nat
  | [] => 0
  | e :: es => match Region.binds .any e with
    | true => Nat.lor (Nat.lor (2 ^ e.on) (acc.getD e.on 0)) (maskE acc es)
    | false => maskE acc es
def masks : List Oper → List Nat → List Nat
  | [], acc => acc
  | o :: os, acc => masks os (acc ++ [maskE acc o.after.toList])
/-- a mask tells the truth -/
def MaskOk (os : Array Oper) (i m : Nat) : Prop := ∀ j, m.testBit j = true → Bef os j i
theorem maskE_ok {acc : List Nat} (ha : ∀ i m, acc[i]? = some m → MaskOk os i m) {S : Nat → Prop} (hS : Closed md os S) : ∀ es : List Edge, (∀ e ∈ es, Region.binds md e = true → S e.on) → ∀ j, (maskE acc es).testBit j = true → S j := by
  intro es
  induction es with
  | nil => intro _ j h; simp [maskE] at h
  | cons e es ih =>
    intro he j h
    unfold maskE at h
    have hr := ih fun x hx => he x (List.mem_cons_of_mem _ hx)
    split at h
    · rename_i hb
      have h : ((2 ^ e.on ||| acc.getD e.on 0) ||| maskE acc es).testBit j = true := h
      have hon := he e List.mem_cons_self (binds_any hb)
      rw [Nat.testBit_or, Nat.testBit_or, Bool.or_eq_true, Bool.or_eq_true] at h
      rcases h with (h | h) | h
      · rw [Nat.testBit_two_pow] at h
        have : e.on = j := by simpa using h
        rw [← this]; exact hon
      · rw [List.getD_eq_getElem?_getD] at h
        cases q : acc[e.on]? with
        | none => rw [q] at h; simp at h
        | some m =>
          rw [q] at h
          exact ha e.on m q j h md S hS (fun o ho x hx hb => hS e.on o hon ho x hx hb)
      · exact hr j h
    · exact hr j h
theorem masks_ok : ∀ (l : List Oper) (acc : List Nat) (pre : List Oper), os.toList = pre ++ l → acc.length = pre.length → (∀ i m, acc[i]? = some m → MaskOk os i m) → ∀ i m, (masks l acc)[i]? = some m → MaskOk os i m := by
  intro l
  induction l with
  | nil => intro acc pre _ _ ha; exact ha
  | cons o l ih =>
    intro acc pre hos hl ha
    refine ih _ (pre ++ [o]) (by rw [hos]; simp) (by simp [hl]) fun i m hi => ?_
    by_cases hlt : i < acc.length
    · rw [List.getElem?_append_left hlt] at hi
      exact ha i m hi
    · rw [List.getElem?_append_right (by omega)] at hi
      have h0 : i - acc.length = 0 := by
        have := (List.getElem?_eq_some_iff.1 hi).1
        simp at this; omega
      rw [h0] at hi
      have hm : maskE acc o.after.toList = m := by simpa using hi
      have ho : os[i]? = some o := by
        rw [← Array.getElem?_toList, hos, List.getElem?_append_right (by omega)]
        have : i - pre.length = 0 := by omega
        rw [this]; rfl
      intro j hj md S hS hw
      rw [← hm] at hj
      exact maskE_ok ha hS _ (fun e he hb => hw o ho e (by simpa using he) hb) j hj

/-! ### the check -/
def numP : List Bool → Nat
  | [] => 0
  | true :: p => 2 * numP p + 1
  | false :: p => 2 * numP p + 2
def usesD (o : AOper) : List (List Bool) := usesG o.g ++ usesOp o.op
def usesN (o : AOper) : List Nat := (usesD o).map numP
def wOk (m u : Nat) : List (Nat × Nat) → Bool
  | [] => true
  | q :: W => (!(Nat.beq q.1 u) || m.testBit q.2) && wOk m u W
def wNo (u : Nat) : List (Nat × Nat) → Bool
  | [] => true
  | q :: W => !(Nat.beq q.1 u) && wNo u W
theorem wOk_ok {m u j : Nat} : ∀ {W : List (Nat × Nat)}, wOk m u W = true → (u, j) ∈ W → m.testBit j = true
  | [], _, h => by cases h
  | q :: W, h, hm => by
    simp only [wOk, Bool.and_eq_true] at h
    rcases List.mem_cons.1 hm with rfl | hm
    · have h1 := h.1
      simpa using h1
    · exact wOk_ok h.2 hm
theorem wNo_ok {u j : Nat} : ∀ {W : List (Nat × Nat)}, wNo u W = true → (u, j) ∉ W
  | [], _ => by simp
  | q :: W, h => by
    simp only [wNo, Bool.and_eq_true] at h
    intro hm
    rcases List.mem_cons.1 hm with rfl | hm
    · have h1 := h.1; simp at h1
    · exact wNo_ok h.2 hm
def usOk (m : Nat) (W : List (Nat × Nat)) : List Nat → Bool
  | [] => true
  | u :: us => wOk m u W && usOk m W us
theorem usOk_ok {m : Nat} {W : List (Nat × Nat)} : ∀ {us : List Nat}, usOk m W us = true → ∀ u ∈ us, ∀ j, (u, j) ∈ W → m.testBit j = true
  | [], _, u, h, _, _ => by cases h
  | v :: us, h, u, hu, j, hj => by
    simp only [usOk, Bool.and_eq_true] at h
    rcases List.mem_cons.1 hu with rfl | hu
    · exact wOk_ok h.1 hj
    · exact usOk_ok h.2 u hu j hj
def dstOk (m : Nat) (W U : List (Nat × Nat)) : Option (List Bool) → Bool
  | none => true
  | some p => wOk m (numP p) U && wNo (numP p) W
def addU (U : List (Nat × Nat)) (i : Nat) : List Nat → List (Nat × Nat)
  | [] => U
  | u :: us => (u, i) :: addU U i us
theorem addU_old {U : List (Nat × Nat)} {i : Nat} {q : Nat × Nat} : ∀ {us : List Nat}, q ∈ U → q ∈ addU U i us
  | [], h => h
  | _ :: _, h => List.mem_cons_of_mem _ (addU_old h)
theorem addU_new {U : List (Nat × Nat)} {i u : Nat} : ∀ {us : List Nat}, u ∈ us → (u, i) ∈ addU U i us
  | [], h => by cases h
  | v :: us, h => by
    rcases List.mem_cons.1 h with rfl | h
    · exact List.mem_cons_self
    · exact List.mem_cons_of_mem _ (addU_new h)
def addW (W : List (Nat × Nat)) (i : Nat) : Option (List Bool) → List (Nat × Nat)
  | none => W
  | some p => (numP p, i) :: W
def isK3 (d : DOper) : Bool := Nat.beq d.k 3
def allIn (m : Nat) : List Nat → Bool
  | [] => true
  | b :: bs => m.testBit b && allIn m bs
theorem allIn_ok {m : Nat} : ∀ {bs : List Nat}, allIn m bs = true → ∀ b ∈ bs, m.testBit b = true
  | [], _, b, h => by cases h
  | c :: bs, h, b, hb => by
    rw [allIn, Bool.and_eq_true] at h
    rcases List.mem_cons.1 hb with rfl | hb
    · exact h.1
    · exact allIn_ok h.2 b hb
def chk1 (P : Program) (N : Nat) (os : Array Oper) (seen : Nat) (W U : List (Nat × Nat)) (effs nb : List Nat) (d : DOper) (o : Oper) (m : Nat) : Bool :=
  !seen.testBit d.i && chkO P N os o d.o && (Nat.beq (kOf (cls d.o.op)) d.k || isK3 d) &&
    (!(isK3 d) || Nat.beq (Nat.land seen m) seen) &&
    (!(Nat.beq d.k 1) || (Nat.beq d.k0 0 || (match effs[d.k0 - 1]? with | some j => m.testBit j | none => allIn m nb))) &&
    usOk m W (usesN d.o) && dstOk m W (addU U d.i (usesN d.o)) d.o.d
def chkDs (P : Program) (N : Nat) (os : Array Oper) (M : List Nat) : Nat → List (Nat × Nat) → List (Nat × Nat) → List Nat → List Nat → List DOper → Bool
  | _, _, _, _, _, [] => true
  | seen, W, U, effs, nb, d :: L =>
    (match os[d.i]?, M[d.i]? with
     | some o, some m => chk1 P N os seen W U effs nb d o m
     | _, _ => false) &&
    chkDs P N os M (Nat.lor seen (2 ^ d.i)) (addW W d.i d.o.d) (addU U d.i (usesN d.o)) (match isK3 d with | true => effs ++ [d.i] | false => effs) (match isK3 d with | true => [] | false => (match Nat.beq d.k 2 with | true => d.i :: nb | false => nb)) L
/-- what the check says of an operation and of those that stand ahead of it in the list -/
structure Facts (P : Program) (N : Nat) (os : Array Oper) (A : List DOper) (x : DOper) : Prop where
  op : ∃ o, os[x.i]? = some o ∧ chkO P N os o x.o = true
  k : kOf (cls x.o.op) = x.k ∨ x.k = 3
  nd : ∀ y ∈ A, y.i ≠ x.i
  eff : x.k = 3 → ∀ y ∈ A, Bef os y.i x.i
  k0 : x.k = 1 → x.k0 = 0 ∨ (∃ j, ((A.filter isK3).map (·.i))[x.k0 - 1]? = some j ∧ Bef os j x.i) ∨ ((A.filter isK3).map (·.i))[x.k0 - 1]? = none ∧ ∀ A1 A2, A = A1 ++ A2 → (∀ y ∈ A2, isK3 y = false) → ∀ y ∈ A2, y.k = 2 → Bef os y.i x.i
  use : ∀ p ∈ usesD x.o, ∀ y ∈ A, y.o.d = some p → Bef os y.i x.i
  dst : ∀ p, x.o.d = some p → ∀ y ∈ A, y.o.d ≠ some p ∧ (p ∈ usesD y.o → Bef os y.i x.i)
theorem mem_usesN {o : AOper} {p : List Bool} (h : p ∈ usesD o) : numP p ∈ usesN o := List.mem_map.2 ⟨p, h, rfl⟩
theorem chkDs_ok {M : List Nat} (hM : ∀ i m, M[i]? = some m → MaskOk os i m) : ∀ (L A : List DOper) (seen : Nat) (W : List (Nat × Nat)) (U : List (Nat × Nat)) (effs nb : List Nat), chkDs P N os M seen W U effs nb L = true →
    (∀ y ∈ A, seen.testBit y.i = true) → (∀ y ∈ A, ∀ p, y.o.d = some p → (numP p, y.i) ∈ W) → (∀ y ∈ A, ∀ p ∈ usesD y.o, (numP p, y.i) ∈ U) → effs = (A.filter isK3).map (·.i) → (∀ A1 A2, A = A1 ++ A2 → (∀ y ∈ A2, isK3 y = false) → ∀ y ∈ A2, y.k = 2 → y.i ∈ nb) →
    ∀ A' x B, L = A' ++ x :: B → Facts P N os (A ++ A') x := by
  intro L
  induction L with
  | nil => intro A seen W U effs nb _ _ _ _ _ _ A' x B h; cases A' <;> cases h
  | cons d L ih =>
    intro A seen W U effs nb hc h1 h2 h3 h4 h5 A' x B hL
    rw [chkDs, Bool.and_eq_true] at hc
    obtain ⟨c1, c2⟩ := hc
    cases A' with
    | nil =>
      rw [List.nil_append] at hL
      obtain ⟨rfl, rfl⟩ := List.cons.inj hL
      rw [List.append_nil]
      split at c1
      · rename_i o m ho hm
        have hb := hM _ _ hm
        simp only [chk1, Bool.and_eq_true] at c1
        obtain ⟨⟨⟨⟨⟨⟨a1, a2⟩, a3⟩, a4⟩, a5⟩, a6⟩, a7⟩ := c1
        refine ⟨⟨o, ho, a2⟩, ?_, fun y hy e => ?_, fun hk y hy => ?_, fun hk => ?_, fun p hp y hy hd => ?_, fun p hp => ?_⟩
        · rw [Bool.or_eq_true] at a3
          exact a3.imp Nat.eq_of_beq_eq_true Nat.eq_of_beq_eq_true
        · have := h1 y hy
          rw [e] at this; rw [this] at a1; cases a1
        · have hk' : isK3 d = true := by unfold isK3; rw [hk]; rfl
          rw [hk'] at a4
          have a4 : seen &&& m = seen := Nat.eq_of_beq_eq_true (by simpa using a4)
          have := h1 y hy
          rw [← a4, Nat.testBit_and, Bool.and_eq_true] at this
          exact hb _ this.2
        · have hk' : Nat.beq d.k 1 = true := by rw [hk]; rfl
          rw [hk'] at a5
          simp only [Bool.not_true, Bool.false_or, Bool.or_eq_true] at a5
          rcases a5 with a5 | a5
          · exact .inl (Nat.eq_of_beq_eq_true a5)
          · right
            split at a5
            · rename_i j hj
              exact .inl ⟨j, by rw [← h4]; exact hj, hb j a5⟩
            · rename_i hj
              exact .inr ⟨by rw [← h4]; exact hj, fun A1 A2 hA hk3 y hy hy2 => hb _ (allIn_ok a5 _ (h5 A1 A2 hA hk3 y hy hy2))⟩
        · exact hb _ (usOk_ok a6 _ (mem_usesN hp) _ (h2 y hy p hd))
        · rw [hp] at a7
          simp only [dstOk, Bool.and_eq_true] at a7
          obtain ⟨b1, b2⟩ := a7
          exact fun y hy => ⟨fun q => wNo_ok b2 (h2 y hy p q), fun q => hb _ (wOk_ok b1 (addU_old (h3 y hy p q)))⟩
      · cases c1
    | cons d' A' =>
      rw [List.cons_append] at hL
      obtain ⟨rfl, hL2⟩ := List.cons.inj hL
      have := ih (A ++ [d]) _ _ _ _ _ c2 (fun y hy => ?_) (fun y hy p hp => ?_) (fun y hy p hp => ?_) ?_ ?_ A' x B hL2
      · simpa using this
      · show (seen ||| 2 ^ d.i).testBit y.i = true
        rw [Nat.testBit_or, Bool.or_eq_true]
        rcases List.mem_append.1 hy with hy | hy
        · exact .inl (h1 y hy)
        · right; have : y = d := by simpa using hy
          subst this; rw [Nat.testBit_two_pow]; simp
      · rcases List.mem_append.1 hy with hy | hy
        · have := h2 y hy p hp
          cases q : d.o.d with
          | none => exact this
          | some r => exact List.mem_cons_of_mem _ this
        · have : y = d := by simpa using hy
          subst this; rw [hp]; exact List.mem_cons_self
      · rcases List.mem_append.1 hy with hy | hy
        · exact addU_old (h3 y hy p hp)
        · have : y = d := by simpa using hy
          subst this; exact addU_new (mem_usesN hp)
      · rw [List.filter_append, List.map_append, ← h4]
        cases q : isK3 d <;> simp [q]
      · intro A1 A2 hA hk3 y hy hy2
        rcases List.eq_nil_or_concat A2 with rfl | ⟨A3, z, rfl⟩
        · cases hy
        · rw [List.concat_eq_append, ← List.append_assoc] at hA
          have hz := List.append_inj' hA rfl
          obtain ⟨hz1, hz2⟩ := hz
          have hz2 : d = z := by simpa using hz2
          subst hz2
          have hkd : isK3 d = false := hk3 d (by simp)
          rw [hkd]
          rw [List.concat_eq_append] at hy
          rcases List.mem_append.1 hy with hy | hy
          · have := h5 A1 A3 hz1 (fun y hy => hk3 y (by simp [hy])) y hy hy2
            show y.i ∈ (match Nat.beq d.k 2 with | true => d.i :: nb | false => nb)
            cases Nat.beq d.k 2 with
            | true => exact List.mem_cons_of_mem _ this
            | false => exact this
          · have : y = d := by simpa using hy
            subst this
            show y.i ∈ (match Nat.beq y.k 2 with | true => y.i :: nb | false => nb)
            rw [hy2]
            exact List.mem_cons_self
def edgesL : Nat → List Oper → Bool
  | _, [] => true
  | i, o :: l => (o.after.toList.all fun e => !Region.binds .any e || Nat.ble (e.on + 1) i) && edgesL (i + 1) l
theorem edgesL_ok : ∀ (l : List Oper) (i : Nat), edgesL i l = true → ∀ j o, l[j]? = some o → ∀ e ∈ o.after, Region.binds .any e = true → e.on < i + j := by
  intro l
  induction l with
  | nil => intro i _ j o h; simp at h
  | cons x l ih =>
    intro i h j o hj e he hb
    rw [edgesL, Bool.and_eq_true] at h
    cases j with
    | zero =>
      have : x = o := by simpa using hj
      subst this
      have := List.all_eq_true.1 h.1 e (by simpa using he)
      rw [hb] at this
      have := Nat.le_of_ble_eq_true (by simpa using this : Nat.ble (e.on + 1) i = true)
      omega
    | succ j =>
      have := ih (i + 1) h.2 j o (by simpa using hj) e he hb
      omega
def seenOf : List DOper → Nat
  | [] => 0
  | d :: L => Nat.lor (2 ^ d.i) (seenOf L)
theorem seenOf_ok : ∀ {L : List DOper} {i : Nat}, (seenOf L).testBit i = true → ∃ d ∈ L, d.i = i
  | [], i, h => by simp [seenOf] at h
  | d :: L, i, h => by
    have h : (2 ^ d.i ||| seenOf L).testBit i = true := h
    rw [Nat.testBit_or, Bool.or_eq_true] at h
    rcases h with h | h
    · rw [Nat.testBit_two_pow] at h
      exact ⟨d, List.mem_cons_self, by simpa using h⟩
    · obtain ⟨x, hx, e⟩ := seenOf_ok h
      exact ⟨x, List.mem_cons_of_mem _ hx, e⟩
def chkDr (P : Program) : DrChk := fun N _ L os => edgesL 0 os.toList && Nat.beq (seenOf L) (2 ^ os.size - 1) && chkDs P N os (masks os.toList []) 0 [] [] [] [] L
structure DChk (P : Program) (N : Nat) (os : Array Oper) (L : List DOper) : Prop where
  edge : ∀ (i : Nat) (o : Oper), os[i]? = some o → ∀ e ∈ o.after, Region.binds .any e = true → e.on < i
  all : ∀ i, i < os.size → ∃ d ∈ L, d.i = i
  facts : ∀ A x B, L = A ++ x :: B → Facts P N os A x
theorem chkDr_ok {na : Nat} {L : List DOper} (h : chkDr P N na L os = true) : DChk P N os L := by
  simp only [chkDr, Bool.and_eq_true] at h
  obtain ⟨⟨h1, h2⟩, h3⟩ := h
  refine ⟨fun i o ho e he hb => ?_, fun i hi => ?_, fun A x B hL => ?_⟩
  · have := edgesL_ok _ 0 h1 i o (by simpa using ho) e he hb
    omega
  · refine seenOf_ok ?_
    rw [Nat.eq_of_beq_eq_true h2, Nat.testBit_two_pow_sub_one]
    simpa using hi
  · have := chkDs_ok (masks_ok os.toList [] [] (by simp) rfl (fun i m q => by simp at q)) L [] 0 [] [] [] [] h3 (fun y hy => by cases hy) (fun y hy => by cases hy) (fun y hy => by cases hy) rfl (fun A1 A2 hA _ y hy => by have := (List.append_eq_nil_iff.1 hA.symm).2; subst this; cases hy) A x B hL
    simpa using this
end Go.Ev
end
section
namespace Go.Ev
open Tr (path)
variable {P : Program} {cr : Nat → AC → Code → Prop} {F : Fence} {φ φ' φ'' ψ : Phi} {h h' h'' H : Hp} {n n' n'' m : List Bool} {w w' w'' : World}

/-! ### steps beside which something stands -/
theorem St.trans' (s : St cr φ h n w φ' h' n' w') (k : St cr φ' h' m w' φ'' h'' n'' w'') (hm : val n ≤ val m) : St cr φ h n w φ'' h'' n'' w'' := by
  have hle : val n ≤ val n'' := Nat.le_trans hm k.le
  refine ⟨k.wr, k.fr, s.sub.trans k.sub, s.ax.trans k.ax, Nat.le_trans s.size k.size, ?_, ?_, ?_, hle⟩
  · intro β hβ hr
    rw [k.old β (Nat.lt_of_lt_of_le hβ s.size) ?_, s.old β hβ hr]
    intro b o hb e
    cases q : φ b with
    | some γ =>
      have : φ' b = some γ := s.sub.at' b γ q
      rw [this] at e; cases e
      obtain ⟨o', ho', hro⟩ := s.stay b o hb (by rw [q]; simp)
      rw [← hro]; exact hr b o' ho' q
    | none =>
      rcases (s.new b β e q).2 with hle | ⟨c, o', hc, hφ, hro⟩
      · omega
      · rw [hr c o' hc hφ] at hro; cases hro
  · intro b β e q
    cases q' : φ' b with
    | none =>
      obtain ⟨h1, h2⟩ := k.new b β e q'
      refine ⟨Nat.le_trans hm h1, ?_⟩
      rcases h2 with h2 | ⟨c, o, hc, hφ, hro⟩
      · exact .inl (Nat.le_trans s.size h2)
      · cases qc : φ c with
        | some γ =>
          have := s.sub.at' c γ qc
          rw [this] at hφ; cases hφ
          obtain ⟨o', ho', hro'⟩ := s.stay c o hc (by rw [qc]; simp)
          exact .inr ⟨c, o', ho', qc, by rw [hro', hro]⟩
        | none => exact (s.new c β hφ qc).2
    | some γ =>
      have := k.sub.at' b γ q'
      rw [this] at e; cases e
      exact s.new b _ q' q
  · intro b o e q
    have q' : φ' b ≠ none := by
      cases qq : φ b with
      | none => exact absurd qq q
      | some γ => rw [s.sub.at' b γ qq]; simp
    obtain ⟨o', ho', hro⟩ := k.stay b o e q'
    obtain ⟨o'', ho'', hro'⟩ := s.stay b o' ho' q
    exact ⟨o'', ho'', hro'.trans hro⟩
/-- a new block under a name that was kept for it -/
theorem St.allocAt (r : WR cr φ h w) (f : Fresh φ n) (hm : φ m = none) (hlt : val m < val n) (o : AO) (x : Obj) (k : Nat) (a : Ax w w') (hw : w'.heap = w.heap.push x) (ho : OR cr (φ.set m w.heap.size k) k o x) : St cr φ h m w (φ.set m w.heap.size k) (upd h m (some o)) n w' := by
  have hne : ∀ b x, φ b = some x → m ≠ b := by rintro b x e rfl; rw [hm] at e; cases e
  have hs : Sub φ (φ.set m w.heap.size k) := ⟨fun b x e => by rw [Phi.set_ne _ _ _ (hne b x e)]; exact e, fun b x e => Phi.cap_ne _ _ _ (hne b x e), rfl⟩
  have hl : ∀ b o β, h b = some o → φ b = some β → β < w.heap.size := fun b o β e q => by
    obtain ⟨y, hy, _⟩ := r.blk b o β e q
    exact (Array.getElem?_eq_some_iff.1 hy).1
  have hold : ∀ β, β < w.heap.size → w'.heap[β]? = w.heap[β]? := fun β hβ => by rw [hw, Array.getElem?_push_lt hβ, Array.getElem?_eq_getElem hβ]
  refine ⟨⟨?_, ?_, ?_⟩, ?_, hs, a, by rw [hw]; simp, fun β hβ _ => hold β hβ, ?_, ?_, Nat.le_of_lt hlt⟩
  · intro b o' β e q
    by_cases hb : m = b
    · subst hb
      rw [upd_same] at e; rw [Phi.set_at] at q; cases e; cases q
      exact ⟨x, by rw [hw]; simp, by rw [Phi.set_cap]; exact ho⟩
    · rw [upd_ne _ _ hb] at e; rw [Phi.set_ne _ _ _ hb] at q
      obtain ⟨y, hy, k⟩ := r.blk b o' β e q
      exact ⟨y, by rw [hold β (hl b o' β e q)]; exact hy, by rw [Phi.cap_ne _ _ _ hb]; exact k.sub hs⟩
  · intro b b' o1 o2 β e e' q q'
    by_cases hb : m = b
    · by_cases hb' : m = b'
      · rw [← hb, hb']
      · subst hb
        rw [Phi.set_at] at q; cases q
        rw [upd_ne _ _ hb'] at e'; rw [Phi.set_ne _ _ _ hb'] at q'
        have := hl b' o2 _ e' q'; omega
    · rw [upd_ne _ _ hb] at e; rw [Phi.set_ne _ _ _ hb] at q
      by_cases hb' : m = b'
      · subst hb'
        rw [Phi.set_at] at q'; cases q'
        have := hl b o1 _ e q; omega
      · rw [upd_ne _ _ hb'] at e'; rw [Phi.set_ne _ _ _ hb'] at q'
        exact r.inj b b' o1 o2 β e e' q q'
  · intro q hq
    obtain ⟨x1, x2⟩ := r.fx q hq
    have hl := (Array.getElem?_eq_some_iff.1 x1).1
    refine ⟨by rw [hold _ hl]; exact x1, fun b o' e p => ?_⟩
    by_cases hb : m = b
    · subst hb; rw [Phi.set_at] at p; have := Option.some.inj p; omega
    · rw [upd_ne _ _ hb] at e; rw [Phi.set_ne _ _ _ hb] at p; exact x2 b o' e p
  · intro b β e
    by_cases hb : m = b
    · subst hb; exact hlt
    · rw [Phi.set_ne _ _ _ hb] at e; exact f b β e
  · intro b β e q
    by_cases hb : m = b
    · subst hb
      rw [Phi.set_at] at e; cases e
      exact ⟨Nat.le_refl _, .inl (Nat.le_refl _)⟩
    · rw [Phi.set_ne _ _ _ hb] at e; rw [e] at q; cases q
  · intro b o' e q
    by_cases hb : m = b
    · subst hb; exact absurd hm q
    · rw [upd_ne _ _ hb] at e; exact ⟨o', e, rfl⟩
/-- what the one memory holds beside the other -/
def beside (h H h' : Hp) : Hp := fun b => match h b, H b with
  | none, some o => some o
  | _, _ => h' b
theorem beside_some {b : List Bool} {o : AO} (e : beside h H h' b = some o) : (h b = none ∧ H b = some o) ∨ (h' b = some o ∧ ((∃ x, h b = some x) ∨ H b = none)) := by
  unfold beside at e
  cases q : h b with
  | none =>
    cases q' : H b with
    | none => rw [q, q'] at e; exact .inr ⟨e, .inr rfl⟩
    | some x => rw [q, q'] at e; exact .inl ⟨rfl, e⟩
  | some x =>
    cases q' : H b with
    | none => rw [q, q'] at e; exact .inr ⟨e, .inl ⟨_, rfl⟩⟩
    | some y => rw [q, q'] at e; exact .inr ⟨e, .inl ⟨_, rfl⟩⟩
theorem beside_in {b : List Bool} {o : AO} (e1 : h b = none) (e2 : H b = some o) : beside h H h' b = some o := by unfold beside; rw [e1, e2]
theorem beside_off {b : List Bool} (e : H b = h b) : beside h H h' b = h' b := by
  unfold beside
  rw [e]
  cases h b <;> rfl
theorem St.frame (s : St cr φ h n w φ' h' n' w') (r : WR cr φ H w) (hs : ∀ b o, h b = some o → H b = some o) (hk : ∀ b o, h b = none → H b = some o → ∃ β, φ b = some β) : St cr φ H n w φ' (beside h H h') n' w' := by
  have ext : ∀ b o β, h b = none → H b = some o → φ b = some β → w'.heap[β]? = w.heap[β]? := fun b o β e1 e2 e3 => by
    obtain ⟨y, hy, _⟩ := r.blk b o β e2 e3
    refine s.old β (Array.getElem?_eq_some_iff.1 hy).1 fun c o' hc hφ => ?_
    have := r.inj c b o' o β (hs c o' hc) e2 hφ e3
    subst this; rw [e1] at hc; cases hc
  -- a block beside is none of the step's own
  have apart : ∀ b o c o' β, h b = none → H b = some o → φ' b = some β → h' c = some o' → φ' c = some β → b = c := by
    intro b o c o' β e1 e2 e3 e4 e5
    obtain ⟨γ, hγ0⟩ := hk b o e1 e2
    have hγb := s.sub.at' b γ hγ0
    rw [hγb] at e3
    have hγ : φ b = some β := by rw [hγ0]; exact e3
    cases q : φ c with
    | some δ =>
      have hδ := s.sub.at' c δ q
      rw [hδ] at e5
      have q : φ c = some β := by rw [q]; exact e5
      obtain ⟨o'', ho'', _⟩ := s.stay c o' e4 (by rw [q]; simp)
      exact r.inj b c o o'' β e2 (hs c o'' ho'') hγ q
    | none =>
      rcases (s.new c β e5 q).2 with hle | ⟨d, od, hd, hφd, _⟩
      · obtain ⟨y, hy, _⟩ := r.blk b o β e2 hγ
        have := (Array.getElem?_eq_some_iff.1 hy).1
        omega
      · have := r.inj d b od o β (hs d od hd) e2 hφd hγ
        subst this; rw [e1] at hd; cases hd
  refine ⟨⟨?_, ?_, ?_⟩, s.fr, s.sub, s.ax, s.size, fun β hβ hr => s.old β hβ fun b o hb => hr b o (hs b o hb), ?_, ?_, s.le⟩
  · intro b o β e q
    rcases beside_some e with ⟨e1, e2⟩ | ⟨e1, _⟩
    · obtain ⟨γ, hγ0⟩ := hk b o e1 e2
      have := s.sub.at' b γ hγ0
      rw [this] at q
      have hγ : φ b = some β := by rw [hγ0]; exact q
      obtain ⟨y, hy, k⟩ := r.blk b o β e2 hγ
      exact ⟨y, by rw [ext b o β e1 e2 hγ]; exact hy, by rw [s.sub.cap b β hγ]; exact k.sub s.sub⟩
    · exact s.wr.blk b o β e1 q
  · intro b c o o' β e e' q q'
    rcases beside_some e with ⟨e1, e2⟩ | ⟨e1, _⟩ <;> rcases beside_some e' with ⟨e3, e4⟩ | ⟨e3, _⟩
    · obtain ⟨γ, hγ⟩ := hk b o e1 e2
      have hγ' := s.sub.at' b γ hγ
      rw [hγ'] at q
      have hγ : φ b = some β := by rw [hγ]; exact q
      obtain ⟨δ, hδ⟩ := hk c o' e3 e4
      have hδ' := s.sub.at' c δ hδ
      rw [hδ'] at q'
      have hδ : φ c = some β := by rw [hδ]; exact q'
      exact r.inj b c o o' β e2 e4 hγ hδ
    · exact apart b o c o' β e1 e2 q e3 q'
    · exact (apart c o' b o β e3 e4 q' e1 q).symm
    · exact s.wr.inj b c o o' β e1 e3 q q'
  · intro q hq
    refine ⟨(s.wr.fx q hq).1, fun b o e k => ?_⟩
    rcases beside_some e with ⟨e1, e2⟩ | ⟨e1, _⟩
    · obtain ⟨γ, hγ0⟩ := hk b o e1 e2
      have := s.sub.at' b γ hγ0
      rw [this] at k
      exact (r.fx q (by rw [← s.sub.fix]; exact hq)).2 b o e2 (by rw [hγ0]; exact k)
    · exact (s.wr.fx q hq).2 b o e1 k
  · intro b β e q
    obtain ⟨a1, a2⟩ := s.new b β e q
    exact ⟨a1, a2.imp id fun ⟨c, o, hc, x⟩ => ⟨c, o, hs c o hc, x⟩⟩
  · intro b o e q
    rcases beside_some e with ⟨_, e2⟩ | ⟨e1, _⟩
    · exact ⟨o, e2, rfl⟩
    · obtain ⟨o', ho', k⟩ := s.stay b o e1 q
      exact ⟨o', hs b o' ho', k⟩

/-! ### the state in the midst of a region -/
def Sd (listed : Array Bool) (i : Nat) : Prop := listed.getD i false = true
theorem sd_set {listed : Array Bool} {i j : Nat} (hi : i < listed.size) : Sd (listed.setIfInBounds i true) j ↔ j = i ∨ Sd listed j := by
  unfold Sd
  by_cases e : i = j
  · subst e
    simp [hi]
  · rw [getD_set_ne false e]
    constructor
    · exact .inr
    · rintro (q | q)
      · exact absurd q.symm e
      · exact q
section
variable (cr) (N : Nat) (full : List Ent) (cl : Cl) (clv : Clv) (fin : RT) (n1 : List Bool) (φ0 : Phi) (h0 : Hp) (n0 : List Bool) (w0 : World) (df : List Deferred) (t00 : Tr AV)
structure DIn (listed : Array Bool) (pre suf : List Ent) (rs : List (List Bool)) (hs : List (Tr AO)) (t : Tr AV) (h : Tr AO) (n : List Bool) (φ : Phi) (H : Hp) (a : Act) (w : World) : Prop where
  ffull : full = pre ++ suf
  tr : DTr cl clv fin suf rs (hs ++ [h]) t h n
  len : hs.length = (pre.filter isE3).length
  fpre : ∀ e ∈ pre, Sd listed e.i
  fsuf : ∀ e ∈ suf, Sd listed e.i → e.d.k ≠ 3
  sz : N ≤ a.tmps.size
  tm : ∀ i v, fin.t.getP (path i) = some v → (∀ e ∈ suf, ¬ Sd listed e.i → e.dst ≠ some (path i)) → ∃ v', a.tmps[i]? = some v' ∧ VR φ v v'
  tm0 : ∀ i v, t00.getP (path i) = some v → (∀ e ∈ full, Sd listed e.i → e.dst ≠ some (path i)) → ∃ v', a.tmps[i]? = some v' ∧ VR φ v v'
  t0e : ∀ p, (∀ e ∈ pre, e.dst ≠ some p) → t.getP p = t00.getP p
  hx : ∀ e ∈ suf, Sd listed e.i → ∀ m o, e.b = some (m, o) → H m = some o ∧ ∃ β, φ m = some β
  hn : ∀ b, (∀ e ∈ suf, Sd listed e.i → ∀ m o, e.b = some (m, o) → m ≠ b) → H b = h.getP b
  rs0 : ∀ m ∈ rs, h.getP m = none
  un : ∀ e ∈ suf, ¬ Sd listed e.i → ∀ m o, e.b = some (m, o) → φ m = none
  nd : rs.Nodup
  lt : ∀ m ∈ rs, val n0 ≤ val m ∧ val m < val n1
  le : val n1 ≤ val n
  st : St cr φ0 h0 n0 w0 φ H n w
  gl : GL φ
  fdf : a.defers = df
end
variable {N : Nat} {full : List Ent} {cl : Cl} {clv : Clv} {fin : RT} {n1 : List Bool} {φ0 : Phi} {h0 : Hp} {n0 : List Bool} {w0 : World} {df : List Deferred} {t00 : Tr AV}
  {listed : Array Bool} {pre suf : List Ent} {rs : List (List Bool)} {hs : List (Tr AO)} {t : Tr AV} {hh : Tr AO} {a : Act}

/-- temporaries, one more being sure -/
theorem tm_put {suf' : List Ent} {listed' : Array Bool} {x : Ent} {d : Option Tmp} {v' : Value} (sz : N ≤ a.tmps.size) (tm : ∀ i v, fin.t.getP (path i) = some v → (∀ e ∈ suf, ¬ Sd listed e.i → e.dst ≠ some (path i)) → ∃ v', a.tmps[i]? = some v' ∧ VR φ v v') (s : Sub φ φ')
    (hd : chkD d x.dst N = true) (hv : VR φ' x.v v') (hval : ∀ p, x.dst = some p → fin.t.getP p = some x.v) (hu : ∀ e ∈ suf, ¬ Sd listed e.i → e = x ∨ (e ∈ suf' ∧ ¬ Sd listed' e.i)) :
    N ≤ (a.put d v').tmps.size ∧ ∀ i v, fin.t.getP (path i) = some v → (∀ e ∈ suf', ¬ Sd listed' e.i → e.dst ≠ some (path i)) → ∃ v'', (a.put d v').tmps[i]? = some v'' ∧ VR φ' v v'' := by
  cases d with
  | none =>
    cases q : x.dst with
    | some p => rw [q] at hd; cases hd
    | none =>
      refine ⟨sz, fun i v e k => ?_⟩
      obtain ⟨u, u1, u2⟩ := tm i v e fun e he hn => by
        rcases hu e he hn with rfl | ⟨z1, z2⟩
        · rw [q]; simp
        · exact k e z1 z2
      exact ⟨u, u1, u2.sub s⟩
  | some d =>
    cases q : x.dst with
    | none => rw [q] at hd; cases hd
    | some p =>
      rw [q] at hd
      simp only [chkD, Bool.and_eq_true, decide_eq_true_eq] at hd
      have hp := chkP_eq hd.1
      subst hp
      refine ⟨by show N ≤ (a.tmps.setIfInBounds d v').size; rw [Array.size_setIfInBounds]; exact sz, fun i v e k => ?_⟩
      show ∃ v'', (a.tmps.setIfInBounds d v')[i]? = some v'' ∧ _
      by_cases hdi : d = i
      · subst hdi
        have hlt : d < a.tmps.size := Nat.lt_of_lt_of_le hd.2 sz
        have := hval _ q
        rw [this] at e; cases e
        exact ⟨v', by simp [hlt], hv⟩
      · rw [Array.getElem?_setIfInBounds_ne hdi]
        obtain ⟨u, u1, u2⟩ := tm i v e fun e he hn => by
          rcases hu e he hn with rfl | ⟨z1, z2⟩
          · rw [q]; intro z; exact hdi (Tr.path_inj _ _ (Option.some.inj z))
          · exact k e z1 z2
        exact ⟨u, u1, u2.sub s⟩
theorem tm0_put {listed' : Array Bool} {x : Ent} {d : Option Tmp} {v' : Value} (tm : ∀ i v, t00.getP (path i) = some v → (∀ e ∈ full, Sd listed e.i → e.dst ≠ some (path i)) → ∃ v', a.tmps[i]? = some v' ∧ VR φ v v') (s : Sub φ φ')
    (hd : chkD d x.dst N = true) (hx : x ∈ full) (hxl : Sd listed' x.i) (hu : ∀ e ∈ full, Sd listed e.i → Sd listed' e.i) :
    ∀ i v, t00.getP (path i) = some v → (∀ e ∈ full, Sd listed' e.i → e.dst ≠ some (path i)) → ∃ v'', (a.put d v').tmps[i]? = some v'' ∧ VR φ' v v'' := by
  intro i v e k
  obtain ⟨u, u1, u2⟩ := tm i v e fun y hy hl => k y hy (hu y hy hl)
  cases d with
  | none => exact ⟨u, u1, u2.sub s⟩
  | some d =>
    have hne := k x hx hxl
    cases q : x.dst with
    | none => rw [q] at hd; cases hd
    | some p =>
      rw [q] at hd hne
      simp only [chkD, Bool.and_eq_true, decide_eq_true_eq] at hd
      have hp := chkP_eq hd.1
      subst hp
      have hdi : d ≠ i := fun z => hne (by rw [z])
      exact ⟨u, by show (a.tmps.setIfInBounds d v')[i]? = some u; rw [Array.getElem?_setIfInBounds_ne hdi]; exact u1, u2.sub s⟩
theorem nodup_i {L : List DOper} (hf : ∀ A x B, L = A ++ x :: B → ∀ y ∈ A, y.i ≠ x.i) : ∀ (es : List Ent), es.map (·.d) = L → ∀ e ∈ es, ∀ e' ∈ es, e.i = e'.i → e = e' := by
  intro es hL e he e' he' hi
  obtain ⟨A, B, rfl⟩ := List.append_of_mem he
  rcases List.mem_append.1 he' with q | q
  · have := hf (A.map (·.d)) e.d (B.map (·.d)) (by rw [← hL]; simp) e'.d (List.mem_map.2 ⟨e', q, rfl⟩)
    exact absurd hi.symm this
  · rcases List.mem_cons.1 q with q | q
    · exact q.symm
    · obtain ⟨C, D, rfl⟩ := List.append_of_mem q
      have := hf ((A ++ e :: C).map (·.d)) e'.d (D.map (·.d)) (by rw [← hL]; simp) e.d (List.mem_map.2 ⟨e, by simp, rfl⟩)
      exact absurd hi this
theorem birth_k2 {t : Tr AV} {h h' : Tr AO} {n n' : List Bool} {hs hs' : List (Tr AO)} {e : Ent} {rs rs' : List (List Bool)} (s : EStep cl clv t h n hs e rs rs' hs' h' n') (h2 : e.d.k ≠ 2) : e.b = none := by
  cases s
  case new z _ _ => exact absurd z h2
  all_goals rfl
end Go.Ev
end
section
namespace Go.Ev
open Tr (path)
variable {P : Program} {cr : Nat → AC → Code → Prop} {F : Fence} {φ φ' : Phi} {H H' : Hp} {n : List Bool} {w w' : World}
  {N : Nat} {full : List Ent} {cl : Cl} {clv : Clv} {fin : RT} {n1 : List Bool} {φ0 : Phi} {h0 : Hp} {n0 : List Bool} {w0 : World} {df : List Deferred} {t00 : Tr AV}
  {listed : Array Bool} {pre suf : List Ent} {rs : List (List Bool)} {hs : List (Tr AO)} {t : Tr AV} {hh : Tr AO} {a : Act}

theorem DIn.base (D : DIn cr N full cl clv fin n1 φ0 h0 n0 w0 df t00 listed pre suf rs hs t hh n φ H a w) : ∀ b o, hh.getP b = some o → H b = some o := by
  intro b o e
  by_cases hb : ∃ e ∈ suf, Sd listed e.i ∧ ∃ o', e.b = some (b, o')
  · obtain ⟨x, hx, _, o', hb'⟩ := hb
    have := D.rs0 b (D.tr.births x hx b o' hb')
    rw [this] at e; cases e
  · rw [D.hn b fun x hx hsd m o' hm q => hb ⟨x, hx, hsd, o', by rw [← q]; exact hm⟩]
    exact e
/-- an operation that turns no memory has come early -/
theorem DIn.early (D : DIn cr N full cl clv fin n1 φ0 h0 n0 w0 df t00 listed pre suf rs hs t hh n φ H a w) {x : Ent} (hxs : x ∈ suf) (hlt : x.i < listed.size) (hnx : ¬ Sd listed x.i) (hk : x.d.k ≠ 3)
    (hinj : ∀ e ∈ full, ∀ e' ∈ full, e.i = e'.i → e = e') {v' : Value} {d : Option Tmp} (s : Sub φ φ') (hd : chkD d x.dst N = true) (hv : VR φ' x.v v') (hval : ∀ p, x.dst = some p → fin.t.getP p = some x.v)
    (st : St cr φ0 h0 n0 w0 φ' H' n w') (hb1 : ∀ m o, x.b = some (m, o) → H' m = some o ∧ ∃ β, φ' m = some β)
    (hb2 : ∀ b, (∀ m o, x.b = some (m, o) → m ≠ b) → H' b = H b) (hb3 : ∀ b, (∀ m o, x.b = some (m, o) → m ≠ b) → φ b = none → φ' b = none) :
    DIn cr N full cl clv fin n1 φ0 h0 n0 w0 df t00 (listed.setIfInBounds x.i true) pre suf rs hs t hh n φ' H' (a.put d v') w' := by
  have hin : ∀ e ∈ suf, e.i = x.i → e = x := fun e he q => hinj e (by rw [D.ffull]; exact List.mem_append_right _ he) x (by rw [D.ffull]; exact List.mem_append_right _ hxs) q
  have hmono : ∀ {j}, Sd listed j → Sd (listed.setIfInBounds x.i true) j := fun q => (sd_set hlt).2 (.inr q)
  obtain ⟨z1, z2⟩ := tm_put (suf' := suf) (listed' := listed.setIfInBounds x.i true) (x := x) D.sz D.tm s hd hv hval fun e he hn => by
    by_cases q : e.i = x.i
    · exact .inl (hin e he q)
    · exact .inr ⟨he, fun z => by rcases (sd_set hlt).1 z with z | z; exact q z; exact hn z⟩
  have birth_ne : ∀ e ∈ suf, e ≠ x → ∀ m o, e.b = some (m, o) → ∀ m' o', x.b = some (m', o') → m' ≠ m := fun e he hne m o hb m' o' hb' q => by
    subst q; exact hne (D.tr.birth_inj D.nd e he x hxs m' o o' hb hb')
  refine ⟨D.ffull, D.tr, D.len, fun e he => hmono (D.fpre e he), fun e he q => ?_, z1, z2, tm0_put D.tm0 s hd (by rw [D.ffull]; exact List.mem_append_right _ hxs) ((sd_set hlt).2 (.inl rfl)) (fun e _ q => hmono q), D.t0e, fun e he q m o hb => ?_, fun b hb => ?_, D.rs0, fun e he q m o hb => ?_, D.nd, D.lt, D.le, st, D.gl.sub s, ?_⟩
  · rcases (sd_set hlt).1 q with z | z
    · rw [hin e he z]; exact hk
    · exact D.fsuf e he z
  · rcases (sd_set hlt).1 q with z | z
    · have := hin e he z
      subst this
      exact hb1 m o hb
    · have hne : e ≠ x := fun q => hnx (by rw [← q]; exact z)
      obtain ⟨h1, β, h2⟩ := D.hx e he z m o hb
      exact ⟨by rw [hb2 m (birth_ne e he hne m o hb)]; exact h1, β, s.at' _ _ h2⟩
  · rw [hb2 b fun m o hm => hb x hxs ((sd_set hlt).2 (.inl rfl)) m o hm]
    exact D.hn b fun e he q => hb e he (hmono q)
  · have hne : e ≠ x := fun z => q (by rw [z]; exact (sd_set hlt).2 (.inl rfl))
    exact hb3 m (birth_ne e he hne m o hb) (D.un e he (fun z => q (hmono z)) m o hb)
  · cases d <;> exact D.fdf
/-- an operation that turns memory has come in its turn -/
theorem DIn.turn (D : DIn cr N full cl clv fin n1 φ0 h0 n0 w0 df t00 listed pre suf rs hs t hh n φ H a w) {G B : List Ent} {x : Ent} (hsuf : suf = G ++ x :: B) (hlt : x.i < listed.size) (hk : x.d.k = 3)
    (hG : ∀ e ∈ G, Sd listed e.i) (hB : ∀ e ∈ B, e.i ≠ x.i) {v' : Value} {d : Option Tmp} (s : Sub φ φ') (hd : chkD d x.dst N = true) (hv : VR φ' x.v v') (hval : ∀ p, x.dst = some p → fin.t.getP p = some x.v)
    {rs' : List (List Bool)} {t1 : Tr AV} {g1 : Tr AO} {n1' : List Bool} (tr : DTr cl clv fin B rs' (hs ++ [hh] ++ [g1]) t1 g1 n1') (hrs : ∃ l, rs = l ++ rs') (hg1 : ∀ m ∈ rs', g1.getP m = none) (hle : val n ≤ val n1') (ht1 : ∀ p, (∀ e ∈ G, e.dst ≠ some p) → x.dst ≠ some p → t1.getP p = t.getP p)
    (st : St cr φ0 h0 n0 w0 φ' H' n1' w') (hb1 : ∀ m ∈ rs', ∀ o, H m = some o → H' m = some o)
    (hb2 : ∀ b, (∀ e ∈ B, Sd listed e.i → ∀ m o, e.b = some (m, o) → m ≠ b) → H' b = g1.getP b) (hb3 : ∀ m ∈ rs', φ m = none → φ' m = none) :
    DIn cr N full cl clv fin n1 φ0 h0 n0 w0 df t00 (listed.setIfInBounds x.i true) (pre ++ G ++ [x]) B rs' (hs ++ [hh]) t1 g1 n1' φ' H' (a.put d v') w' := by
  subst hsuf
  obtain ⟨l, hl⟩ := hrs
  have hin : ∀ e ∈ B, Sd (listed.setIfInBounds x.i true) e.i → Sd listed e.i := fun e he q => by
    rcases (sd_set hlt).1 q with z | z
    · exact absurd z (hB e he)
    · exact z
  have hmono : ∀ {j}, Sd listed j → Sd (listed.setIfInBounds x.i true) j := fun q => (sd_set hlt).2 (.inr q)
  obtain ⟨z1, z2⟩ := tm_put (suf' := B) (listed' := listed.setIfInBounds x.i true) (x := x) D.sz D.tm s hd hv hval fun e he hn => by
    rcases List.mem_append.1 he with q | q
    · exact absurd (hG e q) hn
    · rcases List.mem_cons.1 q with q | q
      · exact .inl q
      · exact .inr ⟨q, fun y => hn (hin e q y)⟩
  have hnE : (G.filter isE3).length = 0 := by
    rw [List.length_eq_zero_iff, List.filter_eq_nil_iff]
    intro e he q
    exact D.fsuf e (by simp [he]) (hG e he) (isE3_iff.1 q)
  refine ⟨by rw [D.ffull]; simp, tr, ?_, fun e he => ?_, fun e he q => D.fsuf e (by simp [he]) (hin e he q), z1, z2, tm0_put D.tm0 s hd (by rw [D.ffull]; simp) ((sd_set hlt).2 (.inl rfl)) (fun e _ q => hmono q), (fun p hp => by rw [ht1 p (fun e he => hp e (by simp [he])) (hp x (by simp))]; exact D.t0e p fun e he => hp e (by simp [he])), fun e he q m o hb => ?_, fun b hb => hb2 b fun e he q => hb e he (hmono q), hg1, fun e he q m o hb => ?_, ?_, fun m hm => D.lt m (by rw [hl]; exact List.mem_append_right _ hm), Nat.le_trans D.le hle, st, D.gl.sub s, ?_⟩
  · rw [List.length_append, D.len, List.filter_append, List.filter_append, List.length_append, List.length_append, hnE]
    have : isE3 x = true := isE3_iff.2 hk
    simp [this]
  · rcases List.mem_append.1 he with he | he
    · rcases List.mem_append.1 he with he | he
      · exact hmono (D.fpre e he)
      · exact hmono (hG e he)
    · have : e = x := by simpa using he
      rw [this]; exact (sd_set hlt).2 (.inl rfl)
  · obtain ⟨k1, β, k2⟩ := D.hx e (by simp [he]) (hin e he q) m o hb
    exact ⟨hb1 m (tr.births e he m o hb) o k1, β, s.at' _ _ k2⟩
  · exact hb3 m (tr.births e he m o hb) (D.un e (by simp [he]) (fun z => q (hmono z)) m o hb)
  · have := D.nd; rw [hl] at this; exact nodup_tail this
  · cases d <;> exact D.fdf

theorem nd_getD {listed : Array Bool} {i : Nat} (h : listed.getD i true = false) : i < listed.size ∧ ¬ Sd listed i := by
  have hlt : i < listed.size := by
    apply Nat.lt_of_not_le
    intro hle
    rw [Array.getD_eq_getD_getElem?, Array.getElem?_eq_none hle] at h
    cases h
  refine ⟨hlt, ?_⟩
  unfold Sd
  rw [Array.getD_eq_getD_getElem?, Array.getElem?_eq_getElem hlt] at h ⊢
  have h : listed[i] = false := h
  simp [h]
theorem count_set {listed : Array Bool} {i : Nat} (h : listed.getD i true = false) : (listed.setIfInBounds i true).toList.count false + 1 = listed.toList.count false := by
  obtain ⟨hlt, _⟩ := nd_getD h
  rw [Array.getD_eq_getD_getElem?, Array.getElem?_eq_getElem hlt] at h
  have h : listed[i] = false := h
  rw [Array.toList_setIfInBounds]
  have hl : i < listed.toList.length := by simpa using hlt
  have hg : listed.toList[i] = false := by simpa using h
  have hp : 0 < listed.toList.count false := List.count_pos_iff.2 (by rw [← hg]; exact List.getElem_mem hl)
  rw [List.count_set hl, hg]
  rw [show (false == false) = true from rfl, show (true == false) = false from rfl]
  simp only [if_true, Bool.false_eq_true, if_false]
  omega
/-- an operation that has run to a value -/
theorem wp_ran {os : Array Oper} {o : Oper} {i : Nat} {K : Act → World → Prop} {Q : Exit → Act → World → Prop} (hF : Open F) (ho : os[i]? = some o) (hw : Region.wanted o (yielded os a.tmps) = true) (hnd : ∀ c, o.op ≠ .defer c) {v' : Value} (hr : (execOp a.eval o).run P w = .ok (.value v') w')
    (hk : K (a.put o.dst v') w') : wpOpIn F 0 P os Q i K a w := by
  unfold wpOpIn
  rw [ho]
  simp only []
  rw [if_pos hw]
  refine ⟨fun f _ => hF.fn f, ?_⟩
  rw [Oper.semAt_plain F a.eval o hnd, hr]
  exact hk
theorem wp_off {os : Array Oper} {o : Oper} {i : Nat} {K : Act → World → Prop} {Q : Exit → Act → World → Prop} (hF : Open F) (ho : os[i]? = some o) (hw : Region.wanted o (yielded os a.tmps) = false) (hk : K (a.put o.dst undef) w) : wpOpIn F 0 P os Q i K a w := by
  unfold wpOpIn
  rw [ho]
  simp only []
  rw [if_neg (by rw [hw]; simp)]
  exact ⟨fun f _ => hF.fn f, hk⟩
theorem wp_eff {os : Array Oper} {o : Oper} {i : Nat} {K : Act → World → Prop} {Q : Exit → Act → World → Prop} (ho : os[i]? = some o) (hw : Region.wanted o (yielded os a.tmps) = true) (hk : o.wpIn F 0 P a w K Q) : wpOpIn F 0 P os Q i K a w := by
  unfold wpOpIn
  rw [ho]
  simp only []
  rw [if_pos hw]
  exact hk
theorem wp_dr {os : Array Oper} {md : Region.Mode} (hmd : md = .any) {Q : Exit → Act → World → Prop} (hF : Open F) (hcl : ClOk P cr F cl) (hclv : ClvOk P cr F clv) (C : DChk P N os (full.map (·.d)))
    (hQ : ∀ φ' a' w', TM φ' N fin.t a'.tmps → a'.defers = df → St cr φ0 h0 n0 w0 φ' fin.h.getP fin.n w' → Q .normal a' w') :
    ∀ (fuel : Nat) {listed : Array Bool} {pre suf : List Ent} {rs : List (List Bool)} {hs : List (Tr AO)} {t : Tr AV} {hh : Tr AO} {n : List Bool} {φ : Phi} {H : Hp} {a : Act} {w : World}, listed.size = os.size → Closed md os (Sd listed) → listed.toList.count false ≤ fuel →
      DIn cr N full cl clv fin n1 φ0 h0 n0 w0 df t00 listed pre suf rs hs t hh n φ H a w → wpAnyIn F 0 P md os Q fuel listed a w := by
  intro fuel
  have hinj : ∀ e ∈ full, ∀ e' ∈ full, e.i = e'.i → e = e' := nodup_i (fun A x B hL => (C.facts A x B hL).nd) full rfl
  have done : ∀ {listed : Array Bool} {pre suf : List Ent} {rs : List (List Bool)} {hs : List (Tr AO)} {t : Tr AV} {hh : Tr AO} {n : List Bool} {φ : Phi} {H : Hp} {a : Act} {w : World}, listed.size = os.size →
      DIn cr N full cl clv fin n1 φ0 h0 n0 w0 df t00 listed pre suf rs hs t hh n φ H a w → Region.ready md os listed = [] → Q .normal a w := by
    intro listed pre suf rs hs t hh n φ H a w hsz D hr
    have hall : ∀ i, i < os.size → Sd listed i := by
      intro i
      induction i using Nat.strongRecOn with
      | _ i ih =>
        intro hi
        apply Classical.byContradiction
        intro hn
        have : i ∈ Region.ready md os listed := by
          rw [mem_ready]
          refine ⟨?_, os[i], by simp [hi], fun e he hb => ih e.on (C.edge i os[i] (by simp [hi]) e he (by rw [← hmd]; exact hb)) (Nat.lt_trans (C.edge i os[i] (by simp [hi]) e he (by rw [← hmd]; exact hb)) hi)⟩
          unfold Sd at hn
          have hlt : i < listed.size := by omega
          rw [Array.getD_eq_getD_getElem?, Array.getElem?_eq_getElem hlt] at hn ⊢
          simpa using hn
        rw [hr] at this; cases this
    have hex : ∀ e ∈ suf, Sd listed e.i := fun e he => by
      have hmem : e ∈ full := by rw [D.ffull]; exact List.mem_append_right _ he
      obtain ⟨A, B, hAB⟩ := List.append_of_mem hmem
      obtain ⟨o, ho, _⟩ := (C.facts (A.map (·.d)) e.d (B.map (·.d)) (by rw [hAB]; simp)).op
      exact hall e.i (Array.getElem?_eq_some_iff.1 ho).1
    obtain ⟨rs', t', h', q1, _, q3, q4, _⟩ := DTr.quiet suf (B := []) (by rw [List.append_nil]; exact D.tr) D.nd (fun e he => D.fsuf e he (hex e he))
    have hH : H = fin.h.getP := by
      cases q1
      funext b
      by_cases hb : ∃ e ∈ suf, ∃ o, e.b = some (b, o)
      · obtain ⟨e, he, o, hb⟩ := hb
        rw [(q3 e he b o hb).1, (D.hx e he (hex e he) b o hb).1]
      · rw [q4 b fun e he m o hm q => hb ⟨e, he, o, by rw [← q]; exact hm⟩]
        exact D.hn b fun e he _ m o hm q => hb ⟨e, he, o, by rw [← q]; exact hm⟩
    have hn : fin.n = n := by cases q1; rfl
    refine hQ φ a w ⟨D.sz, fun i v e => D.tm i v e fun x hx hn => absurd (hex x hx) hn⟩ D.fdf ?_
    rw [← hH, hn]; exact D.st
  induction fuel with
  | zero =>
    intro listed pre suf rs hs t hh n φ H a w hsz _ hct D
    have hr : Region.ready md os listed = [] := by
      cases q : Region.ready md os listed with
      | nil => rfl
      | cons i l =>
        have : i ∈ Region.ready md os listed := by rw [q]; exact List.mem_cons_self
        have := count_set (mem_ready.1 this).1
        omega
    exact ⟨hr, done hsz D hr⟩
  | succ fuel ih =>
    intro listed pre suf rs hs t hh n φ H a w hsz hcl' hct D
    refine ⟨done hsz D, fun i hi => ?_⟩
    obtain ⟨hun, o, ho, hall⟩ := mem_ready.1 hi
    obtain ⟨hlt, hnx⟩ := nd_getD hun
    obtain ⟨d, hd, rfl⟩ := C.all i (by omega)
    obtain ⟨x, hxf, rfl⟩ := List.mem_map.1 hd
    have hwaits : Waits md os (Sd listed) x.i := fun o' ho' e he hb => by
      rw [ho] at ho'; cases ho'; exact hall e he hb
    have bef : ∀ j, Bef os j x.i → Sd listed j := fun j b => b md _ hcl' hwaits
    have hxs : x ∈ suf := by
      rw [D.ffull] at hxf
      rcases List.mem_append.1 hxf with q | q
      · exact absurd (D.fpre x q) hnx
      · exact q
    obtain ⟨G, B, hGB⟩ := List.append_of_mem hxs
    have hfull : full = (pre ++ G) ++ x :: B := by rw [D.ffull, hGB]; simp
    have fx := C.facts ((pre ++ G).map (·.d)) x.d (B.map (·.d)) (by rw [hfull]; simp)
    have fB : ∀ e ∈ B, ∃ A', Facts P N os A' e.d ∧ x.d ∈ A' := fun e he => by
      obtain ⟨B1, B2, hB⟩ := List.append_of_mem he
      refine ⟨((pre ++ G) ++ x :: B1).map (·.d), C.facts _ e.d (B2.map (·.d)) (by rw [hfull, hB]; simp), by simp⟩
    have hB : ∀ e ∈ B, e.i ≠ x.i := fun e he q => by
      obtain ⟨A', f1, f2⟩ := fB e he
      exact f1.nd x.d f2 q.symm
    obtain ⟨o', ho', hchk⟩ := fx.op
    have : o' = o := by
      have : os[x.d.i]? = some o := ho
      rw [this] at ho'; exact (Option.some.inj ho').symm
    subst this
    obtain ⟨c1, c2, c3⟩ := chkO_iff (g := x.d.o.g) (d := x.d.o.d) (x := x.d.o.op) hchk
    have hnd := not_defer c1
    -- temporaries
    have hfB : ∀ e ∈ x :: B, ∃ A', Facts P N os A' e.d ∧ (∀ y ∈ pre ++ G, y.d ∈ A') ∧ (e = x ∨ x.d ∈ A') := fun e he => by
      rcases List.mem_cons.1 he with rfl | he
      · exact ⟨_, fx, fun y hy => List.mem_map.2 ⟨y, hy, rfl⟩, .inl rfl⟩
      · obtain ⟨B1, B2, hB⟩ := List.append_of_mem he
        exact ⟨((pre ++ G) ++ x :: B1).map (·.d), C.facts _ e.d (B2.map (·.d)) (by rw [hfull, hB]; simp), fun y hy => List.mem_map.2 ⟨y, List.mem_append_left _ hy, rfl⟩, .inr (by simp)⟩
    have htmF : ∀ {t'' : Tr AV}, (∀ p, (∀ e ∈ x :: B, e.dst ≠ some p) → fin.t.getP p = t''.getP p) → (∀ p, (∀ e ∈ G, e.dst ≠ some p) → t''.getP p = t.getP p) → TM φ N (only t'' (usesD x.d.o)) a.tmps := fun {t''} g1 g2 => ⟨D.sz, fun i v e => by
      rw [only_get] at e
      split at e
      · rename_i hp
        by_cases hw : ∃ y ∈ x :: B, y.dst = some (path i)
        · obtain ⟨y, hy, hyd⟩ := hw
          obtain ⟨A', f1, f2, _⟩ := hfB y hy
          have nowr : ∀ z ∈ pre ++ G, z.dst ≠ some (path i) := fun z hz => (f1.dst _ hyd z.d (f2 z hz)).1
          rw [g2 _ fun z hz => nowr z (List.mem_append_right _ hz), D.t0e _ fun z hz => nowr z (List.mem_append_left _ hz)] at e
          refine D.tm0 i v e fun z hz hsd hzd => ?_
          rw [hfull] at hz
          rcases List.mem_append.1 hz with hz | hz
          · exact nowr z hz hzd
          · obtain ⟨A2, k1, _, k3⟩ := hfB z hz
            rcases k3 with rfl | k3
            · exact hnx hsd
            · have hb := (k1.dst _ hzd x.d k3).2 hp
              exact hnx (hb md _ hcl' fun o ho e he hb => hcl' z.i o hsd ho e he hb)
        · have nowr : ∀ y ∈ x :: B, y.dst ≠ some (path i) := fun y hy q => hw ⟨y, hy, q⟩
          rw [← g1 _ nowr] at e
          refine D.tm i v e fun e' he' hn hdst => ?_
          rw [hGB] at he'
          rcases List.mem_append.1 he' with q | q
          · exact hn (bef _ (fx.use (path i) hp e'.d (List.mem_map.2 ⟨e', List.mem_append_right _ q, rfl⟩) hdst))
          · exact nowr e' q hdst
      · cases e⟩
    have heqs : ∀ (t'' : Tr AV), ∀ p ∈ usesD x.d.o, t''.getP p = (only t'' (usesD x.d.o)).getP p := fun t'' p hp => by rw [only_get, if_pos hp]
    have hval : ∀ p, x.dst = some p → fin.t.getP p = some x.v := fun p hp => by
      obtain ⟨rs', more, t', h', n', q1, _, _⟩ := DTr.split G (B := x :: B) (by rw [← hGB]; exact D.tr)
      exact q1.value hp fun e he q => by
        obtain ⟨A', f1, f2⟩ := fB e he
        exact (f1.dst p q x.d f2).1 hp
    have hwantF : ∀ {t'' : Tr AV}, TM φ N (only t'' (usesD x.d.o)) a.tmps → ∀ b, Wt x.d.o.g (only t'' (usesD x.d.o)) b → Region.wanted o' (yielded os a.tmps) = b := fun {t''} htm b hb => by
      rcases wants_ok (β := Bool) c3 htm hb with ⟨q1, q2⟩ | ⟨q1, q2⟩
      · rw [q1]; exact Option.some.inj q2
      · rw [q1]; exact Option.some.inj q2
    -- on from there
    have hsz' : (listed.setIfInBounds x.i true).size = os.size := by rw [Array.size_setIfInBounds]; exact hsz
    have hclo : Closed md os (Sd (listed.setIfInBounds x.i true)) := fun j oj hj hoj e he hb => by
      refine (sd_set hlt).2 (.inr ?_)
      rcases (sd_set hlt).1 hj with q | q
      · exact hwaits oj (by rw [q] at hoj; exact hoj) e he hb
      · exact hcl' j oj q hoj e he hb
    have hct' : (listed.setIfInBounds x.i true).toList.count false ≤ fuel := by
      have := count_set hun
      show List.count false (listed.setIfInBounds x.d.i true).toList ≤ fuel
      omega
    have ih' := fun {pre suf rs hs t hh n φ H a w} => ih (pre := pre) (suf := suf) (rs := rs) (hs := hs) (t := t) (hh := hh) (n := n) (φ := φ) (H := H) (a := a) (w := w) hsz' hclo hct'
    have hus : ∀ p ∈ usesOp x.d.o.op, p ∈ usesD x.d.o := fun p hp => List.mem_append_right _ hp
    have hug : ∀ p ∈ usesG x.d.o.g, p ∈ usesD x.d.o := fun p hp => List.mem_append_left _ hp
    have snd : Snd P cr o' x.d.o.op := snd_of c1
    have cls0 : ∀ c, kOf (cls x.d.o.op) = c → c < 3 → cls x.d.o.op = c := fun c h1 h2 => by
      unfold kOf at h1; split at h1 <;> omega
    by_cases hk3 : x.d.k = 3
    · -- an effect: it comes in its turn
      have hG : ∀ e ∈ G, Sd listed e.i := fun e he => bef _ (fx.eff hk3 e.d (List.mem_map.2 ⟨e, List.mem_append_right _ he, rfl⟩))
      have hGk : ∀ e ∈ G, e.d.k ≠ 3 := fun e he => D.fsuf e (by rw [hGB]; simp [he]) (hG e he)
      obtain ⟨rs', t', h', q1, q2, q3, q4, q5⟩ := DTr.quiet G (B := x :: B) (by rw [← hGB]; exact D.tr) D.nd hGk
      -- the reading's memory there is part of the world's
      have hGb : ∀ m ∈ rs', ∀ e ∈ G, ∀ m' o, e.b = some (m', o) → m' ≠ m := fun m hm e he m' o hb q => by
        subst q; exact (q3 e he m' o hb).2 hm
      have hrs' : ∀ m ∈ rs', m ∈ rs := fun m hm => by obtain ⟨l, hl⟩ := q2; rw [hl]; exact List.mem_append_right _ hm
      have hfree : ∀ m ∈ rs', h'.getP m = none := fun m hm => by rw [q4 m (hGb m hm)]; exact D.rs0 m (hrs' m hm)
      have hsub : ∀ b ob, h'.getP b = some ob → H b = some ob := fun b ob e => by
        by_cases hb : ∃ e ∈ G, ∃ o, e.b = some (b, o)
        · obtain ⟨y, hy, o, hyb⟩ := hb
          rw [(q3 y hy b o hyb).1] at e
          rw [(D.hx y (by rw [hGB]; simp [hy]) (hG y hy) b o hyb).1]; exact e
        · rw [q4 b fun y hy m o hm q => hb ⟨y, hy, o, by rw [← q]; exact hm⟩] at e
          exact D.base b ob e
      have htm := htmF (fun p hp => q1.temps hp) q5
      have hwant := hwantF htm
      cases q1 with
      | cons s tl =>
        have hxb : x.b = none := birth_k2 s (by rw [hk3]; intro z; cases z)
        -- off the births of G and of what has come early, the two agree
        have hoff : ∀ b, (∀ e ∈ B, Sd listed e.i → ∀ m o, e.b = some (m, o) → m ≠ b) → H b = h'.getP b := fun b hb => by
          by_cases hg : ∃ e ∈ G, ∃ o, e.b = some (b, o)
          · obtain ⟨y, hy, o, hyb⟩ := hg
            rw [(q3 y hy b o hyb).1, (D.hx y (by rw [hGB]; simp [hy]) (hG y hy) b o hyb).1]
          · rw [q4 b fun y hy m o hm q => hg ⟨y, hy, o, by rw [← q]; exact hm⟩]
            refine D.hn b fun e he hsd m o hm q => ?_
            rw [hGB] at he
            rcases List.mem_append.1 he with z | z
            · exact hg ⟨e, z, o, by rw [← q]; exact hm⟩
            · rcases List.mem_cons.1 z with z | z
              · rw [z, hxb] at hm; cases hm
              · exact hb e z hsd m o hm q
        cases s
        case off h3 _ => exact absurd hk3 h3
        case offA h2 _ => have hk3 : _ = 3 := hk3; rw [h2] at hk3; cases hk3
        case val h0 _ _ => have hk3 : _ = 3 := hk3; rw [h0] at hk3; cases hk3
        case read h0 _ _ _ => have hk3 : _ = 3 := hk3; rw [h0] at hk3; cases hk3
        case own h0 _ _ _ _ => have hk3 : _ = 3 := hk3; rw [h0] at hk3; cases hk3
        case new h0 _ _ => have hk3 : _ = 3 := hk3; rw [h0] at hk3; cases hk3
        case offE d h3 hw =>
          refine wp_off hF ho (hwant false (wt_congr (fun p hp => heqs _ p (hug p hp)) hw)) ?_
          exact ih' (D.turn hGB hlt hk3 hG hB (.refl φ) c2 (und_vr φ) hval tl q2 hfree (Nat.le_refl _) (fun p h1 h2 => by rw [putT_get, if_neg h2]; exact q5 p h1) D.st (fun m _ o e => e) (fun b hb => hoff b hb) (fun m _ e => e))
        case eff d v h3 hw ha q =>
          have hw' := hwant true (wt_congr (fun p hp => heqs _ p (hug p hp)) hw)
          have hq := q
          rw [exec_congr (fun p hp => heqs _ p (hus p hp))] at hq
          have wr' : WR cr φ h'.getP w := D.st.wr.less hsub
          have key := wp_op hF hcl hclv c1 htm D.gl wr' D.st.fr hq
          refine wp_eff ho hw' (key _ _ fun φ' v' w' hv st => ?_)
          have hk0 : ∀ b o, h'.getP b = none → H b = some o → ∃ β, φ b = some β := fun b o e1 e2 => by
            apply Classical.byContradiction
            intro hno
            have := hoff b fun e he hsd m o' hm q => by
              subst q
              exact hno (D.hx e (by rw [hGB]; simp [he]) hsd m o' hm).2
            rw [this, e1] at e2; cases e2
          have fr := St.frame st D.st.wr hsub hk0
          have hn0 : val n1 ≤ val n := D.le
          have hn00 : val n0 ≤ val n := D.st.le
          refine ih' (D.turn hGB hlt hk3 hG hB st.sub c2 hv hval tl q2 ha st.le (fun p h1 h2 => by rw [putT_get, if_neg h2]; exact q5 p h1) (D.st.trans fr) (fun m hm o e => ?_) (fun b hb => ?_) (fun m hm e => ?_))
          · exact beside_in (hfree m hm) e
          · exact beside_off (hoff b hb)
          · cases z : φ' m with
            | none => rfl
            | some β =>
              have := (st.new m β z e).1
              have := (D.lt m (hrs' m hm)).2
              omega
    · -- an operation that may come early
      have hkk := fx.k.resolve_right hk3
      obtain ⟨rs', more, t', h', n', A1, A2, h2, q1, q2, q3, q5, q6, q7, q8, q9⟩ := DTr.split2 G (B := x :: B) (by rw [← hGB]; exact D.tr) D.nd
      have hlen : ((hs ++ [hh]) ++ more).length = (((pre ++ G).map (·.d)).filter isK3).length + 1 := by
        have e1 : ((pre ++ G).map (·.d)).filter isK3 = ((pre ++ G).filter isE3).map (·.d) := by rw [List.filter_map]; rfl
        rw [e1, List.length_map, List.filter_append, List.length_append, List.length_append, List.length_append, ← D.len, q3]
        simp; omega
      have htm := htmF (fun p hp => q1.temps hp) q5
      have hwant := hwantF htm
      have quiet : ∀ {v' : Value}, VR φ x.v v' → x.b = none → DIn cr N full cl clv fin n1 φ0 h0 n0 w0 df t00 (listed.setIfInBounds x.i true) pre suf rs hs t hh n φ H (a.put o'.dst v') w := fun {v'} hv hxb =>
        D.early hxs hlt hnx hk3 hinj (.refl φ) c2 hv hval D.st (fun m o e => by rw [hxb] at e; cases e) (fun b _ => rfl) (fun b _ e => e)
      cases q1 with
      | cons s tl =>
        cases s
        case offE h3 _ => exact absurd h3 hk3
        case eff h3 _ _ _ => exact absurd h3 hk3
        case off d h2 h3 hw => exact wp_off hF ho (hwant false (wt_congr (fun p hp => heqs _ p (hug p hp)) hw)) (ih' (quiet (und_vr φ) rfl))
        case offA d m h2 hw => exact wp_off hF ho (hwant false (wt_congr (fun p hp => heqs _ p (hug p hp)) hw)) (ih' (quiet (und_vr φ) rfl))
        case val d v h1 m1 hk0 hw q =>
          have hw' := hwant true (wt_congr (fun p hp => heqs _ p (hug p hp)) hw)
          have hq := q
          rw [exec_congr (fun p hp => heqs _ p (hus p hp))] at hq
          have hc := cls0 0 (by rw [hkk]; exact hk0) (by omega)
          rcases snd with ⟨_, s⟩ | ⟨z, _⟩ | ⟨z, _⟩ | ⟨z, _⟩ | z
          · obtain ⟨_, _, v', k1, k2⟩ := s htm D.gl hq
            exact wp_ran hF ho hw' hnd (k2 w) (ih' (quiet k1 rfl))
          all_goals rw [hc] at z; cases z
        case read d v hk1 hw hdn q =>
          have hw' := hwant true (wt_congr (fun p hp => heqs _ p (hug p hp)) hw)
          have hc := cls0 1 (by rw [hkk]; exact hk1) (by omega)
          have hle : d.k0 ≤ hs.length := by
            apply Classical.byContradiction
            intro hno
            rcases fx.k0 hk1 with z | ⟨j, z1, z2⟩ | ⟨z, _⟩
            · have z : d.k0 = 0 := z
              omega
            · have z1 : ((((pre ++ G).map (·.d)).filter isK3).map (·.i))[d.k0 - 1]? = some j := z1
              rw [List.map_append, List.filter_append, List.map_append, List.getElem?_append_right] at z1
              · have hm := List.mem_of_getElem? z1
                obtain ⟨d', hd', rfl⟩ := List.mem_map.1 hm
                obtain ⟨hd1, hd2⟩ := List.mem_filter.1 hd'
                obtain ⟨e, he, rfl⟩ := List.mem_map.1 hd1
                exact D.fsuf e (by rw [hGB]; simp [he]) (bef _ z2) (Nat.eq_of_beq_eq_true hd2)
              · rw [List.length_map, List.filter_map, List.length_map]
                have : (pre.filter (isK3 ∘ fun e : Ent => e.d)).length = (pre.filter isE3).length := rfl
                rw [this, ← D.len]; omega
            · have z : ((((pre ++ G).map (·.d)).filter isK3).map (·.i))[d.k0 - 1]? = none := z
              rw [List.getElem?_eq_none_iff, List.length_map] at z
              exact hdn (List.drop_eq_nil_of_le (by rw [hlen]; omega))
          have hmem : hh ∈ ((hs ++ [hh]) ++ more).drop d.k0 := by
            refine List.mem_of_getElem? (i := hs.length - d.k0) ?_
            rw [List.getElem?_drop]
            have : d.k0 + (hs.length - d.k0) = hs.length := by omega
            rw [this, List.append_assoc, List.getElem?_append_right (Nat.le_refl _)]
            simp
          obtain ⟨h1, m1, hq⟩ := q hh hmem
          rw [exec_congr (fun p hp => heqs _ p (hus p hp))] at hq
          rcases snd with ⟨z, _⟩ | ⟨_, s⟩ | ⟨z, _⟩ | ⟨z, _⟩ | z
          · rw [hc] at z; cases z
          · obtain ⟨_, _, v', k1, k2⟩ := s htm D.gl (D.st.wr.less D.base) hq
            exact wp_ran hF ho hw' hnd k2 (ih' (quiet k1 rfl))
          all_goals rw [hc] at z; cases z
        case own d v h0 hx m1 hk1 hw hdn hown q =>
          have hw' := hwant true (wt_congr (fun p hp => heqs _ p (hug p hp)) hw)
          have hc := cls0 1 (by rw [hkk]; exact hk1) (by omega)
          obtain ⟨b, o, b1, b2, rfl⟩ := own_iff hown
          obtain ⟨y, hy, hyb⟩ := q9 b o b1 (b2 h2 q8)
          have hyG : y ∈ G := by rw [q6]; exact List.mem_append_right _ hy
          have hys : y ∈ suf := by rw [hGB]; simp [hyG]
          have hdl := List.drop_eq_nil_iff.1 hdn
          rw [hlen] at hdl
          have hyx : Bef os y.i d.i := by
            rcases fx.k0 hk1 with z | ⟨j, z1, _⟩ | ⟨_, z⟩
            · have z : d.k0 = 0 := z
              omega
            · have z1 : ((((pre ++ G).map (·.d)).filter isK3).map (·.i))[d.k0 - 1]? = some j := z1
              have := (List.getElem?_eq_some_iff.1 z1).1
              rw [List.length_map] at this
              omega
            · refine z ((pre ++ A1).map (·.d)) (A2.map (·.d)) (by rw [q6]; simp) (fun w hw => ?_) y.d (List.mem_map.2 ⟨y, hy, rfl⟩) (D.tr.birth_two y hys b o hyb)
              obtain ⟨e, he, rfl⟩ := List.mem_map.1 hw
              cases hb : isK3 e.d with
              | false => rfl
              | true => exact absurd (Nat.eq_of_beq_eq_true hb) (q7 e he)
          obtain ⟨hH, _⟩ := D.hx y hys (bef _ hyx) b o hyb
          have wr' : WR cr φ (Tr.setP b (some o) (.leaf : Tr AO)).getP w := D.st.wr.less fun c oc e => by
            rw [Tr.getP_setP] at e
            split at e
            · rename_i hbc; subst hbc; cases e; exact hH
            · rw [Tr.getP_leaf] at e; cases e
          have hq := q
          rw [exec_congr (fun p hp => heqs _ p (hus p hp))] at hq
          rcases snd with ⟨z, _⟩ | ⟨_, s⟩ | ⟨z, _⟩ | ⟨z, _⟩ | z
          · rw [hc] at z; cases z
          · obtain ⟨_, _, v', k1, k2⟩ := s htm D.gl wr' hq
            exact wp_ran hF ho hw' hnd k2 (ih' (quiet k1 rfl))
          all_goals rw [hc] at z; cases z
        case new d m v ob m1 hk2 hw q =>
          have hw' := hwant true (wt_congr (fun p hp => heqs _ p (hug p hp)) hw)
          have hq := q
          rw [exec_congr (fun p hp => heqs _ p (hus p hp))] at hq
          have hc := cls0 2 (by rw [hkk]; exact hk2) (by omega)
          rcases snd with ⟨z, _⟩ | ⟨z, _⟩ | ⟨_, s⟩ | ⟨z, _⟩ | z
          · rw [hc] at z; cases z
          · rw [hc] at z; cases z
          · obtain ⟨ob', e1, _, k⟩ := s htm D.gl hq
            have hob : ob = ob' := by
              have := congrArg (fun z => Tr.getP m z) e1
              simp only [Tr.getP_setP, if_true] at this
              exact Option.some.inj this
            subst hob
            obtain ⟨y, w', v', K, k1, k2, k3, k4⟩ := k w
            have hmr : m ∈ rs := by obtain ⟨l, hl⟩ := q2; rw [hl]; exact List.mem_append_right _ List.mem_cons_self
            have hφm : φ m = none := D.un _ hxs hnx m ob rfl
            obtain ⟨l1, l2⟩ := D.lt m hmr
            have hnlt : val m < val n := Nat.lt_of_lt_of_le l2 D.le
            have hne : ∀ b x, φ b = some x → m ≠ b := by rintro b x e rfl; rw [hφm] at e; cases e
            have hs : Sub φ (φ.set m w.heap.size K) := ⟨fun b x e => by rw [Phi.set_ne _ _ _ (hne b x e)]; exact e, fun b x e => Phi.cap_ne _ _ _ (hne b x e), rfl⟩
            obtain ⟨o1, o2⟩ := k4 (φ.set m w.heap.size K) hs (Phi.set_at _ _ _ _) (Phi.set_cap _ _ _ _)
            have st := D.st.trans' (St.allocAt D.st.wr D.st.fr hφm hnlt ob y K k3 k2 o1) l1
            refine wp_ran hF ho hw' hnd k1 (ih' (D.early hxs hlt hnx hk3 hinj hs c2 o2 hval st (fun m' o' e => ?_) (fun b hb => ?_) (fun b hb e => ?_)))
            · cases e
              exact ⟨upd_same _ _ _, _, Phi.set_at _ _ _ _⟩
            · exact upd_ne _ _ (hb m ob rfl)
            · rw [Phi.set_ne _ _ _ (hb m ob rfl)]; exact e
          all_goals rw [hc] at z; cases z
/-- **regions that draw** -/
theorem dr_ok (hm : P.follows .mixedOrders = true) : DrOk P (chkDr P) := by
  intro F N na ops os id cl clv t h n t' h' n' hF hcl hclv hc q a φ w Q ht hg r f k
  have C := chkDr_ok hc
  unfold drawn at q
  rw [resv_eq] at q
  obtain ⟨q1, q2⟩ := guardB_iff.1 q
  have hk : ∀ d ∈ ops, kOf (cls d.o.op) = d.k ∨ d.k = 3 := fun d hd => by
    obtain ⟨A, B, rfl⟩ := List.append_of_mem hd
    exact (C.facts A d B rfl).k
  obtain ⟨es, e1, e2⟩ := dtr_of ops _ _ t h _ hk q2
  have keep_val : ∀ (j : Nat) (n : List Bool), ∀ m ∈ keep j n, val n ≤ val m ∧ val m < val n + j := by
    intro j
    induction j with
    | zero => intro n m hm; cases hm
    | succ j ih =>
      intro n m hm
      rcases List.mem_cons.1 hm with rfl | hm
      · omega
      · have := ih (inc n) m hm
        rw [val_inc] at this; omega
  have keep_nd : ∀ (j : Nat) (n : List Bool), (keep j n).Nodup := by
    intro j
    induction j with
    | zero => intro n; exact List.nodup_nil
    | succ j ih =>
      intro n
      refine List.nodup_cons.2 ⟨fun hm => ?_, ih (inc n)⟩
      have := keep_val j (inc n) n hm
      rw [val_inc] at this; omega
  have hf : Fresh φ (past na n) := fun b β e => by have := f b β e; rw [val_past]; omega
  have st0 : St (crOf P (chkDr P)) φ h.getP n w φ h.getP (past na n) { w with drawn := w.drawn + 1 } := by
    have s := St.drew (w' := { w with drawn := w.drawn + 1 }) r f rfl ⟨rfl, rfl, rfl⟩
    exact ⟨s.wr, hf, s.sub, s.ax, s.size, s.old, s.new, s.stay, by rw [val_past]; omega⟩
  have main : wpAnyIn F 0 P .any os Q os.size (Array.replicate os.size false) a { w with drawn := w.drawn + 1 } := by
    have hno : ∀ j, ¬ Sd (Array.replicate os.size false) j := fun j z => by
      unfold Sd at z
      rw [Array.getD_eq_getD_getElem?, Array.getElem?_replicate] at z
      split at z <;> cases z
    refine wp_dr (full := es) (fin := ⟨t', h', n'⟩) (cr := crOf P (chkDr P)) (n1 := past na n) (φ0 := φ) (h0 := h.getP) (n0 := n) (w0 := w) (df := a.defers) (t00 := t) rfl hF hcl hclv (by rw [e1]; exact C) k os.size (pre := []) (suf := es) (rs := keep na n) (hs := []) (t := t) (hh := h) (n := past na n) (φ := φ) (H := h.getP) (by simp) (fun i o hi => absurd hi (hno i)) ?_ ?_
    · rw [Array.toList_replicate, List.count_replicate_self]; exact Nat.le_refl _
    · refine ⟨rfl, e2, rfl, (fun e he => by cases he), fun e _ z => absurd z (hno _), ht.size, fun i v e hn => ?_, fun i v e _ => ht.tm i v e, fun p _ => rfl, fun e _ z => absurd z (hno _), fun b _ => rfl, absent_iff.1 q1, fun e he _ m o hb => ?_, keep_nd na n, fun m hm => ?_, Nat.le_refl _, st0, hg, rfl⟩
      · refine ht.tm i v ?_
        rw [← e2.temps fun e he => hn e he (hno _)]; exact e
      · cases z : φ m with
        | none => rfl
        | some β =>
          have := f m β z
          have := (keep_val na n m (e2.births e he m o hb)).1
          omega
      · have := keep_val na n m hm
        rw [val_past]; exact this
  exact wpIn_region_any hm main
end Go.Ev
end
section
namespace Go.Ev
open Tr (path)
variable {P : Program} {tab : Tr AFn}

theorem run_all (hm : P.follows .mixedOrders = true) (ht : TabOk P (chkDr P) tab) : ∀ fuel, Grow (run tab fuel) ∧ RunOk P (chkDr P) (run tab fuel) ∧ LpOk P (chkDr P) fuel (run tab fuel) := by
  intro fuel
  induction fuel with
  | zero =>
    refine ⟨?_, ?_, ?_⟩
    · intro c t h n ds e t' h' n' ds' q; cases q
    · intro F N c code t h n ds e t' h' n' ds' _ _ _ q; cases q
    · intro F N x code t h n ds e t' h' n' ds' _ _ _ q; cases q
  | succ fuel ih =>
    obtain ⟨g, hr, hl⟩ := ih
    exact ⟨step_grow g, step_ok hr hl g (callG_ok ht hr) (callV_ok ht hr) (dr_ok hm) (rf_ok ht hr), lp_step (tab := tab) hr hl g⟩
/-- **a call that the reading carries out** -/
theorem calls_ok (hm : P.follows .mixedOrders = true) (ht : TabOk P (chkDr P) tab) {F : Fence} (hF : Open F) {fuel g : Nat} {ps : List (List Bool)} {rs : List ARes} {c : AC} (hg : tab.getP (path g) = some (.go ps rs c)) {vs : List AV} {h : Tr AO} {n : List Bool} {v : AV} {h' : Tr AO} {n' : List Bool}
    (e : calls tab fuel (path g) vs h n = some ⟨v, h', n'⟩) {φ : Phi} {w : World} {vs' : Array Value} (hv : VRs φ vs vs'.toList) (hgl : GL φ) (r : WR (crOf P (chkDr P)) φ h.getP w) (f : Fresh φ n) :
    CallsIn F 0 P g vs' w fun e w' => ∃ v', e = .returned v' ∧ ∃ φ', VR φ' v v' ∧ St (crOf P (chkDr P)) φ h.getP n w φ' h'.getP n' w' := by
  obtain ⟨fn, e1, e2⟩ := ob_iff.1 (e : ob (tab.getP (path g)) (fun fn => tick (callFn (run tab fuel) fn vs h n)) = some _)
  rw [hg] at e1; cases e1
  rw [tick_eq] at e2
  have hc : chkGo P (chkDr P) g ps rs c = true := ht g _ hg
  exact (go_ok hF (run_all hm ht fuel).2.1 hc e2 hv hgl r f).2
end Go.Ev
end
