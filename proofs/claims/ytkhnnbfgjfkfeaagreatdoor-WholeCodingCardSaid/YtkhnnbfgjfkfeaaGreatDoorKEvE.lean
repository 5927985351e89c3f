/- The plain model, part 5: the order of steps and the loops over functions carried by the relation of the two runs. Conditions: those that each theorem states. -/
import Derived.Test.YtkhnnbfgjfkfeaaGreatDoorKEvD
import Derived.OrdersIn
import Derived.OwnWalkIn
import Derived.RangeFuncLeaves
import Derived.LoopNIn
section
namespace Go.Ev
open Go.RowKit
open Tr (path)
variable {P : Program} {o : Oper} {cr : Nat → AC → Code → Prop} {F : Fence}

/-- a fence that keeps nobody out -/
structure Open (F : Fence) : Prop where
  fn : ∀ f, F.fn f
  depth : F.depth = none
  alive : F.alive = false
/-- what a call comes to -/
def InvOk (P : Program) (F : Fence) (t : Target) (args : Array Value) (w : World) (R : Value → World → Prop) : Prop :=
  (∃ v' w', (invoke t args).run P w = .ok (.value v') w' ∧ R v' w') ∨
  (∃ f as w1, (invoke t args).run P w = .ok (.enter f as) w1 ∧ CallsIn F 0 P f as w1 fun e w' => ∃ v', e = .returned v' ∧ R v' w') ∨
  (∃ l f tmps x y w1, (invoke t args).run P w = .ok (.round l f tmps x y) w1 ∧ RoundIn F 0 P l f tmps x y w1 fun e w' => ∃ v', e = .returned v' ∧ R v' w')
/-- what the reading says of an operation comes to pass -/
def WpOk (P : Program) (cr : Nat → AC → Code → Prop) (F : Fence) (o : Oper) (a : Act) (φ : Phi) (h : Hp) (n : List Bool) (w : World) (v : AV) (h' : Hp) (n' : List Bool) : Prop :=
  ∀ (next : Act → World → Prop) (Q : Exit → Act → World → Prop), (∀ φ' v' w', VR φ' v v' → St cr φ h n w φ' h' n' w' → next (a.put o.dst v') w') → o.wpIn F 0 P a w next Q
theorem wp_of_op {a : Act} {φ : Phi} {h h' : Hp} {n n' : List Bool} {w : World} {v : AV} (hF : Open F) (hd : ∀ c, o.op ≠ .defer c) (s : OpOk P cr φ h n w (execOp a.eval o) v h' n') : WpOk P cr F o a φ h n w v h' n' := by
  intro next Q hn
  obtain ⟨x, v', φ', w', h1, h2, h3, h4⟩ := s
  refine ⟨fun f _ => hF.fn f, ?_⟩
  rw [Oper.semAt_plain F a.eval o hd, h1]
  cases x <;> first | exact h2.elim | skip
  · have h2 : _ = v' := h2
    subst h2
    exact hn φ' _ w' h3 h4
  · have h2 : v' = undef := h2
    subst h2
    exact hn φ' _ w' h3 h4
/-- calls of values -/
def ClvOk (P : Program) (cr : Nat → AC → Code → Prop) (F : Fence) (clv : Clv) : Prop :=
  ∀ {u : AV} {vs : List AV} {h : Tr AO} {n : List Bool} {v : AV} {h' : Tr AO} {n' : List Bool} {φ : Phi} {w : World} {u' : Value} {vs' : Array Value},
    clv u vs h n = some ⟨v, h', n'⟩ → VR φ u u' → VRs φ vs vs'.toList → GL φ → WR cr φ h.getP w → Fresh φ n →
    ∃ d, (Deferred.ofValue u' vs').run P w = .ok d w ∧ InvOk P F d.target d.args w fun v' w' => ∃ φ', VR φ' v v' ∧ St cr φ h.getP n w φ' h'.getP n' w'
def ClOk (P : Program) (cr : Nat → AC → Code → Prop) (F : Fence) (cl : Cl) : Prop :=
  ∀ {f : FuncId} {vs : List AV} {h : Tr AO} {n : List Bool} {v : AV} {h' : Tr AO} {n' : List Bool} {φ : Phi} {w : World} {vs' : Array Value},
    cl (path f) vs h n = some ⟨v, h', n'⟩ → VRs φ vs vs'.toList → GL φ → WR cr φ h.getP w → Fresh φ n →
    InvOk P F (.fn (.func f) #[]) vs' w fun v' w' => ∃ φ', VR φ' v v' ∧ St cr φ h.getP n w φ' h'.getP n' w'
theorem wp_of_inv {a : Act} {φ : Phi} {h h' : Hp} {n n' : List Bool} {w : World} {v : AV} (hF : Open F) {c : Call} (ho : o.op = .call c) {d : Deferred} (hr : (resolve a.eval c o.type).run P w = .ok d w)
    (s : InvOk P F d.target d.args w fun v' w' => ∃ φ', VR φ' v v' ∧ St cr φ h n w φ' h' n' w') : WpOk P cr F o a φ h n w v h' n' := by
  intro next Q hn
  refine ⟨fun f _ => hF.fn f, ?_⟩
  rw [Oper.semAt_plain F a.eval o (fun c q => by rw [ho] at q; cases q)]
  have hx : (execOp a.eval o).run P w = (invoke d.target d.args).run P w := by
    simp only [execOp, ho, Sem.run_bind, hr, Result.andThen_ok]
  rw [hx]
  have hdep : F.depth.isSome = true → 1 ≤ 0 := fun q => by rw [hF.depth] at q; cases q
  rcases s with ⟨v', w', h1, φ', h2, h3⟩ | ⟨f, as, w1, h1, h2⟩ | ⟨l, f, tmps, x, y, w1, h1, h2⟩
  · rw [h1]; exact hn φ' v' w' h2 h3
  · rw [h1]
    refine ⟨hdep, h2.mono fun e w' he => ?_⟩
    obtain ⟨v', rfl, φ', h3, h4⟩ := he
    exact hn φ' v' w' h3 h4
  · rw [h1]
    refine ⟨hdep, h2.mono fun e w' he => ?_⟩
    obtain ⟨v', rfl, φ', h3, h4⟩ := he
    exact hn φ' v' w' h3 h4
theorem not_defer {x : AOp} (hc : chkOp P o.op x = true) : ∀ c, o.op ≠ .defer c := by
  intro c q
  rw [q] at hc
  unfold chkOp at hc
  cases x <;> cases hc
theorem call_eq {x : AOp} (hc : chkOp P o.op x = true) (h4 : cls x = 4) : (∃ g p as args ats, x = .call p as ∧ o.op = .call { callee := .value (.func g), args := args, argTypes := ats } ∧ p = path g ∧ chkXs args.toList as = true) ∨
    (∃ y b as args ats, x = .callv b as ∧ o.op = .call { callee := .value y, args := args, argTypes := ats } ∧ chkX y b = true ∧ chkXs args.toList as = true) := by
  unfold chkOp at hc
  split at hc <;> first | (cases h4; done) | (cases hc; done) | skip
  · rw [Bool.and_eq_true] at hc
    exact .inl ⟨_, _, _, _, _, rfl, by assumption, chkP_eq hc.1, hc.2⟩
  · rw [Bool.and_eq_true] at hc
    exact .inr ⟨_, _, _, _, _, rfl, by assumption, hc.1, hc.2⟩
/-- every checked operation -/
theorem wp_op {x : AOp} {φ : Phi} {N : Nat} {t : Tr AV} {a : Act} {cl : Cl} {clv : Clv} {h : Tr AO} {n : List Bool} {v : AV} {h' : Tr AO} {n' : List Bool} {w : World} (hF : Open F) (hcl : ClOk P cr F cl) (hclv : ClvOk P cr F clv) (hc : chkOp P o.op x = true)
    (ht : TM φ N t a.tmps) (hg : GL φ) (r : WR cr φ h.getP w) (f : Fresh φ n) (e : exec cl clv t h n x = some ⟨v, h', n'⟩) : WpOk P cr F o a φ h.getP n w v h'.getP n' := by
  have s : Snd P cr o x := snd_of hc
  have hd := not_defer hc
  rcases s with ⟨_, s⟩ | ⟨_, s⟩ | ⟨_, s⟩ | ⟨_, s⟩ | h4
  · exact wp_of_op hF hd (SoundR.m (SoundV.r (cr := cr) s) ht hg r f e)
  · exact wp_of_op hF hd (s.m ht hg r f e)
  · exact wp_of_op hF hd (s.m ht hg r f e)
  · exact wp_of_op hF hd (s ht hg r f e)
  · rcases call_eq hc h4 with ⟨g, p, as, args, ats, rfl, ho, rfl, hx⟩ | ⟨y, b, as, args, ats, rfl, ho, hy, hx⟩
    · obtain ⟨vs, e1, e2⟩ := ob_iff.1 e
      have hv : VRs φ vs (args.map a.eval).toList := by rw [Array.toList_map]; exact evals_ok hx ht hg e1
      have := hcl e2 hv hg r f
      refine wp_of_inv hF ho (d := { target := .fn (.func g) #[], args := args.map a.eval }) ?_ this
      simp [resolve, Act.eval, Deferred.ofValue]
    · obtain ⟨u, e0, e1⟩ := ob_iff.1 e
      obtain ⟨vs, e2, e3⟩ := ob_iff.1 e1
      have hv : VRs φ vs (args.map a.eval).toList := by rw [Array.toList_map]; exact evals_ok hx ht hg e2
      obtain ⟨d, h1, h2⟩ := hclv e3 (eval_ok hy ht hg e0) hv hg r f
      refine wp_of_inv hF ho (d := d) ?_ h2
      simp only [resolve]; exact h1
end Go.Ev
end
section
namespace Go.Ev
open Go.RowKit
open Tr (path)
variable {P : Program} {o : Oper} {cr : Nat → AC → Code → Prop} {F : Fence} {β : Type}

theorem chkD_put {φ φ' : Phi} {N : Nat} {t : Tr AV} {a : Act} {d : Option Tmp} {p : Option (List Bool)} {v : AV} {v' : Value} (h : chkD d p N = true) (ht : TM φ N t a.tmps) (s : Sub φ φ') (hv : VR φ' v v') {k : Tr AV → Option β} {r : β} (e : putD p v t k = some r) :
    ∃ t', TM φ' N t' (a.put d v').tmps ∧ k t' = some r ∧ (a.put d v').defers = a.defers := by
  cases d with
  | none => cases p with
    | none => exact ⟨t, ht.sub s, e, rfl⟩
    | some p => cases h
  | some d => cases p with
    | none => cases h
    | some p =>
      simp only [chkD, Bool.and_eq_true, decide_eq_true_eq] at h
      have hp := chkP_eq h.1
      subst hp
      have e : forceT (t.setP (path d) (some v)) k = some r := e
      rw [forceT_eq] at e
      refine ⟨_, ⟨?_, fun i u hu => ?_⟩, e, rfl⟩
      · show N ≤ (a.tmps.setIfInBounds d v').size
        rw [Array.size_setIfInBounds]; exact ht.size
      · show ∃ u', (a.tmps.setIfInBounds d v')[i]? = some u' ∧ _
        rw [Tr.getP_setP] at hu
        by_cases hd : path d = path i
        · rw [if_pos hd] at hu; cases hu
          have := Tr.path_inj _ _ hd
          subst this
          have hlt : d < a.tmps.size := Nat.lt_of_lt_of_le h.2 ht.size
          exact ⟨v', by simp [hlt], hv⟩
        · rw [if_neg hd] at hu
          obtain ⟨u', h1, h2⟩ := ht.tm i u hu
          have hne : d ≠ i := fun q => hd (by rw [q])
          exact ⟨u', by rw [Array.getElem?_setIfInBounds, if_neg hne]; exact h1, h2.sub s⟩
def chkG (ops : Array Oper) (g : Option (Nat × Bool)) (a : Option (List Bool × Bool)) : Bool :=
  match g, a with
   | none, none => true
   | some (j, w), some (p, w') => w == w' && (match (ops[j]?).bind (·.dst) with | some d => chkP d p | none => false)
   | _, _ => false
def boolOf : Value → Option Bool
  | .bool b => some b
  | _ => none
theorem wants_ok {φ : Phi} {N : Nat} {t : Tr AV} {a : Act} {ops : Array Oper} {g : Option (List Bool × Bool)} (h : chkG ops o.guard g = true) (ht : TM φ N t a.tmps) {yes no : Option β} {r : β} (e : wants g t yes no = some r) :
    (Region.wanted o (yielded ops a.tmps) = true ∧ yes = some r) ∨ (Region.wanted o (yielded ops a.tmps) = false ∧ no = some r) := by
  unfold chkG at h
  split at h
  · rename_i hg
    left
    exact ⟨by simp [Region.wanted, hg], e⟩
  · rename_i j w p w' hg
    rw [Bool.and_eq_true] at h
    have := eq_of_beq h.1; subst this
    have h2 := h.2
    split at h2
    · rename_i d hd
      have hp := chkP_eq h2; subst hp
      have e : ob (t.getP (path d)) (fun v => @AV.casesOn (fun _ => Option β) v (fun x => @Bool.rec (fun _ => Option β) (@Bool.rec (fun _ => Option β) yes no x) (@Bool.rec (fun _ => Option β) no yes x) w) (fun _ _ => no) (fun _ => no) no (fun _ _ => no) no (fun _ _ _ _ _ => no) no (fun _ => no) no (fun _ _ _ => no) (fun _ => no) no (fun _ _ => no) (fun _ => no) (fun _ => no)) = some r := e
      obtain ⟨v, e1, e2⟩ := ob_iff.1 e
      obtain ⟨v', t1, t2⟩ := ht.tm d v e1
      have hy : yielded ops a.tmps j = boolOf v' := by
        unfold yielded
        rw [hd]
        simp only [Option.bind_some, t1]
        cases v' <;> rfl
      have hw : Region.wanted o (yielded ops a.tmps) = (boolOf v' == some w) := by
        simp only [Region.wanted, hg, hy]
      rw [hw]
      cases t2
      case b b =>
        cases w <;> cases b
        · left; exact ⟨rfl, e2⟩
        · right; exact ⟨rfl, e2⟩
        · right; exact ⟨rfl, e2⟩
        · left; exact ⟨rfl, e2⟩
      all_goals
        right
        exact ⟨rfl, e2⟩
    · cases h2
  · cases h
theorem chkO_iff {N : Nat} {ops : Array Oper} {g : Option (List Bool × Bool)} {d : Option (List Bool)} {x : AOp} (h : chkO P N ops o ⟨g, d, x⟩ = true) : chkOp P o.op x = true ∧ chkD o.dst d N = true ∧ chkG ops o.guard g = true := by
  unfold chkO at h
  rw [Bool.and_eq_true, Bool.and_eq_true] at h
  refine ⟨h.1.1, h.1.2, ?_⟩
  have := h.2
  unfold chkG
  exact this
/-- a region in order -/
theorem opers_ok {cl : Cl} {clv : Clv} (hF : Open F) (hcl : ClOk P cr F cl) (hclv : ClvOk P cr F clv) {N : Nat} {ops : Array Oper} {Q : Exit → Act → World → Prop} : ∀ (aops : List AOper) (os : List Oper) (i : Nat), os = ops.toList.drop i → chkOs P N ops os aops = true →
    ∀ {t : Tr AV} {h : Tr AO} {n : List Bool} {t' : Tr AV} {h' : Tr AO} {n' : List Bool} {a : Act} {φ : Phi} {w : World}, opers cl clv aops t h n = some ⟨t', h', n'⟩ → TM φ N t a.tmps → GL φ → WR cr φ h.getP w → Fresh φ n →
    (∀ φ' a' w', TM φ' N t' a'.tmps → a'.defers = a.defers → St cr φ h.getP n w φ' h'.getP n' w' → Q .normal a' w') → wpOpsIn F 0 P ops Q ((List.range ops.size).drop i) a w := by
  intro aops
  induction aops with
  | nil =>
    intro os i hos hc t h n t' h' n' a φ w e ht hg r f k
    cases os with
    | cons o os => cases hc
    | nil =>
      have hi : ops.size ≤ i := by
        have := congrArg List.length hos
        simp at this; omega
      rw [List.drop_eq_nil_of_le (by simpa using hi)]
      cases e
      exact k φ a w ht rfl (St.refl r f)
  | cons ao aops ih =>
    intro os i hos hc t h n t' h' n' a φ w e ht hg r f k
    cases os with
    | nil => cases hc
    | cons o os =>
      obtain ⟨g, d, x⟩ := ao
      simp only [chkOs, Bool.and_eq_true] at hc
      obtain ⟨c1, c2, c3⟩ := chkO_iff hc.1
      have hi : i < ops.size := by
        have := congrArg List.length hos
        simp at this; omega
      have hoi : ops[i]? = some o := by
        have := List.getElem?_drop (xs := ops.toList) (i := i) (j := 0)
        rw [← hos] at this
        simpa using this.symm
      have hos2 : os = ops.toList.drop (i + 1) := by
        have := List.drop_drop (i := 1) (j := i) (l := ops.toList)
        rw [← hos] at this; simpa using this
      have hr : (List.range ops.size).drop i = i :: (List.range ops.size).drop (i + 1) := by
        rw [List.drop_eq_getElem_cons (by simpa using hi)]; simp
      rw [hr]
      have e : wants g t (ob (exec cl clv t h n x) fun r => @R1.rec (fun _ => Option RT) (fun v h n => putD d v t fun t => opers cl clv aops t h n) r) (putD d und t fun t => opers cl clv aops t h n) = some ⟨t', h', n'⟩ := e
      unfold wpOpsIn
      rw [hoi]
      simp only []
      rcases wants_ok c3 ht e with ⟨hw, e1⟩ | ⟨hw, e1⟩
      · rw [if_pos hw]
        obtain ⟨⟨v, h1, n1⟩, e2, e3⟩ := ob_iff.1 e1
        have e3 : putD d v t (fun t => opers cl clv aops t h1 n1) = some ⟨t', h', n'⟩ := e3
        refine wp_op hF hcl hclv c1 ht hg r f e2 _ _ fun φ' v' w' hv st => ?_
        obtain ⟨t1, ht1, e4, hdf⟩ := chkD_put c2 ht st.sub hv e3
        refine ih os (i + 1) hos2 hc.2 e4 ht1 (hg.sub st.sub) st.wr st.fr fun φ'' a'' w'' q1 q2 q3 => ?_
        exact k φ'' a'' w'' q1 (q2.trans hdf) (st.trans q3)
      · rw [if_neg (by rw [hw]; exact Bool.false_ne_true)]
        refine ⟨fun f _ => hF.fn f, ?_⟩
        obtain ⟨t1, ht1, e4, hdf⟩ := chkD_put c2 ht (.refl φ) (und_vr φ) e1
        refine ih os (i + 1) hos2 hc.2 e4 ht1 hg r f fun φ'' a'' w'' q1 q2 q3 => ?_
        exact k φ'' a'' w'' q1 (q2.trans hdf) q3
end Go.Ev
end
section
namespace Go.Ev
open Go.RowKit
open Tr (path)

def chkPs (N : Nat) : List Tmp → List (List Bool) → Bool
  | [], [] => true
  | d :: ds, p :: ps => chkP d p && decide (d < N) && chkPs N ds ps
  | _, _ => false
/-- the check of a region that draws its order comes in -/
abbrev DrChk := Nat → Nat → List DOper → Array Oper → Bool
def chkC (P : Program) (D : DrChk) (N : Nat) : AC → Code → Bool
  | .skip, .skip => true
  | .rg ops, .region _ os false => chkOs P N os os.toList ops
  | .dr na ops, .region _ os true => D N na ops os
  | .sq x y, .seq a b => chkC P D N x a && chkC P D N y b
  | .cd c x y, .cond c' a b => chkX c' c && chkC P D N x a && chkC P D N y b
  | .bk i x, .block j a => i == j && chkC P D N x a
  | .lp x, .loop a => chkC P D N x a
  | .xt i, .exit j => i == j
  | .rt, .ret => true
  | .rf f ps x y, .rangeFunc g qs a b => chkX g f && chkPs N qs.toList ps && chkC P D N x a && chkC P D N y b
  | _, _ => false
abbrev crOf (P : Program) (D : DrChk) : Nat → AC → Code → Prop := fun N x c => chkC P D N x c = true

variable {P : Program} {D : DrChk} {β : Type}

/-- the marks of ranges over functions among deferred calls -/
def DS (φ : Phi) : List (List Bool) → List Deferred → Prop
  | [], [] => True
  | b :: bs, d :: ds => (∃ β, φ b = some β ∧ d.target = .collected β) ∧ DS φ bs ds
  | _, _ => False
theorem DS.sub {φ ψ : Phi} (s : Sub φ ψ) : ∀ {bs : List (List Bool)} {ds : List Deferred}, DS φ bs ds → DS ψ bs ds
  | [], [], _ => trivial
  | [], _ :: _, h => h.elim
  | _ :: _, [], h => h.elim
  | _ :: _, _ :: _, h => ⟨let ⟨β, a, b⟩ := h.1; ⟨β, s.at' _ _ a, b⟩, DS.sub s h.2⟩
def exE : Ex → Exit
  | .nrm => .normal
  | .ex i => .exit i
  | .ret => .ret
/-- what running code comes to -/
def RunOk (P : Program) (D : DrChk) (ih : Run) : Prop :=
  ∀ {F : Fence} {N : Nat} {c : AC} {code : Code} {t : Tr AV} {h : Tr AO} {n : List Bool} {ds : List (List Bool)} {e : Ex} {t' : Tr AV} {h' : Tr AO} {n' : List Bool} {ds' : List (List Bool)},
    Open F → (F.round = none ∨ ds' = []) → chkC P D N c code = true → ih c t h n ds = some ⟨e, t', h', n', ds'⟩ →
    ∀ {a : Act} {φ : Phi} {w : World} {Q : Exit → Act → World → Prop}, TM φ N t a.tmps → GL φ → WR (crOf P D) φ h.getP w → Fresh φ n → DS φ ds a.defers →
      (∀ φ' a' w', TM φ' N t' a'.tmps → DS φ' ds' a'.defers → St (crOf P D) φ h.getP n w φ' h'.getP n' w' → Q (exE e) a' w') → code.wpIn F 0 P Q a w
/-- marks only come in addition -/
def Grow (ih : Run) : Prop := ∀ {c t h n ds e t' h' n' ds'}, ih c t h n ds = some ⟨e, t', h', n', ds'⟩ → ∃ l, ds' = l ++ ds
/-- a region that draws its order, as the check takes it -/
def DrOk (P : Program) (D : DrChk) : Prop :=
  ∀ {F : Fence} {N na : Nat} {ops : List DOper} {os : Array Oper} {id : Nat} {cl : Cl} {clv : Clv} {t : Tr AV} {h : Tr AO} {n : List Bool} {t' : Tr AV} {h' : Tr AO} {n' : List Bool},
    Open F → ClOk P (crOf P D) F cl → ClvOk P (crOf P D) F clv → D N na ops os = true → drawn cl clv na ops t h n = some ⟨t', h', n'⟩ →
    ∀ {a : Act} {φ : Phi} {w : World} {Q : Exit → Act → World → Prop}, TM φ N t a.tmps → GL φ → WR (crOf P D) φ h.getP w → Fresh φ n →
      (∀ φ' a' w', TM φ' N t' a'.tmps → a'.defers = a.defers → St (crOf P D) φ h.getP n w φ' h'.getP n' w' → Q .normal a' w') → (Code.region id os true).wpIn F 0 P Q a w
/-- ranges over functions, as they are taken -/
def RfOk (P : Program) (D : DrChk) (tab : Tr AFn) (ih : Run) : Prop :=
  ∀ {F : Fence} {N : Nat} {f : Opd} {ps : List (List Bool)} {x y : AC} {code : Code} {t : Tr AV} {h : Tr AO} {n : List Bool} {ds : List (List Bool)} {e : Ex} {t' : Tr AV} {h' : Tr AO} {n' : List Bool} {ds' : List (List Bool)},
    Open F → F.round = none → chkC P D N (.rf f ps x y) code = true → stepC tab ih (.rf f ps x y) t h n ds = some ⟨e, t', h', n', ds'⟩ →
    ∀ {a : Act} {φ : Phi} {w : World} {Q : Exit → Act → World → Prop}, TM φ N t a.tmps → GL φ → WR (crOf P D) φ h.getP w → Fresh φ n → DS φ ds a.defers →
      (∀ φ' a' w', TM φ' N t' a'.tmps → DS φ' ds' a'.defers → St (crOf P D) φ h.getP n w φ' h'.getP n' w' → Q (exE e) a' w') → code.wpIn F 0 P Q a w
theorem rf_grow {tab : Tr AFn} {ih : Run} {f : Opd} {ps : List (List Bool)} {x y : AC} {t : Tr AV} {h : Tr AO} {n : List Bool} {ds : List (List Bool)} {e : Ex} {t' : Tr AV} {h' : Tr AO} {n' : List Bool} {ds' : List (List Bool)}
    (q : stepC tab ih (.rf f ps x y) t h n ds = some ⟨e, t', h', n', ds'⟩) : ∃ b, ds' = b :: ds := by
  have q : ob (ev t f) (fun v => newB h n .df fun b h n => newB h n (.lp .ready none t ps x y) fun l h n =>
      ob (callK tab ih v l h n) fun r => @R1.rec (fun _ => Option Rs) (fun _ h n => ob (h.getP l) fun o => @AO.rec (fun _ => Option Rs) (fun _ _ _ _ => none) (fun _ _ => none) (fun _ _ => none)
        (fun st p t0 ps x y => @LS.rec (fun _ => Option Rs)
          (setH h l (some (.lp .exhausted p t0 ps x y)) fun h => some ⟨@Option.rec Ex (fun _ => Ex) .nrm (fun e => e) p, t, h, n, b :: ds⟩) none
          (setH h l (some (.lp .exhausted p t0 ps x y)) fun h => some ⟨@Option.rec Ex (fun _ => Ex) .nrm (fun e => e) p, t, h, n, b :: ds⟩) none st) none o) r) = some ⟨e, t', h', n', ds'⟩ := q
  obtain ⟨v, _, q⟩ := ob_iff.1 q
  rw [newB_eq, newB_eq] at q
  obtain ⟨⟨u, h1, n1⟩, _, q⟩ := ob_iff.1 q
  obtain ⟨o, ho, q⟩ := ob_iff.1 q
  clear ho
  cases o <;> first | (cases q; done) | skip
  rename_i st p t0 ps x y
  cases st <;> first | (cases q; done) | skip
  all_goals
    have q : setH h1 (inc n) (some (.lp .exhausted p t0 ps x y)) (fun h => some (Rs.mk (@Option.rec Ex (fun _ => Ex) .nrm (fun e => e) p) t h n1 (n :: ds))) = some (Rs.mk e t' h' n' ds') := q
    rw [setH_eq] at q
    cases q
    exact ⟨_, rfl⟩
/-- the names kept -/
noncomputable def keep : Nat → List Bool → List (List Bool)
  | 0, _ => []
  | k + 1, n => n :: keep k (inc n)
noncomputable def past : Nat → List Bool → List Bool
  | 0, n => n
  | k + 1, n => past k (inc n)
theorem resv_eq (k : Nat) : ∀ (n : List Bool) (f : List (List Bool) → List Bool → Option β), resv k n f = f (keep k n) (past k n) := by
  induction k with
  | zero => intro n f; rfl
  | succ k ih =>
    intro n f
    show forceL (inc n) (fun m => resv k m fun l m' => f (n :: l) m') = _
    rw [forceL_eq, ih]; rfl
theorem val_past : ∀ (k : Nat) (n : List Bool), val (past k n) = val n + k
  | 0, n => rfl
  | k + 1, n => by rw [past, val_past k, val_inc]; omega
theorem step_grow {tab : Tr AFn} {ih : Run} (g : Grow ih) : Grow (stepC tab ih) := by
  intro c t h n ds e t' h' n' ds' q
  cases c with
  | skip => cases q; exact ⟨[], rfl⟩
  | rg ops => obtain ⟨⟨t1, h1, n1⟩, _, q2⟩ := ob_iff.1 q; cases q2; exact ⟨[], rfl⟩
  | dr na ops => obtain ⟨⟨t1, h1, n1⟩, _, q2⟩ := ob_iff.1 q; cases q2; exact ⟨[], rfl⟩
  | sq x y =>
    obtain ⟨⟨e1, t1, h1, n1, d1⟩, q1, q2⟩ := ob_iff.1 q
    obtain ⟨l, rfl⟩ := g q1
    cases e1 with
    | nrm => obtain ⟨l', rfl⟩ := g (q2 : ih y t1 h1 n1 _ = some _); exact ⟨l' ++ l, by simp⟩
    | ex i => cases q2; exact ⟨l, rfl⟩
    | ret => cases q2; exact ⟨l, rfl⟩
  | cd c x y =>
    obtain ⟨v, _, q1⟩ := ob_iff.1 q
    obtain ⟨b, rfl, q2⟩ := asB_iff.1 q1
    cases b with
    | true => exact g (q2 : ih x t h n ds = some _)
    | false => exact g (q2 : ih y t h n ds = some _)
  | bk i x =>
    obtain ⟨⟨e1, t1, h1, n1, d1⟩, q1, q2⟩ := ob_iff.1 q
    obtain ⟨l, rfl⟩ := g q1
    refine ⟨l, ?_⟩
    cases e1 with
    | nrm => cases q2; rfl
    | ex j =>
      have q2 : @Bool.rec (fun _ => Option Rs) (some ⟨.ex j, t1, h1, n1, l ++ ds⟩) (some ⟨.nrm, t1, h1, n1, l ++ ds⟩) (Nat.beq j i) = some ⟨e, t', h', n', ds'⟩ := q2
      cases hb : Nat.beq j i <;> rw [hb] at q2 <;> cases q2 <;> rfl
    | ret => cases q2; rfl
  | lp x =>
    obtain ⟨⟨e1, t1, h1, n1, d1⟩, q1, q2⟩ := ob_iff.1 q
    obtain ⟨l, rfl⟩ := g q1
    cases e1 with
    | nrm => obtain ⟨l', rfl⟩ := g (q2 : ih (.lp x) t1 h1 n1 _ = some _); exact ⟨l' ++ l, by simp⟩
    | ex i => cases q2; exact ⟨l, rfl⟩
    | ret => cases q2; exact ⟨l, rfl⟩
  | xt i => cases q; exact ⟨[], rfl⟩
  | rt => cases q; exact ⟨[], rfl⟩
  | rf f ps x y => obtain ⟨b, rfl⟩ := rf_grow q; exact ⟨[b], rfl⟩
end Go.Ev
end
section
namespace Go.Ev
open Go.RowKit
open Tr (path)
variable {P : Program} {D : DrChk} {β : Type} {tab : Tr AFn} {ih : Run}

/-- loops, by so many rounds at the most -/
def LpOk (P : Program) (D : DrChk) (m : Nat) (ih : Run) : Prop :=
  ∀ {F : Fence} {N : Nat} {x : AC} {code : Code} {t : Tr AV} {h : Tr AO} {n : List Bool} {ds : List (List Bool)} {e : Ex} {t' : Tr AV} {h' : Tr AO} {n' : List Bool} {ds' : List (List Bool)},
    Open F → (F.round = none ∨ ds' = []) → chkC P D N x code = true → ih (.lp x) t h n ds = some ⟨e, t', h', n', ds'⟩ →
    ∀ {a : Act} {φ : Phi} {w : World} {Q : Exit → Act → World → Prop}, TM φ N t a.tmps → GL φ → WR (crOf P D) φ h.getP w → Fresh φ n → DS φ ds a.defers →
      (∀ φ' a' w', TM φ' N t' a'.tmps → DS φ' ds' a'.defers → St (crOf P D) φ h.getP n w φ' h'.getP n' w' → Q (exE e) a' w') → Code.roundsIn F 0 P code Q m a w
theorem none_or {F : Fence} {l d : List (List Bool)} (h : F.round = none ∨ l ++ d = []) : F.round = none ∨ d = [] := by
  rcases h with h | h
  · exact .inl h
  · exact .inr (List.append_eq_nil_iff.1 h).2
theorem lp_step {m : Nat} (hr : RunOk P D ih) (hl : LpOk P D m ih) (g : Grow ih) : LpOk P D (m + 1) (stepC tab ih) := by
  intro F N x code t h n ds e t' h' n' ds' hF hn hc q a φ w Q ht hg r f hd k
  obtain ⟨⟨e1, t1, h1, n1, d1⟩, q1, q2⟩ := ob_iff.1 q
  unfold Code.roundsIn
  cases e1 with
  | nrm =>
    have q2 : ih (.lp x) t1 h1 n1 d1 = some ⟨e, t', h', n', ds'⟩ := q2
    obtain ⟨l, rfl⟩ := g q2
    refine hr hF (none_or hn) hc q1 ht hg r f hd fun φ1 a1 w1 p1 p2 p3 => ?_
    refine hl hF hn hc q2 p1 (hg.sub p3.sub) p3.wr p3.fr p2 fun φ2 a2 w2 p4 p5 p6 => ?_
    exact k φ2 a2 w2 p4 p5 (p3.trans p6)
  | ex i =>
    cases q2
    exact hr hF hn hc q1 ht hg r f hd fun φ1 a1 w1 p1 p2 p3 => k φ1 a1 w1 p1 p2 p3
  | ret =>
    cases q2
    exact hr hF hn hc q1 ht hg r f hd fun φ1 a1 w1 p1 p2 p3 => k φ1 a1 w1 p1 p2 p3
theorem step_ok {m : Nat} (hr : RunOk P D ih) (hl : LpOk P D m ih) (g : Grow ih) (hcl : ∀ F, Open F → ClOk P (crOf P D) F (callG tab ih)) (hclv : ∀ F, Open F → ClvOk P (crOf P D) F (callV tab ih)) (hdr : DrOk P D) (hrf : RfOk P D tab ih) : RunOk P D (stepC tab ih) := by
  intro F N c code t h n ds e t' h' n' ds' hF hn hc q a φ w Q ht hg r f hd k
  cases c with
  | skip =>
    cases code <;> first | (cases hc; done) | skip
    cases q
    exact wpIn_skip (k φ a w ht hd (St.refl r f))
  | xt i =>
    cases code <;> first | (cases hc; done) | skip
    have := eq_of_beq hc; subst this
    cases q
    exact wpIn_exit (k φ a w ht hd (St.refl r f))
  | rt =>
    cases code <;> first | (cases hc; done) | skip
    cases q
    exact wpIn_ret (k φ a w ht hd (St.refl r f))
  | rg ops =>
    cases code <;> first | (cases hc; done) | skip
    rename_i id os b
    cases b <;> first | (cases hc; done) | skip
    obtain ⟨⟨t1, h1, n1⟩, q1, q2⟩ := ob_iff.1 q
    cases q2
    refine wpIn_region ?_
    have := opers_ok (P := P) (Q := Q) hF (hcl F hF) (hclv F hF) ops os.toList 0 (by simp) hc q1 ht hg r f (fun φ' a' w' p1 p2 p3 => k φ' a' w' p1 (by rw [p2]; exact hd.sub p3.sub) p3)
    simpa using this
  | dr na ops =>
    cases code <;> first | (cases hc; done) | skip
    rename_i id os b
    cases b <;> first | (cases hc; done) | skip
    obtain ⟨⟨t1, h1, n1⟩, q1, q2⟩ := ob_iff.1 q
    cases q2
    exact hdr hF (hcl F hF) (hclv F hF) hc q1 ht hg r f (fun φ' a' w' p1 p2 p3 => k φ' a' w' p1 (by rw [p2]; exact hd.sub p3.sub) p3)
  | sq x y =>
    cases code <;> first | (cases hc; done) | skip
    simp only [chkC, Bool.and_eq_true] at hc
    obtain ⟨⟨e1, t1, h1, n1, d1⟩, q1, q2⟩ := ob_iff.1 q
    refine wpIn_seq ?_
    cases e1 with
    | nrm =>
      have q2 : ih y t1 h1 n1 d1 = some ⟨e, t', h', n', ds'⟩ := q2
      obtain ⟨l, rfl⟩ := g q2
      refine hr hF (none_or hn) hc.1 q1 ht hg r f hd fun φ1 a1 w1 p1 p2 p3 => ?_
      refine hr hF hn hc.2 q2 p1 (hg.sub p3.sub) p3.wr p3.fr p2 fun φ2 a2 w2 p4 p5 p6 => ?_
      exact k φ2 a2 w2 p4 p5 (p3.trans p6)
    | ex i =>
      cases q2
      exact hr hF hn hc.1 q1 ht hg r f hd fun φ1 a1 w1 p1 p2 p3 => k φ1 a1 w1 p1 p2 p3
    | ret =>
      cases q2
      exact hr hF hn hc.1 q1 ht hg r f hd fun φ1 a1 w1 p1 p2 p3 => k φ1 a1 w1 p1 p2 p3
  | cd c x y =>
    cases code <;> first | (cases hc; done) | skip
    simp only [chkC, Bool.and_eq_true] at hc
    obtain ⟨v, e1, q1⟩ := ob_iff.1 q
    obtain ⟨b, rfl, q2⟩ := asB_iff.1 q1
    have hb := vr_b (eval_ok (a := a) hc.1.1 ht hg e1)
    cases b with
    | true => exact wpIn_cond_true hb (hr hF hn hc.1.2 (q2 : ih x t h n ds = some _) ht hg r f hd k)
    | false => exact wpIn_cond_false hb (hr hF hn hc.2 (q2 : ih y t h n ds = some _) ht hg r f hd k)
  | bk i x =>
    cases code <;> first | (cases hc; done) | skip
    simp only [chkC, Bool.and_eq_true] at hc
    have := eq_of_beq hc.1; subst this
    obtain ⟨⟨e1, t1, h1, n1, d1⟩, q1, q2⟩ := ob_iff.1 q
    refine wpIn_block ?_
    cases e1 with
    | nrm => cases q2; exact hr hF hn hc.2 q1 ht hg r f hd fun φ1 a1 w1 p1 p2 p3 => k φ1 a1 w1 p1 p2 p3
    | ex j =>
      have q2 : @Bool.rec (fun _ => Option Rs) (some ⟨.ex j, t1, h1, n1, d1⟩) (some ⟨.nrm, t1, h1, n1, d1⟩) (Nat.beq j i) = some ⟨e, t', h', n', ds'⟩ := q2
      rw [rec_beq] at q2
      by_cases hj : j = i
      · rw [if_pos hj] at q2; cases q2; subst hj
        exact hr hF hn hc.2 q1 ht hg r f hd fun φ1 a1 w1 p1 p2 p3 => by
          show Exit.inBlock j Q (.exit j) a1 w1
          simp only [Exit.inBlock, if_true]; exact k φ1 a1 w1 p1 p2 p3
      · rw [if_neg hj] at q2; cases q2
        exact hr hF hn hc.2 q1 ht hg r f hd fun φ1 a1 w1 p1 p2 p3 => by
          show Exit.inBlock i Q (.exit j) a1 w1
          simp only [Exit.inBlock, hj, if_false]; exact k φ1 a1 w1 p1 p2 p3
    | ret => cases q2; exact hr hF hn hc.2 q1 ht hg r f hd fun φ1 a1 w1 p1 p2 p3 => k φ1 a1 w1 p1 p2 p3
  | lp x =>
    cases code <;> first | (cases hc; done) | skip
    rename_i body
    have hc2 : chkC P D N x body = true := hc
    exact wpIn_loop_rounds (m + 1) (lp_step (tab := tab) (x := x) hr hl g hF hn hc2 q ht hg r f hd k)
  | rf fo ps x y =>
    rcases hn with hn | hn
    · exact hrf hF hn hc q ht hg r f hd k
    · obtain ⟨b, hb⟩ := rf_grow q
      rw [hn] at hb; cases hb
end Go.Ev
end
section
namespace Go.Ev
open Go.RowKit
open Tr (path)
variable {P : Program} {D : DrChk} {β : Type} {tab : Tr AFn} {ih : Run} {cr : Nat → AC → Code → Prop}

/-! ### results -/
def chkR (P : Program) : ResultVar → ARes → Bool
  | .tmp t, .tmp p => chkP t p
  | .cell t ty, .cell p n agg => chkP t p && tyIs P ty n agg
  | _, _ => false
def chkRs (P : Program) : List ResultVar → List ARes → Bool
  | [], [] => true
  | r :: rs, a :: as => chkR P r a && chkRs P rs as
  | _, _ => false
noncomputable def res1 (t : Tr AV) (h : Tr AO) (r : ARes) : Option AV := @ARes.rec (fun _ => Option AV) (fun p => t.getP p) (fun p n agg => ob (t.getP p) fun v => asP v fun b o => cellsOf h b o n fun vs => wrap1 agg vs) r
theorem res1_ok {φ : Phi} {N : Nat} {t : Tr AV} {h : Tr AO} {tmps : Array Value} {w : World} (ht : TM φ N t tmps) (r : WR cr φ h.getP w) {x : ResultVar} {y : ARes} (hc : chkR P x y = true) {v : AV} (e : res1 t h y = some v) (f : ResultVar → Sem Value) (hf : ∀ u, f (.tmp u) = pure (tmps.getD u undef))
    (hfc : ∀ a t, f (.cell a t) = (do loadVar t (← asAddr (tmps.getD a undef)))) : ∃ v', (f x).run P w = .ok v' w ∧ VR φ v v' := by
  cases x with
  | tmp i =>
    cases y with
    | cell _ _ _ => cases hc
    | tmp p =>
      have := chkP_eq hc; subst this
      obtain ⟨v', h1, h2⟩ := ht.tm i v e
      refine ⟨v', ?_, h2⟩
      rw [hf]; simp [Array.getD_eq_getD_getElem?, h1]
  | cell i ty =>
    cases y with
    | tmp _ => cases hc
    | cell p k agg =>
      simp only [chkR, Bool.and_eq_true] at hc
      have := chkP_eq hc.1; subst this
      obtain ⟨u, e1, e2⟩ := ob_iff.1 (e : ob (t.getP (path i)) (fun v => asP v fun b o => cellsOf h b o k fun vs => wrap1 agg vs) = some v)
      obtain ⟨b, off, rfl, e3⟩ := asP_iff.1 e2
      obtain ⟨u', h1, h2⟩ := ht.tm i _ e1
      obtain ⟨γ, rfl, hφ⟩ := vr_p h2
      obtain ⟨vs, cs, et, fz, f2, g1, g2, g3, g4⟩ := cells_read r e3 hφ
      obtain ⟨d, ii, d1, d2, d3, d4, d5⟩ := tyIs_eq hc.2
      have hp : tmps.getD i undef = .pointer (some ⟨γ, off, none⟩) := by simp [Array.getD_eq_getD_getElem?, h1]
      cases agg with
      | true =>
        have f2 : some (AV.a vs) = some v := f2
        cases f2
        refine ⟨.agg (cs.extract off (off + k)), ?_, .a _ _ (by rw [← g2]; exact g3.list (by omega)) g3.all⟩
        have hl : (cs.extract off (off + k)).toList.length = k := by simp; omega
        have := run_loadVar_mid (P := P) w γ off ty (cs.extract off (off + k)).toList d (fun j u hu => by rw [cell_at g1]; exact extract_get j u hu) d1 (by cases d <;> first | rfl | (cases d3; done)) (by rw [d2, hl, ← d4]; rfl)
        rw [Array.toArray_toList] at this
        rw [hfc, hp]
        simp [asAddr, this]
      | false =>
        have hk := d5 rfl
        subst hk
        have f2 : lget vs 0 = some v := f2
        rw [lget_eq] at f2
        obtain ⟨v', q1, q2⟩ := g3.get 0 v f2
        refine ⟨v', ?_, q2⟩
        have hcl : w.cell? ⟨γ, off, none⟩ = some v' := by rw [cell_at g1]; simpa using q1
        rw [hfc, hp]
        simp [asAddr, loadVar, aggB_run d1, d3, hcl]
theorem resV_ok {φ : Phi} {N : Nat} {t : Tr AV} {h : Tr AO} {tmps : Array Value} {w : World} (ht : TM φ N t tmps) (r : WR cr φ h.getP w) (f : ResultVar → Sem Value) (hf : ∀ u, f (.tmp u) = pure (tmps.getD u undef))
    (hfc : ∀ a t, f (.cell a t) = (do loadVar t (← asAddr (tmps.getD a undef)))) : ∀ (xs : List ResultVar) (ys : List ARes) (vs : List AV), chkRs P xs ys = true → obl (res1 t h) ys = some vs → ∃ vs', (xs.mapM f).run P w = .ok vs' w ∧ VRs φ vs vs' := by
  intro xs
  induction xs with
  | nil =>
    intro ys vs hc e
    cases ys with
    | nil => cases e; exact ⟨[], by simp, .nil⟩
    | cons y ys => cases hc
  | cons x xs ih =>
    intro ys vs hc e
    cases ys with
    | nil => cases hc
    | cons y ys =>
      simp only [chkRs, Bool.and_eq_true] at hc
      rw [obl_cons] at e
      obtain ⟨v, e1, e2⟩ := ob_iff.1 e
      obtain ⟨us, e3, e4⟩ := ob_iff.1 e2
      cases e4
      obtain ⟨v', h1, h2⟩ := res1_ok ht r hc.1 e1 f hf hfc
      obtain ⟨us', h3, h4⟩ := ih ys us hc.2 e3
      exact ⟨v' :: us', by simp [List.mapM_cons, h1, h3], .cons _ _ _ _ h2 h4⟩
def resF (tmps : Array Value) : ResultVar → Sem Value
  | .tmp t => pure (tmps.getD t undef)
  | .cell a t => do loadVar t (← asAddr (tmps.getD a undef))
theorem results_eq (fn : Func) (tmps : Array Value) : results fn tmps = (do
    let vs ← fn.results.mapM (resF tmps)
    pure (if h : vs.size = 1 then vs[0] else .tuple vs)) := by
  unfold results
  congr 1
theorem results_ok {φ : Phi} {N : Nat} {t : Tr AV} {h : Tr AO} {tmps : Array Value} {w : World} {fn : Func} {rs : List ARes} (ht : TM φ N t tmps) (r : WR cr φ h.getP w) (hc : chkRs P fn.results.toList rs = true) {vs : List AV} (e : resV t h rs = some vs) :
    ∃ v', (results fn tmps).run P w = .ok v' w ∧ VR φ (one1 vs) v' := by
  obtain ⟨vs', h1, h2⟩ := resV_ok (P := P) ht r (resF tmps) (fun _ => rfl) (fun _ _ => rfl) fn.results.toList rs vs hc e
  rw [results_eq]
  have : fn.results = fn.results.toList.toArray := by simp
  rw [this, List.mapM_toArray]
  simp only [Sem.run_bind, Sem.run_map, h1, Result.andThen_ok]
  cases h2 with
  | nil => exact ⟨_, rfl, .t _ _ .nil⟩
  | cons v v' us us' q1 q2 =>
    cases q2 with
    | nil => exact ⟨v', by simp, q1⟩
    | cons v2 v2' us us' q3 q4 => exact ⟨.tuple (v' :: v2' :: us').toArray, by simp, .t _ _ (.cons _ _ _ _ q1 (.cons _ _ _ _ q3 q4))⟩
end Go.Ev
end
section
namespace Go.Ev
open Go.RowKit
open Tr (path)
variable {P : Program} {D : DrChk} {β : Type} {tab : Tr AFn} {ih : Run} {cr : Nat → AC → Code → Prop}

/-- a block is turned, its name given up -/
theorem St.kill {φ : Phi} {h : Hp} {n : List Bool} {w w' : World} (r : WR cr φ h w) (f : Fresh φ n) (b : List Bool) (o : AO) (β : Nat) (hb : h b = some o) (hβ : φ b = some β) (hro : ro o = false)
    (a : Ax w w') (hsz : w'.heap.size = w.heap.size) (hne : ∀ k, k ≠ β → w'.heap[k]? = w.heap[k]?) : St cr φ h n w φ (upd h b none) n w' := by
  have old : ∀ c p, upd h b none c = some p → h c = some p ∧ b ≠ c := fun c p e => by
    by_cases hbc : b = c
    · subst hbc; simp at e
    · rw [upd_ne _ _ hbc] at e; exact ⟨e, hbc⟩
  refine ⟨⟨?_, ?_, ?_⟩, f, .refl φ, a, by omega, ?_, fun c γ e q => (by rw [e] at q; cases q), fun c p e _ => ⟨p, (old c p e).1, rfl⟩, Nat.le_refl _⟩
  · intro c p γ e q
    obtain ⟨e1, hbc⟩ := old c p e
    obtain ⟨y, hy, k⟩ := r.blk c p γ e1 q
    exact ⟨y, by rw [hne γ (fun eq => hbc (r.inj b c o p β hb e1 hβ (eq ▸ q)))]; exact hy, k⟩
  · intro c c' p p' γ e e' q q'
    exact r.inj c c' p p' γ (old c p e).1 (old c' p' e').1 q q'
  · intro q hq
    obtain ⟨x1, x2⟩ := r.fx q hq
    have hn : q.1 ≠ β := fun eq => by have := x2 b o hb (by rw [eq]; exact hβ); rw [hro] at this; cases this
    exact ⟨by rw [hne _ hn]; exact x1, fun c p e k => x2 c p (old c p e).1 k⟩
  · intro γ _ hr
    refine hne γ fun eq => ?_
    have := hr b o hb (eq ▸ hβ)
    rw [hro] at this; cases this
theorem dropD_cons (b : List Bool) (ds : List (List Bool)) (h : Tr AO) : dropD (b :: ds) h = ob (h.getP b) fun o => @AO.rec (fun _ => Option (Tr AO)) (fun _ _ _ _ => none) (fun _ _ => none) (fun _ _ => none) (fun _ _ _ _ _ _ => none) (setH h b none fun h => dropD ds h) o := rfl
theorem marks_ok {F : Fence} {fn : Func} {tmps : Array Value} {R : Ending → World → Prop} : ∀ (ds : List (List Bool)) (defers : List Deferred) {h h' : Tr AO} {φ : Phi} {n : List Bool} {w : World}, DS φ ds defers → dropD ds h = some h' → WR cr φ h.getP w → Fresh φ n →
    (∀ w', St cr φ h.getP n w φ h'.getP n w' → LeavesIn F 0 P fn tmps R [] .returning w') → LeavesInM F 0 P fn tmps R defers .returning w := by
  intro ds
  induction ds with
  | nil =>
    intro defers h h' φ n w hd e r f k
    cases defers with
    | cons d ds => exact hd.elim
    | nil => cases e; exact k w (St.refl r f)
  | cons b ds ih =>
    intro defers h h' φ n w hd e r f k
    cases defers with
    | nil => exact hd.elim
    | cons d defers =>
      obtain ⟨⟨γ, hφ, htg⟩, hd2⟩ := hd
      rw [dropD_cons] at e
      obtain ⟨o, ho, e2⟩ := ob_iff.1 e
      obtain ⟨x, hx, hor⟩ := r.blk b o γ ho hφ
      cases o <;> first | (cases e2; done) | skip
      have e2 : setH h b none (fun h => dropD ds h) = some h' := e2
      rw [setH_eq] at e2
      cases x <;> first | exact hor.elim | skip
      rename_i ds0
      have hor : ds0 = some [] := hor
      subst hor
      have hnc : ∀ cs e fz, Obj.deferred (some []) ≠ .cells cs e fz := fun _ _ _ q => by cases q
      have hg := run_getObj (P := P) hx hnc
      have hs := run_setObj (P := P) (y := .deferred none) hx hnc
      obtain ⟨q1, q2, q3⟩ := set_facts (y := .deferred none) hx
      refine ⟨by simp, .inl ⟨γ, { w with heap := w.heap.setIfInBounds γ (.deferred none) }, htg, ?_, ?_⟩⟩
      · simp only [Instr.takeDeferred, Sem.run_bind, hg, Result.andThen_ok, hs, Sem.run_pure]
      · have st := St.kill (w' := { w with heap := w.heap.setIfInBounds γ (.deferred none) }) r f b .df γ ho hφ rfl ⟨rfl, rfl, rfl⟩ q3 q2
        rw [← hp_set] at st
        exact ih defers hd2 e2 st.wr f fun w' st2 => k w' (st.trans st2)

/-! ### the call -/
def chkSeq : Nat → List (List Bool) → Bool
  | _, [] => true
  | i, p :: ps => chkP i p && chkSeq (i + 1) ps
def chkGo (P : Program) (D : DrChk) (g : Nat) (ps : List (List Bool)) (rs : List ARes) (c : AC) : Bool :=
  match P.funcs[g]? with
  | some fn => (fn.name != "runtime.NumGoroutine") && decide (ps.length ≤ fn.ntmps) && chkSeq 0 ps && chkRs P fn.results.toList rs && (match fn.body with
    | some code => chkC P D fn.ntmps c code
    | none => false)
  | none => false
theorem bindP_ok {φ : Phi} {N : Nat} {tmps : Array Value} : ∀ (ps : List (List Bool)) (j : Nat) (vs : List AV) (vs' : List Value) (t t' : Tr AV), chkSeq j ps = true → VRs φ vs vs' → (∀ k v', vs'[k]? = some v' → tmps[j + k]? = some v') → TM φ N t tmps → bindP ps vs t = some t' → TM φ N t' tmps ∧ ps.length = vs.length := by
  intro ps
  induction ps with
  | nil =>
    intro j vs vs' t t' _ hv _ ht e
    cases vs with
    | nil => cases e; exact ⟨ht, rfl⟩
    | cons v vs => cases e
  | cons p ps ih =>
    intro j vs vs' t t' hc hv hk ht e
    simp only [chkSeq, Bool.and_eq_true] at hc
    have := chkP_eq hc.1; subst this
    cases hv with
    | nil => cases e
    | cons v v' vs vs' h1 h2 =>
    have e : forceT (t.setP (path j) (some v)) (fun t => bindP ps vs t) = some t' := e
    rw [forceT_eq] at e
    have ht1 : TM φ N (t.setP (path j) (some v)) tmps := ⟨ht.size, fun i u hu => by
      rw [Tr.getP_setP] at hu
      by_cases hd : path j = path i
      · rw [if_pos hd] at hu; cases hu
        have := Tr.path_inj _ _ hd
        subst this
        exact ⟨v', by simpa using hk 0 v' rfl, h1⟩
      · rw [if_neg hd] at hu
        exact ht.tm i u hu⟩
    obtain ⟨a, b⟩ := ih (j + 1) vs vs' _ t' hc.2 h2 (fun k u hu => by have := hk (k + 1) u (by simpa using hu); rw [← this]; congr 1; omega) ht1 e
    exact ⟨a, by simp [b]⟩
theorem go_ok {F : Fence} (hF : Open F) (hr : RunOk P D ih) {g : Nat} {ps : List (List Bool)} {rs : List ARes} {c : AC} (hc : chkGo P D g ps rs c = true) {vs : List AV} {h : Tr AO} {n : List Bool} {v : AV} {h' : Tr AO} {n' : List Bool} (e : callFn ih (.go ps rs c) vs h n = some ⟨v, h', n'⟩)
    {φ : Phi} {w : World} {vs' : Array Value} (hv : VRs φ vs vs'.toList) (hg : GL φ) (r : WR (crOf P D) φ h.getP w) (f : Fresh φ n) :
    (callFunc g vs').run P w = .ok (.enter g vs') w ∧ CallsIn F 0 P g vs' w fun e w' => ∃ v', e = .returned v' ∧ ∃ φ', VR φ' v v' ∧ St (crOf P D) φ h.getP n w φ' h'.getP n' w' := by
  unfold chkGo at hc
  split at hc
  · rename_i fn hfn
    simp only [Bool.and_eq_true] at hc
    obtain ⟨⟨⟨⟨h1, h2⟩, h3⟩, h4⟩, h5⟩ := hc
    split at h5
    · rename_i code hb
      have h2 := of_decide_eq_true h2
      refine ⟨?_, ?_⟩
      · have hne : ¬ fn.name = "runtime.NumGoroutine" := by simpa using h1
        simp [callFunc, hfn, hne, hb]
      · have e : ob (bindP ps vs .leaf) (fun t => ob (ih c t h n []) fun r => @Rs.rec (fun _ => Option R1) (fun e t h n ds => guardB (isEnd e) (ob (dropD ds h) fun h => ob (resV t h rs) fun vs => r1 (one1 vs) h n)) r) = some ⟨v, h', n'⟩ := e
        obtain ⟨t, e1, e2⟩ := ob_iff.1 e
        obtain ⟨⟨x, t1, h1', n1, ds⟩, e3, e4⟩ := ob_iff.1 e2
        obtain ⟨e5, e6⟩ := guardB_iff.1 (e4 : guardB (isEnd x) (ob (dropD ds h1') fun h => ob (resV t1 h rs) fun vs => r1 (one1 vs) h n1) = some ⟨v, h', n'⟩)
        obtain ⟨h2', e7, e8⟩ := ob_iff.1 e6
        obtain ⟨us, e9, e10⟩ := ob_iff.1 e8
        obtain ⟨rfl, rfl, rfl⟩ := r1_iff.1 e10
        have hsz : fn.ntmps ≤ (vs' ++ Array.replicate (fn.ntmps - vs'.size) undef).size := by
          rw [Array.size_append, Array.size_replicate]; omega
        have ht := bindP_ok (φ := φ) (N := fn.ntmps) (tmps := vs' ++ Array.replicate (fn.ntmps - vs'.size) undef) ps 0 vs vs'.toList .leaf t h3 hv (fun k u hu => by
          rw [Nat.zero_add]
          have hk : k < vs'.size := by have := (List.getElem?_eq_some_iff.1 hu).1; simpa using this
          rw [Array.getElem?_append_left hk, ← Array.getElem?_toList]; exact hu) ⟨hsz, fun i u hu => by simp at hu⟩ e1
        let Fp : Fence := F.plain
        have hFp : Open Fp := ⟨fun f => hF.fn f, hF.depth, hF.alive⟩
        have key : CallsIn Fp 0 P g vs' w fun e w' => ∃ v', e = .returned v' ∧ ∃ φ', VR φ' (one1 us) v' ∧ St (crOf P D) φ h.getP n w φ' h2'.getP n1 w' := by
          refine callsIn_of_wp_marks hfn hb (hFp.fn g) ?_ rfl
          refine hr hFp (.inl rfl) h5 e3 ht.1 hg r f trivial fun φ' a' w' p1 p2 p3 => ?_
          have fin : LeavesInM Fp 0 P fn a'.tmps (fun e w' => ∃ v', e = .returned v' ∧ ∃ φ', VR φ' (one1 us) v' ∧ St (crOf P D) φ h.getP n w φ' h2'.getP n1 w') a'.defers .returning w' := by
            refine marks_ok ds a'.defers p2 e7 p3.wr p3.fr fun w2 st => ?_
            obtain ⟨v', q1, q2⟩ := results_ok (P := P) p1 st.wr h4 e9
            exact ⟨v', q1, v', rfl, φ', q2, p3.trans st⟩
          cases x with
          | nrm => exact fin
          | ex i => cases e5
          | ret => exact fin
        exact key
    · cases h5
  · cases hc
end Go.Ev
end
section
namespace Go.Ev
open Go.RowKit
open Tr (path)
variable {P : Program} {D : DrChk} {β : Type} {tab : Tr AFn} {ih : Run} {cr : Nat → AC → Code → Prop}

theorem lpAt_iff {h : Tr AO} {l : List Bool} {k : LS → Option Ex → Tr AV → List (List Bool) → AC → AC → Option β} {r : β} : lpAt h l k = some r ↔ ∃ st pd t ps x y, h.getP l = some (.lp st pd t ps x y) ∧ k st pd t ps x y = some r := by
  unfold lpAt; rw [ob_iff]; constructor
  · rintro ⟨o, h1, h2⟩
    cases o <;> first | (cases h2; done) | exact ⟨_, _, _, _, _, _, h1, h2⟩
  · rintro ⟨st, pd, t, ps, x, y, h1, h2⟩; exact ⟨_, h1, h2⟩
/-- a record, as it stands in the world -/
structure LR (cr : Nat → AC → Code → Prop) (φ : Phi) (st : LS) (pd : Option Ex) (t : Tr AV) (ps : List (List Bool)) (x y : AC) (L : Loop) (N : Nat) : Prop where
  tm : TM φ N t L.tmps
  x : cr N x L.assign
  y : cr N y L.body
  ps : ps = L.params.toList.map path
  lt : ∀ i ∈ L.params.toList, i < N
  st : L.state = lsC st
  pd : PR pd L.pending
theorem lp_read {φ : Phi} {h : Hp} {w : World} (r : WR cr φ h w) {l : List Bool} {γ : Nat} {st : LS} {pd : Option Ex} {t : Tr AV} {ps : List (List Bool)} {x y : AC} (hb : h l = some (.lp st pd t ps x y)) (hφ : φ l = some γ) :
    ∃ L N, w.heap[γ]? = some (.loop L) ∧ LR cr φ st pd t ps x y L N := by
  obtain ⟨o, h1, h2⟩ := r.blk l _ γ hb hφ
  cases o <;> first | exact h2.elim | skip
  obtain ⟨N, a, b, c, d, e, f, g⟩ := h2
  exact ⟨_, N, h1, ⟨a, b, c, d, e, f, g⟩⟩
theorem run_getLoop {γ : Nat} {L : Loop} {w : World} (h : w.heap[γ]? = some (.loop L)) : (Instr.getLoop γ).run P w = .ok L w := by
  simp only [Instr.getLoop, Sem.run_bind, run_getObj (P := P) h (fun _ _ _ q => by cases q), Result.andThen_ok]; rfl
/-- a record turned -/
theorem lp_turn {φ : Phi} {h : Tr AO} {n : List Bool} {w : World} (r : WR cr φ h.getP w) (f : Fresh φ n) {l : List Bool} {γ : Nat} {st st' : LS} {pd pd' : Option Ex} {t : Tr AV} {ps : List (List Bool)} {x y : AC} {L L' : Loop} {N : Nat} (hb : h.getP l = some (.lp st pd t ps x y)) (hφ : φ l = some γ)
    (hw : w.heap[γ]? = some (.loop L)) (lr : LR cr φ st' pd' t ps x y L' N) : (setObj γ (.loop L')).run P w = .ok () { w with heap := w.heap.setIfInBounds γ (.loop L') } ∧
      St cr φ h.getP n w φ (h.setP l (some (.lp st' pd' t ps x y))).getP n { w with heap := w.heap.setIfInBounds γ (.loop L') } := by
  obtain ⟨q1, q2, q3⟩ := set_facts (y := .loop L') hw
  refine ⟨run_setObj (P := P) hw (fun _ _ _ q => by cases q), ?_⟩
  rw [hp_set]
  exact St.turn r f l _ (.lp st' pd' t ps x y) γ (.loop L') hb hφ rfl rfl ⟨N, lr.tm, lr.x, lr.y, lr.ps, lr.lt, lr.st, lr.pd⟩ ⟨rfl, rfl, rfl⟩ q3 q1 q2
theorem fold_tm {φ : Phi} {N : Nat} : ∀ (is : List Nat) (vs : List AV) (vs' : List Value) (t t' : Tr AV) (tmps : Array Value), (∀ i ∈ is, i < N) → VRs φ vs vs' → TM φ N t tmps → bindP (is.map path) vs t = some t' →
    TM φ N t' ((is.zip vs').foldl (fun tmps (q : Nat × Value) => tmps.setIfInBounds q.1 q.2) tmps) ∧ is.length = vs'.length := by
  intro is
  induction is with
  | nil =>
    intro vs vs' t t' tmps _ hv ht e
    cases hv with
    | nil => cases e; exact ⟨ht, rfl⟩
    | cons => cases e
  | cons i is ihh =>
    intro vs vs' t t' tmps hi hv ht e
    cases hv with
    | nil => cases e
    | cons v v' vs vs' h1 h2 =>
    have e : forceT (t.setP (path i) (some v)) (fun t => bindP (is.map path) vs t) = some t' := e
    rw [forceT_eq] at e
    have ht1 : TM φ N (t.setP (path i) (some v)) (tmps.setIfInBounds i v') := ⟨by rw [Array.size_setIfInBounds]; exact ht.size, fun j u hu => by
      rw [Tr.getP_setP] at hu
      by_cases hd : path i = path j
      · rw [if_pos hd] at hu; cases hu
        have := Tr.path_inj _ _ hd
        subst this
        have hlt : i < tmps.size := Nat.lt_of_lt_of_le (hi i List.mem_cons_self) ht.size
        exact ⟨v', by simp [hlt], h1⟩
      · rw [if_neg hd] at hu
        obtain ⟨u', a, b⟩ := ht.tm j u hu
        have hne : i ≠ j := fun q => hd (by rw [q])
        exact ⟨u', by rw [Array.getElem?_setIfInBounds, if_neg hne]; exact a, b⟩⟩
    obtain ⟨a, b⟩ := ihh vs vs' _ t' _ (fun j hj => hi j (List.mem_cons_of_mem _ hj)) h2 ht1 e
    exact ⟨by simpa using a, by simp [b]⟩
theorem isE_eq {l : List (List Bool)} (h : isE l = true) : l = [] := by cases l <;> first | rfl | cases h
theorem isNrm_eq {e : Ex} (h : isNrm e = true) : e = .nrm := by cases e <;> first | rfl | cases h
theorem isRdy_eq {s : LS} (h : isRdy s = true) : s = .ready := by cases s <;> first | rfl | cases h
theorem round_ok {F : Fence} (hF : Open F) (hr : RunOk P D ih) {l : List Bool} {vs : List AV} {h : Tr AO} {n : List Bool} {v : AV} {h' : Tr AO} {n' : List Bool} (e : roundY ih l vs h n = some ⟨v, h', n'⟩) {φ : Phi} {w : World} {γ : Nat} (hφ : φ l = some γ) {vs' : Array Value} (hv : VRs φ vs vs'.toList) (hg : GL φ)
    (r : WR (crOf P D) φ h.getP w) (f : Fresh φ n) :
    InvOk P F (.fn (.yield γ) #[]) vs' w fun v' w' => ∃ φ', VR φ' v v' ∧ St (crOf P D) φ h.getP n w φ' h'.getP n' w' := by
  obtain ⟨st, pd, t0, ps, x, y, hb, e1⟩ := lpAt_iff.1 e
  obtain ⟨L, N, hw, lr⟩ := lp_read r hb hφ
  obtain ⟨t, e2, e3⟩ := ob_iff.1 e1
  obtain ⟨⟨x1, t1, h1, n1, d1⟩, e4, e5⟩ := ob_iff.1 e3
  obtain ⟨e6, e7⟩ := guardB_iff.1 e5
  obtain ⟨e8, e9⟩ := guardB_iff.1 e7
  have := isNrm_eq e6; subst this
  have := isE_eq e8; subst this
  obtain ⟨st2, pd2, t2, ps2, x2, y2, hb2, e10⟩ := lpAt_iff.1 e9
  obtain ⟨e11, e12⟩ := guardB_iff.1 e10
  have := isRdy_eq e11; subst this
  rw [setH_eq] at e12
  obtain ⟨⟨x3, t3, h3, n3, d3⟩, e13, e14⟩ := ob_iff.1 e12
  obtain ⟨e15, e16⟩ := guardB_iff.1 e14
  have := isE_eq e15; subst this
  obtain ⟨st4, pd4, t4, ps4, x4, y4, hb4, e17⟩ := lpAt_iff.1 e16
  have hps := lr.ps
  subst hps
  obtain ⟨ht, hlen⟩ := fold_tm L.params.toList vs vs'.toList t0 t L.tmps lr.lt hv lr.tm e2
  have hyield : (invoke (.fn (.yield γ) #[]) vs').run P w = .ok (.round γ L.fn ((L.params.toList.zip vs'.toList).foldl (fun tmps (q : Nat × Value) => tmps.setIfInBounds q.1 q.2) L.tmps) L.assign L.body) w := by
    have hsz : ¬ vs'.size ≠ L.params.size := by simpa using hlen.symm
    simp only [invoke, Instr.yield, Sem.run_bind, run_getLoop (P := P) hw, Result.andThen_ok]
    rw [if_neg hsz]
    simp only [Sem.run_pure]
    rw [← Array.foldl_toList, Array.toList_zip]
  refine .inr (.inr ⟨γ, L.fn, _, L.assign, L.body, w, hyield, ?_⟩)
  have hFr : Open (F.inRound γ) := ⟨fun f => hF.fn f, hF.depth, hF.alive⟩
  refine roundIn_of_wpIn (hF.fn _) ?_
  refine hr hFr (.inr rfl) lr.x e4 ht hg r f trivial fun φ1 a1 w1 p1 p2 p3 => ?_
  have hφ1 := p3.sub.at' _ _ hφ
  obtain ⟨L2, N2, hw2, lr2⟩ := lp_read p3.wr hb2 hφ1
  have lr2' : LR (crOf P D) φ1 .busy pd2 t2 ps2 x2 y2 { L2 with state := .busy } N2 := ⟨lr2.tm, lr2.x, lr2.y, lr2.ps, lr2.lt, rfl, lr2.pd⟩
  obtain ⟨s1, s2⟩ := lp_turn p3.wr p3.fr hb2 hφ1 hw2 lr2'
  refine ⟨{ w1 with heap := w1.heap.setIfInBounds γ (.loop { L2 with state := .busy }) }, ?_, ?_⟩
  · have hst : L2.state = .ready := lr2.st
    simp only [Instr.beginRound, Sem.run_bind, run_getLoop (P := P) hw2, Result.andThen_ok, hst]
    refine (congrArg (fun q => Result.andThen q _) s1).trans ?_
    rfl
  · refine hr hFr (.inr rfl) lr.y e13 (p1.sub s2.sub) ((hg.sub p3.sub).sub s2.sub) s2.wr s2.fr p2 fun φ3 a3 w3 p4 p5 p6 => ?_
    have hφ3 := p6.sub.at' _ _ hφ1
    obtain ⟨L4, N4, hw4, lr4⟩ := lp_read p6.wr hb4 hφ3
    have base := (p3.trans s2).trans p6
    have fin : ∀ (j : Option Code), (match x3 with | .nrm => j = none | .ex i => j = some (.exit i) | .ret => j = some .ret) → ∃ v'' w'', (Instr.endRound γ j).run P w3 = .ok v'' w'' ∧ ∃ v', Ending.returned v'' = .returned v' ∧ ∃ φ', VR φ' v v' ∧ St (crOf P D) φ h.getP n w φ' h'.getP n' w'' := by
      intro j hj
      cases x3 with
      | nrm =>
        subst hj
        have e17 : setH h3 l (some (.lp .ready none t4 ps4 x4 y4)) (fun h => r1 (.b true) h n3) = some ⟨v, h', n'⟩ := e17
        rw [setH_eq] at e17
        obtain ⟨rfl, rfl, rfl⟩ := r1_iff.1 e17
        obtain ⟨q1, q2⟩ := lp_turn p6.wr p6.fr hb4 hφ3 hw4 (⟨lr4.tm, lr4.x, lr4.y, lr4.ps, lr4.lt, rfl, rfl⟩ : LR (crOf P D) φ3 .ready none t4 ps4 x4 y4 { L4 with state := .ready, pending := none } N4)
        refine ⟨.bool true, _, ?_, _, rfl, φ3, .b true, base.trans q2⟩
        simp only [Instr.endRound, Sem.run_bind, run_getLoop (P := P) hw4, Result.andThen_ok, Option.isNone_none, if_true]
        exact (congrArg (fun q => Result.andThen q _) q1).trans rfl
      | ex i =>
        subst hj
        have e17 : setH h3 l (some (.lp .done (some (.ex i)) t4 ps4 x4 y4)) (fun h => r1 (.b false) h n3) = some ⟨v, h', n'⟩ := e17
        rw [setH_eq] at e17
        obtain ⟨rfl, rfl, rfl⟩ := r1_iff.1 e17
        obtain ⟨q1, q2⟩ := lp_turn p6.wr p6.fr hb4 hφ3 hw4 (⟨lr4.tm, lr4.x, lr4.y, lr4.ps, lr4.lt, rfl, ⟨_, rfl, rfl⟩⟩ : LR (crOf P D) φ3 .done (some (.ex i)) t4 ps4 x4 y4 { L4 with state := .done, pending := some (.exit i) } N4)
        refine ⟨.bool false, _, ?_, _, rfl, φ3, .b false, base.trans q2⟩
        simp only [Instr.endRound, Sem.run_bind, run_getLoop (P := P) hw4, Result.andThen_ok, Option.isNone_some, Bool.false_eq_true, if_false]
        exact (congrArg (fun q => Result.andThen q _) q1).trans rfl
      | ret =>
        subst hj
        have e17 : setH h3 l (some (.lp .done (some .ret) t4 ps4 x4 y4)) (fun h => r1 (.b false) h n3) = some ⟨v, h', n'⟩ := e17
        rw [setH_eq] at e17
        obtain ⟨rfl, rfl, rfl⟩ := r1_iff.1 e17
        obtain ⟨q1, q2⟩ := lp_turn p6.wr p6.fr hb4 hφ3 hw4 (⟨lr4.tm, lr4.x, lr4.y, lr4.ps, lr4.lt, rfl, ⟨_, rfl, rfl⟩⟩ : LR (crOf P D) φ3 .done (some .ret) t4 ps4 x4 y4 { L4 with state := .done, pending := some .ret } N4)
        refine ⟨.bool false, _, ?_, _, rfl, φ3, .b false, base.trans q2⟩
        simp only [Instr.endRound, Sem.run_bind, run_getLoop (P := P) hw4, Result.andThen_ok, Option.isNone_some, Bool.false_eq_true, if_false]
        exact (congrArg (fun q => Result.andThen q _) q1).trans rfl
    cases x3 with
    | nrm => exact fin none rfl
    | ex i => exact fin (some (.exit i)) rfl
    | ret => exact fin (some .ret) rfl
end Go.Ev
end
