/- The plain model of what a handler may do, part 2: calls, entries and texts carried by the relation of the two runs. Conditions: those that each theorem states. -/
import Derived.Test.YtkhnnbfgjfkfeaaGreatDoorKEvA
import Derived.Laws.Sem
import Derived.Laws.Entries
import Derived.Calls
import Derived.Lib.SpaceR
import Derived.Laws.Strings
import Derived.Laws.StructEq
import Derived.Laws.Pointers
import Derived.Laws.Cover3
import Derived.ChangeKeysEq
section
namespace Go.Ev
open Go.RowKit
open Tr (path)
variable {P : Program} {cr : Nat → AC → Code → Prop} {φ φ' : Phi} {h h' : Tr AO} {n n' : List Bool} {w w' : World} {β : Type} {N : Nat} {t : Tr AV} {a : Act}

/-! ### what a value is -/
theorem asI_iff {v : AV} {k : IntKind → Int → Option β} {r : β} : asI v k = some r ↔ ∃ q m, v = .i q m ∧ k q m = some r := by
  constructor
  · intro e; cases v <;> first | exact ⟨_, _, rfl, e⟩ | cases e
  · rintro ⟨q, m, rfl, e⟩; exact e
theorem nn1_iff {x : Int} {k : Nat → Option β} {r : β} : nn1 x k = some r ↔ ∃ m : Nat, x = m ∧ k m = some r := by
  rcases x with x | x
  · constructor
    · intro e; exact ⟨x, rfl, e⟩
    · rintro ⟨m, e, k⟩; cases e; exact k
  · constructor
    · intro e; cases e
    · rintro ⟨m, e, k⟩; cases e
theorem asN_iff {v : AV} {k : Nat → Option β} {r : β} : asN v k = some r ↔ ∃ q, ∃ m : Nat, v = .i q m ∧ k m = some r := by
  unfold asN; rw [asI_iff]; constructor
  · rintro ⟨q, m, rfl, e⟩; obtain ⟨m, rfl, e⟩ := nn1_iff.1 e; exact ⟨q, m, rfl, e⟩
  · rintro ⟨q, m, rfl, e⟩; exact ⟨q, m, rfl, nn1_iff.2 ⟨m, rfl, e⟩⟩
theorem asB_iff {v : AV} {k : Bool → Option β} {r : β} : asB v k = some r ↔ ∃ x, v = .b x ∧ k x = some r := by cases v <;> simp [asB]
theorem asS_iff {v : AV} {k : List Nat → Option β} {r : β} : asS v k = some r ↔ ∃ x, v = .s x ∧ k x = some r := by cases v <;> simp [asS]
theorem asP_iff {v : AV} {k : List Bool → Nat → Option β} {r : β} : asP v k = some r ↔ ∃ b o, v = .p b o ∧ k b o = some r := by
  constructor
  · intro e; cases v <;> first | exact ⟨_, _, rfl, e⟩ | cases e
  · rintro ⟨b, o, rfl, e⟩; exact e
theorem asL_iff {v : AV} {kn : Option β} {k : List Bool → Nat → Nat → Nat → Bool → Option β} {r : β} : asL v kn k = some r ↔ (v = .sn ∧ kn = some r) ∨ ∃ b o m c x, v = .sl b o m c x ∧ k b o m c x = some r := by
  constructor
  · intro e; cases v <;> first | exact .inl ⟨rfl, e⟩ | exact .inr ⟨_, _, _, _, _, rfl, e⟩ | cases e
  · rintro (⟨rfl, e⟩ | ⟨b, o, m, c, x, rfl, e⟩) <;> exact e
theorem asM_iff {v : AV} {kn : Option β} {k : List Bool → Option β} {r : β} : asM v kn k = some r ↔ (v = .mn ∧ kn = some r) ∨ ∃ b, v = .m b ∧ k b = some r := by
  constructor
  · intro e; cases v <;> first | exact .inl ⟨rfl, e⟩ | exact .inr ⟨_, rfl, e⟩ | cases e
  · rintro (⟨rfl, e⟩ | ⟨b, rfl, e⟩) <;> exact e
theorem asA_iff {v : AV} {k : List AV → Option β} {r : β} : asA v k = some r ↔ ∃ x, v = .a x ∧ k x = some r := by cases v <;> simp [asA]
theorem asT_iff {v : AV} {k : List AV → Option β} {r : β} : asT v k = some r ↔ ∃ x, v = .t x ∧ k x = some r := by cases v <;> simp [asT]

/-! ### operands -/
def nGlob : Nat := 12
/-- unicode.White_Space, as the library's contract asks for it -/
def White (w : World) : Prop :=
  ∃ T oT R oR : Nat, w.cell? ⟨3, 0, none⟩ = some (.pointer (some ⟨T, oT, none⟩)) ∧ w.cell? ⟨T, oT, none⟩ = some (.slice (some ⟨R, oR, none⟩) 7 7) ∧
    w.cell? ⟨T, oT + 1, none⟩ = some (.slice none 0 0) ∧ w.cell? ⟨T, oT + 2, none⟩ = some (.int .i64 2) ∧ ∀ i, i < 21 → w.cell? ⟨R, oR + i, none⟩ = some (.int .u16 (Lib.whiteT.getD i 0))
/-- the package's variables; what the blocks that stay tell: unicode.White_Space -/
structure GL (φ : Phi) : Prop where
  glob : ∀ g, g < nGlob → φ (path g) = some g
  white : ∀ w : World, (∀ q ∈ φ.fix, w.heap[q.1]? = some q.2) → White w
theorem GL.sub (s : Sub φ φ') (g : GL φ) : GL φ' := ⟨fun i hi => s.at' _ _ (g.glob i hi), fun w hw => g.white w (by rw [← s.fix]; exact hw)⟩

theorem eval_ok {x : Operand} {y : Opd} {v : AV} (hx : chkX x y = true) (ht : TM φ N t a.tmps) (hg : GL φ) (e : ev t y = some v) : VR φ v (a.eval x) := by
  match x, y with
  | .tmp i, .t p =>
    have hp := chkP_eq (by simpa [chkX] using hx)
    subst hp
    obtain ⟨v', h1, h2⟩ := ht.tm i v e
    have : a.eval (.tmp i) = v' := by simp [Act.eval, Array.getD_eq_getD_getElem?, h1]
    rw [this]; exact h2
  | .const u, .c c =>
    cases e
    show VR φ v u
    exact chkV_ok φ (by simpa [chkX] using hx)
  | .func f, .c (.f g [] []) =>
    cases e
    have : f = g := by simpa [chkX] using hx
    subst this
    exact .f f [] [] #[] #[] .nil .nil
  | .global g, .c (.p b o) =>
    cases e
    simp only [chkX, Bool.and_eq_true, beq_iff_eq, decide_eq_true_eq] at hx
    obtain ⟨⟨h1, h3⟩, h2⟩ := hx
    subst h2
    have hp := chkP_eq h1
    subst hp
    exact .p _ 0 g (hg.glob g h3)
theorem evals_ok : ∀ {xs : List Operand} {ys : List Opd} {vs : List AV}, chkXs xs ys = true → TM φ N t a.tmps → GL φ → obl (ev t) ys = some vs → VRs φ vs (xs.map a.eval)
  | [], [], vs, _, _, _, e => by cases e; exact .nil
  | x :: xs, y :: ys, vs, hx, ht, hg, e => by
    simp only [chkXs, Bool.and_eq_true] at hx
    rw [obl_cons] at e
    obtain ⟨v, e1, e⟩ := ob_iff.1 e
    obtain ⟨us, e2, e⟩ := ob_iff.1 e
    cases e
    exact .cons _ _ _ _ (eval_ok hx.1 ht hg e1) (evals_ok hx.2 ht hg e2)

/-! ### what is shown of an operation -/
def Nx : Next → Value → Prop
  | .value v, u => v = u
  | .skip, u => u = undef
  | _, _ => False
/-- the model's operation comes to what the reading says -/
def OpOk (P : Program) (cr : Nat → AC → Code → Prop) (φ : Phi) (h : Hp) (n : List Bool) (w : World) (s : Sem Next) (v : AV) (h' : Hp) (n' : List Bool) : Prop :=
  ∃ x v' φ' w', s.run P w = .ok x w' ∧ Nx x v' ∧ VR φ' v v' ∧ St cr φ h n w φ' h' n' w'
theorem OpOk.pure {s : Sem Next} {v : AV} {v' : Value} {h : Hp} (r : WR cr φ h w) (f : Fresh φ n) (e : s.run P w = .ok (.value v') w) (hv : VR φ v v') : OpOk P cr φ h n w s v h n :=
  ⟨.value v', v', φ, w, e, rfl, hv, St.refl r f⟩

/-! ### numbers -/
theorem sub_eq (a b : Nat) : Int.subNatNat a b = (a : Int) - b := Int.subNatNat_eq_coe
theorem wrapN_eq (k : IntKind) (r : Nat) (hr : r < 2 ^ k.bits) : (@Bool.rec (fun _ => Int) (Int.subNatNat r (Nat.pow 2 (kbits k))) (Int.ofNat r) (Nat.ble r (kmax k))) = if (k.signed && decide ((r : Int) ≥ 2 ^ (k.bits - 1))) = true then (r : Int) - 2 ^ k.bits else r := by
  rw [bool_rec, sub_eq]
  by_cases hc : r ≤ kmax k
  · rw [if_pos (by rw [Nat.ble_eq]; exact hc), if_neg]
    · rfl
    · intro e
      simp only [Bool.and_eq_true, decide_eq_true_eq] at e
      obtain ⟨e1, e2⟩ := e
      cases k <;> simp_all [kmax, IntKind.bits, IntKind.signed] <;> omega
  · rw [if_neg (fun e => hc (by rw [Nat.ble_eq] at e; exact e)), if_pos]
    · cases k <;> rfl
    · simp only [Bool.and_eq_true, decide_eq_true_eq]
      cases k <;> simp_all [kmax, IntKind.bits, IntKind.signed] <;> omega
theorem inR_wrap (k : IntKind) (m : Int) (hr : inR k m = true) : k.wrap m = m := by
  have h : -(kmin k : Int) ≤ m ∧ m ≤ kmax k := by
    rcases m with m | m
    · have h1 : m ≤ kmax k := Nat.le_of_ble_eq_true hr
      constructor
      · show -(kmin k : Int) ≤ (m : Int); omega
      · show (m : Int) ≤ _; omega
    · have h1 : m + 1 ≤ kmin k := Nat.le_of_ble_eq_true hr
      omega
  obtain ⟨h1, h2⟩ := h
  unfold IntKind.wrap
  by_cases c : (k.signed && decide (m % 2 ^ k.bits ≥ (2 ^ (k.bits - 1) : Int))) = true
  · simp only [if_pos c]
    simp only [Bool.and_eq_true, decide_eq_true_eq] at c
    cases k <;> simp only [kmin, kmax, IntKind.bits, IntKind.signed, Nat.reduceSub, Int.reducePow, Bool.false_eq_true, false_and] at h1 h2 c ⊢ <;> omega
  · simp only [if_neg c]
    simp only [Bool.and_eq_true, decide_eq_true_eq, not_and] at c
    cases k <;> simp only [kmin, kmax, IntKind.bits, IntKind.signed, Nat.reduceSub, Int.reducePow, Bool.false_eq_true, false_implies, true_implies] at h1 h2 c ⊢ <;> omega
theorem wrapS_eq (k : IntKind) (m : Int) : wrapS k m = k.wrap m := by
  have hb : Nat.pow 2 (kbits k) = 2 ^ k.bits := by cases k <;> rfl
  have hp : 0 < 2 ^ k.bits := Nat.pos_of_ne_zero (by cases k <;> decide)
  unfold wrapS
  rw [bool_rec]
  split
  · rename_i hr; exact (inR_wrap k m hr).symm
  · rcases m with m | m
    · show (fun r => @Bool.rec (fun _ => Int) (Int.subNatNat r (Nat.pow 2 (kbits k))) (Int.ofNat r) (Nat.ble r (kmax k))) (m % (Nat.pow 2 (kbits k))) = _
      simp only []
      rw [hb, ← hb, wrapN_eq k _ (by rw [hb]; exact Nat.mod_lt _ hp), hb]
      have e : ((m % 2 ^ k.bits : Nat) : Int) = Int.ofNat m % 2 ^ k.bits := by simp
      unfold IntKind.wrap
      rw [e]
    · show (fun r => @Bool.rec (fun _ => Int) (Int.subNatNat r (Nat.pow 2 (kbits k))) (Int.ofNat r) (Nat.ble r (kmax k))) (Nat.pow 2 (kbits k) - 1 - m % (Nat.pow 2 (kbits k))) = _
      simp only []
      rw [wrapN_eq k _ (by rw [hb]; omega), hb]
      have h1 : m % 2 ^ k.bits < 2 ^ k.bits := Nat.mod_lt _ hp
      have e : ((2 ^ k.bits - 1 - m % 2 ^ k.bits : Nat) : Int) = Int.negSucc m % 2 ^ k.bits := by
        have h2 : Int.negSucc m % 2 ^ k.bits = Int.subNatNat (2 ^ k.bits) (Nat.succ (m % 2 ^ k.bits)) := by
          have : ((2 : Int) ^ k.bits) = Int.ofNat (2 ^ k.bits) := by simp
          rw [this]; rfl
        rw [h2, sub_eq]; omega
      unfold IntKind.wrap
      rw [e]
theorem mkI_eq (k : IntKind) (m : Int) : mkI k m = some (.i k (k.wrap m)) := by unfold mkI; rw [forceI_eq, wrapS_eq]
theorem mkB_eq (b : Bool) : mkB b = some (.b b) := by unfold mkB; rw [forceB_eq]
theorem mkN_eq (m : Nat) : mkN m = some (.i .i64 m) := by unfold mkN; rw [forceN_eq]; rfl
end Go.Ev
end
section
namespace Go.Ev
open Go.RowKit
open Tr (path)
variable {P : Program} {β : Type} {o : Oper}

theorem r1_iff {v u : AV} {h h' : Tr AO} {n n' : List Bool} : r1 v h n = some ⟨u, h', n'⟩ ↔ v = u ∧ h = h' ∧ n = n' := by simp [r1]
theorem r1o_iff {v : Option AV} {u : AV} {h h' : Tr AO} {n n' : List Bool} : r1o v h n = some ⟨u, h', n'⟩ ↔ v = some u ∧ h = h' ∧ n = n' := by
  unfold r1o; rw [ob_iff]; constructor
  · rintro ⟨a, rfl, e⟩; cases e; exact ⟨rfl, rfl, rfl⟩
  · rintro ⟨rfl, rfl, rfl⟩; exact ⟨u, rfl, rfl⟩

/-- an operation that looks at no memory comes to a value, in every world -/
def SoundV (P : Program) (o : Oper) (x : AOp) : Prop :=
  ∀ {φ : Phi} {N : Nat} {t : Tr AV} {a : Act} {cl : Cl} {clv : Clv} {h : Tr AO} {n : List Bool} {v : AV} {h' : Tr AO} {n' : List Bool},
    TM φ N t a.tmps → GL φ → exec cl clv t h n x = some ⟨v, h', n'⟩ → h = h' ∧ n = n' ∧ ∃ v', VR φ v v' ∧ ∀ w, (execOp a.eval o).run P w = .ok (.value v') w

theorem sv_move {x : Operand} {y : Opd} (ho : o.op = .move x) (hx : chkX x y = true) : SoundV P o (.mv y) := by
  intro φ N t a cl clv h n v h' n' ht hg e
  have e : r1o (ev t y) h n = some ⟨v, h', n'⟩ := e
  obtain ⟨e1, rfl, rfl⟩ := r1o_iff.1 e
  exact ⟨rfl, rfl, _, eval_ok hx ht hg e1, fun w => by simp [execOp, ho]⟩
theorem sv_assign {x : Operand} {y : Opd} (ho : o.op = .assign x) (hx : chkX x y = true) : SoundV P o (.mv y) := by
  intro φ N t a cl clv h n v h' n' ht hg e
  have e : r1o (ev t y) h n = some ⟨v, h', n'⟩ := e
  obtain ⟨e1, rfl, rfl⟩ := r1o_iff.1 e
  exact ⟨rfl, rfl, _, eval_ok hx ht hg e1, fun w => by simp [execOp, ho]⟩
theorem sv_pick {c x y : Operand} {c' x' y' : Opd} (ho : o.op = .pick c x y) (hc : chkX c c' = true) (hx : chkX x x' = true) (hy : chkX y y' = true) : SoundV P o (.pick c' x' y') := by
  intro φ N t a cl clv h n v h' n' ht hg e
  have e : ob (ev t c') (fun c => asB c fun b => r1o (@Bool.rec (fun _ => Option AV) (ev t y') (ev t x') b) h n) = some ⟨v, h', n'⟩ := e
  obtain ⟨u, e1, e⟩ := ob_iff.1 e
  obtain ⟨b, rfl, e⟩ := asB_iff.1 e
  obtain ⟨e2, rfl, rfl⟩ := r1o_iff.1 e
  have hb := eval_ok (a := a) hc ht hg e1
  have hb' : a.eval c = .bool b := by generalize a.eval c = q at hb ⊢; cases hb; rfl
  cases b
  · exact ⟨rfl, rfl, _, eval_ok hy ht hg e2, fun w => by simp [execOp, ho, hb', asBool]⟩
  · exact ⟨rfl, rfl, _, eval_ok hx ht hg e2, fun w => by simp [execOp, ho, hb', asBool]⟩

/-! ### numbers -/
theorem vr_i {φ : Phi} {k : IntKind} {m : Int} {v' : Value} (h : VR φ (.i k m) v') : v' = .int k m := by cases h; rfl
theorem vr_b {φ : Phi} {b : Bool} {v' : Value} (h : VR φ (.b b) v') : v' = .bool b := by cases h; rfl
theorem vr_s {φ : Phi} {l : List Nat} {v' : Value} (h : VR φ (.s l) v') : ∃ s, v' = .string s ∧ l = bytesN s := by cases h; exact ⟨_, rfl, rfl⟩
theorem kix_inj {k k' : IntKind} (h : Nat.beq (kix k) (kix k') = true) : k = k' := by
  rw [Nat.beq_eq] at h; cases k <;> cases k' <;> first | rfl | cases h
theorem kIx_inj {k k' : BinK} (h : kIx k = kIx k') : k = k' := by cases k <;> cases k' <;> first | rfl | cases h
theorem mkU_eq (k : IntKind) (m : Int) : mkU k m = some (.i k m) := by unfold mkU; rw [forceI_eq]
theorem nn2_iff {x y : Int} {k : Nat → Nat → Option β} {r : β} : nn2 x y k = some r ↔ ∃ m p : Nat, x = m ∧ y = p ∧ k m p = some r := by
  rcases x with x | x <;> rcases y with y | y
  · constructor
    · intro e; exact ⟨x, y, rfl, rfl, e⟩
    · rintro ⟨m, p, e1, e2, e⟩; cases e1; cases e2; exact e
  all_goals
    constructor
    · intro e; cases e
    · rintro ⟨m, p, e1, e2, e⟩; first | (cases e1; done) | (cases e2; done)
theorem two_kbits (k : IntKind) : Nat.pow 2 (kbits k) = 2 ^ k.bits := by cases k <;> rfl
theorem ubits_eq (k : IntKind) (x : Int) : ubits k x = (BitVec.ofInt k.bits x).toNat := by
  have hp : 0 < 2 ^ k.bits := Nat.pos_of_ne_zero (by cases k <;> decide)
  rw [BitVec.toNat_ofInt]
  have h2 : ((2 ^ k.bits : Nat) : Int) = (2 : Int) ^ k.bits := by simp
  rcases x with m | m
  · show m % (Nat.pow 2 (kbits k)) = _
    rw [two_kbits]
    have : ((m % 2 ^ k.bits : Nat) : Int) = Int.ofNat m % (2 ^ k.bits : Nat) := by simp
    omega
  · show Nat.pow 2 (kbits k) - 1 - m % (Nat.pow 2 (kbits k)) = _
    rw [two_kbits]
    have h1 : m % 2 ^ k.bits < 2 ^ k.bits := Nat.mod_lt _ hp
    have h3 : Int.negSucc m % ((2 ^ k.bits : Nat) : Int) = Int.subNatNat (2 ^ k.bits) (Nat.succ (m % 2 ^ k.bits)) := rfl
    rw [h3, sub_eq]; omega
theorem inv_eq (k : IntKind) (b : BitVec k.bits) : inv k b.toNat = (~~~b).toNat := by
  unfold inv; rw [BitVec.toNat_not]; show Nat.pow 2 (kbits k) - 1 - b.toNat = _; rw [two_kbits]
theorem nmin_eq (a b : Nat) : nmin a b = min a b := by
  unfold nmin; rw [ifb_eq]; split
  · rename_i h; rw [Nat.ble_eq] at h; omega
  · rename_i h; rw [Nat.ble_eq] at h; omega
theorem kbits_eq (k : IntKind) : kbits k = k.bits := by cases k <;> rfl

theorem binI_ok {φ : Phi} {k : BinK} {bo : BinOp} {q : IntKind} {x y : Int} {r : AV} (hb : binK bo = some k) (h1 : k ≠ .shl) (h2 : k ≠ .shr) (e : binI k q x y = some r) (ty : TypeId) :
    ∃ v', VR φ r v' ∧ ∀ w, (binOp bo ty (.int q x) (.int q y)).run P w = .ok v' w := by
  cases bo <;> cases hb <;> first | contradiction | skip
  · have e : mkI q (iadd x y) = some r := e
    rw [iadd_eq, mkI_eq] at e; cases e
    exact ⟨_, .i _ _, fun w => by rw [binOp_add]; rfl⟩
  · have e : mkI q (isub x y) = some r := e
    rw [isub_eq, mkI_eq] at e; cases e
    exact ⟨_, .i _ _, fun w => by rw [binOp_sub]; rfl⟩
  · have e : mkI q (Int.mul x y) = some r := e
    rw [mkI_eq] at e; cases e
    exact ⟨_, .i _ _, fun w => by rw [binOp_mul]; rfl⟩
  · have e : nn2 x y (fun a b => guardB (Nat.ble (nat_lit 1) b) (mkI q (Int.ofNat (Nat.div a b)))) = some r := e
    obtain ⟨a, b, rfl, rfl, e⟩ := nn2_iff.1 e
    obtain ⟨e1, e⟩ := guardB_iff.1 e
    have e1 : 1 ≤ b := by rw [Nat.ble_eq] at e1; exact e1
    rw [mkI_eq] at e; cases e
    refine ⟨_, .i _ _, fun w => ?_⟩
    rw [binOp_quo]; unfold Op.intDiv; rw [if_neg (by omega)]; rfl
  · have e : nn2 x y (fun a b => guardB (Nat.ble (nat_lit 1) b) (mkU q (Int.ofNat (Nat.mod a b)))) = some r := e
    obtain ⟨a, b, rfl, rfl, e⟩ := nn2_iff.1 e
    obtain ⟨e1, e⟩ := guardB_iff.1 e
    have e1 : 1 ≤ b := by rw [Nat.ble_eq] at e1; exact e1
    rw [mkU_eq] at e; cases e
    refine ⟨_, .i _ _, fun w => ?_⟩
    rw [binOp_rem]; unfold Op.intDiv; rw [if_neg (by omega)]; rfl
  · have e : mkI q (Int.ofNat (Nat.land (ubits q x) (ubits q y))) = some r := e
    rw [mkI_eq, ubits_eq, ubits_eq] at e; cases e
    refine ⟨_, .i _ _, fun w => ?_⟩
    rw [binOp_and]; unfold Op.intBits; simp only []; rw [BitVec.toNat_and]; rfl
  · have e : mkI q (Int.ofNat (Nat.lor (ubits q x) (ubits q y))) = some r := e
    rw [mkI_eq, ubits_eq, ubits_eq] at e; cases e
    refine ⟨_, .i _ _, fun w => ?_⟩
    rw [binOp_or]; unfold Op.intBits; simp only []; rw [BitVec.toNat_or]; rfl
  · have e : mkI q (Int.ofNat (Nat.xor (ubits q x) (ubits q y))) = some r := e
    rw [mkI_eq, ubits_eq, ubits_eq] at e; cases e
    refine ⟨_, .i _ _, fun w => ?_⟩
    rw [binOp_xor]; unfold Op.intBits; simp only []; rw [BitVec.toNat_xor]; rfl
  · have e : mkI q (Int.ofNat (Nat.land (ubits q x) (inv q (ubits q y)))) = some r := e
    rw [mkI_eq, ubits_eq, ubits_eq, inv_eq] at e; cases e
    refine ⟨_, .i _ _, fun w => ?_⟩
    rw [binOp_andNot]; unfold Op.intBits; simp only []; rw [BitVec.toNat_and]; rfl
  · have e : mkB (ieq x y) = some r := e
    rw [mkB_eq, ieq_eq] at e; cases e
    exact ⟨_, .b _, fun w => by rw [binOp_eql]; rfl⟩
  · have e : mkB (bnot (ieq x y)) = some r := e
    rw [mkB_eq, bnot_eq, ieq_eq] at e; cases e
    exact ⟨_, .b _, fun w => by rw [binOp_neq]; rfl⟩
  · have e : mkB (ilt x y) = some r := e
    rw [mkB_eq, ilt_eq] at e; cases e
    exact ⟨_, .b _, fun w => by rw [binOp_lss]; rfl⟩
  · have e : mkB (bnot (ilt y x)) = some r := e
    rw [mkB_eq, bnot_eq, ilt_eq] at e; cases e
    refine ⟨_, .b _, fun w => ?_⟩
    have : (!decide (y < x)) = decide (x ≤ y) := by rw [Bool.eq_iff_iff]; simp
    rw [binOp_leq, this]; rfl
  · have e : mkB (ilt y x) = some r := e
    rw [mkB_eq, ilt_eq] at e; cases e
    exact ⟨_, .b _, fun w => by rw [binOp_gtr]; rfl⟩
  · have e : mkB (bnot (ilt x y)) = some r := e
    rw [mkB_eq, bnot_eq, ilt_eq] at e; cases e
    refine ⟨_, .b _, fun w => ?_⟩
    have : (!decide (x < y)) = decide (x ≥ y) := by rw [Bool.eq_iff_iff]; simp
    rw [binOp_geq, this]; rfl
theorem shlI_ok {φ : Phi} {q q' : IntKind} {x y : Int} {r : AV} (e : shlI q x y = some r) (ty : TypeId) : ∃ v', VR φ r v' ∧ ∀ w, (binOp .shl ty (.int q x) (.int q' y)).run P w = .ok v' w := by
  unfold shlI at e
  obtain ⟨a, b, rfl, rfl, e2⟩ := nn2_iff.1 e
  rw [mkI_eq, nmin_eq, kbits_eq] at e2; cases e2
  refine ⟨_, .i _ _, fun w => ?_⟩
  rw [binOp_shl]; unfold Op.shift; rw [if_neg (by omega)]
  show Result.ok _ w = _
  have : ((Nat.shiftLeft a (min b q.bits) : Nat) : Int) = (a : Int) * 2 ^ min b q.bits := by
    show ((a <<< min b q.bits : Nat) : Int) = _
    rw [Nat.shiftLeft_eq]; simp
  rw [show (Int.ofNat (Nat.shiftLeft a (min b q.bits))) = ((Nat.shiftLeft a (min b q.bits) : Nat) : Int) from rfl, this]; rfl
theorem shrI_ok {φ : Phi} {q q' : IntKind} {x y : Int} {r : AV} (e : shrI q x y = some r) (ty : TypeId) : ∃ v', VR φ r v' ∧ ∀ w, (binOp .shr ty (.int q x) (.int q' y)).run P w = .ok v' w := by
  unfold shrI at e
  obtain ⟨b, rfl, e⟩ := nn1_iff.1 e
  rcases x with a | a
  · have e : mkU q (Int.ofNat (Nat.shiftRight a (nmin b (kbits q)))) = some r := e
    rw [mkU_eq, nmin_eq, kbits_eq] at e; cases e
    refine ⟨_, .i _ _, fun w => ?_⟩
    rw [binOp_shr]; unfold Op.shift; rw [if_neg (by omega)]
    show Result.ok _ w = _
    have : (Int.ofNat a).fdiv (2 ^ min b q.bits) = Int.ofNat (Nat.shiftRight a (min b q.bits)) := by
      show _ = ((a >>> min b q.bits : Nat) : Int)
      rw [Nat.shiftRight_eq_div_pow]
      have h2 : (2 : Int) ^ min b q.bits = ((2 ^ min b q.bits : Nat) : Int) := by simp
      rw [h2, Int.fdiv_eq_ediv_of_nonneg _ (Int.natCast_nonneg _)]; rfl
    rw [← this]; rfl
  · have e : mkU q (Int.negSucc (Nat.shiftRight a (nmin b (kbits q)))) = some r := e
    rw [mkU_eq, nmin_eq, kbits_eq] at e; cases e
    refine ⟨_, .i _ _, fun w => ?_⟩
    rw [binOp_shr]; unfold Op.shift; rw [if_neg (by omega)]
    show Result.ok _ w = _
    have hp : 0 < 2 ^ min b q.bits := Nat.pos_of_ne_zero (by simp)
    have : (Int.negSucc a).fdiv (2 ^ min b q.bits) = Int.negSucc (Nat.shiftRight a (min b q.bits)) := by
      show _ = Int.negSucc (a >>> min b q.bits)
      rw [Nat.shiftRight_eq_div_pow]
      have h2 : (2 : Int) ^ min b q.bits = ((2 ^ min b q.bits : Nat) : Int) := by simp
      rw [h2]
      obtain ⟨c, hc⟩ : ∃ c, 2 ^ min b q.bits = c + 1 := ⟨2 ^ min b q.bits - 1, by omega⟩
      rw [hc]; rfl
    rw [← this]; rfl
end Go.Ev
end
section
namespace Go.Ev
open Go.RowKit
open Tr (path)
variable {P : Program} {β : Type} {o : Oper}

/-! ### strings -/
theorem bytesN_length (s : ByteArray) : (bytesN s).length = s.size := by show (s.data.toList.map UInt8.toNat).length = s.data.size; rw [List.length_map, Array.length_toList]
theorem rec_beq {γ : Type} (a b : Nat) (x y : γ) : @Bool.rec (fun _ => γ) x y (Nat.beq a b) = if a = b then y else x := by
  rw [bool_rec]
  by_cases h : a = b
  · rw [if_pos h, if_pos (by rw [Nat.beq_eq]; exact h)]
  · rw [if_neg h, if_neg (by rw [Nat.beq_eq]; exact h)]
theorem rec_ble {γ : Type} (a b : Nat) (x y : γ) : @Bool.rec (fun _ => γ) x y (Nat.ble a b) = if a ≤ b then y else x := by
  rw [bool_rec]
  by_cases h : a ≤ b
  · rw [if_pos h, if_pos (by rw [Nat.ble_eq]; exact h)]
  · rw [if_neg h, if_neg (by rw [Nat.ble_eq]; exact h)]
theorem map_toNat_inj : ∀ {a b : List UInt8}, a.map UInt8.toNat = b.map UInt8.toNat → a = b
  | [], [], _ => rfl
  | [], _ :: _, h => by simp at h
  | _ :: _, [], h => by simp at h
  | a :: as, b :: bs, h => by
    simp only [List.map_cons, List.cons.injEq] at h
    rw [map_toNat_inj h.2, UInt8.toNat_inj.1 h.1]
theorem seq_eq (x : List Nat) : ∀ y, seq x y = (x == y) := by
  induction x with
  | nil => intro y; cases y <;> rfl
  | cons a x ih =>
    intro y
    cases y with
    | nil => rfl
    | cons b y =>
      show @Bool.rec (fun _ => Bool) false (seq x y) (Nat.beq a b) = _
      rw [rec_beq, ih, List.cons_beq_cons]
      by_cases h : a = b
      · subst h; simp
      · rw [if_neg h]; simp [h]
theorem seq_bytes (x y : List UInt8) : seq (x.map UInt8.toNat) (y.map UInt8.toNat) = (x == y) := by
  rw [seq_eq, Bool.eq_iff_iff, beq_iff_eq, beq_iff_eq]
  exact ⟨map_toNat_inj, fun h => by rw [h]⟩
theorem slt_bytes (x : List UInt8) : ∀ y : List UInt8, slt (x.map UInt8.toNat) (y.map UInt8.toNat) = Op.bytesLess x y := by
  induction x with
  | nil => intro y; cases y <;> rfl
  | cons a x ih =>
    intro y
    cases y with
    | nil => rfl
    | cons b y =>
      show @Bool.rec (fun _ => Bool) (@Bool.rec (fun _ => Bool) false (slt (x.map UInt8.toNat) (y.map UInt8.toNat)) (Nat.beq a.toNat b.toNat)) true (Nat.ble (Nat.succ a.toNat) b.toNat) = _
      rw [rec_ble, rec_beq, ih, Op.bytesLess]
      have h1 : (a < b) ↔ a.toNat < b.toNat := UInt8.lt_iff_toNat_lt
      have h2 : (a = b) ↔ a.toNat = b.toNat := UInt8.toNat_inj.symm
      by_cases c : a.toNat < b.toNat
      · rw [if_pos (by omega)]; simp [h1.2 c]
      · rw [if_neg (by omega)]
        have : decide (a < b) = false := by simp [h1]; omega
        rw [this]
        by_cases d : a.toNat = b.toNat
        · rw [if_pos d]; have : (a == b) = true := by simp [h2.2 d]
          rw [this]; simp
        · rw [if_neg d]
          have : (a == b) = false := by
            cases q : (a == b) with
            | false => rfl
            | true => exact absurd (h2.1 (by simpa using q)) d
          rw [this]; simp
theorem bor_eq (a b : Bool) : bor a b = (a || b) := by cases a <;> rfl
theorem binS_ok {φ : Phi} {k : BinK} {bo : BinOp} {x y : ByteArray} {r : AV} (hb : binK bo = some k) (e : binS k (bytesN x) (bytesN y) = some r) (ty : TypeId) :
    ∃ v', VR φ r v' ∧ ∀ w, (binOp bo ty (.string x) (.string y)).run P w = .ok v' w := by
  have hse : seq (bytesN x) (bytesN y) = (x.toList == y.toList) := by rw [ByteArray.toList_eq, ByteArray.toList_eq]; exact seq_bytes _ _
  have hlt : slt (bytesN x) (bytesN y) = Op.bytesLess x.toList y.toList := by rw [ByteArray.toList_eq, ByteArray.toList_eq]; exact slt_bytes _ _
  cases bo <;> cases hb <;> first | (cases e; done) | skip
  · have e : forceL (lapp (bytesN x) (bytesN y)) (fun l => guardB (Nat.ble (llen l) (nat_lit 4611686018427387904)) (some (.s l))) = some r := e
    rw [forceL_eq] at e
    obtain ⟨e1, e⟩ := guardB_iff.1 e
    cases e
    have e1 : (bytesN x ++ bytesN y).length ≤ 4611686018427387904 := by rw [Nat.ble_eq, llen_eq, lapp_eq] at e1; exact e1
    rw [List.length_append, bytesN_length, bytesN_length] at e1
    have : lapp (bytesN x) (bytesN y) = bytesN (x ++ y) := by rw [lapp_eq]; simp [bytesN, ByteArray.data_append]
    rw [this]
    refine ⟨_, .s _, fun w => ?_⟩
    show (Op.stringOp .add x y).run P w = _
    unfold Op.stringOp
    simp only []
    rw [if_neg (by rw [IntKind.max_i64]; omega)]
    rfl
  · have e : mkB (seq (bytesN x) (bytesN y)) = some r := e
    rw [mkB_eq, hse] at e; cases e; exact ⟨_, .b _, fun w => rfl⟩
  · have e : mkB (bnot (seq (bytesN x) (bytesN y))) = some r := e
    rw [mkB_eq, bnot_eq, hse] at e; cases e; exact ⟨_, .b _, fun w => rfl⟩
  · have e : mkB (slt (bytesN x) (bytesN y)) = some r := e
    rw [mkB_eq, hlt] at e; cases e; exact ⟨_, .b _, fun w => rfl⟩
  · have e : mkB (bor (slt (bytesN x) (bytesN y)) (seq (bytesN x) (bytesN y))) = some r := e
    rw [mkB_eq, bor_eq, hlt, hse] at e; cases e; exact ⟨_, .b _, fun w => rfl⟩
  · have e : mkB (bnot (bor (slt (bytesN x) (bytesN y)) (seq (bytesN x) (bytesN y)))) = some r := e
    rw [mkB_eq, bnot_eq, bor_eq, hlt, hse] at e; cases e; exact ⟨_, .b _, fun w => rfl⟩
  · have e : mkB (bnot (slt (bytesN x) (bytesN y))) = some r := e
    rw [mkB_eq, bnot_eq, hlt] at e; cases e; exact ⟨_, .b _, fun w => rfl⟩

theorem run_bin {bo : BinOp} {ty : TypeId} {x y : Operand} {a : Act} {v' : Value} {w : World} (g : (eqGuard bo ty x y (a.eval x) (a.eval y)).run P w = .ok () w) (b : (binOp bo ty (a.eval x) (a.eval y)).run P w = .ok v' w)
    (ho : ∃ q, o.op = .binOp bo ty x y q) : (execOp a.eval o).run P w = .ok (.value v') w := by
  obtain ⟨q, ho⟩ := ho
  simp [execOp, ho, g, b]
theorem sv_bin {bo : BinOp} {ty : TypeId} {x y : Operand} {x' y' : Opd} {k : BinK} (ho : ∃ q, o.op = .binOp bo ty x y q) (hk : (match binK bo with | some k' => kIx k' == kIx k | none => false) = true)
    (hx : chkX x x' = true) (hy : chkX y y' = true) : SoundV P o (.bin k x' y') := by
  have hb : binK bo = some k := by
    cases q : binK bo with
    | none => rw [q] at hk; cases hk
    | some k' => rw [q] at hk; rw [kIx_inj (by simpa using hk : kIx k' = kIx k)]
  intro φ N t a cl clv h n v h' n' ht hg e
  obtain ⟨u1, e1, e⟩ := ob_iff.1 e
  obtain ⟨u2, e2, e⟩ := ob_iff.1 e
  obtain ⟨e3, rfl, rfl⟩ := r1o_iff.1 e
  have hx' := eval_ok hx ht hg e1
  have hy' := eval_ok hy ht hg e2
  clear e
  cases u1 <;> first | (cases e3; done) | skip
  · rename_i q m
    obtain ⟨q', p, rfl, e3⟩ := asI_iff.1 e3
    have hx' := vr_i hx'; have hy' := vr_i hy'
    have hgd : ∀ w, (eqGuard bo ty x y (a.eval x) (a.eval y)).run P w = .ok () w := fun w => by rw [hx', eqGuard_at_int]; rfl
    refine ⟨rfl, rfl, ?_⟩
    by_cases c1 : k = .shl
    · subst c1
      have : bo = .shl := by cases bo <;> first | rfl | cases hb
      subst this
      obtain ⟨v', r1, r2⟩ := shlI_ok (P := P) (φ := φ) (q' := q') (e3 : shlI q m p = some v) ty
      exact ⟨v', r1, fun w => run_bin (hgd w) (by rw [hx', hy']; exact r2 w) ho⟩
    · by_cases c2 : k = .shr
      · subst c2
        have : bo = .shr := by cases bo <;> first | rfl | cases hb
        subst this
        obtain ⟨v', r1, r2⟩ := shrI_ok (P := P) (φ := φ) (q' := q') (e3 : shrI q m p = some v) ty
        exact ⟨v', r1, fun w => run_bin (hgd w) (by rw [hx', hy']; exact r2 w) ho⟩
      · have e4 : guardB (Nat.beq (kix q) (kix q')) (binI k q m p) = some v := by
          cases k <;> first | exact e3 | contradiction
        obtain ⟨hq, e5⟩ := guardB_iff.1 e4
        have hq := kix_inj hq
        subst hq
        obtain ⟨v', r1, r2⟩ := binI_ok (P := P) (φ := φ) hb c1 c2 e5 ty
        exact ⟨v', r1, fun w => run_bin (hgd w) (by rw [hx', hy']; exact r2 w) ho⟩
  · rename_i l
    obtain ⟨l', rfl, e3⟩ := asS_iff.1 e3
    obtain ⟨s, hx2, rfl⟩ := vr_s hx'
    obtain ⟨s', hy2, rfl⟩ := vr_s hy'
    have hgd : ∀ w, (eqGuard bo ty x y (a.eval x) (a.eval y)).run P w = .ok () w := fun w => by rw [hx2, eqGuard_at_string]; rfl
    obtain ⟨v', r1, r2⟩ := binS_ok (P := P) (φ := φ) hb e3 ty
    exact ⟨rfl, rfl, v', r1, fun w => run_bin (hgd w) (by rw [hx2, hy2]; exact r2 w) ho⟩
end Go.Ev
end
section
namespace Go.Ev
open Go.RowKit
open Tr (path)
variable {P : Program} {β : Type} {o : Oper}

/-! ### two bools -/
def eqForm (bo : BinOp) (ty : TypeId) (x y : Value) : Sem Value :=
  match bo with
  | .eql => do pure (.bool (← Op.equal ty x y))
  | _ => do pure (.bool (!(← Op.equal ty x y)))
theorem binOp_eq_of {bo : BinOp} {ty : TypeId} {x y : Value} {neg r : Bool} {w : World} (hn : eqOp neg bo = true) (hs : binOp bo ty x y = eqForm bo ty x y)
    (he : (Op.equal ty x y).run P w = .ok r w) : (binOp bo ty x y).run P w = .ok (.bool (negB neg r)) w := by
  rw [hs]
  cases bo <;> simp only [eqOp] at hn <;> first | (cases hn; done) | skip
  · have : neg = false := by simpa using hn
    subst this
    simp [eqForm, he]; rfl
  · subst hn
    simp [eqForm, he]; cases r <;> rfl
theorem sv_eqB {bo : BinOp} {ty : TypeId} {x y : Operand} {x' y' : Opd} {neg : Bool} (ho : ∃ q, o.op = .binOp bo ty x y q) (hn : eqOp neg bo = true) (ht' : P.underlying ty = some .bool)
    (hx : chkX x x' = true) (hy : chkX y y' = true) : SoundV P o (.eqB neg x' y') := by
  intro φ N t a cl clv h n v h' n' ht hg e
  obtain ⟨u1, e1, e⟩ := ob_iff.1 e
  obtain ⟨u2, e2, e⟩ := ob_iff.1 e
  obtain ⟨b1, rfl, f1⟩ := asB_iff.1 e
  obtain ⟨b2, rfl, f2⟩ := asB_iff.1 f1
  obtain ⟨e3, rfl, rfl⟩ := r1o_iff.1 f2
  have hx' := vr_b (eval_ok hx ht hg e1)
  have hy' := vr_b (eval_ok hy ht hg e2)
  rw [mkB_eq] at e3; cases e3
  refine ⟨rfl, rfl, _, .b _, fun w => run_bin (by rw [hx', eqGuard_at_bool]; rfl) ?_ ho⟩
  rw [hx', hy']
  have hr : (@Bool.rec (fun _ => Bool) (bnot b2) b2 b1) = (b1 == b2) := by cases b1 <;> cases b2 <;> rfl
  rw [hr]
  refine binOp_eq_of hn ?_ (run_equal_bool w ty b1 b2 ht')
  cases bo <;> simp only [eqOp] at hn <;> first | rfl | (cases hn; done)

/-! ### nil -/
section
variable {ty : TypeId} (d : Nat) (w : World)
theorem en_slice {e : TypeId} (h : P.underlying ty = some (.slice e)) (a b : Option Addr) (l c m k : Nat) (hb : (a.isNone || b.isNone) = true) : (Op.equalIn (d + 1) ty (.slice a l c) (.slice b m k)).run P w = .ok (a.isNone == b.isNone) w := by
  cases a <;> cases b <;> first | (cases hb; done) | simp [Op.equalIn, run_underlying h]
theorem en_pointer {e : TypeId} (h : P.underlying ty = some (.pointer e)) (a b : Option Addr) (hb : (a.isNone || b.isNone) = true) : (Op.equalIn (d + 1) ty (.pointer a) (.pointer b)).run P w = .ok (a.isNone == b.isNone) w := by
  cases a <;> cases b <;> first | (cases hb; done) | simp [Op.equalIn, run_underlying h]
theorem en_map {k e : TypeId} (h : P.underlying ty = some (.map k e)) (a b : Option Nat) (hb : (a.isNone || b.isNone) = true) : (Op.equalIn (d + 1) ty (.map a) (.map b)).run P w = .ok (a.isNone == b.isNone) w := by
  cases a <;> cases b <;> first | (cases hb; done) | simp [Op.equalIn, run_underlying h]
theorem en_ff {p r q} (h : P.underlying ty = some (.func p r q)) : (Op.equalIn (d + 1) ty .nilFunc .nilFunc).run P w = .ok true w := by simp [Op.equalIn, run_underlying h]
theorem en_fF {p r q} (h : P.underlying ty = some (.func p r q)) (f : Fn) (x y : Array Value) : (Op.equalIn (d + 1) ty .nilFunc (.func f x y)).run P w = .ok false w := by simp [Op.equalIn, run_underlying h]
theorem en_Ff {p r q} (h : P.underlying ty = some (.func p r q)) (f : Fn) (x y : Array Value) : (Op.equalIn (d + 1) ty (.func f x y) .nilFunc).run P w = .ok false w := by simp [Op.equalIn, run_underlying h]
theorem en_ii {m} (h : P.underlying ty = some (.interface m)) : (Op.equalIn (d + 1) ty .nilIface .nilIface).run P w = .ok true w := by simp [Op.equalIn, run_underlying h]
theorem en_iI {m} (h : P.underlying ty = some (.interface m)) (f : TypeId) (x : Value) : (Op.equalIn (d + 1) ty .nilIface (.iface f x)).run P w = .ok false w := by simp [Op.equalIn, run_underlying h]
theorem en_Ii {m} (h : P.underlying ty = some (.interface m)) (f : TypeId) (x : Value) : (Op.equalIn (d + 1) ty (.iface f x) .nilIface).run P w = .ok false w := by simp [Op.equalIn, run_underlying h]
end
theorem sv_eqN {bo : BinOp} {ty : TypeId} {x y : Operand} {x' y' : Opd} {neg : Bool} {tk : Nat} (ho : ∃ q, o.op = .binOp bo ty x y q) (hn : eqOp neg bo = true) (htk : tkIs tk x y (P.underlying ty) = true)
    (hx : chkX x x' = true) (hy : chkX y y' = true) : SoundV P o (.eqN neg tk x' y') := by
  intro φ N t a cl clv h n v h' n' ht hg e
  obtain ⟨u1, e1, e⟩ := ob_iff.1 e
  obtain ⟨u2, e2, e⟩ := ob_iff.1 e
  obtain ⟨b1, e3, e⟩ := ob_iff.1 e
  obtain ⟨b2, e4, e⟩ := ob_iff.1 e
  have hx' := eval_ok hx ht hg e1
  have hy' := eval_ok hy ht hg e2
  have ev : h = h' ∧ n = n' ∧ v = .b (negB neg (b1 == b2)) ∧ (b1 || b2) = true := by
    cases b1 <;> cases b2
    · cases e
    all_goals
      obtain ⟨e5, rfl, rfl⟩ := r1o_iff.1 e
      rw [mkB_eq] at e5; cases e5
      refine ⟨rfl, rfl, ?_, rfl⟩
      cases neg <;> rfl
  obtain ⟨rfl, rfl, rfl, hb⟩ := ev
  have hne : bo = .eql ∨ bo = .neq := by cases bo <;> simp only [eqOp] at hn <;> first | exact .inl rfl | exact .inr rfl | (cases hn; done)
  have key : (∀ w, (eqGuard bo ty x y (a.eval x) (a.eval y)).run P w = .ok () w) ∧ binOp bo ty (a.eval x) (a.eval y) = eqForm bo ty (a.eval x) (a.eval y) ∧ ∀ w, (Op.equalIn (9999 + 1) ty (a.eval x) (a.eval y)).run P w = .ok (b1 == b2) w := by
    have hgd : ∀ p q : Operand, (isC p || isC q) = true → ∀ w, (eqGuard bo ty p q .nilIface .nilIface).run P w = .ok () w := by
      intro p q hpq w
      rw [Bool.or_eq_true] at hpq
      rcases hpq with hp | hp
      · cases p <;> first | (cases hp; done) | (rw [eqGuard_nil_constL]; rfl)
      · cases q <;> first | (cases hp; done) | (rw [eqGuard_nil_constR]; rfl)
    generalize a.eval x = p at hx' ⊢
    generalize a.eval y = q at hy' ⊢
    generalize (9999 : Nat) = d
    unfold tkIs at htk
    split at htk
    · rename_i el hty
      have : tk = 2 := by simpa using htk
      subst this
      cases hx' <;> (first | (cases e3; done) | skip) <;> cases hy' <;> (first | (cases e4; done) | skip) <;> cases e3 <;> cases e4
      all_goals first | (cases hb; done) | skip
      all_goals exact ⟨fun w => by rw [eqGuard_at_slice]; rfl, by rcases hne with rfl | rfl <;> rfl, fun w => en_slice d w hty _ _ _ _ _ _ rfl⟩
    · rename_i el hty
      have : tk = 3 := by simpa using htk
      subst this
      cases hx' <;> (first | (cases e3; done) | skip) <;> cases hy' <;> (first | (cases e4; done) | skip) <;> cases e3 <;> cases e4
      all_goals first | (cases hb; done) | skip
      all_goals exact ⟨fun w => by rw [eqGuard_at_pointer]; rfl, by rcases hne with rfl | rfl <;> rfl, fun w => en_pointer d w hty _ _ rfl⟩
    · rename_i el1 el2 hty
      have : tk = 4 := by simpa using htk
      subst this
      cases hx' <;> (first | (cases e3; done) | skip) <;> cases hy' <;> (first | (cases e4; done) | skip) <;> cases e3 <;> cases e4
      all_goals first | (cases hb; done) | skip
      all_goals exact ⟨fun w => by rw [eqGuard_at_map]; rfl, by rcases hne with rfl | rfl <;> rfl, fun w => en_map d w hty _ _ rfl⟩
    · rename_i p1 p2 p3 hty
      have : tk = 5 := by simpa using htk
      subst this
      cases hx' <;> (first | (cases e3; done) | skip) <;> cases hy' <;> (first | (cases e4; done) | skip) <;> cases e3 <;> cases e4
      all_goals first | (cases hb; done) | skip
      all_goals refine ⟨fun w => by first | (rw [eqGuard_at_nilFunc]; rfl) | (rw [eqGuard_at_func]; rfl), by rcases hne with rfl | rfl <;> rfl, fun w => ?_⟩
      all_goals first | exact en_ff d w hty | exact en_fF d w hty _ _ _ | exact en_Ff d w hty _ _ _
    · rename_i p1 hty
      rw [Bool.and_eq_true] at htk
      have : tk = 6 := by simpa using htk.1
      subst this
      cases hx' <;> (first | (cases e3; done) | skip) <;> cases hy' <;> (first | (cases e4; done) | skip) <;> cases e3 <;> cases e4
      all_goals first | (cases hb; done) | skip
      all_goals refine ⟨fun w => by first | exact hgd _ _ htk.2 w | (rw [eqGuard_nil_iface]; rfl) | (rw [eqGuard_at_iface]; rfl), by rcases hne with rfl | rfl <;> rfl, fun w => ?_⟩
      all_goals first | exact en_ii d w hty | exact en_iI d w hty _ _ | exact en_Ii d w hty _ _
    · cases htk
  exact ⟨rfl, rfl, _, .b _, fun w => run_bin (key.1 w) (binOp_eq_of hn key.2.1 (key.2.2 w)) ho⟩
end Go.Ev
end
section
namespace Go.Ev
open Go.RowKit
open Tr (path)
variable {P : Program} {β : Type} {o : Oper}

/-! ### structs of plain data -/
theorem kixD_eq (k : IntKind) : plainT.kixD k = kix k := by cases k <;> rfl
theorem kc1_i (k : IntKind) (m : Int) : kc1 (.i k m) = kix k := rfl
theorem kcs_nil : kcs [] = 16 := rfl
theorem kcs_cons (v : AV) (l : List AV) : kcs (v :: l) = kcs l * 16 + kc1 v := by show forceN (kcs l) (fun r => Nat.add (Nat.mul r (nat_lit 16)) (kc1 v)) = _; rw [forceN_eq]; rfl
theorem kix_lt (k : IntKind) : kix k < 8 := by cases k <;> decide
theorem kc1_lt (v : AV) : kc1 v < 16 := by cases v <;> first | exact Nat.lt_of_lt_of_le (kix_lt _) (by decide) | exact (by decide : (8 : Nat) < 16) | exact (by decide : (9 : Nat) < 16) | exact (by decide : (15 : Nat) < 16)
theorem plainT_lt {t : TypeId} {k : Nat} (h : plainT P t = some k) : k < 16 ∧ k ≠ 15 := by
  unfold plainT at h
  split at h
  · split at h
    · split at h
      · cases h; decide
      · cases h; rw [kixD_eq]; have := kix_lt ‹_›; omega
      · cases h; decide
      · cases h
    · cases h
  · cases h
theorem plain_part {t : TypeId} {k : Nat} (h : plainT P t = some k) (cs : Array Value) (off : Nat) (v : Value) (hv : cs[off]? = some v) (w : World) : (part t cs off).run P w = .ok v w := by
  have hu : ∃ d, P.underlying t = some d ∧ (∀ f, d ≠ .struct f) ∧ ∀ n e, d ≠ .array n e := by
    unfold plainT at h
    split at h
    · split at h
      · split at h
        all_goals first | (cases h; done) | (refine ⟨_, ‹_›, ?_, ?_⟩ <;> intros <;> intro q <;> cases q)
      · cases h
    · cases h
  obtain ⟨d, hd, h1, h2⟩ := hu
  have : (isAgg t).run P w = .ok false w := by
    simp only [isAgg, Sem.run_bind, run_underlying hd, Result.andThen_ok]
    cases d <;> first | exact absurd rfl (h1 _) | exact absurd rfl (h2 _ _) | rfl
  simp only [part, Sem.run_bind, this, Result.andThen_ok, Bool.false_eq_true, if_false, hv]
  rfl
theorem eq1_ok {φ : Phi} {t : TypeId} {k : Nat} (h : plainT P t = some k) {x y : AV} {x' y' : Value} {r : Bool} (hx : VR φ x x') (hy : VR φ y y') (kx : kc1 x = k) (e : eq1 x y = some r) (d : Nat) (w : World) : (Op.equalIn (d + 1) t x' y').run P w = .ok r w := by
  have hk := (plainT_lt h).2
  cases hx <;> first | (cases e; done) | skip
  · rename_i b
    obtain ⟨c, rfl, e2⟩ := asB_iff.1 e
    cases e2
    have hy' := vr_b hy; subst hy'
    have hr : (@Bool.rec (fun _ => Bool) (bnot c) c b) = (b == c) := by cases b <;> cases c <;> rfl
    rw [hr]
    refine run_equalIn_bool' w d t b c ?_
    have kx : 8 = k := kx
    subst kx
    unfold plainT at h
    split at h
    · split at h
      · split at h
        · assumption
        · cases ‹IntKind› <;> cases h
        · cases h
        · cases h
      · cases h
    · cases h
  · rename_i q m
    obtain ⟨q', p, rfl, e2⟩ := asI_iff.1 e
    obtain ⟨e3, e4⟩ := guardB_iff.1 e2
    have := kix_inj e3; subst this
    cases e4
    have hy' := vr_i hy; subst hy'
    rw [ieq_eq]
    have kx : kix q = k := kx
    subst kx
    have : ∃ k', P.underlying t = some (.int k') := by
      unfold plainT at h
      split at h
      · split at h
        · split at h
          · have := kix_lt q; have h := Option.some.inj h; omega
          · exact ⟨_, ‹_›⟩
          · have := kix_lt q; have h := Option.some.inj h; omega
          · cases h
        · cases h
      · cases h
    obtain ⟨k', hk'⟩ := this
    exact run_equalIn_int w d t q k' m p hk'
  · rename_i s
    obtain ⟨l, rfl, e2⟩ := asS_iff.1 e
    cases e2
    obtain ⟨s', rfl, rfl⟩ := vr_s hy
    have hse : seq (bytesN s) (bytesN s') = (s.toList == s'.toList) := by rw [ByteArray.toList_eq, ByteArray.toList_eq]; exact seq_bytes _ _
    rw [hse]
    refine run_equalIn_string w d t s s' ?_
    have kx : 9 = k := kx
    subst kx
    unfold plainT at h
    split at h
    · split at h
      · split at h
        · cases h
        · cases ‹IntKind› <;> cases h
        · assumption
        · cases h
      · cases h
    · cases h
theorem eqFields_ok {φ : Phi} (d : Nat) (xs ys : Array Value) (w : World) : ∀ (fs : List Field) (j kc : Nat) (a b : List AV) (r : Bool), plainFs P j fs = some kc → VRs φ a (xs.toList.drop j) → VRs φ b (ys.toList.drop j) → kcs a = kc → eqs a b = some r →
    (Op.eqFields (d + 1) xs ys fs).run P w = .ok r w := by
  intro fs
  induction fs with
  | nil =>
    intro j kc a b r hp ha hb hk e
    cases hp
    cases a with
    | cons v a => rw [kcs_cons] at hk; have := kc1_lt v; exfalso; have hpos : ∀ l : List AV, 16 ≤ kcs l := fun l => by
                    induction l with
                    | nil => exact Nat.le_refl _
                    | cons v l ih => rw [kcs_cons]; omega
                  have := hpos a; omega
    | nil =>
      cases b with
      | nil => cases e; rfl
      | cons v b => cases e
  | cons f fs ih =>
    intro j kc a b r hp ha hb hk e
    unfold plainFs at hp
    split at hp
    · rename_i hf
      split at hp
      · rename_i r' k hr hk'
        cases hp
        simp only [Bool.and_eq_true, beq_iff_eq, bne_iff_ne, ne_eq] at hf
        have hlt := (plainT_lt hk').1
        cases a with
        | nil => rw [kcs_nil] at hk; have hpos : ∀ (fs : List Field) (j r : Nat), plainFs P j fs = some r → 16 ≤ r := fun fs => by
                    induction fs with
                    | nil => intro j r e; cases e; exact Nat.le_refl _
                    | cons f fs ih =>
                      intro j r e
                      unfold plainFs at e
                      split at e
                      · split at e
                        · cases e; have := ih _ _ ‹_›; omega
                        · cases e
                      · cases e
                 have := hpos _ _ _ hr; omega
        | cons u a =>
          cases b with
          | nil => cases e
          | cons v b =>
            rw [kcs_cons] at hk
            have hul := kc1_lt u
            have hk1 : kcs a = r' := by omega
            have hk2 : kc1 u = k := by omega
            have e : ob (eq1 u v) (fun r => @Bool.rec (fun _ => Option Bool) (some false) (eqs a b) r) = some r := e
            obtain ⟨c, e1, e2⟩ := ob_iff.1 e
            have gx : ∃ u', xs[f.offset]? = some u' ∧ VR φ u u' ∧ VRs φ a (xs.toList.drop (j + 1)) := by
              cases hx : xs.toList.drop j with
              | nil => rw [hx] at ha; cases ha
              | cons u' rest =>
                rw [hx] at ha
                cases ha with
                | cons _ _ _ _ h1 h2 =>
                refine ⟨u', ?_, h1, ?_⟩
                · rw [hf.1, ← Array.getElem?_toList]
                  have := List.getElem?_drop (xs := xs.toList) (i := j) (j := 0)
                  rw [hx] at this; simpa using this.symm
                · have := List.drop_drop (i := 1) (j := j) (l := xs.toList)
                  rw [hx] at this; simp at this; rw [← this]; exact h2
            have gy : ∃ u', ys[f.offset]? = some u' ∧ VR φ v u' ∧ VRs φ b (ys.toList.drop (j + 1)) := by
              cases hx : ys.toList.drop j with
              | nil => rw [hx] at hb; cases hb
              | cons u' rest =>
                rw [hx] at hb
                cases hb with
                | cons _ _ _ _ h1 h2 =>
                refine ⟨u', ?_, h1, ?_⟩
                · rw [hf.1, ← Array.getElem?_toList]
                  have := List.getElem?_drop (xs := ys.toList) (i := j) (j := 0)
                  rw [hx] at this; simpa using this.symm
                · have := List.drop_drop (i := 1) (j := j) (l := ys.toList)
                  rw [hx] at this; simp at this; rw [← this]; exact h2
            obtain ⟨u', hu1, hu2, hu3⟩ := gx
            obtain ⟨v', hv1, hv2, hv3⟩ := gy
            unfold Op.eqFields
            rw [if_pos hf.2]
            simp only [Sem.run_bind, plain_part hk' _ _ _ hu1, plain_part hk' _ _ _ hv1, Result.andThen_ok, eq1_ok hk' hu2 hv2 hk2 e1 d w]
            cases c
            · cases e2; simp
            · simp only [Bool.not_true, Bool.false_eq_true, if_false]
              exact ih _ _ _ _ _ hr hu3 hv3 hk1 e2
      · cases hp
    · cases hp
theorem vr_a {φ : Phi} {l : List AV} {v' : Value} (h : VR φ (.a l) v') : ∃ cs, v' = .agg cs ∧ VRs φ l cs.toList ∧ l.all one = true := by cases h; exact ⟨_, rfl, ‹_›, ‹_›⟩
theorem vr_t {φ : Phi} {l : List AV} {v' : Value} (h : VR φ (.t l) v') : ∃ cs, v' = .tuple cs ∧ VRs φ l cs.toList := by cases h; exact ⟨_, rfl, ‹_›⟩
theorem eqA_run {φ : Phi} {ty : TypeId} {kc : Nat} (hp : plainS P ty = some kc) {a b : List AV} {x y : Array Value} (ha : VRs φ a x.toList) (hb : VRs φ b y.toList) (hk : kcs a = kc) {r : Bool} (e : eqs a b = some r) (d : Nat) (w : World) :
    (Op.equalIn (d + 1 + 1) ty (.agg x) (.agg y)).run P w = .ok r w ∧ P.eqGuardType P.depth ty = false ∧ P.stoodInHeld ty = false := by
  unfold plainS at hp
  split at hp
  · rename_i fs hty
    split at hp
    · rename_i hc
      simp only [Bool.and_eq_true, Bool.not_eq_true'] at hc
      have hf : P.fieldsOf ty = fs := by unfold Program.fieldsOf; rw [hty]
      refine ⟨?_, hc.2, hc.1⟩
      rw [run_equalIn_struct w (d + 1) ty x y (by rw [hf]; exact hty) hc.1, hf]
      exact eqFields_ok d x y w fs.toList 0 kc a b r hp (by simpa using ha) (by simpa using hb) hk e
    · cases hp
  · cases hp
theorem plainT_info {t : TypeId} {k : Nat} (h : plainT P t = some k) : ∃ i, P.info? t = some i ∧ i.size = 1 := by
  unfold plainT at h
  split at h
  · split at h
    · rename_i i hi hs
      exact ⟨i, hi, by simpa using hs⟩
    · cases h
  · cases h
theorem repK_pos (n k : Nat) : 16 ≤ repK n k := by
  induction n with
  | zero => exact Nat.le_refl _
  | succ n ih => unfold repK; omega
theorem eqItems_ok {φ : Phi} (d : Nat) {t : TypeId} {k : Nat} (ht : plainT P t = some k) (xs ys : Array Value) (w : World) : ∀ (m j : Nat) (a b : List AV) (r : Bool), VRs φ a (xs.toList.drop j) → VRs φ b (ys.toList.drop j) → kcs a = repK m k → eqs a b = some r →
    (Op.eqItems (d + 1) t 1 xs ys (List.range' j m)).run P w = .ok r w := by
  have hkl := (plainT_lt ht).1
  intro m
  induction m with
  | zero =>
    intro j a b r ha hb hk e
    cases a with
    | cons v a => rw [kcs_cons] at hk; have := kc1_lt v; exfalso; have hpos : ∀ l : List AV, 16 ≤ kcs l := fun l => by
                    induction l with
                    | nil => exact Nat.le_refl _
                    | cons v l ih => rw [kcs_cons]; omega
                  have := hpos a; unfold repK at hk; omega
    | nil =>
      cases b with
      | nil => cases e; rfl
      | cons v b => cases e
  | succ m ih =>
    intro j a b r ha hb hk e
    unfold repK at hk
    cases a with
    | nil => rw [kcs_nil] at hk; have := repK_pos m k; omega
    | cons u a =>
      cases b with
      | nil => cases e
      | cons v b =>
        rw [kcs_cons] at hk
        have hul := kc1_lt u
        have hk1 : kcs a = repK m k := by omega
        have hk2 : kc1 u = k := by omega
        have e : ob (eq1 u v) (fun r => @Bool.rec (fun _ => Option Bool) (some false) (eqs a b) r) = some r := e
        obtain ⟨c, e1, e2⟩ := ob_iff.1 e
        have g : ∀ (zs : Array Value) {u : AV} {a : List AV}, VRs φ (u :: a) (zs.toList.drop j) → ∃ u', zs[j * 1]? = some u' ∧ VR φ u u' ∧ VRs φ a (zs.toList.drop (j + 1)) := by
          intro zs u a ha
          cases hx : zs.toList.drop j with
          | nil => rw [hx] at ha; cases ha
          | cons u' rest =>
            rw [hx] at ha
            cases ha with
            | cons _ _ _ _ h1 h2 =>
            refine ⟨u', ?_, h1, ?_⟩
            · rw [Nat.mul_one, ← Array.getElem?_toList]
              have := List.getElem?_drop (xs := zs.toList) (i := j) (j := 0)
              rw [hx] at this; simpa using this.symm
            · have := List.drop_drop (i := 1) (j := j) (l := zs.toList)
              rw [hx] at this; simp at this; rw [← this]; exact h2
        obtain ⟨u', hu1, hu2, hu3⟩ := g xs ha
        obtain ⟨v', hv1, hv2, hv3⟩ := g ys hb
        rw [List.range'_succ]
        unfold Op.eqItems
        simp only [Sem.run_bind, plain_part ht _ _ _ hu1, plain_part ht _ _ _ hv1, Result.andThen_ok, eq1_ok ht hu2 hv2 hk2 e1 d w]
        cases c
        · cases e2; simp
        · simp only [Bool.not_true, Bool.false_eq_true, if_false]
          exact ih _ _ _ _ hu3 hv3 hk1 e2
theorem eqE_run {φ : Phi} {ty : TypeId} {kc : Nat} (hp : plainE P ty = some kc) {a b : List AV} {x y : Array Value} (ha : VRs φ a x.toList) (hb : VRs φ b y.toList) (hk : kcs a = kc) {r : Bool} (e : eqs a b = some r) (d : Nat) (w : World) :
    (Op.equalIn (d + 1 + 1) ty (.agg x) (.agg y)).run P w = .ok r w ∧ P.eqGuardType P.depth ty = false := by
  unfold plainE at hp
  split at hp
  · have hp : plainS P ty = some kc := by rw [← hp]; assumption
    obtain ⟨h1, h2, _⟩ := eqA_run hp ha hb hk e d w
    exact ⟨h1, h2⟩
  · unfold plainA at hp
    split at hp
    · rename_i n el hty
      split at hp
      · rename_i hg
        split at hp
        · rename_i k hk'
          cases hp
          obtain ⟨i, hi, hs⟩ := plainT_info hk'
          refine ⟨?_, by simpa using hg⟩
          rw [run_equalIn_array w (d + 1) x y hty hi]
          have hc : P.cellsOf el = 1 := by simp [Program.cellsOf, hi, hs]
          rw [hc, List.range_eq_range']
          exact eqItems_ok d hk' x y w n 0 a b r (by simpa using ha) (by simpa using hb) hk e
        · cases hp
      · cases hp
    · cases hp
theorem sv_eqA {bo : BinOp} {ty : TypeId} {x y : Operand} {x' y' : Opd} {neg : Bool} {kc : Nat} (ho : ∃ q, o.op = .binOp bo ty x y q) (hn : eqOp neg bo = true) (hp : plainE P ty = some kc)
    (hx : chkX x x' = true) (hy : chkX y y' = true) : SoundV P o (.eqA neg kc x' y') := by
  intro φ N t a cl clv h n v h' n' ht hg e
  obtain ⟨u1, e1, e⟩ := ob_iff.1 e
  obtain ⟨u2, e2, e⟩ := ob_iff.1 e
  obtain ⟨l1, rfl, f1⟩ := asA_iff.1 e
  obtain ⟨l2, rfl, f2⟩ := asA_iff.1 f1
  obtain ⟨k1, f3⟩ := guardB_iff.1 f2
  obtain ⟨_, f4⟩ := guardB_iff.1 f3
  obtain ⟨r, er, f5⟩ := ob_iff.1 f4
  obtain ⟨e3, rfl, rfl⟩ := r1o_iff.1 f5
  rw [mkB_eq] at e3; cases e3
  obtain ⟨c1, hx2, hx3, _⟩ := vr_a (eval_ok hx ht hg e1)
  obtain ⟨c2, hy2, hy3, _⟩ := vr_a (eval_ok hy ht hg e2)
  have k1 : kcs l1 = kc := by rw [Nat.beq_eq] at k1; exact k1
  have key := fun w => eqE_run (P := P) hp hx3 hy3 k1 er 9998 w
  refine ⟨rfl, rfl, _, .b _, fun w => run_bin ?_ ?_ ho⟩
  · rw [hx2, hy2]
    have := (key w).2
    cases bo <;> simp only [eqOp] at hn <;> first | (cases hn; done) | simp [eqGuard, this]
  · rw [hx2, hy2]
    refine binOp_eq_of hn ?_ (key w).1
    cases bo <;> simp only [eqOp] at hn <;> first | rfl | (cases hn; done)

/-! ### one operand -/
theorem sv_not {ty : TypeId} {x : Operand} {x' : Opd} (ho : o.op = .unOp .not ty x) (hx : chkX x x' = true) : SoundV P o (.un 0 x') := by
  intro φ N t a cl clv h n v h' n' ht hg e
  obtain ⟨u1, e1, e⟩ := ob_iff.1 e
  obtain ⟨e3, rfl, rfl⟩ := r1o_iff.1 e
  obtain ⟨b, rfl, e4⟩ := asB_iff.1 e3
  rw [mkB_eq, bnot_eq] at e4; cases e4
  have hx' := vr_b (eval_ok hx ht hg e1)
  exact ⟨rfl, rfl, _, .b _, fun w => by simp [execOp, ho, hx', Op.unary]⟩
theorem sv_neg {ty : TypeId} {x : Operand} {x' : Opd} (ho : o.op = .unOp .neg ty x) (hx : chkX x x' = true) : SoundV P o (.un 1 x') := by
  intro φ N t a cl clv h n v h' n' ht hg e
  obtain ⟨u1, e1, e⟩ := ob_iff.1 e
  obtain ⟨e3, rfl, rfl⟩ := r1o_iff.1 e
  obtain ⟨k, m, rfl, e4⟩ := asI_iff.1 e3
  rw [mkI_eq, isub_eq] at e4; cases e4
  have hx' := vr_i (eval_ok hx ht hg e1)
  exact ⟨rfl, rfl, _, .i _ _, fun w => by simp [execOp, ho, hx', Op.unary, Op.intArith]⟩
theorem sv_inv {ty : TypeId} {x : Operand} {x' : Opd} (ho : o.op = .unOp .xor ty x) (hx : chkX x x' = true) : SoundV P o (.un 2 x') := by
  intro φ N t a cl clv h n v h' n' ht hg e
  obtain ⟨u1, e1, e⟩ := ob_iff.1 e
  obtain ⟨e3, rfl, rfl⟩ := r1o_iff.1 e
  obtain ⟨k, m, rfl, e4⟩ := asI_iff.1 e3
  rw [mkI_eq, ubits_eq, inv_eq] at e4; cases e4
  have hx' := vr_i (eval_ok hx ht hg e1)
  refine ⟨rfl, rfl, _, .i _ _, fun w => ?_⟩
  have hones : BitVec.ofInt k.bits (if k.signed then -1 else k.max) = BitVec.allOnes k.bits := by cases k <;> decide
  simp only [execOp, ho, hx', Op.unary, Op.intBits, hones, BitVec.allOnes_xor]
  rfl
theorem sv_cvI {s d : TypeId} {x : Operand} {x' : Opd} {k : IntKind} (ho : o.op = .convert s d x) (hs : has P s = true) (hd : P.underlying d = some (.int k)) (hx : chkX x x' = true) : SoundV P o (.cvI k x') := by
  intro φ N t a cl clv h n v h' n' ht hg e
  obtain ⟨u1, e1, e⟩ := ob_iff.1 e
  obtain ⟨q, m, rfl, f⟩ := asI_iff.1 e
  obtain ⟨e3, rfl, rfl⟩ := r1o_iff.1 f
  rw [mkI_eq] at e3; cases e3
  have hx' := vr_i (eval_ok hx ht hg e1)
  obtain ⟨sd, hsd⟩ := Option.isSome_iff_exists.1 (hs : (P.underlying s).isSome = true)
  exact ⟨rfl, rfl, _, .i _ _, fun w => by simp [execOp, ho, hx', convert, run_underlying hsd, run_underlying hd, Conv.intToInt]⟩
theorem isStr_eq {t : TypeId} (h : isStr P t = true) : P.underlying t = some .string := by unfold isStr at h; split at h <;> first | assumption | cases h
theorem sv_cvId {s d : TypeId} {x : Operand} {x' : Opd} (ho : o.op = .convert s d x) (hs : has P s = true) (hd : isStr P d = true) (hx : chkX x x' = true) : SoundV P o (.cvId x') := by
  intro φ N t a cl clv h n v h' n' ht hg e
  obtain ⟨u1, e1, e⟩ := ob_iff.1 e
  obtain ⟨l, rfl, f⟩ := asS_iff.1 e
  obtain ⟨rfl, rfl, rfl⟩ := r1_iff.1 f
  have hx' := eval_ok hx ht hg e1
  obtain ⟨st, hx2, rfl⟩ := vr_s hx'
  obtain ⟨sd, hsd⟩ := Option.isSome_iff_exists.1 (hs : (P.underlying s).isSome = true)
  exact ⟨rfl, rfl, _, .s st, fun w => by simp [execOp, ho, hx2, convert, run_underlying hsd, run_underlying (isStr_eq hd)]⟩
theorem sv_iface {ty : TypeId} {x : Operand} {x' : Opd} (ho : o.op = .makeInterface ty x) (hs : (match P.underlying ty with | some (.interface _) | none => false | _ => true) = true) (hx : chkX x x' = true) : SoundV P o (.iface ty x') := by
  intro φ N t a cl clv h n v h' n' ht hg e
  obtain ⟨u1, e1, e⟩ := ob_iff.1 e
  obtain ⟨rfl, rfl, rfl⟩ := r1_iff.1 e
  refine ⟨rfl, rfl, _, .ifc _ _ _ (eval_ok hx ht hg e1), fun w => ?_⟩
  cases hu : P.underlying ty with
  | none => rw [hu] at hs; cases hs
  | some d => rw [hu] at hs; cases d <;> first | (cases hs; done) | simp [execOp, ho, Instr.makeInterface, run_underlying hu]
theorem sv_func {g : FuncId} {xs ys : Array Operand} {xs' ys' : List Opd} (ho : o.op = .makeFunc (.func g) xs ys) (hx : chkXs xs.toList xs' = true) (hy : chkXs ys.toList ys' = true) : SoundV P o (.func g xs' ys') := by
  intro φ N t a cl clv h n v h' n' ht hg e
  obtain ⟨u1, e1, e⟩ := ob_iff.1 e
  obtain ⟨u2, e2, e⟩ := ob_iff.1 e
  obtain ⟨rfl, rfl, rfl⟩ := r1_iff.1 e
  refine ⟨rfl, rfl, .func (.func g) (xs.map a.eval) (ys.map a.eval), ?_, fun w => by simp [execOp, ho, Instr.makeFunc]⟩
  exact .f _ _ _ _ _ (by simpa using evals_ok hx ht hg e1) (by simpa using evals_ok hy ht hg e2)
theorem sv_ext {x : Operand} {x' : Opd} {i : Nat} (ho : o.op = .extract x i) (hx : chkX x x' = true) : SoundV P o (.ext x' i) := by
  intro φ N t a cl clv h n v h' n' ht hg e
  obtain ⟨u1, e1, e⟩ := ob_iff.1 e
  obtain ⟨l, rfl, f⟩ := asT_iff.1 e
  obtain ⟨e3, rfl, rfl⟩ := r1o_iff.1 f
  rw [lget_eq] at e3
  obtain ⟨cs, hx2, hcs⟩ := vr_t (eval_ok hx ht hg e1)
  obtain ⟨v', h1, h2⟩ := hcs.get i v e3
  have h3 : cs[i]? = some v' := by rw [← h1]; simp
  exact ⟨rfl, rfl, v', h2, fun w => by simp [execOp, ho, hx2, Instr.extract, h3]⟩
end Go.Ev
end
