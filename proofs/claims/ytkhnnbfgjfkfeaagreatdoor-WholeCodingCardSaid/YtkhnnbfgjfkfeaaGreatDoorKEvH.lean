/- A call through the handler keeps what it may not touch: the contract of answers() from the plain model. Conditions: the tables of the handler are laid as the condition of the row says. -/
import Derived.Test.YtkhnnbfgjfkfeaaGreatDoorKEvF
import Derived.Test.YtkhnnbfgjfkfeaaGreatDoorKEvG
import Derived.KernelRfl
import Derived.Shelf.Unicode.IsSpaceAny
import Derived.Test.YtkhnnbfgjfkfeaaGreatDoorProg
import Derived.Lib.LaidU8
import Derived.Test.YtkhnnbfgjfkfeaaGreatDoorRows
import Derived.Lib.LaidU8T
section
namespace Go.Ev
open Go.Proofs
open Tr (path)
def chkEnt (P : Program) (D : DrChk) (g : Nat) : AFn → Bool
  | .go ps rs c => chkGo P D g ps rs c
  | _ => true
theorem buildT_get {g : Nat} {fn : AFn} : ∀ {es : List (Nat × AFn)}, (buildT es).getP (path g) = some fn → (g, fn) ∈ es := by
  intro es
  induction es with
  | nil => intro e; rw [buildT, Tr.getP_leaf] at e; cases e
  | cons q es ih =>
    intro e
    rw [buildT, pathF_eq _ _ (by omega), Tr.getP_setP] at e
    split at e
    · rename_i hp
      have := Tr.path_inj _ _ hp
      cases e
      subst this
      exact List.mem_cons_self
    · exact List.mem_cons_of_mem _ (ih e)
def chkEnts (P : Program) : List (Nat × AFn) → Bool
  | [] => true
  | q :: es => chkEnt P (chkDr P) q.1 q.2 && chkEnts P es
theorem chkEnts_ok {P : Program} : ∀ {es : List (Nat × AFn)}, chkEnts P es = true → ∀ g fn, (g, fn) ∈ es → chkEnt P (chkDr P) g fn = true
  | [], _, g, fn, h => by cases h
  | q :: es, e, g, fn, h => by
    rw [chkEnts, Bool.and_eq_true] at e
    rcases List.mem_cons.1 h with rfl | h
    · exact e.1
    · exact chkEnts_ok e.2 g fn h
end Go.Ev
end
section
namespace Go.Ev
open Tr (path)
variable {t : Tr AV} {h : Tr AO} {n : List Bool} {r : R1}

theorem getK_ok {α : Type} {k : α → Ans} : ∀ {p : List Bool} {t : Tr α}, getK p t k = some r → ∃ v, t.getP p = some v ∧ k v = some r := by
  intro p
  induction p with
  | nil =>
    intro t e
    cases t with
    | leaf => cases e
    | node v l rr =>
      have e : @Option.rec α (fun _ => Ans) none k v = some r := e
      cases v with
      | none => cases e
      | some v => exact ⟨v, rfl, e⟩
  | cons b p ih =>
    intro t e
    cases t with
    | leaf => cases e
    | node v l rr =>
      rw [Tr.getP_cons]
      cases b with
      | true => rw [if_pos rfl]; exact ih (e : getK p l k = some r)
      | false => rw [if_neg (by simp)]; exact ih (e : getK p rr k = some r)
theorem setK_eq {α : Type} {y : Option α} : ∀ {p : List Bool} {t : Tr α} {k : Tr α → Ans}, setK p y t k = k (t.setP p y) := by
  intro p
  induction p with
  | nil => intro t k; cases t <;> rfl
  | cons b p ih =>
    intro t k
    cases t with
    | leaf =>
      rw [Tr.setP_cons_leaf]
      cases b with
      | true =>
        rw [if_pos rfl]
        exact (ih (t := .leaf) (k := fun t => k (.node none t .leaf)))
      | false =>
        rw [if_neg (by simp)]
        exact (ih (t := .leaf) (k := fun t => k (.node none .leaf t)))
    | node v l rr =>
      rw [Tr.setP_cons_node]
      cases b with
      | true =>
        rw [if_pos rfl]
        exact (ih (t := l) (k := fun t => k (.node v t rr)))
      | false =>
        rw [if_neg (by simp)]
        exact (ih (t := rr) (k := fun t => k (.node v l t)))
theorem getN_ok {α : Type} {k : α → Ans} : ∀ {d : Nat} {t : Tr α} {m : Nat}, getN d t m k = some r → ∃ v, t.get m = some v ∧ k v = some r := by
  intro d
  induction d with
  | zero => intro t m e; cases e
  | succ d ih =>
    intro t m e
    cases t with
    | leaf => cases e
    | node v l rr =>
      rw [Tr.get_node]
      cases m with
      | zero =>
        rw [if_pos rfl]
        have e : @Option.rec α (fun _ => Ans) none k v = some r := e
        cases v with
        | none => cases e
        | some v => exact ⟨v, rfl, e⟩
      | succ m =>
        have e : @Bool.rec (fun _ => Ans) (forceN (m / 2) fun m => getN d rr m k) (forceN (Nat.succ m / 2) fun m => getN d l m k) (Nat.beq (m % 2) 0) = some r := e
        rw [if_neg (by omega)]
        cases q : Nat.beq (m % 2) 0 with
        | true =>
          rw [q] at e
          have q := Nat.eq_of_beq_eq_true q
          rw [if_pos (by omega)]
          have e : forceN (Nat.succ m / 2) (fun m => getN d l m k) = some r := e
          rw [forceN_eq] at e
          exact ih e
        | false =>
          rw [q] at e
          have q : m % 2 ≠ 0 := fun z => by rw [z] at q; cases q
          rw [if_neg (by omega)]
          have e : forceN (m / 2) (fun m => getN d rr m k) = some r := e
          rw [forceN_eq] at e
          exact ih e
theorem aI_ok {v : AV} {k : IntKind → Int → Ans} (e : aI v k = some r) : ∃ q m, v = .i q m ∧ k q m = some r := by cases v <;> first | exact ⟨_, _, rfl, e⟩ | cases e
theorem aN_ok {v : AV} {k : Nat → Ans} (e : aN v k = some r) : ∃ q, ∃ m : Nat, v = .i q m ∧ k m = some r := by
  obtain ⟨q, m, rfl, e⟩ := aI_ok e
  cases m with
  | ofNat m => exact ⟨q, m, rfl, e⟩
  | negSucc m => cases e
theorem aB_ok {v : AV} {k : Bool → Ans} (e : aB v k = some r) : ∃ x, v = .b x ∧ k x = some r := by cases v <;> first | exact ⟨_, rfl, e⟩ | cases e
theorem aS_ok {v : AV} {k : List Nat → Ans} (e : aS v k = some r) : ∃ x, v = .s x ∧ k x = some r := by cases v <;> first | exact ⟨_, rfl, e⟩ | cases e
theorem aP_ok {v : AV} {k : List Bool → Nat → Ans} (e : aP v k = some r) : ∃ b o, v = .p b o ∧ k b o = some r := by cases v <;> first | exact ⟨_, _, rfl, e⟩ | cases e
theorem aT_ok {v : AV} {k : List AV → Ans} (e : aT v k = some r) : ∃ x, v = .t x ∧ k x = some r := by cases v <;> first | exact ⟨_, rfl, e⟩ | cases e
theorem aL_ok {v : AV} {kn : Ans} {k : List Bool → Nat → Nat → Nat → Bool → Ans} (e : aL v kn k = some r) : (v = .sn ∧ kn = some r) ∨ ∃ b o m c x, v = .sl b o m c x ∧ k b o m c x = some r := by
  cases v <;> first | exact .inl ⟨rfl, e⟩ | exact .inr ⟨_, _, _, _, _, rfl, e⟩ | cases e
theorem aF_ok {v : AV} {k : Nat → List AV → List AV → Ans} {ky : List Bool → Ans} (e : aF v k ky = some r) : (∃ g x y, v = .f g x y ∧ k g x y = some r) ∨ ∃ l, v = .y l ∧ ky l = some r := by
  cases v <;> first | exact .inl ⟨_, _, _, rfl, e⟩ | exact .inr ⟨_, rfl, e⟩ | cases e
theorem aNil_ok {v : AV} {k : Ans} (e : aNil v k = some r) : k = some r ∧ @Option.rec Bool (fun _ => Option R1) (some ⟨v, h, n⟩) (fun b => @Bool.rec (fun _ => Option R1) (some ⟨v, h, n⟩) none b) (isNil v) = some ⟨v, h, n⟩ := by
  cases v <;> first | (cases e; done) | exact ⟨e, rfl⟩
theorem vcK_eq {v : AV} {k : List AV → Ans} : vcK v k = k (vc v) := by cases v <;> rfl
theorem getL_ok {α : Type} {k : α → Ans} : ∀ {l : List α} {i : Nat}, getL l i k = some r → ∃ v, lget l i = some v ∧ k v = some r := by
  intro l
  induction l with
  | nil => intro i e; cases e
  | cons a l ih =>
    intro i e
    cases i with
    | zero => exact ⟨a, rfl, e⟩
    | succ i => exact ih (e : getL l i k = some r)
theorem evK_ok {x : Opd} {k : AV → Ans} (e : evK t x k = some r) : ∃ v, ev t x = some v ∧ k v = some r := by
  cases x with
  | t p => exact getK_ok e
  | c v => exact ⟨v, rfl, e⟩
theorem evsK_ok : ∀ {xs : List Opd} {k : List AV → Ans}, evsK xs t k = some r → ∃ vs, obl (ev t) xs = some vs ∧ k vs = some r := by
  intro xs
  induction xs with
  | nil => intro k e; exact ⟨[], rfl, e⟩
  | cons x xs ih =>
    intro k e
    obtain ⟨v, h1, e⟩ := evK_ok (e : evK t x (fun v => evsK xs t fun vs => k (v :: vs)) = some r)
    obtain ⟨vs, h2, e⟩ := ih e
    exact ⟨v :: vs, by rw [obl_cons, h1, h2]; rfl, e⟩
theorem rowK_ok {b : List Bool} {k : Nat → Nat → Bool → Tr (List AV) → Ans} (e : rowK h b k = some r) : ∃ z m w c, h.getP b = some (.row z m w c) ∧ k z m w c = some r := by
  obtain ⟨o, h1, e⟩ := getK_ok e
  cases o <;> first | (cases e; done) | exact ⟨_, _, _, _, h1, e⟩
theorem newBK_eq {o : AO} {k : List Bool → Tr AO → List Bool → Ans} : newBK h n o k = k n (h.setP n (some o)) (inc n) := by unfold newBK; rw [setK_eq, forceL_eq]
theorem new1K_eq {z : Nat} {vs : List AV} {k : List Bool → Tr AO → List Bool → Ans} : new1K h n z vs k = k n (h.setP n (some (.row z 1 true (storeE z 1 vs .leaf 0)))) (inc n) := by
  unfold new1K; rw [forceL_eq, newBK_eq]; rfl
theorem loadK_ok {z : Nat} {c : Tr (List AV)} {o q : Nat} {f : List AV → Ans} (e : loadK z c o q f = some r) : ∃ vs, loadC z c o q = some vs ∧ f vs = some r := by
  have e : @Bool.rec (fun _ => Ans) (ob (loadC z c o q) f)
    (forceN (Nat.div o z) fun e => getN (nat_lit 64) c e fun vs => @Nat.rec (fun _ => Ans) (forceL (ltake q vs) f) (fun m _ => forceL (ltake q (ldrop (Nat.succ m) vs)) f) (Nat.mod o z)) (Nat.ble (Nat.add (Nat.mod o z) q) z) = some r := e
  cases hb : Nat.ble (Nat.add (Nat.mod o z) q) z with
  | false => rw [hb] at e; exact ob_iff.1 e
  | true =>
    rw [hb] at e
    have e : forceN (Nat.div o z) (fun e => getN (nat_lit 64) c e fun vs => @Nat.rec (fun _ => Ans) (forceL (ltake q vs) f) (fun m _ => forceL (ltake q (ldrop (Nat.succ m) vs)) f) (Nat.mod o z)) = some r := e
    rw [forceN_eq] at e
    obtain ⟨vs, h1, e⟩ := getN_ok e
    refine ⟨ltake q (ldrop (Nat.mod o z) vs), ?_, ?_⟩
    · have : loadC z c o q = @Bool.rec (fun _ => Option (List AV))
        (guardB (Nat.beq (Nat.mod o z) (nat_lit 0)) (guardB (Nat.beq (Nat.mod q z) (nat_lit 0)) (loadE c (Nat.div q z) (Nat.div o z))))
        (ob (c.get (Nat.div o z)) fun vs => some (ltake q (ldrop (Nat.mod o z) vs))) (Nat.ble (Nat.add (Nat.mod o z) q) z) := rfl
      rw [this, hb]
      show ob (c.get (Nat.div o z)) _ = _
      rw [h1]; rfl
    · cases hm : Nat.mod o z with
      | zero => rw [hm] at e; have e : forceL (ltake q vs) f = some r := e; rw [forceL_eq] at e; exact e
      | succ m => rw [hm] at e; have e : forceL (ltake q (ldrop (Nat.succ m) vs)) f = some r := e; rw [forceL_eq] at e; exact e
theorem cellsK_ok {b : List Bool} {o q : Nat} {f : List AV → Ans} (e : cellsK h b o q f = some r) : ∃ vs, (∀ {β : Type} (g : List AV → Option β), cellsOf h b o q g = g vs) ∧ f vs = some r := by
  obtain ⟨z, m, w, c, h1, e⟩ := rowK_ok (e : rowK h b (fun z m _ c => guardB (Nat.ble (Nat.add o q) (Nat.mul m z)) (@Nat.rec (fun _ => Ans) (f []) (fun _ _ => loadK z c o q f) q)) = some r)
  obtain ⟨e1, e⟩ := guardB_iff.1 e
  have key : ∀ {β : Type} (g : List AV → Option β), cellsOf h b o q g = @Nat.rec (fun _ => Option β) (g []) (fun _ _ => ob (loadC z c o q) g) q := fun g => by
    unfold cellsOf row
    rw [h1]
    show guardB (Nat.ble (Nat.add o q) (Nat.mul m z)) _ = _
    rw [e1]; rfl
  cases q with
  | zero => exact ⟨[], fun g => key g, e⟩
  | succ q =>
    obtain ⟨vs, h2, e⟩ := loadK_ok (e : loadK z c o (q + 1) f = some r)
    refine ⟨vs, fun g => ?_, e⟩
    rw [key g]
    show ob (loadC z c o (q + 1)) g = _
    rw [h2]; rfl
theorem wrapK_ok {agg : Bool} {vs : List AV} {k : AV → Ans} (e : wrapK agg vs k = some r) : ∃ v, wrap1 agg vs = some v ∧ k v = some r := by
  cases agg with
  | true => exact ⟨_, rfl, e⟩
  | false =>
    cases vs with
    | nil => cases e
    | cons v vs => exact ⟨v, rfl, e⟩
theorem storeCK_ok {z : Nat} {c : Tr (List AV)} {o q : Nat} {vs : List AV} {f : Tr (List AV) → Ans} (e : storeC z c o vs q f = some r) : ∃ c', (∀ {β : Type} (g : Tr (List AV) → Option β), storeC z c o vs q g = g c') ∧ f c' = some r := by
  have key : ∀ {β : Type} (g : Tr (List AV) → Option β), storeC z c o vs q g = @Bool.rec (fun _ => Option β)
    (guardB (Nat.beq (Nat.mod o z) (nat_lit 0)) (guardB (Nat.beq (Nat.mod q z) (nat_lit 0)) (forceT (storeE z (Nat.div q z) vs c (Nat.div o z)) g)))
    (ob (c.get (Nat.div o z)) fun us => forceL (lput us (Nat.mod o z) vs) fun us => forceT (c.set (Nat.succ (Nat.div o z)) (some us) (Nat.div o z)) g) (Nat.ble (Nat.add (Nat.mod o z) q) z) := fun g => rfl
  rw [key] at e
  cases hb : Nat.ble (Nat.add (Nat.mod o z) q) z with
  | true =>
    rw [hb] at e
    obtain ⟨us, h1, e⟩ := ob_iff.1 e
    rw [forceL_eq, forceT_eq] at e
    refine ⟨_, fun g => ?_, e⟩
    rw [key, hb]
    show ob (c.get (Nat.div o z)) _ = _
    rw [h1, ob_some, forceL_eq, forceT_eq]
  | false =>
    rw [hb] at e
    obtain ⟨h1, e⟩ := guardB_iff.1 e
    obtain ⟨h2, e⟩ := guardB_iff.1 e
    rw [forceT_eq] at e
    refine ⟨_, fun g => ?_, e⟩
    rw [key, hb]
    show guardB (Nat.beq (Nat.mod o z) (nat_lit 0)) (guardB (Nat.beq (Nat.mod q z) (nat_lit 0)) (forceT (storeE z (Nat.div q z) vs c (Nat.div o z)) g)) = _
    rw [h1, h2]
    show forceT (storeE z (Nat.div q z) vs c (Nat.div o z)) g = _
    rw [forceT_eq]

/-! ### numbers -/
noncomputable def bin2 (o : BinK) (q : IntKind) (a : Int) (s : IntKind) (b : Int) : Option AV :=
  @BinK.rec (fun _ => Option AV) (guardB (Nat.beq (kix q) (kix s)) (binI o q a b)) (guardB (Nat.beq (kix q) (kix s)) (binI o q a b)) (guardB (Nat.beq (kix q) (kix s)) (binI o q a b)) (guardB (Nat.beq (kix q) (kix s)) (binI o q a b)) (guardB (Nat.beq (kix q) (kix s)) (binI o q a b)) (guardB (Nat.beq (kix q) (kix s)) (binI o q a b)) (guardB (Nat.beq (kix q) (kix s)) (binI o q a b)) (guardB (Nat.beq (kix q) (kix s)) (binI o q a b)) (guardB (Nat.beq (kix q) (kix s)) (binI o q a b)) (shlI q a b) (shrI q a b) (guardB (Nat.beq (kix q) (kix s)) (binI o q a b)) (guardB (Nat.beq (kix q) (kix s)) (binI o q a b)) (guardB (Nat.beq (kix q) (kix s)) (binI o q a b)) (guardB (Nat.beq (kix q) (kix s)) (binI o q a b)) (guardB (Nat.beq (kix q) (kix s)) (binI o q a b)) (guardB (Nat.beq (kix q) (kix s)) (binI o q a b)) o
theorem mkIK_ok {q : IntKind} {m : Int} {k : AV → Ans} (e : mkIK q m k = some r) : ∃ v, mkI q m = some v ∧ k v = some r := by
  unfold mkIK at e; rw [forceI_eq] at e
  refine ⟨_, by unfold mkI; rw [forceI_eq], ?_⟩
  cases hb : inR q m with
  | true => rw [hb] at e; have : wrapS q m = m := by unfold wrapS; rw [hb]
            rw [this]; exact e
  | false =>
    rw [hb] at e
    have e : forceI (wrapS q m) (fun n => k (.i q n)) = some r := e
    rw [forceI_eq] at e; exact e
theorem mkBK_ok {b : Bool} {k : AV → Ans} (e : mkBK b k = some r) : ∃ v, mkB b = some v ∧ k v = some r := by
  cases b <;> exact ⟨_, rfl, e⟩
theorem mkBN_ok {b : Bool} {k : AV → Ans} (e : @Bool.rec (fun _ => Ans) (k (.b true)) (k (.b false)) b = some r) : ∃ v, mkB (bnot b) = some v ∧ k v = some r := by
  cases b <;> exact ⟨_, rfl, e⟩
theorem binIK_ok {o : BinK} {q s : IntKind} {a b : Int} {k : AV → Ans} (e : binIK o q a s b k = some r) : ∃ v, bin2 o q a s b = some v ∧ k v = some r := by
  have sm : ∀ {x : Ans}, samek q s x = some r → Nat.beq (kix q) (kix s) = true ∧ x = some r := fun {x} h => by
    have h : @Bool.rec (fun _ => Ans) none x (Nat.beq (kix q) (kix s)) = some r := h
    cases z : Nat.beq (kix q) (kix s) with
    | true => rw [z] at h; exact ⟨rfl, h⟩
    | false => rw [z] at h; cases h
  have fin : ∀ {x : Option AV} {v : AV}, Nat.beq (kix q) (kix s) = true → x = some v → guardB (Nat.beq (kix q) (kix s)) x = some v := fun h1 h2 => by rw [h1, h2]; rfl
  cases o
  case shl => exact ob_iff.1 (e : ob (shlI q a b) k = some r)
  case shr => exact ob_iff.1 (e : ob (shrI q a b) k = some r)
  case quo => obtain ⟨h1, e⟩ := sm e; obtain ⟨v, h2, e⟩ := ob_iff.1 e; exact ⟨v, fin h1 h2, e⟩
  case rem => obtain ⟨h1, e⟩ := sm e; obtain ⟨v, h2, e⟩ := ob_iff.1 e; exact ⟨v, fin h1 h2, e⟩
  case eql => obtain ⟨h1, e⟩ := sm e; obtain ⟨v, h2, e⟩ := mkBK_ok e; exact ⟨v, fin h1 h2, e⟩
  case lss => obtain ⟨h1, e⟩ := sm e; obtain ⟨v, h2, e⟩ := mkBK_ok e; exact ⟨v, fin h1 h2, e⟩
  case gtr => obtain ⟨h1, e⟩ := sm e; obtain ⟨v, h2, e⟩ := mkBK_ok e; exact ⟨v, fin h1 h2, e⟩
  case neq => obtain ⟨h1, e⟩ := sm e; obtain ⟨v, h2, e⟩ := mkBN_ok e; exact ⟨v, fin h1 h2, e⟩
  case leq => obtain ⟨h1, e⟩ := sm e; obtain ⟨v, h2, e⟩ := mkBN_ok e; exact ⟨v, fin h1 h2, e⟩
  case geq => obtain ⟨h1, e⟩ := sm e; obtain ⟨v, h2, e⟩ := mkBN_ok e; exact ⟨v, fin h1 h2, e⟩
  all_goals obtain ⟨h1, e⟩ := sm e; obtain ⟨v, h2, e⟩ := mkIK_ok e; exact ⟨v, fin h1 h2, e⟩

noncomputable def binV (o : BinK) (v u : AV) : Option AV := @AV.casesOn (fun _ => Option AV) v (fun _ => none) (fun q a => asI u fun s b => bin2 o q a s b) (fun a => asS u fun b => binS o a b) none (fun _ _ => none) none (fun _ _ _ _ _ => none) none (fun _ => none) none (fun _ _ _ => none) (fun _ => none) none (fun _ _ => none) (fun _ => none) (fun _ => none)
theorem aBin_ok {o : BinK} {v u : AV} {k : AV → Ans} (e : aBin v u o k = some r) : ∃ z, binV o v u = some z ∧ k z = some r := by
  cases v <;> first | (cases e; done) | skip
  · obtain ⟨s, b, rfl, e1⟩ := aI_ok e
    exact binIK_ok e1
  · obtain ⟨b, rfl, e1⟩ := aS_ok e
    exact ob_iff.1 e1

/-! ### operations -/
/-- a call's second form, beside its first -/
def ClR (ck : ClK) (cl : Cl) : Prop := ∀ g vs h n k r, ck g vs h n k = some r → ∃ v h' n', cl g vs h n = some ⟨v, h', n'⟩ ∧ k v h' n' = some r
def ClvR (ck : ClvK) (cl : Clv) : Prop := ∀ g vs h n k r, ck g vs h n k = some r → ∃ v h' n', cl g vs h n = some ⟨v, h', n'⟩ ∧ k v h' n' = some r
theorem un1_ok {o : Option R1} {k : K1} (e : ob o (un1 k) = some r) : ∃ v h' n', o = some ⟨v, h', n'⟩ ∧ k v h' n' = some r := by
  obtain ⟨⟨v, h', n'⟩, h1, e⟩ := ob_iff.1 e
  exact ⟨v, h', n', h1, e⟩
theorem execK_ok {ck : ClK} {cvk : ClvK} {cl : Cl} {clv : Clv} (hc : ClR ck cl) (hv : ClvR cvk clv) {x : AOp} {k : K1} (e : execK x ck cvk t h n k = some r) : ∃ v h' n', exec cl clv t h n x = some ⟨v, h', n'⟩ ∧ k v h' n' = some r := by
  cases x
  case mv x =>
    obtain ⟨v, h1, e⟩ := evK_ok (e : evK t x (fun v => k v h n) = some r)
    exact ⟨v, h, n, r1o_iff.2 ⟨h1, rfl, rfl⟩, e⟩
  case pick c x y =>
    obtain ⟨u, h1, e⟩ := evK_ok (e : evK t c (fun c => aB c fun b => @Bool.rec (fun _ => Ans) (evK t y fun v => k v h n) (evK t x fun v => k v h n) b) = some r)
    obtain ⟨b, hp, e1⟩ := aB_ok e
    clear e; subst hp; have e := e1; clear e1
    cases b with
    | true =>
      obtain ⟨v, h2, e⟩ := evK_ok (e : evK t x (fun v => k v h n) = some r)
      exact ⟨v, h, n, ob_iff.2 ⟨_, h1, r1o_iff.2 ⟨h2, rfl, rfl⟩⟩, e⟩
    | false =>
      obtain ⟨v, h2, e⟩ := evK_ok (e : evK t y (fun v => k v h n) = some r)
      exact ⟨v, h, n, ob_iff.2 ⟨_, h1, r1o_iff.2 ⟨h2, rfl, rfl⟩⟩, e⟩
  case new q z =>
    have e : new1K h n q z (fun b h n => k (.p b (nat_lit 0)) h n) = some r := e
    rw [new1K_eq] at e
    refine ⟨_, _, _, ?_, e⟩
    show newR h n q (nat_lit 1) z (fun b h n => r1 (.p b (nat_lit 0)) h n) = _
    rw [newR_eq]; rfl
  case box q x =>
    obtain ⟨v, h1, e⟩ := evK_ok (e : evK t x (fun v => vcK v fun vs => guardB (Nat.beq (llen vs) q) (new1K h n q vs fun b h n => k (.p b (nat_lit 0)) h n)) = some r)
    rw [vcK_eq] at e
    obtain ⟨h2, e⟩ := guardB_iff.1 e
    rw [new1K_eq] at e
    refine ⟨_, _, _, ob_iff.2 ⟨v, h1, guardB_iff.2 ⟨h2, ?_⟩⟩, e⟩
    rw [newR_eq]; rfl
  case load q agg x =>
    obtain ⟨v, h1, e⟩ := evK_ok (e : evK t x (fun v => aP v fun b o => cellsK h b o q fun vs => wrapK agg vs fun v => k v h n) = some r)
    obtain ⟨b, o, hp, e1⟩ := aP_ok e
    clear e; subst hp; have e := e1; clear e1
    obtain ⟨vs, h2, e⟩ := cellsK_ok e
    obtain ⟨v, h3, e⟩ := wrapK_ok e
    refine ⟨v, h, n, ob_iff.2 ⟨_, h1, ?_⟩, e⟩
    show cellsOf h b o q (fun vs => r1o (wrap1 agg vs) h n) = _
    rw [h2, h3]; rfl
  case store q x y =>
    obtain ⟨v, h1, e⟩ := evK_ok (e : evK t x (fun v => evK t y fun u => aP v fun b o => rowK h b fun z m w c => guardB w (vcK u fun us => guardB (Nat.beq (llen us) q) (guardB (Nat.ble (Nat.add o q) (Nat.mul m z)) (storeC z c o us q fun c => setHK h b (.row z m w c) fun h => k und h n)))) = some r)
    obtain ⟨u, h2, e⟩ := evK_ok e
    obtain ⟨b, o, hp, e1⟩ := aP_ok e
    clear e; subst hp; have e := e1; clear e1
    obtain ⟨z, m, w, c, h3, e⟩ := rowK_ok e
    obtain ⟨h4, e⟩ := guardB_iff.1 e
    rw [vcK_eq] at e
    obtain ⟨h5, e⟩ := guardB_iff.1 e
    obtain ⟨h6, e⟩ := guardB_iff.1 e
    obtain ⟨c', h7, e⟩ := storeCK_ok e
    have e : setK b (some (.row z m w c')) h (fun h => k und h n) = some r := e
    rw [setK_eq] at e
    refine ⟨und, _, n, ob_iff.2 ⟨_, h1, ob_iff.2 ⟨_, h2, ?_⟩⟩, e⟩
    show row h b (fun z m w c => guardB w (guardB (Nat.beq (llen (vc u)) q) (guardB (Nat.ble (Nat.add o q) (Nat.mul m z)) (storeC z c o (vc u) q fun c => setH h b (some (.row z m w c)) fun h => r1 und h n)))) = _
    refine row_iff.2 ⟨z, m, w, c, h3, guardB_iff.2 ⟨h4, guardB_iff.2 ⟨h5, guardB_iff.2 ⟨h6, ?_⟩⟩⟩⟩
    rw [h7, setH_eq]; rfl
  case nilck x =>
    obtain ⟨v, h1, e⟩ := evK_ok (e : evK t x (fun v => aNil v (k v h n)) = some r)
    obtain ⟨e, h2⟩ := aNil_ok (h := h) (n := n) e
    exact ⟨v, h, n, ob_iff.2 ⟨_, h1, h2⟩, e⟩
  case bin o x y =>
    obtain ⟨v, h1, e0⟩ := evK_ok (e : evK t x (fun v => evK t y fun u => aBin v u o fun v => k v h n) = some r)
    obtain ⟨u, h2, e2⟩ := evK_ok e0
    clear e e0
    obtain ⟨z, h3, e3⟩ := aBin_ok e2
    exact ⟨z, h, n, ob_iff.2 ⟨_, h1, ob_iff.2 ⟨_, h2, r1o_iff.2 ⟨h3, rfl, rfl⟩⟩⟩, e3⟩
  case cvI q x =>
    obtain ⟨v, h1, e⟩ := evK_ok (e : evK t x (fun v => aI v fun _ a => mkIK q a fun v => k v h n) = some r)
    obtain ⟨s, a, hp, e1⟩ := aI_ok e
    clear e; subst hp; have e := e1; clear e1
    obtain ⟨v, h2, e⟩ := mkIK_ok e
    exact ⟨v, h, n, ob_iff.2 ⟨_, h1, r1o_iff.2 ⟨h2, rfl, rfl⟩⟩, e⟩
  case fa off x =>
    obtain ⟨v, h1, e⟩ := evK_ok (e : evK t x (fun v => aP v fun b o => forceN (Nat.add o off) fun o => k (.p b o) h n) = some r)
    obtain ⟨b, o, hp, e1⟩ := aP_ok e
    clear e; subst hp; have e := e1; clear e1
    rw [forceN_eq] at e
    refine ⟨_, h, n, ob_iff.2 ⟨_, h1, ?_⟩, e⟩
    show forceN (Nat.add o off) (fun o => r1 (.p b o) h n) = _
    rw [forceN_eq]; rfl
  case ixL z x i =>
    obtain ⟨v, h1, e⟩ := evK_ok (e : evK t x (fun v => evK t i fun i => aN i fun i => aL v none fun b o len _ _ => guardB (Nat.ble (Nat.succ i) len) (forceN (Nat.add o (Nat.mul i z)) fun o => k (.p b o) h n)) = some r)
    obtain ⟨u, h2, e⟩ := evK_ok e
    obtain ⟨q, j, hp, e1⟩ := aN_ok e
    clear e; subst hp; have e := e1; clear e1
    rcases aL_ok e with ⟨_, e⟩ | ⟨b, o, len, cp, x, rfl, e⟩
    · cases e
    · obtain ⟨h3, e⟩ := guardB_iff.1 e
      rw [forceN_eq] at e
      refine ⟨_, h, n, ob_iff.2 ⟨_, h1, ob_iff.2 ⟨_, h2, asN_iff.2 ⟨q, j, rfl, asL_iff.2 (.inr ⟨b, o, len, cp, x, rfl, guardB_iff.2 ⟨h3, ?_⟩⟩)⟩⟩⟩, e⟩
      rw [forceN_eq]; rfl
  case ixS x i =>
    obtain ⟨v, h1, e⟩ := evK_ok (e : evK t x (fun v => evK t i fun i => aN i fun i => aS v fun l => getL l i fun c => k (.i .u8 (Int.ofNat c)) h n) = some r)
    obtain ⟨u, h2, e⟩ := evK_ok e
    obtain ⟨q, j, hp, e1⟩ := aN_ok e
    clear e; subst hp; have e := e1; clear e1
    obtain ⟨l, hp, e1⟩ := aS_ok e
    clear e; subst hp; have e := e1; clear e1
    obtain ⟨c, h3, e⟩ := getL_ok e
    exact ⟨_, h, n, ob_iff.2 ⟨_, h1, ob_iff.2 ⟨_, h2, asN_iff.2 ⟨q, j, rfl, asS_iff.2 ⟨l, rfl, ob_iff.2 ⟨c, h3, rfl⟩⟩⟩⟩⟩, e⟩
  case ext x i =>
    obtain ⟨v, h1, e⟩ := evK_ok (e : evK t x (fun v => aT v fun vs => getL vs i fun v => k v h n) = some r)
    obtain ⟨vs, hp, e1⟩ := aT_ok e
    clear e; subst hp; have e := e1; clear e1
    obtain ⟨v, h2, e⟩ := getL_ok e
    exact ⟨v, h, n, ob_iff.2 ⟨_, h1, r1o_iff.2 ⟨h2, rfl, rfl⟩⟩, e⟩
  case len st x =>
    obtain ⟨v, h1, e⟩ := evK_ok (e : evK t x (fun v => @Bool.rec (fun _ => Ans) (aL v (k (.i .i64 (Int.ofNat (nat_lit 0))) h n) fun _ _ m _ _ => k (.i .i64 (Int.ofNat m)) h n) (aS v fun l => forceN (llen l) fun m => k (.i .i64 (Int.ofNat m)) h n) st) = some r)
    cases st with
    | true =>
      obtain ⟨l, hp, e1⟩ := aS_ok (e : aS v (fun l => forceN (llen l) fun m => k (.i .i64 (Int.ofNat m)) h n) = some r)
      clear e; subst hp; have e := e1; clear e1
      rw [forceN_eq] at e
      refine ⟨_, h, n, ob_iff.2 ⟨_, h1, ?_⟩, e⟩
      show r1o (mkN (llen l)) h n = _
      rw [mkN_eq]; rfl
    | false =>
      rcases aL_ok (e : aL v (k (.i .i64 (Int.ofNat (nat_lit 0))) h n) (fun _ _ m _ _ => k (.i .i64 (Int.ofNat m)) h n) = some r) with ⟨rfl, e⟩ | ⟨b, o, m, c, x, rfl, e⟩
      · refine ⟨_, h, n, ob_iff.2 ⟨_, h1, ?_⟩, e⟩
        show r1o (mkN (nat_lit 0)) h n = _
        rw [mkN_eq]; rfl
      · refine ⟨_, h, n, ob_iff.2 ⟨_, h1, ?_⟩, e⟩
        show r1o (mkN m) h n = _
        rw [mkN_eq]; rfl
  case call g xs =>
    obtain ⟨vs, h1, e⟩ := evsK_ok (e : evsK xs t (fun vs => ck g vs h n k) = some r)
    obtain ⟨v, h', n', h2, e⟩ := hc _ _ _ _ _ _ e
    exact ⟨v, h', n', ob_iff.2 ⟨vs, h1, h2⟩, e⟩
  case callv x xs =>
    obtain ⟨u, h0, e⟩ := evK_ok (e : evK t x (fun v => evsK xs t fun vs => cvk v vs h n k) = some r)
    obtain ⟨vs, h1, e⟩ := evsK_ok e
    obtain ⟨v, h', n', h2, e⟩ := hv _ _ _ _ _ _ e
    exact ⟨v, h', n', ob_iff.2 ⟨u, h0, ob_iff.2 ⟨vs, h1, h2⟩⟩, e⟩
  all_goals exact un1_ok e
end Go.Ev
end
section
namespace Go.Ev
open Tr (path)
variable {t : Tr AV} {h : Tr AO} {n : List Bool} {r : R1} {ck : ClK} {cvk : ClvK} {cl : Cl} {clv : Clv} {tab : Tr AFn} {ihk : RunK} {ih : Run}

theorem wantsK_ok {g : Option (List Bool × Bool)} {yes no : Ans} (e : wantsK g t yes no = some r) : (Wt g t true ∧ yes = some r) ∨ (Wt g t false ∧ no = some r) := by
  cases g with
  | none => exact .inl ⟨rfl, e⟩
  | some q =>
    obtain ⟨p, w⟩ := q
    obtain ⟨v, h1, e⟩ := getK_ok (e : getK p t (fun v => aW v w yes no) = some r)
    have key : ∀ b, Wt (some (p, w)) t b ↔ (@AV.casesOn (fun _ => Option Bool) v (fun x => @Bool.rec (fun _ => Option Bool) (@Bool.rec (fun _ => Option Bool) (some true) (some false) x) (@Bool.rec (fun _ => Option Bool) (some false) (some true) x) w) (fun _ _ => some false) (fun _ => some false) (some false) (fun _ _ => some false) (some false) (fun _ _ _ _ _ => some false) (some false) (fun _ => some false) (some false) (fun _ _ _ => some false) (fun _ => some false) (some false) (fun _ _ => some false) (fun _ => some false) (fun _ => some false)) = some b := fun b => by
      have : Wt (some (p, w)) t b = (ob (t.getP p) (fun v => @AV.casesOn (fun _ => Option Bool) v (fun x => @Bool.rec (fun _ => Option Bool) (@Bool.rec (fun _ => Option Bool) (some true) (some false) x) (@Bool.rec (fun _ => Option Bool) (some false) (some true) x) w) (fun _ _ => some false) (fun _ => some false) (some false) (fun _ _ => some false) (some false) (fun _ _ _ _ _ => some false) (some false) (fun _ => some false) (some false) (fun _ _ _ => some false) (fun _ => some false) (some false) (fun _ _ => some false) (fun _ => some false) (fun _ => some false)) = some b) := rfl
      rw [this, h1]; rfl
    rw [key, key]
    cases v
    case b x => cases w <;> cases x <;> first | exact .inl ⟨rfl, e⟩ | exact .inr ⟨rfl, e⟩
    all_goals exact .inr ⟨rfl, e⟩
theorem putK_eq {d : Option (List Bool)} {v : AV} {k : Tr AV → Ans} : putK d v t k = k (putT d v t) := by
  cases d with
  | none => rfl
  | some p => exact setK_eq
theorem opersK_ok (hc : ClR ck cl) (hv : ClvR cvk clv) : ∀ {ops : List AOper} {t : Tr AV} {h : Tr AO} {n : List Bool} {k : KT}, opersK ops ck cvk t h n k = some r → ∃ t' h' n', opers cl clv ops t h n = some ⟨t', h', n'⟩ ∧ k t' h' n' = some r := by
  intro ops
  induction ops with
  | nil => intro t h n k e; exact ⟨t, h, n, rfl, e⟩
  | cons o ops ih =>
    intro t h n k e
    obtain ⟨g, d, op⟩ := o
    have e : wantsK g t (execK op ck cvk t h n fun v h n => putK d v t fun t => opersK ops ck cvk t h n k) (putK d und t fun t => opersK ops ck cvk t h n k) = some r := e
    have sp : opers cl clv (⟨g, d, op⟩ :: ops) t h n = wants g t (ob (exec cl clv t h n op) fun r => @R1.rec (fun _ => Option RT) (fun v h n => putD d v t fun t => opers cl clv ops t h n) r) (putD d und t fun t => opers cl clv ops t h n) := rfl
    rw [sp]
    rcases wantsK_ok e with ⟨hw, e⟩ | ⟨hw, e⟩
    · obtain ⟨v, h1, n1, q, e⟩ := execK_ok hc hv e
      rw [putK_eq] at e
      obtain ⟨t', h', n', q2, e⟩ := ih e
      exact ⟨t', h', n', wants_iff.2 (.inl ⟨hw, ob_iff.2 ⟨_, q, by show putD d v t _ = _; rw [putD_eq]; exact q2⟩⟩), e⟩
    · rw [putK_eq] at e
      obtain ⟨t', h', n', q2, e⟩ := ih e
      exact ⟨t', h', n', wants_iff.2 (.inr ⟨hw, by rw [putD_eq]; exact q2⟩), e⟩
theorem noCK_ok : ClR noCK noC := fun _ _ _ _ _ _ e => by cases e
theorem noVK_ok : ClvR noVK noV := fun _ _ _ _ _ _ e => by cases e
theorem dopersK_ok (hc : ClR ck cl) (hv : ClvR cvk clv) : ∀ {ops : List DOper} {rs : List (List Bool)} {hs : List (Tr AO)} {t : Tr AV} {h : Tr AO} {n : List Bool} {k : KT}, dopersK ops ck cvk rs hs t h n k = some r → ∃ t' h' n', dopers cl clv ops rs hs t h n = some ⟨t', h', n'⟩ ∧ k t' h' n' = some r := by
  intro ops
  induction ops with
  | nil => intro rs hs t h n k e; exact ⟨t, h, n, rfl, e⟩
  | cons o ops ih =>
    intro rs hs t h n kk e
    obtain ⟨i, ⟨g, d, op⟩, k, k0⟩ := o
    match k with
    | 0 =>
      have e : wantsK g t (execK op noCK noVK t .leaf n fun v _ _ => putK d v t fun t => dopersK ops ck cvk rs hs t h n kk) (putK d und t fun t => dopersK ops ck cvk rs hs t h n kk) = some r := e
      have sp : dopers cl clv (⟨i, ⟨g, d, op⟩, 0, k0⟩ :: ops) rs hs t h n = wants g t (ob (exec noC noV t .leaf n op) fun r => @R1.rec (fun _ => Option RT) (fun v _ _ => putD d v t fun t => dopers cl clv ops rs hs t h n) r) (putD d und t fun t => dopers cl clv ops rs hs t h n) := rfl
      rw [sp]
      rcases wantsK_ok e with ⟨hw, e⟩ | ⟨hw, e⟩
      · obtain ⟨v, h1, n1, q, e⟩ := execK_ok noCK_ok noVK_ok e
        rw [putK_eq] at e
        obtain ⟨t', h', n', q2, e⟩ := ih e
        exact ⟨t', h', n', wants_iff.2 (.inl ⟨hw, ob_iff.2 ⟨_, q, by show putD d v t _ = _; rw [putD_eq]; exact q2⟩⟩), e⟩
      · rw [putK_eq] at e
        obtain ⟨t', h', n', q2, e⟩ := ih e
        exact ⟨t', h', n', wants_iff.2 (.inr ⟨hw, by rw [putD_eq]; exact q2⟩), e⟩
    | 1 =>
      have e : wantsK g t (@List.rec (Tr AO) (fun _ => Ans) (ob (own t h hs op) fun h0 => execK op noCK noVK t h0 n fun v _ _ => putK d v t fun t => dopersK ops ck cvk rs hs t h n kk) (fun h0 l _ => execK op noCK noVK t h0 n fun v _ _ => guardB (steady t n op v l) (putK d v t fun t => dopersK ops ck cvk rs hs t h n kk)) (ldrop k0 hs)) (putK d und t fun t => dopersK ops ck cvk rs hs t h n kk) = some r := e
      have sp : dopers cl clv (⟨i, ⟨g, d, op⟩, 1, k0⟩ :: ops) rs hs t h n = wants g t (@List.rec (Tr AO) (fun _ => Option RT) (ob (own t h hs op) fun h0 => ob (exec noC noV t h0 n op) fun r => @R1.rec (fun _ => Option RT) (fun v _ _ => putD d v t fun t => dopers cl clv ops rs hs t h n) r) (fun h0 l _ => ob (exec noC noV t h0 n op) fun r => @R1.rec (fun _ => Option RT) (fun v _ _ => guardB (steady t n op v l) (putD d v t fun t => dopers cl clv ops rs hs t h n)) r) (ldrop k0 hs)) (putD d und t fun t => dopers cl clv ops rs hs t h n) := rfl
      rw [sp]
      rcases wantsK_ok e with ⟨hw, e⟩ | ⟨hw, e⟩
      · cases q0 : ldrop k0 hs with
        | nil =>
          rw [q0] at e
          obtain ⟨h0, qo, e⟩ := ob_iff.1 (e : ob (own t h hs op) (fun h0 => execK op noCK noVK t h0 n fun v _ _ => putK d v t fun t => dopersK ops ck cvk rs hs t h n kk) = some r)
          obtain ⟨v, h1, n1, q, e⟩ := execK_ok noCK_ok noVK_ok e
          rw [putK_eq] at e
          obtain ⟨t', h', n', q2, e⟩ := ih e
          refine ⟨t', h', n', wants_iff.2 (.inl ⟨hw, ?_⟩), e⟩
          exact ob_iff.2 ⟨h0, qo, ob_iff.2 ⟨_, q, by show putD d v t _ = _; rw [putD_eq]; exact q2⟩⟩
        | cons h0 l =>
          rw [q0] at e
          obtain ⟨v, h1, n1, q, e⟩ := execK_ok noCK_ok noVK_ok (e : execK op noCK noVK t h0 n (fun v _ _ => guardB (steady t n op v l) (putK d v t fun t => dopersK ops ck cvk rs hs t h n kk)) = some r)
          obtain ⟨e1, e⟩ := guardB_iff.1 e
          rw [putK_eq] at e
          obtain ⟨t', h', n', q2, e⟩ := ih e
          refine ⟨t', h', n', wants_iff.2 (.inl ⟨hw, ?_⟩), e⟩
          exact ob_iff.2 ⟨_, q, guardB_iff.2 ⟨e1, by rw [putD_eq]; exact q2⟩⟩
      · rw [putK_eq] at e
        obtain ⟨t', h', n', q2, e⟩ := ih e
        exact ⟨t', h', n', wants_iff.2 (.inr ⟨hw, by rw [putD_eq]; exact q2⟩), e⟩
    | 2 =>
      cases rs with
      | nil => cases e
      | cons m rs =>
        have e : wantsK g t (execK op noCK noVK t h m fun v h _ => putK d v t fun t => dopersK ops ck cvk rs hs t h n kk) (putK d und t fun t => dopersK ops ck cvk rs hs t h n kk) = some r := e
        have sp : dopers cl clv (⟨i, ⟨g, d, op⟩, 2, k0⟩ :: ops) (m :: rs) hs t h n = wants g t (ob (exec noC noV t h m op) fun r => @R1.rec (fun _ => Option RT) (fun v h _ => putD d v t fun t => dopers cl clv ops rs hs t h n) r) (putD d und t fun t => dopers cl clv ops rs hs t h n) := rfl
        rw [sp]
        rcases wantsK_ok e with ⟨hw, e⟩ | ⟨hw, e⟩
        · obtain ⟨v, h1, n1, q, e⟩ := execK_ok noCK_ok noVK_ok e
          rw [putK_eq] at e
          obtain ⟨t', h', n', q2, e⟩ := ih e
          exact ⟨t', h', n', wants_iff.2 (.inl ⟨hw, ob_iff.2 ⟨_, q, by show putD d v t _ = _; rw [putD_eq]; exact q2⟩⟩), e⟩
        · rw [putK_eq] at e
          obtain ⟨t', h', n', q2, e⟩ := ih e
          exact ⟨t', h', n', wants_iff.2 (.inr ⟨hw, by rw [putD_eq]; exact q2⟩), e⟩
    | k + 3 =>
      have e : wantsK g t (execK op ck cvk t h n fun v h' n => guardB (absent rs h') (putK d v t fun t => dopersK ops ck cvk rs (lapp hs [h']) t h' n kk)) (putK d und t fun t => dopersK ops ck cvk rs (lapp hs [h]) t h n kk) = some r := e
      have sp : dopers cl clv (⟨i, ⟨g, d, op⟩, k + 3, k0⟩ :: ops) rs hs t h n = wants g t (ob (exec cl clv t h n op) fun r => @R1.rec (fun _ => Option RT) (fun v h' n => guardB (absent rs h') (putD d v t fun t => dopers cl clv ops rs (lapp hs [h']) t h' n)) r) (putD d und t fun t => dopers cl clv ops rs (lapp hs [h]) t h n) := rfl
      rw [sp]
      rcases wantsK_ok e with ⟨hw, e⟩ | ⟨hw, e⟩
      · obtain ⟨v, h1, n1, q, e⟩ := execK_ok hc hv e
        obtain ⟨e1, e⟩ := guardB_iff.1 e
        rw [putK_eq] at e
        obtain ⟨t', h', n', q2, e⟩ := ih e
        exact ⟨t', h', n', wants_iff.2 (.inl ⟨hw, ob_iff.2 ⟨_, q, guardB_iff.2 ⟨e1, by rw [putD_eq]; exact q2⟩⟩⟩), e⟩
      · rw [putK_eq] at e
        obtain ⟨t', h', n', q2, e⟩ := ih e
        exact ⟨t', h', n', wants_iff.2 (.inr ⟨hw, by rw [putD_eq]; exact q2⟩), e⟩
theorem resvK_eq (k : Nat) : ∀ (n : List Bool) (f : List (List Bool) → List Bool → Ans), resvK k n f = f (keep k n) (past k n) := by
  induction k with
  | zero => intro n f; rfl
  | succ k ih =>
    intro n f
    show forceL (inc n) (fun m => resvK k m fun l m' => f (n :: l) m') = _
    rw [forceL_eq, ih]; rfl
theorem drawnK_ok (hc : ClR ck cl) (hv : ClvR cvk clv) {na : Nat} {ops : List DOper} {k : KT} (e : drawnK ck cvk na ops t h n k = some r) : ∃ t' h' n', drawn cl clv na ops t h n = some ⟨t', h', n'⟩ ∧ k t' h' n' = some r := by
  unfold drawnK at e
  rw [resvK_eq] at e
  obtain ⟨e1, e⟩ := guardB_iff.1 e
  obtain ⟨t', h', n', q, e⟩ := dopersK_ok hc hv e
  refine ⟨t', h', n', ?_, e⟩
  unfold drawn
  rw [resv_eq]
  exact guardB_iff.2 ⟨e1, q⟩

/-! ### code, calls -/
def RunR (ihk : RunK) (ih : Run) : Prop := ∀ c t h n ds k r, ihk c t h n ds k = some r → ∃ e t' h' n' ds', ih c t h n ds = some ⟨e, t', h', n', ds'⟩ ∧ k e t' h' n' ds' = some r
theorem bindK_ok : ∀ {ps : List (List Bool)} {vs : List AV} {t : Tr AV} {k : Tr AV → Ans}, bindK ps vs t k = some r → ∃ t', bindP ps vs t = some t' ∧ k t' = some r := by
  intro ps
  induction ps with
  | nil =>
    intro vs t k e
    cases vs with
    | nil => exact ⟨t, rfl, e⟩
    | cons v vs => cases e
  | cons p ps ih =>
    intro vs t k e
    cases vs with
    | nil => cases e
    | cons v vs =>
      have e : setK p (some v) t (fun t => bindK ps vs t k) = some r := e
      rw [setK_eq] at e
      obtain ⟨t', q, e⟩ := ih e
      refine ⟨t', ?_, e⟩
      show forceT (t.setP p (some v)) (fun t => bindP ps vs t) = _
      rw [forceT_eq]; exact q
theorem resVK_ok : ∀ {rs : List ARes} {k : List AV → Ans}, resVK rs t h k = some r → ∃ vs, resV t h rs = some vs ∧ k vs = some r := by
  intro rs
  induction rs with
  | nil => intro k e; exact ⟨[], rfl, e⟩
  | cons x rs ih =>
    intro k e
    have sp : resV t h (x :: rs) = ob (res1 t h x) fun v => ob (resV t h rs) fun vs => some (v :: vs) := rfl
    rw [sp]
    cases x with
    | tmp p =>
      obtain ⟨v, q, e⟩ := getK_ok (e : getK p t (fun v => resVK rs t h fun vs => k (v :: vs)) = some r)
      obtain ⟨vs, q2, e⟩ := ih e
      exact ⟨_, ob_iff.2 ⟨v, q, ob_iff.2 ⟨vs, q2, rfl⟩⟩, e⟩
    | cell p m agg =>
      obtain ⟨u, q, e0⟩ := getK_ok (e : getK p t (fun v => aP v fun b o => cellsK h b o m fun vs => wrapK agg vs fun v => resVK rs t h fun vs => k (v :: vs)) = some r)
      obtain ⟨b, o, hp, e1⟩ := aP_ok e0
      subst hp
      obtain ⟨us, q2, e2⟩ := cellsK_ok e1
      obtain ⟨v, q3, e3⟩ := wrapK_ok e2
      obtain ⟨vs, q4, e4⟩ := ih e3
      refine ⟨_, ob_iff.2 ⟨v, ?_, ob_iff.2 ⟨vs, q4, rfl⟩⟩, e4⟩
      refine ob_iff.2 ⟨_, q, ?_⟩
      show cellsOf h b o m (fun vs => wrap1 agg vs) = _
      rw [q2, q3]
theorem dropDK_ok : ∀ {ds : List (List Bool)} {h : Tr AO} {k : Tr AO → Ans}, dropDK ds h k = some r → ∃ h', dropD ds h = some h' ∧ k h' = some r := by
  intro ds
  induction ds with
  | nil => intro h k e; exact ⟨h, rfl, e⟩
  | cons b ds ih =>
    intro h k e
    obtain ⟨o, q, e⟩ := getK_ok (e : getK b h (fun o => @AO.rec (fun _ => Ans) (fun _ _ _ _ => none) (fun _ _ => none) (fun _ _ => none) (fun _ _ _ _ _ _ => none) (setK b none h fun h => dropDK ds h k) o) = some r)
    cases o <;> first | (cases e; done) | skip
    have e : setK b none h (fun h => dropDK ds h k) = some r := e
    rw [setK_eq] at e
    obtain ⟨h', q2, e⟩ := ih e
    refine ⟨h', ?_, e⟩
    rw [dropD_cons]
    refine ob_iff.2 ⟨_, q, ?_⟩
    show setH h b none (fun h => dropD ds h) = _
    rw [setH_eq]; exact q2
theorem callFnK_ok (hr : RunR ihk ih) {fn : AFn} {vs : List AV} {k : K1} (e : callFnK fn ihk vs h n k = some r) : ∃ v h' n', callFn ih fn vs h n = some ⟨v, h', n'⟩ ∧ k v h' n' = some r := by
  cases fn with
  | go ps rs c =>
    obtain ⟨t, q1, e⟩ := bindK_ok (e : bindK ps vs .leaf (fun t => ihk c t h n [] fun e t h n ds => guardB (isEnd e) (dropDK ds h fun h => resVK rs t h fun vs => k (one1 vs) h n)) = some r)
    obtain ⟨x, t1, h1, n1, ds, q2, e⟩ := hr _ _ _ _ _ _ _ e
    obtain ⟨q3, e⟩ := guardB_iff.1 e
    obtain ⟨h2, q4, e⟩ := dropDK_ok e
    obtain ⟨us, q5, e⟩ := resVK_ok e
    exact ⟨_, _, _, ob_iff.2 ⟨t, q1, ob_iff.2 ⟨_, q2, guardB_iff.2 ⟨q3, ob_iff.2 ⟨h2, q4, ob_iff.2 ⟨us, q5, rfl⟩⟩⟩⟩⟩, e⟩
  | xIndexByteString => exact un1_ok e
  | orc f => exact un1_ok e
theorem callGK_ok (hr : RunR ihk ih) : ClR (callGK tab ihk) (callG tab ih) := by
  intro g vs h n k r e
  obtain ⟨fn, q1, e⟩ := getK_ok (e : getK g tab (fun fn => callFnK fn ihk vs h n k) = some r)
  obtain ⟨v, h', n', q2, e⟩ := callFnK_ok hr e
  exact ⟨v, h', n', ob_iff.2 ⟨fn, q1, q2⟩, e⟩
theorem lpAtK_ok {l : List Bool} {k : LS → Option Ex → Tr AV → List (List Bool) → AC → AC → Ans} (e : lpAtK h l k = some r) : ∃ st pd t ps x y, h.getP l = some (.lp st pd t ps x y) ∧ k st pd t ps x y = some r := by
  obtain ⟨o, q, e⟩ := getK_ok e
  cases o <;> first | (cases e; done) | exact ⟨_, _, _, _, _, _, q, e⟩
theorem roundYK_ok (hr : RunR ihk ih) {l : List Bool} {vs : List AV} {k : K1} (e : roundYK ihk l vs h n k = some r) : ∃ v h' n', roundY ih l vs h n = some ⟨v, h', n'⟩ ∧ k v h' n' = some r := by
  obtain ⟨st, pd, t0, ps, x, y, a1, e⟩ := lpAtK_ok e
  obtain ⟨t, a2, e⟩ := bindK_ok e
  obtain ⟨x1, t1, h1, n1, d1, a3, e⟩ := hr _ _ _ _ _ _ _ e
  obtain ⟨a4, e⟩ := guardB_iff.1 e
  obtain ⟨a5, e⟩ := guardB_iff.1 e
  obtain ⟨st2, pd2, t2, ps2, x2, y2, a6, e⟩ := lpAtK_ok e
  obtain ⟨a7, e⟩ := guardB_iff.1 e
  have e : setK l (some (.lp .busy pd2 t2 ps2 x2 y2)) h1 _ = some r := e
  rw [setK_eq] at e
  obtain ⟨x3, t3, h3, n3, d3, a8, e⟩ := hr _ _ _ _ _ _ _ e
  obtain ⟨a9, e⟩ := guardB_iff.1 e
  obtain ⟨st4, pd4, t4, ps4, x4, y4, a10, e⟩ := lpAtK_ok e
  have fin : ∃ v h' n', (@Bool.rec (fun _ => Option R1) (setH h3 l (some (.lp .done (some x3) t4 ps4 x4 y4)) fun h => r1 (.b false) h n3) (setH h3 l (some (.lp .ready none t4 ps4 x4 y4)) fun h => r1 (.b true) h n3) (isNrm x3)) = some ⟨v, h', n'⟩ ∧ k v h' n' = some r := by
    cases hb : isNrm x3 with
    | true =>
      rw [hb] at e
      have e : setK l (some (.lp .ready none t4 ps4 x4 y4)) h3 (fun h => k (.b true) h n3) = some r := e
      rw [setK_eq] at e
      refine ⟨_, _, _, ?_, e⟩
      show setH h3 l (some (.lp .ready none t4 ps4 x4 y4)) (fun h => r1 (.b true) h n3) = _
      rw [setH_eq]; rfl
    | false =>
      rw [hb] at e
      have e : setK l (some (.lp .done (some x3) t4 ps4 x4 y4)) h3 (fun h => k (.b false) h n3) = some r := e
      rw [setK_eq] at e
      refine ⟨_, _, _, ?_, e⟩
      show setH h3 l (some (.lp .done (some x3) t4 ps4 x4 y4)) (fun h => r1 (.b false) h n3) = _
      rw [setH_eq]; rfl
  obtain ⟨v, h', n', b1, b2⟩ := fin
  refine ⟨v, h', n', ?_, b2⟩
  unfold roundY
  refine lpAt_iff.2 ⟨st, pd, t0, ps, x, y, a1, ob_iff.2 ⟨t, a2, ob_iff.2 ⟨_, a3, guardB_iff.2 ⟨a4, guardB_iff.2 ⟨a5, lpAt_iff.2 ⟨st2, pd2, t2, ps2, x2, y2, a6, guardB_iff.2 ⟨a7, ?_⟩⟩⟩⟩⟩⟩⟩
  rw [setH_eq]
  exact ob_iff.2 ⟨_, a8, guardB_iff.2 ⟨a9, lpAt_iff.2 ⟨st4, pd4, t4, ps4, x4, y4, a10, b1⟩⟩⟩
theorem callVK_ok (hr : RunR ihk ih) : ClvR (callVK tab ihk) (callV tab ih) := by
  intro g vs h n k r e
  rcases aF_ok (e : aF g (fun g x y => getN (nat_lit 64) tab g fun fn => forceL (lapp x (lapp vs y)) fun us => callFnK fn ihk us h n k) (fun l => roundYK ihk l vs h n k) = some r) with ⟨g', x, y, hg, e1⟩ | ⟨l, hg, e1⟩
  · subst hg
    obtain ⟨fn, q1, e2⟩ := getN_ok e1
    rw [forceL_eq] at e2
    obtain ⟨v, h', n', q2, e3⟩ := callFnK_ok hr e2
    exact ⟨v, h', n', ob_iff.2 ⟨fn, q1, q2⟩, e3⟩
  · subst hg
    obtain ⟨v, h', n', q2, e3⟩ := roundYK_ok hr e1
    exact ⟨v, h', n', q2, e3⟩
theorem callKK_ok (hr : RunR ihk ih) {u : AV} {l : List Bool} {k : K1} (e : callKK tab ihk u l h n k = some r) : ∃ v h' n', callK tab ih u l h n = some ⟨v, h', n'⟩ ∧ k v h' n' = some r := by
  rcases aF_ok (e : aF u (fun g x y => getN (nat_lit 64) tab g fun fn => guardB (isGo fn) (forceL (lapp x (lapp [.y l] y)) fun us => callFnK fn ihk us h n k)) (fun _ => none) = some r) with ⟨g', x, y, hg, e1⟩ | ⟨l, hg, e1⟩
  · subst hg
    obtain ⟨fn, q1, e2⟩ := getN_ok e1
    obtain ⟨q3, e2⟩ := guardB_iff.1 e2
    rw [forceL_eq] at e2
    obtain ⟨v, h', n', q2, e3⟩ := callFnK_ok hr e2
    exact ⟨v, h', n', ob_iff.2 ⟨fn, q1, guardB_iff.2 ⟨q3, q2⟩⟩, e3⟩
  · cases e1
theorem stepK_ok (hr : RunR ihk ih) : RunR (fun c t h n ds k => stepK c tab ihk t h n ds k) (stepC tab ih) := by
  intro c t h n ds k r e
  cases c with
  | skip => exact ⟨_, _, _, _, _, rfl, e⟩
  | xt i => exact ⟨_, _, _, _, _, rfl, e⟩
  | rt => exact ⟨_, _, _, _, _, rfl, e⟩
  | rg ops =>
    obtain ⟨t', h', n', q, e⟩ := opersK_ok (callGK_ok hr) (callVK_ok hr) (e : opersK ops (callGK tab ihk) (callVK tab ihk) t h n (fun t h n => k .nrm t h n ds) = some r)
    exact ⟨_, _, _, _, _, ob_iff.2 ⟨_, q, rfl⟩, e⟩
  | dr na ops =>
    obtain ⟨t', h', n', q, e⟩ := drawnK_ok (callGK_ok hr) (callVK_ok hr) (e : drawnK (callGK tab ihk) (callVK tab ihk) na ops t h n (fun t h n => k .nrm t h n ds) = some r)
    exact ⟨_, _, _, _, _, ob_iff.2 ⟨_, q, rfl⟩, e⟩
  | sq x y =>
    obtain ⟨x1, t1, h1, n1, d1, q1, e⟩ := hr _ _ _ _ _ _ _ (e : ihk x t h n ds (fun e t h n ds => @Ex.rec (fun _ => Ans) (ihk y t h n ds k) (fun i => k (.ex i) t h n ds) (k .ret t h n ds) e) = some r)
    cases x1 with
    | nrm =>
      obtain ⟨x2, t2, h2, n2, d2, q2, e⟩ := hr _ _ _ _ _ _ _ (e : ihk y t1 h1 n1 d1 k = some r)
      exact ⟨_, _, _, _, _, ob_iff.2 ⟨_, q1, q2⟩, e⟩
    | ex i => exact ⟨_, _, _, _, _, ob_iff.2 ⟨_, q1, rfl⟩, e⟩
    | ret => exact ⟨_, _, _, _, _, ob_iff.2 ⟨_, q1, rfl⟩, e⟩
  | cd c x y =>
    obtain ⟨v, q1, e0⟩ := evK_ok (e : evK t c (fun v => aB v fun b => @Bool.rec (fun _ => Ans) (ihk y t h n ds k) (ihk x t h n ds k) b) = some r)
    obtain ⟨b, hb, e1⟩ := aB_ok e0
    subst hb
    cases b with
    | true =>
      obtain ⟨x2, t2, h2, n2, d2, q2, e⟩ := hr _ _ _ _ _ _ _ (e1 : ihk x t h n ds k = some r)
      exact ⟨_, _, _, _, _, ob_iff.2 ⟨_, q1, q2⟩, e⟩
    | false =>
      obtain ⟨x2, t2, h2, n2, d2, q2, e⟩ := hr _ _ _ _ _ _ _ (e1 : ihk y t h n ds k = some r)
      exact ⟨_, _, _, _, _, ob_iff.2 ⟨_, q1, q2⟩, e⟩
  | bk i x =>
    obtain ⟨x1, t1, h1, n1, d1, q1, e⟩ := hr _ _ _ _ _ _ _ (e : ihk x t h n ds (fun e t h n ds => @Ex.rec (fun _ => Ans) (k .nrm t h n ds) (fun j => @Bool.rec (fun _ => Ans) (k (.ex j) t h n ds) (k .nrm t h n ds) (Nat.beq j i)) (k .ret t h n ds) e) = some r)
    cases x1 with
    | nrm => exact ⟨_, _, _, _, _, ob_iff.2 ⟨_, q1, rfl⟩, e⟩
    | ex j =>
      have e : @Bool.rec (fun _ => Ans) (k (.ex j) t1 h1 n1 d1) (k .nrm t1 h1 n1 d1) (Nat.beq j i) = some r := e
      have sp : stepC tab ih (.bk i x) t h n ds = @Bool.rec (fun _ => Option Rs) (some ⟨.ex j, t1, h1, n1, d1⟩) (some ⟨.nrm, t1, h1, n1, d1⟩) (Nat.beq j i) := by
        show ob (ih x t h n ds) _ = _
        rw [q1]; rfl
      rw [sp]
      cases hb : Nat.beq j i with
      | true => rw [hb] at e; exact ⟨_, _, _, _, _, rfl, e⟩
      | false => rw [hb] at e; exact ⟨_, _, _, _, _, rfl, e⟩
    | ret => exact ⟨_, _, _, _, _, ob_iff.2 ⟨_, q1, rfl⟩, e⟩
  | lp x =>
    obtain ⟨x1, t1, h1, n1, d1, q1, e⟩ := hr _ _ _ _ _ _ _ (e : ihk x t h n ds (fun e t h n ds => @Ex.rec (fun _ => Ans) (ihk (.lp x) t h n ds k) (fun i => k (.ex i) t h n ds) (k .ret t h n ds) e) = some r)
    cases x1 with
    | nrm =>
      obtain ⟨x2, t2, h2, n2, d2, q2, e⟩ := hr _ _ _ _ _ _ _ (e : ihk (.lp x) t1 h1 n1 d1 k = some r)
      exact ⟨_, _, _, _, _, ob_iff.2 ⟨_, q1, q2⟩, e⟩
    | ex i => exact ⟨_, _, _, _, _, ob_iff.2 ⟨_, q1, rfl⟩, e⟩
    | ret => exact ⟨_, _, _, _, _, ob_iff.2 ⟨_, q1, rfl⟩, e⟩
  | rf f ps x y =>
    obtain ⟨v, q1, e⟩ := evK_ok (e : evK t f (fun v => newBK h n .df fun b h n => newBK h n (.lp .ready none t ps x y) fun l h n =>
      callKK tab ihk v l h n fun _ h n => getK l h fun o => @AO.rec (fun _ => Ans) (fun _ _ _ _ => none) (fun _ _ => none) (fun _ _ => none)
        (fun st p t0 ps x y => @LS.rec (fun _ => Ans)
          (setHK h l (.lp .exhausted p t0 ps x y) fun h => k (@Option.rec Ex (fun _ => Ex) .nrm (fun e => e) p) t h n (b :: ds)) none
          (setHK h l (.lp .exhausted p t0 ps x y) fun h => k (@Option.rec Ex (fun _ => Ex) .nrm (fun e => e) p) t h n (b :: ds)) none st) none o) = some r)
    rw [newBK_eq, newBK_eq] at e
    obtain ⟨u, h1, n1, q2, e⟩ := callKK_ok hr e
    obtain ⟨o, q3, e⟩ := getK_ok e
    have sp : stepC tab ih (.rf f ps x y) t h n ds = ob (h1.getP (inc n)) fun o => @AO.rec (fun _ => Option Rs) (fun _ _ _ _ => none) (fun _ _ => none) (fun _ _ => none)
        (fun st p t0 ps x y => @LS.rec (fun _ => Option Rs)
          (setH h1 (inc n) (some (.lp .exhausted p t0 ps x y)) fun h => some ⟨@Option.rec Ex (fun _ => Ex) .nrm (fun e => e) p, t, h, n1, n :: ds⟩) none
          (setH h1 (inc n) (some (.lp .exhausted p t0 ps x y)) fun h => some ⟨@Option.rec Ex (fun _ => Ex) .nrm (fun e => e) p, t, h, n1, n :: ds⟩) none st) none o := by
      show ob (ev t f) _ = _
      rw [q1, ob_some, newB_eq, newB_eq, q2]; rfl
    rw [sp, q3]
    cases o <;> first | (cases e; done) | skip
    rename_i st p t0 ps' x' y'
    cases st <;> first | (cases e; done) | skip
    all_goals
      have e : setK (inc n) (some (.lp .exhausted p t0 ps' x' y')) h1 (fun h => k (@Option.rec Ex (fun _ => Ex) .nrm (fun e => e) p) t h n1 (n :: ds)) = some r := e
      rw [setK_eq] at e
      refine ⟨_, _, _, _, _, ?_, e⟩
      show setH h1 (inc n) (some (.lp .exhausted p t0 ps' x' y')) (fun h => some (Rs.mk (@Option.rec Ex (fun _ => Ex) .nrm (fun e => e) p) t h n1 (n :: ds))) = _
      rw [setH_eq]
theorem runK_ok : ∀ fuel, RunR (runK tab fuel) (run tab fuel) := by
  intro fuel
  induction fuel with
  | zero => intro c t h n ds k r e; cases e
  | succ fuel ih => exact stepK_ok ih
/-- **a call that the second form carries out** -/
theorem callsK_ok {fuel : Nat} {g : List Bool} {vs : List AV} {k : K1} (e : callsK tab fuel g vs h n k = some r) : ∃ v h' n', calls tab fuel g vs h n = some ⟨v, h', n'⟩ ∧ k v h' n' = some r := callGK_ok (runK_ok fuel) _ _ _ _ _ _ e
end Go.Ev
end
section
namespace Go.Proofs
open Go.Shelf
def Tryz.lays199_ren : Go.Shelf.Ren := ⟨fun | 199 => 179 | 261 => 233 | 311 => 293 | 312 => 294 | n => n, fun | 21 => 21 | 4 => 4 | 51 => 302 | 141 => 330 | 0 => 0 | 196 => 378 | 193 => 375 | 3 => 3 | 198 => 381 | 49 => 379 | 194 => 376 | 201 => 384 | 226 => 414 | 46 => 201 | 227 => 415 | n => n, fun | 6 => 3 | n => n⟩
theorem Tryz.lays199 : Go.Proofs.Lays.n199 Tryz.prog Tryz.lays199_ren := {
  mixed := by kernel_rfl
  f199 := Tryz.func179.trans (congrArg some (by kernel_rfl))
  f261 := Tryz.func233.trans (congrArg some (by kernel_rfl))
  f311 := Tryz.func293.trans (congrArg some (by kernel_rfl))
  f312 := Tryz.func294.trans (congrArg some (by kernel_rfl))
  t0 := Tryz.underlying0
  a0 := Tryz.isAgg0
  z0 := Tryz.sizeOf0
  v0 := Tryz.zeroValue0
  t3 := Tryz.underlying3
  a3 := Tryz.isAgg3
  z3 := Tryz.sizeOf3
  v3 := Tryz.zeroValue3
  t4 := Tryz.underlying4
  a4 := Tryz.isAgg4
  z4 := Tryz.sizeOf4
  v4 := Tryz.zeroValue4
  t21 := Tryz.underlying21
  a21 := Tryz.isAgg21
  z21 := Tryz.sizeOf21
  v21 := Tryz.zeroValue21
  t46 := Tryz.underlying201
  a46 := Tryz.isAgg201
  z46 := Tryz.sizeOf201
  v46 := Tryz.zeroValue201
  t49 := Tryz.underlying379
  a49 := Tryz.isAgg379
  z49 := Tryz.sizeOf379
  v49 := Tryz.zeroValue379
  t51 := Tryz.underlying302
  a51 := Tryz.isAgg302
  z51 := Tryz.sizeOf302
  v51 := Tryz.zeroValue302
  t141 := Tryz.underlying330
  a141 := Tryz.isAgg330
  z141 := Tryz.sizeOf330
  v141 := Tryz.zeroValue330
  t193 := Tryz.underlying375
  a193 := Tryz.isAgg375
  z193 := Tryz.sizeOf375
  v193 := Tryz.zeroValue375
  t194 := Tryz.underlying376
  a194 := Tryz.isAgg376
  z194 := Tryz.sizeOf376
  v194 := Tryz.zeroValue376
  t196 := Tryz.underlying378
  a196 := Tryz.isAgg378
  z196 := Tryz.sizeOf378
  v196 := Tryz.zeroValue378
  t198 := Tryz.underlying381
  a198 := Tryz.isAgg381
  z198 := Tryz.sizeOf381
  v198 := Tryz.zeroValue381
  t201 := Tryz.underlying384
  a201 := Tryz.isAgg384
  z201 := Tryz.sizeOf384
  v201 := Tryz.zeroValue384
  t226 := Tryz.underlying414
  a226 := Tryz.isAgg414
  z226 := Tryz.sizeOf414
  v226 := Tryz.zeroValue414
  t227 := Tryz.underlying415
  a227 := Tryz.isAgg415
  z227 := Tryz.sizeOf415
  v227 := Tryz.zeroValue415
  g6 := by kernel_rfl }
end Go.Proofs
end
section
namespace Go.Ev
open Go.RowKit Go.Proofs
open Tr (path)
theorem fenced_open {P : Program} {F : Fence} (hF : Open F) (m : Machine) : m.fenced P F :=
  fun g _ => ⟨fun h => (by rw [hF.alive] at h; cases h), Or.inl (hF.fn _), fun f _ => hF.fn f, fun d hd => (by rw [hF.depth] at hd; cases hd)⟩
theorem calls_open {P : Program} {F : Fence} (hF : Open F) {g : Nat} {args : Array Value} {w : World} {R : Ending → World → Prop} (h : Calls P g args w R) : CallsIn F 0 P g args w R :=
  ⟨hF.fn g, fun cs _ => by
    obtain ⟨e, w', fr, r, s, x⟩ := h cs
    refine ⟨e, w', fr, r, ?_, x⟩
    cases e with
    | returned v => exact (StepsIn.of_steps s).mono fun m _ => fenced_open hF m
    | panicked chain => exact (StepsIn.of_steps s).mono fun m _ => fenced_open hF m
    | outgrown => exact s⟩
theorem St.below {cr : Nat → AC → Code → Prop} {φ : Phi} {h : Hp} {n : List Bool} {w w' : World} (r : WR cr φ h w) (f : Fresh φ n) (hl : Below w.heap.size w w') : St cr φ h n w φ h n w' := by
  refine ⟨⟨fun b o β e q => ?_, r.inj, fun q hq => ?_⟩, f, .refl φ, ⟨hl.os, hl.tape, hl.output⟩, hl.size, fun β hβ _ => hl.block β hβ, fun b β e q => (by rw [e] at q; cases q), fun b o e _ => ⟨o, e, rfl⟩, Nat.le_refl _⟩
  · obtain ⟨y, hy, k⟩ := r.blk b o β e q
    exact ⟨y, by rw [hl.block β (Array.getElem?_eq_some_iff.1 hy).1]; exact hy, k⟩
  · obtain ⟨x1, x2⟩ := r.fx q hq
    exact ⟨by rw [hl.block _ (Array.getElem?_eq_some_iff.1 x1).1]; exact x1, x2⟩
theorem isSp_eq (c : Nat) : isSp c = Lib.isSpaceR c := by
  unfold isSp Lib.isSpaceR
  apply Bool.eq_iff_iff.2
  simp
theorem kix2 {k : IntKind} (h : Nat.beq (kix k) 2 = true) : k = .i32 := by cases k <;> first | rfl | cases h
theorem sp_ok (D : DrChk) : OrcOk Tryz.prog (crOf Tryz.prog D) 179 spF := by
  intro F hF vs h n v h' n' φ w vs' e hv hg r f
  obtain ⟨l⟩ := vs'
  obtain ⟨cb, hcb⟩ := Option.isSome_iff_exists.1 (show Tryz.f179.body.isSome = true by kernel_rfl)
  have hen : (callFunc 179 ⟨l⟩).run Tryz.prog w = .ok (.enter 179 ⟨l⟩) w := enters_of Tryz.func179 (by kernel_rfl) hcb ⟨l⟩ w
  refine ⟨hen, ?_⟩
  cases vs with
  | nil => cases e
  | cons x vs => cases vs with
    | cons y vs => cases e
    | nil =>
      have e : asI x (fun k c => guardB (Nat.beq (kix k) (nat_lit 2)) (nn1 c fun c => guardB (Nat.ble c (nat_lit 1114111)) (r1o (mkB (isSp c)) h n))) = some ⟨v, h', n'⟩ := e
      obtain ⟨k, c, rfl, e⟩ := asI_iff.1 e
      obtain ⟨e1, e⟩ := guardB_iff.1 e
      obtain ⟨c, rfl, e⟩ := nn1_iff.1 e
      obtain ⟨e2, e⟩ := guardB_iff.1 e
      obtain ⟨e3, rfl, rfl⟩ := r1o_iff.1 e
      obtain rfl := kix2 e1
      have hc : c ≤ 1114111 := Nat.le_of_ble_eq_true e2
      rw [mkB_eq] at e3
      cases e3
      cases hv with
      | cons _ v' _ vs' q qs =>
        cases qs
        cases q
        have hw := hg.white w fun q hq => (r.fx q hq).1
        have := Any.unicode_IsSpace_any Tryz.lays199 (c : Int) w (by omega) (by omega) hw
        refine (calls_open hF this).mono fun e w' ⟨he, hb⟩ => ?_
        rw [Lib.isSpaceZ_nat, ← isSp_eq] at he
        exact ⟨_, he, φ, .b _, St.below r f hb⟩
theorem ent_sp (D : DrChk) : EntOk Tryz.prog D 179 (.orc spF) := by
  unfold EntOk
  intro F hF vs h n v h' n' φ w vs' e a b c d
  exact sp_ok D hF e a b c d
end Go.Ev
end
section
namespace Go.Ev
open Go.Proofs
open Tr (path)
theorem ents0 : chkEnts Tryz.prog ((ents.drop 0).take 21) = true := by kernel_rfl
theorem ents1 : chkEnts Tryz.prog ((ents.drop 21).take 21) = true := by kernel_rfl
theorem ents2 : chkEnts Tryz.prog ((ents.drop 42).take 21) = true := by kernel_rfl
theorem ents3 : chkEnts Tryz.prog ((ents.drop 63).take 21) = true := by kernel_rfl
theorem ents4 : chkEnts Tryz.prog ((ents.drop 84).take 21) = true := by kernel_rfl
theorem ents5 : chkEnts Tryz.prog ((ents.drop 105).take 21) = true := by kernel_rfl
theorem ents6 : chkEnts Tryz.prog ((ents.drop 126).take 21) = true := by kernel_rfl
theorem ents7 : chkEnts Tryz.prog ((ents.drop 147).take 21) = true := by kernel_rfl
theorem ents_split : ents = ((ents.drop 0).take 21 ++ ((ents.drop 21).take 21 ++ ((ents.drop 42).take 21 ++ ((ents.drop 63).take 21 ++ ((ents.drop 84).take 21 ++ ((ents.drop 105).take 21 ++ ((ents.drop 126).take 21 ++ (ents.drop 147).take 21))))))) := by kernel_rfl
theorem chkEnts_app {P : Program} : ∀ {a b : List (Nat × AFn)}, chkEnts P a = true → chkEnts P b = true → chkEnts P (a ++ b) = true
  | [], _, _, h => h
  | q :: a, b, h, k => by
    rw [chkEnts, Bool.and_eq_true] at h
    rw [List.cons_append, chkEnts, Bool.and_eq_true]
    exact ⟨h.1, chkEnts_app h.2 k⟩
theorem ents_ok : chkEnts Tryz.prog ents = true := by
  have h := chkEnts_app ents0 (chkEnts_app ents1 (chkEnts_app ents2 (chkEnts_app ents3 (chkEnts_app ents4 (chkEnts_app ents5 (chkEnts_app ents6 (ents7)))))))
  rw [← ents_split] at h
  exact h
theorem tab_build : tab = buildT ents := rfl
theorem mixed : Tryz.prog.follows .mixedOrders = true := by kernel_rfl
def natOnly : List (Nat × AFn) → Bool
  | [] => true
  | (_, .go _ _ _) :: es => natOnly es
  | (g, .xIndexByteString) :: es => Nat.beq g 303 && natOnly es
  | (g, .orc _) :: es => Nat.beq g 179 && natOnly es
theorem natOnly_ok : ∀ {es : List (Nat × AFn)}, natOnly es = true → ∀ g fn, (g, fn) ∈ es → (∃ ps rs c, fn = .go ps rs c) ∨ (fn = .xIndexByteString ∧ g = 303) ∨ ((∃ f, fn = .orc f) ∧ g = 179)
  | [], _, g, fn, h => by cases h
  | (q, .go ps rs c) :: es, e, g, fn, h => by
    rcases List.mem_cons.1 h with h1 | h1
    · cases h1; exact .inl ⟨_, _, _, rfl⟩
    · exact natOnly_ok (es := es) e g fn h1
  | (q, .xIndexByteString) :: es, e, g, fn, h => by
    rw [natOnly, Bool.and_eq_true] at e
    rcases List.mem_cons.1 h with h1 | h1
    · cases h1; exact .inr (.inl ⟨rfl, Nat.eq_of_beq_eq_true e.1⟩)
    · exact natOnly_ok (es := es) e.2 g fn h1
  | (q, .orc f) :: es, e, g, fn, h => by
    rw [natOnly, Bool.and_eq_true] at e
    rcases List.mem_cons.1 h with h1 | h1
    · cases h1; exact .inr (.inr ⟨⟨_, rfl⟩, Nat.eq_of_beq_eq_true e.1⟩)
    · exact natOnly_ok (es := es) e.2 g fn h1
theorem nat_here : NatOk Tryz.prog 303 := ⟨Tryz.f303, Tryz.func303, by kernel_rfl, by kernel_rfl, by kernel_rfl, by kernel_rfl⟩
theorem natOnly_ents : natOnly ents = true := by kernel_rfl
theorem tab179 : tab.getP (pathF 180 179) = some (.orc spF) := by kernel_rfl
theorem tab4 : tab.getP (pathF 5 4) = some a4 := by kernel_rfl
def isGoFn : AFn → Bool
  | .go _ _ _ => true
  | _ => false
theorem isGoFn_ok : ∀ {f : AFn}, isGoFn f = true → ∃ ps rs c, f = .go ps rs c
  | .go ps rs c, _ => ⟨ps, rs, c, rfl⟩
theorem a4_go : ∃ ps rs c, a4 = .go ps rs c := isGoFn_ok (by kernel_rfl)
theorem tab_ok : TabOk Tryz.prog (chkDr Tryz.prog) tab := by
  intro g fn e
  have e0 := e
  rw [tab_build] at e
  have hm := buildT_get e
  rcases natOnly_ok natOnly_ents g fn hm with ⟨ps, rs, c, rfl⟩ | ⟨rfl, rfl⟩ | ⟨⟨f, rfl⟩, rfl⟩
  · have h := chkEnts_ok (es := ents) ents_ok g (.go ps rs c) hm
    unfold chkEnt at h
    exact h
  · exact nat_here
  · have h := tab179
    rw [pathF_eq 180 179 (by omega), e0] at h
    cases h
    exact @ent_sp (chkDr Tryz.prog)
/-- **answers() gives true**, in every world in which Go's own tables lie as they were laid -/
theorem answers_calls {F : Fence} (hF : Open F) (run : (callsK tab 10000000 (pathF 5 4) [] heap0 next0 fun v _ _ => aB v fun b => @Bool.rec (fun _ => Ans) none (some ⟨.b true, .leaf, []⟩) b) = some ⟨.b true, .leaf, []⟩)
    {φ : Phi} {w : World} (hgl : GL φ) (r : WR (crOf Tryz.prog (chkDr Tryz.prog)) φ heap0.getP w) (f : Fresh φ next0) :
    CallsIn F 0 Tryz.prog 4 #[] w fun e w' => e = .returned (.bool true) ∧ ∃ φ' h' n', St (crOf Tryz.prog (chkDr Tryz.prog)) φ heap0.getP next0 w φ' h' n' w' := by
  obtain ⟨v, h', n', h1, h2⟩ := callsK_ok run
  have h2 : aB v (fun b => @Bool.rec (fun _ => Ans) none (some ⟨.b true, .leaf, []⟩) b) = some ⟨.b true, .leaf, []⟩ := h2
  obtain ⟨b, rfl, h3⟩ := aB_ok h2
  cases b with
  | false => cases h3
  | true =>
    have hp : pathF 5 4 = path 4 := pathF_eq 5 4 (by omega)
    rw [hp] at h1
    obtain ⟨ps, rs, c, ha⟩ := a4_go
    have hg : tab.getP (path 4) = some (.go ps rs c) := by rw [← pathF_eq 5 4 (by omega), ← ha]; exact tab4
    refine (calls_ok mixed tab_ok hF hg h1 (vs' := #[]) .nil hgl r f).mono fun e w' he => ?_
    obtain ⟨v', rfl, φ', k1, k2⟩ := he
    cases k1
    exact ⟨rfl, φ', _, n', k2⟩
end Go.Ev
end
section
namespace Go.Ev
open Go.RowKit Go.Proofs
open Tr (path)
/-- the names in which answers() begins -/
def at0 (b : List Bool) : Option Nat := if val b < nGlob then some (val b) else none
theorem val_path : ∀ n, val (path n) = n := by
  intro n
  induction n using Nat.strongRecOn with
  | _ n ih =>
    cases n with
    | zero => simp only [path, val]
    | succ n =>
      simp only [path]
      split
      · rw [val, ih _ (by omega)]; omega
      · rw [val, ih _ (by omega)]; omega
theorem at0_path {g : Nat} (h : g < nGlob) : at0 (path g) = some g := by unfold at0; rw [val_path, if_pos h]
theorem cell_of {w : World} {b o : Nat} {v : Value} (h : w.cell? ⟨b, o, none⟩ = some v) : ∃ x, w.heap[b]? = some x ∧ ∀ w' : World, w'.heap[b]? = some x → ∀ o, w'.cell? ⟨b, o, none⟩ = w.cell? ⟨b, o, none⟩ := by
  cases q : w.heap[b]? with
  | none => rw [World.cell?, q] at h; cases h
  | some x => exact ⟨x, rfl, fun w' q' o => by simp only [World.cell?, q, q']⟩
theorem cells_of {w : World} {g : Nat} {l : List Nat} (h : ∀ j, j < l.length → w.cell? ⟨g, j, none⟩ = some (.int .u8 ((l.getD j 0 : Nat) : Int))) (h0 : 0 < l.length) :
    ∃ cs t fz, w.heap[g]? = some (.cells cs t fz) ∧ ∀ j, j < l.length → cs[j]? = (l.map fun n => Value.int .u8 ((n : Nat) : Int))[j]? := by
  have hc := h 0 h0
  cases q : w.heap[g]? with
  | none => rw [World.cell?, q] at hc; cases hc
  | some x => cases x with
    | cells cs t fz =>
      refine ⟨cs, t, fz, rfl, fun j hj => ?_⟩
      have := h j hj
      simp only [World.cell?, q, Option.isSome_none, Bool.false_eq_true, if_false] at this
      rw [this, List.getElem?_map, List.getElem?_eq_getElem hj, List.getD_eq_getElem?_getD, List.getElem?_eq_getElem hj]
      rfl
    | _ => rw [World.cell?, q] at hc; cases hc
theorem bytesV_vr (φ : Phi) : ∀ l : List Nat, VRs φ (bytesV l) (l.map fun n => Value.int .u8 ((n : Nat) : Int))
  | [] => .nil
  | n :: l => by
    have e : bytesV (n :: l) = lcons (.i .u8 (Int.ofNat n)) (bytesV l) := rfl
    rw [e, lcons_eq]
    exact .cons _ _ _ _ (.i _ _) (bytesV_vr φ l)
theorem bytesV_one : ∀ l : List Nat, (bytesV l).all one = true
  | [] => rfl
  | n :: l => by
    have e : bytesV (n :: l) = lcons (.i .u8 (Int.ofNat n)) (bytesV l) := rfl
    rw [e, lcons_eq, List.all_cons, bytesV_one l]; rfl
theorem bytesV_len (l : List Nat) : (bytesV l).length = l.length := by
  have := (bytesV_vr ⟨fun _ => none, fun _ => 0, []⟩ l).length
  rw [this, List.length_map]
theorem row_ro {cr : Nat → AC → Code → Prop} {φ : Phi} {w : World} {g z k : Nat} {l : List Nat} (h : ∀ j, j < l.length → w.cell? ⟨g, j, none⟩ = some (.int .u8 ((l.getD j 0 : Nat) : Int))) (h0 : 0 < l.length) (hl : l.length = k * z) :
    ∃ x, w.heap[g]? = some x ∧ OR cr φ 0 (.row z k false (storeE z k (bytesV l) .leaf 0)) x := by
  obtain ⟨cs, t, fz, q, hc⟩ := cells_of h h0
  have hs : l.length ≤ cs.size := by
    have := hc (l.length - 1) (by omega)
    rw [List.getElem?_map, List.getElem?_eq_getElem (by omega)] at this
    have := (Array.getElem?_eq_some_iff.1 this).1
    omega
  refine ⟨_, q, ?_⟩
  refine ⟨by rw [← hl]; exact hs, storeE_ok (cs := cs) (fun i vs e => by cases e) (bytesV_vr φ l) (bytesV_one l) k 0 (by rw [bytesV_len, hl]) fun j => ?_, fun e => (by cases e), (by rw [Nat.zero_mul]; exact Nat.zero_le _), fun e he => (by rw [storeE_get, if_neg (by omega)]; rfl)⟩
  split
  · rename_i hj
    rw [List.length_map] at hj
    rw [hc j (by omega)]; congr 1; omega
  · rfl
/-- the tables, as the walk's first world must hold them -/
structure Tables (w : World) : Prop where
  space : ∀ j, j < 256 → w.cell? ⟨1, j, none⟩ = some (.int .u8 ((l1.getD j 0 : Nat) : Int))
  utf8 : Lib.Utf8Tabs 4 5 w
  white : White w
theorem l4_is : ((List.range 256).all fun c => Nat.beq (l4.getD c 0) (Lib.firstT c)) = true := by kernel_rfl
theorem l5_is : ((List.range 16).all fun c => Nat.beq (l5.getD (2 * c) 0) (Lib.accLo c) && Nat.beq (l5.getD (2 * c + 1) 0) (Lib.accHi c)) = true := by kernel_rfl
theorem heap0_get {b : List Bool} {o : AO} (e : heap0.getP b = some o) : (b = path 1 ∧ o = row1) ∨ (b = path 4 ∧ o = row4) ∨ (b = path 5 ∧ o = row5) := by
  have p1 : ([true] : List Bool) = path 1 := by rw [← pathF_eq 8 1 (by omega)]; rfl
  have p4 : ([false, true] : List Bool) = path 4 := by rw [← pathF_eq 8 4 (by omega)]; rfl
  have p5 : ([true, false] : List Bool) = path 5 := by rw [← pathF_eq 8 5 (by omega)]; rfl
  unfold heap0 at e
  rw [Tr.getP_setP] at e
  split at e
  · rename_i h; cases e; exact .inr (.inr ⟨by rw [← p5, h], rfl⟩)
  · rw [Tr.getP_setP] at e
    split at e
    · rename_i h; cases e; exact .inr (.inl ⟨by rw [← p4, h], rfl⟩)
    · rw [Tr.getP_setP] at e
      split at e
      · rename_i h; cases e; exact .inl ⟨by rw [← p1, h], rfl⟩
      · rw [Tr.getP_leaf] at e; cases e
theorem begin_ok (cr : Nat → AC → Code → Prop) {w : World} (T : Tables w) : ∃ φ : Phi, GL φ ∧ WR cr φ heap0.getP w ∧ Fresh φ next0 := by
  obtain ⟨Tb, oT, R, oR, w1, w2, w3, w4, w5⟩ := T.white
  obtain ⟨x3, q3, k3⟩ := cell_of w1
  obtain ⟨xT, qT, kT⟩ := cell_of w2
  obtain ⟨xR, qR, kR⟩ := cell_of (w5 0 (by omega))
  have hro : ∀ b o, heap0.getP b = some o → ro o = true := fun b o e => by
    rcases heap0_get e with ⟨_, rfl⟩ | ⟨_, rfl⟩ | ⟨_, rfl⟩ <;> rfl
  have e1 : l1.length = 256 := by kernel_rfl
  have e4 : l4.length = 256 := by kernel_rfl
  have e5 : l5.length = 32 := by kernel_rfl
  have s4 : ∀ j, j < l4.length → w.cell? ⟨4, j, none⟩ = some (.int .u8 ((l4.getD j 0 : Nat) : Int)) := fun j hj => by
    have := List.all_eq_true.1 l4_is j (List.mem_range.2 (by omega))
    rw [Nat.eq_of_beq_eq_true this]
    exact T.utf8.1 j (by omega)
  have s5 : ∀ j, j < l5.length → w.cell? ⟨5, j, none⟩ = some (.int .u8 ((l5.getD j 0 : Nat) : Int)) := fun j hj => by
    have := List.all_eq_true.1 l5_is (j / 2) (List.mem_range.2 (by omega))
    rw [Bool.and_eq_true] at this
    have a1 := Nat.eq_of_beq_eq_true this.1
    have a2 := Nat.eq_of_beq_eq_true this.2
    obtain ⟨b1, b2⟩ := T.utf8.2 (j / 2) (by omega)
    rcases Nat.mod_two_eq_zero_or_one j with h | h
    · have hj2 : 2 * (j / 2) = j := by omega
      rw [hj2] at a1 b1
      rw [a1]; exact b1
    · have hj2 : 2 * (j / 2) + 1 = j := by omega
      rw [hj2] at a2 b2
      rw [a2]; exact b2
  refine ⟨⟨at0, fun _ => 0, [(3, x3), (Tb, xT), (R, xR)]⟩, ⟨fun g hg => at0_path hg, fun w' hw' => ?_⟩, ⟨?_, ?_, ?_⟩, ?_⟩
  · have k3 := k3 w' (hw' (3, x3) (by simp))
    have kT := kT w' (hw' (Tb, xT) (by simp))
    have kR := kR w' (hw' (R, xR) (by simp))
    exact ⟨Tb, oT, R, oR, (k3 0).trans w1, (kT oT).trans w2, (kT _).trans w3, (kT _).trans w4, fun i hi => (kR _).trans (w5 i hi)⟩
  · intro b o β e q
    rcases heap0_get e with ⟨rfl, rfl⟩ | ⟨rfl, rfl⟩ | ⟨rfl, rfl⟩
    · obtain rfl : 1 = β := Option.some.inj ((at0_path (by decide)).symm.trans q)
      exact row_ro (fun j hj => T.space j (by omega)) (by omega) (by omega)
    · obtain rfl : 4 = β := Option.some.inj ((at0_path (by decide)).symm.trans q)
      exact row_ro s4 (by omega) (by omega)
    · obtain rfl : 5 = β := Option.some.inj ((at0_path (by decide)).symm.trans q)
      exact row_ro s5 (by omega) (by omega)
  · intro b b' o o' β _ _ q q'
    have q : at0 b = some β := q
    have q' : at0 b' = some β := q'
    unfold at0 at q q'
    split at q
    · split at q'
      · exact val_inj ((Option.some.inj q).trans (Option.some.inj q').symm)
      · cases q'
    · cases q
  · intro q hq
    refine ⟨?_, fun b o e _ => hro b o e⟩
    simp only [List.mem_cons, List.mem_nil_iff, or_false] at hq
    rcases hq with rfl | rfl | rfl
    · exact q3
    · exact qT
    · exact qR
  · intro b β q
    have q : at0 b = some β := q
    unfold at0 at q
    split at q
    · rename_i h
      have : val next0 = 16 := rfl
      unfold nGlob at h
      omega
    · cases q
/-- **answers() gives true**, wherever the tables lie as they were laid; nothing that was there turns -/
theorem answers_in {F : Fence} (hF : Open F) (run : (callsK tab 10000000 (pathF 5 4) [] heap0 next0 fun v _ _ => aB v fun b => @Bool.rec (fun _ => Ans) none (some ⟨.b true, .leaf, []⟩) b) = some ⟨.b true, .leaf, []⟩) {w : World} (T : Tables w) :
    CallsIn F 0 Tryz.prog 4 #[] w fun e w' => e = .returned (.bool true) ∧ Below w.heap.size w w' := by
  obtain ⟨φ, hgl, r, f⟩ := begin_ok (crOf Tryz.prog (chkDr Tryz.prog)) T
  refine (answers_calls hF run hgl r f).mono fun e w' ⟨he, φ', h', n', s⟩ => ⟨he, s.ax.os, s.ax.tape, s.ax.output, s.size, fun k hk => s.old k hk fun b o e _ => ?_⟩
  rcases heap0_get e with ⟨_, rfl⟩ | ⟨_, rfl⟩ | ⟨_, rfl⟩ <;> rfl
end Go.Ev
end
section
namespace Go.Ev
open Go.RowKit Go.Proofs Go.Lib
def renU : Go.Shelf.Ren := ⟨fun n => n, fun | 5 => 5 | 119 => 275 | 138 => 407 | 139 => 408 | n => n, fun | 3 => 4 | 4 => 5 | n => n⟩
theorem u8types : U8Types Tryz.prog renU := ⟨by kernel_rfl, by kernel_rfl, by kernel_rfl, by kernel_rfl⟩
theorem u8extra : U8Extra Tryz.prog renU := ⟨by kernel_rfl, by kernel_rfl, by kernel_rfl, by kernel_rfl, by kernel_rfl, by kernel_rfl, by kernel_rfl⟩
theorem whitex : WhiteExtra Tryz.prog Tryz.lays199_ren := ⟨by kernel_rfl, by kernel_rfl, by kernel_rfl, by kernel_rfl, by kernel_rfl, by kernel_rfl, by kernel_rfl, by kernel_rfl⟩
theorem space_data : (YtkhnnbfgjfkfeaaGreatDoor.Rows.laid_strings_asciiSpace : DataW Unit) = tabData .u8 (l1.map fun n : Nat => (n : Int)) := by kernel_rfl
theorem first_data : YtkhnnbfgjfkfeaaGreatDoor.Rows.laid_unicode_utf8_first = firstData := by kernel_rfl
theorem accept_data : (YtkhnnbfgjfkfeaaGreatDoor.Rows.laid_unicode_utf8_acceptRanges : DataW Unit) = acceptData := by kernel_rfl
theorem white_data : (YtkhnnbfgjfkfeaaGreatDoor.Rows.laid_unicode_White_Space : DataW Unit) = whiteData := by kernel_rfl
theorem space_of {w : World} (h : VarReads Tryz.prog w "strings.asciiSpace" (tabData .u8 (l1.map fun n : Nat => (n : Int)))) : ∀ j, j < 256 → w.cell? ⟨1, j, none⟩ = some (.int .u8 ((l1.getD j 0 : Nat) : Int)) := by
  obtain ⟨g, t, cs, fuel, p, hg, hty, hvar, hd⟩ := h
  have k1 : Tryz.prog.globalNamed "strings.asciiSpace" = some 1 := by kernel_rfl
  have k2 : (Tryz.prog.globals[1]?).map (·.type) = some 275 := by kernel_rfl
  obtain rfl := Option.some.inj (k1.symm.trans hg)
  obtain rfl := Option.some.inj (k2.symm.trans hty)
  have hcs := cells_of_tab (n := 256) (e := 5) (by kernel_rfl) (by kernel_rfl) (by kernel_rfl) (by kernel_rfl) hd
  intro j hj
  have := World.var?_cell hg hvar j
  have e1 : l1.length = 256 := by kernel_rfl
  rw [this, ← Array.getElem?_toList, hcs, List.getElem?_map, List.getElem?_map, List.getElem?_eq_getElem (by omega), List.getD_eq_getElem?_getD, List.getElem?_eq_getElem (by omega)]
  rfl
/-- what the row lists, but for the type's handle -/
def nine : List (String × DataW Unit) := [("unicode/utf8.first", YtkhnnbfgjfkfeaaGreatDoor.Rows.laid_unicode_utf8_first), ("unicode/utf8.acceptRanges", YtkhnnbfgjfkfeaaGreatDoor.Rows.laid_unicode_utf8_acceptRanges), ("strings.asciiSpace", YtkhnnbfgjfkfeaaGreatDoor.Rows.laid_strings_asciiSpace), ("unicode.White_Space", YtkhnnbfgjfkfeaaGreatDoor.Rows.laid_unicode_White_Space), ("strconv.ErrSyntax", YtkhnnbfgjfkfeaaGreatDoor.Rows.laid_strconv_ErrSyntax), ("strconv.ErrRange", YtkhnnbfgjfkfeaaGreatDoor.Rows.laid_strconv_ErrRange), ("internal/strconv.uint64pow10", YtkhnnbfgjfkfeaaGreatDoor.Rows.laid_internal_strconv_uint64pow10), ("math/bits.deBruijn32tab", YtkhnnbfgjfkfeaaGreatDoor.Rows.laid_math_bits_deBruijn32tab), ("math/bits.deBruijn64tab", YtkhnnbfgjfkfeaaGreatDoor.Rows.laid_math_bits_deBruijn64tab)]
theorem tables_of {w : World} (h : laidMet Tryz.prog nine w) : Tables w := by
  unfold nine at h
  rw [space_data, first_data, accept_data, white_data] at h
  exact ⟨space_of (laidMet.reads h (.tail _ (.tail _ (.head _)))), utf8Tabs_of_readsT u8types u8extra (laidMet.reads h (.head _)) (laidMet.reads h (.tail _ (.head _))), whiteTab_of_reads (ρ := Tryz.lays199_ren) { Tryz.lays199 with } whitex (laidMet.reads h (.tail _ (.tail _ (.tail _ (.head _)))))⟩
end Go.Ev
end
