/- The check of a program by reckoning: which functions and constants meet the conditions of the plain model. Conditions: none; the program is the given one. -/
import Derived.Test.YtkhnnbfgjfkfeaaGreatDoorKEvA
import Derived.Test.YtkhnnbfgjfkfeaaGreatDoorProg
section
namespace Go.Ev
set_option linter.unusedVariables false

abbrev Ans := Option R1
abbrev K1 := AV → Tr AO → List Bool → Ans
abbrev ClK := List Bool → List AV → Tr AO → List Bool → K1 → Ans
abbrev ClvK := AV → List AV → Tr AO → List Bool → K1 → Ans
abbrev KR := Ex → Tr AV → Tr AO → List Bool → List (List Bool) → Ans
abbrev RunK := AC → Tr AV → Tr AO → List Bool → List (List Bool) → KR → Ans
abbrev KT := Tr AV → Tr AO → List Bool → Ans
abbrev OpK := ClK → ClvK → Tr AV → Tr AO → List Bool → K1 → Ans
noncomputable def un1 (k : K1) (r : R1) : Ans := @R1.rec (fun _ => Ans) (fun v h n => k v h n) r

/-! ### trees -/
noncomputable def getK {α : Type} (p : List Bool) : Tr α → (α → Ans) → Ans :=
  @List.rec Bool (fun _ => Tr α → (α → Ans) → Ans) (fun t k => @Tr.rec α (fun _ => Ans) none (fun v _ _ _ _ => @Option.rec α (fun _ => Ans) none k v) t)
    (fun b _ ih t k => @Tr.rec α (fun _ => Ans) none (fun _ l r _ _ => @Bool.rec (fun _ => Ans) (ih r k) (ih l k) b) t) p
noncomputable def setK {α : Type} (p : List Bool) (y : Option α) : Tr α → (Tr α → Ans) → Ans :=
  @List.rec Bool (fun _ => Tr α → (Tr α → Ans) → Ans) (fun t k => @Tr.rec α (fun _ => Ans) (k (.node y .leaf .leaf)) (fun _ l r _ _ => k (.node y l r)) t)
    (fun b _ ih t k => @Tr.rec α (fun _ => Ans) (@Bool.rec (fun _ => Ans) (ih .leaf fun t => k (.node none .leaf t)) (ih .leaf fun t => k (.node none t .leaf)) b)
      (fun x l r _ _ => @Bool.rec (fun _ => Ans) (ih r fun t => k (.node x l t)) (ih l fun t => k (.node x t r)) b) t) p
/-- by number; 'd': as many steps at the most -/
noncomputable def getN {α : Type} (d : Nat) : Tr α → Nat → (α → Ans) → Ans :=
  @Nat.rec (fun _ => Tr α → Nat → (α → Ans) → Ans) (fun _ _ _ => none)
    (fun _ ih t n k => @Tr.rec α (fun _ => Ans) none (fun v l r _ _ => @Nat.rec (fun _ => Ans) (@Option.rec α (fun _ => Ans) none k v)
      (fun m _ => @Bool.rec (fun _ => Ans) (forceN (Nat.div m (nat_lit 2)) fun m => ih r m k) (forceN (Nat.div (Nat.succ m) (nat_lit 2)) fun m => ih l m k) (Nat.beq (Nat.mod m (nat_lit 2)) (nat_lit 0))) n) t) d

/-! ### what a value is: no branch names what comes next -/
noncomputable def aI (v : AV) : (IntKind → Int → Ans) → Ans := @AV.rec (fun _ => (IntKind → Int → Ans) → Ans) (fun _ => PUnit) (fun _ _ => none) (fun q n k => k q n) (fun _ _ => none) (fun _ => none) (fun _ _ _ => none) (fun _ => none) (fun _ _ _ _ _ _ => none) (fun _ => none) (fun _ _ => none) (fun _ => none) (fun _ _ _ _ _ _ => none) (fun _ _ => none) (fun _ => none) (fun _ _ _ _ => none) (fun _ _ _ => none) (fun _ _ _ => none) PUnit.unit (fun _ _ _ _ => PUnit.unit) v
noncomputable def aB (v : AV) : (Bool → Ans) → Ans := @AV.rec (fun _ => (Bool → Ans) → Ans) (fun _ => PUnit) (fun x k => k x) (fun _ _ _ => none) (fun _ _ => none) (fun _ => none) (fun _ _ _ => none) (fun _ => none) (fun _ _ _ _ _ _ => none) (fun _ => none) (fun _ _ => none) (fun _ => none) (fun _ _ _ _ _ _ => none) (fun _ _ => none) (fun _ => none) (fun _ _ _ _ => none) (fun _ _ _ => none) (fun _ _ _ => none) PUnit.unit (fun _ _ _ _ => PUnit.unit) v
noncomputable def aS (v : AV) : (List Nat → Ans) → Ans := @AV.rec (fun _ => (List Nat → Ans) → Ans) (fun _ => PUnit) (fun _ _ => none) (fun _ _ _ => none) (fun l k => k l) (fun _ => none) (fun _ _ _ => none) (fun _ => none) (fun _ _ _ _ _ _ => none) (fun _ => none) (fun _ _ => none) (fun _ => none) (fun _ _ _ _ _ _ => none) (fun _ _ => none) (fun _ => none) (fun _ _ _ _ => none) (fun _ _ _ => none) (fun _ _ _ => none) PUnit.unit (fun _ _ _ _ => PUnit.unit) v
noncomputable def aP (v : AV) : (List Bool → Nat → Ans) → Ans := @AV.rec (fun _ => (List Bool → Nat → Ans) → Ans) (fun _ => PUnit) (fun _ _ => none) (fun _ _ _ => none) (fun _ _ => none) (fun _ => none) (fun b o k => k b o) (fun _ => none) (fun _ _ _ _ _ _ => none) (fun _ => none) (fun _ _ => none) (fun _ => none) (fun _ _ _ _ _ _ => none) (fun _ _ => none) (fun _ => none) (fun _ _ _ _ => none) (fun _ _ _ => none) (fun _ _ _ => none) PUnit.unit (fun _ _ _ _ => PUnit.unit) v
noncomputable def aT (v : AV) : (List AV → Ans) → Ans := @AV.rec (fun _ => (List AV → Ans) → Ans) (fun _ => PUnit) (fun _ _ => none) (fun _ _ _ => none) (fun _ _ => none) (fun _ => none) (fun _ _ _ => none) (fun _ => none) (fun _ _ _ _ _ _ => none) (fun _ => none) (fun _ _ => none) (fun _ => none) (fun _ _ _ _ _ _ => none) (fun _ _ => none) (fun _ => none) (fun _ _ _ _ => none) (fun _ _ _ => none) (fun l _ k => k l) PUnit.unit (fun _ _ _ _ => PUnit.unit) v
noncomputable def vcK (v : AV) : (List AV → Ans) → Ans := @AV.rec (fun _ => (List AV → Ans) → Ans) (fun _ => PUnit) (fun x k => k [.b x]) (fun q n k => k [.i q n]) (fun l k => k [.s l]) (fun k => k [.pn]) (fun b o k => k [.p b o]) (fun k => k [.sn]) (fun b o n c x k => k [.sl b o n c x]) (fun k => k [.mn]) (fun r k => k [.m r]) (fun k => k [.fn]) (fun g x y _ _ k => k [.f g x y]) (fun l k => k [.y l]) (fun k => k [.inil]) (fun t v _ k => k [.ifc t v]) (fun l _ k => k l) (fun l _ k => k []) PUnit.unit (fun _ _ _ _ => PUnit.unit) v
noncomputable def aL (v : AV) : Ans → (List Bool → Nat → Nat → Nat → Bool → Ans) → Ans := @AV.rec (fun _ => Ans → (List Bool → Nat → Nat → Nat → Bool → Ans) → Ans) (fun _ => PUnit) (fun _ _ _ => none) (fun _ _ _ _ => none) (fun _ _ _ => none) (fun _ _ => none) (fun _ _ _ _ => none) (fun kn k => kn) (fun b o n c x kn k => k b o n c x) (fun _ _ => none) (fun _ _ _ => none) (fun _ _ => none) (fun _ _ _ _ _ _ _ => none) (fun _ _ _ => none) (fun _ _ => none) (fun _ _ _ _ _ => none) (fun _ _ _ _ => none) (fun _ _ _ _ => none) PUnit.unit (fun _ _ _ _ => PUnit.unit) v
noncomputable def aF (v : AV) : (Nat → List AV → List AV → Ans) → (List Bool → Ans) → Ans := @AV.rec (fun _ => (Nat → List AV → List AV → Ans) → (List Bool → Ans) → Ans) (fun _ => PUnit) (fun _ _ _ => none) (fun _ _ _ _ => none) (fun _ _ _ => none) (fun _ _ => none) (fun _ _ _ _ => none) (fun _ _ => none) (fun _ _ _ _ _ _ _ => none) (fun _ _ => none) (fun _ _ _ => none) (fun _ _ => none) (fun g x y _ _ k ky => k g x y) (fun l k ky => ky l) (fun _ _ => none) (fun _ _ _ _ _ => none) (fun _ _ _ _ => none) (fun _ _ _ _ => none) PUnit.unit (fun _ _ _ _ => PUnit.unit) v
/-- not nil, of a kind that may be -/
noncomputable def aNil (v : AV) : Ans → Ans := @AV.rec (fun _ => Ans → Ans) (fun _ => PUnit) (fun _ k => k) (fun _ _ k => k) (fun _ k => k) (fun k => none) (fun _ _ k => k) (fun k => none) (fun _ _ _ _ _ k => k) (fun k => none) (fun _ k => k) (fun k => none) (fun _ _ _ _ _ k => k) (fun _ k => k) (fun k => none) (fun _ _ _ k => k) (fun _ _ k => k) (fun _ _ k => k) PUnit.unit (fun _ _ _ _ => PUnit.unit) v
noncomputable def aW (v : AV) : Bool → Ans → Ans → Ans := @AV.rec (fun _ => Bool → Ans → Ans → Ans) (fun _ => PUnit) (fun x w yes no => @Bool.rec (fun _ => Ans) (@Bool.rec (fun _ => Ans) yes no x) (@Bool.rec (fun _ => Ans) no yes x) w) (fun _ _ _ _ no => no) (fun _ _ _ no => no) (fun _ _ no => no) (fun _ _ _ _ no => no) (fun _ _ no => no) (fun _ _ _ _ _ _ _ no => no) (fun _ _ no => no) (fun _ _ _ no => no) (fun _ _ no => no) (fun _ _ _ _ _ _ _ no => no) (fun _ _ _ no => no) (fun _ _ no => no) (fun _ _ _ _ _ no => no) (fun _ _ _ _ no => no) (fun _ _ _ _ no => no) PUnit.unit (fun _ _ _ _ => PUnit.unit) v
noncomputable def aN (v : AV) (k : Nat → Ans) : Ans := aI v fun _ n => @Int.rec (fun _ => Ans) (fun m => k m) (fun _ => none) n
noncomputable def getL {α : Type} (l : List α) : Nat → (α → Ans) → Ans := @List.rec α (fun _ => Nat → (α → Ans) → Ans) (fun _ _ => none) (fun a _ ih n k => @Nat.rec (fun _ => Ans) (k a) (fun m _ => tick (ih m k)) n) l

/-! ### operands -/
noncomputable def evK (t : Tr AV) (x : Opd) (k : AV → Ans) : Ans := @Opd.rec (fun _ => Ans) (fun p => getK p t k) (fun v => k v) x
noncomputable def evsK (xs : List Opd) : Tr AV → (List AV → Ans) → Ans :=
  @List.rec Opd (fun _ => Tr AV → (List AV → Ans) → Ans) (fun _ k => k []) (fun x _ ih t k => evK t x fun v => ih t fun vs => k (v :: vs)) xs

/-! ### memory -/
noncomputable def rowK (h : Tr AO) (b : List Bool) (k : Nat → Nat → Bool → Tr (List AV) → Ans) : Ans :=
  getK b h fun o => @AO.rec (fun _ => Ans) (fun z n w c => k z n w c) (fun _ _ => none) (fun _ _ => none) (fun _ _ _ _ _ _ => none) none o
noncomputable def setHK (h : Tr AO) (b : List Bool) (o : AO) (k : Tr AO → Ans) : Ans := setK b (some o) h k
noncomputable def newBK (h : Tr AO) (n : List Bool) (o : AO) (k : List Bool → Tr AO → List Bool → Ans) : Ans := setK n (some o) h fun h => forceL (inc n) fun m => k n h m
/-- a row of one element -/
noncomputable def new1K (h : Tr AO) (n : List Bool) (z : Nat) (vs : List AV) (k : List Bool → Tr AO → List Bool → Ans) : Ans :=
  forceL (ltake z vs) fun us => newBK h n (.row z (nat_lit 1) true (.node (some us) .leaf .leaf)) k
/-- cells of one element, or as the reading does -/
noncomputable def loadK (z : Nat) (c : Tr (List AV)) (o k : Nat) (f : List AV → Ans) : Ans :=
  @Bool.rec (fun _ => Ans) (ob (loadC z c o k) f)
    (forceN (Nat.div o z) fun e => getN (nat_lit 64) c e fun vs => @Nat.rec (fun _ => Ans) (forceL (ltake k vs) f) (fun m _ => forceL (ltake k (ldrop (Nat.succ m) vs)) f) (Nat.mod o z)) (Nat.ble (Nat.add (Nat.mod o z) k) z)
noncomputable def cellsK (h : Tr AO) (b : List Bool) (o k : Nat) (f : List AV → Ans) : Ans :=
  rowK h b fun z m _ c => guardB (Nat.ble (Nat.add o k) (Nat.mul m z)) (@Nat.rec (fun _ => Ans) (f []) (fun _ _ => loadK z c o k f) k)
noncomputable def wrapK (agg : Bool) (vs : List AV) (k : AV → Ans) : Ans := @Bool.rec (fun _ => Ans) (@List.rec AV (fun _ => Ans) none (fun v _ _ => k v) vs) (k (.a vs)) agg

/-! ### numbers -/
abbrev KI := IntKind → Int → IntKind → Int → (AV → Ans) → Ans
noncomputable def samek (q r : IntKind) (x : Ans) : Ans := @Bool.rec (fun _ => Ans) none x (Nat.beq (kix q) (kix r))
noncomputable def mkIK (q : IntKind) (n : Int) (k : AV → Ans) : Ans := forceI n fun n => @Bool.rec (fun _ => Ans) (forceI (wrapS q n) fun n => k (.i q n)) (k (.i q n)) (inR q n)
noncomputable def mkBK (b : Bool) (k : AV → Ans) : Ans := @Bool.rec (fun _ => Ans) (k (.b false)) (k (.b true)) b
noncomputable def cAdd : KI := fun q x r y k => samek q r (mkIK q (iadd x y) k)
noncomputable def cSub : KI := fun q x r y k => samek q r (mkIK q (isub x y) k)
noncomputable def cMul : KI := fun q x r y k => samek q r (mkIK q (Int.mul x y) k)
noncomputable def cQuo : KI := fun q x r y k => samek q r (ob (binI .quo q x y) k)
noncomputable def cRem : KI := fun q x r y k => samek q r (ob (binI .rem q x y) k)
noncomputable def cAnd : KI := fun q x r y k => samek q r (mkIK q (Int.ofNat (Nat.land (ubits q x) (ubits q y))) k)
noncomputable def cOr : KI := fun q x r y k => samek q r (mkIK q (Int.ofNat (Nat.lor (ubits q x) (ubits q y))) k)
noncomputable def cXor : KI := fun q x r y k => samek q r (mkIK q (Int.ofNat (Nat.xor (ubits q x) (ubits q y))) k)
noncomputable def cAndNot : KI := fun q x r y k => samek q r (mkIK q (Int.ofNat (Nat.land (ubits q x) (inv q (ubits q y)))) k)
noncomputable def cShl : KI := fun q x _ y k => ob (shlI q x y) k
noncomputable def cShr : KI := fun q x _ y k => ob (shrI q x y) k
noncomputable def cEql : KI := fun q x r y k => samek q r (mkBK (ieq x y) k)
noncomputable def cNeq : KI := fun q x r y k => samek q r (@Bool.rec (fun _ => Ans) (k (.b true)) (k (.b false)) (ieq x y))
noncomputable def cLss : KI := fun q x r y k => samek q r (mkBK (ilt x y) k)
noncomputable def cLeq : KI := fun q x r y k => samek q r (@Bool.rec (fun _ => Ans) (k (.b true)) (k (.b false)) (ilt y x))
noncomputable def cGtr : KI := fun q x r y k => samek q r (mkBK (ilt y x) k)
noncomputable def cGeq : KI := fun q x r y k => samek q r (@Bool.rec (fun _ => Ans) (k (.b true)) (k (.b false)) (ilt x y))
noncomputable def binIK (o : BinK) : KI := @BinK.rec (fun _ => KI) cAdd cSub cMul cQuo cRem cAnd cOr cXor cAndNot cShl cShr cEql cNeq cLss cLeq cGtr cGeq o

/-! ### operations -/
noncomputable def xMv (x : Opd) : OpK := fun _ _ t h n k => evK t x fun v => k v h n
noncomputable def xPick (c x y : Opd) : OpK := fun _ _ t h n k => evK t c fun c => aB c fun b => @Bool.rec (fun _ => Ans) (evK t y fun v => k v h n) (evK t x fun v => k v h n) b
noncomputable def xNew (q : Nat) (z : List AV) : OpK := fun _ _ _ h n k => new1K h n q z fun b h n => k (.p b (nat_lit 0)) h n
noncomputable def xBox (q : Nat) (x : Opd) : OpK := fun _ _ t h n k => evK t x fun v => vcK v fun vs => guardB (Nat.beq (llen vs) q) (new1K h n q vs fun b h n => k (.p b (nat_lit 0)) h n)
noncomputable def xLoad (q : Nat) (agg : Bool) (x : Opd) : OpK := fun _ _ t h n k => evK t x fun v => aP v fun b o => cellsK h b o q fun vs => wrapK agg vs fun v => k v h n
noncomputable def xStore (q : Nat) (x y : Opd) : OpK := fun _ _ t h n k => evK t x fun v => evK t y fun u => aP v fun b o => rowK h b fun z m w c => guardB w (vcK u fun us => guardB (Nat.beq (llen us) q) (guardB (Nat.ble (Nat.add o q) (Nat.mul m z)) (storeC z c o us q fun c => setHK h b (.row z m w c) fun h => k und h n)))
noncomputable def xNil (x : Opd) : OpK := fun _ _ t h n k => evK t x fun v => aNil v (k v h n)
noncomputable def aBin (v : AV) : AV → BinK → (AV → Ans) → Ans := @AV.rec (fun _ => AV → BinK → (AV → Ans) → Ans) (fun _ => PUnit) (fun _ _ _ _ => none) (fun q a u o k => aI u fun s b => binIK o q a s b k) (fun a u o k => aS u fun b => ob (binS o a b) k) (fun _ _ _ => none) (fun _ _ _ _ _ => none) (fun _ _ _ => none) (fun _ _ _ _ _ _ _ _ => none) (fun _ _ _ => none) (fun _ _ _ _ => none) (fun _ _ _ => none) (fun _ _ _ _ _ _ _ _ => none) (fun _ _ _ _ => none) (fun _ _ _ => none) (fun _ _ _ _ _ _ => none) (fun _ _ _ _ _ => none) (fun _ _ _ _ _ => none) PUnit.unit (fun _ _ _ _ => PUnit.unit) v
noncomputable def xBin (o : BinK) (x y : Opd) : OpK := fun _ _ t h n k => evK t x fun v => evK t y fun u => aBin v u o fun v => k v h n
noncomputable def xCvI (q : IntKind) (x : Opd) : OpK := fun _ _ t h n k => evK t x fun v => aI v fun _ a => mkIK q a fun v => k v h n
noncomputable def xFa (off : Nat) (x : Opd) : OpK := fun _ _ t h n k => evK t x fun v => aP v fun b o => forceN (Nat.add o off) fun o => k (.p b o) h n
noncomputable def xIxL (z : Nat) (x i : Opd) : OpK := fun _ _ t h n k => evK t x fun v => evK t i fun i => aN i fun i => aL v none fun b o len _ _ => guardB (Nat.ble (Nat.succ i) len) (forceN (Nat.add o (Nat.mul i z)) fun o => k (.p b o) h n)
noncomputable def xIxS (x i : Opd) : OpK := fun _ _ t h n k => evK t x fun v => evK t i fun i => aN i fun i => aS v fun l => getL l i fun c => k (.i .u8 (Int.ofNat c)) h n
noncomputable def xExt (x : Opd) (i : Nat) : OpK := fun _ _ t h n k => evK t x fun v => aT v fun vs => getL vs i fun v => k v h n
noncomputable def xLen (st : Bool) (x : Opd) : OpK := fun _ _ t h n k => evK t x fun v => @Bool.rec (fun _ => Ans) (aL v (k (.i .i64 (Int.ofNat (nat_lit 0))) h n) fun _ _ m _ _ => k (.i .i64 (Int.ofNat m)) h n) (aS v fun l => forceN (llen l) fun m => k (.i .i64 (Int.ofNat m)) h n) st
noncomputable def xCall (g : List Bool) (xs : List Opd) : OpK := fun cl _ t h n k => evsK xs t fun vs => cl g vs h n k
noncomputable def xCallv (x : Opd) (xs : List Opd) : OpK := fun _ clv t h n k => evK t x fun v => evsK xs t fun vs => clv v vs h n k
/-- as the reading does -/
noncomputable def xOld (o : AOp) : OpK := fun _ _ t h n k => ob (exec (fun _ _ _ _ => none) (fun _ _ _ _ => none) t h n o) (un1 k)
noncomputable def execK (o : AOp) : OpK :=
  @AOp.rec (fun _ => OpK)
    xMv xPick xNew xBox (fun a b => xOld (.build a b)) (fun a b c => xOld (.lit a b c)) xLoad xStore xNil xBin
    (fun a b c => xOld (.eqB a b c)) (fun a b c d => xOld (.eqN a b c d)) (fun a b c d => xOld (.eqA a b c d)) (fun a b => xOld (.un a b)) xCvI (fun a => xOld (.cvId a)) (fun a => xOld (.cvSB a)) (fun a => xOld (.cvSR a)) (fun a => xOld (.cvBS a)) (fun a => xOld (.cvM a))
    (fun a b => xOld (.iface a b)) (fun a b c => xOld (.func a b c)) (fun a => xOld (.mkmap a)) (fun a b c d => xOld (.mkslice a b c d)) (fun a b c => xOld (.slS a b c)) (fun a b c d e => xOld (.slL a b c d e)) (fun a b c d e f => xOld (.slA a b c d e f))
    xFa (fun a b c d => xOld (.fd a b c d)) xIxL (fun a b c d => xOld (.ixA a b c d)) xIxS (fun a b c d e => xOld (.ixV a b c d e)) (fun a b c d e => xOld (.look a b c d e)) (fun a b c d => xOld (.mupd a b c d)) (fun a => xOld (.rngS a)) (fun a => xOld (.nxtS a))
    xExt xLen (fun a b => xOld (.mnmx a b)) (fun a b c => xOld (.app a b c)) xCall xCallv o

/-! ### regions -/
noncomputable def wantsK (g : Option (List Bool × Bool)) (t : Tr AV) (yes no : Ans) : Ans :=
  @Option.rec (List Bool × Bool) (fun _ => Ans) yes (fun q => @Prod.rec (List Bool) Bool (fun _ => Ans) (fun p w => getK p t fun v => aW v w yes no) q) g
noncomputable def putK (d : Option (List Bool)) (v : AV) (t : Tr AV) (k : Tr AV → Ans) : Ans := @Option.rec (List Bool) (fun _ => Ans) (k t) (fun p => setK p (some v) t k) d
noncomputable def operK (o : AOper) (cl : ClK) (clv : ClvK) (t : Tr AV) (h : Tr AO) (n : List Bool) (k : KT) : Ans :=
  @AOper.rec (fun _ => Ans) (fun g d op => wantsK g t (execK op cl clv t h n fun v h n => putK d v t fun t => k t h n) (putK d und t fun t => k t h n)) o
noncomputable def opersK (ops : List AOper) : ClK → ClvK → Tr AV → Tr AO → List Bool → KT → Ans :=
  @List.rec AOper (fun _ => ClK → ClvK → Tr AV → Tr AO → List Bool → KT → Ans) (fun _ _ t h n k => k t h n) (fun o _ ih cl clv t h n k => operK o cl clv t h n fun t h n => ih cl clv t h n k) ops
noncomputable def noCK : ClK := fun _ _ _ _ _ => none
noncomputable def noVK : ClvK := fun _ _ _ _ _ => none
noncomputable def dopersK (ops : List DOper) : ClK → ClvK → List (List Bool) → List (Tr AO) → Tr AV → Tr AO → List Bool → KT → Ans :=
  @List.rec DOper (fun _ => ClK → ClvK → List (List Bool) → List (Tr AO) → Tr AV → Tr AO → List Bool → KT → Ans) (fun _ _ _ _ t h n k => k t h n)
    (fun o _ ih cl clv rs hs t h n kk => @DOper.rec (fun _ => Ans) (fun _ o k k0 =>
      @AOper.rec (fun _ => Ans) (fun g d op =>
        @Nat.rec (fun _ => Ans)
          (wantsK g t (execK op noCK noVK t .leaf n fun v _ _ => putK d v t fun t => ih cl clv rs hs t h n kk) (putK d und t fun t => ih cl clv rs hs t h n kk))
          (fun k _ => @Nat.rec (fun _ => Ans)
            (wantsK g t (@List.rec (Tr AO) (fun _ => Ans) (ob (own t h hs op) fun h0 => execK op noCK noVK t h0 n fun v _ _ => putK d v t fun t => ih cl clv rs hs t h n kk) (fun h0 l _ => execK op noCK noVK t h0 n fun v _ _ => guardB (steady t n op v l) (putK d v t fun t => ih cl clv rs hs t h n kk)) (ldrop k0 hs)) (putK d und t fun t => ih cl clv rs hs t h n kk))
            (fun k _ => @Nat.rec (fun _ => Ans)
              (@List.rec (List Bool) (fun _ => Ans) none (fun m rs _ =>
                wantsK g t (execK op noCK noVK t h m fun v h _ => putK d v t fun t => ih cl clv rs hs t h n kk) (putK d und t fun t => ih cl clv rs hs t h n kk)) rs)
              (fun _ _ => wantsK g t (execK op cl clv t h n fun v h' n => guardB (absent rs h') (putK d v t fun t => ih cl clv rs (lapp hs [h']) t h' n kk)) (putK d und t fun t => ih cl clv rs (lapp hs [h]) t h n kk))
              k) k) k) o) o) ops
noncomputable def resvK (k : Nat) : List Bool → (List (List Bool) → List Bool → Ans) → Ans :=
  @Nat.rec (fun _ => List Bool → (List (List Bool) → List Bool → Ans) → Ans) (fun n f => f [] n) (fun _ ih n f => forceL (inc n) fun m => ih m fun l m' => f (n :: l) m') k
noncomputable def drawnK (cl : ClK) (clv : ClvK) (na : Nat) (ops : List DOper) (t : Tr AV) (h : Tr AO) (n : List Bool) (k : KT) : Ans :=
  resvK na n fun rs n => guardB (absent rs h) (dopersK ops cl clv rs [h] t h n k)

/-! ### code, calls -/
noncomputable def bindK (ps : List (List Bool)) : List AV → Tr AV → (Tr AV → Ans) → Ans :=
  @List.rec (List Bool) (fun _ => List AV → Tr AV → (Tr AV → Ans) → Ans) (fun vs t k => @List.rec AV (fun _ => Ans) (k t) (fun _ _ _ => none) vs)
    (fun p _ ih vs t k => @List.rec AV (fun _ => Ans) none (fun v vs _ => setK p (some v) t fun t => ih vs t k) vs) ps
noncomputable def resVK (rs : List ARes) : Tr AV → Tr AO → (List AV → Ans) → Ans :=
  @List.rec ARes (fun _ => Tr AV → Tr AO → (List AV → Ans) → Ans) (fun _ _ k => k []) (fun r _ ih t h k => @ARes.rec (fun _ => Ans) (fun p => getK p t fun v => ih t h fun vs => k (v :: vs)) (fun p n agg => getK p t fun v => aP v fun b o => cellsK h b o n fun vs => wrapK agg vs fun v => ih t h fun vs => k (v :: vs)) r) rs
noncomputable def dropDK (ds : List (List Bool)) : Tr AO → (Tr AO → Ans) → Ans :=
  @List.rec (List Bool) (fun _ => Tr AO → (Tr AO → Ans) → Ans) (fun h k => k h) (fun b _ ih h k => getK b h fun o => @AO.rec (fun _ => Ans) (fun _ _ _ _ => none) (fun _ _ => none) (fun _ _ => none) (fun _ _ _ _ _ _ => none) (setK b none h fun h => ih h k) o) ds
noncomputable def callFnK (fn : AFn) : RunK → List AV → Tr AO → List Bool → K1 → Ans :=
  @AFn.rec (fun _ => RunK → List AV → Tr AO → List Bool → K1 → Ans)
    (fun ps rs c ih vs h n k => bindK ps vs .leaf fun t => ih c t h n [] fun e t h n ds => guardB (isEnd e) (dropDK ds h fun h => resVK rs t h fun vs => k (one1 vs) h n))
    (fun ih vs h n k => ob (callFn (fun _ _ _ _ _ => none) .xIndexByteString vs h n) (un1 k))
    (fun f _ vs h n k => ob (f vs h n) (un1 k)) fn
noncomputable def callGK (tab : Tr AFn) (ih : RunK) : ClK := fun g vs h n k => getK g tab fun fn => callFnK fn ih vs h n k
noncomputable def lpAtK (h : Tr AO) (l : List Bool) (k : LS → Option Ex → Tr AV → List (List Bool) → AC → AC → Ans) : Ans :=
  getK l h fun o => @AO.rec (fun _ => Ans) (fun _ _ _ _ => none) (fun _ _ => none) (fun _ _ => none) (fun st pd t ps x y => k st pd t ps x y) none o
noncomputable def roundYK (ih : RunK) (l : List Bool) (vs : List AV) (h : Tr AO) (n : List Bool) (k : K1) : Ans :=
  lpAtK h l fun _ _ t0 ps x y => bindK ps vs t0 fun t => ih x t h n [] fun e t h n ds => guardB (isNrm e) (guardB (isE ds)
    (lpAtK h l fun st pd t0 ps' x' y' => guardB (isRdy st) (setHK h l (.lp .busy pd t0 ps' x' y') fun h =>
      ih y t h n [] fun e _ h n ds => guardB (isE ds)
        (lpAtK h l fun _ _ t0 ps x y => @Bool.rec (fun _ => Ans) (setHK h l (.lp .done (some e) t0 ps x y) fun h => k (.b false) h n) (setHK h l (.lp .ready none t0 ps x y) fun h => k (.b true) h n) (isNrm e)))))
noncomputable def callVK (tab : Tr AFn) (ih : RunK) : ClvK := fun v vs h n k => aF v (fun g x y => getN (nat_lit 64) tab g fun fn => forceL (lapp x (lapp vs y)) fun us => callFnK fn ih us h n k) (fun l => roundYK ih l vs h n k)
noncomputable def callKK (tab : Tr AFn) (ih : RunK) (v : AV) (l : List Bool) (h : Tr AO) (n : List Bool) (k : K1) : Ans :=
  aF v (fun g x y => getN (nat_lit 64) tab g fun fn => guardB (isGo fn) (forceL (lapp x (lapp [.y l] y)) fun us => callFnK fn ih us h n k)) (fun _ => none)
abbrev StK := Tr AFn → RunK → Tr AV → Tr AO → List Bool → List (List Bool) → KR → Ans
noncomputable def sSkip : StK := fun _ _ t h n ds k => k .nrm t h n ds
noncomputable def sRg (ops : List AOper) : StK := fun tab ih t h n ds k => opersK ops (callGK tab ih) (callVK tab ih) t h n fun t h n => k .nrm t h n ds
noncomputable def sDr (na : Nat) (ops : List DOper) : StK := fun tab ih t h n ds k => drawnK (callGK tab ih) (callVK tab ih) na ops t h n fun t h n => k .nrm t h n ds
noncomputable def sSq (x y : AC) : StK := fun _ ih t h n ds k => ih x t h n ds fun e t h n ds => @Ex.rec (fun _ => Ans) (ih y t h n ds k) (fun i => k (.ex i) t h n ds) (k .ret t h n ds) e
noncomputable def sCd (c : Opd) (x y : AC) : StK := fun _ ih t h n ds k => evK t c fun v => aB v fun b => @Bool.rec (fun _ => Ans) (ih y t h n ds k) (ih x t h n ds k) b
noncomputable def sBk (i : Nat) (x : AC) : StK := fun _ ih t h n ds k => ih x t h n ds fun e t h n ds => @Ex.rec (fun _ => Ans) (k .nrm t h n ds) (fun j => @Bool.rec (fun _ => Ans) (k (.ex j) t h n ds) (k .nrm t h n ds) (Nat.beq j i)) (k .ret t h n ds) e
noncomputable def sLp (x : AC) : StK := fun _ ih t h n ds k => ih x t h n ds fun e t h n ds => @Ex.rec (fun _ => Ans) (ih (.lp x) t h n ds k) (fun i => k (.ex i) t h n ds) (k .ret t h n ds) e
noncomputable def sXt (i : Nat) : StK := fun _ _ t h n ds k => k (.ex i) t h n ds
noncomputable def sRt : StK := fun _ _ t h n ds k => k .ret t h n ds
noncomputable def sRf (f : Opd) (ps : List (List Bool)) (x y : AC) : StK := fun tab ih t h n ds k => evK t f fun v => newBK h n .df fun b h n => newBK h n (.lp .ready none t ps x y) fun l h n =>
      callKK tab ih v l h n fun _ h n => getK l h fun o => @AO.rec (fun _ => Ans) (fun _ _ _ _ => none) (fun _ _ => none) (fun _ _ => none)
        (fun st p t0 ps x y => @LS.rec (fun _ => Ans)
          (setHK h l (.lp .exhausted p t0 ps x y) fun h => k (@Option.rec Ex (fun _ => Ex) .nrm (fun e => e) p) t h n (b :: ds)) none
          (setHK h l (.lp .exhausted p t0 ps x y) fun h => k (@Option.rec Ex (fun _ => Ex) .nrm (fun e => e) p) t h n (b :: ds)) none st) none o
noncomputable def stepK (c : AC) : StK :=
  @AC.rec (fun _ => StK) sSkip sRg sDr (fun x y _ _ => sSq x y) (fun c x y _ _ => sCd c x y) (fun i x _ => sBk i x) (fun x _ => sLp x) sXt sRt (fun f ps x y _ _ => sRf f ps x y) c
noncomputable def runK (tab : Tr AFn) (fuel : Nat) : RunK := @Nat.rec (fun _ => RunK) (fun _ _ _ _ _ _ => none) (fun _ ih c t h n ds k => stepK c tab ih t h n ds k) fuel
noncomputable def callsK (tab : Tr AFn) (fuel : Nat) (g : List Bool) (vs : List AV) (h : Tr AO) (n : List Bool) (k : K1) : Ans := callGK tab (runK tab fuel) g vs h n k
end Go.Ev
end
section
namespace Go.Ev
variable (P : Program)
abbrev pth (n : Nat) : List Bool := pathF (n + 1) n
def cV : Nat → Value → AV
  | 0, _ => .pn
  | d + 1, v => match v with
    | .bool b => .b b
    | .int k n => .i k n
    | .string s => .s (bytesN s)
    | .slice _ _ _ => .sn
    | .map _ => .mn
    | .nilFunc => .fn
    | .nilIface => .inil
    | .agg cs => .a (cs.toList.map (cV d))
    | .tuple cs => .t (cs.toList.map (cV d))
    | _ => .pn
def cells (v : Value) : List AV := v.cells.toList.map (cV 4)
def cX : Operand → Opd
  | .tmp t => .t (pth t)
  | .const v => .c (cV 4 v)
  | .global g => .c (.p (pth g) 0)
  | .func f => .c (.f f [] [])
def cXs (xs : Array Operand) : List Opd := xs.toList.map cX
def bad : AOp := .un 9 (.c .pn)
def szOf (t : TypeId) : Nat := match P.info? t with
  | some i => i.size
  | none => 0
def zOf (t : TypeId) : List AV := match (P.info? t).bind (·.zero) with
  | some v => cells v
  | none => []
def zVl (t : TypeId) : AV := match (P.info? t).bind (·.zero) with
  | some v => cV 4 v
  | none => .pn
def aggT (t : TypeId) : Bool := match P.underlying t with
  | some d => aggB d
  | none => false
def cParts (t : TypeId) (ps : Array (Nat × Operand)) : List (Nat × Nat × Opd) := match P.underlying t with
  | some (.struct fs) => ps.toList.map fun q => match fs[q.1]? with
    | some f => (f.offset, szOf P f.type, cX q.2)
    | none => (0, 0, cX q.2)
  | some (.array _ e) => ps.toList.map fun q => (q.1 * szOf P e, szOf P e, cX q.2)
  | _ => []
def elSz (t : TypeId) : Nat := match P.underlying t with
  | some (.slice e) => szOf P e
  | some (.array _ e) => szOf P e
  | _ => 0
def elT (t : TypeId) : TypeId := match P.underlying t with
  | some (.slice e) => e
  | some (.array _ e) => e
  | some (.map _ e) => e
  | _ => 0
def kyT (t : TypeId) : Nat := match P.underlying t with
  | some (.map k _) => (keyT P k).getD 0
  | _ => 0
def cBin (o : BinOp) (t : TypeId) (x y : Operand) : AOp := match P.underlying t with
  | some (.int _) | some .string => (match binK o with
    | some k => .bin k (cX x) (cX y)
    | none => bad)
  | some .bool => .eqB (eqOp true o) (cX x) (cX y)
  | some (.slice _) => .eqN (eqOp true o) 2 (cX x) (cX y)
  | some (.pointer _) => .eqN (eqOp true o) 3 (cX x) (cX y)
  | some (.map _ _) => .eqN (eqOp true o) 4 (cX x) (cX y)
  | some (.func _ _ _) => .eqN (eqOp true o) 5 (cX x) (cX y)
  | some (.interface _) => .eqN (eqOp true o) 6 (cX x) (cX y)
  | some (.struct _) | some (.array _ _) => .eqA (eqOp true o) ((plainE P t).getD 0) (cX x) (cX y)
  | _ => bad
def cConv (s d : TypeId) (x : Operand) : AOp := match P.underlying s, P.underlying d with
  | some (.int _), some (.int k) => .cvI k (cX x)
  | some .string, some .string => .cvId (cX x)
  | some .string, some (.slice e) => (match P.underlying e with
    | some (.int .u8) => .cvSB (cX x)
    | _ => .cvSR (cX x))
  | some (.slice _), some .string => .cvBS (cX x)
  | some (.slice _), some (.slice _) => .cvM (cX x)
  | _, _ => bad
def cOp : Op → AOp
  | .move x | .assign x => .mv (cX x)
  | .pick c x y => .pick (cX c) (cX x) (cX y)
  | .alloc e => .new (szOf P e) (zOf P e)
  | .box e x => .box (szOf P e) (cX x)
  | .build t ps => .build (zOf P t) (cParts P t ps)
  | .buildSlice t n ps => .lit n (elSz P t) (ps.toList.map fun q => cX q.2)
  | .load t x => .load (szOf P t) (aggT P t) (cX x)
  | .store t x y => .store (szOf P t) (cX x) (cX y)
  | .nilCheck x => .nilck (cX x)
  | .binOp o t x y _ => cBin P o t x y
  | .unOp o _ x => (match o with
    | .not => .un 0 (cX x)
    | .neg => .un 1 (cX x)
    | .xor => .un 2 (cX x)
    | _ => bad)
  | .convert s d x => cConv P s d x
  | .makeInterface t x => .iface t (cX x)
  | .makeFunc (.func g) xs ys => .func g (cXs xs) (cXs ys)
  | .makeMap t none => .mkmap (kyT P t)
  | .makeSlice t x y => .mkslice (elSz P t) (zOf P (elT P t)) (cX x) (cX y)
  | .slice t x lo hi mx => (match P.underlying t with
    | some .string => .slS (cX x) (lo.map cX) (hi.map cX)
    | some (.slice _) => .slL (elSz P t) (cX x) (lo.map cX) (hi.map cX) (mx.map cX)
    | some (.array n _) => .slA n (elSz P t) (cX x) (lo.map cX) (hi.map cX) (mx.map cX)
    | _ => bad)
  | .fieldAddr t x i => (match P.underlying t with
    | some (.struct fs) => (match fs[i]? with
      | some f => .fa f.offset (cX x)
      | none => bad)
    | _ => bad)
  | .field t x i => (match P.underlying t with
    | some (.struct fs) => (match fs[i]? with
      | some f => .fd f.offset (szOf P f.type) (aggT P f.type) (cX x)
      | none => bad)
    | _ => bad)
  | .indexAddr t x i => (match P.underlying t with
    | some (.array n e) => .ixA n (szOf P e) (cX x) (cX i)
    | _ => .ixL (elSz P t) (cX x) (cX i))
  | .index t x i => (match P.underlying t with
    | some (.array n e) => .ixV n (szOf P e) (aggT P e) (cX x) (cX i)
    | _ => .ixS (cX x) (cX i))
  | .lookup t x k ok => .look (kyT P t) (zVl P (elT P t)) (cX x) (cX k) ok
  | .mapUpdate t x k v => .mupd (kyT P t) (cX x) (cX k) (cX v)
  | .range _ x => .rngS (cX x)
  | .next x true => .nxtS (cX x)
  | .extract x i => .ext (cX x) i
  | .call { callee := .builtin b, args, argTypes } => (match b, args.toList, argTypes.toList with
    | .len, [x], [t] => .len (isStr P t) (cX x)
    | .min, xs, _ => .mnmx false (xs.map cX)
    | .max, xs, _ => .mnmx true (xs.map cX)
    | .append, [x, y], t :: _ => .app (elSz P t) (cX x) (cX y)
    | _, _, _ => bad)
  | .call { callee := .value (.func g), args, .. } => .call (pth g) (cXs args)
  | .call { callee := .value x, args, .. } => .callv (cX x) (cXs args)
  | _ => bad
def cGd (ops : Array Oper) (g : Option (Nat × Bool)) : Option (List Bool × Bool) := match g with
  | none => none
  | some (j, w) => match (ops[j]?).bind (·.dst) with
    | some d => some (pth d, w)
    | none => none
def cOper (ops : Array Oper) (o : Oper) : AOper := ⟨cGd ops o.guard, o.dst.map pth, cOp P o.op⟩

/-! ### regions that draw: the late order -/
def mskE (acc : List Nat) : List Edge → Nat
  | [] => 0
  | e :: es => match Region.binds .any e with
    | true => Nat.lor (Nat.lor (2 ^ e.on) (acc.getD e.on 0)) (mskE acc es)
    | false => mskE acc es
def msks : List Oper → List Nat → List Nat
  | [], acc => acc
  | o :: os, acc => msks os (acc ++ [mskE acc o.after.toList])
def kl : AOp → Nat
  | .load _ _ _ | .cvBS _ | .look _ _ _ _ _ => 1
  | .new _ _ | .box _ _ | .lit _ _ _ | .cvSB _ | .cvSR _ | .mkmap _ | .mkslice _ _ _ _ | .rngS _ => 2
  | .store _ _ _ | .cvM _ | .mupd _ _ _ _ | .nxtS _ | .app _ _ _ | .call _ _ | .callv _ _ => 3
  | .un 9 _ => 3
  | _ => 0
/-- 'es': the operations that turn memory, still to come; 'seen': as bits -/
def late (M is : List Nat) : List Nat → Nat → List Nat
  | [], seen => is.filter fun i => !seen.testBit i
  | e :: es, seen => (is.filter fun i => !seen.testBit i && (Nat.beq i e || (M.getD e 0).testBit i)) ++ late M is es (Nat.lor seen (Nat.lor (M.getD e 0) (2 ^ e)))
def count (m : Nat) : List Nat → Nat
  | [] => 0
  | e :: es => match m.testBit e with
    | true => count m es + 1
    | false => count m es
def memB (p : List Bool) : List (List Bool) → Bool
  | [] => false
  | q :: qs => p == q || memB p qs
/-- a read of a block that the region itself has made -/
def ownR (news : List (List Bool)) : AOp → Bool
  | .cvBS (.t p) => memB p news
  | _ => false
def cDr (ops : Array Oper) : AC :=
  let aops := ops.toList.map (cOper P ops)
  let M := msks ops.toList []
  let is := List.range ops.size
  let ks := aops.map fun a => kl a.op
  let es := is.filter fun i => Nat.beq (ks.getD i 0) 3
  let news := aops.filterMap fun a => match Nat.beq (kl a.op) 2 with
    | true => a.d
    | false => none
  let order := late M is es 0
  .dr (order.filter fun i => Nat.beq (ks.getD i 0) 2).length (order.filterMap fun i => match aops[i]? with
    | some a => some ⟨i, a, ks.getD i 0, match Nat.beq (ks.getD i 0) 1 with
      | true => (match ownR news a.op with
        | true => 999
        | false => count (M.getD i 0) es)
      | false => 0⟩
    | none => none)

/-! ### code, functions -/
def cC : Code → AC
  | .skip => .skip
  | .region _ ops false => .rg (ops.toList.map (cOper P ops))
  | .region _ ops true => cDr P ops
  | .seq x y => .sq (cC x) (cC y)
  | .cond c x y => .cd (cX c) (cC x) (cC y)
  | .block i x => .bk i (cC x)
  | .loop x => .lp (cC x)
  | .exit i => .xt i
  | .ret => .rt
  | .rangeFunc f ps x y => .rf (cX f) (ps.toList.map pth) (cC x) (cC y)
  | _ => .skip
def cRes : ResultVar → ARes
  | .tmp t => .tmp (pth t)
  | .cell t ty => .cell (pth t) (szOf P ty) (aggT P ty)
def cFn (f : Func) : AFn := match f.body with
  | some c => .go ((List.range (f.params.size + f.nfree)).map pth) (f.results.toList.map (cRes P)) (cC P c)
  | none => .xIndexByteString
/-! ### unicode.IsSpace, by the library's contract -/
def isSp (c : Nat) : Bool :=
  Nat.ble (nat_lit 9) c && Nat.ble c (nat_lit 13) || Nat.beq c (nat_lit 32) || Nat.beq c (nat_lit 133) || Nat.beq c (nat_lit 160) || Nat.beq c (nat_lit 5760) || Nat.ble (nat_lit 8192) c && Nat.ble c (nat_lit 8202) || Nat.beq c (nat_lit 8232) || Nat.beq c (nat_lit 8233) || Nat.beq c (nat_lit 8239) || Nat.beq c (nat_lit 8287) || Nat.beq c (nat_lit 12288)
noncomputable def spF (vs : List AV) (h : Tr AO) (n : List Bool) : Option R1 :=
  @List.rec AV (fun _ => Option R1) none (fun v us _ => @List.rec AV (fun _ => Option R1) (asI v fun k c => guardB (Nat.beq (kix k) (nat_lit 2)) (nn1 c fun c => guardB (Nat.ble c (nat_lit 1114111)) (r1o (mkB (isSp c)) h n))) (fun _ _ _ => none) us) vs
end Go.Ev
end
section
namespace Go.Ev
open Go.Proofs
noncomputable def a4 : AFn := cFn Tryz.prog Tryz.f4
noncomputable def a7 : AFn := cFn Tryz.prog Tryz.f7
noncomputable def a9 : AFn := cFn Tryz.prog Tryz.f9
noncomputable def a8 : AFn := cFn Tryz.prog Tryz.f8
noncomputable def a12 : AFn := cFn Tryz.prog Tryz.f12
noncomputable def a13 : AFn := cFn Tryz.prog Tryz.f13
noncomputable def a14 : AFn := cFn Tryz.prog Tryz.f14
noncomputable def a15 : AFn := cFn Tryz.prog Tryz.f15
noncomputable def a16 : AFn := cFn Tryz.prog Tryz.f16
noncomputable def a17 : AFn := cFn Tryz.prog Tryz.f17
noncomputable def a19 : AFn := cFn Tryz.prog Tryz.f19
noncomputable def a20 : AFn := cFn Tryz.prog Tryz.f20
noncomputable def a21 : AFn := cFn Tryz.prog Tryz.f21
noncomputable def a22 : AFn := cFn Tryz.prog Tryz.f22
noncomputable def a24 : AFn := cFn Tryz.prog Tryz.f24
noncomputable def a25 : AFn := cFn Tryz.prog Tryz.f25
noncomputable def a26 : AFn := cFn Tryz.prog Tryz.f26
noncomputable def a27 : AFn := cFn Tryz.prog Tryz.f27
noncomputable def a28 : AFn := cFn Tryz.prog Tryz.f28
noncomputable def a29 : AFn := cFn Tryz.prog Tryz.f29
noncomputable def a30 : AFn := cFn Tryz.prog Tryz.f30
noncomputable def a34 : AFn := cFn Tryz.prog Tryz.f34
noncomputable def a35 : AFn := cFn Tryz.prog Tryz.f35
noncomputable def a37 : AFn := cFn Tryz.prog Tryz.f37
noncomputable def a39 : AFn := cFn Tryz.prog Tryz.f39
noncomputable def a40 : AFn := cFn Tryz.prog Tryz.f40
noncomputable def a41 : AFn := cFn Tryz.prog Tryz.f41
noncomputable def a42 : AFn := cFn Tryz.prog Tryz.f42
noncomputable def a43 : AFn := cFn Tryz.prog Tryz.f43
noncomputable def a45 : AFn := cFn Tryz.prog Tryz.f45
noncomputable def a46 : AFn := cFn Tryz.prog Tryz.f46
noncomputable def a52 : AFn := cFn Tryz.prog Tryz.f52
noncomputable def a56 : AFn := cFn Tryz.prog Tryz.f56
noncomputable def a58 : AFn := cFn Tryz.prog Tryz.f58
noncomputable def a59 : AFn := cFn Tryz.prog Tryz.f59
noncomputable def a60 : AFn := cFn Tryz.prog Tryz.f60
noncomputable def a61 : AFn := cFn Tryz.prog Tryz.f61
noncomputable def a63 : AFn := cFn Tryz.prog Tryz.f63
noncomputable def a64 : AFn := cFn Tryz.prog Tryz.f64
noncomputable def a65 : AFn := cFn Tryz.prog Tryz.f65
noncomputable def a66 : AFn := cFn Tryz.prog Tryz.f66
noncomputable def a67 : AFn := cFn Tryz.prog Tryz.f67
noncomputable def a68 : AFn := cFn Tryz.prog Tryz.f68
noncomputable def a69 : AFn := cFn Tryz.prog Tryz.f69
noncomputable def a70 : AFn := cFn Tryz.prog Tryz.f70
noncomputable def a72 : AFn := cFn Tryz.prog Tryz.f72
noncomputable def a73 : AFn := cFn Tryz.prog Tryz.f73
noncomputable def a74 : AFn := cFn Tryz.prog Tryz.f74
noncomputable def a76 : AFn := cFn Tryz.prog Tryz.f76
noncomputable def a77 : AFn := cFn Tryz.prog Tryz.f77
noncomputable def a96 : AFn := cFn Tryz.prog Tryz.f96
noncomputable def a99 : AFn := cFn Tryz.prog Tryz.f99
noncomputable def a102 : AFn := cFn Tryz.prog Tryz.f102
noncomputable def a104 : AFn := cFn Tryz.prog Tryz.f104
noncomputable def a105 : AFn := cFn Tryz.prog Tryz.f105
noncomputable def a106 : AFn := cFn Tryz.prog Tryz.f106
noncomputable def a107 : AFn := cFn Tryz.prog Tryz.f107
noncomputable def a108 : AFn := cFn Tryz.prog Tryz.f108
noncomputable def a109 : AFn := cFn Tryz.prog Tryz.f109
noncomputable def a110 : AFn := cFn Tryz.prog Tryz.f110
noncomputable def a111 : AFn := cFn Tryz.prog Tryz.f111
noncomputable def a112 : AFn := cFn Tryz.prog Tryz.f112
noncomputable def a113 : AFn := cFn Tryz.prog Tryz.f113
noncomputable def a114 : AFn := cFn Tryz.prog Tryz.f114
noncomputable def a115 : AFn := cFn Tryz.prog Tryz.f115
noncomputable def a116 : AFn := cFn Tryz.prog Tryz.f116
noncomputable def a117 : AFn := cFn Tryz.prog Tryz.f117
noncomputable def a118 : AFn := cFn Tryz.prog Tryz.f118
noncomputable def a119 : AFn := cFn Tryz.prog Tryz.f119
noncomputable def a120 : AFn := cFn Tryz.prog Tryz.f120
noncomputable def a121 : AFn := cFn Tryz.prog Tryz.f121
noncomputable def a122 : AFn := cFn Tryz.prog Tryz.f122
noncomputable def a123 : AFn := cFn Tryz.prog Tryz.f123
noncomputable def a124 : AFn := cFn Tryz.prog Tryz.f124
noncomputable def a125 : AFn := cFn Tryz.prog Tryz.f125
noncomputable def a126 : AFn := cFn Tryz.prog Tryz.f126
noncomputable def a128 : AFn := cFn Tryz.prog Tryz.f128
noncomputable def a129 : AFn := cFn Tryz.prog Tryz.f129
noncomputable def a133 : AFn := cFn Tryz.prog Tryz.f133
noncomputable def a146 : AFn := cFn Tryz.prog Tryz.f146
noncomputable def a147 : AFn := cFn Tryz.prog Tryz.f147
noncomputable def a151 : AFn := cFn Tryz.prog Tryz.f151
noncomputable def a152 : AFn := cFn Tryz.prog Tryz.f152
noncomputable def a153 : AFn := cFn Tryz.prog Tryz.f153
noncomputable def a154 : AFn := cFn Tryz.prog Tryz.f154
noncomputable def a155 : AFn := cFn Tryz.prog Tryz.f155
noncomputable def a156 : AFn := cFn Tryz.prog Tryz.f156
noncomputable def a157 : AFn := cFn Tryz.prog Tryz.f157
noncomputable def a160 : AFn := cFn Tryz.prog Tryz.f160
noncomputable def a161 : AFn := cFn Tryz.prog Tryz.f161
noncomputable def a162 : AFn := cFn Tryz.prog Tryz.f162
noncomputable def a163 : AFn := cFn Tryz.prog Tryz.f163
noncomputable def a164 : AFn := cFn Tryz.prog Tryz.f164
noncomputable def a165 : AFn := cFn Tryz.prog Tryz.f165
noncomputable def a166 : AFn := cFn Tryz.prog Tryz.f166
noncomputable def a167 : AFn := cFn Tryz.prog Tryz.f167
noncomputable def a168 : AFn := cFn Tryz.prog Tryz.f168
noncomputable def a169 : AFn := cFn Tryz.prog Tryz.f169
noncomputable def a171 : AFn := cFn Tryz.prog Tryz.f171
noncomputable def a172 : AFn := cFn Tryz.prog Tryz.f172
noncomputable def a173 : AFn := cFn Tryz.prog Tryz.f173
noncomputable def a174 : AFn := cFn Tryz.prog Tryz.f174
noncomputable def a175 : AFn := cFn Tryz.prog Tryz.f175
noncomputable def a176 : AFn := cFn Tryz.prog Tryz.f176
noncomputable def a177 : AFn := cFn Tryz.prog Tryz.f177
noncomputable def a178 : AFn := cFn Tryz.prog Tryz.f178
noncomputable def a179 : AFn := .orc spF
noncomputable def a180 : AFn := cFn Tryz.prog Tryz.f180
noncomputable def a181 : AFn := cFn Tryz.prog Tryz.f181
noncomputable def a182 : AFn := cFn Tryz.prog Tryz.f182
noncomputable def a183 : AFn := cFn Tryz.prog Tryz.f183
noncomputable def a184 : AFn := cFn Tryz.prog Tryz.f184
noncomputable def a185 : AFn := cFn Tryz.prog Tryz.f185
noncomputable def a186 : AFn := cFn Tryz.prog Tryz.f186
noncomputable def a209 : AFn := cFn Tryz.prog Tryz.f209
noncomputable def a210 : AFn := cFn Tryz.prog Tryz.f210
noncomputable def a211 : AFn := cFn Tryz.prog Tryz.f211
noncomputable def a213 : AFn := cFn Tryz.prog Tryz.f213
noncomputable def a214 : AFn := cFn Tryz.prog Tryz.f214
noncomputable def a215 : AFn := cFn Tryz.prog Tryz.f215
noncomputable def a216 : AFn := cFn Tryz.prog Tryz.f216
noncomputable def a217 : AFn := cFn Tryz.prog Tryz.f217
noncomputable def a218 : AFn := cFn Tryz.prog Tryz.f218
noncomputable def a219 : AFn := cFn Tryz.prog Tryz.f219
noncomputable def a222 : AFn := cFn Tryz.prog Tryz.f222
noncomputable def a225 : AFn := cFn Tryz.prog Tryz.f225
noncomputable def a226 : AFn := cFn Tryz.prog Tryz.f226
noncomputable def a227 : AFn := cFn Tryz.prog Tryz.f227
noncomputable def a228 : AFn := cFn Tryz.prog Tryz.f228
noncomputable def a229 : AFn := cFn Tryz.prog Tryz.f229
noncomputable def a230 : AFn := cFn Tryz.prog Tryz.f230
noncomputable def a231 : AFn := cFn Tryz.prog Tryz.f231
noncomputable def a233 : AFn := cFn Tryz.prog Tryz.f233
noncomputable def a234 : AFn := cFn Tryz.prog Tryz.f234
noncomputable def a236 : AFn := cFn Tryz.prog Tryz.f236
noncomputable def a237 : AFn := cFn Tryz.prog Tryz.f237
noncomputable def a239 : AFn := cFn Tryz.prog Tryz.f239
noncomputable def a241 : AFn := cFn Tryz.prog Tryz.f241
noncomputable def a243 : AFn := cFn Tryz.prog Tryz.f243
noncomputable def a244 : AFn := cFn Tryz.prog Tryz.f244
noncomputable def a245 : AFn := cFn Tryz.prog Tryz.f245
noncomputable def a246 : AFn := cFn Tryz.prog Tryz.f246
noncomputable def a247 : AFn := cFn Tryz.prog Tryz.f247
noncomputable def a248 : AFn := cFn Tryz.prog Tryz.f248
noncomputable def a250 : AFn := cFn Tryz.prog Tryz.f250
noncomputable def a272 : AFn := cFn Tryz.prog Tryz.f272
noncomputable def a273 : AFn := cFn Tryz.prog Tryz.f273
noncomputable def a274 : AFn := cFn Tryz.prog Tryz.f274
noncomputable def a278 : AFn := cFn Tryz.prog Tryz.f278
noncomputable def a279 : AFn := cFn Tryz.prog Tryz.f279
noncomputable def a280 : AFn := cFn Tryz.prog Tryz.f280
noncomputable def a284 : AFn := cFn Tryz.prog Tryz.f284
noncomputable def a287 : AFn := cFn Tryz.prog Tryz.f287
noncomputable def a293 : AFn := cFn Tryz.prog Tryz.f293
noncomputable def a296 : AFn := cFn Tryz.prog Tryz.f296
noncomputable def a297 : AFn := cFn Tryz.prog Tryz.f297
noncomputable def a298 : AFn := cFn Tryz.prog Tryz.f298
noncomputable def a299 : AFn := cFn Tryz.prog Tryz.f299
noncomputable def a300 : AFn := cFn Tryz.prog Tryz.f300
noncomputable def a301 : AFn := cFn Tryz.prog Tryz.f301
noncomputable def a302 : AFn := cFn Tryz.prog Tryz.f302
noncomputable def a303 : AFn := cFn Tryz.prog Tryz.f303
noncomputable def a324 : AFn := cFn Tryz.prog Tryz.f324
noncomputable def a325 : AFn := cFn Tryz.prog Tryz.f325
noncomputable def ents : List (Nat × AFn) := [(4, a4), (7, a7), (9, a9), (8, a8), (12, a12), (13, a13), (14, a14), (15, a15), (16, a16), (17, a17), (19, a19), (20, a20), (21, a21), (22, a22), (24, a24), (25, a25), (26, a26), (27, a27), (28, a28), (29, a29), (30, a30), (34, a34), (35, a35), (37, a37), (39, a39), (40, a40), (41, a41), (42, a42), (43, a43), (45, a45), (46, a46), (52, a52), (56, a56), (58, a58), (59, a59), (60, a60), (61, a61), (63, a63), (64, a64), (65, a65), (66, a66), (67, a67), (68, a68), (69, a69), (70, a70), (72, a72), (73, a73), (74, a74), (76, a76), (77, a77), (96, a96), (99, a99), (102, a102), (104, a104), (105, a105), (106, a106), (107, a107), (108, a108), (109, a109), (110, a110), (111, a111), (112, a112), (113, a113), (114, a114), (115, a115), (116, a116), (117, a117), (118, a118), (119, a119), (120, a120), (121, a121), (122, a122), (123, a123), (124, a124), (125, a125), (126, a126), (128, a128), (129, a129), (133, a133), (146, a146), (147, a147), (151, a151), (152, a152), (153, a153), (154, a154), (155, a155), (156, a156), (157, a157), (160, a160), (161, a161), (162, a162), (163, a163), (164, a164), (165, a165), (166, a166), (167, a167), (168, a168), (169, a169), (171, a171), (172, a172), (173, a173), (174, a174), (175, a175), (176, a176), (177, a177), (178, a178), (179, a179), (180, a180), (181, a181), (182, a182), (183, a183), (184, a184), (185, a185), (186, a186), (209, a209), (210, a210), (211, a211), (213, a213), (214, a214), (215, a215), (216, a216), (217, a217), (218, a218), (219, a219), (222, a222), (225, a225), (226, a226), (227, a227), (228, a228), (229, a229), (230, a230), (231, a231), (233, a233), (234, a234), (236, a236), (237, a237), (239, a239), (241, a241), (243, a243), (244, a244), (245, a245), (246, a246), (247, a247), (248, a248), (250, a250), (272, a272), (273, a273), (274, a274), (278, a278), (279, a279), (280, a280), (284, a284), (287, a287), (293, a293), (296, a296), (297, a297), (298, a298), (299, a299), (300, a300), (301, a301), (302, a302), (303, a303), (324, a324), (325, a325)]
noncomputable def buildT : List (Nat × AFn) → Tr AFn
  | [] => .leaf
  | q :: es => (buildT es).setP (pathF (q.1 + 1) q.1) (some q.2)
noncomputable def tab : Tr AFn := buildT ents
def l1 : List Nat := [0, 0, 0, 0, 0, 0, 0, 0, 0, 1, 1, 1, 1, 1, 0, 0, 0, 0, 0, 0, 0, 0, 0, 0, 0, 0, 0, 0, 0, 0, 0, 0, 1, 0, 0, 0, 0, 0, 0, 0, 0, 0, 0, 0, 0, 0, 0, 0, 0, 0, 0, 0, 0, 0, 0, 0, 0, 0, 0, 0, 0, 0, 0, 0, 0, 0, 0, 0, 0, 0, 0, 0, 0, 0, 0, 0, 0, 0, 0, 0, 0, 0, 0, 0, 0, 0, 0, 0, 0, 0, 0, 0, 0, 0, 0, 0, 0, 0, 0, 0, 0, 0, 0, 0, 0, 0, 0, 0, 0, 0, 0, 0, 0, 0, 0, 0, 0, 0, 0, 0, 0, 0, 0, 0, 0, 0, 0, 0, 0, 0, 0, 0, 0, 0, 0, 0, 0, 0, 0, 0, 0, 0, 0, 0, 0, 0, 0, 0, 0, 0, 0, 0, 0, 0, 0, 0, 0, 0, 0, 0, 0, 0, 0, 0, 0, 0, 0, 0, 0, 0, 0, 0, 0, 0, 0, 0, 0, 0, 0, 0, 0, 0, 0, 0, 0, 0, 0, 0, 0, 0, 0, 0, 0, 0, 0, 0, 0, 0, 0, 0, 0, 0, 0, 0, 0, 0, 0, 0, 0, 0, 0, 0, 0, 0, 0, 0, 0, 0, 0, 0, 0, 0, 0, 0, 0, 0, 0, 0, 0, 0, 0, 0, 0, 0, 0, 0, 0, 0, 0, 0, 0, 0, 0, 0, 0, 0, 0, 0, 0, 0, 0, 0, 0, 0, 0, 0]
noncomputable def cells1 : List AV := bytesV l1
noncomputable def row1 : AO := .row 1 256 false (storeE 1 256 cells1 .leaf 0)
def l4 : List Nat := [240, 240, 240, 240, 240, 240, 240, 240, 240, 240, 240, 240, 240, 240, 240, 240, 240, 240, 240, 240, 240, 240, 240, 240, 240, 240, 240, 240, 240, 240, 240, 240, 240, 240, 240, 240, 240, 240, 240, 240, 240, 240, 240, 240, 240, 240, 240, 240, 240, 240, 240, 240, 240, 240, 240, 240, 240, 240, 240, 240, 240, 240, 240, 240, 240, 240, 240, 240, 240, 240, 240, 240, 240, 240, 240, 240, 240, 240, 240, 240, 240, 240, 240, 240, 240, 240, 240, 240, 240, 240, 240, 240, 240, 240, 240, 240, 240, 240, 240, 240, 240, 240, 240, 240, 240, 240, 240, 240, 240, 240, 240, 240, 240, 240, 240, 240, 240, 240, 240, 240, 240, 240, 240, 240, 240, 240, 240, 240, 241, 241, 241, 241, 241, 241, 241, 241, 241, 241, 241, 241, 241, 241, 241, 241, 241, 241, 241, 241, 241, 241, 241, 241, 241, 241, 241, 241, 241, 241, 241, 241, 241, 241, 241, 241, 241, 241, 241, 241, 241, 241, 241, 241, 241, 241, 241, 241, 241, 241, 241, 241, 241, 241, 241, 241, 241, 241, 241, 241, 241, 241, 241, 241, 241, 241, 2, 2, 2, 2, 2, 2, 2, 2, 2, 2, 2, 2, 2, 2, 2, 2, 2, 2, 2, 2, 2, 2, 2, 2, 2, 2, 2, 2, 2, 2, 19, 3, 3, 3, 3, 3, 3, 3, 3, 3, 3, 3, 3, 35, 3, 3, 52, 4, 4, 4, 68, 241, 241, 241, 241, 241, 241, 241, 241, 241, 241, 241]
noncomputable def cells4 : List AV := bytesV l4
noncomputable def row4 : AO := .row 1 256 false (storeE 1 256 cells4 .leaf 0)
def l5 : List Nat := [128, 191, 160, 191, 128, 159, 144, 191, 128, 143, 0, 0, 0, 0, 0, 0, 0, 0, 0, 0, 0, 0, 0, 0, 0, 0, 0, 0, 0, 0, 0, 0]
noncomputable def cells5 : List AV := bytesV l5
noncomputable def row5 : AO := .row 2 16 false (storeE 2 16 cells5 .leaf 0)
noncomputable def heap0 : Tr AO := ((((.leaf : Tr AO).setP [true] (some row1)).setP [false, true] (some row4)).setP [true, false] (some row5))
def next0 : List Bool := [false, true, true, true]
end Go.Ev
end
