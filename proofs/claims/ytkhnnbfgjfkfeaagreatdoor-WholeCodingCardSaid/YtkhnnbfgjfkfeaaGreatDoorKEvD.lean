/- The plain model, part 4: keys, appends and their writes carried by the relation of the two runs. Conditions: those that each theorem states. -/
import Derived.Test.YtkhnnbfgjfkfeaaGreatDoorKEvC
import Derived.WideKeyRuns
import Derived.Deep.AppendSrc
section
namespace Go.Ev
open Go.RowKit
open Tr (path)
variable {P : Program} {β : Type} {o : Oper} {cr : Nat → AC → Code → Prop}

/-! ### keys -/
theorem encs_cons (v : AV) (l : List AV) : encs (v :: l) = ob (encs l) fun r => asN v fun n => guardB (Nat.ble (Nat.succ n) (nat_lit 16777216)) (forceN (Nat.add (Nat.mul r (nat_lit 16777216)) n) some) := rfl
theorem encs_iff {v : AV} {l : List AV} {n : Nat} : encs (v :: l) = some n ↔ ∃ (r : Nat) (q : IntKind) (m : Nat), encs l = some r ∧ v = .i q (m : Int) ∧ m < 16777216 ∧ n = r * 16777216 + m := by
  rw [encs_cons, ob_iff]
  constructor
  · rintro ⟨r, h1, h2⟩
    obtain ⟨q, m, rfl, h3⟩ := asN_iff.1 h2
    obtain ⟨h4, h5⟩ := guardB_iff.1 h3
    rw [forceN_eq] at h5
    have h4 : m + 1 ≤ 16777216 := by rw [Nat.ble_eq] at h4; exact h4
    exact ⟨r, q, m, h1, rfl, h4, (Option.some.inj h5).symm⟩
  · rintro ⟨r, q, m, h1, rfl, h2, rfl⟩
    refine ⟨r, h1, asN_iff.2 ⟨q, m, rfl, guardB_iff.2 ⟨by rw [Nat.ble_eq]; exact h2, by rw [forceN_eq]; rfl⟩⟩⟩
theorem eqs_cons (a b : AV) (x y : List AV) : eqs (a :: x) (b :: y) = ob (eq1 a b) fun r => @Bool.rec (fun _ => Option Bool) (some false) (eqs x y) r := rfl
theorem eqs_enc : ∀ (x y : List AV) (n m : Nat), encs x = some n → encs y = some m → kcs x = kcs y → eqs x y = some (n == m) := by
  intro x
  induction x with
  | nil =>
    intro y n m hx hy hk
    cases y with
    | nil => cases hx; cases hy; rfl
    | cons b y =>
      rw [kcs_nil, kcs_cons] at hk
      have hpos : ∀ l : List AV, 16 ≤ kcs l := fun l => by
        induction l with
        | nil => exact Nat.le_refl _
        | cons v l ih => rw [kcs_cons]; omega
      have := hpos y; omega
  | cons a x ih =>
    intro y n m hx hy hk
    cases y with
    | nil =>
      rw [kcs_nil, kcs_cons] at hk
      have hpos : ∀ l : List AV, 16 ≤ kcs l := fun l => by
        induction l with
        | nil => exact Nat.le_refl _
        | cons v l ih => rw [kcs_cons]; omega
      have := hpos x; omega
    | cons b y =>
      obtain ⟨r, q, c, h1, rfl, h2, rfl⟩ := encs_iff.1 hx
      obtain ⟨r', q', c', h1', rfl, h2', rfl⟩ := encs_iff.1 hy
      rw [kcs_cons, kcs_cons, kc1_i, kc1_i] at hk
      have l1 := kix_lt q
      have l2 := kix_lt q'
      have hkk : kcs x = kcs y := by omega
      have hqq : q = q' := kix_inj (by rw [Nat.beq_eq]; omega)
      subst hqq
      have he : eq1 (.i q (c : Int)) (.i q (c' : Int)) = some (c == c') := by
        show guardB (Nat.beq (kix q) (kix q)) (some (ieq (c : Int) (c' : Int))) = _
        rw [guardB_iff]
        refine ⟨by rw [Nat.beq_eq], ?_⟩
        rw [ieq_eq]; congr 1; rw [Bool.eq_iff_iff, beq_iff_eq, beq_iff_eq]; omega
      rw [eqs_cons, he]
      show @Bool.rec (fun _ => Option Bool) (some false) (eqs x y) (c == c') = _
      rw [ih y r r' h1 h1' hkk]
      by_cases hc : c = c'
      · subst hc
        simp only [beq_self_eq_true]
        congr 1; rw [Bool.eq_iff_iff, beq_iff_eq, beq_iff_eq]; omega
      · have hcf : (c == c') = false := by simp [hc]
        rw [hcf]
        show some false = _
        congr 1; symm; rw [beq_eq_false_iff_ne]; omega
/-- a value is the key of this number -/
def KN (φ : Phi) (kc : Nat) (v : Value) (n : Nat) : Prop := ∃ k, VR φ k v ∧ enc kc k = some n
theorem enc_iff {kc : Nat} {k : AV} {n : Nat} (h : enc kc k = some n) : (∃ q, k = .i q (n : Int) ∧ kix q = kc) ∨ ∃ l, k = .a l ∧ kcs l = kc ∧ encs l = some n := by
  cases k <;> first | (cases h; done) | skip
  · rename_i q m
    obtain ⟨h1, h2⟩ := guardB_iff.1 (h : guardB (Nat.beq (kix q) kc) (nn1 m some) = some n)
    obtain ⟨c, rfl, h3⟩ := nn1_iff.1 h2
    cases h3
    exact .inl ⟨q, rfl, by rw [Nat.beq_eq] at h1; exact h1⟩
  · rename_i l
    obtain ⟨h1, h2⟩ := guardB_iff.1 (h : guardB (Nat.beq (kcs l) kc) (encs l) = some n)
    exact .inr ⟨l, rfl, by rw [Nat.beq_eq] at h1; exact h1, h2⟩
theorem plainFs_pos : ∀ (fs : List Field) (j r : Nat), plainFs P j fs = some r → 16 ≤ r := fun fs => by
  induction fs with
  | nil => intro j r e; cases e; exact Nat.le_refl _
  | cons f fs ih =>
    intro j r e
    unfold plainFs at e
    split at e
    · split at e
      · cases e; have := ih _ _ ‹_›; omega
      · cases e
    · cases e
/-- the two kinds of keys -/
theorem keyT_iff {kt : TypeId} {kc : Nat} (h : keyT P kt = some kc) : (∃ q, P.underlying kt = some (.int q) ∧ kc = kix q) ∨ ∃ fs, P.underlying kt = some (.struct fs) ∧ plainS P kt = some kc ∧ plainFs P 0 fs.toList = some kc ∧ (∀ f ∈ fs.toList, ∃ q, P.underlying f.type = some (.int q)) ∧ 16 ≤ kc := by
  unfold keyT at h
  split at h
  · cases h; exact .inl ⟨_, ‹_›, kixD_eq _⟩
  · rename_i fs hu
    split at h
    · rename_i hall
      rw [Bool.and_eq_true, List.all_eq_true] at hall
      have hf : ∀ f ∈ fs.toList, ∃ q, P.underlying f.type = some (.int q) := fun f hf => by
        have := hall.2 f hf
        split at this
        · exact ⟨_, ‹_›⟩
        · cases this
      have h0 := h
      unfold plainS at h
      rw [hu] at h
      simp only [] at h
      split at h
      · refine .inr ⟨fs, hu, h0, h, hf, ?_⟩
        cases hl : fs.toList with
        | nil => have := hall.1; simp at this; exact absurd (by simpa using hl) this
        | cons f0 fl =>
          rw [hl] at h
          unfold plainFs at h
          split at h
          · split at h
            · cases h
              have := plainFs_pos _ _ _ ‹_›
              omega
            · cases h
          · cases h
      · cases h
    · cases h
  · cases h
theorem kcs_ge : ∀ l : List AV, 16 ≤ kcs l
  | [] => Nat.le_refl _
  | v :: l => by rw [kcs_cons]; have := kcs_ge l; omega
/-- a key that is an int, a key that is a struct -/
theorem kn_int {φ : Phi} {q : IntKind} {x : Value} {n : Nat} (h : KN φ (kix q) x n) : x = .int q n := by
  obtain ⟨k, hk1, hk2⟩ := h
  have hq := kix_lt q
  rcases enc_iff hk2 with ⟨a, rfl, ha⟩ | ⟨l, rfl, hl, _⟩
  · have := kix_inj (k := a) (k' := q) (by rw [Nat.beq_eq]; omega)
    subst this
    exact vr_i hk1
  · have := kcs_ge l; omega
theorem kn_str {φ : Phi} {kc : Nat} (hc : 16 ≤ kc) {x : Value} {n : Nat} (h : KN φ kc x n) : ∃ l cs, x = .agg cs ∧ VRs φ l cs.toList ∧ kcs l = kc ∧ encs l = some n := by
  obtain ⟨k, hk1, hk2⟩ := h
  rcases enc_iff hk2 with ⟨a, rfl, ha⟩ | ⟨l, rfl, hl, he⟩
  · have := kix_lt a; omega
  · obtain ⟨cs, rfl, h2, _⟩ := vr_a hk1
    exact ⟨l, cs, rfl, h2, hl, he⟩
theorem equal_key {φ : Phi} {kt : TypeId} {kc : Nat} (h : keyT P kt = some kc) {x y : Value} {n m : Nat} (hx : KN φ kc x n) (hy : KN φ kc y m) (w : World) : (Op.equal kt x y).run P w = .ok (n == m) w := by
  rcases keyT_iff h with ⟨q, hu, rfl⟩ | ⟨fs, hu, hp, _, _, h16⟩
  · have := kn_int hx; subst this
    have := kn_int hy; subst this
    have := run_equalIn_int (P := P) w 9999 kt q q (n : Int) (m : Int) hu
    have hnm : ((n : Int) == (m : Int)) = (n == m) := by rw [Bool.eq_iff_iff, beq_iff_eq, beq_iff_eq]; omega
    rw [hnm] at this; exact this
  · obtain ⟨l, cs, rfl, a1, a2, a3⟩ := kn_str h16 hx
    obtain ⟨l', cs', rfl, b1, b2, b3⟩ := kn_str h16 hy
    exact (eqA_run (P := P) hp a1 b1 a2 (eqs_enc l l' n m a3 b3 (by omega)) 9998 w).1
theorem KN.det {φ : Phi} {kt : TypeId} {kc : Nat} (h : keyT P kt = some kc) {x : Value} {n m : Nat} (hx : KN φ kc x n) (hy : KN φ kc x m) : n = m := by
  have w : World := default
  have h1 := equal_key h hx hy w
  have h2 := equal_key h hx hx w
  rw [h1] at h2
  have h3 : (n == m) = (n == n) := by injection h2
  simpa using h3
/-- what is found -/
def firstAt (n : Nat) : List (Nat × Value) → Nat → Option (Nat × Value)
  | [], _ => none
  | (m, v) :: l, i => if n = m then some (i, v) else firstAt n l (i + 1)
theorem findNow_int {φ : Phi} {q : IntKind} (d : IntKind) {n : Nat} : ∀ (es : List MapEntry) (ns : List Nat) (i : Nat), ns.length = es.length → (∀ (j m : Nat) (x : MapEntry), ns[j]? = some m → es[j]? = some x → KN φ (kix q) x.key m) →
    Instr.findNow (.int d) (.int q n) es i = some (firstAt n (ns.zip (es.map (·.val))) i) := by
  intro es
  induction es with
  | nil => intro ns i hl h; cases ns with
    | nil => rfl
    | cons _ _ => cases hl
  | cons e es ih =>
    intro ns i hl h
    cases ns with
    | nil => cases hl
    | cons m ns =>
      have hk := kn_int (h 0 m e rfl rfl)
      simp only [List.map_cons, List.zip_cons_cons, firstAt]
      unfold Instr.findNow
      rw [hk]
      simp only [Instr.sameNow, if_true]
      by_cases c : n = m
      · subst c; simp
      · have : ((n : Int) == (m : Int)) = false := by rw [beq_eq_false_iff_ne]; omega
        rw [this, if_neg c]
        exact ih ns (i + 1) (by simpa using hl) (fun j m' x a b => h (j + 1) m' x (by simpa using a) (by simpa using b))
theorem findAsking_ok {φ : Phi} {kt : TypeId} {kc : Nat} (h : keyT P kt = some kc) {k : Value} {n : Nat} (hk : KN φ kc k n) (w : World) : ∀ (es : List MapEntry) (ns : List Nat) (i : Nat), ns.length = es.length → (∀ (j m : Nat) (x : MapEntry), ns[j]? = some m → es[j]? = some x → KN φ kc x.key m) →
    (Instr.findAsking kt k es i).run P w = .ok (firstAt n (ns.zip (es.map (·.val))) i) w := by
  intro es
  induction es with
  | nil => intro ns i hl hh; cases ns with
    | nil => rfl
    | cons _ _ => cases hl
  | cons e es ih =>
    intro ns i hl hh
    cases ns with
    | nil => cases hl
    | cons m ns =>
      have he := equal_key h hk (hh 0 m e rfl rfl) w
      simp only [List.map_cons, List.zip_cons_cons, firstAt]
      unfold Instr.findAsking
      rw [Sem.run_bind, he, Result.andThen_ok]
      by_cases c : n = m
      · subst c; simp
      · have : (n == m) = false := by rw [beq_eq_false_iff_ne]; exact c
        rw [this, if_neg c]
        simp only [Bool.false_eq_true, if_false]
        exact ih ns (i + 1) (by simpa using hl) (fun j m' x a b => hh (j + 1) m' x (by simpa using a) (by simpa using b))
theorem findKey_ok {φ : Phi} {kt : TypeId} {kc : Nat} (h : keyT P kt = some kc) {k : Value} {n : Nat} (hk : KN φ kc k n) (w : World) (es : List MapEntry) (ns : List Nat) (hl : ns.length = es.length) (hh : ∀ (j m : Nat) (x : MapEntry), ns[j]? = some m → es[j]? = some x → KN φ kc x.key m) :
    (Instr.findKey kt k es).run P w = .ok (firstAt n (ns.zip (es.map (·.val))) 0) w := by
  rcases keyT_iff h with ⟨q, hu, rfl⟩ | ⟨fs, hu, hp, _, _, h16⟩
  · have := kn_int hk; subst this
    simp [Instr.findKey, run_underlying hu, findNow_int q es ns 0 hl hh]
  · rw [run_findKey_eq w (by rw [hu]) k es]
    exact findAsking_ok h hk w es ns 0 hl hh
/-- may it be a key: yes -/
theorem check_key {φ : Phi} {kt : TypeId} {kc : Nat} (h : keyT P kt = some kc) {k : Value} {n : Nat} (hk : KN φ kc k n) (em : Bool) (d : Nat) (w : World) : (Instr.checkKey em (d + 1 + 1) kt k).run P w = .ok () w := by
  rcases keyT_iff h with ⟨q, hu, rfl⟩ | ⟨fs, hu, hp, hpf, hall, h16⟩
  · have := kn_int hk; subst this
    simp [Instr.checkKey, run_underlying hu]
  · obtain ⟨l, cs, rfl, a0, a2, a3⟩ := kn_str h16 hk
    unfold Instr.checkKey
    simp only [Sem.run_bind, run_underlying hu, Result.andThen_ok]
    rw [← Array.forIn_toList]
    have a1 : VRs φ l (cs.toList.drop 0) := by simpa using a0
    clear hp hu hk a3 h a0
    revert a1 a2 hpf hall
    generalize fs.toList = fl
    generalize (0 : Nat) = j
    clear h16
    induction fl generalizing j kc l with
    | nil => intro _ _ _ _; rfl
    | cons f fl ih =>
      intro hpf hall a2 a1
      unfold plainFs at hpf
      split at hpf
      · rename_i hf
        simp only [Bool.and_eq_true, beq_iff_eq, bne_iff_ne, ne_eq] at hf
        split at hpf
        · rename_i r' k hr hk'
          cases hpf
          have hlt := (plainT_lt hk').1
          cases l with
          | nil => rw [kcs_nil] at a2; have := plainFs_pos _ _ _ hr; omega
          | cons u l =>
            rw [kcs_cons] at a2
            have hul := kc1_lt u
            have hk1 : kcs l = r' := by omega
            have gx : ∃ u', cs[f.offset]? = some u' ∧ VR φ u u' ∧ VRs φ l (cs.toList.drop (j + 1)) := by
              cases hx : cs.toList.drop j with
              | nil => rw [hx] at a1; cases a1
              | cons u' rest =>
                rw [hx] at a1
                cases a1 with
                | cons _ _ _ _ h1 h2 =>
                refine ⟨u', ?_, h1, ?_⟩
                · rw [hf.1, ← Array.getElem?_toList]
                  have := List.getElem?_drop (xs := cs.toList) (i := j) (j := 0)
                  rw [hx] at this; simpa using this.symm
                · have := List.drop_drop (i := 1) (j := j) (l := cs.toList)
                  rw [hx] at this; simp at this; rw [← this]; exact h2
            obtain ⟨u', hu1, _, hu3⟩ := gx
            obtain ⟨q, hq⟩ := hall f List.mem_cons_self
            have hck : (Instr.checkKey em (d + 1) f.type u').run P w = .ok () w := by simp [Instr.checkKey, run_underlying hq]
            have hne : f.name ≠ "_" := hf.2
            simp only [List.forIn_cons, Sem.run_bind, Sem.run_ite, plain_part hk' _ _ _ hu1, hck, Result.andThen_ok, Sem.run_pure]
            rw [if_pos hne]
            simp only [Result.andThen_ok]
            exact ih (kc := r') l (j + 1) hr (fun g hg => hall g (List.mem_cons_of_mem _ hg)) hk1 hu3
        · cases hpf
      · cases hpf

/-! ### operations -/
theorem mp_iff {kc : Nat} {h : Tr AO} {b : List Bool} {k : Tr AV → Option β} {r : β} : mp kc h b k = some r ↔ ∃ c, h.getP b = some (.mp kc c) ∧ k c = some r := by
  unfold mp; rw [ob_iff]; constructor
  · rintro ⟨x, h1, h2⟩
    cases x <;> first | (cases h2; done) | skip
    rename_i q c
    obtain ⟨h3, h4⟩ := guardB_iff.1 h2
    have h3 : q = kc := by rw [Nat.beq_eq] at h3; exact h3
    subst h3
    exact ⟨c, h1, h4⟩
  · rintro ⟨c, h1, h2⟩; exact ⟨_, h1, guardB_iff.2 ⟨by rw [Nat.beq_eq], h2⟩⟩
theorem firstAt_some {n : Nat} : ∀ (ns : List Nat) (vs : List Value) (i : Nat) (j : Nat) (v : Value), ns.length = vs.length → firstAt n (ns.zip vs) i = some (j, v) → ∃ t, j = i + t ∧ ns[t]? = some n ∧ vs[t]? = some v := by
  intro ns
  induction ns with
  | nil => intro vs i j v hl e; cases vs <;> cases e
  | cons m ns ih =>
    intro vs i j v hl e
    cases vs with
    | nil => cases hl
    | cons u vs =>
      simp only [List.zip_cons_cons, firstAt] at e
      split at e
      · rename_i hc; cases e; exact ⟨0, rfl, by simp [hc], rfl⟩
      · obtain ⟨t, h1, h2, h3⟩ := ih vs (i + 1) j v (by simpa using hl) e
        exact ⟨t + 1, by omega, by simpa using h2, by simpa using h3⟩
theorem firstAt_none {n : Nat} : ∀ (ns : List Nat) (vs : List Value) (i : Nat), ns.length = vs.length → firstAt n (ns.zip vs) i = none → ∀ t : Nat, ns[t]? ≠ some n := by
  intro ns
  induction ns with
  | nil => intro vs i hl e t q; simp at q
  | cons m ns ih =>
    intro vs i hl e t
    cases vs with
    | nil => cases hl
    | cons u vs =>
      simp only [List.zip_cons_cons, firstAt] at e
      split at e
      · cases e
      · rename_i hc
        cases t with
        | zero => simp; exact fun q => hc q.symm
        | succ t => simpa using ih vs (i + 1) (by simpa using hl) e t
/-- the numbers of a map's keys -/
theorem MR.nums {φ : Phi} {kc : Nat} {c : Tr AV} {es : Array MapEntry} (h : MR φ kc c es) : ∃ ns : List Nat, ns.length = es.toList.length ∧ (∀ (j m : Nat) (x : MapEntry), ns[j]? = some m → es.toList[j]? = some x → KN φ kc x.key m) ∧
    ∀ (j m : Nat) (x : MapEntry), ns[j]? = some m → es.toList[j]? = some x → ∃ v, c.get m = some v ∧ VR φ v x.val := by
  have h1 : ∀ x ∈ es.toList, ∃ n, KN φ kc x.key n ∧ ∃ v, c.get n = some v ∧ VR φ v x.val := by
    intro x hx
    obtain ⟨i, hi⟩ := List.getElem?_of_mem hx
    obtain ⟨k, n, v, a, b, d, f⟩ := h.to i x (by rw [← Array.getElem?_toList]; exact hi)
    exact ⟨n, ⟨k, a, b⟩, v, d, f⟩
  generalize es.toList = l at h1 ⊢
  clear h
  induction l with
  | nil => exact ⟨[], rfl, fun j m x e => by simp at e, fun j m x e => by simp at e⟩
  | cons x l ih =>
    obtain ⟨n, a, b⟩ := h1 x List.mem_cons_self
    obtain ⟨ns, c1, c2, c3⟩ := ih (fun y hy => h1 y (List.mem_cons_of_mem _ hy))
    refine ⟨n :: ns, by simp [c1], fun j m y e e' => ?_, fun j m y e e' => ?_⟩
    · cases j with
      | zero => simp at e e'; subst e; subst e'; exact a
      | succ j => exact c2 j m y (by simpa using e) (by simpa using e')
    · cases j with
      | zero => simp at e e'; subst e; subst e'; exact b
      | succ j => exact c3 j m y (by simpa using e) (by simpa using e')
theorem mapIs_eq {ty : TypeId} {kc : Nat} {z : AV} (h : mapIs P ty kc z = true) : ∃ k e, P.underlying ty = some (.map k e) ∧ keyT P k = some kc ∧ zVal P e z = true := by
  unfold mapIs at h
  split at h
  · rw [Bool.and_eq_true, beq_iff_eq] at h; exact ⟨_, _, ‹_›, h.1, h.2⟩
  · cases h
theorem mapIs'_eq {ty : TypeId} {kc : Nat} (h : mapIs' P ty kc = true) : ∃ k e, P.underlying ty = some (.map k e) ∧ keyT P k = some kc := by
  unfold mapIs' at h
  split at h
  · rw [beq_iff_eq] at h; exact ⟨_, _, ‹_›, h⟩
  · cases h
theorem zVal_run {e : TypeId} {z : AV} (h : zVal P e z = true) : ∃ zv, (∀ φ, VR φ z zv) ∧ ∀ w, (zeroValue e).run P w = .ok zv w := by
  unfold zVal at h
  split at h
  · rename_i zv hzv
    obtain ⟨i, hi, hzi⟩ := Option.bind_eq_some_iff.1 hzv
    exact ⟨zv, fun φ => chkV_ok φ h, fun w => by simp [zeroValue, typeInfo, hi, hzi]⟩
  · cases h
theorem pairV {φ : Phi} {v : AV} {v' : Value} (h : VR φ v v') (b ok : Bool) : VR φ (@Bool.rec (fun _ => AV) v (.t [v, .b b]) ok) (if ok then .tuple #[v', .bool b] else v') := by
  cases ok
  · exact h
  · exact .t _ _ (.cons _ _ _ _ h (.cons _ _ _ _ (.b b) .nil))
theorem sr_look {ty : TypeId} {kc : Nat} {z : AV} {x y : Operand} {x' y' : Opd} {ok : Bool} (ho : o.op = .lookup ty x y ok) (hs : mapIs P ty kc z = true) (hx : chkX x x' = true) (hy : chkX y y' = true) : SoundR P cr o (.look kc z x' y' ok) := by
  obtain ⟨kt, et, hty, hkt, hze⟩ := mapIs_eq hs
  obtain ⟨zv, hz1, hz2⟩ := zVal_run hze
  intro φ N t a cl clv h n v h' n' w ht hg r e
  obtain ⟨u1, e1, e⟩ := ob_iff.1 e
  obtain ⟨u2, e2, e⟩ := ob_iff.1 e
  obtain ⟨kn, e3, e⟩ := ob_iff.1 e
  have hx' := eval_ok hx ht hg e1
  have hk : KN φ kc (a.eval y) kn := ⟨u2, eval_ok hy ht hg e2, e3⟩
  rcases asM_iff.1 e with ⟨rfl, f⟩ | ⟨b, rfl, f⟩
  · obtain ⟨rfl, rfl, rfl⟩ := r1_iff.1 f
    generalize hq : a.eval x = p at hx'
    cases hx'
    refine ⟨rfl, rfl, _, pairV (hz1 φ) false ok, ?_⟩
    have hf := findKey_ok (P := P) (φ := φ) hkt hk w [] [] rfl (fun j m x e => by simp at e)
    simp only [List.map_nil, List.zip_nil_left, firstAt] at hf
    simp [execOp, ho, hq, Instr.lookup, run_underlying hty, check_key hkt hk true 9998 w, hf, hz2]
  · obtain ⟨c, g1, f2⟩ := mp_iff.1 f
    generalize hq : a.eval x = p at hx'
    cases hx' with
    | m _ γ hφ =>
    obtain ⟨ox, d1, d2⟩ := r.blk b _ γ g1 hφ
    cases ox <;> first | exact d2.elim | skip
    rename_i es clock
    have d2 : MR φ kc c es := d2
    obtain ⟨ns, m1, m2, m3⟩ := d2.nums
    have hgo := run_getObj (P := P) d1 (fun _ _ _ q => by cases q)
    have hf := findKey_ok (P := P) (φ := φ) hkt hk w es.toList ns m1 m2
    have hck := check_key (P := P) hkt hk es.isEmpty 9998 w
    cases hfa : firstAt kn (ns.zip (es.toList.map (·.val))) 0 with
    | none =>
      have hnone := firstAt_none ns _ 0 (by simp [m1]) hfa
      have hcn : c.get kn = none := by
        cases hc : c.get kn with
        | none => rfl
        | some u =>
          obtain ⟨i, x0, k0, q1, q2, q3⟩ := d2.from_ kn u hc
          have hi : i < ns.length := by rw [m1]; have := (Array.getElem?_eq_some_iff.1 q1).1; simpa using this
          have := KN.det (P := P) hkt (m2 i (ns[i]) x0 (List.getElem?_eq_getElem hi) (by rw [Array.getElem?_toList]; exact q1)) ⟨k0, q2, q3⟩
          exact absurd (by rw [List.getElem?_eq_getElem hi, this]) (hnone i)
      rw [hcn] at f2
      obtain ⟨rfl, rfl, rfl⟩ := r1_iff.1 f2
      refine ⟨rfl, rfl, _, pairV (hz1 φ) false ok, ?_⟩
      rw [hfa] at hf
      simp [execOp, ho, hq, Instr.lookup, run_underlying hty, hgo, hck, hf, hz2]
    | some jv =>
      obtain ⟨j, vv⟩ := jv
      obtain ⟨s, hs1, hs2, hs3⟩ := firstAt_some ns _ 0 j vv (by simp [m1]) hfa
      rw [List.getElem?_map] at hs3
      cases hes : es.toList[s]? with
      | none => rw [hes] at hs3; cases hs3
      | some x0 =>
        rw [hes] at hs3
        have hs3 : x0.val = vv := by simpa using hs3
        obtain ⟨u, q1, q2⟩ := m3 s kn x0 hs2 hes
        rw [q1] at f2
        obtain ⟨rfl, rfl, rfl⟩ := r1_iff.1 f2
        rw [hs3] at q2
        refine ⟨rfl, rfl, _, pairV q2 true ok, ?_⟩
        rw [hfa] at hf
        simp [execOp, ho, hq, Instr.lookup, run_underlying hty, hgo, hck, hf]

theorem encs_inj : ∀ (x y : List AV) (n : Nat), encs x = some n → encs y = some n → kcs x = kcs y → x = y := by
  intro x
  induction x with
  | nil =>
    intro y n hx hy hk
    cases y with
    | nil => rfl
    | cons b y => rw [kcs_nil, kcs_cons] at hk; have := kcs_ge y; omega
  | cons a x ih =>
    intro y n hx hy hk
    cases y with
    | nil => rw [kcs_nil, kcs_cons] at hk; have := kcs_ge x; omega
    | cons b y =>
      obtain ⟨r, q, c, h1, rfl, h2, rfl⟩ := encs_iff.1 hx
      obtain ⟨r', q', c', h1', rfl, h2', h3⟩ := encs_iff.1 hy
      rw [kcs_cons, kcs_cons, kc1_i, kc1_i] at hk
      have l1 := kix_lt q
      have l2 := kix_lt q'
      have hr : r = r' := by omega
      have hc : c = c' := by omega
      subst hr; subst hc
      have hqq : q = q' := kix_inj (by rw [Nat.beq_eq]; omega)
      subst hqq
      rw [ih y r h1 h1' (by omega)]
theorem encs_ints : ∀ (x : List AV) (n : Nat), encs x = some n → ∀ v ∈ x, ∃ q m, v = .i q m := by
  intro x
  induction x with
  | nil => intro n _ v hv; simp at hv
  | cons a x ih =>
    intro n hx v hv
    obtain ⟨r, q, c, h1, rfl, _, _⟩ := encs_iff.1 hx
    rcases List.mem_cons.1 hv with rfl | hv
    · exact ⟨_, _, rfl⟩
    · exact ih r h1 v hv
theorem vrs_ints {φ ψ : Phi} : ∀ (x : List AV) (a b : List Value), (∀ v ∈ x, ∃ q m, v = .i q m) → VRs φ x a → VRs ψ x b → a = b := by
  intro x
  induction x with
  | nil => intro a b _ h k; cases h; cases k; rfl
  | cons v x ih =>
    intro a b h h1 k1
    cases h1 with
    | cons _ v' _ vs' h1 h2 =>
    cases k1 with
    | cons _ u' _ us' k1 k2 =>
    obtain ⟨q, m, rfl⟩ := h v List.mem_cons_self
    rw [vr_i h1, vr_i k1, ih _ _ (fun w hw => h w (List.mem_cons_of_mem _ hw)) h2 k2]
/-- one key has one number, and a number one key -/
theorem KN.eq {φ : Phi} {kt : TypeId} {kc : Nat} (h : keyT P kt = some kc) {x y : Value} {n : Nat} (hx : KN φ kc x n) (hy : KN φ kc y n) : x = y ∧ ∀ d, Instr.sameBits (d + 1) x y = true := by
  rcases keyT_iff h with ⟨q, hu, rfl⟩ | ⟨fs, hu, hp, _, _, h16⟩
  · rw [kn_int hx, kn_int hy]; exact ⟨rfl, fun d => by simp [Instr.sameBits]⟩
  · obtain ⟨l, cs, rfl, a1, a2, a3⟩ := kn_str h16 hx
    obtain ⟨l', cs', rfl, b1, b2, b3⟩ := kn_str h16 hy
    have := encs_inj l l' n a3 b3 (by omega)
    subst this
    have hi := encs_ints l n a3
    have he := vrs_ints _ _ _ hi a1 b1
    have he2 : cs = cs' := Array.toList_inj.1 he
    subst he2
    refine ⟨rfl, fun d => ?_⟩
    have key : ∀ (l : List AV) (c : List Value), (∀ v ∈ l, ∃ q m, v = .i q m) → VRs φ l c → ((c.zip c).all fun (x, y) => Instr.sameBits d x y) = true := by
      intro l
      induction l with
      | nil => intro c _ h; cases h; rfl
      | cons v l ih =>
        intro c hi h
        cases h with
        | cons _ v' _ vs' h1 h2 =>
        obtain ⟨q, m, rfl⟩ := hi v List.mem_cons_self
        rw [List.zip_cons_cons, List.all_cons, ih vs' (fun w hw => hi w (List.mem_cons_of_mem _ hw)) h2, vr_i h1]
        cases d <;> simp [Instr.sameBits]
    unfold Instr.sameBits
    rw [key l cs.toList hi a1]; simp
theorem sm_mupd {ty : TypeId} {kc : Nat} {x y z : Operand} {x' y' z' : Opd} (ho : o.op = .mapUpdate ty x y z) (hs : mapIs' P ty kc = true) (hx : chkX x x' = true) (hy : chkX y y' = true) (hz : chkX z z' = true) : SoundM P cr o (.mupd kc x' y' z') := by
  obtain ⟨kt, et, hty, hkt⟩ := mapIs'_eq hs
  intro φ N t a cl clv h n v h' n' w ht hg r f e
  obtain ⟨u1, e1, e⟩ := ob_iff.1 e
  obtain ⟨u2, e2, e⟩ := ob_iff.1 e
  obtain ⟨u3, e3, e⟩ := ob_iff.1 e
  obtain ⟨kn, e4, e⟩ := ob_iff.1 e
  have hx' := eval_ok hx ht hg e1
  have hk : KN φ kc (a.eval y) kn := ⟨u2, eval_ok hy ht hg e2, e4⟩
  have hv := eval_ok hz ht hg e3
  rcases asM_iff.1 e with ⟨rfl, f0⟩ | ⟨b, rfl, f0⟩
  · cases f0
  · obtain ⟨c, g1, f2⟩ := mp_iff.1 f0
    rw [forceT_eq, setH_eq] at f2
    obtain ⟨rfl, rfl, rfl⟩ := r1_iff.1 f2
    generalize hq : a.eval x = p at hx'
    cases hx' with
    | m _ γ hφ =>
    obtain ⟨ox, d1, d2⟩ := r.blk b _ γ g1 hφ
    cases ox <;> first | exact d2.elim | skip
    rename_i es clock
    have d2 : MR φ kc c es := d2
    obtain ⟨ns, m1, m2, m3⟩ := d2.nums
    have hnc : ∀ cs e fz, Obj.map es clock ≠ .cells cs e fz := fun _ _ _ q => by cases q
    have hgo := run_getObj (P := P) d1 hnc
    have hf := findKey_ok (P := P) (φ := φ) hkt hk w es.toList ns m1 m2
    have hck := check_key (P := P) hkt hk false 9998 w
    have hget : ∀ m, (c.set (Nat.succ kn) (some u3) kn).get m = if kn = m then some u3 else c.get m := fun m => Tr.get_set _ _ _ _
    have num : ∀ (i : Nat) (x0 : MapEntry), es[i]? = some x0 → ∃ m, ns[i]? = some m ∧ KN φ kc x0.key m := fun i x0 hi => by
      have hlt : i < ns.length := by rw [m1]; have := (Array.getElem?_eq_some_iff.1 hi).1; simpa using this
      exact ⟨ns[i], List.getElem?_eq_getElem hlt, m2 i _ x0 (List.getElem?_eq_getElem hlt) (by rw [Array.getElem?_toList]; exact hi)⟩
    cases hfa : firstAt kn (ns.zip (es.toList.map (·.val))) 0 with
    | none =>
      have hnone := firstAt_none ns _ 0 (by simp [m1]) hfa
      rw [hfa] at hf
      have hso := run_setObj (P := P) (y := .map (es.push { key := a.eval y, val := a.eval z, born := clock }) (clock + 1)) d1 hnc
      obtain ⟨q1, q2, q3⟩ := set_facts (y := .map (es.push { key := a.eval y, val := a.eval z, born := clock }) (clock + 1)) d1
      refine ⟨.skip, undef, φ, { w with heap := w.heap.setIfInBounds γ (.map (es.push { key := a.eval y, val := a.eval z, born := clock }) (clock + 1)) }, ?_, rfl, und_vr φ, ?_⟩
      · simp only [execOp, ho, hq, Instr.mapUpdate, Sem.run_bind, run_underlying hty, hgo, hck, hf, Result.andThen_ok, hso, Sem.run_pure]
      · rw [hp_set]
        refine St.turn r f b _ _ γ (.map (es.push { key := a.eval y, val := a.eval z, born := clock }) (clock + 1)) g1 hφ rfl rfl ?_ ⟨rfl, rfl, rfl⟩ q3 q1 q2
        show MR φ kc (c.set (Nat.succ kn) (some u3) kn) (es.push _)
        refine ⟨fun i x0 hi => ?_, fun m u hm => ?_, fun i j x0 y0 hi hj hxy => ?_⟩
        · rw [Array.getElem?_push] at hi
          split at hi
          · cases hi
            obtain ⟨k0, a0, b0⟩ := hk
            exact ⟨k0, kn, u3, a0, b0, by rw [hget, if_pos rfl], hv⟩
          · obtain ⟨k0, m, u, a0, b0, c0, dd⟩ := d2.to i x0 hi
            obtain ⟨m', hm1, hm2⟩ := num i x0 hi
            have := KN.det (P := P) hkt hm2 ⟨k0, a0, b0⟩
            subst this
            refine ⟨k0, m', u, a0, b0, ?_, dd⟩
            rw [hget, if_neg (fun q => hnone i (by rw [hm1, q])), c0]
        · rw [hget] at hm
          split at hm
          · rename_i hkm; cases hm; subst hkm
            obtain ⟨k0, a0, b0⟩ := hk
            exact ⟨es.size, { key := a.eval y, val := a.eval z, born := clock }, k0, by simp, a0, b0⟩
          · obtain ⟨i, x0, k0, a0, b0, c0⟩ := d2.from_ m u hm
            have hlt := (Array.getElem?_eq_some_iff.1 a0).1
            exact ⟨i, x0, k0, by rw [Array.getElem?_push, if_neg (by omega)]; exact a0, b0, c0⟩
        · rw [Array.getElem?_push] at hi hj
          have newne : ∀ (i : Nat) (x0 : MapEntry), es[i]? = some x0 → x0.key ≠ a.eval y := fun i x0 h0 q => by
            obtain ⟨m, hm1, hm2⟩ := num i x0 h0
            rw [q] at hm2
            have := KN.det (P := P) hkt hm2 hk
            exact hnone i (by rw [hm1, this])
          split at hi
          · split at hj
            · omega
            · cases hi; exact absurd hxy.symm (newne j y0 hj)
          · split at hj
            · cases hj; exact absurd hxy (newne i x0 hi)
            · exact d2.uniq i j x0 y0 hi hj hxy
    | some jv =>
      obtain ⟨j, vv⟩ := jv
      obtain ⟨s, hs1, hs2, hs3⟩ := firstAt_some ns _ 0 j vv (by simp [m1]) hfa
      rw [List.getElem?_map] at hs3
      cases hes : es.toList[s]? with
      | none => rw [hes] at hs3; cases hs3
      | some x0 =>
        have hjs : j = s := by omega
        subst hjs
        rw [hfa] at hf
        have hes2 : es[j]? = some x0 := by rw [← Array.getElem?_toList]; exact hes
        have hkn0 := m2 j kn x0 hs2 hes
        obtain ⟨heq, hsb⟩ := KN.eq (P := P) hkt hkn0 hk
        have hstay : (Instr.keyThatStays x0.key (a.eval y)).run P w = .ok (a.eval y) w := by
          unfold Instr.keyThatStays
          rw [if_pos (hsb 9999)]; rfl
        have hso := run_setObj (P := P) (y := .map (es.modify j fun e => { e with key := a.eval y, val := a.eval z }) clock) d1 hnc
        obtain ⟨q1, q2, q3⟩ := set_facts (y := .map (es.modify j fun e => { e with key := a.eval y, val := a.eval z }) clock) d1
        refine ⟨.skip, undef, φ, { w with heap := w.heap.setIfInBounds γ (.map (es.modify j fun e => { e with key := a.eval y, val := a.eval z }) clock) }, ?_, rfl, und_vr φ, ?_⟩
        · simp only [execOp, ho, hq, Instr.mapUpdate, Sem.run_bind, run_underlying hty, hgo, hck, hf, Result.andThen_ok, hes2, Option.map_some, Option.getD_some, hstay, hso, Sem.run_pure]
        · rw [hp_set]
          refine St.turn r f b _ _ γ (.map (es.modify j fun e => { e with key := a.eval y, val := a.eval z }) clock) g1 hφ rfl rfl ?_ ⟨rfl, rfl, rfl⟩ q3 q1 q2
          show MR φ kc (c.set (Nat.succ kn) (some u3) kn) (es.modify j _)
          have hkeys : ∀ (i : Nat) (y0 : MapEntry), (es.modify j fun e => { e with key := a.eval y, val := a.eval z })[i]? = some y0 → ∃ z0, es[i]? = some z0 ∧ z0.key = y0.key ∧ (i ≠ j → z0 = y0) ∧ (i = j → y0.val = a.eval z) := fun i y0 h0 => by
            rw [Array.getElem?_modify] at h0
            split at h0
            · rename_i hij; subst hij
              rw [hes2] at h0
              have h0 : ({ x0 with key := a.eval y, val := a.eval z } : MapEntry) = y0 := by simpa using h0
              refine ⟨x0, hes2, by rw [← h0]; exact heq, fun q => absurd rfl q, fun _ => by rw [← h0]⟩
            · rename_i hij; exact ⟨y0, h0, rfl, fun _ => rfl, fun q => absurd q.symm hij⟩
          refine ⟨fun i y0 hi => ?_, fun m u hm => ?_, fun i i' y0 y0' hi hj hxy => ?_⟩
          · obtain ⟨z0, a0, b0, c0, dd⟩ := hkeys i y0 hi
            by_cases hij : i = j
            · subst hij
              rw [hes2] at a0; cases a0
              obtain ⟨k0, e0, f0⟩ := hkn0
              exact ⟨k0, kn, u3, by rw [← b0]; exact e0, f0, by rw [hget, if_pos rfl], by rw [dd rfl]; exact hv⟩
            · have := c0 hij; subst this
              obtain ⟨k0, m, u, p0, p1, p2, p3⟩ := d2.to i z0 a0
              refine ⟨k0, m, u, p0, p1, ?_, p3⟩
              rw [hget, if_neg, p2]
              intro q
              subst q
              obtain ⟨heq2, _⟩ := KN.eq (P := P) hkt (⟨k0, p0, p1⟩ : KN φ kc z0.key kn) hkn0
              exact hij (d2.uniq i j z0 x0 a0 hes2 heq2)
          · rw [hget] at hm
            split at hm
            · rename_i hkm; cases hm; subst hkm
              obtain ⟨k0, e0, f0⟩ := hk
              exact ⟨j, { x0 with key := a.eval y, val := a.eval z }, k0, by rw [Array.getElem?_modify, if_pos rfl, hes2]; rfl, e0, f0⟩
            · rename_i hkm
              obtain ⟨i, z0, k0, p0, p1, p2⟩ := d2.from_ m u hm
              have hij : j ≠ i := by
                rintro rfl
                rw [hes2] at p0; cases p0
                exact hkm (KN.det (P := P) hkt hkn0 ⟨k0, p1, p2⟩)
              exact ⟨i, z0, k0, by rw [Array.getElem?_modify, if_neg hij]; exact p0, p1, p2⟩
          · obtain ⟨z0, a0, b0, _, _⟩ := hkeys i y0 hi
            obtain ⟨z0', a0', b0', _, _⟩ := hkeys i' y0' hj
            exact d2.uniq i i' z0 z0' a0 a0' (by rw [b0, b0', hxy])
end Go.Ev
end
section
namespace Go.Ev
open Go.RowKit
open Tr (path)
variable {P : Program} {β : Type} {o : Oper} {cr : Nat → AC → Code → Prop}

theorem storeE_new {φ : Phi} {z : Nat} {c : Tr (List AV)} {cs : Array Value} {vs : List AV} {vs' : List Value} (hv : VRs φ vs vs') (h1 : vs.all one = true) (k e : Nat) (hl : vs.length = k * z)
    (hc : ∀ i us, c.get i = some us → ¬(e ≤ i ∧ i < e + k) → us.length = z ∧ us.all one = true ∧ ∀ j v, us[j]? = some v → ∃ v', cs[i * z + j]? = some v' ∧ VR φ v v')
    (ht : ∀ j, j < k * z → cs[e * z + j]? = vs'[j]?) : CR φ z (storeE z k vs c e) cs := by
  intro i us hu
  rw [storeE_get] at hu
  by_cases c1 : e ≤ i ∧ i < e + k
  · rw [if_pos c1] at hu; cases hu
    have hm : (i - e) * z + z ≤ k * z := by
      have : (i - e + 1) * z ≤ k * z := Nat.mul_le_mul_right z (by omega)
      rw [Nat.add_mul] at this; omega
    have hi : i * z = e * z + (i - e) * z := by rw [← Nat.add_mul]; congr 1; omega
    refine ⟨by rw [List.length_take, List.length_drop]; omega, allOne_take (allOne_drop h1 _) _, fun j v hj => ?_⟩
    rw [List.getElem?_take] at hj
    split at hj
    · rename_i hjz
      rw [List.getElem?_drop] at hj
      obtain ⟨v', a, b⟩ := hv.get _ v hj
      refine ⟨v', ?_, b⟩
      have := ht ((i - e) * z + j) (by omega)
      rw [← a, ← this]; congr 1; omega
    · cases hj
  · rw [if_neg c1] at hu
    exact hc i us hu c1
theorem app_ok {φ : Phi} {h : Tr AO} {n : List Bool} {w : World} (r : WR cr φ h.getP w) (f : Fresh φ n) {t tx ty el : TypeId} {i : TypeInfo} {zv : Value} (hty : P.underlying t = some (.slice el)) (hi1 : P.info? el = some i) (hby : i.bytes ≤ 1048576) (hzi : i.zero = some zv) (hzs : zv.cells.size = i.size)
    {x : Value} {k : Nat} {news : List Value} {vs : List AV} (hs : Src P i.size tx x k news w) (hv : VRs φ vs news) (h1 : vs.all one = true) {u : AV} {s : Value} (hu : VR φ u s) {v : AV} {h' : Tr AO} {n' : List Bool} (e : opApp i.size h n u vs k = some ⟨v, h', n'⟩) :
    ∃ v' φ' w', (Builtin.append_ #[t, tx] ty #[s, x]).run P w = .ok v' w' ∧ VR φ' v v' ∧ St cr φ h.getP n w φ' h'.getP n' w' := by
  have hnl := hs.newsLen
  have hvl : vs.length = k * i.size := by rw [hv.length]; exact hnl
  -- a new row
  have grow : ∀ (base : Option Addr) (len cap : Nat) (olds : List Value) (oa : List AV), (Builtin.firstCells i.size len (.slice base len cap)).run P w.drew = .ok olds.toArray w.drew → VRs φ oa olds → oa.all one = true → oa.length = len * i.size → cap < len + k → len + k ≤ 16777216 →
      ∃ v' φ' w', (Builtin.append_ #[t, tx] ty #[.slice base len cap, x]).run P w = .ok v' w' ∧ VR φ' (.sl n 0 (len + k) (len + k) false) v' ∧ St cr φ h.getP n w φ' (upd h.getP n (some (.row i.size (len + k) true (storeE i.size (len + k) (oa ++ vs) .leaf 0)))) (inc n) w' := by
    intro base len cap olds oa hold ho1 ho2 ho3 hg hb
    have hbytes : (len + k) * i.bytes ≤ 140737488355328 := by
      have : (len + k) * i.bytes ≤ 16777216 * 1048576 := Nat.mul_le_mul hb hby
      omega
    have hr := run_append_grow_src (P := P) w t tx ty el i zv hty hi1 hzi base len cap olds hold x k news hs hg (by omega) (growslice_fits hg hbytes)
    have hge := grownCap_ge w (len + k) cap el
    generalize grownCap w (len + k) cap el = gc at hr hge
    let arr : Array Value := (olds ++ news).toArray ++ Builtin.zeroCells zv.cells (gc - (len + k))
    have harr : arr.size = (len + k) * i.size + (gc - (len + k)) * i.size := by
      show ((olds ++ news).toArray ++ Builtin.zeroCells zv.cells (gc - (len + k))).size = _
      rw [Array.size_append, size_zeroCells, hzs, List.size_toArray, List.length_append, ← ho1.length, ho3, hnl, ← Nat.add_mul]
    have hvv := ho1.append hv
    have hol : (olds ++ news).length = (len + k) * i.size := by rw [List.length_append, ← ho1.length, ho3, hnl, Nat.add_mul]
    refine ⟨_, φ.set n w.heap.size gc, _, hr, .sl _ _ _ _ gc w.heap.size _ (Phi.set_at _ _ _ _) (Nat.le_refl _) hge (fun q => by cases q) (fun _ _ => (Phi.set_cap _ _ _ _).symm), ?_⟩
    have hor : OR cr (φ.set n w.heap.size gc) gc (.row i.size (len + k) true (storeE i.size (len + k) (oa ++ vs) .leaf 0)) (.cells arr el) := by
      refine row_new (vs' := olds ++ news) (hvv.subs (f.sub _ _)) (by rw [List.all_append, ho2, h1]; rfl) (by rw [hvv.length]; exact hol) (by rw [harr, hol]; omega) (fun j hj => ?_) el (0, 0) (no_frz _) gc ?_
      · show ((olds ++ news).toArray ++ _)[j]? = _
        rw [Array.getElem?_append_left (by simpa using hj)]; simp
      · rw [harr, ← Nat.add_mul]; exact Nat.mul_le_mul_right _ (by omega)
    exact (St.alloc r f _ (.cells arr el) gc hor).congr rfl ⟨rfl, rfl, rfl⟩
  unfold opApp at e
  rcases asL_iff.1 e with ⟨rfl, e⟩ | ⟨b, off, len, cap, xx, rfl, e⟩
  · cases hu
    cases k with
    | zero =>
      obtain ⟨rfl, rfl, rfl⟩ := r1_iff.1 e
      have hn0 : news = [] := List.length_eq_zero_iff.1 (by rw [hnl]; simp)
      refine ⟨.slice none 0 0, φ, w, ?_, .sn, St.refl r f⟩
      rcases hs.kind with ⟨e', hk⟩ | hk <;> simp [Builtin.append_, run_underlying hty, run_underlying hk, sizeOf, typeInfo, hi1, hs.len, hs.cells]
    | succ k =>
      obtain ⟨e1, e2⟩ := guardB_iff.1 e
      have e1 : k + 1 ≤ 16777216 := by rw [Nat.ble_eq] at e1; exact e1
      rw [newR_eq] at e2
      obtain ⟨rfl, rfl, rfl⟩ := r1_iff.1 e2
      obtain ⟨v', φ', w', q1, q2, q3⟩ := grow none 0 0 [] [] (run_firstCells_none _ _ _ _ _) .nil rfl (by simp) (by omega) (by omega)
      simp only [Nat.zero_add, List.nil_append] at q2 q3
      refine ⟨v', φ', w', q1, q2, ?_⟩
      rw [hp_set]; exact q3
  · cases hu with
    | sl _ _ _ _ c' γ _ hφ hnc hcc hxx hkk =>
    cases k with
    | zero =>
      obtain ⟨rfl, rfl, rfl⟩ := r1_iff.1 e
      have hn0 : news = [] := List.length_eq_zero_iff.1 (by rw [hnl]; simp)
      subst hn0
      have hr := run_append_room_src (P := P) w t tx ty el i hty hi1 γ off len c' x 0 [] hs (by omega) (fun j hj => by simp at hj) (fun j hj => by simp at hj)
      exact ⟨_, φ, w, hr, .sl _ _ _ _ c' γ _ hφ hnc hcc hxx hkk, St.refl r f⟩
    | succ k =>
      have e : forceN (Nat.add len (k + 1)) (fun need => guardB (Nat.ble need (nat_lit 16777216)) (row h b fun z' m w c =>
        @Bool.rec (fun _ => Option R1)
          (@Bool.rec (fun _ => Option R1)
            (guardB w (guardB (Nat.beq i.size z') (guardB (Nat.beq off (nat_lit 0)) (guardB (Nat.ble len m) (guardB (Nat.ble m need) (forceT (storeE i.size (k + 1) vs c len) fun c => setH h b none fun h => newB h n (.row i.size need true c) fun b h n => r1 (.sl b (nat_lit 0) need need false) h n))))))
            (guardB (Nat.ble (Nat.add off (Nat.mul len i.size)) (Nat.mul m z')) (@Nat.rec (fun _ => Option R1) (newR h n i.size (k + 1) vs fun b h n => r1 (.sl b (nat_lit 0) (k + 1) (k + 1) false) h n) (fun _ _ => ob (loadC z' c off (Nat.mul len i.size)) fun old => newR h n i.size need (lapp old vs) fun b h n => r1 (.sl b (nat_lit 0) need need false) h n) len)) xx)
          (guardB w (guardB (Nat.ble (Nat.add off (Nat.mul need i.size)) (Nat.mul m z')) (storeC z' c (Nat.add off (Nat.mul len i.size)) vs (Nat.mul (k + 1) i.size) fun c => setH h b (some (.row z' m w c)) fun h => r1 (.sl b off need cap xx) h n)))
          (Nat.ble need cap))) = some ⟨v, h', n'⟩ := e
      have ea : ∀ a b : Nat, Nat.add a b = a + b := fun _ _ => rfl
      have em : ∀ a b : Nat, Nat.mul a b = a * b := fun _ _ => rfl
      rw [forceN_eq] at e
      simp only [ea, em] at e
      obtain ⟨e1, e2⟩ := guardB_iff.1 e
      have e1 : len + (k + 1) ≤ 16777216 := by rw [Nat.ble_eq] at e1; exact e1
      obtain ⟨z', m, wr, c, g1, e3⟩ := row_iff.1 e2
      rw [rec_ble] at e3
      obtain ⟨cs, et, fz, d1, d2, d3, d4, d5, d6⟩ := r.row g1 hφ
      by_cases hcap : len + (k + 1) ≤ cap
      · -- there is room
        rw [if_pos hcap] at e3
        obtain ⟨rfl, e4⟩ := guardB_iff.1 e3
        obtain ⟨e5, e6⟩ := guardB_iff.1 e4
        have e5 : off + (len + (k + 1)) * i.size ≤ m * z' := by rw [Nat.ble_eq] at e5; exact e5
        obtain ⟨c2, e7, hst, hnn⟩ := storeC_ok e6
        rw [setH_eq] at e7
        obtain ⟨rfl, rfl, rfl⟩ := r1_iff.1 e7
        have hsum : (len + (k + 1)) * i.size = len * i.size + (k + 1) * i.size := Nat.add_mul _ _ _
        have hroom : (off + len * i.size) + news.length ≤ cs.size := by rw [hnl]; omega
        have hr := run_append_room_src (P := P) w t tx ty el i hty hi1 γ off len c' x (k + 1) news hs (by omega) (fun j hj => by rw [cell_at d1, Array.getElem?_eq_getElem (by omega)]; rfl) (fun j hj => frozen_at d1 (d4 rfl) (by omega))
        obtain ⟨cs', s1, s2, s3, s4, s5, s6⟩ := setCells_heap news (off + len * i.size) w cs d1 hroom
        refine ⟨_, φ, _, hr, .sl _ _ _ _ c' γ _ hφ hcap hcc hxx hkk, ?_⟩
        rw [hp_set]
        exact St.turn r f b _ _ γ (.cells cs' et fz) g1 hφ rfl rfl ⟨by rw [s2]; exact d2, hst d3 hvl hv h1 s3, fun _ => by rw [s2]; exact d4 rfl, by rw [s2]; exact d5, hnn m (by show off + len * i.size + (k + 1) * i.size ≤ m * z'; omega) d6⟩ s6 s5 s1 s4
      · rw [if_neg hcap] at e3
        cases hx : xx with
        | true =>
          rw [hx] at e3
          have hcc2 := hxx hx
          obtain ⟨e5, e6⟩ := guardB_iff.1 e3
          have e5 : off + len * i.size ≤ m * z' := by rw [Nat.ble_eq] at e5; exact e5
          cases len with
          | zero =>
            rw [newR_eq] at e6
            obtain ⟨rfl, rfl, rfl⟩ := r1_iff.1 e6
            obtain ⟨v', φ', w', q1, q2, q3⟩ := grow (some ⟨γ, off, none⟩) 0 c' [] [] (run_firstCells_some _ _ _ _ _ _ _ (by simp) (fun j v q => by simp at q)) .nil rfl (by simp) (by omega) (by omega)
            simp only [Nat.zero_add, List.nil_append] at q2 q3
            refine ⟨v', φ', w', q1, q2, ?_⟩
            rw [hp_set]; exact q3
          | succ len =>
            obtain ⟨old, e7, e8⟩ := ob_iff.1 e6
            rw [newR_eq, lapp_eq] at e8
            obtain ⟨rfl, rfl, rfl⟩ := r1_iff.1 e8
            obtain ⟨a1, a2⟩ := loadC_ok d3 e7
            have a1 : old.length = (len + 1) * i.size := a1
            obtain ⟨v', φ', w', q1, q2, q3⟩ := grow (some ⟨γ, off, none⟩) (len + 1) c' (cs.extract off (off + old.length)).toList old
              (run_firstCells_some _ _ _ _ _ _ _ (by simp; omega) (fun j v q => by
                rw [Addr.add_mid, show (w.drew.cell? ⟨γ, off + j, none⟩) = w.cell? ⟨γ, off + j, none⟩ from rfl, cell_at d1]; exact extract_get j v q)) (a2.list (by omega)) a2.all a1 (by omega) (by omega)
            refine ⟨v', φ', w', q1, q2, ?_⟩
            rw [hp_set]; exact q3
        | false =>
          rw [hx] at e3
          obtain ⟨rfl, e4⟩ := guardB_iff.1 e3
          obtain ⟨e5, e6⟩ := guardB_iff.1 e4
          obtain ⟨e7, e8⟩ := guardB_iff.1 e6
          obtain ⟨e9, e10⟩ := guardB_iff.1 e8
          obtain ⟨e11, e12⟩ := guardB_iff.1 e10
          have e5 : i.size = z' := by rw [Nat.beq_eq] at e5; exact e5
          have e7 : off = 0 := by rw [Nat.beq_eq] at e7; exact e7
          have e9 : len ≤ m := by rw [Nat.ble_eq] at e9; exact e9
          have e11 : m ≤ len + (k + 1) := by rw [Nat.ble_eq] at e11; exact e11
          subst e5; subst e7
          rw [forceT_eq, setH_eq, newB_eq] at e12
          obtain ⟨rfl, rfl, rfl⟩ := r1_iff.1 e12
          have hK : c' = φ.cap b := hkk hx rfl
          have hnone : ∀ e, len + (k + 1) ≤ e → (storeE i.size (k + 1) vs c len).get e = none := fun e he => by
            rw [storeE_get, if_neg (by omega)]; exact d6 e (by omega)
          have hsum : (len + (k + 1)) * i.size = len * i.size + (k + 1) * i.size := Nat.add_mul _ _ _
          by_cases hc' : len + (k + 1) ≤ c'
          · -- there was room
            have hle : (len + (k + 1)) * i.size ≤ cs.size := Nat.le_trans (Nat.mul_le_mul_right _ (by rw [← hK]; exact hc')) d5
            have hroom : (0 + len * i.size) + news.length ≤ cs.size := by rw [hnl]; omega
            have hr := run_append_room_src (P := P) w t tx ty el i hty hi1 γ 0 len c' x (k + 1) news hs hc' (fun j hj => by rw [cell_at d1, Array.getElem?_eq_getElem (by omega)]; rfl) (fun j hj => frozen_at d1 (d4 rfl) (by omega))
            obtain ⟨cs', s1, s2, s3, s4, s5, s6⟩ := setCells_heap news (0 + len * i.size) w cs d1 hroom
            refine ⟨_, φ.set n γ (φ.cap b), _, hr, .sl _ _ _ _ c' γ _ (Phi.set_at _ _ _ _) (Nat.le_refl _) hc' (fun q => by cases q) (fun _ _ => by rw [Phi.set_cap]; exact hK), ?_⟩
            rw [hp_set, hp_set]
            refine St.rename r f b _ _ γ (φ.cap b) (.cells cs' et fz) g1 hφ rfl ⟨by rw [s2]; exact hle, ?_, fun _ => by rw [s2]; exact d4 rfl, by rw [s2]; exact d5, hnone⟩ s6 s5 s1 s4
            exact storeE_ok d3 hv h1 (k + 1) len hvl (by rw [Nat.zero_add] at s3; exact s3)
          · -- there was none
            have hms : len * i.size ≤ m * i.size := Nat.mul_le_mul_right _ e9
            have hbytes : (len + (k + 1)) * i.bytes ≤ 140737488355328 := by
              have : (len + (k + 1)) * i.bytes ≤ 16777216 * 1048576 := Nat.mul_le_mul e1 hby
              omega
            have hol : (cs.extract 0 (len * i.size)).toList.length = len * i.size := by simp; omega
            have hold : (Builtin.firstCells i.size len (.slice (some ⟨γ, 0, none⟩) len c')).run P w.drew = .ok (cs.extract 0 (len * i.size)).toList.toArray w.drew :=
              run_firstCells_some _ _ _ _ _ _ _ hol (fun j v q => by
                rw [Addr.add_mid, show (w.drew.cell? ⟨γ, 0 + j, none⟩) = w.cell? ⟨γ, 0 + j, none⟩ from rfl, cell_at d1]
                exact extract_get (off := 0) (k := len * i.size) j v (by rw [Nat.zero_add]; exact q))
            have hr := run_append_grow_src (P := P) w t tx ty el i zv hty hi1 hzi (some ⟨γ, 0, none⟩) len c' _ hold x (k + 1) news hs (by omega) (by omega) (growslice_fits (by omega) hbytes)
            have hge := grownCap_ge w (len + (k + 1)) c' el
            generalize grownCap w (len + (k + 1)) c' el = gc at hr hge
            generalize holds : (cs.extract 0 (len * i.size)).toList = olds at hr hol
            let arr : Array Value := (olds ++ news).toArray ++ Builtin.zeroCells zv.cells (gc - (len + (k + 1)))
            have hol2 : (olds ++ news).length = (len + (k + 1)) * i.size := by rw [List.length_append, hol, hnl]; exact hsum.symm
            have harr : arr.size = (len + (k + 1)) * i.size + (gc - (len + (k + 1))) * i.size := by
              show ((olds ++ news).toArray ++ Builtin.zeroCells zv.cells (gc - (len + (k + 1)))).size = _
              rw [Array.size_append, size_zeroCells, hzs, List.size_toArray, hol2]
            have hlow : ∀ j, j < (olds ++ news).length → arr[j]? = (olds ++ news)[j]? := fun j hj => by
              show ((olds ++ news).toArray ++ _)[j]? = _
              rw [Array.getElem?_append_left (by simpa using hj)]; simp
            refine ⟨_, φ.set n w.heap.size gc, _, hr, .sl _ _ _ _ gc w.heap.size _ (Phi.set_at _ _ _ _) (Nat.le_refl _) hge (fun q => by cases q) (fun _ _ => (Phi.set_cap _ _ _ _).symm), ?_⟩
            have hs2 : Sub φ (φ.set n w.heap.size gc) := f.sub _ _
            have hor : OR cr (φ.set n w.heap.size gc) gc (.row i.size (len + (k + 1)) true (storeE i.size (k + 1) vs c len)) (.cells arr el) := by
              refine ⟨by rw [harr]; omega, ?_, fun _ => no_frz _, by rw [harr, ← Nat.add_mul]; exact Nat.mul_le_mul_right _ (by omega), hnone⟩
              refine storeE_new (hv.subs hs2) h1 (k + 1) len hvl (fun q us hq hn => ?_) (fun j hj => ?_)
              · obtain ⟨p1, p2, p3⟩ := d3 q us hq
                refine ⟨p1, p2, fun j v hj => ?_⟩
                obtain ⟨v', p4, p5⟩ := p3 j v hj
                have hqm : q < m := by
                  by_cases hh : q < m
                  · exact hh
                  · rw [d6 q (by omega)] at hq; cases hq
                have hql : q < len := by omega
                have hjz : j < i.size := by rw [← p1]; exact (List.getElem?_eq_some_iff.1 hj).1
                have hlt : q * i.size + j < len * i.size := by
                  have : (q + 1) * i.size ≤ len * i.size := Nat.mul_le_mul_right _ hql
                  rw [Nat.add_mul] at this; omega
                refine ⟨v', ?_, p5.sub hs2⟩
                rw [hlow _ (by rw [hol2]; omega), List.getElem?_append_left (by omega), ← holds, Array.getElem?_toList, Array.getElem?_extract, if_pos (by omega), Nat.zero_add]
                exact p4
              · rw [hlow _ (by rw [hol2]; omega), List.getElem?_append_right (by omega), hol, Nat.add_sub_cancel_left]
            rw [hp_set, hp_set]
            have hdrop := St.drop r f b
            exact hdrop.trans ((St.alloc hdrop.wr f _ (.cells arr el) gc hor).congr rfl ⟨rfl, rfl, rfl⟩)

theorem src_none {tx : TypeId} {z : Nat} (hk : (∃ e', P.underlying tx = some (.slice e')) ∨ P.underlying tx = some .string) (c : Nat) (w : World) : Src P z tx (.slice none 0 c) 0 [] w :=
  ⟨hk, fun _ => rfl, run_firstCells_none w z 0 0 c, run_firstCells_none w.drew z 0 0 c, by simp, fun _ h => by cases h⟩
theorem src_slice {tx : TypeId} {z : Nat} (hk : (∃ e', P.underlying tx = some (.slice e')) ∨ P.underlying tx = some .string) (a : Addr) (n c : Nat) (news : List Value) (w : World) (hl : news.length = n * z) (hnews : ∀ j u, news[j]? = some u → w.cell? (a.add j) = some u)
    (h1 : ∀ u ∈ news, u.oneCell' = true) : Src P z tx (.slice (some a) n c) n news w :=
  ⟨hk, fun _ => rfl, run_firstCells_some w z n a n c news hl hnews, run_firstCells_some w.drew z n a n c news hl (by simpa using hnews), hl, h1⟩
theorem src_string {tx : TypeId} (hk : (∃ e', P.underlying tx = some (.slice e')) ∨ P.underlying tx = some .string) (s : ByteArray) (w : World) : Src P 1 tx (.string s) s.size (byteCells s) w :=
  ⟨hk, fun _ => rfl, firstCells_string s w, firstCells_string s w.drew, by rw [byteCells_length, Nat.mul_one], fun u hu => by
    obtain ⟨_, _, rfl⟩ := List.mem_map.1 hu
    rfl⟩
theorem sm_app {t u : TypeId} {z : Nat} {x y : Operand} {x' y' : Opd} {args : Array Operand} {ats : Array TypeId} (ho : o.op = .call { callee := .builtin .append, args := args, argTypes := ats }) (ha : args.toList = [x, y]) (hat : ats.toList = [t, u])
    (he : elemIs P t z = true) (hk : (isStr P u || isSl P u) = true) (hx : chkX x x' = true) (hy : chkX y y' = true) : SoundM P cr o (.app z x' y') := by
  have ha : args = #[x, y] := by rw [← Array.toArray_toList (xs := args), ha]
  have hat : ats = #[t, u] := by rw [← Array.toArray_toList (xs := ats), hat]
  subst ha; subst hat
  obtain ⟨el, i, zv, hty, hi1, rfl, hz1, hby, hzi, hzs⟩ := elemIs_eq he
  have hkd : (∃ e', P.underlying u = some (.slice e')) ∨ P.underlying u = some .string := by
    rw [Bool.or_eq_true] at hk
    rcases hk with hk | hk
    · exact .inr (isStr_eq hk)
    · left
      unfold isSl at hk; split at hk
      · exact ⟨_, ‹_›⟩
      · cases hk
  intro φ N tt a cl clv h n v h' n' w ht hg r f e
  obtain ⟨u1, e1, e⟩ := ob_iff.1 e
  obtain ⟨u2, e2, e⟩ := ob_iff.1 e
  have hs := eval_ok (a := a) hx ht hg e1
  have hv := eval_ok (a := a) hy ht hg e2
  have fin : ∀ (k : Nat) (news : List Value) (vs : List AV), Src P i.size u (a.eval y) k news w → VRs φ vs news → vs.all one = true → opApp i.size h n u1 vs k = some ⟨v, h', n'⟩ → OpOk P cr φ h.getP n w (execOp a.eval o) v h'.getP n' := by
    intro k news vs q1 q2 q3 q4
    obtain ⟨v', φ', w', p1, p2, p3⟩ := app_ok (P := P) (t := t) (tx := u) (ty := o.type) r f hty hi1 hby hzi hzs q1 q2 q3 hs q4
    refine ⟨.value v', v', φ', w', ?_, rfl, p2, p3⟩
    simp only [execOp, ho, resolve, invoke, builtin, Sem.run_bind, Sem.run_pure, Result.andThen_ok]
    have hm : #[x, y].map a.eval = #[a.eval x, a.eval y] := by simp
    rw [hm, p1]; rfl
  generalize hq : a.eval y = q at hv fin
  cases hv <;> first | (cases e; done) | skip
  · rename_i s
    obtain ⟨g1, g2⟩ := guardB_iff.1 (e : guardB (Nat.beq i.size (nat_lit 1)) (forceN (llen (bytesN s)) fun k => opApp i.size h n u1 (bytesV (bytesN s)) k) = some ⟨v, h', n'⟩)
    have g1 : i.size = 1 := by rw [Nat.beq_eq] at g1; exact g1
    rw [forceN_eq, llen_eq, bytesN_length] at g2
    obtain ⟨b1, b2, b3⟩ := bytesV_ok (φ := φ) s.data.toList
    exact fin s.size (byteCells s) (bytesV (bytesN s)) (by rw [g1]; exact src_string hkd s w) b1 b2 g2
  · exact fin 0 [] [] (src_none hkd 0 w) .nil rfl e
  · rename_i b off m c c' γ xx hφ hnc hcc hxx hkk
    cases m with
    | zero =>
      have e : opApp i.size h n u1 [] 0 = some ⟨v, h', n'⟩ := e
      exact fin 0 [] [] (src_slice hkd _ 0 c' [] w (by simp) (fun j u q => by simp at q) (fun _ q => by cases q)) .nil rfl e
    | succ m =>
      have e : cellsOf h b off (Nat.mul (m + 1) i.size) (fun vs => opApp i.size h n u1 vs (m + 1)) = some ⟨v, h', n'⟩ := e
      obtain ⟨vs, cs, et, fz, f2, g1, g2, g3, g4⟩ := cells_read r e hφ
      have g2 : vs.length = (m + 1) * i.size := g2
      have g4 : off + (m + 1) * i.size ≤ cs.size := g4
      have hvr := g3.list (by omega)
      exact fin (m + 1) _ vs (src_slice hkd _ (m + 1) c' (cs.extract off (off + vs.length)).toList w (by rw [← hvr.length]; exact g2) (fun j u q => by rw [Addr.add_mid, cell_at g1]; exact extract_get j u q) (ones_cell hvr g3.all)) hvr g3.all f2

/-! ### a mark -/
theorem sm_cvM {s : TypeId} {x : Operand} {x' : Opd} (ho : o.op = .convert s s x) (hs : isByte P s = true) (hx : chkX x x' = true) : SoundM P cr o (.cvM x') := by
  obtain ⟨el, k1, k2⟩ := isByte_eq hs
  intro φ N t a cl clv h n v h' n' w ht hg r f e
  obtain ⟨u1, e1, e⟩ := ob_iff.1 e
  have hv := eval_ok (a := a) hx ht hg e1
  rcases asL_iff.1 e with ⟨rfl, e3⟩ | ⟨b, off, m, c, xx, rfl, e3⟩
  · cases e3
  · obtain ⟨z, q, wr, ct, g1, e4⟩ := row_iff.1 e3
    obtain ⟨rfl, e5⟩ := guardB_iff.1 e4
    obtain ⟨rfl, rfl, rfl⟩ := r1_iff.1 e5
    generalize hq : a.eval x = p at hv
    have hv2 := hv
    cases hv with
    | sl _ _ _ _ c' γ _ hφ hnc hcc hxx hkk =>
    obtain ⟨cs, et, fz, d1, d2, d3, d4, d5, d6⟩ := r.row g1 hφ
    have hsh : w.shape? γ = some (et, cs.size) := by simp only [World.shape?, d1]
    have hm := run_mark (P := P) ⟨γ, off, none⟩ et cs.size w hsh
    obtain ⟨lo, hi⟩ := fz
    have hlt : γ < w.heap.size := (Array.getElem?_eq_some_iff.1 d1).1
    have hx1 : (w.freeze ⟨γ, cs.size, none⟩ 1).heap[γ]? = some (.cells cs et (if lo == hi then (cs.size, cs.size + 1) else (min lo cs.size, max hi (cs.size + 1)))) := by
      unfold World.freeze
      rw [if_neg (by omega)]
      simp [Array.getElem?_modify, d1]
    have hne : ∀ k, k ≠ γ → (w.freeze ⟨γ, cs.size, none⟩ 1).heap[k]? = w.heap[k]? := fun k hk => by
      unfold World.freeze
      rw [if_neg (by omega)]
      simp only [Array.getElem?_modify]
      rw [if_neg (fun e => hk e.symm)]
    have hsz : (w.freeze ⟨γ, cs.size, none⟩ 1).heap.size = w.heap.size := by
      unfold World.freeze
      rw [if_neg (by omega)]
      simp
    refine ⟨.value (.slice (some ⟨γ, off, none⟩) m c'), _, φ, w.freeze ⟨γ, cs.size, none⟩ 1, ?_, rfl, hv2, ?_⟩
    · simp [execOp, ho, hq, convert, run_underlying k1, run_underlying k2, hm]
    · have hup : upd (fun p => h.getP p) b (some (.row z q true ct)) = fun p => h.getP p := by
        funext c
        by_cases hc : b = c
        · subst hc; rw [upd_same]; exact g1.symm
        · rw [upd_ne _ _ hc]
      have hor : OR cr φ (φ.cap b) (.row z q true ct) (.cells cs et (if lo == hi then (cs.size, cs.size + 1) else (min lo cs.size, max hi (cs.size + 1)))) := by
        refine ⟨d2, d3, fun _ => ?_, d5, d6⟩
        have := d4 rfl
        by_cases hh : lo = hi
        · simp [hh]
        · have hh2 : (lo == hi) = false := by simp [hh]
          rw [hh2]
          right
          simp only [Bool.false_eq_true, if_false]
          omega
      have := St.turn (w' := w.freeze ⟨γ, cs.size, none⟩ 1) r f b _ (.row z q true ct) γ _ g1 hφ rfl rfl hor ⟨by unfold World.freeze; rw [if_neg (by omega)], by unfold World.freeze; rw [if_neg (by omega)], by unfold World.freeze; rw [if_neg (by omega)]⟩ hsz hx1 hne
      rw [hup] at this; exact this
end Go.Ev
end
section
namespace Go.Ev
open Go.RowKit
open Tr (path)
variable {P : Program} {o : Oper} {cr : Nat → AC → Code → Prop}

/-- what an operation may do: 0 looks at no memory, 1 reads it, 2 makes a block, 3 turns it, 4 calls -/
def cls : AOp → Nat
  | .mv _ | .pick _ _ _ | .build _ _ | .nilck _ | .bin _ _ _ | .eqB _ _ _ | .eqN _ _ _ _ | .eqA _ _ _ _ | .un _ _ | .cvI _ _ | .cvId _ | .iface _ _ | .func _ _ _ | .slS _ _ _ | .slL _ _ _ _ _ | .slA _ _ _ _ _ _ | .fa _ _ | .fd _ _ _ _ | .ixL _ _ _ | .ixA _ _ _ _ | .ixS _ _ | .ixV _ _ _ _ _ | .ext _ _ | .len _ _ | .mnmx _ _ => 0
  | .load _ _ _ | .cvBS _ | .look _ _ _ _ _ => 1
  | .new _ _ | .box _ _ | .lit _ _ _ | .cvSB _ | .cvSR _ | .mkmap _ | .mkslice _ _ _ _ | .rngS _ => 2
  | .store _ _ _ | .cvM _ | .mupd _ _ _ _ | .nxtS _ | .app _ _ _ => 3
  | .call _ _ | .callv _ _ => 4
inductive Snd (P : Program) (cr : Nat → AC → Code → Prop) (o : Oper) (x : AOp) : Prop
  | v (h : cls x = 0) (s : SoundV P o x)
  | r (h : cls x = 1) (s : SoundR P cr o x)
  | a (h : cls x = 2) (s : SoundA P cr o x)
  | m (h : cls x = 3) (s : SoundM P cr o x)
  | c (h : cls x = 4)
theorem sv_bad {x : Opd} : SoundV P o (.un 9 x) := by
  intro φ N t a cl clv h n v h' n' ht hg e
  obtain ⟨u, _, e⟩ := ob_iff.1 e
  obtain ⟨e, _, _⟩ := r1o_iff.1 e
  cases e
theorem snd_of {x : AOp} (hc : chkOp P o.op x = true) : Snd P cr o x := by
  unfold chkOp at hc
  split at hc
  all_goals try simp only [Bool.and_eq_true] at hc
  case h_7 => have := eq_of_beq hc.1.1.1.2; subst this; exact .a rfl (sa_lit (by assumption) hc.1.1.1.1 (of_decide_eq_true hc.1.1.2) hc.2)
  case h_11 =>
    rename_i bo ty x0 y0 yt k a b heq
    have hb : binK bo = some k := by
      have h := hc.1.1
      cases q : binK bo with
      | none => rw [q] at h; cases h
      | some k' => rw [q] at h; rw [kIx_inj (eq_of_beq h)]
    exact .v rfl (sv_bin (bo := bo) ⟨yt, heq⟩ (by rw [hb]; exact beq_self_eq_true _) hc.1.2 hc.2)
  case h_14 => exact .v rfl (sv_eqA ⟨_, by assumption⟩ hc.1.1.1 (eq_of_beq hc.1.1.2) hc.1.2 hc.2)
  case h_12 =>
    have h := hc.1.1.2
    split at h
    · exact .v rfl (sv_eqB ⟨_, by assumption⟩ hc.1.1.1 (by assumption) hc.1.2 hc.2)
    · cases h
  case h_18 =>
    have h := hc.1.2
    split at h
    · have := of_decide_eq_true h; subst this
      exact .v rfl (sv_cvI (by assumption) hc.1.1 (by assumption) hc.2)
    · cases h
  case h_23 => have := eq_of_beq hc.1.1; subst this; exact .m rfl (sm_cvM (by assumption) hc.1.2 hc.2)
  case h_24 => have := eq_of_beq hc.1.1; subst this; exact .v rfl (sv_iface (by assumption) hc.1.2 hc.2)
  case h_25 => have := eq_of_beq hc.1.1; subst this; exact .v rfl (sv_func (by assumption) hc.1.2 hc.2)
  case h_30 =>
    have h := hc.1.1.1.1.1
    split at h
    · rw [Bool.and_eq_true] at h
      have := eq_of_beq h.1; subst this
      exact .v rfl (sv_slA (by assumption) (by assumption) h.2 hc.1.1.1.1.2 hc.1.1.1.2 hc.1.1.2 hc.1.2 hc.2)
    · cases h
  case h_34 =>
    have h := hc.1.1
    split at h
    · rw [Bool.and_eq_true] at h
      have := eq_of_beq h.1; subst this
      exact .v rfl (sv_ixA (by assumption) (by assumption) h.2 hc.1.2 hc.2)
    · cases h
  case h_36 =>
    have h := hc.1.1
    split at h
    · rw [Bool.and_eq_true] at h
      have := eq_of_beq h.1; subst this
      exact .v rfl (sv_ixV (by assumption) (by assumption) h.2 hc.1.2 hc.2)
    · cases h
  case h_37 => have := eq_of_beq hc.1.1.2; subst this; exact .r rfl (sr_look (by assumption) hc.1.1.1 hc.1.2 hc.2)
  case h_41 => have := eq_of_beq hc.1; subst this; exact .v rfl (sv_ext (by assumption) hc.2)
  case h_42 =>
    split at hc
    · rw [Bool.and_eq_true] at hc
      exact .v rfl (sv_len (by assumption) (by assumption) (by assumption) hc.1 hc.2)
    · cases hc
  case h_43 => exact .v rfl (sv_mnmx (mx := false) (by assumption) hc)
  case h_44 => exact .v rfl (sv_mnmx (mx := true) (by assumption) hc)
  case h_45 =>
    split at hc
    · simp only [Bool.and_eq_true] at hc
      exact .m rfl (sm_app (by assumption) (by assumption) (by assumption) hc.1.1.1 hc.1.1.2 hc.1.2 hc.2)
    · cases hc
  all_goals first
    | (cases hc; done)
    | exact .v rfl (sv_move (by assumption) hc)
    | exact .v rfl (sv_assign (by assumption) hc)
    | exact .v rfl (sv_pick (by assumption) hc.1.1 hc.1.2 hc.2)
    | exact .a rfl (sa_new (by assumption) hc.1.1 (eq_of_beq hc.1.2))
    | exact .a rfl (sa_box (by assumption) (of_decide_eq_true hc.2) hc.1)
    | exact .v rfl (sv_build (by assumption) hc.1.1 hc.1.2 hc.2)
    | exact .r rfl (sr_load (by assumption) hc.1 hc.2)
    | exact .m rfl (sm_store (by assumption) hc.1.1.1 (of_decide_eq_true hc.1.1.2) hc.1.2 hc.2)
    | exact .v rfl (sv_nilck (by assumption) hc)
    | exact .v rfl (sv_bin ⟨_, by assumption⟩ hc.1.1 hc.1.2 hc.2)
    | exact .v rfl (sv_eqN ⟨_, by assumption⟩ hc.1.1.1 hc.1.1.2 hc.1.2 hc.2)
    | exact .v rfl (sv_not (by assumption) hc)
    | exact .v rfl (sv_neg (by assumption) hc)
    | exact .v rfl (sv_inv (by assumption) hc)
    | exact .v rfl (sv_cvId (by assumption) hc.1.1 hc.1.2 hc.2)
    | exact .a rfl (sa_cvSB (by assumption) hc.1.1.1 hc.1.1.2 hc.2)
    | exact .a rfl (sa_cvSR (by assumption) hc.1.1.1 hc.1.1.2 hc.2)
    | exact .r rfl (sr_cvBS (by assumption) hc.1.1 hc.1.2 hc.2)
    | exact .a rfl (sa_mkmap (by assumption))
    | exact .a rfl (sa_mkslice (by assumption) hc.1.1.1 hc.1.1.2 hc.1.2 hc.2)
    | exact .v rfl (sv_slS (by assumption) hc.1.1.1 hc.1.1.2 hc.1.2 hc.2)
    | exact .v rfl (sv_slL (by assumption) hc.1.1.1.1.1 hc.1.1.1.1.2 hc.1.1.1.2 hc.1.1.2 hc.1.2 hc.2)
    | exact .v rfl (sv_fa (by assumption) hc.1 hc.2)
    | exact .v rfl (sv_fd (by assumption) hc.1.1 hc.1.2 hc.2)
    | exact .v rfl (sv_ixL (by assumption) hc.1.1 hc.1.2 hc.2)
    | exact .v rfl (sv_ixS (by assumption) hc.1.1 hc.1.2 hc.2)
    | exact .m rfl (sm_mupd (by assumption) hc.1.1.1 hc.1.1.2 hc.1.2 hc.2)
    | exact .a rfl (sa_rngS (by assumption) hc.1 hc.2)
    | exact .m rfl (sm_nxtS (by assumption) hc)
    | exact .c rfl
    | exact .v rfl sv_bad
    | trace_state
end Go.Ev
end
