/- Laws that the printed words lack: a string taken apart into characters, and put together of them; the search for a byte in a string. Conditions: none beside the types. -/
import Derived.Test.YtfoffegcglommaaProg
import Derived.Lib.Bytealg
import Derived.Laws.IdiomStrings
import Derived.Laws.Cover4
import Derived.Lib.SlBytesConst
import Derived.Test.YtfoffegcglommaaWWords
import Derived.Test.YtfoffegcglommaaWMore
namespace Go.Proofs.Ytfoffegcglommaa
def runesL (s : ByteArray) : Nat → Nat → List Int
  | 0, _ => []
  | b + 1, i => if i < s.size then (Int.ofNat (Utf8.decode s i).1) :: runesL s b (i + (Utf8.decode s i).2) else []
def strRunes (s : ByteArray) : List Int := runesL s s.size 0
end Go.Proofs.Ytfoffegcglommaa
namespace Go.Proofs.Ytfoffegcglommaa.Given
open Go.RowKit Go.Proofs.YtfoffegcglommaaW.PrintWords Go.Proofs.YtfoffegcglommaaW.PrintMore
set_option linter.unusedVariables false

theorem runesFrom_eq (s : ByteArray) : ∀ (b i : Nat) (acc : Array Value), Conv.runesFrom s b i acc = acc ++ (nums .i32 (runesL s b i)).toArray
  | 0, i, acc => by simp [Conv.runesFrom, runesL, nums]
  | b + 1, i, acc => by
    unfold Conv.runesFrom runesL
    by_cases h : i < s.size
    · rw [if_pos h, if_pos h]
      show Conv.runesFrom s b (i + (Utf8.decode s i).2) (acc.push (.int .i32 (Int.ofNat (Utf8.decode s i).1))) = _
      rw [runesFrom_eq s b]
      apply Array.ext'
      simp [nums]
    · rw [if_neg h, if_neg h]
      simp [nums]
theorem runesFrom_all (s : ByteArray) : Conv.runesFrom s s.size 0 #[] = (nums .i32 (strRunes s)).toArray := by
  rw [runesFrom_eq]; apply Array.ext'; simp [strRunes]

section
variable {P : Program} {ops : Array Oper} {rest : List Oper} {o : Oper} {a : Act} {Q : Exit → Act → World → Prop}
theorem runes_own (W : World) (base e : Nat) (xs : List Int) (hbase : base ≤ W.heap.size) (hl : xs.length ≤ 70368744177664) :
    (W.drew.alloc (.cells ((nums .i32 xs).toArray ++ Array.replicate (grownCap W xs.length 0 e - xs.length) (.int .i32 0)) e)).ownsRow base e 1
      (.slice (some ⟨W.heap.size, 0, none⟩) xs.length (grownCap W xs.length 0 e)) xs.length (nums .i32 xs) := by
  have hge := grownCap_ge W xs.length 0 e
  have hcm : grownCap W xs.length 0 e ≤ maxLen := grownCap_le_maxLen W xs.length 0 e (by simp only [maxLen]; omega)
  refine ⟨by simp [nums], .inr ⟨W.heap.size, _, _, rfl, hbase, heap_alloc_new W.drew _, hge, hcm, ?_, ?_⟩⟩
  · simp only [Array.size_append, List.size_toArray, nums_length, Array.size_replicate]; omega
  · simp only [Array.toList_append, Nat.mul_one]
    have : xs.length = (nums .i32 xs).length := by simp [nums]
    rw [this]; exact List.take_left
theorem runes_run (W : World) (src dst e : TypeId) (s : ByteArray) (hs : P.underlying src = some .string) (hd : P.underlying dst = some (.slice e)) (he : P.underlying e = some (.int .i32)) (hl : (strRunes s).length ≤ 70368744177664) :
    (convert src dst (.string s)).run P W = .ok (.slice (some ⟨W.heap.size, 0, none⟩) (strRunes s).length (grownCap W (strRunes s).length 0 e))
      (W.drew.alloc (.cells ((nums .i32 (strRunes s)).toArray ++ Array.replicate (grownCap W (strRunes s).length 0 e - (strRunes s).length) (.int .i32 0)) e)) := by
  have hsz : (Conv.runesFrom s s.size 0 #[]).size = (strRunes s).length := by rw [runesFrom_all]; simp [nums]
  have h := run_runes_of_string (P := P) W src dst e s hs hd he (by rw [hsz]; exact hl)
  rw [hsz, runesFrom_all] at h
  exact h
theorem runes_R (W : World) {w0 : World} (base e : Nat) (xs : List Int) {ok okp : Nat → Prop} (hok : ∀ k, okp k → ok k) (hfresh : ok W.heap.size) (HB : Below base w0 W) (hbase : base ≤ W.heap.size) (hl : xs.length ≤ 70368744177664) :
    (Kd.int .i32).R e (W.drew.alloc (.cells ((nums .i32 xs).toArray ++ Array.replicate (grownCap W xs.length 0 e - xs.length) (.int .i32 0)) e)) base ok
      (.slice (some ⟨W.heap.size, 0, none⟩) xs.length (grownCap W xs.length 0 e)) xs :=
  Kd.R_of_own (enc := Value.int .i32) (h1 := fun _ => rfl) (runes_own W base e xs hbase hl) (fun k hk => by
    have : W.heap.size = k := by simpa [Value.ownBlock] using hk
    subst this; exact hfresh)
theorem runes_grown (W : World) (C : Array Value) (e : Nat) : W.grownBy (W.drew.alloc (.cells C e)) none :=
  ⟨rfl, rfl, rfl, by simp, fun k hk _ => heap_alloc_old W.drew _ hk⟩
theorem R_conv {w0 W : World} (base e : Nat) (hgd : o.guard = none) {N : Tmp} (_hd : o.dst = some N) (src dst : TypeId) (x : Operand) (ho : o.op = .convert src dst x) (s : ByteArray) (hx : a.eval x = .string s)
    (hs : P.underlying src = some .string) (hd : P.underlying dst = some (.slice e)) (he : P.underlying e = some (.int .i32)) (hl : (strRunes s).length ≤ 70368744177664)
    {ok okp : Nat → Prop} (hok : ∀ k, okp k → ok k) (hfresh : ok W.heap.size) (HB : Below base w0 W) (hbase : base ≤ W.heap.size)
    (h : ∀ v1 w1, (Kd.int .i32).R e w1 base ok v1 (strRunes s) → Below base w0 w1 → W.grownBy w1 none → (∃ b, v1.ownBlock = some b ∧ W.heap.size ≤ b) → wpList P ops Q rest (a.put o.dst v1) w1) : wpList P ops Q (o :: rest) a W := by
  have hr := runes_run (P := P) W src dst e s hs hd he hl
  refine Kd.event_run hgd (v := .slice (some ⟨W.heap.size, 0, none⟩) (strRunes s).length (grownCap W (strRunes s).length 0 e)) ?_ (h _ _ (runes_R W base e (strRunes s) hok hfresh HB hbase hl) ((below_drew HB).alloc hbase _) (runes_grown W _ e) ⟨W.heap.size, by simp [Value.ownBlock], Nat.le_refl _⟩)
  simp [execOp, ho, hx, hr]
end
section
variable {P : Program} {ops : Array Oper} {o : Oper} {a : Act} {Q : Exit → Act → World → Prop} {Kc : Act → World → Prop}
theorem R_conv_step {w0 W : World} (base e : Nat) (hw : Region.wanted o (yielded ops a.tmps) = true) {N : Tmp} (_hd : o.dst = some N) (src dst : TypeId) (x : Operand) (ho : o.op = .convert src dst x) (s : ByteArray) (hx : a.eval x = .string s)
    (hs : P.underlying src = some .string) (hd : P.underlying dst = some (.slice e)) (he : P.underlying e = some (.int .i32)) (hl : (strRunes s).length ≤ 70368744177664)
    {ok okp : Nat → Prop} (hok : ∀ k, okp k → ok k) (hfresh : ok W.heap.size) (HB : Below base w0 W) (hbase : base ≤ W.heap.size)
    (h : ∀ v1 w1, (Kd.int .i32).R e w1 base ok v1 (strRunes s) → Below base w0 w1 → W.grownBy w1 none → (∃ b, v1.ownBlock = some b ∧ W.heap.size ≤ b) → Kc (a.put o.dst v1) w1) : if Region.wanted o (yielded ops a.tmps) = true then Oper.wp P o a W Kc Q else Kc (a.put o.dst undef) W := by
  have hr := runes_run (P := P) W src dst e s hs hd he hl
  refine event_step hw (v := .slice (some ⟨W.heap.size, 0, none⟩) (strRunes s).length (grownCap W (strRunes s).length 0 e)) ?_ (h _ _ (runes_R W base e (strRunes s) hok hfresh HB hbase hl) ((below_drew HB).alloc hbase _) (runes_grown W _ e) ⟨W.heap.size, by simp [Value.ownBlock], Nat.le_refl _⟩)
  simp [execOp, ho, hx, hr]
end
theorem C_rstring {P : Program} {w : World} {src dst e : TypeId} {A : Option Addr} {n c : Nat} {xs : List Int} (hs : P.underlying src = some (.slice e)) (he : P.underlying e = some (.int .i32)) (hd : P.underlying dst = some .string)
    (h : (Kd.int .i32).C w A n xs) : (convert src dst (.slice A n c)).run P w = .ok (.string (runesBytes xs)) w := by
  have hr := Kd.reads_of_C (enc := Value.int .i32) (d := (0 : Int)) (h1 := fun _ => rfl) h
  have hn : xs.length = n := hr.1
  rcases A with _ | ad
  · have h0 : n = 0 := by
      rcases Nat.eq_zero_or_pos n with h0 | h0
      · exact h0
      · obtain ⟨ad, h', _⟩ := hr.2.2 h0
        cases h'
    subst h0
    obtain rfl : xs = [] := List.eq_nil_of_length_eq_zero hn
    exact run_convert_runes_nil w src dst e 0 c hs he hd
  · subst hn
    have := run_convert_runes (P := P) w src dst e ad xs.length c xs (Nat.le_refl _) hs he hd (fun j hj => by
      obtain ⟨ad', he', hc⟩ := hr.2.2 (by omega)
      injection he' with he'
      subst he'
      exact hc j hj)
    rwa [List.take_length] at this
section
variable {P : Program} {ops : Array Oper} {rest : List Oper} {o : Oper} {a : Act} {Q : Exit → Act → World → Prop}
/-- append([]byte("constant"), ys...): the marked row is full, so a new row is made. -/
theorem mark_run (W : World) (base t ty e : Nat) (ht : P.underlying t = some (.slice e)) (hinfo : (P.info? e).map (fun i => (i.zero, i.size, i.bytes)) = some (some (.int .u8 0), 1, 1))
    (xs ys : List Int) (fr : Nat × Nat) (A : Option Addr) (m c : Nat) (HR : (Kd.int .u8).C W A m ys) (h0 : 0 < m) (hbase : base ≤ W.heap.size) (hl : xs.length + m ≤ 140737488355328) :
    ∃ v1 w1, (Builtin.append_ #[t, t] ty #[.slice (some ⟨W.heap.size, 0, none⟩) xs.length xs.length, .slice A m c]).run P (W.alloc (.cells (nums .u8 xs).toArray e fr)) = .ok v1 w1 ∧
      w1.ownsRow base e 1 v1 (xs ++ ys).length (nums .u8 (xs ++ ys)) ∧ W.grownBy w1 none ∧ (∃ b, v1.ownBlock = some b ∧ W.heap.size ≤ b) := by
  obtain ⟨i0, hi, hzz⟩ := Option.map_eq_some_iff.1 hinfo
  simp only [Prod.mk.injEq] at hzz
  obtain ⟨hz0, hz1, hz2⟩ := hzz
  have hr := Kd.reads_of_C (enc := Value.int .u8) (d := (0 : Int)) (h1 := fun _ => rfl) HR
  obtain ⟨ad, rfl, hc⟩ := hr.2.2 h0
  have hm : ys.length = m := hr.1
  have hb : Below W.heap.size W (W.alloc (.cells (nums .u8 xs).toArray e fr)) := below_alloc (Below.refl _ _) _
  have hg := run_append_grow (P := P) (W.alloc (.cells (nums .u8 xs).toArray e fr)) t ty e i0 (.int .u8 0) ht hi hz0 ⟨W.heap.size, 0, none⟩ xs.length xs.length (nums .u8 xs) (by rw [hz1]; simp [nums])
    (fun j v hj => by
      have : (⟨W.heap.size, 0, none⟩ : Addr).add j = ⟨W.heap.size, j, none⟩ := add_plain _ _
      rw [this, World.cell?_alloc_mark]
      simpa using hj) ad m c (nums .u8 ys) (by rw [hz1, nums_length]; omega)
    (fun j v hj => by
      have hjl : j < ys.length := by have := (List.getElem?_eq_some_iff.1 hj).1; simpa [nums] using this
      have h2 := pw_cell_below hb (hc j (by omega))
      rw [h2]
      simp [nums, List.getElem?_eq_getElem hjl] at hj
      rw [← hj]; simp [List.getD_eq_getElem?_getD, List.getElem?_eq_getElem hjl]) (by omega) (by omega) (by
      rw [hz2]; exact growslice_fits (by omega) (by omega))
  refine ⟨_, _, hg, ?_, ?_, ⟨W.heap.size + 1, by simp [Value.ownBlock], by omega⟩⟩
  · have hge := grownCap_ge (W.alloc (.cells (nums .u8 xs).toArray e fr)) (xs.length + m) xs.length e
    have hcm : grownCap (W.alloc (.cells (nums .u8 xs).toArray e fr)) (xs.length + m) xs.length e ≤ maxLen := grownCap_le_maxLen _ (xs.length + m) xs.length e (by simp only [maxLen]; omega)
    have hxy : (xs ++ ys).length = xs.length + m := by rw [List.length_append, hm]
    rw [hxy]
    refine ⟨by rw [nums_length, hxy]; omega, .inr ⟨_, _, _, rfl, ?_, heap_alloc_new _ _, hge, hcm, ?_, ?_⟩⟩
    · simp; omega
    · simp only [Array.size_append, List.size_toArray, size_zeroCells, nums_length, hm]
      show _ + _ + _ * 1 = _
      omega
    · simp only [Array.toList_append, Nat.mul_one]
      rw [nums_append]
      have : xs.length + m = (nums .u8 xs ++ nums .u8 ys).length := by rw [List.length_append, nums_length, nums_length, hm]
      rw [this]; exact List.take_left
  · exact (World.grownBy_alloc W _ none).trans ⟨rfl, rfl, rfl, by simp, fun k hk _ => heap_alloc_old (World.drew _) _ hk⟩
theorem R_append_mark {w0 W : World} (base : Nat) (hgd : o.guard = none) (s x : Operand) (t e : TypeId)
    (ho : o.op = .call { callee := .builtin .append, args := #[s, x], argTypes := #[t, t] })
    (ht : P.underlying t = some (.slice e)) (hinfo : (P.info? e).map (fun i => (i.zero, i.size, i.bytes)) = some (some (.int .u8 0), 1, 1))
    (xs ys : List Int) (C : Array Value) (fr : Nat × Nat) (A : Option Addr) (m c : Nat) (ok : Nat → Prop) (hC : C = (nums .u8 xs).toArray)
    (hs : a.eval s = .slice (some ⟨W.heap.size, 0, none⟩) xs.length xs.length) (hx : a.eval x = .slice A m c)
    (HO : (Kd.int .u8).R e W base ok (.slice none 0 0) []) (HR : (Kd.int .u8).C W A m ys) (h0 : 0 < m) (hfresh : ∀ k, W.heap.size ≤ k → ok k)
    (HB : Below base w0 W) (hbase : base ≤ W.heap.size) (hl : (xs.length + m) * 1 ≤ 140737488355328)
    (h : ∀ v1 w1, (Kd.int .u8).R e w1 base ok v1 (xs ++ ys) → Below base w0 w1 → W.grownBy w1 (Value.slice none 0 0).ownBlock → (v1.ownBlock = (Value.slice none 0 0).ownBlock ∨ ∃ b, v1.ownBlock = some b ∧ W.heap.size ≤ b) → wpList P ops Q rest (a.put o.dst v1) w1) :
    wpList P ops Q (o :: rest) a (W.alloc (.cells C e fr)) := by
  subst hC
  obtain ⟨v1, w1, hr, h2, h3, b, h4, h5⟩ := mark_run (P := P) W base t o.type e ht hinfo xs ys fr A m c HR h0 hbase (by omega)
  refine Kd.event_run hgd (v := v1) ?_ (h v1 w1 (Kd.R_of_own (enc := Value.int .u8) (h1 := fun _ => rfl) h2 (fun k hk => hfresh k (by rw [h4] at hk; injection hk with hk; omega))) (HB.grown h3 hbase (fun k hk => by cases hk)) h3 (.inr ⟨b, h4, h5⟩))
  unfold execOp
  simp only [ho, resolve, invoke, builtin, Sem.run_bind, Sem.run_pure, Result.andThen_ok, List.map_toArray, List.map_cons, List.map_nil, hs, hx, hr]
end
end Go.Proofs.Ytfoffegcglommaa.Given

namespace Go.Proofs.Ytfoffegcglommaa
open Go.RowKit Go.Proofs.YtfoffegcglommaaW.PrintWords
def strings_IndexByte.f (a0 : ByteArray) (a1 : Int) : Option Int := some (Lib.indexByte a0.data.toList a1.toNat.toUInt8)
set_option maxHeartbeats 1000000 in
set_option maxRecDepth 100000 in
theorem strings_IndexByte.calls (a0 : ByteArray) (a1 : Int) (r : Int) (w : World) (h : strings_IndexByte.f a0 a1 = some r) :
    Calls Try.prog 22 #[.string a0, .int .u8 a1] w fun e w' => e = .returned (.int .i64 r) ∧ Drawn0 w w' := by
  simp only [strings_IndexByte.f, Option.some.injEq] at h
  subst h
  go_enter Try.func22, Try.ntmps22
  go_wp2
  rw [run_callFunc_extern Try.func24 (by kernel_rfl) (by kernel_rfl) (by kernel_rfl) (e := Extern.BytealgIndexByte.indexByte) (by kernel_rfl), Lib.run_indexByteString]
  simp only [Result.andThen]
  rw [Oper.upon_value]
  go_wp2
  go_ret
  exact ⟨rfl, Drawn0.refl w⟩
end Go.Proofs.Ytfoffegcglommaa
