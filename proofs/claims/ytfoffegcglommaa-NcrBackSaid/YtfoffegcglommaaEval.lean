/- What the printed functions on references answer, in the words of the Base text: Print, Ref, Scan, Expand, Runes, Same. -/
import Derived.Test.YtfoffegcglommaaBase
import Derived.Test.YtfoffegcglommaaPNcrx3
namespace Go.Proofs.Ytfoffegcglommaa.Pure
open Go.RowKit Go.Proofs.Ytfoffegcglommaa.PNcr Go.Proofs.YtfoffegcglommaaW.PrintWords Go.Proofs.YtfoffegcglommaaW.PrintLast Go.Proofs.YtfoffegcglommaaW.PrintMore
set_option linter.unusedVariables false
set_option linter.unusedSimpArgs false

theorem w64 {x : Int} (h : -9223372036854775808 ≤ x) (h1 : x ≤ 9223372036854775807) : wrap64 x = x := by unfold wrap64; omega
theorem w32 {x : Int} (h : -2147483648 ≤ x) (h1 : x ≤ 2147483647) : wrap32 x = x := by unfold wrap32; omega
abbrev HX : ByteArray := ⟨#[48, 49, 50, 51, 52, 53, 54, 55, 56, 57, 65, 66, 67, 68, 69, 70]⟩
theorem bt_hx {d : Int} (h0 : 0 ≤ d) (h1 : d < 16) : bt HX d = hx d := by
  have h : d = 0 ∨ d = 1 ∨ d = 2 ∨ d = 3 ∨ d = 4 ∨ d = 5 ∨ d = 6 ∨ d = 7 ∨ d = 8 ∨ d = 9 ∨ d = 10 ∨ d = 11 ∨ d = 12 ∨ d = 13 ∨ d = 14 ∨ d = 15 := by omega
  rcases h with rfl | rfl | rfl | rfl | rfl | rfl | rfl | rfl | rfl | rfl | rfl | rfl | rfl | rfl | rfl | rfl <;> decide +kernel

/-! scalars -/
theorem scalar_yes {c : Int} (h : Scal c) : utf_Scalar.f c = some true ∧ amanuensisref01_Scalar.f c = some true := by
  unfold utf_Scalar.f amanuensisref01_Scalar.f
  rcases h with h | h
  · rw [if_pos (by omega), if_pos (by omega), if_pos (by omega), if_pos (by omega), if_pos (by omega), if_neg (by omega)]; simp
  · rw [if_pos (by omega), if_pos (by omega), if_neg (by omega), if_pos (by omega), if_pos (by omega), if_pos (by omega)]
    have h1 : ¬ c < 57344 := by omega
    have h2 : c > 57343 := by omega
    simp [h1]; omega
theorem scalar_no {c : Int} (h : ¬ Scal c) : utf_Scalar.f c = some false ∧ amanuensisref01_Scalar.f c = some false := by
  unfold Scal at h
  unfold utf_Scalar.f amanuensisref01_Scalar.f
  constructor
  · repeat' split
    all_goals first | rfl | (exfalso; omega) | (simp; omega)
  · repeat' split
    all_goals first | rfl | (exfalso; omega) | (simp; omega)

/-! Print -/
theorem dg {c : Int} (h0 : 0 ≤ c) (h1 : c < 1114112) (j : Nat) (hj : j ≤ 5) : Go.bits .and .i32 (shr .i32 c (wrap64 (4 * (j : Int)))) 15 = c / 16 ^ j % 16 := by
  rw [w64 (by omega) (by omega)]
  have e : shr .i32 c (4 * (j : Int)) = c / 16 ^ j := by
    unfold shr
    have : min (4 * (j : Int)).toNat IntKind.i32.bits = 4 * j := by
      have : IntKind.i32.bits = 32 := rfl
      rw [this]; omega
    rw [this, Int.pow_mul]; rfl
  rw [e]
  have hp : (0 : Int) < 16 ^ j := Int.pow_pos (by omega)
  have hq0 : 0 ≤ c / 16 ^ j := Int.ediv_nonneg h0 (by omega)
  have hq1 : c / 16 ^ j ≤ c := Int.ediv_le_self _ h0
  have := bits_mask .i32 31 (by decide) wraps_i32 4 (by decide) (c / 16 ^ j) hq0 (by omega)
  exact this
theorem print_yes {c : Int} (h0 : 0 ≤ c) (h1 : c < 1114112) (j : Nat) (hj : j ≤ 5) (b : List Int) (hb : b.length < 100) (hc : 0 < c / 16 ^ j % 16 ∨ 0 < b.length ∨ j < 4) (k : Nat) :
    ncr_Print.l0 (k + 1) c b (j : Int) = ncr_Print.l0 k c (b ++ [hx (c / 16 ^ j % 16)]) ((j : Int) - 1) := by
  have hd : 0 ≤ c / 16 ^ j % 16 ∧ c / 16 ^ j % 16 < 16 := by omega
  simp only [ncr_Print.l0, dg h0 h1 j hj]
  rw [if_pos (by omega), if_pos (by rw [w64] <;> omega), bt_hx hd.1 hd.2, w64 (x := (j : Int) - 1) (by omega) (by omega), if_pos hd.1, if_pos hd.2, if_pos (show b.length < 140737488355328 by omega)]
  by_cases h2 : 0 < c / 16 ^ j % 16
  · rw [if_pos h2]
  · rw [if_neg h2]
    by_cases h3 : 0 < b.length
    · rw [if_pos (by omega)]
    · rw [if_neg (by omega), if_pos (by omega)]
theorem print_no {c : Int} (h0 : 0 ≤ c) (h1 : c < 1114112) (j : Nat) (hj : j ≤ 5) (hd : c / 16 ^ j % 16 = 0) (hj4 : 4 ≤ j) (k : Nat) :
    ncr_Print.l0 (k + 1) c [] (j : Int) = ncr_Print.l0 k c [] ((j : Int) - 1) := by
  simp only [ncr_Print.l0, dg h0 h1 j hj]
  rw [if_pos (by omega), if_pos (by rw [w64] <;> omega), if_neg (by omega), if_neg (by simp), if_neg (by omega), w64 (by omega) (by omega)]
theorem print_end (c : Int) (b : List Int) (h0 : 0 < b.length) (h1 : b.length < 100) (k : Nat) : ncr_Print.l0 (k + 1) c b (-1) = some ([38, 35, 120] ++ b ++ [59], true) := by
  simp only [ncr_Print.l0]
  rw [if_neg (by omega), if_pos h0, if_pos (by simp; omega)]
  simp only [Option.bind_some]
  rw [if_pos (by simp; omega)]
theorem print_scalar {c : Int} (h : Scal c) (k : Nat) : ncr_Print.f (k + 7) c = some (refL c, true) := by
  have hr := h.rng
  unfold ncr_Print.f
  rw [(scalar_yes h).1]
  simp only [Option.bind_some, if_true]
  have y := fun (j : Nat) hj (b : List Int) hb hc k => print_yes hr.1 hr.2 j hj b hb hc k
  have n := fun (j : Nat) hj hd hj4 k => print_no hr.1 hr.2 j hj hd hj4 k
  show ncr_Print.l0 (k + 7) c [] ((5 : Nat) : Int) = _
  by_cases h1 : c < 65536
  · rw [n 5 (by omega) (by omega) (by omega) (k + 6)]
    show ncr_Print.l0 (k + 6) c [] ((4 : Nat) : Int) = _
    rw [n 4 (by omega) (by omega) (by omega) (k + 5)]
    show ncr_Print.l0 (k + 5) c [] ((3 : Nat) : Int) = _
    rw [y 3 (by omega) _ (by simp) (by omega) (k + 4)]
    show ncr_Print.l0 (k + 4) c _ ((2 : Nat) : Int) = _
    rw [y 2 (by omega) _ (by simp) (by omega) (k + 3)]
    show ncr_Print.l0 (k + 3) c _ ((1 : Nat) : Int) = _
    rw [y 1 (by omega) _ (by simp) (by omega) (k + 2)]
    show ncr_Print.l0 (k + 2) c _ ((0 : Nat) : Int) = _
    rw [y 0 (by omega) _ (by simp) (by omega) (k + 1)]
    show ncr_Print.l0 (k + 1) c _ (-1) = _
    rw [print_end c _ (by simp) (by simp) k]
    simp [refL, digs, h1]
  · by_cases h2 : c < 1048576
    · rw [n 5 (by omega) (by omega) (by omega) (k + 6)]
      show ncr_Print.l0 (k + 6) c [] ((4 : Nat) : Int) = _
      rw [y 4 (by omega) _ (by simp) (by omega) (k + 5)]
      show ncr_Print.l0 (k + 5) c _ ((3 : Nat) : Int) = _
      rw [y 3 (by omega) _ (by simp) (by omega) (k + 4)]
      show ncr_Print.l0 (k + 4) c _ ((2 : Nat) : Int) = _
      rw [y 2 (by omega) _ (by simp) (by omega) (k + 3)]
      show ncr_Print.l0 (k + 3) c _ ((1 : Nat) : Int) = _
      rw [y 1 (by omega) _ (by simp) (by omega) (k + 2)]
      show ncr_Print.l0 (k + 2) c _ ((0 : Nat) : Int) = _
      rw [y 0 (by omega) _ (by simp) (by omega) (k + 1)]
      show ncr_Print.l0 (k + 1) c _ (-1) = _
      rw [print_end c _ (by simp) (by simp) k]
      simp [refL, digs, h1, h2]
    · rw [y 5 (by omega) _ (by simp) (.inl (by rw [show (16 : Int) ^ 5 = 1048576 from by decide]; omega)) (k + 6)]
      show ncr_Print.l0 (k + 6) c _ ((4 : Nat) : Int) = _
      rw [y 4 (by omega) _ (by simp) (.inr (.inl (by simp))) (k + 5)]
      show ncr_Print.l0 (k + 5) c _ ((3 : Nat) : Int) = _
      rw [y 3 (by omega) _ (by simp) (by omega) (k + 4)]
      show ncr_Print.l0 (k + 4) c _ ((2 : Nat) : Int) = _
      rw [y 2 (by omega) _ (by simp) (by omega) (k + 3)]
      show ncr_Print.l0 (k + 3) c _ ((1 : Nat) : Int) = _
      rw [y 1 (by omega) _ (by simp) (by omega) (k + 2)]
      show ncr_Print.l0 (k + 2) c _ ((0 : Nat) : Int) = _
      rw [y 0 (by omega) _ (by simp) (by omega) (k + 1)]
      show ncr_Print.l0 (k + 1) c _ (-1) = _
      rw [print_end c _ (by simp) (by simp) k]
      simp [refL, digs, h1, h2]
theorem ev_print {c : Int} (h : Scal c) : Ev (fun k => ncr_Print.f k c) (refL c, true) := ⟨7, fun k hk => by obtain ⟨m, rfl⟩ : ∃ m, k = m + 7 := ⟨k - 7, by omega⟩; exact print_scalar h m⟩
theorem ev_print_no {c : Int} (h : ¬ Scal c) : Ev (fun k => ncr_Print.f k c) ([], false) := ⟨0, fun k _ => by unfold ncr_Print.f; rw [(scalar_no h).1]; rfl⟩
theorem ev_answers : Ev (fun k => amanuensislaw02_answers.f k) true := by
  have h : Scal 19968 := by unfold Scal; omega
  refine ⟨7, fun k hk => ?_⟩
  obtain ⟨m, rfl⟩ : ∃ m, k = m + 7 := ⟨k - 7, by omega⟩
  show amanuensislaw02_answers.f (m + 7) = some true
  unfold amanuensislaw02_answers.f
  rw [print_scalar h m]
  have e : refL 19968 = [38, 35, 120, 52, 69, 48, 48, 59] := by decide
  simp only [Option.bind_some, e, if_true]
  decide +kernel

/-! Ref -/
theorem ref_more {x : Int} (b : List Int) (h0 : 0 ≤ x) (h1 : x < 1114112) (hb : b.length < 100) (hc : b.length < 4 ∨ 0 < x) (k : Nat) :
    amanuensisref01_Ref.l0 (k + 1) HX b x = amanuensisref01_Ref.l0 k HX (hx (x % 16) :: b) (x / 16) := by
  have e1 : Int.tmod x 16 = x % 16 := Int.tmod_eq_emod_of_nonneg h0
  have e2 : Int.tdiv x 16 = x / 16 := Int.tdiv_eq_ediv_of_nonneg h0
  have e3 : wrap64 (x / 16) = x / 16 := w64 (by omega) (by omega)
  have e4 : (HX.size : Int) = 16 := rfl
  simp only [amanuensisref01_Ref.l0, e1, e2, e3]
  rw [bt_hx (by omega) (by omega), e4]
  by_cases h : b.length < 4
  · rw [if_pos (by omega), if_pos (by omega), if_pos (by omega)]
    simp only [Option.bind_some]
    rw [if_pos (by simp; omega)]; rfl
  · rw [if_neg (by omega), if_pos (by omega), if_pos (by omega), if_pos (by omega)]
    simp only [Option.bind_some]
    rw [if_pos (by simp; omega)]; rfl
theorem ref_end (b : List Int) (h0 : 4 ≤ b.length) (h1 : b.length < 100) (k : Nat) : amanuensisref01_Ref.l0 (k + 1) HX b 0 = some ([38, 35, 120] ++ b ++ [59]) := by
  simp only [amanuensisref01_Ref.l0]
  rw [if_neg (by omega), if_neg (by omega), if_pos (by omega), if_pos (by simp; omega)]
  simp only [Option.bind_some]
  rw [if_pos (by simp; omega)]
theorem ref_scalar {c : Int} (h : Scal c) (k : Nat) : amanuensisref01_Ref.f (k + 7) c = some (refL c) := by
  have hr := h.rng
  unfold amanuensisref01_Ref.f
  rw [(scalar_yes h).2]
  simp only [Option.bind_some, if_true]
  rw [w64 (x := c) (by omega) (by omega)]
  have d1 : c / 16 / 16 = c / 256 := by omega
  have d2 : c / 256 / 16 = c / 4096 := by omega
  have d3 : c / 4096 / 16 = c / 65536 := by omega
  have d4 : c / 65536 / 16 = c / 1048576 := by omega
  rw [ref_more _ (by omega) (by omega) (by simp) (by simp) (k + 6), ref_more _ (by omega) (by omega) (by simp) (by simp) (k + 5), d1, ref_more _ (by omega) (by omega) (by simp) (by simp) (k + 4), d2, ref_more _ (by omega) (by omega) (by simp) (by simp) (k + 3), d3]
  by_cases h1 : c < 65536
  · rw [show c / 65536 = 0 by omega, ref_end _ (by simp) (by simp) (k + 2)]
    simp [refL, digs, h1]
  · rw [ref_more _ (by omega) (by omega) (by simp) (by omega) (k + 2), d4]
    by_cases h2 : c < 1048576
    · rw [show c / 1048576 = 0 by omega, ref_end _ (by simp) (by simp) (k + 1)]
      simp [refL, digs, h1, h2]
    · rw [ref_more _ (by omega) (by omega) (by simp) (by omega) (k + 1), show c / 1048576 / 16 = 0 by omega, ref_end _ (by simp) (by simp) k]
      simp [refL, digs, h1, h2]
theorem ev_ref {c : Int} (h : Scal c) : Ev (fun k => amanuensisref01_Ref.f k c) (refL c) := ⟨7, fun k hk => by obtain ⟨m, rfl⟩ : ∃ m, k = m + 7 := ⟨k - 7, by omega⟩; exact ref_scalar h m⟩
theorem ev_ref_no {c : Int} (h : ¬ Scal c) : Ev (fun k => amanuensisref01_Ref.f k c) [] := ⟨0, fun k _ => by unfold amanuensisref01_Ref.f; rw [(scalar_no h).2]; rfl⟩

/-! a list with itself -/
theorem same_self (l : List Int) (hl : l.length < 1000000000000) : ∀ (d k : Nat) (i : Nat), i + d = l.length → amanuensisref01_Same.l0 (k + d + 1) l l (i : Int) = some true
  | 0, k, i, h => by simp only [amanuensisref01_Same.l0]; rw [if_neg (by omega)]
  | d + 1, k, i, h => by
    have := same_self l hl d k (i + 1) (by omega)
    rw [show k + (d + 1) + 1 = (k + d + 1) + 1 by omega]
    obtain ⟨K, hK⟩ : ∃ K, k + d + 1 = K := ⟨_, rfl⟩
    rw [hK] at this ⊢
    simp only [amanuensisref01_Same.l0]
    rw [if_pos (by omega), if_pos (by omega), if_pos (by omega), if_true, w64 (by omega) (by omega)]
    exact this
theorem ev_same (l : List Int) (hl : l.length < 1000000000000) : Ev (fun k => amanuensisref01_Same.f k l l) true := ⟨l.length + 1, fun k hk => by
  obtain ⟨m, rfl⟩ : ∃ m, k = m + l.length + 1 := ⟨k - l.length - 1, by omega⟩
  show amanuensisref01_Same.f (m + l.length + 1) l l = some true
  unfold amanuensisref01_Same.f
  rw [if_pos rfl]
  exact same_self l hl l.length m 0 (by omega)⟩
theorem runes_self (l : List Int) (hl : l.length < 1000000000000) : ∀ (d k : Nat) (i : Nat), i + d = l.length → amanuensisref01_Runes.l0 (k + d + 1) l l (i : Int) = some true
  | 0, k, i, h => by simp only [amanuensisref01_Runes.l0]; rw [if_neg (by omega)]
  | d + 1, k, i, h => by
    have := runes_self l hl d k (i + 1) (by omega)
    rw [show k + (d + 1) + 1 = (k + d + 1) + 1 by omega]
    obtain ⟨K, hK⟩ : ∃ K, k + d + 1 = K := ⟨_, rfl⟩
    rw [hK] at this ⊢
    simp only [amanuensisref01_Runes.l0]
    rw [if_pos (by omega), if_pos (by omega), if_pos (by omega), if_true, w64 (by omega) (by omega)]
    exact this
theorem ev_runes (l : List Int) (hl : l.length < 1000000000000) : Ev (fun k => amanuensisref01_Runes.f k l l) true := ⟨l.length + 1, fun k hk => by
  obtain ⟨m, rfl⟩ : ∃ m, k = m + l.length + 1 := ⟨k - l.length - 1, by omega⟩
  show amanuensisref01_Runes.f (m + l.length + 1) l l = some true
  unfold amanuensisref01_Runes.f
  rw [if_pos rfl]
  exact runes_self l hl l.length m 0 (by omega)⟩

/-! strings of ASCII, as characters -/
theorem get_strOfNums (xs : List Int) (i : Nat) (x : Int) (h : xs[i]? = some x) (h0 : 0 ≤ x) (h1 : x < 256) : ((strOfNums xs).get! i).toNat = x.toNat := by
  have hl := (List.getElem?_eq_some_iff.1 h).1
  have e : (strOfNums xs).get! i = UInt8.ofNat x.toNat := by
    show ((xs.map fun n => UInt8.ofNat n.toNat).toArray)[i]! = _
    rw [getElem!_pos _ i (by simpa using hl)]
    have := (List.getElem?_eq_some_iff.1 h).2
    simp [this]
  rw [e]
  simp
  omega
theorem runes_ascii (xs : List Int) (ha : ∀ x ∈ xs, 0 ≤ x ∧ x < 128) : ∀ (b i : Nat), i + b = xs.length → runesL (strOfNums xs) b i = xs.drop i
  | 0, i, h => by rw [List.drop_of_length_le (by omega)]; rfl
  | b + 1, i, h => by
    have hi : i < xs.length := by omega
    have hx := ha xs[i] (List.getElem_mem hi)
    have hg := get_strOfNums xs i xs[i] (List.getElem?_eq_getElem hi) hx.1 (by omega)
    have hs : (strOfNums xs).size = xs.length := by show (List.map _ xs).toArray.size = _; simp
    have hd : Utf8.decode (strOfNums xs) i = (xs[i].toNat, 1) := by
      unfold Utf8.decode
      simp only [Nat.add_zero, hg]
      rw [if_pos (by omega)]
    unfold runesL
    rw [if_pos (by omega), hd, runes_ascii xs ha b (i + 1) (by omega), List.drop_eq_getElem_cons hi]
    congr 1
    simp; omega
theorem strRunes_ascii (xs : List Int) (ha : ∀ x ∈ xs, 0 ≤ x ∧ x < 128) : strRunes (strOfNums xs) = xs := by
  have hs : (strOfNums xs).size = xs.length := by show (List.map _ xs).toArray.size = _; simp
  unfold strRunes
  rw [runes_ascii xs ha _ 0 (by omega), List.drop_zero]

/-! Scan -/
theorem index_hex : ∀ n : Nat, n < 128 → Lib.indexByte HX.data.toList (UInt8.ofNat n) = hexv (n : Int) := by decide +kernel
theorem digit_hex {c : Int} (h : -2147483648 ≤ c) : ncr_digit.f c = some (hexv c) := by
  unfold ncr_digit.f
  by_cases h0 : c < 0
  · rw [if_pos h0]; unfold hexv; rw [if_neg (by omega), if_neg (by omega)]
  · rw [if_neg h0]
    by_cases h1 : c ≥ 128
    · rw [if_pos h1]; unfold hexv; rw [if_neg (by omega), if_neg (by omega)]
    · rw [if_neg h1]
      have e : c % 256 = c := by omega
      have := index_hex c.toNat (by omega)
      rw [show ((c.toNat : Nat) : Int) = c by omega] at this
      rw [e]
      unfold strings_IndexByte.f
      simp only [Option.bind_some]
      rw [← this]
/-- how the scan ends, n digits read -/
def fin (l : List Int) (n : Nat) (v : Int) : Option (Int × Int) :=
  if n < 4 then some (0, 0) else if 4 < n ∧ l.getD 3 0 = 48 then some (0, 0) else if l[n + 3]? = some 59 then (utf_Scalar.f v).bind fun t => if t = true then some (v, (n : Int) + 4) else some (0, 0) else some (0, 0)
theorem scan_end (l : List Int) (n : Nat) (v : Int) (hn : n ≤ 6) (hl : n + 3 ≤ l.length) (hll : l.length < 1000000000000) (hr : ∀ x ∈ l, -2147483648 ≤ x) (h : n = 6 ∨ l.length = n + 3 ∨ ∃ x, l[n + 3]? = some x ∧ hexv x < 0) (k : Nat) :
    ncr_Scan.l0 (k + 1) l ((n : Int) + 3) v = fin l n v := by
  have e3 : wrap64 ((n : Int) + 3 - 3) = n := by rw [w64 (by omega) (by omega)]; omega
  have e4 : wrap64 ((n : Int) + 3 + 1) = n + 4 := by rw [w64 (by omega) (by omega)]; omega
  have e5 : (n : Int) + 3 = ((n + 3 : Nat) : Int) := by omega
  have r3 : rd l 3 = l.getD 3 0 := rfl
  have rn : rd l ((n : Int) + 3) = l.getD (n + 3) 0 := by unfold rd; rw [e5]; rfl
  simp only [ncr_Scan.l0, e3, e4, r3, rn]
  unfold fin
  by_cases hp : n + 3 < l.length
  · have hx : l.getD (n + 3) 0 = l[n + 3] := by simp [List.getD_eq_getElem?_getD, List.getElem?_eq_getElem hp]
    have hxx : l[n + 3]? = some l[n + 3] := List.getElem?_eq_getElem hp
    have hd : ncr_digit.f l[n + 3] = some (hexv l[n + 3]) := digit_hex (hr _ (List.getElem_mem hp))
    rw [if_pos (show (n : Int) + 3 < (l.length : Int) by omega), if_pos (show (0 : Int) ≤ (n : Int) + 3 by omega), hx, hd, hxx]
    simp only [Option.bind_some, Option.some.injEq]
    have key : (if (n : Int) < 4 then some ((0 : Int), (0 : Int)) else if (n : Int) > 4 then (if 3 < (l.length : Int) then (if l.getD 3 0 = 48 then some (0, 0) else if (n : Int) + 3 ≥ (l.length : Int) then some (0, 0) else if l[n + 3] = 59 then (utf_Scalar.f v).bind fun t => if t = true then some (v, (n : Int) + 4) else some (0, 0) else some (0, 0)) else none) else (if (n : Int) + 3 ≥ (l.length : Int) then some (0, 0) else if l[n + 3] = 59 then (utf_Scalar.f v).bind fun t => if t = true then some (v, (n : Int) + 4) else some (0, 0) else some (0, 0))) =
        (if n < 4 then some (0, 0) else if 4 < n ∧ l.getD 3 0 = 48 then some (0, 0) else if l[n + 3] = 59 then (utf_Scalar.f v).bind fun t => if t = true then some (v, (n : Int) + 4) else some (0, 0) else some (0, 0)) := by
      by_cases a : n < 4
      · rw [if_pos (by omega), if_pos a]
      · rw [if_neg (by omega), if_neg a]
        by_cases b : 4 < n
        · rw [if_pos (by omega), if_pos (by omega)]
          by_cases c : l.getD 3 0 = 48
          · rw [if_pos c, if_pos ⟨b, c⟩]
          · rw [if_neg c, if_neg (show ¬ (4 < n ∧ l.getD 3 0 = 48) from fun h => c h.2), if_neg (show ¬ ((n : Int) + 3 ≥ (l.length : Int)) by omega)]
        · rw [if_neg (show ¬ ((n : Int) > 4) by omega), if_neg (show ¬ ((n : Int) + 3 ≥ (l.length : Int)) by omega), if_neg (show ¬ (4 < n ∧ l.getD 3 0 = 48) from fun h => b h.1)]
    by_cases hdx : 0 ≤ hexv l[n + 3]
    · have h6 : n = 6 := by
        rcases h with h | h | ⟨x, h, hx⟩
        · exact h
        · omega
        · rw [hxx] at h; injection h with h; subst h; omega
      rw [if_pos (by omega), if_neg (by omega)]
      exact key
    · rw [if_neg (by omega)]
      exact key
  · have hnone : l[n + 3]? = none := List.getElem?_eq_none (by omega)
    rw [if_neg (show ¬ (n : Int) + 3 < (l.length : Int) by omega), hnone]
    by_cases a : n < 4
    · rw [if_pos (by omega), if_pos a]
    · rw [if_neg (by omega), if_neg a]
      by_cases b : 4 < n
      · rw [if_pos (by omega), if_pos (by omega)]
        by_cases c : l.getD 3 0 = 48
        · rw [if_pos c, if_pos ⟨b, c⟩]
        · rw [if_neg c, if_neg (show ¬ (4 < n ∧ l.getD 3 0 = 48) from fun h => c h.2), if_pos (show (n : Int) + 3 ≥ (l.length : Int) by omega), if_neg (by simp)]
      · rw [if_neg (show ¬ ((n : Int) > 4) by omega), if_pos (show (n : Int) + 3 ≥ (l.length : Int) by omega), if_neg (show ¬ (4 < n ∧ l.getD 3 0 = 48) from fun h => b h.1), if_neg (by simp)]
theorem pow16 (j : Nat) (h : j ≤ 5) : (16 : Int) ^ j ≤ 1048576 := by
  have : j = 0 ∨ j = 1 ∨ j = 2 ∨ j = 3 ∨ j = 4 ∨ j = 5 := by omega
  rcases this with rfl | rfl | rfl | rfl | rfl | rfl <;> decide
theorem scan_one (l : List Int) (j : Nat) (v a : Int) (hg : l[j + 3]? = some a) (hll : l.length < 1000000000000) (ha : 0 ≤ hexv a) (h6 : j ≤ 5) (h0 : 0 ≤ v) (h1 : v < 16 ^ j) (k : Nat) :
    ncr_Scan.l0 (k + 1) l ((j : Int) + 3) v = ncr_Scan.l0 k l (((j + 1 : Nat) : Int) + 3) (v * 16 + hexv a) := by
  have hl16 := hexv_lt a
  have hp : j + 3 < l.length := (List.getElem?_eq_some_iff.1 hg).1
  have e5 : (j : Int) + 3 = ((j + 3 : Nat) : Int) := by omega
  have rn : rd l ((j : Int) + 3) = a := by unfold rd; rw [e5, Int.toNat_natCast, List.getD_eq_getElem?_getD, hg]; rfl
  have hdig : ncr_digit.f a = some (hexv a) := digit_hex (by have := hex_range ha; omega)
  have hb : (16 : Int) ^ j ≤ 1048576 := pow16 j h6
  have q1 : (j : Int) + 3 < (l.length : Int) := by omega
  have q2 : 0 ≤ (j : Int) + 3 := by omega
  have q3 : (j : Int) + 3 < 9 := by omega
  have b1 : 0 ≤ v * 16 ∧ v * 16 < 2147483648 ∧ v * 16 % 16 = 0 := by omega
  have b2 : -9223372036854775808 ≤ (j : Int) + 3 + 1 ∧ (j : Int) + 3 + 1 ≤ 9223372036854775807 ∧ (j : Int) + 3 + 1 = ((j + 1 : Nat) : Int) + 3 := by omega
  have b3 : -2147483648 ≤ v * 16 ∧ v * 16 ≤ 2147483647 ∧ -2147483648 ≤ hexv a ∧ hexv a ≤ 2147483647 ∧ hexv a < 2147483648 := by omega
  have e1 : wrap64 ((j : Int) + 3 + 1) = ((j + 1 : Nat) : Int) + 3 := (w64 b2.1 b2.2.1).trans b2.2.2
  have eor : Go.bits .or .i32 (v * 16) (hexv a) = v * 16 + hexv a := bits_join .i32 31 (by decide) wraps_i32 4 (v * 16) (hexv a) b1.1 b1.2.2 b1.2.1 ha hl16 b3.2.2.2.2
  have ew : wrap32 (v * 16) = v * 16 := w32 b3.1 b3.2.1
  have ew2 : wrap32 (hexv a) = hexv a := w32 b3.2.2.1 b3.2.2.2.1
  rw [ncr_Scan.l0, if_pos q1, if_pos q2, rn, hdig]
  simp only [Option.bind_some]
  rw [if_pos ha, if_pos q3, ew, ew2, eor, e1]
theorem scan_digits (l : List Int) (hll : l.length < 1000000000000) (rest : List Int) (D : List Int) : ∀ (j : Nat) (v : Int), l.drop (j + 3) = D ++ rest → (∀ x ∈ D, 0 ≤ hexv x) → j + D.length ≤ 6 → 0 ≤ v → v < 16 ^ j → ∀ k,
    ncr_Scan.l0 (k + D.length) l ((j : Int) + 3) v = ncr_Scan.l0 k l (((j + D.length : Nat) : Int) + 3) (vfold v D) := by
  induction D with
  | nil => intro j v _ _ _ _ _ k; rw [List.length_nil, Nat.add_zero, Nat.add_zero]; rfl
  | cons a D ih =>
    intro j v hd hD h6 h0 h1 k
    have ha := hD a (by simp)
    have hl16 := hexv_lt a
    have hg : l[j + 3]? = some a := by
      have h2 : (l.drop (j + 3))[0]? = some a := by rw [hd]; rfl
      rwa [List.getElem?_drop, Nat.add_zero] at h2
    rw [List.length_cons] at h6 ⊢
    have h2 := ih (j + 1) (v * 16 + hexv a) (by
      have := congrArg List.tail hd
      rw [List.tail_drop, List.cons_append, List.tail_cons] at this
      exact this) (fun x hx => hD x (List.mem_cons_of_mem _ hx)) (by omega) (by omega) (by rw [Int.pow_succ]; omega) k
    have h3 := scan_one l j v a hg hll ha (by omega) h0 h1 (k + D.length)
    rw [show k + (D.length + 1) = k + D.length + 1 by omega, h3, h2, show j + 1 + D.length = j + (D.length + 1) by omega]
    rfl
theorem enc_size (x : Int) : 1 ≤ (Utf8.encode x).data.toList.length := by
  unfold Utf8.encode
  simp only
  repeat' split
  all_goals simp
theorem enc_one (x : Int) (u : UInt8) (h : (Utf8.encode x).data.toList = [u]) : x = u.toNat ∧ u.toNat < 128 := by
  unfold Utf8.encode at h
  by_cases hv : Utf8.valid x = true
  · have h0 : 0 ≤ x := by unfold Utf8.valid at hv; simp at hv; omega
    simp only [hv, if_true] at h
    by_cases h1 : x.toNat < 128
    · rw [if_pos h1] at h
      simp at h
      rw [← h]
      constructor
      · simp; omega
      · simp; omega
    · rw [if_neg h1] at h
      exfalso
      split at h
      · simp at h
      · split at h
        · simp at h
        · simp at h
  · exfalso
    simp [hv, Utf8.runeError] at h
theorem runes_three (a b c : Int) : (runesBytes [a, b, c]).toList = ([38, 35, 120] : List UInt8) ↔ a = 38 ∧ b = 35 ∧ c = 120 := by
  constructor
  · intro h
    rw [ByteArray.toList_eq] at h
    have e : (runesBytes [a, b, c]).data.toList = (Utf8.encode a).data.toList ++ (Utf8.encode b).data.toList ++ (Utf8.encode c).data.toList := by
      simp [runesBytes, ByteArray.data_append]
    rw [e] at h
    have ha := enc_size a; have hb := enc_size b; have hc := enc_size c
    have hlen := congrArg List.length h
    simp only [List.length_append, List.length_cons, List.length_nil] at hlen
    obtain ⟨x, hx⟩ := List.length_eq_one_iff.1 (show (Utf8.encode a).data.toList.length = 1 by omega)
    obtain ⟨y, hy⟩ := List.length_eq_one_iff.1 (show (Utf8.encode b).data.toList.length = 1 by omega)
    obtain ⟨z, hz⟩ := List.length_eq_one_iff.1 (show (Utf8.encode c).data.toList.length = 1 by omega)
    rw [hx, hy, hz] at h
    simp at h
    obtain ⟨rfl, rfl, rfl⟩ := h
    have h1 := (enc_one a _ hx).1; have h2 := (enc_one b _ hy).1; have h3 := (enc_one c _ hz).1
    exact ⟨h1, h2, h3⟩
  · rintro ⟨rfl, rfl, rfl⟩
    decide +kernel
/-- the digits that a list begins with, m at the most -/
theorem lead : ∀ (m : Nat) (t : List Int), ∃ D rest, t = D ++ rest ∧ (∀ x ∈ D, 0 ≤ hexv x) ∧ D.length ≤ m ∧ (D.length = m ∨ rest = [] ∨ ∃ x r, rest = x :: r ∧ hexv x < 0)
  | 0, t => ⟨[], t, rfl, by simp, by simp, .inl rfl⟩
  | m + 1, [] => ⟨[], [], rfl, by simp, by simp, .inr (.inl rfl)⟩
  | m + 1, a :: t => by
    by_cases ha : 0 ≤ hexv a
    · obtain ⟨D, rest, h1, h2, h3, h4⟩ := lead m t
      refine ⟨a :: D, rest, by rw [h1]; rfl, ?_, by simpa using h3, ?_⟩
      · intro x hx
        rcases List.mem_cons.1 hx with rfl | hx
        · exact ha
        · exact h2 x hx
      · rcases h4 with h4 | h4
        · exact .inl (by simpa using h4)
        · exact .inr h4
    · exact ⟨[], a :: t, rfl, by simp, by simp, .inr (.inr ⟨a, t, rfl, by omega⟩)⟩
theorem scan_begin (l : List Int) (k : Nat) : ((∃ t, l = 38 :: 35 :: 120 :: t) → ncr_Scan.f (k + 1) l = ncr_Scan.l0 k l 3 0) ∧ ((¬ ∃ t, l = 38 :: 35 :: 120 :: t) → ncr_Scan.f (k + 1) l = some (0, 0)) := by
  unfold ncr_Scan.f
  match l with
  | [] => simp [ncr_Scan.j0]
  | [_] => simp [ncr_Scan.j0]
  | [_, _] => simp [ncr_Scan.j0]
  | a :: b :: c :: t =>
    rw [if_neg (by simp; omega), if_pos (by simp; omega)]
    show (_ → ncr_Scan.j0 (k + 1) (a :: b :: c :: t) 3 ((runesBytes [a, b, c]).toList != [38, 35, 120]) = _) ∧ (_ → ncr_Scan.j0 (k + 1) (a :: b :: c :: t) 3 ((runesBytes [a, b, c]).toList != [38, 35, 120]) = _)
    by_cases h : a = 38 ∧ b = 35 ∧ c = 120
    · have e := (runes_three a b c).2 h
      obtain ⟨rfl, rfl, rfl⟩ := h
      rw [e]
      refine ⟨fun _ => by simp [ncr_Scan.j0], fun h => absurd ⟨t, rfl⟩ h⟩
    · have e : ((runesBytes [a, b, c]).toList != [38, 35, 120]) = true := by
        rw [bne_iff_ne]; exact fun e => h ((runes_three a b c).1 e)
      rw [e]
      refine ⟨fun ⟨t', h'⟩ => ?_, fun _ => by simp [ncr_Scan.j0]⟩
      injection h' with h1 h2; injection h2 with h2 h3; injection h3 with h3
      exact absurd ⟨h1, h2, h3⟩ h
theorem scan_at {l : List Int} {c : Int} (hll : l.length < 1000000000000) (hr : ∀ x ∈ l, -2147483648 ≤ x) (h : At l c) : Ev (fun k => ncr_Scan.f k l) (c, ((refL c).length : Int)) := by
  obtain ⟨hs, r, e⟩ := h
  have hf := digs_form hs
  rw [ref_eq] at e
  refine ⟨(digs c).length + 3, fun k hk => ?_⟩
  obtain ⟨m, rfl⟩ : ∃ m, k = ((m + 1) + (digs c).length) + 1 := ⟨k - (digs c).length - 2, by omega⟩
  have hdl := @digs_len c
  show ncr_Scan.f _ _ = _
  rw [(scan_begin l _).1 ⟨_, e⟩]
  have hlen : l.length = (digs c).length + r.length + 4 := by rw [e]; simp; omega
  have h1 := scan_digits l hll (59 :: r) (digs c) 0 0 (by rw [e]; rfl) hf.1 (by omega) (by omega) (by decide) (m + 1)
  rw [show ((0 : Nat) : Int) + 3 = 3 from rfl] at h1
  rw [h1, vfold_digs hs, Nat.zero_add]
  have h59 : l[(digs c).length + 3]? = some 59 := by rw [e]; simp [List.getElem?_append]
  rw [scan_end l (digs c).length c (by omega) (by omega) hll hr (.inr (.inr ⟨59, h59, by decide⟩)) m]
  unfold fin
  have h48 : ¬ (4 < (digs c).length ∧ l.getD 3 0 = 48) := by
    rintro ⟨h4, h5⟩
    have := hf.2.2.2 h4
    have e3 : l.getD 3 0 = (digs c).getD 0 0 := by
      rw [e]
      cases hd : digs c with
      | nil => rw [hd] at h4; simp at h4
      | cons a b => rfl
    rw [e3] at h5; exact this h5
  rw [if_neg (by omega), if_neg h48, if_pos h59, (scalar_yes hs).1, ref_length]
  simp
theorem scan_no {l : List Int} (hll : l.length < 1000000000000) (hr : ∀ x ∈ l, -2147483648 ≤ x) (h : NoAt l) : Ev (fun k => ncr_Scan.f k l) (0, 0) := by
  refine ⟨10, fun k hk => ?_⟩
  obtain ⟨m, rfl⟩ : ∃ m, k = (m + 8) + 1 := ⟨k - 9, by omega⟩
  show ncr_Scan.f _ _ = _
  by_cases hb : ∃ t, l = 38 :: 35 :: 120 :: t
  · rw [(scan_begin l _).1 hb]
    obtain ⟨t, e⟩ := hb
    obtain ⟨D, rest, h1, h2, h3, h4⟩ := lead 6 t
    have hlen : l.length = D.length + rest.length + 3 := by rw [e, h1]; simp
    obtain ⟨q, hq⟩ : ∃ q, m + 8 = (q + 1) + D.length := ⟨m + 7 - D.length, by omega⟩
    have h5 := scan_digits l hll rest D 0 0 (by rw [e, h1]; rfl) h2 (by omega) (by omega) (by decide) (q + 1)
    rw [show ((0 : Nat) : Int) + 3 = 3 from rfl] at h5
    have hn : ∀ x r, rest = x :: r → l[D.length + 3]? = some x := by
      intro x r hr; rw [e, h1, hr]; simp [List.getElem?_append]
    rw [hq, h5, Nat.zero_add, scan_end l D.length _ h3 (by omega) hll hr (by
      rcases h4 with h4 | h4 | ⟨x, r, h4, h6⟩
      · exact .inl h4
      · exact .inr (.inl (by rw [hlen, h4]; simp))
      · exact .inr (.inr ⟨x, hn x r h4, h6⟩)) q]
    unfold fin
    by_cases a : D.length < 4
    · rw [if_pos a]
    · rw [if_neg a]
      by_cases b : 4 < D.length ∧ l.getD 3 0 = 48
      · rw [if_pos b]
      · rw [if_neg b]
        by_cases c : l[D.length + 3]? = some 59
        · rw [if_pos c]
          by_cases s : Scal (vfold 0 D)
          · exfalso
            have hF : Form D := ⟨h2, by omega, h3, fun h4 h48 => b ⟨h4, by
              rw [e, h1]
              cases hD : D with
              | nil => rw [hD] at h4; simp at h4
              | cons x y => rw [hD] at h48; exact h48⟩⟩
            cases hre : rest with
            | nil => rw [e, h1, hre] at c; simp at c
            | cons x r =>
              have := hn x r hre
              rw [this] at c; injection c with c; subst c
              exact h (vfold 0 D) ⟨s, r, by rw [ref_eq, digs_vfold hF, e, h1, hre]⟩
          · rw [(scalar_no s).1]; rfl
        · rw [if_neg c]
  · rw [(scan_begin l _).2 hb]

/-! Expand -/
theorem ev_expand : ∀ (n : Nat) (x0 x3 : List Int) (i : Nat) (r : List Int), x0.length < 1000000000000 → x3.length + n < 1000000000000 → (∀ x ∈ x0, -2147483648 ≤ x) → i ≤ x0.length → Exp n (x0.drop i) r →
    Ev (fun k => ncr_Expand.l0 k x0 x3 (i : Int)) (x3 ++ r)
  | 0, x0, x3, i, r, h0, h3, hr, hi, ⟨e1, e2⟩ => by
    subst e2
    have hl : x0.length ≤ i := by have := congrArg List.length e1; simp at this; omega
    refine Ev.step (f := fun _ => some x3) (fun k => ?_) (by rw [List.append_nil]; exact Ev.now _)
    simp only [ncr_Expand.l0]; rw [if_neg (by omega)]
  | n + 1, x0, x3, i, r, h0, h3, hr, hi, h => by
    have hlt : i < x0.length := by
      rcases Nat.lt_or_ge i x0.length with h' | h'
      · exact h'
      · exfalso
        have h1 := exp_len _ _ _ h
        rw [List.length_drop] at h1; omega
    have hne : (x0.drop i) = x0[i] :: x0.drop (i + 1) := List.drop_eq_getElem_cons hlt
    have hrd : rd x0 (i : Int) = x0[i] := by simp [rd, List.getD_eq_getElem?_getD, List.getElem?_eq_getElem hlt]
    have hrD : ∀ x ∈ x0.drop i, -2147483648 ≤ x := fun x hx => hr x (List.mem_of_mem_drop hx)
    have hlD : (x0.drop i).length < 1000000000000 := by rw [List.length_drop]; omega
    have step : ∀ k, ncr_Expand.l0 (k + 1) x0 x3 (i : Int) = (ncr_Scan.f k (x0.drop i)).bind fun b => if b.2 > 0 then ncr_Expand.l0 k x0 (x3 ++ [b.1]) (wrap64 ((i : Int) + b.2)) else ncr_Expand.l0 k x0 (x3 ++ [x0[i]]) ((i + 1 : Nat) : Int) := by
      intro k
      simp only [ncr_Expand.l0, hrd, Int.toNat_natCast]
      rw [if_pos (by omega), if_pos (by omega), if_pos (by omega), w64 (x := (i : Int) + 1) (by omega) (by omega)]
      have e : x3.length < 35184372088832 := by omega
      simp only [if_pos e, Int.natCast_add, Int.cast_ofNat_Int]
    refine Ev.step step ?_
    rcases h with ⟨c, l', r', hs, e1, rfl, hx⟩ | ⟨a, l', r', e1, rfl, hno, hx⟩
    · refine Ev.bind (scan_at hlD hrD ⟨hs, l', e1⟩) ?_
      have hlc : 0 < (refL c).length := by rw [ref_length]; omega
      have hle : (refL c).length + i ≤ x0.length := by
        have := congrArg List.length e1
        rw [List.length_drop, List.length_append] at this; omega
      have ih := ev_expand n x0 (x3 ++ [c]) (i + (refL c).length) r' h0 (by simp; omega) hr (by omega) (by rw [← List.drop_drop, e1, List.drop_left' rfl]; exact hx)
      refine Ev.congr (f := fun k => ncr_Expand.l0 k x0 (x3 ++ [c]) ((i + (refL c).length : Nat) : Int)) (fun k => ?_) (by rw [List.append_assoc] at ih; exact ih)
      show (if ((refL c).length : Int) > 0 then _ else _) = _
      rw [if_pos (by omega), w64 (by omega) (by omega)]; rfl
    · refine Ev.bind (scan_no hlD hrD hno) ?_
      rw [hne] at e1
      injection e1 with e1 e2
      subst e1 e2
      have ih := ev_expand n x0 (x3 ++ [x0[i]]) (i + 1) r' h0 (by simp; omega) hr (by omega) hx
      refine Ev.congr (f := fun k => ncr_Expand.l0 k x0 (x3 ++ [x0[i]]) ((i + 1 : Nat) : Int)) (fun k => ?_) (by rw [List.append_assoc] at ih; exact ih)
      show (if (0 : Int) > 0 then _ else _) = _
      rw [if_neg (by omega)]
theorem ev_exp {n : Nat} {l r : List Int} (hl : l.length < 100000000000) (hr : ∀ x ∈ l, -2147483648 ≤ x) (h : Exp n l r) : Ev (fun k => ncr_Expand.f k l) r := by
  have := ev_expand n l [] 0 r (by omega) (by have := (exp_len _ _ _ h).2; simp; omega) hr (by omega) h
  exact this
end Go.Proofs.Ytfoffegcglommaa.Pure
