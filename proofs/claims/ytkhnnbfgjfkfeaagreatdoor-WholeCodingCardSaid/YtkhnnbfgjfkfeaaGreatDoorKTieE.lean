/- The tie of the row to the program's text. Conditions: those that each theorem states. -/
import Derived.Test.YtkhnnbfgjfkfeaaGreatDoorKTieB
import Derived.Test.YtkhnnbfgjfkfeaaGreatDoorKTieC
import Derived.Test.YtkhnnbfgjfkfeaaGreatDoorKTieD
import Derived.SevenTiedAt
namespace Go.Proofs.YtkhnnbfgjfkfeaaGreatDoor.ownTie
open Go
theorem join {o : Option (List (String × DataW Unit) × List MemPlace)} {f : List MemPlace → Bool} (h1 : o.map (fun x => nodupB (x.2.map MemPlace.codeOf)) = some true) (h2 : o.map (fun x => f x.2) = some true) : o.map (fun x => decide x.2.Nodup && f x.2) = some true := by
  cases o with
  | none => cases h1
  | some x =>
    simp only [Option.map_some, Option.some.injEq] at h1 h2 ⊢
    rw [h2, decide_eq_true (nodup_of_code h1)]; rfl
theorem tie : Tryz.prog.laidByTextLater tied kinds true :=
  Program.laidByTextLater_by_run_h 400 8 a1 a2 a3 a4 a5 a6 a7 a8 (fun os tape => join (a9a os tape) (a9b os tape)) a10
theorem pin : Tryz.pinned.checked.prog.pinnedFits "unicode/utf8.first" = true := by kernel_rfl
theorem noOwnUnsafe : Tryz.pinned.checked.prog.headLifts.contains "ownunsafe" = false := by kernel_rfl
theorem fits1 : Tryz.pinned.checked.prog.listedFits [("unicode/utf8.first", Rows.laid_unicode_utf8_first), ("unicode/utf8.acceptRanges", Rows.laid_unicode_utf8_acceptRanges), ("strings.asciiSpace", Rows.laid_strings_asciiSpace), ("unicode.White_Space", Rows.laid_unicode_White_Space), ("strconv.ErrSyntax", Rows.laid_strconv_ErrSyntax), ("strconv.ErrRange", Rows.laid_strconv_ErrRange), ("internal/strconv.uint64pow10", Rows.laid_internal_strconv_uint64pow10), ("math/bits.deBruijn32tab", Rows.laid_math_bits_deBruijn32tab), ("math/bits.deBruijn64tab", Rows.laid_math_bits_deBruijn64tab), ("errors.errorType", Rows.laid_errors_errorType)] = true := by
  unfold Program.listedFits
  rw [noOwnUnsafe]
  kernel_rfl
theorem row_tie : Rows.wholeCodingRow.laidByTextAt .later Tryz.pinned [.pinned, .data, .data, .listed, .sentinel, .sentinel, .data, .data, .data, .handle] true :=
  OpenClaim.laidByTextAt_pinned rfl rfl tie rfl rfl rfl rfl (fun y hy _e => by
    simp only [Rows.wholeCodingRow, List.zip_cons_cons, List.zip_nil_right, List.mem_cons, List.mem_nil_iff, or_false] at hy
    rcases hy with rfl | rfl | rfl | rfl | rfl | rfl | rfl | rfl | rfl | rfl
    · exact ⟨pin, by kernel_rfl⟩
    · cases _e
    · cases _e
    · cases _e
    · cases _e
    · cases _e
    · cases _e
    · cases _e
    · cases _e
    · cases _e) fits1
end Go.Proofs.YtkhnnbfgjfkfeaaGreatDoor.ownTie
