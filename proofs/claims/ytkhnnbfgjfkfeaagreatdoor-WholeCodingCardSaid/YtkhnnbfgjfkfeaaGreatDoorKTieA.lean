/- What the listed variables tie to, part 1 of the program. Conditions: those that each theorem states. -/
import Derived.Test.YtkhnnbfgjfkfeaaGreatDoorRows
import Derived.LaidByTextLater
import Derived.Deep.DeepLaidRun
namespace Go.Proofs.YtkhnnbfgjfkfeaaGreatDoor.ownTie
open Go
def tied : List (String × DataW Unit) := [("unicode/utf8.acceptRanges", Rows.laid_unicode_utf8_acceptRanges), ("strings.asciiSpace", Rows.laid_strings_asciiSpace), ("unicode.White_Space", Rows.laid_unicode_White_Space), ("strconv.ErrSyntax", Rows.laid_strconv_ErrSyntax), ("strconv.ErrRange", Rows.laid_strconv_ErrRange), ("internal/strconv.uint64pow10", Rows.laid_internal_strconv_uint64pow10), ("math/bits.deBruijn32tab", Rows.laid_math_bits_deBruijn32tab), ("math/bits.deBruijn64tab", Rows.laid_math_bits_deBruijn64tab), ("errors.errorType", Rows.laid_errors_errorType)]
def kinds : List LaidKind := [.data, .data, .listed, .sentinel, .sentinel, .data, .data, .data, .handle]
theorem a1 : Tryz.prog.worded (varsWordLater true) = true := by kernel_rfl
theorem a2 : Tryz.prog.worded (varsWordLater !true) = false := by kernel_rfl
theorem a3 : Tryz.prog.worded rootWordLater = true := by kernel_rfl
theorem a4 : tied.map (fun x => Tryz.prog.kindOfLater x.1) = kinds.map some := by kernel_rfl
theorem a5 : (Tryz.prog.funcNamed "gosem.cut.vars").isSome = true := by kernel_rfl
theorem a6 : varsNamedLaterB Tryz.prog (varsId Tryz.prog) tied = true := by kernel_rfl
theorem a7 (os : Os) (tape : Tape) : varsDone Tryz.prog 400 (varsId Tryz.prog) os tape = true := by kernel_rfl
theorem a10 (os : Os) (tape : Tape) : (tied.filter fun x => x.2.handleName?.isSome).all (handleAtB Tryz.prog (varsWorld Tryz.prog 400 (varsId Tryz.prog) os tape).memory) = true := by kernel_rfl
end Go.Proofs.YtkhnnbfgjfkfeaaGreatDoor.ownTie
