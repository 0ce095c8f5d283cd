/- The program's tie, each closed fact by itself (the given text asks them together, which wants some 19 GB). -/
import Derived.Test.YtofpekbidngnfaaGreatDoorRows
import Derived.LaidByTextLater
import Derived.LaidOnce
import Derived.SevenTiedAt
set_option linter.unusedSectionVars false
set_option linter.unusedSimpArgs false
set_option linter.unusedVariables false
namespace Go.Proofs.YtofpekbidngnfaaGreatDoor
open Go
abbrev laidL : List (String × DataW Unit) := [("strings.asciiSpace", Rows.laid_strings_asciiSpace), ("unicode.White_Space", Rows.laid_unicode_White_Space), ("strconv.ErrSyntax", Rows.laid_strconv_ErrSyntax), ("strconv.ErrRange", Rows.laid_strconv_ErrRange), ("internal/strconv.uint64pow10", Rows.laid_internal_strconv_uint64pow10), ("math/bits.deBruijn32tab", Rows.laid_math_bits_deBruijn32tab), ("math/bits.deBruijn64tab", Rows.laid_math_bits_deBruijn64tab), ("unicode/utf8.acceptRanges", Rows.laid_unicode_utf8_acceptRanges)]
abbrev laidK:List LaidKind:=[.data,.listed,.sentinel,.sentinel,.data,.data,.data,.data]
theorem tie1:Tryz.prog.worded (varsWordLater true) = true:=by kernel_rfl
theorem tie2:Tryz.prog.worded (varsWordLater !true) = false:=by kernel_rfl
theorem tie3:Tryz.prog.worded rootWordLater = true:=by kernel_rfl
theorem tie4:laidL.map (λx=>Tryz.prog.kindOfLater x.1) = laidK.map some:=by kernel_rfl
theorem tie5 : (Tryz.prog.funcNamed "gosem.cut.vars").isSome = true := by kernel_rfl
theorem tie6:varsNamedLaterB Tryz.prog (varsId Tryz.prog) laidL = true:=by kernel_rfl
theorem tie7:∀ os tape,varsDone Tryz.prog 400 (varsId Tryz.prog) os tape = true:=λ_ _=>by kernel_rfl
theorem tie8:∀ os tape,(DataW.laidRun Tryz.prog (varsWorld Tryz.prog 400 (varsId Tryz.prog) os tape).memory 8 (laidL.map (·.1))).map (·.1) = some laidL:=λ_ _=>by kernel_rfl
theorem tie9:∀ os tape,(DataW.laidRun Tryz.prog (varsWorld Tryz.prog 400 (varsId Tryz.prog) os tape).memory 8 (laidL.map (·.1))).map (λx=>nodupBits 257 x.2 0 && laidRowsB Tryz.prog (varsWorld Tryz.prog 400 (varsId Tryz.prog) os tape).memory x.2) = some true:=λ_ _=>by kernel_rfl
theorem tieA:∀ os tape,(DataW.laidRun Tryz.prog (varsWorld Tryz.prog 400 (varsId Tryz.prog) os tape).memory 8 (laidL.map (·.1))).map (λx=>decide x.2.Nodup && laidRowsB Tryz.prog (varsWorld Tryz.prog 400 (varsId Tryz.prog) os tape).memory x.2) = some true:=λos tape=>by
 have h:=tie9 os tape; rw [Option.map_eq_some_iff] at h ⊢; obtain ⟨x,hx,h2⟩:=h; rw [Bool.and_eq_true] at h2; exact ⟨x,hx,by rw [Bool.and_eq_true]; exact ⟨decide_eq_true (nodupBits_sound h2.1).1,h2.2⟩⟩
theorem tieOwn:Tryz.prog.laidByTextLater laidL laidK true:=Program.laidByTextLater_by_run 400 8 tie1 tie2 tie3 tie4 tie5 tie6 tie7 tie8 tieA
end Go.Proofs.YtofpekbidngnfaaGreatDoor
