/- TopCases, for every input: the compiled CASE takes the block whose labels meet, of numbers and of characters, and traps without one: the law returns true, and the input reads as it did. Conditions: the row's own; what the listed package variables hold when the call begins is tied here to the text of the program. -/
import Derived.Test.YtofpekbidngnfaaGreatDoorYQ2
import Derived.Test.YtofpekbidngnfaaGreatDoorYTie2
import Derived.Test.YtofpekbidngnfaaGreatDoorCards
set_option linter.unusedSectionVars false
set_option linter.unusedSimpArgs false
set_option linter.unusedVariables false
namespace Go.Proofs.YtofpekbidngnfaaGreatDoor
open Go
theorem pin1 : Tryz.pinned.checked.prog.pinnedFits "unicode/utf8.first" = true := by kernel_rfl
theorem pin2 : Tryz.pinned.checked.prog.pinnedFits "unicode.CaseRanges" = true := by kernel_rfl
theorem noOwnUnsafe : Tryz.pinned.checked.prog.headLifts.contains "ownunsafe" = false := by kernel_rfl
theorem fits1:Tryz.pinned.checked.prog.listedFits Rows.topCasesRow.laid = true:=by
 unfold Program.listedFits
 rw [noOwnUnsafe]
 kernel_rfl
theorem row_tie:Rows.topCasesRow.laidByTextAt .later Tryz.pinned [.data,.listed,.sentinel,.sentinel,.data,.data,.data,.pinned,.data,.pinned] true:=
 OpenClaim.laidByTextAt_pinned rfl rfl tieOwn rfl rfl rfl rfl (λy hy _e=>by
  simp only [Rows.topCasesRow,List.zip_cons_cons,List.zip_nil_right,List.mem_cons,List.mem_nil_iff,or_false] at hy; rcases hy with rfl | rfl | rfl | rfl | rfl | rfl | rfl | rfl | rfl | rfl
  ·cases _e
  ·cases _e
  ·cases _e
  ·cases _e
  ·cases _e
  ·cases _e
  ·cases _e
  ·exact ⟨pin1,by kernel_rfl⟩
  ·cases _e
  ·exact ⟨pin2,by kernel_rfl⟩) fits1
theorem named3 : Tryz.prog.funcNamed "spinet/spinettop.TopCases" = some 3 := by kernel_rfl
theorem goesE:(cloL.any λg=>(Tryz.prog.funcs[g]?).any Func.goes) = false:=by kernel_rfl
theorem goesA:Tryz.prog.funcs.any Func.goes = false:=by kernel_rfl
theorem goes3:Tryz.prog.goes 3 = false:=by rw [Program.goes,clo,goesE,goesA,Bool.and_false,Bool.or_false]
theorem goesB:false = Rows.topCasesRow.goesBy Tryz.pinned.checked.prog:=by
 have h : Tryz.prog.goesFrom "spinet/spinettop.TopCases" = false := (congrArg (Option.any Tryz.prog.goes) named3).trans (Option.any_some.trans goes3)
 show false = (Tryz.prog.goesFrom "spinet/spinettop.TopCases" || false)
 rw [h]; rfl
theorem looks0:true = Tryz.pinned.checked.prog.looks []:=by kernel_rfl
theorem main0 : Tryz.pinned.checked.prog.mainIs = some ((true, "daef6b506499196aeef5bd0371a94cc9c0994dd91e70a666bf5296e96e17a174").1, (true, "daef6b506499196aeef5bd0371a94cc9c0994dd91e70a666bf5296e96e17a174").2.toList) := by kernel_rfl
theorem wfT:Rows.topCasesRow.wfByText (OpenSpec.ofChange Rows.topCasesSpec) = true:=by kernel_rfl
theorem stand9:Tryz.prog.wantsStandIn 9 = false:=by kernel_rfl
theorem topCases_card_holds:Rows.TopCasesCardSaid:=
 Claim7.holds_tied_plain_at .later [] [.data, .listed, .sentinel, .sentinel, .data, .data, .data, .pinned, .data, .pinned] true (true, "daef6b506499196aeef5bd0371a94cc9c0994dd91e70a666bf5296e96e17a174") true
  topCases_holds (λ_ h=>by cases h) wfT (λ_ h=>by cases h) row_tie rfl ⟨rfl,rfl⟩ main0 rfl
  (fun f fn hf hfn => by
    obtain rfl:f = 3:=Option.some.inj (named3.symm.trans hf) |>.symm
    obtain rfl:fn = Tryz.f3:=(Option.some.inj (Tryz.func3.symm.trans hfn)).symm; exact ⟨looks0,λj t ht=>by
     rw [Tryz.params3] at ht; obtain rfl:t = 9:=by
      match j,ht with
      | 0,ht=>simpa using ht.symm
      | j + 1,ht=>simp at ht
     exact stand9⟩)
  goesB
#print axioms topCases_card_holds
end Go.Proofs.YtofpekbidngnfaaGreatDoor
