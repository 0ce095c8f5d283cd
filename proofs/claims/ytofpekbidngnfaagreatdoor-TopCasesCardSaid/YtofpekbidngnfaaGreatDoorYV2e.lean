/- Normal forms of the code that the runs enter: a part of them, each proved equal to the code. -/
import Derived.Test.YtofpekbidngnfaaGreatDoorYV2
set_option linter.unusedSectionVars false
set_option linter.unusedSimpArgs false
set_option linter.unusedVariables false
set_option maxHeartbeats 0
set_option maxRecDepth 1000000
namespace Go.Proofs.YtofpekbidngnfaaGreatDoor
def pdp11:PSigma λc=>dp11 = c:=by
 refine ⟨?_,?_⟩
 rotate_left
 ·with_unfolding_all (conv=>lhs; reduce)
def pdp30:PSigma λc=>dp30 = c:=by
 refine ⟨?_,?_⟩
 rotate_left
 ·with_unfolding_all (conv=>lhs; reduce)
def pdp48:PSigma λc=>dp48 = c:=by
 refine ⟨?_,?_⟩
 rotate_left
 ·with_unfolding_all (conv=>lhs; reduce)
def prp31:PSigma λc=>rp31 = c:=by
 refine ⟨?_,?_⟩
 rotate_left
 ·with_unfolding_all (conv=>lhs; reduce)
def pt8:PSigma λc=>tc2 512 = c:=by
 refine ⟨?_,?_⟩
 rotate_left
 ·with_unfolding_all (conv=>lhs; reduce)
def pt9:PSigma λc=>tc2 576 = c:=by
 refine ⟨?_,?_⟩
 rotate_left
 ·with_unfolding_all (conv=>lhs; reduce)
end Go.Proofs.YtofpekbidngnfaaGreatDoor
