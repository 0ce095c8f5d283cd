/- Normal forms of the code that the runs enter: a part of them, each proved equal to the code. -/
import Derived.Test.YtofpekbidngnfaaGreatDoorYV2
set_option linter.unusedSectionVars false
set_option linter.unusedSimpArgs false
set_option linter.unusedVariables false
set_option maxHeartbeats 0
set_option maxRecDepth 1000000
namespace Go.Proofs.YtofpekbidngnfaaGreatDoor
def pt2:PSigma λc=>tc2 128 = c:=by
 refine ⟨?_,?_⟩
 rotate_left
 ·with_unfolding_all (conv=>lhs; reduce)
def pt3:PSigma λc=>tc2 192 = c:=by
 refine ⟨?_,?_⟩
 rotate_left
 ·with_unfolding_all (conv=>lhs; reduce)
end Go.Proofs.YtofpekbidngnfaaGreatDoor
