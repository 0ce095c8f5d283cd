/- Parse and built of the small source: the kernel's word. -/
import Derived.Test.YtofpekbidngnfaaGreatDoorYH4
import Derived.KernelRfl
set_option linter.unusedSectionVars false
set_option linter.unusedSimpArgs false
set_option linter.unusedVariables false
namespace Go.Proofs.YtofpekbidngnfaaGreatDoor
theorem pipeS_t:pipeG small imgS = true:=by kernel_rfl
end Go.Proofs.YtofpekbidngnfaaGreatDoor
