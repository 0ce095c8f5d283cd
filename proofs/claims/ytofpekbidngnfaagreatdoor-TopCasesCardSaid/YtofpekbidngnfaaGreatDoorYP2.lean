/- Parse and built of the law's source: the kernel's word. -/
import Derived.Test.YtofpekbidngnfaaGreatDoorYH4
import Derived.KernelRfl
set_option linter.unusedSectionVars false
set_option linter.unusedSimpArgs false
set_option linter.unusedVariables false
namespace Go.Proofs.YtofpekbidngnfaaGreatDoor
theorem pipeC_t:pipeG cases imgL = true:=by kernel_rfl
end Go.Proofs.YtofpekbidngnfaaGreatDoor
