/- The machine at letters 0 to 63: the kernel's word. -/
import Derived.Test.YtofpekbidngnfaaGreatDoorYH4
import Derived.KernelRfl
set_option linter.unusedSectionVars false
set_option linter.unusedSimpArgs false
set_option linter.unusedVariables false
namespace Go.Proofs.YtofpekbidngnfaaGreatDoor
theorem leta:chkL imgL 25 wantN 64 0 = true:=by kernel_rfl
theorem letb:chkL imgL 25 wantN 64 64 = true:=by kernel_rfl
theorem letc:chkL imgL 25 wantN 64 128 = true:=by kernel_rfl
theorem letd:chkL imgL 25 wantN 64 192 = true:=by kernel_rfl
theorem chk0_t:chk0 imgL 25 = true:=by kernel_rfl
theorem chkE_t:chkE imgL 25 = true:=by kernel_rfl
theorem chk0_s:chk0 imgS 24 = true:=by kernel_rfl
theorem chkE_s:chkE imgS 24 = true:=by kernel_rfl
theorem let_s:chkL imgS 24 (λc=>c) 3 97 = true:=by kernel_rfl
end Go.Proofs.YtofpekbidngnfaaGreatDoor
