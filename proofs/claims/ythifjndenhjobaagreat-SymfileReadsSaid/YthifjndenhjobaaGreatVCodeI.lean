/- The functions' code in the small language. Printed by program (wip/tools). -/
import Derived.Test.YthifjndenhjobaaGreatVRead
import Derived.Test.YthifjndenhjobaaGreatVCode
import Derived.Test.YthifjndenhjobaaGreatProg
import Derived.KernelRfl
set_option linter.unusedSectionVars false
set_option linter.unusedSimpArgs false
set_option linter.unusedVariables false
namespace Go.Proofs.YthifjndenhjobaaGreat
open Go.RowKit
def hhI : Nat -> Nat -> Option Md := fun fn slot => if (fn, slot) ∈ [(80, 7), (80, 36), (80, 50), (101, 8), (15, 1), (9, 1)] then some .gr else if (fn, slot) ∈ [] then some .im else none
def c48 : AC :=
 sr [im 4 kF]
 (sr [im 5 t1, ib 6 .geq t5 (kc 1), im 7 t6, ky 8 7 (.mv t1), ky 9 7 (.bin .leq t8 (kc 32)), kn 10 (.pick t7 t9 kF), im 11 t10, ky 12 11 (.mv t1), ky 13 11 (.bin .sub t12 (kc 1)), ky 14 11 (.bin .shl (kc (-1)) t13), ky 15 11 (.mv t0), ky 16 11 (.bin .leq t14 t15), kn 17 (.pick t11 t16 kF), im 18 t17, ky 19 18 (.mv t0), ky 20 18 (.mv t1), ky 21 18 (.bin .sub t20 (kc 1)), ky 22 18 (.bin .shl (kc 1) t21), ky 23 18 (.bin .lss t19 t22), kn 24 (.pick t18 t23 kF), im 4 t24]
 (.ret))
def r48 : List RC := [.t 4]
def c67 : AC :=
 sr [im 4 kF]
 (.seq (sr [im 6 t1, ib 7 .lss t6 (kc 1), im 8 t7, ko 9 8 (.mv t1), ko 10 8 (.bin .gtr t9 (kc 32)), kn 11 (.pick t8 kT t10)]
 (.cond t11 (sr [im 4 kF]
 (.ret)) (.skip)))
 (sr [im 12 t1, kn 13 (.cvi .u32 t12), ic 14 77 [t13], kn 15 (.cvi .i64 t14), ib 16 .quo t15 (kc 2), im 5 t16]
 (sr [im 17 t0, im 18 t5, kn 19 (.un .neg t18), ib 20 .geq t17 t19, im 21 t20, ky 22 21 (.mv t0), ky 23 21 (.mv t5), ky 24 21 (.bin .lss t22 t23), kn 25 (.pick t21 t24 kF), im 4 t25]
 (.ret))))
def r67 : List RC := [.t 4]
def c77l0 : AC :=
 .seq (sr [im 5 t4, im 6 t0, ib 7 .lss t5 t6]
 (.cond t7 (.skip) (.exit 0)))
 (.seq (.block 1 (.reg [im 10 t3, kn 11 (.bin .mul t10 (.c (.d (.v (.int .u64 2))))), im 3 t11]))
 (.reg [im 8 t4, kn 9 (.bin .add t8 (.c (.d (.v (.int .u32 1))))), im 4 t9]))
def c77 : AC :=
 sr [kn 2 (.mv (.c (.d (.v (.int .u64 0)))))]
 (sr [kn 3 (.mv (.c (.d (.v (.int .u64 1)))))]
 (.seq (sr [kn 4 (.mv (.c (.d (.v (.int .u32 0)))))]
 (.block 0 (.loop c77l0)))
 (sr [im 12 t3, im 2 t12]
 (.ret))))
def r77 : List RC := [.t 2]
theorem cc48 : cK Tryz.f48 (hhI 48) c48 := by unfold cK; kernel_rfl
theorem rr48 : resC Tryz.prog Tryz.f48 = some r48 := by kernel_rfl
theorem cc67 : cK Tryz.f67 (hhI 67) c67 := by unfold cK; kernel_rfl
theorem rr67 : resC Tryz.prog Tryz.f67 = some r67 := by kernel_rfl
theorem cc77 : cK Tryz.f77 (hhI 77) c77 := by unfold cK; kernel_rfl
theorem rr77 : resC Tryz.prog Tryz.f77 = some r77 := by kernel_rfl
end Go.Proofs.YthifjndenhjobaaGreat
