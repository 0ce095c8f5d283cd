/- The functions' code in the small language. Printed by program (wip/tools). -/
import Derived.Test.YthifjndenhjobaaGreatVRead
import Derived.Test.YthifjndenhjobaaGreatVCode
import Derived.Test.YthifjndenhjobaaGreatProg
import Derived.KernelRfl
set_option linter.unusedSectionVars false
set_option linter.unusedSimpArgs false
set_option linter.unusedVariables false
namespace Go.Proofs.YthifjndenhjobaaGreat
open Go.RowKit
def hhW : Nat -> Nat -> Option Md := fun fn slot => if (fn, slot) ∈ [(49, 3)] then some .gr else none
def c8l0 : AC :=
 sr [ib 73 .lss t72 t71]
 (.seq (.cond t73 (.skip) (.exit 4))
 (.seq (.block 5 (sr [kn 74 (.ia t70 t72 7), kn 75 (.ld t74 7 true), kn 11 (.al [kz, ks, kz, kz, kz, ks, kz]), ke (.st t11 t75 7)]
 (sr [im 76 t4, ia 77 t11 0, il 78 t77, ic 79 40 [t76, t78]]
 (sr [im 80 t4, ia 81 t11 1, il 82 t81, ic 83 36 [t80, t82]]
 (sr [im 84 t4, ia 85 t11 2, il 86 t85, ic 87 38 [t84, t86]]
 (sr [im 88 t4, ia 89 t11 3, ia 90 t89 0, il 91 t90, ic 92 40 [t88, t91]]
 (sr [im 93 t4, ia 94 t11 3, kn 95 (.ld t94 3 true), ic 96 41 [t95], ic 97 38 [t93, t96]]
 (sr [im 98 t4, ia 99 t11 3, ia 100 t99 2, il 101 t100, ic 102 36 [t98, t101]]
 (.reg [im 103 t4, ia 104 t11 6, il 105 t104, ic 106 38 [t103, t105]])))))))))
 (.reg [ib 107 .add t72 (kc 1), im 72 t107])))
def c8l1 : AC :=
 sr [ib 57 .lss t56 t55]
 (.seq (.cond t57 (.skip) (.exit 2))
 (.seq (.block 3 (sr [kn 58 (.ia t54 t56 10), kn 59 (.ld t58 10 true), kn 9 (.al [kz, ks, ks, kz, kz, kz, .esl, .esl, kz, kz]), ke (.st t9 t59 10)]
 (.reg [im 60 t4, kn 61 (.ld t9 10 true), ic 62 39 [t60, t61]])))
 (.reg [ib 63 .add t56 (kc 1), im 56 t63])))
def c8l2 : AC :=
 sr [ib 35 .lss t34 t33]
 (.seq (.cond t35 (.skip) (.exit 0))
 (.seq (.block 1 (sr [kn 36 (.ia t32 t34 2), kn 37 (.ld t36 2 true), kn 6 (.al [ks, (.d (.v (.int .u32 0)))]), ke (.st t6 t37 2)]
 (sr [im 38 t4, ia 39 t6 0, il 40 t39, ic 41 36 [t38, t40]]
 (.reg [im 42 t4, ia 43 t6 1, il 44 t43, ic 45 37 [t42, t44]]))))
 (.reg [ib 46 .add t34 (kc 1), im 34 t46])))
def c8 : AC :=
 sr [kn 1 (.bx t0), im 2 (.c ks), im 3 (kc 0)]
 (.seq (sr [kn 12 (.ld t1 5 true), ic 13 34 [t12], kn 14 (.un .not t13)]
 (.cond t14 (sr [im 2 (.c ks), im 3 (kc 160)]
 (.ret)) (.skip)))
 (sr [ic 15 35 [], im 4 t15]
 (sr [im 16 t4, kn 17 (.call 36 [t16, (.c (.d (.v (.string ⟨#[83, 80, 83, 89]⟩))))])]
 (sr [im 18 t4, ia 19 t1 0, il 20 t19, ic 21 36 [t18, t20]]
 (sr [im 22 t4, ia 23 t1 1, il 24 t23, ic 25 37 [t22, t24]]
 (sr [im 26 t4, ia 27 t1 2, il 28 t27, kn 29 (.len false t28), ic 30 38 [t26, t29]]
 (.seq (sr [ia 31 t1 2, il 32 t31, kn 33 (.len false t32), im 34 (kc 0)]
 (.block 0 (.loop c8l2)))
 (sr [ia 47 t1 3, il 48 t47, kn 49 (.sli false t48 (some (kc 7)) none 10), im 7 t49]
 (sr [im 50 t4, im 51 t7, kn 52 (.len false t51), ic 53 38 [t50, t52]]
 (.seq (sr [im 54 t7, kn 55 (.len false t54), im 56 (kc 0)]
 (.block 2 (.loop c8l1)))
 (sr [im 64 t4, ia 65 t1 4, il 66 t65, kn 67 (.len false t66), ic 68 38 [t64, t67]]
 (.seq (sr [ia 69 t1 4, il 70 t69, kn 71 (.len false t70), im 72 (kc 0)]
 (.block 4 (.loop c8l0)))
 (sr [im 108 t4, ic 109 42 [t108], kn 110 (.ext t109 0), kn 111 (.ext t109 1), im 2 t110, im 3 t111]
 (.ret))))))))))))))
def r8 : List RC := [.t 2, .t 3]
theorem cc8 : cK Tryz.f8 (hhW 8) c8 := by unfold cK; kernel_rfl
theorem rr8 : resC Tryz.prog Tryz.f8 = some r8 := by kernel_rfl
end Go.Proofs.YthifjndenhjobaaGreat
