/- The functions' code in the small language. Printed by program (wip/tools). -/
import Derived.Test.YthifjndenhjobaaXRead
import Derived.Test.YthifjndenhjobaaXCode
import Derived.Test.YthifjndenhjobaaProg
import Derived.KernelRfl
namespace Go.Proofs.Ythifjndenhjobaa
set_option linter.unusedVariables false
set_option linter.unusedSimpArgs false
open Go.RowKit
def hhW : Nat → Nat → Option Md := fun fn slot => if (fn, slot) ∈ [(93, 3)] then some .gr else none

def c27l0 : AC :=
 .seq (.reg [kn 73 (.bin .lss (.t 72) (.t 71))])
 (.seq (.cond (.t 73) (.skip) (.exit 4))
 (.seq (.block 5 (.seq (.reg [kn 74 (.ia (.t 70) (.t 72) 7), kn 75 (.ld (.t 74) 7 true), kn 11 (.al [kz, (.d (.v (.string ⟨#[]⟩))), kz, kz, kz, (.d (.v (.string ⟨#[]⟩))), kz]), ke (.st (.t 11) (.t 75) 7)])
 (.seq (.reg [kn 76 (.mv (.t 4)), kn 77 (.fa (.t 11) 0), kn 78 (.ld (.t 77) 1 false), kn 79 (.call 57 [(.t 76), (.t 78)])])
 (.seq (.reg [kn 80 (.mv (.t 4)), kn 81 (.fa (.t 11) 1), kn 82 (.ld (.t 81) 1 false), kn 83 (.call 53 [(.t 80), (.t 82)])])
 (.seq (.reg [kn 84 (.mv (.t 4)), kn 85 (.fa (.t 11) 2), kn 86 (.ld (.t 85) 1 false), kn 87 (.call 55 [(.t 84), (.t 86)])])
 (.seq (.reg [kn 88 (.mv (.t 4)), kn 89 (.fa (.t 11) 3), kn 90 (.fa (.t 89) 0), kn 91 (.ld (.t 90) 1 false), kn 92 (.call 57 [(.t 88), (.t 91)])])
 (.seq (.reg [kn 93 (.mv (.t 4)), kn 94 (.fa (.t 11) 3), kn 95 (.ld (.t 94) 3 true), kn 96 (.call 58 [(.t 95)]), kn 97 (.call 55 [(.t 93), (.t 96)])])
 (.seq (.reg [kn 98 (.mv (.t 4)), kn 99 (.fa (.t 11) 3), kn 100 (.fa (.t 99) 2), kn 101 (.ld (.t 100) 1 false), kn 102 (.call 53 [(.t 98), (.t 101)])])
 (.reg [kn 103 (.mv (.t 4)), kn 104 (.fa (.t 11) 6), kn 105 (.ld (.t 104) 1 false), kn 106 (.call 55 [(.t 103), (.t 105)])])))))))))
 (.reg [kn 107 (.bin .add (.t 72) (kc 1)), kn 72 (.mv (.t 107))])))

def c27l1 : AC :=
 .seq (.reg [kn 57 (.bin .lss (.t 56) (.t 55))])
 (.seq (.cond (.t 57) (.skip) (.exit 2))
 (.seq (.block 3 (.seq (.reg [kn 58 (.ia (.t 54) (.t 56) 10), kn 59 (.ld (.t 58) 10 true), kn 9 (.al [kz, (.d (.v (.string ⟨#[]⟩))), (.d (.v (.string ⟨#[]⟩))), kz, kz, kz, .esl, .esl, kz, kz]), ke (.st (.t 9) (.t 59) 10)])
 (.reg [kn 60 (.mv (.t 4)), kn 61 (.ld (.t 9) 10 true), kn 62 (.call 56 [(.t 60), (.t 61)])])))
 (.reg [kn 63 (.bin .add (.t 56) (kc 1)), kn 56 (.mv (.t 63))])))

def c27l2 : AC :=
 .seq (.reg [kn 35 (.bin .lss (.t 34) (.t 33))])
 (.seq (.cond (.t 35) (.skip) (.exit 0))
 (.seq (.block 1 (.seq (.reg [kn 36 (.ia (.t 32) (.t 34) 2), kn 37 (.ld (.t 36) 2 true), kn 6 (.al [(.d (.v (.string ⟨#[]⟩))), (.d (.v (.int .u32 0)))]), ke (.st (.t 6) (.t 37) 2)])
 (.seq (.reg [kn 38 (.mv (.t 4)), kn 39 (.fa (.t 6) 0), kn 40 (.ld (.t 39) 1 false), kn 41 (.call 53 [(.t 38), (.t 40)])])
 (.reg [kn 42 (.mv (.t 4)), kn 43 (.fa (.t 6) 1), kn 44 (.ld (.t 43) 1 false), kn 45 (.call 54 [(.t 42), (.t 44)])]))))
 (.reg [kn 46 (.bin .add (.t 34) (kc 1)), kn 34 (.mv (.t 46))])))

def c27 : AC :=
 .seq (.reg [kn 1 (.bx (.t 0)), kn 2 (.mv (.c (.d (.v (.string ⟨#[]⟩))))), kn 3 (.mv (kc 0))])
 (.seq (.seq (.reg [kn 12 (.ld (.t 1) 5 true), kn 13 (.call 19 [(.t 12)]), kn 14 (.un .not (.t 13))])
 (.cond (.t 14) (.seq (.reg [kn 2 (.mv (.c (.d (.v (.string ⟨#[]⟩))))), kn 3 (.mv (kc 160))])
 (.ret)) (.skip)))
 (.seq (.reg [kn 15 (.call 52 []), kn 4 (.mv (.t 15))])
 (.seq (.reg [kn 16 (.mv (.t 4)), kn 17 (.call 53 [(.t 16), (.c (.d (.v (.string ⟨#[83, 80, 83, 89]⟩))))])])
 (.seq (.reg [kn 18 (.mv (.t 4)), kn 19 (.fa (.t 1) 0), kn 20 (.ld (.t 19) 1 false), kn 21 (.call 53 [(.t 18), (.t 20)])])
 (.seq (.reg [kn 22 (.mv (.t 4)), kn 23 (.fa (.t 1) 1), kn 24 (.ld (.t 23) 1 false), kn 25 (.call 54 [(.t 22), (.t 24)])])
 (.seq (.reg [kn 26 (.mv (.t 4)), kn 27 (.fa (.t 1) 2), kn 28 (.ld (.t 27) 1 false), kn 29 (.len false (.t 28)), kn 30 (.call 55 [(.t 26), (.t 29)])])
 (.seq (.seq (.reg [kn 31 (.fa (.t 1) 2), kn 32 (.ld (.t 31) 1 false), kn 33 (.len false (.t 32)), kn 34 (.mv (kc 0))])
 (.block 0 (.loop c27l2)))
 (.seq (.reg [kn 47 (.fa (.t 1) 3), kn 48 (.ld (.t 47) 1 false), kn 49 (.sli false (.t 48) (some (kc 7)) none 10), kn 7 (.mv (.t 49))])
 (.seq (.reg [kn 50 (.mv (.t 4)), kn 51 (.mv (.t 7)), kn 52 (.len false (.t 51)), kn 53 (.call 55 [(.t 50), (.t 52)])])
 (.seq (.seq (.reg [kn 54 (.mv (.t 7)), kn 55 (.len false (.t 54)), kn 56 (.mv (kc 0))])
 (.block 2 (.loop c27l1)))
 (.seq (.reg [kn 64 (.mv (.t 4)), kn 65 (.fa (.t 1) 4), kn 66 (.ld (.t 65) 1 false), kn 67 (.len false (.t 66)), kn 68 (.call 55 [(.t 64), (.t 67)])])
 (.seq (.seq (.reg [kn 69 (.fa (.t 1) 4), kn 70 (.ld (.t 69) 1 false), kn 71 (.len false (.t 70)), kn 72 (.mv (kc 0))])
 (.block 4 (.loop c27l0)))
 (.seq (.reg [kn 108 (.mv (.t 4)), kn 109 (.call 59 [(.t 108)]), kn 110 (.ext (.t 109) 0), kn 111 (.ext (.t 109) 1), kn 2 (.mv (.t 110)), kn 3 (.mv (.t 111))])
 (.ret))))))))))))))
def r27 : List RC := [.t 2, .t 3]

theorem cc27 : Try.f27.body.bind (comp Try.prog (hhW 27)) = some c27 := by kernel_rfl
theorem rr27 : resC Try.prog Try.f27 = some r27 := by kernel_rfl
end Go.Proofs.Ythifjndenhjobaa
