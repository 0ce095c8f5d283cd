/- The functions' code in the small language. Printed by program (wip/tools). -/
import Derived.Test.YthifjndenhjobaaZRead
import Derived.Test.YthifjndenhjobaaProg
import Derived.KernelRfl
namespace Go.Proofs.Ythifjndenhjobaa
set_option linter.unusedVariables false
set_option linter.unusedSimpArgs false
open Go.RowKit
def hhh : Nat → Nat → Option Md := fun fn slot => if (fn, slot) ∈ [(40, 11)] then some .hp else none

def c40hl0 : AC :=
 .seq (.seq (.reg [⟨(some 3), .mv (.t 2), none⟩,
 ⟨(some 4), .bin .leq (.t 3) (.c (.d (.v (.int .i64 6)))), none⟩])
 (.cond (.t 4) (.skip) (.exit 0)))
 (.seq (.block 1 (.reg [⟨(some 7), .mv (.t 1), none⟩,
 ⟨(some 8), .mv (.t 2), none⟩,
 ⟨(some 9), .bd [(.d (.v (.int .i64 0))), (.d (.v (.string ⟨#[]⟩))), (.d (.v (.string ⟨#[]⟩))), (.d (.v (.int .i64 0))), (.d (.v (.int .i64 0))), (.d (.v (.int .i64 0))), .esl, .esl, (.d (.v (.int .i64 0))), (.d (.v (.int .i64 0)))] [(0, 1, (.t 8))], none⟩,
 ⟨(some 10), .bs .im 49 10 [(.t 9)], none⟩,
 ⟨(some 11), .app .hp 49 10 128 (.t 7) (.t 10), none⟩,
 ⟨(some 1), .mv (.t 11), none⟩]))
 (.reg [⟨(some 5), .mv (.t 2), none⟩,
 ⟨(some 6), .bin .add (.t 5) (.c (.d (.v (.int .i64 1)))), none⟩,
 ⟨(some 2), .mv (.t 6), none⟩]))

def c40h : AC :=
 .seq (.reg [⟨(some 0), .mv (.c .esl), none⟩])
 (.seq (.reg [⟨(some 1), .mv (.c .esl), none⟩])
 (.seq (.seq (.reg [⟨(some 2), .mv (.c (.d (.v (.int .i64 0)))), none⟩])
 (.block 0 (.loop c40hl0)))
 (.seq (.reg [⟨(some 12), .mv (.t 1), none⟩,
 ⟨(some 0), .mv (.t 12), none⟩])
 (.ret))))
def r40h : List RC := [.t 0]

theorem cc40h : Try.f40.body.bind (comp Try.prog (hhh 40)) = some c40h := by kernel_rfl
theorem rr40h : resC Try.prog Try.f40 = some r40h := by kernel_rfl
end Go.Proofs.Ythifjndenhjobaa
