/- The functions' code in the small language. Printed by program (wip/tools). -/
import Derived.Test.YtmgmoamcbnkbfaaGreatDoorYTop
import Derived.Test.YtmgmoamcbnkbfaaGreatDoorProg
import Derived.KernelRfl
set_option linter.unusedVariables false
set_option linter.unusedSimpArgs false
set_option linter.unusedSectionVars false
namespace Go.Proofs.YtmgmoamcbnkbfaaGreatDoor
open Go.RowKit
def hh : Nat → Nat → Option Md := fun fn slot => if (fn, slot) ∈ [(3, 38), (3, 47)] then some .im else if (fn, slot) ∈ [(6, 4)] then some .gr else none

/-- spinet/spinettop.TopLines -/
def c3 : AC :=
 .seq (.reg [⟨(some 6), .mv (.c (.d (.v (.bool false)))), none⟩])
 (.seq (.seq (.reg [⟨(some 18), .mv (.t 0), none⟩,
 ⟨(some 19), .len false (.t 18), none⟩,
 ⟨(some 20), .bin .gtr (.t 19) (.c (.d (.v (.int .i64 2000)))), none⟩,
 ⟨(some 21), .mv (.t 20), none⟩,
 ⟨(some 22), .mv (.t 1), (some (21, false))⟩,
 ⟨(some 23), .len true (.t 22), (some (21, false))⟩,
 ⟨(some 24), .bin .gtr (.t 23) (.c (.d (.v (.int .i64 4000)))), (some (21, false))⟩,
 ⟨(some 25), .pick (.t 21) (.c (.d (.v (.bool true)))) (.t 24), none⟩,
 ⟨(some 26), .mv (.t 25), none⟩,
 ⟨(some 27), .mv (.t 2), (some (26, false))⟩,
 ⟨(some 28), .bin .lss (.t 27) (.c (.d (.v (.int .i64 0)))), (some (26, false))⟩,
 ⟨(some 29), .pick (.t 26) (.c (.d (.v (.bool true)))) (.t 28), none⟩,
 ⟨(some 30), .mv (.t 29), none⟩,
 ⟨(some 31), .mv (.t 2), (some (30, false))⟩,
 ⟨(some 32), .bin .gtr (.t 31) (.c (.d (.v (.int .i64 20000)))), (some (30, false))⟩,
 ⟨(some 33), .pick (.t 30) (.c (.d (.v (.bool true)))) (.t 32), none⟩])
 (.cond (.t 33) (.seq (.reg [⟨(some 34), .call 4 [], none⟩,
 ⟨(some 6), .mv (.t 34), none⟩])
 (.ret)) (.skip)))
 (.seq (.reg [⟨(some 36), .bs .im 44 1 [], none⟩,
 ⟨(some 37), .mv (.t 0), none⟩,
 ⟨(some 38), .app .im 44 1 4 (.t 36) (.t 37), none⟩,
 ⟨(some 39), .call 6 [(.t 38)], none⟩,
 ⟨(some 40), .call 5 [(.t 39)], none⟩,
 ⟨(some 35), .mv (.t 40), none⟩,
 ⟨(some 41), .ext (.t 35) 0, none⟩,
 ⟨(some 42), .ext (.t 35) 1, none⟩,
 ⟨(some 43), .ext (.t 35) 2, none⟩,
 ⟨(some 7), .mv (.t 41), none⟩,
 ⟨(some 8), .mv (.t 42), none⟩,
 ⟨(some 9), .mv (.t 43), none⟩])
 (.seq (.reg [⟨(some 45), .bs .im 44 1 [], none⟩,
 ⟨(some 46), .mv (.t 0), none⟩,
 ⟨(some 47), .app .im 44 1 4 (.t 45) (.t 46), none⟩,
 ⟨(some 48), .mv (.t 1), none⟩,
 ⟨(some 49), .call 7 [(.t 47), (.c (.d (.v (.int .i64 0)))), (.t 48)], none⟩,
 ⟨(some 44), .mv (.t 49), none⟩,
 ⟨(some 50), .ext (.t 44) 0, none⟩,
 ⟨(some 51), .ext (.t 44) 1, none⟩,
 ⟨(some 10), .mv (.t 50), none⟩,
 ⟨(some 11), .mv (.t 51), none⟩])
 (.seq (.reg [⟨(some 53), .mv (.t 7), none⟩,
 ⟨(some 54), .mv (.t 1), none⟩,
 ⟨(some 55), .call 7 [(.t 53), (.c (.d (.v (.int .i64 0)))), (.t 54)], none⟩,
 ⟨(some 52), .mv (.t 55), none⟩,
 ⟨(some 56), .ext (.t 52) 0, none⟩,
 ⟨(some 57), .ext (.t 52) 1, none⟩,
 ⟨(some 12), .mv (.t 56), none⟩,
 ⟨(some 13), .mv (.t 57), none⟩])
 (.seq (.seq (.reg [⟨(some 58), .mv (.t 9), none⟩,
 ⟨(some 59), .bin .neq (.t 58) (.c (.d (.v (.int .i64 0)))), none⟩,
 ⟨(some 60), .mv (.t 59), none⟩,
 ⟨(some 61), .mv (.t 11), (some (60, false))⟩,
 ⟨(some 62), .bin .neq (.t 61) (.c (.d (.v (.int .i64 0)))), (some (60, false))⟩,
 ⟨(some 63), .pick (.t 60) (.c (.d (.v (.bool true)))) (.t 62), none⟩,
 ⟨(some 64), .mv (.t 63), none⟩,
 ⟨(some 65), .mv (.t 13), (some (64, false))⟩,
 ⟨(some 66), .bin .neq (.t 65) (.c (.d (.v (.int .i64 0)))), (some (64, false))⟩,
 ⟨(some 67), .pick (.t 64) (.c (.d (.v (.bool true)))) (.t 66), none⟩,
 ⟨(some 68), .mv (.t 67), none⟩,
 ⟨(some 69), .mv (.t 7), (some (68, false))⟩,
 ⟨(some 70), .mv (.t 0), (some (68, false))⟩,
 ⟨(some 71), .call 8 [(.t 69), (.t 70)], (some (68, false))⟩,
 ⟨(some 72), .un .not (.t 71), (some (68, false))⟩,
 ⟨(some 73), .pick (.t 68) (.c (.d (.v (.bool true)))) (.t 72), none⟩])
 (.cond (.t 73) (.seq (.reg [⟨(some 6), .mv (.c (.d (.v (.bool false)))), none⟩])
 (.ret)) (.skip)))
 (.seq (.reg [⟨(some 75), .mv (.t 10), none⟩,
 ⟨(some 76), .mv (.t 2), none⟩,
 ⟨(some 77), .call 9 [(.t 75), (.t 76)], none⟩,
 ⟨(some 74), .mv (.t 77), none⟩,
 ⟨(some 78), .ext (.t 74) 0, none⟩,
 ⟨(some 79), .ext (.t 74) 1, none⟩,
 ⟨(some 14), .al [(.d (.v (.int .i64 0))), (.d (.v (.int .i64 0))), (.d (.v (.string ⟨#[]⟩))), (.d (.v (.int .i64 0))), (.d (.v (.int .i64 0)))], none⟩,
 ⟨none, .st (.t 14) (.t 78) 5, none⟩,
 ⟨(some 15), .mv (.t 79), none⟩])
 (.seq (.reg [⟨(some 81), .mv (.t 12), none⟩,
 ⟨(some 82), .mv (.t 2), none⟩,
 ⟨(some 83), .call 9 [(.t 81), (.t 82)], none⟩,
 ⟨(some 80), .mv (.t 83), none⟩,
 ⟨(some 84), .ext (.t 80) 0, none⟩,
 ⟨(some 85), .ext (.t 80) 1, none⟩,
 ⟨(some 16), .al [(.d (.v (.int .i64 0))), (.d (.v (.int .i64 0))), (.d (.v (.string ⟨#[]⟩))), (.d (.v (.int .i64 0))), (.d (.v (.int .i64 0)))], none⟩,
 ⟨none, .st (.t 16) (.t 84) 5, none⟩,
 ⟨(some 17), .mv (.t 85), none⟩])
 (.seq (.reg [⟨(some 86), .mv (.t 15), none⟩,
 ⟨(some 87), .bin .eql (.t 86) (.c (.d (.v (.int .i64 0)))), none⟩,
 ⟨(some 88), .mv (.t 87), none⟩,
 ⟨(some 89), .mv (.t 17), (some (88, true))⟩,
 ⟨(some 90), .bin .eql (.t 89) (.c (.d (.v (.int .i64 0)))), (some (88, true))⟩,
 ⟨(some 91), .pick (.t 88) (.t 90) (.c (.d (.v (.bool false)))), none⟩,
 ⟨(some 92), .mv (.t 91), none⟩,
 ⟨(some 93), .ld (.t 14) 5 true, (some (92, true))⟩,
 ⟨(some 94), .ld (.t 16) 5 true, (some (92, true))⟩,
 ⟨(some 95), .call 10 [(.t 93), (.t 94)], (some (92, true))⟩,
 ⟨(some 96), .pick (.t 92) (.t 95) (.c (.d (.v (.bool false)))), none⟩,
 ⟨(some 97), .mv (.t 96), none⟩,
 ⟨(some 98), .call 4 [], (some (97, true))⟩,
 ⟨(some 99), .pick (.t 97) (.t 98) (.c (.d (.v (.bool false)))), none⟩,
 ⟨(some 6), .mv (.t 99), none⟩])
 (.ret)))))))))
def r3 : List RC := [.t 6]

/-- spinet/spinettop.wakesCpu -/
def c4 : AC :=
 .seq (.reg [⟨(some 0), .mv (.c (.d (.v (.bool false)))), none⟩])
 (.seq (.reg [⟨(some 6), .call 11 [(.c (.d (.v (.int .i64 67))))], none⟩,
 ⟨(some 7), .call 7 [(.t 6), (.c (.d (.v (.int .i64 0)))), (.c (.d (.v (.string ⟨#[]⟩))))], none⟩,
 ⟨(some 5), .mv (.t 7), none⟩,
 ⟨(some 8), .ext (.t 5) 0, none⟩,
 ⟨(some 9), .ext (.t 5) 1, none⟩,
 ⟨(some 1), .mv (.t 8), none⟩,
 ⟨(some 2), .mv (.t 9), none⟩])
 (.seq (.reg [⟨(some 11), .mv (.t 1), none⟩,
 ⟨(some 12), .call 9 [(.t 11), (.c (.d (.v (.int .i64 100))))], none⟩,
 ⟨(some 10), .mv (.t 12), none⟩,
 ⟨(some 13), .ext (.t 10) 0, none⟩,
 ⟨(some 14), .ext (.t 10) 1, none⟩,
 ⟨(some 3), .al [(.d (.v (.int .i64 0))), (.d (.v (.int .i64 0))), (.d (.v (.string ⟨#[]⟩))), (.d (.v (.int .i64 0))), (.d (.v (.int .i64 0)))], none⟩,
 ⟨none, .st (.t 3) (.t 13) 5, none⟩,
 ⟨(some 4), .mv (.t 14), none⟩])
 (.seq (.reg [⟨(some 15), .mv (.t 2), none⟩,
 ⟨(some 16), .bin .eql (.t 15) (.c (.d (.v (.int .i64 0)))), none⟩,
 ⟨(some 17), .mv (.t 16), none⟩,
 ⟨(some 18), .mv (.t 4), (some (17, true))⟩,
 ⟨(some 19), .bin .eql (.t 18) (.c (.d (.v (.int .i64 0)))), (some (17, true))⟩,
 ⟨(some 20), .pick (.t 17) (.t 19) (.c (.d (.v (.bool false)))), none⟩,
 ⟨(some 21), .mv (.t 20), none⟩,
 ⟨(some 22), .fa (.t 3) 0, (some (21, true))⟩,
 ⟨(some 23), .ld (.t 22) 1 false, (some (21, true))⟩,
 ⟨(some 24), .bin .eql (.t 23) (.c (.d (.v (.int .i64 1)))), (some (21, true))⟩,
 ⟨(some 25), .pick (.t 21) (.t 24) (.c (.d (.v (.bool false)))), none⟩,
 ⟨(some 26), .mv (.t 25), none⟩,
 ⟨(some 27), .fa (.t 3) 2, (some (26, true))⟩,
 ⟨(some 28), .ld (.t 27) 1 false, (some (26, true))⟩,
 ⟨(some 29), .bin .eql (.t 28) (.c (.d (.v (.string ⟨#[67]⟩)))), (some (26, true))⟩,
 ⟨(some 30), .pick (.t 26) (.t 29) (.c (.d (.v (.bool false)))), none⟩,
 ⟨(some 0), .mv (.t 30), none⟩])
 (.ret))))
def r4 : List RC := [.t 0]

/-- spinet/cpu.New -/
def c7 : AC :=
 .seq (.reg [⟨(some 6), .mv (.c .nilp), none⟩,
 ⟨(some 7), .mv (.c (.d (.v (.int .i64 0)))), none⟩])
 (.seq (.reg [⟨(some 11), .mv (.t 0), none⟩,
 ⟨(some 12), .call 21 [(.t 11)], none⟩,
 ⟨(some 10), .mv (.t 12), none⟩,
 ⟨(some 13), .ext (.t 10) 0, none⟩,
 ⟨(some 14), .ext (.t 10) 1, none⟩,
 ⟨(some 8), .mv (.t 13), none⟩,
 ⟨(some 9), .mv (.t 14), none⟩])
 (.seq (.seq (.reg [⟨(some 15), .mv (.t 9), none⟩,
 ⟨(some 16), .bin .neq (.t 15) (.c (.d (.v (.int .i64 0)))), none⟩])
 (.cond (.t 16) (.seq (.reg [⟨(some 17), .mv (.t 9), none⟩,
 ⟨(some 6), .mv (.c .nilp), none⟩,
 ⟨(some 7), .mv (.t 17), none⟩])
 (.ret)) (.skip)))
 (.seq (.seq (.reg [⟨(some 18), .mv (.t 2), none⟩,
 ⟨(some 19), .len true (.t 18), none⟩,
 ⟨(some 20), .bin .gtr (.t 19) (.c (.d (.v (.int .i64 4096)))), none⟩])
 (.cond (.t 20) (.seq (.reg [⟨(some 6), .mv (.c .nilp), none⟩,
 ⟨(some 7), .mv (.c (.d (.v (.int .i64 2)))), none⟩])
 (.ret)) (.skip)))
 (.seq (.seq (.reg [⟨(some 21), .mv (.t 1), none⟩,
 ⟨(some 22), .bin .lss (.t 21) (.c (.d (.v (.int .i64 0)))), none⟩,
 ⟨(some 23), .mv (.t 22), none⟩,
 ⟨(some 24), .mv (.t 1), (some (23, false))⟩,
 ⟨(some 25), .mv (.t 0), (some (23, false))⟩,
 ⟨(some 26), .len false (.t 25), (some (23, false))⟩,
 ⟨(some 27), .bin .gtr (.t 24) (.t 26), (some (23, false))⟩,
 ⟨(some 28), .pick (.t 23) (.c (.d (.v (.bool true)))) (.t 27), none⟩])
 (.cond (.t 28) (.seq (.reg [⟨(some 6), .mv (.c .nilp), none⟩,
 ⟨(some 7), .mv (.c (.d (.v (.int .i64 1)))), none⟩])
 (.ret)) (.skip)))
 (.seq (.reg [⟨(some 29), .mv (.t 1), none⟩,
 ⟨(some 30), .mv (.t 8), none⟩,
 ⟨(some 31), .mv (.t 2), none⟩,
 ⟨(some 32), .bd [(.d (.v (.int .u32 0))), (.d (.v (.int .u32 0))), (.d (.v (.int .u32 0))), (.d (.v (.int .u32 0))), (.d (.v (.int .u32 0))), (.d (.v (.int .u32 0))), (.d (.v (.int .u32 0))), (.d (.v (.int .u32 0))), (.d (.v (.int .u32 0))), (.d (.v (.int .u32 0))), (.d (.v (.int .u32 0))), (.d (.v (.int .u32 0))), (.d (.v (.int .u32 0))), (.d (.v (.int .u32 0))), (.d (.v (.int .u32 0))), (.d (.v (.int .u32 0))), (.d (.v (.int .u32 0))), (.d (.v (.bool false))), (.d (.v (.bool false))), (.d (.v (.bool false))), (.d (.v (.bool false))), (.d (.v (.int .i64 0))), .nilp, (.d (.v (.string ⟨#[]⟩))), (.d (.v (.int .i64 0))), .esl, (.d (.v (.int .i64 0))), (.d (.v (.int .i64 0)))] [(21, 1, (.t 29)), (22, 1, (.t 30)), (23, 1, (.t 31))], none⟩,
 ⟨(some 33), .bx (.t 32), none⟩,
 ⟨(some 6), .mv (.t 33), none⟩,
 ⟨(some 7), .mv (.c (.d (.v (.int .i64 0)))), none⟩])
 (.ret))))))
def r7 : List RC := [.t 6, .t 7]

def c8l0 : AC :=
 .seq (.seq (.reg [⟨(some 11), .mv (.t 5), none⟩,
 ⟨(some 12), .mv (.t 0), none⟩,
 ⟨(some 13), .len false (.t 12), none⟩,
 ⟨(some 14), .bin .lss (.t 11) (.t 13), none⟩])
 (.cond (.t 14) (.skip) (.exit 0)))
 (.seq (.block 1 (.seq (.dreg [[], [], [0, 1], [2], [], [], [4, 5], [6], [3, 7]] [⟨(some 17), .mv (.t 0), none⟩,
 ⟨(some 18), .mv (.t 5), none⟩,
 ⟨(some 19), .ia (.t 17) (.t 18) 1, none⟩,
 ⟨(some 20), .ld (.t 19) 1 false, none⟩,
 ⟨(some 21), .mv (.t 1), none⟩,
 ⟨(some 22), .mv (.t 5), none⟩,
 ⟨(some 23), .ia (.t 21) (.t 22) 1, none⟩,
 ⟨(some 24), .ld (.t 23) 1 false, none⟩,
 ⟨(some 25), .bin .neq (.t 20) (.t 24), none⟩])
 (.cond (.t 25) (.seq (.reg [⟨(some 4), .mv (.c (.d (.v (.bool false)))), none⟩])
 (.ret)) (.skip))))
 (.reg [⟨(some 15), .mv (.t 5), none⟩,
 ⟨(some 16), .bin .add (.t 15) (.c (.d (.v (.int .i64 1)))), none⟩,
 ⟨(some 5), .mv (.t 16), none⟩]))

/-- spinet/spinetkeep.Words -/
def c8 : AC :=
 .seq (.reg [⟨(some 4), .mv (.c (.d (.v (.bool false)))), none⟩])
 (.seq (.seq (.reg [⟨(some 6), .mv (.t 0), none⟩,
 ⟨(some 7), .len false (.t 6), none⟩,
 ⟨(some 8), .mv (.t 1), none⟩,
 ⟨(some 9), .len false (.t 8), none⟩,
 ⟨(some 10), .bin .neq (.t 7) (.t 9), none⟩])
 (.cond (.t 10) (.seq (.reg [⟨(some 4), .mv (.c (.d (.v (.bool false)))), none⟩])
 (.ret)) (.skip)))
 (.seq (.seq (.reg [⟨(some 5), .mv (.c (.d (.v (.int .i64 0)))), none⟩])
 (.block 0 (.loop c8l0)))
 (.seq (.reg [⟨(some 4), .mv (.c (.d (.v (.bool true)))), none⟩])
 (.ret))))
def r8 : List RC := [.t 4]

def c9l0 : AC :=
 .seq (.seq (.reg [⟨(some 19), .mv (.t 0), none⟩,
 ⟨(some 20), .nc (.t 19), none⟩,
 ⟨(some 21), .fa (.t 20) 26, none⟩,
 ⟨(some 22), .ld (.t 21) 1 false, none⟩,
 ⟨(some 23), .bin .eql (.t 22) (.c (.d (.v (.int .i64 0)))), none⟩,
 ⟨(some 24), .mv (.t 23), none⟩,
 ⟨(some 25), .mv (.t 6), (some (24, true))⟩,
 ⟨(some 26), .mv (.t 1), (some (24, true))⟩,
 ⟨(some 27), .bin .lss (.t 25) (.t 26), (some (24, true))⟩,
 ⟨(some 28), .pick (.t 24) (.t 27) (.c (.d (.v (.bool false)))), none⟩])
 (.cond (.t 28) (.skip) (.exit 0)))
 (.seq (.block 1 (.reg [⟨(some 31), .mv (.t 0), none⟩,
 ⟨(some 32), .call 22 [(.t 31)], none⟩]))
 (.reg [⟨(some 29), .mv (.t 6), none⟩,
 ⟨(some 30), .bin .add (.t 29) (.c (.d (.v (.int .i64 1)))), none⟩,
 ⟨(some 6), .mv (.t 30), none⟩]))

/-- (*spinet/cpu.Machine).Run -/
def c9 : AC :=
 .seq (.reg [⟨(some 4), .al [(.d (.v (.int .i64 0))), (.d (.v (.int .i64 0))), (.d (.v (.string ⟨#[]⟩))), (.d (.v (.int .i64 0))), (.d (.v (.int .i64 0)))], none⟩,
 ⟨(some 5), .mv (.c (.d (.v (.int .i64 0)))), none⟩])
 (.seq (.seq (.reg [⟨(some 8), .mv (.t 0), none⟩,
 ⟨(some 9), .eqp false (.t 8) (.c .nilp), none⟩,
 ⟨(some 10), .mv (.t 9), none⟩,
 ⟨(some 11), .mv (.t 1), (some (10, false))⟩,
 ⟨(some 12), .bin .lss (.t 11) (.c (.d (.v (.int .i64 0)))), (some (10, false))⟩,
 ⟨(some 13), .pick (.t 10) (.c (.d (.v (.bool true)))) (.t 12), none⟩,
 ⟨(some 14), .mv (.t 13), none⟩,
 ⟨(some 15), .mv (.t 1), (some (14, false))⟩,
 ⟨(some 16), .bin .gtr (.t 15) (.c (.d (.v (.int .i64 4194304)))), (some (14, false))⟩,
 ⟨(some 17), .pick (.t 14) (.c (.d (.v (.bool true)))) (.t 16), none⟩])
 (.cond (.t 17) (.seq (.reg [⟨(some 18), .bd [(.d (.v (.int .i64 0))), (.d (.v (.int .i64 0))), (.d (.v (.string ⟨#[]⟩))), (.d (.v (.int .i64 0))), (.d (.v (.int .i64 0)))] [], none⟩,
 ⟨none, .st (.t 4) (.t 18) 5, none⟩,
 ⟨(some 5), .mv (.c (.d (.v (.int .i64 1)))), none⟩])
 (.ret)) (.skip)))
 (.seq (.reg [⟨(some 6), .mv (.c (.d (.v (.int .i64 0)))), none⟩])
 (.seq (.block 0 (.loop c9l0))
 (.seq (.dreg [[], [0], [1], [2], [], [4], [5], [6], [], [8], [9], [10], [11], [], [], [14], [15], [16], [3, 7, 12, 13, 17], [], [19, 18, 0, 1, 2, 3, 4, 5, 6, 7, 8, 9, 10, 11, 12, 13, 14, 15, 16, 17, 18, 19]] [⟨(some 33), .mv (.t 0), none⟩,
 ⟨(some 34), .nc (.t 33), none⟩,
 ⟨(some 35), .fa (.t 34) 26, none⟩,
 ⟨(some 36), .ld (.t 35) 1 false, none⟩,
 ⟨(some 37), .mv (.t 0), none⟩,
 ⟨(some 38), .nc (.t 37), none⟩,
 ⟨(some 39), .fa (.t 38) 27, none⟩,
 ⟨(some 40), .ld (.t 39) 1 false, none⟩,
 ⟨(some 41), .mv (.t 0), none⟩,
 ⟨(some 42), .nc (.t 41), none⟩,
 ⟨(some 43), .fa (.t 42) 25, none⟩,
 ⟨(some 44), .ld (.t 43) 1 false, none⟩,
 ⟨(some 45), .b2s (.t 44), none⟩,
 ⟨(some 46), .mv (.t 6), none⟩,
 ⟨(some 47), .mv (.t 0), none⟩,
 ⟨(some 48), .nc (.t 47), none⟩,
 ⟨(some 49), .fa (.t 48) 24, none⟩,
 ⟨(some 50), .ld (.t 49) 1 false, none⟩,
 ⟨(some 51), .bd [(.d (.v (.int .i64 0))), (.d (.v (.int .i64 0))), (.d (.v (.string ⟨#[]⟩))), (.d (.v (.int .i64 0))), (.d (.v (.int .i64 0)))] [(0, 1, (.t 36)), (1, 1, (.t 40)), (2, 1, (.t 45)), (3, 1, (.t 46)), (4, 1, (.t 50))], none⟩,
 ⟨(some 7), .al [(.d (.v (.int .i64 0))), (.d (.v (.int .i64 0))), (.d (.v (.string ⟨#[]⟩))), (.d (.v (.int .i64 0))), (.d (.v (.int .i64 0)))], none⟩,
 ⟨none, .st (.t 7) (.t 51) 5, none⟩])
 (.seq (.seq (.reg [⟨(some 52), .mv (.t 0), none⟩,
 ⟨(some 53), .nc (.t 52), none⟩,
 ⟨(some 54), .fa (.t 53) 26, none⟩,
 ⟨(some 55), .ld (.t 54) 1 false, none⟩,
 ⟨(some 56), .bin .eql (.t 55) (.c (.d (.v (.int .i64 0)))), none⟩])
 (.cond (.t 56) (.reg [⟨(some 57), .fa (.t 7) 0, none⟩,
 ⟨none, .st (.t 57) (.c (.d (.v (.int .i64 3)))) 1, none⟩]) (.skip)))
 (.seq (.reg [⟨(some 58), .ld (.t 7) 5 true, none⟩,
 ⟨none, .st (.t 4) (.t 58) 5, none⟩,
 ⟨(some 5), .mv (.c (.d (.v (.int .i64 0)))), none⟩])
 (.ret)))))))
def r9 : List RC := [.c 4 5 true, .t 5]

/-- spinet/spinetref05.Same -/
def c10 : AC :=
 .seq (.reg [⟨(some 2), .bx (.t 0), none⟩,
 ⟨(some 3), .bx (.t 1), none⟩,
 ⟨(some 4), .mv (.c (.d (.v (.bool false)))), none⟩])
 (.seq (.reg [⟨(some 5), .fa (.t 2) 0, none⟩,
 ⟨(some 6), .ld (.t 5) 1 false, none⟩,
 ⟨(some 7), .fa (.t 3) 0, none⟩,
 ⟨(some 8), .ld (.t 7) 1 false, none⟩,
 ⟨(some 9), .bin .eql (.t 6) (.t 8), none⟩,
 ⟨(some 10), .mv (.t 9), none⟩,
 ⟨(some 11), .fa (.t 2) 1, (some (10, true))⟩,
 ⟨(some 12), .ld (.t 11) 1 false, (some (10, true))⟩,
 ⟨(some 13), .fa (.t 3) 1, (some (10, true))⟩,
 ⟨(some 14), .ld (.t 13) 1 false, (some (10, true))⟩,
 ⟨(some 15), .bin .eql (.t 12) (.t 14), (some (10, true))⟩,
 ⟨(some 16), .pick (.t 10) (.t 15) (.c (.d (.v (.bool false)))), none⟩,
 ⟨(some 17), .mv (.t 16), none⟩,
 ⟨(some 18), .fa (.t 2) 2, (some (17, true))⟩,
 ⟨(some 19), .ld (.t 18) 1 false, (some (17, true))⟩,
 ⟨(some 20), .fa (.t 3) 2, (some (17, true))⟩,
 ⟨(some 21), .ld (.t 20) 1 false, (some (17, true))⟩,
 ⟨(some 22), .bin .eql (.t 19) (.t 21), (some (17, true))⟩,
 ⟨(some 23), .pick (.t 17) (.t 22) (.c (.d (.v (.bool false)))), none⟩,
 ⟨(some 24), .mv (.t 23), none⟩,
 ⟨(some 25), .fa (.t 2) 3, (some (24, true))⟩,
 ⟨(some 26), .ld (.t 25) 1 false, (some (24, true))⟩,
 ⟨(some 27), .fa (.t 3) 3, (some (24, true))⟩,
 ⟨(some 28), .ld (.t 27) 1 false, (some (24, true))⟩,
 ⟨(some 29), .bin .eql (.t 26) (.t 28), (some (24, true))⟩,
 ⟨(some 30), .pick (.t 24) (.t 29) (.c (.d (.v (.bool false)))), none⟩,
 ⟨(some 31), .mv (.t 30), none⟩,
 ⟨(some 32), .fa (.t 2) 4, (some (31, true))⟩,
 ⟨(some 33), .ld (.t 32) 1 false, (some (31, true))⟩,
 ⟨(some 34), .fa (.t 3) 4, (some (31, true))⟩,
 ⟨(some 35), .ld (.t 34) 1 false, (some (31, true))⟩,
 ⟨(some 36), .bin .eql (.t 33) (.t 35), (some (31, true))⟩,
 ⟨(some 37), .pick (.t 31) (.t 36) (.c (.d (.v (.bool false)))), none⟩,
 ⟨(some 4), .mv (.t 37), none⟩])
 (.ret))
def r10 : List RC := [.t 4]

def c11l0 : AC :=
 .seq (.seq (.reg [⟨(some 15), .mv (.t 5), none⟩,
 ⟨(some 16), .mv (.t 3), none⟩,
 ⟨(some 17), .len false (.t 16), none⟩,
 ⟨(some 18), .bin .lss (.t 15) (.t 17), none⟩])
 (.cond (.t 18) (.skip) (.exit 0)))
 (.seq (.block 1 (.seq (.reg [⟨(some 22), .mv (.t 3), none⟩,
 ⟨(some 23), .mv (.t 5), none⟩,
 ⟨(some 24), .ia (.t 22) (.t 23) 8, none⟩,
 ⟨(some 25), .ld (.t 24) 8 true, none⟩,
 ⟨(some 26), .call 23 [(.t 25)], none⟩,
 ⟨(some 21), .mv (.t 26), none⟩,
 ⟨(some 27), .ext (.t 21) 0, none⟩,
 ⟨(some 28), .ext (.t 21) 1, none⟩,
 ⟨(some 6), .mv (.t 27), none⟩,
 ⟨(some 7), .mv (.t 28), none⟩])
 (.reg [⟨(some 29), .mv (.t 4), none⟩,
 ⟨(some 30), .mv (.t 6), none⟩,
 ⟨(some 31), .bs .im 44 1 [(.t 30)], none⟩,
 ⟨(some 32), .app .gr 44 1 4 (.t 29) (.t 31), none⟩,
 ⟨(some 4), .mv (.t 32), none⟩])))
 (.reg [⟨(some 19), .mv (.t 5), none⟩,
 ⟨(some 20), .bin .add (.t 19) (.c (.d (.v (.int .i64 1)))), none⟩,
 ⟨(some 5), .mv (.t 20), none⟩]))

/-- spinet/spinetlaw05.Halt -/
def c11 : AC :=
 .seq (.reg [⟨(some 2), .mv (.c .esl), none⟩])
 (.seq (.reg [⟨(some 8), .bd [(.d (.v (.int .i64 0))), (.d (.v (.bool false))), (.d (.v (.bool false))), (.d (.v (.int .i64 0))), (.d (.v (.int .i64 0))), (.d (.v (.int .i64 0))), (.d (.v (.int .i64 0))), (.d (.v (.int .i64 0)))] [(0, 1, (.c (.d (.v (.int .i64 1))))), (1, 1, (.c (.d (.v (.bool true))))), (3, 1, (.c (.d (.v (.int .i64 1))))), (7, 1, (.c (.d (.v (.int .i64 65535)))))], none⟩,
 ⟨(some 9), .bd [(.d (.v (.int .i64 0))), (.d (.v (.bool false))), (.d (.v (.bool false))), (.d (.v (.int .i64 0))), (.d (.v (.int .i64 0))), (.d (.v (.int .i64 0))), (.d (.v (.int .i64 0))), (.d (.v (.int .i64 0)))] [(0, 1, (.c (.d (.v (.int .i64 1))))), (6, 1, (.c (.d (.v (.int .i64 8))))), (3, 1, (.c (.d (.v (.int .i64 1))))), (4, 1, (.c (.d (.v (.int .i64 1))))), (7, 1, (.c (.d (.v (.int .i64 65472)))))], none⟩,
 ⟨(some 10), .mv (.t 0), none⟩,
 ⟨(some 11), .bd [(.d (.v (.int .i64 0))), (.d (.v (.bool false))), (.d (.v (.bool false))), (.d (.v (.int .i64 0))), (.d (.v (.int .i64 0))), (.d (.v (.int .i64 0))), (.d (.v (.int .i64 0))), (.d (.v (.int .i64 0)))] [(0, 1, (.c (.d (.v (.int .i64 1))))), (3, 1, (.c (.d (.v (.int .i64 0))))), (7, 1, (.t 10))], none⟩,
 ⟨(some 12), .bd [(.d (.v (.int .i64 0))), (.d (.v (.bool false))), (.d (.v (.bool false))), (.d (.v (.int .i64 0))), (.d (.v (.int .i64 0))), (.d (.v (.int .i64 0))), (.d (.v (.int .i64 0))), (.d (.v (.int .i64 0)))] [(0, 1, (.c (.d (.v (.int .i64 2))))), (1, 1, (.c (.d (.v (.bool true))))), (3, 1, (.c (.d (.v (.int .i64 0))))), (4, 1, (.c (.d (.v (.int .i64 1))))), (7, 1, (.c (.d (.v (.int .i64 8)))))], none⟩,
 ⟨(some 13), .bd [(.d (.v (.int .i64 0))), (.d (.v (.bool false))), (.d (.v (.bool false))), (.d (.v (.int .i64 0))), (.d (.v (.int .i64 0))), (.d (.v (.int .i64 0))), (.d (.v (.int .i64 0))), (.d (.v (.int .i64 0)))] [(0, 1, (.c (.d (.v (.int .i64 2))))), (1, 1, (.c (.d (.v (.bool true))))), (3, 1, (.c (.d (.v (.int .i64 0))))), (4, 1, (.c (.d (.v (.int .i64 1)))))], none⟩,
 ⟨(some 14), .bs .im 69 8 [(.t 8), (.t 9), (.t 11), (.t 12), (.t 13)], none⟩,
 ⟨(some 3), .mv (.t 14), none⟩])
 (.seq (.reg [⟨(some 4), .mv (.c .esl), none⟩])
 (.seq (.seq (.reg [⟨(some 5), .mv (.c (.d (.v (.int .i64 0)))), none⟩])
 (.block 0 (.loop c11l0)))
 (.seq (.reg [⟨(some 33), .mv (.t 4), none⟩,
 ⟨(some 2), .mv (.t 33), none⟩])
 (.ret)))))
def r11 : List RC := [.t 2]

/-- spinet/memory.New -/
def c21 : AC :=
 .seq (.reg [⟨(some 2), .mv (.c .nilp), none⟩,
 ⟨(some 3), .mv (.c (.d (.v (.int .i64 0)))), none⟩])
 (.seq (.seq (.reg [⟨(some 5), .mv (.t 0), none⟩,
 ⟨(some 6), .len false (.t 5), none⟩,
 ⟨(some 7), .bin .gtr (.t 6) (.c (.d (.v (.int .i64 65536)))), none⟩])
 (.cond (.t 7) (.seq (.reg [⟨(some 2), .mv (.c .nilp), none⟩,
 ⟨(some 3), .mv (.c (.d (.v (.int .i64 3)))), none⟩])
 (.ret)) (.skip)))
 (.seq (.reg [⟨(some 8), .mv (.t 0), none⟩,
 ⟨(some 9), .len false (.t 8), none⟩,
 ⟨(some 10), .mks .hp 44 1 4 [(.d (.v (.int .u32 0)))] (.t 9) (.t 9), none⟩,
 ⟨(some 11), .bd [.esl] [(0, 1, (.t 10))], none⟩,
 ⟨(some 12), .bx (.t 11), none⟩,
 ⟨(some 4), .mv (.t 12), none⟩])
 (.seq (.reg [⟨(some 13), .mv (.t 4), none⟩,
 ⟨(some 14), .nc (.t 13), none⟩,
 ⟨(some 15), .fa (.t 14) 0, none⟩,
 ⟨(some 16), .ld (.t 15) 1 false, none⟩,
 ⟨(some 17), .mv (.t 0), none⟩,
 ⟨(some 18), .cpy 1 (.t 16) (.t 17), none⟩])
 (.seq (.reg [⟨(some 19), .mv (.t 4), none⟩,
 ⟨(some 2), .mv (.t 19), none⟩,
 ⟨(some 3), .mv (.c (.d (.v (.int .i64 0)))), none⟩])
 (.ret)))))
def r21 : List RC := [.t 2, .t 3]

/-- (*spinet/cpu.Machine).step -/
def c22 : AC :=
 .seq (.reg [⟨(some 2), .mv (.c (.d (.v (.int .u32 0)))), none⟩,
 ⟨(some 3), .mv (.c (.d (.v (.bool false)))), none⟩])
 (.seq (.seq (.dreg [[], [0], [1], [2], [], [4], [5], [6], [7], [3, 8]] [⟨(some 6), .mv (.t 0), none⟩,
 ⟨(some 7), .nc (.t 6), none⟩,
 ⟨(some 8), .fa (.t 7) 21, none⟩,
 ⟨(some 9), .ld (.t 8) 1 false, none⟩,
 ⟨(some 10), .mv (.t 0), none⟩,
 ⟨(some 11), .nc (.t 10), none⟩,
 ⟨(some 12), .fa (.t 11) 22, none⟩,
 ⟨(some 13), .ld (.t 12) 1 false, none⟩,
 ⟨(some 14), .call 40 [(.t 13)], none⟩,
 ⟨(some 15), .bin .lss (.t 9) (.t 14), none⟩])
 (.cond (.t 15) (.dreg [[], [0], [1], [2], [], [4], [5], [6], [7], [8], [3, 9], [10], [11], [11], [12, 10, 0, 1, 2, 3, 4, 5, 6, 7, 8, 9, 10, 11, 12], [13, 14, 0, 1, 2, 3, 4, 5, 6, 7, 8, 9, 10, 11, 12, 13, 14]] [⟨(some 17), .mv (.t 0), none⟩,
 ⟨(some 18), .nc (.t 17), none⟩,
 ⟨(some 19), .fa (.t 18) 22, none⟩,
 ⟨(some 20), .ld (.t 19) 1 false, none⟩,
 ⟨(some 21), .mv (.t 0), none⟩,
 ⟨(some 22), .nc (.t 21), none⟩,
 ⟨(some 23), .fa (.t 22) 21, none⟩,
 ⟨(some 24), .ld (.t 23) 1 false, none⟩,
 ⟨(some 25), .cvi .u32 (.t 24), none⟩,
 ⟨(some 26), .bin .shl (.t 25) (.c (.d (.v (.int .u64 2)))), none⟩,
 ⟨(some 27), .call 41 [(.t 20), (.t 26)], none⟩,
 ⟨(some 16), .mv (.t 27), none⟩,
 ⟨(some 28), .ext (.t 16) 0, none⟩,
 ⟨(some 29), .ext (.t 16) 1, none⟩,
 ⟨(some 2), .mv (.t 28), none⟩,
 ⟨(some 3), .mv (.t 29), none⟩]) (.skip)))
 (.seq (.seq (.reg [⟨(some 30), .mv (.t 3), none⟩,
 ⟨(some 31), .un .not (.t 30), none⟩])
 (.cond (.t 31) (.seq (.reg [⟨(some 32), .mv (.t 0), none⟩,
 ⟨(some 33), .nc (.t 32), none⟩,
 ⟨(some 34), .fa (.t 33) 26, none⟩,
 ⟨none, .st (.t 34) (.c (.d (.v (.int .i64 5)))) 1, none⟩])
 (.ret)) (.skip)))
 (.seq (.reg [⟨(some 36), .mv (.t 2), none⟩,
 ⟨(some 37), .call 33 [(.t 36)], none⟩,
 ⟨(some 35), .mv (.t 37), none⟩,
 ⟨(some 38), .ext (.t 35) 0, none⟩,
 ⟨(some 39), .ext (.t 35) 1, none⟩,
 ⟨(some 4), .al [(.d (.v (.int .i64 0))), (.d (.v (.bool false))), (.d (.v (.bool false))), (.d (.v (.int .i64 0))), (.d (.v (.int .i64 0))), (.d (.v (.int .i64 0))), (.d (.v (.int .i64 0))), (.d (.v (.int .i64 0)))], none⟩,
 ⟨none, .st (.t 4) (.t 38) 8, none⟩,
 ⟨(some 5), .mv (.t 39), none⟩])
 (.seq (.seq (.reg [⟨(some 40), .mv (.t 5), none⟩,
 ⟨(some 41), .bin .neq (.t 40) (.c (.d (.v (.int .i64 0)))), none⟩])
 (.cond (.t 41) (.seq (.reg [⟨(some 42), .mv (.t 0), none⟩,
 ⟨(some 43), .nc (.t 42), none⟩,
 ⟨(some 44), .fa (.t 43) 26, none⟩,
 ⟨none, .st (.t 44) (.c (.d (.v (.int .i64 4)))) 1, none⟩])
 (.ret)) (.skip)))
 (.seq (.reg [⟨(some 45), .mv (.t 0), none⟩,
 ⟨(some 46), .nc (.t 45), none⟩,
 ⟨(some 47), .fa (.t 46) 21, none⟩,
 ⟨(some 48), .ld (.t 47) 1 false, none⟩,
 ⟨(some 49), .bin .add (.t 48) (.c (.d (.v (.int .i64 1)))), none⟩,
 ⟨(some 50), .nc (.t 45), none⟩,
 ⟨(some 51), .fa (.t 50) 21, none⟩,
 ⟨none, .st (.t 51) (.t 49) 1, none⟩])
 (.seq (.reg [⟨(some 52), .fa (.t 4) 0, none⟩,
 ⟨(some 53), .ld (.t 52) 1 false, none⟩])
 (.block 0 (.seq (.reg [⟨(some 58), .bin .eql (.t 53) (.c (.d (.v (.int .i64 2)))), none⟩,
 ⟨(some 57), .mv (.t 58), none⟩])
 (.cond (.t 57) (.reg [⟨(some 59), .mv (.t 0), none⟩,
 ⟨(some 60), .ld (.t 4) 8 true, none⟩,
 ⟨(some 61), .call 42 [(.t 59), (.t 60)], none⟩]) (.seq (.reg [⟨(some 63), .bin .eql (.t 53) (.c (.d (.v (.int .i64 3)))), none⟩,
 ⟨(some 62), .mv (.t 63), none⟩])
 (.cond (.t 62) (.reg [⟨(some 64), .mv (.t 0), none⟩,
 ⟨(some 65), .ld (.t 4) 8 true, none⟩,
 ⟨(some 66), .call 43 [(.t 64), (.t 65)], none⟩]) (.reg [⟨(some 54), .mv (.t 0), none⟩,
 ⟨(some 55), .ld (.t 4) 8 true, none⟩,
 ⟨(some 56), .call 44 [(.t 54), (.t 55)], none⟩]))))))))))))
def r22 : List RC := []

/-- spinet/spinetref02.Encode -/
def c23 : AC :=
 .seq (.reg [⟨(some 1), .bx (.t 0), none⟩,
 ⟨(some 2), .mv (.c (.d (.v (.int .u32 0)))), none⟩,
 ⟨(some 3), .mv (.c (.d (.v (.int .i64 0)))), none⟩])
 (.seq (.seq (.reg [⟨(some 5), .ld (.t 1) 8 true, none⟩,
 ⟨(some 6), .call 45 [(.t 5)], none⟩,
 ⟨(some 7), .un .not (.t 6), none⟩])
 (.cond (.t 7) (.seq (.reg [⟨(some 2), .mv (.c (.d (.v (.int .u32 0)))), none⟩,
 ⟨(some 3), .mv (.c (.d (.v (.int .i64 20)))), none⟩])
 (.ret)) (.skip)))
 (.seq (.reg [⟨(some 8), .fa (.t 1) 0, none⟩,
 ⟨(some 9), .ld (.t 8) 1 false, none⟩,
 ⟨(some 10), .cvi .u32 (.t 9), none⟩,
 ⟨(some 11), .call 46 [(.c (.d (.v (.int .u32 0)))), (.c (.d (.v (.int .i64 30)))), (.c (.d (.v (.int .i64 2)))), (.t 10)], none⟩,
 ⟨(some 4), .mv (.t 11), none⟩])
 (.seq (.reg [⟨(some 12), .mv (.t 4), none⟩,
 ⟨(some 13), .fa (.t 1) 1, none⟩,
 ⟨(some 14), .ld (.t 13) 1 false, none⟩,
 ⟨(some 15), .call 47 [(.t 14)], none⟩,
 ⟨(some 16), .call 46 [(.t 12), (.c (.d (.v (.int .i64 29)))), (.c (.d (.v (.int .i64 1)))), (.t 15)], none⟩,
 ⟨(some 4), .mv (.t 16), none⟩])
 (.seq (.reg [⟨(some 17), .mv (.t 4), none⟩,
 ⟨(some 18), .fa (.t 1) 2, none⟩,
 ⟨(some 19), .ld (.t 18) 1 false, none⟩,
 ⟨(some 20), .call 47 [(.t 19)], none⟩,
 ⟨(some 21), .call 46 [(.t 17), (.c (.d (.v (.int .i64 28)))), (.c (.d (.v (.int .i64 1)))), (.t 20)], none⟩,
 ⟨(some 4), .mv (.t 21), none⟩])
 (.seq (.reg [⟨(some 22), .mv (.t 4), none⟩,
 ⟨(some 23), .fa (.t 1) 3, none⟩,
 ⟨(some 24), .ld (.t 23) 1 false, none⟩,
 ⟨(some 25), .cvi .u32 (.t 24), none⟩,
 ⟨(some 26), .call 46 [(.t 22), (.c (.d (.v (.int .i64 24)))), (.c (.d (.v (.int .i64 4)))), (.t 25)], none⟩,
 ⟨(some 4), .mv (.t 26), none⟩])
 (.seq (.seq (.reg [⟨(some 27), .fa (.t 1) 0, none⟩,
 ⟨(some 28), .ld (.t 27) 1 false, none⟩,
 ⟨(some 29), .bin .neq (.t 28) (.c (.d (.v (.int .i64 3)))), none⟩])
 (.cond (.t 29) (.reg [⟨(some 30), .mv (.t 4), none⟩,
 ⟨(some 31), .fa (.t 1) 4, none⟩,
 ⟨(some 32), .ld (.t 31) 1 false, none⟩,
 ⟨(some 33), .cvi .u32 (.t 32), none⟩,
 ⟨(some 34), .call 46 [(.t 30), (.c (.d (.v (.int .i64 20)))), (.c (.d (.v (.int .i64 4)))), (.t 33)], none⟩,
 ⟨(some 4), .mv (.t 34), none⟩]) (.skip)))
 (.seq (.seq (.reg [⟨(some 35), .fa (.t 1) 0, none⟩,
 ⟨(some 36), .ld (.t 35) 1 false, none⟩])
 (.block 0 (.seq (.reg [⟨(some 50), .bin .eql (.t 36) (.c (.d (.v (.int .i64 0)))), none⟩,
 ⟨(some 49), .mv (.t 50), none⟩])
 (.cond (.t 49) (.seq (.reg [⟨(some 51), .mv (.t 4), none⟩,
 ⟨(some 52), .fa (.t 1) 6, none⟩,
 ⟨(some 53), .ld (.t 52) 1 false, none⟩,
 ⟨(some 54), .cvi .u32 (.t 53), none⟩,
 ⟨(some 55), .call 46 [(.t 51), (.c (.d (.v (.int .i64 16)))), (.c (.d (.v (.int .i64 4)))), (.t 54)], none⟩,
 ⟨(some 4), .mv (.t 55), none⟩])
 (.reg [⟨(some 56), .mv (.t 4), none⟩,
 ⟨(some 57), .fa (.t 1) 5, none⟩,
 ⟨(some 58), .ld (.t 57) 1 false, none⟩,
 ⟨(some 59), .cvi .u32 (.t 58), none⟩,
 ⟨(some 60), .call 46 [(.t 56), (.c (.d (.v (.int .i64 0)))), (.c (.d (.v (.int .i64 4)))), (.t 59)], none⟩,
 ⟨(some 4), .mv (.t 60), none⟩])) (.seq (.reg [⟨(some 62), .bin .eql (.t 36) (.c (.d (.v (.int .i64 1)))), none⟩,
 ⟨(some 61), .mv (.t 62), none⟩])
 (.cond (.t 61) (.seq (.reg [⟨(some 63), .mv (.t 4), none⟩,
 ⟨(some 64), .fa (.t 1) 6, none⟩,
 ⟨(some 65), .ld (.t 64) 1 false, none⟩,
 ⟨(some 66), .cvi .u32 (.t 65), none⟩,
 ⟨(some 67), .call 46 [(.t 63), (.c (.d (.v (.int .i64 16)))), (.c (.d (.v (.int .i64 4)))), (.t 66)], none⟩,
 ⟨(some 4), .mv (.t 67), none⟩])
 (.reg [⟨(some 68), .mv (.t 4), none⟩,
 ⟨(some 69), .fa (.t 1) 7, none⟩,
 ⟨(some 70), .ld (.t 69) 1 false, none⟩,
 ⟨(some 71), .cvi .u32 (.t 70), none⟩,
 ⟨(some 72), .call 46 [(.t 68), (.c (.d (.v (.int .i64 0)))), (.c (.d (.v (.int .i64 16)))), (.t 71)], none⟩,
 ⟨(some 4), .mv (.t 72), none⟩])) (.seq (.reg [⟨(some 74), .bin .eql (.t 36) (.c (.d (.v (.int .i64 2)))), none⟩,
 ⟨(some 73), .mv (.t 74), none⟩])
 (.cond (.t 73) (.reg [⟨(some 75), .mv (.t 4), none⟩,
 ⟨(some 76), .fa (.t 1) 7, none⟩,
 ⟨(some 77), .ld (.t 76) 1 false, none⟩,
 ⟨(some 78), .call 48 [(.t 77)], none⟩,
 ⟨(some 79), .call 46 [(.t 75), (.c (.d (.v (.int .i64 0)))), (.c (.d (.v (.int .i64 20)))), (.t 78)], none⟩,
 ⟨(some 4), .mv (.t 79), none⟩]) (.seq (.reg [⟨(some 37), .fa (.t 1) 1, none⟩,
 ⟨(some 38), .ld (.t 37) 1 false, none⟩])
 (.cond (.t 38) (.reg [⟨(some 39), .mv (.t 4), none⟩,
 ⟨(some 40), .fa (.t 1) 7, none⟩,
 ⟨(some 41), .ld (.t 40) 1 false, none⟩,
 ⟨(some 42), .call 48 [(.t 41)], none⟩,
 ⟨(some 43), .call 46 [(.t 39), (.c (.d (.v (.int .i64 0)))), (.c (.d (.v (.int .i64 24)))), (.t 42)], none⟩,
 ⟨(some 4), .mv (.t 43), none⟩]) (.reg [⟨(some 44), .mv (.t 4), none⟩,
 ⟨(some 45), .fa (.t 1) 5, none⟩,
 ⟨(some 46), .ld (.t 45) 1 false, none⟩,
 ⟨(some 47), .cvi .u32 (.t 46), none⟩,
 ⟨(some 48), .call 46 [(.t 44), (.c (.d (.v (.int .i64 0)))), (.c (.d (.v (.int .i64 4)))), (.t 47)], none⟩,
 ⟨(some 4), .mv (.t 48), none⟩])))))))))))
 (.seq (.reg [⟨(some 80), .mv (.t 4), none⟩,
 ⟨(some 2), .mv (.t 80), none⟩,
 ⟨(some 3), .mv (.c (.d (.v (.int .i64 0)))), none⟩])
 (.ret)))))))))
def r23 : List RC := [.t 2, .t 3]

/-- spinet/risc.Decode -/
def c33 : AC :=
 .seq (.reg [⟨(some 2), .al [(.d (.v (.int .i64 0))), (.d (.v (.bool false))), (.d (.v (.bool false))), (.d (.v (.int .i64 0))), (.d (.v (.int .i64 0))), (.d (.v (.int .i64 0))), (.d (.v (.int .i64 0))), (.d (.v (.int .i64 0)))], none⟩,
 ⟨(some 3), .mv (.c (.d (.v (.int .i64 0)))), none⟩])
 (.seq (.reg [⟨(some 7), .mv (.t 0), none⟩,
 ⟨(some 8), .bin .shr (.t 7) (.c (.d (.v (.int .u64 30)))), none⟩,
 ⟨(some 9), .cvi .i64 (.t 8), none⟩,
 ⟨(some 10), .mv (.t 0), none⟩,
 ⟨(some 11), .bin .shr (.t 10) (.c (.d (.v (.int .u64 29)))), none⟩,
 ⟨(some 12), .bin .and (.t 11) (.c (.d (.v (.int .u32 1)))), none⟩,
 ⟨(some 13), .bin .eql (.t 12) (.c (.d (.v (.int .u32 1)))), none⟩,
 ⟨(some 14), .mv (.t 0), none⟩,
 ⟨(some 15), .bin .shr (.t 14) (.c (.d (.v (.int .u64 28)))), none⟩,
 ⟨(some 16), .bin .and (.t 15) (.c (.d (.v (.int .u32 1)))), none⟩,
 ⟨(some 17), .bin .eql (.t 16) (.c (.d (.v (.int .u32 1)))), none⟩,
 ⟨(some 18), .mv (.t 0), none⟩,
 ⟨(some 19), .call 58 [(.t 18), (.c (.d (.v (.int .i64 24)))), (.c (.d (.v (.int .i64 4))))], none⟩,
 ⟨(some 20), .cvi .i64 (.t 19), none⟩,
 ⟨(some 21), .bd [(.d (.v (.int .i64 0))), (.d (.v (.bool false))), (.d (.v (.bool false))), (.d (.v (.int .i64 0))), (.d (.v (.int .i64 0))), (.d (.v (.int .i64 0))), (.d (.v (.int .i64 0))), (.d (.v (.int .i64 0)))] [(0, 1, (.t 9)), (1, 1, (.t 13)), (2, 1, (.t 17)), (3, 1, (.t 20))], none⟩,
 ⟨(some 4), .al [(.d (.v (.int .i64 0))), (.d (.v (.bool false))), (.d (.v (.bool false))), (.d (.v (.int .i64 0))), (.d (.v (.int .i64 0))), (.d (.v (.int .i64 0))), (.d (.v (.int .i64 0))), (.d (.v (.int .i64 0)))], none⟩,
 ⟨none, .st (.t 4) (.t 21) 8, none⟩])
 (.seq (.seq (.reg [⟨(some 22), .fa (.t 4) 0, none⟩,
 ⟨(some 23), .ld (.t 22) 1 false, none⟩,
 ⟨(some 24), .bin .neq (.t 23) (.c (.d (.v (.int .i64 3)))), none⟩])
 (.cond (.t 24) (.reg [⟨(some 25), .mv (.t 0), none⟩,
 ⟨(some 26), .call 58 [(.t 25), (.c (.d (.v (.int .i64 20)))), (.c (.d (.v (.int .i64 4))))], none⟩,
 ⟨(some 27), .cvi .i64 (.t 26), none⟩,
 ⟨(some 28), .fa (.t 4) 4, none⟩,
 ⟨none, .st (.t 28) (.t 27) 1, none⟩]) (.skip)))
 (.seq (.seq (.reg [⟨(some 29), .fa (.t 4) 0, none⟩,
 ⟨(some 30), .ld (.t 29) 1 false, none⟩])
 (.block 0 (.seq (.reg [⟨(some 41), .bin .eql (.t 30) (.c (.d (.v (.int .i64 0)))), none⟩,
 ⟨(some 40), .mv (.t 41), none⟩])
 (.cond (.t 40) (.reg [⟨(some 42), .mv (.t 0), none⟩,
 ⟨(some 43), .call 58 [(.t 42), (.c (.d (.v (.int .i64 16)))), (.c (.d (.v (.int .i64 4))))], none⟩,
 ⟨(some 44), .cvi .i64 (.t 43), none⟩,
 ⟨(some 45), .mv (.t 0), none⟩,
 ⟨(some 46), .bin .and (.t 45) (.c (.d (.v (.int .u32 15)))), none⟩,
 ⟨(some 47), .cvi .i64 (.t 46), none⟩,
 ⟨(some 48), .fa (.t 4) 6, none⟩,
 ⟨none, .st (.t 48) (.t 44) 1, none⟩,
 ⟨(some 49), .fa (.t 4) 5, none⟩,
 ⟨none, .st (.t 49) (.t 47) 1, none⟩]) (.seq (.reg [⟨(some 51), .bin .eql (.t 30) (.c (.d (.v (.int .i64 1)))), none⟩,
 ⟨(some 50), .mv (.t 51), none⟩])
 (.cond (.t 50) (.reg [⟨(some 52), .mv (.t 0), none⟩,
 ⟨(some 53), .call 58 [(.t 52), (.c (.d (.v (.int .i64 16)))), (.c (.d (.v (.int .i64 4))))], none⟩,
 ⟨(some 54), .cvi .i64 (.t 53), none⟩,
 ⟨(some 55), .mv (.t 0), none⟩,
 ⟨(some 56), .cvi .u16 (.t 55), none⟩,
 ⟨(some 57), .cvi .i64 (.t 56), none⟩,
 ⟨(some 58), .fa (.t 4) 6, none⟩,
 ⟨none, .st (.t 58) (.t 54) 1, none⟩,
 ⟨(some 59), .fa (.t 4) 7, none⟩,
 ⟨none, .st (.t 59) (.t 57) 1, none⟩]) (.seq (.reg [⟨(some 61), .bin .eql (.t 30) (.c (.d (.v (.int .i64 2)))), none⟩,
 ⟨(some 60), .mv (.t 61), none⟩])
 (.cond (.t 60) (.reg [⟨(some 62), .mv (.t 0), none⟩,
 ⟨(some 63), .call 59 [(.t 62), (.c (.d (.v (.int .i64 20))))], none⟩,
 ⟨(some 64), .fa (.t 4) 7, none⟩,
 ⟨none, .st (.t 64) (.t 63) 1, none⟩]) (.seq (.reg [⟨(some 31), .fa (.t 4) 1, none⟩,
 ⟨(some 32), .ld (.t 31) 1 false, none⟩])
 (.cond (.t 32) (.reg [⟨(some 33), .mv (.t 0), none⟩,
 ⟨(some 34), .call 59 [(.t 33), (.c (.d (.v (.int .i64 24))))], none⟩,
 ⟨(some 35), .fa (.t 4) 7, none⟩,
 ⟨none, .st (.t 35) (.t 34) 1, none⟩]) (.reg [⟨(some 36), .mv (.t 0), none⟩,
 ⟨(some 37), .bin .and (.t 36) (.c (.d (.v (.int .u32 15)))), none⟩,
 ⟨(some 38), .cvi .i64 (.t 37), none⟩,
 ⟨(some 39), .fa (.t 4) 5, none⟩,
 ⟨none, .st (.t 39) (.t 38) 1, none⟩])))))))))))
 (.seq (.seq (.reg [⟨(some 66), .ld (.t 4) 8 true, none⟩,
 ⟨(some 67), .call 55 [(.t 66)], none⟩,
 ⟨(some 65), .mv (.t 67), none⟩,
 ⟨(some 68), .ext (.t 65) 0, none⟩,
 ⟨(some 69), .ext (.t 65) 1, none⟩,
 ⟨(some 5), .mv (.t 68), none⟩,
 ⟨(some 6), .mv (.t 69), none⟩])
 (.seq (.reg [⟨(some 70), .mv (.t 6), none⟩,
 ⟨(some 71), .bin .neq (.t 70) (.c (.d (.v (.int .i64 0)))), none⟩,
 ⟨(some 72), .mv (.t 71), none⟩,
 ⟨(some 73), .mv (.t 5), (some (72, false))⟩,
 ⟨(some 74), .mv (.t 0), (some (72, false))⟩,
 ⟨(some 75), .bin .neq (.t 73) (.t 74), (some (72, false))⟩,
 ⟨(some 76), .pick (.t 72) (.c (.d (.v (.bool true)))) (.t 75), none⟩])
 (.cond (.t 76) (.seq (.reg [⟨(some 77), .bd [(.d (.v (.int .i64 0))), (.d (.v (.bool false))), (.d (.v (.bool false))), (.d (.v (.int .i64 0))), (.d (.v (.int .i64 0))), (.d (.v (.int .i64 0))), (.d (.v (.int .i64 0))), (.d (.v (.int .i64 0)))] [], none⟩,
 ⟨none, .st (.t 2) (.t 77) 8, none⟩,
 ⟨(some 3), .mv (.c (.d (.v (.int .i64 20)))), none⟩])
 (.ret)) (.skip))))
 (.seq (.reg [⟨(some 78), .ld (.t 4) 8 true, none⟩,
 ⟨none, .st (.t 2) (.t 78) 8, none⟩,
 ⟨(some 3), .mv (.c (.d (.v (.int .i64 0)))), none⟩])
 (.ret))))))
def r33 : List RC := [.c 2 8 true, .t 3]

/-- (*spinet/memory.Memory).Size -/
def c40 : AC :=
 .seq (.reg [⟨(some 2), .mv (.c (.d (.v (.int .i64 0)))), none⟩])
 (.seq (.seq (.reg [⟨(some 3), .mv (.t 0), none⟩,
 ⟨(some 4), .eqp false (.t 3) (.c .nilp), none⟩])
 (.cond (.t 4) (.seq (.reg [⟨(some 2), .mv (.c (.d (.v (.int .i64 0)))), none⟩])
 (.ret)) (.skip)))
 (.seq (.reg [⟨(some 5), .mv (.t 0), none⟩,
 ⟨(some 6), .nc (.t 5), none⟩,
 ⟨(some 7), .fa (.t 6) 0, none⟩,
 ⟨(some 8), .ld (.t 7) 1 false, none⟩,
 ⟨(some 9), .len false (.t 8), none⟩,
 ⟨(some 2), .mv (.t 9), none⟩])
 (.ret)))
def r40 : List RC := [.t 2]

/-- (*spinet/memory.Memory).Load -/
def c41 : AC :=
 .seq (.reg [⟨(some 4), .mv (.c (.d (.v (.int .u32 0)))), none⟩,
 ⟨(some 5), .mv (.c (.d (.v (.bool false)))), none⟩])
 (.seq (.reg [⟨(some 7), .mv (.t 0), none⟩,
 ⟨(some 8), .mv (.t 1), none⟩,
 ⟨(some 9), .call 66 [(.t 7), (.t 8)], none⟩,
 ⟨(some 6), .mv (.t 9), none⟩])
 (.seq (.seq (.reg [⟨(some 10), .mv (.t 6), none⟩,
 ⟨(some 11), .eqp false (.t 10) (.c .nilp), none⟩,
 ⟨(some 12), .mv (.t 11), none⟩,
 ⟨(some 13), .mv (.t 1), (some (12, false))⟩,
 ⟨(some 14), .bin .rem (.t 13) (.c (.d (.v (.int .u32 4)))), (some (12, false))⟩,
 ⟨(some 15), .bin .neq (.t 14) (.c (.d (.v (.int .u32 0)))), (some (12, false))⟩,
 ⟨(some 16), .pick (.t 12) (.c (.d (.v (.bool true)))) (.t 15), none⟩])
 (.cond (.t 16) (.seq (.reg [⟨(some 4), .mv (.c (.d (.v (.int .u32 0)))), none⟩,
 ⟨(some 5), .mv (.c (.d (.v (.bool false)))), none⟩])
 (.ret)) (.skip)))
 (.seq (.reg [⟨(some 17), .mv (.t 6), none⟩,
 ⟨(some 18), .nc (.t 17), none⟩,
 ⟨(some 19), .ld (.t 18) 1 false, none⟩,
 ⟨(some 4), .mv (.t 19), none⟩,
 ⟨(some 5), .mv (.c (.d (.v (.bool true)))), none⟩])
 (.ret))))
def r41 : List RC := [.t 4, .t 5]

/-- (*spinet/cpu.Machine).moves -/
def c42 : AC :=
 .seq (.reg [⟨(some 3), .bx (.t 1), none⟩])
 (.seq (.dreg [[], [], [1], [0], [3], [4, 2], [5], [], [7], [8], [6, 9], [10, 0, 1, 2, 3, 4, 5, 6, 7, 8, 9, 10]] [⟨(some 7), .mv (.t 0), none⟩,
 ⟨(some 8), .fa (.t 3) 4, none⟩,
 ⟨(some 9), .ld (.t 8) 1 false, none⟩,
 ⟨(some 10), .nc (.t 7), none⟩,
 ⟨(some 11), .fa (.t 10) 0, none⟩,
 ⟨(some 12), .iar (.t 11) (.t 9) 16 1, none⟩,
 ⟨(some 13), .ld (.t 12) 1 false, none⟩,
 ⟨(some 14), .fa (.t 3) 7, none⟩,
 ⟨(some 15), .ld (.t 14) 1 false, none⟩,
 ⟨(some 16), .cvi .u32 (.t 15), none⟩,
 ⟨(some 17), .bin .add (.t 13) (.t 16), none⟩,
 ⟨(some 4), .mv (.t 17), none⟩])
 (.seq (.seq (.reg [⟨(some 18), .fa (.t 3) 1, none⟩,
 ⟨(some 19), .ld (.t 18) 1 false, none⟩])
 (.cond (.t 19) (.seq (.dreg [[], [], [], [], [3], [2], [5], [6, 4], [7], [], [9], [0, 1, 8, 10]] [⟨(some 20), .mv (.t 0), none⟩,
 ⟨(some 21), .mv (.t 4), none⟩,
 ⟨(some 22), .mv (.t 0), none⟩,
 ⟨(some 23), .fa (.t 3) 3, none⟩,
 ⟨(some 24), .ld (.t 23) 1 false, none⟩,
 ⟨(some 25), .nc (.t 22), none⟩,
 ⟨(some 26), .fa (.t 25) 0, none⟩,
 ⟨(some 27), .iar (.t 26) (.t 24) 16 1, none⟩,
 ⟨(some 28), .ld (.t 27) 1 false, none⟩,
 ⟨(some 29), .fa (.t 3) 2, none⟩,
 ⟨(some 30), .ld (.t 29) 1 false, none⟩,
 ⟨(some 31), .call 67 [(.t 20), (.t 21), (.t 28), (.t 30)], none⟩])
 (.ret)) (.skip)))
 (.seq (.reg [⟨(some 5), .mv (.c (.d (.v (.int .u32 0)))), none⟩,
 ⟨(some 6), .mv (.c (.d (.v (.bool true)))), none⟩])
 (.seq (.block 0 (.seq (.reg [⟨(some 42), .mv (.t 4), none⟩,
 ⟨(some 43), .bin .eql (.t 42) (.c (.d (.v (.int .u32 4294967240)))), none⟩,
 ⟨(some 41), .mv (.t 43), none⟩])
 (.cond (.t 41) (.seq (.dreg [[], [0], [1], [2], [], [4], [5], [6], [7], [3, 8]] [⟨(some 44), .mv (.t 0), none⟩,
 ⟨(some 45), .nc (.t 44), none⟩,
 ⟨(some 46), .fa (.t 45) 24, none⟩,
 ⟨(some 47), .ld (.t 46) 1 false, none⟩,
 ⟨(some 48), .mv (.t 0), none⟩,
 ⟨(some 49), .nc (.t 48), none⟩,
 ⟨(some 50), .fa (.t 49) 23, none⟩,
 ⟨(some 51), .ld (.t 50) 1 false, none⟩,
 ⟨(some 52), .len true (.t 51), none⟩,
 ⟨(some 53), .bin .lss (.t 47) (.t 52), none⟩])
 (.cond (.t 53) (.seq (.dreg [[], [0], [1], [2], [], [4], [5], [6], [3, 7], [8], [9, 0, 1, 2, 3, 4, 5, 6, 7, 8, 9]] [⟨(some 54), .mv (.t 0), none⟩,
 ⟨(some 55), .nc (.t 54), none⟩,
 ⟨(some 56), .fa (.t 55) 23, none⟩,
 ⟨(some 57), .ld (.t 56) 1 false, none⟩,
 ⟨(some 58), .mv (.t 0), none⟩,
 ⟨(some 59), .nc (.t 58), none⟩,
 ⟨(some 60), .fa (.t 59) 24, none⟩,
 ⟨(some 61), .ld (.t 60) 1 false, none⟩,
 ⟨(some 62), .ix (.t 57) (.t 61), none⟩,
 ⟨(some 63), .cvi .u32 (.t 62), none⟩,
 ⟨(some 5), .mv (.t 63), none⟩])
 (.reg [⟨(some 64), .mv (.t 0), none⟩,
 ⟨(some 65), .nc (.t 64), none⟩,
 ⟨(some 66), .fa (.t 65) 24, none⟩,
 ⟨(some 67), .ld (.t 66) 1 false, none⟩,
 ⟨(some 68), .bin .add (.t 67) (.c (.d (.v (.int .i64 1)))), none⟩,
 ⟨(some 69), .nc (.t 64), none⟩,
 ⟨(some 70), .fa (.t 69) 24, none⟩,
 ⟨none, .st (.t 70) (.t 68) 1, none⟩])) (.skip))) (.seq (.reg [⟨(some 72), .mv (.t 4), none⟩,
 ⟨(some 73), .bin .eql (.t 72) (.c (.d (.v (.int .u32 4294967244)))), none⟩,
 ⟨(some 71), .mv (.t 73), none⟩])
 (.cond (.t 71) (.seq (.dreg [[], [0], [1], [2], [], [4], [5], [6], [7], [3, 8]] [⟨(some 74), .mv (.t 0), none⟩,
 ⟨(some 75), .nc (.t 74), none⟩,
 ⟨(some 76), .fa (.t 75) 24, none⟩,
 ⟨(some 77), .ld (.t 76) 1 false, none⟩,
 ⟨(some 78), .mv (.t 0), none⟩,
 ⟨(some 79), .nc (.t 78), none⟩,
 ⟨(some 80), .fa (.t 79) 23, none⟩,
 ⟨(some 81), .ld (.t 80) 1 false, none⟩,
 ⟨(some 82), .len true (.t 81), none⟩,
 ⟨(some 83), .bin .lss (.t 77) (.t 82), none⟩])
 (.cond (.t 83) (.reg [⟨(some 5), .mv (.c (.d (.v (.int .u32 1)))), none⟩]) (.skip))) (.seq (.reg [⟨(some 85), .fa (.t 3) 2, none⟩,
 ⟨(some 86), .ld (.t 85) 1 false, none⟩,
 ⟨(some 84), .mv (.t 86), none⟩])
 (.cond (.t 84) (.reg [⟨(some 88), .mv (.t 0), none⟩,
 ⟨(some 89), .nc (.t 88), none⟩,
 ⟨(some 90), .fa (.t 89) 22, none⟩,
 ⟨(some 91), .ld (.t 90) 1 false, none⟩,
 ⟨(some 92), .mv (.t 4), none⟩,
 ⟨(some 93), .call 68 [(.t 91), (.t 92)], none⟩,
 ⟨(some 87), .mv (.t 93), none⟩,
 ⟨(some 94), .ext (.t 87) 0, none⟩,
 ⟨(some 95), .ext (.t 87) 1, none⟩,
 ⟨(some 5), .mv (.t 94), none⟩,
 ⟨(some 6), .mv (.t 95), none⟩]) (.reg [⟨(some 33), .mv (.t 0), none⟩,
 ⟨(some 34), .nc (.t 33), none⟩,
 ⟨(some 35), .fa (.t 34) 22, none⟩,
 ⟨(some 36), .ld (.t 35) 1 false, none⟩,
 ⟨(some 37), .mv (.t 4), none⟩,
 ⟨(some 38), .call 41 [(.t 36), (.t 37)], none⟩,
 ⟨(some 32), .mv (.t 38), none⟩,
 ⟨(some 39), .ext (.t 32) 0, none⟩,
 ⟨(some 40), .ext (.t 32) 1, none⟩,
 ⟨(some 5), .mv (.t 39), none⟩,
 ⟨(some 6), .mv (.t 40), none⟩]))))))))
 (.seq (.seq (.reg [⟨(some 96), .mv (.t 6), none⟩,
 ⟨(some 97), .un .not (.t 96), none⟩])
 (.cond (.t 97) (.seq (.reg [⟨(some 98), .mv (.t 0), none⟩,
 ⟨(some 99), .nc (.t 98), none⟩,
 ⟨(some 100), .fa (.t 99) 26, none⟩,
 ⟨none, .st (.t 100) (.c (.d (.v (.int .i64 5)))) 1, none⟩])
 (.ret)) (.skip)))
 (.reg [⟨(some 101), .mv (.t 0), none⟩,
 ⟨(some 102), .fa (.t 3) 3, none⟩,
 ⟨(some 103), .ld (.t 102) 1 false, none⟩,
 ⟨(some 104), .mv (.t 5), none⟩,
 ⟨(some 105), .call 69 [(.t 101), (.t 103), (.t 104)], none⟩]))))))
def r42 : List RC := []

/-- (*spinet/cpu.Machine).jumps -/
def c43 : AC :=
 .seq (.reg [⟨(some 3), .bx (.t 1), none⟩])
 (.seq (.seq (.dreg [[], [0], [], [2], [3], [4], [1, 5], [6]] [⟨(some 5), .fa (.t 3) 3, none⟩,
 ⟨(some 6), .ld (.t 5) 1 false, none⟩,
 ⟨(some 7), .mv (.t 0), none⟩,
 ⟨(some 8), .nc (.t 7), none⟩,
 ⟨(some 9), .fa (.t 8) 17, none⟩,
 ⟨(some 10), .ld (.t 9) 4 true, none⟩,
 ⟨(some 11), .call 70 [(.t 6), (.t 10)], none⟩,
 ⟨(some 12), .un .not (.t 11), none⟩])
 (.cond (.t 12) (.ret) (.skip)))
 (.seq (.reg [⟨(some 13), .mv (.t 0), none⟩,
 ⟨(some 14), .nc (.t 13), none⟩,
 ⟨(some 15), .fa (.t 14) 21, none⟩,
 ⟨(some 16), .ld (.t 15) 1 false, none⟩,
 ⟨(some 4), .mv (.t 16), none⟩])
 (.seq (.seq (.reg [⟨(some 17), .fa (.t 3) 1, none⟩,
 ⟨(some 18), .ld (.t 17) 1 false, none⟩])
 (.cond (.t 18) (.reg [⟨(some 19), .mv (.t 0), none⟩,
 ⟨(some 20), .mv (.t 4), none⟩,
 ⟨(some 21), .fa (.t 3) 7, none⟩,
 ⟨(some 22), .ld (.t 21) 1 false, none⟩,
 ⟨(some 23), .bin .add (.t 20) (.t 22), none⟩,
 ⟨(some 24), .bin .and (.t 23) (.c (.d (.v (.int .i64 1073741823)))), none⟩,
 ⟨(some 25), .nc (.t 19), none⟩,
 ⟨(some 26), .fa (.t 25) 21, none⟩,
 ⟨none, .st (.t 26) (.t 24) 1, none⟩]) (.dreg [[], [], [], [2], [1], [4], [5, 3], [6], [7], [8], [0, 0, 1, 2, 3, 4, 5, 6, 7, 8, 9], [10, 0, 1, 2, 3, 4, 5, 6, 7, 8, 9], [11, 9, 0, 1, 2, 3, 4, 5, 6, 7, 8, 9]] [⟨(some 27), .mv (.t 0), none⟩,
 ⟨(some 28), .mv (.t 0), none⟩,
 ⟨(some 29), .fa (.t 3) 5, none⟩,
 ⟨(some 30), .ld (.t 29) 1 false, none⟩,
 ⟨(some 31), .nc (.t 28), none⟩,
 ⟨(some 32), .fa (.t 31) 0, none⟩,
 ⟨(some 33), .iar (.t 32) (.t 30) 16 1, none⟩,
 ⟨(some 34), .ld (.t 33) 1 false, none⟩,
 ⟨(some 35), .bin .shr (.t 34) (.c (.d (.v (.int .u64 2)))), none⟩,
 ⟨(some 36), .cvi .i64 (.t 35), none⟩,
 ⟨(some 37), .nc (.t 27), none⟩,
 ⟨(some 38), .fa (.t 37) 21, none⟩,
 ⟨none, .st (.t 38) (.t 36) 1, none⟩])))
 (.seq (.reg [⟨(some 39), .fa (.t 3) 2, none⟩,
 ⟨(some 40), .ld (.t 39) 1 false, none⟩])
 (.cond (.t 40) (.reg [⟨(some 41), .mv (.t 0), none⟩,
 ⟨(some 42), .mv (.t 4), none⟩,
 ⟨(some 43), .cvi .u32 (.t 42), none⟩,
 ⟨(some 44), .bin .shl (.t 43) (.c (.d (.v (.int .u64 2)))), none⟩,
 ⟨(some 45), .nc (.t 41), none⟩,
 ⟨(some 46), .fa (.t 45) 0, none⟩,
 ⟨(some 47), .iar (.t 46) (.c (.d (.v (.int .i64 15)))) 16 1, none⟩,
 ⟨none, .st (.t 47) (.t 44) 1, none⟩]) (.skip))))))
def r43 : List RC := []

/-- (*spinet/cpu.Machine).reckons -/
def c44 : AC :=
 .seq (.reg [⟨(some 3), .bx (.t 1), none⟩])
 (.seq (.dreg [[], [], [1], [0], [3], [4, 2], [5], [6, 0, 1, 2, 3, 4, 5, 6]] [⟨(some 9), .mv (.t 0), none⟩,
 ⟨(some 10), .fa (.t 3) 5, none⟩,
 ⟨(some 11), .ld (.t 10) 1 false, none⟩,
 ⟨(some 12), .nc (.t 9), none⟩,
 ⟨(some 13), .fa (.t 12) 0, none⟩,
 ⟨(some 14), .iar (.t 13) (.t 11) 16 1, none⟩,
 ⟨(some 15), .ld (.t 14) 1 false, none⟩,
 ⟨(some 4), .mv (.t 15), none⟩])
 (.seq (.seq (.reg [⟨(some 16), .fa (.t 3) 0, none⟩,
 ⟨(some 17), .ld (.t 16) 1 false, none⟩,
 ⟨(some 18), .bin .eql (.t 17) (.c (.d (.v (.int .i64 1)))), none⟩])
 (.cond (.t 18) (.seq (.reg [⟨(some 19), .fa (.t 3) 7, none⟩,
 ⟨(some 20), .ld (.t 19) 1 false, none⟩,
 ⟨(some 21), .cvi .u16 (.t 20), none⟩,
 ⟨(some 22), .cvi .u32 (.t 21), none⟩,
 ⟨(some 4), .mv (.t 22), none⟩])
 (.seq (.reg [⟨(some 23), .fa (.t 3) 2, none⟩,
 ⟨(some 24), .ld (.t 23) 1 false, none⟩])
 (.cond (.t 24) (.reg [⟨(some 25), .mv (.t 4), none⟩,
 ⟨(some 26), .bin .or (.t 25) (.c (.d (.v (.int .u32 4294901760)))), none⟩,
 ⟨(some 4), .mv (.t 26), none⟩]) (.skip)))) (.skip)))
 (.seq (.seq (.reg [⟨(some 27), .fa (.t 3) 6, none⟩,
 ⟨(some 28), .ld (.t 27) 1 false, none⟩,
 ⟨(some 29), .bin .eql (.t 28) (.c (.d (.v (.int .i64 0)))), none⟩,
 ⟨(some 30), .mv (.t 29), none⟩,
 ⟨(some 31), .fa (.t 3) 1, (some (30, true))⟩,
 ⟨(some 32), .ld (.t 31) 1 false, (some (30, true))⟩,
 ⟨(some 33), .pick (.t 30) (.t 32) (.c (.d (.v (.bool false)))), none⟩])
 (.cond (.t 33) (.block 0 (.seq (.reg [⟨(some 35), .fa (.t 3) 0, none⟩,
 ⟨(some 36), .ld (.t 35) 1 false, none⟩,
 ⟨(some 37), .bin .eql (.t 36) (.c (.d (.v (.int .i64 1)))), none⟩,
 ⟨(some 34), .mv (.t 37), none⟩])
 (.cond (.t 34) (.seq (.reg [⟨(some 38), .mv (.t 0), none⟩,
 ⟨(some 39), .fa (.t 3) 3, none⟩,
 ⟨(some 40), .ld (.t 39) 1 false, none⟩,
 ⟨(some 41), .fa (.t 3) 7, none⟩,
 ⟨(some 42), .ld (.t 41) 1 false, none⟩,
 ⟨(some 43), .cvi .u32 (.t 42), none⟩,
 ⟨(some 44), .bin .shl (.t 43) (.c (.d (.v (.int .u64 16)))), none⟩,
 ⟨(some 45), .call 69 [(.t 38), (.t 40), (.t 44)], none⟩])
 (.ret)) (.seq (.reg [⟨(some 47), .fa (.t 3) 2, none⟩,
 ⟨(some 48), .ld (.t 47) 1 false, none⟩,
 ⟨(some 46), .mv (.t 48), none⟩])
 (.cond (.t 46) (.seq (.dreg [[], [], [1], [], [3], [4], [5], [6], [0, 2, 7, 7]] [⟨(some 49), .mv (.t 0), none⟩,
 ⟨(some 50), .fa (.t 3) 3, none⟩,
 ⟨(some 51), .ld (.t 50) 1 false, none⟩,
 ⟨(some 52), .mv (.t 0), none⟩,
 ⟨(some 53), .nc (.t 52), none⟩,
 ⟨(some 54), .fa (.t 53) 17, none⟩,
 ⟨(some 55), .ld (.t 54) 4 true, none⟩,
 ⟨(some 56), .call 71 [(.t 55)], none⟩,
 ⟨(some 57), .call 69 [(.t 49), (.t 51), (.t 56)], none⟩])
 (.ret)) (.skip)))))) (.skip)))
 (.seq (.dreg [[], [0], [], [2], [], [], [5], [4], [7], [8, 6], [9], [], [], [12], [13], [14], [], [16], [17], [18], [1, 3, 10, 11, 15, 19], [20], [21], [21], [21], [21], [], [22, 20, 0, 1, 2, 3, 4, 5, 6, 7, 8, 9, 10, 11, 12, 13, 14, 15, 16, 17, 18, 19, 20, 21, 22, 26], [23, 27, 0, 1, 2, 3, 4, 5, 6, 7, 8, 9, 10, 11, 12, 13, 14, 15, 16, 17, 18, 19, 20, 21, 22, 23, 26, 27], [26, 24, 28, 0, 1, 2, 3, 4, 5, 6, 7, 8, 9, 10, 11, 12, 13, 14, 15, 16, 17, 18, 19, 20, 21, 22, 23, 24, 26, 27, 28], [25, 29, 0, 1, 2, 3, 4, 5, 6, 7, 8, 9, 10, 11, 12, 13, 14, 15, 16, 17, 18, 19, 20, 21, 22, 23, 24, 25, 26, 27, 28, 29]] [⟨(some 59), .fa (.t 3) 6, none⟩,
 ⟨(some 60), .ld (.t 59) 1 false, none⟩,
 ⟨(some 61), .fa (.t 3) 1, none⟩,
 ⟨(some 62), .ld (.t 61) 1 false, none⟩,
 ⟨(some 63), .mv (.t 0), none⟩,
 ⟨(some 64), .fa (.t 3) 4, none⟩,
 ⟨(some 65), .ld (.t 64) 1 false, none⟩,
 ⟨(some 66), .nc (.t 63), none⟩,
 ⟨(some 67), .fa (.t 66) 0, none⟩,
 ⟨(some 68), .iar (.t 67) (.t 65) 16 1, none⟩,
 ⟨(some 69), .ld (.t 68) 1 false, none⟩,
 ⟨(some 70), .mv (.t 4), none⟩,
 ⟨(some 71), .mv (.t 0), none⟩,
 ⟨(some 72), .nc (.t 71), none⟩,
 ⟨(some 73), .fa (.t 72) 16, none⟩,
 ⟨(some 74), .ld (.t 73) 1 false, none⟩,
 ⟨(some 75), .mv (.t 0), none⟩,
 ⟨(some 76), .nc (.t 75), none⟩,
 ⟨(some 77), .fa (.t 76) 17, none⟩,
 ⟨(some 78), .ld (.t 77) 4 true, none⟩,
 ⟨(some 79), .call 72 [(.t 60), (.t 62), (.t 69), (.t 70), (.t 74), (.t 78)], none⟩,
 ⟨(some 58), .mv (.t 79), none⟩,
 ⟨(some 80), .ext (.t 58) 0, none⟩,
 ⟨(some 81), .ext (.t 58) 1, none⟩,
 ⟨(some 82), .ext (.t 58) 2, none⟩,
 ⟨(some 83), .ext (.t 58) 3, none⟩,
 ⟨(some 7), .al [(.d (.v (.bool false))), (.d (.v (.bool false))), (.d (.v (.bool false))), (.d (.v (.bool false)))], none⟩,
 ⟨(some 5), .mv (.t 80), none⟩,
 ⟨(some 6), .mv (.t 81), none⟩,
 ⟨none, .st (.t 7) (.t 82) 4, none⟩,
 ⟨(some 8), .mv (.t 83), none⟩])
 (.dreg [[], [], [1], [], [], [], [], [], [0], [8], [9, 2, 0, 1, 2, 5], [10, 5, 0, 1, 2, 5], [3, 0, 1, 2, 3, 5, 6, 8, 9, 10, 11], [12, 0, 1, 2, 3, 5, 6, 8, 9, 10, 11], [13, 6, 11, 0, 1, 2, 3, 5, 6, 8, 9, 10, 11], [4, 0, 1, 2, 3, 4, 5, 6, 7, 8, 9, 10, 11, 12, 13, 14], [15, 0, 1, 2, 3, 4, 5, 6, 7, 8, 9, 10, 11, 12, 13, 14], [16, 7, 14, 0, 1, 2, 3, 4, 5, 6, 7, 8, 9, 10, 11, 12, 13, 14]] [⟨(some 84), .mv (.t 0), none⟩,
 ⟨(some 85), .fa (.t 3) 3, none⟩,
 ⟨(some 86), .ld (.t 85) 1 false, none⟩,
 ⟨(some 87), .mv (.t 0), none⟩,
 ⟨(some 88), .mv (.t 0), none⟩,
 ⟨(some 89), .mv (.t 5), none⟩,
 ⟨(some 90), .mv (.t 6), none⟩,
 ⟨(some 91), .ld (.t 7) 4 true, none⟩,
 ⟨(some 92), .nc (.t 84), none⟩,
 ⟨(some 93), .fa (.t 92) 0, none⟩,
 ⟨(some 94), .iar (.t 93) (.t 86) 16 1, none⟩,
 ⟨none, .st (.t 94) (.t 89) 1, none⟩,
 ⟨(some 95), .nc (.t 87), none⟩,
 ⟨(some 96), .fa (.t 95) 16, none⟩,
 ⟨none, .st (.t 96) (.t 90) 1, none⟩,
 ⟨(some 97), .nc (.t 88), none⟩,
 ⟨(some 98), .fa (.t 97) 17, none⟩,
 ⟨none, .st (.t 98) (.t 91) 4, none⟩])))))
def r44 : List RC := []

/-- spinet/spinetref02.Good -/
def c45 : AC :=
 .seq (.reg [⟨(some 1), .bx (.t 0), none⟩,
 ⟨(some 2), .mv (.c (.d (.v (.bool false)))), none⟩])
 (.seq (.seq (.reg [⟨(some 4), .fa (.t 1) 3, none⟩,
 ⟨(some 5), .ld (.t 4) 1 false, none⟩,
 ⟨(some 6), .call 73 [(.t 5), (.c (.d (.v (.int .i64 0)))), (.c (.d (.v (.int .i64 15))))], none⟩,
 ⟨(some 7), .un .not (.t 6), none⟩,
 ⟨(some 8), .mv (.t 7), none⟩,
 ⟨(some 9), .fa (.t 1) 4, (some (8, false))⟩,
 ⟨(some 10), .ld (.t 9) 1 false, (some (8, false))⟩,
 ⟨(some 11), .call 73 [(.t 10), (.c (.d (.v (.int .i64 0)))), (.c (.d (.v (.int .i64 15))))], (some (8, false))⟩,
 ⟨(some 12), .un .not (.t 11), (some (8, false))⟩,
 ⟨(some 13), .pick (.t 8) (.c (.d (.v (.bool true)))) (.t 12), none⟩,
 ⟨(some 14), .mv (.t 13), none⟩,
 ⟨(some 15), .fa (.t 1) 5, (some (14, false))⟩,
 ⟨(some 16), .ld (.t 15) 1 false, (some (14, false))⟩,
 ⟨(some 17), .call 73 [(.t 16), (.c (.d (.v (.int .i64 0)))), (.c (.d (.v (.int .i64 15))))], (some (14, false))⟩,
 ⟨(some 18), .un .not (.t 17), (some (14, false))⟩,
 ⟨(some 19), .pick (.t 14) (.c (.d (.v (.bool true)))) (.t 18), none⟩,
 ⟨(some 20), .mv (.t 19), none⟩,
 ⟨(some 21), .fa (.t 1) 6, (some (20, false))⟩,
 ⟨(some 22), .ld (.t 21) 1 false, (some (20, false))⟩,
 ⟨(some 23), .call 73 [(.t 22), (.c (.d (.v (.int .i64 0)))), (.c (.d (.v (.int .i64 11))))], (some (20, false))⟩,
 ⟨(some 24), .un .not (.t 23), (some (20, false))⟩,
 ⟨(some 25), .pick (.t 20) (.c (.d (.v (.bool true)))) (.t 24), none⟩])
 (.cond (.t 25) (.seq (.reg [⟨(some 2), .mv (.c (.d (.v (.bool false)))), none⟩])
 (.ret)) (.skip)))
 (.seq (.reg [⟨(some 26), .fa (.t 1) 1, none⟩,
 ⟨(some 27), .ld (.t 26) 1 false, none⟩,
 ⟨(some 28), .un .not (.t 27), none⟩,
 ⟨(some 29), .mv (.t 28), none⟩,
 ⟨(some 30), .fa (.t 1) 6, (some (29, false))⟩,
 ⟨(some 31), .ld (.t 30) 1 false, (some (29, false))⟩,
 ⟨(some 32), .bin .eql (.t 31) (.c (.d (.v (.int .i64 0)))), (some (29, false))⟩,
 ⟨(some 33), .pick (.t 29) (.c (.d (.v (.bool true)))) (.t 32), none⟩,
 ⟨(some 34), .mv (.t 33), none⟩,
 ⟨(some 35), .fa (.t 1) 6, (some (34, false))⟩,
 ⟨(some 36), .ld (.t 35) 1 false, (some (34, false))⟩,
 ⟨(some 37), .bin .eql (.t 36) (.c (.d (.v (.int .i64 8)))), (some (34, false))⟩,
 ⟨(some 38), .pick (.t 34) (.c (.d (.v (.bool true)))) (.t 37), none⟩,
 ⟨(some 39), .mv (.t 38), none⟩,
 ⟨(some 40), .fa (.t 1) 6, (some (39, false))⟩,
 ⟨(some 41), .ld (.t 40) 1 false, (some (39, false))⟩,
 ⟨(some 42), .bin .eql (.t 41) (.c (.d (.v (.int .i64 9)))), (some (39, false))⟩,
 ⟨(some 43), .pick (.t 39) (.c (.d (.v (.bool true)))) (.t 42), none⟩,
 ⟨(some 44), .mv (.t 43), none⟩,
 ⟨(some 45), .fa (.t 1) 6, (some (44, false))⟩,
 ⟨(some 46), .ld (.t 45) 1 false, (some (44, false))⟩,
 ⟨(some 47), .bin .eql (.t 46) (.c (.d (.v (.int .i64 10)))), (some (44, false))⟩,
 ⟨(some 48), .pick (.t 44) (.c (.d (.v (.bool true)))) (.t 47), none⟩,
 ⟨(some 3), .mv (.t 48), none⟩])
 (.seq (.seq (.reg [⟨(some 49), .fa (.t 1) 0, none⟩,
 ⟨(some 50), .ld (.t 49) 1 false, none⟩])
 (.block 0 (.seq (.reg [⟨(some 52), .bin .eql (.t 50) (.c (.d (.v (.int .i64 0)))), none⟩,
 ⟨(some 51), .mv (.t 52), none⟩])
 (.cond (.t 51) (.seq (.reg [⟨(some 53), .mv (.t 3), none⟩,
 ⟨(some 54), .mv (.t 53), none⟩,
 ⟨(some 55), .fa (.t 1) 2, (some (54, true))⟩,
 ⟨(some 56), .ld (.t 55) 1 false, (some (54, true))⟩,
 ⟨(some 57), .un .not (.t 56), (some (54, true))⟩,
 ⟨(some 58), .mv (.t 57), (some (54, true))⟩,
 ⟨(some 59), .fa (.t 1) 6, (some (58, false))⟩,
 ⟨(some 60), .ld (.t 59) 1 false, (some (58, false))⟩,
 ⟨(some 61), .bin .eql (.t 60) (.c (.d (.v (.int .i64 0)))), (some (58, false))⟩,
 ⟨(some 62), .mv (.t 61), (some (58, false))⟩,
 ⟨(some 63), .fa (.t 1) 1, (some (62, true))⟩,
 ⟨(some 64), .ld (.t 63) 1 false, (some (62, true))⟩,
 ⟨(some 65), .pick (.t 62) (.t 64) (.c (.d (.v (.bool false)))), (some (58, false))⟩,
 ⟨(some 66), .pick (.t 58) (.c (.d (.v (.bool true)))) (.t 65), (some (54, true))⟩,
 ⟨(some 67), .pick (.t 54) (.t 66) (.c (.d (.v (.bool false)))), none⟩,
 ⟨(some 68), .mv (.t 67), none⟩,
 ⟨(some 69), .fa (.t 1) 7, (some (68, true))⟩,
 ⟨(some 70), .ld (.t 69) 1 false, (some (68, true))⟩,
 ⟨(some 71), .bin .eql (.t 70) (.c (.d (.v (.int .i64 0)))), (some (68, true))⟩,
 ⟨(some 72), .pick (.t 68) (.t 71) (.c (.d (.v (.bool false)))), none⟩,
 ⟨(some 2), .mv (.t 72), none⟩])
 (.ret)) (.seq (.reg [⟨(some 74), .bin .eql (.t 50) (.c (.d (.v (.int .i64 1)))), none⟩,
 ⟨(some 73), .mv (.t 74), none⟩])
 (.cond (.t 73) (.seq (.reg [⟨(some 75), .mv (.t 3), none⟩,
 ⟨(some 76), .mv (.t 75), none⟩,
 ⟨(some 77), .fa (.t 1) 5, (some (76, true))⟩,
 ⟨(some 78), .ld (.t 77) 1 false, (some (76, true))⟩,
 ⟨(some 79), .bin .eql (.t 78) (.c (.d (.v (.int .i64 0)))), (some (76, true))⟩,
 ⟨(some 80), .pick (.t 76) (.t 79) (.c (.d (.v (.bool false)))), none⟩,
 ⟨(some 81), .mv (.t 80), none⟩,
 ⟨(some 82), .fa (.t 1) 7, (some (81, true))⟩,
 ⟨(some 83), .ld (.t 82) 1 false, (some (81, true))⟩,
 ⟨(some 84), .call 73 [(.t 83), (.c (.d (.v (.int .i64 0)))), (.c (.d (.v (.int .i64 65535))))], (some (81, true))⟩,
 ⟨(some 85), .pick (.t 81) (.t 84) (.c (.d (.v (.bool false)))), none⟩,
 ⟨(some 2), .mv (.t 85), none⟩])
 (.ret)) (.seq (.reg [⟨(some 87), .bin .eql (.t 50) (.c (.d (.v (.int .i64 2)))), none⟩,
 ⟨(some 86), .mv (.t 87), none⟩])
 (.cond (.t 86) (.seq (.reg [⟨(some 88), .fa (.t 1) 5, none⟩,
 ⟨(some 89), .ld (.t 88) 1 false, none⟩,
 ⟨(some 90), .bin .eql (.t 89) (.c (.d (.v (.int .i64 0)))), none⟩,
 ⟨(some 91), .mv (.t 90), none⟩,
 ⟨(some 92), .fa (.t 1) 6, (some (91, true))⟩,
 ⟨(some 93), .ld (.t 92) 1 false, (some (91, true))⟩,
 ⟨(some 94), .bin .eql (.t 93) (.c (.d (.v (.int .i64 0)))), (some (91, true))⟩,
 ⟨(some 95), .pick (.t 91) (.t 94) (.c (.d (.v (.bool false)))), none⟩,
 ⟨(some 96), .mv (.t 95), none⟩,
 ⟨(some 97), .fa (.t 1) 7, (some (96, true))⟩,
 ⟨(some 98), .ld (.t 97) 1 false, (some (96, true))⟩,
 ⟨(some 99), .call 74 [(.t 98), (.c (.d (.v (.int .i64 20))))], (some (96, true))⟩,
 ⟨(some 100), .pick (.t 96) (.t 99) (.c (.d (.v (.bool false)))), none⟩,
 ⟨(some 2), .mv (.t 100), none⟩])
 (.ret)) (.seq (.reg [⟨(some 102), .bin .eql (.t 50) (.c (.d (.v (.int .i64 3)))), none⟩,
 ⟨(some 101), .mv (.t 102), none⟩])
 (.cond (.t 101) (.seq (.reg [⟨(some 103), .fa (.t 1) 4, none⟩,
 ⟨(some 104), .ld (.t 103) 1 false, none⟩,
 ⟨(some 105), .bin .eql (.t 104) (.c (.d (.v (.int .i64 0)))), none⟩,
 ⟨(some 106), .mv (.t 105), none⟩,
 ⟨(some 107), .fa (.t 1) 6, (some (106, true))⟩,
 ⟨(some 108), .ld (.t 107) 1 false, (some (106, true))⟩,
 ⟨(some 109), .bin .eql (.t 108) (.c (.d (.v (.int .i64 0)))), (some (106, true))⟩,
 ⟨(some 110), .pick (.t 106) (.t 109) (.c (.d (.v (.bool false)))), none⟩,
 ⟨(some 111), .mv (.t 110), none⟩,
 ⟨(some 112), .fa (.t 1) 1, (some (111, true))⟩,
 ⟨(some 113), .ld (.t 112) 1 false, (some (111, true))⟩,
 ⟨(some 114), .mv (.t 113), (some (111, true))⟩,
 ⟨(some 115), .fa (.t 1) 5, (some (114, true))⟩,
 ⟨(some 116), .ld (.t 115) 1 false, (some (114, true))⟩,
 ⟨(some 117), .bin .eql (.t 116) (.c (.d (.v (.int .i64 0)))), (some (114, true))⟩,
 ⟨(some 118), .pick (.t 114) (.t 117) (.c (.d (.v (.bool false)))), (some (111, true))⟩,
 ⟨(some 119), .mv (.t 118), (some (111, true))⟩,
 ⟨(some 120), .fa (.t 1) 7, (some (119, true))⟩,
 ⟨(some 121), .ld (.t 120) 1 false, (some (119, true))⟩,
 ⟨(some 122), .call 74 [(.t 121), (.c (.d (.v (.int .i64 24))))], (some (119, true))⟩,
 ⟨(some 123), .pick (.t 119) (.t 122) (.c (.d (.v (.bool false)))), (some (111, true))⟩,
 ⟨(some 124), .mv (.t 123), (some (111, true))⟩,
 ⟨(some 125), .fa (.t 1) 1, (some (124, false))⟩,
 ⟨(some 126), .ld (.t 125) 1 false, (some (124, false))⟩,
 ⟨(some 127), .un .not (.t 126), (some (124, false))⟩,
 ⟨(some 128), .mv (.t 127), (some (124, false))⟩,
 ⟨(some 129), .fa (.t 1) 7, (some (128, true))⟩,
 ⟨(some 130), .ld (.t 129) 1 false, (some (128, true))⟩,
 ⟨(some 131), .bin .eql (.t 130) (.c (.d (.v (.int .i64 0)))), (some (128, true))⟩,
 ⟨(some 132), .pick (.t 128) (.t 131) (.c (.d (.v (.bool false)))), (some (124, false))⟩,
 ⟨(some 133), .pick (.t 124) (.c (.d (.v (.bool true)))) (.t 132), (some (111, true))⟩,
 ⟨(some 134), .pick (.t 111) (.t 133) (.c (.d (.v (.bool false)))), none⟩,
 ⟨(some 2), .mv (.t 134), none⟩])
 (.ret)) (.skip)))))))))))
 (.seq (.reg [⟨(some 2), .mv (.c (.d (.v (.bool false)))), none⟩])
 (.ret)))))
def r45 : List RC := [.t 2]

/-- spinet/spinetref01.Put -/
def c46 : AC :=
 .seq (.reg [⟨(some 8), .mv (.c (.d (.v (.int .u32 0)))), none⟩])
 (.seq (.seq (.reg [⟨(some 10), .mv (.t 1), none⟩,
 ⟨(some 11), .mv (.t 2), none⟩,
 ⟨(some 12), .call 75 [(.t 10), (.t 11)], none⟩,
 ⟨(some 13), .un .not (.t 12), none⟩])
 (.cond (.t 13) (.seq (.reg [⟨(some 14), .mv (.t 0), none⟩,
 ⟨(some 8), .mv (.t 14), none⟩])
 (.ret)) (.skip)))
 (.seq (.reg [⟨(some 15), .mv (.t 0), none⟩,
 ⟨(some 16), .mv (.t 1), none⟩,
 ⟨(some 17), .mv (.t 2), none⟩,
 ⟨(some 18), .call 76 [(.t 15), (.t 16), (.t 17)], none⟩,
 ⟨(some 19), .cvi .u64 (.t 18), none⟩,
 ⟨(some 20), .mv (.t 1), none⟩,
 ⟨(some 21), .cvi .u32 (.t 20), none⟩,
 ⟨(some 22), .call 77 [(.t 21)], none⟩,
 ⟨(some 23), .bin .mul (.t 19) (.t 22), none⟩,
 ⟨(some 9), .mv (.t 23), none⟩])
 (.seq (.dreg [[], [0], [], [1, 2], [], [4], [], [6], [7], [5, 8], [], [10], [11, 8], [9, 12], [3, 13], [14], [15, 12, 0, 1, 2, 3, 4, 5, 6, 7, 8, 9, 10, 11, 12, 13, 14, 15]] [⟨(some 24), .mv (.t 0), none⟩,
 ⟨(some 25), .cvi .u64 (.t 24), none⟩,
 ⟨(some 26), .mv (.t 9), none⟩,
 ⟨(some 27), .bin .sub (.t 25) (.t 26), none⟩,
 ⟨(some 28), .mv (.t 3), none⟩,
 ⟨(some 29), .cvi .u64 (.t 28), none⟩,
 ⟨(some 30), .mv (.t 2), none⟩,
 ⟨(some 31), .cvi .u32 (.t 30), none⟩,
 ⟨(some 32), .call 77 [(.t 31)], none⟩,
 ⟨(some 33), .bin .rem (.t 29) (.t 32), none⟩,
 ⟨(some 34), .mv (.t 1), none⟩,
 ⟨(some 35), .cvi .u32 (.t 34), none⟩,
 ⟨(some 36), .call 77 [(.t 35)], none⟩,
 ⟨(some 37), .bin .mul (.t 33) (.t 36), none⟩,
 ⟨(some 38), .bin .add (.t 27) (.t 37), none⟩,
 ⟨(some 39), .cvi .u32 (.t 38), none⟩,
 ⟨(some 8), .mv (.t 39), none⟩])
 (.ret))))
def r46 : List RC := [.t 8]

/-- spinet/spinetref02.bit -/
def c47 : AC :=
 .seq (.reg [⟨(some 2), .mv (.c (.d (.v (.int .u32 0)))), none⟩])
 (.seq (.seq (.reg [⟨(some 3), .mv (.t 0), none⟩])
 (.cond (.t 3) (.seq (.reg [⟨(some 2), .mv (.c (.d (.v (.int .u32 1)))), none⟩])
 (.ret)) (.skip)))
 (.seq (.reg [⟨(some 2), .mv (.c (.d (.v (.int .u32 0)))), none⟩])
 (.ret)))
def r47 : List RC := [.t 2]

/-- spinet/spinetref01.Word -/
def c48 : AC :=
 .seq (.reg [⟨(some 2), .mv (.c (.d (.v (.int .u32 0)))), none⟩])
 (.seq (.reg [⟨(some 3), .mv (.t 0), none⟩,
 ⟨(some 4), .bin .rem (.t 3) (.c (.d (.v (.int .i64 4294967296)))), none⟩,
 ⟨(some 0), .mv (.t 4), none⟩])
 (.seq (.seq (.reg [⟨(some 5), .mv (.t 0), none⟩,
 ⟨(some 6), .bin .lss (.t 5) (.c (.d (.v (.int .i64 0)))), none⟩])
 (.cond (.t 6) (.reg [⟨(some 7), .mv (.t 0), none⟩,
 ⟨(some 8), .bin .add (.t 7) (.c (.d (.v (.int .i64 4294967296)))), none⟩,
 ⟨(some 0), .mv (.t 8), none⟩]) (.skip)))
 (.seq (.reg [⟨(some 9), .mv (.t 0), none⟩,
 ⟨(some 10), .cvi .u32 (.t 9), none⟩,
 ⟨(some 2), .mv (.t 10), none⟩])
 (.ret))))
def r48 : List RC := [.t 2]

/-- spinet/risc.Encode -/
def c55 : AC :=
 .seq (.reg [⟨(some 1), .bx (.t 0), none⟩,
 ⟨(some 2), .mv (.c (.d (.v (.int .u32 0)))), none⟩,
 ⟨(some 3), .mv (.c (.d (.v (.int .i64 0)))), none⟩])
 (.seq (.seq (.reg [⟨(some 5), .ld (.t 1) 8 true, none⟩,
 ⟨(some 6), .call 86 [(.t 5)], none⟩,
 ⟨(some 7), .un .not (.t 6), none⟩])
 (.cond (.t 7) (.seq (.reg [⟨(some 2), .mv (.c (.d (.v (.int .u32 0)))), none⟩,
 ⟨(some 3), .mv (.c (.d (.v (.int .i64 20)))), none⟩])
 (.ret)) (.skip)))
 (.seq (.dreg [[], [0], [1], [2], [], [4], [5], [3, 6], [], [8], [9, 6], [7, 10], [], [12], [13], [14], [11, 15], [16, 10, 0, 1, 2, 3, 4, 5, 6, 7, 8, 9, 10, 11, 12, 13, 14, 15, 16]] [⟨(some 8), .fa (.t 1) 0, none⟩,
 ⟨(some 9), .ld (.t 8) 1 false, none⟩,
 ⟨(some 10), .cvi .u32 (.t 9), none⟩,
 ⟨(some 11), .bin .shl (.t 10) (.c (.d (.v (.int .u64 30)))), none⟩,
 ⟨(some 12), .fa (.t 1) 1, none⟩,
 ⟨(some 13), .ld (.t 12) 1 false, none⟩,
 ⟨(some 14), .call 87 [(.t 13), (.c (.d (.v (.int .i64 29))))], none⟩,
 ⟨(some 15), .bin .or (.t 11) (.t 14), none⟩,
 ⟨(some 16), .fa (.t 1) 2, none⟩,
 ⟨(some 17), .ld (.t 16) 1 false, none⟩,
 ⟨(some 18), .call 87 [(.t 17), (.c (.d (.v (.int .i64 28))))], none⟩,
 ⟨(some 19), .bin .or (.t 15) (.t 18), none⟩,
 ⟨(some 20), .fa (.t 1) 3, none⟩,
 ⟨(some 21), .ld (.t 20) 1 false, none⟩,
 ⟨(some 22), .cvi .u32 (.t 21), none⟩,
 ⟨(some 23), .bin .shl (.t 22) (.c (.d (.v (.int .u64 24)))), none⟩,
 ⟨(some 24), .bin .or (.t 19) (.t 23), none⟩,
 ⟨(some 4), .mv (.t 24), none⟩])
 (.seq (.seq (.reg [⟨(some 25), .fa (.t 1) 0, none⟩,
 ⟨(some 26), .ld (.t 25) 1 false, none⟩,
 ⟨(some 27), .bin .eql (.t 26) (.c (.d (.v (.int .i64 3)))), none⟩])
 (.cond (.t 27) (.seq (.reg [⟨(some 28), .mv (.t 4), none⟩,
 ⟨(some 29), .fa (.t 1) 5, none⟩,
 ⟨(some 30), .ld (.t 29) 1 false, none⟩,
 ⟨(some 31), .cvi .u32 (.t 30), none⟩,
 ⟨(some 32), .bin .or (.t 28) (.t 31), none⟩,
 ⟨(some 33), .fa (.t 1) 7, none⟩,
 ⟨(some 34), .ld (.t 33) 1 false, none⟩,
 ⟨(some 35), .cvi .u32 (.t 34), none⟩,
 ⟨(some 36), .bin .and (.t 35) (.c (.d (.v (.int .u32 16777215)))), none⟩,
 ⟨(some 37), .bin .or (.t 32) (.t 36), none⟩,
 ⟨(some 2), .mv (.t 37), none⟩,
 ⟨(some 3), .mv (.c (.d (.v (.int .i64 0)))), none⟩])
 (.ret)) (.skip)))
 (.seq (.reg [⟨(some 38), .mv (.t 4), none⟩,
 ⟨(some 39), .fa (.t 1) 4, none⟩,
 ⟨(some 40), .ld (.t 39) 1 false, none⟩,
 ⟨(some 41), .cvi .u32 (.t 40), none⟩,
 ⟨(some 42), .bin .shl (.t 41) (.c (.d (.v (.int .u64 20)))), none⟩,
 ⟨(some 43), .bin .or (.t 38) (.t 42), none⟩,
 ⟨(some 4), .mv (.t 43), none⟩])
 (.seq (.seq (.reg [⟨(some 44), .fa (.t 1) 0, none⟩,
 ⟨(some 45), .ld (.t 44) 1 false, none⟩,
 ⟨(some 46), .bin .eql (.t 45) (.c (.d (.v (.int .i64 2)))), none⟩])
 (.cond (.t 46) (.seq (.reg [⟨(some 47), .mv (.t 4), none⟩,
 ⟨(some 48), .fa (.t 1) 7, none⟩,
 ⟨(some 49), .ld (.t 48) 1 false, none⟩,
 ⟨(some 50), .cvi .u32 (.t 49), none⟩,
 ⟨(some 51), .bin .and (.t 50) (.c (.d (.v (.int .u32 1048575)))), none⟩,
 ⟨(some 52), .bin .or (.t 47) (.t 51), none⟩,
 ⟨(some 2), .mv (.t 52), none⟩,
 ⟨(some 3), .mv (.c (.d (.v (.int .i64 0)))), none⟩])
 (.ret)) (.skip)))
 (.seq (.reg [⟨(some 53), .mv (.t 4), none⟩,
 ⟨(some 54), .fa (.t 1) 6, none⟩,
 ⟨(some 55), .ld (.t 54) 1 false, none⟩,
 ⟨(some 56), .cvi .u32 (.t 55), none⟩,
 ⟨(some 57), .bin .shl (.t 56) (.c (.d (.v (.int .u64 16)))), none⟩,
 ⟨(some 58), .bin .or (.t 53) (.t 57), none⟩,
 ⟨(some 59), .fa (.t 1) 5, none⟩,
 ⟨(some 60), .ld (.t 59) 1 false, none⟩,
 ⟨(some 61), .cvi .u32 (.t 60), none⟩,
 ⟨(some 62), .bin .or (.t 58) (.t 61), none⟩,
 ⟨(some 63), .fa (.t 1) 7, none⟩,
 ⟨(some 64), .ld (.t 63) 1 false, none⟩,
 ⟨(some 65), .cvi .u32 (.t 64), none⟩,
 ⟨(some 66), .bin .or (.t 62) (.t 65), none⟩,
 ⟨(some 2), .mv (.t 66), none⟩,
 ⟨(some 3), .mv (.c (.d (.v (.int .i64 0)))), none⟩])
 (.ret)))))))
def r55 : List RC := [.t 2, .t 3]

/-- spinet/bits.Get -/
def c58 : AC :=
 .seq (.reg [⟨(some 6), .mv (.c (.d (.v (.int .u32 0)))), none⟩])
 (.seq (.seq (.reg [⟨(some 7), .mv (.t 1), none⟩,
 ⟨(some 8), .mv (.t 2), none⟩,
 ⟨(some 9), .call 94 [(.t 7), (.t 8)], none⟩,
 ⟨(some 10), .un .not (.t 9), none⟩])
 (.cond (.t 10) (.seq (.reg [⟨(some 6), .mv (.c (.d (.v (.int .u32 0)))), none⟩])
 (.ret)) (.skip)))
 (.seq (.dreg [[], [], [0, 1], [], [3], [2, 4], [5, 4, 0, 1, 2, 3, 4, 5]] [⟨(some 11), .mv (.t 0), none⟩,
 ⟨(some 12), .mv (.t 1), none⟩,
 ⟨(some 13), .bin .shr (.t 11) (.t 12), none⟩,
 ⟨(some 14), .mv (.t 2), none⟩,
 ⟨(some 15), .call 95 [(.t 14)], none⟩,
 ⟨(some 16), .bin .and (.t 13) (.t 15), none⟩,
 ⟨(some 6), .mv (.t 16), none⟩])
 (.ret)))
def r58 : List RC := [.t 6]

/-- spinet/bits.Extend -/
def c59 : AC :=
 .seq (.reg [⟨(some 4), .mv (.c (.d (.v (.int .i64 0)))), none⟩])
 (.seq (.seq (.reg [⟨(some 5), .mv (.t 1), none⟩,
 ⟨(some 6), .bin .lss (.t 5) (.c (.d (.v (.int .i64 1)))), none⟩,
 ⟨(some 7), .mv (.t 6), none⟩,
 ⟨(some 8), .mv (.t 1), (some (7, false))⟩,
 ⟨(some 9), .bin .gtr (.t 8) (.c (.d (.v (.int .i64 32)))), (some (7, false))⟩,
 ⟨(some 10), .pick (.t 7) (.c (.d (.v (.bool true)))) (.t 9), none⟩])
 (.cond (.t 10) (.seq (.reg [⟨(some 4), .mv (.c (.d (.v (.int .i64 0)))), none⟩])
 (.ret)) (.skip)))
 (.seq (.reg [⟨(some 11), .mv (.t 0), none⟩,
 ⟨(some 12), .mv (.t 1), none⟩,
 ⟨(some 13), .bin .sub (.c (.d (.v (.int .i64 32)))) (.t 12), none⟩,
 ⟨(some 14), .bin .shl (.t 11) (.t 13), none⟩,
 ⟨(some 15), .cvi .i32 (.t 14), none⟩,
 ⟨(some 16), .mv (.t 1), none⟩,
 ⟨(some 17), .bin .sub (.c (.d (.v (.int .i64 32)))) (.t 16), none⟩,
 ⟨(some 18), .bin .shr (.t 15) (.t 17), none⟩,
 ⟨(some 19), .cvi .i64 (.t 18), none⟩,
 ⟨(some 4), .mv (.t 19), none⟩])
 (.ret)))
def r59 : List RC := [.t 4]

/-- (*spinet/memory.Memory).word -/
def c66 : AC :=
 .seq (.reg [⟨(some 4), .mv (.c .nilp), none⟩])
 (.seq (.seq (.reg [⟨(some 5), .mv (.t 1), none⟩,
 ⟨(some 6), .bin .shr (.t 5) (.c (.d (.v (.int .u64 2)))), none⟩,
 ⟨(some 7), .cvi .i64 (.t 6), none⟩,
 ⟨(some 8), .mv (.t 0), none⟩,
 ⟨(some 9), .call 40 [(.t 8)], none⟩,
 ⟨(some 10), .bin .geq (.t 7) (.t 9), none⟩])
 (.cond (.t 10) (.seq (.reg [⟨(some 4), .mv (.c .nilp), none⟩])
 (.ret)) (.skip)))
 (.seq (.reg [⟨(some 11), .mv (.t 0), none⟩,
 ⟨(some 12), .nc (.t 11), none⟩,
 ⟨(some 13), .fa (.t 12) 0, none⟩,
 ⟨(some 14), .ld (.t 13) 1 false, none⟩,
 ⟨(some 15), .mv (.t 1), none⟩,
 ⟨(some 16), .bin .shr (.t 15) (.c (.d (.v (.int .u64 2)))), none⟩,
 ⟨(some 17), .ia (.t 14) (.t 16) 1, none⟩,
 ⟨(some 4), .mv (.t 17), none⟩])
 (.ret)))
def r66 : List RC := [.t 4]

/-- (*spinet/cpu.Machine).stores -/
def c67 : AC :=
 .seq (.reg [⟨(some 8), .mv (.c (.d (.v (.bool true)))), none⟩])
 (.seq (.block 0 (.seq (.reg [⟨(some 17), .mv (.t 1), none⟩,
 ⟨(some 18), .bin .eql (.t 17) (.c (.d (.v (.int .u32 4294967240)))), none⟩,
 ⟨(some 16), .mv (.t 18), none⟩])
 (.cond (.t 16) (.seq (.seq (.reg [⟨(some 19), .mv (.t 0), none⟩,
 ⟨(some 20), .nc (.t 19), none⟩,
 ⟨(some 21), .fa (.t 20) 25, none⟩,
 ⟨(some 22), .ld (.t 21) 1 false, none⟩,
 ⟨(some 23), .len false (.t 22), none⟩,
 ⟨(some 24), .bin .eql (.t 23) (.c (.d (.v (.int .i64 4096)))), none⟩])
 (.cond (.t 24) (.seq (.reg [⟨(some 25), .mv (.t 0), none⟩,
 ⟨(some 26), .nc (.t 25), none⟩,
 ⟨(some 27), .fa (.t 26) 26, none⟩,
 ⟨none, .st (.t 27) (.c (.d (.v (.int .i64 6)))) 1, none⟩])
 (.ret)) (.skip)))
 (.reg [⟨(some 28), .mv (.t 0), none⟩,
 ⟨(some 29), .mv (.t 0), none⟩,
 ⟨(some 30), .nc (.t 29), none⟩,
 ⟨(some 31), .fa (.t 30) 25, none⟩,
 ⟨(some 32), .ld (.t 31) 1 false, none⟩,
 ⟨(some 33), .mv (.t 2), none⟩,
 ⟨(some 34), .cvi .u8 (.t 33), none⟩,
 ⟨(some 35), .bs .im 5 1 [(.t 34)], none⟩,
 ⟨(some 36), .app .gr 5 1 1 (.t 32) (.t 35), none⟩,
 ⟨(some 37), .nc (.t 28), none⟩,
 ⟨(some 38), .fa (.t 37) 25, none⟩,
 ⟨none, .st (.t 38) (.t 36) 1, none⟩])) (.seq (.reg [⟨(some 40), .mv (.t 1), none⟩,
 ⟨(some 41), .bin .eql (.t 40) (.c (.d (.v (.int .u32 4294967236)))), none⟩,
 ⟨(some 39), .mv (.t 41), none⟩])
 (.cond (.t 39) (.reg [⟨(some 42), .mv (.t 0), none⟩,
 ⟨(some 43), .mv (.t 0), none⟩,
 ⟨(some 44), .mv (.t 2), none⟩,
 ⟨(some 45), .call 104 [(.t 44)], none⟩,
 ⟨(some 46), .nc (.t 42), none⟩,
 ⟨(some 47), .fa (.t 46) 26, none⟩,
 ⟨none, .st (.t 47) (.c (.d (.v (.int .i64 2)))) 1, none⟩,
 ⟨(some 48), .nc (.t 43), none⟩,
 ⟨(some 49), .fa (.t 48) 27, none⟩,
 ⟨none, .st (.t 49) (.t 45) 1, none⟩]) (.seq (.reg [⟨(some 51), .mv (.t 1), none⟩,
 ⟨(some 52), .bin .eql (.t 51) (.c (.d (.v (.int .u32 4294967232)))), none⟩,
 ⟨(some 50), .mv (.t 52), none⟩])
 (.cond (.t 50) (.reg [⟨(some 53), .mv (.t 0), none⟩,
 ⟨(some 54), .nc (.t 53), none⟩,
 ⟨(some 55), .fa (.t 54) 26, none⟩,
 ⟨none, .st (.t 55) (.c (.d (.v (.int .i64 1)))) 1, none⟩]) (.seq (.reg [⟨(some 57), .mv (.t 3), none⟩,
 ⟨(some 56), .mv (.t 57), none⟩])
 (.cond (.t 56) (.reg [⟨(some 58), .mv (.t 0), none⟩,
 ⟨(some 59), .nc (.t 58), none⟩,
 ⟨(some 60), .fa (.t 59) 22, none⟩,
 ⟨(some 61), .ld (.t 60) 1 false, none⟩,
 ⟨(some 62), .mv (.t 1), none⟩,
 ⟨(some 63), .mv (.t 2), none⟩,
 ⟨(some 64), .call 105 [(.t 61), (.t 62), (.t 63)], none⟩,
 ⟨(some 8), .mv (.t 64), none⟩]) (.reg [⟨(some 9), .mv (.t 0), none⟩,
 ⟨(some 10), .nc (.t 9), none⟩,
 ⟨(some 11), .fa (.t 10) 22, none⟩,
 ⟨(some 12), .ld (.t 11) 1 false, none⟩,
 ⟨(some 13), .mv (.t 1), none⟩,
 ⟨(some 14), .mv (.t 2), none⟩,
 ⟨(some 15), .call 106 [(.t 12), (.t 13), (.t 14)], none⟩,
 ⟨(some 8), .mv (.t 15), none⟩]))))))))))
 (.seq (.reg [⟨(some 65), .mv (.t 8), none⟩,
 ⟨(some 66), .un .not (.t 65), none⟩])
 (.cond (.t 66) (.reg [⟨(some 67), .mv (.t 0), none⟩,
 ⟨(some 68), .nc (.t 67), none⟩,
 ⟨(some 69), .fa (.t 68) 26, none⟩,
 ⟨none, .st (.t 69) (.c (.d (.v (.int .i64 5)))) 1, none⟩]) (.skip))))
def r67 : List RC := []

/-- (*spinet/memory.Memory).Byte -/
def c68 : AC :=
 .seq (.reg [⟨(some 4), .mv (.c (.d (.v (.int .u32 0)))), none⟩,
 ⟨(some 5), .mv (.c (.d (.v (.bool false)))), none⟩])
 (.seq (.reg [⟨(some 7), .mv (.t 0), none⟩,
 ⟨(some 8), .mv (.t 1), none⟩,
 ⟨(some 9), .call 66 [(.t 7), (.t 8)], none⟩,
 ⟨(some 6), .mv (.t 9), none⟩])
 (.seq (.seq (.reg [⟨(some 10), .mv (.t 6), none⟩,
 ⟨(some 11), .eqp false (.t 10) (.c .nilp), none⟩])
 (.cond (.t 11) (.seq (.reg [⟨(some 4), .mv (.c (.d (.v (.int .u32 0)))), none⟩,
 ⟨(some 5), .mv (.c (.d (.v (.bool false)))), none⟩])
 (.ret)) (.skip)))
 (.seq (.reg [⟨(some 12), .mv (.t 6), none⟩,
 ⟨(some 13), .nc (.t 12), none⟩,
 ⟨(some 14), .ld (.t 13) 1 false, none⟩,
 ⟨(some 15), .mv (.t 1), none⟩,
 ⟨(some 16), .bin .rem (.t 15) (.c (.d (.v (.int .u32 4)))), none⟩,
 ⟨(some 17), .bin .mul (.c (.d (.v (.int .u32 8)))) (.t 16), none⟩,
 ⟨(some 18), .bin .shr (.t 14) (.t 17), none⟩,
 ⟨(some 19), .cvi .u8 (.t 18), none⟩,
 ⟨(some 20), .cvi .u32 (.t 19), none⟩,
 ⟨(some 4), .mv (.t 20), none⟩,
 ⟨(some 5), .mv (.c (.d (.v (.bool true)))), none⟩])
 (.ret))))
def r68 : List RC := [.t 4, .t 5]

/-- (*spinet/cpu.Machine).sets -/
def c69 : AC :=
 .seq (.reg [⟨(some 6), .mv (.t 0), none⟩,
 ⟨(some 7), .mv (.t 1), none⟩,
 ⟨(some 8), .mv (.t 2), none⟩,
 ⟨(some 9), .nc (.t 6), none⟩,
 ⟨(some 10), .fa (.t 9) 0, none⟩,
 ⟨(some 11), .iar (.t 10) (.t 7) 16 1, none⟩,
 ⟨none, .st (.t 11) (.t 8) 1, none⟩])
 (.reg [⟨(some 12), .mv (.t 0), none⟩,
 ⟨(some 13), .mv (.t 0), none⟩,
 ⟨(some 14), .mv (.t 2), none⟩,
 ⟨(some 15), .bin .shr (.t 14) (.c (.d (.v (.int .u64 31)))), none⟩,
 ⟨(some 16), .bin .eql (.t 15) (.c (.d (.v (.int .u32 1)))), none⟩,
 ⟨(some 17), .mv (.t 2), none⟩,
 ⟨(some 18), .bin .eql (.t 17) (.c (.d (.v (.int .u32 0)))), none⟩,
 ⟨(some 19), .nc (.t 12), none⟩,
 ⟨(some 20), .fa (.t 19) 17, none⟩,
 ⟨(some 21), .fa (.t 20) 0, none⟩,
 ⟨none, .st (.t 21) (.t 16) 1, none⟩,
 ⟨(some 22), .nc (.t 13), none⟩,
 ⟨(some 23), .fa (.t 22) 17, none⟩,
 ⟨(some 24), .fa (.t 23) 1, none⟩,
 ⟨none, .st (.t 24) (.t 18) 1, none⟩])
def r69 : List RC := []

/-- spinet/alu.Holds -/
def c70 : AC :=
 .seq (.reg [⟨(some 3), .bx (.t 1), none⟩,
 ⟨(some 4), .mv (.c (.d (.v (.bool false)))), none⟩])
 (.seq (.seq (.reg [⟨(some 6), .mv (.t 0), none⟩,
 ⟨(some 7), .bin .lss (.t 6) (.c (.d (.v (.int .i64 0)))), none⟩,
 ⟨(some 8), .mv (.t 7), none⟩,
 ⟨(some 9), .mv (.t 0), (some (8, false))⟩,
 ⟨(some 10), .bin .gtr (.t 9) (.c (.d (.v (.int .i64 15)))), (some (8, false))⟩,
 ⟨(some 11), .pick (.t 8) (.c (.d (.v (.bool true)))) (.t 10), none⟩])
 (.cond (.t 11) (.seq (.reg [⟨(some 4), .mv (.c (.d (.v (.bool false)))), none⟩])
 (.ret)) (.skip)))
 (.seq (.reg [⟨(some 5), .mv (.c (.d (.v (.bool true)))), none⟩])
 (.seq (.seq (.reg [⟨(some 12), .mv (.t 0), none⟩,
 ⟨(some 13), .bin .rem (.t 12) (.c (.d (.v (.int .i64 8)))), none⟩])
 (.block 0 (.seq (.reg [⟨(some 15), .bin .eql (.t 13) (.c (.d (.v (.int .i64 0)))), none⟩,
 ⟨(some 14), .mv (.t 15), none⟩])
 (.cond (.t 14) (.reg [⟨(some 16), .fa (.t 3) 0, none⟩,
 ⟨(some 17), .ld (.t 16) 1 false, none⟩,
 ⟨(some 5), .mv (.t 17), none⟩]) (.seq (.reg [⟨(some 19), .bin .eql (.t 13) (.c (.d (.v (.int .i64 1)))), none⟩,
 ⟨(some 18), .mv (.t 19), none⟩])
 (.cond (.t 18) (.reg [⟨(some 20), .fa (.t 3) 1, none⟩,
 ⟨(some 21), .ld (.t 20) 1 false, none⟩,
 ⟨(some 5), .mv (.t 21), none⟩]) (.seq (.reg [⟨(some 23), .bin .eql (.t 13) (.c (.d (.v (.int .i64 2)))), none⟩,
 ⟨(some 22), .mv (.t 23), none⟩])
 (.cond (.t 22) (.reg [⟨(some 24), .fa (.t 3) 2, none⟩,
 ⟨(some 25), .ld (.t 24) 1 false, none⟩,
 ⟨(some 5), .mv (.t 25), none⟩]) (.seq (.reg [⟨(some 27), .bin .eql (.t 13) (.c (.d (.v (.int .i64 3)))), none⟩,
 ⟨(some 26), .mv (.t 27), none⟩])
 (.cond (.t 26) (.reg [⟨(some 28), .fa (.t 3) 3, none⟩,
 ⟨(some 29), .ld (.t 28) 1 false, none⟩,
 ⟨(some 5), .mv (.t 29), none⟩]) (.seq (.reg [⟨(some 31), .bin .eql (.t 13) (.c (.d (.v (.int .i64 4)))), none⟩,
 ⟨(some 30), .mv (.t 31), none⟩])
 (.cond (.t 30) (.reg [⟨(some 32), .fa (.t 3) 2, none⟩,
 ⟨(some 33), .ld (.t 32) 1 false, none⟩,
 ⟨(some 34), .mv (.t 33), none⟩,
 ⟨(some 35), .fa (.t 3) 1, (some (34, false))⟩,
 ⟨(some 36), .ld (.t 35) 1 false, (some (34, false))⟩,
 ⟨(some 37), .pick (.t 34) (.c (.d (.v (.bool true)))) (.t 36), none⟩,
 ⟨(some 5), .mv (.t 37), none⟩]) (.seq (.reg [⟨(some 39), .bin .eql (.t 13) (.c (.d (.v (.int .i64 5)))), none⟩,
 ⟨(some 38), .mv (.t 39), none⟩])
 (.cond (.t 38) (.reg [⟨(some 40), .fa (.t 3) 0, none⟩,
 ⟨(some 41), .ld (.t 40) 1 false, none⟩,
 ⟨(some 42), .fa (.t 3) 3, none⟩,
 ⟨(some 43), .ld (.t 42) 1 false, none⟩,
 ⟨(some 44), .eqs true (.t 41) (.t 43), none⟩,
 ⟨(some 5), .mv (.t 44), none⟩]) (.seq (.reg [⟨(some 46), .bin .eql (.t 13) (.c (.d (.v (.int .i64 6)))), none⟩,
 ⟨(some 45), .mv (.t 46), none⟩])
 (.cond (.t 45) (.reg [⟨(some 47), .fa (.t 3) 0, none⟩,
 ⟨(some 48), .ld (.t 47) 1 false, none⟩,
 ⟨(some 49), .fa (.t 3) 3, none⟩,
 ⟨(some 50), .ld (.t 49) 1 false, none⟩,
 ⟨(some 51), .eqs true (.t 48) (.t 50), none⟩,
 ⟨(some 52), .mv (.t 51), none⟩,
 ⟨(some 53), .fa (.t 3) 1, (some (52, false))⟩,
 ⟨(some 54), .ld (.t 53) 1 false, (some (52, false))⟩,
 ⟨(some 55), .pick (.t 52) (.c (.d (.v (.bool true)))) (.t 54), none⟩,
 ⟨(some 5), .mv (.t 55), none⟩]) (.skip)))))))))))))))))
 (.seq (.reg [⟨(some 56), .mv (.t 5), none⟩,
 ⟨(some 57), .mv (.t 0), none⟩,
 ⟨(some 58), .bin .lss (.t 57) (.c (.d (.v (.int .i64 8)))), none⟩,
 ⟨(some 59), .eqs false (.t 56) (.t 58), none⟩,
 ⟨(some 4), .mv (.t 59), none⟩])
 (.ret)))))
def r70 : List RC := [.t 4]

def c71l0 : AC :=
 .seq (.reg [⟨(some 16), .bin .lss (.t 15) (.c (.d (.v (.int .i64 4)))), none⟩])
 (.seq (.cond (.t 16) (.skip) (.exit 0))
 (.seq (.block 1 (.seq (.reg [⟨(some 17), .mv (.t 15), none⟩,
 ⟨(some 18), .ixv (.t 14) (.t 15) 4, none⟩,
 ⟨(some 4), .mv (.t 17), none⟩,
 ⟨(some 5), .mv (.t 18), none⟩])
 (.seq (.reg [⟨(some 19), .mv (.t 5), none⟩])
 (.cond (.t 19) (.reg [⟨(some 20), .mv (.t 3), none⟩,
 ⟨(some 21), .mv (.t 4), none⟩,
 ⟨(some 22), .bin .add (.c (.d (.v (.int .i64 28)))) (.t 21), none⟩,
 ⟨(some 23), .call 107 [(.t 20), (.t 22), (.c (.d (.v (.int .i64 1)))), (.c (.d (.v (.int .u32 1))))], none⟩,
 ⟨(some 3), .mv (.t 23), none⟩]) (.skip)))))
 (.reg [⟨(some 24), .bin .add (.t 15) (.c (.d (.v (.int .i64 1)))), none⟩,
 ⟨(some 15), .mv (.t 24), none⟩])))

/-- spinet/cpu.packed -/
def c71 : AC :=
 .seq (.reg [⟨(some 1), .bx (.t 0), none⟩,
 ⟨(some 2), .mv (.c (.d (.v (.int .u32 0)))), none⟩])
 (.seq (.reg [⟨(some 3), .mv (.c (.d (.v (.int .u32 0)))), none⟩])
 (.seq (.seq (.reg [⟨(some 6), .fa (.t 1) 3, none⟩,
 ⟨(some 7), .ld (.t 6) 1 false, none⟩,
 ⟨(some 8), .fa (.t 1) 2, none⟩,
 ⟨(some 9), .ld (.t 8) 1 false, none⟩,
 ⟨(some 10), .fa (.t 1) 1, none⟩,
 ⟨(some 11), .ld (.t 10) 1 false, none⟩,
 ⟨(some 12), .fa (.t 1) 0, none⟩,
 ⟨(some 13), .ld (.t 12) 1 false, none⟩,
 ⟨(some 14), .bd [(.d (.v (.bool false))), (.d (.v (.bool false))), (.d (.v (.bool false))), (.d (.v (.bool false)))] [(0, 1, (.t 7)), (1, 1, (.t 9)), (2, 1, (.t 11)), (3, 1, (.t 13))], none⟩,
 ⟨(some 15), .mv (.c (.d (.v (.int .i64 0)))), none⟩])
 (.block 0 (.loop c71l0)))
 (.seq (.reg [⟨(some 25), .mv (.t 3), none⟩,
 ⟨(some 2), .mv (.t 25), none⟩])
 (.ret))))
def r71 : List RC := [.t 2]

/-- spinet/alu.Do -/
def c72 : AC :=
 .seq (.reg [⟨(some 11), .bx (.t 5), none⟩,
 ⟨(some 12), .mv (.c (.d (.v (.int .u32 0)))), none⟩,
 ⟨(some 13), .mv (.c (.d (.v (.int .u32 0)))), none⟩,
 ⟨(some 14), .al [(.d (.v (.bool false))), (.d (.v (.bool false))), (.d (.v (.bool false))), (.d (.v (.bool false)))], none⟩,
 ⟨(some 15), .mv (.c (.d (.v (.bool false)))), none⟩])
 (.seq (.seq (.reg [⟨(some 17), .mv (.t 0), none⟩,
 ⟨(some 18), .bin .lss (.t 17) (.c (.d (.v (.int .i64 0)))), none⟩,
 ⟨(some 19), .mv (.t 18), none⟩,
 ⟨(some 20), .mv (.t 0), (some (19, false))⟩,
 ⟨(some 21), .bin .gtr (.t 20) (.c (.d (.v (.int .i64 11)))), (some (19, false))⟩,
 ⟨(some 22), .pick (.t 19) (.c (.d (.v (.bool true)))) (.t 21), none⟩,
 ⟨(some 23), .mv (.t 22), none⟩,
 ⟨(some 24), .mv (.t 1), (some (23, false))⟩,
 ⟨(some 25), .mv (.t 24), (some (23, false))⟩,
 ⟨(some 26), .mv (.t 0), (some (25, true))⟩,
 ⟨(some 27), .bin .neq (.t 26) (.c (.d (.v (.int .i64 0)))), (some (25, true))⟩,
 ⟨(some 28), .pick (.t 25) (.t 27) (.c (.d (.v (.bool false)))), (some (23, false))⟩,
 ⟨(some 29), .mv (.t 28), (some (23, false))⟩,
 ⟨(some 30), .mv (.t 0), (some (29, true))⟩,
 ⟨(some 31), .bin .lss (.t 30) (.c (.d (.v (.int .i64 8)))), (some (29, true))⟩,
 ⟨(some 32), .mv (.t 31), (some (29, true))⟩,
 ⟨(some 33), .mv (.t 0), (some (32, false))⟩,
 ⟨(some 34), .bin .gtr (.t 33) (.c (.d (.v (.int .i64 10)))), (some (32, false))⟩,
 ⟨(some 35), .pick (.t 32) (.c (.d (.v (.bool true)))) (.t 34), (some (29, true))⟩,
 ⟨(some 36), .pick (.t 29) (.t 35) (.c (.d (.v (.bool false)))), (some (23, false))⟩,
 ⟨(some 37), .pick (.t 23) (.c (.d (.v (.bool true)))) (.t 36), none⟩])
 (.cond (.t 37) (.seq (.reg [⟨(some 38), .bd [(.d (.v (.bool false))), (.d (.v (.bool false))), (.d (.v (.bool false))), (.d (.v (.bool false)))] [], none⟩,
 ⟨(some 12), .mv (.c (.d (.v (.int .u32 0)))), none⟩,
 ⟨(some 13), .mv (.c (.d (.v (.int .u32 0)))), none⟩,
 ⟨none, .st (.t 14) (.t 38) 4, none⟩,
 ⟨(some 15), .mv (.c (.d (.v (.bool false)))), none⟩])
 (.ret)) (.skip)))
 (.seq (.reg [⟨(some 16), .mv (.c (.d (.v (.int .u32 0)))), none⟩])
 (.seq (.seq (.reg [⟨(some 39), .mv (.t 1), none⟩,
 ⟨(some 40), .mv (.t 39), none⟩,
 ⟨(some 41), .fa (.t 11) 2, (some (40, true))⟩,
 ⟨(some 42), .ld (.t 41) 1 false, (some (40, true))⟩,
 ⟨(some 43), .pick (.t 40) (.t 42) (.c (.d (.v (.bool false)))), none⟩])
 (.cond (.t 43) (.reg [⟨(some 16), .mv (.c (.d (.v (.int .u32 1)))), none⟩]) (.skip)))
 (.seq (.reg [⟨(some 44), .mv (.t 4), none⟩,
 ⟨(some 13), .mv (.t 44), none⟩])
 (.seq (.seq (.reg [⟨(some 45), .mv (.t 0), none⟩])
 (.block 0 (.seq (.reg [⟨(some 47), .bin .eql (.t 45) (.c (.d (.v (.int .i64 0)))), none⟩,
 ⟨(some 46), .mv (.t 47), none⟩])
 (.cond (.t 46) (.seq (.reg [⟨(some 48), .mv (.t 3), none⟩,
 ⟨(some 12), .mv (.t 48), none⟩])
 (.seq (.reg [⟨(some 49), .mv (.t 1), none⟩])
 (.cond (.t 49) (.reg [⟨(some 50), .mv (.t 4), none⟩,
 ⟨(some 12), .mv (.t 50), none⟩]) (.skip)))) (.seq (.reg [⟨(some 52), .bin .eql (.t 45) (.c (.d (.v (.int .i64 1)))), none⟩,
 ⟨(some 51), .mv (.t 52), none⟩])
 (.cond (.t 51) (.reg [⟨(some 53), .mv (.t 2), none⟩,
 ⟨(some 54), .mv (.t 3), none⟩,
 ⟨(some 55), .call 108 [(.t 53), (.t 54)], none⟩,
 ⟨(some 12), .mv (.t 55), none⟩]) (.seq (.reg [⟨(some 57), .bin .eql (.t 45) (.c (.d (.v (.int .i64 2)))), none⟩,
 ⟨(some 56), .mv (.t 57), none⟩])
 (.cond (.t 56) (.reg [⟨(some 58), .mv (.t 2), none⟩,
 ⟨(some 59), .mv (.t 3), none⟩,
 ⟨(some 60), .call 109 [(.t 58), (.t 59)], none⟩,
 ⟨(some 12), .mv (.t 60), none⟩]) (.seq (.reg [⟨(some 62), .bin .eql (.t 45) (.c (.d (.v (.int .i64 3)))), none⟩,
 ⟨(some 61), .mv (.t 62), none⟩])
 (.cond (.t 61) (.reg [⟨(some 63), .mv (.t 2), none⟩,
 ⟨(some 64), .mv (.t 3), none⟩,
 ⟨(some 65), .call 110 [(.t 63), (.t 64)], none⟩,
 ⟨(some 12), .mv (.t 65), none⟩]) (.seq (.reg [⟨(some 67), .bin .eql (.t 45) (.c (.d (.v (.int .i64 4)))), none⟩,
 ⟨(some 66), .mv (.t 67), none⟩])
 (.cond (.t 66) (.reg [⟨(some 68), .mv (.t 2), none⟩,
 ⟨(some 69), .mv (.t 3), none⟩,
 ⟨(some 70), .bin .and (.t 68) (.t 69), none⟩,
 ⟨(some 12), .mv (.t 70), none⟩]) (.seq (.reg [⟨(some 72), .bin .eql (.t 45) (.c (.d (.v (.int .i64 5)))), none⟩,
 ⟨(some 71), .mv (.t 72), none⟩])
 (.cond (.t 71) (.reg [⟨(some 73), .mv (.t 2), none⟩,
 ⟨(some 74), .mv (.t 3), none⟩,
 ⟨(some 75), .bin .andNot (.t 73) (.t 74), none⟩,
 ⟨(some 12), .mv (.t 75), none⟩]) (.seq (.reg [⟨(some 77), .bin .eql (.t 45) (.c (.d (.v (.int .i64 6)))), none⟩,
 ⟨(some 76), .mv (.t 77), none⟩])
 (.cond (.t 76) (.reg [⟨(some 78), .mv (.t 2), none⟩,
 ⟨(some 79), .mv (.t 3), none⟩,
 ⟨(some 80), .bin .or (.t 78) (.t 79), none⟩,
 ⟨(some 12), .mv (.t 80), none⟩]) (.seq (.reg [⟨(some 82), .bin .eql (.t 45) (.c (.d (.v (.int .i64 7)))), none⟩,
 ⟨(some 81), .mv (.t 82), none⟩])
 (.cond (.t 81) (.reg [⟨(some 83), .mv (.t 2), none⟩,
 ⟨(some 84), .mv (.t 3), none⟩,
 ⟨(some 85), .bin .xor (.t 83) (.t 84), none⟩,
 ⟨(some 12), .mv (.t 85), none⟩]) (.seq (.reg [⟨(some 87), .bin .eql (.t 45) (.c (.d (.v (.int .i64 8)))), none⟩,
 ⟨(some 86), .mv (.t 87), none⟩])
 (.cond (.t 86) (.seq (.reg [⟨(some 88), .mv (.t 2), none⟩,
 ⟨(some 89), .mv (.t 3), none⟩,
 ⟨(some 90), .bin .add (.t 88) (.t 89), none⟩,
 ⟨(some 91), .mv (.t 16), none⟩,
 ⟨(some 92), .bin .add (.t 90) (.t 91), none⟩,
 ⟨(some 12), .mv (.t 92), none⟩])
 (.seq (.reg [⟨(some 93), .mv (.t 2), none⟩,
 ⟨(some 94), .cvi .u64 (.t 93), none⟩,
 ⟨(some 95), .mv (.t 3), none⟩,
 ⟨(some 96), .cvi .u64 (.t 95), none⟩,
 ⟨(some 97), .bin .add (.t 94) (.t 96), none⟩,
 ⟨(some 98), .mv (.t 16), none⟩,
 ⟨(some 99), .cvi .u64 (.t 98), none⟩,
 ⟨(some 100), .bin .add (.t 97) (.t 99), none⟩,
 ⟨(some 101), .bin .geq (.t 100) (.c (.d (.v (.int .u64 4294967296)))), none⟩,
 ⟨(some 102), .fa (.t 11) 2, none⟩,
 ⟨none, .st (.t 102) (.t 101) 1, none⟩])
 (.reg [⟨(some 103), .mv (.t 2), none⟩,
 ⟨(some 104), .cvi .i32 (.t 103), none⟩,
 ⟨(some 105), .cvi .i64 (.t 104), none⟩,
 ⟨(some 106), .mv (.t 3), none⟩,
 ⟨(some 107), .cvi .i32 (.t 106), none⟩,
 ⟨(some 108), .cvi .i64 (.t 107), none⟩,
 ⟨(some 109), .bin .add (.t 105) (.t 108), none⟩,
 ⟨(some 110), .mv (.t 16), none⟩,
 ⟨(some 111), .cvi .i64 (.t 110), none⟩,
 ⟨(some 112), .bin .add (.t 109) (.t 111), none⟩,
 ⟨(some 113), .call 111 [(.t 112)], none⟩,
 ⟨(some 114), .fa (.t 11) 3, none⟩,
 ⟨none, .st (.t 114) (.t 113) 1, none⟩]))) (.seq (.reg [⟨(some 116), .bin .eql (.t 45) (.c (.d (.v (.int .i64 9)))), none⟩,
 ⟨(some 115), .mv (.t 116), none⟩])
 (.cond (.t 115) (.seq (.reg [⟨(some 117), .mv (.t 2), none⟩,
 ⟨(some 118), .mv (.t 3), none⟩,
 ⟨(some 119), .bin .sub (.t 117) (.t 118), none⟩,
 ⟨(some 120), .mv (.t 16), none⟩,
 ⟨(some 121), .bin .sub (.t 119) (.t 120), none⟩,
 ⟨(some 12), .mv (.t 121), none⟩])
 (.seq (.reg [⟨(some 122), .mv (.t 2), none⟩,
 ⟨(some 123), .cvi .u64 (.t 122), none⟩,
 ⟨(some 124), .mv (.t 3), none⟩,
 ⟨(some 125), .cvi .u64 (.t 124), none⟩,
 ⟨(some 126), .mv (.t 16), none⟩,
 ⟨(some 127), .cvi .u64 (.t 126), none⟩,
 ⟨(some 128), .bin .add (.t 125) (.t 127), none⟩,
 ⟨(some 129), .bin .lss (.t 123) (.t 128), none⟩,
 ⟨(some 130), .fa (.t 11) 2, none⟩,
 ⟨none, .st (.t 130) (.t 129) 1, none⟩])
 (.reg [⟨(some 131), .mv (.t 2), none⟩,
 ⟨(some 132), .cvi .i32 (.t 131), none⟩,
 ⟨(some 133), .cvi .i64 (.t 132), none⟩,
 ⟨(some 134), .mv (.t 3), none⟩,
 ⟨(some 135), .cvi .i32 (.t 134), none⟩,
 ⟨(some 136), .cvi .i64 (.t 135), none⟩,
 ⟨(some 137), .bin .sub (.t 133) (.t 136), none⟩,
 ⟨(some 138), .mv (.t 16), none⟩,
 ⟨(some 139), .cvi .i64 (.t 138), none⟩,
 ⟨(some 140), .bin .sub (.t 137) (.t 139), none⟩,
 ⟨(some 141), .call 111 [(.t 140)], none⟩,
 ⟨(some 142), .fa (.t 11) 3, none⟩,
 ⟨none, .st (.t 142) (.t 141) 1, none⟩]))) (.seq (.reg [⟨(some 144), .bin .eql (.t 45) (.c (.d (.v (.int .i64 10)))), none⟩,
 ⟨(some 143), .mv (.t 144), none⟩])
 (.cond (.t 143) (.reg [⟨(some 146), .mv (.t 1), none⟩,
 ⟨(some 147), .mv (.t 2), none⟩,
 ⟨(some 148), .mv (.t 3), none⟩,
 ⟨(some 149), .call 112 [(.t 146), (.t 147), (.t 148)], none⟩,
 ⟨(some 145), .mv (.t 149), none⟩,
 ⟨(some 150), .ext (.t 145) 0, none⟩,
 ⟨(some 151), .ext (.t 145) 1, none⟩,
 ⟨(some 12), .mv (.t 150), none⟩,
 ⟨(some 13), .mv (.t 151), none⟩]) (.seq (.reg [⟨(some 153), .bin .eql (.t 45) (.c (.d (.v (.int .i64 11)))), none⟩,
 ⟨(some 152), .mv (.t 153), none⟩])
 (.cond (.t 152) (.reg [⟨(some 155), .mv (.t 2), none⟩,
 ⟨(some 156), .mv (.t 3), none⟩,
 ⟨(some 157), .call 113 [(.t 155), (.t 156)], none⟩,
 ⟨(some 154), .mv (.t 157), none⟩,
 ⟨(some 158), .ext (.t 154) 0, none⟩,
 ⟨(some 159), .ext (.t 154) 1, none⟩,
 ⟨(some 12), .mv (.t 158), none⟩,
 ⟨(some 13), .mv (.t 159), none⟩]) (.skip)))))))))))))))))))))))))))
 (.seq (.reg [⟨(some 160), .mv (.t 12), none⟩,
 ⟨(some 161), .bin .shr (.t 160) (.c (.d (.v (.int .u64 31)))), none⟩,
 ⟨(some 162), .bin .eql (.t 161) (.c (.d (.v (.int .u32 1)))), none⟩,
 ⟨(some 163), .mv (.t 12), none⟩,
 ⟨(some 164), .bin .eql (.t 163) (.c (.d (.v (.int .u32 0)))), none⟩,
 ⟨(some 165), .fa (.t 11) 0, none⟩,
 ⟨none, .st (.t 165) (.t 162) 1, none⟩,
 ⟨(some 166), .fa (.t 11) 1, none⟩,
 ⟨none, .st (.t 166) (.t 164) 1, none⟩])
 (.seq (.dreg [[], [], [], [0, 0], [1, 3, 0, 1, 3], [2, 4, 0, 1, 2, 3, 4], [5, 0, 1, 2, 3, 4, 5]] [⟨(some 167), .mv (.t 12), none⟩,
 ⟨(some 168), .mv (.t 13), none⟩,
 ⟨(some 169), .ld (.t 11) 4 true, none⟩,
 ⟨(some 12), .mv (.t 167), none⟩,
 ⟨(some 13), .mv (.t 168), none⟩,
 ⟨none, .st (.t 14) (.t 169) 4, none⟩,
 ⟨(some 15), .mv (.c (.d (.v (.bool true)))), none⟩])
 (.ret))))))))
def r72 : List RC := [.t 12, .t 13, .c 14 4 true, .t 15]

/-- spinet/spinetref02.in -/
def c73 : AC :=
 .seq (.reg [⟨(some 6), .mv (.c (.d (.v (.bool false)))), none⟩])
 (.seq (.reg [⟨(some 7), .mv (.t 0), none⟩,
 ⟨(some 8), .mv (.t 1), none⟩,
 ⟨(some 9), .bin .geq (.t 7) (.t 8), none⟩,
 ⟨(some 10), .mv (.t 9), none⟩,
 ⟨(some 11), .mv (.t 0), (some (10, true))⟩,
 ⟨(some 12), .mv (.t 2), (some (10, true))⟩,
 ⟨(some 13), .bin .leq (.t 11) (.t 12), (some (10, true))⟩,
 ⟨(some 14), .pick (.t 10) (.t 13) (.c (.d (.v (.bool false)))), none⟩,
 ⟨(some 6), .mv (.t 14), none⟩])
 (.ret))
def r73 : List RC := [.t 6]

/-- spinet/spinetref01.Fits -/
def c74 : AC :=
 .seq (.reg [⟨(some 4), .mv (.c (.d (.v (.bool false)))), none⟩])
 (.seq (.seq (.reg [⟨(some 6), .mv (.t 1), none⟩,
 ⟨(some 7), .bin .lss (.t 6) (.c (.d (.v (.int .i64 1)))), none⟩,
 ⟨(some 8), .mv (.t 7), none⟩,
 ⟨(some 9), .mv (.t 1), (some (8, false))⟩,
 ⟨(some 10), .bin .gtr (.t 9) (.c (.d (.v (.int .i64 32)))), (some (8, false))⟩,
 ⟨(some 11), .pick (.t 8) (.c (.d (.v (.bool true)))) (.t 10), none⟩])
 (.cond (.t 11) (.seq (.reg [⟨(some 4), .mv (.c (.d (.v (.bool false)))), none⟩])
 (.ret)) (.skip)))
 (.seq (.reg [⟨(some 12), .mv (.t 1), none⟩,
 ⟨(some 13), .cvi .u32 (.t 12), none⟩,
 ⟨(some 14), .call 77 [(.t 13)], none⟩,
 ⟨(some 15), .cvi .i64 (.t 14), none⟩,
 ⟨(some 16), .bin .quo (.t 15) (.c (.d (.v (.int .i64 2)))), none⟩,
 ⟨(some 5), .mv (.t 16), none⟩])
 (.seq (.reg [⟨(some 17), .mv (.t 0), none⟩,
 ⟨(some 18), .mv (.t 5), none⟩,
 ⟨(some 19), .un .neg (.t 18), none⟩,
 ⟨(some 20), .bin .geq (.t 17) (.t 19), none⟩,
 ⟨(some 21), .mv (.t 20), none⟩,
 ⟨(some 22), .mv (.t 0), (some (21, true))⟩,
 ⟨(some 23), .mv (.t 5), (some (21, true))⟩,
 ⟨(some 24), .bin .lss (.t 22) (.t 23), (some (21, true))⟩,
 ⟨(some 25), .pick (.t 21) (.t 24) (.c (.d (.v (.bool false)))), none⟩,
 ⟨(some 4), .mv (.t 25), none⟩])
 (.ret))))
def r74 : List RC := [.t 4]

/-- spinet/spinetref01.may -/
def c75 : AC :=
 .seq (.reg [⟨(some 4), .mv (.c (.d (.v (.bool false)))), none⟩])
 (.seq (.reg [⟨(some 5), .mv (.t 0), none⟩,
 ⟨(some 6), .bin .geq (.t 5) (.c (.d (.v (.int .i64 0)))), none⟩,
 ⟨(some 7), .mv (.t 6), none⟩,
 ⟨(some 8), .mv (.t 1), (some (7, true))⟩,
 ⟨(some 9), .bin .geq (.t 8) (.c (.d (.v (.int .i64 1)))), (some (7, true))⟩,
 ⟨(some 10), .pick (.t 7) (.t 9) (.c (.d (.v (.bool false)))), none⟩,
 ⟨(some 11), .mv (.t 10), none⟩,
 ⟨(some 12), .mv (.t 0), (some (11, true))⟩,
 ⟨(some 13), .bin .leq (.t 12) (.c (.d (.v (.int .i64 31)))), (some (11, true))⟩,
 ⟨(some 14), .pick (.t 11) (.t 13) (.c (.d (.v (.bool false)))), none⟩,
 ⟨(some 15), .mv (.t 14), none⟩,
 ⟨(some 16), .mv (.t 1), (some (15, true))⟩,
 ⟨(some 17), .mv (.t 0), (some (15, true))⟩,
 ⟨(some 18), .bin .sub (.c (.d (.v (.int .i64 32)))) (.t 17), (some (15, true))⟩,
 ⟨(some 19), .bin .leq (.t 16) (.t 18), (some (15, true))⟩,
 ⟨(some 20), .pick (.t 15) (.t 19) (.c (.d (.v (.bool false)))), none⟩,
 ⟨(some 4), .mv (.t 20), none⟩])
 (.ret))
def r75 : List RC := [.t 4]

/-- spinet/spinetref01.Get -/
def c76 : AC :=
 .seq (.reg [⟨(some 6), .mv (.c (.d (.v (.int .u32 0)))), none⟩])
 (.seq (.seq (.reg [⟨(some 7), .mv (.t 1), none⟩,
 ⟨(some 8), .mv (.t 2), none⟩,
 ⟨(some 9), .call 75 [(.t 7), (.t 8)], none⟩,
 ⟨(some 10), .un .not (.t 9), none⟩])
 (.cond (.t 10) (.seq (.reg [⟨(some 6), .mv (.c (.d (.v (.int .u32 0)))), none⟩])
 (.ret)) (.skip)))
 (.seq (.dreg [[], [0], [], [2], [3], [1, 4], [], [6], [7, 4], [5, 8], [9], [10, 8, 0, 1, 2, 3, 4, 5, 6, 7, 8, 9, 10]] [⟨(some 11), .mv (.t 0), none⟩,
 ⟨(some 12), .cvi .u64 (.t 11), none⟩,
 ⟨(some 13), .mv (.t 1), none⟩,
 ⟨(some 14), .cvi .u32 (.t 13), none⟩,
 ⟨(some 15), .call 77 [(.t 14)], none⟩,
 ⟨(some 16), .bin .quo (.t 12) (.t 15), none⟩,
 ⟨(some 17), .mv (.t 2), none⟩,
 ⟨(some 18), .cvi .u32 (.t 17), none⟩,
 ⟨(some 19), .call 77 [(.t 18)], none⟩,
 ⟨(some 20), .bin .rem (.t 16) (.t 19), none⟩,
 ⟨(some 21), .cvi .u32 (.t 20), none⟩,
 ⟨(some 6), .mv (.t 21), none⟩])
 (.ret)))
def r76 : List RC := [.t 6]

def c77l0 : AC :=
 .seq (.seq (.reg [⟨(some 5), .mv (.t 4), none⟩,
 ⟨(some 6), .mv (.t 0), none⟩,
 ⟨(some 7), .bin .lss (.t 5) (.t 6), none⟩])
 (.cond (.t 7) (.skip) (.exit 0)))
 (.seq (.block 1 (.reg [⟨(some 10), .mv (.t 3), none⟩,
 ⟨(some 11), .bin .mul (.t 10) (.c (.d (.v (.int .u64 2)))), none⟩,
 ⟨(some 3), .mv (.t 11), none⟩]))
 (.reg [⟨(some 8), .mv (.t 4), none⟩,
 ⟨(some 9), .bin .add (.t 8) (.c (.d (.v (.int .u32 1)))), none⟩,
 ⟨(some 4), .mv (.t 9), none⟩]))

/-- spinet/spinetref01.pow -/
def c77 : AC :=
 .seq (.reg [⟨(some 2), .mv (.c (.d (.v (.int .u64 0)))), none⟩])
 (.seq (.reg [⟨(some 3), .mv (.c (.d (.v (.int .u64 1)))), none⟩])
 (.seq (.seq (.reg [⟨(some 4), .mv (.c (.d (.v (.int .u32 0)))), none⟩])
 (.block 0 (.loop c77l0)))
 (.seq (.reg [⟨(some 12), .mv (.t 3), none⟩,
 ⟨(some 2), .mv (.t 12), none⟩])
 (.ret))))
def r77 : List RC := [.t 2]

/-- spinet/risc.Good -/
def c86 : AC :=
 .seq (.reg [⟨(some 1), .bx (.t 0), none⟩,
 ⟨(some 2), .mv (.c (.d (.v (.bool false)))), none⟩])
 (.seq (.reg [⟨(some 5), .fa (.t 1) 0, none⟩,
 ⟨(some 6), .ld (.t 5) 1 false, none⟩,
 ⟨(some 7), .fa (.t 1) 1, none⟩,
 ⟨(some 8), .ld (.t 7) 1 false, none⟩,
 ⟨(some 9), .fa (.t 1) 2, none⟩,
 ⟨(some 10), .ld (.t 9) 1 false, none⟩,
 ⟨(some 11), .fa (.t 1) 3, none⟩,
 ⟨(some 12), .ld (.t 11) 1 false, none⟩,
 ⟨(some 13), .bd [(.d (.v (.int .i64 0))), (.d (.v (.bool false))), (.d (.v (.bool false))), (.d (.v (.int .i64 0))), (.d (.v (.int .i64 0))), (.d (.v (.int .i64 0))), (.d (.v (.int .i64 0))), (.d (.v (.int .i64 0)))] [(0, 1, (.t 6)), (1, 1, (.t 8)), (2, 1, (.t 10)), (3, 1, (.t 12))], none⟩,
 ⟨(some 3), .al [(.d (.v (.int .i64 0))), (.d (.v (.bool false))), (.d (.v (.bool false))), (.d (.v (.int .i64 0))), (.d (.v (.int .i64 0))), (.d (.v (.int .i64 0))), (.d (.v (.int .i64 0))), (.d (.v (.int .i64 0)))], none⟩,
 ⟨none, .st (.t 3) (.t 13) 8, none⟩])
 (.seq (.reg [⟨(some 14), .fa (.t 1) 3, none⟩,
 ⟨(some 15), .ld (.t 14) 1 false, none⟩,
 ⟨(some 16), .call 121 [(.t 15), (.c (.d (.v (.int .i64 4))))], none⟩,
 ⟨(some 4), .mv (.t 16), none⟩])
 (.seq (.seq (.reg [⟨(some 17), .fa (.t 1) 0, none⟩,
 ⟨(some 18), .ld (.t 17) 1 false, none⟩])
 (.block 0 (.seq (.reg [⟨(some 20), .bin .eql (.t 18) (.c (.d (.v (.int .i64 0)))), none⟩,
 ⟨(some 19), .mv (.t 20), none⟩])
 (.cond (.t 19) (.seq (.dreg [[], [0], [], [2], [], [4], [0, 1], [6, 1, 0, 1], [0, 1, 2, 3, 6, 7], [8, 3, 7, 0, 1, 2, 3, 6, 7], [0, 1, 2, 3, 4, 5, 6, 7, 8, 9], [10, 5, 9, 0, 1, 2, 3, 4, 5, 6, 7, 8, 9]] [⟨(some 21), .fa (.t 1) 4, none⟩,
 ⟨(some 22), .ld (.t 21) 1 false, none⟩,
 ⟨(some 23), .fa (.t 1) 5, none⟩,
 ⟨(some 24), .ld (.t 23) 1 false, none⟩,
 ⟨(some 25), .fa (.t 1) 6, none⟩,
 ⟨(some 26), .ld (.t 25) 1 false, none⟩,
 ⟨(some 27), .fa (.t 3) 4, none⟩,
 ⟨none, .st (.t 27) (.t 22) 1, none⟩,
 ⟨(some 28), .fa (.t 3) 5, none⟩,
 ⟨none, .st (.t 28) (.t 24) 1, none⟩,
 ⟨(some 29), .fa (.t 3) 6, none⟩,
 ⟨none, .st (.t 29) (.t 26) 1, none⟩])
 (.reg [⟨(some 30), .mv (.t 4), none⟩,
 ⟨(some 31), .mv (.t 30), none⟩,
 ⟨(some 32), .fa (.t 1) 2, (some (31, true))⟩,
 ⟨(some 33), .ld (.t 32) 1 false, (some (31, true))⟩,
 ⟨(some 34), .un .not (.t 33), (some (31, true))⟩,
 ⟨(some 35), .mv (.t 34), (some (31, true))⟩,
 ⟨(some 36), .fa (.t 1) 1, (some (35, false))⟩,
 ⟨(some 37), .ld (.t 36) 1 false, (some (35, false))⟩,
 ⟨(some 38), .mv (.t 37), (some (35, false))⟩,
 ⟨(some 39), .fa (.t 1) 6, (some (38, true))⟩,
 ⟨(some 40), .ld (.t 39) 1 false, (some (38, true))⟩,
 ⟨(some 41), .bin .eql (.t 40) (.c (.d (.v (.int .i64 0)))), (some (38, true))⟩,
 ⟨(some 42), .pick (.t 38) (.t 41) (.c (.d (.v (.bool false)))), (some (35, false))⟩,
 ⟨(some 43), .pick (.t 35) (.c (.d (.v (.bool true)))) (.t 42), (some (31, true))⟩,
 ⟨(some 44), .pick (.t 31) (.t 43) (.c (.d (.v (.bool false)))), none⟩,
 ⟨(some 4), .mv (.t 44), none⟩])) (.seq (.reg [⟨(some 46), .bin .eql (.t 18) (.c (.d (.v (.int .i64 1)))), none⟩,
 ⟨(some 45), .mv (.t 46), none⟩])
 (.cond (.t 45) (.seq (.dreg [[], [0], [], [2], [], [4], [0, 1], [6, 1, 0, 1], [0, 1, 2, 3, 6, 7], [8, 3, 7, 0, 1, 2, 3, 6, 7], [0, 1, 2, 3, 4, 5, 6, 7, 8, 9], [10, 5, 9, 0, 1, 2, 3, 4, 5, 6, 7, 8, 9]] [⟨(some 47), .fa (.t 1) 4, none⟩,
 ⟨(some 48), .ld (.t 47) 1 false, none⟩,
 ⟨(some 49), .fa (.t 1) 6, none⟩,
 ⟨(some 50), .ld (.t 49) 1 false, none⟩,
 ⟨(some 51), .fa (.t 1) 7, none⟩,
 ⟨(some 52), .ld (.t 51) 1 false, none⟩,
 ⟨(some 53), .fa (.t 3) 4, none⟩,
 ⟨none, .st (.t 53) (.t 48) 1, none⟩,
 ⟨(some 54), .fa (.t 3) 6, none⟩,
 ⟨none, .st (.t 54) (.t 50) 1, none⟩,
 ⟨(some 55), .fa (.t 3) 7, none⟩,
 ⟨none, .st (.t 55) (.t 52) 1, none⟩])
 (.reg [⟨(some 56), .mv (.t 4), none⟩,
 ⟨(some 57), .mv (.t 56), none⟩,
 ⟨(some 58), .fa (.t 1) 7, (some (57, true))⟩,
 ⟨(some 59), .ld (.t 58) 1 false, (some (57, true))⟩,
 ⟨(some 60), .call 121 [(.t 59), (.c (.d (.v (.int .i64 16))))], (some (57, true))⟩,
 ⟨(some 61), .pick (.t 57) (.t 60) (.c (.d (.v (.bool false)))), none⟩,
 ⟨(some 4), .mv (.t 61), none⟩])) (.seq (.reg [⟨(some 63), .bin .eql (.t 18) (.c (.d (.v (.int .i64 2)))), none⟩,
 ⟨(some 62), .mv (.t 63), none⟩])
 (.cond (.t 62) (.seq (.dreg [[], [0], [], [2], [0, 1], [4, 1, 0, 1], [0, 1, 2, 3, 4, 5], [6, 3, 5, 0, 1, 2, 3, 4, 5]] [⟨(some 64), .fa (.t 1) 4, none⟩,
 ⟨(some 65), .ld (.t 64) 1 false, none⟩,
 ⟨(some 66), .fa (.t 1) 7, none⟩,
 ⟨(some 67), .ld (.t 66) 1 false, none⟩,
 ⟨(some 68), .fa (.t 3) 4, none⟩,
 ⟨none, .st (.t 68) (.t 65) 1, none⟩,
 ⟨(some 69), .fa (.t 3) 7, none⟩,
 ⟨none, .st (.t 69) (.t 67) 1, none⟩])
 (.reg [⟨(some 70), .mv (.t 4), none⟩,
 ⟨(some 71), .mv (.t 70), none⟩,
 ⟨(some 72), .fa (.t 1) 7, (some (71, true))⟩,
 ⟨(some 73), .ld (.t 72) 1 false, (some (71, true))⟩,
 ⟨(some 74), .call 122 [(.t 73), (.c (.d (.v (.int .i64 20))))], (some (71, true))⟩,
 ⟨(some 75), .pick (.t 71) (.t 74) (.c (.d (.v (.bool false)))), none⟩,
 ⟨(some 4), .mv (.t 75), none⟩])) (.seq (.reg [⟨(some 77), .bin .eql (.t 18) (.c (.d (.v (.int .i64 3)))), none⟩,
 ⟨(some 76), .mv (.t 77), none⟩])
 (.cond (.t 76) (.seq (.seq (.reg [⟨(some 78), .fa (.t 1) 1, none⟩,
 ⟨(some 79), .ld (.t 78) 1 false, none⟩])
 (.cond (.t 79) (.reg [⟨(some 80), .fa (.t 1) 7, none⟩,
 ⟨(some 81), .ld (.t 80) 1 false, none⟩,
 ⟨(some 82), .fa (.t 3) 7, none⟩,
 ⟨none, .st (.t 82) (.t 81) 1, none⟩]) (.reg [⟨(some 83), .fa (.t 1) 5, none⟩,
 ⟨(some 84), .ld (.t 83) 1 false, none⟩,
 ⟨(some 85), .fa (.t 3) 5, none⟩,
 ⟨none, .st (.t 85) (.t 84) 1, none⟩])))
 (.reg [⟨(some 86), .mv (.t 4), none⟩,
 ⟨(some 87), .mv (.t 86), none⟩,
 ⟨(some 88), .fa (.t 1) 7, (some (87, true))⟩,
 ⟨(some 89), .ld (.t 88) 1 false, (some (87, true))⟩,
 ⟨(some 90), .call 122 [(.t 89), (.c (.d (.v (.int .i64 24))))], (some (87, true))⟩,
 ⟨(some 91), .pick (.t 87) (.t 90) (.c (.d (.v (.bool false)))), none⟩,
 ⟨(some 4), .mv (.t 91), none⟩])) (.seq (.reg [⟨(some 2), .mv (.c (.d (.v (.bool false)))), none⟩])
 (.ret))))))))))))
 (.seq (.seq (.reg [⟨(some 92), .fa (.t 1) 1, none⟩,
 ⟨(some 93), .ld (.t 92) 1 false, none⟩,
 ⟨(some 94), .mv (.t 93), none⟩,
 ⟨(some 95), .fa (.t 1) 0, (some (94, true))⟩,
 ⟨(some 96), .ld (.t 95) 1 false, (some (94, true))⟩,
 ⟨(some 97), .bin .eql (.t 96) (.c (.d (.v (.int .i64 0)))), (some (94, true))⟩,
 ⟨(some 98), .mv (.t 97), (some (94, true))⟩,
 ⟨(some 99), .fa (.t 1) 0, (some (98, false))⟩,
 ⟨(some 100), .ld (.t 99) 1 false, (some (98, false))⟩,
 ⟨(some 101), .bin .eql (.t 100) (.c (.d (.v (.int .i64 1)))), (some (98, false))⟩,
 ⟨(some 102), .pick (.t 98) (.c (.d (.v (.bool true)))) (.t 101), (some (94, true))⟩,
 ⟨(some 103), .pick (.t 94) (.t 102) (.c (.d (.v (.bool false)))), none⟩])
 (.cond (.t 103) (.reg [⟨(some 104), .mv (.t 4), none⟩,
 ⟨(some 105), .mv (.t 104), none⟩,
 ⟨(some 106), .fa (.t 1) 6, (some (105, true))⟩,
 ⟨(some 107), .ld (.t 106) 1 false, (some (105, true))⟩,
 ⟨(some 108), .bin .eql (.t 107) (.c (.d (.v (.int .i64 0)))), (some (105, true))⟩,
 ⟨(some 109), .mv (.t 108), (some (105, true))⟩,
 ⟨(some 110), .fa (.t 1) 6, (some (109, false))⟩,
 ⟨(some 111), .ld (.t 110) 1 false, (some (109, false))⟩,
 ⟨(some 112), .bin .leq (.c (.d (.v (.int .i64 8)))) (.t 111), (some (109, false))⟩,
 ⟨(some 113), .mv (.t 112), (some (109, false))⟩,
 ⟨(some 114), .fa (.t 1) 6, (some (113, true))⟩,
 ⟨(some 115), .ld (.t 114) 1 false, (some (113, true))⟩,
 ⟨(some 116), .bin .leq (.t 115) (.c (.d (.v (.int .i64 10)))), (some (113, true))⟩,
 ⟨(some 117), .pick (.t 113) (.t 116) (.c (.d (.v (.bool false)))), (some (109, false))⟩,
 ⟨(some 118), .pick (.t 109) (.c (.d (.v (.bool true)))) (.t 117), (some (105, true))⟩,
 ⟨(some 119), .pick (.t 105) (.t 118) (.c (.d (.v (.bool false)))), none⟩,
 ⟨(some 4), .mv (.t 119), none⟩]) (.skip)))
 (.seq (.reg [⟨(some 120), .mv (.t 4), none⟩,
 ⟨(some 121), .mv (.t 120), none⟩,
 ⟨(some 122), .fa (.t 1) 4, (some (121, true))⟩,
 ⟨(some 123), .ld (.t 122) 1 false, (some (121, true))⟩,
 ⟨(some 124), .call 121 [(.t 123), (.c (.d (.v (.int .i64 4))))], (some (121, true))⟩,
 ⟨(some 125), .pick (.t 121) (.t 124) (.c (.d (.v (.bool false)))), none⟩,
 ⟨(some 126), .mv (.t 125), none⟩,
 ⟨(some 127), .fa (.t 1) 5, (some (126, true))⟩,
 ⟨(some 128), .ld (.t 127) 1 false, (some (126, true))⟩,
 ⟨(some 129), .call 121 [(.t 128), (.c (.d (.v (.int .i64 4))))], (some (126, true))⟩,
 ⟨(some 130), .pick (.t 126) (.t 129) (.c (.d (.v (.bool false)))), none⟩,
 ⟨(some 131), .mv (.t 130), none⟩,
 ⟨(some 132), .fa (.t 1) 6, (some (131, true))⟩,
 ⟨(some 133), .ld (.t 132) 1 false, (some (131, true))⟩,
 ⟨(some 134), .bin .leq (.c (.d (.v (.int .i64 0)))) (.t 133), (some (131, true))⟩,
 ⟨(some 135), .pick (.t 131) (.t 134) (.c (.d (.v (.bool false)))), none⟩,
 ⟨(some 136), .mv (.t 135), none⟩,
 ⟨(some 137), .fa (.t 1) 6, (some (136, true))⟩,
 ⟨(some 138), .ld (.t 137) 1 false, (some (136, true))⟩,
 ⟨(some 139), .bin .leq (.t 138) (.c (.d (.v (.int .i64 11)))), (some (136, true))⟩,
 ⟨(some 140), .pick (.t 136) (.t 139) (.c (.d (.v (.bool false)))), none⟩,
 ⟨(some 141), .mv (.t 140), none⟩,
 ⟨(some 142), .ld (.t 1) 8 true, (some (141, true))⟩,
 ⟨(some 143), .ld (.t 3) 8 true, (some (141, true))⟩,
 ⟨(some 144), .eqg ⟨true, [.i .i64, .b, .b, .i .i64, .i .i64, .i .i64, .i .i64, .i .i64]⟩ false (.t 142) (.t 143), (some (141, true))⟩,
 ⟨(some 145), .pick (.t 141) (.t 144) (.c (.d (.v (.bool false)))), none⟩,
 ⟨(some 2), .mv (.t 145), none⟩])
 (.ret))))))
def r86 : List RC := [.t 2]

/-- spinet/risc.bit -/
def c87 : AC :=
 .seq (.reg [⟨(some 4), .mv (.c (.d (.v (.int .u32 0)))), none⟩])
 (.seq (.seq (.reg [⟨(some 5), .mv (.t 0), none⟩])
 (.cond (.t 5) (.seq (.reg [⟨(some 6), .mv (.t 1), none⟩,
 ⟨(some 7), .bin .shl (.c (.d (.v (.int .u32 1)))) (.t 6), none⟩,
 ⟨(some 4), .mv (.t 7), none⟩])
 (.ret)) (.skip)))
 (.seq (.reg [⟨(some 4), .mv (.c (.d (.v (.int .u32 0)))), none⟩])
 (.ret)))
def r87 : List RC := [.t 4]

/-- spinet/bits.inside -/
def c94 : AC :=
 .seq (.reg [⟨(some 4), .mv (.c (.d (.v (.bool false)))), none⟩])
 (.seq (.reg [⟨(some 5), .mv (.t 0), none⟩,
 ⟨(some 6), .bin .geq (.t 5) (.c (.d (.v (.int .i64 0)))), none⟩,
 ⟨(some 7), .mv (.t 6), none⟩,
 ⟨(some 8), .mv (.t 1), (some (7, true))⟩,
 ⟨(some 9), .bin .geq (.t 8) (.c (.d (.v (.int .i64 1)))), (some (7, true))⟩,
 ⟨(some 10), .pick (.t 7) (.t 9) (.c (.d (.v (.bool false)))), none⟩,
 ⟨(some 11), .mv (.t 10), none⟩,
 ⟨(some 12), .mv (.t 1), (some (11, true))⟩,
 ⟨(some 13), .bin .leq (.t 12) (.c (.d (.v (.int .i64 32)))), (some (11, true))⟩,
 ⟨(some 14), .pick (.t 11) (.t 13) (.c (.d (.v (.bool false)))), none⟩,
 ⟨(some 15), .mv (.t 14), none⟩,
 ⟨(some 16), .mv (.t 0), (some (15, true))⟩,
 ⟨(some 17), .mv (.t 1), (some (15, true))⟩,
 ⟨(some 18), .bin .sub (.c (.d (.v (.int .i64 32)))) (.t 17), (some (15, true))⟩,
 ⟨(some 19), .bin .leq (.t 16) (.t 18), (some (15, true))⟩,
 ⟨(some 20), .pick (.t 15) (.t 19) (.c (.d (.v (.bool false)))), none⟩,
 ⟨(some 4), .mv (.t 20), none⟩])
 (.ret))
def r94 : List RC := [.t 4]

/-- spinet/bits.mask[uint32] -/
def c95 : AC :=
 .seq (.reg [⟨(some 2), .mv (.c (.d (.v (.int .u32 0)))), none⟩])
 (.seq (.reg [⟨(some 3), .cvi .u32 (.c (.d (.v (.int .i64 1)))), none⟩,
 ⟨(some 4), .mv (.t 0), none⟩,
 ⟨(some 5), .bin .shl (.t 3) (.t 4), none⟩,
 ⟨(some 6), .bin .sub (.t 5) (.c (.d (.v (.int .u32 1)))), none⟩,
 ⟨(some 2), .mv (.t 6), none⟩])
 (.ret))
def r95 : List RC := [.t 2]

/-- spinet/bits.Signed -/
def c104 : AC :=
 .seq (.reg [⟨(some 2), .mv (.c (.d (.v (.int .i64 0)))), none⟩])
 (.seq (.reg [⟨(some 3), .mv (.t 0), none⟩,
 ⟨(some 4), .cvi .i32 (.t 3), none⟩,
 ⟨(some 5), .cvi .i64 (.t 4), none⟩,
 ⟨(some 2), .mv (.t 5), none⟩])
 (.ret))
def r104 : List RC := [.t 2]

/-- (*spinet/memory.Memory).PutByte -/
def c105 : AC :=
 .seq (.reg [⟨(some 6), .mv (.c (.d (.v (.bool false)))), none⟩])
 (.seq (.reg [⟨(some 9), .mv (.t 0), none⟩,
 ⟨(some 10), .mv (.t 1), none⟩,
 ⟨(some 11), .call 66 [(.t 9), (.t 10)], none⟩,
 ⟨(some 7), .mv (.t 11), none⟩])
 (.seq (.seq (.reg [⟨(some 12), .mv (.t 7), none⟩,
 ⟨(some 13), .eqp false (.t 12) (.c .nilp), none⟩])
 (.cond (.t 13) (.seq (.reg [⟨(some 6), .mv (.c (.d (.v (.bool false)))), none⟩])
 (.ret)) (.skip)))
 (.seq (.reg [⟨(some 14), .mv (.t 1), none⟩,
 ⟨(some 15), .bin .rem (.t 14) (.c (.d (.v (.int .u32 4)))), none⟩,
 ⟨(some 16), .bin .mul (.c (.d (.v (.int .u32 8)))) (.t 15), none⟩,
 ⟨(some 8), .mv (.t 16), none⟩])
 (.seq (.reg [⟨(some 17), .mv (.t 7), none⟩,
 ⟨(some 18), .mv (.t 7), none⟩,
 ⟨(some 19), .nc (.t 18), none⟩,
 ⟨(some 20), .ld (.t 19) 1 false, none⟩,
 ⟨(some 21), .mv (.t 8), none⟩,
 ⟨(some 22), .bin .shl (.c (.d (.v (.int .u32 255)))) (.t 21), none⟩,
 ⟨(some 23), .bin .andNot (.t 20) (.t 22), none⟩,
 ⟨(some 24), .mv (.t 2), none⟩,
 ⟨(some 25), .cvi .u8 (.t 24), none⟩,
 ⟨(some 26), .cvi .u32 (.t 25), none⟩,
 ⟨(some 27), .mv (.t 8), none⟩,
 ⟨(some 28), .bin .shl (.t 26) (.t 27), none⟩,
 ⟨(some 29), .bin .or (.t 23) (.t 28), none⟩,
 ⟨(some 30), .nc (.t 17), none⟩,
 ⟨none, .st (.t 30) (.t 29) 1, none⟩])
 (.seq (.reg [⟨(some 6), .mv (.c (.d (.v (.bool true)))), none⟩])
 (.ret))))))
def r105 : List RC := [.t 6]

/-- (*spinet/memory.Memory).Store -/
def c106 : AC :=
 .seq (.reg [⟨(some 6), .mv (.c (.d (.v (.bool false)))), none⟩])
 (.seq (.reg [⟨(some 8), .mv (.t 0), none⟩,
 ⟨(some 9), .mv (.t 1), none⟩,
 ⟨(some 10), .call 66 [(.t 8), (.t 9)], none⟩,
 ⟨(some 7), .mv (.t 10), none⟩])
 (.seq (.seq (.reg [⟨(some 11), .mv (.t 7), none⟩,
 ⟨(some 12), .eqp false (.t 11) (.c .nilp), none⟩,
 ⟨(some 13), .mv (.t 12), none⟩,
 ⟨(some 14), .mv (.t 1), (some (13, false))⟩,
 ⟨(some 15), .bin .rem (.t 14) (.c (.d (.v (.int .u32 4)))), (some (13, false))⟩,
 ⟨(some 16), .bin .neq (.t 15) (.c (.d (.v (.int .u32 0)))), (some (13, false))⟩,
 ⟨(some 17), .pick (.t 13) (.c (.d (.v (.bool true)))) (.t 16), none⟩])
 (.cond (.t 17) (.seq (.reg [⟨(some 6), .mv (.c (.d (.v (.bool false)))), none⟩])
 (.ret)) (.skip)))
 (.seq (.reg [⟨(some 18), .mv (.t 7), none⟩,
 ⟨(some 19), .mv (.t 2), none⟩,
 ⟨(some 20), .nc (.t 18), none⟩,
 ⟨none, .st (.t 20) (.t 19) 1, none⟩])
 (.seq (.reg [⟨(some 6), .mv (.c (.d (.v (.bool true)))), none⟩])
 (.ret)))))
def r106 : List RC := [.t 6]

/-- spinet/bits.Put -/
def c107 : AC :=
 .seq (.reg [⟨(some 8), .mv (.c (.d (.v (.int .u32 0)))), none⟩])
 (.seq (.seq (.reg [⟨(some 10), .mv (.t 1), none⟩,
 ⟨(some 11), .mv (.t 2), none⟩,
 ⟨(some 12), .call 94 [(.t 10), (.t 11)], none⟩,
 ⟨(some 13), .un .not (.t 12), none⟩])
 (.cond (.t 13) (.seq (.reg [⟨(some 14), .mv (.t 0), none⟩,
 ⟨(some 8), .mv (.t 14), none⟩])
 (.ret)) (.skip)))
 (.seq (.reg [⟨(some 15), .mv (.t 2), none⟩,
 ⟨(some 16), .call 95 [(.t 15)], none⟩,
 ⟨(some 17), .mv (.t 1), none⟩,
 ⟨(some 18), .bin .shl (.t 16) (.t 17), none⟩,
 ⟨(some 9), .mv (.t 18), none⟩])
 (.seq (.reg [⟨(some 19), .mv (.t 0), none⟩,
 ⟨(some 20), .mv (.t 9), none⟩,
 ⟨(some 21), .bin .andNot (.t 19) (.t 20), none⟩,
 ⟨(some 22), .mv (.t 3), none⟩,
 ⟨(some 23), .mv (.t 1), none⟩,
 ⟨(some 24), .bin .shl (.t 22) (.t 23), none⟩,
 ⟨(some 25), .mv (.t 9), none⟩,
 ⟨(some 26), .bin .and (.t 24) (.t 25), none⟩,
 ⟨(some 27), .bin .or (.t 21) (.t 26), none⟩,
 ⟨(some 8), .mv (.t 27), none⟩])
 (.ret))))
def r107 : List RC := [.t 8]

/-- spinet/bits.Lsl -/
def c108 : AC :=
 .seq (.reg [⟨(some 4), .mv (.c (.d (.v (.int .u32 0)))), none⟩])
 (.seq (.reg [⟨(some 5), .mv (.t 0), none⟩,
 ⟨(some 6), .mv (.t 1), none⟩,
 ⟨(some 7), .bin .rem (.t 6) (.c (.d (.v (.int .u32 32)))), none⟩,
 ⟨(some 8), .bin .shl (.t 5) (.t 7), none⟩,
 ⟨(some 4), .mv (.t 8), none⟩])
 (.ret))
def r108 : List RC := [.t 4]

/-- spinet/bits.Asr -/
def c109 : AC :=
 .seq (.reg [⟨(some 4), .mv (.c (.d (.v (.int .u32 0)))), none⟩])
 (.seq (.reg [⟨(some 5), .mv (.t 0), none⟩,
 ⟨(some 6), .cvi .i32 (.t 5), none⟩,
 ⟨(some 7), .mv (.t 1), none⟩,
 ⟨(some 8), .bin .rem (.t 7) (.c (.d (.v (.int .u32 32)))), none⟩,
 ⟨(some 9), .bin .shr (.t 6) (.t 8), none⟩,
 ⟨(some 10), .cvi .u32 (.t 9), none⟩,
 ⟨(some 4), .mv (.t 10), none⟩])
 (.ret))
def r109 : List RC := [.t 4]

/-- spinet/bits.Ror -/
def c110 : AC :=
 .seq (.reg [⟨(some 4), .mv (.c (.d (.v (.int .u32 0)))), none⟩])
 (.seq (.reg [⟨(some 5), .mv (.t 0), none⟩,
 ⟨(some 6), .mv (.t 1), none⟩,
 ⟨(some 7), .bin .rem (.t 6) (.c (.d (.v (.int .u32 32)))), none⟩,
 ⟨(some 8), .cvi .i64 (.t 7), none⟩,
 ⟨(some 9), .un .neg (.t 8), none⟩,
 ⟨(some 10), .call 131 [(.t 5), (.t 9)], none⟩,
 ⟨(some 4), .mv (.t 10), none⟩])
 (.ret))
def r110 : List RC := [.t 4]

/-- spinet/alu.over -/
def c111 : AC :=
 .seq (.reg [⟨(some 2), .mv (.c (.d (.v (.bool false)))), none⟩])
 (.seq (.reg [⟨(some 3), .mv (.t 0), none⟩,
 ⟨(some 4), .mv (.t 0), none⟩,
 ⟨(some 5), .cvi .i32 (.t 4), none⟩,
 ⟨(some 6), .cvi .i64 (.t 5), none⟩,
 ⟨(some 7), .bin .neq (.t 3) (.t 6), none⟩,
 ⟨(some 2), .mv (.t 7), none⟩])
 (.ret))
def r111 : List RC := [.t 2]

/-- spinet/alu.product -/
def c112 : AC :=
 .seq (.reg [⟨(some 6), .mv (.c (.d (.v (.int .u32 0)))), none⟩,
 ⟨(some 7), .mv (.c (.d (.v (.int .u32 0)))), none⟩])
 (.seq (.reg [⟨(some 9), .mv (.t 1), none⟩,
 ⟨(some 10), .cvi .u64 (.t 9), none⟩,
 ⟨(some 11), .mv (.t 2), none⟩,
 ⟨(some 12), .cvi .u64 (.t 11), none⟩,
 ⟨(some 13), .bin .mul (.t 10) (.t 12), none⟩,
 ⟨(some 8), .mv (.t 13), none⟩])
 (.seq (.seq (.reg [⟨(some 14), .mv (.t 0), none⟩,
 ⟨(some 15), .un .not (.t 14), none⟩])
 (.cond (.t 15) (.reg [⟨(some 16), .mv (.t 1), none⟩,
 ⟨(some 17), .cvi .i32 (.t 16), none⟩,
 ⟨(some 18), .cvi .i64 (.t 17), none⟩,
 ⟨(some 19), .mv (.t 2), none⟩,
 ⟨(some 20), .cvi .i32 (.t 19), none⟩,
 ⟨(some 21), .cvi .i64 (.t 20), none⟩,
 ⟨(some 22), .bin .mul (.t 18) (.t 21), none⟩,
 ⟨(some 23), .cvi .u64 (.t 22), none⟩,
 ⟨(some 8), .mv (.t 23), none⟩]) (.skip)))
 (.seq (.reg [⟨(some 24), .mv (.t 8), none⟩,
 ⟨(some 25), .cvi .u32 (.t 24), none⟩,
 ⟨(some 26), .mv (.t 8), none⟩,
 ⟨(some 27), .bin .shr (.t 26) (.c (.d (.v (.int .u64 32)))), none⟩,
 ⟨(some 28), .cvi .u32 (.t 27), none⟩,
 ⟨(some 6), .mv (.t 25), none⟩,
 ⟨(some 7), .mv (.t 28), none⟩])
 (.ret))))
def r112 : List RC := [.t 6, .t 7]

/-- spinet/alu.quotient -/
def c113 : AC :=
 .seq (.reg [⟨(some 4), .mv (.c (.d (.v (.int .u32 0)))), none⟩,
 ⟨(some 5), .mv (.c (.d (.v (.int .u32 0)))), none⟩])
 (.seq (.reg [⟨(some 10), .mv (.t 0), none⟩,
 ⟨(some 11), .cvi .i32 (.t 10), none⟩,
 ⟨(some 12), .cvi .i64 (.t 11), none⟩,
 ⟨(some 13), .mv (.t 1), none⟩,
 ⟨(some 14), .cvi .i32 (.t 13), none⟩,
 ⟨(some 15), .cvi .i64 (.t 14), none⟩,
 ⟨(some 6), .mv (.t 12), none⟩,
 ⟨(some 7), .mv (.t 15), none⟩])
 (.seq (.seq (.reg [⟨(some 16), .mv (.t 7), none⟩,
 ⟨(some 17), .bin .leq (.t 16) (.c (.d (.v (.int .i64 0)))), none⟩])
 (.cond (.t 17) (.seq (.reg [⟨(some 18), .mv (.t 0), none⟩,
 ⟨(some 4), .mv (.c (.d (.v (.int .u32 0)))), none⟩,
 ⟨(some 5), .mv (.t 18), none⟩])
 (.ret)) (.skip)))
 (.seq (.dreg [[], [], [0, 1], [], [], [3, 4], [2, 0, 1, 2], [5, 6, 0, 1, 2, 3, 4, 5, 6]] [⟨(some 19), .mv (.t 6), none⟩,
 ⟨(some 20), .mv (.t 7), none⟩,
 ⟨(some 21), .bin .quo (.t 19) (.t 20), none⟩,
 ⟨(some 22), .mv (.t 6), none⟩,
 ⟨(some 23), .mv (.t 7), none⟩,
 ⟨(some 24), .bin .rem (.t 22) (.t 23), none⟩,
 ⟨(some 8), .mv (.t 21), none⟩,
 ⟨(some 9), .mv (.t 24), none⟩])
 (.seq (.seq (.reg [⟨(some 25), .mv (.t 9), none⟩,
 ⟨(some 26), .bin .lss (.t 25) (.c (.d (.v (.int .i64 0)))), none⟩])
 (.cond (.t 26) (.reg [⟨(some 27), .mv (.t 8), none⟩,
 ⟨(some 28), .bin .sub (.t 27) (.c (.d (.v (.int .i64 1)))), none⟩,
 ⟨(some 29), .mv (.t 9), none⟩,
 ⟨(some 30), .mv (.t 7), none⟩,
 ⟨(some 31), .bin .add (.t 29) (.t 30), none⟩,
 ⟨(some 8), .mv (.t 28), none⟩,
 ⟨(some 9), .mv (.t 31), none⟩]) (.skip)))
 (.seq (.reg [⟨(some 32), .mv (.t 8), none⟩,
 ⟨(some 33), .cvi .u32 (.t 32), none⟩,
 ⟨(some 34), .mv (.t 9), none⟩,
 ⟨(some 35), .cvi .u32 (.t 34), none⟩,
 ⟨(some 4), .mv (.t 33), none⟩,
 ⟨(some 5), .mv (.t 35), none⟩])
 (.ret))))))
def r113 : List RC := [.t 4, .t 5]

/-- spinet/risc.half -/
def c121 : AC :=
 .seq (.reg [⟨(some 4), .mv (.c (.d (.v (.bool false)))), none⟩])
 (.seq (.reg [⟨(some 5), .mv (.t 0), none⟩,
 ⟨(some 6), .bin .leq (.c (.d (.v (.int .i64 0)))) (.t 5), none⟩,
 ⟨(some 7), .mv (.t 6), none⟩,
 ⟨(some 8), .mv (.t 0), (some (7, true))⟩,
 ⟨(some 9), .mv (.t 1), (some (7, true))⟩,
 ⟨(some 10), .bin .shl (.c (.d (.v (.int .i64 1)))) (.t 9), (some (7, true))⟩,
 ⟨(some 11), .bin .lss (.t 8) (.t 10), (some (7, true))⟩,
 ⟨(some 12), .pick (.t 7) (.t 11) (.c (.d (.v (.bool false)))), none⟩,
 ⟨(some 4), .mv (.t 12), none⟩])
 (.ret))
def r121 : List RC := [.t 4]

/-- spinet/bits.Fits -/
def c122 : AC :=
 .seq (.reg [⟨(some 4), .mv (.c (.d (.v (.bool false)))), none⟩])
 (.seq (.reg [⟨(some 5), .mv (.t 1), none⟩,
 ⟨(some 6), .bin .geq (.t 5) (.c (.d (.v (.int .i64 1)))), none⟩,
 ⟨(some 7), .mv (.t 6), none⟩,
 ⟨(some 8), .mv (.t 1), (some (7, true))⟩,
 ⟨(some 9), .bin .leq (.t 8) (.c (.d (.v (.int .i64 32)))), (some (7, true))⟩,
 ⟨(some 10), .pick (.t 7) (.t 9) (.c (.d (.v (.bool false)))), none⟩,
 ⟨(some 11), .mv (.t 10), none⟩,
 ⟨(some 12), .mv (.t 1), (some (11, true))⟩,
 ⟨(some 13), .bin .sub (.t 12) (.c (.d (.v (.int .i64 1)))), (some (11, true))⟩,
 ⟨(some 14), .bin .shl (.c (.d (.v (.int .i64 (-1))))) (.t 13), (some (11, true))⟩,
 ⟨(some 15), .mv (.t 0), (some (11, true))⟩,
 ⟨(some 16), .bin .leq (.t 14) (.t 15), (some (11, true))⟩,
 ⟨(some 17), .pick (.t 11) (.t 16) (.c (.d (.v (.bool false)))), none⟩,
 ⟨(some 18), .mv (.t 17), none⟩,
 ⟨(some 19), .mv (.t 0), (some (18, true))⟩,
 ⟨(some 20), .mv (.t 1), (some (18, true))⟩,
 ⟨(some 21), .bin .sub (.t 20) (.c (.d (.v (.int .i64 1)))), (some (18, true))⟩,
 ⟨(some 22), .bin .shl (.c (.d (.v (.int .i64 1)))) (.t 21), (some (18, true))⟩,
 ⟨(some 23), .bin .lss (.t 19) (.t 22), (some (18, true))⟩,
 ⟨(some 24), .pick (.t 18) (.t 23) (.c (.d (.v (.bool false)))), none⟩,
 ⟨(some 4), .mv (.t 24), none⟩])
 (.ret))
def r122 : List RC := [.t 4]

/-- math/bits.RotateLeft32 -/
def c131 : AC :=
 .seq (.reg [⟨(some 4), .mv (.c (.d (.v (.int .u32 0)))), none⟩])
 (.seq (.reg [⟨(some 6), .mv (.t 1), none⟩,
 ⟨(some 7), .cvi .u64 (.t 6), none⟩,
 ⟨(some 8), .bin .and (.t 7) (.c (.d (.v (.int .u64 31)))), none⟩,
 ⟨(some 5), .mv (.t 8), none⟩])
 (.seq (.reg [⟨(some 9), .mv (.t 0), none⟩,
 ⟨(some 10), .mv (.t 5), none⟩,
 ⟨(some 11), .bin .shl (.t 9) (.t 10), none⟩,
 ⟨(some 12), .mv (.t 0), none⟩,
 ⟨(some 13), .mv (.t 5), none⟩,
 ⟨(some 14), .bin .sub (.c (.d (.v (.int .u64 32)))) (.t 13), none⟩,
 ⟨(some 15), .bin .shr (.t 12) (.t 14), none⟩,
 ⟨(some 16), .bin .or (.t 11) (.t 15), none⟩,
 ⟨(some 4), .mv (.t 16), none⟩])
 (.ret)))
def r131 : List RC := [.t 4]

theorem cc3 : Tryz.f3.body.bind (comp Tryz.prog (hh 3)) = some c3 := by kernel_rfl
theorem rr3 : resC Tryz.prog Tryz.f3 = some r3 := by kernel_rfl
theorem cc4 : Tryz.f4.body.bind (comp Tryz.prog (hh 4)) = some c4 := by kernel_rfl
theorem rr4 : resC Tryz.prog Tryz.f4 = some r4 := by kernel_rfl
theorem cc7 : Tryz.f7.body.bind (comp Tryz.prog (hh 7)) = some c7 := by kernel_rfl
theorem rr7 : resC Tryz.prog Tryz.f7 = some r7 := by kernel_rfl
theorem cc8 : Tryz.f8.body.bind (comp Tryz.prog (hh 8)) = some c8 := by kernel_rfl
theorem rr8 : resC Tryz.prog Tryz.f8 = some r8 := by kernel_rfl
theorem cc9 : Tryz.f9.body.bind (comp Tryz.prog (hh 9)) = some c9 := by kernel_rfl
theorem rr9 : resC Tryz.prog Tryz.f9 = some r9 := by kernel_rfl
theorem cc10 : Tryz.f10.body.bind (comp Tryz.prog (hh 10)) = some c10 := by kernel_rfl
theorem rr10 : resC Tryz.prog Tryz.f10 = some r10 := by kernel_rfl
theorem cc11 : Tryz.f11.body.bind (comp Tryz.prog (hh 11)) = some c11 := by kernel_rfl
theorem rr11 : resC Tryz.prog Tryz.f11 = some r11 := by kernel_rfl
theorem cc21 : Tryz.f21.body.bind (comp Tryz.prog (hh 21)) = some c21 := by kernel_rfl
theorem rr21 : resC Tryz.prog Tryz.f21 = some r21 := by kernel_rfl
theorem cc22 : Tryz.f22.body.bind (comp Tryz.prog (hh 22)) = some c22 := by kernel_rfl
theorem rr22 : resC Tryz.prog Tryz.f22 = some r22 := by kernel_rfl
theorem cc23 : Tryz.f23.body.bind (comp Tryz.prog (hh 23)) = some c23 := by kernel_rfl
theorem rr23 : resC Tryz.prog Tryz.f23 = some r23 := by kernel_rfl
theorem cc33 : Tryz.f33.body.bind (comp Tryz.prog (hh 33)) = some c33 := by kernel_rfl
theorem rr33 : resC Tryz.prog Tryz.f33 = some r33 := by kernel_rfl
theorem cc40 : Tryz.f40.body.bind (comp Tryz.prog (hh 40)) = some c40 := by kernel_rfl
theorem rr40 : resC Tryz.prog Tryz.f40 = some r40 := by kernel_rfl
theorem cc41 : Tryz.f41.body.bind (comp Tryz.prog (hh 41)) = some c41 := by kernel_rfl
theorem rr41 : resC Tryz.prog Tryz.f41 = some r41 := by kernel_rfl
theorem cc42 : Tryz.f42.body.bind (comp Tryz.prog (hh 42)) = some c42 := by kernel_rfl
theorem rr42 : resC Tryz.prog Tryz.f42 = some r42 := by kernel_rfl
theorem cc43 : Tryz.f43.body.bind (comp Tryz.prog (hh 43)) = some c43 := by kernel_rfl
theorem rr43 : resC Tryz.prog Tryz.f43 = some r43 := by kernel_rfl
theorem cc44 : Tryz.f44.body.bind (comp Tryz.prog (hh 44)) = some c44 := by kernel_rfl
theorem rr44 : resC Tryz.prog Tryz.f44 = some r44 := by kernel_rfl
theorem cc45 : Tryz.f45.body.bind (comp Tryz.prog (hh 45)) = some c45 := by kernel_rfl
theorem rr45 : resC Tryz.prog Tryz.f45 = some r45 := by kernel_rfl
theorem cc46 : Tryz.f46.body.bind (comp Tryz.prog (hh 46)) = some c46 := by kernel_rfl
theorem rr46 : resC Tryz.prog Tryz.f46 = some r46 := by kernel_rfl
theorem cc47 : Tryz.f47.body.bind (comp Tryz.prog (hh 47)) = some c47 := by kernel_rfl
theorem rr47 : resC Tryz.prog Tryz.f47 = some r47 := by kernel_rfl
theorem cc48 : Tryz.f48.body.bind (comp Tryz.prog (hh 48)) = some c48 := by kernel_rfl
theorem rr48 : resC Tryz.prog Tryz.f48 = some r48 := by kernel_rfl
theorem cc55 : Tryz.f55.body.bind (comp Tryz.prog (hh 55)) = some c55 := by kernel_rfl
theorem rr55 : resC Tryz.prog Tryz.f55 = some r55 := by kernel_rfl
theorem cc58 : Tryz.f58.body.bind (comp Tryz.prog (hh 58)) = some c58 := by kernel_rfl
theorem rr58 : resC Tryz.prog Tryz.f58 = some r58 := by kernel_rfl
theorem cc59 : Tryz.f59.body.bind (comp Tryz.prog (hh 59)) = some c59 := by kernel_rfl
theorem rr59 : resC Tryz.prog Tryz.f59 = some r59 := by kernel_rfl
theorem cc66 : Tryz.f66.body.bind (comp Tryz.prog (hh 66)) = some c66 := by kernel_rfl
theorem rr66 : resC Tryz.prog Tryz.f66 = some r66 := by kernel_rfl
theorem cc67 : Tryz.f67.body.bind (comp Tryz.prog (hh 67)) = some c67 := by kernel_rfl
theorem rr67 : resC Tryz.prog Tryz.f67 = some r67 := by kernel_rfl
theorem cc68 : Tryz.f68.body.bind (comp Tryz.prog (hh 68)) = some c68 := by kernel_rfl
theorem rr68 : resC Tryz.prog Tryz.f68 = some r68 := by kernel_rfl
theorem cc69 : Tryz.f69.body.bind (comp Tryz.prog (hh 69)) = some c69 := by kernel_rfl
theorem rr69 : resC Tryz.prog Tryz.f69 = some r69 := by kernel_rfl
theorem cc70 : Tryz.f70.body.bind (comp Tryz.prog (hh 70)) = some c70 := by kernel_rfl
theorem rr70 : resC Tryz.prog Tryz.f70 = some r70 := by kernel_rfl
theorem cc71 : Tryz.f71.body.bind (comp Tryz.prog (hh 71)) = some c71 := by kernel_rfl
theorem rr71 : resC Tryz.prog Tryz.f71 = some r71 := by kernel_rfl
theorem cc72 : Tryz.f72.body.bind (comp Tryz.prog (hh 72)) = some c72 := by kernel_rfl
theorem rr72 : resC Tryz.prog Tryz.f72 = some r72 := by kernel_rfl
theorem cc73 : Tryz.f73.body.bind (comp Tryz.prog (hh 73)) = some c73 := by kernel_rfl
theorem rr73 : resC Tryz.prog Tryz.f73 = some r73 := by kernel_rfl
theorem cc74 : Tryz.f74.body.bind (comp Tryz.prog (hh 74)) = some c74 := by kernel_rfl
theorem rr74 : resC Tryz.prog Tryz.f74 = some r74 := by kernel_rfl
theorem cc75 : Tryz.f75.body.bind (comp Tryz.prog (hh 75)) = some c75 := by kernel_rfl
theorem rr75 : resC Tryz.prog Tryz.f75 = some r75 := by kernel_rfl
theorem cc76 : Tryz.f76.body.bind (comp Tryz.prog (hh 76)) = some c76 := by kernel_rfl
theorem rr76 : resC Tryz.prog Tryz.f76 = some r76 := by kernel_rfl
theorem cc77 : Tryz.f77.body.bind (comp Tryz.prog (hh 77)) = some c77 := by kernel_rfl
theorem rr77 : resC Tryz.prog Tryz.f77 = some r77 := by kernel_rfl
theorem cc86 : Tryz.f86.body.bind (comp Tryz.prog (hh 86)) = some c86 := by kernel_rfl
theorem rr86 : resC Tryz.prog Tryz.f86 = some r86 := by kernel_rfl
theorem cc87 : Tryz.f87.body.bind (comp Tryz.prog (hh 87)) = some c87 := by kernel_rfl
theorem rr87 : resC Tryz.prog Tryz.f87 = some r87 := by kernel_rfl
theorem cc94 : Tryz.f94.body.bind (comp Tryz.prog (hh 94)) = some c94 := by kernel_rfl
theorem rr94 : resC Tryz.prog Tryz.f94 = some r94 := by kernel_rfl
theorem cc95 : Tryz.f95.body.bind (comp Tryz.prog (hh 95)) = some c95 := by kernel_rfl
theorem rr95 : resC Tryz.prog Tryz.f95 = some r95 := by kernel_rfl
theorem cc104 : Tryz.f104.body.bind (comp Tryz.prog (hh 104)) = some c104 := by kernel_rfl
theorem rr104 : resC Tryz.prog Tryz.f104 = some r104 := by kernel_rfl
theorem cc105 : Tryz.f105.body.bind (comp Tryz.prog (hh 105)) = some c105 := by kernel_rfl
theorem rr105 : resC Tryz.prog Tryz.f105 = some r105 := by kernel_rfl
theorem cc106 : Tryz.f106.body.bind (comp Tryz.prog (hh 106)) = some c106 := by kernel_rfl
theorem rr106 : resC Tryz.prog Tryz.f106 = some r106 := by kernel_rfl
theorem cc107 : Tryz.f107.body.bind (comp Tryz.prog (hh 107)) = some c107 := by kernel_rfl
theorem rr107 : resC Tryz.prog Tryz.f107 = some r107 := by kernel_rfl
theorem cc108 : Tryz.f108.body.bind (comp Tryz.prog (hh 108)) = some c108 := by kernel_rfl
theorem rr108 : resC Tryz.prog Tryz.f108 = some r108 := by kernel_rfl
theorem cc109 : Tryz.f109.body.bind (comp Tryz.prog (hh 109)) = some c109 := by kernel_rfl
theorem rr109 : resC Tryz.prog Tryz.f109 = some r109 := by kernel_rfl
theorem cc110 : Tryz.f110.body.bind (comp Tryz.prog (hh 110)) = some c110 := by kernel_rfl
theorem rr110 : resC Tryz.prog Tryz.f110 = some r110 := by kernel_rfl
theorem cc111 : Tryz.f111.body.bind (comp Tryz.prog (hh 111)) = some c111 := by kernel_rfl
theorem rr111 : resC Tryz.prog Tryz.f111 = some r111 := by kernel_rfl
theorem cc112 : Tryz.f112.body.bind (comp Tryz.prog (hh 112)) = some c112 := by kernel_rfl
theorem rr112 : resC Tryz.prog Tryz.f112 = some r112 := by kernel_rfl
theorem cc113 : Tryz.f113.body.bind (comp Tryz.prog (hh 113)) = some c113 := by kernel_rfl
theorem rr113 : resC Tryz.prog Tryz.f113 = some r113 := by kernel_rfl
theorem cc121 : Tryz.f121.body.bind (comp Tryz.prog (hh 121)) = some c121 := by kernel_rfl
theorem rr121 : resC Tryz.prog Tryz.f121 = some r121 := by kernel_rfl
theorem cc122 : Tryz.f122.body.bind (comp Tryz.prog (hh 122)) = some c122 := by kernel_rfl
theorem rr122 : resC Tryz.prog Tryz.f122 = some r122 := by kernel_rfl
theorem cc131 : Tryz.f131.body.bind (comp Tryz.prog (hh 131)) = some c131 := by kernel_rfl
theorem rr131 : resC Tryz.prog Tryz.f131 = some r131 := by kernel_rfl
end Go.Proofs.YtmgmoamcbnkbfaaGreatDoor
