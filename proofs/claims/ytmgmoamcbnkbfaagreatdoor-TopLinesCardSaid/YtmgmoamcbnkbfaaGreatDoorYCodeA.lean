/- The functions' code in the small language. Printed by program (wip/tools). -/
import Derived.Test.YtmgmoamcbnkbfaaGreatDoorYTop
import Derived.Test.YtmgmoamcbnkbfaaGreatDoorProg
import Derived.KernelRfl
set_option linter.unusedVariables false
set_option linter.unusedSimpArgs false
set_option linter.unusedSectionVars false
namespace Go.Proofs.YtmgmoamcbnkbfaaGreatDoor
open Go.RowKit
def hha : Nat → Nat → Option Md := fun fn slot => if (fn, slot) ∈ [(3, 38), (3, 47)] then some .im else if (fn, slot) ∈ [(6, 4)] then some .gr else none

def c5l0 : AC :=
 .seq (.seq (.reg [⟨(some 18), .mv (.t 0), none⟩,
 ⟨(some 19), .bin .neq (.t 18) (.c (.d (.v (.string ⟨#[]⟩)))), none⟩])
 (.cond (.t 19) (.skip) (.exit 0)))
 (.block 1 (.seq (.reg [⟨(some 21), .mv (.t 0), none⟩,
 ⟨(some 22), .call 14 [(.t 21), (.c (.d (.v (.string ⟨#[10]⟩))))], none⟩,
 ⟨(some 20), .mv (.t 22), none⟩,
 ⟨(some 23), .ext (.t 20) 0, none⟩,
 ⟨(some 24), .ext (.t 20) 1, none⟩,
 ⟨(some 25), .ext (.t 20) 2, none⟩,
 ⟨(some 8), .mv (.t 23), none⟩,
 ⟨(some 9), .mv (.t 24), none⟩,
 ⟨(some 10), .mv (.t 25), none⟩])
 (.seq (.reg [⟨(some 27), .mv (.t 6), none⟩,
 ⟨(some 28), .mv (.t 8), none⟩,
 ⟨(some 29), .call 15 [(.t 27), (.t 28)], none⟩,
 ⟨(some 26), .mv (.t 29), none⟩,
 ⟨(some 30), .ext (.t 26) 0, none⟩,
 ⟨(some 31), .ext (.t 26) 1, none⟩,
 ⟨(some 11), .mv (.t 30), none⟩,
 ⟨(some 12), .mv (.t 31), none⟩])
 (.seq (.seq (.reg [⟨(some 32), .mv (.t 12), none⟩,
 ⟨(some 33), .bin .neq (.t 32) (.c (.d (.v (.int .i64 0)))), none⟩,
 ⟨(some 34), .mv (.t 33), none⟩,
 ⟨(some 35), .mv (.t 10), (some (34, false))⟩,
 ⟨(some 36), .un .not (.t 35), (some (34, false))⟩,
 ⟨(some 37), .pick (.t 34) (.c (.d (.v (.bool true)))) (.t 36), none⟩])
 (.cond (.t 37) (.seq (.reg [⟨(some 38), .mv (.t 7), none⟩,
 ⟨(some 39), .len false (.t 38), none⟩,
 ⟨(some 2), .mv (.c .esl), none⟩,
 ⟨(some 3), .mv (.t 39), none⟩,
 ⟨(some 4), .mv (.c (.d (.v (.int .i64 60)))), none⟩])
 (.ret)) (.skip)))
 (.seq (.reg [⟨(some 40), .mv (.t 7), none⟩,
 ⟨(some 41), .mv (.t 11), none⟩,
 ⟨(some 42), .bs .im 44 1 [(.t 41)], none⟩,
 ⟨(some 43), .app .gr 44 1 4 (.t 40) (.t 42), none⟩,
 ⟨(some 7), .mv (.t 43), none⟩])
 (.reg [⟨(some 44), .mv (.t 9), none⟩,
 ⟨(some 0), .mv (.t 44), none⟩]))))))

/-- spinet/asm.Words -/
def c5 : AC :=
 .seq (.reg [⟨(some 2), .mv (.c .esl), none⟩,
 ⟨(some 3), .mv (.c (.d (.v (.int .i64 0)))), none⟩,
 ⟨(some 4), .mv (.c (.d (.v (.int .i64 0)))), none⟩])
 (.seq (.reg [⟨(some 13), .mv (.t 0), none⟩,
 ⟨(some 14), .call 12 [(.t 13), (.c (.d (.v (.string ⟨#[10]⟩))))], none⟩,
 ⟨(some 5), .mv (.t 14), none⟩])
 (.seq (.seq (.reg [⟨(some 15), .mv (.t 5), none⟩,
 ⟨(some 16), .bin .gtr (.t 15) (.c (.d (.v (.int .i64 65536)))), none⟩])
 (.cond (.t 16) (.seq (.reg [⟨(some 2), .mv (.c .esl), none⟩,
 ⟨(some 3), .mv (.c (.d (.v (.int .i64 0)))), none⟩,
 ⟨(some 4), .mv (.c (.d (.v (.int .i64 3)))), none⟩])
 (.ret)) (.skip)))
 (.seq (.reg [⟨(some 17), .call 13 [], none⟩,
 ⟨(some 6), .mv (.t 17), none⟩])
 (.seq (.reg [⟨(some 7), .mv (.c .esl), none⟩])
 (.seq (.block 0 (.loop c5l0))
 (.seq (.reg [⟨(some 45), .mv (.t 7), none⟩,
 ⟨(some 2), .mv (.t 45), none⟩,
 ⟨(some 3), .mv (.c (.d (.v (.int .i64 0)))), none⟩,
 ⟨(some 4), .mv (.c (.d (.v (.int .i64 0)))), none⟩])
 (.ret)))))))
def r5 : List RC := [.t 2, .t 3, .t 4]

def c6l0 : AC :=
 .seq (.reg [⟨(some 13), .bin .lss (.t 12) (.t 11), none⟩])
 (.seq (.cond (.t 13) (.skip) (.exit 0))
 (.seq (.block 1 (.seq (.reg [⟨(some 14), .ia (.t 10) (.t 12) 1, none⟩,
 ⟨(some 15), .ld (.t 14) 1 false, none⟩,
 ⟨(some 6), .mv (.t 15), none⟩])
 (.seq (.reg [⟨(some 17), .mv (.t 3), none⟩,
 ⟨(some 18), .mv (.t 6), none⟩,
 ⟨(some 19), .call 16 [(.t 17), (.t 18)], none⟩,
 ⟨(some 16), .mv (.t 19), none⟩,
 ⟨(some 20), .ext (.t 16) 0, none⟩,
 ⟨(some 21), .ext (.t 16) 1, none⟩,
 ⟨(some 7), .mv (.t 20), none⟩,
 ⟨(some 8), .mv (.t 21), none⟩])
 (.seq (.seq (.reg [⟨(some 22), .mv (.t 8), none⟩,
 ⟨(some 23), .bin .neq (.t 22) (.c (.d (.v (.int .i64 0)))), none⟩])
 (.cond (.t 23) (.reg [⟨(some 24), .mv (.t 6), none⟩,
 ⟨(some 25), .call 17 [(.t 24)], none⟩,
 ⟨(some 7), .mv (.t 25), none⟩]) (.skip)))
 (.seq (.reg [⟨(some 26), .mv (.t 7), none⟩,
 ⟨(some 27), .call 18 [(.t 4), (.t 26)], none⟩])
 (.reg [⟨(some 28), .call 19 [(.t 4), (.c (.d (.v (.int .u8 10))))], none⟩]))))))
 (.reg [⟨(some 29), .bin .add (.t 12) (.c (.d (.v (.int .i64 1)))), none⟩,
 ⟨(some 12), .mv (.t 29), none⟩])))

/-- spinet/asm.Lines -/
def c6 : AC :=
 .seq (.reg [⟨(some 2), .mv (.c (.d (.v (.string ⟨#[]⟩)))), none⟩])
 (.seq (.reg [⟨(some 9), .call 13 [], none⟩,
 ⟨(some 3), .mv (.t 9), none⟩])
 (.seq (.reg [⟨(some 4), .alb 50, none⟩])
 (.seq (.seq (.reg [⟨(some 10), .mv (.t 0), none⟩,
 ⟨(some 11), .len false (.t 10), none⟩,
 ⟨(some 12), .mv (.c (.d (.v (.int .i64 0)))), none⟩])
 (.block 0 (.loop c6l0)))
 (.seq (.reg [⟨(some 30), .call 20 [(.t 4)], none⟩,
 ⟨(some 2), .mv (.t 30), none⟩])
 (.ret)))))
def r6 : List RC := [.t 2]

def c13l0 : AC :=
 .seq (.reg [⟨(some 64), .bin .lss (.t 63) (.t 62), none⟩])
 (.seq (.cond (.t 64) (.skip) (.exit 6))
 (.seq (.block 7 (.seq (.reg [⟨(some 65), .mv (.t 63), none⟩,
 ⟨(some 66), .ia (.t 61) (.t 63) 1, none⟩,
 ⟨(some 67), .ld (.t 66) 1 false, none⟩,
 ⟨(some 9), .mv (.t 65), none⟩,
 ⟨(some 10), .mv (.t 67), none⟩])
 (.seq (.reg [⟨(some 68), .mv (.t 2), none⟩,
 ⟨(some 69), .mv (.t 9), none⟩,
 ⟨(some 70), .bd [(.d (.v (.int .i64 0))), (.d (.v (.int .i64 0))), (.d (.v (.bool false))), (.d (.v (.bool false)))] [(0, 1, (.c (.d (.v (.int .i64 3))))), (1, 1, (.t 69)), (2, 1, (.c (.d (.v (.bool false))))), (3, 1, (.c (.d (.v (.bool false)))))], none⟩,
 ⟨(some 71), .mv (.t 10), none⟩,
 ⟨(some 72), .bin .add (.c (.d (.v (.string ⟨#[66, 46]⟩)))) (.t 71), none⟩,
 ⟨(some 73), .callv (.t 68) [(.t 70), (.t 72)], none⟩])
 (.reg [⟨(some 74), .mv (.t 2), none⟩,
 ⟨(some 75), .mv (.t 9), none⟩,
 ⟨(some 76), .bd [(.d (.v (.int .i64 0))), (.d (.v (.int .i64 0))), (.d (.v (.bool false))), (.d (.v (.bool false)))] [(0, 1, (.c (.d (.v (.int .i64 3))))), (1, 1, (.t 75)), (2, 1, (.c (.d (.v (.bool false))))), (3, 1, (.c (.d (.v (.bool true)))))], none⟩,
 ⟨(some 77), .mv (.t 10), none⟩,
 ⟨(some 78), .bin .add (.c (.d (.v (.string ⟨#[66, 76, 46]⟩)))) (.t 77), none⟩,
 ⟨(some 79), .callv (.t 74) [(.t 76), (.t 78)], none⟩]))))
 (.reg [⟨(some 80), .bin .add (.t 63) (.c (.d (.v (.int .i64 1)))), none⟩,
 ⟨(some 63), .mv (.t 80), none⟩])))

def c13l1 : AC :=
 .seq (.reg [⟨(some 47), .bin .lss (.t 46) (.t 45), none⟩])
 (.seq (.cond (.t 47) (.skip) (.exit 4))
 (.seq (.block 5 (.seq (.reg [⟨(some 48), .mv (.t 46), none⟩,
 ⟨(some 49), .ia (.t 44) (.t 46) 1, none⟩,
 ⟨(some 50), .ld (.t 49) 1 false, none⟩,
 ⟨(some 7), .mv (.t 48), none⟩,
 ⟨(some 8), .mv (.t 50), none⟩])
 (.reg [⟨(some 51), .mv (.t 2), none⟩,
 ⟨(some 52), .mv (.t 7), none⟩,
 ⟨(some 53), .bin .rem (.t 52) (.c (.d (.v (.int .i64 2)))), none⟩,
 ⟨(some 54), .bin .eql (.t 53) (.c (.d (.v (.int .i64 1)))), none⟩,
 ⟨(some 55), .mv (.t 7), none⟩,
 ⟨(some 56), .bin .gtr (.t 55) (.c (.d (.v (.int .i64 1)))), none⟩,
 ⟨(some 57), .bd [(.d (.v (.int .i64 0))), (.d (.v (.int .i64 0))), (.d (.v (.bool false))), (.d (.v (.bool false)))] [(0, 1, (.c (.d (.v (.int .i64 2))))), (1, 1, (.c (.d (.v (.int .i64 0))))), (2, 1, (.t 54)), (3, 1, (.t 56))], none⟩,
 ⟨(some 58), .mv (.t 8), none⟩,
 ⟨(some 59), .callv (.t 51) [(.t 57), (.t 58)], none⟩])))
 (.reg [⟨(some 60), .bin .add (.t 46) (.c (.d (.v (.int .i64 1)))), none⟩,
 ⟨(some 46), .mv (.t 60), none⟩])))

def c13l2 : AC :=
 .seq (.reg [⟨(some 26), .bin .lss (.t 25) (.t 24), none⟩])
 (.seq (.cond (.t 26) (.skip) (.exit 2))
 (.seq (.block 3 (.seq (.reg [⟨(some 27), .mv (.t 25), none⟩,
 ⟨(some 28), .ia (.t 23) (.t 25) 1, none⟩,
 ⟨(some 29), .ld (.t 28) 1 false, none⟩,
 ⟨(some 5), .mv (.t 27), none⟩,
 ⟨(some 6), .mv (.t 29), none⟩])
 (.reg [⟨(some 30), .mv (.t 2), none⟩,
 ⟨(some 31), .mv (.t 3), none⟩,
 ⟨(some 32), .mv (.t 5), none⟩,
 ⟨(some 33), .bin .rem (.t 32) (.c (.d (.v (.int .i64 2)))), none⟩,
 ⟨(some 34), .bin .eql (.t 33) (.c (.d (.v (.int .i64 1)))), none⟩,
 ⟨(some 35), .mv (.t 5), none⟩,
 ⟨(some 36), .bin .gtr (.t 35) (.c (.d (.v (.int .i64 1)))), none⟩,
 ⟨(some 37), .bd [(.d (.v (.int .i64 0))), (.d (.v (.int .i64 0))), (.d (.v (.bool false))), (.d (.v (.bool false)))] [(0, 1, (.c (.d (.v (.int .i64 0))))), (1, 1, (.t 31)), (2, 1, (.t 34)), (3, 1, (.t 36))], none⟩,
 ⟨(some 38), .mv (.t 4), none⟩,
 ⟨(some 39), .mv (.t 6), none⟩,
 ⟨(some 40), .bin .add (.t 38) (.t 39), none⟩,
 ⟨(some 41), .callv (.t 30) [(.t 37), (.t 40)], none⟩])))
 (.reg [⟨(some 42), .bin .add (.t 25) (.c (.d (.v (.int .i64 1)))), none⟩,
 ⟨(some 25), .mv (.t 42), none⟩])))

def c13l3 : AC :=
 .seq (.reg [⟨(some 19), .bin .lss (.t 18) (.t 17), none⟩])
 (.seq (.cond (.t 19) (.skip) (.exit 0))
 (.seq (.block 1 (.seq (.reg [⟨(some 20), .mv (.t 18), none⟩,
 ⟨(some 21), .ia (.t 16) (.t 18) 1, none⟩,
 ⟨(some 22), .ld (.t 21) 1 false, none⟩,
 ⟨(some 3), .mv (.t 20), none⟩,
 ⟨(some 4), .mv (.t 22), none⟩])
 (.seq (.reg [⟨(some 23), .bs .im 9 1 [(.c (.d (.v (.string ⟨#[]⟩)))), (.c (.d (.v (.string ⟨#[39]⟩)))), (.c (.d (.v (.string ⟨#[34]⟩)))), (.c (.d (.v (.string ⟨#[39, 34]⟩))))], none⟩,
 ⟨(some 24), .len false (.t 23), none⟩,
 ⟨(some 25), .mv (.c (.d (.v (.int .i64 0)))), none⟩])
 (.block 2 (.loop c13l2)))))
 (.reg [⟨(some 43), .bin .add (.t 18) (.c (.d (.v (.int .i64 1)))), none⟩,
 ⟨(some 18), .mv (.t 43), none⟩])))

/-- spinet/asm.named -/
def c13 : AC :=
 .seq (.reg [⟨(some 0), .mv (.c .nilp), none⟩])
 (.seq (.reg [⟨(some 11), .mkm ⟨true, [.i .i64, .i .i64, .b, .b]⟩, none⟩,
 ⟨(some 12), .mkm ⟨false, [.s]⟩, none⟩,
 ⟨(some 13), .bd [.esl, .esl, .mnil, .mnil] [(2, 1, (.t 11)), (3, 1, (.t 12))], none⟩,
 ⟨(some 14), .bx (.t 13), none⟩,
 ⟨(some 1), .al [.nilp], none⟩,
 ⟨none, .st (.t 1) (.t 14) 1, none⟩])
 (.seq (.reg [⟨(some 15), .mkf 27 [(.t 1)], none⟩,
 ⟨(some 2), .mv (.t 15), none⟩])
 (.seq (.seq (.reg [⟨(some 16), .call 28 [(.c (.d (.v (.string ⟨#[77, 79, 86, 32, 76, 83, 76, 32, 65, 83, 82, 32, 82, 79, 82, 32, 65, 78, 68, 32, 65, 78, 78, 32, 73, 79, 82, 32, 88, 79, 82, 32, 65, 68, 68, 32, 83, 85, 66, 32, 77, 85, 76, 32, 68, 73, 86]⟩))))], none⟩,
 ⟨(some 17), .len false (.t 16), none⟩,
 ⟨(some 18), .mv (.c (.d (.v (.int .i64 0)))), none⟩])
 (.block 0 (.loop c13l3)))
 (.seq (.seq (.reg [⟨(some 44), .bs .im 9 1 [(.c (.d (.v (.string ⟨#[76, 68, 82]⟩)))), (.c (.d (.v (.string ⟨#[83, 84, 82]⟩)))), (.c (.d (.v (.string ⟨#[76, 68, 66]⟩)))), (.c (.d (.v (.string ⟨#[83, 84, 66]⟩))))], none⟩,
 ⟨(some 45), .len false (.t 44), none⟩,
 ⟨(some 46), .mv (.c (.d (.v (.int .i64 0)))), none⟩])
 (.block 4 (.loop c13l1)))
 (.seq (.seq (.reg [⟨(some 61), .call 28 [(.c (.d (.v (.string ⟨#[77, 73, 32, 69, 81, 32, 67, 83, 32, 86, 83, 32, 76, 83, 32, 76, 84, 32, 76, 69, 32, 84, 32, 80, 76, 32, 78, 69, 32, 67, 67, 32, 86, 67, 32, 72, 73, 32, 71, 69, 32, 71, 84, 32, 70]⟩))))], none⟩,
 ⟨(some 62), .len false (.t 61), none⟩,
 ⟨(some 63), .mv (.c (.d (.v (.int .i64 0)))), none⟩])
 (.block 6 (.loop c13l0)))
 (.seq (.reg [⟨(some 81), .ld (.t 1) 1 false, none⟩,
 ⟨(some 0), .mv (.t 81), none⟩])
 (.ret)))))))
def r13 : List RC := [.t 0]

/-- (*spinet/asm.namer).either -/
def c15 : AC :=
 .seq (.reg [⟨(some 4), .mv (.c (.d (.v (.int .u32 0)))), none⟩,
 ⟨(some 5), .mv (.c (.d (.v (.int .i64 0)))), none⟩])
 (.seq (.seq (.reg [⟨(some 10), .mv (.t 1), none⟩,
 ⟨(some 11), .call 30 [(.t 10), (.c (.d (.v (.string ⟨#[35]⟩))))], none⟩,
 ⟨(some 12), .un .not (.t 11), none⟩])
 (.cond (.t 12) (.seq (.reg [⟨(some 13), .mv (.t 0), none⟩,
 ⟨(some 14), .mv (.t 1), none⟩,
 ⟨(some 15), .call 31 [(.t 13), (.t 14)], none⟩,
 ⟨(some 16), .ext (.t 15) 0, none⟩,
 ⟨(some 17), .ext (.t 15) 1, none⟩,
 ⟨(some 4), .mv (.t 16), none⟩,
 ⟨(some 5), .mv (.t 17), none⟩])
 (.ret)) (.skip)))
 (.seq (.reg [⟨(some 19), .mv (.t 1), none⟩,
 ⟨(some 20), .sli true (.t 19) (some (.c (.d (.v (.int .i64 1))))) none 1, none⟩,
 ⟨(some 21), .call 32 [(.t 20), (.c (.d (.v (.int .i64 16)))), (.c (.d (.v (.int .i64 32))))], none⟩,
 ⟨(some 18), .mv (.t 21), none⟩,
 ⟨(some 22), .ext (.t 18) 0, none⟩,
 ⟨(some 23), .ext (.t 18) 1, none⟩,
 ⟨(some 6), .mv (.t 22), none⟩,
 ⟨(some 7), .mv (.t 23), none⟩])
 (.seq (.seq (.reg [⟨(some 25), .mv (.t 6), none⟩,
 ⟨(some 26), .cvi .u32 (.t 25), none⟩,
 ⟨(some 27), .call 33 [(.t 26)], none⟩,
 ⟨(some 24), .mv (.t 27), none⟩,
 ⟨(some 28), .ext (.t 24) 0, none⟩,
 ⟨(some 29), .ext (.t 24) 1, none⟩,
 ⟨(some 8), .al [(.d (.v (.int .i64 0))), (.d (.v (.bool false))), (.d (.v (.bool false))), (.d (.v (.int .i64 0))), (.d (.v (.int .i64 0))), (.d (.v (.int .i64 0))), (.d (.v (.int .i64 0))), (.d (.v (.int .i64 0)))], none⟩,
 ⟨none, .st (.t 8) (.t 28) 8, none⟩,
 ⟨(some 9), .mv (.t 29), none⟩])
 (.seq (.reg [⟨(some 30), .mv (.t 7), none⟩,
 ⟨(some 31), .eqi true (.t 30), none⟩,
 ⟨(some 32), .mv (.t 31), none⟩,
 ⟨(some 33), .mv (.t 9), (some (32, false))⟩,
 ⟨(some 34), .bin .eql (.t 33) (.c (.d (.v (.int .i64 0)))), (some (32, false))⟩,
 ⟨(some 35), .pick (.t 32) (.c (.d (.v (.bool true)))) (.t 34), none⟩,
 ⟨(some 36), .mv (.t 35), none⟩,
 ⟨(some 37), .mv (.t 6), (some (36, false))⟩,
 ⟨(some 38), .cvi .u32 (.t 37), (some (36, false))⟩,
 ⟨(some 39), .call 17 [(.t 38)], (some (36, false))⟩,
 ⟨(some 40), .mv (.t 1), (some (36, false))⟩,
 ⟨(some 41), .bin .neq (.t 39) (.t 40), (some (36, false))⟩,
 ⟨(some 42), .pick (.t 36) (.c (.d (.v (.bool true)))) (.t 41), none⟩])
 (.cond (.t 42) (.seq (.reg [⟨(some 4), .mv (.c (.d (.v (.int .u32 0)))), none⟩,
 ⟨(some 5), .mv (.c (.d (.v (.int .i64 60)))), none⟩])
 (.ret)) (.skip))))
 (.seq (.reg [⟨(some 43), .mv (.t 6), none⟩,
 ⟨(some 44), .cvi .u32 (.t 43), none⟩,
 ⟨(some 4), .mv (.t 44), none⟩,
 ⟨(some 5), .mv (.c (.d (.v (.int .i64 0)))), none⟩])
 (.ret)))))
def r15 : List RC := [.t 4, .t 5]

/-- (*spinet/asm.namer).line -/
def c16 : AC :=
 .seq (.reg [⟨(some 4), .mv (.c (.d (.v (.string ⟨#[]⟩)))), none⟩,
 ⟨(some 5), .mv (.c (.d (.v (.int .i64 0)))), none⟩])
 (.seq (.reg [⟨(some 10), .mv (.t 1), none⟩,
 ⟨(some 11), .call 33 [(.t 10)], none⟩,
 ⟨(some 9), .mv (.t 11), none⟩,
 ⟨(some 12), .ext (.t 9) 0, none⟩,
 ⟨(some 13), .ext (.t 9) 1, none⟩,
 ⟨(some 6), .al [(.d (.v (.int .i64 0))), (.d (.v (.bool false))), (.d (.v (.bool false))), (.d (.v (.int .i64 0))), (.d (.v (.int .i64 0))), (.d (.v (.int .i64 0))), (.d (.v (.int .i64 0))), (.d (.v (.int .i64 0)))], none⟩,
 ⟨none, .st (.t 6) (.t 12) 8, none⟩,
 ⟨(some 7), .mv (.t 13), none⟩])
 (.seq (.seq (.reg [⟨(some 14), .mv (.t 7), none⟩,
 ⟨(some 15), .bin .neq (.t 14) (.c (.d (.v (.int .i64 0)))), none⟩])
 (.cond (.t 15) (.seq (.reg [⟨(some 16), .mv (.t 7), none⟩,
 ⟨(some 4), .mv (.c (.d (.v (.string ⟨#[]⟩)))), none⟩,
 ⟨(some 5), .mv (.t 16), none⟩])
 (.ret)) (.skip)))
 (.seq (.dreg [[], [0], [1], [2], [], [4], [5], [6], [], [8], [7, 9], [3, 10], [11], [12], [13, 9, 0, 1, 2, 3, 4, 5, 6, 7, 8, 9, 10, 11, 12, 13]] [⟨(some 17), .mv (.t 0), none⟩,
 ⟨(some 18), .nc (.t 17), none⟩,
 ⟨(some 19), .fa (.t 18) 0, none⟩,
 ⟨(some 20), .ld (.t 19) 1 false, none⟩,
 ⟨(some 21), .mv (.t 0), none⟩,
 ⟨(some 22), .nc (.t 21), none⟩,
 ⟨(some 23), .fa (.t 22) 2, none⟩,
 ⟨(some 24), .ld (.t 23) 1 false, none⟩,
 ⟨(some 25), .ld (.t 6) 8 true, none⟩,
 ⟨(some 26), .call 34 [(.t 25)], none⟩,
 ⟨(some 27), .lk ⟨true, [.i .i64, .i .i64, .b, .b]⟩ (.d (.v (.int .i64 0))) (.t 24) (.t 26) false, none⟩,
 ⟨(some 28), .ia (.t 20) (.t 27) 1, none⟩,
 ⟨(some 29), .ld (.t 28) 1 false, none⟩,
 ⟨(some 30), .bin .add (.t 29) (.c (.d (.v (.string ⟨#[32]⟩)))), none⟩,
 ⟨(some 8), .mv (.t 30), none⟩])
 (.seq (.seq (.reg [⟨(some 31), .fa (.t 6) 0, none⟩,
 ⟨(some 32), .ld (.t 31) 1 false, none⟩])
 (.block 0 (.seq (.reg [⟨(some 34), .bin .eql (.t 32) (.c (.d (.v (.int .i64 0)))), none⟩,
 ⟨(some 33), .mv (.t 34), none⟩])
 (.cond (.t 33) (.seq (.dreg [[], [], [1], [2], [0, 3], [4], [], [6], [7, 3], [5, 8], [9], [], [11], [12, 8], [10, 13], [14, 13, 0, 1, 2, 3, 4, 5, 6, 7, 8, 9, 10, 11, 12, 13, 14], [15, 0, 1, 2, 3, 4, 5, 6, 7, 8, 9, 10, 11, 12, 13, 14, 15]] [⟨(some 35), .mv (.t 8), none⟩,
 ⟨(some 36), .fa (.t 6) 3, none⟩,
 ⟨(some 37), .ld (.t 36) 1 false, none⟩,
 ⟨(some 38), .call 35 [(.t 37)], none⟩,
 ⟨(some 39), .bin .add (.t 35) (.t 38), none⟩,
 ⟨(some 40), .bin .add (.t 39) (.c (.d (.v (.string ⟨#[44, 32]⟩)))), none⟩,
 ⟨(some 41), .fa (.t 6) 4, none⟩,
 ⟨(some 42), .ld (.t 41) 1 false, none⟩,
 ⟨(some 43), .call 35 [(.t 42)], none⟩,
 ⟨(some 44), .bin .add (.t 40) (.t 43), none⟩,
 ⟨(some 45), .bin .add (.t 44) (.c (.d (.v (.string ⟨#[44, 32]⟩)))), none⟩,
 ⟨(some 46), .fa (.t 6) 5, none⟩,
 ⟨(some 47), .ld (.t 46) 1 false, none⟩,
 ⟨(some 48), .call 35 [(.t 47)], none⟩,
 ⟨(some 49), .bin .add (.t 45) (.t 48), none⟩,
 ⟨(some 4), .mv (.t 49), none⟩,
 ⟨(some 5), .mv (.c (.d (.v (.int .i64 0)))), none⟩])
 (.ret)) (.seq (.reg [⟨(some 51), .bin .eql (.t 32) (.c (.d (.v (.int .i64 3)))), none⟩,
 ⟨(some 50), .mv (.t 51), none⟩])
 (.cond (.t 50) (.seq (.seq (.reg [⟨(some 52), .fa (.t 6) 1, none⟩,
 ⟨(some 53), .ld (.t 52) 1 false, none⟩])
 (.cond (.t 53) (.seq (.reg [⟨(some 54), .mv (.t 8), none⟩,
 ⟨(some 55), .fa (.t 6) 7, none⟩,
 ⟨(some 56), .ld (.t 55) 1 false, none⟩,
 ⟨(some 57), .call 36 [(.t 56)], none⟩,
 ⟨(some 58), .bin .add (.t 54) (.t 57), none⟩,
 ⟨(some 4), .mv (.t 58), none⟩,
 ⟨(some 5), .mv (.c (.d (.v (.int .i64 0)))), none⟩])
 (.ret)) (.skip)))
 (.seq (.reg [⟨(some 59), .mv (.t 8), none⟩,
 ⟨(some 60), .fa (.t 6) 5, none⟩,
 ⟨(some 61), .ld (.t 60) 1 false, none⟩,
 ⟨(some 62), .call 35 [(.t 61)], none⟩,
 ⟨(some 63), .bin .add (.t 59) (.t 62), none⟩,
 ⟨(some 4), .mv (.t 63), none⟩,
 ⟨(some 5), .mv (.c (.d (.v (.int .i64 0)))), none⟩])
 (.ret))) (.skip)))))))
 (.seq (.dreg [[], [], [1], [2], [0, 3], [4], [], [6], [7, 3], [5, 8], [9], [], [11], [12, 8], [10, 13], [14, 13, 0, 1, 2, 3, 4, 5, 6, 7, 8, 9, 10, 11, 12, 13, 14], [15, 0, 1, 2, 3, 4, 5, 6, 7, 8, 9, 10, 11, 12, 13, 14, 15]] [⟨(some 64), .mv (.t 8), none⟩,
 ⟨(some 65), .fa (.t 6) 3, none⟩,
 ⟨(some 66), .ld (.t 65) 1 false, none⟩,
 ⟨(some 67), .call 35 [(.t 66)], none⟩,
 ⟨(some 68), .bin .add (.t 64) (.t 67), none⟩,
 ⟨(some 69), .bin .add (.t 68) (.c (.d (.v (.string ⟨#[44, 32]⟩)))), none⟩,
 ⟨(some 70), .fa (.t 6) 4, none⟩,
 ⟨(some 71), .ld (.t 70) 1 false, none⟩,
 ⟨(some 72), .call 35 [(.t 71)], none⟩,
 ⟨(some 73), .bin .add (.t 69) (.t 72), none⟩,
 ⟨(some 74), .bin .add (.t 73) (.c (.d (.v (.string ⟨#[44, 32]⟩)))), none⟩,
 ⟨(some 75), .fa (.t 6) 7, none⟩,
 ⟨(some 76), .ld (.t 75) 1 false, none⟩,
 ⟨(some 77), .call 36 [(.t 76)], none⟩,
 ⟨(some 78), .bin .add (.t 74) (.t 77), none⟩,
 ⟨(some 4), .mv (.t 78), none⟩,
 ⟨(some 5), .mv (.c (.d (.v (.int .i64 0)))), none⟩])
 (.ret))))))
def r16 : List RC := [.t 4, .t 5]

/-- spinet/asm.raw -/
def c17 : AC :=
 .seq (.reg [⟨(some 2), .mv (.c (.d (.v (.string ⟨#[]⟩)))), none⟩])
 (.seq (.reg [⟨(some 4), .mv (.t 0), none⟩,
 ⟨(some 5), .cvi .u64 (.t 4), none⟩,
 ⟨(some 6), .call 37 [(.t 5), (.c (.d (.v (.int .i64 16))))], none⟩,
 ⟨(some 3), .mv (.t 6), none⟩])
 (.seq (.reg [⟨(some 7), .mv (.t 3), none⟩,
 ⟨(some 8), .len true (.t 7), none⟩,
 ⟨(some 9), .bin .sub (.c (.d (.v (.int .i64 8)))) (.t 8), none⟩,
 ⟨(some 10), .call 38 [(.c (.d (.v (.string ⟨#[48]⟩)))), (.t 9)], none⟩,
 ⟨(some 11), .bin .add (.c (.d (.v (.string ⟨#[35]⟩)))) (.t 10), none⟩,
 ⟨(some 12), .mv (.t 3), none⟩,
 ⟨(some 13), .bin .add (.t 11) (.t 12), none⟩,
 ⟨(some 2), .mv (.t 13), none⟩])
 (.ret)))
def r17 : List RC := [.t 2]

/-- (*strings.Builder).WriteString -/
def c18 : AC :=
 .seq (.reg [⟨(some 4), .mv (.c (.d (.v (.int .i64 0)))), none⟩,
 ⟨(some 5), .mv (.c (.d (.v (.nilIface)))), none⟩])
 (.seq (.reg [⟨(some 6), .mv (.t 0), none⟩,
 ⟨(some 7), .call 39 [(.t 6)], none⟩])
 (.seq (.reg [⟨(some 8), .mv (.t 0), none⟩,
 ⟨(some 9), .mv (.t 0), none⟩,
 ⟨(some 10), .nc (.t 9), none⟩,
 ⟨(some 11), .fa (.t 10) 1, none⟩,
 ⟨(some 12), .ld (.t 11) 1 false, none⟩,
 ⟨(some 13), .mv (.t 1), none⟩,
 ⟨(some 14), .app .gr 5 1 1 (.t 12) (.t 13), none⟩,
 ⟨(some 15), .nc (.t 8), none⟩,
 ⟨(some 16), .fa (.t 15) 1, none⟩,
 ⟨none, .st (.t 16) (.t 14) 1, none⟩])
 (.seq (.reg [⟨(some 17), .mv (.t 1), none⟩,
 ⟨(some 18), .len true (.t 17), none⟩,
 ⟨(some 4), .mv (.t 18), none⟩,
 ⟨(some 5), .mv (.c (.d (.v (.nilIface)))), none⟩])
 (.ret))))
def r18 : List RC := [.t 4, .t 5]

/-- (*strings.Builder).WriteByte -/
def c19 : AC :=
 .seq (.reg [⟨(some 4), .mv (.c (.d (.v (.nilIface)))), none⟩])
 (.seq (.reg [⟨(some 5), .mv (.t 0), none⟩,
 ⟨(some 6), .call 39 [(.t 5)], none⟩])
 (.seq (.reg [⟨(some 7), .mv (.t 0), none⟩,
 ⟨(some 8), .mv (.t 0), none⟩,
 ⟨(some 9), .nc (.t 8), none⟩,
 ⟨(some 10), .fa (.t 9) 1, none⟩,
 ⟨(some 11), .ld (.t 10) 1 false, none⟩,
 ⟨(some 12), .mv (.t 1), none⟩,
 ⟨(some 13), .bs .im 5 1 [(.t 12)], none⟩,
 ⟨(some 14), .app .gr 5 1 1 (.t 11) (.t 13), none⟩,
 ⟨(some 15), .nc (.t 7), none⟩,
 ⟨(some 16), .fa (.t 15) 1, none⟩,
 ⟨none, .st (.t 16) (.t 14) 1, none⟩])
 (.seq (.reg [⟨(some 4), .mv (.c (.d (.v (.nilIface)))), none⟩])
 (.ret))))
def r19 : List RC := [.t 4]

/-- spinet/asm.named$1 -/
def c27 : AC :=
 .seq (.reg [⟨(some 3), .bx (.t 0), none⟩])
 (.seq (.dreg [[], [0], [1], [2], [], [], [5], [6], [7], [], [], [10], [11], [12], [13], [], [15], [16], [17], [18], [3, 4, 8, 18], [20], [3, 21, 14, 20, 0, 1, 2, 3, 4, 8, 10, 11, 12, 13, 14, 18, 20], [8, 9, 22, 0, 1, 2, 3, 4, 8, 10, 11, 12, 13, 14, 18, 20, 21, 22], [23], [8, 24, 19, 23, 0, 1, 2, 3, 4, 5, 6, 7, 8, 9, 10, 11, 12, 13, 14, 15, 16, 17, 18, 19, 20, 21, 22, 23]] [⟨(some 5), .ld (.t 2) 1 false, none⟩,
 ⟨(some 6), .nc (.t 5), none⟩,
 ⟨(some 7), .fa (.t 6) 2, none⟩,
 ⟨(some 8), .ld (.t 7) 1 false, none⟩,
 ⟨(some 9), .ld (.t 3) 4 true, none⟩,
 ⟨(some 10), .ld (.t 2) 1 false, none⟩,
 ⟨(some 11), .nc (.t 10), none⟩,
 ⟨(some 12), .fa (.t 11) 3, none⟩,
 ⟨(some 13), .ld (.t 12) 1 false, none⟩,
 ⟨(some 14), .mv (.t 1), none⟩,
 ⟨(some 15), .ld (.t 2) 1 false, none⟩,
 ⟨(some 16), .nc (.t 15), none⟩,
 ⟨(some 17), .fa (.t 16) 0, none⟩,
 ⟨(some 18), .ld (.t 17) 1 false, none⟩,
 ⟨(some 19), .len false (.t 18), none⟩,
 ⟨(some 20), .ld (.t 2) 1 false, none⟩,
 ⟨(some 21), .nc (.t 20), none⟩,
 ⟨(some 22), .fa (.t 21) 0, none⟩,
 ⟨(some 23), .ld (.t 22) 1 false, none⟩,
 ⟨(some 24), .len false (.t 23), none⟩,
 ⟨(some 25), .me ⟨true, [.i .i64, .i .i64, .b, .b]⟩ (.d (.v (.int .i64 0))) (.t 8) (.t 9), none⟩,
 ⟨(some 26), .ext (.t 25) 1, none⟩,
 ⟨none, .mes (.t 8) (.t 26) (.t 19), none⟩,
 ⟨(some 27), .me ⟨false, [.s]⟩ (.d (.v (.int .i64 0))) (.t 13) (.t 14), none⟩,
 ⟨(some 28), .ext (.t 27) 1, none⟩,
 ⟨none, .mes (.t 13) (.t 28) (.t 24), none⟩])
 (.dreg [[], [], [], [2], [3], [4], [], [6], [5, 7], [], [9], [10], [11], [], [13], [12, 14, 8], [0, 0, 2, 3, 4, 5, 6, 7, 8, 12, 15], [16, 0, 2, 3, 4, 5, 6, 7, 8, 12, 15], [17, 8, 15, 0, 2, 3, 4, 5, 6, 7, 8, 12, 15], [1, 0, 1, 2, 3, 4, 5, 6, 7, 8, 9, 10, 11, 12, 13, 14, 15, 16, 17, 18], [19, 0, 1, 2, 3, 4, 5, 6, 7, 8, 9, 10, 11, 12, 13, 14, 15, 16, 17, 18], [20, 15, 18, 0, 1, 2, 3, 4, 5, 6, 7, 8, 9, 10, 11, 12, 13, 14, 15, 16, 17, 18]] [⟨(some 29), .ld (.t 2) 1 false, none⟩,
 ⟨(some 30), .ld (.t 2) 1 false, none⟩,
 ⟨(some 31), .ld (.t 2) 1 false, none⟩,
 ⟨(some 32), .nc (.t 31), none⟩,
 ⟨(some 33), .fa (.t 32) 0, none⟩,
 ⟨(some 34), .ld (.t 33) 1 false, none⟩,
 ⟨(some 35), .mv (.t 1), none⟩,
 ⟨(some 36), .bs .im 9 1 [(.t 35)], none⟩,
 ⟨(some 37), .app .gr 9 1 16 (.t 34) (.t 36), none⟩,
 ⟨(some 38), .ld (.t 2) 1 false, none⟩,
 ⟨(some 39), .nc (.t 38), none⟩,
 ⟨(some 40), .fa (.t 39) 1, none⟩,
 ⟨(some 41), .ld (.t 40) 1 false, none⟩,
 ⟨(some 42), .ld (.t 3) 4 true, none⟩,
 ⟨(some 43), .bs .im 82 4 [(.t 42)], none⟩,
 ⟨(some 44), .app .gr 82 4 24 (.t 41) (.t 43), none⟩,
 ⟨(some 45), .nc (.t 29), none⟩,
 ⟨(some 46), .fa (.t 45) 0, none⟩,
 ⟨none, .st (.t 46) (.t 37) 1, none⟩,
 ⟨(some 47), .nc (.t 30), none⟩,
 ⟨(some 48), .fa (.t 47) 1, none⟩,
 ⟨none, .st (.t 48) (.t 44) 1, none⟩]))
def r27 : List RC := []

def c31l0 : AC :=
 .seq (.reg [⟨(some 55), .bin .lss (.t 54) (.t 53), none⟩])
 (.seq (.cond (.t 55) (.skip) (.exit 0))
 (.seq (.block 1 (.seq (.reg [⟨(some 56), .ia (.t 52) (.t 54) 1, none⟩,
 ⟨(some 57), .ld (.t 56) 1 false, none⟩,
 ⟨(some 15), .mv (.t 57), none⟩])
 (.seq (.reg [⟨(some 59), .mv (.t 15), none⟩,
 ⟨(some 60), .call 54 [(.t 59)], none⟩,
 ⟨(some 58), .mv (.t 60), none⟩,
 ⟨(some 61), .ext (.t 58) 0, none⟩,
 ⟨(some 62), .ext (.t 58) 1, none⟩,
 ⟨(some 63), .ext (.t 58) 2, none⟩,
 ⟨(some 16), .mv (.t 61), none⟩,
 ⟨(some 17), .mv (.t 62), none⟩,
 ⟨(some 18), .mv (.t 63), none⟩])
 (.seq (.seq (.reg [⟨(some 64), .mv (.t 18), none⟩,
 ⟨(some 65), .un .not (.t 64), none⟩])
 (.cond (.t 65) (.seq (.reg [⟨(some 4), .mv (.c (.d (.v (.int .u32 0)))), none⟩,
 ⟨(some 5), .mv (.c (.d (.v (.int .i64 60)))), none⟩])
 (.ret)) (.skip)))
 (.reg [⟨(some 66), .mv (.t 12), none⟩,
 ⟨(some 67), .mv (.t 16), none⟩,
 ⟨(some 68), .bs .im 3 1 [(.t 67)], none⟩,
 ⟨(some 69), .app .gr 3 1 8 (.t 66) (.t 68), none⟩,
 ⟨(some 70), .mv (.t 17), none⟩,
 ⟨(some 12), .mv (.t 69), none⟩,
 ⟨(some 13), .mv (.t 70), none⟩])))))
 (.reg [⟨(some 71), .bin .add (.t 54) (.c (.d (.v (.int .i64 1)))), none⟩,
 ⟨(some 54), .mv (.t 71), none⟩])))

/-- (*spinet/asm.namer).word -/
def c31 : AC :=
 .seq (.reg [⟨(some 4), .mv (.c (.d (.v (.int .u32 0)))), none⟩,
 ⟨(some 5), .mv (.c (.d (.v (.int .i64 0)))), none⟩])
 (.seq (.seq (.reg [⟨(some 24), .mv (.t 1), none⟩,
 ⟨(some 25), .len true (.t 24), none⟩,
 ⟨(some 26), .bin .gtr (.t 25) (.c (.d (.v (.int .i64 40)))), none⟩])
 (.cond (.t 26) (.seq (.reg [⟨(some 4), .mv (.c (.d (.v (.int .u32 0)))), none⟩,
 ⟨(some 5), .mv (.c (.d (.v (.int .i64 60)))), none⟩])
 (.ret)) (.skip)))
 (.seq (.reg [⟨(some 28), .mv (.t 1), none⟩,
 ⟨(some 29), .call 14 [(.t 28), (.c (.d (.v (.string ⟨#[32]⟩))))], none⟩,
 ⟨(some 27), .mv (.t 29), none⟩,
 ⟨(some 30), .ext (.t 27) 0, none⟩,
 ⟨(some 31), .ext (.t 27) 1, none⟩,
 ⟨(some 32), .ext (.t 27) 2, none⟩,
 ⟨(some 6), .mv (.t 30), none⟩,
 ⟨(some 7), .mv (.t 31), none⟩,
 ⟨(some 8), .mv (.t 32), none⟩])
 (.seq (.reg [⟨(some 34), .mv (.t 0), none⟩,
 ⟨(some 35), .nc (.t 34), none⟩,
 ⟨(some 36), .fa (.t 35) 3, none⟩,
 ⟨(some 37), .ld (.t 36) 1 false, none⟩,
 ⟨(some 38), .mv (.t 6), none⟩,
 ⟨(some 39), .lk ⟨false, [.s]⟩ (.d (.v (.int .i64 0))) (.t 37) (.t 38) true, none⟩,
 ⟨(some 33), .mv (.t 39), none⟩,
 ⟨(some 40), .ext (.t 33) 0, none⟩,
 ⟨(some 41), .ext (.t 33) 1, none⟩,
 ⟨(some 9), .mv (.t 40), none⟩,
 ⟨(some 10), .mv (.t 41), none⟩])
 (.seq (.seq (.reg [⟨(some 42), .mv (.t 10), none⟩,
 ⟨(some 43), .un .not (.t 42), none⟩])
 (.cond (.t 43) (.seq (.reg [⟨(some 4), .mv (.c (.d (.v (.int .u32 0)))), none⟩,
 ⟨(some 5), .mv (.c (.d (.v (.int .i64 60)))), none⟩])
 (.ret)) (.skip)))
 (.seq (.reg [⟨(some 44), .mv (.t 0), none⟩,
 ⟨(some 45), .nc (.t 44), none⟩,
 ⟨(some 46), .fa (.t 45) 1, none⟩,
 ⟨(some 47), .ld (.t 46) 1 false, none⟩,
 ⟨(some 48), .mv (.t 9), none⟩,
 ⟨(some 49), .ia (.t 47) (.t 48) 4, none⟩,
 ⟨(some 50), .ld (.t 49) 4 true, none⟩,
 ⟨(some 11), .al [(.d (.v (.int .i64 0))), (.d (.v (.int .i64 0))), (.d (.v (.bool false))), (.d (.v (.bool false)))], none⟩,
 ⟨none, .st (.t 11) (.t 50) 4, none⟩])
 (.seq (.reg [⟨(some 12), .mv (.c .esl), none⟩])
 (.seq (.reg [⟨(some 13), .mv (.c (.d (.v (.bool false)))), none⟩])
 (.seq (.seq (.reg [⟨(some 51), .mv (.t 7), none⟩,
 ⟨(some 52), .call 53 [(.t 51), (.c (.d (.v (.string ⟨#[44, 32]⟩))))], none⟩,
 ⟨(some 53), .len false (.t 52), none⟩,
 ⟨(some 54), .mv (.c (.d (.v (.int .i64 0)))), none⟩])
 (.block 0 (.loop c31l0)))
 (.seq (.reg [⟨(some 72), .fa (.t 11) 0, none⟩,
 ⟨(some 73), .ld (.t 72) 1 false, none⟩,
 ⟨(some 74), .fa (.t 11) 2, none⟩,
 ⟨(some 75), .ld (.t 74) 1 false, none⟩,
 ⟨(some 76), .fa (.t 11) 3, none⟩,
 ⟨(some 77), .ld (.t 76) 1 false, none⟩,
 ⟨(some 78), .bd [(.d (.v (.int .i64 0))), (.d (.v (.bool false))), (.d (.v (.bool false))), (.d (.v (.int .i64 0))), (.d (.v (.int .i64 0))), (.d (.v (.int .i64 0))), (.d (.v (.int .i64 0))), (.d (.v (.int .i64 0)))] [(0, 1, (.t 73)), (1, 1, (.t 75)), (2, 1, (.t 77))], none⟩,
 ⟨(some 19), .al [(.d (.v (.int .i64 0))), (.d (.v (.bool false))), (.d (.v (.bool false))), (.d (.v (.int .i64 0))), (.d (.v (.int .i64 0))), (.d (.v (.int .i64 0))), (.d (.v (.int .i64 0))), (.d (.v (.int .i64 0)))], none⟩,
 ⟨none, .st (.t 19) (.t 78) 8, none⟩])
 (.seq (.block 2 (.seq (.reg [⟨(some 80), .fa (.t 11) 0, none⟩,
 ⟨(some 81), .ld (.t 80) 1 false, none⟩,
 ⟨(some 82), .bin .eql (.t 81) (.c (.d (.v (.int .i64 3)))), none⟩,
 ⟨(some 83), .mv (.t 82), none⟩,
 ⟨(some 84), .mv (.t 12), (some (83, true))⟩,
 ⟨(some 85), .len false (.t 84), (some (83, true))⟩,
 ⟨(some 86), .bin .eql (.t 85) (.c (.d (.v (.int .i64 1)))), (some (83, true))⟩,
 ⟨(some 87), .pick (.t 83) (.t 86) (.c (.d (.v (.bool false)))), none⟩,
 ⟨(some 79), .mv (.t 87), none⟩])
 (.cond (.t 79) (.reg [⟨(some 88), .fa (.t 11) 1, none⟩,
 ⟨(some 89), .ld (.t 88) 1 false, none⟩,
 ⟨(some 90), .mv (.t 13), none⟩,
 ⟨(some 91), .un .not (.t 90), none⟩,
 ⟨(some 92), .fa (.t 19) 3, none⟩,
 ⟨none, .st (.t 92) (.t 89) 1, none⟩,
 ⟨(some 93), .fa (.t 19) 1, none⟩,
 ⟨none, .st (.t 93) (.t 91) 1, none⟩]) (.seq (.reg [⟨(some 95), .fa (.t 11) 0, none⟩,
 ⟨(some 96), .ld (.t 95) 1 false, none⟩,
 ⟨(some 97), .bin .neq (.t 96) (.c (.d (.v (.int .i64 3)))), none⟩,
 ⟨(some 98), .mv (.t 97), none⟩,
 ⟨(some 99), .mv (.t 12), (some (98, true))⟩,
 ⟨(some 100), .len false (.t 99), (some (98, true))⟩,
 ⟨(some 101), .bin .eql (.t 100) (.c (.d (.v (.int .i64 3)))), (some (98, true))⟩,
 ⟨(some 102), .pick (.t 98) (.t 101) (.c (.d (.v (.bool false)))), none⟩,
 ⟨(some 94), .mv (.t 102), none⟩])
 (.cond (.t 94) (.seq (.dreg [[], [0], [1], [], [3], [4], [], [6], [0, 1, 2], [8, 2, 0, 1, 2], [0, 1, 2, 3, 4, 5, 8, 9], [10, 5, 9, 0, 1, 2, 3, 4, 5, 8, 9], [0, 1, 2, 3, 4, 5, 6, 7, 8, 9, 10, 11], [12, 7, 11, 0, 1, 2, 3, 4, 5, 6, 7, 8, 9, 10, 11]] [⟨(some 103), .mv (.t 12), none⟩,
 ⟨(some 104), .ia (.t 103) (.c (.d (.v (.int .i64 0)))) 1, none⟩,
 ⟨(some 105), .ld (.t 104) 1 false, none⟩,
 ⟨(some 106), .mv (.t 12), none⟩,
 ⟨(some 107), .ia (.t 106) (.c (.d (.v (.int .i64 1)))) 1, none⟩,
 ⟨(some 108), .ld (.t 107) 1 false, none⟩,
 ⟨(some 109), .fa (.t 11) 1, none⟩,
 ⟨(some 110), .ld (.t 109) 1 false, none⟩,
 ⟨(some 111), .fa (.t 19) 3, none⟩,
 ⟨none, .st (.t 111) (.t 105) 1, none⟩,
 ⟨(some 112), .fa (.t 19) 4, none⟩,
 ⟨none, .st (.t 112) (.t 108) 1, none⟩,
 ⟨(some 113), .fa (.t 19) 6, none⟩,
 ⟨none, .st (.t 113) (.t 110) 1, none⟩])
 (.seq (.reg [⟨(some 114), .fa (.t 11) 0, none⟩,
 ⟨(some 115), .ld (.t 114) 1 false, none⟩,
 ⟨(some 116), .bin .eql (.t 115) (.c (.d (.v (.int .i64 0)))), none⟩,
 ⟨(some 117), .mv (.t 116), none⟩,
 ⟨(some 118), .mv (.t 13), (some (117, true))⟩,
 ⟨(some 119), .un .not (.t 118), (some (117, true))⟩,
 ⟨(some 120), .pick (.t 117) (.t 119) (.c (.d (.v (.bool false)))), none⟩])
 (.cond (.t 120) (.reg [⟨(some 121), .fa (.t 19) 0, none⟩,
 ⟨none, .st (.t 121) (.c (.d (.v (.int .i64 1)))) 1, none⟩]) (.skip)))) (.seq (.reg [⟨(some 4), .mv (.c (.d (.v (.int .u32 0)))), none⟩,
 ⟨(some 5), .mv (.c (.d (.v (.int .i64 60)))), none⟩])
 (.ret)))))))
 (.seq (.seq (.reg [⟨(some 122), .mv (.t 13), none⟩])
 (.cond (.t 122) (.reg [⟨(some 123), .mv (.t 12), none⟩,
 ⟨(some 124), .mv (.t 12), none⟩,
 ⟨(some 125), .len false (.t 124), none⟩,
 ⟨(some 126), .bin .sub (.t 125) (.c (.d (.v (.int .i64 1)))), none⟩,
 ⟨(some 127), .ia (.t 123) (.t 126) 1, none⟩,
 ⟨(some 128), .ld (.t 127) 1 false, none⟩,
 ⟨(some 129), .fa (.t 19) 5, none⟩,
 ⟨none, .st (.t 129) (.t 128) 1, none⟩]) (.reg [⟨(some 130), .mv (.t 12), none⟩,
 ⟨(some 131), .mv (.t 12), none⟩,
 ⟨(some 132), .len false (.t 131), none⟩,
 ⟨(some 133), .bin .sub (.t 132) (.c (.d (.v (.int .i64 1)))), none⟩,
 ⟨(some 134), .ia (.t 130) (.t 133) 1, none⟩,
 ⟨(some 135), .ld (.t 134) 1 false, none⟩,
 ⟨(some 136), .fa (.t 19) 7, none⟩,
 ⟨none, .st (.t 136) (.t 135) 1, none⟩])))
 (.seq (.reg [⟨(some 138), .ld (.t 19) 8 true, none⟩,
 ⟨(some 139), .call 55 [(.t 138)], none⟩,
 ⟨(some 137), .mv (.t 139), none⟩,
 ⟨(some 140), .ext (.t 137) 0, none⟩,
 ⟨(some 141), .ext (.t 137) 1, none⟩,
 ⟨(some 20), .mv (.t 140), none⟩,
 ⟨(some 21), .mv (.t 141), none⟩])
 (.seq (.seq (.reg [⟨(some 143), .mv (.t 0), none⟩,
 ⟨(some 144), .mv (.t 20), none⟩,
 ⟨(some 145), .call 16 [(.t 143), (.t 144)], none⟩,
 ⟨(some 142), .mv (.t 145), none⟩,
 ⟨(some 146), .ext (.t 142) 0, none⟩,
 ⟨(some 147), .ext (.t 142) 1, none⟩,
 ⟨(some 22), .mv (.t 146), none⟩,
 ⟨(some 23), .mv (.t 147), none⟩])
 (.seq (.reg [⟨(some 148), .mv (.t 21), none⟩,
 ⟨(some 149), .bin .neq (.t 148) (.c (.d (.v (.int .i64 0)))), none⟩,
 ⟨(some 150), .mv (.t 149), none⟩,
 ⟨(some 151), .mv (.t 23), (some (150, false))⟩,
 ⟨(some 152), .bin .neq (.t 151) (.c (.d (.v (.int .i64 0)))), (some (150, false))⟩,
 ⟨(some 153), .pick (.t 150) (.c (.d (.v (.bool true)))) (.t 152), none⟩,
 ⟨(some 154), .mv (.t 153), none⟩,
 ⟨(some 155), .mv (.t 22), (some (154, false))⟩,
 ⟨(some 156), .mv (.t 1), (some (154, false))⟩,
 ⟨(some 157), .bin .neq (.t 155) (.t 156), (some (154, false))⟩,
 ⟨(some 158), .pick (.t 154) (.c (.d (.v (.bool true)))) (.t 157), none⟩])
 (.cond (.t 158) (.seq (.reg [⟨(some 4), .mv (.c (.d (.v (.int .u32 0)))), none⟩,
 ⟨(some 5), .mv (.c (.d (.v (.int .i64 60)))), none⟩])
 (.ret)) (.skip))))
 (.seq (.reg [⟨(some 159), .mv (.t 20), none⟩,
 ⟨(some 4), .mv (.t 159), none⟩,
 ⟨(some 5), .mv (.c (.d (.v (.int .i64 0)))), none⟩])
 (.ret)))))))))))))))
def r31 : List RC := [.t 4, .t 5]

/-- strconv.ParseUint -/
def c32 : AC :=
 .seq (.reg [⟨(some 6), .mv (.c (.d (.v (.int .u64 0)))), none⟩,
 ⟨(some 7), .mv (.c (.d (.v (.nilIface)))), none⟩])
 (.seq (.reg [⟨(some 11), .mv (.t 0), none⟩,
 ⟨(some 12), .mv (.t 1), none⟩,
 ⟨(some 13), .mv (.t 2), none⟩,
 ⟨(some 14), .call 56 [(.t 11), (.t 12), (.t 13)], none⟩,
 ⟨(some 10), .mv (.t 14), none⟩,
 ⟨(some 15), .ext (.t 10) 0, none⟩,
 ⟨(some 16), .ext (.t 10) 1, none⟩,
 ⟨(some 8), .mv (.t 15), none⟩,
 ⟨(some 9), .mv (.t 16), none⟩])
 (.seq (.seq (.reg [⟨(some 17), .mv (.t 9), none⟩,
 ⟨(some 18), .eqi true (.t 17), none⟩])
 (.cond (.t 18) (.seq (.reg [⟨(some 19), .mv (.t 8), none⟩,
 ⟨(some 20), .mv (.t 0), none⟩,
 ⟨(some 21), .mv (.t 1), none⟩,
 ⟨(some 22), .mv (.t 2), none⟩,
 ⟨(some 23), .mv (.t 9), none⟩,
 ⟨(some 24), .call 57 [(.c (.d (.v (.string ⟨#[80, 97, 114, 115, 101, 85, 105, 110, 116]⟩)))), (.t 20), (.t 21), (.t 22), (.t 23)], none⟩,
 ⟨(some 6), .mv (.t 19), none⟩,
 ⟨(some 7), .mv (.t 24), none⟩])
 (.ret)) (.skip)))
 (.seq (.reg [⟨(some 25), .mv (.t 8), none⟩,
 ⟨(some 6), .mv (.t 25), none⟩,
 ⟨(some 7), .mv (.c (.d (.v (.nilIface)))), none⟩])
 (.ret))))
def r32 : List RC := [.t 6, .t 7]

/-- spinet/asm.of -/
def c34 : AC :=
 .seq (.reg [⟨(some 1), .bx (.t 0), none⟩,
 ⟨(some 2), .al [(.d (.v (.int .i64 0))), (.d (.v (.int .i64 0))), (.d (.v (.bool false))), (.d (.v (.bool false)))], none⟩])
 (.seq (.seq (.reg [⟨(some 3), .fa (.t 1) 0, none⟩,
 ⟨(some 4), .ld (.t 3) 1 false, none⟩])
 (.block 0 (.seq (.reg [⟨(some 6), .bin .eql (.t 4) (.c (.d (.v (.int .i64 3)))), none⟩,
 ⟨(some 5), .mv (.t 6), none⟩])
 (.cond (.t 5) (.seq (.reg [⟨(some 7), .fa (.t 1) 0, none⟩,
 ⟨(some 8), .ld (.t 7) 1 false, none⟩,
 ⟨(some 9), .fa (.t 1) 3, none⟩,
 ⟨(some 10), .ld (.t 9) 1 false, none⟩,
 ⟨(some 11), .fa (.t 1) 2, none⟩,
 ⟨(some 12), .ld (.t 11) 1 false, none⟩,
 ⟨(some 13), .bd [(.d (.v (.int .i64 0))), (.d (.v (.int .i64 0))), (.d (.v (.bool false))), (.d (.v (.bool false)))] [(0, 1, (.t 8)), (1, 1, (.t 10)), (2, 1, (.c (.d (.v (.bool false))))), (3, 1, (.t 12))], none⟩,
 ⟨none, .st (.t 2) (.t 13) 4, none⟩])
 (.ret)) (.seq (.reg [⟨(some 15), .bin .eql (.t 4) (.c (.d (.v (.int .i64 2)))), none⟩,
 ⟨(some 14), .mv (.t 15), none⟩])
 (.cond (.t 14) (.seq (.reg [⟨(some 16), .fa (.t 1) 0, none⟩,
 ⟨(some 17), .ld (.t 16) 1 false, none⟩,
 ⟨(some 18), .fa (.t 1) 1, none⟩,
 ⟨(some 19), .ld (.t 18) 1 false, none⟩,
 ⟨(some 20), .fa (.t 1) 2, none⟩,
 ⟨(some 21), .ld (.t 20) 1 false, none⟩,
 ⟨(some 22), .bd [(.d (.v (.int .i64 0))), (.d (.v (.int .i64 0))), (.d (.v (.bool false))), (.d (.v (.bool false)))] [(0, 1, (.t 17)), (1, 1, (.c (.d (.v (.int .i64 0))))), (2, 1, (.t 19)), (3, 1, (.t 21))], none⟩,
 ⟨none, .st (.t 2) (.t 22) 4, none⟩])
 (.ret)) (.skip)))))))
 (.seq (.reg [⟨(some 23), .fa (.t 1) 6, none⟩,
 ⟨(some 24), .ld (.t 23) 1 false, none⟩,
 ⟨(some 25), .fa (.t 1) 1, none⟩,
 ⟨(some 26), .ld (.t 25) 1 false, none⟩,
 ⟨(some 27), .fa (.t 1) 2, none⟩,
 ⟨(some 28), .ld (.t 27) 1 false, none⟩,
 ⟨(some 29), .bd [(.d (.v (.int .i64 0))), (.d (.v (.int .i64 0))), (.d (.v (.bool false))), (.d (.v (.bool false)))] [(0, 1, (.c (.d (.v (.int .i64 0))))), (1, 1, (.t 24)), (2, 1, (.t 26)), (3, 1, (.t 28))], none⟩,
 ⟨none, .st (.t 2) (.t 29) 4, none⟩])
 (.ret)))
def r34 : List RC := [.c 2 4 true]

/-- spinet/asm.register -/
def c35 : AC :=
 .seq (.reg [⟨(some 2), .mv (.c (.d (.v (.string ⟨#[]⟩)))), none⟩])
 (.seq (.reg [⟨(some 3), .mv (.t 0), none⟩,
 ⟨(some 4), .call 36 [(.t 3)], none⟩,
 ⟨(some 5), .bin .add (.c (.d (.v (.string ⟨#[82]⟩)))) (.t 4), none⟩,
 ⟨(some 2), .mv (.t 5), none⟩])
 (.ret))
def r35 : List RC := [.t 2]

/-- strconv.FormatUint -/
def c37 : AC :=
 .seq (.reg [⟨(some 4), .mv (.c (.d (.v (.string ⟨#[]⟩)))), none⟩])
 (.seq (.reg [⟨(some 5), .mv (.t 0), none⟩,
 ⟨(some 6), .mv (.t 1), none⟩,
 ⟨(some 7), .call 61 [(.t 5), (.t 6)], none⟩,
 ⟨(some 4), .mv (.t 7), none⟩])
 (.ret))
def r37 : List RC := [.t 4]

/-- spinet/asm.operand -/
def c54 : AC :=
 .seq (.reg [⟨(some 2), .mv (.c (.d (.v (.int .i64 0)))), none⟩,
 ⟨(some 3), .mv (.c (.d (.v (.bool false)))), none⟩,
 ⟨(some 4), .mv (.c (.d (.v (.bool false)))), none⟩])
 (.seq (.reg [⟨(some 8), .mv (.t 0), none⟩,
 ⟨(some 9), .call 84 [(.t 8), (.c (.d (.v (.string ⟨#[82]⟩))))], none⟩,
 ⟨(some 7), .mv (.t 9), none⟩,
 ⟨(some 10), .ext (.t 7) 0, none⟩,
 ⟨(some 11), .ext (.t 7) 1, none⟩,
 ⟨(some 5), .mv (.t 10), none⟩,
 ⟨(some 3), .mv (.t 11), none⟩])
 (.seq (.reg [⟨(some 13), .mv (.t 5), none⟩,
 ⟨(some 14), .call 85 [(.t 13)], none⟩,
 ⟨(some 12), .mv (.t 14), none⟩,
 ⟨(some 15), .ext (.t 12) 0, none⟩,
 ⟨(some 16), .ext (.t 12) 1, none⟩,
 ⟨(some 2), .mv (.t 15), none⟩,
 ⟨(some 6), .mv (.t 16), none⟩])
 (.seq (.dreg [[], [], [], [2], [0, 0], [1, 4, 0, 1, 4], [3, 5, 0, 1, 2, 3, 4, 5]] [⟨(some 17), .mv (.t 2), none⟩,
 ⟨(some 18), .mv (.t 3), none⟩,
 ⟨(some 19), .mv (.t 6), none⟩,
 ⟨(some 20), .eqi false (.t 19), none⟩,
 ⟨(some 2), .mv (.t 17), none⟩,
 ⟨(some 3), .mv (.t 18), none⟩,
 ⟨(some 4), .mv (.t 20), none⟩])
 (.ret))))
def r54 : List RC := [.t 2, .t 3, .t 4]

def c56l0 : AC :=
 .seq (.reg [⟨(some 102), .bin .lss (.t 101) (.t 100), none⟩])
 (.seq (.cond (.t 102) (.skip) (.exit 3))
 (.seq (.block 4 (.seq (.reg [⟨(some 103), .ia (.t 99) (.t 101) 1, none⟩,
 ⟨(some 104), .ld (.t 103) 1 false, none⟩,
 ⟨(some 15), .mv (.t 104), none⟩])
 (.seq (.reg [⟨(some 16), .mv (.c (.d (.v (.int .u8 0)))), none⟩])
 (.seq (.block 5 (.seq (.reg [⟨(some 107), .mv (.t 15), none⟩,
 ⟨(some 108), .bin .eql (.t 107) (.c (.d (.v (.int .u8 95)))), none⟩,
 ⟨(some 109), .mv (.t 108), none⟩,
 ⟨(some 110), .mv (.t 8), (some (109, true))⟩,
 ⟨(some 111), .pick (.t 109) (.t 110) (.c (.d (.v (.bool false)))), none⟩,
 ⟨(some 106), .mv (.t 111), none⟩])
 (.cond (.t 106) (.seq (.reg [⟨(some 12), .mv (.c (.d (.v (.bool true)))), none⟩])
 (.exit 4)) (.seq (.reg [⟨(some 113), .mv (.t 15), none⟩,
 ⟨(some 114), .bin .leq (.c (.d (.v (.int .u8 48)))) (.t 113), none⟩,
 ⟨(some 115), .mv (.t 114), none⟩,
 ⟨(some 116), .mv (.t 15), (some (115, true))⟩,
 ⟨(some 117), .bin .leq (.t 116) (.c (.d (.v (.int .u8 57)))), (some (115, true))⟩,
 ⟨(some 118), .pick (.t 115) (.t 117) (.c (.d (.v (.bool false)))), none⟩,
 ⟨(some 112), .mv (.t 118), none⟩])
 (.cond (.t 112) (.reg [⟨(some 119), .mv (.t 15), none⟩,
 ⟨(some 120), .bin .sub (.t 119) (.c (.d (.v (.int .u8 48)))), none⟩,
 ⟨(some 16), .mv (.t 120), none⟩]) (.seq (.reg [⟨(some 122), .mv (.t 15), none⟩,
 ⟨(some 123), .call 88 [(.t 122)], none⟩,
 ⟨(some 124), .bin .leq (.c (.d (.v (.int .u8 97)))) (.t 123), none⟩,
 ⟨(some 125), .mv (.t 124), none⟩,
 ⟨(some 126), .mv (.t 15), (some (125, true))⟩,
 ⟨(some 127), .call 88 [(.t 126)], (some (125, true))⟩,
 ⟨(some 128), .bin .leq (.t 127) (.c (.d (.v (.int .u8 122)))), (some (125, true))⟩,
 ⟨(some 129), .pick (.t 125) (.t 128) (.c (.d (.v (.bool false)))), none⟩,
 ⟨(some 121), .mv (.t 129), none⟩])
 (.cond (.t 121) (.reg [⟨(some 130), .mv (.t 15), none⟩,
 ⟨(some 131), .call 88 [(.t 130)], none⟩,
 ⟨(some 132), .bin .sub (.t 131) (.c (.d (.v (.int .u8 97)))), none⟩,
 ⟨(some 133), .bin .add (.t 132) (.c (.d (.v (.int .u8 10)))), none⟩,
 ⟨(some 16), .mv (.t 133), none⟩]) (.seq (.stuck)
 (.ret)))))))))
 (.seq (.seq (.reg [⟨(some 134), .mv (.t 16), none⟩,
 ⟨(some 135), .mv (.t 1), none⟩,
 ⟨(some 136), .cvi .u8 (.t 135), none⟩,
 ⟨(some 137), .bin .geq (.t 134) (.t 136), none⟩])
 (.cond (.t 137) (.seq (.stuck)
 (.ret)) (.skip)))
 (.seq (.seq (.reg [⟨(some 139), .mv (.t 13), none⟩,
 ⟨(some 140), .mv (.t 10), none⟩,
 ⟨(some 141), .bin .geq (.t 139) (.t 140), none⟩])
 (.cond (.t 141) (.seq (.stuck)
 (.ret)) (.skip)))
 (.seq (.reg [⟨(some 144), .mv (.t 13), none⟩,
 ⟨(some 145), .mv (.t 1), none⟩,
 ⟨(some 146), .cvi .u64 (.t 145), none⟩,
 ⟨(some 147), .bin .mul (.t 144) (.t 146), none⟩,
 ⟨(some 13), .mv (.t 147), none⟩])
 (.seq (.reg [⟨(some 148), .mv (.t 13), none⟩,
 ⟨(some 149), .mv (.t 16), none⟩,
 ⟨(some 150), .cvi .u64 (.t 149), none⟩,
 ⟨(some 151), .bin .add (.t 148) (.t 150), none⟩,
 ⟨(some 17), .mv (.t 151), none⟩])
 (.seq (.seq (.reg [⟨(some 152), .mv (.t 17), none⟩,
 ⟨(some 153), .mv (.t 13), none⟩,
 ⟨(some 154), .bin .lss (.t 152) (.t 153), none⟩,
 ⟨(some 155), .mv (.t 154), none⟩,
 ⟨(some 156), .mv (.t 17), (some (155, false))⟩,
 ⟨(some 157), .mv (.t 11), (some (155, false))⟩,
 ⟨(some 158), .bin .gtr (.t 156) (.t 157), (some (155, false))⟩,
 ⟨(some 159), .pick (.t 155) (.c (.d (.v (.bool true)))) (.t 158), none⟩])
 (.cond (.t 159) (.seq (.stuck)
 (.ret)) (.skip)))
 (.reg [⟨(some 162), .mv (.t 17), none⟩,
 ⟨(some 13), .mv (.t 162), none⟩]))))))))))
 (.reg [⟨(some 163), .bin .add (.t 101) (.c (.d (.v (.int .i64 1)))), none⟩,
 ⟨(some 101), .mv (.t 163), none⟩])))

/-- internal/strconv.ParseUint -/
def c56 : AC :=
 .seq (.reg [⟨(some 6), .mv (.c (.d (.v (.int .u64 0)))), none⟩,
 ⟨(some 7), .mv (.c (.d (.v (.nilIface)))), none⟩])
 (.seq (.seq (.reg [⟨(some 18), .mv (.t 0), none⟩,
 ⟨(some 19), .bin .eql (.t 18) (.c (.d (.v (.string ⟨#[]⟩)))), none⟩])
 (.cond (.t 19) (.seq (.stuck)
 (.ret)) (.skip)))
 (.seq (.reg [⟨(some 21), .mv (.t 1), none⟩,
 ⟨(some 22), .bin .eql (.t 21) (.c (.d (.v (.int .i64 0)))), none⟩,
 ⟨(some 8), .mv (.t 22), none⟩])
 (.seq (.reg [⟨(some 23), .mv (.t 0), none⟩,
 ⟨(some 9), .mv (.t 23), none⟩])
 (.seq (.block 0 (.seq (.reg [⟨(some 26), .mv (.t 1), none⟩,
 ⟨(some 27), .bin .leq (.c (.d (.v (.int .i64 2)))) (.t 26), none⟩,
 ⟨(some 28), .mv (.t 27), none⟩,
 ⟨(some 29), .mv (.t 1), (some (28, true))⟩,
 ⟨(some 30), .bin .leq (.t 29) (.c (.d (.v (.int .i64 36)))), (some (28, true))⟩,
 ⟨(some 31), .pick (.t 28) (.t 30) (.c (.d (.v (.bool false)))), none⟩,
 ⟨(some 25), .mv (.t 31), none⟩])
 (.cond (.t 25) (.skip) (.seq (.reg [⟨(some 33), .mv (.t 1), none⟩,
 ⟨(some 34), .bin .eql (.t 33) (.c (.d (.v (.int .i64 0)))), none⟩,
 ⟨(some 32), .mv (.t 34), none⟩])
 (.cond (.t 32) (.seq (.reg [⟨(some 1), .mv (.c (.d (.v (.int .i64 10)))), none⟩])
 (.seq (.reg [⟨(some 35), .mv (.t 0), none⟩,
 ⟨(some 36), .ix (.t 35) (.c (.d (.v (.int .i64 0)))), none⟩,
 ⟨(some 37), .bin .eql (.t 36) (.c (.d (.v (.int .u8 48)))), none⟩])
 (.cond (.t 37) (.block 1 (.seq (.reg [⟨(some 41), .mv (.t 0), none⟩,
 ⟨(some 42), .len true (.t 41), none⟩,
 ⟨(some 43), .bin .geq (.t 42) (.c (.d (.v (.int .i64 3)))), none⟩,
 ⟨(some 44), .mv (.t 43), none⟩,
 ⟨(some 45), .mv (.t 0), (some (44, true))⟩,
 ⟨(some 46), .ix (.t 45) (.c (.d (.v (.int .i64 1)))), (some (44, true))⟩,
 ⟨(some 47), .call 88 [(.t 46)], (some (44, true))⟩,
 ⟨(some 48), .bin .eql (.t 47) (.c (.d (.v (.int .u8 98)))), (some (44, true))⟩,
 ⟨(some 49), .pick (.t 44) (.t 48) (.c (.d (.v (.bool false)))), none⟩,
 ⟨(some 40), .mv (.t 49), none⟩])
 (.cond (.t 40) (.seq (.reg [⟨(some 1), .mv (.c (.d (.v (.int .i64 2)))), none⟩])
 (.reg [⟨(some 50), .mv (.t 0), none⟩,
 ⟨(some 51), .sli true (.t 50) (some (.c (.d (.v (.int .i64 2))))) none 1, none⟩,
 ⟨(some 0), .mv (.t 51), none⟩])) (.seq (.reg [⟨(some 53), .mv (.t 0), none⟩,
 ⟨(some 54), .len true (.t 53), none⟩,
 ⟨(some 55), .bin .geq (.t 54) (.c (.d (.v (.int .i64 3)))), none⟩,
 ⟨(some 56), .mv (.t 55), none⟩,
 ⟨(some 57), .mv (.t 0), (some (56, true))⟩,
 ⟨(some 58), .ix (.t 57) (.c (.d (.v (.int .i64 1)))), (some (56, true))⟩,
 ⟨(some 59), .call 88 [(.t 58)], (some (56, true))⟩,
 ⟨(some 60), .bin .eql (.t 59) (.c (.d (.v (.int .u8 111)))), (some (56, true))⟩,
 ⟨(some 61), .pick (.t 56) (.t 60) (.c (.d (.v (.bool false)))), none⟩,
 ⟨(some 52), .mv (.t 61), none⟩])
 (.cond (.t 52) (.seq (.reg [⟨(some 1), .mv (.c (.d (.v (.int .i64 8)))), none⟩])
 (.reg [⟨(some 62), .mv (.t 0), none⟩,
 ⟨(some 63), .sli true (.t 62) (some (.c (.d (.v (.int .i64 2))))) none 1, none⟩,
 ⟨(some 0), .mv (.t 63), none⟩])) (.seq (.reg [⟨(some 65), .mv (.t 0), none⟩,
 ⟨(some 66), .len true (.t 65), none⟩,
 ⟨(some 67), .bin .geq (.t 66) (.c (.d (.v (.int .i64 3)))), none⟩,
 ⟨(some 68), .mv (.t 67), none⟩,
 ⟨(some 69), .mv (.t 0), (some (68, true))⟩,
 ⟨(some 70), .ix (.t 69) (.c (.d (.v (.int .i64 1)))), (some (68, true))⟩,
 ⟨(some 71), .call 88 [(.t 70)], (some (68, true))⟩,
 ⟨(some 72), .bin .eql (.t 71) (.c (.d (.v (.int .u8 120)))), (some (68, true))⟩,
 ⟨(some 73), .pick (.t 68) (.t 72) (.c (.d (.v (.bool false)))), none⟩,
 ⟨(some 64), .mv (.t 73), none⟩])
 (.cond (.t 64) (.seq (.reg [⟨(some 1), .mv (.c (.d (.v (.int .i64 16)))), none⟩])
 (.reg [⟨(some 74), .mv (.t 0), none⟩,
 ⟨(some 75), .sli true (.t 74) (some (.c (.d (.v (.int .i64 2))))) none 1, none⟩,
 ⟨(some 0), .mv (.t 75), none⟩])) (.seq (.reg [⟨(some 1), .mv (.c (.d (.v (.int .i64 8)))), none⟩])
 (.reg [⟨(some 38), .mv (.t 0), none⟩,
 ⟨(some 39), .sli true (.t 38) (some (.c (.d (.v (.int .i64 1))))) none 1, none⟩,
 ⟨(some 0), .mv (.t 39), none⟩]))))))))) (.skip)))) (.seq (.stuck)
 (.ret)))))))
 (.seq (.seq (.reg [⟨(some 76), .mv (.t 2), none⟩,
 ⟨(some 77), .bin .eql (.t 76) (.c (.d (.v (.int .i64 0)))), none⟩])
 (.cond (.t 77) (.reg [⟨(some 2), .mv (.c (.d (.v (.int .i64 64)))), none⟩]) (.seq (.reg [⟨(some 78), .mv (.t 2), none⟩,
 ⟨(some 79), .bin .lss (.t 78) (.c (.d (.v (.int .i64 0)))), none⟩,
 ⟨(some 80), .mv (.t 79), none⟩,
 ⟨(some 81), .mv (.t 2), (some (80, false))⟩,
 ⟨(some 82), .bin .gtr (.t 81) (.c (.d (.v (.int .i64 64)))), (some (80, false))⟩,
 ⟨(some 83), .pick (.t 80) (.c (.d (.v (.bool true)))) (.t 82), none⟩])
 (.cond (.t 83) (.seq (.stuck)
 (.ret)) (.skip)))))
 (.seq (.reg [⟨(some 10), .mv (.c (.d (.v (.int .u64 0)))), none⟩])
 (.seq (.seq (.reg [⟨(some 85), .mv (.t 1), none⟩])
 (.block 2 (.seq (.reg [⟨(some 91), .bin .eql (.t 85) (.c (.d (.v (.int .i64 10)))), none⟩,
 ⟨(some 90), .mv (.t 91), none⟩])
 (.cond (.t 90) (.reg [⟨(some 10), .mv (.c (.d (.v (.int .u64 1844674407370955162)))), none⟩]) (.seq (.reg [⟨(some 93), .bin .eql (.t 85) (.c (.d (.v (.int .i64 16)))), none⟩,
 ⟨(some 92), .mv (.t 93), none⟩])
 (.cond (.t 92) (.reg [⟨(some 10), .mv (.c (.d (.v (.int .u64 1152921504606846976)))), none⟩]) (.reg [⟨(some 86), .mv (.t 1), none⟩,
 ⟨(some 87), .cvi .u64 (.t 86), none⟩,
 ⟨(some 88), .bin .quo (.c (.d (.v (.int .u64 18446744073709551615)))) (.t 87), none⟩,
 ⟨(some 89), .bin .add (.t 88) (.c (.d (.v (.int .u64 1)))), none⟩,
 ⟨(some 10), .mv (.t 89), none⟩])))))))
 (.seq (.reg [⟨(some 94), .mv (.t 2), none⟩,
 ⟨(some 95), .cvi .u64 (.t 94), none⟩,
 ⟨(some 96), .bin .shl (.c (.d (.v (.int .u64 1)))) (.t 95), none⟩,
 ⟨(some 97), .bin .sub (.t 96) (.c (.d (.v (.int .u64 1)))), none⟩,
 ⟨(some 11), .mv (.t 97), none⟩])
 (.seq (.reg [⟨(some 12), .mv (.c (.d (.v (.bool false)))), none⟩])
 (.seq (.reg [⟨(some 13), .mv (.c (.d (.v (.int .u64 0)))), none⟩])
 (.seq (.seq (.reg [⟨(some 98), .mv (.t 0), none⟩,
 ⟨(some 99), .s2b .im 0 (.t 98), none⟩,
 ⟨(some 100), .len false (.t 99), none⟩,
 ⟨(some 101), .mv (.c (.d (.v (.int .i64 0)))), none⟩])
 (.block 3 (.loop c56l0)))
 (.seq (.seq (.reg [⟨(some 164), .mv (.t 12), none⟩,
 ⟨(some 165), .mv (.t 164), none⟩,
 ⟨(some 166), .mv (.t 9), (some (165, true))⟩,
 ⟨(some 167), .call 89 [(.t 166)], (some (165, true))⟩,
 ⟨(some 168), .un .not (.t 167), (some (165, true))⟩,
 ⟨(some 169), .pick (.t 165) (.t 168) (.c (.d (.v (.bool false)))), none⟩])
 (.cond (.t 169) (.seq (.stuck)
 (.ret)) (.skip)))
 (.seq (.reg [⟨(some 171), .mv (.t 13), none⟩,
 ⟨(some 6), .mv (.t 171), none⟩,
 ⟨(some 7), .mv (.c (.d (.v (.nilIface)))), none⟩])
 (.ret))))))))))))))
def r56 : List RC := [.t 6, .t 7]

/-- internal/strconv.FormatUint -/
def c61 : AC :=
 .seq (.reg [⟨(some 4), .mv (.c (.d (.v (.string ⟨#[]⟩)))), none⟩])
 (.seq (.seq (.reg [⟨(some 9), .mv (.t 1), none⟩,
 ⟨(some 10), .bin .eql (.t 9) (.c (.d (.v (.int .i64 10)))), none⟩])
 (.cond (.t 10) (.seq (.seq (.reg [⟨(some 11), .mv (.t 0), none⟩,
 ⟨(some 12), .bin .lss (.t 11) (.c (.d (.v (.int .u64 100)))), none⟩])
 (.cond (.t 12) (.seq (.reg [⟨(some 13), .mv (.t 0), none⟩,
 ⟨(some 14), .cvi .i64 (.t 13), none⟩,
 ⟨(some 15), .call 97 [(.t 14)], none⟩,
 ⟨(some 4), .mv (.t 15), none⟩])
 (.ret)) (.skip)))
 (.seq (.reg [⟨(some 5), .al [(.d (.v (.int .u8 0))), (.d (.v (.int .u8 0))), (.d (.v (.int .u8 0))), (.d (.v (.int .u8 0))), (.d (.v (.int .u8 0))), (.d (.v (.int .u8 0))), (.d (.v (.int .u8 0))), (.d (.v (.int .u8 0))), (.d (.v (.int .u8 0))), (.d (.v (.int .u8 0))), (.d (.v (.int .u8 0))), (.d (.v (.int .u8 0))), (.d (.v (.int .u8 0))), (.d (.v (.int .u8 0))), (.d (.v (.int .u8 0))), (.d (.v (.int .u8 0))), (.d (.v (.int .u8 0))), (.d (.v (.int .u8 0))), (.d (.v (.int .u8 0))), (.d (.v (.int .u8 0))), (.d (.v (.int .u8 0))), (.d (.v (.int .u8 0))), (.d (.v (.int .u8 0))), (.d (.v (.int .u8 0)))], none⟩])
 (.seq (.reg [⟨(some 16), .mv (.t 0), none⟩,
 ⟨(some 17), .call 98 [(.t 16)], none⟩,
 ⟨(some 6), .mv (.t 17), none⟩])
 (.seq (.reg [⟨(some 18), .mv (.t 6), none⟩,
 ⟨(some 19), .sla (.t 5) none (some (.t 18)) 24 1, none⟩,
 ⟨(some 20), .mv (.t 0), none⟩,
 ⟨(some 21), .call 99 [(.t 19), (.t 20)], none⟩])
 (.seq (.reg [⟨(some 22), .mv (.t 6), none⟩,
 ⟨(some 23), .sla (.t 5) none (some (.t 22)) 24 1, none⟩,
 ⟨(some 24), .b2s (.t 23), none⟩,
 ⟨(some 4), .mv (.t 24), none⟩])
 (.ret)))))) (.skip)))
 (.seq (.reg [⟨(some 26), .mv (.t 0), none⟩,
 ⟨(some 27), .mv (.t 1), none⟩,
 ⟨(some 28), .call 100 [(.c .esl), (.t 26), (.t 27), (.c (.d (.v (.bool false)))), (.c (.d (.v (.bool false))))], none⟩,
 ⟨(some 25), .mv (.t 28), none⟩,
 ⟨(some 29), .ext (.t 25) 0, none⟩,
 ⟨(some 30), .ext (.t 25) 1, none⟩,
 ⟨(some 7), .mv (.t 29), none⟩,
 ⟨(some 8), .mv (.t 30), none⟩])
 (.seq (.reg [⟨(some 31), .mv (.t 8), none⟩,
 ⟨(some 4), .mv (.t 31), none⟩])
 (.ret))))
def r61 : List RC := [.t 4]

/-- internal/strconv.lower -/
def c88 : AC :=
 .seq (.reg [⟨(some 2), .mv (.c (.d (.v (.int .u8 0)))), none⟩])
 (.seq (.reg [⟨(some 3), .mv (.t 0), none⟩,
 ⟨(some 4), .bin .or (.t 3) (.c (.d (.v (.int .u8 32)))), none⟩,
 ⟨(some 2), .mv (.t 4), none⟩])
 (.ret))
def r88 : List RC := [.t 2]

def c100l0 : AC :=
 .seq (.seq (.reg [⟨(some 66), .mv (.t 1), none⟩,
 ⟨(some 67), .mv (.t 17), none⟩,
 ⟨(some 68), .bin .geq (.t 66) (.t 67), none⟩])
 (.cond (.t 68) (.skip) (.exit 2)))
 (.block 3 (.seq (.reg [⟨(some 69), .mv (.t 13), none⟩,
 ⟨(some 70), .bin .sub (.t 69) (.c (.d (.v (.int .i64 1)))), none⟩,
 ⟨(some 13), .mv (.t 70), none⟩])
 (.seq (.reg [⟨(some 71), .mv (.t 1), none⟩,
 ⟨(some 72), .mv (.t 17), none⟩,
 ⟨(some 73), .bin .quo (.t 71) (.t 72), none⟩,
 ⟨(some 18), .mv (.t 73), none⟩])
 (.seq (.reg [⟨(some 74), .mv (.t 13), none⟩,
 ⟨(some 75), .mv (.t 1), none⟩,
 ⟨(some 76), .mv (.t 18), none⟩,
 ⟨(some 77), .mv (.t 17), none⟩,
 ⟨(some 78), .bin .mul (.t 76) (.t 77), none⟩,
 ⟨(some 79), .bin .sub (.t 75) (.t 78), none⟩,
 ⟨(some 80), .ix (.c (.d (.v (.string ⟨#[48, 49, 50, 51, 52, 53, 54, 55, 56, 57, 97, 98, 99, 100, 101, 102, 103, 104, 105, 106, 107, 108, 109, 110, 111, 112, 113, 114, 115, 116, 117, 118, 119, 120, 121, 122]⟩)))) (.t 79), none⟩,
 ⟨(some 81), .iar (.t 12) (.t 74) 65 1, none⟩,
 ⟨none, .st (.t 81) (.t 80) 1, none⟩])
 (.reg [⟨(some 82), .mv (.t 18), none⟩,
 ⟨(some 1), .mv (.t 82), none⟩])))))

def c100l1 : AC :=
 .seq (.seq (.reg [⟨(some 44), .mv (.t 1), none⟩,
 ⟨(some 45), .mv (.t 15), none⟩,
 ⟨(some 46), .bin .geq (.t 44) (.t 45), none⟩])
 (.cond (.t 46) (.skip) (.exit 0)))
 (.block 1 (.seq (.reg [⟨(some 47), .mv (.t 13), none⟩,
 ⟨(some 48), .bin .sub (.t 47) (.c (.d (.v (.int .i64 1)))), none⟩,
 ⟨(some 13), .mv (.t 48), none⟩])
 (.seq (.reg [⟨(some 49), .mv (.t 13), none⟩,
 ⟨(some 50), .mv (.t 1), none⟩,
 ⟨(some 51), .mv (.t 16), none⟩,
 ⟨(some 52), .bin .and (.t 50) (.t 51), none⟩,
 ⟨(some 53), .ix (.c (.d (.v (.string ⟨#[48, 49, 50, 51, 52, 53, 54, 55, 56, 57, 97, 98, 99, 100, 101, 102, 103, 104, 105, 106, 107, 108, 109, 110, 111, 112, 113, 114, 115, 116, 117, 118, 119, 120, 121, 122]⟩)))) (.t 52), none⟩,
 ⟨(some 54), .iar (.t 12) (.t 49) 65 1, none⟩,
 ⟨none, .st (.t 54) (.t 53) 1, none⟩])
 (.reg [⟨(some 55), .mv (.t 1), none⟩,
 ⟨(some 56), .mv (.t 14), none⟩,
 ⟨(some 57), .bin .shr (.t 55) (.t 56), none⟩,
 ⟨(some 1), .mv (.t 57), none⟩]))))

/-- internal/strconv.formatBits -/
def c100 : AC :=
 .seq (.reg [⟨(some 10), .mv (.c .esl), none⟩,
 ⟨(some 11), .mv (.c (.d (.v (.string ⟨#[]⟩)))), none⟩])
 (.seq (.seq (.reg [⟨(some 19), .mv (.t 2), none⟩,
 ⟨(some 20), .bin .lss (.t 19) (.c (.d (.v (.int .i64 2)))), none⟩,
 ⟨(some 21), .mv (.t 20), none⟩,
 ⟨(some 22), .mv (.t 2), (some (21, false))⟩,
 ⟨(some 23), .bin .eql (.t 22) (.c (.d (.v (.int .i64 10)))), (some (21, false))⟩,
 ⟨(some 24), .pick (.t 21) (.c (.d (.v (.bool true)))) (.t 23), none⟩,
 ⟨(some 25), .mv (.t 24), none⟩,
 ⟨(some 26), .mv (.t 2), (some (25, false))⟩,
 ⟨(some 27), .bin .gtr (.t 26) (.c (.d (.v (.int .i64 36)))), (some (25, false))⟩,
 ⟨(some 28), .pick (.t 25) (.c (.d (.v (.bool true)))) (.t 27), none⟩])
 (.cond (.t 28) (.stuck) (.skip)))
 (.seq (.reg [⟨(some 12), .al [(.d (.v (.int .u8 0))), (.d (.v (.int .u8 0))), (.d (.v (.int .u8 0))), (.d (.v (.int .u8 0))), (.d (.v (.int .u8 0))), (.d (.v (.int .u8 0))), (.d (.v (.int .u8 0))), (.d (.v (.int .u8 0))), (.d (.v (.int .u8 0))), (.d (.v (.int .u8 0))), (.d (.v (.int .u8 0))), (.d (.v (.int .u8 0))), (.d (.v (.int .u8 0))), (.d (.v (.int .u8 0))), (.d (.v (.int .u8 0))), (.d (.v (.int .u8 0))), (.d (.v (.int .u8 0))), (.d (.v (.int .u8 0))), (.d (.v (.int .u8 0))), (.d (.v (.int .u8 0))), (.d (.v (.int .u8 0))), (.d (.v (.int .u8 0))), (.d (.v (.int .u8 0))), (.d (.v (.int .u8 0))), (.d (.v (.int .u8 0))), (.d (.v (.int .u8 0))), (.d (.v (.int .u8 0))), (.d (.v (.int .u8 0))), (.d (.v (.int .u8 0))), (.d (.v (.int .u8 0))), (.d (.v (.int .u8 0))), (.d (.v (.int .u8 0))), (.d (.v (.int .u8 0))), (.d (.v (.int .u8 0))), (.d (.v (.int .u8 0))), (.d (.v (.int .u8 0))), (.d (.v (.int .u8 0))), (.d (.v (.int .u8 0))), (.d (.v (.int .u8 0))), (.d (.v (.int .u8 0))), (.d (.v (.int .u8 0))), (.d (.v (.int .u8 0))), (.d (.v (.int .u8 0))), (.d (.v (.int .u8 0))), (.d (.v (.int .u8 0))), (.d (.v (.int .u8 0))), (.d (.v (.int .u8 0))), (.d (.v (.int .u8 0))), (.d (.v (.int .u8 0))), (.d (.v (.int .u8 0))), (.d (.v (.int .u8 0))), (.d (.v (.int .u8 0))), (.d (.v (.int .u8 0))), (.d (.v (.int .u8 0))), (.d (.v (.int .u8 0))), (.d (.v (.int .u8 0))), (.d (.v (.int .u8 0))), (.d (.v (.int .u8 0))), (.d (.v (.int .u8 0))), (.d (.v (.int .u8 0))), (.d (.v (.int .u8 0))), (.d (.v (.int .u8 0))), (.d (.v (.int .u8 0))), (.d (.v (.int .u8 0))), (.d (.v (.int .u8 0)))], none⟩])
 (.seq (.reg [⟨(some 13), .mv (.c (.d (.v (.int .i64 65)))), none⟩])
 (.seq (.seq (.reg [⟨(some 30), .mv (.t 3), none⟩])
 (.cond (.t 30) (.reg [⟨(some 31), .mv (.t 1), none⟩,
 ⟨(some 32), .un .neg (.t 31), none⟩,
 ⟨(some 1), .mv (.t 32), none⟩]) (.skip)))
 (.seq (.seq (.reg [⟨(some 33), .mv (.t 2), none⟩,
 ⟨(some 34), .call 128 [(.t 33)], none⟩])
 (.cond (.t 34) (.seq (.reg [⟨(some 35), .mv (.t 2), none⟩,
 ⟨(some 36), .cvi .u64 (.t 35), none⟩,
 ⟨(some 37), .call 129 [(.t 36)], none⟩,
 ⟨(some 38), .cvi .u64 (.t 37), none⟩,
 ⟨(some 14), .mv (.t 38), none⟩])
 (.seq (.reg [⟨(some 39), .mv (.t 2), none⟩,
 ⟨(some 40), .cvi .u64 (.t 39), none⟩,
 ⟨(some 15), .mv (.t 40), none⟩])
 (.seq (.reg [⟨(some 41), .mv (.t 2), none⟩,
 ⟨(some 42), .cvi .u64 (.t 41), none⟩,
 ⟨(some 43), .bin .sub (.t 42) (.c (.d (.v (.int .u64 1)))), none⟩,
 ⟨(some 16), .mv (.t 43), none⟩])
 (.seq (.block 0 (.loop c100l1))
 (.seq (.reg [⟨(some 58), .mv (.t 13), none⟩,
 ⟨(some 59), .bin .sub (.t 58) (.c (.d (.v (.int .i64 1)))), none⟩,
 ⟨(some 13), .mv (.t 59), none⟩])
 (.reg [⟨(some 60), .mv (.t 13), none⟩,
 ⟨(some 61), .mv (.t 1), none⟩,
 ⟨(some 62), .ix (.c (.d (.v (.string ⟨#[48, 49, 50, 51, 52, 53, 54, 55, 56, 57, 97, 98, 99, 100, 101, 102, 103, 104, 105, 106, 107, 108, 109, 110, 111, 112, 113, 114, 115, 116, 117, 118, 119, 120, 121, 122]⟩)))) (.t 61), none⟩,
 ⟨(some 63), .iar (.t 12) (.t 60) 65 1, none⟩,
 ⟨none, .st (.t 63) (.t 62) 1, none⟩])))))) (.seq (.reg [⟨(some 64), .mv (.t 2), none⟩,
 ⟨(some 65), .cvi .u64 (.t 64), none⟩,
 ⟨(some 17), .mv (.t 65), none⟩])
 (.seq (.block 2 (.loop c100l0))
 (.seq (.reg [⟨(some 83), .mv (.t 13), none⟩,
 ⟨(some 84), .bin .sub (.t 83) (.c (.d (.v (.int .i64 1)))), none⟩,
 ⟨(some 13), .mv (.t 84), none⟩])
 (.reg [⟨(some 85), .mv (.t 13), none⟩,
 ⟨(some 86), .mv (.t 1), none⟩,
 ⟨(some 87), .ix (.c (.d (.v (.string ⟨#[48, 49, 50, 51, 52, 53, 54, 55, 56, 57, 97, 98, 99, 100, 101, 102, 103, 104, 105, 106, 107, 108, 109, 110, 111, 112, 113, 114, 115, 116, 117, 118, 119, 120, 121, 122]⟩)))) (.t 86), none⟩,
 ⟨(some 88), .iar (.t 12) (.t 85) 65 1, none⟩,
 ⟨none, .st (.t 88) (.t 87) 1, none⟩]))))))
 (.seq (.seq (.reg [⟨(some 89), .mv (.t 3), none⟩])
 (.cond (.t 89) (.seq (.reg [⟨(some 90), .mv (.t 13), none⟩,
 ⟨(some 91), .bin .sub (.t 90) (.c (.d (.v (.int .i64 1)))), none⟩,
 ⟨(some 13), .mv (.t 91), none⟩])
 (.reg [⟨(some 92), .mv (.t 13), none⟩,
 ⟨(some 93), .iar (.t 12) (.t 92) 65 1, none⟩,
 ⟨none, .st (.t 93) (.c (.d (.v (.int .u8 45)))) 1, none⟩])) (.skip)))
 (.seq (.seq (.reg [⟨(some 94), .mv (.t 4), none⟩])
 (.cond (.t 94) (.seq (.reg [⟨(some 95), .mv (.t 0), none⟩,
 ⟨(some 96), .mv (.t 13), none⟩,
 ⟨(some 97), .sla (.t 12) (some (.t 96)) none 65 1, none⟩,
 ⟨(some 98), .app .gr 5 1 1 (.t 95) (.t 97), none⟩,
 ⟨(some 10), .mv (.t 98), none⟩])
 (.ret)) (.skip)))
 (.seq (.reg [⟨(some 99), .mv (.t 13), none⟩,
 ⟨(some 100), .sla (.t 12) (some (.t 99)) none 65 1, none⟩,
 ⟨(some 101), .b2s (.t 100), none⟩,
 ⟨(some 11), .mv (.t 101), none⟩])
 (.ret)))))))))
def r100 : List RC := [.t 10, .t 11]

/-- internal/strconv.isPowerOfTwo -/
def c128 : AC :=
 .seq (.reg [⟨(some 2), .mv (.c (.d (.v (.bool false)))), none⟩])
 (.seq (.reg [⟨(some 3), .mv (.t 0), none⟩,
 ⟨(some 4), .mv (.t 0), none⟩,
 ⟨(some 5), .bin .sub (.t 4) (.c (.d (.v (.int .i64 1)))), none⟩,
 ⟨(some 6), .bin .and (.t 3) (.t 5), none⟩,
 ⟨(some 7), .bin .eql (.t 6) (.c (.d (.v (.int .i64 0)))), none⟩,
 ⟨(some 2), .mv (.t 7), none⟩])
 (.ret))
def r128 : List RC := [.t 2]

theorem cc5 : Tryz.f5.body.bind (comp Tryz.prog (hha 5)) = some c5 := by kernel_rfl
theorem rr5 : resC Tryz.prog Tryz.f5 = some r5 := by kernel_rfl
theorem cc6 : Tryz.f6.body.bind (comp Tryz.prog (hha 6)) = some c6 := by kernel_rfl
theorem rr6 : resC Tryz.prog Tryz.f6 = some r6 := by kernel_rfl
theorem cc13 : Tryz.f13.body.bind (comp Tryz.prog (hha 13)) = some c13 := by kernel_rfl
theorem rr13 : resC Tryz.prog Tryz.f13 = some r13 := by kernel_rfl
theorem cc15 : Tryz.f15.body.bind (comp Tryz.prog (hha 15)) = some c15 := by kernel_rfl
theorem rr15 : resC Tryz.prog Tryz.f15 = some r15 := by kernel_rfl
theorem cc16 : Tryz.f16.body.bind (comp Tryz.prog (hha 16)) = some c16 := by kernel_rfl
theorem rr16 : resC Tryz.prog Tryz.f16 = some r16 := by kernel_rfl
theorem cc17 : Tryz.f17.body.bind (comp Tryz.prog (hha 17)) = some c17 := by kernel_rfl
theorem rr17 : resC Tryz.prog Tryz.f17 = some r17 := by kernel_rfl
theorem cc18 : Tryz.f18.body.bind (comp Tryz.prog (hha 18)) = some c18 := by kernel_rfl
theorem rr18 : resC Tryz.prog Tryz.f18 = some r18 := by kernel_rfl
theorem cc19 : Tryz.f19.body.bind (comp Tryz.prog (hha 19)) = some c19 := by kernel_rfl
theorem rr19 : resC Tryz.prog Tryz.f19 = some r19 := by kernel_rfl
theorem cc27 : Tryz.f27.body.bind (comp Tryz.prog (hha 27)) = some c27 := by kernel_rfl
theorem rr27 : resC Tryz.prog Tryz.f27 = some r27 := by kernel_rfl
theorem cc31 : Tryz.f31.body.bind (comp Tryz.prog (hha 31)) = some c31 := by kernel_rfl
theorem rr31 : resC Tryz.prog Tryz.f31 = some r31 := by kernel_rfl
theorem cc32 : Tryz.f32.body.bind (comp Tryz.prog (hha 32)) = some c32 := by kernel_rfl
theorem rr32 : resC Tryz.prog Tryz.f32 = some r32 := by kernel_rfl
theorem cc34 : Tryz.f34.body.bind (comp Tryz.prog (hha 34)) = some c34 := by kernel_rfl
theorem rr34 : resC Tryz.prog Tryz.f34 = some r34 := by kernel_rfl
theorem cc35 : Tryz.f35.body.bind (comp Tryz.prog (hha 35)) = some c35 := by kernel_rfl
theorem rr35 : resC Tryz.prog Tryz.f35 = some r35 := by kernel_rfl
theorem cc37 : Tryz.f37.body.bind (comp Tryz.prog (hha 37)) = some c37 := by kernel_rfl
theorem rr37 : resC Tryz.prog Tryz.f37 = some r37 := by kernel_rfl
theorem cc54 : Tryz.f54.body.bind (comp Tryz.prog (hha 54)) = some c54 := by kernel_rfl
theorem rr54 : resC Tryz.prog Tryz.f54 = some r54 := by kernel_rfl
theorem cc56 : Tryz.f56.body.bind (comp Tryz.prog (hha 56)) = some c56 := by kernel_rfl
theorem rr56 : resC Tryz.prog Tryz.f56 = some r56 := by kernel_rfl
theorem cc61 : Tryz.f61.body.bind (comp Tryz.prog (hha 61)) = some c61 := by kernel_rfl
theorem rr61 : resC Tryz.prog Tryz.f61 = some r61 := by kernel_rfl
theorem cc88 : Tryz.f88.body.bind (comp Tryz.prog (hha 88)) = some c88 := by kernel_rfl
theorem rr88 : resC Tryz.prog Tryz.f88 = some r88 := by kernel_rfl
theorem cc100 : Tryz.f100.body.bind (comp Tryz.prog (hha 100)) = some c100 := by kernel_rfl
theorem rr100 : resC Tryz.prog Tryz.f100 = some r100 := by kernel_rfl
theorem cc128 : Tryz.f128.body.bind (comp Tryz.prog (hha 128)) = some c128 := by kernel_rfl
theorem rr128 : resC Tryz.prog Tryz.f128 = some r128 := by kernel_rfl
end Go.Proofs.YtmgmoamcbnkbfaaGreatDoor
