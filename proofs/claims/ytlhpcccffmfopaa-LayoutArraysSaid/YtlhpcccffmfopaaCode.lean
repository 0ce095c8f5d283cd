/- The functions' code in the small language. Printed by program (wip/tools). -/
import Derived.Test.YtlhpcccffmfopaaWalk2
import Derived.Test.YtlhpcccffmfopaaProg
import Derived.KernelRfl
namespace Go.Proofs.Ytlhpcccffmfopaa
set_option linter.unusedVariables false
set_option linter.unusedSimpArgs false
set_option linter.unusedSectionVars false
open Go.RowKit
def hh : Nat → Nat → Option Md := fun fn slot => if (fn, slot) ∈ [(36, 7), (36, 36), (36, 50), (73, 8), (14, 3), (18, 1), (19, 1)] then some .gr else if (fn, slot) ∈ [(14, 19), (14, 23), (9, 20)] then some .im else none

def c12l0 : AC :=
 .seq (.seq (.reg [⟨(some 8), .mv (.t 4), none⟩,
 ⟨(some 9), .mv (.t 0), none⟩,
 ⟨(some 10), .len false (.t 9), none⟩,
 ⟨(some 11), .bin .lss (.t 8) (.t 10), none⟩])
 (.cond (.t 11) (.skip) (.exit 0)))
 (.seq (.block 1 (.seq (.dreg [[], [], [], [1, 2], [3], [4], [5], [], [], [7, 8], [9], [10], [11], [6, 12], [], [], [14, 15], [16], [17], [18], [19], [13, 20], [], [], [22, 23], [24], [25], [26], [27], [21, 28], [0, 29], [30, 0, 1, 2, 3, 4, 5, 6, 7, 8, 9, 10, 11, 12, 13, 14, 15, 16, 17, 18, 19, 20, 21, 22, 23, 24, 25, 26, 27, 28, 29, 30]] [⟨(some 14), .mv (.t 3), none⟩,
 ⟨(some 15), .mv (.t 0), none⟩,
 ⟨(some 16), .mv (.t 4), none⟩,
 ⟨(some 17), .ia (.t 15) (.t 16) 10, none⟩,
 ⟨(some 18), .fa (.t 17) 6, none⟩,
 ⟨(some 19), .ld (.t 18) 1 false, none⟩,
 ⟨(some 20), .len false (.t 19), none⟩,
 ⟨(some 21), .mv (.t 0), none⟩,
 ⟨(some 22), .mv (.t 4), none⟩,
 ⟨(some 23), .ia (.t 21) (.t 22) 10, none⟩,
 ⟨(some 24), .fa (.t 23) 7, none⟩,
 ⟨(some 25), .ld (.t 24) 1 false, none⟩,
 ⟨(some 26), .len false (.t 25), none⟩,
 ⟨(some 27), .bin .add (.t 20) (.t 26), none⟩,
 ⟨(some 28), .mv (.t 0), none⟩,
 ⟨(some 29), .mv (.t 4), none⟩,
 ⟨(some 30), .ia (.t 28) (.t 29) 10, none⟩,
 ⟨(some 31), .fa (.t 30) 2, none⟩,
 ⟨(some 32), .ld (.t 31) 1 false, none⟩,
 ⟨(some 33), .len true (.t 32), none⟩,
 ⟨(some 34), .bin .quo (.t 33) (.c (.d (.v (.int .i64 50)))), none⟩,
 ⟨(some 35), .bin .add (.t 27) (.t 34), none⟩,
 ⟨(some 36), .mv (.t 0), none⟩,
 ⟨(some 37), .mv (.t 4), none⟩,
 ⟨(some 38), .ia (.t 36) (.t 37) 10, none⟩,
 ⟨(some 39), .fa (.t 38) 1, none⟩,
 ⟨(some 40), .ld (.t 39) 1 false, none⟩,
 ⟨(some 41), .len true (.t 40), none⟩,
 ⟨(some 42), .bin .quo (.t 41) (.c (.d (.v (.int .i64 50)))), none⟩,
 ⟨(some 43), .bin .add (.t 35) (.t 42), none⟩,
 ⟨(some 44), .bin .add (.t 14) (.t 43), none⟩,
 ⟨(some 3), .mv (.t 44), none⟩])
 (.seq (.reg [⟨(some 45), .mv (.t 3), none⟩,
 ⟨(some 46), .bin .gtr (.t 45) (.c (.d (.v (.int .i64 3000)))), none⟩])
 (.cond (.t 46) (.seq (.reg [⟨(some 2), .mv (.c (.d (.v (.bool true)))), none⟩])
 (.ret)) (.skip)))))
 (.reg [⟨(some 12), .mv (.t 4), none⟩,
 ⟨(some 13), .bin .add (.t 12) (.c (.d (.v (.int .i64 1)))), none⟩,
 ⟨(some 4), .mv (.t 13), none⟩]))

/-- spinet/spinetlaw13.Large -/
def c12 : AC :=
 .seq (.reg [⟨(some 2), .mv (.c (.d (.v (.bool false)))), none⟩])
 (.seq (.seq (.reg [⟨(some 5), .mv (.t 0), none⟩,
 ⟨(some 6), .len false (.t 5), none⟩,
 ⟨(some 7), .bin .gtr (.t 6) (.c (.d (.v (.int .i64 300)))), none⟩])
 (.cond (.t 7) (.seq (.reg [⟨(some 2), .mv (.c (.d (.v (.bool true)))), none⟩])
 (.ret)) (.skip)))
 (.seq (.reg [⟨(some 3), .mv (.c (.d (.v (.int .i64 0)))), none⟩])
 (.seq (.seq (.reg [⟨(some 4), .mv (.c (.d (.v (.int .i64 0)))), none⟩])
 (.block 0 (.loop c12l0)))
 (.seq (.reg [⟨(some 2), .mv (.c (.d (.v (.bool false)))), none⟩])
 (.ret)))))
def r12 : List RC := [.t 2]

def c14l0 : AC :=
 .seq (.seq (.reg [⟨(some 6), .mv (.t 4), none⟩,
 ⟨(some 7), .mv (.t 0), none⟩,
 ⟨(some 8), .len false (.t 7), none⟩,
 ⟨(some 9), .bin .lss (.t 6) (.t 8), none⟩])
 (.cond (.t 9) (.skip) (.exit 0)))
 (.seq (.block 1 (.seq (.reg [⟨(some 12), .mv (.t 0), none⟩,
 ⟨(some 13), .mv (.t 4), none⟩,
 ⟨(some 14), .ia (.t 12) (.t 13) 10, none⟩,
 ⟨(some 15), .ld (.t 14) 10 true, none⟩,
 ⟨(some 5), .al [(.d (.v (.int .i64 0))), (.d (.v (.string ⟨#[]⟩))), (.d (.v (.string ⟨#[]⟩))), (.d (.v (.int .i64 0))), (.d (.v (.int .i64 0))), (.d (.v (.int .i64 0))), .esl, .esl, (.d (.v (.int .i64 0))), (.d (.v (.int .i64 0)))], none⟩,
 ⟨none, .st (.t 5) (.t 15) 10, none⟩])
 (.seq (.dreg [[], [], [1], [0, 2], [], [], [5], [4, 6, 3], [0, 1, 2, 3, 5, 6], [8, 3, 7, 0, 1, 2, 3, 5, 6], [0, 1, 2, 3, 4, 5, 6, 7, 8, 9], [10, 7, 9, 0, 1, 2, 3, 4, 5, 6, 7, 8, 9]] [⟨(some 16), .bs .im 48 3 [], none⟩,
 ⟨(some 17), .fa (.t 5) 6, none⟩,
 ⟨(some 18), .ld (.t 17) 1 false, none⟩,
 ⟨(some 19), .app .im 48 3 32 (.t 16) (.t 18), none⟩,
 ⟨(some 20), .bs .im 36 2 [], none⟩,
 ⟨(some 21), .fa (.t 5) 7, none⟩,
 ⟨(some 22), .ld (.t 21) 1 false, none⟩,
 ⟨(some 23), .app .im 36 2 16 (.t 20) (.t 22), none⟩,
 ⟨(some 24), .fa (.t 5) 6, none⟩,
 ⟨none, .st (.t 24) (.t 19) 1, none⟩,
 ⟨(some 25), .fa (.t 5) 7, none⟩,
 ⟨none, .st (.t 25) (.t 23) 1, none⟩])
 (.reg [⟨(some 26), .mv (.t 3), none⟩,
 ⟨(some 27), .ld (.t 5) 10 true, none⟩,
 ⟨(some 28), .bs .im 32 10 [(.t 27)], none⟩,
 ⟨(some 29), .app .gr 32 10 128 (.t 26) (.t 28), none⟩,
 ⟨(some 3), .mvg 32 10 (.t 29), none⟩]))))
 (.reg [⟨(some 10), .mv (.t 4), none⟩,
 ⟨(some 11), .bin .add (.t 10) (.c (.d (.v (.int .i64 1)))), none⟩,
 ⟨(some 4), .mv (.t 11), none⟩]))

/-- spinet/spinetref13.Copy -/
def c14 : AC :=
 .seq (.reg [⟨(some 2), .mv (.c .esl), none⟩])
 (.seq (.reg [⟨(some 3), .mvg 32 10 (.c .esl), none⟩])
 (.seq (.seq (.reg [⟨(some 4), .mv (.c (.d (.v (.int .i64 0)))), none⟩])
 (.block 0 (.loop c14l0)))
 (.seq (.reg [⟨(some 30), .mv (.t 3), none⟩,
 ⟨(some 2), .mv (.t 30), none⟩])
 (.ret))))
def r14 : List RC := [.t 2]

/-- spinet/types.Good -/
def c15 : AC :=
 .seq (.reg [⟨(some 2), .mv (.c (.d (.v (.bool false)))), none⟩])
 (.seq (.reg [⟨(some 3), .mv (.t 0), none⟩,
 ⟨(some 4), .call 33 [(.t 3)], none⟩,
 ⟨(some 2), .mv (.t 4), none⟩])
 (.ret))
def r15 : List RC := [.t 2]

def c16l0 : AC :=
 .seq (.seq (.reg [⟨(some 55), .mv (.t 8), none⟩,
 ⟨(some 56), .mv (.t 7), none⟩,
 ⟨(some 57), .bin .lss (.t 55) (.t 56), none⟩])
 (.cond (.t 57) (.skip) (.exit 6)))
 (.seq (.block 7 (.seq (.dreg [[], [], [0, 1], [2], [3], [4], [5], [6], [6], [7, 8, 6], [9, 6], [10, 6], [11, 6], [6, 12], [13, 6], [14], [14], [15, 16, 14], [17, 14], [18, 14], [14], [14], [20, 21, 14], [22, 14], [23, 14], [19, 24, 14], [14, 25], [26, 14], [27], [27], [28, 29, 27], [30, 27], [31, 27], [27], [27], [33, 34, 27], [35, 27], [36, 27], [32, 37, 27], [27, 38], [39, 27], [40], [40], [41, 42, 40], [43, 40], [44, 40], [45, 40], [40, 46]] [⟨(some 60), .mv (.t 0), none⟩,
 ⟨(some 61), .mv (.t 7), none⟩,
 ⟨(some 62), .ia (.t 60) (.t 61) 10, none⟩,
 ⟨(some 63), .fa (.t 62) 0, none⟩,
 ⟨(some 64), .ld (.t 63) 1 false, none⟩,
 ⟨(some 65), .bin .eql (.t 64) (.c (.d (.v (.int .i64 9)))), none⟩,
 ⟨(some 66), .mv (.t 65), none⟩,
 ⟨(some 67), .mv (.t 0), (some (66, true))⟩,
 ⟨(some 68), .mv (.t 8), (some (66, true))⟩,
 ⟨(some 69), .ia (.t 67) (.t 68) 10, (some (66, true))⟩,
 ⟨(some 70), .fa (.t 69) 0, (some (66, true))⟩,
 ⟨(some 71), .ld (.t 70) 1 false, (some (66, true))⟩,
 ⟨(some 72), .bin .eql (.t 71) (.c (.d (.v (.int .i64 9)))), (some (66, true))⟩,
 ⟨(some 73), .pick (.t 66) (.t 72) (.c (.d (.v (.bool false)))), none⟩,
 ⟨(some 74), .mv (.t 73), none⟩,
 ⟨(some 75), .mv (.t 0), (some (74, true))⟩,
 ⟨(some 76), .mv (.t 7), (some (74, true))⟩,
 ⟨(some 77), .ia (.t 75) (.t 76) 10, (some (74, true))⟩,
 ⟨(some 78), .fa (.t 77) 1, (some (74, true))⟩,
 ⟨(some 79), .ld (.t 78) 1 false, (some (74, true))⟩,
 ⟨(some 80), .mv (.t 0), (some (74, true))⟩,
 ⟨(some 81), .mv (.t 8), (some (74, true))⟩,
 ⟨(some 82), .ia (.t 80) (.t 81) 10, (some (74, true))⟩,
 ⟨(some 83), .fa (.t 82) 1, (some (74, true))⟩,
 ⟨(some 84), .ld (.t 83) 1 false, (some (74, true))⟩,
 ⟨(some 85), .bin .eql (.t 79) (.t 84), (some (74, true))⟩,
 ⟨(some 86), .pick (.t 74) (.t 85) (.c (.d (.v (.bool false)))), none⟩,
 ⟨(some 87), .mv (.t 86), none⟩,
 ⟨(some 88), .mv (.t 0), (some (87, true))⟩,
 ⟨(some 89), .mv (.t 7), (some (87, true))⟩,
 ⟨(some 90), .ia (.t 88) (.t 89) 10, (some (87, true))⟩,
 ⟨(some 91), .fa (.t 90) 9, (some (87, true))⟩,
 ⟨(some 92), .ld (.t 91) 1 false, (some (87, true))⟩,
 ⟨(some 93), .mv (.t 0), (some (87, true))⟩,
 ⟨(some 94), .mv (.t 8), (some (87, true))⟩,
 ⟨(some 95), .ia (.t 93) (.t 94) 10, (some (87, true))⟩,
 ⟨(some 96), .fa (.t 95) 9, (some (87, true))⟩,
 ⟨(some 97), .ld (.t 96) 1 false, (some (87, true))⟩,
 ⟨(some 98), .bin .eql (.t 92) (.t 97), (some (87, true))⟩,
 ⟨(some 99), .pick (.t 87) (.t 98) (.c (.d (.v (.bool false)))), none⟩,
 ⟨(some 100), .mv (.t 99), none⟩,
 ⟨(some 101), .mv (.t 0), (some (100, true))⟩,
 ⟨(some 102), .mv (.t 7), (some (100, true))⟩,
 ⟨(some 103), .ia (.t 101) (.t 102) 10, (some (100, true))⟩,
 ⟨(some 104), .fa (.t 103) 9, (some (100, true))⟩,
 ⟨(some 105), .ld (.t 104) 1 false, (some (100, true))⟩,
 ⟨(some 106), .bin .neq (.t 105) (.c (.d (.v (.int .i64 (-1))))), (some (100, true))⟩,
 ⟨(some 107), .pick (.t 100) (.t 106) (.c (.d (.v (.bool false)))), none⟩])
 (.cond (.t 107) (.seq (.reg [⟨(some 2), .mv (.c (.d (.v (.bool false)))), none⟩])
 (.ret)) (.skip))))
 (.reg [⟨(some 58), .mv (.t 8), none⟩,
 ⟨(some 59), .bin .add (.t 58) (.c (.d (.v (.int .i64 1)))), none⟩,
 ⟨(some 8), .mv (.t 59), none⟩]))

def c16l1 : AC :=
 .seq (.seq (.reg [⟨(some 45), .mv (.t 7), none⟩,
 ⟨(some 46), .mv (.t 0), none⟩,
 ⟨(some 47), .len false (.t 46), none⟩,
 ⟨(some 48), .bin .lss (.t 45) (.t 47), none⟩])
 (.cond (.t 48) (.skip) (.exit 4)))
 (.seq (.block 5 (.seq (.seq (.reg [⟨(some 51), .mv (.t 0), none⟩,
 ⟨(some 52), .mv (.t 7), none⟩,
 ⟨(some 53), .mv (.t 6), none⟩,
 ⟨(some 54), .call 36 [(.t 51), (.t 52), (.t 53)], none⟩])
 (.cond (.t 54) (.seq (.reg [⟨(some 2), .mv (.c (.d (.v (.bool false)))), none⟩])
 (.ret)) (.skip)))
 (.seq (.reg [⟨(some 8), .mv (.c (.d (.v (.int .i64 7)))), none⟩])
 (.block 6 (.loop c16l0)))))
 (.reg [⟨(some 49), .mv (.t 7), none⟩,
 ⟨(some 50), .bin .add (.t 49) (.c (.d (.v (.int .i64 1)))), none⟩,
 ⟨(some 7), .mv (.t 50), none⟩]))

def c16l2 : AC :=
 .seq (.seq (.reg [⟨(some 32), .mv (.t 5), none⟩,
 ⟨(some 33), .mv (.t 0), none⟩,
 ⟨(some 34), .len false (.t 33), none⟩,
 ⟨(some 35), .bin .lss (.t 32) (.t 34), none⟩])
 (.cond (.t 35) (.skip) (.exit 2)))
 (.seq (.block 3 (.seq (.reg [⟨(some 38), .mv (.t 0), none⟩,
 ⟨(some 39), .mv (.t 5), none⟩,
 ⟨(some 40), .call 35 [(.t 38), (.t 39)], none⟩,
 ⟨(some 41), .un .not (.t 40), none⟩])
 (.cond (.t 41) (.seq (.reg [⟨(some 2), .mv (.c (.d (.v (.bool false)))), none⟩])
 (.ret)) (.skip))))
 (.reg [⟨(some 36), .mv (.t 5), none⟩,
 ⟨(some 37), .bin .add (.t 36) (.c (.d (.v (.int .i64 1)))), none⟩,
 ⟨(some 5), .mv (.t 37), none⟩]))

def c16l3 : AC :=
 .seq (.seq (.reg [⟨(some 18), .mv (.t 4), none⟩,
 ⟨(some 19), .bin .lss (.t 18) (.c (.d (.v (.int .i64 7)))), none⟩])
 (.cond (.t 19) (.skip) (.exit 0)))
 (.seq (.block 1 (.seq (.dreg [[], [], [0, 1], [2], [], [], [4, 5], [6], [3, 7], [8]] [⟨(some 22), .mv (.t 0), none⟩,
 ⟨(some 23), .mv (.t 4), none⟩,
 ⟨(some 24), .ia (.t 22) (.t 23) 10, none⟩,
 ⟨(some 25), .ld (.t 24) 10 true, none⟩,
 ⟨(some 26), .mv (.t 3), none⟩,
 ⟨(some 27), .mv (.t 4), none⟩,
 ⟨(some 28), .ia (.t 26) (.t 27) 10, none⟩,
 ⟨(some 29), .ld (.t 28) 10 true, none⟩,
 ⟨(some 30), .call 34 [(.t 25), (.t 29)], none⟩,
 ⟨(some 31), .un .not (.t 30), none⟩])
 (.cond (.t 31) (.seq (.reg [⟨(some 2), .mv (.c (.d (.v (.bool false)))), none⟩])
 (.ret)) (.skip))))
 (.reg [⟨(some 20), .mv (.t 4), none⟩,
 ⟨(some 21), .bin .add (.t 20) (.c (.d (.v (.int .i64 1)))), none⟩,
 ⟨(some 4), .mv (.t 21), none⟩]))

/-- spinet/spinetref13.Good -/
def c16 : AC :=
 .seq (.reg [⟨(some 2), .mv (.c (.d (.v (.bool false)))), none⟩])
 (.seq (.seq (.reg [⟨(some 9), .mv (.t 0), none⟩,
 ⟨(some 10), .len false (.t 9), none⟩,
 ⟨(some 11), .bin .lss (.t 10) (.c (.d (.v (.int .i64 7)))), none⟩,
 ⟨(some 12), .mv (.t 11), none⟩,
 ⟨(some 13), .mv (.t 0), (some (12, false))⟩,
 ⟨(some 14), .len false (.t 13), (some (12, false))⟩,
 ⟨(some 15), .bin .gtr (.t 14) (.c (.d (.v (.int .i64 256)))), (some (12, false))⟩,
 ⟨(some 16), .pick (.t 12) (.c (.d (.v (.bool true)))) (.t 15), none⟩])
 (.cond (.t 16) (.seq (.reg [⟨(some 2), .mv (.c (.d (.v (.bool false)))), none⟩])
 (.ret)) (.skip)))
 (.seq (.reg [⟨(some 17), .call 19 [], none⟩,
 ⟨(some 3), .mv (.t 17), none⟩])
 (.seq (.seq (.reg [⟨(some 4), .mv (.c (.d (.v (.int .i64 0)))), none⟩])
 (.block 0 (.loop c16l3)))
 (.seq (.seq (.reg [⟨(some 5), .mv (.c (.d (.v (.int .i64 7)))), none⟩])
 (.block 2 (.loop c16l2)))
 (.seq (.reg [⟨(some 42), .mv (.t 0), none⟩,
 ⟨(some 43), .len false (.t 42), none⟩,
 ⟨(some 44), .mks .hp 3 1 8 [(.d (.v (.int .i64 0)))] (.t 43) (.t 43), none⟩,
 ⟨(some 6), .mv (.t 44), none⟩])
 (.seq (.seq (.reg [⟨(some 7), .mv (.c (.d (.v (.int .i64 7)))), none⟩])
 (.block 4 (.loop c16l1)))
 (.seq (.reg [⟨(some 2), .mv (.c (.d (.v (.bool true)))), none⟩])
 (.ret))))))))
def r16 : List RC := [.t 2]

def c17l0 : AC :=
 .seq (.seq (.reg [⟨(some 11), .mv (.t 5), none⟩,
 ⟨(some 12), .mv (.t 0), none⟩,
 ⟨(some 13), .len false (.t 12), none⟩,
 ⟨(some 14), .bin .lss (.t 11) (.t 13), none⟩])
 (.cond (.t 14) (.skip) (.exit 0)))
 (.seq (.block 1 (.seq (.dreg [[], [], [0, 1], [2], [], [], [4, 5], [6], [3, 7], [8]] [⟨(some 17), .mv (.t 0), none⟩,
 ⟨(some 18), .mv (.t 5), none⟩,
 ⟨(some 19), .ia (.t 17) (.t 18) 10, none⟩,
 ⟨(some 20), .ld (.t 19) 10 true, none⟩,
 ⟨(some 21), .mv (.t 1), none⟩,
 ⟨(some 22), .mv (.t 5), none⟩,
 ⟨(some 23), .ia (.t 21) (.t 22) 10, none⟩,
 ⟨(some 24), .ld (.t 23) 10 true, none⟩,
 ⟨(some 25), .call 34 [(.t 20), (.t 24)], none⟩,
 ⟨(some 26), .un .not (.t 25), none⟩])
 (.cond (.t 26) (.seq (.reg [⟨(some 4), .mv (.c (.d (.v (.bool false)))), none⟩])
 (.ret)) (.skip))))
 (.reg [⟨(some 15), .mv (.t 5), none⟩,
 ⟨(some 16), .bin .add (.t 15) (.c (.d (.v (.int .i64 1)))), none⟩,
 ⟨(some 5), .mv (.t 16), none⟩]))

/-- spinet/spinetref13.Tables -/
def c17 : AC :=
 .seq (.reg [⟨(some 4), .mv (.c (.d (.v (.bool false)))), none⟩])
 (.seq (.seq (.reg [⟨(some 6), .mv (.t 0), none⟩,
 ⟨(some 7), .len false (.t 6), none⟩,
 ⟨(some 8), .mv (.t 1), none⟩,
 ⟨(some 9), .len false (.t 8), none⟩,
 ⟨(some 10), .bin .neq (.t 7) (.t 9), none⟩])
 (.cond (.t 10) (.seq (.reg [⟨(some 4), .mv (.c (.d (.v (.bool false)))), none⟩])
 (.ret)) (.skip)))
 (.seq (.seq (.reg [⟨(some 5), .mv (.c (.d (.v (.int .i64 0)))), none⟩])
 (.block 0 (.loop c17l0)))
 (.seq (.reg [⟨(some 4), .mv (.c (.d (.v (.bool true)))), none⟩])
 (.ret))))
def r17 : List RC := [.t 4]

def c18l0 : AC :=
 .seq (.seq (.reg [⟨(some 3), .mv (.t 2), none⟩,
 ⟨(some 4), .bin .leq (.t 3) (.c (.d (.v (.int .i64 6)))), none⟩])
 (.cond (.t 4) (.skip) (.exit 0)))
 (.seq (.block 1 (.reg [⟨(some 7), .mv (.t 1), none⟩,
 ⟨(some 8), .mv (.t 2), none⟩,
 ⟨(some 9), .bd [(.d (.v (.int .i64 0))), (.d (.v (.string ⟨#[]⟩))), (.d (.v (.string ⟨#[]⟩))), (.d (.v (.int .i64 0))), (.d (.v (.int .i64 0))), (.d (.v (.int .i64 0))), .esl, .esl, (.d (.v (.int .i64 0))), (.d (.v (.int .i64 0)))] [(0, 1, (.t 8))], none⟩,
 ⟨(some 10), .bs .im 32 10 [(.t 9)], none⟩,
 ⟨(some 11), .app .gr 32 10 128 (.t 7) (.t 10), none⟩,
 ⟨(some 1), .mvg 32 10 (.t 11), none⟩]))
 (.reg [⟨(some 5), .mv (.t 2), none⟩,
 ⟨(some 6), .bin .add (.t 5) (.c (.d (.v (.int .i64 1)))), none⟩,
 ⟨(some 2), .mv (.t 6), none⟩]))

/-- spinet/types.Basic -/
def c18 : AC :=
 .seq (.reg [⟨(some 0), .mv (.c .esl), none⟩])
 (.seq (.reg [⟨(some 1), .mvg 32 10 (.c .esl), none⟩])
 (.seq (.seq (.reg [⟨(some 2), .mv (.c (.d (.v (.int .i64 0)))), none⟩])
 (.block 0 (.loop c18l0)))
 (.seq (.reg [⟨(some 12), .mv (.t 1), none⟩,
 ⟨(some 0), .mv (.t 12), none⟩])
 (.ret))))
def r18 : List RC := [.t 0]

def c19l0 : AC :=
 .seq (.seq (.reg [⟨(some 3), .mv (.t 2), none⟩,
 ⟨(some 4), .bin .lss (.t 3) (.c (.d (.v (.int .i64 7)))), none⟩])
 (.cond (.t 4) (.skip) (.exit 0)))
 (.seq (.block 1 (.reg [⟨(some 7), .mv (.t 1), none⟩,
 ⟨(some 8), .mv (.t 2), none⟩,
 ⟨(some 9), .bd [(.d (.v (.int .i64 0))), (.d (.v (.string ⟨#[]⟩))), (.d (.v (.string ⟨#[]⟩))), (.d (.v (.int .i64 0))), (.d (.v (.int .i64 0))), (.d (.v (.int .i64 0))), .esl, .esl, (.d (.v (.int .i64 0))), (.d (.v (.int .i64 0)))] [(0, 1, (.t 8))], none⟩,
 ⟨(some 10), .bs .im 32 10 [(.t 9)], none⟩,
 ⟨(some 11), .app .gr 32 10 128 (.t 7) (.t 10), none⟩,
 ⟨(some 1), .mvg 32 10 (.t 11), none⟩]))
 (.reg [⟨(some 5), .mv (.t 2), none⟩,
 ⟨(some 6), .bin .add (.t 5) (.c (.d (.v (.int .i64 1)))), none⟩,
 ⟨(some 2), .mv (.t 6), none⟩]))

/-- spinet/spinetref13.Basic -/
def c19 : AC :=
 .seq (.reg [⟨(some 0), .mv (.c .esl), none⟩])
 (.seq (.reg [⟨(some 1), .mvg 32 10 (.c .esl), none⟩])
 (.seq (.seq (.reg [⟨(some 2), .mv (.c (.d (.v (.int .i64 0)))), none⟩])
 (.block 0 (.loop c19l0)))
 (.seq (.reg [⟨(some 12), .mv (.t 1), none⟩,
 ⟨(some 0), .mv (.t 12), none⟩])
 (.ret))))
def r19 : List RC := [.t 0]

def c33l0 : AC :=
 .seq (.reg [⟨(some 50), .bin .lss (.t 49) (.t 48), none⟩])
 (.seq (.cond (.t 50) (.skip) (.exit 2))
 (.seq (.block 3 (.seq (.reg [⟨(some 51), .mv (.t 49), none⟩,
 ⟨(some 52), .ia (.t 47) (.t 49) 10, none⟩,
 ⟨(some 53), .ld (.t 52) 10 true, none⟩,
 ⟨(some 8), .al [(.d (.v (.int .i64 0))), (.d (.v (.string ⟨#[]⟩))), (.d (.v (.string ⟨#[]⟩))), (.d (.v (.int .i64 0))), (.d (.v (.int .i64 0))), (.d (.v (.int .i64 0))), .esl, .esl, (.d (.v (.int .i64 0))), (.d (.v (.int .i64 0)))], none⟩,
 ⟨(some 7), .mv (.t 51), none⟩,
 ⟨none, .st (.t 8) (.t 53) 10, none⟩])
 (.seq (.seq (.reg [⟨(some 54), .fa (.t 8) 0, none⟩,
 ⟨(some 55), .ld (.t 54) 1 false, none⟩,
 ⟨(some 56), .bin .eql (.t 55) (.c (.d (.v (.int .i64 9)))), none⟩,
 ⟨(some 57), .mv (.t 56), none⟩,
 ⟨(some 58), .fa (.t 8) 9, (some (57, true))⟩,
 ⟨(some 59), .ld (.t 58) 1 false, (some (57, true))⟩,
 ⟨(some 60), .bin .geq (.t 59) (.c (.d (.v (.int .i64 0)))), (some (57, true))⟩,
 ⟨(some 61), .pick (.t 57) (.t 60) (.c (.d (.v (.bool false)))), none⟩])
 (.cond (.t 61) (.dreg [[], [], [1], [], [3], [2, 4], [0, 5], [6], [0, 5, 0, 1, 2, 3, 4, 5], [8], [0, 9, 7, 8, 0, 1, 2, 3, 4, 5, 6, 7, 8, 9]] [⟨(some 62), .mv (.t 6), none⟩,
 ⟨(some 63), .fa (.t 8) 1, none⟩,
 ⟨(some 64), .ld (.t 63) 1 false, none⟩,
 ⟨(some 65), .fa (.t 8) 9, none⟩,
 ⟨(some 66), .ld (.t 65) 1 false, none⟩,
 ⟨(some 67), .bd [(.d (.v (.string ⟨#[]⟩))), (.d (.v (.int .i64 0)))] [(0, 1, (.t 64)), (1, 1, (.t 66))], none⟩,
 ⟨(some 68), .lk ⟨true, [.s, .i .i64]⟩ (.d (.v (.int .i64 0))) (.t 62) (.t 67) false, none⟩,
 ⟨(some 69), .bin .add (.t 68) (.c (.d (.v (.int .i64 1)))), none⟩,
 ⟨(some 70), .me ⟨true, [.s, .i .i64]⟩ (.d (.v (.int .i64 0))) (.t 62) (.t 67), none⟩,
 ⟨(some 71), .ext (.t 70) 1, none⟩,
 ⟨none, .mes (.t 62) (.t 71) (.t 69), none⟩]) (.skip)))
 (.seq (.reg [⟨(some 72), .mv (.t 6), none⟩,
 ⟨(some 73), .fa (.t 8) 1, none⟩,
 ⟨(some 74), .ld (.t 73) 1 false, none⟩,
 ⟨(some 75), .fa (.t 8) 9, none⟩,
 ⟨(some 76), .ld (.t 75) 1 false, none⟩,
 ⟨(some 77), .bd [(.d (.v (.string ⟨#[]⟩))), (.d (.v (.int .i64 0)))] [(0, 1, (.t 74)), (1, 1, (.t 76))], none⟩,
 ⟨(some 78), .lk ⟨true, [.s, .i .i64]⟩ (.d (.v (.int .i64 0))) (.t 72) (.t 77) false, none⟩,
 ⟨(some 79), .bin .gtr (.t 78) (.c (.d (.v (.int .i64 1)))), none⟩,
 ⟨(some 80), .mv (.t 79), none⟩,
 ⟨(some 81), .ld (.t 1) 1 false, (some (80, false))⟩,
 ⟨(some 82), .mv (.t 7), (some (80, false))⟩,
 ⟨(some 83), .mv (.t 5), (some (80, false))⟩,
 ⟨(some 84), .call 54 [(.t 81), (.t 82), (.t 83)], (some (80, false))⟩,
 ⟨(some 85), .un .not (.t 84), (some (80, false))⟩,
 ⟨(some 86), .pick (.t 80) (.c (.d (.v (.bool true)))) (.t 85), none⟩])
 (.cond (.t 86) (.seq (.reg [⟨(some 2), .mv (.c (.d (.v (.bool false)))), none⟩])
 (.ret)) (.skip))))))
 (.reg [⟨(some 87), .bin .add (.t 49) (.c (.d (.v (.int .i64 1)))), none⟩,
 ⟨(some 49), .mv (.t 87), none⟩])))

def c33l1 : AC :=
 .seq (.reg [⟨(some 20), .bin .lss (.t 19) (.t 18), none⟩])
 (.seq (.cond (.t 20) (.skip) (.exit 0))
 (.seq (.block 1 (.seq (.reg [⟨(some 21), .mv (.t 19), none⟩,
 ⟨(some 22), .ia (.t 17) (.t 19) 10, none⟩,
 ⟨(some 23), .ld (.t 22) 10 true, none⟩,
 ⟨(some 4), .al [(.d (.v (.int .i64 0))), (.d (.v (.string ⟨#[]⟩))), (.d (.v (.string ⟨#[]⟩))), (.d (.v (.int .i64 0))), (.d (.v (.int .i64 0))), (.d (.v (.int .i64 0))), .esl, .esl, (.d (.v (.int .i64 0))), (.d (.v (.int .i64 0)))], none⟩,
 ⟨(some 3), .mv (.t 21), none⟩,
 ⟨none, .st (.t 4) (.t 23) 10, none⟩])
 (.seq (.reg [⟨(some 24), .mv (.t 3), none⟩,
 ⟨(some 25), .bin .leq (.t 24) (.c (.d (.v (.int .i64 6)))), none⟩,
 ⟨(some 26), .mv (.t 25), none⟩,
 ⟨(some 27), .ld (.t 4) 10 true, (some (26, true))⟩,
 ⟨(some 28), .mv (.t 3), (some (26, true))⟩,
 ⟨(some 29), .call 52 [(.t 27), (.t 28)], (some (26, true))⟩,
 ⟨(some 30), .un .not (.t 29), (some (26, true))⟩,
 ⟨(some 31), .pick (.t 26) (.t 30) (.c (.d (.v (.bool false)))), none⟩,
 ⟨(some 32), .mv (.t 31), none⟩,
 ⟨(some 33), .mv (.t 3), (some (32, false))⟩,
 ⟨(some 34), .bin .gtr (.t 33) (.c (.d (.v (.int .i64 6)))), (some (32, false))⟩,
 ⟨(some 35), .mv (.t 34), (some (32, false))⟩,
 ⟨(some 36), .ld (.t 1) 1 false, (some (35, true))⟩,
 ⟨(some 37), .ld (.t 4) 10 true, (some (35, true))⟩,
 ⟨(some 38), .call 53 [(.t 36), (.t 37)], (some (35, true))⟩,
 ⟨(some 39), .un .not (.t 38), (some (35, true))⟩,
 ⟨(some 40), .pick (.t 35) (.t 39) (.c (.d (.v (.bool false)))), (some (32, false))⟩,
 ⟨(some 41), .pick (.t 32) (.c (.d (.v (.bool true)))) (.t 40), none⟩])
 (.cond (.t 41) (.seq (.reg [⟨(some 2), .mv (.c (.d (.v (.bool false)))), none⟩])
 (.ret)) (.skip)))))
 (.reg [⟨(some 42), .bin .add (.t 19) (.c (.d (.v (.int .i64 1)))), none⟩,
 ⟨(some 19), .mv (.t 42), none⟩])))

/-- spinet/tables.Good -/
def c33 : AC :=
 .seq (.reg [⟨(some 1), .bx (.t 0), none⟩,
 ⟨(some 2), .mv (.c (.d (.v (.bool false)))), none⟩])
 (.seq (.seq (.reg [⟨(some 9), .ld (.t 1) 1 false, none⟩,
 ⟨(some 10), .len false (.t 9), none⟩,
 ⟨(some 11), .bin .leq (.t 10) (.c (.d (.v (.int .i64 6)))), none⟩,
 ⟨(some 12), .mv (.t 11), none⟩,
 ⟨(some 13), .ld (.t 1) 1 false, (some (12, false))⟩,
 ⟨(some 14), .len false (.t 13), (some (12, false))⟩,
 ⟨(some 15), .bin .gtr (.t 14) (.c (.d (.v (.int .i64 256)))), (some (12, false))⟩,
 ⟨(some 16), .pick (.t 12) (.c (.d (.v (.bool true)))) (.t 15), none⟩])
 (.cond (.t 16) (.seq (.reg [⟨(some 2), .mv (.c (.d (.v (.bool false)))), none⟩])
 (.ret)) (.skip)))
 (.seq (.seq (.reg [⟨(some 17), .ld (.t 1) 1 false, none⟩,
 ⟨(some 18), .len false (.t 17), none⟩,
 ⟨(some 19), .mv (.c (.d (.v (.int .i64 0)))), none⟩])
 (.block 0 (.loop c33l1)))
 (.seq (.reg [⟨(some 43), .ld (.t 1) 1 false, none⟩,
 ⟨(some 44), .len false (.t 43), none⟩,
 ⟨(some 45), .mks .hp 3 1 8 [(.d (.v (.int .i64 0)))] (.t 44) (.t 44), none⟩,
 ⟨(some 5), .mv (.t 45), none⟩])
 (.seq (.reg [⟨(some 46), .mkm ⟨true, [.s, .i .i64]⟩, none⟩,
 ⟨(some 6), .mv (.t 46), none⟩])
 (.seq (.seq (.reg [⟨(some 47), .ld (.t 1) 1 false, none⟩,
 ⟨(some 48), .len false (.t 47), none⟩,
 ⟨(some 49), .mv (.c (.d (.v (.int .i64 0)))), none⟩])
 (.block 2 (.loop c33l0)))
 (.seq (.reg [⟨(some 88), .ld (.t 1) 1 false, none⟩,
 ⟨(some 89), .mkf 56 [(.t 1)], none⟩,
 ⟨(some 90), .call 55 [(.t 88), (.t 89)], none⟩,
 ⟨(some 91), .un .not (.t 90), none⟩,
 ⟨(some 2), .mv (.t 91), none⟩])
 (.ret)))))))
def r33 : List RC := [.t 2]

def c34l0 : AC :=
 .seq (.seq (.reg [⟨(some 129), .mv (.t 6), none⟩,
 ⟨(some 130), .fa (.t 2) 7, none⟩,
 ⟨(some 131), .ld (.t 130) 1 false, none⟩,
 ⟨(some 132), .len false (.t 131), none⟩,
 ⟨(some 133), .bin .lss (.t 129) (.t 132), none⟩])
 (.cond (.t 133) (.skip) (.exit 2)))
 (.seq (.block 3 (.seq (.dreg [[], [0], [], [1, 2], [3], [4], [], [6], [], [7, 8], [9], [10], [5, 11], [12], [13], [14, 13], [13], [15, 16, 13], [17, 13], [18, 13], [13], [20, 13], [13], [21, 22, 13], [23, 13], [24, 13], [19, 25, 13], [13, 26]] [⟨(some 136), .fa (.t 2) 7, none⟩,
 ⟨(some 137), .ld (.t 136) 1 false, none⟩,
 ⟨(some 138), .mv (.t 6), none⟩,
 ⟨(some 139), .ia (.t 137) (.t 138) 2, none⟩,
 ⟨(some 140), .fa (.t 139) 0, none⟩,
 ⟨(some 141), .ld (.t 140) 1 false, none⟩,
 ⟨(some 142), .fa (.t 3) 7, none⟩,
 ⟨(some 143), .ld (.t 142) 1 false, none⟩,
 ⟨(some 144), .mv (.t 6), none⟩,
 ⟨(some 145), .ia (.t 143) (.t 144) 2, none⟩,
 ⟨(some 146), .fa (.t 145) 0, none⟩,
 ⟨(some 147), .ld (.t 146) 1 false, none⟩,
 ⟨(some 148), .eqs true (.t 141) (.t 147), none⟩,
 ⟨(some 149), .mv (.t 148), none⟩,
 ⟨(some 150), .fa (.t 2) 7, (some (149, false))⟩,
 ⟨(some 151), .ld (.t 150) 1 false, (some (149, false))⟩,
 ⟨(some 152), .mv (.t 6), (some (149, false))⟩,
 ⟨(some 153), .ia (.t 151) (.t 152) 2, (some (149, false))⟩,
 ⟨(some 154), .fa (.t 153) 1, (some (149, false))⟩,
 ⟨(some 155), .ld (.t 154) 1 false, (some (149, false))⟩,
 ⟨(some 156), .fa (.t 3) 7, (some (149, false))⟩,
 ⟨(some 157), .ld (.t 156) 1 false, (some (149, false))⟩,
 ⟨(some 158), .mv (.t 6), (some (149, false))⟩,
 ⟨(some 159), .ia (.t 157) (.t 158) 2, (some (149, false))⟩,
 ⟨(some 160), .fa (.t 159) 1, (some (149, false))⟩,
 ⟨(some 161), .ld (.t 160) 1 false, (some (149, false))⟩,
 ⟨(some 162), .bin .neq (.t 155) (.t 161), (some (149, false))⟩,
 ⟨(some 163), .pick (.t 149) (.c (.d (.v (.bool true)))) (.t 162), none⟩])
 (.cond (.t 163) (.seq (.reg [⟨(some 4), .mv (.c (.d (.v (.bool false)))), none⟩])
 (.ret)) (.skip))))
 (.reg [⟨(some 134), .mv (.t 6), none⟩,
 ⟨(some 135), .bin .add (.t 134) (.c (.d (.v (.int .i64 1)))), none⟩,
 ⟨(some 6), .mv (.t 135), none⟩]))

def c34l1 : AC :=
 .seq (.seq (.reg [⟨(some 79), .mv (.t 5), none⟩,
 ⟨(some 80), .fa (.t 2) 6, none⟩,
 ⟨(some 81), .ld (.t 80) 1 false, none⟩,
 ⟨(some 82), .len false (.t 81), none⟩,
 ⟨(some 83), .bin .lss (.t 79) (.t 82), none⟩])
 (.cond (.t 83) (.skip) (.exit 0)))
 (.seq (.block 1 (.seq (.dreg [[], [0], [], [1, 2], [3], [4], [], [6], [], [7, 8], [9], [10], [5, 11], [12], [13], [14, 13], [13], [15, 16, 13], [17, 13], [18, 13], [13], [20, 13], [13], [21, 22, 13], [23, 13], [24, 13], [19, 25, 13], [13, 26], [27, 13], [28], [29, 28], [28], [30, 31, 28], [32, 28], [33, 28], [28], [35, 28], [28], [36, 37, 28], [38, 28], [39, 28], [34, 40, 28], [28, 41]] [⟨(some 86), .fa (.t 2) 6, none⟩,
 ⟨(some 87), .ld (.t 86) 1 false, none⟩,
 ⟨(some 88), .mv (.t 5), none⟩,
 ⟨(some 89), .ia (.t 87) (.t 88) 3, none⟩,
 ⟨(some 90), .fa (.t 89) 0, none⟩,
 ⟨(some 91), .ld (.t 90) 1 false, none⟩,
 ⟨(some 92), .fa (.t 3) 6, none⟩,
 ⟨(some 93), .ld (.t 92) 1 false, none⟩,
 ⟨(some 94), .mv (.t 5), none⟩,
 ⟨(some 95), .ia (.t 93) (.t 94) 3, none⟩,
 ⟨(some 96), .fa (.t 95) 0, none⟩,
 ⟨(some 97), .ld (.t 96) 1 false, none⟩,
 ⟨(some 98), .bin .neq (.t 91) (.t 97), none⟩,
 ⟨(some 99), .mv (.t 98), none⟩,
 ⟨(some 100), .fa (.t 2) 6, (some (99, false))⟩,
 ⟨(some 101), .ld (.t 100) 1 false, (some (99, false))⟩,
 ⟨(some 102), .mv (.t 5), (some (99, false))⟩,
 ⟨(some 103), .ia (.t 101) (.t 102) 3, (some (99, false))⟩,
 ⟨(some 104), .fa (.t 103) 1, (some (99, false))⟩,
 ⟨(some 105), .ld (.t 104) 1 false, (some (99, false))⟩,
 ⟨(some 106), .fa (.t 3) 6, (some (99, false))⟩,
 ⟨(some 107), .ld (.t 106) 1 false, (some (99, false))⟩,
 ⟨(some 108), .mv (.t 5), (some (99, false))⟩,
 ⟨(some 109), .ia (.t 107) (.t 108) 3, (some (99, false))⟩,
 ⟨(some 110), .fa (.t 109) 1, (some (99, false))⟩,
 ⟨(some 111), .ld (.t 110) 1 false, (some (99, false))⟩,
 ⟨(some 112), .eqs true (.t 105) (.t 111), (some (99, false))⟩,
 ⟨(some 113), .pick (.t 99) (.c (.d (.v (.bool true)))) (.t 112), none⟩,
 ⟨(some 114), .mv (.t 113), none⟩,
 ⟨(some 115), .fa (.t 2) 6, (some (114, false))⟩,
 ⟨(some 116), .ld (.t 115) 1 false, (some (114, false))⟩,
 ⟨(some 117), .mv (.t 5), (some (114, false))⟩,
 ⟨(some 118), .ia (.t 116) (.t 117) 3, (some (114, false))⟩,
 ⟨(some 119), .fa (.t 118) 2, (some (114, false))⟩,
 ⟨(some 120), .ld (.t 119) 1 false, (some (114, false))⟩,
 ⟨(some 121), .fa (.t 3) 6, (some (114, false))⟩,
 ⟨(some 122), .ld (.t 121) 1 false, (some (114, false))⟩,
 ⟨(some 123), .mv (.t 5), (some (114, false))⟩,
 ⟨(some 124), .ia (.t 122) (.t 123) 3, (some (114, false))⟩,
 ⟨(some 125), .fa (.t 124) 2, (some (114, false))⟩,
 ⟨(some 126), .ld (.t 125) 1 false, (some (114, false))⟩,
 ⟨(some 127), .bin .neq (.t 120) (.t 126), (some (114, false))⟩,
 ⟨(some 128), .pick (.t 114) (.c (.d (.v (.bool true)))) (.t 127), none⟩])
 (.cond (.t 128) (.seq (.reg [⟨(some 4), .mv (.c (.d (.v (.bool false)))), none⟩])
 (.ret)) (.skip))))
 (.reg [⟨(some 84), .mv (.t 5), none⟩,
 ⟨(some 85), .bin .add (.t 84) (.c (.d (.v (.int .i64 1)))), none⟩,
 ⟨(some 5), .mv (.t 85), none⟩]))

/-- spinet/spinetref13.Alike -/
def c34 : AC :=
 .seq (.reg [⟨(some 2), .bx (.t 0), none⟩,
 ⟨(some 3), .bx (.t 1), none⟩,
 ⟨(some 4), .mv (.c (.d (.v (.bool false)))), none⟩])
 (.seq (.seq (.reg [⟨(some 7), .fa (.t 2) 0, none⟩,
 ⟨(some 8), .ld (.t 7) 1 false, none⟩,
 ⟨(some 9), .fa (.t 3) 0, none⟩,
 ⟨(some 10), .ld (.t 9) 1 false, none⟩,
 ⟨(some 11), .bin .neq (.t 8) (.t 10), none⟩,
 ⟨(some 12), .mv (.t 11), none⟩,
 ⟨(some 13), .fa (.t 2) 1, (some (12, false))⟩,
 ⟨(some 14), .ld (.t 13) 1 false, (some (12, false))⟩,
 ⟨(some 15), .fa (.t 3) 1, (some (12, false))⟩,
 ⟨(some 16), .ld (.t 15) 1 false, (some (12, false))⟩,
 ⟨(some 17), .bin .neq (.t 14) (.t 16), (some (12, false))⟩,
 ⟨(some 18), .pick (.t 12) (.c (.d (.v (.bool true)))) (.t 17), none⟩,
 ⟨(some 19), .mv (.t 18), none⟩,
 ⟨(some 20), .fa (.t 2) 2, (some (19, false))⟩,
 ⟨(some 21), .ld (.t 20) 1 false, (some (19, false))⟩,
 ⟨(some 22), .fa (.t 3) 2, (some (19, false))⟩,
 ⟨(some 23), .ld (.t 22) 1 false, (some (19, false))⟩,
 ⟨(some 24), .bin .neq (.t 21) (.t 23), (some (19, false))⟩,
 ⟨(some 25), .pick (.t 19) (.c (.d (.v (.bool true)))) (.t 24), none⟩,
 ⟨(some 26), .mv (.t 25), none⟩,
 ⟨(some 27), .fa (.t 2) 3, (some (26, false))⟩,
 ⟨(some 28), .ld (.t 27) 1 false, (some (26, false))⟩,
 ⟨(some 29), .fa (.t 3) 3, (some (26, false))⟩,
 ⟨(some 30), .ld (.t 29) 1 false, (some (26, false))⟩,
 ⟨(some 31), .bin .neq (.t 28) (.t 30), (some (26, false))⟩,
 ⟨(some 32), .pick (.t 26) (.c (.d (.v (.bool true)))) (.t 31), none⟩,
 ⟨(some 33), .mv (.t 32), none⟩,
 ⟨(some 34), .fa (.t 2) 4, (some (33, false))⟩,
 ⟨(some 35), .ld (.t 34) 1 false, (some (33, false))⟩,
 ⟨(some 36), .fa (.t 3) 4, (some (33, false))⟩,
 ⟨(some 37), .ld (.t 36) 1 false, (some (33, false))⟩,
 ⟨(some 38), .bin .neq (.t 35) (.t 37), (some (33, false))⟩,
 ⟨(some 39), .pick (.t 33) (.c (.d (.v (.bool true)))) (.t 38), none⟩,
 ⟨(some 40), .mv (.t 39), none⟩,
 ⟨(some 41), .fa (.t 2) 5, (some (40, false))⟩,
 ⟨(some 42), .ld (.t 41) 1 false, (some (40, false))⟩,
 ⟨(some 43), .fa (.t 3) 5, (some (40, false))⟩,
 ⟨(some 44), .ld (.t 43) 1 false, (some (40, false))⟩,
 ⟨(some 45), .bin .neq (.t 42) (.t 44), (some (40, false))⟩,
 ⟨(some 46), .pick (.t 40) (.c (.d (.v (.bool true)))) (.t 45), none⟩,
 ⟨(some 47), .mv (.t 46), none⟩,
 ⟨(some 48), .fa (.t 2) 8, (some (47, false))⟩,
 ⟨(some 49), .ld (.t 48) 1 false, (some (47, false))⟩,
 ⟨(some 50), .fa (.t 3) 8, (some (47, false))⟩,
 ⟨(some 51), .ld (.t 50) 1 false, (some (47, false))⟩,
 ⟨(some 52), .bin .neq (.t 49) (.t 51), (some (47, false))⟩,
 ⟨(some 53), .pick (.t 47) (.c (.d (.v (.bool true)))) (.t 52), none⟩,
 ⟨(some 54), .mv (.t 53), none⟩,
 ⟨(some 55), .fa (.t 2) 9, (some (54, false))⟩,
 ⟨(some 56), .ld (.t 55) 1 false, (some (54, false))⟩,
 ⟨(some 57), .fa (.t 3) 9, (some (54, false))⟩,
 ⟨(some 58), .ld (.t 57) 1 false, (some (54, false))⟩,
 ⟨(some 59), .bin .neq (.t 56) (.t 58), (some (54, false))⟩,
 ⟨(some 60), .pick (.t 54) (.c (.d (.v (.bool true)))) (.t 59), none⟩,
 ⟨(some 61), .mv (.t 60), none⟩,
 ⟨(some 62), .fa (.t 2) 6, (some (61, false))⟩,
 ⟨(some 63), .ld (.t 62) 1 false, (some (61, false))⟩,
 ⟨(some 64), .len false (.t 63), (some (61, false))⟩,
 ⟨(some 65), .fa (.t 3) 6, (some (61, false))⟩,
 ⟨(some 66), .ld (.t 65) 1 false, (some (61, false))⟩,
 ⟨(some 67), .len false (.t 66), (some (61, false))⟩,
 ⟨(some 68), .bin .neq (.t 64) (.t 67), (some (61, false))⟩,
 ⟨(some 69), .pick (.t 61) (.c (.d (.v (.bool true)))) (.t 68), none⟩,
 ⟨(some 70), .mv (.t 69), none⟩,
 ⟨(some 71), .fa (.t 2) 7, (some (70, false))⟩,
 ⟨(some 72), .ld (.t 71) 1 false, (some (70, false))⟩,
 ⟨(some 73), .len false (.t 72), (some (70, false))⟩,
 ⟨(some 74), .fa (.t 3) 7, (some (70, false))⟩,
 ⟨(some 75), .ld (.t 74) 1 false, (some (70, false))⟩,
 ⟨(some 76), .len false (.t 75), (some (70, false))⟩,
 ⟨(some 77), .bin .neq (.t 73) (.t 76), (some (70, false))⟩,
 ⟨(some 78), .pick (.t 70) (.c (.d (.v (.bool true)))) (.t 77), none⟩])
 (.cond (.t 78) (.seq (.reg [⟨(some 4), .mv (.c (.d (.v (.bool false)))), none⟩])
 (.ret)) (.skip)))
 (.seq (.seq (.reg [⟨(some 5), .mv (.c (.d (.v (.int .i64 0)))), none⟩])
 (.block 0 (.loop c34l1)))
 (.seq (.seq (.reg [⟨(some 6), .mv (.c (.d (.v (.int .i64 0)))), none⟩])
 (.block 2 (.loop c34l0)))
 (.seq (.reg [⟨(some 4), .mv (.c (.d (.v (.bool true)))), none⟩])
 (.ret)))))
def r34 : List RC := [.t 4]

def c35l0 : AC :=
 .seq (.seq (.reg [⟨(some 190), .mv (.t 6), none⟩,
 ⟨(some 191), .fa (.t 5) 7, none⟩,
 ⟨(some 192), .ld (.t 191) 1 false, none⟩,
 ⟨(some 193), .len false (.t 192), none⟩,
 ⟨(some 194), .bin .lss (.t 190) (.t 193), none⟩])
 (.cond (.t 194) (.skip) (.exit 1)))
 (.seq (.block 2 (.seq (.reg [⟨(some 197), .fa (.t 5) 7, none⟩,
 ⟨(some 198), .ld (.t 197) 1 false, none⟩,
 ⟨(some 199), .mv (.t 6), none⟩,
 ⟨(some 200), .ia (.t 198) (.t 199) 2, none⟩,
 ⟨(some 201), .fa (.t 200) 1, none⟩,
 ⟨(some 202), .ld (.t 201) 1 false, none⟩,
 ⟨(some 7), .mv (.t 202), none⟩])
 (.seq (.reg [⟨(some 203), .mv (.t 0), none⟩,
 ⟨(some 204), .mv (.t 7), none⟩,
 ⟨(some 205), .call 59 [(.t 203), (.t 204)], none⟩,
 ⟨(some 206), .un .not (.t 205), none⟩,
 ⟨(some 207), .mv (.t 206), none⟩,
 ⟨(some 208), .mv (.t 0), (some (207, true))⟩,
 ⟨(some 209), .mv (.t 7), (some (207, true))⟩,
 ⟨(some 210), .call 60 [(.t 208), (.t 209)], (some (207, true))⟩,
 ⟨(some 211), .un .not (.t 210), (some (207, true))⟩,
 ⟨(some 212), .mv (.t 211), (some (207, true))⟩,
 ⟨(some 213), .mv (.t 0), (some (212, false))⟩,
 ⟨(some 214), .mv (.t 7), (some (212, false))⟩,
 ⟨(some 215), .ia (.t 213) (.t 214) 10, (some (212, false))⟩,
 ⟨(some 216), .fa (.t 215) 0, (some (212, false))⟩,
 ⟨(some 217), .ld (.t 216) 1 false, (some (212, false))⟩,
 ⟨(some 218), .bin .neq (.t 217) (.c (.d (.v (.int .i64 8)))), (some (212, false))⟩,
 ⟨(some 219), .pick (.t 212) (.c (.d (.v (.bool true)))) (.t 218), (some (207, true))⟩,
 ⟨(some 220), .pick (.t 207) (.t 219) (.c (.d (.v (.bool false)))), none⟩])
 (.cond (.t 220) (.seq (.reg [⟨(some 4), .mv (.c (.d (.v (.bool false)))), none⟩])
 (.ret)) (.skip)))))
 (.reg [⟨(some 195), .mv (.t 6), none⟩,
 ⟨(some 196), .bin .add (.t 195) (.c (.d (.v (.int .i64 1)))), none⟩,
 ⟨(some 6), .mv (.t 196), none⟩]))

/-- spinet/spinetref13.one -/
def c35 : AC :=
 .seq (.reg [⟨(some 4), .mv (.c (.d (.v (.bool false)))), none⟩])
 (.seq (.reg [⟨(some 8), .mv (.t 0), none⟩,
 ⟨(some 9), .mv (.t 1), none⟩,
 ⟨(some 10), .ia (.t 8) (.t 9) 10, none⟩,
 ⟨(some 11), .ld (.t 10) 10 true, none⟩,
 ⟨(some 5), .al [(.d (.v (.int .i64 0))), (.d (.v (.string ⟨#[]⟩))), (.d (.v (.string ⟨#[]⟩))), (.d (.v (.int .i64 0))), (.d (.v (.int .i64 0))), (.d (.v (.int .i64 0))), .esl, .esl, (.d (.v (.int .i64 0))), (.d (.v (.int .i64 0)))], none⟩,
 ⟨none, .st (.t 5) (.t 11) 10, none⟩])
 (.seq (.seq (.reg [⟨(some 12), .fa (.t 5) 0, none⟩,
 ⟨(some 13), .ld (.t 12) 1 false, none⟩,
 ⟨(some 14), .bin .neq (.t 13) (.c (.d (.v (.int .i64 9)))), none⟩,
 ⟨(some 15), .mv (.t 14), none⟩,
 ⟨(some 16), .fa (.t 5) 9, (some (15, true))⟩,
 ⟨(some 17), .ld (.t 16) 1 false, (some (15, true))⟩,
 ⟨(some 18), .bin .neq (.t 17) (.c (.d (.v (.int .i64 0)))), (some (15, true))⟩,
 ⟨(some 19), .mv (.t 18), (some (15, true))⟩,
 ⟨(some 20), .fa (.t 5) 1, (some (19, false))⟩,
 ⟨(some 21), .ld (.t 20) 1 false, (some (19, false))⟩,
 ⟨(some 22), .bin .eql (.t 21) (.c (.d (.v (.string ⟨#[]⟩)))), (some (19, false))⟩,
 ⟨(some 23), .fa (.t 5) 2, (some (19, false))⟩,
 ⟨(some 24), .ld (.t 23) 1 false, (some (19, false))⟩,
 ⟨(some 25), .bin .eql (.t 24) (.c (.d (.v (.string ⟨#[]⟩)))), (some (19, false))⟩,
 ⟨(some 26), .eqs true (.t 22) (.t 25), (some (19, false))⟩,
 ⟨(some 27), .pick (.t 19) (.c (.d (.v (.bool true)))) (.t 26), (some (15, true))⟩,
 ⟨(some 28), .pick (.t 15) (.t 27) (.c (.d (.v (.bool false)))), none⟩,
 ⟨(some 29), .mv (.t 28), none⟩,
 ⟨(some 30), .fa (.t 5) 0, (some (29, false))⟩,
 ⟨(some 31), .ld (.t 30) 1 false, (some (29, false))⟩,
 ⟨(some 32), .bin .eql (.t 31) (.c (.d (.v (.int .i64 9)))), (some (29, false))⟩,
 ⟨(some 33), .mv (.t 32), (some (29, false))⟩,
 ⟨(some 34), .fa (.t 5) 1, (some (33, true))⟩,
 ⟨(some 35), .ld (.t 34) 1 false, (some (33, true))⟩,
 ⟨(some 36), .bin .eql (.t 35) (.c (.d (.v (.string ⟨#[]⟩)))), (some (33, true))⟩,
 ⟨(some 37), .mv (.t 36), (some (33, true))⟩,
 ⟨(some 38), .fa (.t 5) 9, (some (37, false))⟩,
 ⟨(some 39), .ld (.t 38) 1 false, (some (37, false))⟩,
 ⟨(some 40), .bin .lss (.t 39) (.c (.d (.v (.int .i64 (-1))))), (some (37, false))⟩,
 ⟨(some 41), .pick (.t 37) (.c (.d (.v (.bool true)))) (.t 40), (some (33, true))⟩,
 ⟨(some 42), .mv (.t 41), (some (33, true))⟩,
 ⟨(some 43), .fa (.t 5) 9, (some (42, false))⟩,
 ⟨(some 44), .ld (.t 43) 1 false, (some (42, false))⟩,
 ⟨(some 45), .bin .gtr (.t 44) (.c (.d (.v (.int .i64 63)))), (some (42, false))⟩,
 ⟨(some 46), .pick (.t 42) (.c (.d (.v (.bool true)))) (.t 45), (some (33, true))⟩,
 ⟨(some 47), .pick (.t 33) (.t 46) (.c (.d (.v (.bool false)))), (some (29, false))⟩,
 ⟨(some 48), .pick (.t 29) (.c (.d (.v (.bool true)))) (.t 47), none⟩])
 (.cond (.t 48) (.seq (.reg [⟨(some 4), .mv (.c (.d (.v (.bool false)))), none⟩])
 (.ret)) (.skip)))
 (.seq (.seq (.reg [⟨(some 49), .fa (.t 5) 1, none⟩,
 ⟨(some 50), .ld (.t 49) 1 false, none⟩,
 ⟨(some 51), .bin .neq (.t 50) (.c (.d (.v (.string ⟨#[]⟩)))), none⟩,
 ⟨(some 52), .mv (.t 51), none⟩,
 ⟨(some 53), .fa (.t 5) 1, (some (52, true))⟩,
 ⟨(some 54), .ld (.t 53) 1 false, (some (52, true))⟩,
 ⟨(some 55), .call 58 [(.t 54)], (some (52, true))⟩,
 ⟨(some 56), .un .not (.t 55), (some (52, true))⟩,
 ⟨(some 57), .pick (.t 52) (.t 56) (.c (.d (.v (.bool false)))), none⟩,
 ⟨(some 58), .mv (.t 57), none⟩,
 ⟨(some 59), .fa (.t 5) 2, (some (58, false))⟩,
 ⟨(some 60), .ld (.t 59) 1 false, (some (58, false))⟩,
 ⟨(some 61), .bin .neq (.t 60) (.c (.d (.v (.string ⟨#[]⟩)))), (some (58, false))⟩,
 ⟨(some 62), .mv (.t 61), (some (58, false))⟩,
 ⟨(some 63), .fa (.t 5) 2, (some (62, true))⟩,
 ⟨(some 64), .ld (.t 63) 1 false, (some (62, true))⟩,
 ⟨(some 65), .call 58 [(.t 64)], (some (62, true))⟩,
 ⟨(some 66), .un .not (.t 65), (some (62, true))⟩,
 ⟨(some 67), .pick (.t 62) (.t 66) (.c (.d (.v (.bool false)))), (some (58, false))⟩,
 ⟨(some 68), .pick (.t 58) (.c (.d (.v (.bool true)))) (.t 67), none⟩])
 (.cond (.t 68) (.seq (.reg [⟨(some 4), .mv (.c (.d (.v (.bool false)))), none⟩])
 (.ret)) (.skip)))
 (.seq (.seq (.reg [⟨(some 69), .fa (.t 5) 0, none⟩,
 ⟨(some 70), .ld (.t 69) 1 false, none⟩,
 ⟨(some 71), .bin .neq (.t 70) (.c (.d (.v (.int .i64 7)))), none⟩,
 ⟨(some 72), .mv (.t 71), none⟩,
 ⟨(some 73), .fa (.t 5) 3, (some (72, true))⟩,
 ⟨(some 74), .ld (.t 73) 1 false, (some (72, true))⟩,
 ⟨(some 75), .bin .neq (.t 74) (.c (.d (.v (.int .i64 0)))), (some (72, true))⟩,
 ⟨(some 76), .pick (.t 72) (.t 75) (.c (.d (.v (.bool false)))), none⟩,
 ⟨(some 77), .mv (.t 76), none⟩,
 ⟨(some 78), .fa (.t 5) 0, (some (77, false))⟩,
 ⟨(some 79), .ld (.t 78) 1 false, (some (77, false))⟩,
 ⟨(some 80), .bin .neq (.t 79) (.c (.d (.v (.int .i64 7)))), (some (77, false))⟩,
 ⟨(some 81), .mv (.t 80), (some (77, false))⟩,
 ⟨(some 82), .fa (.t 5) 0, (some (81, true))⟩,
 ⟨(some 83), .ld (.t 82) 1 false, (some (81, true))⟩,
 ⟨(some 84), .bin .neq (.t 83) (.c (.d (.v (.int .i64 8)))), (some (81, true))⟩,
 ⟨(some 85), .pick (.t 81) (.t 84) (.c (.d (.v (.bool false)))), (some (77, false))⟩,
 ⟨(some 86), .mv (.t 85), (some (77, false))⟩,
 ⟨(some 87), .fa (.t 5) 0, (some (86, true))⟩,
 ⟨(some 88), .ld (.t 87) 1 false, (some (86, true))⟩,
 ⟨(some 89), .bin .neq (.t 88) (.c (.d (.v (.int .i64 10)))), (some (86, true))⟩,
 ⟨(some 90), .pick (.t 86) (.t 89) (.c (.d (.v (.bool false)))), (some (77, false))⟩,
 ⟨(some 91), .mv (.t 90), (some (77, false))⟩,
 ⟨(some 92), .fa (.t 5) 4, (some (91, true))⟩,
 ⟨(some 93), .ld (.t 92) 1 false, (some (91, true))⟩,
 ⟨(some 94), .bin .neq (.t 93) (.c (.d (.v (.int .i64 0)))), (some (91, true))⟩,
 ⟨(some 95), .pick (.t 91) (.t 94) (.c (.d (.v (.bool false)))), (some (77, false))⟩,
 ⟨(some 96), .pick (.t 77) (.c (.d (.v (.bool true)))) (.t 95), none⟩,
 ⟨(some 97), .mv (.t 96), none⟩,
 ⟨(some 98), .fa (.t 5) 0, (some (97, false))⟩,
 ⟨(some 99), .ld (.t 98) 1 false, (some (97, false))⟩,
 ⟨(some 100), .bin .neq (.t 99) (.c (.d (.v (.int .i64 9)))), (some (97, false))⟩,
 ⟨(some 101), .mv (.t 100), (some (97, false))⟩,
 ⟨(some 102), .fa (.t 5) 5, (some (101, true))⟩,
 ⟨(some 103), .ld (.t 102) 1 false, (some (101, true))⟩,
 ⟨(some 104), .bin .neq (.t 103) (.c (.d (.v (.int .i64 0)))), (some (101, true))⟩,
 ⟨(some 105), .mv (.t 104), (some (101, true))⟩,
 ⟨(some 106), .fa (.t 5) 6, (some (105, false))⟩,
 ⟨(some 107), .ld (.t 106) 1 false, (some (105, false))⟩,
 ⟨(some 108), .len false (.t 107), (some (105, false))⟩,
 ⟨(some 109), .bin .gtr (.t 108) (.c (.d (.v (.int .i64 0)))), (some (105, false))⟩,
 ⟨(some 110), .pick (.t 105) (.c (.d (.v (.bool true)))) (.t 109), (some (101, true))⟩,
 ⟨(some 111), .pick (.t 101) (.t 110) (.c (.d (.v (.bool false)))), (some (97, false))⟩,
 ⟨(some 112), .pick (.t 97) (.c (.d (.v (.bool true)))) (.t 111), none⟩,
 ⟨(some 113), .mv (.t 112), none⟩,
 ⟨(some 114), .fa (.t 5) 0, (some (113, false))⟩,
 ⟨(some 115), .ld (.t 114) 1 false, (some (113, false))⟩,
 ⟨(some 116), .bin .neq (.t 115) (.c (.d (.v (.int .i64 11)))), (some (113, false))⟩,
 ⟨(some 117), .mv (.t 116), (some (113, false))⟩,
 ⟨(some 118), .fa (.t 5) 7, (some (117, true))⟩,
 ⟨(some 119), .ld (.t 118) 1 false, (some (117, true))⟩,
 ⟨(some 120), .len false (.t 119), (some (117, true))⟩,
 ⟨(some 121), .bin .gtr (.t 120) (.c (.d (.v (.int .i64 0)))), (some (117, true))⟩,
 ⟨(some 122), .mv (.t 121), (some (117, true))⟩,
 ⟨(some 123), .fa (.t 5) 8, (some (122, false))⟩,
 ⟨(some 124), .ld (.t 123) 1 false, (some (122, false))⟩,
 ⟨(some 125), .bin .neq (.t 124) (.c (.d (.v (.int .i64 0)))), (some (122, false))⟩,
 ⟨(some 126), .pick (.t 122) (.c (.d (.v (.bool true)))) (.t 125), (some (117, true))⟩,
 ⟨(some 127), .pick (.t 117) (.t 126) (.c (.d (.v (.bool false)))), (some (113, false))⟩,
 ⟨(some 128), .pick (.t 113) (.c (.d (.v (.bool true)))) (.t 127), none⟩])
 (.cond (.t 128) (.seq (.reg [⟨(some 4), .mv (.c (.d (.v (.bool false)))), none⟩])
 (.ret)) (.skip)))
 (.seq (.seq (.reg [⟨(some 129), .fa (.t 5) 0, none⟩,
 ⟨(some 130), .ld (.t 129) 1 false, none⟩])
 (.block 0 (.seq (.reg [⟨(some 132), .bin .eql (.t 130) (.c (.d (.v (.int .i64 7)))), none⟩,
 ⟨(some 131), .mv (.t 132), none⟩])
 (.cond (.t 131) (.seq (.reg [⟨(some 133), .fa (.t 5) 3, none⟩,
 ⟨(some 134), .ld (.t 133) 1 false, none⟩,
 ⟨(some 135), .bin .geq (.t 134) (.c (.d (.v (.int .i64 1)))), none⟩,
 ⟨(some 136), .mv (.t 135), none⟩,
 ⟨(some 137), .fa (.t 5) 3, (some (136, true))⟩,
 ⟨(some 138), .ld (.t 137) 1 false, (some (136, true))⟩,
 ⟨(some 139), .bin .leq (.t 138) (.c (.d (.v (.int .i64 4096)))), (some (136, true))⟩,
 ⟨(some 140), .pick (.t 136) (.t 139) (.c (.d (.v (.bool false)))), none⟩,
 ⟨(some 141), .mv (.t 140), none⟩,
 ⟨(some 142), .mv (.t 0), (some (141, true))⟩,
 ⟨(some 143), .fa (.t 5) 4, (some (141, true))⟩,
 ⟨(some 144), .ld (.t 143) 1 false, (some (141, true))⟩,
 ⟨(some 145), .call 59 [(.t 142), (.t 144)], (some (141, true))⟩,
 ⟨(some 146), .pick (.t 141) (.t 145) (.c (.d (.v (.bool false)))), none⟩,
 ⟨(some 4), .mv (.t 146), none⟩])
 (.ret)) (.seq (.reg [⟨(some 148), .bin .eql (.t 130) (.c (.d (.v (.int .i64 8)))), none⟩,
 ⟨(some 147), .mv (.t 148), none⟩])
 (.cond (.t 147) (.seq (.reg [⟨(some 149), .mv (.t 0), none⟩,
 ⟨(some 150), .fa (.t 5) 4, none⟩,
 ⟨(some 151), .ld (.t 150) 1 false, none⟩,
 ⟨(some 152), .call 59 [(.t 149), (.t 151)], none⟩,
 ⟨(some 153), .mv (.t 152), none⟩,
 ⟨(some 154), .mv (.t 0), (some (153, false))⟩,
 ⟨(some 155), .fa (.t 5) 4, (some (153, false))⟩,
 ⟨(some 156), .ld (.t 155) 1 false, (some (153, false))⟩,
 ⟨(some 157), .call 60 [(.t 154), (.t 156)], (some (153, false))⟩,
 ⟨(some 158), .mv (.t 157), (some (153, false))⟩,
 ⟨(some 159), .mv (.t 0), (some (158, true))⟩,
 ⟨(some 160), .fa (.t 5) 4, (some (158, true))⟩,
 ⟨(some 161), .ld (.t 160) 1 false, (some (158, true))⟩,
 ⟨(some 162), .ia (.t 159) (.t 161) 10, (some (158, true))⟩,
 ⟨(some 163), .fa (.t 162) 0, (some (158, true))⟩,
 ⟨(some 164), .ld (.t 163) 1 false, (some (158, true))⟩,
 ⟨(some 165), .bin .eql (.t 164) (.c (.d (.v (.int .i64 8)))), (some (158, true))⟩,
 ⟨(some 166), .pick (.t 158) (.t 165) (.c (.d (.v (.bool false)))), (some (153, false))⟩,
 ⟨(some 167), .pick (.t 153) (.c (.d (.v (.bool true)))) (.t 166), none⟩,
 ⟨(some 4), .mv (.t 167), none⟩])
 (.ret)) (.seq (.reg [⟨(some 169), .bin .eql (.t 130) (.c (.d (.v (.int .i64 10)))), none⟩,
 ⟨(some 168), .mv (.t 169), none⟩])
 (.cond (.t 168) (.seq (.reg [⟨(some 170), .mv (.t 0), none⟩,
 ⟨(some 171), .fa (.t 5) 4, none⟩,
 ⟨(some 172), .ld (.t 171) 1 false, none⟩,
 ⟨(some 173), .call 60 [(.t 170), (.t 172)], none⟩,
 ⟨(some 174), .mv (.t 173), none⟩,
 ⟨(some 175), .mv (.t 0), (some (174, true))⟩,
 ⟨(some 176), .fa (.t 5) 4, (some (174, true))⟩,
 ⟨(some 177), .ld (.t 176) 1 false, (some (174, true))⟩,
 ⟨(some 178), .ia (.t 175) (.t 177) 10, (some (174, true))⟩,
 ⟨(some 179), .fa (.t 178) 0, (some (174, true))⟩,
 ⟨(some 180), .ld (.t 179) 1 false, (some (174, true))⟩,
 ⟨(some 181), .bin .eql (.t 180) (.c (.d (.v (.int .i64 9)))), (some (174, true))⟩,
 ⟨(some 182), .pick (.t 174) (.t 181) (.c (.d (.v (.bool false)))), none⟩,
 ⟨(some 4), .mv (.t 182), none⟩])
 (.ret)) (.seq (.reg [⟨(some 184), .bin .eql (.t 130) (.c (.d (.v (.int .i64 9)))), none⟩,
 ⟨(some 183), .mv (.t 184), none⟩])
 (.cond (.t 183) (.seq (.reg [⟨(some 185), .mv (.t 0), none⟩,
 ⟨(some 186), .mv (.t 1), none⟩,
 ⟨(some 187), .call 61 [(.t 185), (.t 186)], none⟩,
 ⟨(some 4), .mv (.t 187), none⟩])
 (.ret)) (.seq (.reg [⟨(some 189), .bin .eql (.t 130) (.c (.d (.v (.int .i64 11)))), none⟩,
 ⟨(some 188), .mv (.t 189), none⟩])
 (.cond (.t 188) (.seq (.seq (.reg [⟨(some 6), .mv (.c (.d (.v (.int .i64 0)))), none⟩])
 (.block 1 (.loop c35l0)))
 (.seq (.reg [⟨(some 221), .fa (.t 5) 7, none⟩,
 ⟨(some 222), .ld (.t 221) 1 false, none⟩,
 ⟨(some 223), .len false (.t 222), none⟩,
 ⟨(some 224), .bin .leq (.t 223) (.c (.d (.v (.int .i64 64)))), none⟩,
 ⟨(some 225), .mv (.t 224), none⟩,
 ⟨(some 226), .fa (.t 5) 8, (some (225, true))⟩,
 ⟨(some 227), .ld (.t 226) 1 false, (some (225, true))⟩,
 ⟨(some 228), .bin .eql (.t 227) (.c (.d (.v (.int .i64 0)))), (some (225, true))⟩,
 ⟨(some 229), .mv (.t 228), (some (225, true))⟩,
 ⟨(some 230), .mv (.t 0), (some (229, false))⟩,
 ⟨(some 231), .fa (.t 5) 8, (some (229, false))⟩,
 ⟨(some 232), .ld (.t 231) 1 false, (some (229, false))⟩,
 ⟨(some 233), .call 59 [(.t 230), (.t 232)], (some (229, false))⟩,
 ⟨(some 234), .mv (.t 233), (some (229, false))⟩,
 ⟨(some 235), .mv (.t 0), (some (234, true))⟩,
 ⟨(some 236), .fa (.t 5) 8, (some (234, true))⟩,
 ⟨(some 237), .ld (.t 236) 1 false, (some (234, true))⟩,
 ⟨(some 238), .ia (.t 235) (.t 237) 10, (some (234, true))⟩,
 ⟨(some 239), .fa (.t 238) 0, (some (234, true))⟩,
 ⟨(some 240), .ld (.t 239) 1 false, (some (234, true))⟩,
 ⟨(some 241), .bin .neq (.t 240) (.c (.d (.v (.int .i64 7)))), (some (234, true))⟩,
 ⟨(some 242), .pick (.t 234) (.t 241) (.c (.d (.v (.bool false)))), (some (229, false))⟩,
 ⟨(some 243), .mv (.t 242), (some (229, false))⟩,
 ⟨(some 244), .mv (.t 0), (some (243, true))⟩,
 ⟨(some 245), .fa (.t 5) 8, (some (243, true))⟩,
 ⟨(some 246), .ld (.t 245) 1 false, (some (243, true))⟩,
 ⟨(some 247), .ia (.t 244) (.t 246) 10, (some (243, true))⟩,
 ⟨(some 248), .fa (.t 247) 0, (some (243, true))⟩,
 ⟨(some 249), .ld (.t 248) 1 false, (some (243, true))⟩,
 ⟨(some 250), .bin .neq (.t 249) (.c (.d (.v (.int .i64 9)))), (some (243, true))⟩,
 ⟨(some 251), .pick (.t 243) (.t 250) (.c (.d (.v (.bool false)))), (some (229, false))⟩,
 ⟨(some 252), .pick (.t 229) (.c (.d (.v (.bool true)))) (.t 251), (some (225, true))⟩,
 ⟨(some 253), .pick (.t 225) (.t 252) (.c (.d (.v (.bool false)))), none⟩,
 ⟨(some 4), .mv (.t 253), none⟩])
 (.ret))) (.skip)))))))))))))
 (.seq (.reg [⟨(some 4), .mv (.c (.d (.v (.bool false)))), none⟩])
 (.ret)))))))
def r35 : List RC := [.t 4]

def c36l0 : AC :=
 .seq (.seq (.reg [⟨(some 73), .mv (.t 9), none⟩,
 ⟨(some 74), .mv (.t 7), none⟩,
 ⟨(some 75), .len false (.t 74), none⟩,
 ⟨(some 76), .bin .lss (.t 73) (.t 75), none⟩])
 (.cond (.t 76) (.skip) (.exit 3)))
 (.seq (.block 4 (.seq (.reg [⟨(some 79), .mv (.t 0), none⟩,
 ⟨(some 80), .mv (.t 7), none⟩,
 ⟨(some 81), .mv (.t 9), none⟩,
 ⟨(some 82), .ia (.t 80) (.t 81) 1, none⟩,
 ⟨(some 83), .ld (.t 82) 1 false, none⟩,
 ⟨(some 84), .mv (.t 2), none⟩,
 ⟨(some 85), .call 36 [(.t 79), (.t 83), (.t 84)], none⟩])
 (.cond (.t 85) (.seq (.reg [⟨(some 6), .mv (.c (.d (.v (.bool true)))), none⟩])
 (.ret)) (.skip))))
 (.reg [⟨(some 77), .mv (.t 9), none⟩,
 ⟨(some 78), .bin .add (.t 77) (.c (.d (.v (.int .i64 1)))), none⟩,
 ⟨(some 9), .mv (.t 78), none⟩]))

def c36l1 : AC :=
 .seq (.seq (.reg [⟨(some 51), .mv (.t 8), none⟩,
 ⟨(some 52), .mv (.t 0), none⟩,
 ⟨(some 53), .mv (.t 1), none⟩,
 ⟨(some 54), .ia (.t 52) (.t 53) 10, none⟩,
 ⟨(some 55), .fa (.t 54) 6, none⟩,
 ⟨(some 56), .ld (.t 55) 1 false, none⟩,
 ⟨(some 57), .len false (.t 56), none⟩,
 ⟨(some 58), .bin .lss (.t 51) (.t 57), none⟩])
 (.cond (.t 58) (.skip) (.exit 1)))
 (.seq (.block 2 (.reg [⟨(some 61), .mv (.t 7), none⟩,
 ⟨(some 62), .mv (.t 0), none⟩,
 ⟨(some 63), .mv (.t 1), none⟩,
 ⟨(some 64), .ia (.t 62) (.t 63) 10, none⟩,
 ⟨(some 65), .fa (.t 64) 6, none⟩,
 ⟨(some 66), .ld (.t 65) 1 false, none⟩,
 ⟨(some 67), .mv (.t 8), none⟩,
 ⟨(some 68), .ia (.t 66) (.t 67) 3, none⟩,
 ⟨(some 69), .fa (.t 68) 2, none⟩,
 ⟨(some 70), .ld (.t 69) 1 false, none⟩,
 ⟨(some 71), .bs .im 3 1 [(.t 70)], none⟩,
 ⟨(some 72), .app .gr 3 1 8 (.t 61) (.t 71), none⟩,
 ⟨(some 7), .mvg 3 1 (.t 72), none⟩]))
 (.reg [⟨(some 59), .mv (.t 8), none⟩,
 ⟨(some 60), .bin .add (.t 59) (.c (.d (.v (.int .i64 1)))), none⟩,
 ⟨(some 8), .mv (.t 60), none⟩]))

/-- spinet/spinetref13.round -/
def c36 : AC :=
 .seq (.reg [⟨(some 6), .mv (.c (.d (.v (.bool false)))), none⟩])
 (.seq (.seq (.reg [⟨(some 10), .mv (.t 2), none⟩,
 ⟨(some 11), .mv (.t 1), none⟩,
 ⟨(some 12), .ia (.t 10) (.t 11) 1, none⟩,
 ⟨(some 13), .ld (.t 12) 1 false, none⟩,
 ⟨(some 14), .bin .eql (.t 13) (.c (.d (.v (.int .i64 1)))), none⟩])
 (.cond (.t 14) (.seq (.reg [⟨(some 6), .mv (.c (.d (.v (.bool true)))), none⟩])
 (.ret)) (.skip)))
 (.seq (.seq (.reg [⟨(some 15), .mv (.t 2), none⟩,
 ⟨(some 16), .mv (.t 1), none⟩,
 ⟨(some 17), .ia (.t 15) (.t 16) 1, none⟩,
 ⟨(some 18), .ld (.t 17) 1 false, none⟩,
 ⟨(some 19), .bin .eql (.t 18) (.c (.d (.v (.int .i64 2)))), none⟩])
 (.cond (.t 19) (.seq (.reg [⟨(some 6), .mv (.c (.d (.v (.bool false)))), none⟩])
 (.ret)) (.skip)))
 (.seq (.reg [⟨(some 20), .mv (.t 2), none⟩,
 ⟨(some 21), .mv (.t 1), none⟩,
 ⟨(some 22), .ia (.t 20) (.t 21) 1, none⟩,
 ⟨none, .st (.t 22) (.c (.d (.v (.int .i64 1)))) 1, none⟩])
 (.seq (.reg [⟨(some 7), .mvg 3 1 (.c .esl), none⟩])
 (.seq (.seq (.reg [⟨(some 23), .mv (.t 0), none⟩,
 ⟨(some 24), .mv (.t 1), none⟩,
 ⟨(some 25), .ia (.t 23) (.t 24) 10, none⟩,
 ⟨(some 26), .fa (.t 25) 0, none⟩,
 ⟨(some 27), .ld (.t 26) 1 false, none⟩])
 (.block 0 (.seq (.seq (.reg [⟨(some 29), .bin .eql (.t 27) (.c (.d (.v (.int .i64 7)))), none⟩,
 ⟨(some 28), .mv (.t 29), none⟩])
 (.cond (.t 28) (.skip) (.reg [⟨(some 30), .bin .eql (.t 27) (.c (.d (.v (.int .i64 8)))), none⟩,
 ⟨(some 28), .mv (.t 30), none⟩])))
 (.cond (.t 28) (.reg [⟨(some 31), .mv (.t 0), none⟩,
 ⟨(some 32), .mv (.t 1), none⟩,
 ⟨(some 33), .ia (.t 31) (.t 32) 10, none⟩,
 ⟨(some 34), .fa (.t 33) 4, none⟩,
 ⟨(some 35), .ld (.t 34) 1 false, none⟩,
 ⟨(some 36), .bs .gr 3 1 [(.t 35)], none⟩,
 ⟨(some 7), .mvg 3 1 (.t 36), none⟩]) (.seq (.reg [⟨(some 38), .bin .eql (.t 27) (.c (.d (.v (.int .i64 9)))), none⟩,
 ⟨(some 37), .mv (.t 38), none⟩])
 (.cond (.t 37) (.seq (.seq (.reg [⟨(some 39), .mv (.t 0), none⟩,
 ⟨(some 40), .mv (.t 1), none⟩,
 ⟨(some 41), .ia (.t 39) (.t 40) 10, none⟩,
 ⟨(some 42), .fa (.t 41) 5, none⟩,
 ⟨(some 43), .ld (.t 42) 1 false, none⟩,
 ⟨(some 44), .bin .neq (.t 43) (.c (.d (.v (.int .i64 0)))), none⟩])
 (.cond (.t 44) (.reg [⟨(some 45), .mv (.t 0), none⟩,
 ⟨(some 46), .mv (.t 1), none⟩,
 ⟨(some 47), .ia (.t 45) (.t 46) 10, none⟩,
 ⟨(some 48), .fa (.t 47) 5, none⟩,
 ⟨(some 49), .ld (.t 48) 1 false, none⟩,
 ⟨(some 50), .bs .gr 3 1 [(.t 49)], none⟩,
 ⟨(some 7), .mvg 3 1 (.t 50), none⟩]) (.skip)))
 (.seq (.reg [⟨(some 8), .mv (.c (.d (.v (.int .i64 0)))), none⟩])
 (.block 1 (.loop c36l1)))) (.skip)))))))
 (.seq (.seq (.reg [⟨(some 9), .mv (.c (.d (.v (.int .i64 0)))), none⟩])
 (.block 3 (.loop c36l0)))
 (.seq (.reg [⟨(some 86), .mv (.t 2), none⟩,
 ⟨(some 87), .mv (.t 1), none⟩,
 ⟨(some 88), .ia (.t 86) (.t 87) 1, none⟩,
 ⟨none, .st (.t 88) (.c (.d (.v (.int .i64 2)))) 1, none⟩])
 (.seq (.reg [⟨(some 6), .mv (.c (.d (.v (.bool false)))), none⟩])
 (.ret)))))))))
def r36 : List RC := [.t 6]

/-- spinet/tables.bare -/
def c52 : AC :=
 .seq (.reg [⟨(some 2), .bx (.t 0), none⟩,
 ⟨(some 4), .mv (.c (.d (.v (.bool false)))), none⟩])
 (.seq (.reg [⟨(some 5), .fa (.t 2) 0, none⟩,
 ⟨(some 6), .ld (.t 5) 1 false, none⟩,
 ⟨(some 7), .mv (.t 1), none⟩,
 ⟨(some 8), .bin .eql (.t 6) (.t 7), none⟩,
 ⟨(some 9), .mv (.t 8), none⟩,
 ⟨(some 10), .fa (.t 2) 1, (some (9, true))⟩,
 ⟨(some 11), .ld (.t 10) 1 false, (some (9, true))⟩,
 ⟨(some 12), .bin .eql (.t 11) (.c (.d (.v (.string ⟨#[]⟩)))), (some (9, true))⟩,
 ⟨(some 13), .pick (.t 9) (.t 12) (.c (.d (.v (.bool false)))), none⟩,
 ⟨(some 14), .mv (.t 13), none⟩,
 ⟨(some 15), .fa (.t 2) 2, (some (14, true))⟩,
 ⟨(some 16), .ld (.t 15) 1 false, (some (14, true))⟩,
 ⟨(some 17), .bin .eql (.t 16) (.c (.d (.v (.string ⟨#[]⟩)))), (some (14, true))⟩,
 ⟨(some 18), .pick (.t 14) (.t 17) (.c (.d (.v (.bool false)))), none⟩,
 ⟨(some 19), .mv (.t 18), none⟩,
 ⟨(some 20), .fa (.t 2) 3, (some (19, true))⟩,
 ⟨(some 21), .ld (.t 20) 1 false, (some (19, true))⟩,
 ⟨(some 22), .bin .eql (.t 21) (.c (.d (.v (.int .i64 0)))), (some (19, true))⟩,
 ⟨(some 23), .pick (.t 19) (.t 22) (.c (.d (.v (.bool false)))), none⟩,
 ⟨(some 24), .mv (.t 23), none⟩,
 ⟨(some 25), .fa (.t 2) 4, (some (24, true))⟩,
 ⟨(some 26), .ld (.t 25) 1 false, (some (24, true))⟩,
 ⟨(some 27), .bin .eql (.t 26) (.c (.d (.v (.int .i64 0)))), (some (24, true))⟩,
 ⟨(some 28), .pick (.t 24) (.t 27) (.c (.d (.v (.bool false)))), none⟩,
 ⟨(some 29), .mv (.t 28), none⟩,
 ⟨(some 30), .fa (.t 2) 5, (some (29, true))⟩,
 ⟨(some 31), .ld (.t 30) 1 false, (some (29, true))⟩,
 ⟨(some 32), .bin .eql (.t 31) (.c (.d (.v (.int .i64 0)))), (some (29, true))⟩,
 ⟨(some 33), .pick (.t 29) (.t 32) (.c (.d (.v (.bool false)))), none⟩,
 ⟨(some 34), .mv (.t 33), none⟩,
 ⟨(some 35), .fa (.t 2) 8, (some (34, true))⟩,
 ⟨(some 36), .ld (.t 35) 1 false, (some (34, true))⟩,
 ⟨(some 37), .bin .eql (.t 36) (.c (.d (.v (.int .i64 0)))), (some (34, true))⟩,
 ⟨(some 38), .pick (.t 34) (.t 37) (.c (.d (.v (.bool false)))), none⟩,
 ⟨(some 39), .mv (.t 38), none⟩,
 ⟨(some 40), .fa (.t 2) 9, (some (39, true))⟩,
 ⟨(some 41), .ld (.t 40) 1 false, (some (39, true))⟩,
 ⟨(some 42), .bin .eql (.t 41) (.c (.d (.v (.int .i64 0)))), (some (39, true))⟩,
 ⟨(some 43), .pick (.t 39) (.t 42) (.c (.d (.v (.bool false)))), none⟩,
 ⟨(some 44), .mv (.t 43), none⟩,
 ⟨(some 45), .fa (.t 2) 6, (some (44, true))⟩,
 ⟨(some 46), .ld (.t 45) 1 false, (some (44, true))⟩,
 ⟨(some 47), .len false (.t 46), (some (44, true))⟩,
 ⟨(some 48), .bin .eql (.t 47) (.c (.d (.v (.int .i64 0)))), (some (44, true))⟩,
 ⟨(some 49), .pick (.t 44) (.t 48) (.c (.d (.v (.bool false)))), none⟩,
 ⟨(some 50), .mv (.t 49), none⟩,
 ⟨(some 51), .fa (.t 2) 7, (some (50, true))⟩,
 ⟨(some 52), .ld (.t 51) 1 false, (some (50, true))⟩,
 ⟨(some 53), .len false (.t 52), (some (50, true))⟩,
 ⟨(some 54), .bin .eql (.t 53) (.c (.d (.v (.int .i64 0)))), (some (50, true))⟩,
 ⟨(some 55), .pick (.t 50) (.t 54) (.c (.d (.v (.bool false)))), none⟩,
 ⟨(some 4), .mv (.t 55), none⟩])
 (.ret))
def r52 : List RC := [.t 4]

def c53l0 : AC :=
 .seq (.reg [⟨(some 155), .bin .lss (.t 154) (.t 153), none⟩])
 (.seq (.cond (.t 155) (.skip) (.exit 3))
 (.seq (.block 4 (.seq (.reg [⟨(some 156), .ia (.t 152) (.t 154) 2, none⟩,
 ⟨(some 157), .ld (.t 156) 2 true, none⟩,
 ⟨(some 11), .al [(.d (.v (.bool false))), (.d (.v (.int .i64 0)))], none⟩,
 ⟨none, .st (.t 11) (.t 157) 2, none⟩])
 (.reg [⟨(some 158), .mv (.t 7), none⟩,
 ⟨(some 159), .mv (.t 158), none⟩,
 ⟨(some 160), .mv (.t 5), (some (159, true))⟩,
 ⟨(some 161), .fa (.t 11) 1, (some (159, true))⟩,
 ⟨(some 162), .ld (.t 161) 1 false, (some (159, true))⟩,
 ⟨(some 163), .callv (.t 160) [(.t 162)], (some (159, true))⟩,
 ⟨(some 164), .call 68 [(.t 163)], (some (159, true))⟩,
 ⟨(some 165), .mv (.t 164), (some (159, true))⟩,
 ⟨(some 166), .mv (.t 5), (some (165, false))⟩,
 ⟨(some 167), .fa (.t 11) 1, (some (165, false))⟩,
 ⟨(some 168), .ld (.t 167) 1 false, (some (165, false))⟩,
 ⟨(some 169), .callv (.t 166) [(.t 168)], (some (165, false))⟩,
 ⟨(some 170), .bin .eql (.t 169) (.c (.d (.v (.int .i64 8)))), (some (165, false))⟩,
 ⟨(some 171), .pick (.t 165) (.c (.d (.v (.bool true)))) (.t 170), (some (159, true))⟩,
 ⟨(some 172), .pick (.t 159) (.t 171) (.c (.d (.v (.bool false)))), none⟩,
 ⟨(some 7), .mv (.t 172), none⟩])))
 (.reg [⟨(some 173), .bin .add (.t 154) (.c (.d (.v (.int .i64 1)))), none⟩,
 ⟨(some 154), .mv (.t 173), none⟩])))

def c53l1 : AC :=
 .seq (.reg [⟨(some 100), .bin .lss (.t 99) (.t 98), none⟩])
 (.seq (.cond (.t 100) (.skip) (.exit 1))
 (.seq (.block 2 (.seq (.reg [⟨(some 101), .ia (.t 97) (.t 99) 3, none⟩,
 ⟨(some 102), .ld (.t 101) 3 true, none⟩,
 ⟨(some 9), .al [(.d (.v (.string ⟨#[]⟩))), (.d (.v (.bool false))), (.d (.v (.int .i64 0)))], none⟩,
 ⟨none, .st (.t 9) (.t 102) 3, none⟩])
 (.reg [⟨(some 103), .mv (.t 7), none⟩,
 ⟨(some 104), .mv (.t 103), none⟩,
 ⟨(some 105), .fa (.t 9) 0, (some (104, true))⟩,
 ⟨(some 106), .ld (.t 105) 1 false, (some (104, true))⟩,
 ⟨(some 107), .call 69 [(.t 106)], (some (104, true))⟩,
 ⟨(some 108), .pick (.t 104) (.t 107) (.c (.d (.v (.bool false)))), none⟩,
 ⟨(some 109), .mv (.t 108), none⟩,
 ⟨(some 110), .mv (.t 5), (some (109, true))⟩,
 ⟨(some 111), .fa (.t 9) 2, (some (109, true))⟩,
 ⟨(some 112), .ld (.t 111) 1 false, (some (109, true))⟩,
 ⟨(some 113), .callv (.t 110) [(.t 112)], (some (109, true))⟩,
 ⟨(some 114), .call 68 [(.t 113)], (some (109, true))⟩,
 ⟨(some 115), .pick (.t 109) (.t 114) (.c (.d (.v (.bool false)))), none⟩,
 ⟨(some 7), .mv (.t 115), none⟩])))
 (.reg [⟨(some 116), .bin .add (.t 99) (.c (.d (.v (.int .i64 1)))), none⟩,
 ⟨(some 99), .mv (.t 116), none⟩])))

/-- spinet/tables.formed -/
def c53 : AC :=
 .seq (.reg [⟨(some 2), .bx (.t 0), none⟩,
 ⟨(some 3), .bx (.t 1), none⟩,
 ⟨(some 4), .mv (.c (.d (.v (.bool false)))), none⟩])
 (.seq (.reg [⟨(some 13), .mkf 67 [(.t 2)], none⟩,
 ⟨(some 5), .mv (.t 13), none⟩])
 (.seq (.reg [⟨(some 14), .fa (.t 3) 0, none⟩,
 ⟨(some 15), .ld (.t 14) 1 false, none⟩,
 ⟨(some 16), .bd [(.d (.v (.int .i64 0))), (.d (.v (.string ⟨#[]⟩))), (.d (.v (.string ⟨#[]⟩))), (.d (.v (.int .i64 0))), (.d (.v (.int .i64 0))), (.d (.v (.int .i64 0))), .esl, .esl, (.d (.v (.int .i64 0))), (.d (.v (.int .i64 0)))] [(0, 1, (.t 15))], none⟩,
 ⟨(some 6), .al [(.d (.v (.int .i64 0))), (.d (.v (.string ⟨#[]⟩))), (.d (.v (.string ⟨#[]⟩))), (.d (.v (.int .i64 0))), (.d (.v (.int .i64 0))), (.d (.v (.int .i64 0))), .esl, .esl, (.d (.v (.int .i64 0))), (.d (.v (.int .i64 0)))], none⟩,
 ⟨none, .st (.t 6) (.t 16) 10, none⟩])
 (.seq (.reg [⟨(some 7), .mv (.c (.d (.v (.bool false)))), none⟩])
 (.seq (.seq (.reg [⟨(some 17), .fa (.t 3) 0, none⟩,
 ⟨(some 18), .ld (.t 17) 1 false, none⟩])
 (.block 0 (.seq (.reg [⟨(some 20), .bin .eql (.t 18) (.c (.d (.v (.int .i64 7)))), none⟩,
 ⟨(some 19), .mv (.t 20), none⟩])
 (.cond (.t 19) (.seq (.dreg [[], [0], [], [2], [0, 1], [4, 1, 0, 1], [0, 1, 2, 3, 4, 5], [6, 3, 5, 0, 1, 2, 3, 4, 5]] [⟨(some 21), .fa (.t 3) 3, none⟩,
 ⟨(some 22), .ld (.t 21) 1 false, none⟩,
 ⟨(some 23), .fa (.t 3) 4, none⟩,
 ⟨(some 24), .ld (.t 23) 1 false, none⟩,
 ⟨(some 25), .fa (.t 6) 3, none⟩,
 ⟨none, .st (.t 25) (.t 22) 1, none⟩,
 ⟨(some 26), .fa (.t 6) 4, none⟩,
 ⟨none, .st (.t 26) (.t 24) 1, none⟩])
 (.reg [⟨(some 27), .fa (.t 3) 3, none⟩,
 ⟨(some 28), .ld (.t 27) 1 false, none⟩,
 ⟨(some 29), .bin .leq (.c (.d (.v (.int .i64 1)))) (.t 28), none⟩,
 ⟨(some 30), .mv (.t 29), none⟩,
 ⟨(some 31), .fa (.t 3) 3, (some (30, true))⟩,
 ⟨(some 32), .ld (.t 31) 1 false, (some (30, true))⟩,
 ⟨(some 33), .bin .leq (.t 32) (.c (.d (.v (.int .i64 4096)))), (some (30, true))⟩,
 ⟨(some 34), .pick (.t 30) (.t 33) (.c (.d (.v (.bool false)))), none⟩,
 ⟨(some 35), .mv (.t 34), none⟩,
 ⟨(some 36), .mv (.t 5), (some (35, true))⟩,
 ⟨(some 37), .fa (.t 3) 4, (some (35, true))⟩,
 ⟨(some 38), .ld (.t 37) 1 false, (some (35, true))⟩,
 ⟨(some 39), .callv (.t 36) [(.t 38)], (some (35, true))⟩,
 ⟨(some 40), .call 68 [(.t 39)], (some (35, true))⟩,
 ⟨(some 41), .pick (.t 35) (.t 40) (.c (.d (.v (.bool false)))), none⟩,
 ⟨(some 7), .mv (.t 41), none⟩])) (.seq (.reg [⟨(some 43), .bin .eql (.t 18) (.c (.d (.v (.int .i64 8)))), none⟩,
 ⟨(some 42), .mv (.t 43), none⟩])
 (.cond (.t 42) (.seq (.reg [⟨(some 44), .fa (.t 3) 4, none⟩,
 ⟨(some 45), .ld (.t 44) 1 false, none⟩,
 ⟨(some 46), .fa (.t 6) 4, none⟩,
 ⟨none, .st (.t 46) (.t 45) 1, none⟩])
 (.reg [⟨(some 47), .mv (.t 5), none⟩,
 ⟨(some 48), .fa (.t 3) 4, none⟩,
 ⟨(some 49), .ld (.t 48) 1 false, none⟩,
 ⟨(some 50), .callv (.t 47) [(.t 49)], none⟩,
 ⟨(some 51), .call 68 [(.t 50)], none⟩,
 ⟨(some 52), .mv (.t 51), none⟩,
 ⟨(some 53), .mv (.t 5), (some (52, false))⟩,
 ⟨(some 54), .fa (.t 3) 4, (some (52, false))⟩,
 ⟨(some 55), .ld (.t 54) 1 false, (some (52, false))⟩,
 ⟨(some 56), .callv (.t 53) [(.t 55)], (some (52, false))⟩,
 ⟨(some 57), .bin .eql (.t 56) (.c (.d (.v (.int .i64 8)))), (some (52, false))⟩,
 ⟨(some 58), .pick (.t 52) (.c (.d (.v (.bool true)))) (.t 57), none⟩,
 ⟨(some 7), .mv (.t 58), none⟩])) (.seq (.reg [⟨(some 60), .bin .eql (.t 18) (.c (.d (.v (.int .i64 9)))), none⟩,
 ⟨(some 59), .mv (.t 60), none⟩])
 (.cond (.t 59) (.seq (.dreg [[], [0], [], [2], [], [4], [0, 1], [6, 1, 0, 1], [0, 1, 2, 3, 6, 7], [8, 3, 7, 0, 1, 2, 3, 6, 7], [0, 1, 2, 3, 4, 5, 6, 7, 8, 9], [10, 5, 9, 0, 1, 2, 3, 4, 5, 6, 7, 8, 9]] [⟨(some 61), .fa (.t 3) 5, none⟩,
 ⟨(some 62), .ld (.t 61) 1 false, none⟩,
 ⟨(some 63), .fa (.t 3) 6, none⟩,
 ⟨(some 64), .ld (.t 63) 1 false, none⟩,
 ⟨(some 65), .fa (.t 3) 9, none⟩,
 ⟨(some 66), .ld (.t 65) 1 false, none⟩,
 ⟨(some 67), .fa (.t 6) 5, none⟩,
 ⟨none, .st (.t 67) (.t 62) 1, none⟩,
 ⟨(some 68), .fa (.t 6) 6, none⟩,
 ⟨none, .st (.t 68) (.t 64) 1, none⟩,
 ⟨(some 69), .fa (.t 6) 9, none⟩,
 ⟨none, .st (.t 69) (.t 66) 1, none⟩])
 (.seq (.reg [⟨(some 70), .fa (.t 3) 5, none⟩,
 ⟨(some 71), .ld (.t 70) 1 false, none⟩,
 ⟨(some 72), .bin .eql (.t 71) (.c (.d (.v (.int .i64 0)))), none⟩,
 ⟨(some 73), .mv (.t 72), none⟩,
 ⟨(some 74), .mv (.t 5), (some (73, false))⟩,
 ⟨(some 75), .fa (.t 3) 5, (some (73, false))⟩,
 ⟨(some 76), .ld (.t 75) 1 false, (some (73, false))⟩,
 ⟨(some 77), .callv (.t 74) [(.t 76)], (some (73, false))⟩,
 ⟨(some 78), .bin .eql (.t 77) (.c (.d (.v (.int .i64 9)))), (some (73, false))⟩,
 ⟨(some 79), .pick (.t 73) (.c (.d (.v (.bool true)))) (.t 78), none⟩,
 ⟨(some 80), .mv (.t 79), none⟩,
 ⟨(some 81), .fa (.t 3) 6, (some (80, true))⟩,
 ⟨(some 82), .ld (.t 81) 1 false, (some (80, true))⟩,
 ⟨(some 83), .len false (.t 82), (some (80, true))⟩,
 ⟨(some 84), .bin .leq (.t 83) (.c (.d (.v (.int .i64 64)))), (some (80, true))⟩,
 ⟨(some 85), .pick (.t 80) (.t 84) (.c (.d (.v (.bool false)))), none⟩,
 ⟨(some 86), .mv (.t 85), none⟩,
 ⟨(some 87), .fa (.t 3) 9, (some (86, true))⟩,
 ⟨(some 88), .ld (.t 87) 1 false, (some (86, true))⟩,
 ⟨(some 89), .bin .leq (.c (.d (.v (.int .i64 (-1))))) (.t 88), (some (86, true))⟩,
 ⟨(some 90), .pick (.t 86) (.t 89) (.c (.d (.v (.bool false)))), none⟩,
 ⟨(some 91), .mv (.t 90), none⟩,
 ⟨(some 92), .fa (.t 3) 9, (some (91, true))⟩,
 ⟨(some 93), .ld (.t 92) 1 false, (some (91, true))⟩,
 ⟨(some 94), .bin .lss (.t 93) (.c (.d (.v (.int .i64 64)))), (some (91, true))⟩,
 ⟨(some 95), .pick (.t 91) (.t 94) (.c (.d (.v (.bool false)))), none⟩,
 ⟨(some 7), .mv (.t 95), none⟩])
 (.seq (.reg [⟨(some 96), .fa (.t 3) 6, none⟩,
 ⟨(some 97), .ld (.t 96) 1 false, none⟩,
 ⟨(some 98), .len false (.t 97), none⟩,
 ⟨(some 99), .mv (.c (.d (.v (.int .i64 0)))), none⟩])
 (.block 1 (.loop c53l1))))) (.seq (.reg [⟨(some 118), .bin .eql (.t 18) (.c (.d (.v (.int .i64 10)))), none⟩,
 ⟨(some 117), .mv (.t 118), none⟩])
 (.cond (.t 117) (.seq (.reg [⟨(some 119), .fa (.t 3) 4, none⟩,
 ⟨(some 120), .ld (.t 119) 1 false, none⟩,
 ⟨(some 121), .fa (.t 6) 4, none⟩,
 ⟨none, .st (.t 121) (.t 120) 1, none⟩])
 (.reg [⟨(some 122), .mv (.t 5), none⟩,
 ⟨(some 123), .fa (.t 3) 4, none⟩,
 ⟨(some 124), .ld (.t 123) 1 false, none⟩,
 ⟨(some 125), .callv (.t 122) [(.t 124)], none⟩,
 ⟨(some 126), .bin .eql (.t 125) (.c (.d (.v (.int .i64 9)))), none⟩,
 ⟨(some 7), .mv (.t 126), none⟩])) (.seq (.reg [⟨(some 128), .bin .eql (.t 18) (.c (.d (.v (.int .i64 11)))), none⟩,
 ⟨(some 127), .mv (.t 128), none⟩])
 (.cond (.t 127) (.seq (.dreg [[], [0], [], [2], [0, 1], [4, 1, 0, 1], [0, 1, 2, 3, 4, 5], [6, 3, 5, 0, 1, 2, 3, 4, 5]] [⟨(some 129), .fa (.t 3) 7, none⟩,
 ⟨(some 130), .ld (.t 129) 1 false, none⟩,
 ⟨(some 131), .fa (.t 3) 8, none⟩,
 ⟨(some 132), .ld (.t 131) 1 false, none⟩,
 ⟨(some 133), .fa (.t 6) 7, none⟩,
 ⟨none, .st (.t 133) (.t 130) 1, none⟩,
 ⟨(some 134), .fa (.t 6) 8, none⟩,
 ⟨none, .st (.t 134) (.t 132) 1, none⟩])
 (.seq (.reg [⟨(some 135), .fa (.t 3) 7, none⟩,
 ⟨(some 136), .ld (.t 135) 1 false, none⟩,
 ⟨(some 137), .len false (.t 136), none⟩,
 ⟨(some 138), .bin .leq (.t 137) (.c (.d (.v (.int .i64 64)))), none⟩,
 ⟨(some 139), .mv (.t 138), none⟩,
 ⟨(some 140), .fa (.t 3) 8, (some (139, true))⟩,
 ⟨(some 141), .ld (.t 140) 1 false, (some (139, true))⟩,
 ⟨(some 142), .bin .eql (.t 141) (.c (.d (.v (.int .i64 0)))), (some (139, true))⟩,
 ⟨(some 143), .mv (.t 142), (some (139, true))⟩,
 ⟨(some 144), .mv (.t 5), (some (143, false))⟩,
 ⟨(some 145), .fa (.t 3) 8, (some (143, false))⟩,
 ⟨(some 146), .ld (.t 145) 1 false, (some (143, false))⟩,
 ⟨(some 147), .callv (.t 144) [(.t 146)], (some (143, false))⟩,
 ⟨(some 148), .call 70 [(.t 147)], (some (143, false))⟩,
 ⟨(some 149), .pick (.t 143) (.c (.d (.v (.bool true)))) (.t 148), (some (139, true))⟩,
 ⟨(some 150), .pick (.t 139) (.t 149) (.c (.d (.v (.bool false)))), none⟩,
 ⟨(some 7), .mv (.t 150), none⟩])
 (.seq (.reg [⟨(some 151), .fa (.t 3) 7, none⟩,
 ⟨(some 152), .ld (.t 151) 1 false, none⟩,
 ⟨(some 153), .len false (.t 152), none⟩,
 ⟨(some 154), .mv (.c (.d (.v (.int .i64 0)))), none⟩])
 (.block 3 (.loop c53l0))))) (.skip)))))))))))))
 (.seq (.reg [⟨(some 174), .fa (.t 3) 1, none⟩,
 ⟨(some 175), .ld (.t 174) 1 false, none⟩,
 ⟨(some 176), .bin .eql (.t 175) (.c (.d (.v (.string ⟨#[]⟩)))), none⟩,
 ⟨(some 177), .mv (.t 176), none⟩,
 ⟨(some 178), .fa (.t 3) 2, (some (177, true))⟩,
 ⟨(some 179), .ld (.t 178) 1 false, (some (177, true))⟩,
 ⟨(some 180), .bin .eql (.t 179) (.c (.d (.v (.string ⟨#[]⟩)))), (some (177, true))⟩,
 ⟨(some 181), .pick (.t 177) (.t 180) (.c (.d (.v (.bool false)))), none⟩,
 ⟨(some 182), .mv (.t 181), none⟩,
 ⟨(some 183), .fa (.t 3) 0, (some (182, true))⟩,
 ⟨(some 184), .ld (.t 183) 1 false, (some (182, true))⟩,
 ⟨(some 185), .bin .neq (.t 184) (.c (.d (.v (.int .i64 9)))), (some (182, true))⟩,
 ⟨(some 186), .pick (.t 182) (.t 185) (.c (.d (.v (.bool false)))), none⟩,
 ⟨(some 187), .mv (.t 186), none⟩,
 ⟨(some 188), .fa (.t 3) 1, (some (187, false))⟩,
 ⟨(some 189), .ld (.t 188) 1 false, (some (187, false))⟩,
 ⟨(some 190), .call 69 [(.t 189)], (some (187, false))⟩,
 ⟨(some 191), .mv (.t 190), (some (187, false))⟩,
 ⟨(some 192), .fa (.t 3) 2, (some (191, true))⟩,
 ⟨(some 193), .ld (.t 192) 1 false, (some (191, true))⟩,
 ⟨(some 194), .call 69 [(.t 193)], (some (191, true))⟩,
 ⟨(some 195), .mv (.t 194), (some (191, true))⟩,
 ⟨(some 196), .fa (.t 3) 2, (some (195, false))⟩,
 ⟨(some 197), .ld (.t 196) 1 false, (some (195, false))⟩,
 ⟨(some 198), .bin .eql (.t 197) (.c (.d (.v (.string ⟨#[]⟩)))), (some (195, false))⟩,
 ⟨(some 199), .mv (.t 198), (some (195, false))⟩,
 ⟨(some 200), .fa (.t 3) 0, (some (199, true))⟩,
 ⟨(some 201), .ld (.t 200) 1 false, (some (199, true))⟩,
 ⟨(some 202), .bin .eql (.t 201) (.c (.d (.v (.int .i64 9)))), (some (199, true))⟩,
 ⟨(some 203), .pick (.t 199) (.t 202) (.c (.d (.v (.bool false)))), (some (195, false))⟩,
 ⟨(some 204), .pick (.t 195) (.c (.d (.v (.bool true)))) (.t 203), (some (191, true))⟩,
 ⟨(some 205), .pick (.t 191) (.t 204) (.c (.d (.v (.bool false)))), (some (187, false))⟩,
 ⟨(some 206), .pick (.t 187) (.c (.d (.v (.bool true)))) (.t 205), none⟩,
 ⟨(some 12), .mv (.t 206), none⟩])
 (.seq (.reg [⟨(some 207), .mv (.t 7), none⟩,
 ⟨(some 208), .mv (.t 207), none⟩,
 ⟨(some 209), .mv (.t 12), (some (208, true))⟩,
 ⟨(some 210), .pick (.t 208) (.t 209) (.c (.d (.v (.bool false)))), none⟩,
 ⟨(some 211), .mv (.t 210), none⟩,
 ⟨(some 212), .fa (.t 3) 9, (some (211, true))⟩,
 ⟨(some 213), .ld (.t 212) 1 false, (some (211, true))⟩,
 ⟨(some 214), .fa (.t 6) 9, (some (211, true))⟩,
 ⟨(some 215), .ld (.t 214) 1 false, (some (211, true))⟩,
 ⟨(some 216), .bin .eql (.t 213) (.t 215), (some (211, true))⟩,
 ⟨(some 217), .pick (.t 211) (.t 216) (.c (.d (.v (.bool false)))), none⟩,
 ⟨(some 218), .mv (.t 217), none⟩,
 ⟨(some 219), .fa (.t 3) 3, (some (218, true))⟩,
 ⟨(some 220), .ld (.t 219) 1 false, (some (218, true))⟩,
 ⟨(some 221), .fa (.t 6) 3, (some (218, true))⟩,
 ⟨(some 222), .ld (.t 221) 1 false, (some (218, true))⟩,
 ⟨(some 223), .bin .eql (.t 220) (.t 222), (some (218, true))⟩,
 ⟨(some 224), .pick (.t 218) (.t 223) (.c (.d (.v (.bool false)))), none⟩,
 ⟨(some 225), .mv (.t 224), none⟩,
 ⟨(some 226), .fa (.t 3) 4, (some (225, true))⟩,
 ⟨(some 227), .ld (.t 226) 1 false, (some (225, true))⟩,
 ⟨(some 228), .fa (.t 6) 4, (some (225, true))⟩,
 ⟨(some 229), .ld (.t 228) 1 false, (some (225, true))⟩,
 ⟨(some 230), .bin .eql (.t 227) (.t 229), (some (225, true))⟩,
 ⟨(some 231), .pick (.t 225) (.t 230) (.c (.d (.v (.bool false)))), none⟩,
 ⟨(some 232), .mv (.t 231), none⟩,
 ⟨(some 233), .fa (.t 3) 5, (some (232, true))⟩,
 ⟨(some 234), .ld (.t 233) 1 false, (some (232, true))⟩,
 ⟨(some 235), .fa (.t 6) 5, (some (232, true))⟩,
 ⟨(some 236), .ld (.t 235) 1 false, (some (232, true))⟩,
 ⟨(some 237), .bin .eql (.t 234) (.t 236), (some (232, true))⟩,
 ⟨(some 238), .pick (.t 232) (.t 237) (.c (.d (.v (.bool false)))), none⟩,
 ⟨(some 239), .mv (.t 238), none⟩,
 ⟨(some 240), .fa (.t 3) 8, (some (239, true))⟩,
 ⟨(some 241), .ld (.t 240) 1 false, (some (239, true))⟩,
 ⟨(some 242), .fa (.t 6) 8, (some (239, true))⟩,
 ⟨(some 243), .ld (.t 242) 1 false, (some (239, true))⟩,
 ⟨(some 244), .bin .eql (.t 241) (.t 243), (some (239, true))⟩,
 ⟨(some 245), .pick (.t 239) (.t 244) (.c (.d (.v (.bool false)))), none⟩,
 ⟨(some 246), .mv (.t 245), none⟩,
 ⟨(some 247), .fa (.t 3) 6, (some (246, true))⟩,
 ⟨(some 248), .ld (.t 247) 1 false, (some (246, true))⟩,
 ⟨(some 249), .len false (.t 248), (some (246, true))⟩,
 ⟨(some 250), .fa (.t 6) 6, (some (246, true))⟩,
 ⟨(some 251), .ld (.t 250) 1 false, (some (246, true))⟩,
 ⟨(some 252), .len false (.t 251), (some (246, true))⟩,
 ⟨(some 253), .bin .eql (.t 249) (.t 252), (some (246, true))⟩,
 ⟨(some 254), .pick (.t 246) (.t 253) (.c (.d (.v (.bool false)))), none⟩,
 ⟨(some 255), .mv (.t 254), none⟩,
 ⟨(some 256), .fa (.t 3) 7, (some (255, true))⟩,
 ⟨(some 257), .ld (.t 256) 1 false, (some (255, true))⟩,
 ⟨(some 258), .len false (.t 257), (some (255, true))⟩,
 ⟨(some 259), .fa (.t 6) 7, (some (255, true))⟩,
 ⟨(some 260), .ld (.t 259) 1 false, (some (255, true))⟩,
 ⟨(some 261), .len false (.t 260), (some (255, true))⟩,
 ⟨(some 262), .bin .eql (.t 258) (.t 261), (some (255, true))⟩,
 ⟨(some 263), .pick (.t 255) (.t 262) (.c (.d (.v (.bool false)))), none⟩,
 ⟨(some 4), .mv (.t 263), none⟩])
 (.ret)))))))
def r53 : List RC := [.t 4]

def c54l0 : AC :=
 .seq (.reg [⟨(some 71), .bin .lss (.t 70) (.t 69), none⟩])
 (.seq (.cond (.t 71) (.skip) (.exit 3))
 (.seq (.block 4 (.seq (.reg [⟨(some 72), .ia (.t 68) (.t 70) 1, none⟩,
 ⟨(some 73), .ld (.t 72) 1 false, none⟩,
 ⟨(some 11), .mv (.t 73), none⟩])
 (.seq (.reg [⟨(some 74), .mv (.t 0), none⟩,
 ⟨(some 75), .mv (.t 11), none⟩,
 ⟨(some 76), .mv (.t 2), none⟩,
 ⟨(some 77), .call 54 [(.t 74), (.t 75), (.t 76)], none⟩,
 ⟨(some 78), .un .not (.t 77), none⟩])
 (.cond (.t 78) (.seq (.reg [⟨(some 6), .mv (.c (.d (.v (.bool false)))), none⟩])
 (.ret)) (.skip)))))
 (.reg [⟨(some 79), .bin .add (.t 70) (.c (.d (.v (.int .i64 1)))), none⟩,
 ⟨(some 70), .mv (.t 79), none⟩])))

def c54l1 : AC :=
 .seq (.reg [⟨(some 59), .bin .lss (.t 58) (.t 57), none⟩])
 (.seq (.cond (.t 59) (.skip) (.exit 1))
 (.seq (.block 2 (.seq (.reg [⟨(some 60), .ia (.t 56) (.t 58) 3, none⟩,
 ⟨(some 61), .ld (.t 60) 3 true, none⟩,
 ⟨(some 9), .al [(.d (.v (.string ⟨#[]⟩))), (.d (.v (.bool false))), (.d (.v (.int .i64 0)))], none⟩,
 ⟨none, .st (.t 9) (.t 61) 3, none⟩])
 (.reg [⟨(some 62), .mv (.t 7), none⟩,
 ⟨(some 63), .fa (.t 9) 2, none⟩,
 ⟨(some 64), .ld (.t 63) 1 false, none⟩,
 ⟨(some 65), .bs .im 3 1 [(.t 64)], none⟩,
 ⟨(some 66), .app .gr 3 1 8 (.t 62) (.t 65), none⟩,
 ⟨(some 7), .mv (.t 66), none⟩])))
 (.reg [⟨(some 67), .bin .add (.t 58) (.c (.d (.v (.int .i64 1)))), none⟩,
 ⟨(some 58), .mv (.t 67), none⟩])))

/-- spinet/tables.ends -/
def c54 : AC :=
 .seq (.reg [⟨(some 6), .mv (.c (.d (.v (.bool false)))), none⟩])
 (.seq (.seq (.reg [⟨(some 12), .mv (.t 2), none⟩,
 ⟨(some 13), .mv (.t 1), none⟩,
 ⟨(some 14), .ia (.t 12) (.t 13) 1, none⟩,
 ⟨(some 15), .ld (.t 14) 1 false, none⟩,
 ⟨(some 16), .bin .gtr (.t 15) (.c (.d (.v (.int .i64 0)))), none⟩])
 (.cond (.t 16) (.seq (.reg [⟨(some 17), .mv (.t 2), none⟩,
 ⟨(some 18), .mv (.t 1), none⟩,
 ⟨(some 19), .ia (.t 17) (.t 18) 1, none⟩,
 ⟨(some 20), .ld (.t 19) 1 false, none⟩,
 ⟨(some 21), .bin .eql (.t 20) (.c (.d (.v (.int .i64 2)))), none⟩,
 ⟨(some 6), .mv (.t 21), none⟩])
 (.ret)) (.skip)))
 (.seq (.reg [⟨(some 22), .mv (.t 2), none⟩,
 ⟨(some 23), .mv (.t 1), none⟩,
 ⟨(some 24), .ia (.t 22) (.t 23) 1, none⟩,
 ⟨none, .st (.t 24) (.c (.d (.v (.int .i64 1)))) 1, none⟩])
 (.seq (.reg [⟨(some 25), .bs .im 3 1 [], none⟩,
 ⟨(some 7), .mv (.t 25), none⟩])
 (.seq (.seq (.reg [⟨(some 26), .mv (.t 0), none⟩,
 ⟨(some 27), .mv (.t 1), none⟩,
 ⟨(some 28), .ia (.t 26) (.t 27) 10, none⟩,
 ⟨(some 29), .fa (.t 28) 0, none⟩,
 ⟨(some 30), .ld (.t 29) 1 false, none⟩])
 (.block 0 (.seq (.seq (.reg [⟨(some 32), .bin .eql (.t 30) (.c (.d (.v (.int .i64 7)))), none⟩,
 ⟨(some 31), .mv (.t 32), none⟩])
 (.cond (.t 31) (.skip) (.reg [⟨(some 33), .bin .eql (.t 30) (.c (.d (.v (.int .i64 8)))), none⟩,
 ⟨(some 31), .mv (.t 33), none⟩])))
 (.cond (.t 31) (.reg [⟨(some 34), .mv (.t 7), none⟩,
 ⟨(some 35), .mv (.t 0), none⟩,
 ⟨(some 36), .mv (.t 1), none⟩,
 ⟨(some 37), .ia (.t 35) (.t 36) 10, none⟩,
 ⟨(some 38), .fa (.t 37) 4, none⟩,
 ⟨(some 39), .ld (.t 38) 1 false, none⟩,
 ⟨(some 40), .bs .im 3 1 [(.t 39)], none⟩,
 ⟨(some 41), .app .gr 3 1 8 (.t 34) (.t 40), none⟩,
 ⟨(some 7), .mv (.t 41), none⟩]) (.seq (.reg [⟨(some 43), .bin .eql (.t 30) (.c (.d (.v (.int .i64 9)))), none⟩,
 ⟨(some 42), .mv (.t 43), none⟩])
 (.cond (.t 42) (.seq (.reg [⟨(some 44), .mv (.t 7), none⟩,
 ⟨(some 45), .mv (.t 0), none⟩,
 ⟨(some 46), .mv (.t 1), none⟩,
 ⟨(some 47), .ia (.t 45) (.t 46) 10, none⟩,
 ⟨(some 48), .fa (.t 47) 5, none⟩,
 ⟨(some 49), .ld (.t 48) 1 false, none⟩,
 ⟨(some 50), .bs .im 3 1 [(.t 49)], none⟩,
 ⟨(some 51), .app .gr 3 1 8 (.t 44) (.t 50), none⟩,
 ⟨(some 7), .mv (.t 51), none⟩])
 (.seq (.reg [⟨(some 52), .mv (.t 0), none⟩,
 ⟨(some 53), .mv (.t 1), none⟩,
 ⟨(some 54), .ia (.t 52) (.t 53) 10, none⟩,
 ⟨(some 55), .fa (.t 54) 6, none⟩,
 ⟨(some 56), .ld (.t 55) 1 false, none⟩,
 ⟨(some 57), .len false (.t 56), none⟩,
 ⟨(some 58), .mv (.c (.d (.v (.int .i64 0)))), none⟩])
 (.block 1 (.loop c54l1)))) (.skip)))))))
 (.seq (.seq (.reg [⟨(some 68), .mv (.t 7), none⟩,
 ⟨(some 69), .len false (.t 68), none⟩,
 ⟨(some 70), .mv (.c (.d (.v (.int .i64 0)))), none⟩])
 (.block 3 (.loop c54l0)))
 (.seq (.reg [⟨(some 80), .mv (.t 2), none⟩,
 ⟨(some 81), .mv (.t 1), none⟩,
 ⟨(some 82), .ia (.t 80) (.t 81) 1, none⟩,
 ⟨none, .st (.t 82) (.c (.d (.v (.int .i64 2)))) 1, none⟩])
 (.seq (.reg [⟨(some 6), .mv (.c (.d (.v (.bool true)))), none⟩])
 (.ret))))))))
def r54 : List RC := [.t 6]

/-- slices.ContainsFunc[[]spinet/api.Ty,spinet/api.Ty] -/
def c55 : AC :=
 .seq (.reg [⟨(some 4), .mv (.c (.d (.v (.bool false)))), none⟩])
 (.seq (.reg [⟨(some 5), .mv (.t 0), none⟩,
 ⟨(some 6), .mv (.t 1), none⟩,
 ⟨(some 7), .call 71 [(.t 5), (.t 6)], none⟩,
 ⟨(some 8), .bin .geq (.t 7) (.c (.d (.v (.int .i64 0)))), none⟩,
 ⟨(some 4), .mv (.t 8), none⟩])
 (.ret))
def r55 : List RC := [.t 4]

/-- spinet/tables.Good$1 -/
def c56 : AC :=
 .seq (.reg [⟨(some 2), .bx (.t 0), none⟩,
 ⟨(some 3), .mv (.c (.d (.v (.bool false)))), none⟩])
 (.seq (.reg [⟨(some 4), .fa (.t 2) 0, none⟩,
 ⟨(some 5), .ld (.t 4) 1 false, none⟩,
 ⟨(some 6), .bin .eql (.t 5) (.c (.d (.v (.int .i64 9)))), none⟩,
 ⟨(some 7), .mv (.t 6), none⟩,
 ⟨(some 8), .ld (.t 1) 1 false, (some (7, true))⟩,
 ⟨(some 9), .ld (.t 2) 10 true, (some (7, true))⟩,
 ⟨(some 10), .call 57 [(.t 8), (.t 9)], (some (7, true))⟩,
 ⟨(some 11), .un .not (.t 10), (some (7, true))⟩,
 ⟨(some 12), .pick (.t 7) (.t 11) (.c (.d (.v (.bool false)))), none⟩,
 ⟨(some 3), .mv (.t 12), none⟩])
 (.ret))
def r56 : List RC := [.t 3]

def c57l0 : AC :=
 .seq (.reg [⟨(some 18), .bin .lss (.t 17) (.t 16), none⟩])
 (.seq (.cond (.t 18) (.skip) (.exit 2))
 (.seq (.block 3 (.seq (.reg [⟨(some 19), .ia (.t 15) (.t 17) 3, none⟩,
 ⟨(some 20), .ld (.t 19) 3 true, none⟩,
 ⟨(some 8), .al [(.d (.v (.string ⟨#[]⟩))), (.d (.v (.bool false))), (.d (.v (.int .i64 0)))], none⟩,
 ⟨none, .st (.t 8) (.t 20) 3, none⟩])
 (.seq (.reg [⟨(some 21), .mv (.t 5), none⟩,
 ⟨(some 22), .fa (.t 8) 0, none⟩,
 ⟨(some 23), .ld (.t 22) 1 false, none⟩,
 ⟨(some 24), .lk ⟨false, [.s]⟩ (.d (.v (.int .i64 0))) (.t 21) (.t 23) false, none⟩,
 ⟨(some 25), .bin .add (.t 24) (.c (.d (.v (.int .i64 1)))), none⟩,
 ⟨none, .mu ⟨false, [.s]⟩ (.t 21) (.t 23) (.t 25), none⟩])
 (.seq (.reg [⟨(some 26), .mv (.t 5), none⟩,
 ⟨(some 27), .fa (.t 8) 0, none⟩,
 ⟨(some 28), .ld (.t 27) 1 false, none⟩,
 ⟨(some 29), .lk ⟨false, [.s]⟩ (.d (.v (.int .i64 0))) (.t 26) (.t 28) false, none⟩,
 ⟨(some 30), .bin .gtr (.t 29) (.c (.d (.v (.int .i64 1)))), none⟩])
 (.cond (.t 30) (.seq (.reg [⟨(some 4), .mv (.c (.d (.v (.bool false)))), none⟩])
 (.ret)) (.skip))))))
 (.reg [⟨(some 31), .bin .add (.t 17) (.c (.d (.v (.int .i64 1)))), none⟩,
 ⟨(some 17), .mv (.t 31), none⟩])))

def c57l1 : AC :=
 .seq (.block 1 (.seq (.seq (.reg [⟨(some 12), .mv (.t 6), none⟩,
 ⟨(some 13), .bin .gtr (.t 12) (.c (.d (.v (.int .i64 4)))), none⟩])
 (.cond (.t 13) (.seq (.reg [⟨(some 4), .mv (.c (.d (.v (.bool false)))), none⟩])
 (.ret)) (.skip)))
 (.seq (.seq (.reg [⟨(some 14), .fa (.t 3) 6, none⟩,
 ⟨(some 15), .ld (.t 14) 1 false, none⟩,
 ⟨(some 16), .len false (.t 15), none⟩,
 ⟨(some 17), .mv (.c (.d (.v (.int .i64 0)))), none⟩])
 (.block 2 (.loop c57l0)))
 (.seq (.seq (.reg [⟨(some 32), .fa (.t 3) 5, none⟩,
 ⟨(some 33), .ld (.t 32) 1 false, none⟩,
 ⟨(some 34), .bin .eql (.t 33) (.c (.d (.v (.int .i64 0)))), none⟩])
 (.cond (.t 34) (.seq (.reg [⟨(some 4), .mv (.c (.d (.v (.bool true)))), none⟩])
 (.ret)) (.skip)))
 (.reg [⟨(some 35), .mv (.t 0), none⟩,
 ⟨(some 36), .fa (.t 3) 5, none⟩,
 ⟨(some 37), .ld (.t 36) 1 false, none⟩,
 ⟨(some 38), .ia (.t 35) (.t 37) 10, none⟩,
 ⟨(some 39), .ld (.t 38) 10 true, none⟩,
 ⟨none, .st (.t 3) (.t 39) 10, none⟩])))))
 (.reg [⟨(some 10), .mv (.t 6), none⟩,
 ⟨(some 11), .bin .add (.t 10) (.c (.d (.v (.int .i64 1)))), none⟩,
 ⟨(some 6), .mv (.t 11), none⟩])

/-- spinet/tables.fielded -/
def c57 : AC :=
 .seq (.reg [⟨(some 3), .bx (.t 1), none⟩,
 ⟨(some 4), .mv (.c (.d (.v (.bool false)))), none⟩])
 (.seq (.reg [⟨(some 9), .mkm ⟨false, [.s]⟩, none⟩,
 ⟨(some 5), .mv (.t 9), none⟩])
 (.seq (.reg [⟨(some 6), .mv (.c (.d (.v (.int .i64 0)))), none⟩])
 (.block 0 (.loop c57l1))))
def r57 : List RC := [.t 4]

/-- spinet/spinetref13.word -/
def c58 : AC :=
 .seq (.reg [⟨(some 2), .mv (.c (.d (.v (.bool false)))), none⟩])
 (.seq (.reg [⟨(some 3), .mv (.t 0), none⟩,
 ⟨(some 4), .call 72 [(.t 3)], none⟩,
 ⟨(some 2), .mv (.t 4), none⟩])
 (.ret))
def r58 : List RC := [.t 2]

/-- spinet/spinetref13.holds -/
def c59 : AC :=
 .seq (.reg [⟨(some 4), .mv (.c (.d (.v (.bool false)))), none⟩])
 (.seq (.reg [⟨(some 5), .mv (.t 0), none⟩,
 ⟨(some 6), .mv (.t 1), none⟩,
 ⟨(some 7), .call 60 [(.t 5), (.t 6)], none⟩,
 ⟨(some 8), .mv (.t 7), none⟩,
 ⟨(some 9), .mv (.t 0), (some (8, true))⟩,
 ⟨(some 10), .mv (.t 1), (some (8, true))⟩,
 ⟨(some 11), .ia (.t 9) (.t 10) 10, (some (8, true))⟩,
 ⟨(some 12), .fa (.t 11) 0, (some (8, true))⟩,
 ⟨(some 13), .ld (.t 12) 1 false, (some (8, true))⟩,
 ⟨(some 14), .bin .neq (.t 13) (.c (.d (.v (.int .i64 0)))), (some (8, true))⟩,
 ⟨(some 15), .pick (.t 8) (.t 14) (.c (.d (.v (.bool false)))), none⟩,
 ⟨(some 16), .mv (.t 15), none⟩,
 ⟨(some 17), .mv (.t 0), (some (16, true))⟩,
 ⟨(some 18), .mv (.t 1), (some (16, true))⟩,
 ⟨(some 19), .ia (.t 17) (.t 18) 10, (some (16, true))⟩,
 ⟨(some 20), .fa (.t 19) 0, (some (16, true))⟩,
 ⟨(some 21), .ld (.t 20) 1 false, (some (16, true))⟩,
 ⟨(some 22), .bin .neq (.t 21) (.c (.d (.v (.int .i64 5)))), (some (16, true))⟩,
 ⟨(some 23), .pick (.t 16) (.t 22) (.c (.d (.v (.bool false)))), none⟩,
 ⟨(some 24), .mv (.t 23), none⟩,
 ⟨(some 25), .mv (.t 0), (some (24, true))⟩,
 ⟨(some 26), .mv (.t 1), (some (24, true))⟩,
 ⟨(some 27), .ia (.t 25) (.t 26) 10, (some (24, true))⟩,
 ⟨(some 28), .fa (.t 27) 0, (some (24, true))⟩,
 ⟨(some 29), .ld (.t 28) 1 false, (some (24, true))⟩,
 ⟨(some 30), .bin .neq (.t 29) (.c (.d (.v (.int .i64 6)))), (some (24, true))⟩,
 ⟨(some 31), .pick (.t 24) (.t 30) (.c (.d (.v (.bool false)))), none⟩,
 ⟨(some 32), .mv (.t 31), none⟩,
 ⟨(some 33), .mv (.t 0), (some (32, true))⟩,
 ⟨(some 34), .mv (.t 1), (some (32, true))⟩,
 ⟨(some 35), .ia (.t 33) (.t 34) 10, (some (32, true))⟩,
 ⟨(some 36), .fa (.t 35) 0, (some (32, true))⟩,
 ⟨(some 37), .ld (.t 36) 1 false, (some (32, true))⟩,
 ⟨(some 38), .bin .neq (.t 37) (.c (.d (.v (.int .i64 8)))), (some (32, true))⟩,
 ⟨(some 39), .pick (.t 32) (.t 38) (.c (.d (.v (.bool false)))), none⟩,
 ⟨(some 4), .mv (.t 39), none⟩])
 (.ret))
def r59 : List RC := [.t 4]

/-- spinet/spinetref13.place -/
def c60 : AC :=
 .seq (.reg [⟨(some 4), .mv (.c (.d (.v (.bool false)))), none⟩])
 (.seq (.reg [⟨(some 5), .mv (.t 1), none⟩,
 ⟨(some 6), .bin .geq (.t 5) (.c (.d (.v (.int .i64 0)))), none⟩,
 ⟨(some 7), .mv (.t 6), none⟩,
 ⟨(some 8), .mv (.t 1), (some (7, true))⟩,
 ⟨(some 9), .mv (.t 0), (some (7, true))⟩,
 ⟨(some 10), .len false (.t 9), (some (7, true))⟩,
 ⟨(some 11), .bin .lss (.t 8) (.t 10), (some (7, true))⟩,
 ⟨(some 12), .pick (.t 7) (.t 11) (.c (.d (.v (.bool false)))), none⟩,
 ⟨(some 4), .mv (.t 12), none⟩])
 (.ret))
def r60 : List RC := [.t 4]

def c61l0 : AC :=
 .seq (.seq (.reg [⟨(some 51), .mv (.t 10), none⟩,
 ⟨(some 52), .mv (.t 9), none⟩,
 ⟨(some 53), .len false (.t 52), none⟩,
 ⟨(some 54), .bin .lss (.t 51) (.t 53), none⟩])
 (.cond (.t 54) (.skip) (.exit 2)))
 (.seq (.block 3 (.seq (.seq (.reg [⟨(some 57), .mv (.t 7), none⟩,
 ⟨(some 58), .mv (.t 9), none⟩,
 ⟨(some 59), .mv (.t 10), none⟩,
 ⟨(some 60), .ia (.t 58) (.t 59) 3, none⟩,
 ⟨(some 61), .fa (.t 60) 0, none⟩,
 ⟨(some 62), .ld (.t 61) 1 false, none⟩,
 ⟨(some 63), .lk ⟨false, [.s]⟩ (.d (.v (.int .i64 0))) (.t 57) (.t 62) false, none⟩,
 ⟨(some 64), .bin .gtr (.t 63) (.c (.d (.v (.int .i64 0)))), none⟩,
 ⟨(some 65), .mv (.t 64), none⟩,
 ⟨(some 66), .mv (.t 9), (some (65, false))⟩,
 ⟨(some 67), .mv (.t 10), (some (65, false))⟩,
 ⟨(some 68), .ia (.t 66) (.t 67) 3, (some (65, false))⟩,
 ⟨(some 69), .fa (.t 68) 0, (some (65, false))⟩,
 ⟨(some 70), .ld (.t 69) 1 false, (some (65, false))⟩,
 ⟨(some 71), .call 58 [(.t 70)], (some (65, false))⟩,
 ⟨(some 72), .un .not (.t 71), (some (65, false))⟩,
 ⟨(some 73), .pick (.t 65) (.c (.d (.v (.bool true)))) (.t 72), none⟩,
 ⟨(some 74), .mv (.t 73), none⟩,
 ⟨(some 75), .mv (.t 0), (some (74, false))⟩,
 ⟨(some 76), .mv (.t 9), (some (74, false))⟩,
 ⟨(some 77), .mv (.t 10), (some (74, false))⟩,
 ⟨(some 78), .ia (.t 76) (.t 77) 3, (some (74, false))⟩,
 ⟨(some 79), .fa (.t 78) 2, (some (74, false))⟩,
 ⟨(some 80), .ld (.t 79) 1 false, (some (74, false))⟩,
 ⟨(some 81), .call 59 [(.t 75), (.t 80)], (some (74, false))⟩,
 ⟨(some 82), .un .not (.t 81), (some (74, false))⟩,
 ⟨(some 83), .pick (.t 74) (.c (.d (.v (.bool true)))) (.t 82), none⟩])
 (.cond (.t 83) (.seq (.reg [⟨(some 4), .mv (.c (.d (.v (.bool false)))), none⟩])
 (.ret)) (.skip)))
 (.reg [⟨(some 84), .mv (.t 7), none⟩,
 ⟨(some 85), .mv (.t 9), none⟩,
 ⟨(some 86), .mv (.t 10), none⟩,
 ⟨(some 87), .ia (.t 85) (.t 86) 3, none⟩,
 ⟨(some 88), .fa (.t 87) 0, none⟩,
 ⟨(some 89), .ld (.t 88) 1 false, none⟩,
 ⟨none, .mu ⟨false, [.s]⟩ (.t 84) (.t 89) (.c (.d (.v (.int .i64 1)))), none⟩])))
 (.reg [⟨(some 55), .mv (.t 10), none⟩,
 ⟨(some 56), .bin .add (.t 55) (.c (.d (.v (.int .i64 1)))), none⟩,
 ⟨(some 10), .mv (.t 56), none⟩]))

def c61l1 : AC :=
 .seq (.seq (.reg [⟨(some 34), .mv (.t 8), none⟩,
 ⟨(some 35), .mv (.t 5), none⟩,
 ⟨(some 36), .len false (.t 35), none⟩,
 ⟨(some 37), .bin .lss (.t 34) (.t 36), none⟩])
 (.cond (.t 37) (.skip) (.exit 0)))
 (.seq (.block 1 (.seq (.reg [⟨(some 40), .mv (.t 0), none⟩,
 ⟨(some 41), .mv (.t 5), none⟩,
 ⟨(some 42), .mv (.t 8), none⟩,
 ⟨(some 43), .ia (.t 41) (.t 42) 1, none⟩,
 ⟨(some 44), .ld (.t 43) 1 false, none⟩,
 ⟨(some 45), .ia (.t 40) (.t 44) 10, none⟩,
 ⟨(some 46), .fa (.t 45) 6, none⟩,
 ⟨(some 47), .ld (.t 46) 1 false, none⟩,
 ⟨(some 9), .mv (.t 47), none⟩])
 (.seq (.seq (.reg [⟨(some 48), .mv (.t 9), none⟩,
 ⟨(some 49), .len false (.t 48), none⟩,
 ⟨(some 50), .bin .gtr (.t 49) (.c (.d (.v (.int .i64 64)))), none⟩])
 (.cond (.t 50) (.seq (.reg [⟨(some 4), .mv (.c (.d (.v (.bool false)))), none⟩])
 (.ret)) (.skip)))
 (.seq (.reg [⟨(some 10), .mv (.c (.d (.v (.int .i64 0)))), none⟩])
 (.block 2 (.loop c61l0))))))
 (.reg [⟨(some 38), .mv (.t 8), none⟩,
 ⟨(some 39), .bin .add (.t 38) (.c (.d (.v (.int .i64 1)))), none⟩,
 ⟨(some 8), .mv (.t 39), none⟩]))

/-- spinet/spinetref13.record -/
def c61 : AC :=
 .seq (.reg [⟨(some 4), .mv (.c (.d (.v (.bool false)))), none⟩])
 (.seq (.reg [⟨(some 12), .mv (.t 0), none⟩,
 ⟨(some 13), .mv (.t 1), none⟩,
 ⟨(some 14), .call 73 [(.t 12), (.t 13)], none⟩,
 ⟨(some 11), .mv (.t 14), none⟩,
 ⟨(some 15), .ext (.t 11) 0, none⟩,
 ⟨(some 16), .ext (.t 11) 1, none⟩,
 ⟨(some 5), .mv (.t 15), none⟩,
 ⟨(some 6), .mv (.t 16), none⟩])
 (.seq (.seq (.reg [⟨(some 17), .mv (.t 6), none⟩,
 ⟨(some 18), .un .not (.t 17), none⟩,
 ⟨(some 19), .mv (.t 18), none⟩,
 ⟨(some 20), .mv (.t 5), (some (19, false))⟩,
 ⟨(some 21), .len false (.t 20), (some (19, false))⟩,
 ⟨(some 22), .bin .gtr (.t 21) (.c (.d (.v (.int .i64 5)))), (some (19, false))⟩,
 ⟨(some 23), .pick (.t 19) (.c (.d (.v (.bool true)))) (.t 22), none⟩,
 ⟨(some 24), .mv (.t 23), none⟩,
 ⟨(some 25), .mv (.t 0), (some (24, false))⟩,
 ⟨(some 26), .mv (.t 1), (some (24, false))⟩,
 ⟨(some 27), .ia (.t 25) (.t 26) 10, (some (24, false))⟩,
 ⟨(some 28), .fa (.t 27) 6, (some (24, false))⟩,
 ⟨(some 29), .ld (.t 28) 1 false, (some (24, false))⟩,
 ⟨(some 30), .len false (.t 29), (some (24, false))⟩,
 ⟨(some 31), .bin .gtr (.t 30) (.c (.d (.v (.int .i64 64)))), (some (24, false))⟩,
 ⟨(some 32), .pick (.t 24) (.c (.d (.v (.bool true)))) (.t 31), none⟩])
 (.cond (.t 32) (.seq (.reg [⟨(some 4), .mv (.c (.d (.v (.bool false)))), none⟩])
 (.ret)) (.skip)))
 (.seq (.reg [⟨(some 33), .mkm ⟨false, [.s]⟩, none⟩,
 ⟨(some 7), .mv (.t 33), none⟩])
 (.seq (.seq (.reg [⟨(some 8), .mv (.c (.d (.v (.int .i64 0)))), none⟩])
 (.block 0 (.loop c61l1)))
 (.seq (.reg [⟨(some 4), .mv (.c (.d (.v (.bool true)))), none⟩])
 (.ret))))))
def r61 : List RC := [.t 4]

/-- spinet/tables.formed$1 -/
def c67 : AC :=
 .seq (.reg [⟨(some 3), .mv (.c (.d (.v (.int .i64 0)))), none⟩])
 (.seq (.seq (.reg [⟨(some 4), .mv (.t 0), none⟩,
 ⟨(some 5), .bin .lss (.t 4) (.c (.d (.v (.int .i64 0)))), none⟩,
 ⟨(some 6), .mv (.t 5), none⟩,
 ⟨(some 7), .mv (.t 0), (some (6, false))⟩,
 ⟨(some 8), .ld (.t 1) 1 false, (some (6, false))⟩,
 ⟨(some 9), .len false (.t 8), (some (6, false))⟩,
 ⟨(some 10), .bin .geq (.t 7) (.t 9), (some (6, false))⟩,
 ⟨(some 11), .pick (.t 6) (.c (.d (.v (.bool true)))) (.t 10), none⟩])
 (.cond (.t 11) (.seq (.reg [⟨(some 3), .mv (.c (.d (.v (.int .i64 (-1))))), none⟩])
 (.ret)) (.skip)))
 (.seq (.reg [⟨(some 12), .ld (.t 1) 1 false, none⟩,
 ⟨(some 13), .mv (.t 0), none⟩,
 ⟨(some 14), .ia (.t 12) (.t 13) 10, none⟩,
 ⟨(some 15), .fa (.t 14) 0, none⟩,
 ⟨(some 16), .ld (.t 15) 1 false, none⟩,
 ⟨(some 3), .mv (.t 16), none⟩])
 (.ret)))
def r67 : List RC := [.t 3]

/-- spinet/tables.part -/
def c68 : AC :=
 .seq (.reg [⟨(some 2), .mv (.c (.d (.v (.bool false)))), none⟩])
 (.seq (.reg [⟨(some 3), .mv (.t 0), none⟩,
 ⟨(some 4), .bin .geq (.t 3) (.c (.d (.v (.int .i64 1)))), none⟩,
 ⟨(some 5), .mv (.t 4), none⟩,
 ⟨(some 6), .mv (.t 0), (some (5, true))⟩,
 ⟨(some 7), .bin .leq (.t 6) (.c (.d (.v (.int .i64 4)))), (some (5, true))⟩,
 ⟨(some 8), .pick (.t 5) (.t 7) (.c (.d (.v (.bool false)))), none⟩,
 ⟨(some 9), .mv (.t 8), none⟩,
 ⟨(some 10), .mv (.t 0), (some (9, false))⟩,
 ⟨(some 11), .bin .eql (.t 10) (.c (.d (.v (.int .i64 7)))), (some (9, false))⟩,
 ⟨(some 12), .pick (.t 9) (.c (.d (.v (.bool true)))) (.t 11), none⟩,
 ⟨(some 13), .mv (.t 12), none⟩,
 ⟨(some 14), .mv (.t 0), (some (13, false))⟩,
 ⟨(some 15), .bin .geq (.t 14) (.c (.d (.v (.int .i64 9)))), (some (13, false))⟩,
 ⟨(some 16), .mv (.t 15), (some (13, false))⟩,
 ⟨(some 17), .mv (.t 0), (some (16, true))⟩,
 ⟨(some 18), .bin .leq (.t 17) (.c (.d (.v (.int .i64 11)))), (some (16, true))⟩,
 ⟨(some 19), .pick (.t 16) (.t 18) (.c (.d (.v (.bool false)))), (some (13, false))⟩,
 ⟨(some 20), .pick (.t 13) (.c (.d (.v (.bool true)))) (.t 19), none⟩,
 ⟨(some 2), .mv (.t 20), none⟩])
 (.ret))
def r68 : List RC := [.t 2]

/-- spinet/tables.name -/
def c69 : AC :=
 .seq (.reg [⟨(some 2), .mv (.c (.d (.v (.bool false)))), none⟩])
 (.seq (.seq (.reg [⟨(some 3), .mv (.t 0), none⟩,
 ⟨(some 4), .bin .eql (.t 3) (.c (.d (.v (.string ⟨#[]⟩)))), none⟩,
 ⟨(some 5), .mv (.t 4), none⟩,
 ⟨(some 6), .mv (.t 0), (some (5, false))⟩,
 ⟨(some 7), .len true (.t 6), (some (5, false))⟩,
 ⟨(some 8), .bin .gtr (.t 7) (.c (.d (.v (.int .i64 24)))), (some (5, false))⟩,
 ⟨(some 9), .pick (.t 5) (.c (.d (.v (.bool true)))) (.t 8), none⟩,
 ⟨(some 10), .mv (.t 9), none⟩,
 ⟨(some 11), .mv (.t 0), (some (10, false))⟩,
 ⟨(some 12), .ix (.t 11) (.c (.d (.v (.int .i64 0)))), (some (10, false))⟩,
 ⟨(some 13), .bin .leq (.t 12) (.c (.d (.v (.int .u8 57)))), (some (10, false))⟩,
 ⟨(some 14), .pick (.t 10) (.c (.d (.v (.bool true)))) (.t 13), none⟩])
 (.cond (.t 14) (.seq (.reg [⟨(some 2), .mv (.c (.d (.v (.bool false)))), none⟩])
 (.ret)) (.skip)))
 (.seq (.reg [⟨(some 15), .mv (.t 0), none⟩,
 ⟨(some 16), .s2b .im 0 (.t 15), none⟩,
 ⟨(some 17), .call 76 [(.t 16), (.c (.fn 77 []))], none⟩,
 ⟨(some 18), .un .not (.t 17), none⟩,
 ⟨(some 2), .mv (.t 18), none⟩])
 (.ret)))
def r69 : List RC := [.t 2]

/-- spinet/tables.plain -/
def c70 : AC :=
 .seq (.reg [⟨(some 2), .mv (.c (.d (.v (.bool false)))), none⟩])
 (.seq (.reg [⟨(some 3), .mv (.t 0), none⟩,
 ⟨(some 4), .bin .geq (.t 3) (.c (.d (.v (.int .i64 1)))), none⟩,
 ⟨(some 5), .mv (.t 4), none⟩,
 ⟨(some 6), .mv (.t 0), (some (5, true))⟩,
 ⟨(some 7), .bin .leq (.t 6) (.c (.d (.v (.int .i64 4)))), (some (5, true))⟩,
 ⟨(some 8), .pick (.t 5) (.t 7) (.c (.d (.v (.bool false)))), none⟩,
 ⟨(some 9), .mv (.t 8), none⟩,
 ⟨(some 10), .mv (.t 0), (some (9, false))⟩,
 ⟨(some 11), .bin .eql (.t 10) (.c (.d (.v (.int .i64 10)))), (some (9, false))⟩,
 ⟨(some 12), .pick (.t 9) (.c (.d (.v (.bool true)))) (.t 11), none⟩,
 ⟨(some 13), .mv (.t 12), none⟩,
 ⟨(some 14), .mv (.t 0), (some (13, false))⟩,
 ⟨(some 15), .bin .eql (.t 14) (.c (.d (.v (.int .i64 11)))), (some (13, false))⟩,
 ⟨(some 16), .pick (.t 13) (.c (.d (.v (.bool true)))) (.t 15), none⟩,
 ⟨(some 2), .mv (.t 16), none⟩])
 (.ret))
def r70 : List RC := [.t 2]

def c71l0 : AC :=
 .seq (.reg [⟨(some 9), .bin .lss (.t 8) (.t 7), none⟩])
 (.seq (.cond (.t 9) (.skip) (.exit 0))
 (.seq (.block 1 (.seq (.reg [⟨(some 10), .mv (.t 8), none⟩,
 ⟨(some 5), .mv (.t 10), none⟩])
 (.seq (.reg [⟨(some 11), .mv (.t 1), none⟩,
 ⟨(some 12), .mv (.t 0), none⟩,
 ⟨(some 13), .mv (.t 5), none⟩,
 ⟨(some 14), .ia (.t 12) (.t 13) 10, none⟩,
 ⟨(some 15), .ld (.t 14) 10 true, none⟩,
 ⟨(some 16), .callv (.t 11) [(.t 15)], none⟩])
 (.cond (.t 16) (.seq (.reg [⟨(some 17), .mv (.t 5), none⟩,
 ⟨(some 4), .mv (.t 17), none⟩])
 (.ret)) (.skip)))))
 (.reg [⟨(some 18), .bin .add (.t 8) (.c (.d (.v (.int .i64 1)))), none⟩,
 ⟨(some 8), .mv (.t 18), none⟩])))

/-- slices.IndexFunc[[]spinet/api.Ty,spinet/api.Ty] -/
def c71 : AC :=
 .seq (.reg [⟨(some 4), .mv (.c (.d (.v (.int .i64 0)))), none⟩])
 (.seq (.seq (.reg [⟨(some 6), .mv (.t 0), none⟩,
 ⟨(some 7), .len false (.t 6), none⟩,
 ⟨(some 8), .mv (.c (.d (.v (.int .i64 0)))), none⟩])
 (.block 0 (.loop c71l0)))
 (.seq (.reg [⟨(some 4), .mv (.c (.d (.v (.int .i64 (-1))))), none⟩])
 (.ret)))
def r71 : List RC := [.t 4]

def c72l0 : AC :=
 .seq (.seq (.reg [⟨(some 18), .mv (.t 3), none⟩,
 ⟨(some 19), .mv (.t 0), none⟩,
 ⟨(some 20), .len true (.t 19), none⟩,
 ⟨(some 21), .bin .lss (.t 18) (.t 20), none⟩])
 (.cond (.t 21) (.skip) (.exit 0)))
 (.seq (.block 1 (.seq (.reg [⟨(some 24), .mv (.t 0), none⟩,
 ⟨(some 25), .mv (.t 3), none⟩,
 ⟨(some 26), .ix (.t 24) (.t 25), none⟩,
 ⟨(some 27), .call 78 [(.t 26)], none⟩,
 ⟨(some 28), .un .not (.t 27), none⟩,
 ⟨(some 29), .mv (.t 28), none⟩,
 ⟨(some 30), .mv (.t 0), (some (29, true))⟩,
 ⟨(some 31), .mv (.t 3), (some (29, true))⟩,
 ⟨(some 32), .ix (.t 30) (.t 31), (some (29, true))⟩,
 ⟨(some 33), .call 79 [(.t 32)], (some (29, true))⟩,
 ⟨(some 34), .un .not (.t 33), (some (29, true))⟩,
 ⟨(some 35), .pick (.t 29) (.t 34) (.c (.d (.v (.bool false)))), none⟩])
 (.cond (.t 35) (.seq (.reg [⟨(some 2), .mv (.c (.d (.v (.bool false)))), none⟩])
 (.ret)) (.skip))))
 (.reg [⟨(some 22), .mv (.t 3), none⟩,
 ⟨(some 23), .bin .add (.t 22) (.c (.d (.v (.int .i64 1)))), none⟩,
 ⟨(some 3), .mv (.t 23), none⟩]))

/-- spinet/spinetref09.Word -/
def c72 : AC :=
 .seq (.reg [⟨(some 2), .mv (.c (.d (.v (.bool false)))), none⟩])
 (.seq (.seq (.reg [⟨(some 4), .mv (.t 0), none⟩,
 ⟨(some 5), .len true (.t 4), none⟩,
 ⟨(some 6), .bin .lss (.t 5) (.c (.d (.v (.int .i64 1)))), none⟩,
 ⟨(some 7), .mv (.t 6), none⟩,
 ⟨(some 8), .mv (.t 0), (some (7, false))⟩,
 ⟨(some 9), .len true (.t 8), (some (7, false))⟩,
 ⟨(some 10), .bin .gtr (.t 9) (.c (.d (.v (.int .i64 24)))), (some (7, false))⟩,
 ⟨(some 11), .pick (.t 7) (.c (.d (.v (.bool true)))) (.t 10), none⟩,
 ⟨(some 12), .mv (.t 11), none⟩,
 ⟨(some 13), .mv (.t 0), (some (12, false))⟩,
 ⟨(some 14), .ix (.t 13) (.c (.d (.v (.int .i64 0)))), (some (12, false))⟩,
 ⟨(some 15), .call 78 [(.t 14)], (some (12, false))⟩,
 ⟨(some 16), .un .not (.t 15), (some (12, false))⟩,
 ⟨(some 17), .pick (.t 12) (.c (.d (.v (.bool true)))) (.t 16), none⟩])
 (.cond (.t 17) (.seq (.reg [⟨(some 2), .mv (.c (.d (.v (.bool false)))), none⟩])
 (.ret)) (.skip)))
 (.seq (.seq (.reg [⟨(some 3), .mv (.c (.d (.v (.int .i64 1)))), none⟩])
 (.block 0 (.loop c72l0)))
 (.seq (.reg [⟨(some 2), .mv (.c (.d (.v (.bool true)))), none⟩])
 (.ret))))
def r72 : List RC := [.t 2]

def c73l0 : AC :=
 .seq (.seq (.reg [⟨(some 9), .mv (.t 0), none⟩,
 ⟨(some 10), .mv (.t 1), none⟩,
 ⟨(some 11), .ia (.t 9) (.t 10) 10, none⟩,
 ⟨(some 12), .fa (.t 11) 5, none⟩,
 ⟨(some 13), .ld (.t 12) 1 false, none⟩,
 ⟨(some 14), .bin .neq (.t 13) (.c (.d (.v (.int .i64 0)))), none⟩])
 (.cond (.t 14) (.skip) (.exit 0)))
 (.block 1 (.seq (.reg [⟨(some 15), .mv (.t 0), none⟩,
 ⟨(some 16), .mv (.t 1), none⟩,
 ⟨(some 17), .ia (.t 15) (.t 16) 10, none⟩,
 ⟨(some 18), .fa (.t 17) 5, none⟩,
 ⟨(some 19), .ld (.t 18) 1 false, none⟩,
 ⟨(some 1), .mv (.t 19), none⟩])
 (.seq (.seq (.reg [⟨(some 20), .mv (.t 0), none⟩,
 ⟨(some 21), .mv (.t 1), none⟩,
 ⟨(some 22), .call 60 [(.t 20), (.t 21)], none⟩,
 ⟨(some 23), .un .not (.t 22), none⟩,
 ⟨(some 24), .mv (.t 23), none⟩,
 ⟨(some 25), .mv (.t 0), (some (24, false))⟩,
 ⟨(some 26), .mv (.t 1), (some (24, false))⟩,
 ⟨(some 27), .ia (.t 25) (.t 26) 10, (some (24, false))⟩,
 ⟨(some 28), .fa (.t 27) 0, (some (24, false))⟩,
 ⟨(some 29), .ld (.t 28) 1 false, (some (24, false))⟩,
 ⟨(some 30), .bin .neq (.t 29) (.c (.d (.v (.int .i64 9)))), (some (24, false))⟩,
 ⟨(some 31), .pick (.t 24) (.c (.d (.v (.bool true)))) (.t 30), none⟩,
 ⟨(some 32), .mv (.t 31), none⟩,
 ⟨(some 33), .mv (.t 6), (some (32, false))⟩,
 ⟨(some 34), .len false (.t 33), (some (32, false))⟩,
 ⟨(some 35), .bin .gtr (.t 34) (.c (.d (.v (.int .i64 5)))), (some (32, false))⟩,
 ⟨(some 36), .pick (.t 32) (.c (.d (.v (.bool true)))) (.t 35), none⟩])
 (.cond (.t 36) (.seq (.reg [⟨(some 4), .mv (.c .esl), none⟩,
 ⟨(some 5), .mv (.c (.d (.v (.bool false)))), none⟩])
 (.ret)) (.skip)))
 (.reg [⟨(some 37), .mv (.t 6), none⟩,
 ⟨(some 38), .mv (.t 1), none⟩,
 ⟨(some 39), .bs .im 3 1 [(.t 38)], none⟩,
 ⟨(some 40), .app .gr 3 1 8 (.t 37) (.t 39), none⟩,
 ⟨(some 6), .mv (.t 40), none⟩]))))

/-- spinet/spinetref13.bases -/
def c73 : AC :=
 .seq (.reg [⟨(some 4), .mv (.c .esl), none⟩,
 ⟨(some 5), .mv (.c (.d (.v (.bool false)))), none⟩])
 (.seq (.reg [⟨(some 7), .mv (.t 1), none⟩,
 ⟨(some 8), .bs .gr 3 1 [(.t 7)], none⟩,
 ⟨(some 6), .mv (.t 8), none⟩])
 (.seq (.block 0 (.loop c73l0))
 (.seq (.reg [⟨(some 41), .mv (.t 6), none⟩,
 ⟨(some 4), .mv (.t 41), none⟩,
 ⟨(some 5), .mv (.c (.d (.v (.bool true)))), none⟩])
 (.ret))))
def r73 : List RC := [.t 4, .t 5]

/-- slices.ContainsFunc[[]byte,byte] -/
def c76 : AC :=
 .seq (.reg [⟨(some 4), .mv (.c (.d (.v (.bool false)))), none⟩])
 (.seq (.reg [⟨(some 5), .mv (.t 0), none⟩,
 ⟨(some 6), .mv (.t 1), none⟩,
 ⟨(some 7), .call 80 [(.t 5), (.t 6)], none⟩,
 ⟨(some 8), .bin .geq (.t 7) (.c (.d (.v (.int .i64 0)))), none⟩,
 ⟨(some 4), .mv (.t 8), none⟩])
 (.ret))
def r76 : List RC := [.t 4]

/-- spinet/tables.name$1 -/
def c77 : AC :=
 .seq (.reg [⟨(some 2), .mv (.c (.d (.v (.bool false)))), none⟩])
 (.seq (.reg [⟨(some 3), .mv (.t 0), none⟩,
 ⟨(some 4), .bin .lss (.t 3) (.c (.d (.v (.int .u8 97)))), none⟩,
 ⟨(some 5), .mv (.t 4), none⟩,
 ⟨(some 6), .mv (.t 0), (some (5, false))⟩,
 ⟨(some 7), .bin .gtr (.t 6) (.c (.d (.v (.int .u8 122)))), (some (5, false))⟩,
 ⟨(some 8), .pick (.t 5) (.c (.d (.v (.bool true)))) (.t 7), none⟩,
 ⟨(some 9), .mv (.t 8), none⟩,
 ⟨(some 10), .mv (.t 0), (some (9, true))⟩,
 ⟨(some 11), .bin .lss (.t 10) (.c (.d (.v (.int .u8 65)))), (some (9, true))⟩,
 ⟨(some 12), .mv (.t 11), (some (9, true))⟩,
 ⟨(some 13), .mv (.t 0), (some (12, false))⟩,
 ⟨(some 14), .bin .gtr (.t 13) (.c (.d (.v (.int .u8 90)))), (some (12, false))⟩,
 ⟨(some 15), .pick (.t 12) (.c (.d (.v (.bool true)))) (.t 14), (some (9, true))⟩,
 ⟨(some 16), .pick (.t 9) (.t 15) (.c (.d (.v (.bool false)))), none⟩,
 ⟨(some 17), .mv (.t 16), none⟩,
 ⟨(some 18), .mv (.t 0), (some (17, true))⟩,
 ⟨(some 19), .bin .lss (.t 18) (.c (.d (.v (.int .u8 48)))), (some (17, true))⟩,
 ⟨(some 20), .mv (.t 19), (some (17, true))⟩,
 ⟨(some 21), .mv (.t 0), (some (20, false))⟩,
 ⟨(some 22), .bin .gtr (.t 21) (.c (.d (.v (.int .u8 57)))), (some (20, false))⟩,
 ⟨(some 23), .pick (.t 20) (.c (.d (.v (.bool true)))) (.t 22), (some (17, true))⟩,
 ⟨(some 24), .pick (.t 17) (.t 23) (.c (.d (.v (.bool false)))), none⟩,
 ⟨(some 2), .mv (.t 24), none⟩])
 (.ret))
def r77 : List RC := [.t 2]

/-- spinet/spinetref09.letter -/
def c78 : AC :=
 .seq (.reg [⟨(some 2), .mv (.c (.d (.v (.bool false)))), none⟩])
 (.seq (.reg [⟨(some 3), .mv (.t 0), none⟩,
 ⟨(some 4), .bin .geq (.t 3) (.c (.d (.v (.int .u8 97)))), none⟩,
 ⟨(some 5), .mv (.t 4), none⟩,
 ⟨(some 6), .mv (.t 0), (some (5, true))⟩,
 ⟨(some 7), .bin .leq (.t 6) (.c (.d (.v (.int .u8 122)))), (some (5, true))⟩,
 ⟨(some 8), .pick (.t 5) (.t 7) (.c (.d (.v (.bool false)))), none⟩,
 ⟨(some 9), .mv (.t 8), none⟩,
 ⟨(some 10), .mv (.t 0), (some (9, false))⟩,
 ⟨(some 11), .bin .geq (.t 10) (.c (.d (.v (.int .u8 65)))), (some (9, false))⟩,
 ⟨(some 12), .mv (.t 11), (some (9, false))⟩,
 ⟨(some 13), .mv (.t 0), (some (12, true))⟩,
 ⟨(some 14), .bin .leq (.t 13) (.c (.d (.v (.int .u8 90)))), (some (12, true))⟩,
 ⟨(some 15), .pick (.t 12) (.t 14) (.c (.d (.v (.bool false)))), (some (9, false))⟩,
 ⟨(some 16), .pick (.t 9) (.c (.d (.v (.bool true)))) (.t 15), none⟩,
 ⟨(some 2), .mv (.t 16), none⟩])
 (.ret))
def r78 : List RC := [.t 2]

/-- spinet/spinetref09.digit -/
def c79 : AC :=
 .seq (.reg [⟨(some 2), .mv (.c (.d (.v (.bool false)))), none⟩])
 (.seq (.reg [⟨(some 3), .mv (.t 0), none⟩,
 ⟨(some 4), .bin .geq (.t 3) (.c (.d (.v (.int .u8 48)))), none⟩,
 ⟨(some 5), .mv (.t 4), none⟩,
 ⟨(some 6), .mv (.t 0), (some (5, true))⟩,
 ⟨(some 7), .bin .leq (.t 6) (.c (.d (.v (.int .u8 57)))), (some (5, true))⟩,
 ⟨(some 8), .pick (.t 5) (.t 7) (.c (.d (.v (.bool false)))), none⟩,
 ⟨(some 2), .mv (.t 8), none⟩])
 (.ret))
def r79 : List RC := [.t 2]

def c80l0 : AC :=
 .seq (.reg [⟨(some 9), .bin .lss (.t 8) (.t 7), none⟩])
 (.seq (.cond (.t 9) (.skip) (.exit 0))
 (.seq (.block 1 (.seq (.reg [⟨(some 10), .mv (.t 8), none⟩,
 ⟨(some 5), .mv (.t 10), none⟩])
 (.seq (.reg [⟨(some 11), .mv (.t 1), none⟩,
 ⟨(some 12), .mv (.t 0), none⟩,
 ⟨(some 13), .mv (.t 5), none⟩,
 ⟨(some 14), .ia (.t 12) (.t 13) 1, none⟩,
 ⟨(some 15), .ld (.t 14) 1 false, none⟩,
 ⟨(some 16), .callv (.t 11) [(.t 15)], none⟩])
 (.cond (.t 16) (.seq (.reg [⟨(some 17), .mv (.t 5), none⟩,
 ⟨(some 4), .mv (.t 17), none⟩])
 (.ret)) (.skip)))))
 (.reg [⟨(some 18), .bin .add (.t 8) (.c (.d (.v (.int .i64 1)))), none⟩,
 ⟨(some 8), .mv (.t 18), none⟩])))

/-- slices.IndexFunc[[]byte,byte] -/
def c80 : AC :=
 .seq (.reg [⟨(some 4), .mv (.c (.d (.v (.int .i64 0)))), none⟩])
 (.seq (.seq (.reg [⟨(some 6), .mv (.t 0), none⟩,
 ⟨(some 7), .len false (.t 6), none⟩,
 ⟨(some 8), .mv (.c (.d (.v (.int .i64 0)))), none⟩])
 (.block 0 (.loop c80l0)))
 (.seq (.reg [⟨(some 4), .mv (.c (.d (.v (.int .i64 (-1))))), none⟩])
 (.ret)))
def r80 : List RC := [.t 4]

theorem cc12 : Try.f12.body.bind (comp Try.prog (hh 12)) = some c12 := by kernel_rfl
theorem rr12 : resC Try.prog Try.f12 = some r12 := by kernel_rfl
theorem cc14 : Try.f14.body.bind (comp Try.prog (hh 14)) = some c14 := by kernel_rfl
theorem rr14 : resC Try.prog Try.f14 = some r14 := by kernel_rfl
theorem cc15 : Try.f15.body.bind (comp Try.prog (hh 15)) = some c15 := by kernel_rfl
theorem rr15 : resC Try.prog Try.f15 = some r15 := by kernel_rfl
theorem cc16 : Try.f16.body.bind (comp Try.prog (hh 16)) = some c16 := by kernel_rfl
theorem rr16 : resC Try.prog Try.f16 = some r16 := by kernel_rfl
theorem cc17 : Try.f17.body.bind (comp Try.prog (hh 17)) = some c17 := by kernel_rfl
theorem rr17 : resC Try.prog Try.f17 = some r17 := by kernel_rfl
theorem cc18 : Try.f18.body.bind (comp Try.prog (hh 18)) = some c18 := by kernel_rfl
theorem rr18 : resC Try.prog Try.f18 = some r18 := by kernel_rfl
theorem cc19 : Try.f19.body.bind (comp Try.prog (hh 19)) = some c19 := by kernel_rfl
theorem rr19 : resC Try.prog Try.f19 = some r19 := by kernel_rfl
theorem cc33 : Try.f33.body.bind (comp Try.prog (hh 33)) = some c33 := by kernel_rfl
theorem rr33 : resC Try.prog Try.f33 = some r33 := by kernel_rfl
theorem cc34 : Try.f34.body.bind (comp Try.prog (hh 34)) = some c34 := by kernel_rfl
theorem rr34 : resC Try.prog Try.f34 = some r34 := by kernel_rfl
theorem cc35 : Try.f35.body.bind (comp Try.prog (hh 35)) = some c35 := by kernel_rfl
theorem rr35 : resC Try.prog Try.f35 = some r35 := by kernel_rfl
theorem cc36 : Try.f36.body.bind (comp Try.prog (hh 36)) = some c36 := by kernel_rfl
theorem rr36 : resC Try.prog Try.f36 = some r36 := by kernel_rfl
theorem cc52 : Try.f52.body.bind (comp Try.prog (hh 52)) = some c52 := by kernel_rfl
theorem rr52 : resC Try.prog Try.f52 = some r52 := by kernel_rfl
theorem cc53 : Try.f53.body.bind (comp Try.prog (hh 53)) = some c53 := by kernel_rfl
theorem rr53 : resC Try.prog Try.f53 = some r53 := by kernel_rfl
theorem cc54 : Try.f54.body.bind (comp Try.prog (hh 54)) = some c54 := by kernel_rfl
theorem rr54 : resC Try.prog Try.f54 = some r54 := by kernel_rfl
theorem cc55 : Try.f55.body.bind (comp Try.prog (hh 55)) = some c55 := by kernel_rfl
theorem rr55 : resC Try.prog Try.f55 = some r55 := by kernel_rfl
theorem cc56 : Try.f56.body.bind (comp Try.prog (hh 56)) = some c56 := by kernel_rfl
theorem rr56 : resC Try.prog Try.f56 = some r56 := by kernel_rfl
theorem cc57 : Try.f57.body.bind (comp Try.prog (hh 57)) = some c57 := by kernel_rfl
theorem rr57 : resC Try.prog Try.f57 = some r57 := by kernel_rfl
theorem cc58 : Try.f58.body.bind (comp Try.prog (hh 58)) = some c58 := by kernel_rfl
theorem rr58 : resC Try.prog Try.f58 = some r58 := by kernel_rfl
theorem cc59 : Try.f59.body.bind (comp Try.prog (hh 59)) = some c59 := by kernel_rfl
theorem rr59 : resC Try.prog Try.f59 = some r59 := by kernel_rfl
theorem cc60 : Try.f60.body.bind (comp Try.prog (hh 60)) = some c60 := by kernel_rfl
theorem rr60 : resC Try.prog Try.f60 = some r60 := by kernel_rfl
theorem cc61 : Try.f61.body.bind (comp Try.prog (hh 61)) = some c61 := by kernel_rfl
theorem rr61 : resC Try.prog Try.f61 = some r61 := by kernel_rfl
theorem cc67 : Try.f67.body.bind (comp Try.prog (hh 67)) = some c67 := by kernel_rfl
theorem rr67 : resC Try.prog Try.f67 = some r67 := by kernel_rfl
theorem cc68 : Try.f68.body.bind (comp Try.prog (hh 68)) = some c68 := by kernel_rfl
theorem rr68 : resC Try.prog Try.f68 = some r68 := by kernel_rfl
theorem cc69 : Try.f69.body.bind (comp Try.prog (hh 69)) = some c69 := by kernel_rfl
theorem rr69 : resC Try.prog Try.f69 = some r69 := by kernel_rfl
theorem cc70 : Try.f70.body.bind (comp Try.prog (hh 70)) = some c70 := by kernel_rfl
theorem rr70 : resC Try.prog Try.f70 = some r70 := by kernel_rfl
theorem cc71 : Try.f71.body.bind (comp Try.prog (hh 71)) = some c71 := by kernel_rfl
theorem rr71 : resC Try.prog Try.f71 = some r71 := by kernel_rfl
theorem cc72 : Try.f72.body.bind (comp Try.prog (hh 72)) = some c72 := by kernel_rfl
theorem rr72 : resC Try.prog Try.f72 = some r72 := by kernel_rfl
theorem cc73 : Try.f73.body.bind (comp Try.prog (hh 73)) = some c73 := by kernel_rfl
theorem rr73 : resC Try.prog Try.f73 = some r73 := by kernel_rfl
theorem cc76 : Try.f76.body.bind (comp Try.prog (hh 76)) = some c76 := by kernel_rfl
theorem rr76 : resC Try.prog Try.f76 = some r76 := by kernel_rfl
theorem cc77 : Try.f77.body.bind (comp Try.prog (hh 77)) = some c77 := by kernel_rfl
theorem rr77 : resC Try.prog Try.f77 = some r77 := by kernel_rfl
theorem cc78 : Try.f78.body.bind (comp Try.prog (hh 78)) = some c78 := by kernel_rfl
theorem rr78 : resC Try.prog Try.f78 = some r78 := by kernel_rfl
theorem cc79 : Try.f79.body.bind (comp Try.prog (hh 79)) = some c79 := by kernel_rfl
theorem rr79 : resC Try.prog Try.f79 = some r79 := by kernel_rfl
theorem cc80 : Try.f80.body.bind (comp Try.prog (hh 80)) = some c80 := by kernel_rfl
theorem rr80 : resC Try.prog Try.f80 = some r80 := by kernel_rfl
end Go.Proofs.Ytlhpcccffmfopaa
