/- The functions' code in the small language. Printed by program (wip/tools). -/
import Derived.Test.YtlhpcccffmfopaaWalk2
import Derived.Test.YtlhpcccffmfopaaProg
import Derived.KernelRfl
namespace Go.Proofs.Ytlhpcccffmfopaa
set_option linter.unusedVariables false
set_option linter.unusedSimpArgs false
set_option linter.unusedSectionVars false
open Go.RowKit
def hhS : Nat → Nat → Option Md := fun fn slot => if (fn, slot) ∈ [(36, 7), (36, 36), (36, 50), (73, 8), (14, 3), (18, 1), (19, 1)] then some .gr else if (fn, slot) ∈ [(14, 19), (14, 23), (9, 20)] then some .im else none

/-- spinet/spinetlaw13.TypesGoods -/
def c3 : AC :=
 .seq (.reg [⟨(some 2), .mv (.c (.d (.v (.bool false)))), none⟩])
 (.seq (.seq (.reg [⟨(some 4), .mv (.t 0), none⟩,
 ⟨(some 5), .call 12 [(.t 4)], none⟩])
 (.cond (.t 5) (.seq (.reg [⟨(some 6), .call 13 [], none⟩,
 ⟨(some 2), .mv (.t 6), none⟩])
 (.ret)) (.skip)))
 (.seq (.reg [⟨(some 7), .mv (.t 0), none⟩,
 ⟨(some 8), .call 14 [(.t 7)], none⟩,
 ⟨(some 3), .mv (.t 8), none⟩])
 (.seq (.reg [⟨(some 9), .mv (.t 3), none⟩,
 ⟨(some 10), .call 15 [(.t 9)], none⟩,
 ⟨(some 11), .mv (.t 0), none⟩,
 ⟨(some 12), .call 16 [(.t 11)], none⟩,
 ⟨(some 13), .eqs false (.t 10) (.t 12), none⟩,
 ⟨(some 14), .mv (.t 13), none⟩,
 ⟨(some 15), .mv (.t 3), (some (14, true))⟩,
 ⟨(some 16), .mv (.t 0), (some (14, true))⟩,
 ⟨(some 17), .call 17 [(.t 15), (.t 16)], (some (14, true))⟩,
 ⟨(some 18), .pick (.t 14) (.t 17) (.c (.d (.v (.bool false)))), none⟩,
 ⟨(some 19), .mv (.t 18), none⟩,
 ⟨(some 20), .call 18 [], (some (19, true))⟩,
 ⟨(some 21), .call 19 [], (some (19, true))⟩,
 ⟨(some 22), .call 17 [(.t 20), (.t 21)], (some (19, true))⟩,
 ⟨(some 23), .pick (.t 19) (.t 22) (.c (.d (.v (.bool false)))), none⟩,
 ⟨(some 24), .mv (.t 23), none⟩,
 ⟨(some 25), .call 13 [], (some (24, true))⟩,
 ⟨(some 26), .pick (.t 24) (.t 25) (.c (.d (.v (.bool false)))), none⟩,
 ⟨(some 2), .mv (.t 26), none⟩])
 (.ret))))
def r3 : List RC := [.t 2]

/-- spinet/spinetlaw13.TypesOrder -/
def c4 : AC :=
 .seq (.reg [⟨(some 6), .mv (.c (.d (.v (.bool false)))), none⟩])
 (.seq (.seq (.reg [⟨(some 8), .mv (.t 0), none⟩,
 ⟨(some 9), .call 12 [(.t 8)], none⟩,
 ⟨(some 10), .mv (.t 9), none⟩,
 ⟨(some 11), .mv (.t 0), (some (10, false))⟩,
 ⟨(some 12), .call 16 [(.t 11)], (some (10, false))⟩,
 ⟨(some 13), .un .not (.t 12), (some (10, false))⟩,
 ⟨(some 14), .pick (.t 10) (.c (.d (.v (.bool true)))) (.t 13), none⟩,
 ⟨(some 15), .mv (.t 14), none⟩,
 ⟨(some 16), .mv (.t 1), (some (15, false))⟩,
 ⟨(some 17), .bin .lss (.t 16) (.c (.d (.v (.int .i64 0)))), (some (15, false))⟩,
 ⟨(some 18), .pick (.t 15) (.c (.d (.v (.bool true)))) (.t 17), none⟩,
 ⟨(some 19), .mv (.t 18), none⟩,
 ⟨(some 20), .mv (.t 2), (some (19, false))⟩,
 ⟨(some 21), .bin .lss (.t 20) (.c (.d (.v (.int .i64 0)))), (some (19, false))⟩,
 ⟨(some 22), .pick (.t 19) (.c (.d (.v (.bool true)))) (.t 21), none⟩,
 ⟨(some 23), .mv (.t 22), none⟩,
 ⟨(some 24), .mv (.t 1), (some (23, false))⟩,
 ⟨(some 25), .mv (.t 0), (some (23, false))⟩,
 ⟨(some 26), .len false (.t 25), (some (23, false))⟩,
 ⟨(some 27), .bin .geq (.t 24) (.t 26), (some (23, false))⟩,
 ⟨(some 28), .pick (.t 23) (.c (.d (.v (.bool true)))) (.t 27), none⟩,
 ⟨(some 29), .mv (.t 28), none⟩,
 ⟨(some 30), .mv (.t 2), (some (29, false))⟩,
 ⟨(some 31), .mv (.t 0), (some (29, false))⟩,
 ⟨(some 32), .len false (.t 31), (some (29, false))⟩,
 ⟨(some 33), .bin .geq (.t 30) (.t 32), (some (29, false))⟩,
 ⟨(some 34), .pick (.t 29) (.c (.d (.v (.bool true)))) (.t 33), none⟩])
 (.cond (.t 34) (.seq (.reg [⟨(some 35), .call 13 [], none⟩,
 ⟨(some 6), .mv (.t 35), none⟩])
 (.ret)) (.skip)))
 (.seq (.reg [⟨(some 36), .mv (.t 0), none⟩,
 ⟨(some 37), .call 14 [(.t 36)], none⟩,
 ⟨(some 7), .mv (.t 37), none⟩])
 (.seq (.seq (.reg [⟨(some 38), .mv (.t 7), none⟩,
 ⟨(some 39), .mv (.t 1), none⟩,
 ⟨(some 40), .mv (.t 2), none⟩,
 ⟨(some 41), .call 20 [(.t 38), (.t 39), (.t 40)], none⟩,
 ⟨(some 42), .mv (.t 7), none⟩,
 ⟨(some 43), .mv (.t 2), none⟩,
 ⟨(some 44), .mv (.t 1), none⟩,
 ⟨(some 45), .call 20 [(.t 42), (.t 43), (.t 44)], none⟩,
 ⟨(some 46), .eqs true (.t 41) (.t 45), none⟩,
 ⟨(some 47), .mv (.t 46), none⟩,
 ⟨(some 48), .mv (.t 7), (some (47, false))⟩,
 ⟨(some 49), .mv (.t 1), (some (47, false))⟩,
 ⟨(some 50), .mv (.t 1), (some (47, false))⟩,
 ⟨(some 51), .call 20 [(.t 48), (.t 49), (.t 50)], (some (47, false))⟩,
 ⟨(some 52), .un .not (.t 51), (some (47, false))⟩,
 ⟨(some 53), .pick (.t 47) (.c (.d (.v (.bool true)))) (.t 52), none⟩])
 (.cond (.t 53) (.seq (.reg [⟨(some 6), .mv (.c (.d (.v (.bool false)))), none⟩])
 (.ret)) (.skip)))
 (.seq (.seq (.reg [⟨(some 54), .mv (.t 7), none⟩,
 ⟨(some 55), .mv (.t 1), none⟩,
 ⟨(some 56), .mv (.t 2), none⟩,
 ⟨(some 57), .call 21 [(.t 54), (.t 55), (.t 56)], none⟩])
 (.cond (.t 57) (.seq (.seq (.reg [⟨(some 58), .mv (.t 7), none⟩,
 ⟨(some 59), .mv (.t 1), none⟩,
 ⟨(some 60), .mv (.t 2), none⟩,
 ⟨(some 61), .call 22 [(.t 58), (.t 59), (.t 60)], none⟩,
 ⟨(some 62), .un .not (.t 61), none⟩,
 ⟨(some 63), .mv (.t 62), none⟩,
 ⟨(some 64), .mv (.t 7), (some (63, false))⟩,
 ⟨(some 65), .mv (.t 2), (some (63, false))⟩,
 ⟨(some 66), .mv (.t 1), (some (63, false))⟩,
 ⟨(some 67), .call 21 [(.t 64), (.t 65), (.t 66)], (some (63, false))⟩,
 ⟨(some 68), .mv (.t 7), (some (63, false))⟩,
 ⟨(some 69), .mv (.t 1), (some (63, false))⟩,
 ⟨(some 70), .mv (.t 2), (some (63, false))⟩,
 ⟨(some 71), .call 20 [(.t 68), (.t 69), (.t 70)], (some (63, false))⟩,
 ⟨(some 72), .eqs true (.t 67) (.t 71), (some (63, false))⟩,
 ⟨(some 73), .mv (.t 72), (some (63, false))⟩,
 ⟨(some 74), .mv (.t 0), (some (73, true))⟩,
 ⟨(some 75), .mv (.t 1), (some (73, true))⟩,
 ⟨(some 76), .ia (.t 74) (.t 75) 10, (some (73, true))⟩,
 ⟨(some 77), .fa (.t 76) 0, (some (73, true))⟩,
 ⟨(some 78), .ld (.t 77) 1 false, (some (73, true))⟩,
 ⟨(some 79), .bin .eql (.t 78) (.c (.d (.v (.int .i64 9)))), (some (73, true))⟩,
 ⟨(some 80), .pick (.t 73) (.t 79) (.c (.d (.v (.bool false)))), (some (63, false))⟩,
 ⟨(some 81), .pick (.t 63) (.c (.d (.v (.bool true)))) (.t 80), none⟩,
 ⟨(some 82), .mv (.t 81), none⟩,
 ⟨(some 83), .mv (.t 7), (some (82, false))⟩,
 ⟨(some 84), .mv (.t 1), (some (82, false))⟩,
 ⟨(some 85), .call 23 [(.t 83), (.t 84)], (some (82, false))⟩,
 ⟨(some 86), .mv (.t 7), (some (82, false))⟩,
 ⟨(some 87), .mv (.t 2), (some (82, false))⟩,
 ⟨(some 88), .call 23 [(.t 86), (.t 87)], (some (82, false))⟩,
 ⟨(some 89), .bin .lss (.t 85) (.t 88), (some (82, false))⟩,
 ⟨(some 90), .pick (.t 82) (.c (.d (.v (.bool true)))) (.t 89), none⟩])
 (.cond (.t 90) (.seq (.reg [⟨(some 6), .mv (.c (.d (.v (.bool false)))), none⟩])
 (.ret)) (.skip)))
 (.seq (.reg [⟨(some 91), .mv (.t 0), none⟩,
 ⟨(some 92), .mv (.t 2), none⟩,
 ⟨(some 93), .ia (.t 91) (.t 92) 10, none⟩,
 ⟨(some 94), .fa (.t 93) 0, none⟩,
 ⟨(some 95), .ld (.t 94) 1 false, none⟩,
 ⟨(some 96), .bin .eql (.t 95) (.c (.d (.v (.int .i64 9)))), none⟩,
 ⟨(some 97), .mv (.t 96), none⟩,
 ⟨(some 98), .mv (.t 0), (some (97, true))⟩,
 ⟨(some 99), .mv (.t 2), (some (97, true))⟩,
 ⟨(some 100), .ia (.t 98) (.t 99) 10, (some (97, true))⟩,
 ⟨(some 101), .fa (.t 100) 5, (some (97, true))⟩,
 ⟨(some 102), .ld (.t 101) 1 false, (some (97, true))⟩,
 ⟨(some 103), .bin .neq (.t 102) (.c (.d (.v (.int .i64 0)))), (some (97, true))⟩,
 ⟨(some 104), .pick (.t 97) (.t 103) (.c (.d (.v (.bool false)))), none⟩,
 ⟨(some 105), .mv (.t 104), none⟩,
 ⟨(some 106), .mv (.t 7), (some (105, true))⟩,
 ⟨(some 107), .mv (.t 1), (some (105, true))⟩,
 ⟨(some 108), .mv (.t 0), (some (105, true))⟩,
 ⟨(some 109), .mv (.t 2), (some (105, true))⟩,
 ⟨(some 110), .ia (.t 108) (.t 109) 10, (some (105, true))⟩,
 ⟨(some 111), .fa (.t 110) 5, (some (105, true))⟩,
 ⟨(some 112), .ld (.t 111) 1 false, (some (105, true))⟩,
 ⟨(some 113), .call 21 [(.t 106), (.t 107), (.t 112)], (some (105, true))⟩,
 ⟨(some 114), .un .not (.t 113), (some (105, true))⟩,
 ⟨(some 115), .pick (.t 105) (.t 114) (.c (.d (.v (.bool false)))), none⟩])
 (.cond (.t 115) (.seq (.reg [⟨(some 6), .mv (.c (.d (.v (.bool false)))), none⟩])
 (.ret)) (.skip)))) (.skip)))
 (.seq (.reg [⟨(some 116), .call 13 [], none⟩,
 ⟨(some 6), .mv (.t 116), none⟩])
 (.ret))))))
def r4 : List RC := [.t 6]

def c5l0 : AC :=
 .seq (.seq (.reg [⟨(some 113), .mv (.t 12), none⟩,
 ⟨(some 114), .mv (.t 9), none⟩,
 ⟨(some 115), .len false (.t 114), none⟩,
 ⟨(some 116), .bin .lss (.t 113) (.t 115), none⟩,
 ⟨(some 117), .mv (.t 116), none⟩,
 ⟨(some 118), .mv (.t 12), (some (117, true))⟩,
 ⟨(some 119), .bin .lss (.t 118) (.c (.d (.v (.int .i64 40)))), (some (117, true))⟩,
 ⟨(some 120), .pick (.t 117) (.t 119) (.c (.d (.v (.bool false)))), none⟩])
 (.cond (.t 120) (.skip) (.exit 0)))
 (.seq (.block 1 (.seq (.reg [⟨(some 123), .mv (.t 9), none⟩,
 ⟨(some 124), .mv (.t 12), none⟩,
 ⟨(some 125), .ld (.t 10) 2 true, none⟩,
 ⟨(some 126), .call 24 [(.t 123), (.t 124), (.t 125)], none⟩,
 ⟨(some 127), .mv (.t 126), none⟩,
 ⟨(some 128), .mv (.t 9), (some (127, true))⟩,
 ⟨(some 129), .mv (.t 12), (some (127, true))⟩,
 ⟨(some 130), .ld (.t 11) 2 true, (some (127, true))⟩,
 ⟨(some 131), .call 24 [(.t 128), (.t 129), (.t 130)], (some (127, true))⟩,
 ⟨(some 132), .un .not (.t 131), (some (127, true))⟩,
 ⟨(some 133), .pick (.t 127) (.t 132) (.c (.d (.v (.bool false)))), none⟩])
 (.cond (.t 133) (.seq (.reg [⟨(some 6), .mv (.c (.d (.v (.bool false)))), none⟩])
 (.ret)) (.skip))))
 (.reg [⟨(some 121), .mv (.t 12), none⟩,
 ⟨(some 122), .bin .add (.t 121) (.c (.d (.v (.int .i64 1)))), none⟩,
 ⟨(some 12), .mv (.t 122), none⟩]))

/-- spinet/spinetlaw13.TypesOpen -/
def c5 : AC :=
 .seq (.reg [⟨(some 6), .mv (.c (.d (.v (.bool false)))), none⟩])
 (.seq (.seq (.reg [⟨(some 13), .mv (.t 0), none⟩,
 ⟨(some 14), .call 12 [(.t 13)], none⟩,
 ⟨(some 15), .mv (.t 14), none⟩,
 ⟨(some 16), .mv (.t 0), (some (15, false))⟩,
 ⟨(some 17), .call 16 [(.t 16)], (some (15, false))⟩,
 ⟨(some 18), .un .not (.t 17), (some (15, false))⟩,
 ⟨(some 19), .pick (.t 15) (.c (.d (.v (.bool true)))) (.t 18), none⟩,
 ⟨(some 20), .mv (.t 19), none⟩,
 ⟨(some 21), .mv (.t 0), (some (20, false))⟩,
 ⟨(some 22), .len false (.t 21), (some (20, false))⟩,
 ⟨(some 23), .bin .gtr (.t 22) (.c (.d (.v (.int .i64 250)))), (some (20, false))⟩,
 ⟨(some 24), .pick (.t 20) (.c (.d (.v (.bool true)))) (.t 23), none⟩,
 ⟨(some 25), .mv (.t 24), none⟩,
 ⟨(some 26), .mv (.t 1), (some (25, false))⟩,
 ⟨(some 27), .bin .lss (.t 26) (.c (.d (.v (.int .i64 0)))), (some (25, false))⟩,
 ⟨(some 28), .pick (.t 25) (.c (.d (.v (.bool true)))) (.t 27), none⟩,
 ⟨(some 29), .mv (.t 28), none⟩,
 ⟨(some 30), .mv (.t 1), (some (29, false))⟩,
 ⟨(some 31), .mv (.t 0), (some (29, false))⟩,
 ⟨(some 32), .len false (.t 31), (some (29, false))⟩,
 ⟨(some 33), .bin .geq (.t 30) (.t 32), (some (29, false))⟩,
 ⟨(some 34), .pick (.t 29) (.c (.d (.v (.bool true)))) (.t 33), none⟩])
 (.cond (.t 34) (.seq (.reg [⟨(some 35), .call 13 [], none⟩,
 ⟨(some 6), .mv (.t 35), none⟩])
 (.ret)) (.skip)))
 (.seq (.reg [⟨(some 36), .mv (.t 0), none⟩,
 ⟨(some 37), .mv (.t 1), none⟩,
 ⟨(some 38), .ia (.t 36) (.t 37) 10, none⟩,
 ⟨(some 39), .fa (.t 38) 0, none⟩,
 ⟨(some 40), .ld (.t 39) 1 false, none⟩,
 ⟨(some 7), .mv (.t 40), none⟩])
 (.seq (.seq (.reg [⟨(some 41), .mv (.t 7), none⟩,
 ⟨(some 42), .bin .eql (.t 41) (.c (.d (.v (.int .i64 0)))), none⟩,
 ⟨(some 43), .mv (.t 42), none⟩,
 ⟨(some 44), .mv (.t 7), (some (43, false))⟩,
 ⟨(some 45), .bin .eql (.t 44) (.c (.d (.v (.int .i64 5)))), (some (43, false))⟩,
 ⟨(some 46), .pick (.t 43) (.c (.d (.v (.bool true)))) (.t 45), none⟩,
 ⟨(some 47), .mv (.t 46), none⟩,
 ⟨(some 48), .mv (.t 7), (some (47, false))⟩,
 ⟨(some 49), .bin .eql (.t 48) (.c (.d (.v (.int .i64 6)))), (some (47, false))⟩,
 ⟨(some 50), .pick (.t 47) (.c (.d (.v (.bool true)))) (.t 49), none⟩,
 ⟨(some 51), .mv (.t 50), none⟩,
 ⟨(some 52), .mv (.t 7), (some (51, false))⟩,
 ⟨(some 53), .bin .eql (.t 52) (.c (.d (.v (.int .i64 8)))), (some (51, false))⟩,
 ⟨(some 54), .pick (.t 51) (.c (.d (.v (.bool true)))) (.t 53), none⟩])
 (.cond (.t 54) (.seq (.reg [⟨(some 55), .call 13 [], none⟩,
 ⟨(some 6), .mv (.t 55), none⟩])
 (.ret)) (.skip)))
 (.seq (.reg [⟨(some 56), .mv (.t 0), none⟩,
 ⟨(some 57), .len false (.t 56), none⟩,
 ⟨(some 8), .mv (.t 57), none⟩])
 (.seq (.reg [⟨(some 58), .mv (.t 0), none⟩,
 ⟨(some 59), .call 14 [(.t 58)], none⟩,
 ⟨(some 60), .mv (.t 2), none⟩,
 ⟨(some 61), .cvi .u64 (.t 60), none⟩,
 ⟨(some 62), .bin .rem (.t 61) (.c (.d (.v (.int .u64 4096)))), none⟩,
 ⟨(some 63), .cvi .i64 (.t 62), none⟩,
 ⟨(some 64), .bin .add (.c (.d (.v (.int .i64 1)))) (.t 63), none⟩,
 ⟨(some 65), .mv (.t 1), none⟩,
 ⟨(some 66), .bd [(.d (.v (.int .i64 0))), (.d (.v (.string ⟨#[]⟩))), (.d (.v (.string ⟨#[]⟩))), (.d (.v (.int .i64 0))), (.d (.v (.int .i64 0))), (.d (.v (.int .i64 0))), .esl, .esl, (.d (.v (.int .i64 0))), (.d (.v (.int .i64 0)))] [(0, 1, (.c (.d (.v (.int .i64 7))))), (3, 1, (.t 64)), (4, 1, (.t 65))], none⟩,
 ⟨(some 67), .mv (.t 1), none⟩,
 ⟨(some 68), .bd [(.d (.v (.int .i64 0))), (.d (.v (.string ⟨#[]⟩))), (.d (.v (.string ⟨#[]⟩))), (.d (.v (.int .i64 0))), (.d (.v (.int .i64 0))), (.d (.v (.int .i64 0))), .esl, .esl, (.d (.v (.int .i64 0))), (.d (.v (.int .i64 0)))] [(0, 1, (.c (.d (.v (.int .i64 8))))), (4, 1, (.t 67))], none⟩,
 ⟨(some 69), .mv (.t 8), none⟩,
 ⟨(some 70), .bin .add (.t 69) (.c (.d (.v (.int .i64 1)))), none⟩,
 ⟨(some 71), .bd [(.d (.v (.int .i64 0))), (.d (.v (.string ⟨#[]⟩))), (.d (.v (.string ⟨#[]⟩))), (.d (.v (.int .i64 0))), (.d (.v (.int .i64 0))), (.d (.v (.int .i64 0))), .esl, .esl, (.d (.v (.int .i64 0))), (.d (.v (.int .i64 0)))] [(0, 1, (.c (.d (.v (.int .i64 8))))), (4, 1, (.t 70))], none⟩,
 ⟨(some 72), .bs .im 32 10 [(.t 66), (.t 68), (.t 71)], none⟩,
 ⟨(some 73), .app .gr 32 10 128 (.t 59) (.t 72), none⟩,
 ⟨(some 9), .mv (.t 73), none⟩])
 (.seq (.reg [⟨(some 74), .mv (.t 8), none⟩,
 ⟨(some 75), .bin .add (.t 74) (.c (.d (.v (.int .i64 1)))), none⟩,
 ⟨(some 76), .bd [(.d (.v (.bool false))), (.d (.v (.int .i64 0)))] [(0, 1, (.c (.d (.v (.bool true))))), (1, 1, (.t 75))], none⟩,
 ⟨(some 77), .mv (.t 8), none⟩,
 ⟨(some 78), .bin .add (.t 77) (.c (.d (.v (.int .i64 1)))), none⟩,
 ⟨(some 79), .bd [(.d (.v (.bool false))), (.d (.v (.int .i64 0)))] [(1, 1, (.t 78))], none⟩,
 ⟨(some 10), .al [(.d (.v (.bool false))), (.d (.v (.int .i64 0)))], none⟩,
 ⟨(some 11), .al [(.d (.v (.bool false))), (.d (.v (.int .i64 0)))], none⟩,
 ⟨none, .st (.t 10) (.t 76) 2, none⟩,
 ⟨none, .st (.t 11) (.t 79) 2, none⟩])
 (.seq (.seq (.reg [⟨(some 80), .mv (.t 9), none⟩,
 ⟨(some 81), .call 14 [(.t 80)], none⟩,
 ⟨(some 82), .call 15 [(.t 81)], none⟩,
 ⟨(some 83), .un .not (.t 82), none⟩,
 ⟨(some 84), .mv (.t 83), none⟩,
 ⟨(some 85), .mv (.t 9), (some (84, false))⟩,
 ⟨(some 86), .mv (.t 8), (some (84, false))⟩,
 ⟨(some 87), .ld (.t 10) 2 true, (some (84, false))⟩,
 ⟨(some 88), .call 24 [(.t 85), (.t 86), (.t 87)], (some (84, false))⟩,
 ⟨(some 89), .un .not (.t 88), (some (84, false))⟩,
 ⟨(some 90), .pick (.t 84) (.c (.d (.v (.bool true)))) (.t 89), none⟩,
 ⟨(some 91), .mv (.t 90), none⟩,
 ⟨(some 92), .mv (.t 9), (some (91, false))⟩,
 ⟨(some 93), .mv (.t 8), (some (91, false))⟩,
 ⟨(some 94), .ld (.t 11) 2 true, (some (91, false))⟩,
 ⟨(some 95), .call 24 [(.t 92), (.t 93), (.t 94)], (some (91, false))⟩,
 ⟨(some 96), .un .not (.t 95), (some (91, false))⟩,
 ⟨(some 97), .pick (.t 91) (.c (.d (.v (.bool true)))) (.t 96), none⟩,
 ⟨(some 98), .mv (.t 97), none⟩,
 ⟨(some 99), .mv (.t 9), (some (98, false))⟩,
 ⟨(some 100), .mv (.t 8), (some (98, false))⟩,
 ⟨(some 101), .mv (.t 8), (some (98, false))⟩,
 ⟨(some 102), .bin .add (.t 101) (.c (.d (.v (.int .i64 1)))), (some (98, false))⟩,
 ⟨(some 103), .call 22 [(.t 99), (.t 100), (.t 102)], (some (98, false))⟩,
 ⟨(some 104), .pick (.t 98) (.c (.d (.v (.bool true)))) (.t 103), none⟩,
 ⟨(some 105), .mv (.t 104), none⟩,
 ⟨(some 106), .mv (.t 9), (some (105, false))⟩,
 ⟨(some 107), .mv (.t 8), (some (105, false))⟩,
 ⟨(some 108), .bin .add (.t 107) (.c (.d (.v (.int .i64 1)))), (some (105, false))⟩,
 ⟨(some 109), .mv (.t 8), (some (105, false))⟩,
 ⟨(some 110), .call 22 [(.t 106), (.t 108), (.t 109)], (some (105, false))⟩,
 ⟨(some 111), .un .not (.t 110), (some (105, false))⟩,
 ⟨(some 112), .pick (.t 105) (.c (.d (.v (.bool true)))) (.t 111), none⟩])
 (.cond (.t 112) (.seq (.reg [⟨(some 6), .mv (.c (.d (.v (.bool false)))), none⟩])
 (.ret)) (.skip)))
 (.seq (.seq (.reg [⟨(some 12), .mv (.c (.d (.v (.int .i64 0)))), none⟩])
 (.block 0 (.loop c5l0)))
 (.seq (.reg [⟨(some 134), .mv (.t 9), none⟩,
 ⟨(some 135), .ld (.t 11) 2 true, none⟩,
 ⟨(some 136), .call 24 [(.t 134), (.c (.d (.v (.int .i64 6)))), (.t 135)], none⟩,
 ⟨(some 137), .mv (.t 7), none⟩,
 ⟨(some 138), .bin .eql (.t 137) (.c (.d (.v (.int .i64 3)))), none⟩,
 ⟨(some 139), .eqs false (.t 136) (.t 138), none⟩,
 ⟨(some 140), .mv (.t 139), none⟩,
 ⟨(some 141), .mv (.t 9), (some (140, true))⟩,
 ⟨(some 142), .ld (.t 10) 2 true, (some (140, true))⟩,
 ⟨(some 143), .call 24 [(.t 141), (.c (.d (.v (.int .i64 6)))), (.t 142)], (some (140, true))⟩,
 ⟨(some 144), .un .not (.t 143), (some (140, true))⟩,
 ⟨(some 145), .pick (.t 140) (.t 144) (.c (.d (.v (.bool false)))), none⟩,
 ⟨(some 146), .mv (.t 145), none⟩,
 ⟨(some 147), .call 13 [], (some (146, true))⟩,
 ⟨(some 148), .pick (.t 146) (.t 147) (.c (.d (.v (.bool false)))), none⟩,
 ⟨(some 6), .mv (.t 148), none⟩])
 (.ret))))))))))
def r5 : List RC := [.t 6]

/-- spinet/spinetlaw13.TypesRoom -/
def c6 : AC :=
 .seq (.reg [⟨(some 6), .mv (.c (.d (.v (.bool false)))), none⟩])
 (.seq (.seq (.reg [⟨(some 10), .mv (.t 0), none⟩,
 ⟨(some 11), .call 12 [(.t 10)], none⟩,
 ⟨(some 12), .mv (.t 11), none⟩,
 ⟨(some 13), .mv (.t 0), (some (12, false))⟩,
 ⟨(some 14), .call 16 [(.t 13)], (some (12, false))⟩,
 ⟨(some 15), .un .not (.t 14), (some (12, false))⟩,
 ⟨(some 16), .pick (.t 12) (.c (.d (.v (.bool true)))) (.t 15), none⟩,
 ⟨(some 17), .mv (.t 16), none⟩,
 ⟨(some 18), .mv (.t 0), (some (17, false))⟩,
 ⟨(some 19), .len false (.t 18), (some (17, false))⟩,
 ⟨(some 20), .bin .gtr (.t 19) (.c (.d (.v (.int .i64 250)))), (some (17, false))⟩,
 ⟨(some 21), .pick (.t 17) (.c (.d (.v (.bool true)))) (.t 20), none⟩])
 (.cond (.t 21) (.seq (.reg [⟨(some 22), .call 13 [], none⟩,
 ⟨(some 6), .mv (.t 22), none⟩])
 (.ret)) (.skip)))
 (.seq (.reg [⟨(some 23), .mv (.t 0), none⟩,
 ⟨(some 24), .call 14 [(.t 23)], none⟩,
 ⟨(some 25), .bd [(.d (.v (.int .i64 0))), (.d (.v (.string ⟨#[]⟩))), (.d (.v (.string ⟨#[]⟩))), (.d (.v (.int .i64 0))), (.d (.v (.int .i64 0))), (.d (.v (.int .i64 0))), .esl, .esl, (.d (.v (.int .i64 0))), (.d (.v (.int .i64 0)))] [(0, 1, (.c (.d (.v (.int .i64 7))))), (3, 1, (.c (.d (.v (.int .i64 2))))), (4, 1, (.c (.d (.v (.int .i64 1)))))], none⟩,
 ⟨(some 26), .bd [(.d (.v (.int .i64 0))), (.d (.v (.string ⟨#[]⟩))), (.d (.v (.string ⟨#[]⟩))), (.d (.v (.int .i64 0))), (.d (.v (.int .i64 0))), (.d (.v (.int .i64 0))), .esl, .esl, (.d (.v (.int .i64 0))), (.d (.v (.int .i64 0)))] [(0, 1, (.c (.d (.v (.int .i64 8))))), (4, 1, (.c (.d (.v (.int .i64 3)))))], none⟩,
 ⟨(some 27), .bs .im 32 10 [(.t 25), (.t 26)], none⟩,
 ⟨(some 28), .app .gr 32 10 128 (.t 24) (.t 27), none⟩,
 ⟨(some 7), .mv (.t 28), none⟩])
 (.seq (.reg [⟨(some 29), .mv (.t 0), none⟩,
 ⟨(some 30), .call 14 [(.t 29)], none⟩,
 ⟨(some 8), .mv (.t 30), none⟩])
 (.seq (.seq (.reg [⟨(some 31), .mv (.t 1), none⟩,
 ⟨(some 32), .bin .lss (.t 31) (.c (.d (.v (.int .i64 0)))), none⟩,
 ⟨(some 33), .mv (.t 32), none⟩,
 ⟨(some 34), .mv (.t 2), (some (33, false))⟩,
 ⟨(some 35), .bin .lss (.t 34) (.c (.d (.v (.int .i64 0)))), (some (33, false))⟩,
 ⟨(some 36), .pick (.t 33) (.c (.d (.v (.bool true)))) (.t 35), none⟩,
 ⟨(some 37), .mv (.t 36), none⟩,
 ⟨(some 38), .mv (.t 1), (some (37, false))⟩,
 ⟨(some 39), .mv (.t 0), (some (37, false))⟩,
 ⟨(some 40), .len false (.t 39), (some (37, false))⟩,
 ⟨(some 41), .bin .geq (.t 38) (.t 40), (some (37, false))⟩,
 ⟨(some 42), .pick (.t 37) (.c (.d (.v (.bool true)))) (.t 41), none⟩,
 ⟨(some 43), .mv (.t 42), none⟩,
 ⟨(some 44), .mv (.t 2), (some (43, false))⟩,
 ⟨(some 45), .mv (.t 0), (some (43, false))⟩,
 ⟨(some 46), .len false (.t 45), (some (43, false))⟩,
 ⟨(some 47), .bin .geq (.t 44) (.t 46), (some (43, false))⟩,
 ⟨(some 48), .pick (.t 43) (.c (.d (.v (.bool true)))) (.t 47), none⟩])
 (.cond (.t 48) (.seq (.reg [⟨(some 49), .mv (.t 8), none⟩,
 ⟨(some 50), .mv (.t 1), none⟩,
 ⟨(some 51), .mv (.t 2), none⟩,
 ⟨(some 52), .call 20 [(.t 49), (.t 50), (.t 51)], none⟩,
 ⟨(some 53), .un .not (.t 52), none⟩,
 ⟨(some 54), .mv (.t 53), none⟩,
 ⟨(some 55), .mv (.t 8), (some (54, true))⟩,
 ⟨(some 56), .mv (.t 1), (some (54, true))⟩,
 ⟨(some 57), .mv (.t 2), (some (54, true))⟩,
 ⟨(some 58), .call 21 [(.t 55), (.t 56), (.t 57)], (some (54, true))⟩,
 ⟨(some 59), .un .not (.t 58), (some (54, true))⟩,
 ⟨(some 60), .pick (.t 54) (.t 59) (.c (.d (.v (.bool false)))), none⟩,
 ⟨(some 61), .mv (.t 60), none⟩,
 ⟨(some 62), .mv (.t 8), (some (61, true))⟩,
 ⟨(some 63), .mv (.t 1), (some (61, true))⟩,
 ⟨(some 64), .mv (.t 2), (some (61, true))⟩,
 ⟨(some 65), .call 22 [(.t 62), (.t 63), (.t 64)], (some (61, true))⟩,
 ⟨(some 66), .un .not (.t 65), (some (61, true))⟩,
 ⟨(some 67), .pick (.t 61) (.t 66) (.c (.d (.v (.bool false)))), none⟩,
 ⟨(some 68), .mv (.t 67), none⟩,
 ⟨(some 69), .call 13 [], (some (68, true))⟩,
 ⟨(some 70), .pick (.t 68) (.t 69) (.c (.d (.v (.bool false)))), none⟩,
 ⟨(some 6), .mv (.t 70), none⟩])
 (.ret)) (.skip)))
 (.seq (.reg [⟨(some 71), .mv (.t 2), none⟩,
 ⟨(some 72), .mv (.t 1), none⟩,
 ⟨(some 73), .bin .rem (.t 72) (.c (.d (.v (.int .i64 2)))), none⟩,
 ⟨(some 74), .bin .eql (.t 73) (.c (.d (.v (.int .i64 0)))), none⟩,
 ⟨(some 75), .bd [(.d (.v (.bool false))), (.d (.v (.int .i64 0)))] [(1, 1, (.t 71)), (0, 1, (.t 74))], none⟩,
 ⟨(some 9), .al [(.d (.v (.bool false))), (.d (.v (.int .i64 0)))], none⟩,
 ⟨none, .st (.t 9) (.t 75) 2, none⟩])
 (.seq (.dreg [[], [0], [1, 1], [2], [2], [2], [3, 4, 5, 2, 2], [2], [2], [2], [7, 8, 9, 6, 2], [6, 10, 2], [2, 11], [12, 10], [13], [13], [13], [14, 15, 16, 13, 13], [13], [13], [13], [18, 19, 20, 17, 13], [17, 21, 13], [13, 22], [23, 21], [24], [24], [24], [25, 26, 27, 24, 24], [24], [24], [24], [29, 30, 31, 28, 24], [28, 32, 24], [24, 33], [34, 32], [35], [35], [35], [36, 37, 38, 35, 35], [35], [35], [35], [40, 41, 42, 39, 35], [39, 43, 35], [35, 44], [45, 43], [46, 46], [46, 47], [48, 47, 0, 1, 2, 3, 4, 5, 6, 7, 8, 9, 10, 11, 12, 13, 14, 15, 16, 17, 18, 19, 20, 21, 22, 23, 24, 25, 26, 27, 28, 29, 30, 31, 32, 33, 34, 35, 36, 37, 38, 39, 40, 41, 42, 43, 44, 45, 46, 47, 48]] [⟨(some 76), .mv (.t 7), none⟩,
 ⟨(some 77), .call 15 [(.t 76)], none⟩,
 ⟨(some 78), .mv (.t 77), none⟩,
 ⟨(some 79), .mv (.t 7), (some (78, true))⟩,
 ⟨(some 80), .mv (.t 1), (some (78, true))⟩,
 ⟨(some 81), .mv (.t 2), (some (78, true))⟩,
 ⟨(some 82), .call 20 [(.t 79), (.t 80), (.t 81)], (some (78, true))⟩,
 ⟨(some 83), .mv (.t 8), (some (78, true))⟩,
 ⟨(some 84), .mv (.t 1), (some (78, true))⟩,
 ⟨(some 85), .mv (.t 2), (some (78, true))⟩,
 ⟨(some 86), .call 20 [(.t 83), (.t 84), (.t 85)], (some (78, true))⟩,
 ⟨(some 87), .eqs false (.t 82) (.t 86), (some (78, true))⟩,
 ⟨(some 88), .pick (.t 78) (.t 87) (.c (.d (.v (.bool false)))), none⟩,
 ⟨(some 89), .mv (.t 88), none⟩,
 ⟨(some 90), .mv (.t 7), (some (89, true))⟩,
 ⟨(some 91), .mv (.t 1), (some (89, true))⟩,
 ⟨(some 92), .mv (.t 2), (some (89, true))⟩,
 ⟨(some 93), .call 21 [(.t 90), (.t 91), (.t 92)], (some (89, true))⟩,
 ⟨(some 94), .mv (.t 8), (some (89, true))⟩,
 ⟨(some 95), .mv (.t 1), (some (89, true))⟩,
 ⟨(some 96), .mv (.t 2), (some (89, true))⟩,
 ⟨(some 97), .call 21 [(.t 94), (.t 95), (.t 96)], (some (89, true))⟩,
 ⟨(some 98), .eqs false (.t 93) (.t 97), (some (89, true))⟩,
 ⟨(some 99), .pick (.t 89) (.t 98) (.c (.d (.v (.bool false)))), none⟩,
 ⟨(some 100), .mv (.t 99), none⟩,
 ⟨(some 101), .mv (.t 7), (some (100, true))⟩,
 ⟨(some 102), .mv (.t 1), (some (100, true))⟩,
 ⟨(some 103), .mv (.t 2), (some (100, true))⟩,
 ⟨(some 104), .call 22 [(.t 101), (.t 102), (.t 103)], (some (100, true))⟩,
 ⟨(some 105), .mv (.t 8), (some (100, true))⟩,
 ⟨(some 106), .mv (.t 1), (some (100, true))⟩,
 ⟨(some 107), .mv (.t 2), (some (100, true))⟩,
 ⟨(some 108), .call 22 [(.t 105), (.t 106), (.t 107)], (some (100, true))⟩,
 ⟨(some 109), .eqs false (.t 104) (.t 108), (some (100, true))⟩,
 ⟨(some 110), .pick (.t 100) (.t 109) (.c (.d (.v (.bool false)))), none⟩,
 ⟨(some 111), .mv (.t 110), none⟩,
 ⟨(some 112), .mv (.t 7), (some (111, true))⟩,
 ⟨(some 113), .mv (.t 1), (some (111, true))⟩,
 ⟨(some 114), .ld (.t 9) 2 true, (some (111, true))⟩,
 ⟨(some 115), .call 24 [(.t 112), (.t 113), (.t 114)], (some (111, true))⟩,
 ⟨(some 116), .mv (.t 8), (some (111, true))⟩,
 ⟨(some 117), .mv (.t 1), (some (111, true))⟩,
 ⟨(some 118), .ld (.t 9) 2 true, (some (111, true))⟩,
 ⟨(some 119), .call 24 [(.t 116), (.t 117), (.t 118)], (some (111, true))⟩,
 ⟨(some 120), .eqs false (.t 115) (.t 119), (some (111, true))⟩,
 ⟨(some 121), .pick (.t 111) (.t 120) (.c (.d (.v (.bool false)))), none⟩,
 ⟨(some 122), .mv (.t 121), none⟩,
 ⟨(some 123), .call 13 [], (some (122, true))⟩,
 ⟨(some 124), .pick (.t 122) (.t 123) (.c (.d (.v (.bool false)))), none⟩,
 ⟨(some 6), .mv (.t 124), none⟩])
 (.ret)))))))
def r6 : List RC := [.t 6]

/-- spinet/spinetlaw13.wakes -/
def c13 : AC :=
 .seq (.reg [⟨(some 0), .mv (.c (.d (.v (.bool false)))), none⟩])
 (.seq (.reg [⟨(some 2), .call 18 [], none⟩,
 ⟨(some 3), .bd [(.d (.v (.int .i64 0))), (.d (.v (.string ⟨#[]⟩))), (.d (.v (.string ⟨#[]⟩))), (.d (.v (.int .i64 0))), (.d (.v (.int .i64 0))), (.d (.v (.int .i64 0))), .esl, .esl, (.d (.v (.int .i64 0))), (.d (.v (.int .i64 0)))] [(0, 1, (.c (.d (.v (.int .i64 9))))), (1, 1, (.c (.d (.v (.string ⟨#[65]⟩))))), (2, 1, (.c (.d (.v (.string ⟨#[82]⟩)))))], none⟩,
 ⟨(some 4), .bd [(.d (.v (.int .i64 0))), (.d (.v (.string ⟨#[]⟩))), (.d (.v (.string ⟨#[]⟩))), (.d (.v (.int .i64 0))), (.d (.v (.int .i64 0))), (.d (.v (.int .i64 0))), .esl, .esl, (.d (.v (.int .i64 0))), (.d (.v (.int .i64 0)))] [(0, 1, (.c (.d (.v (.int .i64 9))))), (1, 1, (.c (.d (.v (.string ⟨#[65]⟩))))), (5, 1, (.c (.d (.v (.int .i64 7))))), (9, 1, (.c (.d (.v (.int .i64 1)))))], none⟩,
 ⟨(some 5), .bd [(.d (.v (.int .i64 0))), (.d (.v (.string ⟨#[]⟩))), (.d (.v (.string ⟨#[]⟩))), (.d (.v (.int .i64 0))), (.d (.v (.int .i64 0))), (.d (.v (.int .i64 0))), .esl, .esl, (.d (.v (.int .i64 0))), (.d (.v (.int .i64 0)))] [(0, 1, (.c (.d (.v (.int .i64 10))))), (4, 1, (.c (.d (.v (.int .i64 7)))))], none⟩,
 ⟨(some 6), .bd [(.d (.v (.int .i64 0))), (.d (.v (.string ⟨#[]⟩))), (.d (.v (.string ⟨#[]⟩))), (.d (.v (.int .i64 0))), (.d (.v (.int .i64 0))), (.d (.v (.int .i64 0))), .esl, .esl, (.d (.v (.int .i64 0))), (.d (.v (.int .i64 0)))] [(0, 1, (.c (.d (.v (.int .i64 10))))), (4, 1, (.c (.d (.v (.int .i64 8)))))], none⟩,
 ⟨(some 7), .bs .im 32 10 [(.t 3), (.t 4), (.t 5), (.t 6)], none⟩,
 ⟨(some 8), .app .gr 32 10 128 (.t 2) (.t 7), none⟩,
 ⟨(some 1), .mv (.t 8), none⟩])
 (.seq (.reg [⟨(some 9), .mv (.t 1), none⟩,
 ⟨(some 10), .len false (.t 9), none⟩,
 ⟨(some 11), .bin .eql (.t 10) (.c (.d (.v (.int .i64 11)))), none⟩,
 ⟨(some 12), .mv (.t 11), none⟩,
 ⟨(some 13), .mv (.t 1), (some (12, true))⟩,
 ⟨(some 14), .call 15 [(.t 13)], (some (12, true))⟩,
 ⟨(some 15), .pick (.t 12) (.t 14) (.c (.d (.v (.bool false)))), none⟩,
 ⟨(some 16), .mv (.t 15), none⟩,
 ⟨(some 17), .mv (.t 1), (some (16, true))⟩,
 ⟨(some 18), .call 21 [(.t 17), (.c (.d (.v (.int .i64 10)))), (.c (.d (.v (.int .i64 9))))], (some (16, true))⟩,
 ⟨(some 19), .pick (.t 16) (.t 18) (.c (.d (.v (.bool false)))), none⟩,
 ⟨(some 20), .mv (.t 19), none⟩,
 ⟨(some 21), .mv (.t 1), (some (20, true))⟩,
 ⟨(some 22), .call 21 [(.t 21), (.c (.d (.v (.int .i64 9)))), (.c (.d (.v (.int .i64 10))))], (some (20, true))⟩,
 ⟨(some 23), .un .not (.t 22), (some (20, true))⟩,
 ⟨(some 24), .pick (.t 20) (.t 23) (.c (.d (.v (.bool false)))), none⟩,
 ⟨(some 25), .mv (.t 24), none⟩,
 ⟨(some 26), .mv (.t 1), (some (25, true))⟩,
 ⟨(some 27), .call 22 [(.t 26), (.c (.d (.v (.int .i64 5)))), (.c (.d (.v (.int .i64 9))))], (some (25, true))⟩,
 ⟨(some 28), .pick (.t 25) (.t 27) (.c (.d (.v (.bool false)))), none⟩,
 ⟨(some 29), .mv (.t 28), none⟩,
 ⟨(some 30), .mv (.t 1), (some (29, true))⟩,
 ⟨(some 31), .call 23 [(.t 30), (.c (.d (.v (.int .i64 10))))], (some (29, true))⟩,
 ⟨(some 32), .bin .eql (.t 31) (.c (.d (.v (.int .i64 1)))), (some (29, true))⟩,
 ⟨(some 33), .pick (.t 29) (.t 32) (.c (.d (.v (.bool false)))), none⟩,
 ⟨(some 0), .mv (.t 33), none⟩])
 (.ret)))
def r13 : List RC := [.t 0]

/-- spinet/types.Same -/
def c20 : AC :=
 .seq (.reg [⟨(some 6), .mv (.c (.d (.v (.bool false)))), none⟩])
 (.seq (.reg [⟨(some 7), .mv (.t 0), none⟩,
 ⟨(some 8), .mv (.t 1), none⟩,
 ⟨(some 9), .mv (.t 2), none⟩,
 ⟨(some 10), .bs .im 3 1 [(.t 8), (.t 9)], none⟩,
 ⟨(some 11), .call 37 [(.t 7), (.t 10)], none⟩,
 ⟨(some 12), .mv (.t 11), none⟩,
 ⟨(some 13), .mv (.t 0), (some (12, true))⟩,
 ⟨(some 14), .mv (.t 1), (some (12, true))⟩,
 ⟨(some 15), .mv (.t 2), (some (12, true))⟩,
 ⟨(some 16), .call 38 [(.t 13), (.t 14), (.t 15)], (some (12, true))⟩,
 ⟨(some 17), .pick (.t 12) (.t 16) (.c (.d (.v (.bool false)))), none⟩,
 ⟨(some 6), .mv (.t 17), none⟩])
 (.ret))
def r20 : List RC := [.t 6]

/-- spinet/types.Extends -/
def c21 : AC :=
 .seq (.reg [⟨(some 6), .mv (.c (.d (.v (.bool false)))), none⟩])
 (.seq (.reg [⟨(some 7), .mv (.t 0), none⟩,
 ⟨(some 8), .mv (.t 1), none⟩,
 ⟨(some 9), .mv (.t 2), none⟩,
 ⟨(some 10), .bs .im 3 1 [(.t 8), (.t 9)], none⟩,
 ⟨(some 11), .call 37 [(.t 7), (.t 10)], none⟩,
 ⟨(some 12), .mv (.t 11), none⟩,
 ⟨(some 13), .mv (.t 0), (some (12, true))⟩,
 ⟨(some 14), .mv (.t 1), (some (12, true))⟩,
 ⟨(some 15), .mv (.t 2), (some (12, true))⟩,
 ⟨(some 16), .call 39 [(.t 13), (.t 14), (.t 15)], (some (12, true))⟩,
 ⟨(some 17), .pick (.t 12) (.t 16) (.c (.d (.v (.bool false)))), none⟩,
 ⟨(some 6), .mv (.t 17), none⟩])
 (.ret))
def r21 : List RC := [.t 6]

/-- spinet/types.Assign -/
def c22 : AC :=
 .seq (.reg [⟨(some 6), .mv (.c (.d (.v (.bool false)))), none⟩])
 (.seq (.reg [⟨(some 7), .mv (.t 0), none⟩,
 ⟨(some 8), .mv (.t 1), none⟩,
 ⟨(some 9), .mv (.t 2), none⟩,
 ⟨(some 10), .bs .im 3 1 [(.t 8), (.t 9)], none⟩,
 ⟨(some 11), .call 37 [(.t 7), (.t 10)], none⟩,
 ⟨(some 12), .mv (.t 11), none⟩,
 ⟨(some 13), .mv (.t 0), (some (12, true))⟩,
 ⟨(some 14), .mv (.t 1), (some (12, true))⟩,
 ⟨(some 15), .mv (.t 2), (some (12, true))⟩,
 ⟨(some 16), .call 40 [(.t 13), (.t 14), (.t 15)], (some (12, true))⟩,
 ⟨(some 17), .pick (.t 12) (.t 16) (.c (.d (.v (.bool false)))), none⟩,
 ⟨(some 6), .mv (.t 17), none⟩])
 (.ret))
def r22 : List RC := [.t 6]

/-- spinet/types.Level -/
def c23 : AC :=
 .seq (.reg [⟨(some 4), .mv (.c (.d (.v (.int .i64 0)))), none⟩])
 (.seq (.seq (.reg [⟨(some 5), .mv (.t 0), none⟩,
 ⟨(some 6), .mv (.t 1), none⟩,
 ⟨(some 7), .bs .im 3 1 [(.t 6)], none⟩,
 ⟨(some 8), .call 37 [(.t 5), (.t 7)], none⟩,
 ⟨(some 9), .un .not (.t 8), none⟩])
 (.cond (.t 9) (.seq (.reg [⟨(some 4), .mv (.c (.d (.v (.int .i64 0)))), none⟩])
 (.ret)) (.skip)))
 (.seq (.reg [⟨(some 10), .mv (.t 0), none⟩,
 ⟨(some 11), .mv (.t 1), none⟩,
 ⟨(some 12), .call 41 [(.t 10), (.t 11)], none⟩,
 ⟨(some 4), .mv (.t 12), none⟩])
 (.ret)))
def r23 : List RC := [.t 4]

/-- spinet/types.Fits -/
def c24 : AC :=
 .seq (.reg [⟨(some 5), .bx (.t 2), none⟩,
 ⟨(some 6), .mv (.c (.d (.v (.bool false)))), none⟩])
 (.seq (.reg [⟨(some 7), .mv (.t 0), none⟩,
 ⟨(some 8), .mv (.t 1), none⟩,
 ⟨(some 9), .fa (.t 5) 1, none⟩,
 ⟨(some 10), .ld (.t 9) 1 false, none⟩,
 ⟨(some 11), .bs .im 3 1 [(.t 8), (.t 10)], none⟩,
 ⟨(some 12), .call 37 [(.t 7), (.t 11)], none⟩,
 ⟨(some 13), .mv (.t 12), none⟩,
 ⟨(some 14), .mv (.t 0), (some (13, true))⟩,
 ⟨(some 15), .mv (.t 1), (some (13, true))⟩,
 ⟨(some 16), .ld (.t 5) 2 true, (some (13, true))⟩,
 ⟨(some 17), .call 42 [(.t 14), (.t 15), (.t 16)], (some (13, true))⟩,
 ⟨(some 18), .pick (.t 13) (.t 17) (.c (.d (.v (.bool false)))), none⟩,
 ⟨(some 6), .mv (.t 18), none⟩])
 (.ret))
def r24 : List RC := [.t 6]

def c37l0 : AC :=
 .seq (.reg [⟨(some 10), .bin .lss (.t 9) (.t 8), none⟩])
 (.seq (.cond (.t 10) (.skip) (.exit 0))
 (.seq (.block 1 (.seq (.reg [⟨(some 11), .ia (.t 7) (.t 9) 1, none⟩,
 ⟨(some 12), .ld (.t 11) 1 false, none⟩,
 ⟨(some 6), .mv (.t 12), none⟩])
 (.seq (.reg [⟨(some 13), .mv (.t 6), none⟩,
 ⟨(some 14), .bin .lss (.t 13) (.c (.d (.v (.int .i64 0)))), none⟩,
 ⟨(some 15), .mv (.t 14), none⟩,
 ⟨(some 16), .mv (.t 6), (some (15, false))⟩,
 ⟨(some 17), .mv (.t 0), (some (15, false))⟩,
 ⟨(some 18), .len false (.t 17), (some (15, false))⟩,
 ⟨(some 19), .bin .geq (.t 16) (.t 18), (some (15, false))⟩,
 ⟨(some 20), .pick (.t 15) (.c (.d (.v (.bool true)))) (.t 19), none⟩])
 (.cond (.t 20) (.seq (.reg [⟨(some 4), .mv (.c (.d (.v (.bool false)))), none⟩])
 (.ret)) (.skip)))))
 (.reg [⟨(some 21), .bin .add (.t 9) (.c (.d (.v (.int .i64 1)))), none⟩,
 ⟨(some 9), .mv (.t 21), none⟩])))

/-- spinet/types.places -/
def c37 : AC :=
 .seq (.reg [⟨(some 4), .mv (.c (.d (.v (.bool false)))), none⟩])
 (.seq (.seq (.reg [⟨(some 7), .mv (.t 1), none⟩,
 ⟨(some 8), .len false (.t 7), none⟩,
 ⟨(some 9), .mv (.c (.d (.v (.int .i64 0)))), none⟩])
 (.block 0 (.loop c37l0)))
 (.seq (.reg [⟨(some 22), .mv (.t 0), none⟩,
 ⟨(some 23), .call 33 [(.t 22)], none⟩,
 ⟨(some 4), .mv (.t 23), none⟩])
 (.ret)))
def r37 : List RC := [.t 4]

/-- spinet/tables.Same -/
def c38 : AC :=
 .seq (.reg [⟨(some 6), .mv (.c (.d (.v (.bool false)))), none⟩])
 (.seq (.reg [⟨(some 7), .mkm ⟨true, [.i .i64, .i .i64]⟩, none⟩,
 ⟨(some 8), .mv (.t 0), none⟩,
 ⟨(some 9), .mv (.t 1), none⟩,
 ⟨(some 10), .mv (.t 2), none⟩,
 ⟨(some 11), .call 62 [(.t 7), (.t 8), (.t 9), (.t 10)], none⟩,
 ⟨(some 6), .mv (.t 11), none⟩])
 (.ret))
def r38 : List RC := [.t 6]

def c39l0 : AC :=
 .seq (.seq (.reg [⟨(some 39), .mv (.t 1), none⟩,
 ⟨(some 40), .bin .neq (.t 39) (.c (.d (.v (.int .i64 0)))), none⟩])
 (.cond (.t 40) (.skip) (.exit 1)))
 (.seq (.block 2 (.seq (.reg [⟨(some 46), .mv (.t 0), none⟩,
 ⟨(some 47), .mv (.t 1), none⟩,
 ⟨(some 48), .mv (.t 2), none⟩,
 ⟨(some 49), .call 38 [(.t 46), (.t 47), (.t 48)], none⟩])
 (.cond (.t 49) (.seq (.reg [⟨(some 6), .mv (.c (.d (.v (.bool true)))), none⟩])
 (.ret)) (.skip))))
 (.reg [⟨(some 41), .mv (.t 0), none⟩,
 ⟨(some 42), .mv (.t 1), none⟩,
 ⟨(some 43), .ia (.t 41) (.t 42) 10, none⟩,
 ⟨(some 44), .fa (.t 43) 5, none⟩,
 ⟨(some 45), .ld (.t 44) 1 false, none⟩,
 ⟨(some 1), .mv (.t 45), none⟩]))

/-- spinet/tables.Extends -/
def c39 : AC :=
 .seq (.reg [⟨(some 6), .mv (.c (.d (.v (.bool false)))), none⟩])
 (.seq (.seq (.dreg [[], [], [0, 1], [2], [3], [], [], [5, 6], [7], [8], [4, 9]] [⟨(some 7), .mv (.t 0), none⟩,
 ⟨(some 8), .mv (.t 1), none⟩,
 ⟨(some 9), .ia (.t 7) (.t 8) 10, none⟩,
 ⟨(some 10), .fa (.t 9) 0, none⟩,
 ⟨(some 11), .ld (.t 10) 1 false, none⟩,
 ⟨(some 12), .mv (.t 0), none⟩,
 ⟨(some 13), .mv (.t 2), none⟩,
 ⟨(some 14), .ia (.t 12) (.t 13) 10, none⟩,
 ⟨(some 15), .fa (.t 14) 0, none⟩,
 ⟨(some 16), .ld (.t 15) 1 false, none⟩,
 ⟨(some 17), .bin .neq (.t 11) (.t 16), none⟩])
 (.cond (.t 17) (.seq (.reg [⟨(some 6), .mv (.c (.d (.v (.bool false)))), none⟩])
 (.ret)) (.skip)))
 (.seq (.seq (.reg [⟨(some 18), .mv (.t 0), none⟩,
 ⟨(some 19), .mv (.t 1), none⟩,
 ⟨(some 20), .ia (.t 18) (.t 19) 10, none⟩,
 ⟨(some 21), .fa (.t 20) 0, none⟩,
 ⟨(some 22), .ld (.t 21) 1 false, none⟩])
 (.block 0 (.seq (.reg [⟨(some 24), .bin .eql (.t 22) (.c (.d (.v (.int .i64 10)))), none⟩,
 ⟨(some 23), .mv (.t 24), none⟩])
 (.cond (.t 23) (.seq (.dreg [[], [], [], [1, 2], [3], [4], [], [], [6, 7], [8], [9], [0, 5, 10], [11, 11, 0, 1, 2, 3, 4, 5, 6, 7, 8, 9, 10, 11]] [⟨(some 25), .mv (.t 0), none⟩,
 ⟨(some 26), .mv (.t 0), none⟩,
 ⟨(some 27), .mv (.t 1), none⟩,
 ⟨(some 28), .ia (.t 26) (.t 27) 10, none⟩,
 ⟨(some 29), .fa (.t 28) 4, none⟩,
 ⟨(some 30), .ld (.t 29) 1 false, none⟩,
 ⟨(some 31), .mv (.t 0), none⟩,
 ⟨(some 32), .mv (.t 2), none⟩,
 ⟨(some 33), .ia (.t 31) (.t 32) 10, none⟩,
 ⟨(some 34), .fa (.t 33) 4, none⟩,
 ⟨(some 35), .ld (.t 34) 1 false, none⟩,
 ⟨(some 36), .call 39 [(.t 25), (.t 30), (.t 35)], none⟩,
 ⟨(some 6), .mv (.t 36), none⟩])
 (.ret)) (.seq (.reg [⟨(some 38), .bin .eql (.t 22) (.c (.d (.v (.int .i64 9)))), none⟩,
 ⟨(some 37), .mv (.t 38), none⟩])
 (.cond (.t 37) (.block 1 (.loop c39l0)) (.skip)))))))
 (.seq (.reg [⟨(some 6), .mv (.c (.d (.v (.bool false)))), none⟩])
 (.ret))))
def r39 : List RC := [.t 6]

/-- spinet/tables.Assign -/
def c40 : AC :=
 .seq (.reg [⟨(some 6), .mv (.c (.d (.v (.bool false)))), none⟩])
 (.seq (.dreg [[], [], [0, 1], [2], [], [], [4, 5], [6], [], [], [8, 3, 0, 1, 2, 3, 8, 9], [9, 7, 10, 0, 1, 2, 3, 4, 5, 6, 7, 8, 9, 10]] [⟨(some 9), .mv (.t 0), none⟩,
 ⟨(some 10), .mv (.t 1), none⟩,
 ⟨(some 11), .ia (.t 9) (.t 10) 10, none⟩,
 ⟨(some 12), .ld (.t 11) 10 true, none⟩,
 ⟨(some 13), .mv (.t 0), none⟩,
 ⟨(some 14), .mv (.t 2), none⟩,
 ⟨(some 15), .ia (.t 13) (.t 14) 10, none⟩,
 ⟨(some 16), .ld (.t 15) 10 true, none⟩,
 ⟨(some 7), .al [(.d (.v (.int .i64 0))), (.d (.v (.string ⟨#[]⟩))), (.d (.v (.string ⟨#[]⟩))), (.d (.v (.int .i64 0))), (.d (.v (.int .i64 0))), (.d (.v (.int .i64 0))), .esl, .esl, (.d (.v (.int .i64 0))), (.d (.v (.int .i64 0)))], none⟩,
 ⟨(some 8), .al [(.d (.v (.int .i64 0))), (.d (.v (.string ⟨#[]⟩))), (.d (.v (.string ⟨#[]⟩))), (.d (.v (.int .i64 0))), (.d (.v (.int .i64 0))), (.d (.v (.int .i64 0))), .esl, .esl, (.d (.v (.int .i64 0))), (.d (.v (.int .i64 0)))], none⟩,
 ⟨none, .st (.t 7) (.t 12) 10, none⟩,
 ⟨none, .st (.t 8) (.t 16) 10, none⟩])
 (.seq (.seq (.reg [⟨(some 17), .fa (.t 8) 0, none⟩,
 ⟨(some 18), .ld (.t 17) 1 false, none⟩,
 ⟨(some 19), .bin .eql (.t 18) (.c (.d (.v (.int .i64 0)))), none⟩,
 ⟨(some 20), .mv (.t 19), none⟩,
 ⟨(some 21), .fa (.t 8) 0, (some (20, false))⟩,
 ⟨(some 22), .ld (.t 21) 1 false, (some (20, false))⟩,
 ⟨(some 23), .bin .eql (.t 22) (.c (.d (.v (.int .i64 5)))), (some (20, false))⟩,
 ⟨(some 24), .pick (.t 20) (.c (.d (.v (.bool true)))) (.t 23), none⟩,
 ⟨(some 25), .mv (.t 24), none⟩,
 ⟨(some 26), .fa (.t 8) 0, (some (25, false))⟩,
 ⟨(some 27), .ld (.t 26) 1 false, (some (25, false))⟩,
 ⟨(some 28), .bin .eql (.t 27) (.c (.d (.v (.int .i64 6)))), (some (25, false))⟩,
 ⟨(some 29), .pick (.t 25) (.c (.d (.v (.bool true)))) (.t 28), none⟩,
 ⟨(some 30), .mv (.t 29), none⟩,
 ⟨(some 31), .fa (.t 8) 0, (some (30, false))⟩,
 ⟨(some 32), .ld (.t 31) 1 false, (some (30, false))⟩,
 ⟨(some 33), .bin .eql (.t 32) (.c (.d (.v (.int .i64 8)))), (some (30, false))⟩,
 ⟨(some 34), .pick (.t 30) (.c (.d (.v (.bool true)))) (.t 33), none⟩])
 (.cond (.t 34) (.seq (.reg [⟨(some 6), .mv (.c (.d (.v (.bool false)))), none⟩])
 (.ret)) (.skip)))
 (.seq (.seq (.reg [⟨(some 35), .mv (.t 0), none⟩,
 ⟨(some 36), .mv (.t 1), none⟩,
 ⟨(some 37), .mv (.t 2), none⟩,
 ⟨(some 38), .call 38 [(.t 35), (.t 36), (.t 37)], none⟩,
 ⟨(some 39), .mv (.t 38), none⟩,
 ⟨(some 40), .mv (.t 0), (some (39, false))⟩,
 ⟨(some 41), .mv (.t 1), (some (39, false))⟩,
 ⟨(some 42), .mv (.t 2), (some (39, false))⟩,
 ⟨(some 43), .call 39 [(.t 40), (.t 41), (.t 42)], (some (39, false))⟩,
 ⟨(some 44), .pick (.t 39) (.c (.d (.v (.bool true)))) (.t 43), none⟩])
 (.cond (.t 44) (.seq (.reg [⟨(some 6), .mv (.c (.d (.v (.bool true)))), none⟩])
 (.ret)) (.skip)))
 (.seq (.seq (.reg [⟨(some 45), .fa (.t 7) 0, none⟩,
 ⟨(some 46), .ld (.t 45) 1 false, none⟩])
 (.block 0 (.seq (.reg [⟨(some 48), .bin .eql (.t 46) (.c (.d (.v (.int .i64 5)))), none⟩,
 ⟨(some 47), .mv (.t 48), none⟩])
 (.cond (.t 47) (.seq (.reg [⟨(some 49), .fa (.t 8) 0, none⟩,
 ⟨(some 50), .ld (.t 49) 1 false, none⟩,
 ⟨(some 51), .bin .eql (.t 50) (.c (.d (.v (.int .i64 10)))), none⟩,
 ⟨(some 52), .mv (.t 51), none⟩,
 ⟨(some 53), .fa (.t 8) 0, (some (52, false))⟩,
 ⟨(some 54), .ld (.t 53) 1 false, (some (52, false))⟩,
 ⟨(some 55), .bin .eql (.t 54) (.c (.d (.v (.int .i64 11)))), (some (52, false))⟩,
 ⟨(some 56), .pick (.t 52) (.c (.d (.v (.bool true)))) (.t 55), none⟩,
 ⟨(some 6), .mv (.t 56), none⟩])
 (.ret)) (.seq (.reg [⟨(some 58), .bin .eql (.t 46) (.c (.d (.v (.int .i64 6)))), none⟩,
 ⟨(some 57), .mv (.t 58), none⟩])
 (.cond (.t 57) (.seq (.reg [⟨(some 59), .fa (.t 8) 0, none⟩,
 ⟨(some 60), .ld (.t 59) 1 false, none⟩,
 ⟨(some 61), .bin .eql (.t 60) (.c (.d (.v (.int .i64 7)))), none⟩,
 ⟨(some 62), .mv (.t 61), none⟩,
 ⟨(some 63), .mv (.t 0), (some (62, true))⟩,
 ⟨(some 64), .fa (.t 8) 4, (some (62, true))⟩,
 ⟨(some 65), .ld (.t 64) 1 false, (some (62, true))⟩,
 ⟨(some 66), .ia (.t 63) (.t 65) 10, (some (62, true))⟩,
 ⟨(some 67), .fa (.t 66) 0, (some (62, true))⟩,
 ⟨(some 68), .ld (.t 67) 1 false, (some (62, true))⟩,
 ⟨(some 69), .bin .eql (.t 68) (.c (.d (.v (.int .i64 3)))), (some (62, true))⟩,
 ⟨(some 70), .pick (.t 62) (.t 69) (.c (.d (.v (.bool false)))), none⟩,
 ⟨(some 6), .mv (.t 70), none⟩])
 (.ret)) (.seq (.reg [⟨(some 72), .bin .eql (.t 46) (.c (.d (.v (.int .i64 8)))), none⟩,
 ⟨(some 71), .mv (.t 72), none⟩])
 (.cond (.t 71) (.seq (.reg [⟨(some 73), .fa (.t 8) 0, none⟩,
 ⟨(some 74), .ld (.t 73) 1 false, none⟩,
 ⟨(some 75), .bin .eql (.t 74) (.c (.d (.v (.int .i64 7)))), none⟩,
 ⟨(some 76), .mv (.t 75), none⟩,
 ⟨(some 77), .mv (.t 0), (some (76, true))⟩,
 ⟨(some 78), .fa (.t 7) 4, (some (76, true))⟩,
 ⟨(some 79), .ld (.t 78) 1 false, (some (76, true))⟩,
 ⟨(some 80), .fa (.t 8) 4, (some (76, true))⟩,
 ⟨(some 81), .ld (.t 80) 1 false, (some (76, true))⟩,
 ⟨(some 82), .call 38 [(.t 77), (.t 79), (.t 81)], (some (76, true))⟩,
 ⟨(some 83), .pick (.t 76) (.t 82) (.c (.d (.v (.bool false)))), none⟩,
 ⟨(some 6), .mv (.t 83), none⟩])
 (.ret)) (.skip)))))))))
 (.seq (.reg [⟨(some 6), .mv (.c (.d (.v (.bool false)))), none⟩])
 (.ret))))))
def r40 : List RC := [.t 6]

def c41l0 : AC :=
 .seq (.seq (.reg [⟨(some 17), .mv (.t 0), none⟩,
 ⟨(some 18), .mv (.t 1), none⟩,
 ⟨(some 19), .ia (.t 17) (.t 18) 10, none⟩,
 ⟨(some 20), .fa (.t 19) 0, none⟩,
 ⟨(some 21), .ld (.t 20) 1 false, none⟩,
 ⟨(some 22), .bin .eql (.t 21) (.c (.d (.v (.int .i64 9)))), none⟩,
 ⟨(some 23), .mv (.t 22), none⟩,
 ⟨(some 24), .mv (.t 0), (some (23, true))⟩,
 ⟨(some 25), .mv (.t 1), (some (23, true))⟩,
 ⟨(some 26), .ia (.t 24) (.t 25) 10, (some (23, true))⟩,
 ⟨(some 27), .fa (.t 26) 5, (some (23, true))⟩,
 ⟨(some 28), .ld (.t 27) 1 false, (some (23, true))⟩,
 ⟨(some 29), .bin .neq (.t 28) (.c (.d (.v (.int .i64 0)))), (some (23, true))⟩,
 ⟨(some 30), .pick (.t 23) (.t 29) (.c (.d (.v (.bool false)))), none⟩])
 (.cond (.t 30) (.skip) (.exit 0)))
 (.block 1 (.seq (.reg [⟨(some 31), .mv (.t 0), none⟩,
 ⟨(some 32), .mv (.t 1), none⟩,
 ⟨(some 33), .ia (.t 31) (.t 32) 10, none⟩,
 ⟨(some 34), .fa (.t 33) 5, none⟩,
 ⟨(some 35), .ld (.t 34) 1 false, none⟩,
 ⟨(some 1), .mv (.t 35), none⟩])
 (.reg [⟨(some 36), .mv (.t 5), none⟩,
 ⟨(some 37), .bin .add (.t 36) (.c (.d (.v (.int .i64 1)))), none⟩,
 ⟨(some 5), .mv (.t 37), none⟩])))

/-- spinet/tables.Level -/
def c41 : AC :=
 .seq (.reg [⟨(some 4), .mv (.c (.d (.v (.int .i64 0)))), none⟩])
 (.seq (.seq (.reg [⟨(some 6), .mv (.t 0), none⟩,
 ⟨(some 7), .mv (.t 1), none⟩,
 ⟨(some 8), .ia (.t 6) (.t 7) 10, none⟩,
 ⟨(some 9), .fa (.t 8) 0, none⟩,
 ⟨(some 10), .ld (.t 9) 1 false, none⟩,
 ⟨(some 11), .bin .eql (.t 10) (.c (.d (.v (.int .i64 10)))), none⟩])
 (.cond (.t 11) (.reg [⟨(some 12), .mv (.t 0), none⟩,
 ⟨(some 13), .mv (.t 1), none⟩,
 ⟨(some 14), .ia (.t 12) (.t 13) 10, none⟩,
 ⟨(some 15), .fa (.t 14) 4, none⟩,
 ⟨(some 16), .ld (.t 15) 1 false, none⟩,
 ⟨(some 1), .mv (.t 16), none⟩]) (.skip)))
 (.seq (.reg [⟨(some 5), .mv (.c (.d (.v (.int .i64 0)))), none⟩])
 (.seq (.block 0 (.loop c41l0))
 (.seq (.reg [⟨(some 38), .mv (.t 5), none⟩,
 ⟨(some 4), .mv (.t 38), none⟩])
 (.ret)))))
def r41 : List RC := [.t 4]

/-- spinet/tables.Fits -/
def c42 : AC :=
 .seq (.reg [⟨(some 5), .bx (.t 2), none⟩,
 ⟨(some 6), .mv (.c (.d (.v (.bool false)))), none⟩])
 (.seq (.dreg [[], [], [0, 1], [2], [], [], [5], [4, 6], [7], [], [], [9, 3, 0, 1, 2, 3, 9, 10], [10, 8, 11, 0, 1, 2, 3, 4, 5, 6, 7, 8, 9, 10, 11]] [⟨(some 9), .mv (.t 0), none⟩,
 ⟨(some 10), .mv (.t 1), none⟩,
 ⟨(some 11), .ia (.t 9) (.t 10) 10, none⟩,
 ⟨(some 12), .ld (.t 11) 10 true, none⟩,
 ⟨(some 13), .mv (.t 0), none⟩,
 ⟨(some 14), .fa (.t 5) 1, none⟩,
 ⟨(some 15), .ld (.t 14) 1 false, none⟩,
 ⟨(some 16), .ia (.t 13) (.t 15) 10, none⟩,
 ⟨(some 17), .ld (.t 16) 10 true, none⟩,
 ⟨(some 7), .al [(.d (.v (.int .i64 0))), (.d (.v (.string ⟨#[]⟩))), (.d (.v (.string ⟨#[]⟩))), (.d (.v (.int .i64 0))), (.d (.v (.int .i64 0))), (.d (.v (.int .i64 0))), .esl, .esl, (.d (.v (.int .i64 0))), (.d (.v (.int .i64 0)))], none⟩,
 ⟨(some 8), .al [(.d (.v (.int .i64 0))), (.d (.v (.string ⟨#[]⟩))), (.d (.v (.string ⟨#[]⟩))), (.d (.v (.int .i64 0))), (.d (.v (.int .i64 0))), (.d (.v (.int .i64 0))), .esl, .esl, (.d (.v (.int .i64 0))), (.d (.v (.int .i64 0)))], none⟩,
 ⟨none, .st (.t 7) (.t 12) 10, none⟩,
 ⟨none, .st (.t 8) (.t 17) 10, none⟩])
 (.seq (.seq (.reg [⟨(some 18), .fa (.t 8) 0, none⟩,
 ⟨(some 19), .ld (.t 18) 1 false, none⟩,
 ⟨(some 20), .bin .eql (.t 19) (.c (.d (.v (.int .i64 8)))), none⟩,
 ⟨(some 21), .mv (.t 20), none⟩,
 ⟨(some 22), .mv (.t 0), (some (21, true))⟩,
 ⟨(some 23), .mv (.t 1), (some (21, true))⟩,
 ⟨(some 24), .fa (.t 5) 1, (some (21, true))⟩,
 ⟨(some 25), .ld (.t 24) 1 false, (some (21, true))⟩,
 ⟨(some 26), .fa (.t 5) 0, (some (21, true))⟩,
 ⟨(some 27), .ld (.t 26) 1 false, (some (21, true))⟩,
 ⟨(some 28), .call 63 [(.t 22), (.t 23), (.t 25), (.t 27)], (some (21, true))⟩,
 ⟨(some 29), .pick (.t 21) (.t 28) (.c (.d (.v (.bool false)))), none⟩])
 (.cond (.t 29) (.seq (.reg [⟨(some 6), .mv (.c (.d (.v (.bool true)))), none⟩])
 (.ret)) (.skip)))
 (.seq (.seq (.reg [⟨(some 30), .fa (.t 5) 0, none⟩,
 ⟨(some 31), .ld (.t 30) 1 false, none⟩])
 (.cond (.t 31) (.seq (.reg [⟨(some 32), .fa (.t 7) 0, none⟩,
 ⟨(some 33), .ld (.t 32) 1 false, none⟩,
 ⟨(some 34), .bin .neq (.t 33) (.c (.d (.v (.int .i64 0)))), none⟩,
 ⟨(some 35), .mv (.t 34), none⟩,
 ⟨(some 36), .fa (.t 7) 0, (some (35, true))⟩,
 ⟨(some 37), .ld (.t 36) 1 false, (some (35, true))⟩,
 ⟨(some 38), .bin .neq (.t 37) (.c (.d (.v (.int .i64 5)))), (some (35, true))⟩,
 ⟨(some 39), .pick (.t 35) (.t 38) (.c (.d (.v (.bool false)))), none⟩,
 ⟨(some 40), .mv (.t 39), none⟩,
 ⟨(some 41), .fa (.t 7) 0, (some (40, true))⟩,
 ⟨(some 42), .ld (.t 41) 1 false, (some (40, true))⟩,
 ⟨(some 43), .bin .neq (.t 42) (.c (.d (.v (.int .i64 6)))), (some (40, true))⟩,
 ⟨(some 44), .pick (.t 40) (.t 43) (.c (.d (.v (.bool false)))), none⟩,
 ⟨(some 45), .mv (.t 44), none⟩,
 ⟨(some 46), .mv (.t 0), (some (45, true))⟩,
 ⟨(some 47), .mv (.t 1), (some (45, true))⟩,
 ⟨(some 48), .fa (.t 5) 1, (some (45, true))⟩,
 ⟨(some 49), .ld (.t 48) 1 false, (some (45, true))⟩,
 ⟨(some 50), .call 38 [(.t 46), (.t 47), (.t 49)], (some (45, true))⟩,
 ⟨(some 51), .mv (.t 50), (some (45, true))⟩,
 ⟨(some 52), .fa (.t 7) 0, (some (51, false))⟩,
 ⟨(some 53), .ld (.t 52) 1 false, (some (51, false))⟩,
 ⟨(some 54), .bin .eql (.t 53) (.c (.d (.v (.int .i64 9)))), (some (51, false))⟩,
 ⟨(some 55), .mv (.t 54), (some (51, false))⟩,
 ⟨(some 56), .mv (.t 0), (some (55, true))⟩,
 ⟨(some 57), .mv (.t 1), (some (55, true))⟩,
 ⟨(some 58), .fa (.t 5) 1, (some (55, true))⟩,
 ⟨(some 59), .ld (.t 58) 1 false, (some (55, true))⟩,
 ⟨(some 60), .call 39 [(.t 56), (.t 57), (.t 59)], (some (55, true))⟩,
 ⟨(some 61), .pick (.t 55) (.t 60) (.c (.d (.v (.bool false)))), (some (51, false))⟩,
 ⟨(some 62), .pick (.t 51) (.c (.d (.v (.bool true)))) (.t 61), (some (45, true))⟩,
 ⟨(some 63), .pick (.t 45) (.t 62) (.c (.d (.v (.bool false)))), none⟩,
 ⟨(some 6), .mv (.t 63), none⟩])
 (.ret)) (.skip)))
 (.seq (.reg [⟨(some 64), .mv (.t 0), none⟩,
 ⟨(some 65), .mv (.t 1), none⟩,
 ⟨(some 66), .fa (.t 5) 1, none⟩,
 ⟨(some 67), .ld (.t 66) 1 false, none⟩,
 ⟨(some 68), .call 40 [(.t 64), (.t 65), (.t 67)], none⟩,
 ⟨(some 69), .mv (.t 68), none⟩,
 ⟨(some 70), .fa (.t 7) 0, (some (69, true))⟩,
 ⟨(some 71), .ld (.t 70) 1 false, (some (69, true))⟩,
 ⟨(some 72), .bin .neq (.t 71) (.c (.d (.v (.int .i64 8)))), (some (69, true))⟩,
 ⟨(some 73), .mv (.t 72), (some (69, true))⟩,
 ⟨(some 74), .fa (.t 7) 0, (some (73, true))⟩,
 ⟨(some 75), .ld (.t 74) 1 false, (some (73, true))⟩,
 ⟨(some 76), .bin .neq (.t 75) (.c (.d (.v (.int .i64 6)))), (some (73, true))⟩,
 ⟨(some 77), .pick (.t 73) (.t 76) (.c (.d (.v (.bool false)))), (some (69, true))⟩,
 ⟨(some 78), .mv (.t 77), (some (69, true))⟩,
 ⟨(some 79), .fa (.t 8) 0, (some (78, false))⟩,
 ⟨(some 80), .ld (.t 79) 1 false, (some (78, false))⟩,
 ⟨(some 81), .bin .neq (.t 80) (.c (.d (.v (.int .i64 7)))), (some (78, false))⟩,
 ⟨(some 82), .pick (.t 78) (.c (.d (.v (.bool true)))) (.t 81), (some (69, true))⟩,
 ⟨(some 83), .pick (.t 69) (.t 82) (.c (.d (.v (.bool false)))), none⟩,
 ⟨(some 6), .mv (.t 83), none⟩])
 (.ret)))))
def r42 : List RC := [.t 6]

/-- (spinet/tables.pairs).same -/
def c62 : AC :=
 .seq (.reg [⟨(some 4), .bx (.t 0), none⟩,
 ⟨(some 5), .bx (.t 1), none⟩,
 ⟨(some 8), .mv (.c (.d (.v (.bool false)))), none⟩])
 (.seq (.dreg [[], [], [0, 1], [2], [], [], [4, 5], [6], [], [], [8, 3, 0, 1, 2, 3, 8, 9], [9, 7, 10, 0, 1, 2, 3, 4, 5, 6, 7, 8, 9, 10]] [⟨(some 11), .ld (.t 5) 1 false, none⟩,
 ⟨(some 12), .mv (.t 2), none⟩,
 ⟨(some 13), .ia (.t 11) (.t 12) 10, none⟩,
 ⟨(some 14), .ld (.t 13) 10 true, none⟩,
 ⟨(some 15), .ld (.t 5) 1 false, none⟩,
 ⟨(some 16), .mv (.t 3), none⟩,
 ⟨(some 17), .ia (.t 15) (.t 16) 10, none⟩,
 ⟨(some 18), .ld (.t 17) 10 true, none⟩,
 ⟨(some 9), .al [(.d (.v (.int .i64 0))), (.d (.v (.string ⟨#[]⟩))), (.d (.v (.string ⟨#[]⟩))), (.d (.v (.int .i64 0))), (.d (.v (.int .i64 0))), (.d (.v (.int .i64 0))), .esl, .esl, (.d (.v (.int .i64 0))), (.d (.v (.int .i64 0)))], none⟩,
 ⟨(some 10), .al [(.d (.v (.int .i64 0))), (.d (.v (.string ⟨#[]⟩))), (.d (.v (.string ⟨#[]⟩))), (.d (.v (.int .i64 0))), (.d (.v (.int .i64 0))), (.d (.v (.int .i64 0))), .esl, .esl, (.d (.v (.int .i64 0))), (.d (.v (.int .i64 0)))], none⟩,
 ⟨none, .st (.t 9) (.t 14) 10, none⟩,
 ⟨none, .st (.t 10) (.t 18) 10, none⟩])
 (.seq (.seq (.reg [⟨(some 19), .mv (.t 2), none⟩,
 ⟨(some 20), .mv (.t 3), none⟩,
 ⟨(some 21), .bin .eql (.t 19) (.t 20), none⟩])
 (.cond (.t 21) (.seq (.reg [⟨(some 8), .mv (.c (.d (.v (.bool true)))), none⟩])
 (.ret)) (.skip)))
 (.seq (.seq (.reg [⟨(some 22), .fa (.t 9) 0, none⟩,
 ⟨(some 23), .ld (.t 22) 1 false, none⟩,
 ⟨(some 24), .bin .eql (.t 23) (.c (.d (.v (.int .i64 9)))), none⟩,
 ⟨(some 25), .mv (.t 24), none⟩,
 ⟨(some 26), .fa (.t 10) 0, (some (25, false))⟩,
 ⟨(some 27), .ld (.t 26) 1 false, (some (25, false))⟩,
 ⟨(some 28), .bin .eql (.t 27) (.c (.d (.v (.int .i64 9)))), (some (25, false))⟩,
 ⟨(some 29), .pick (.t 25) (.c (.d (.v (.bool true)))) (.t 28), none⟩])
 (.cond (.t 29) (.seq (.reg [⟨(some 30), .fa (.t 9) 0, none⟩,
 ⟨(some 31), .ld (.t 30) 1 false, none⟩,
 ⟨(some 32), .fa (.t 10) 0, none⟩,
 ⟨(some 33), .ld (.t 32) 1 false, none⟩,
 ⟨(some 34), .bin .eql (.t 31) (.t 33), none⟩,
 ⟨(some 35), .mv (.t 34), none⟩,
 ⟨(some 36), .fa (.t 9) 1, (some (35, true))⟩,
 ⟨(some 37), .ld (.t 36) 1 false, (some (35, true))⟩,
 ⟨(some 38), .fa (.t 10) 1, (some (35, true))⟩,
 ⟨(some 39), .ld (.t 38) 1 false, (some (35, true))⟩,
 ⟨(some 40), .bin .eql (.t 37) (.t 39), (some (35, true))⟩,
 ⟨(some 41), .pick (.t 35) (.t 40) (.c (.d (.v (.bool false)))), none⟩,
 ⟨(some 42), .mv (.t 41), none⟩,
 ⟨(some 43), .fa (.t 9) 9, (some (42, true))⟩,
 ⟨(some 44), .ld (.t 43) 1 false, (some (42, true))⟩,
 ⟨(some 45), .fa (.t 10) 9, (some (42, true))⟩,
 ⟨(some 46), .ld (.t 45) 1 false, (some (42, true))⟩,
 ⟨(some 47), .bin .eql (.t 44) (.t 46), (some (42, true))⟩,
 ⟨(some 48), .pick (.t 42) (.t 47) (.c (.d (.v (.bool false)))), none⟩,
 ⟨(some 49), .mv (.t 48), none⟩,
 ⟨(some 50), .fa (.t 9) 9, (some (49, true))⟩,
 ⟨(some 51), .ld (.t 50) 1 false, (some (49, true))⟩,
 ⟨(some 52), .bin .neq (.t 51) (.c (.d (.v (.int .i64 (-1))))), (some (49, true))⟩,
 ⟨(some 53), .pick (.t 49) (.t 52) (.c (.d (.v (.bool false)))), none⟩,
 ⟨(some 8), .mv (.t 53), none⟩])
 (.ret)) (.skip)))
 (.seq (.seq (.reg [⟨(some 54), .fa (.t 9) 2, none⟩,
 ⟨(some 55), .ld (.t 54) 1 false, none⟩,
 ⟨(some 56), .bin .neq (.t 55) (.c (.d (.v (.string ⟨#[]⟩)))), none⟩,
 ⟨(some 57), .mv (.t 56), none⟩,
 ⟨(some 58), .fa (.t 9) 2, (some (57, true))⟩,
 ⟨(some 59), .ld (.t 58) 1 false, (some (57, true))⟩,
 ⟨(some 60), .fa (.t 10) 2, (some (57, true))⟩,
 ⟨(some 61), .ld (.t 60) 1 false, (some (57, true))⟩,
 ⟨(some 62), .bin .eql (.t 59) (.t 61), (some (57, true))⟩,
 ⟨(some 63), .pick (.t 57) (.t 62) (.c (.d (.v (.bool false)))), none⟩,
 ⟨(some 64), .mv (.t 63), none⟩,
 ⟨(some 65), .fa (.t 9) 1, (some (64, true))⟩,
 ⟨(some 66), .ld (.t 65) 1 false, (some (64, true))⟩,
 ⟨(some 67), .fa (.t 10) 1, (some (64, true))⟩,
 ⟨(some 68), .ld (.t 67) 1 false, (some (64, true))⟩,
 ⟨(some 69), .bin .eql (.t 66) (.t 68), (some (64, true))⟩,
 ⟨(some 70), .pick (.t 64) (.t 69) (.c (.d (.v (.bool false)))), none⟩,
 ⟨(some 71), .mv (.t 70), none⟩,
 ⟨(some 72), .fa (.t 9) 0, (some (71, true))⟩,
 ⟨(some 73), .ld (.t 72) 1 false, (some (71, true))⟩,
 ⟨(some 74), .bin .neq (.t 73) (.c (.d (.v (.int .i64 11)))), (some (71, true))⟩,
 ⟨(some 75), .pick (.t 71) (.t 74) (.c (.d (.v (.bool false)))), none⟩,
 ⟨(some 76), .mv (.t 75), none⟩,
 ⟨(some 77), .fa (.t 10) 0, (some (76, true))⟩,
 ⟨(some 78), .ld (.t 77) 1 false, (some (76, true))⟩,
 ⟨(some 79), .bin .neq (.t 78) (.c (.d (.v (.int .i64 11)))), (some (76, true))⟩,
 ⟨(some 80), .pick (.t 76) (.t 79) (.c (.d (.v (.bool false)))), none⟩])
 (.cond (.t 80) (.seq (.reg [⟨(some 8), .mv (.c (.d (.v (.bool true)))), none⟩])
 (.ret)) (.skip)))
 (.seq (.seq (.reg [⟨(some 81), .fa (.t 9) 0, none⟩,
 ⟨(some 82), .ld (.t 81) 1 false, none⟩,
 ⟨(some 83), .fa (.t 10) 0, none⟩,
 ⟨(some 84), .ld (.t 83) 1 false, none⟩,
 ⟨(some 85), .bin .neq (.t 82) (.t 84), none⟩,
 ⟨(some 86), .mv (.t 85), none⟩,
 ⟨(some 87), .ld (.t 4) 1 false, (some (86, false))⟩,
 ⟨(some 88), .mv (.t 2), (some (86, false))⟩,
 ⟨(some 89), .mv (.t 3), (some (86, false))⟩,
 ⟨(some 90), .bd [(.d (.v (.int .i64 0))), (.d (.v (.int .i64 0)))] [(0, 1, (.t 88)), (1, 1, (.t 89))], (some (86, false))⟩,
 ⟨(some 91), .lk ⟨true, [.i .i64, .i .i64]⟩ (.d (.v (.int .i64 0))) (.t 87) (.t 90) false, (some (86, false))⟩,
 ⟨(some 92), .bin .gtr (.t 91) (.c (.d (.v (.int .i64 0)))), (some (86, false))⟩,
 ⟨(some 93), .pick (.t 86) (.c (.d (.v (.bool true)))) (.t 92), none⟩])
 (.cond (.t 93) (.seq (.reg [⟨(some 94), .fa (.t 9) 0, none⟩,
 ⟨(some 95), .ld (.t 94) 1 false, none⟩,
 ⟨(some 96), .fa (.t 10) 0, none⟩,
 ⟨(some 97), .ld (.t 96) 1 false, none⟩,
 ⟨(some 98), .bin .eql (.t 95) (.t 97), none⟩,
 ⟨(some 8), .mv (.t 98), none⟩])
 (.ret)) (.skip)))
 (.seq (.dreg [[], [], [], [1, 2], [0, 3], [4], [0, 3, 0, 1, 2, 3], [6], [0, 7, 5, 6, 0, 1, 2, 3, 4, 5, 6, 7]] [⟨(some 99), .ld (.t 4) 1 false, none⟩,
 ⟨(some 100), .mv (.t 2), none⟩,
 ⟨(some 101), .mv (.t 3), none⟩,
 ⟨(some 102), .bd [(.d (.v (.int .i64 0))), (.d (.v (.int .i64 0)))] [(0, 1, (.t 100)), (1, 1, (.t 101))], none⟩,
 ⟨(some 103), .lk ⟨true, [.i .i64, .i .i64]⟩ (.d (.v (.int .i64 0))) (.t 99) (.t 102) false, none⟩,
 ⟨(some 104), .bin .add (.t 103) (.c (.d (.v (.int .i64 1)))), none⟩,
 ⟨(some 105), .me ⟨true, [.i .i64, .i .i64]⟩ (.d (.v (.int .i64 0))) (.t 99) (.t 102), none⟩,
 ⟨(some 106), .ext (.t 105) 1, none⟩,
 ⟨none, .mes (.t 99) (.t 106) (.t 104), none⟩])
 (.seq (.seq (.reg [⟨(some 107), .fa (.t 9) 0, none⟩,
 ⟨(some 108), .ld (.t 107) 1 false, none⟩])
 (.block 0 (.seq (.seq (.reg [⟨(some 110), .bin .eql (.t 108) (.c (.d (.v (.int .i64 7)))), none⟩,
 ⟨(some 109), .mv (.t 110), none⟩])
 (.cond (.t 109) (.skip) (.seq (.reg [⟨(some 111), .bin .eql (.t 108) (.c (.d (.v (.int .i64 8)))), none⟩,
 ⟨(some 109), .mv (.t 111), none⟩])
 (.cond (.t 109) (.skip) (.reg [⟨(some 112), .bin .eql (.t 108) (.c (.d (.v (.int .i64 10)))), none⟩,
 ⟨(some 109), .mv (.t 112), none⟩])))))
 (.cond (.t 109) (.seq (.reg [⟨(some 113), .fa (.t 9) 2, none⟩,
 ⟨(some 114), .ld (.t 113) 1 false, none⟩,
 ⟨(some 115), .bin .eql (.t 114) (.c (.d (.v (.string ⟨#[]⟩)))), none⟩,
 ⟨(some 116), .mv (.t 115), none⟩,
 ⟨(some 117), .fa (.t 10) 2, (some (116, true))⟩,
 ⟨(some 118), .ld (.t 117) 1 false, (some (116, true))⟩,
 ⟨(some 119), .bin .eql (.t 118) (.c (.d (.v (.string ⟨#[]⟩)))), (some (116, true))⟩,
 ⟨(some 120), .pick (.t 116) (.t 119) (.c (.d (.v (.bool false)))), none⟩,
 ⟨(some 121), .mv (.t 120), none⟩,
 ⟨(some 122), .fa (.t 9) 3, (some (121, true))⟩,
 ⟨(some 123), .ld (.t 122) 1 false, (some (121, true))⟩,
 ⟨(some 124), .fa (.t 10) 3, (some (121, true))⟩,
 ⟨(some 125), .ld (.t 124) 1 false, (some (121, true))⟩,
 ⟨(some 126), .bin .eql (.t 123) (.t 125), (some (121, true))⟩,
 ⟨(some 127), .pick (.t 121) (.t 126) (.c (.d (.v (.bool false)))), none⟩,
 ⟨(some 128), .mv (.t 127), none⟩,
 ⟨(some 129), .ld (.t 4) 1 false, (some (128, true))⟩,
 ⟨(some 130), .ld (.t 5) 1 false, (some (128, true))⟩,
 ⟨(some 131), .fa (.t 9) 4, (some (128, true))⟩,
 ⟨(some 132), .ld (.t 131) 1 false, (some (128, true))⟩,
 ⟨(some 133), .fa (.t 10) 4, (some (128, true))⟩,
 ⟨(some 134), .ld (.t 133) 1 false, (some (128, true))⟩,
 ⟨(some 135), .call 62 [(.t 129), (.t 130), (.t 132), (.t 134)], (some (128, true))⟩,
 ⟨(some 136), .pick (.t 128) (.t 135) (.c (.d (.v (.bool false)))), none⟩,
 ⟨(some 8), .mv (.t 136), none⟩])
 (.ret)) (.seq (.reg [⟨(some 138), .bin .eql (.t 108) (.c (.d (.v (.int .i64 11)))), none⟩,
 ⟨(some 137), .mv (.t 138), none⟩])
 (.cond (.t 137) (.seq (.reg [⟨(some 139), .fa (.t 9) 7, none⟩,
 ⟨(some 140), .ld (.t 139) 1 false, none⟩,
 ⟨(some 141), .fa (.t 10) 7, none⟩,
 ⟨(some 142), .ld (.t 141) 1 false, none⟩,
 ⟨(some 143), .mkf 75 [(.t 4), (.t 5)], none⟩,
 ⟨(some 144), .call 74 [(.t 140), (.t 142), (.t 143)], none⟩,
 ⟨(some 145), .mv (.t 144), none⟩,
 ⟨(some 146), .ld (.t 4) 1 false, (some (145, true))⟩,
 ⟨(some 147), .ld (.t 5) 1 false, (some (145, true))⟩,
 ⟨(some 148), .fa (.t 9) 8, (some (145, true))⟩,
 ⟨(some 149), .ld (.t 148) 1 false, (some (145, true))⟩,
 ⟨(some 150), .fa (.t 10) 8, (some (145, true))⟩,
 ⟨(some 151), .ld (.t 150) 1 false, (some (145, true))⟩,
 ⟨(some 152), .call 62 [(.t 146), (.t 147), (.t 149), (.t 151)], (some (145, true))⟩,
 ⟨(some 153), .pick (.t 145) (.t 152) (.c (.d (.v (.bool false)))), none⟩,
 ⟨(some 8), .mv (.t 153), none⟩])
 (.ret)) (.skip)))))))
 (.seq (.reg [⟨(some 8), .mv (.c (.d (.v (.bool false)))), none⟩])
 (.ret)))))))))
def r62 : List RC := [.t 8]

/-- spinet/tables.opens -/
def c63 : AC :=
 .seq (.reg [⟨(some 8), .mv (.c (.d (.v (.bool false)))), none⟩])
 (.seq (.dreg [[], [], [0, 1], [2], [], [], [4, 5], [6], [], [], [8, 3, 0, 1, 2, 3, 8, 9], [9, 7, 10, 0, 1, 2, 3, 4, 5, 6, 7, 8, 9, 10]] [⟨(some 11), .mv (.t 0), none⟩,
 ⟨(some 12), .mv (.t 1), none⟩,
 ⟨(some 13), .ia (.t 11) (.t 12) 10, none⟩,
 ⟨(some 14), .ld (.t 13) 10 true, none⟩,
 ⟨(some 15), .mv (.t 0), none⟩,
 ⟨(some 16), .mv (.t 2), none⟩,
 ⟨(some 17), .ia (.t 15) (.t 16) 10, none⟩,
 ⟨(some 18), .ld (.t 17) 10 true, none⟩,
 ⟨(some 9), .al [(.d (.v (.int .i64 0))), (.d (.v (.string ⟨#[]⟩))), (.d (.v (.string ⟨#[]⟩))), (.d (.v (.int .i64 0))), (.d (.v (.int .i64 0))), (.d (.v (.int .i64 0))), .esl, .esl, (.d (.v (.int .i64 0))), (.d (.v (.int .i64 0)))], none⟩,
 ⟨(some 10), .al [(.d (.v (.int .i64 0))), (.d (.v (.string ⟨#[]⟩))), (.d (.v (.string ⟨#[]⟩))), (.d (.v (.int .i64 0))), (.d (.v (.int .i64 0))), (.d (.v (.int .i64 0))), .esl, .esl, (.d (.v (.int .i64 0))), (.d (.v (.int .i64 0)))], none⟩,
 ⟨none, .st (.t 9) (.t 14) 10, none⟩,
 ⟨none, .st (.t 10) (.t 18) 10, none⟩])
 (.seq (.seq (.reg [⟨(some 19), .fa (.t 9) 0, none⟩,
 ⟨(some 20), .ld (.t 19) 1 false, none⟩])
 (.block 0 (.seq (.seq (.reg [⟨(some 22), .bin .eql (.t 20) (.c (.d (.v (.int .i64 7)))), none⟩,
 ⟨(some 21), .mv (.t 22), none⟩])
 (.cond (.t 21) (.skip) (.reg [⟨(some 23), .bin .eql (.t 20) (.c (.d (.v (.int .i64 8)))), none⟩,
 ⟨(some 21), .mv (.t 23), none⟩])))
 (.cond (.t 21) (.seq (.reg [⟨(some 24), .mv (.t 0), none⟩,
 ⟨(some 25), .fa (.t 9) 4, none⟩,
 ⟨(some 26), .ld (.t 25) 1 false, none⟩,
 ⟨(some 27), .fa (.t 10) 4, none⟩,
 ⟨(some 28), .ld (.t 27) 1 false, none⟩,
 ⟨(some 29), .call 38 [(.t 24), (.t 26), (.t 28)], none⟩,
 ⟨(some 30), .mv (.t 29), none⟩,
 ⟨(some 31), .mv (.t 0), (some (30, false))⟩,
 ⟨(some 32), .fa (.t 10) 4, (some (30, false))⟩,
 ⟨(some 33), .ld (.t 32) 1 false, (some (30, false))⟩,
 ⟨(some 34), .ia (.t 31) (.t 33) 10, (some (30, false))⟩,
 ⟨(some 35), .fa (.t 34) 0, (some (30, false))⟩,
 ⟨(some 36), .ld (.t 35) 1 false, (some (30, false))⟩,
 ⟨(some 37), .bin .eql (.t 36) (.c (.d (.v (.int .i64 8)))), (some (30, false))⟩,
 ⟨(some 38), .mv (.t 37), (some (30, false))⟩,
 ⟨(some 39), .mv (.t 0), (some (38, true))⟩,
 ⟨(some 40), .fa (.t 9) 4, (some (38, true))⟩,
 ⟨(some 41), .ld (.t 40) 1 false, (some (38, true))⟩,
 ⟨(some 42), .fa (.t 10) 4, (some (38, true))⟩,
 ⟨(some 43), .ld (.t 42) 1 false, (some (38, true))⟩,
 ⟨(some 44), .mv (.t 3), (some (38, true))⟩,
 ⟨(some 45), .call 63 [(.t 39), (.t 41), (.t 43), (.t 44)], (some (38, true))⟩,
 ⟨(some 46), .pick (.t 38) (.t 45) (.c (.d (.v (.bool false)))), (some (30, false))⟩,
 ⟨(some 47), .pick (.t 30) (.c (.d (.v (.bool true)))) (.t 46), none⟩,
 ⟨(some 8), .mv (.t 47), none⟩])
 (.ret)) (.seq (.reg [⟨(some 49), .bin .eql (.t 20) (.c (.d (.v (.int .i64 6)))), none⟩,
 ⟨(some 48), .mv (.t 49), none⟩])
 (.cond (.t 48) (.seq (.reg [⟨(some 50), .mv (.t 3), none⟩,
 ⟨(some 51), .un .not (.t 50), none⟩,
 ⟨(some 52), .mv (.t 51), none⟩,
 ⟨(some 53), .mv (.t 0), (some (52, true))⟩,
 ⟨(some 54), .fa (.t 10) 4, (some (52, true))⟩,
 ⟨(some 55), .ld (.t 54) 1 false, (some (52, true))⟩,
 ⟨(some 56), .ia (.t 53) (.t 55) 10, (some (52, true))⟩,
 ⟨(some 57), .fa (.t 56) 0, (some (52, true))⟩,
 ⟨(some 58), .ld (.t 57) 1 false, (some (52, true))⟩,
 ⟨(some 59), .bin .eql (.t 58) (.c (.d (.v (.int .i64 3)))), (some (52, true))⟩,
 ⟨(some 60), .pick (.t 52) (.t 59) (.c (.d (.v (.bool false)))), none⟩,
 ⟨(some 8), .mv (.t 60), none⟩])
 (.ret)) (.skip)))))))
 (.seq (.reg [⟨(some 8), .mv (.c (.d (.v (.bool false)))), none⟩])
 (.ret))))
def r63 : List RC := [.t 8]

def c74l0 : AC :=
 .seq (.reg [⟨(some 18), .bin .lss (.t 17) (.t 16), none⟩])
 (.seq (.cond (.t 18) (.skip) (.exit 0))
 (.seq (.block 1 (.seq (.reg [⟨(some 19), .mv (.t 17), none⟩,
 ⟨(some 20), .ia (.t 15) (.t 17) 2, none⟩,
 ⟨(some 21), .ld (.t 20) 2 true, none⟩,
 ⟨(some 8), .al [(.d (.v (.bool false))), (.d (.v (.int .i64 0)))], none⟩,
 ⟨(some 7), .mv (.t 19), none⟩,
 ⟨none, .st (.t 8) (.t 21) 2, none⟩])
 (.seq (.reg [⟨(some 22), .mv (.t 1), none⟩,
 ⟨(some 23), .mv (.t 7), none⟩,
 ⟨(some 24), .ia (.t 22) (.t 23) 2, none⟩,
 ⟨(some 25), .ld (.t 24) 2 true, none⟩,
 ⟨(some 9), .al [(.d (.v (.bool false))), (.d (.v (.int .i64 0)))], none⟩,
 ⟨none, .st (.t 9) (.t 25) 2, none⟩])
 (.seq (.reg [⟨(some 26), .mv (.t 2), none⟩,
 ⟨(some 27), .ld (.t 8) 2 true, none⟩,
 ⟨(some 28), .ld (.t 9) 2 true, none⟩,
 ⟨(some 29), .callv (.t 26) [(.t 27), (.t 28)], none⟩,
 ⟨(some 30), .un .not (.t 29), none⟩])
 (.cond (.t 30) (.seq (.reg [⟨(some 6), .mv (.c (.d (.v (.bool false)))), none⟩])
 (.ret)) (.skip))))))
 (.reg [⟨(some 31), .bin .add (.t 17) (.c (.d (.v (.int .i64 1)))), none⟩,
 ⟨(some 17), .mv (.t 31), none⟩])))

/-- slices.EqualFunc[[]spinet/api.TyParam,[]spinet/api.TyParam,spinet/api.TyParam,spinet/api.TyParam] -/
def c74 : AC :=
 .seq (.reg [⟨(some 6), .mv (.c (.d (.v (.bool false)))), none⟩])
 (.seq (.seq (.reg [⟨(some 10), .mv (.t 0), none⟩,
 ⟨(some 11), .len false (.t 10), none⟩,
 ⟨(some 12), .mv (.t 1), none⟩,
 ⟨(some 13), .len false (.t 12), none⟩,
 ⟨(some 14), .bin .neq (.t 11) (.t 13), none⟩])
 (.cond (.t 14) (.seq (.reg [⟨(some 6), .mv (.c (.d (.v (.bool false)))), none⟩])
 (.ret)) (.skip)))
 (.seq (.seq (.reg [⟨(some 15), .mv (.t 0), none⟩,
 ⟨(some 16), .len false (.t 15), none⟩,
 ⟨(some 17), .mv (.c (.d (.v (.int .i64 0)))), none⟩])
 (.block 0 (.loop c74l0)))
 (.seq (.reg [⟨(some 6), .mv (.c (.d (.v (.bool true)))), none⟩])
 (.ret))))
def r74 : List RC := [.t 6]

/-- (spinet/tables.pairs).same$1 -/
def c75 : AC :=
 .seq (.reg [⟨(some 4), .bx (.t 0), none⟩,
 ⟨(some 5), .bx (.t 1), none⟩,
 ⟨(some 6), .mv (.c (.d (.v (.bool false)))), none⟩])
 (.seq (.reg [⟨(some 7), .fa (.t 4) 0, none⟩,
 ⟨(some 8), .ld (.t 7) 1 false, none⟩,
 ⟨(some 9), .fa (.t 5) 0, none⟩,
 ⟨(some 10), .ld (.t 9) 1 false, none⟩,
 ⟨(some 11), .eqs false (.t 8) (.t 10), none⟩,
 ⟨(some 12), .mv (.t 11), none⟩,
 ⟨(some 13), .ld (.t 2) 1 false, (some (12, true))⟩,
 ⟨(some 14), .ld (.t 3) 1 false, (some (12, true))⟩,
 ⟨(some 15), .fa (.t 4) 1, (some (12, true))⟩,
 ⟨(some 16), .ld (.t 15) 1 false, (some (12, true))⟩,
 ⟨(some 17), .fa (.t 5) 1, (some (12, true))⟩,
 ⟨(some 18), .ld (.t 17) 1 false, (some (12, true))⟩,
 ⟨(some 19), .call 62 [(.t 13), (.t 14), (.t 16), (.t 18)], (some (12, true))⟩,
 ⟨(some 20), .pick (.t 12) (.t 19) (.c (.d (.v (.bool false)))), none⟩,
 ⟨(some 6), .mv (.t 20), none⟩])
 (.ret))
def r75 : List RC := [.t 6]

theorem cc3 : Try.f3.body.bind (comp Try.prog (hhS 3)) = some c3 := by kernel_rfl
theorem rr3 : resC Try.prog Try.f3 = some r3 := by kernel_rfl
theorem cc4 : Try.f4.body.bind (comp Try.prog (hhS 4)) = some c4 := by kernel_rfl
theorem rr4 : resC Try.prog Try.f4 = some r4 := by kernel_rfl
theorem cc5 : Try.f5.body.bind (comp Try.prog (hhS 5)) = some c5 := by kernel_rfl
theorem rr5 : resC Try.prog Try.f5 = some r5 := by kernel_rfl
theorem cc6 : Try.f6.body.bind (comp Try.prog (hhS 6)) = some c6 := by kernel_rfl
theorem rr6 : resC Try.prog Try.f6 = some r6 := by kernel_rfl
theorem cc13 : Try.f13.body.bind (comp Try.prog (hhS 13)) = some c13 := by kernel_rfl
theorem rr13 : resC Try.prog Try.f13 = some r13 := by kernel_rfl
theorem cc20 : Try.f20.body.bind (comp Try.prog (hhS 20)) = some c20 := by kernel_rfl
theorem rr20 : resC Try.prog Try.f20 = some r20 := by kernel_rfl
theorem cc21 : Try.f21.body.bind (comp Try.prog (hhS 21)) = some c21 := by kernel_rfl
theorem rr21 : resC Try.prog Try.f21 = some r21 := by kernel_rfl
theorem cc22 : Try.f22.body.bind (comp Try.prog (hhS 22)) = some c22 := by kernel_rfl
theorem rr22 : resC Try.prog Try.f22 = some r22 := by kernel_rfl
theorem cc23 : Try.f23.body.bind (comp Try.prog (hhS 23)) = some c23 := by kernel_rfl
theorem rr23 : resC Try.prog Try.f23 = some r23 := by kernel_rfl
theorem cc24 : Try.f24.body.bind (comp Try.prog (hhS 24)) = some c24 := by kernel_rfl
theorem rr24 : resC Try.prog Try.f24 = some r24 := by kernel_rfl
theorem cc37 : Try.f37.body.bind (comp Try.prog (hhS 37)) = some c37 := by kernel_rfl
theorem rr37 : resC Try.prog Try.f37 = some r37 := by kernel_rfl
theorem cc38 : Try.f38.body.bind (comp Try.prog (hhS 38)) = some c38 := by kernel_rfl
theorem rr38 : resC Try.prog Try.f38 = some r38 := by kernel_rfl
theorem cc39 : Try.f39.body.bind (comp Try.prog (hhS 39)) = some c39 := by kernel_rfl
theorem rr39 : resC Try.prog Try.f39 = some r39 := by kernel_rfl
theorem cc40 : Try.f40.body.bind (comp Try.prog (hhS 40)) = some c40 := by kernel_rfl
theorem rr40 : resC Try.prog Try.f40 = some r40 := by kernel_rfl
theorem cc41 : Try.f41.body.bind (comp Try.prog (hhS 41)) = some c41 := by kernel_rfl
theorem rr41 : resC Try.prog Try.f41 = some r41 := by kernel_rfl
theorem cc42 : Try.f42.body.bind (comp Try.prog (hhS 42)) = some c42 := by kernel_rfl
theorem rr42 : resC Try.prog Try.f42 = some r42 := by kernel_rfl
theorem cc62 : Try.f62.body.bind (comp Try.prog (hhS 62)) = some c62 := by kernel_rfl
theorem rr62 : resC Try.prog Try.f62 = some r62 := by kernel_rfl
theorem cc63 : Try.f63.body.bind (comp Try.prog (hhS 63)) = some c63 := by kernel_rfl
theorem rr63 : resC Try.prog Try.f63 = some r63 := by kernel_rfl
theorem cc74 : Try.f74.body.bind (comp Try.prog (hhS 74)) = some c74 := by kernel_rfl
theorem rr74 : resC Try.prog Try.f74 = some r74 := by kernel_rfl
theorem cc75 : Try.f75.body.bind (comp Try.prog (hhS 75)) = some c75 := by kernel_rfl
theorem rr75 : resC Try.prog Try.f75 = some r75 := by kernel_rfl
end Go.Proofs.Ytlhpcccffmfopaa
