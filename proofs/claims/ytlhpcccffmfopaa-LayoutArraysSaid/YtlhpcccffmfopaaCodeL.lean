/- The functions' code in the small language. Printed by program (wip/tools). -/
import Derived.Test.YtlhpcccffmfopaaWalk2
import Derived.Test.YtlhpcccffmfopaaProg
import Derived.KernelRfl
namespace Go.Proofs.Ytlhpcccffmfopaa
set_option linter.unusedVariables false
set_option linter.unusedSimpArgs false
set_option linter.unusedSectionVars false
open Go.RowKit
def hhL : Nat → Nat → Option Md := fun fn slot => if (fn, slot) ∈ [(36, 7), (36, 36), (36, 50), (73, 8), (14, 3), (18, 1), (19, 1), (48, 8), (49, 3), (30, 7)] then some .gr else if (fn, slot) ∈ [(14, 19), (14, 23), (9, 20)] then some .im else none

/-- spinet/spinetlaw14.LayoutSizes -/
def c7 : AC :=
 .seq (.reg [⟨(some 4), .mv (.c (.d (.v (.bool false)))), none⟩])
 (.seq (.seq (.reg [⟨(some 6), .mv (.t 0), none⟩,
 ⟨(some 7), .call 12 [(.t 6)], none⟩])
 (.cond (.t 7) (.seq (.reg [⟨(some 8), .call 25 [], none⟩,
 ⟨(some 4), .mv (.t 8), none⟩])
 (.ret)) (.skip)))
 (.seq (.reg [⟨(some 9), .mv (.t 0), none⟩,
 ⟨(some 10), .call 14 [(.t 9)], none⟩,
 ⟨(some 5), .mv (.t 10), none⟩])
 (.seq (.reg [⟨(some 11), .mv (.t 5), none⟩,
 ⟨(some 12), .mv (.t 1), none⟩,
 ⟨(some 13), .call 26 [(.t 11), (.t 12)], none⟩,
 ⟨(some 14), .mv (.t 0), none⟩,
 ⟨(some 15), .mv (.t 1), none⟩,
 ⟨(some 16), .call 27 [(.t 14), (.t 15)], none⟩,
 ⟨(some 17), .bin .eql (.t 13) (.t 16), none⟩,
 ⟨(some 18), .mv (.t 17), none⟩,
 ⟨(some 19), .mv (.t 5), (some (18, true))⟩,
 ⟨(some 20), .mv (.t 0), (some (18, true))⟩,
 ⟨(some 21), .call 17 [(.t 19), (.t 20)], (some (18, true))⟩,
 ⟨(some 22), .pick (.t 18) (.t 21) (.c (.d (.v (.bool false)))), none⟩,
 ⟨(some 23), .mv (.t 22), none⟩,
 ⟨(some 24), .call 25 [], (some (23, true))⟩,
 ⟨(some 25), .pick (.t 23) (.t 24) (.c (.d (.v (.bool false)))), none⟩,
 ⟨(some 4), .mv (.t 25), none⟩])
 (.ret))))
def r7 : List RC := [.t 4]

/-- spinet/spinetlaw14.LayoutFields -/
def c8 : AC :=
 .seq (.reg [⟨(some 6), .mv (.c (.d (.v (.bool false)))), none⟩])
 (.seq (.seq (.reg [⟨(some 13), .mv (.t 0), none⟩,
 ⟨(some 14), .call 12 [(.t 13)], none⟩,
 ⟨(some 15), .mv (.t 14), none⟩,
 ⟨(some 16), .mv (.t 2), (some (15, false))⟩,
 ⟨(some 17), .len true (.t 16), (some (15, false))⟩,
 ⟨(some 18), .bin .gtr (.t 17) (.c (.d (.v (.int .i64 1000)))), (some (15, false))⟩,
 ⟨(some 19), .pick (.t 15) (.c (.d (.v (.bool true)))) (.t 18), none⟩])
 (.cond (.t 19) (.seq (.reg [⟨(some 20), .call 25 [], none⟩,
 ⟨(some 6), .mv (.t 20), none⟩])
 (.ret)) (.skip)))
 (.seq (.reg [⟨(some 22), .mv (.t 0), none⟩,
 ⟨(some 23), .call 14 [(.t 22)], none⟩,
 ⟨(some 24), .mv (.t 1), none⟩,
 ⟨(some 25), .mv (.t 2), none⟩,
 ⟨(some 26), .call 28 [(.t 23), (.t 24), (.t 25)], none⟩,
 ⟨(some 21), .mv (.t 26), none⟩,
 ⟨(some 27), .ext (.t 21) 0, none⟩,
 ⟨(some 28), .ext (.t 21) 1, none⟩,
 ⟨(some 29), .ext (.t 21) 2, none⟩,
 ⟨(some 7), .mv (.t 27), none⟩,
 ⟨(some 8), .mv (.t 28), none⟩,
 ⟨(some 9), .mv (.t 29), none⟩])
 (.seq (.reg [⟨(some 31), .mv (.t 0), none⟩,
 ⟨(some 32), .mv (.t 1), none⟩,
 ⟨(some 33), .mv (.t 2), none⟩,
 ⟨(some 34), .call 29 [(.t 31), (.t 32), (.t 33)], none⟩,
 ⟨(some 30), .mv (.t 34), none⟩,
 ⟨(some 35), .ext (.t 30) 0, none⟩,
 ⟨(some 36), .ext (.t 30) 1, none⟩,
 ⟨(some 37), .ext (.t 30) 2, none⟩,
 ⟨(some 10), .mv (.t 35), none⟩,
 ⟨(some 11), .mv (.t 36), none⟩,
 ⟨(some 12), .mv (.t 37), none⟩])
 (.seq (.reg [⟨(some 38), .mv (.t 7), none⟩,
 ⟨(some 39), .mv (.t 10), none⟩,
 ⟨(some 40), .bin .eql (.t 38) (.t 39), none⟩,
 ⟨(some 41), .mv (.t 40), none⟩,
 ⟨(some 42), .mv (.t 8), (some (41, true))⟩,
 ⟨(some 43), .mv (.t 11), (some (41, true))⟩,
 ⟨(some 44), .bin .eql (.t 42) (.t 43), (some (41, true))⟩,
 ⟨(some 45), .pick (.t 41) (.t 44) (.c (.d (.v (.bool false)))), none⟩,
 ⟨(some 46), .mv (.t 45), none⟩,
 ⟨(some 47), .mv (.t 9), (some (46, true))⟩,
 ⟨(some 48), .mv (.t 12), (some (46, true))⟩,
 ⟨(some 49), .eqs false (.t 47) (.t 48), (some (46, true))⟩,
 ⟨(some 50), .pick (.t 46) (.t 49) (.c (.d (.v (.bool false)))), none⟩,
 ⟨(some 51), .mv (.t 50), none⟩,
 ⟨(some 52), .call 25 [], (some (51, true))⟩,
 ⟨(some 53), .pick (.t 51) (.t 52) (.c (.d (.v (.bool false)))), none⟩,
 ⟨(some 6), .mv (.t 53), none⟩])
 (.ret)))))
def r8 : List RC := [.t 6]

/-- spinet/spinetlaw14.LayoutVars -/
def c9 : AC :=
 .seq (.reg [⟨(some 4), .mv (.c (.d (.v (.bool false)))), none⟩])
 (.seq (.seq (.reg [⟨(some 10), .mv (.t 0), none⟩,
 ⟨(some 11), .call 12 [(.t 10)], none⟩,
 ⟨(some 12), .mv (.t 11), none⟩,
 ⟨(some 13), .mv (.t 1), (some (12, false))⟩,
 ⟨(some 14), .len false (.t 13), (some (12, false))⟩,
 ⟨(some 15), .bin .gtr (.t 14) (.c (.d (.v (.int .i64 300)))), (some (12, false))⟩,
 ⟨(some 16), .pick (.t 12) (.c (.d (.v (.bool true)))) (.t 15), none⟩])
 (.cond (.t 16) (.seq (.reg [⟨(some 17), .call 25 [], none⟩,
 ⟨(some 4), .mv (.t 17), none⟩])
 (.ret)) (.skip)))
 (.seq (.reg [⟨(some 18), .bs .im 3 1 [], none⟩,
 ⟨(some 19), .mv (.t 1), none⟩,
 ⟨(some 20), .app .im 3 1 8 (.t 18) (.t 19), none⟩,
 ⟨(some 5), .mv (.t 20), none⟩])
 (.seq (.reg [⟨(some 22), .mv (.t 0), none⟩,
 ⟨(some 23), .call 14 [(.t 22)], none⟩,
 ⟨(some 24), .mv (.t 5), none⟩,
 ⟨(some 25), .call 30 [(.t 23), (.t 24)], none⟩,
 ⟨(some 21), .mv (.t 25), none⟩,
 ⟨(some 26), .ext (.t 21) 0, none⟩,
 ⟨(some 27), .ext (.t 21) 1, none⟩,
 ⟨(some 6), .mv (.t 26), none⟩,
 ⟨(some 7), .mv (.t 27), none⟩])
 (.seq (.reg [⟨(some 29), .mv (.t 0), none⟩,
 ⟨(some 30), .mv (.t 1), none⟩,
 ⟨(some 31), .call 31 [(.t 29), (.t 30)], none⟩,
 ⟨(some 28), .mv (.t 31), none⟩,
 ⟨(some 32), .ext (.t 28) 0, none⟩,
 ⟨(some 33), .ext (.t 28) 1, none⟩,
 ⟨(some 8), .mv (.t 32), none⟩,
 ⟨(some 9), .mv (.t 33), none⟩])
 (.seq (.reg [⟨(some 34), .mv (.t 7), none⟩,
 ⟨(some 35), .mv (.t 9), none⟩,
 ⟨(some 36), .bin .eql (.t 34) (.t 35), none⟩,
 ⟨(some 37), .mv (.t 36), none⟩,
 ⟨(some 38), .mv (.t 6), (some (37, true))⟩,
 ⟨(some 39), .mv (.t 8), (some (37, true))⟩,
 ⟨(some 40), .call 32 [(.t 38), (.t 39)], (some (37, true))⟩,
 ⟨(some 41), .pick (.t 37) (.t 40) (.c (.d (.v (.bool false)))), none⟩,
 ⟨(some 42), .mv (.t 41), none⟩,
 ⟨(some 43), .mv (.t 5), (some (42, true))⟩,
 ⟨(some 44), .mv (.t 1), (some (42, true))⟩,
 ⟨(some 45), .call 32 [(.t 43), (.t 44)], (some (42, true))⟩,
 ⟨(some 46), .pick (.t 42) (.t 45) (.c (.d (.v (.bool false)))), none⟩,
 ⟨(some 47), .mv (.t 46), none⟩,
 ⟨(some 48), .call 25 [], (some (47, true))⟩,
 ⟨(some 49), .pick (.t 47) (.t 48) (.c (.d (.v (.bool false)))), none⟩,
 ⟨(some 4), .mv (.t 49), none⟩])
 (.ret))))))
def r9 : List RC := [.t 4]

def c10l0 : AC :=
 .seq (.seq (.reg [⟨(some 154), .mv (.t 18), none⟩,
 ⟨(some 155), .mv (.t 11), none⟩,
 ⟨(some 156), .mv (.t 17), none⟩,
 ⟨(some 157), .bin .add (.t 155) (.t 156), none⟩,
 ⟨(some 158), .bin .lss (.t 154) (.t 157), none⟩])
 (.cond (.t 158) (.skip) (.exit 4)))
 (.seq (.block 5 (.seq (.reg [⟨(some 161), .mv (.t 7), none⟩,
 ⟨(some 162), .mv (.t 18), none⟩,
 ⟨(some 163), .ia (.t 161) (.t 162) 1, none⟩,
 ⟨(some 164), .ld (.t 163) 1 false, none⟩,
 ⟨(some 165), .bin .add (.t 164) (.c (.d (.v (.int .i64 1)))), none⟩,
 ⟨(some 166), .ia (.t 161) (.t 162) 1, none⟩,
 ⟨none, .st (.t 166) (.t 165) 1, none⟩])
 (.seq (.reg [⟨(some 167), .mv (.t 7), none⟩,
 ⟨(some 168), .mv (.t 18), none⟩,
 ⟨(some 169), .ia (.t 167) (.t 168) 1, none⟩,
 ⟨(some 170), .ld (.t 169) 1 false, none⟩,
 ⟨(some 171), .bin .gtr (.t 170) (.c (.d (.v (.int .i64 1)))), none⟩])
 (.cond (.t 171) (.seq (.reg [⟨(some 4), .mv (.c (.d (.v (.bool false)))), none⟩])
 (.ret)) (.skip)))))
 (.reg [⟨(some 159), .mv (.t 18), none⟩,
 ⟨(some 160), .bin .add (.t 159) (.c (.d (.v (.int .i64 1)))), none⟩,
 ⟨(some 18), .mv (.t 160), none⟩]))

def c10l1 : AC :=
 .seq (.seq (.reg [⟨(some 64), .mv (.t 10), none⟩,
 ⟨(some 65), .mv (.t 0), none⟩,
 ⟨(some 66), .mv (.t 8), none⟩,
 ⟨(some 67), .ia (.t 65) (.t 66) 10, none⟩,
 ⟨(some 68), .fa (.t 67) 6, none⟩,
 ⟨(some 69), .ld (.t 68) 1 false, none⟩,
 ⟨(some 70), .len false (.t 69), none⟩,
 ⟨(some 71), .bin .lss (.t 64) (.t 70), none⟩])
 (.cond (.t 71) (.skip) (.exit 2)))
 (.seq (.block 3 (.seq (.reg [⟨(some 75), .mv (.t 5), none⟩,
 ⟨(some 76), .mv (.t 1), none⟩,
 ⟨(some 77), .mv (.t 0), none⟩,
 ⟨(some 78), .mv (.t 8), none⟩,
 ⟨(some 79), .ia (.t 77) (.t 78) 10, none⟩,
 ⟨(some 80), .fa (.t 79) 6, none⟩,
 ⟨(some 81), .ld (.t 80) 1 false, none⟩,
 ⟨(some 82), .mv (.t 10), none⟩,
 ⟨(some 83), .ia (.t 81) (.t 82) 3, none⟩,
 ⟨(some 84), .fa (.t 83) 0, none⟩,
 ⟨(some 85), .ld (.t 84) 1 false, none⟩,
 ⟨(some 86), .call 28 [(.t 75), (.t 76), (.t 85)], none⟩,
 ⟨(some 74), .mv (.t 86), none⟩,
 ⟨(some 87), .ext (.t 74) 0, none⟩,
 ⟨(some 88), .ext (.t 74) 1, none⟩,
 ⟨(some 89), .ext (.t 74) 2, none⟩,
 ⟨(some 11), .mv (.t 87), none⟩,
 ⟨(some 12), .mv (.t 88), none⟩,
 ⟨(some 13), .mv (.t 89), none⟩])
 (.seq (.seq (.reg [⟨(some 90), .mv (.t 13), none⟩,
 ⟨(some 91), .un .not (.t 90), none⟩,
 ⟨(some 92), .mv (.t 91), none⟩,
 ⟨(some 93), .mv (.t 12), (some (92, false))⟩,
 ⟨(some 94), .mv (.t 0), (some (92, false))⟩,
 ⟨(some 95), .mv (.t 8), (some (92, false))⟩,
 ⟨(some 96), .ia (.t 94) (.t 95) 10, (some (92, false))⟩,
 ⟨(some 97), .fa (.t 96) 6, (some (92, false))⟩,
 ⟨(some 98), .ld (.t 97) 1 false, (some (92, false))⟩,
 ⟨(some 99), .mv (.t 10), (some (92, false))⟩,
 ⟨(some 100), .ia (.t 98) (.t 99) 3, (some (92, false))⟩,
 ⟨(some 101), .fa (.t 100) 2, (some (92, false))⟩,
 ⟨(some 102), .ld (.t 101) 1 false, (some (92, false))⟩,
 ⟨(some 103), .bin .neq (.t 93) (.t 102), (some (92, false))⟩,
 ⟨(some 104), .pick (.t 92) (.c (.d (.v (.bool true)))) (.t 103), none⟩])
 (.cond (.t 104) (.seq (.reg [⟨(some 4), .mv (.c (.d (.v (.bool false)))), none⟩])
 (.ret)) (.skip)))
 (.seq (.seq (.reg [⟨(some 106), .mv (.t 5), none⟩,
 ⟨(some 107), .mv (.t 8), none⟩,
 ⟨(some 108), .mv (.t 0), none⟩,
 ⟨(some 109), .mv (.t 8), none⟩,
 ⟨(some 110), .ia (.t 108) (.t 109) 10, none⟩,
 ⟨(some 111), .fa (.t 110) 6, none⟩,
 ⟨(some 112), .ld (.t 111) 1 false, none⟩,
 ⟨(some 113), .mv (.t 10), none⟩,
 ⟨(some 114), .ia (.t 112) (.t 113) 3, none⟩,
 ⟨(some 115), .fa (.t 114) 0, none⟩,
 ⟨(some 116), .ld (.t 115) 1 false, none⟩,
 ⟨(some 117), .call 28 [(.t 106), (.t 107), (.t 116)], none⟩,
 ⟨(some 105), .mv (.t 117), none⟩,
 ⟨(some 118), .ext (.t 105) 0, none⟩,
 ⟨(some 119), .ext (.t 105) 1, none⟩,
 ⟨(some 120), .ext (.t 105) 2, none⟩,
 ⟨(some 14), .mv (.t 118), none⟩,
 ⟨(some 15), .mv (.t 119), none⟩,
 ⟨(some 16), .mv (.t 120), none⟩])
 (.seq (.reg [⟨(some 121), .mv (.t 16), none⟩,
 ⟨(some 122), .un .not (.t 121), none⟩,
 ⟨(some 123), .mv (.t 122), none⟩,
 ⟨(some 124), .mv (.t 14), (some (123, false))⟩,
 ⟨(some 125), .mv (.t 11), (some (123, false))⟩,
 ⟨(some 126), .bin .neq (.t 124) (.t 125), (some (123, false))⟩,
 ⟨(some 127), .pick (.t 123) (.c (.d (.v (.bool true)))) (.t 126), none⟩])
 (.cond (.t 127) (.seq (.reg [⟨(some 4), .mv (.c (.d (.v (.bool false)))), none⟩])
 (.ret)) (.skip))))
 (.seq (.reg [⟨(some 128), .mv (.t 5), none⟩,
 ⟨(some 129), .mv (.t 12), none⟩,
 ⟨(some 130), .call 26 [(.t 128), (.t 129)], none⟩,
 ⟨(some 17), .mv (.t 130), none⟩])
 (.seq (.seq (.reg [⟨(some 131), .mv (.t 11), none⟩,
 ⟨(some 132), .bin .lss (.t 131) (.c (.d (.v (.int .i64 0)))), none⟩,
 ⟨(some 133), .mv (.t 132), none⟩,
 ⟨(some 134), .mv (.t 17), (some (133, false))⟩,
 ⟨(some 135), .bin .lss (.t 134) (.c (.d (.v (.int .i64 0)))), (some (133, false))⟩,
 ⟨(some 136), .pick (.t 133) (.c (.d (.v (.bool true)))) (.t 135), none⟩,
 ⟨(some 137), .mv (.t 136), none⟩,
 ⟨(some 138), .mv (.t 11), (some (137, false))⟩,
 ⟨(some 139), .mv (.t 17), (some (137, false))⟩,
 ⟨(some 140), .bin .add (.t 138) (.t 139), (some (137, false))⟩,
 ⟨(some 141), .mv (.t 6), (some (137, false))⟩,
 ⟨(some 142), .bin .gtr (.t 140) (.t 141), (some (137, false))⟩,
 ⟨(some 143), .pick (.t 137) (.c (.d (.v (.bool true)))) (.t 142), none⟩,
 ⟨(some 144), .mv (.t 143), none⟩,
 ⟨(some 145), .mv (.t 17), (some (144, false))⟩,
 ⟨(some 146), .bin .gtr (.t 145) (.c (.d (.v (.int .i64 1)))), (some (144, false))⟩,
 ⟨(some 147), .mv (.t 146), (some (144, false))⟩,
 ⟨(some 148), .mv (.t 11), (some (147, true))⟩,
 ⟨(some 149), .bin .rem (.t 148) (.c (.d (.v (.int .i64 4)))), (some (147, true))⟩,
 ⟨(some 150), .bin .neq (.t 149) (.c (.d (.v (.int .i64 0)))), (some (147, true))⟩,
 ⟨(some 151), .pick (.t 147) (.t 150) (.c (.d (.v (.bool false)))), (some (144, false))⟩,
 ⟨(some 152), .pick (.t 144) (.c (.d (.v (.bool true)))) (.t 151), none⟩])
 (.cond (.t 152) (.seq (.reg [⟨(some 4), .mv (.c (.d (.v (.bool false)))), none⟩])
 (.ret)) (.skip)))
 (.seq (.reg [⟨(some 153), .mv (.t 11), none⟩,
 ⟨(some 18), .mv (.t 153), none⟩])
 (.block 4 (.loop c10l0)))))))))
 (.reg [⟨(some 72), .mv (.t 10), none⟩,
 ⟨(some 73), .bin .add (.t 72) (.c (.d (.v (.int .i64 1)))), none⟩,
 ⟨(some 10), .mv (.t 73), none⟩]))

def c10l2 : AC :=
 .seq (.seq (.reg [⟨(some 60), .mv (.t 9), none⟩,
 ⟨(some 61), .bin .lss (.t 60) (.c (.d (.v (.int .i64 10)))), none⟩])
 (.cond (.t 61) (.skip) (.exit 0)))
 (.seq (.block 1 (.seq (.seq (.reg [⟨(some 10), .mv (.c (.d (.v (.int .i64 0)))), none⟩])
 (.block 2 (.loop c10l1)))
 (.seq (.seq (.reg [⟨(some 172), .mv (.t 0), none⟩,
 ⟨(some 173), .mv (.t 8), none⟩,
 ⟨(some 174), .ia (.t 172) (.t 173) 10, none⟩,
 ⟨(some 175), .fa (.t 174) 5, none⟩,
 ⟨(some 176), .ld (.t 175) 1 false, none⟩,
 ⟨(some 177), .bin .eql (.t 176) (.c (.d (.v (.int .i64 0)))), none⟩])
 (.cond (.t 177) (.exit 0) (.skip)))
 (.seq (.seq (.reg [⟨(some 178), .mv (.t 5), none⟩,
 ⟨(some 179), .mv (.t 0), none⟩,
 ⟨(some 180), .mv (.t 8), none⟩,
 ⟨(some 181), .ia (.t 179) (.t 180) 10, none⟩,
 ⟨(some 182), .fa (.t 181) 5, none⟩,
 ⟨(some 183), .ld (.t 182) 1 false, none⟩,
 ⟨(some 184), .call 26 [(.t 178), (.t 183)], none⟩,
 ⟨(some 185), .mv (.t 6), none⟩,
 ⟨(some 186), .bin .gtr (.t 184) (.t 185), none⟩])
 (.cond (.t 186) (.seq (.reg [⟨(some 4), .mv (.c (.d (.v (.bool false)))), none⟩])
 (.ret)) (.skip)))
 (.reg [⟨(some 187), .mv (.t 0), none⟩,
 ⟨(some 188), .mv (.t 8), none⟩,
 ⟨(some 189), .ia (.t 187) (.t 188) 10, none⟩,
 ⟨(some 190), .fa (.t 189) 5, none⟩,
 ⟨(some 191), .ld (.t 190) 1 false, none⟩,
 ⟨(some 8), .mv (.t 191), none⟩])))))
 (.reg [⟨(some 62), .mv (.t 9), none⟩,
 ⟨(some 63), .bin .add (.t 62) (.c (.d (.v (.int .i64 1)))), none⟩,
 ⟨(some 9), .mv (.t 63), none⟩]))

/-- spinet/spinetlaw14.LayoutApart -/
def c10 : AC :=
 .seq (.reg [⟨(some 4), .mv (.c (.d (.v (.bool false)))), none⟩])
 (.seq (.seq (.reg [⟨(some 19), .mv (.t 0), none⟩,
 ⟨(some 20), .call 12 [(.t 19)], none⟩,
 ⟨(some 21), .mv (.t 20), none⟩,
 ⟨(some 22), .mv (.t 0), (some (21, false))⟩,
 ⟨(some 23), .call 16 [(.t 22)], (some (21, false))⟩,
 ⟨(some 24), .un .not (.t 23), (some (21, false))⟩,
 ⟨(some 25), .pick (.t 21) (.c (.d (.v (.bool true)))) (.t 24), none⟩,
 ⟨(some 26), .mv (.t 25), none⟩,
 ⟨(some 27), .mv (.t 1), (some (26, false))⟩,
 ⟨(some 28), .bin .lss (.t 27) (.c (.d (.v (.int .i64 0)))), (some (26, false))⟩,
 ⟨(some 29), .pick (.t 26) (.c (.d (.v (.bool true)))) (.t 28), none⟩,
 ⟨(some 30), .mv (.t 29), none⟩,
 ⟨(some 31), .mv (.t 1), (some (30, false))⟩,
 ⟨(some 32), .mv (.t 0), (some (30, false))⟩,
 ⟨(some 33), .len false (.t 32), (some (30, false))⟩,
 ⟨(some 34), .bin .geq (.t 31) (.t 33), (some (30, false))⟩,
 ⟨(some 35), .pick (.t 30) (.c (.d (.v (.bool true)))) (.t 34), none⟩,
 ⟨(some 36), .mv (.t 35), none⟩,
 ⟨(some 37), .mv (.t 0), (some (36, false))⟩,
 ⟨(some 38), .mv (.t 1), (some (36, false))⟩,
 ⟨(some 39), .ia (.t 37) (.t 38) 10, (some (36, false))⟩,
 ⟨(some 40), .fa (.t 39) 0, (some (36, false))⟩,
 ⟨(some 41), .ld (.t 40) 1 false, (some (36, false))⟩,
 ⟨(some 42), .bin .neq (.t 41) (.c (.d (.v (.int .i64 9)))), (some (36, false))⟩,
 ⟨(some 43), .pick (.t 36) (.c (.d (.v (.bool true)))) (.t 42), none⟩])
 (.cond (.t 43) (.seq (.reg [⟨(some 44), .call 25 [], none⟩,
 ⟨(some 4), .mv (.t 44), none⟩])
 (.ret)) (.skip)))
 (.seq (.reg [⟨(some 45), .mv (.t 0), none⟩,
 ⟨(some 46), .call 14 [(.t 45)], none⟩,
 ⟨(some 5), .mv (.t 46), none⟩])
 (.seq (.reg [⟨(some 47), .mv (.t 5), none⟩,
 ⟨(some 48), .mv (.t 1), none⟩,
 ⟨(some 49), .call 26 [(.t 47), (.t 48)], none⟩,
 ⟨(some 6), .mv (.t 49), none⟩])
 (.seq (.seq (.reg [⟨(some 50), .mv (.t 6), none⟩,
 ⟨(some 51), .bin .gtr (.t 50) (.c (.d (.v (.int .i64 32768)))), none⟩])
 (.cond (.t 51) (.seq (.reg [⟨(some 52), .mv (.t 6), none⟩,
 ⟨(some 53), .bin .eql (.t 52) (.c (.d (.v (.int .i64 32769)))), none⟩,
 ⟨(some 54), .mv (.t 53), none⟩,
 ⟨(some 55), .call 25 [], (some (54, true))⟩,
 ⟨(some 56), .pick (.t 54) (.t 55) (.c (.d (.v (.bool false)))), none⟩,
 ⟨(some 4), .mv (.t 56), none⟩])
 (.ret)) (.skip)))
 (.seq (.reg [⟨(some 57), .mv (.t 6), none⟩,
 ⟨(some 58), .mks .hp 3 1 8 [(.d (.v (.int .i64 0)))] (.t 57) (.t 57), none⟩,
 ⟨(some 7), .mv (.t 58), none⟩])
 (.seq (.seq (.reg [⟨(some 59), .mv (.t 1), none⟩,
 ⟨(some 8), .mv (.t 59), none⟩,
 ⟨(some 9), .mv (.c (.d (.v (.int .i64 0)))), none⟩])
 (.block 0 (.loop c10l2)))
 (.seq (.reg [⟨(some 192), .mv (.t 6), none⟩,
 ⟨(some 193), .bin .rem (.t 192) (.c (.d (.v (.int .i64 4)))), none⟩,
 ⟨(some 194), .bin .eql (.t 193) (.c (.d (.v (.int .i64 0)))), none⟩,
 ⟨(some 195), .mv (.t 194), none⟩,
 ⟨(some 196), .call 25 [], (some (195, true))⟩,
 ⟨(some 197), .pick (.t 195) (.t 196) (.c (.d (.v (.bool false)))), none⟩,
 ⟨(some 4), .mv (.t 197), none⟩])
 (.ret))))))))
def r10 : List RC := [.t 4]

/-- spinet/spinetlaw14.LayoutArrays -/
def c11 : AC :=
 .seq (.reg [⟨(some 6), .mv (.c (.d (.v (.bool false)))), none⟩])
 (.seq (.seq (.reg [⟨(some 17), .mv (.t 0), none⟩,
 ⟨(some 18), .call 12 [(.t 17)], none⟩,
 ⟨(some 19), .mv (.t 18), none⟩,
 ⟨(some 20), .mv (.t 0), (some (19, false))⟩,
 ⟨(some 21), .call 16 [(.t 20)], (some (19, false))⟩,
 ⟨(some 22), .un .not (.t 21), (some (19, false))⟩,
 ⟨(some 23), .pick (.t 19) (.c (.d (.v (.bool true)))) (.t 22), none⟩,
 ⟨(some 24), .mv (.t 23), none⟩,
 ⟨(some 25), .mv (.t 0), (some (24, false))⟩,
 ⟨(some 26), .len false (.t 25), (some (24, false))⟩,
 ⟨(some 27), .bin .gtr (.t 26) (.c (.d (.v (.int .i64 250)))), (some (24, false))⟩,
 ⟨(some 28), .pick (.t 24) (.c (.d (.v (.bool true)))) (.t 27), none⟩,
 ⟨(some 29), .mv (.t 28), none⟩,
 ⟨(some 30), .mv (.t 1), (some (29, false))⟩,
 ⟨(some 31), .bin .lss (.t 30) (.c (.d (.v (.int .i64 0)))), (some (29, false))⟩,
 ⟨(some 32), .pick (.t 29) (.c (.d (.v (.bool true)))) (.t 31), none⟩,
 ⟨(some 33), .mv (.t 32), none⟩,
 ⟨(some 34), .mv (.t 1), (some (33, false))⟩,
 ⟨(some 35), .mv (.t 0), (some (33, false))⟩,
 ⟨(some 36), .len false (.t 35), (some (33, false))⟩,
 ⟨(some 37), .bin .geq (.t 34) (.t 36), (some (33, false))⟩,
 ⟨(some 38), .pick (.t 33) (.c (.d (.v (.bool true)))) (.t 37), none⟩])
 (.cond (.t 38) (.seq (.reg [⟨(some 39), .call 25 [], none⟩,
 ⟨(some 6), .mv (.t 39), none⟩])
 (.ret)) (.skip)))
 (.seq (.reg [⟨(some 40), .mv (.t 0), none⟩,
 ⟨(some 41), .mv (.t 1), none⟩,
 ⟨(some 42), .ia (.t 40) (.t 41) 10, none⟩,
 ⟨(some 43), .fa (.t 42) 0, none⟩,
 ⟨(some 44), .ld (.t 43) 1 false, none⟩,
 ⟨(some 7), .mv (.t 44), none⟩])
 (.seq (.seq (.reg [⟨(some 45), .mv (.t 7), none⟩,
 ⟨(some 46), .bin .eql (.t 45) (.c (.d (.v (.int .i64 0)))), none⟩,
 ⟨(some 47), .mv (.t 46), none⟩,
 ⟨(some 48), .mv (.t 7), (some (47, false))⟩,
 ⟨(some 49), .bin .eql (.t 48) (.c (.d (.v (.int .i64 5)))), (some (47, false))⟩,
 ⟨(some 50), .pick (.t 47) (.c (.d (.v (.bool true)))) (.t 49), none⟩,
 ⟨(some 51), .mv (.t 50), none⟩,
 ⟨(some 52), .mv (.t 7), (some (51, false))⟩,
 ⟨(some 53), .bin .eql (.t 52) (.c (.d (.v (.int .i64 6)))), (some (51, false))⟩,
 ⟨(some 54), .pick (.t 51) (.c (.d (.v (.bool true)))) (.t 53), none⟩,
 ⟨(some 55), .mv (.t 54), none⟩,
 ⟨(some 56), .mv (.t 7), (some (55, false))⟩,
 ⟨(some 57), .bin .eql (.t 56) (.c (.d (.v (.int .i64 8)))), (some (55, false))⟩,
 ⟨(some 58), .pick (.t 55) (.c (.d (.v (.bool true)))) (.t 57), none⟩])
 (.cond (.t 58) (.seq (.reg [⟨(some 59), .call 25 [], none⟩,
 ⟨(some 6), .mv (.t 59), none⟩])
 (.ret)) (.skip)))
 (.seq (.reg [⟨(some 60), .mv (.t 0), none⟩,
 ⟨(some 61), .len false (.t 60), none⟩,
 ⟨(some 62), .mv (.t 2), none⟩,
 ⟨(some 63), .cvi .u64 (.t 62), none⟩,
 ⟨(some 64), .bin .rem (.t 63) (.c (.d (.v (.int .u64 4096)))), none⟩,
 ⟨(some 65), .cvi .i64 (.t 64), none⟩,
 ⟨(some 66), .bin .add (.c (.d (.v (.int .i64 1)))) (.t 65), none⟩,
 ⟨(some 8), .mv (.t 61), none⟩,
 ⟨(some 9), .mv (.t 66), none⟩])
 (.seq (.reg [⟨(some 67), .mv (.t 0), none⟩,
 ⟨(some 68), .call 14 [(.t 67)], none⟩,
 ⟨(some 69), .mv (.t 9), none⟩,
 ⟨(some 70), .mv (.t 1), none⟩,
 ⟨(some 71), .bd [(.d (.v (.int .i64 0))), (.d (.v (.string ⟨#[]⟩))), (.d (.v (.string ⟨#[]⟩))), (.d (.v (.int .i64 0))), (.d (.v (.int .i64 0))), (.d (.v (.int .i64 0))), .esl, .esl, (.d (.v (.int .i64 0))), (.d (.v (.int .i64 0)))] [(0, 1, (.c (.d (.v (.int .i64 7))))), (3, 1, (.t 69)), (4, 1, (.t 70))], none⟩,
 ⟨(some 72), .mv (.t 8), none⟩,
 ⟨(some 73), .bd [(.d (.v (.string ⟨#[]⟩))), (.d (.v (.bool false))), (.d (.v (.int .i64 0)))] [(0, 1, (.c (.d (.v (.string ⟨#[97]⟩))))), (2, 1, (.t 72))], none⟩,
 ⟨(some 74), .bs .im 48 3 [(.t 73)], none⟩,
 ⟨(some 75), .bd [(.d (.v (.int .i64 0))), (.d (.v (.string ⟨#[]⟩))), (.d (.v (.string ⟨#[]⟩))), (.d (.v (.int .i64 0))), (.d (.v (.int .i64 0))), (.d (.v (.int .i64 0))), .esl, .esl, (.d (.v (.int .i64 0))), (.d (.v (.int .i64 0)))] [(0, 1, (.c (.d (.v (.int .i64 9))))), (1, 1, (.c (.d (.v (.string ⟨#[90, 122]⟩))))), (9, 1, (.c (.d (.v (.int .i64 (-1)))))), (6, 1, (.t 74))], none⟩,
 ⟨(some 76), .bs .im 32 10 [(.t 71), (.t 75)], none⟩,
 ⟨(some 77), .app .gr 32 10 128 (.t 68) (.t 76), none⟩,
 ⟨(some 10), .mv (.t 77), none⟩])
 (.seq (.reg [⟨(some 78), .mv (.t 10), none⟩,
 ⟨(some 79), .mv (.t 1), none⟩,
 ⟨(some 80), .call 26 [(.t 78), (.t 79)], none⟩,
 ⟨(some 81), .mv (.t 10), none⟩,
 ⟨(some 82), .mv (.t 8), none⟩,
 ⟨(some 83), .call 26 [(.t 81), (.t 82)], none⟩,
 ⟨(some 11), .mv (.t 80), none⟩,
 ⟨(some 12), .mv (.t 83), none⟩])
 (.seq (.reg [⟨(some 84), .mv (.t 11), none⟩,
 ⟨(some 85), .mv (.t 9), none⟩,
 ⟨(some 86), .bin .mul (.t 84) (.t 85), none⟩,
 ⟨(some 87), .bin .add (.t 86) (.c (.d (.v (.int .i64 3)))), none⟩,
 ⟨(some 88), .bin .quo (.t 87) (.c (.d (.v (.int .i64 4)))), none⟩,
 ⟨(some 89), .bin .mul (.t 88) (.c (.d (.v (.int .i64 4)))), none⟩,
 ⟨(some 13), .mv (.t 89), none⟩])
 (.seq (.seq (.reg [⟨(some 90), .mv (.t 13), none⟩,
 ⟨(some 91), .bin .gtr (.t 90) (.c (.d (.v (.int .i64 32768)))), none⟩,
 ⟨(some 92), .mv (.t 91), none⟩,
 ⟨(some 93), .mv (.t 11), (some (92, false))⟩,
 ⟨(some 94), .bin .gtr (.t 93) (.c (.d (.v (.int .i64 32768)))), (some (92, false))⟩,
 ⟨(some 95), .pick (.t 92) (.c (.d (.v (.bool true)))) (.t 94), none⟩])
 (.cond (.t 95) (.seq (.reg [⟨(some 96), .mv (.t 12), none⟩,
 ⟨(some 97), .bin .eql (.t 96) (.c (.d (.v (.int .i64 32769)))), none⟩,
 ⟨(some 98), .mv (.t 97), none⟩,
 ⟨(some 99), .mv (.t 10), (some (98, true))⟩,
 ⟨(some 100), .mv (.t 8), (some (98, true))⟩,
 ⟨(some 101), .bin .add (.t 100) (.c (.d (.v (.int .i64 1)))), (some (98, true))⟩,
 ⟨(some 102), .call 26 [(.t 99), (.t 101)], (some (98, true))⟩,
 ⟨(some 103), .mv (.t 12), (some (98, true))⟩,
 ⟨(some 104), .bin .eql (.t 102) (.t 103), (some (98, true))⟩,
 ⟨(some 105), .pick (.t 98) (.t 104) (.c (.d (.v (.bool false)))), none⟩,
 ⟨(some 106), .mv (.t 105), none⟩,
 ⟨(some 107), .call 25 [], (some (106, true))⟩,
 ⟨(some 108), .pick (.t 106) (.t 107) (.c (.d (.v (.bool false)))), none⟩,
 ⟨(some 6), .mv (.t 108), none⟩])
 (.ret)) (.skip)))
 (.seq (.reg [⟨(some 110), .mv (.t 10), none⟩,
 ⟨(some 111), .mv (.t 8), none⟩,
 ⟨(some 112), .bin .add (.t 111) (.c (.d (.v (.int .i64 1)))), none⟩,
 ⟨(some 113), .call 28 [(.t 110), (.t 112), (.c (.d (.v (.string ⟨#[97]⟩))))], none⟩,
 ⟨(some 109), .mv (.t 113), none⟩,
 ⟨(some 114), .ext (.t 109) 0, none⟩,
 ⟨(some 115), .ext (.t 109) 1, none⟩,
 ⟨(some 116), .ext (.t 109) 2, none⟩,
 ⟨(some 14), .mv (.t 114), none⟩,
 ⟨(some 15), .mv (.t 115), none⟩,
 ⟨(some 16), .mv (.t 116), none⟩])
 (.seq (.reg [⟨(some 117), .mv (.t 12), none⟩,
 ⟨(some 118), .mv (.t 13), none⟩,
 ⟨(some 119), .bin .eql (.t 117) (.t 118), none⟩,
 ⟨(some 120), .mv (.t 119), none⟩,
 ⟨(some 121), .mv (.t 10), (some (120, true))⟩,
 ⟨(some 122), .mv (.t 8), (some (120, true))⟩,
 ⟨(some 123), .bin .add (.t 122) (.c (.d (.v (.int .i64 1)))), (some (120, true))⟩,
 ⟨(some 124), .call 26 [(.t 121), (.t 123)], (some (120, true))⟩,
 ⟨(some 125), .mv (.t 13), (some (120, true))⟩,
 ⟨(some 126), .bin .eql (.t 124) (.t 125), (some (120, true))⟩,
 ⟨(some 127), .pick (.t 120) (.t 126) (.c (.d (.v (.bool false)))), none⟩,
 ⟨(some 128), .mv (.t 127), none⟩,
 ⟨(some 129), .mv (.t 16), (some (128, true))⟩,
 ⟨(some 130), .pick (.t 128) (.t 129) (.c (.d (.v (.bool false)))), none⟩,
 ⟨(some 131), .mv (.t 130), none⟩,
 ⟨(some 132), .mv (.t 14), (some (131, true))⟩,
 ⟨(some 133), .bin .eql (.t 132) (.c (.d (.v (.int .i64 0)))), (some (131, true))⟩,
 ⟨(some 134), .pick (.t 131) (.t 133) (.c (.d (.v (.bool false)))), none⟩,
 ⟨(some 135), .mv (.t 134), none⟩,
 ⟨(some 136), .mv (.t 15), (some (135, true))⟩,
 ⟨(some 137), .mv (.t 8), (some (135, true))⟩,
 ⟨(some 138), .bin .eql (.t 136) (.t 137), (some (135, true))⟩,
 ⟨(some 139), .pick (.t 135) (.t 138) (.c (.d (.v (.bool false)))), none⟩,
 ⟨(some 140), .mv (.t 139), none⟩,
 ⟨(some 141), .call 25 [], (some (140, true))⟩,
 ⟨(some 142), .pick (.t 140) (.t 141) (.c (.d (.v (.bool false)))), none⟩,
 ⟨(some 6), .mv (.t 142), none⟩])
 (.ret)))))))))))
def r11 : List RC := [.t 6]

/-- spinet/spinetlaw14.wakes -/
def c25 : AC :=
 .seq (.reg [⟨(some 0), .mv (.c (.d (.v (.bool false)))), none⟩])
 (.seq (.reg [⟨(some 7), .call 19 [], none⟩,
 ⟨(some 8), .bd [(.d (.v (.string ⟨#[]⟩))), (.d (.v (.bool false))), (.d (.v (.int .i64 0)))] [(0, 1, (.c (.d (.v (.string ⟨#[97]⟩))))), (2, 1, (.c (.d (.v (.int .i64 3)))))], none⟩,
 ⟨(some 9), .bd [(.d (.v (.string ⟨#[]⟩))), (.d (.v (.bool false))), (.d (.v (.int .i64 0)))] [(0, 1, (.c (.d (.v (.string ⟨#[98]⟩))))), (2, 1, (.c (.d (.v (.int .i64 2)))))], none⟩,
 ⟨(some 10), .bd [(.d (.v (.string ⟨#[]⟩))), (.d (.v (.bool false))), (.d (.v (.int .i64 0)))] [(0, 1, (.c (.d (.v (.string ⟨#[99]⟩))))), (2, 1, (.c (.d (.v (.int .i64 1)))))], none⟩,
 ⟨(some 11), .bd [(.d (.v (.string ⟨#[]⟩))), (.d (.v (.bool false))), (.d (.v (.int .i64 0)))] [(0, 1, (.c (.d (.v (.string ⟨#[100]⟩))))), (2, 1, (.c (.d (.v (.int .i64 3)))))], none⟩,
 ⟨(some 12), .bs .im 48 3 [(.t 8), (.t 9), (.t 10), (.t 11)], none⟩,
 ⟨(some 13), .bd [(.d (.v (.int .i64 0))), (.d (.v (.string ⟨#[]⟩))), (.d (.v (.string ⟨#[]⟩))), (.d (.v (.int .i64 0))), (.d (.v (.int .i64 0))), (.d (.v (.int .i64 0))), .esl, .esl, (.d (.v (.int .i64 0))), (.d (.v (.int .i64 0)))] [(0, 1, (.c (.d (.v (.int .i64 9))))), (1, 1, (.c (.d (.v (.string ⟨#[65]⟩))))), (6, 1, (.t 12))], none⟩,
 ⟨(some 14), .bs .im 32 10 [(.t 13)], none⟩,
 ⟨(some 15), .app .gr 32 10 128 (.t 7) (.t 14), none⟩,
 ⟨(some 1), .mv (.t 15), none⟩])
 (.seq (.reg [⟨(some 17), .mv (.t 1), none⟩,
 ⟨(some 18), .call 28 [(.t 17), (.c (.d (.v (.int .i64 7)))), (.c (.d (.v (.string ⟨#[99]⟩))))], none⟩,
 ⟨(some 16), .mv (.t 18), none⟩,
 ⟨(some 19), .ext (.t 16) 0, none⟩,
 ⟨(some 20), .ext (.t 16) 1, none⟩,
 ⟨(some 21), .ext (.t 16) 2, none⟩,
 ⟨(some 2), .mv (.t 19), none⟩,
 ⟨(some 3), .mv (.t 20), none⟩,
 ⟨(some 4), .mv (.t 21), none⟩])
 (.seq (.reg [⟨(some 23), .mv (.t 1), none⟩,
 ⟨(some 24), .bs .im 3 1 [(.c (.d (.v (.int .i64 3)))), (.c (.d (.v (.int .i64 3)))), (.c (.d (.v (.int .i64 1))))], none⟩,
 ⟨(some 25), .call 30 [(.t 23), (.t 24)], none⟩,
 ⟨(some 22), .mv (.t 25), none⟩,
 ⟨(some 26), .ext (.t 22) 0, none⟩,
 ⟨(some 27), .ext (.t 22) 1, none⟩,
 ⟨(some 5), .mv (.t 26), none⟩,
 ⟨(some 6), .mv (.t 27), none⟩])
 (.seq (.reg [⟨(some 28), .mv (.t 1), none⟩,
 ⟨(some 29), .call 26 [(.t 28), (.c (.d (.v (.int .i64 7))))], none⟩,
 ⟨(some 30), .bin .eql (.t 29) (.c (.d (.v (.int .i64 12)))), none⟩,
 ⟨(some 31), .mv (.t 30), none⟩,
 ⟨(some 32), .mv (.t 4), (some (31, true))⟩,
 ⟨(some 33), .pick (.t 31) (.t 32) (.c (.d (.v (.bool false)))), none⟩,
 ⟨(some 34), .mv (.t 33), none⟩,
 ⟨(some 35), .mv (.t 2), (some (34, true))⟩,
 ⟨(some 36), .bin .eql (.t 35) (.c (.d (.v (.int .i64 4)))), (some (34, true))⟩,
 ⟨(some 37), .pick (.t 34) (.t 36) (.c (.d (.v (.bool false)))), none⟩,
 ⟨(some 38), .mv (.t 37), none⟩,
 ⟨(some 39), .mv (.t 3), (some (38, true))⟩,
 ⟨(some 40), .bin .eql (.t 39) (.c (.d (.v (.int .i64 1)))), (some (38, true))⟩,
 ⟨(some 41), .pick (.t 38) (.t 40) (.c (.d (.v (.bool false)))), none⟩,
 ⟨(some 42), .mv (.t 41), none⟩,
 ⟨(some 43), .mv (.t 6), (some (42, true))⟩,
 ⟨(some 44), .bin .eql (.t 43) (.c (.d (.v (.int .i64 8)))), (some (42, true))⟩,
 ⟨(some 45), .pick (.t 42) (.t 44) (.c (.d (.v (.bool false)))), none⟩,
 ⟨(some 46), .mv (.t 45), none⟩,
 ⟨(some 47), .mv (.t 5), (some (46, true))⟩,
 ⟨(some 48), .bs .im 3 1 [(.c (.d (.v (.int .i64 0)))), (.c (.d (.v (.int .i64 1)))), (.c (.d (.v (.int .i64 4))))], (some (46, true))⟩,
 ⟨(some 49), .call 32 [(.t 47), (.t 48)], (some (46, true))⟩,
 ⟨(some 50), .pick (.t 46) (.t 49) (.c (.d (.v (.bool false)))), none⟩,
 ⟨(some 0), .mv (.t 50), none⟩])
 (.ret)))))
def r25 : List RC := [.t 0]

/-- spinet/layout.Size -/
def c26 : AC :=
 .seq (.reg [⟨(some 4), .mv (.c (.d (.v (.int .i64 0)))), none⟩])
 (.seq (.reg [⟨(some 6), .mv (.t 0), none⟩,
 ⟨(some 7), .call 43 [(.t 6)], none⟩,
 ⟨(some 5), .mv (.t 7), none⟩])
 (.seq (.seq (.reg [⟨(some 8), .mv (.t 5), none⟩,
 ⟨(some 9), .eqp false (.t 8) (.c .nilp), none⟩,
 ⟨(some 10), .mv (.t 9), none⟩,
 ⟨(some 11), .mv (.t 1), (some (10, false))⟩,
 ⟨(some 12), .bin .lss (.t 11) (.c (.d (.v (.int .i64 0)))), (some (10, false))⟩,
 ⟨(some 13), .pick (.t 10) (.c (.d (.v (.bool true)))) (.t 12), none⟩,
 ⟨(some 14), .mv (.t 13), none⟩,
 ⟨(some 15), .mv (.t 1), (some (14, false))⟩,
 ⟨(some 16), .mv (.t 0), (some (14, false))⟩,
 ⟨(some 17), .len false (.t 16), (some (14, false))⟩,
 ⟨(some 18), .bin .geq (.t 15) (.t 17), (some (14, false))⟩,
 ⟨(some 19), .pick (.t 14) (.c (.d (.v (.bool true)))) (.t 18), none⟩])
 (.cond (.t 19) (.seq (.reg [⟨(some 4), .mv (.c (.d (.v (.int .i64 0)))), none⟩])
 (.ret)) (.skip)))
 (.seq (.reg [⟨(some 20), .mv (.t 5), none⟩,
 ⟨(some 21), .mv (.t 1), none⟩,
 ⟨(some 22), .call 44 [(.t 20), (.t 21)], none⟩,
 ⟨(some 4), .mv (.t 22), none⟩])
 (.ret))))
def r26 : List RC := [.t 4]

/-- spinet/spinetref14.Size -/
def c27 : AC :=
 .seq (.reg [⟨(some 4), .mv (.c (.d (.v (.int .i64 0)))), none⟩])
 (.seq (.seq (.reg [⟨(some 5), .mv (.t 1), none⟩,
 ⟨(some 6), .bin .lss (.t 5) (.c (.d (.v (.int .i64 0)))), none⟩,
 ⟨(some 7), .mv (.t 6), none⟩,
 ⟨(some 8), .mv (.t 1), (some (7, false))⟩,
 ⟨(some 9), .mv (.t 0), (some (7, false))⟩,
 ⟨(some 10), .len false (.t 9), (some (7, false))⟩,
 ⟨(some 11), .bin .geq (.t 8) (.t 10), (some (7, false))⟩,
 ⟨(some 12), .pick (.t 7) (.c (.d (.v (.bool true)))) (.t 11), none⟩,
 ⟨(some 13), .mv (.t 12), none⟩,
 ⟨(some 14), .mv (.t 0), (some (13, false))⟩,
 ⟨(some 15), .call 16 [(.t 14)], (some (13, false))⟩,
 ⟨(some 16), .un .not (.t 15), (some (13, false))⟩,
 ⟨(some 17), .pick (.t 13) (.c (.d (.v (.bool true)))) (.t 16), none⟩])
 (.cond (.t 17) (.seq (.reg [⟨(some 4), .mv (.c (.d (.v (.int .i64 0)))), none⟩])
 (.ret)) (.skip)))
 (.seq (.reg [⟨(some 18), .mv (.t 0), none⟩,
 ⟨(some 19), .call 45 [(.t 18)], none⟩,
 ⟨(some 20), .mv (.t 1), none⟩,
 ⟨(some 21), .call 46 [(.t 19), (.t 20)], none⟩,
 ⟨(some 4), .mv (.t 21), none⟩])
 (.ret)))
def r27 : List RC := [.t 4]

/-- spinet/layout.Offset -/
def c28 : AC :=
 .seq (.reg [⟨(some 6), .mv (.c (.d (.v (.int .i64 0)))), none⟩,
 ⟨(some 7), .mv (.c (.d (.v (.int .i64 0)))), none⟩,
 ⟨(some 8), .mv (.c (.d (.v (.bool false)))), none⟩])
 (.seq (.reg [⟨(some 10), .mv (.t 0), none⟩,
 ⟨(some 11), .call 43 [(.t 10)], none⟩,
 ⟨(some 9), .mv (.t 11), none⟩])
 (.seq (.seq (.reg [⟨(some 12), .mv (.t 9), none⟩,
 ⟨(some 13), .eqp false (.t 12) (.c .nilp), none⟩,
 ⟨(some 14), .mv (.t 13), none⟩,
 ⟨(some 15), .mv (.t 1), (some (14, false))⟩,
 ⟨(some 16), .bin .lss (.t 15) (.c (.d (.v (.int .i64 0)))), (some (14, false))⟩,
 ⟨(some 17), .pick (.t 14) (.c (.d (.v (.bool true)))) (.t 16), none⟩,
 ⟨(some 18), .mv (.t 17), none⟩,
 ⟨(some 19), .mv (.t 1), (some (18, false))⟩,
 ⟨(some 20), .mv (.t 0), (some (18, false))⟩,
 ⟨(some 21), .len false (.t 20), (some (18, false))⟩,
 ⟨(some 22), .bin .geq (.t 19) (.t 21), (some (18, false))⟩,
 ⟨(some 23), .pick (.t 18) (.c (.d (.v (.bool true)))) (.t 22), none⟩,
 ⟨(some 24), .mv (.t 23), none⟩,
 ⟨(some 25), .mv (.t 9), (some (24, false))⟩,
 ⟨(some 26), .mv (.t 1), (some (24, false))⟩,
 ⟨(some 27), .call 44 [(.t 25), (.t 26)], (some (24, false))⟩,
 ⟨(some 28), .bin .gtr (.t 27) (.c (.d (.v (.int .i64 32768)))), (some (24, false))⟩,
 ⟨(some 29), .pick (.t 24) (.c (.d (.v (.bool true)))) (.t 28), none⟩])
 (.cond (.t 29) (.seq (.reg [⟨(some 6), .mv (.c (.d (.v (.int .i64 0)))), none⟩,
 ⟨(some 7), .mv (.c (.d (.v (.int .i64 0)))), none⟩,
 ⟨(some 8), .mv (.c (.d (.v (.bool false)))), none⟩])
 (.ret)) (.skip)))
 (.seq (.reg [⟨(some 30), .mv (.t 9), none⟩,
 ⟨(some 31), .mv (.t 1), none⟩,
 ⟨(some 32), .mv (.t 2), none⟩,
 ⟨(some 33), .call 47 [(.t 30), (.t 31), (.t 32)], none⟩,
 ⟨(some 34), .ext (.t 33) 0, none⟩,
 ⟨(some 35), .ext (.t 33) 1, none⟩,
 ⟨(some 36), .ext (.t 33) 2, none⟩,
 ⟨(some 6), .mv (.t 34), none⟩,
 ⟨(some 7), .mv (.t 35), none⟩,
 ⟨(some 8), .mv (.t 36), none⟩])
 (.ret))))
def r28 : List RC := [.t 6, .t 7, .t 8]

def c29l0 : AC :=
 .seq (.seq (.reg [⟨(some 65), .mv (.t 15), none⟩,
 ⟨(some 66), .fa (.t 11) 6, none⟩,
 ⟨(some 67), .ld (.t 66) 1 false, none⟩,
 ⟨(some 68), .len false (.t 67), none⟩,
 ⟨(some 69), .bin .lss (.t 65) (.t 68), none⟩])
 (.cond (.t 69) (.skip) (.exit 2)))
 (.seq (.block 3 (.seq (.reg [⟨(some 72), .fa (.t 11) 6, none⟩,
 ⟨(some 73), .ld (.t 72) 1 false, none⟩,
 ⟨(some 74), .mv (.t 15), none⟩,
 ⟨(some 75), .ia (.t 73) (.t 74) 3, none⟩,
 ⟨(some 76), .fa (.t 75) 0, none⟩,
 ⟨(some 77), .ld (.t 76) 1 false, none⟩,
 ⟨(some 78), .mv (.t 2), none⟩,
 ⟨(some 79), .bin .eql (.t 77) (.t 78), none⟩])
 (.cond (.t 79) (.seq (.dreg [[], [], [0, 1], [2], [], [4], [], [5, 6], [7], [8], [3, 0, 1, 2, 3], [9, 10, 0, 1, 2, 3, 4, 5, 6, 7, 8, 9, 10], [11, 0, 1, 2, 3, 4, 5, 6, 7, 8, 9, 10, 11]] [⟨(some 80), .mv (.t 13), none⟩,
 ⟨(some 81), .mv (.t 15), none⟩,
 ⟨(some 82), .ia (.t 80) (.t 81) 1, none⟩,
 ⟨(some 83), .ld (.t 82) 1 false, none⟩,
 ⟨(some 84), .fa (.t 11) 6, none⟩,
 ⟨(some 85), .ld (.t 84) 1 false, none⟩,
 ⟨(some 86), .mv (.t 15), none⟩,
 ⟨(some 87), .ia (.t 85) (.t 86) 3, none⟩,
 ⟨(some 88), .fa (.t 87) 2, none⟩,
 ⟨(some 89), .ld (.t 88) 1 false, none⟩,
 ⟨(some 6), .mv (.t 83), none⟩,
 ⟨(some 7), .mv (.t 89), none⟩,
 ⟨(some 8), .mv (.c (.d (.v (.bool true)))), none⟩])
 (.ret)) (.skip))))
 (.reg [⟨(some 70), .mv (.t 15), none⟩,
 ⟨(some 71), .bin .add (.t 70) (.c (.d (.v (.int .i64 1)))), none⟩,
 ⟨(some 15), .mv (.t 71), none⟩]))

def c29l1 : AC :=
 .block 1 (.seq (.reg [⟨(some 46), .mv (.t 0), none⟩,
 ⟨(some 47), .mv (.t 1), none⟩,
 ⟨(some 48), .ia (.t 46) (.t 47) 10, none⟩,
 ⟨(some 49), .ld (.t 48) 10 true, none⟩,
 ⟨(some 11), .al [(.d (.v (.int .i64 0))), (.d (.v (.string ⟨#[]⟩))), (.d (.v (.string ⟨#[]⟩))), (.d (.v (.int .i64 0))), (.d (.v (.int .i64 0))), (.d (.v (.int .i64 0))), .esl, .esl, (.d (.v (.int .i64 0))), (.d (.v (.int .i64 0)))], none⟩,
 ⟨none, .st (.t 11) (.t 49) 10, none⟩])
 (.seq (.reg [⟨(some 12), .mv (.c (.d (.v (.int .i64 0)))), none⟩])
 (.seq (.seq (.reg [⟨(some 50), .fa (.t 11) 5, none⟩,
 ⟨(some 51), .ld (.t 50) 1 false, none⟩,
 ⟨(some 52), .bin .neq (.t 51) (.c (.d (.v (.int .i64 0)))), none⟩])
 (.cond (.t 52) (.reg [⟨(some 53), .mv (.t 10), none⟩,
 ⟨(some 54), .fa (.t 11) 5, none⟩,
 ⟨(some 55), .ld (.t 54) 1 false, none⟩,
 ⟨(some 56), .call 46 [(.t 53), (.t 55)], none⟩,
 ⟨(some 12), .mv (.t 56), none⟩]) (.skip)))
 (.seq (.reg [⟨(some 58), .mv (.t 10), none⟩,
 ⟨(some 59), .ld (.t 11) 10 true, none⟩,
 ⟨(some 60), .call 49 [(.t 59)], none⟩,
 ⟨(some 61), .mv (.t 12), none⟩,
 ⟨(some 62), .call 48 [(.t 58), (.t 60), (.t 61)], none⟩,
 ⟨(some 57), .mv (.t 62), none⟩,
 ⟨(some 63), .ext (.t 57) 0, none⟩,
 ⟨(some 64), .ext (.t 57) 1, none⟩,
 ⟨(some 13), .mv (.t 63), none⟩,
 ⟨(some 14), .mv (.t 64), none⟩])
 (.seq (.seq (.reg [⟨(some 15), .mv (.c (.d (.v (.int .i64 0)))), none⟩])
 (.block 2 (.loop c29l0)))
 (.seq (.seq (.reg [⟨(some 90), .fa (.t 11) 5, none⟩,
 ⟨(some 91), .ld (.t 90) 1 false, none⟩,
 ⟨(some 92), .bin .eql (.t 91) (.c (.d (.v (.int .i64 0)))), none⟩])
 (.cond (.t 92) (.seq (.reg [⟨(some 6), .mv (.c (.d (.v (.int .i64 0)))), none⟩,
 ⟨(some 7), .mv (.c (.d (.v (.int .i64 0)))), none⟩,
 ⟨(some 8), .mv (.c (.d (.v (.bool false)))), none⟩])
 (.ret)) (.skip)))
 (.reg [⟨(some 93), .fa (.t 11) 5, none⟩,
 ⟨(some 94), .ld (.t 93) 1 false, none⟩,
 ⟨(some 1), .mv (.t 94), none⟩])))))))

/-- spinet/spinetref14.Offset -/
def c29 : AC :=
 .seq (.reg [⟨(some 6), .mv (.c (.d (.v (.int .i64 0)))), none⟩,
 ⟨(some 7), .mv (.c (.d (.v (.int .i64 0)))), none⟩,
 ⟨(some 8), .mv (.c (.d (.v (.bool false)))), none⟩])
 (.seq (.seq (.reg [⟨(some 16), .mv (.t 0), none⟩,
 ⟨(some 17), .mv (.t 1), none⟩,
 ⟨(some 18), .call 27 [(.t 16), (.t 17)], none⟩,
 ⟨(some 9), .mv (.t 18), none⟩])
 (.seq (.reg [⟨(some 19), .mv (.t 9), none⟩,
 ⟨(some 20), .bin .gtr (.t 19) (.c (.d (.v (.int .i64 32768)))), none⟩,
 ⟨(some 21), .mv (.t 20), none⟩,
 ⟨(some 22), .mv (.t 1), (some (21, false))⟩,
 ⟨(some 23), .bin .lss (.t 22) (.c (.d (.v (.int .i64 0)))), (some (21, false))⟩,
 ⟨(some 24), .pick (.t 21) (.c (.d (.v (.bool true)))) (.t 23), none⟩,
 ⟨(some 25), .mv (.t 24), none⟩,
 ⟨(some 26), .mv (.t 1), (some (25, false))⟩,
 ⟨(some 27), .mv (.t 0), (some (25, false))⟩,
 ⟨(some 28), .len false (.t 27), (some (25, false))⟩,
 ⟨(some 29), .bin .geq (.t 26) (.t 28), (some (25, false))⟩,
 ⟨(some 30), .pick (.t 25) (.c (.d (.v (.bool true)))) (.t 29), none⟩,
 ⟨(some 31), .mv (.t 30), none⟩,
 ⟨(some 32), .mv (.t 0), (some (31, false))⟩,
 ⟨(some 33), .call 16 [(.t 32)], (some (31, false))⟩,
 ⟨(some 34), .un .not (.t 33), (some (31, false))⟩,
 ⟨(some 35), .pick (.t 31) (.c (.d (.v (.bool true)))) (.t 34), none⟩,
 ⟨(some 36), .mv (.t 35), none⟩,
 ⟨(some 37), .mv (.t 0), (some (36, false))⟩,
 ⟨(some 38), .mv (.t 1), (some (36, false))⟩,
 ⟨(some 39), .ia (.t 37) (.t 38) 10, (some (36, false))⟩,
 ⟨(some 40), .fa (.t 39) 0, (some (36, false))⟩,
 ⟨(some 41), .ld (.t 40) 1 false, (some (36, false))⟩,
 ⟨(some 42), .bin .neq (.t 41) (.c (.d (.v (.int .i64 9)))), (some (36, false))⟩,
 ⟨(some 43), .pick (.t 36) (.c (.d (.v (.bool true)))) (.t 42), none⟩])
 (.cond (.t 43) (.seq (.reg [⟨(some 6), .mv (.c (.d (.v (.int .i64 0)))), none⟩,
 ⟨(some 7), .mv (.c (.d (.v (.int .i64 0)))), none⟩,
 ⟨(some 8), .mv (.c (.d (.v (.bool false)))), none⟩])
 (.ret)) (.skip))))
 (.seq (.reg [⟨(some 44), .mv (.t 0), none⟩,
 ⟨(some 45), .call 45 [(.t 44)], none⟩,
 ⟨(some 10), .mv (.t 45), none⟩])
 (.block 0 (.loop c29l1))))
def r29 : List RC := [.t 6, .t 7, .t 8]

def c30l0 : AC :=
 .seq (.reg [⟨(some 19), .bin .lss (.t 18) (.t 17), none⟩])
 (.seq (.cond (.t 19) (.skip) (.exit 0))
 (.seq (.block 1 (.seq (.reg [⟨(some 20), .ia (.t 16) (.t 18) 1, none⟩,
 ⟨(some 21), .ld (.t 20) 1 false, none⟩,
 ⟨(some 10), .mv (.t 21), none⟩])
 (.seq (.seq (.reg [⟨(some 22), .mv (.t 10), none⟩,
 ⟨(some 23), .bin .lss (.t 22) (.c (.d (.v (.int .i64 0)))), none⟩,
 ⟨(some 24), .mv (.t 23), none⟩,
 ⟨(some 25), .mv (.t 10), (some (24, false))⟩,
 ⟨(some 26), .mv (.t 0), (some (24, false))⟩,
 ⟨(some 27), .len false (.t 26), (some (24, false))⟩,
 ⟨(some 28), .bin .geq (.t 25) (.t 27), (some (24, false))⟩,
 ⟨(some 29), .pick (.t 24) (.c (.d (.v (.bool true)))) (.t 28), none⟩])
 (.cond (.t 29) (.seq (.reg [⟨(some 4), .mv (.c .esl), none⟩,
 ⟨(some 5), .mv (.c (.d (.v (.int .i64 0)))), none⟩])
 (.ret)) (.skip)))
 (.seq (.reg [⟨(some 11), .mv (.c (.d (.v (.int .i64 0)))), none⟩])
 (.seq (.reg [⟨(some 31), .mv (.t 6), none⟩,
 ⟨(some 32), .mv (.t 8), none⟩,
 ⟨(some 33), .mv (.t 10), none⟩,
 ⟨(some 34), .call 50 [(.t 31), (.t 32), (.t 33)], none⟩,
 ⟨(some 30), .mv (.t 34), none⟩,
 ⟨(some 35), .ext (.t 30) 0, none⟩,
 ⟨(some 36), .ext (.t 30) 1, none⟩,
 ⟨(some 11), .mv (.t 35), none⟩,
 ⟨(some 8), .mv (.t 36), none⟩])
 (.seq (.reg [⟨(some 37), .mv (.t 7), none⟩,
 ⟨(some 38), .mv (.t 11), none⟩,
 ⟨(some 39), .bs .im 3 1 [(.t 38)], none⟩,
 ⟨(some 40), .app .gr 3 1 8 (.t 37) (.t 39), none⟩,
 ⟨(some 7), .mvg 3 1 (.t 40), none⟩])
 (.seq (.reg [⟨(some 41), .mv (.t 8), none⟩,
 ⟨(some 42), .bin .gtr (.t 41) (.c (.d (.v (.int .i64 32768)))), none⟩])
 (.cond (.t 42) (.seq (.reg [⟨(some 4), .mv (.c .esl), none⟩,
 ⟨(some 5), .mv (.c (.d (.v (.int .i64 0)))), none⟩])
 (.ret)) (.skip)))))))))
 (.reg [⟨(some 43), .bin .add (.t 18) (.c (.d (.v (.int .i64 1)))), none⟩,
 ⟨(some 18), .mv (.t 43), none⟩])))

/-- spinet/layout.Vars -/
def c30 : AC :=
 .seq (.reg [⟨(some 4), .mv (.c .esl), none⟩,
 ⟨(some 5), .mv (.c (.d (.v (.int .i64 0)))), none⟩])
 (.seq (.reg [⟨(some 12), .mv (.t 0), none⟩,
 ⟨(some 13), .call 43 [(.t 12)], none⟩,
 ⟨(some 6), .mv (.t 13), none⟩])
 (.seq (.seq (.reg [⟨(some 14), .mv (.t 6), none⟩,
 ⟨(some 15), .eqp false (.t 14) (.c .nilp), none⟩])
 (.cond (.t 15) (.seq (.reg [⟨(some 4), .mv (.c .esl), none⟩,
 ⟨(some 5), .mv (.c (.d (.v (.int .i64 0)))), none⟩])
 (.ret)) (.skip)))
 (.seq (.reg [⟨(some 7), .mvg 3 1 (.c .esl), none⟩])
 (.seq (.reg [⟨(some 8), .mv (.c (.d (.v (.int .i64 0)))), none⟩])
 (.seq (.seq (.reg [⟨(some 16), .mv (.t 1), none⟩,
 ⟨(some 17), .len false (.t 16), none⟩,
 ⟨(some 18), .mv (.c (.d (.v (.int .i64 0)))), none⟩])
 (.block 0 (.loop c30l0)))
 (.seq (.reg [⟨(some 44), .mv (.t 7), none⟩,
 ⟨(some 45), .mv (.t 8), none⟩,
 ⟨(some 46), .bin .add (.t 45) (.c (.d (.v (.int .i64 3)))), none⟩,
 ⟨(some 47), .bin .shr (.t 46) (.c (.d (.v (.int .u64 2)))), none⟩,
 ⟨(some 48), .bin .shl (.t 47) (.c (.d (.v (.int .u64 2)))), none⟩,
 ⟨(some 4), .mv (.t 44), none⟩,
 ⟨(some 5), .mv (.t 48), none⟩])
 (.ret)))))))
def r30 : List RC := [.t 4, .t 5]

def c31l0 : AC :=
 .seq (.seq (.reg [⟨(some 12), .mv (.t 6), none⟩,
 ⟨(some 13), .mv (.t 1), none⟩,
 ⟨(some 14), .len false (.t 13), none⟩,
 ⟨(some 15), .bin .lss (.t 12) (.t 14), none⟩])
 (.cond (.t 15) (.skip) (.exit 0)))
 (.seq (.block 1 (.seq (.reg [⟨(some 18), .mv (.t 1), none⟩,
 ⟨(some 19), .mv (.t 6), none⟩,
 ⟨(some 20), .ia (.t 18) (.t 19) 1, none⟩,
 ⟨(some 21), .ld (.t 20) 1 false, none⟩,
 ⟨(some 22), .bin .lss (.t 21) (.c (.d (.v (.int .i64 0)))), none⟩,
 ⟨(some 23), .mv (.t 22), none⟩,
 ⟨(some 24), .mv (.t 1), (some (23, false))⟩,
 ⟨(some 25), .mv (.t 6), (some (23, false))⟩,
 ⟨(some 26), .ia (.t 24) (.t 25) 1, (some (23, false))⟩,
 ⟨(some 27), .ld (.t 26) 1 false, (some (23, false))⟩,
 ⟨(some 28), .mv (.t 0), (some (23, false))⟩,
 ⟨(some 29), .len false (.t 28), (some (23, false))⟩,
 ⟨(some 30), .bin .geq (.t 27) (.t 29), (some (23, false))⟩,
 ⟨(some 31), .pick (.t 23) (.c (.d (.v (.bool true)))) (.t 30), none⟩])
 (.cond (.t 31) (.seq (.reg [⟨(some 4), .mv (.c .esl), none⟩,
 ⟨(some 5), .mv (.c (.d (.v (.int .i64 0)))), none⟩])
 (.ret)) (.skip))))
 (.reg [⟨(some 16), .mv (.t 6), none⟩,
 ⟨(some 17), .bin .add (.t 16) (.c (.d (.v (.int .i64 1)))), none⟩,
 ⟨(some 6), .mv (.t 17), none⟩]))

/-- spinet/spinetref14.Vars -/
def c31 : AC :=
 .seq (.reg [⟨(some 4), .mv (.c .esl), none⟩,
 ⟨(some 5), .mv (.c (.d (.v (.int .i64 0)))), none⟩])
 (.seq (.seq (.reg [⟨(some 9), .mv (.t 0), none⟩,
 ⟨(some 10), .call 16 [(.t 9)], none⟩,
 ⟨(some 11), .un .not (.t 10), none⟩])
 (.cond (.t 11) (.seq (.reg [⟨(some 4), .mv (.c .esl), none⟩,
 ⟨(some 5), .mv (.c (.d (.v (.int .i64 0)))), none⟩])
 (.ret)) (.skip)))
 (.seq (.seq (.reg [⟨(some 6), .mv (.c (.d (.v (.int .i64 0)))), none⟩])
 (.block 0 (.loop c31l0)))
 (.seq (.reg [⟨(some 33), .mv (.t 0), none⟩,
 ⟨(some 34), .call 45 [(.t 33)], none⟩,
 ⟨(some 35), .mv (.t 1), none⟩,
 ⟨(some 36), .call 48 [(.t 34), (.t 35), (.c (.d (.v (.int .i64 0))))], none⟩,
 ⟨(some 32), .mv (.t 36), none⟩,
 ⟨(some 37), .ext (.t 32) 0, none⟩,
 ⟨(some 38), .ext (.t 32) 1, none⟩,
 ⟨(some 7), .mv (.t 37), none⟩,
 ⟨(some 8), .mv (.t 38), none⟩])
 (.seq (.seq (.reg [⟨(some 39), .mv (.t 8), none⟩,
 ⟨(some 40), .call 51 [(.t 39)], none⟩,
 ⟨(some 41), .bin .gtr (.t 40) (.c (.d (.v (.int .i64 32768)))), none⟩])
 (.cond (.t 41) (.seq (.reg [⟨(some 4), .mv (.c .esl), none⟩,
 ⟨(some 5), .mv (.c (.d (.v (.int .i64 0)))), none⟩])
 (.ret)) (.skip)))
 (.seq (.reg [⟨(some 42), .mv (.t 7), none⟩,
 ⟨(some 43), .mv (.t 8), none⟩,
 ⟨(some 44), .call 51 [(.t 43)], none⟩,
 ⟨(some 4), .mv (.t 42), none⟩,
 ⟨(some 5), .mv (.t 44), none⟩])
 (.ret))))))
def r31 : List RC := [.t 4, .t 5]

def c32l0 : AC :=
 .seq (.seq (.reg [⟨(some 11), .mv (.t 5), none⟩,
 ⟨(some 12), .mv (.t 0), none⟩,
 ⟨(some 13), .len false (.t 12), none⟩,
 ⟨(some 14), .bin .lss (.t 11) (.t 13), none⟩])
 (.cond (.t 14) (.skip) (.exit 0)))
 (.seq (.block 1 (.seq (.dreg [[], [], [0, 1], [2], [], [], [4, 5], [6], [3, 7]] [⟨(some 17), .mv (.t 0), none⟩,
 ⟨(some 18), .mv (.t 5), none⟩,
 ⟨(some 19), .ia (.t 17) (.t 18) 1, none⟩,
 ⟨(some 20), .ld (.t 19) 1 false, none⟩,
 ⟨(some 21), .mv (.t 1), none⟩,
 ⟨(some 22), .mv (.t 5), none⟩,
 ⟨(some 23), .ia (.t 21) (.t 22) 1, none⟩,
 ⟨(some 24), .ld (.t 23) 1 false, none⟩,
 ⟨(some 25), .bin .neq (.t 20) (.t 24), none⟩])
 (.cond (.t 25) (.seq (.reg [⟨(some 4), .mv (.c (.d (.v (.bool false)))), none⟩])
 (.ret)) (.skip))))
 (.reg [⟨(some 15), .mv (.t 5), none⟩,
 ⟨(some 16), .bin .add (.t 15) (.c (.d (.v (.int .i64 1)))), none⟩,
 ⟨(some 5), .mv (.t 16), none⟩]))

/-- spinet/spinetkeep.Same -/
def c32 : AC :=
 .seq (.reg [⟨(some 4), .mv (.c (.d (.v (.bool false)))), none⟩])
 (.seq (.seq (.reg [⟨(some 6), .mv (.t 0), none⟩,
 ⟨(some 7), .len false (.t 6), none⟩,
 ⟨(some 8), .mv (.t 1), none⟩,
 ⟨(some 9), .len false (.t 8), none⟩,
 ⟨(some 10), .bin .neq (.t 7) (.t 9), none⟩])
 (.cond (.t 10) (.seq (.reg [⟨(some 4), .mv (.c (.d (.v (.bool false)))), none⟩])
 (.ret)) (.skip)))
 (.seq (.seq (.reg [⟨(some 5), .mv (.c (.d (.v (.int .i64 0)))), none⟩])
 (.block 0 (.loop c32l0)))
 (.seq (.reg [⟨(some 4), .mv (.c (.d (.v (.bool true)))), none⟩])
 (.ret))))
def r32 : List RC := [.t 4]

/-- spinet/layout.sizer -/
def c43 : AC :=
 .seq (.reg [⟨(some 2), .mv (.c .nilp), none⟩])
 (.seq (.seq (.reg [⟨(some 3), .mv (.t 0), none⟩,
 ⟨(some 4), .call 15 [(.t 3)], none⟩,
 ⟨(some 5), .un .not (.t 4), none⟩])
 (.cond (.t 5) (.seq (.reg [⟨(some 2), .mv (.c .nilp), none⟩])
 (.ret)) (.skip)))
 (.seq (.reg [⟨(some 6), .mv (.t 0), none⟩,
 ⟨(some 7), .bd [.esl, (.d (.v (.int .i64 0))), (.d (.v (.int .i64 0))), (.d (.v (.int .i64 0))), (.d (.v (.int .i64 0))), (.d (.v (.int .i64 0))), (.d (.v (.int .i64 0))), (.d (.v (.int .i64 0))), (.d (.v (.int .i64 0))), (.d (.v (.int .i64 0))), (.d (.v (.int .i64 0))), (.d (.v (.int .i64 0))), (.d (.v (.int .i64 0))), (.d (.v (.int .i64 0))), (.d (.v (.int .i64 0))), (.d (.v (.int .i64 0))), (.d (.v (.int .i64 0))), (.d (.v (.int .i64 0))), (.d (.v (.int .i64 0))), (.d (.v (.int .i64 0))), (.d (.v (.int .i64 0))), (.d (.v (.int .i64 0))), (.d (.v (.int .i64 0))), (.d (.v (.int .i64 0))), (.d (.v (.int .i64 0))), (.d (.v (.int .i64 0))), (.d (.v (.int .i64 0))), (.d (.v (.int .i64 0))), (.d (.v (.int .i64 0))), (.d (.v (.int .i64 0))), (.d (.v (.int .i64 0))), (.d (.v (.int .i64 0))), (.d (.v (.int .i64 0))), (.d (.v (.int .i64 0))), (.d (.v (.int .i64 0))), (.d (.v (.int .i64 0))), (.d (.v (.int .i64 0))), (.d (.v (.int .i64 0))), (.d (.v (.int .i64 0))), (.d (.v (.int .i64 0))), (.d (.v (.int .i64 0))), (.d (.v (.int .i64 0))), (.d (.v (.int .i64 0))), (.d (.v (.int .i64 0))), (.d (.v (.int .i64 0))), (.d (.v (.int .i64 0))), (.d (.v (.int .i64 0))), (.d (.v (.int .i64 0))), (.d (.v (.int .i64 0))), (.d (.v (.int .i64 0))), (.d (.v (.int .i64 0))), (.d (.v (.int .i64 0))), (.d (.v (.int .i64 0))), (.d (.v (.int .i64 0))), (.d (.v (.int .i64 0))), (.d (.v (.int .i64 0))), (.d (.v (.int .i64 0))), (.d (.v (.int .i64 0))), (.d (.v (.int .i64 0))), (.d (.v (.int .i64 0))), (.d (.v (.int .i64 0))), (.d (.v (.int .i64 0))), (.d (.v (.int .i64 0))), (.d (.v (.int .i64 0))), (.d (.v (.int .i64 0))), (.d (.v (.int .i64 0))), (.d (.v (.int .i64 0))), (.d (.v (.int .i64 0))), (.d (.v (.int .i64 0))), (.d (.v (.int .i64 0))), (.d (.v (.int .i64 0))), (.d (.v (.int .i64 0))), (.d (.v (.int .i64 0))), (.d (.v (.int .i64 0))), (.d (.v (.int .i64 0))), (.d (.v (.int .i64 0))), (.d (.v (.int .i64 0))), (.d (.v (.int .i64 0))), (.d (.v (.int .i64 0))), (.d (.v (.int .i64 0))), (.d (.v (.int .i64 0))), (.d (.v (.int .i64 0))), (.d (.v (.int .i64 0))), (.d (.v (.int .i64 0))), (.d (.v (.int .i64 0))), (.d (.v (.int .i64 0))), (.d (.v (.int .i64 0))), (.d (.v (.int .i64 0))), (.d (.v (.int .i64 0))), (.d (.v (.int .i64 0))), (.d (.v (.int .i64 0))), (.d (.v (.int .i64 0))), (.d (.v (.int .i64 0))), (.d (.v (.int .i64 0))), (.d (.v (.int .i64 0))), (.d (.v (.int .i64 0))), (.d (.v (.int .i64 0))), (.d (.v (.int .i64 0))), (.d (.v (.int .i64 0))), (.d (.v (.int .i64 0))), (.d (.v (.int .i64 0))), (.d (.v (.int .i64 0))), (.d (.v (.int .i64 0))), (.d (.v (.int .i64 0))), (.d (.v (.int .i64 0))), (.d (.v (.int .i64 0))), (.d (.v (.int .i64 0))), (.d (.v (.int .i64 0))), (.d (.v (.int .i64 0))), (.d (.v (.int .i64 0))), (.d (.v (.int .i64 0))), (.d (.v (.int .i64 0))), (.d (.v (.int .i64 0))), (.d (.v (.int .i64 0))), (.d (.v (.int .i64 0))), (.d (.v (.int .i64 0))), (.d (.v (.int .i64 0))), (.d (.v (.int .i64 0))), (.d (.v (.int .i64 0))), (.d (.v (.int .i64 0))), (.d (.v (.int .i64 0))), (.d (.v (.int .i64 0))), (.d (.v (.int .i64 0))), (.d (.v (.int .i64 0))), (.d (.v (.int .i64 0))), (.d (.v (.int .i64 0))), (.d (.v (.int .i64 0))), (.d (.v (.int .i64 0))), (.d (.v (.int .i64 0))), (.d (.v (.int .i64 0))), (.d (.v (.int .i64 0))), (.d (.v (.int .i64 0))), (.d (.v (.int .i64 0))), (.d (.v (.int .i64 0))), (.d (.v (.int .i64 0))), (.d (.v (.int .i64 0))), (.d (.v (.int .i64 0))), (.d (.v (.int .i64 0))), (.d (.v (.int .i64 0))), (.d (.v (.int .i64 0))), (.d (.v (.int .i64 0))), (.d (.v (.int .i64 0))), (.d (.v (.int .i64 0))), (.d (.v (.int .i64 0))), (.d (.v (.int .i64 0))), (.d (.v (.int .i64 0))), (.d (.v (.int .i64 0))), (.d (.v (.int .i64 0))), (.d (.v (.int .i64 0))), (.d (.v (.int .i64 0))), (.d (.v (.int .i64 0))), (.d (.v (.int .i64 0))), (.d (.v (.int .i64 0))), (.d (.v (.int .i64 0))), (.d (.v (.int .i64 0))), (.d (.v (.int .i64 0))), (.d (.v (.int .i64 0))), (.d (.v (.int .i64 0))), (.d (.v (.int .i64 0))), (.d (.v (.int .i64 0))), (.d (.v (.int .i64 0))), (.d (.v (.int .i64 0))), (.d (.v (.int .i64 0))), (.d (.v (.int .i64 0))), (.d (.v (.int .i64 0))), (.d (.v (.int .i64 0))), (.d (.v (.int .i64 0))), (.d (.v (.int .i64 0))), (.d (.v (.int .i64 0))), (.d (.v (.int .i64 0))), (.d (.v (.int .i64 0))), (.d (.v (.int .i64 0))), (.d (.v (.int .i64 0))), (.d (.v (.int .i64 0))), (.d (.v (.int .i64 0))), (.d (.v (.int .i64 0))), (.d (.v (.int .i64 0))), (.d (.v (.int .i64 0))), (.d (.v (.int .i64 0))), (.d (.v (.int .i64 0))), (.d (.v (.int .i64 0))), (.d (.v (.int .i64 0))), (.d (.v (.int .i64 0))), (.d (.v (.int .i64 0))), (.d (.v (.int .i64 0))), (.d (.v (.int .i64 0))), (.d (.v (.int .i64 0))), (.d (.v (.int .i64 0))), (.d (.v (.int .i64 0))), (.d (.v (.int .i64 0))), (.d (.v (.int .i64 0))), (.d (.v (.int .i64 0))), (.d (.v (.int .i64 0))), (.d (.v (.int .i64 0))), (.d (.v (.int .i64 0))), (.d (.v (.int .i64 0))), (.d (.v (.int .i64 0))), (.d (.v (.int .i64 0))), (.d (.v (.int .i64 0))), (.d (.v (.int .i64 0))), (.d (.v (.int .i64 0))), (.d (.v (.int .i64 0))), (.d (.v (.int .i64 0))), (.d (.v (.int .i64 0))), (.d (.v (.int .i64 0))), (.d (.v (.int .i64 0))), (.d (.v (.int .i64 0))), (.d (.v (.int .i64 0))), (.d (.v (.int .i64 0))), (.d (.v (.int .i64 0))), (.d (.v (.int .i64 0))), (.d (.v (.int .i64 0))), (.d (.v (.int .i64 0))), (.d (.v (.int .i64 0))), (.d (.v (.int .i64 0))), (.d (.v (.int .i64 0))), (.d (.v (.int .i64 0))), (.d (.v (.int .i64 0))), (.d (.v (.int .i64 0))), (.d (.v (.int .i64 0))), (.d (.v (.int .i64 0))), (.d (.v (.int .i64 0))), (.d (.v (.int .i64 0))), (.d (.v (.int .i64 0))), (.d (.v (.int .i64 0))), (.d (.v (.int .i64 0))), (.d (.v (.int .i64 0))), (.d (.v (.int .i64 0))), (.d (.v (.int .i64 0))), (.d (.v (.int .i64 0))), (.d (.v (.int .i64 0))), (.d (.v (.int .i64 0))), (.d (.v (.int .i64 0))), (.d (.v (.int .i64 0))), (.d (.v (.int .i64 0))), (.d (.v (.int .i64 0))), (.d (.v (.int .i64 0))), (.d (.v (.int .i64 0))), (.d (.v (.int .i64 0))), (.d (.v (.int .i64 0))), (.d (.v (.int .i64 0))), (.d (.v (.int .i64 0))), (.d (.v (.int .i64 0))), (.d (.v (.int .i64 0))), (.d (.v (.int .i64 0))), (.d (.v (.int .i64 0))), (.d (.v (.int .i64 0))), (.d (.v (.int .i64 0))), (.d (.v (.int .i64 0))), (.d (.v (.int .i64 0))), (.d (.v (.int .i64 0))), (.d (.v (.int .i64 0))), (.d (.v (.int .i64 0))), (.d (.v (.int .i64 0))), (.d (.v (.int .i64 0))), (.d (.v (.int .i64 0))), (.d (.v (.int .i64 0)))] [(0, 1, (.t 6))], none⟩,
 ⟨(some 8), .bx (.t 7), none⟩,
 ⟨(some 2), .mv (.t 8), none⟩])
 (.ret)))
def r43 : List RC := [.t 2]

/-- (*spinet/tables.Sizer).Size -/
def c44 : AC :=
 .seq (.reg [⟨(some 4), .mv (.c (.d (.v (.int .i64 0)))), none⟩])
 (.seq (.seq (.reg [⟨(some 5), .mv (.t 0), none⟩,
 ⟨(some 6), .mv (.t 1), none⟩,
 ⟨(some 7), .nc (.t 5), none⟩,
 ⟨(some 8), .fa (.t 7) 1, none⟩,
 ⟨(some 9), .iar (.t 8) (.t 6) 256 1, none⟩,
 ⟨(some 10), .ld (.t 9) 1 false, none⟩,
 ⟨(some 11), .bin .eql (.t 10) (.c (.d (.v (.int .i64 0)))), none⟩])
 (.cond (.t 11) (.dreg [[], [], [], [], [2, 3], [4], [0], [6], [7, 1, 0, 1, 2, 3, 4, 5], [8, 5, 4, 0, 1, 2, 3, 4, 5]] [⟨(some 12), .mv (.t 0), none⟩,
 ⟨(some 13), .mv (.t 1), none⟩,
 ⟨(some 14), .mv (.t 0), none⟩,
 ⟨(some 15), .mv (.t 1), none⟩,
 ⟨(some 16), .call 64 [(.t 14), (.t 15)], none⟩,
 ⟨(some 17), .bin .add (.t 16) (.c (.d (.v (.int .i64 1)))), none⟩,
 ⟨(some 18), .nc (.t 12), none⟩,
 ⟨(some 19), .fa (.t 18) 1, none⟩,
 ⟨(some 20), .iar (.t 19) (.t 13) 256 1, none⟩,
 ⟨none, .st (.t 20) (.t 17) 1, none⟩]) (.skip)))
 (.seq (.reg [⟨(some 21), .mv (.t 0), none⟩,
 ⟨(some 22), .mv (.t 1), none⟩,
 ⟨(some 23), .nc (.t 21), none⟩,
 ⟨(some 24), .fa (.t 23) 1, none⟩,
 ⟨(some 25), .iar (.t 24) (.t 22) 256 1, none⟩,
 ⟨(some 26), .ld (.t 25) 1 false, none⟩,
 ⟨(some 27), .bin .sub (.t 26) (.c (.d (.v (.int .i64 1)))), none⟩,
 ⟨(some 4), .mv (.t 27), none⟩])
 (.ret)))
def r44 : List RC := [.t 4]

/-- spinet/spinetref14.newSizer -/
def c45 : AC :=
 .seq (.reg [⟨(some 2), .mv (.c .nilp), none⟩])
 (.seq (.reg [⟨(some 3), .mv (.t 0), none⟩,
 ⟨(some 4), .mv (.t 0), none⟩,
 ⟨(some 5), .len false (.t 4), none⟩,
 ⟨(some 6), .mks .hp 3 1 8 [(.d (.v (.int .i64 0)))] (.t 5) (.t 5), none⟩,
 ⟨(some 7), .bd [.esl, .esl] [(0, 1, (.t 3)), (1, 1, (.t 6))], none⟩,
 ⟨(some 8), .bx (.t 7), none⟩,
 ⟨(some 2), .mv (.t 8), none⟩])
 (.ret))
def r45 : List RC := [.t 2]

/-- (*spinet/spinetref14.sizer).size -/
def c46 : AC :=
 .seq (.reg [⟨(some 4), .mv (.c (.d (.v (.int .i64 0)))), none⟩])
 (.seq (.seq (.reg [⟨(some 7), .mv (.t 0), none⟩,
 ⟨(some 8), .nc (.t 7), none⟩,
 ⟨(some 9), .fa (.t 8) 1, none⟩,
 ⟨(some 10), .ld (.t 9) 1 false, none⟩,
 ⟨(some 11), .mv (.t 1), none⟩,
 ⟨(some 12), .ia (.t 10) (.t 11) 1, none⟩,
 ⟨(some 13), .ld (.t 12) 1 false, none⟩,
 ⟨(some 14), .bin .gtr (.t 13) (.c (.d (.v (.int .i64 0)))), none⟩])
 (.cond (.t 14) (.seq (.reg [⟨(some 15), .mv (.t 0), none⟩,
 ⟨(some 16), .nc (.t 15), none⟩,
 ⟨(some 17), .fa (.t 16) 1, none⟩,
 ⟨(some 18), .ld (.t 17) 1 false, none⟩,
 ⟨(some 19), .mv (.t 1), none⟩,
 ⟨(some 20), .ia (.t 18) (.t 19) 1, none⟩,
 ⟨(some 21), .ld (.t 20) 1 false, none⟩,
 ⟨(some 22), .bin .sub (.t 21) (.c (.d (.v (.int .i64 1)))), none⟩,
 ⟨(some 4), .mv (.t 22), none⟩])
 (.ret)) (.skip)))
 (.seq (.reg [⟨(some 5), .mv (.c (.d (.v (.int .i64 0)))), none⟩])
 (.seq (.seq (.reg [⟨(some 23), .mv (.t 0), none⟩,
 ⟨(some 24), .nc (.t 23), none⟩,
 ⟨(some 25), .fa (.t 24) 0, none⟩,
 ⟨(some 26), .ld (.t 25) 1 false, none⟩,
 ⟨(some 27), .mv (.t 1), none⟩,
 ⟨(some 28), .ia (.t 26) (.t 27) 10, none⟩,
 ⟨(some 29), .ld (.t 28) 10 true, none⟩,
 ⟨(some 6), .al [(.d (.v (.int .i64 0))), (.d (.v (.string ⟨#[]⟩))), (.d (.v (.string ⟨#[]⟩))), (.d (.v (.int .i64 0))), (.d (.v (.int .i64 0))), (.d (.v (.int .i64 0))), .esl, .esl, (.d (.v (.int .i64 0))), (.d (.v (.int .i64 0)))], none⟩,
 ⟨none, .st (.t 6) (.t 29) 10, none⟩])
 (.seq (.reg [⟨(some 30), .fa (.t 6) 0, none⟩,
 ⟨(some 31), .ld (.t 30) 1 false, none⟩])
 (.block 0 (.seq (.seq (.reg [⟨(some 33), .bin .eql (.t 31) (.c (.d (.v (.int .i64 1)))), none⟩,
 ⟨(some 32), .mv (.t 33), none⟩])
 (.cond (.t 32) (.skip) (.seq (.reg [⟨(some 34), .bin .eql (.t 31) (.c (.d (.v (.int .i64 4)))), none⟩,
 ⟨(some 32), .mv (.t 34), none⟩])
 (.cond (.t 32) (.skip) (.seq (.reg [⟨(some 35), .bin .eql (.t 31) (.c (.d (.v (.int .i64 10)))), none⟩,
 ⟨(some 32), .mv (.t 35), none⟩])
 (.cond (.t 32) (.skip) (.reg [⟨(some 36), .bin .eql (.t 31) (.c (.d (.v (.int .i64 11)))), none⟩,
 ⟨(some 32), .mv (.t 36), none⟩])))))))
 (.cond (.t 32) (.reg [⟨(some 5), .mv (.c (.d (.v (.int .i64 4)))), none⟩]) (.seq (.seq (.reg [⟨(some 38), .bin .eql (.t 31) (.c (.d (.v (.int .i64 2)))), none⟩,
 ⟨(some 37), .mv (.t 38), none⟩])
 (.cond (.t 37) (.skip) (.reg [⟨(some 39), .bin .eql (.t 31) (.c (.d (.v (.int .i64 3)))), none⟩,
 ⟨(some 37), .mv (.t 39), none⟩])))
 (.cond (.t 37) (.reg [⟨(some 5), .mv (.c (.d (.v (.int .i64 1)))), none⟩]) (.seq (.reg [⟨(some 41), .bin .eql (.t 31) (.c (.d (.v (.int .i64 7)))), none⟩,
 ⟨(some 40), .mv (.t 41), none⟩])
 (.cond (.t 40) (.dreg [[], [0], [], [], [3], [2, 4], [1, 5], [6, 5], [7], [8, 7, 0, 1, 2, 3, 4, 5, 6, 7, 8]] [⟨(some 42), .fa (.t 6) 3, none⟩,
 ⟨(some 43), .ld (.t 42) 1 false, none⟩,
 ⟨(some 44), .mv (.t 0), none⟩,
 ⟨(some 45), .fa (.t 6) 4, none⟩,
 ⟨(some 46), .ld (.t 45) 1 false, none⟩,
 ⟨(some 47), .call 46 [(.t 44), (.t 46)], none⟩,
 ⟨(some 48), .bin .mul (.t 43) (.t 47), none⟩,
 ⟨(some 49), .call 51 [(.t 48)], none⟩,
 ⟨(some 50), .mn [(.t 49), (.c (.d (.v (.int .i64 32769))))], none⟩,
 ⟨(some 5), .mv (.t 50), none⟩]) (.seq (.reg [⟨(some 52), .bin .eql (.t 31) (.c (.d (.v (.int .i64 9)))), none⟩,
 ⟨(some 51), .mv (.t 52), none⟩])
 (.cond (.t 51) (.seq (.seq (.reg [⟨(some 53), .fa (.t 6) 5, none⟩,
 ⟨(some 54), .ld (.t 53) 1 false, none⟩,
 ⟨(some 55), .bin .neq (.t 54) (.c (.d (.v (.int .i64 0)))), none⟩])
 (.cond (.t 55) (.reg [⟨(some 56), .mv (.t 0), none⟩,
 ⟨(some 57), .fa (.t 6) 5, none⟩,
 ⟨(some 58), .ld (.t 57) 1 false, none⟩,
 ⟨(some 59), .call 46 [(.t 56), (.t 58)], none⟩,
 ⟨(some 5), .mv (.t 59), none⟩]) (.skip)))
 (.seq (.reg [⟨(some 61), .mv (.t 0), none⟩,
 ⟨(some 62), .ld (.t 6) 10 true, none⟩,
 ⟨(some 63), .call 49 [(.t 62)], none⟩,
 ⟨(some 64), .mv (.t 5), none⟩,
 ⟨(some 65), .call 48 [(.t 61), (.t 63), (.t 64)], none⟩,
 ⟨(some 60), .mv (.t 65), none⟩,
 ⟨(some 66), .ext (.t 60) 0, none⟩,
 ⟨(some 67), .ext (.t 60) 1, none⟩,
 ⟨(some 5), .mv (.t 67), none⟩])
 (.reg [⟨(some 68), .mv (.t 5), none⟩,
 ⟨(some 69), .call 51 [(.t 68)], none⟩,
 ⟨(some 70), .mn [(.t 69), (.c (.d (.v (.int .i64 32769))))], none⟩,
 ⟨(some 5), .mv (.t 70), none⟩]))) (.skip))))))))))))
 (.seq (.reg [⟨(some 71), .mv (.t 0), none⟩,
 ⟨(some 72), .nc (.t 71), none⟩,
 ⟨(some 73), .fa (.t 72) 1, none⟩,
 ⟨(some 74), .ld (.t 73) 1 false, none⟩,
 ⟨(some 75), .mv (.t 1), none⟩,
 ⟨(some 76), .mv (.t 5), none⟩,
 ⟨(some 77), .bin .add (.t 76) (.c (.d (.v (.int .i64 1)))), none⟩,
 ⟨(some 78), .ia (.t 74) (.t 75) 1, none⟩,
 ⟨none, .st (.t 78) (.t 77) 1, none⟩])
 (.seq (.reg [⟨(some 79), .mv (.t 5), none⟩,
 ⟨(some 4), .mv (.t 79), none⟩])
 (.ret))))))
def r46 : List RC := [.t 4]

def c47l0 : AC :=
 .seq (.reg [⟨(some 49), .bin .lss (.t 48) (.t 47), none⟩])
 (.seq (.cond (.t 49) (.skip) (.exit 2))
 (.seq (.block 3 (.seq (.reg [⟨(some 50), .ia (.t 46) (.t 48) 3, none⟩,
 ⟨(some 51), .ld (.t 50) 3 true, none⟩,
 ⟨(some 11), .al [(.d (.v (.string ⟨#[]⟩))), (.d (.v (.bool false))), (.d (.v (.int .i64 0)))], none⟩,
 ⟨none, .st (.t 11) (.t 51) 3, none⟩])
 (.seq (.reg [⟨(some 53), .mv (.t 0), none⟩,
 ⟨(some 54), .mv (.t 9), none⟩,
 ⟨(some 55), .fa (.t 11) 2, none⟩,
 ⟨(some 56), .ld (.t 55) 1 false, none⟩,
 ⟨(some 57), .call 50 [(.t 53), (.t 54), (.t 56)], none⟩,
 ⟨(some 52), .mv (.t 57), none⟩,
 ⟨(some 58), .ext (.t 52) 0, none⟩,
 ⟨(some 59), .ext (.t 52) 1, none⟩,
 ⟨(some 6), .mv (.t 58), none⟩,
 ⟨(some 9), .mv (.t 59), none⟩])
 (.seq (.reg [⟨(some 60), .fa (.t 11) 0, none⟩,
 ⟨(some 61), .ld (.t 60) 1 false, none⟩,
 ⟨(some 62), .mv (.t 2), none⟩,
 ⟨(some 63), .bin .eql (.t 61) (.t 62), none⟩])
 (.cond (.t 63) (.seq (.dreg [[], [], [1], [0, 0], [2, 3, 0, 1, 2, 3], [4, 0, 1, 2, 3, 4]] [⟨(some 64), .mv (.t 6), none⟩,
 ⟨(some 65), .fa (.t 11) 2, none⟩,
 ⟨(some 66), .ld (.t 65) 1 false, none⟩,
 ⟨(some 6), .mv (.t 64), none⟩,
 ⟨(some 7), .mv (.t 66), none⟩,
 ⟨(some 8), .mv (.c (.d (.v (.bool true)))), none⟩])
 (.ret)) (.skip))))))
 (.reg [⟨(some 67), .bin .add (.t 48) (.c (.d (.v (.int .i64 1)))), none⟩,
 ⟨(some 48), .mv (.t 67), none⟩])))

def c47l1 : AC :=
 .seq (.seq (.reg [⟨(some 12), .mv (.t 0), none⟩,
 ⟨(some 13), .nc (.t 12), none⟩,
 ⟨(some 14), .fa (.t 13) 0, none⟩,
 ⟨(some 15), .ld (.t 14) 1 false, none⟩,
 ⟨(some 16), .mv (.t 1), none⟩,
 ⟨(some 17), .ia (.t 15) (.t 16) 10, none⟩,
 ⟨(some 18), .fa (.t 17) 0, none⟩,
 ⟨(some 19), .ld (.t 18) 1 false, none⟩,
 ⟨(some 20), .bin .eql (.t 19) (.c (.d (.v (.int .i64 9)))), none⟩])
 (.cond (.t 20) (.skip) (.exit 0)))
 (.seq (.block 1 (.seq (.reg [⟨(some 29), .mv (.t 0), none⟩,
 ⟨(some 30), .mv (.t 0), none⟩,
 ⟨(some 31), .nc (.t 30), none⟩,
 ⟨(some 32), .fa (.t 31) 0, none⟩,
 ⟨(some 33), .ld (.t 32) 1 false, none⟩,
 ⟨(some 34), .mv (.t 1), none⟩,
 ⟨(some 35), .ia (.t 33) (.t 34) 10, none⟩,
 ⟨(some 36), .fa (.t 35) 5, none⟩,
 ⟨(some 37), .ld (.t 36) 1 false, none⟩,
 ⟨(some 38), .call 44 [(.t 29), (.t 37)], none⟩,
 ⟨(some 9), .mv (.t 38), none⟩])
 (.seq (.reg [⟨(some 39), .mv (.t 0), none⟩,
 ⟨(some 40), .nc (.t 39), none⟩,
 ⟨(some 41), .fa (.t 40) 0, none⟩,
 ⟨(some 42), .ld (.t 41) 1 false, none⟩,
 ⟨(some 43), .mv (.t 1), none⟩,
 ⟨(some 44), .ia (.t 42) (.t 43) 10, none⟩,
 ⟨(some 45), .fa (.t 44) 6, none⟩,
 ⟨(some 46), .ld (.t 45) 1 false, none⟩,
 ⟨(some 47), .len false (.t 46), none⟩,
 ⟨(some 48), .mv (.c (.d (.v (.int .i64 0)))), none⟩])
 (.block 2 (.loop c47l0)))))
 (.reg [⟨(some 21), .mv (.t 0), none⟩,
 ⟨(some 22), .nc (.t 21), none⟩,
 ⟨(some 23), .fa (.t 22) 0, none⟩,
 ⟨(some 24), .ld (.t 23) 1 false, none⟩,
 ⟨(some 25), .mv (.t 1), none⟩,
 ⟨(some 26), .ia (.t 24) (.t 25) 10, none⟩,
 ⟨(some 27), .fa (.t 26) 5, none⟩,
 ⟨(some 28), .ld (.t 27) 1 false, none⟩,
 ⟨(some 1), .mv (.t 28), none⟩]))

/-- (*spinet/tables.Sizer).Offset -/
def c47 : AC :=
 .seq (.reg [⟨(some 6), .mv (.c (.d (.v (.int .i64 0)))), none⟩,
 ⟨(some 7), .mv (.c (.d (.v (.int .i64 0)))), none⟩,
 ⟨(some 8), .mv (.c (.d (.v (.bool false)))), none⟩])
 (.seq (.block 0 (.loop c47l1))
 (.seq (.reg [⟨(some 6), .mv (.c (.d (.v (.int .i64 0)))), none⟩,
 ⟨(some 7), .mv (.c (.d (.v (.int .i64 0)))), none⟩,
 ⟨(some 8), .mv (.c (.d (.v (.bool false)))), none⟩])
 (.ret)))
def r47 : List RC := [.t 6, .t 7, .t 8]

def c48l0 : AC :=
 .seq (.seq (.reg [⟨(some 11), .mv (.t 9), none⟩,
 ⟨(some 12), .mv (.t 1), none⟩,
 ⟨(some 13), .len false (.t 12), none⟩,
 ⟨(some 14), .bin .lss (.t 11) (.t 13), none⟩])
 (.cond (.t 14) (.skip) (.exit 0)))
 (.seq (.block 1 (.seq (.seq (.dreg [[], [0], [1], [2], [], [], [4, 5], [6], [3, 7], [8], [9], [10, 0, 1, 2, 3, 4, 5, 6, 7, 8, 9, 10]] [⟨(some 17), .mv (.t 0), none⟩,
 ⟨(some 18), .nc (.t 17), none⟩,
 ⟨(some 19), .fa (.t 18) 0, none⟩,
 ⟨(some 20), .ld (.t 19) 1 false, none⟩,
 ⟨(some 21), .mv (.t 1), none⟩,
 ⟨(some 22), .mv (.t 9), none⟩,
 ⟨(some 23), .ia (.t 21) (.t 22) 1, none⟩,
 ⟨(some 24), .ld (.t 23) 1 false, none⟩,
 ⟨(some 25), .ia (.t 20) (.t 24) 10, none⟩,
 ⟨(some 26), .fa (.t 25) 0, none⟩,
 ⟨(some 27), .ld (.t 26) 1 false, none⟩,
 ⟨(some 10), .mv (.t 27), none⟩])
 (.seq (.reg [⟨(some 28), .mv (.t 10), none⟩,
 ⟨(some 29), .bin .neq (.t 28) (.c (.d (.v (.int .i64 2)))), none⟩,
 ⟨(some 30), .mv (.t 29), none⟩,
 ⟨(some 31), .mv (.t 10), (some (30, true))⟩,
 ⟨(some 32), .bin .neq (.t 31) (.c (.d (.v (.int .i64 3)))), (some (30, true))⟩,
 ⟨(some 33), .pick (.t 30) (.t 32) (.c (.d (.v (.bool false)))), none⟩])
 (.cond (.t 33) (.reg [⟨(some 34), .mv (.t 2), none⟩,
 ⟨(some 35), .call 51 [(.t 34)], none⟩,
 ⟨(some 2), .mv (.t 35), none⟩]) (.skip))))
 (.seq (.reg [⟨(some 36), .mv (.t 8), none⟩,
 ⟨(some 37), .mv (.t 2), none⟩,
 ⟨(some 38), .bs .im 3 1 [(.t 37)], none⟩,
 ⟨(some 39), .app .gr 3 1 8 (.t 36) (.t 38), none⟩,
 ⟨(some 8), .mvg 3 1 (.t 39), none⟩])
 (.reg [⟨(some 40), .mv (.t 2), none⟩,
 ⟨(some 41), .mv (.t 0), none⟩,
 ⟨(some 42), .mv (.t 1), none⟩,
 ⟨(some 43), .mv (.t 9), none⟩,
 ⟨(some 44), .ia (.t 42) (.t 43) 1, none⟩,
 ⟨(some 45), .ld (.t 44) 1 false, none⟩,
 ⟨(some 46), .call 46 [(.t 41), (.t 45)], none⟩,
 ⟨(some 47), .bin .add (.t 40) (.t 46), none⟩,
 ⟨(some 48), .mn [(.t 47), (.c (.d (.v (.int .i64 32772))))], none⟩,
 ⟨(some 2), .mv (.t 48), none⟩]))))
 (.reg [⟨(some 15), .mv (.t 9), none⟩,
 ⟨(some 16), .bin .add (.t 15) (.c (.d (.v (.int .i64 1)))), none⟩,
 ⟨(some 9), .mv (.t 16), none⟩]))

/-- (*spinet/spinetref14.sizer).laid -/
def c48 : AC :=
 .seq (.reg [⟨(some 6), .mv (.c .esl), none⟩,
 ⟨(some 7), .mv (.c (.d (.v (.int .i64 0)))), none⟩])
 (.seq (.reg [⟨(some 8), .mvg 3 1 (.c .esl), none⟩])
 (.seq (.seq (.reg [⟨(some 9), .mv (.c (.d (.v (.int .i64 0)))), none⟩])
 (.block 0 (.loop c48l0)))
 (.seq (.reg [⟨(some 49), .mv (.t 8), none⟩,
 ⟨(some 50), .mv (.t 2), none⟩,
 ⟨(some 6), .mv (.t 49), none⟩,
 ⟨(some 7), .mv (.t 50), none⟩])
 (.ret))))
def r48 : List RC := [.t 6, .t 7]

def c49l0 : AC :=
 .seq (.seq (.reg [⟨(some 5), .mv (.t 4), none⟩,
 ⟨(some 6), .fa (.t 1) 6, none⟩,
 ⟨(some 7), .ld (.t 6) 1 false, none⟩,
 ⟨(some 8), .len false (.t 7), none⟩,
 ⟨(some 9), .bin .lss (.t 5) (.t 8), none⟩])
 (.cond (.t 9) (.skip) (.exit 0)))
 (.seq (.block 1 (.reg [⟨(some 12), .mv (.t 3), none⟩,
 ⟨(some 13), .fa (.t 1) 6, none⟩,
 ⟨(some 14), .ld (.t 13) 1 false, none⟩,
 ⟨(some 15), .mv (.t 4), none⟩,
 ⟨(some 16), .ia (.t 14) (.t 15) 3, none⟩,
 ⟨(some 17), .fa (.t 16) 2, none⟩,
 ⟨(some 18), .ld (.t 17) 1 false, none⟩,
 ⟨(some 19), .bs .im 3 1 [(.t 18)], none⟩,
 ⟨(some 20), .app .gr 3 1 8 (.t 12) (.t 19), none⟩,
 ⟨(some 3), .mvg 3 1 (.t 20), none⟩]))
 (.reg [⟨(some 10), .mv (.t 4), none⟩,
 ⟨(some 11), .bin .add (.t 10) (.c (.d (.v (.int .i64 1)))), none⟩,
 ⟨(some 4), .mv (.t 11), none⟩]))

/-- spinet/spinetref14.fields -/
def c49 : AC :=
 .seq (.reg [⟨(some 1), .bx (.t 0), none⟩,
 ⟨(some 2), .mv (.c .esl), none⟩])
 (.seq (.reg [⟨(some 3), .mvg 3 1 (.c .esl), none⟩])
 (.seq (.seq (.reg [⟨(some 4), .mv (.c (.d (.v (.int .i64 0)))), none⟩])
 (.block 0 (.loop c49l0)))
 (.seq (.reg [⟨(some 21), .mv (.t 3), none⟩,
 ⟨(some 2), .mv (.t 21), none⟩])
 (.ret))))
def r49 : List RC := [.t 2]

/-- (*spinet/tables.Sizer).Place -/
def c50 : AC :=
 .seq (.reg [⟨(some 6), .mv (.c (.d (.v (.int .i64 0)))), none⟩,
 ⟨(some 7), .mv (.c (.d (.v (.int .i64 0)))), none⟩])
 (.seq (.seq (.reg [⟨(some 9), .mv (.t 0), none⟩,
 ⟨(some 10), .nc (.t 9), none⟩,
 ⟨(some 11), .fa (.t 10) 0, none⟩,
 ⟨(some 12), .ld (.t 11) 1 false, none⟩,
 ⟨(some 13), .mv (.t 2), none⟩,
 ⟨(some 14), .ia (.t 12) (.t 13) 10, none⟩,
 ⟨(some 15), .fa (.t 14) 0, none⟩,
 ⟨(some 16), .ld (.t 15) 1 false, none⟩,
 ⟨(some 8), .mv (.t 16), none⟩])
 (.seq (.reg [⟨(some 17), .mv (.t 8), none⟩,
 ⟨(some 18), .bin .neq (.t 17) (.c (.d (.v (.int .i64 2)))), none⟩,
 ⟨(some 19), .mv (.t 18), none⟩,
 ⟨(some 20), .mv (.t 8), (some (19, true))⟩,
 ⟨(some 21), .bin .neq (.t 20) (.c (.d (.v (.int .i64 3)))), (some (19, true))⟩,
 ⟨(some 22), .pick (.t 19) (.t 21) (.c (.d (.v (.bool false)))), none⟩])
 (.cond (.t 22) (.reg [⟨(some 23), .mv (.t 1), none⟩,
 ⟨(some 24), .call 65 [(.t 23)], none⟩,
 ⟨(some 1), .mv (.t 24), none⟩]) (.skip))))
 (.seq (.reg [⟨(some 25), .mv (.t 1), none⟩,
 ⟨(some 26), .mv (.t 1), none⟩,
 ⟨(some 27), .mv (.t 0), none⟩,
 ⟨(some 28), .mv (.t 2), none⟩,
 ⟨(some 29), .call 44 [(.t 27), (.t 28)], none⟩,
 ⟨(some 30), .bin .add (.t 26) (.t 29), none⟩,
 ⟨(some 31), .call 66 [(.t 30)], none⟩,
 ⟨(some 6), .mv (.t 25), none⟩,
 ⟨(some 7), .mv (.t 31), none⟩])
 (.ret)))
def r50 : List RC := [.t 6, .t 7]

/-- spinet/spinetref14.up -/
def c51 : AC :=
 .seq (.reg [⟨(some 2), .mv (.c (.d (.v (.int .i64 0)))), none⟩])
 (.seq (.reg [⟨(some 3), .mv (.t 0), none⟩,
 ⟨(some 4), .bin .add (.t 3) (.c (.d (.v (.int .i64 3)))), none⟩,
 ⟨(some 5), .bin .quo (.t 4) (.c (.d (.v (.int .i64 4)))), none⟩,
 ⟨(some 6), .bin .mul (.t 5) (.c (.d (.v (.int .i64 4)))), none⟩,
 ⟨(some 2), .mv (.t 6), none⟩])
 (.ret))
def r51 : List RC := [.t 2]

def c64l0 : AC :=
 .seq (.reg [⟨(some 47), .bin .lss (.t 46) (.t 45), none⟩])
 (.seq (.cond (.t 47) (.skip) (.exit 1))
 (.seq (.block 2 (.seq (.reg [⟨(some 48), .ia (.t 44) (.t 46) 3, none⟩,
 ⟨(some 49), .ld (.t 48) 3 true, none⟩,
 ⟨(some 8), .al [(.d (.v (.string ⟨#[]⟩))), (.d (.v (.bool false))), (.d (.v (.int .i64 0)))], none⟩,
 ⟨none, .st (.t 8) (.t 49) 3, none⟩])
 (.reg [⟨(some 51), .mv (.t 0), none⟩,
 ⟨(some 52), .mv (.t 6), none⟩,
 ⟨(some 53), .fa (.t 8) 2, none⟩,
 ⟨(some 54), .ld (.t 53) 1 false, none⟩,
 ⟨(some 55), .call 50 [(.t 51), (.t 52), (.t 54)], none⟩,
 ⟨(some 50), .mv (.t 55), none⟩,
 ⟨(some 56), .ext (.t 50) 0, none⟩,
 ⟨(some 57), .ext (.t 50) 1, none⟩,
 ⟨(some 6), .mv (.t 57), none⟩])))
 (.reg [⟨(some 58), .bin .add (.t 46) (.c (.d (.v (.int .i64 1)))), none⟩,
 ⟨(some 46), .mv (.t 58), none⟩])))

/-- (*spinet/tables.Sizer).size -/
def c64 : AC :=
 .seq (.reg [⟨(some 4), .mv (.c (.d (.v (.int .i64 0)))), none⟩])
 (.seq (.reg [⟨(some 9), .mv (.t 0), none⟩,
 ⟨(some 10), .nc (.t 9), none⟩,
 ⟨(some 11), .fa (.t 10) 0, none⟩,
 ⟨(some 12), .ld (.t 11) 1 false, none⟩,
 ⟨(some 13), .mv (.t 1), none⟩,
 ⟨(some 14), .ia (.t 12) (.t 13) 10, none⟩,
 ⟨(some 15), .ld (.t 14) 10 true, none⟩,
 ⟨(some 5), .al [(.d (.v (.int .i64 0))), (.d (.v (.string ⟨#[]⟩))), (.d (.v (.string ⟨#[]⟩))), (.d (.v (.int .i64 0))), (.d (.v (.int .i64 0))), (.d (.v (.int .i64 0))), .esl, .esl, (.d (.v (.int .i64 0))), (.d (.v (.int .i64 0)))], none⟩,
 ⟨none, .st (.t 5) (.t 15) 10, none⟩])
 (.seq (.seq (.reg [⟨(some 16), .fa (.t 5) 0, none⟩,
 ⟨(some 17), .ld (.t 16) 1 false, none⟩])
 (.block 0 (.seq (.seq (.reg [⟨(some 19), .bin .eql (.t 17) (.c (.d (.v (.int .i64 1)))), none⟩,
 ⟨(some 18), .mv (.t 19), none⟩])
 (.cond (.t 18) (.skip) (.seq (.reg [⟨(some 20), .bin .eql (.t 17) (.c (.d (.v (.int .i64 4)))), none⟩,
 ⟨(some 18), .mv (.t 20), none⟩])
 (.cond (.t 18) (.skip) (.seq (.reg [⟨(some 21), .bin .eql (.t 17) (.c (.d (.v (.int .i64 10)))), none⟩,
 ⟨(some 18), .mv (.t 21), none⟩])
 (.cond (.t 18) (.skip) (.reg [⟨(some 22), .bin .eql (.t 17) (.c (.d (.v (.int .i64 11)))), none⟩,
 ⟨(some 18), .mv (.t 22), none⟩])))))))
 (.cond (.t 18) (.seq (.reg [⟨(some 4), .mv (.c (.d (.v (.int .i64 4)))), none⟩])
 (.ret)) (.seq (.seq (.reg [⟨(some 24), .bin .eql (.t 17) (.c (.d (.v (.int .i64 2)))), none⟩,
 ⟨(some 23), .mv (.t 24), none⟩])
 (.cond (.t 23) (.skip) (.reg [⟨(some 25), .bin .eql (.t 17) (.c (.d (.v (.int .i64 3)))), none⟩,
 ⟨(some 23), .mv (.t 25), none⟩])))
 (.cond (.t 23) (.seq (.reg [⟨(some 4), .mv (.c (.d (.v (.int .i64 1)))), none⟩])
 (.ret)) (.seq (.reg [⟨(some 27), .bin .eql (.t 17) (.c (.d (.v (.int .i64 7)))), none⟩,
 ⟨(some 26), .mv (.t 27), none⟩])
 (.cond (.t 26) (.seq (.dreg [[], [0], [], [], [3], [2, 4], [1, 5], [6, 5], [7, 7], [8, 8, 0, 1, 2, 3, 4, 5, 6, 7, 8]] [⟨(some 28), .fa (.t 5) 3, none⟩,
 ⟨(some 29), .ld (.t 28) 1 false, none⟩,
 ⟨(some 30), .mv (.t 0), none⟩,
 ⟨(some 31), .fa (.t 5) 4, none⟩,
 ⟨(some 32), .ld (.t 31) 1 false, none⟩,
 ⟨(some 33), .call 44 [(.t 30), (.t 32)], none⟩,
 ⟨(some 34), .bin .mul (.t 29) (.t 33), none⟩,
 ⟨(some 35), .call 65 [(.t 34)], none⟩,
 ⟨(some 36), .call 66 [(.t 35)], none⟩,
 ⟨(some 4), .mv (.t 36), none⟩])
 (.ret)) (.seq (.reg [⟨(some 38), .bin .eql (.t 17) (.c (.d (.v (.int .i64 9)))), none⟩,
 ⟨(some 37), .mv (.t 38), none⟩])
 (.cond (.t 37) (.seq (.reg [⟨(some 39), .mv (.t 0), none⟩,
 ⟨(some 40), .fa (.t 5) 5, none⟩,
 ⟨(some 41), .ld (.t 40) 1 false, none⟩,
 ⟨(some 42), .call 44 [(.t 39), (.t 41)], none⟩,
 ⟨(some 6), .mv (.t 42), none⟩])
 (.seq (.seq (.reg [⟨(some 43), .fa (.t 5) 6, none⟩,
 ⟨(some 44), .ld (.t 43) 1 false, none⟩,
 ⟨(some 45), .len false (.t 44), none⟩,
 ⟨(some 46), .mv (.c (.d (.v (.int .i64 0)))), none⟩])
 (.block 1 (.loop c64l0)))
 (.seq (.reg [⟨(some 59), .mv (.t 6), none⟩,
 ⟨(some 60), .call 65 [(.t 59)], none⟩,
 ⟨(some 61), .call 66 [(.t 60)], none⟩,
 ⟨(some 4), .mv (.t 61), none⟩])
 (.ret)))) (.skip)))))))))))
 (.seq (.reg [⟨(some 4), .mv (.c (.d (.v (.int .i64 0)))), none⟩])
 (.ret))))
def r64 : List RC := [.t 4]

/-- spinet/tables.up -/
def c65 : AC :=
 .seq (.reg [⟨(some 2), .mv (.c (.d (.v (.int .i64 0)))), none⟩])
 (.seq (.reg [⟨(some 3), .mv (.t 0), none⟩,
 ⟨(some 4), .bin .add (.t 3) (.c (.d (.v (.int .i64 3)))), none⟩,
 ⟨(some 5), .bin .shr (.t 4) (.c (.d (.v (.int .u64 2)))), none⟩,
 ⟨(some 6), .bin .shl (.t 5) (.c (.d (.v (.int .u64 2)))), none⟩,
 ⟨(some 2), .mv (.t 6), none⟩])
 (.ret))
def r65 : List RC := [.t 2]

/-- spinet/tables.cut -/
def c66 : AC :=
 .seq (.reg [⟨(some 2), .mv (.c (.d (.v (.int .i64 0)))), none⟩])
 (.seq (.reg [⟨(some 3), .mv (.t 0), none⟩,
 ⟨(some 4), .mn [(.t 3), (.c (.d (.v (.int .i64 32769))))], none⟩,
 ⟨(some 2), .mv (.t 4), none⟩])
 (.ret))
def r66 : List RC := [.t 2]

theorem cc7 : Try.f7.body.bind (comp Try.prog (hhL 7)) = some c7 := by kernel_rfl
theorem rr7 : resC Try.prog Try.f7 = some r7 := by kernel_rfl
theorem cc8 : Try.f8.body.bind (comp Try.prog (hhL 8)) = some c8 := by kernel_rfl
theorem rr8 : resC Try.prog Try.f8 = some r8 := by kernel_rfl
theorem cc9 : Try.f9.body.bind (comp Try.prog (hhL 9)) = some c9 := by kernel_rfl
theorem rr9 : resC Try.prog Try.f9 = some r9 := by kernel_rfl
theorem cc10 : Try.f10.body.bind (comp Try.prog (hhL 10)) = some c10 := by kernel_rfl
theorem rr10 : resC Try.prog Try.f10 = some r10 := by kernel_rfl
theorem cc11 : Try.f11.body.bind (comp Try.prog (hhL 11)) = some c11 := by kernel_rfl
theorem rr11 : resC Try.prog Try.f11 = some r11 := by kernel_rfl
theorem cc25 : Try.f25.body.bind (comp Try.prog (hhL 25)) = some c25 := by kernel_rfl
theorem rr25 : resC Try.prog Try.f25 = some r25 := by kernel_rfl
theorem cc26 : Try.f26.body.bind (comp Try.prog (hhL 26)) = some c26 := by kernel_rfl
theorem rr26 : resC Try.prog Try.f26 = some r26 := by kernel_rfl
theorem cc27 : Try.f27.body.bind (comp Try.prog (hhL 27)) = some c27 := by kernel_rfl
theorem rr27 : resC Try.prog Try.f27 = some r27 := by kernel_rfl
theorem cc28 : Try.f28.body.bind (comp Try.prog (hhL 28)) = some c28 := by kernel_rfl
theorem rr28 : resC Try.prog Try.f28 = some r28 := by kernel_rfl
theorem cc29 : Try.f29.body.bind (comp Try.prog (hhL 29)) = some c29 := by kernel_rfl
theorem rr29 : resC Try.prog Try.f29 = some r29 := by kernel_rfl
theorem cc30 : Try.f30.body.bind (comp Try.prog (hhL 30)) = some c30 := by kernel_rfl
theorem rr30 : resC Try.prog Try.f30 = some r30 := by kernel_rfl
theorem cc31 : Try.f31.body.bind (comp Try.prog (hhL 31)) = some c31 := by kernel_rfl
theorem rr31 : resC Try.prog Try.f31 = some r31 := by kernel_rfl
theorem cc32 : Try.f32.body.bind (comp Try.prog (hhL 32)) = some c32 := by kernel_rfl
theorem rr32 : resC Try.prog Try.f32 = some r32 := by kernel_rfl
theorem cc43 : Try.f43.body.bind (comp Try.prog (hhL 43)) = some c43 := by kernel_rfl
theorem rr43 : resC Try.prog Try.f43 = some r43 := by kernel_rfl
theorem cc44 : Try.f44.body.bind (comp Try.prog (hhL 44)) = some c44 := by kernel_rfl
theorem rr44 : resC Try.prog Try.f44 = some r44 := by kernel_rfl
theorem cc45 : Try.f45.body.bind (comp Try.prog (hhL 45)) = some c45 := by kernel_rfl
theorem rr45 : resC Try.prog Try.f45 = some r45 := by kernel_rfl
theorem cc46 : Try.f46.body.bind (comp Try.prog (hhL 46)) = some c46 := by kernel_rfl
theorem rr46 : resC Try.prog Try.f46 = some r46 := by kernel_rfl
theorem cc47 : Try.f47.body.bind (comp Try.prog (hhL 47)) = some c47 := by kernel_rfl
theorem rr47 : resC Try.prog Try.f47 = some r47 := by kernel_rfl
theorem cc48 : Try.f48.body.bind (comp Try.prog (hhL 48)) = some c48 := by kernel_rfl
theorem rr48 : resC Try.prog Try.f48 = some r48 := by kernel_rfl
theorem cc49 : Try.f49.body.bind (comp Try.prog (hhL 49)) = some c49 := by kernel_rfl
theorem rr49 : resC Try.prog Try.f49 = some r49 := by kernel_rfl
theorem cc50 : Try.f50.body.bind (comp Try.prog (hhL 50)) = some c50 := by kernel_rfl
theorem rr50 : resC Try.prog Try.f50 = some r50 := by kernel_rfl
theorem cc51 : Try.f51.body.bind (comp Try.prog (hhL 51)) = some c51 := by kernel_rfl
theorem rr51 : resC Try.prog Try.f51 = some r51 := by kernel_rfl
theorem cc64 : Try.f64.body.bind (comp Try.prog (hhL 64)) = some c64 := by kernel_rfl
theorem rr64 : resC Try.prog Try.f64 = some r64 := by kernel_rfl
theorem cc65 : Try.f65.body.bind (comp Try.prog (hhL 65)) = some c65 := by kernel_rfl
theorem rr65 : resC Try.prog Try.f65 = some r65 := by kernel_rfl
theorem cc66 : Try.f66.body.bind (comp Try.prog (hhL 66)) = some c66 := by kernel_rfl
theorem rr66 : resC Try.prog Try.f66 = some r66 := by kernel_rfl
end Go.Proofs.Ytlhpcccffmfopaa
