/- The functions' code in the small language. Printed by program (wip/tools). -/
import Derived.Test.YthifjndenhjobaaZRead
import Derived.Test.YthifjndenhjobaaZCode
import Derived.Test.YthifjndenhjobaaProg
import Derived.KernelRfl
namespace Go.Proofs.Ythifjndenhjobaa
set_option linter.unusedVariables false
set_option linter.unusedSimpArgs false
open Go.RowKit
def hhI : Nat → Nat → Option Md := fun fn slot => if (fn, slot) ∈ [(110, 7), (110, 36), (110, 50), (136, 8), (34, 3), (40, 1), (51, 1)] then some .gr else if (fn, slot) ∈ [(34, 19), (34, 23), (16, 6), (16, 15)] then some .im else none

def c3 : AC :=
 .seq (.reg [kn 2 (.bx (.t 0)), kn 4 (.mv (.c (.d (.v (.bool false)))))])
 (.seq (.seq (.reg [kn 10 (.ld (.t 2) 5 true), kn 11 (.call 14 [(.t 10)]), kn 12 (.mv (.t 11)), ko 13 12 (.mv (.t 1)), ko 14 12 (.len true (.t 13)), ko 15 12 (.bin .gtr (.t 14) (kc 500)), kn 16 (.pick (.t 12) (.c (.d (.v (.bool true)))) (.t 15))])
 (.cond (.t 16) (.seq (.reg [kn 17 (.call 15 []), kn 4 (.mv (.t 17))])
 (.ret)) (.skip)))
 (.seq (.reg [kn 18 (.ld (.t 2) 5 true), kn 19 (.call 16 [(.t 18)]), kn 5 (.al [(.d (.v (.string ⟨#[]⟩))), (.d (.v (.int .u32 0))), .esl, .esl, .esl]), ke (.st (.t 5) (.t 19) 5)])
 (.seq (.reg [kn 21 (.ld (.t 2) 5 true), kn 22 (.call 16 [(.t 21)]), kn 23 (.mv (.t 1)), kn 24 (.call 17 [(.t 22), (.t 23)]), kn 20 (.mv (.t 24)), kn 25 (.ext (.t 20) 0), kn 26 (.ext (.t 20) 1), kn 6 (.al [kz, (.d (.v (.string ⟨#[]⟩))), kz, kz, kz, (.d (.v (.string ⟨#[]⟩))), kz]), ke (.st (.t 6) (.t 25) 7), kn 7 (.mv (.t 26))])
 (.seq (.reg [kn 28 (.ld (.t 2) 5 true), kn 29 (.mv (.t 1)), kn 30 (.call 18 [(.t 28), (.t 29)]), kn 27 (.mv (.t 30)), kn 31 (.ext (.t 27) 0), kn 32 (.ext (.t 27) 1), kn 8 (.al [kz, (.d (.v (.string ⟨#[]⟩))), kz, kz, kz, (.d (.v (.string ⟨#[]⟩))), kz]), ke (.st (.t 8) (.t 31) 7), kn 9 (.mv (.t 32))])
 (.seq (.dreg [[], [0], [], [2, 1], [1, 3], [4, 3], [5], [5], [6, 7, 5], [5, 8], [9, 5], [10], [10], [11, 12, 10, 10], [10, 13], [14, 13], [15], [15], [16, 17, 15, 15], [15, 18], [19, 18], [20, 20], [20, 21], [22, 21, 0, 1, 2, 3, 4, 5, 6, 7, 8, 9, 10, 11, 12, 13, 14, 15, 16, 17, 18, 19, 20, 21, 22]] [kn 33 (.ld (.t 5) 5 true), kn 34 (.call 19 [(.t 33)]), kn 35 (.ld (.t 2) 5 true), kn 36 (.call 20 [(.t 35)]), kn 37 (.eqs false (.t 34) (.t 36)), kn 38 (.mv (.t 37)), ky 39 38 (.mv (.t 7)), ky 40 38 (.mv (.t 9)), ky 41 38 (.eqs false (.t 39) (.t 40)), kn 42 (.pick (.t 38) (.t 41) (.c (.d (.v (.bool false))))), kn 43 (.mv (.t 42)), ky 44 43 (.ld (.t 6) 7 true), ky 45 43 (.ld (.t 8) 7 true), ky 46 43 (.call 21 [(.t 44), (.t 45)]), kn 47 (.pick (.t 43) (.t 46) (.c (.d (.v (.bool false))))), kn 48 (.mv (.t 47)), ky 49 48 (.ld (.t 5) 5 true), ky 50 48 (.ld (.t 2) 5 true), ky 51 48 (.call 22 [(.t 49), (.t 50)]), kn 52 (.pick (.t 48) (.t 51) (.c (.d (.v (.bool false))))), kn 53 (.mv (.t 52)), ky 54 53 (.call 15 []), kn 55 (.pick (.t 53) (.t 54) (.c (.d (.v (.bool false))))), kn 4 (.mv (.t 55))])
 (.ret))))))
def r3 : List RC := [.t 4]

def c4 : AC :=
 .seq (.reg [kn 1 (.bx (.t 0)), kn 2 (.mv (.c (.d (.v (.bool false)))))])
 (.seq (.seq (.reg [kn 8 (.ld (.t 1) 5 true), kn 9 (.call 14 [(.t 8)])])
 (.cond (.t 9) (.seq (.reg [kn 10 (.call 15 []), kn 2 (.mv (.t 10))])
 (.ret)) (.skip)))
 (.seq (.reg [kn 11 (.ld (.t 1) 5 true), kn 12 (.call 16 [(.t 11)]), kn 3 (.al [(.d (.v (.string ⟨#[]⟩))), (.d (.v (.int .u32 0))), .esl, .esl, .esl]), ke (.st (.t 3) (.t 12) 5)])
 (.seq (.reg [kn 14 (.ld (.t 3) 5 true), kn 15 (.call 23 [(.t 14)]), kn 13 (.mv (.t 15)), kn 16 (.ext (.t 13) 0), kn 17 (.ext (.t 13) 1), kn 4 (.al [(.d (.v (.string ⟨#[]⟩))), (.d (.v (.int .u32 0))), .esl, .esl, .esl]), ke (.st (.t 4) (.t 16) 5), kn 5 (.mv (.t 17))])
 (.seq (.reg [kn 19 (.ld (.t 1) 5 true), kn 20 (.call 24 [(.t 19)]), kn 18 (.mv (.t 20)), kn 21 (.ext (.t 18) 0), kn 22 (.ext (.t 18) 1), kn 6 (.al [(.d (.v (.string ⟨#[]⟩))), (.d (.v (.int .u32 0))), .esl, .esl, .esl]), ke (.st (.t 6) (.t 21) 5), kn 7 (.mv (.t 22))])
 (.seq (.reg [kn 23 (.mv (.t 5)), kn 24 (.mv (.t 7)), kn 25 (.bin .eql (.t 23) (.t 24)), kn 26 (.mv (.t 25)), ky 27 26 (.ld (.t 4) 5 true), ky 28 26 (.ld (.t 6) 5 true), ky 29 26 (.call 22 [(.t 27), (.t 28)]), kn 30 (.pick (.t 26) (.t 29) (.c (.d (.v (.bool false))))), kn 31 (.mv (.t 30)), ky 32 31 (.ld (.t 3) 5 true), ky 33 31 (.ld (.t 1) 5 true), ky 34 31 (.call 22 [(.t 32), (.t 33)]), kn 35 (.pick (.t 31) (.t 34) (.c (.d (.v (.bool false))))), kn 36 (.mv (.t 35)), ky 37 36 (.call 15 []), kn 38 (.pick (.t 36) (.t 37) (.c (.d (.v (.bool false))))), kn 2 (.mv (.t 38))])
 (.ret))))))
def r4 : List RC := [.t 2]

def c5 : AC :=
 .seq (.reg [kn 2 (.bx (.t 0)), kn 4 (.mv (.c (.d (.v (.bool false)))))])
 (.seq (.seq (.reg [kn 10 (.ld (.t 2) 5 true), kn 11 (.call 14 [(.t 10)]), kn 12 (.mv (.t 11)), ko 13 12 (.ld (.t 2) 5 true), ko 14 12 (.call 20 [(.t 13)]), ko 15 12 (.un .not (.t 14)), kn 16 (.pick (.t 12) (.c (.d (.v (.bool true)))) (.t 15)), kn 17 (.mv (.t 16)), ko 18 17 (.fa (.t 2) 3), ko 19 17 (.ld (.t 18) 1 false), ko 20 17 (.len false (.t 19)), ko 21 17 (.bin .gtr (.t 20) (kc 250)), kn 22 (.pick (.t 17) (.c (.d (.v (.bool true)))) (.t 21))])
 (.cond (.t 22) (.seq (.reg [kn 23 (.call 15 []), kn 4 (.mv (.t 23))])
 (.ret)) (.skip)))
 (.seq (.reg [kn 24 (.ld (.t 2) 5 true), kn 25 (.call 16 [(.t 24)]), kn 5 (.al [(.d (.v (.string ⟨#[]⟩))), (.d (.v (.int .u32 0))), .esl, .esl, .esl]), ke (.st (.t 5) (.t 25) 5)])
 (.seq (.reg [kn 26 (.fa (.t 5) 3), kn 27 (.ld (.t 26) 1 false), kn 28 (.mv (.t 1)), kn 29 (.cvi .u64 (.t 28)), kn 30 (.bin .rem (.t 29) (.c (.d (.v (.int .u64 4096))))), kn 31 (.cvi .i64 (.t 30)), kn 32 (.bin .add (kc 1) (.t 31)), kn 33 (.bd [kz, (.d (.v (.string ⟨#[]⟩))), (.d (.v (.string ⟨#[]⟩))), kz, kz, kz, .esl, .esl, kz, kz] [(0, 1, (kc 7)), (3, 1, (.t 32)), (4, 1, (kc 3))]), kn 34 (.bs .im 49 10 [(.t 33)]), kn 35 (.app .gr 49 10 128 (.t 27) (.t 34)), kn 36 (.fa (.t 5) 3), ke (.st (.t 36) (.t 35) 1)])
 (.seq (.reg [kn 38 (.ld (.t 2) 5 true), kn 39 (.call 16 [(.t 38)]), kn 40 (.call 23 [(.t 39)]), kn 37 (.mv (.t 40)), kn 41 (.ext (.t 37) 0), kn 42 (.ext (.t 37) 1), kn 6 (.al [(.d (.v (.string ⟨#[]⟩))), (.d (.v (.int .u32 0))), .esl, .esl, .esl]), ke (.st (.t 6) (.t 41) 5), kn 7 (.mv (.t 42))])
 (.seq (.reg [kn 44 (.ld (.t 5) 5 true), kn 45 (.call 23 [(.t 44)]), kn 43 (.mv (.t 45)), kn 46 (.ext (.t 43) 0), kn 47 (.ext (.t 43) 1), kn 8 (.al [(.d (.v (.string ⟨#[]⟩))), (.d (.v (.int .u32 0))), .esl, .esl, .esl]), ke (.st (.t 8) (.t 46) 5), kn 9 (.mv (.t 47))])
 (.seq (.reg [kn 48 (.mv (.t 7)), kn 49 (.mv (.t 9)), kn 50 (.bin .eql (.t 48) (.t 49)), kn 51 (.mv (.t 50)), ky 52 51 (.mv (.t 7)), ky 53 51 (.bin .eql (.t 52) (kc 0)), ky 54 51 (.mv (.t 53)), ko 55 54 (.mv (.t 7)), ko 56 54 (.bin .eql (.t 55) (kc 160)), ky 57 51 (.pick (.t 54) (.c (.d (.v (.bool true)))) (.t 56)), kn 58 (.pick (.t 51) (.t 57) (.c (.d (.v (.bool false))))), kn 59 (.mv (.t 58)), ky 60 59 (.ld (.t 6) 5 true), ky 61 59 (.ld (.t 8) 5 true), ky 62 59 (.call 22 [(.t 60), (.t 61)]), kn 63 (.pick (.t 59) (.t 62) (.c (.d (.v (.bool false))))), kn 64 (.mv (.t 63)), ky 65 64 (.call 15 []), kn 66 (.pick (.t 64) (.t 65) (.c (.d (.v (.bool false))))), kn 4 (.mv (.t 66))])
 (.ret)))))))
def r5 : List RC := [.t 4]

def c6l0 : AC :=
 .seq (.seq (.reg [kn 34 (.mv (.t 8)), kn 35 (.fa (.t 2) 4), kn 36 (.ld (.t 35) 1 false), kn 37 (.len false (.t 36)), kn 38 (.bin .lss (.t 34) (.t 37))])
 (.cond (.t 38) (.skip) (.exit 0)))
 (.seq (.block 1 (.seq (.dreg [[], [0], [], [2], [], [3, 4], [5], [6], [1, 7, 1], [8], [9], [9], [], [12, 10, 8, 0, 1, 2, 3, 4, 5, 6, 7, 8, 9, 10, 12], [11, 13, 0, 1, 2, 3, 4, 5, 6, 7, 8, 9, 10, 11, 12, 13]] [kn 42 (.ld (.t 2) 5 true), kn 43 (.call 16 [(.t 42)]), kn 44 (.fa (.t 2) 4), kn 45 (.ld (.t 44) 1 false), kn 46 (.mv (.t 8)), kn 47 (.ia (.t 45) (.t 46) 7), kn 48 (.fa (.t 47) 1), kn 49 (.ld (.t 48) 1 false), kn 50 (.call 17 [(.t 43), (.t 49)]), kn 41 (.mv (.t 50)), kn 51 (.ext (.t 41) 0), kn 52 (.ext (.t 41) 1), kn 9 (.al [kz, (.d (.v (.string ⟨#[]⟩))), kz, kz, kz, (.d (.v (.string ⟨#[]⟩))), kz]), ke (.st (.t 9) (.t 51) 7), kn 10 (.mv (.t 52))])
 (.seq (.seq (.dreg [[], [0], [1], [2], [2], [4, 2], [2], [5, 6, 2], [7, 2], [3, 8, 2, 2], [9, 2], [2, 10]] [kn 53 (.mv (.t 10)), kn 54 (.un .not (.t 53)), kn 55 (.mv (.t 54)), ko 56 55 (.ld (.t 9) 7 true), ko 57 55 (.fa (.t 2) 4), ko 58 55 (.ld (.t 57) 1 false), ko 59 55 (.mv (.t 8)), ko 60 55 (.ia (.t 58) (.t 59) 7), ko 61 55 (.ld (.t 60) 7 true), ko 62 55 (.call 21 [(.t 56), (.t 61)]), ko 63 55 (.un .not (.t 62)), kn 64 (.pick (.t 55) (.c (.d (.v (.bool true)))) (.t 63))])
 (.cond (.t 64) (.seq (.reg [kn 4 (.mv (.c (.d (.v (.bool false)))))])
 (.ret)) (.skip)))
 (.seq (.dreg [[], [], [1], [], [2, 3], [4], [5], [0, 6], [7], [8], [8], [], [11, 9, 7, 0, 1, 2, 3, 4, 5, 6, 7, 8, 9, 11], [10, 12, 0, 1, 2, 3, 4, 5, 6, 7, 8, 9, 10, 11, 12]] [kn 66 (.ld (.t 5) 5 true), kn 67 (.fa (.t 2) 4), kn 68 (.ld (.t 67) 1 false), kn 69 (.mv (.t 8)), kn 70 (.ia (.t 68) (.t 69) 7), kn 71 (.fa (.t 70) 1), kn 72 (.ld (.t 71) 1 false), kn 73 (.call 17 [(.t 66), (.t 72)]), kn 65 (.mv (.t 73)), kn 74 (.ext (.t 65) 0), kn 75 (.ext (.t 65) 1), kn 11 (.al [kz, (.d (.v (.string ⟨#[]⟩))), kz, kz, kz, (.d (.v (.string ⟨#[]⟩))), kz]), ke (.st (.t 11) (.t 74) 7), kn 12 (.mv (.t 75))])
 (.seq (.seq (.reg [kn 76 (.mv (.t 6)), kn 77 (.bin .eql (.t 76) (kc 0)), kn 78 (.mv (.t 77)), ky 79 78 (.mv (.t 12)), ky 80 78 (.un .not (.t 79)), ky 81 78 (.mv (.t 80)), ko 82 81 (.fa (.t 11) 0), ko 83 81 (.ld (.t 82) 1 false), ko 84 81 (.fa (.t 9) 0), ko 85 81 (.ld (.t 84) 1 false), ko 86 81 (.bin .neq (.t 83) (.t 85)), ky 87 78 (.pick (.t 81) (.c (.d (.v (.bool true)))) (.t 86)), ky 88 78 (.mv (.t 87)), ko 89 88 (.fa (.t 11) 6), ko 90 88 (.ld (.t 89) 1 false), ko 91 88 (.fa (.t 9) 6), ko 92 88 (.ld (.t 91) 1 false), ko 93 88 (.bin .neq (.t 90) (.t 92)), ky 94 78 (.pick (.t 88) (.c (.d (.v (.bool true)))) (.t 93)), kn 95 (.pick (.t 78) (.t 94) (.c (.d (.v (.bool false)))))])
 (.cond (.t 95) (.seq (.reg [kn 4 (.mv (.c (.d (.v (.bool false)))))])
 (.ret)) (.skip)))
 (.reg [kn 96 (.mv (.t 7)), kn 97 (.mv (.t 96)), ko 98 97 (.fa (.t 2) 4), ko 99 97 (.ld (.t 98) 1 false), ko 100 97 (.mv (.t 8)), ko 101 97 (.ia (.t 99) (.t 100) 7), ko 102 97 (.fa (.t 101) 1), ko 103 97 (.ld (.t 102) 1 false), ko 104 97 (.mv (.t 1)), ko 105 97 (.bin .eql (.t 103) (.t 104)), kn 106 (.pick (.t 97) (.c (.d (.v (.bool true)))) (.t 105)), kn 7 (.mv (.t 106))]))))))
 (.reg [kn 39 (.mv (.t 8)), kn 40 (.bin .add (.t 39) (kc 1)), kn 8 (.mv (.t 40))]))

def c6 : AC :=
 .seq (.reg [kn 2 (.bx (.t 0)), kn 4 (.mv (.c (.d (.v (.bool false)))))])
 (.seq (.seq (.reg [kn 15 (.ld (.t 2) 5 true), kn 16 (.call 14 [(.t 15)]), kn 17 (.mv (.t 16)), ko 18 17 (.mv (.t 1)), ko 19 17 (.len true (.t 18)), ko 20 17 (.bin .gtr (.t 19) (kc 500)), kn 21 (.pick (.t 17) (.c (.d (.v (.bool true)))) (.t 20)), kn 22 (.mv (.t 21)), ko 23 22 (.ld (.t 2) 5 true), ko 24 22 (.call 20 [(.t 23)]), ko 25 22 (.un .not (.t 24)), kn 26 (.pick (.t 22) (.c (.d (.v (.bool true)))) (.t 25))])
 (.cond (.t 26) (.seq (.reg [kn 27 (.call 15 []), kn 4 (.mv (.t 27))])
 (.ret)) (.skip)))
 (.seq (.reg [kn 29 (.ld (.t 2) 5 true), kn 30 (.call 16 [(.t 29)]), kn 31 (.call 23 [(.t 30)]), kn 28 (.mv (.t 31)), kn 32 (.ext (.t 28) 0), kn 33 (.ext (.t 28) 1), kn 5 (.al [(.d (.v (.string ⟨#[]⟩))), (.d (.v (.int .u32 0))), .esl, .esl, .esl]), ke (.st (.t 5) (.t 32) 5), kn 6 (.mv (.t 33))])
 (.seq (.reg [kn 7 (.mv (.c (.d (.v (.bool false)))))])
 (.seq (.seq (.reg [kn 8 (.mv (kc 0))])
 (.block 0 (.loop c6l0)))
 (.seq (.reg [kn 108 (.ld (.t 2) 5 true), kn 109 (.call 16 [(.t 108)]), kn 110 (.mv (.t 1)), kn 111 (.call 17 [(.t 109), (.t 110)]), kn 107 (.mv (.t 111)), kn 112 (.ext (.t 107) 0), kn 113 (.ext (.t 107) 1), kn 13 (.al [kz, (.d (.v (.string ⟨#[]⟩))), kz, kz, kz, (.d (.v (.string ⟨#[]⟩))), kz]), ke (.st (.t 13) (.t 112) 7), kn 14 (.mv (.t 113))])
 (.seq (.reg [kn 114 (.mv (.t 14)), kn 115 (.mv (.t 7)), kn 116 (.eqs false (.t 114) (.t 115)), kn 117 (.mv (.t 116)), ky 118 117 (.call 15 []), kn 119 (.pick (.t 117) (.t 118) (.c (.d (.v (.bool false))))), kn 4 (.mv (.t 119))])
 (.ret)))))))
def r6 : List RC := [.t 4]

def c7 : AC :=
 .seq (.reg [kn 2 (.bx (.t 0)), kn 3 (.bx (.t 1)), kn 4 (.mv (.c (.d (.v (.bool false)))))])
 (.seq (.seq (.reg [kn 5 (.ld (.t 2) 5 true), kn 6 (.call 14 [(.t 5)]), kn 7 (.mv (.t 6)), ko 8 7 (.ld (.t 3) 5 true), ko 9 7 (.call 14 [(.t 8)]), kn 10 (.pick (.t 7) (.c (.d (.v (.bool true)))) (.t 9))])
 (.cond (.t 10) (.seq (.reg [kn 11 (.call 15 []), kn 4 (.mv (.t 11))])
 (.ret)) (.skip)))
 (.seq (.dreg [[], [0], [], [2, 1], [1, 3, 3], [], [], [5, 6, 4], [4, 7], [8, 7], [9], [10, 9, 9], [9], [12, 11, 9], [11, 13, 13, 9], [9, 14], [15, 14], [16, 16], [16, 17], [18, 17, 0, 1, 2, 3, 4, 5, 6, 7, 8, 9, 10, 11, 12, 13, 14, 15, 16, 17, 18]] [kn 12 (.ld (.t 2) 5 true), kn 13 (.call 16 [(.t 12)]), kn 14 (.ld (.t 3) 5 true), kn 15 (.call 16 [(.t 14)]), kn 16 (.call 25 [(.t 13), (.t 15)]), kn 17 (.ld (.t 2) 5 true), kn 18 (.ld (.t 3) 5 true), kn 19 (.call 22 [(.t 17), (.t 18)]), kn 20 (.eqs false (.t 16) (.t 19)), kn 21 (.mv (.t 20)), ky 22 21 (.ld (.t 2) 5 true), ky 23 21 (.call 16 [(.t 22)]), ky 24 21 (.ld (.t 2) 5 true), ky 25 21 (.call 16 [(.t 24)]), ky 26 21 (.call 25 [(.t 23), (.t 25)]), kn 27 (.pick (.t 21) (.t 26) (.c (.d (.v (.bool false))))), kn 28 (.mv (.t 27)), ky 29 28 (.call 15 []), kn 30 (.pick (.t 28) (.t 29) (.c (.d (.v (.bool false))))), kn 4 (.mv (.t 30))])
 (.ret)))
def r7 : List RC := [.t 4]

def c8l0 : AC :=
 .seq (.seq (.reg [kn 75 (.mv (.t 7)), kn 76 (.fa (.t 1) 4), kn 77 (.ld (.t 76) 1 false), kn 78 (.len false (.t 77)), kn 79 (.bin .lss (.t 75) (.t 78))])
 (.cond (.t 79) (.skip) (.exit 0)))
 (.seq (.block 1 (.seq (.dreg [[], [0], [], [1, 2], [3], [4], [], [6], [], [7, 8], [9], [10], [5, 11], [12], [13], [14, 13], [13], [15, 16, 13], [17, 13], [18, 13], [13], [20, 13], [13], [21, 22, 13], [23, 13], [24, 13], [19, 25, 13], [13, 26], [27, 13], [28], [29, 28], [28], [30, 31, 28], [32, 28], [33, 28], [28], [35, 28], [28], [36, 37, 28], [38, 28], [39, 28], [34, 40, 28], [28, 41], [42, 28], [43], [44, 43], [43], [46, 43], [43], [47, 48, 43], [49, 43], [50, 43], [45, 51, 43], [52, 43], [53, 43], [43], [55, 43], [43], [57, 43], [43], [58, 59, 43], [60, 43], [61, 43], [56, 62, 43], [63, 43], [64, 43], [54, 65, 43], [43, 66]] [kn 82 (.fa (.t 3) 4), kn 83 (.ld (.t 82) 1 false), kn 84 (.mv (.t 7)), kn 85 (.ia (.t 83) (.t 84) 7), kn 86 (.fa (.t 85) 1), kn 87 (.ld (.t 86) 1 false), kn 88 (.fa (.t 1) 4), kn 89 (.ld (.t 88) 1 false), kn 90 (.mv (.t 7)), kn 91 (.ia (.t 89) (.t 90) 7), kn 92 (.fa (.t 91) 1), kn 93 (.ld (.t 92) 1 false), kn 94 (.bin .neq (.t 87) (.t 93)), kn 95 (.mv (.t 94)), ko 96 95 (.fa (.t 3) 4), ko 97 95 (.ld (.t 96) 1 false), ko 98 95 (.mv (.t 7)), ko 99 95 (.ia (.t 97) (.t 98) 7), ko 100 95 (.fa (.t 99) 0), ko 101 95 (.ld (.t 100) 1 false), ko 102 95 (.fa (.t 1) 4), ko 103 95 (.ld (.t 102) 1 false), ko 104 95 (.mv (.t 7)), ko 105 95 (.ia (.t 103) (.t 104) 7), ko 106 95 (.fa (.t 105) 0), ko 107 95 (.ld (.t 106) 1 false), ko 108 95 (.bin .neq (.t 101) (.t 107)), kn 109 (.pick (.t 95) (.c (.d (.v (.bool true)))) (.t 108)), kn 110 (.mv (.t 109)), ko 111 110 (.fa (.t 3) 4), ko 112 110 (.ld (.t 111) 1 false), ko 113 110 (.mv (.t 7)), ko 114 110 (.ia (.t 112) (.t 113) 7), ko 115 110 (.fa (.t 114) 6), ko 116 110 (.ld (.t 115) 1 false), ko 117 110 (.fa (.t 1) 4), ko 118 110 (.ld (.t 117) 1 false), ko 119 110 (.mv (.t 7)), ko 120 110 (.ia (.t 118) (.t 119) 7), ko 121 110 (.fa (.t 120) 6), ko 122 110 (.ld (.t 121) 1 false), ko 123 110 (.bin .neq (.t 116) (.t 122)), kn 124 (.pick (.t 110) (.c (.d (.v (.bool true)))) (.t 123)), kn 125 (.mv (.t 124)), ko 126 125 (.fa (.t 3) 3), ko 127 125 (.ld (.t 126) 1 false), ko 128 125 (.fa (.t 3) 4), ko 129 125 (.ld (.t 128) 1 false), ko 130 125 (.mv (.t 7)), ko 131 125 (.ia (.t 129) (.t 130) 7), ko 132 125 (.fa (.t 131) 2), ko 133 125 (.ld (.t 132) 1 false), ko 134 125 (.ia (.t 127) (.t 133) 10), ko 135 125 (.fa (.t 134) 0), ko 136 125 (.ld (.t 135) 1 false), ko 137 125 (.fa (.t 1) 3), ko 138 125 (.ld (.t 137) 1 false), ko 139 125 (.fa (.t 1) 4), ko 140 125 (.ld (.t 139) 1 false), ko 141 125 (.mv (.t 7)), ko 142 125 (.ia (.t 140) (.t 141) 7), ko 143 125 (.fa (.t 142) 2), ko 144 125 (.ld (.t 143) 1 false), ko 145 125 (.ia (.t 138) (.t 144) 10), ko 146 125 (.fa (.t 145) 0), ko 147 125 (.ld (.t 146) 1 false), ko 148 125 (.bin .neq (.t 136) (.t 147)), kn 149 (.pick (.t 125) (.c (.d (.v (.bool true)))) (.t 148))])
 (.cond (.t 149) (.seq (.reg [kn 2 (.mv (.c (.d (.v (.bool false)))))])
 (.ret)) (.skip))))
 (.reg [kn 80 (.mv (.t 7)), kn 81 (.bin .add (.t 80) (kc 1)), kn 7 (.mv (.t 81))]))

def c8 : AC :=
 .seq (.reg [kn 1 (.bx (.t 0)), kn 2 (.mv (.c (.d (.v (.bool false)))))])
 (.seq (.seq (.reg [kn 8 (.ld (.t 1) 5 true), kn 9 (.call 14 [(.t 8)])])
 (.cond (.t 9) (.seq (.reg [kn 10 (.call 15 []), kn 2 (.mv (.t 10))])
 (.ret)) (.skip)))
 (.seq (.reg [kn 12 (.ld (.t 1) 5 true), kn 13 (.call 16 [(.t 12)]), kn 14 (.call 23 [(.t 13)]), kn 11 (.mv (.t 14)), kn 15 (.ext (.t 11) 0), kn 16 (.ext (.t 11) 1), kn 3 (.al [(.d (.v (.string ⟨#[]⟩))), (.d (.v (.int .u32 0))), .esl, .esl, .esl]), ke (.st (.t 3) (.t 15) 5), kn 4 (.mv (.t 16))])
 (.seq (.seq (.reg [kn 17 (.mv (.t 4)), kn 18 (.bin .neq (.t 17) (kc 0))])
 (.cond (.t 18) (.seq (.reg [kn 19 (.mv (.t 4)), kn 20 (.bin .eql (.t 19) (kc 160)), kn 21 (.mv (.t 20)), ky 22 21 (.fa (.t 3) 3), ky 23 21 (.ld (.t 22) 1 false), ky 24 21 (.len false (.t 23)), ky 25 21 (.bin .eql (.t 24) (kc 0)), kn 26 (.pick (.t 21) (.t 25) (.c (.d (.v (.bool false))))), kn 27 (.mv (.t 26)), ky 28 27 (.fa (.t 3) 0), ky 29 27 (.ld (.t 28) 1 false), ky 30 27 (.bin .eql (.t 29) (.c (.d (.v (.string ⟨#[]⟩))))), kn 31 (.pick (.t 27) (.t 30) (.c (.d (.v (.bool false))))), kn 32 (.mv (.t 31)), ky 33 32 (.call 15 []), kn 34 (.pick (.t 32) (.t 33) (.c (.d (.v (.bool false))))), kn 2 (.mv (.t 34))])
 (.ret)) (.skip)))
 (.seq (.seq (.reg [kn 35 (.ld (.t 3) 5 true), kn 36 (.call 14 [(.t 35)]), kn 37 (.mv (.t 36)), ko 38 37 (.fa (.t 3) 4), ko 39 37 (.ld (.t 38) 1 false), ko 40 37 (.len false (.t 39)), ko 41 37 (.fa (.t 1) 4), ko 42 37 (.ld (.t 41) 1 false), ko 43 37 (.len false (.t 42)), ko 44 37 (.bin .neq (.t 40) (.t 43)), kn 45 (.pick (.t 37) (.c (.d (.v (.bool true)))) (.t 44)), kn 46 (.mv (.t 45)), ko 47 46 (.fa (.t 3) 3), ko 48 46 (.ld (.t 47) 1 false), ko 49 46 (.len false (.t 48)), ko 50 46 (.fa (.t 1) 3), ko 51 46 (.ld (.t 50) 1 false), ko 52 46 (.len false (.t 51)), ko 53 46 (.bin .gtr (.t 49) (.t 52)), kn 54 (.pick (.t 46) (.c (.d (.v (.bool true)))) (.t 53))])
 (.cond (.t 54) (.seq (.reg [kn 2 (.mv (.c (.d (.v (.bool false)))))])
 (.ret)) (.skip)))
 (.seq (.reg [kn 56 (.ld (.t 3) 5 true), kn 57 (.call 16 [(.t 56)]), kn 58 (.call 23 [(.t 57)]), kn 55 (.mv (.t 58)), kn 59 (.ext (.t 55) 0), kn 60 (.ext (.t 55) 1), kn 5 (.al [(.d (.v (.string ⟨#[]⟩))), (.d (.v (.int .u32 0))), .esl, .esl, .esl]), ke (.st (.t 5) (.t 59) 5), kn 6 (.mv (.t 60))])
 (.seq (.seq (.reg [kn 61 (.mv (.t 6)), kn 62 (.bin .neq (.t 61) (kc 0)), kn 63 (.mv (.t 62)), ko 64 63 (.ld (.t 3) 5 true), ko 65 63 (.call 16 [(.t 64)]), ko 66 63 (.call 19 [(.t 65)]), ko 67 63 (.un .not (.t 66)), kn 68 (.pick (.t 63) (.c (.d (.v (.bool true)))) (.t 67)), kn 69 (.mv (.t 68)), ko 70 69 (.ld (.t 3) 5 true), ko 71 69 (.ld (.t 5) 5 true), ko 72 69 (.call 25 [(.t 70), (.t 71)]), ko 73 69 (.un .not (.t 72)), kn 74 (.pick (.t 69) (.c (.d (.v (.bool true)))) (.t 73))])
 (.cond (.t 74) (.seq (.reg [kn 2 (.mv (.c (.d (.v (.bool false)))))])
 (.ret)) (.skip)))
 (.seq (.seq (.reg [kn 7 (.mv (kc 0))])
 (.block 0 (.loop c8l0)))
 (.seq (.reg [kn 150 (.call 15 []), kn 2 (.mv (.t 150))])
 (.ret)))))))))
def r8 : List RC := [.t 2]

def c14l0 : AC :=
 .seq (.seq (.reg [kn 52 (.mv (.t 4)), kn 53 (.fa (.t 1) 2), kn 54 (.ld (.t 53) 1 false), kn 55 (.len false (.t 54)), kn 56 (.bin .lss (.t 52) (.t 55))])
 (.cond (.t 56) (.skip) (.exit 2)))
 (.seq (.block 3 (.seq (.reg [kn 59 (.fa (.t 1) 2), kn 60 (.ld (.t 59) 1 false), kn 61 (.mv (.t 4)), kn 62 (.ia (.t 60) (.t 61) 2), kn 63 (.fa (.t 62) 0), kn 64 (.ld (.t 63) 1 false), kn 65 (.len true (.t 64)), kn 66 (.bin .gtr (.t 65) (kc 500))])
 (.cond (.t 66) (.seq (.reg [kn 2 (.mv (.c (.d (.v (.bool true)))))])
 (.ret)) (.skip))))
 (.reg [kn 57 (.mv (.t 4)), kn 58 (.bin .add (.t 57) (kc 1)), kn 4 (.mv (.t 58))]))

def c14l1 : AC :=
 .seq (.seq (.reg [kn 26 (.mv (.t 3)), kn 27 (.fa (.t 1) 4), kn 28 (.ld (.t 27) 1 false), kn 29 (.len false (.t 28)), kn 30 (.bin .lss (.t 26) (.t 29))])
 (.cond (.t 30) (.skip) (.exit 0)))
 (.seq (.block 1 (.seq (.reg [kn 33 (.fa (.t 1) 4), kn 34 (.ld (.t 33) 1 false), kn 35 (.mv (.t 3)), kn 36 (.ia (.t 34) (.t 35) 7), kn 37 (.fa (.t 36) 1), kn 38 (.ld (.t 37) 1 false), kn 39 (.len true (.t 38)), kn 40 (.bin .gtr (.t 39) (kc 500)), kn 41 (.mv (.t 40)), ko 42 41 (.fa (.t 1) 4), ko 43 41 (.ld (.t 42) 1 false), ko 44 41 (.mv (.t 3)), ko 45 41 (.ia (.t 43) (.t 44) 7), ko 46 41 (.fa (.t 45) 3), ko 47 41 (.fa (.t 46) 2), ko 48 41 (.ld (.t 47) 1 false), ko 49 41 (.len true (.t 48)), ko 50 41 (.bin .gtr (.t 49) (kc 500)), kn 51 (.pick (.t 41) (.c (.d (.v (.bool true)))) (.t 50))])
 (.cond (.t 51) (.seq (.reg [kn 2 (.mv (.c (.d (.v (.bool true)))))])
 (.ret)) (.skip))))
 (.reg [kn 31 (.mv (.t 3)), kn 32 (.bin .add (.t 31) (kc 1)), kn 3 (.mv (.t 32))]))

def c14 : AC :=
 .seq (.reg [kn 1 (.bx (.t 0)), kn 2 (.mv (.c (.d (.v (.bool false)))))])
 (.seq (.seq (.reg [kn 5 (.fa (.t 1) 2), kn 6 (.ld (.t 5) 1 false), kn 7 (.len false (.t 6)), kn 8 (.bin .gtr (.t 7) (kc 100)), kn 9 (.mv (.t 8)), ko 10 9 (.fa (.t 1) 4), ko 11 9 (.ld (.t 10) 1 false), ko 12 9 (.len false (.t 11)), ko 13 9 (.bin .gtr (.t 12) (kc 200)), kn 14 (.pick (.t 9) (.c (.d (.v (.bool true)))) (.t 13)), kn 15 (.mv (.t 14)), ko 16 15 (.fa (.t 1) 0), ko 17 15 (.ld (.t 16) 1 false), ko 18 15 (.len true (.t 17)), ko 19 15 (.bin .gtr (.t 18) (kc 5000)), kn 20 (.pick (.t 15) (.c (.d (.v (.bool true)))) (.t 19)), kn 21 (.mv (.t 20)), ko 22 21 (.fa (.t 1) 3), ko 23 21 (.ld (.t 22) 1 false), ko 24 21 (.call 32 [(.t 23)]), kn 25 (.pick (.t 21) (.c (.d (.v (.bool true)))) (.t 24))])
 (.cond (.t 25) (.seq (.reg [kn 2 (.mv (.c (.d (.v (.bool true)))))])
 (.ret)) (.skip)))
 (.seq (.seq (.reg [kn 3 (.mv (kc 0))])
 (.block 0 (.loop c14l1)))
 (.seq (.seq (.reg [kn 4 (.mv (kc 0))])
 (.block 2 (.loop c14l0)))
 (.seq (.reg [kn 2 (.mv (.c (.d (.v (.bool false)))))])
 (.ret)))))
def r14 : List RC := [.t 2]

def c15 : AC :=
 .seq (.reg [kn 0 (.mv (.c (.d (.v (.bool false)))))])
 (.seq (.reg [kn 6 (.call 33 []), kn 7 (.call 23 [(.t 6)]), kn 5 (.mv (.t 7)), kn 8 (.ext (.t 5) 0), kn 9 (.ext (.t 5) 1), kn 1 (.al [(.d (.v (.string ⟨#[]⟩))), (.d (.v (.int .u32 0))), .esl, .esl, .esl]), ke (.st (.t 1) (.t 8) 5), kn 2 (.mv (.t 9))])
 (.seq (.reg [kn 11 (.call 33 []), kn 12 (.call 17 [(.t 11), (.c (.d (.v (.string ⟨#[120]⟩))))]), kn 10 (.mv (.t 12)), kn 13 (.ext (.t 10) 0), kn 14 (.ext (.t 10) 1), kn 3 (.al [kz, (.d (.v (.string ⟨#[]⟩))), kz, kz, kz, (.d (.v (.string ⟨#[]⟩))), kz]), ke (.st (.t 3) (.t 13) 7), kn 4 (.mv (.t 14))])
 (.seq (.reg [kn 15 (.mv (.t 2)), kn 16 (.bin .eql (.t 15) (kc 0)), kn 17 (.mv (.t 16)), ky 18 17 (.fa (.t 1) 3), ky 19 17 (.ld (.t 18) 1 false), ky 20 17 (.len false (.t 19)), ky 21 17 (.bin .eql (.t 20) (kc 8)), kn 22 (.pick (.t 17) (.t 21) (.c (.d (.v (.bool false))))), kn 23 (.mv (.t 22)), ky 24 23 (.fa (.t 1) 3), ky 25 23 (.ld (.t 24) 1 false), ky 26 23 (.ia (.t 25) (kc 7) 10), ky 27 23 (.fa (.t 26) 3), ky 28 23 (.ld (.t 27) 1 false), ky 29 23 (.bin .eql (.t 28) (kc 3)), kn 30 (.pick (.t 23) (.t 29) (.c (.d (.v (.bool false))))), kn 31 (.mv (.t 30)), ky 32 31 (.fa (.t 1) 4), ky 33 31 (.ld (.t 32) 1 false), ky 34 31 (.ia (.t 33) (kc 0) 7), ky 35 31 (.fa (.t 34) 2), ky 36 31 (.ld (.t 35) 1 false), ky 37 31 (.bin .eql (.t 36) (kc 7)), kn 38 (.pick (.t 31) (.t 37) (.c (.d (.v (.bool false))))), kn 39 (.mv (.t 38)), ky 40 39 (.mv (.t 4)), kn 41 (.pick (.t 39) (.t 40) (.c (.d (.v (.bool false))))), kn 42 (.mv (.t 41)), ky 43 42 (.fa (.t 3) 2), ky 44 42 (.ld (.t 43) 1 false), ky 45 42 (.bin .eql (.t 44) (kc 8)), kn 46 (.pick (.t 42) (.t 45) (.c (.d (.v (.bool false))))), kn 47 (.mv (.t 46)), ky 48 47 (.call 33 []), ky 49 47 (.call 19 [(.t 48)]), kn 50 (.pick (.t 47) (.t 49) (.c (.d (.v (.bool false))))), kn 0 (.mv (.t 50))])
 (.ret))))
def r15 : List RC := [.t 0]

def c16 : AC :=
 .seq (.reg [kn 1 (.bx (.t 0)), kn 2 (.al [(.d (.v (.string ⟨#[]⟩))), (.d (.v (.int .u32 0))), .esl, .esl, .esl])])
 (.seq (.reg [kn 3 (.bs .im 65 2 []), kn 4 (.fa (.t 1) 2), kn 5 (.ld (.t 4) 1 false), kn 6 (.app .im 65 2 24 (.t 3) (.t 5)), kn 7 (.fa (.t 1) 2), ke (.st (.t 7) (.t 6) 1)])
 (.seq (.reg [kn 8 (.fa (.t 1) 3), kn 9 (.ld (.t 8) 1 false), kn 10 (.call 34 [(.t 9)]), kn 11 (.fa (.t 1) 3), ke (.st (.t 11) (.t 10) 1)])
 (.seq (.reg [kn 12 (.bs .im 34 7 []), kn 13 (.fa (.t 1) 4), kn 14 (.ld (.t 13) 1 false), kn 15 (.app .im 34 7 72 (.t 12) (.t 14)), kn 16 (.fa (.t 1) 4), ke (.st (.t 16) (.t 15) 1)])
 (.seq (.reg [kn 17 (.ld (.t 1) 5 true), ke (.st (.t 2) (.t 17) 5)])
 (.ret)))))
def r16 : List RC := [.c 2 5 true]

def c17l0 : AC :=
 .seq (.reg [kn 12 (.bin .lss (.t 11) (.t 10))])
 (.seq (.cond (.t 12) (.skip) (.exit 0))
 (.seq (.block 1 (.seq (.reg [kn 13 (.ia (.t 9) (.t 11) 7), kn 14 (.ld (.t 13) 7 true), kn 7 (.al [kz, (.d (.v (.string ⟨#[]⟩))), kz, kz, kz, (.d (.v (.string ⟨#[]⟩))), kz]), ke (.st (.t 7) (.t 14) 7)])
 (.seq (.reg [kn 15 (.fa (.t 7) 1), kn 16 (.ld (.t 15) 1 false), kn 17 (.mv (.t 1)), kn 18 (.bin .eql (.t 16) (.t 17))])
 (.cond (.t 18) (.seq (.reg [kn 19 (.ld (.t 7) 7 true), ke (.st (.t 4) (.t 19) 7), kn 5 (.mv (.c (.d (.v (.bool true)))))])
 (.ret)) (.skip)))))
 (.reg [kn 20 (.bin .add (.t 11) (kc 1)), kn 11 (.mv (.t 20))])))

def c17 : AC :=
 .seq (.reg [kn 2 (.bx (.t 0)), kn 4 (.al [kz, (.d (.v (.string ⟨#[]⟩))), kz, kz, kz, (.d (.v (.string ⟨#[]⟩))), kz]), kn 5 (.mv (.c (.d (.v (.bool false)))))])
 (.seq (.seq (.reg [kn 8 (.fa (.t 2) 4), kn 9 (.ld (.t 8) 1 false), kn 10 (.len false (.t 9)), kn 11 (.mv (kc 0))])
 (.block 0 (.loop c17l0)))
 (.seq (.reg [kn 21 (.bd [kz, (.d (.v (.string ⟨#[]⟩))), kz, kz, kz, (.d (.v (.string ⟨#[]⟩))), kz] []), ke (.st (.t 4) (.t 21) 7), kn 5 (.mv (.c (.d (.v (.bool false)))))])
 (.ret)))
def r17 : List RC := [.c 4 7 true, .t 5]

def c19l0 : AC :=
 .seq (.reg [kn 10 (.bin .lss (.t 9) (.t 8))])
 (.seq (.cond (.t 10) (.skip) (.exit 0))
 (.seq (.block 1 (.seq (.reg [kn 11 (.ia (.t 7) (.t 9) 10), kn 12 (.ld (.t 11) 10 true), kn 5 (.al [kz, (.d (.v (.string ⟨#[]⟩))), (.d (.v (.string ⟨#[]⟩))), kz, kz, kz, .esl, .esl, kz, kz]), ke (.st (.t 5) (.t 12) 10)])
 (.seq (.seq (.reg [kn 13 (.fa (.t 5) 0), kn 14 (.ld (.t 13) 1 false), kn 15 (.bin .neq (.t 14) (kc 9))])
 (.cond (.t 15) (.exit 1) (.skip)))
 (.seq (.seq (.reg [kn 16 (.fa (.t 5) 9), kn 17 (.ld (.t 16) 1 false), kn 18 (.bin .lss (.t 17) (kc 0)), kn 19 (.mv (.t 18)), ko 20 19 (.fa (.t 5) 1), ko 21 19 (.ld (.t 20) 1 false), ko 22 19 (.fa (.t 1) 0), ko 23 19 (.ld (.t 22) 1 false), ko 24 19 (.bin .eql (.t 21) (.t 23)), ko 25 19 (.mv (.t 24)), ky 26 25 (.fa (.t 5) 9), ky 27 25 (.ld (.t 26) 1 false), ky 28 25 (.mv (.t 3)), ky 29 25 (.bin .neq (.t 27) (.t 28)), ko 30 19 (.pick (.t 25) (.t 29) (.c (.d (.v (.bool false))))), kn 31 (.pick (.t 19) (.c (.d (.v (.bool true)))) (.t 30))])
 (.cond (.t 31) (.seq (.reg [kn 2 (.mv (.c (.d (.v (.bool false)))))])
 (.ret)) (.skip)))
 (.seq (.reg [kn 32 (.fa (.t 5) 1), kn 33 (.ld (.t 32) 1 false), kn 34 (.fa (.t 1) 0), kn 35 (.ld (.t 34) 1 false), kn 36 (.bin .eql (.t 33) (.t 35))])
 (.cond (.t 36) (.reg [kn 37 (.mv (.t 3)), kn 38 (.bin .add (.t 37) (kc 1)), kn 3 (.mv (.t 38))]) (.skip)))))))
 (.reg [kn 39 (.bin .add (.t 9) (kc 1)), kn 9 (.mv (.t 39))])))

def c19 : AC :=
 .seq (.reg [kn 1 (.bx (.t 0)), kn 2 (.mv (.c (.d (.v (.bool false)))))])
 (.seq (.reg [kn 3 (.mv (kc 0))])
 (.seq (.seq (.reg [kn 6 (.fa (.t 1) 3), kn 7 (.ld (.t 6) 1 false), kn 8 (.len false (.t 7)), kn 9 (.mv (kc 0))])
 (.block 0 (.loop c19l0)))
 (.seq (.reg [kn 40 (.ld (.t 1) 5 true), kn 41 (.call 35 [(.t 40)]), kn 2 (.mv (.t 41))])
 (.ret))))
def r19 : List RC := [.t 2]

def c20 : AC :=
 .seq (.reg [kn 1 (.bx (.t 0)), kn 2 (.mv (.c (.d (.v (.bool false)))))])
 (.seq (.reg [kn 3 (.ld (.t 1) 5 true), kn 4 (.call 36 [(.t 3)]), kn 5 (.mv (.t 4)), ky 6 5 (.ld (.t 1) 5 true), ky 7 5 (.call 37 [(.t 6)]), kn 8 (.pick (.t 5) (.t 7) (.c (.d (.v (.bool false))))), kn 2 (.mv (.t 8))])
 (.ret))
def r20 : List RC := [.t 2]

def c21 : AC :=
 .seq (.reg [kn 2 (.bx (.t 0)), kn 3 (.bx (.t 1)), kn 4 (.mv (.c (.d (.v (.bool false)))))])
 (.seq (.reg [kn 5 (.fa (.t 2) 0), kn 6 (.ld (.t 5) 1 false), kn 7 (.fa (.t 3) 0), kn 8 (.ld (.t 7) 1 false), kn 9 (.bin .eql (.t 6) (.t 8)), kn 10 (.mv (.t 9)), ky 11 10 (.fa (.t 2) 1), ky 12 10 (.ld (.t 11) 1 false), ky 13 10 (.fa (.t 3) 1), ky 14 10 (.ld (.t 13) 1 false), ky 15 10 (.bin .eql (.t 12) (.t 14)), kn 16 (.pick (.t 10) (.t 15) (.c (.d (.v (.bool false))))), kn 17 (.mv (.t 16)), ky 18 17 (.fa (.t 2) 2), ky 19 17 (.ld (.t 18) 1 false), ky 20 17 (.fa (.t 3) 2), ky 21 17 (.ld (.t 20) 1 false), ky 22 17 (.bin .eql (.t 19) (.t 21)), kn 23 (.pick (.t 17) (.t 22) (.c (.d (.v (.bool false))))), kn 24 (.mv (.t 23)), ky 25 24 (.fa (.t 2) 6), ky 26 24 (.ld (.t 25) 1 false), ky 27 24 (.fa (.t 3) 6), ky 28 24 (.ld (.t 27) 1 false), ky 29 24 (.bin .eql (.t 26) (.t 28)), kn 30 (.pick (.t 24) (.t 29) (.c (.d (.v (.bool false))))), kn 31 (.mv (.t 30)), ky 32 31 (.fa (.t 2) 3), ky 33 31 (.ld (.t 32) 3 true), ky 34 31 (.fa (.t 3) 3), ky 35 31 (.ld (.t 34) 3 true), ky 36 31 (.call 38 [(.t 33), (.t 35)]), kn 37 (.pick (.t 31) (.t 36) (.c (.d (.v (.bool false))))), kn 4 (.mv (.t 37))])
 (.ret))
def r21 : List RC := [.t 4]

def c22l0 : AC :=
 .seq (.seq (.reg [kn 80 (.mv (.t 6)), kn 81 (.fa (.t 2) 4), kn 82 (.ld (.t 81) 1 false), kn 83 (.len false (.t 82)), kn 84 (.bin .lss (.t 80) (.t 83))])
 (.cond (.t 84) (.skip) (.exit 2)))
 (.seq (.block 3 (.seq (.dreg [[], [0], [], [1, 2], [3], [], [5], [], [6, 7], [8], [4, 9], [10]] [kn 87 (.fa (.t 2) 4), kn 88 (.ld (.t 87) 1 false), kn 89 (.mv (.t 6)), kn 90 (.ia (.t 88) (.t 89) 7), kn 91 (.ld (.t 90) 7 true), kn 92 (.fa (.t 3) 4), kn 93 (.ld (.t 92) 1 false), kn 94 (.mv (.t 6)), kn 95 (.ia (.t 93) (.t 94) 7), kn 96 (.ld (.t 95) 7 true), kn 97 (.call 21 [(.t 91), (.t 96)]), kn 98 (.un .not (.t 97))])
 (.cond (.t 98) (.seq (.reg [kn 4 (.mv (.c (.d (.v (.bool false)))))])
 (.ret)) (.skip))))
 (.reg [kn 85 (.mv (.t 6)), kn 86 (.bin .add (.t 85) (kc 1)), kn 6 (.mv (.t 86))]))

def c22l1 : AC :=
 .seq (.seq (.reg [kn 45 (.mv (.t 5)), kn 46 (.fa (.t 2) 2), kn 47 (.ld (.t 46) 1 false), kn 48 (.len false (.t 47)), kn 49 (.bin .lss (.t 45) (.t 48))])
 (.cond (.t 49) (.skip) (.exit 0)))
 (.seq (.block 1 (.seq (.dreg [[], [0], [], [1, 2], [3], [4], [], [6], [], [7, 8], [9], [10], [5, 11], [12], [13], [14, 13], [13], [15, 16, 13], [17, 13], [18, 13], [13], [20, 13], [13], [21, 22, 13], [23, 13], [24, 13], [19, 25, 13], [13, 26]] [kn 52 (.fa (.t 2) 2), kn 53 (.ld (.t 52) 1 false), kn 54 (.mv (.t 5)), kn 55 (.ia (.t 53) (.t 54) 2), kn 56 (.fa (.t 55) 0), kn 57 (.ld (.t 56) 1 false), kn 58 (.fa (.t 3) 2), kn 59 (.ld (.t 58) 1 false), kn 60 (.mv (.t 5)), kn 61 (.ia (.t 59) (.t 60) 2), kn 62 (.fa (.t 61) 0), kn 63 (.ld (.t 62) 1 false), kn 64 (.bin .neq (.t 57) (.t 63)), kn 65 (.mv (.t 64)), ko 66 65 (.fa (.t 2) 2), ko 67 65 (.ld (.t 66) 1 false), ko 68 65 (.mv (.t 5)), ko 69 65 (.ia (.t 67) (.t 68) 2), ko 70 65 (.fa (.t 69) 1), ko 71 65 (.ld (.t 70) 1 false), ko 72 65 (.fa (.t 3) 2), ko 73 65 (.ld (.t 72) 1 false), ko 74 65 (.mv (.t 5)), ko 75 65 (.ia (.t 73) (.t 74) 2), ko 76 65 (.fa (.t 75) 1), ko 77 65 (.ld (.t 76) 1 false), ko 78 65 (.bin .neq (.t 71) (.t 77)), kn 79 (.pick (.t 65) (.c (.d (.v (.bool true)))) (.t 78))])
 (.cond (.t 79) (.seq (.reg [kn 4 (.mv (.c (.d (.v (.bool false)))))])
 (.ret)) (.skip))))
 (.reg [kn 50 (.mv (.t 5)), kn 51 (.bin .add (.t 50) (kc 1)), kn 5 (.mv (.t 51))]))

def c22 : AC :=
 .seq (.reg [kn 2 (.bx (.t 0)), kn 3 (.bx (.t 1)), kn 4 (.mv (.c (.d (.v (.bool false)))))])
 (.seq (.seq (.reg [kn 7 (.fa (.t 2) 0), kn 8 (.ld (.t 7) 1 false), kn 9 (.fa (.t 3) 0), kn 10 (.ld (.t 9) 1 false), kn 11 (.bin .neq (.t 8) (.t 10)), kn 12 (.mv (.t 11)), ko 13 12 (.fa (.t 2) 1), ko 14 12 (.ld (.t 13) 1 false), ko 15 12 (.fa (.t 3) 1), ko 16 12 (.ld (.t 15) 1 false), ko 17 12 (.bin .neq (.t 14) (.t 16)), kn 18 (.pick (.t 12) (.c (.d (.v (.bool true)))) (.t 17)), kn 19 (.mv (.t 18)), ko 20 19 (.fa (.t 2) 2), ko 21 19 (.ld (.t 20) 1 false), ko 22 19 (.len false (.t 21)), ko 23 19 (.fa (.t 3) 2), ko 24 19 (.ld (.t 23) 1 false), ko 25 19 (.len false (.t 24)), ko 26 19 (.bin .neq (.t 22) (.t 25)), kn 27 (.pick (.t 19) (.c (.d (.v (.bool true)))) (.t 26)), kn 28 (.mv (.t 27)), ko 29 28 (.fa (.t 2) 4), ko 30 28 (.ld (.t 29) 1 false), ko 31 28 (.len false (.t 30)), ko 32 28 (.fa (.t 3) 4), ko 33 28 (.ld (.t 32) 1 false), ko 34 28 (.len false (.t 33)), ko 35 28 (.bin .neq (.t 31) (.t 34)), kn 36 (.pick (.t 28) (.c (.d (.v (.bool true)))) (.t 35)), kn 37 (.mv (.t 36)), ko 38 37 (.fa (.t 2) 3), ko 39 37 (.ld (.t 38) 1 false), ko 40 37 (.fa (.t 3) 3), ko 41 37 (.ld (.t 40) 1 false), ko 42 37 (.call 39 [(.t 39), (.t 41)]), ko 43 37 (.un .not (.t 42)), kn 44 (.pick (.t 37) (.c (.d (.v (.bool true)))) (.t 43))])
 (.cond (.t 44) (.seq (.reg [kn 4 (.mv (.c (.d (.v (.bool false)))))])
 (.ret)) (.skip)))
 (.seq (.seq (.reg [kn 5 (.mv (kc 0))])
 (.block 0 (.loop c22l1)))
 (.seq (.seq (.reg [kn 6 (.mv (kc 0))])
 (.block 2 (.loop c22l0)))
 (.seq (.reg [kn 4 (.mv (.c (.d (.v (.bool true)))))])
 (.ret)))))
def r22 : List RC := [.t 4]

def c23l0 : AC :=
 .seq (.reg [kn 31 (.bin .lss (.t 30) (.t 29))])
 (.seq (.cond (.t 31) (.skip) (.exit 0))
 (.seq (.block 1 (.seq (.reg [kn 32 (.ia (.t 28) (.t 30) 7), kn 33 (.ld (.t 32) 7 true), kn 7 (.al [kz, (.d (.v (.string ⟨#[]⟩))), kz, kz, kz, (.d (.v (.string ⟨#[]⟩))), kz]), ke (.st (.t 7) (.t 33) 7)])
 (.seq (.reg [kn 34 (.mv (.t 4)), kn 35 (.fa (.t 7) 2), kn 36 (.ld (.t 35) 1 false), kn 37 (.call 42 [(.t 34), (.t 36)]), kn 38 (.fa (.t 7) 2), ke (.st (.t 38) (.t 37) 1)])
 (.reg [kn 39 (.fa (.t 5) 4), kn 40 (.ld (.t 39) 1 false), kn 41 (.ld (.t 7) 7 true), kn 42 (.bs .im 34 7 [(.t 41)]), kn 43 (.app .gr 34 7 72 (.t 40) (.t 42)), kn 44 (.fa (.t 5) 4), ke (.st (.t 44) (.t 43) 1)]))))
 (.reg [kn 45 (.bin .add (.t 30) (kc 1)), kn 30 (.mv (.t 45))])))

def c23 : AC :=
 .seq (.reg [kn 1 (.bx (.t 0)), kn 2 (.al [(.d (.v (.string ⟨#[]⟩))), (.d (.v (.int .u32 0))), .esl, .esl, .esl]), kn 3 (.mv (kc 0))])
 (.seq (.seq (.reg [kn 8 (.ld (.t 1) 5 true), kn 9 (.call 35 [(.t 8)]), kn 10 (.un .not (.t 9))])
 (.cond (.t 10) (.seq (.reg [kn 11 (.bd [(.d (.v (.string ⟨#[]⟩))), (.d (.v (.int .u32 0))), .esl, .esl, .esl] []), ke (.st (.t 2) (.t 11) 5), kn 3 (.mv (kc 160))])
 (.ret)) (.skip)))
 (.seq (.dreg [[], [0], [], [], [3], [1, 2, 4], [5], [6, 2, 0, 1, 2, 3, 4, 5, 6]] [kn 12 (.fa (.t 1) 3), kn 13 (.ld (.t 12) 1 false), kn 14 (.call 40 []), kn 15 (.fa (.t 1) 0), kn 16 (.ld (.t 15) 1 false), kn 17 (.bd [.esl, kz, kz, kz, kz, kz, kz, kz, kz, kz, kz, kz, kz, kz, kz, kz, kz, kz, kz, kz, kz, kz, kz, kz, kz, kz, kz, kz, kz, kz, kz, kz, kz, kz, kz, kz, kz, kz, kz, kz, kz, kz, kz, kz, kz, kz, kz, kz, kz, kz, kz, kz, kz, kz, kz, kz, kz, kz, kz, kz, kz, kz, kz, kz, kz, kz, kz, kz, kz, kz, kz, kz, kz, kz, kz, kz, kz, kz, kz, kz, kz, kz, kz, kz, kz, kz, kz, kz, kz, kz, kz, kz, kz, kz, kz, kz, kz, kz, kz, kz, kz, kz, kz, kz, kz, kz, kz, kz, kz, kz, kz, kz, kz, kz, kz, kz, kz, kz, kz, kz, kz, kz, kz, kz, kz, kz, kz, kz, kz, kz, kz, kz, kz, kz, kz, kz, kz, kz, kz, kz, kz, kz, kz, kz, kz, kz, kz, kz, kz, kz, kz, kz, kz, kz, kz, kz, kz, kz, kz, kz, kz, kz, kz, kz, kz, kz, kz, kz, kz, kz, kz, kz, kz, kz, kz, kz, kz, kz, kz, kz, kz, kz, kz, kz, kz, kz, kz, kz, kz, kz, kz, kz, kz, kz, kz, kz, kz, kz, kz, kz, kz, kz, kz, kz, kz, kz, kz, kz, kz, kz, kz, kz, kz, kz, kz, kz, kz, kz, kz, kz, kz, kz, kz, kz, kz, kz, kz, kz, kz, kz, kz, kz, kz, kz, kz, kz, kz, kz, kz, kz, kz, kz, kz, kz, kz, kz, kz, kz, kz, kz, kz, kz, kz, kz, kz, kz, kz, .esl, (.d (.v (.string ⟨#[]⟩))), kz] [(0, 1, (.t 13)), (257, 1, (.t 14)), (258, 1, (.t 16))]), kn 18 (.bx (.t 17)), kn 4 (.mv (.t 18))])
 (.seq (.dreg [[], [0], [], [2], [], [4], [5], [1, 3, 6], [], [8, 7, 6, 0, 1, 2, 3, 4, 5, 6, 7, 8]] [kn 19 (.fa (.t 1) 0), kn 20 (.ld (.t 19) 1 false), kn 21 (.fa (.t 1) 1), kn 22 (.ld (.t 21) 1 false), kn 23 (.fa (.t 1) 2), kn 24 (.ld (.t 23) 1 false), kn 25 (.call 41 [(.t 24)]), kn 26 (.bd [(.d (.v (.string ⟨#[]⟩))), (.d (.v (.int .u32 0))), .esl, .esl, .esl] [(0, 1, (.t 20)), (1, 1, (.t 22)), (2, 1, (.t 25))]), kn 5 (.al [(.d (.v (.string ⟨#[]⟩))), (.d (.v (.int .u32 0))), .esl, .esl, .esl]), ke (.st (.t 5) (.t 26) 5)])
 (.seq (.seq (.reg [kn 27 (.fa (.t 1) 4), kn 28 (.ld (.t 27) 1 false), kn 29 (.len false (.t 28)), kn 30 (.mv (kc 0))])
 (.block 0 (.loop c23l0)))
 (.seq (.reg [kn 46 (.mv (.t 4)), kn 47 (.nc (.t 46)), kn 48 (.fa (.t 47) 257), kn 49 (.ld (.t 48) 1 false), kn 50 (.fa (.t 5) 3), ke (.st (.t 50) (.t 49) 1)])
 (.seq (.seq (.reg [kn 51 (.ld (.t 5) 5 true), kn 52 (.call 19 [(.t 51)]), kn 53 (.un .not (.t 52))])
 (.cond (.t 53) (.seq (.reg [kn 54 (.bd [(.d (.v (.string ⟨#[]⟩))), (.d (.v (.int .u32 0))), .esl, .esl, .esl] []), ke (.st (.t 2) (.t 54) 5), kn 3 (.mv (kc 160))])
 (.ret)) (.skip)))
 (.seq (.reg [kn 55 (.ld (.t 5) 5 true), ke (.st (.t 2) (.t 55) 5), kn 3 (.mv (kc 0))])
 (.ret))))))))
def r23 : List RC := [.c 2 5 true, .t 3]

def c25 : AC :=
 .seq (.reg [kn 2 (.bx (.t 0)), kn 3 (.bx (.t 1)), kn 4 (.mv (.c (.d (.v (.bool false)))))])
 (.seq (.reg [kn 5 (.fa (.t 2) 0), kn 6 (.ld (.t 5) 1 false), kn 7 (.fa (.t 3) 0), kn 8 (.ld (.t 7) 1 false), kn 9 (.bin .eql (.t 6) (.t 8)), kn 10 (.mv (.t 9)), ky 11 10 (.fa (.t 2) 1), ky 12 10 (.ld (.t 11) 1 false), ky 13 10 (.fa (.t 3) 1), ky 14 10 (.ld (.t 13) 1 false), ky 15 10 (.bin .eql (.t 12) (.t 14)), kn 16 (.pick (.t 10) (.t 15) (.c (.d (.v (.bool false))))), kn 17 (.mv (.t 16)), ky 18 17 (.fa (.t 2) 2), ky 19 17 (.ld (.t 18) 1 false), ky 20 17 (.fa (.t 3) 2), ky 21 17 (.ld (.t 20) 1 false), ky 22 17 (.call 45 [(.t 19), (.t 21)]), kn 23 (.pick (.t 17) (.t 22) (.c (.d (.v (.bool false))))), kn 24 (.mv (.t 23)), ky 25 24 (.fa (.t 2) 4), ky 26 24 (.ld (.t 25) 1 false), ky 27 24 (.fa (.t 3) 4), ky 28 24 (.ld (.t 27) 1 false), ky 29 24 (.call 46 [(.t 26), (.t 28)]), kn 30 (.pick (.t 24) (.t 29) (.c (.d (.v (.bool false))))), kn 31 (.mv (.t 30)), ky 32 31 (.fa (.t 2) 3), ky 33 31 (.ld (.t 32) 1 false), ky 34 31 (.fa (.t 3) 3), ky 35 31 (.ld (.t 34) 1 false), ky 36 31 (.call 47 [(.t 33), (.t 35), (.c (.fn 48 []))]), kn 37 (.pick (.t 31) (.t 36) (.c (.d (.v (.bool false))))), kn 4 (.mv (.t 37))])
 (.ret))
def r25 : List RC := [.t 4]

def c33 : AC :=
 .seq (.reg [kn 0 (.al [(.d (.v (.string ⟨#[]⟩))), (.d (.v (.int .u32 0))), .esl, .esl, .esl])])
 (.seq (.reg [kn 2 (.call 51 []), kn 3 (.bd [kz, (.d (.v (.string ⟨#[]⟩))), (.d (.v (.string ⟨#[]⟩))), kz, kz, kz, .esl, .esl, kz, kz] [(0, 1, (kc 7)), (3, 1, (kc 2)), (4, 1, (kc 1))]), kn 4 (.bd [kz, (.d (.v (.string ⟨#[]⟩))), (.d (.v (.string ⟨#[]⟩))), kz, kz, kz, .esl, .esl, kz, kz] [(0, 1, (kc 7)), (3, 1, (kc 3)), (4, 1, (kc 1))]), kn 5 (.bs .im 49 10 [(.t 3), (.t 4)]), kn 6 (.app .gr 49 10 128 (.t 2) (.t 5)), kn 1 (.mv (.t 6))])
 (.seq (.reg [kn 7 (.mv (.t 1)), kn 8 (.bd [kz, (.d (.v (.string ⟨#[]⟩))), kz, kz, kz, (.d (.v (.string ⟨#[]⟩))), kz] [(0, 1, (kc 3)), (1, 1, (.c (.d (.v (.string ⟨#[120]⟩))))), (2, 1, (kc 8))]), kn 9 (.bs .im 34 7 [(.t 8)]), kn 10 (.bd [(.d (.v (.string ⟨#[]⟩))), (.d (.v (.int .u32 0))), .esl, .esl, .esl] [(0, 1, (.c (.d (.v (.string ⟨#[65]⟩))))), (3, 1, (.t 7)), (4, 1, (.t 9))]), ke (.st (.t 0) (.t 10) 5)])
 (.ret)))
def r33 : List RC := [.c 0 5 true]

def c35l0 : AC :=
 .seq (.reg [kn 133 (.bin .lss (.t 132) (.t 131))])
 (.seq (.cond (.t 133) (.skip) (.exit 4))
 (.seq (.block 5 (.seq (.reg [kn 134 (.ia (.t 130) (.t 132) 7), kn 135 (.ld (.t 134) 7 true), kn 13 (.al [kz, (.d (.v (.string ⟨#[]⟩))), kz, kz, kz, (.d (.v (.string ⟨#[]⟩))), kz]), ke (.st (.t 13) (.t 135) 7)])
 (.seq (.reg [kn 136 (.fa (.t 13) 1), kn 137 (.ld (.t 136) 1 false), kn 138 (.bd [(.d (.v (.string ⟨#[]⟩))), (.d (.v (.string ⟨#[]⟩)))] [(0, 1, (.c (.d (.v (.string ⟨#[]⟩))))), (1, 1, (.t 137))]), kn 14 (.al [(.d (.v (.string ⟨#[]⟩))), (.d (.v (.string ⟨#[]⟩)))]), ke (.st (.t 14) (.t 138) 2)])
 (.seq (.dreg [[], [], [0, 1], [2], [0, 1, 0, 1], [4], [0, 5, 3, 4, 0, 1, 2, 3, 4, 5]] [kn 139 (.mv (.t 11)), kn 140 (.ld (.t 14) 2 true), kn 141 (.lk ⟨true, [.s, .s]⟩ kz (.t 139) (.t 140) false), kn 142 (.bin .add (.t 141) (kc 1)), kn 143 (.me ⟨true, [.s, .s]⟩ kz (.t 139) (.t 140)), kn 144 (.ext (.t 143) 1), ke (.mes (.t 139) (.t 144) (.t 142))])
 (.seq (.reg [kn 145 (.mv (.t 11)), kn 146 (.ld (.t 14) 2 true), kn 147 (.lk ⟨true, [.s, .s]⟩ kz (.t 145) (.t 146) false), kn 148 (.bin .gtr (.t 147) (kc 1)), kn 149 (.mv (.t 148)), ko 150 149 (.ld (.t 1) 5 true), ko 151 149 (.ld (.t 13) 7 true), ko 152 149 (.call 81 [(.t 150), (.t 151)]), ko 153 149 (.un .not (.t 152)), kn 154 (.pick (.t 149) (.c (.d (.v (.bool true)))) (.t 153))])
 (.cond (.t 154) (.seq (.reg [kn 2 (.mv (.c (.d (.v (.bool false)))))])
 (.ret)) (.skip)))))))
 (.reg [kn 155 (.bin .add (.t 132) (kc 1)), kn 132 (.mv (.t 155))])))

def c35l1 : AC :=
 .seq (.reg [kn 74 (.bin .lss (.t 73) (.t 72))])
 (.seq (.cond (.t 74) (.skip) (.exit 2))
 (.seq (.block 3 (.seq (.reg [kn 75 (.ia (.t 71) (.t 73) 10), kn 76 (.ld (.t 75) 10 true), kn 9 (.al [kz, (.d (.v (.string ⟨#[]⟩))), (.d (.v (.string ⟨#[]⟩))), kz, kz, kz, .esl, .esl, kz, kz]), ke (.st (.t 9) (.t 76) 10)])
 (.seq (.seq (.reg [kn 77 (.fa (.t 9) 1), kn 78 (.ld (.t 77) 1 false), kn 79 (.bin .neq (.t 78) (.c (.d (.v (.string ⟨#[]⟩))))), kn 80 (.mv (.t 79)), ky 81 80 (.mv (.t 3)), ky 82 80 (.fa (.t 9) 1), ky 83 80 (.ld (.t 82) 1 false), ky 84 80 (.bd [(.d (.v (.string ⟨#[]⟩))), (.d (.v (.string ⟨#[]⟩)))] [(0, 1, (.t 83)), (1, 1, (.c (.d (.v (.string ⟨#[]⟩)))))]), ky 85 80 (.lk ⟨true, [.s, .s]⟩ kz (.t 81) (.t 84) false), ky 86 80 (.bin .eql (.t 85) (kc 0)), kn 87 (.pick (.t 80) (.t 86) (.c (.d (.v (.bool false))))), kn 88 (.mv (.t 87)), ko 89 88 (.fa (.t 9) 0), ko 90 88 (.ld (.t 89) 1 false), ko 91 88 (.bin .eql (.t 90) (kc 9)), ko 92 88 (.mv (.t 91)), ky 93 92 (.fa (.t 9) 1), ky 94 92 (.ld (.t 93) 1 false), ky 95 92 (.fa (.t 1) 0), ky 96 92 (.ld (.t 95) 1 false), ky 97 92 (.bin .neq (.t 94) (.t 96)), ko 98 88 (.pick (.t 92) (.t 97) (.c (.d (.v (.bool false))))), ko 99 88 (.mv (.t 98)), ky 100 99 (.fa (.t 9) 9), ky 101 99 (.ld (.t 100) 1 false), ky 102 99 (.bin .lss (.t 101) (kc 0)), ko 103 88 (.pick (.t 99) (.t 102) (.c (.d (.v (.bool false))))), kn 104 (.pick (.t 88) (.c (.d (.v (.bool true)))) (.t 103))])
 (.cond (.t 104) (.seq (.reg [kn 2 (.mv (.c (.d (.v (.bool false)))))])
 (.ret)) (.skip)))
 (.seq (.seq (.reg [kn 105 (.fa (.t 9) 2), kn 106 (.ld (.t 105) 1 false), kn 107 (.bin .eql (.t 106) (.c (.d (.v (.string ⟨#[]⟩)))))])
 (.cond (.t 107) (.exit 3) (.skip)))
 (.seq (.reg [kn 108 (.fa (.t 9) 1), kn 109 (.ld (.t 108) 1 false), kn 110 (.fa (.t 9) 2), kn 111 (.ld (.t 110) 1 false), kn 112 (.bd [(.d (.v (.string ⟨#[]⟩))), (.d (.v (.string ⟨#[]⟩)))] [(0, 1, (.t 109)), (1, 1, (.t 111))]), kn 113 (.fa (.t 9) 0), kn 114 (.ld (.t 113) 1 false), kn 115 (.bin .eql (.t 114) (kc 9)), kn 116 (.bd [(.d (.v (.string ⟨#[]⟩))), (.d (.v (.string ⟨#[]⟩))), (.d (.v (.bool false)))] [(0, 2, (.t 112)), (2, 1, (.t 115))]), kn 10 (.al [(.d (.v (.string ⟨#[]⟩))), (.d (.v (.string ⟨#[]⟩))), (.d (.v (.bool false)))]), ke (.st (.t 10) (.t 116) 3)])
 (.seq (.dreg [[], [], [0, 1], [2], [0, 1, 0, 1], [4], [0, 5, 3, 4, 0, 1, 2, 3, 4, 5]] [kn 117 (.mv (.t 7)), kn 118 (.ld (.t 10) 3 true), kn 119 (.lk ⟨true, [.s, .s, .b]⟩ kz (.t 117) (.t 118) false), kn 120 (.bin .add (.t 119) (kc 1)), kn 121 (.me ⟨true, [.s, .s, .b]⟩ kz (.t 117) (.t 118)), kn 122 (.ext (.t 121) 1), ke (.mes (.t 117) (.t 122) (.t 120))])
 (.seq (.reg [kn 123 (.mv (.t 7)), kn 124 (.ld (.t 10) 3 true), kn 125 (.lk ⟨true, [.s, .s, .b]⟩ kz (.t 123) (.t 124) false), kn 126 (.bin .gtr (.t 125) (kc 1))])
 (.cond (.t 126) (.seq (.reg [kn 2 (.mv (.c (.d (.v (.bool false)))))])
 (.ret)) (.skip)))))))))
 (.reg [kn 127 (.bin .add (.t 73) (kc 1)), kn 73 (.mv (.t 127))])))

def c35l2 : AC :=
 .seq (.reg [kn 46 (.bin .lss (.t 45) (.t 44))])
 (.seq (.cond (.t 46) (.skip) (.exit 0))
 (.seq (.block 1 (.seq (.reg [kn 47 (.ia (.t 43) (.t 45) 2), kn 48 (.ld (.t 47) 2 true), kn 5 (.al [(.d (.v (.string ⟨#[]⟩))), (.d (.v (.int .u32 0)))]), ke (.st (.t 5) (.t 48) 2)])
 (.seq (.reg [kn 49 (.fa (.t 5) 0), kn 50 (.ld (.t 49) 1 false), kn 51 (.bd [(.d (.v (.string ⟨#[]⟩))), (.d (.v (.string ⟨#[]⟩)))] [(0, 1, (.t 50)), (1, 1, (.c (.d (.v (.string ⟨#[]⟩)))))]), kn 6 (.al [(.d (.v (.string ⟨#[]⟩))), (.d (.v (.string ⟨#[]⟩)))]), ke (.st (.t 6) (.t 51) 2)])
 (.seq (.dreg [[], [], [0, 1], [2], [0, 1, 0, 1], [4], [0, 5, 3, 4, 0, 1, 2, 3, 4, 5]] [kn 52 (.mv (.t 3)), kn 53 (.ld (.t 6) 2 true), kn 54 (.lk ⟨true, [.s, .s]⟩ kz (.t 52) (.t 53) false), kn 55 (.bin .add (.t 54) (kc 1)), kn 56 (.me ⟨true, [.s, .s]⟩ kz (.t 52) (.t 53)), kn 57 (.ext (.t 56) 1), ke (.mes (.t 52) (.t 57) (.t 55))])
 (.seq (.reg [kn 58 (.fa (.t 5) 0), kn 59 (.ld (.t 58) 1 false), kn 60 (.call 79 [(.t 59)]), kn 61 (.un .not (.t 60)), kn 62 (.mv (.t 61)), ko 63 62 (.mv (.t 3)), ko 64 62 (.ld (.t 6) 2 true), ko 65 62 (.lk ⟨true, [.s, .s]⟩ kz (.t 63) (.t 64) false), ko 66 62 (.bin .gtr (.t 65) (kc 1)), kn 67 (.pick (.t 62) (.c (.d (.v (.bool true)))) (.t 66))])
 (.cond (.t 67) (.seq (.reg [kn 2 (.mv (.c (.d (.v (.bool false)))))])
 (.ret)) (.skip)))))))
 (.reg [kn 68 (.bin .add (.t 45) (kc 1)), kn 45 (.mv (.t 68))])))

def c35 : AC :=
 .seq (.reg [kn 1 (.bx (.t 0)), kn 2 (.mv (.c (.d (.v (.bool false)))))])
 (.seq (.seq (.reg [kn 15 (.fa (.t 1) 0), kn 16 (.ld (.t 15) 1 false), kn 17 (.call 79 [(.t 16)]), kn 18 (.un .not (.t 17)), kn 19 (.mv (.t 18)), ko 20 19 (.fa (.t 1) 2), ko 21 19 (.ld (.t 20) 1 false), ko 22 19 (.len false (.t 21)), ko 23 19 (.bin .gtr (.t 22) (kc 16)), kn 24 (.pick (.t 19) (.c (.d (.v (.bool true)))) (.t 23)), kn 25 (.mv (.t 24)), ko 26 25 (.fa (.t 1) 4), ko 27 25 (.ld (.t 26) 1 false), ko 28 25 (.len false (.t 27)), ko 29 25 (.bin .gtr (.t 28) (kc 64)), kn 30 (.pick (.t 25) (.c (.d (.v (.bool true)))) (.t 29)), kn 31 (.mv (.t 30)), ko 32 31 (.fa (.t 1) 3), ko 33 31 (.ld (.t 32) 1 false), ko 34 31 (.call 80 [(.t 33)]), ko 35 31 (.un .not (.t 34)), kn 36 (.pick (.t 31) (.c (.d (.v (.bool true)))) (.t 35))])
 (.cond (.t 36) (.seq (.reg [kn 2 (.mv (.c (.d (.v (.bool false)))))])
 (.ret)) (.skip)))
 (.seq (.reg [kn 37 (.mkm ⟨true, [.s, .s]⟩), kn 38 (.fa (.t 1) 0), kn 39 (.ld (.t 38) 1 false), kn 40 (.bd [(.d (.v (.string ⟨#[]⟩))), (.d (.v (.string ⟨#[]⟩)))] [(0, 1, (.t 39)), (1, 1, (.c (.d (.v (.string ⟨#[]⟩)))))]), ke (.mu ⟨true, [.s, .s]⟩ (.t 37) (.t 40) (kc 1)), kn 41 (.mv (.t 37)), kn 3 (.mv (.t 41))])
 (.seq (.seq (.reg [kn 42 (.fa (.t 1) 2), kn 43 (.ld (.t 42) 1 false), kn 44 (.len false (.t 43)), kn 45 (.mv (kc 0))])
 (.block 0 (.loop c35l2)))
 (.seq (.reg [kn 69 (.mkm ⟨true, [.s, .s, .b]⟩), kn 7 (.mv (.t 69))])
 (.seq (.seq (.reg [kn 70 (.fa (.t 1) 3), kn 71 (.ld (.t 70) 1 false), kn 72 (.len false (.t 71)), kn 73 (.mv (kc 0))])
 (.block 2 (.loop c35l1)))
 (.seq (.reg [kn 128 (.mkm ⟨true, [.s, .s]⟩), kn 11 (.mv (.t 128))])
 (.seq (.seq (.reg [kn 129 (.fa (.t 1) 4), kn 130 (.ld (.t 129) 1 false), kn 131 (.len false (.t 130)), kn 132 (.mv (kc 0))])
 (.block 4 (.loop c35l0)))
 (.seq (.reg [kn 2 (.mv (.c (.d (.v (.bool true)))))])
 (.ret)))))))))
def r35 : List RC := [.t 2]

def c36l0 : AC :=
 .seq (.seq (.reg [kn 93 (.mv (.t 6)), kn 94 (.mv (.t 5)), kn 95 (.bin .lss (.t 93) (.t 94))])
 (.cond (.t 95) (.skip) (.exit 6)))
 (.seq (.block 7 (.seq (.dreg [[], [0], [], [1, 2], [3], [4], [], [6], [], [7, 8], [9], [10], [5, 11]] [kn 98 (.fa (.t 1) 4), kn 99 (.ld (.t 98) 1 false), kn 100 (.mv (.t 6)), kn 101 (.ia (.t 99) (.t 100) 7), kn 102 (.fa (.t 101) 1), kn 103 (.ld (.t 102) 1 false), kn 104 (.fa (.t 1) 4), kn 105 (.ld (.t 104) 1 false), kn 106 (.mv (.t 5)), kn 107 (.ia (.t 105) (.t 106) 7), kn 108 (.fa (.t 107) 1), kn 109 (.ld (.t 108) 1 false), kn 110 (.bin .eql (.t 103) (.t 109))])
 (.cond (.t 110) (.seq (.reg [kn 2 (.mv (.c (.d (.v (.bool false)))))])
 (.ret)) (.skip))))
 (.reg [kn 96 (.mv (.t 6)), kn 97 (.bin .add (.t 96) (kc 1)), kn 6 (.mv (.t 97))]))

def c36l1 : AC :=
 .seq (.seq (.reg [kn 78 (.mv (.t 5)), kn 79 (.fa (.t 1) 4), kn 80 (.ld (.t 79) 1 false), kn 81 (.len false (.t 80)), kn 82 (.bin .lss (.t 78) (.t 81))])
 (.cond (.t 82) (.skip) (.exit 4)))
 (.seq (.block 5 (.seq (.seq (.dreg [[], [], [1], [], [2, 3], [4], [0, 5], [6]] [kn 85 (.ld (.t 1) 5 true), kn 86 (.fa (.t 1) 4), kn 87 (.ld (.t 86) 1 false), kn 88 (.mv (.t 5)), kn 89 (.ia (.t 87) (.t 88) 7), kn 90 (.ld (.t 89) 7 true), kn 91 (.call 85 [(.t 85), (.t 90)]), kn 92 (.un .not (.t 91))])
 (.cond (.t 92) (.seq (.reg [kn 2 (.mv (.c (.d (.v (.bool false)))))])
 (.ret)) (.skip)))
 (.seq (.reg [kn 6 (.mv (kc 0))])
 (.block 6 (.loop c36l0)))))
 (.reg [kn 83 (.mv (.t 5)), kn 84 (.bin .add (.t 83) (kc 1)), kn 5 (.mv (.t 84))]))

def c36l2 : AC :=
 .seq (.seq (.reg [kn 60 (.mv (.t 4)), kn 61 (.mv (.t 3)), kn 62 (.bin .lss (.t 60) (.t 61))])
 (.cond (.t 62) (.skip) (.exit 2)))
 (.seq (.block 3 (.seq (.dreg [[], [0], [], [1, 2], [3], [4], [], [6], [], [7, 8], [9], [10], [5, 11]] [kn 65 (.fa (.t 1) 2), kn 66 (.ld (.t 65) 1 false), kn 67 (.mv (.t 4)), kn 68 (.ia (.t 66) (.t 67) 2), kn 69 (.fa (.t 68) 0), kn 70 (.ld (.t 69) 1 false), kn 71 (.fa (.t 1) 2), kn 72 (.ld (.t 71) 1 false), kn 73 (.mv (.t 3)), kn 74 (.ia (.t 72) (.t 73) 2), kn 75 (.fa (.t 74) 0), kn 76 (.ld (.t 75) 1 false), kn 77 (.bin .eql (.t 70) (.t 76))])
 (.cond (.t 77) (.seq (.reg [kn 2 (.mv (.c (.d (.v (.bool false)))))])
 (.ret)) (.skip))))
 (.reg [kn 63 (.mv (.t 4)), kn 64 (.bin .add (.t 63) (kc 1)), kn 4 (.mv (.t 64))]))

def c36l3 : AC :=
 .seq (.seq (.reg [kn 34 (.mv (.t 3)), kn 35 (.fa (.t 1) 2), kn 36 (.ld (.t 35) 1 false), kn 37 (.len false (.t 36)), kn 38 (.bin .lss (.t 34) (.t 37))])
 (.cond (.t 38) (.skip) (.exit 0)))
 (.seq (.block 1 (.seq (.seq (.dreg [[], [0], [], [1, 2], [3], [4], [5], [6], [7, 6], [8], [9, 8], [8], [10, 11, 8], [12, 8], [13, 8], [8], [15, 8], [14, 16, 8], [8, 17]] [kn 41 (.fa (.t 1) 2), kn 42 (.ld (.t 41) 1 false), kn 43 (.mv (.t 3)), kn 44 (.ia (.t 42) (.t 43) 2), kn 45 (.fa (.t 44) 0), kn 46 (.ld (.t 45) 1 false), kn 47 (.call 82 [(.t 46)]), kn 48 (.un .not (.t 47)), kn 49 (.mv (.t 48)), ko 50 49 (.fa (.t 1) 2), ko 51 49 (.ld (.t 50) 1 false), ko 52 49 (.mv (.t 3)), ko 53 49 (.ia (.t 51) (.t 52) 2), ko 54 49 (.fa (.t 53) 0), ko 55 49 (.ld (.t 54) 1 false), ko 56 49 (.fa (.t 1) 0), ko 57 49 (.ld (.t 56) 1 false), ko 58 49 (.bin .eql (.t 55) (.t 57)), kn 59 (.pick (.t 49) (.c (.d (.v (.bool true)))) (.t 58))])
 (.cond (.t 59) (.seq (.reg [kn 2 (.mv (.c (.d (.v (.bool false)))))])
 (.ret)) (.skip)))
 (.seq (.reg [kn 4 (.mv (kc 0))])
 (.block 2 (.loop c36l2)))))
 (.reg [kn 39 (.mv (.t 3)), kn 40 (.bin .add (.t 39) (kc 1)), kn 3 (.mv (.t 40))]))

def c36 : AC :=
 .seq (.reg [kn 1 (.bx (.t 0)), kn 2 (.mv (.c (.d (.v (.bool false)))))])
 (.seq (.seq (.reg [kn 7 (.fa (.t 1) 0), kn 8 (.ld (.t 7) 1 false), kn 9 (.call 82 [(.t 8)]), kn 10 (.un .not (.t 9)), kn 11 (.mv (.t 10)), ko 12 11 (.fa (.t 1) 2), ko 13 11 (.ld (.t 12) 1 false), ko 14 11 (.len false (.t 13)), ko 15 11 (.bin .gtr (.t 14) (kc 16)), kn 16 (.pick (.t 11) (.c (.d (.v (.bool true)))) (.t 15)), kn 17 (.mv (.t 16)), ko 18 17 (.fa (.t 1) 4), ko 19 17 (.ld (.t 18) 1 false), ko 20 17 (.len false (.t 19)), ko 21 17 (.bin .gtr (.t 20) (kc 64)), kn 22 (.pick (.t 17) (.c (.d (.v (.bool true)))) (.t 21)), kn 23 (.mv (.t 22)), ko 24 23 (.fa (.t 1) 3), ko 25 23 (.ld (.t 24) 1 false), ko 26 23 (.call 83 [(.t 25)]), ko 27 23 (.un .not (.t 26)), kn 28 (.pick (.t 23) (.c (.d (.v (.bool true)))) (.t 27)), kn 29 (.mv (.t 28)), ko 30 29 (.ld (.t 1) 5 true), ko 31 29 (.call 84 [(.t 30)]), ko 32 29 (.un .not (.t 31)), kn 33 (.pick (.t 29) (.c (.d (.v (.bool true)))) (.t 32))])
 (.cond (.t 33) (.seq (.reg [kn 2 (.mv (.c (.d (.v (.bool false)))))])
 (.ret)) (.skip)))
 (.seq (.seq (.reg [kn 3 (.mv (kc 0))])
 (.block 0 (.loop c36l3)))
 (.seq (.seq (.reg [kn 5 (.mv (kc 0))])
 (.block 4 (.loop c36l1)))
 (.seq (.reg [kn 2 (.mv (.c (.d (.v (.bool true)))))])
 (.ret)))))
def r36 : List RC := [.t 2]

def c37l0 : AC :=
 .seq (.seq (.reg [kn 6 (.mv (.t 4)), kn 7 (.fa (.t 1) 3), kn 8 (.ld (.t 7) 1 false), kn 9 (.len false (.t 8)), kn 10 (.bin .lss (.t 6) (.t 9))])
 (.cond (.t 10) (.skip) (.exit 0)))
 (.seq (.block 1 (.seq (.reg [kn 13 (.fa (.t 1) 3), kn 14 (.ld (.t 13) 1 false), kn 15 (.mv (.t 4)), kn 16 (.ia (.t 14) (.t 15) 10), kn 17 (.ld (.t 16) 10 true), kn 5 (.al [kz, (.d (.v (.string ⟨#[]⟩))), (.d (.v (.string ⟨#[]⟩))), kz, kz, kz, .esl, .esl, kz, kz]), ke (.st (.t 5) (.t 17) 10)])
 (.seq (.seq (.reg [kn 18 (.fa (.t 5) 0), kn 19 (.ld (.t 18) 1 false), kn 20 (.bin .neq (.t 19) (kc 9))])
 (.cond (.t 20) (.exit 1) (.skip)))
 (.seq (.seq (.reg [kn 21 (.fa (.t 5) 9), kn 22 (.ld (.t 21) 1 false), kn 23 (.bin .lss (.t 22) (kc 0)), kn 24 (.mv (.t 23)), ko 25 24 (.fa (.t 5) 1), ko 26 24 (.ld (.t 25) 1 false), ko 27 24 (.fa (.t 1) 0), ko 28 24 (.ld (.t 27) 1 false), ko 29 24 (.bin .eql (.t 26) (.t 28)), ko 30 24 (.mv (.t 29)), ky 31 30 (.fa (.t 5) 9), ky 32 30 (.ld (.t 31) 1 false), ky 33 30 (.mv (.t 3)), ky 34 30 (.bin .neq (.t 32) (.t 33)), ko 35 24 (.pick (.t 30) (.t 34) (.c (.d (.v (.bool false))))), kn 36 (.pick (.t 24) (.c (.d (.v (.bool true)))) (.t 35))])
 (.cond (.t 36) (.seq (.reg [kn 2 (.mv (.c (.d (.v (.bool false)))))])
 (.ret)) (.skip)))
 (.seq (.reg [kn 37 (.fa (.t 5) 1), kn 38 (.ld (.t 37) 1 false), kn 39 (.fa (.t 1) 0), kn 40 (.ld (.t 39) 1 false), kn 41 (.bin .eql (.t 38) (.t 40))])
 (.cond (.t 41) (.reg [kn 42 (.mv (.t 3)), kn 43 (.bin .add (.t 42) (kc 1)), kn 3 (.mv (.t 43))]) (.skip)))))))
 (.reg [kn 11 (.mv (.t 4)), kn 12 (.bin .add (.t 11) (kc 1)), kn 4 (.mv (.t 12))]))

def c37 : AC :=
 .seq (.reg [kn 1 (.bx (.t 0)), kn 2 (.mv (.c (.d (.v (.bool false)))))])
 (.seq (.reg [kn 3 (.mv (kc 0))])
 (.seq (.seq (.reg [kn 4 (.mv (kc 7))])
 (.block 0 (.loop c37l0)))
 (.seq (.reg [kn 2 (.mv (.c (.d (.v (.bool true)))))])
 (.ret))))
def r37 : List RC := [.t 2]

def c38 : AC :=
 .seq (.reg [kn 2 (.bx (.t 0)), kn 3 (.bx (.t 1)), kn 4 (.mv (.c (.d (.v (.bool false)))))])
 (.seq (.reg [kn 5 (.fa (.t 2) 0), kn 6 (.ld (.t 5) 1 false), kn 7 (.fa (.t 3) 0), kn 8 (.ld (.t 7) 1 false), kn 9 (.bin .eql (.t 6) (.t 8)), kn 10 (.mv (.t 9)), ky 11 10 (.fa (.t 2) 1), ky 12 10 (.ld (.t 11) 1 false), ky 13 10 (.fa (.t 3) 1), ky 14 10 (.ld (.t 13) 1 false), ky 15 10 (.bin .eql (.t 12) (.t 14)), kn 16 (.pick (.t 10) (.t 15) (.c (.d (.v (.bool false))))), kn 17 (.mv (.t 16)), ky 18 17 (.fa (.t 2) 2), ky 19 17 (.ld (.t 18) 1 false), ky 20 17 (.fa (.t 3) 2), ky 21 17 (.ld (.t 20) 1 false), ky 22 17 (.bin .eql (.t 19) (.t 21)), kn 23 (.pick (.t 17) (.t 22) (.c (.d (.v (.bool false))))), kn 4 (.mv (.t 23))])
 (.ret))
def r38 : List RC := [.t 4]

def c41 : AC :=
 .seq (.reg [kn 2 (.mv (.c .esl))])
 (.seq (.seq (.reg [kn 3 (.mv (.t 0)), kn 4 (.isn false false (.t 3))])
 (.cond (.t 4) (.seq (.reg [kn 2 (.mv (.c .esl))])
 (.ret)) (.skip)))
 (.seq (.reg [kn 5 (.bs .im 65 2 []), kn 6 (.mv (.t 0)), kn 7 (.app .gr 65 2 24 (.t 5) (.t 6)), kn 2 (.mv (.t 7))])
 (.ret)))
def r41 : List RC := [.t 2]

def c42l0 : AC :=
 .seq (.reg [kn 119 (.bin .lss (.t 118) (.t 117))])
 (.seq (.cond (.t 119) (.skip) (.exit 2))
 (.seq (.block 3 (.seq (.reg [kn 120 (.mv (.t 118)), kn 8 (.mv (.t 120))])
 (.dreg [[], [0], [], [], [], [4], [], [5, 6], [7], [8], [3, 9], [1, 2, 0, 1, 2, 3, 4, 5, 6, 7, 8, 9, 10], [11, 0, 1, 2, 3, 4, 5, 6, 7, 8, 9, 10], [12, 10, 10, 0, 1, 2, 3, 4, 5, 6, 7, 8, 9, 10]] [kn 121 (.fa (.t 6) 7), kn 122 (.ld (.t 121) 1 false), kn 123 (.mv (.t 8)), kn 124 (.mv (.t 0)), kn 125 (.fa (.t 6) 7), kn 126 (.ld (.t 125) 1 false), kn 127 (.mv (.t 8)), kn 128 (.ia (.t 126) (.t 127) 2), kn 129 (.fa (.t 128) 1), kn 130 (.ld (.t 129) 1 false), kn 131 (.call 42 [(.t 124), (.t 130)]), kn 132 (.ia (.t 122) (.t 123) 2), kn 133 (.fa (.t 132) 1), ke (.st (.t 133) (.t 131) 1)])))
 (.reg [kn 134 (.bin .add (.t 118) (kc 1)), kn 118 (.mv (.t 134))])))

def c42l1 : AC :=
 .seq (.reg [kn 95 (.bin .lss (.t 94) (.t 93))])
 (.seq (.cond (.t 95) (.skip) (.exit 0))
 (.seq (.block 1 (.seq (.reg [kn 96 (.mv (.t 94)), kn 7 (.mv (.t 96))])
 (.dreg [[], [0], [], [], [], [4], [], [5, 6], [7], [8], [3, 9], [1, 2, 0, 1, 2, 3, 4, 5, 6, 7, 8, 9, 10], [11, 0, 1, 2, 3, 4, 5, 6, 7, 8, 9, 10], [12, 10, 10, 0, 1, 2, 3, 4, 5, 6, 7, 8, 9, 10]] [kn 97 (.fa (.t 6) 6), kn 98 (.ld (.t 97) 1 false), kn 99 (.mv (.t 7)), kn 100 (.mv (.t 0)), kn 101 (.fa (.t 6) 6), kn 102 (.ld (.t 101) 1 false), kn 103 (.mv (.t 7)), kn 104 (.ia (.t 102) (.t 103) 3), kn 105 (.fa (.t 104) 2), kn 106 (.ld (.t 105) 1 false), kn 107 (.call 42 [(.t 100), (.t 106)]), kn 108 (.ia (.t 98) (.t 99) 3), kn 109 (.fa (.t 108) 2), ke (.st (.t 109) (.t 107) 1)])))
 (.reg [kn 110 (.bin .add (.t 94) (kc 1)), kn 94 (.mv (.t 110))])))

def c42 : AC :=
 .seq (.reg [kn 4 (.mv (kc 0))])
 (.seq (.seq (.reg [kn 9 (.mv (.t 1)), kn 10 (.bin .leq (.t 9) (kc 6))])
 (.cond (.t 10) (.seq (.reg [kn 11 (.mv (.t 1)), kn 4 (.mv (.t 11))])
 (.ret)) (.skip)))
 (.seq (.seq (.reg [kn 12 (.mv (.t 0)), kn 13 (.mv (.t 1)), kn 14 (.nc (.t 12)), kn 15 (.fa (.t 14) 1), kn 16 (.iar (.t 15) (.t 13) 256 1), kn 17 (.ld (.t 16) 1 false), kn 18 (.bin .gtr (.t 17) (kc 0))])
 (.cond (.t 18) (.seq (.reg [kn 19 (.mv (.t 0)), kn 20 (.mv (.t 1)), kn 21 (.nc (.t 19)), kn 22 (.fa (.t 21) 1), kn 23 (.iar (.t 22) (.t 20) 256 1), kn 24 (.ld (.t 23) 1 false), kn 4 (.mv (.t 24))])
 (.ret)) (.skip)))
 (.seq (.reg [kn 25 (.mv (.t 0)), kn 26 (.nc (.t 25)), kn 27 (.fa (.t 26) 257), kn 28 (.ld (.t 27) 1 false), kn 29 (.len false (.t 28)), kn 5 (.mv (.t 29))])
 (.seq (.reg [kn 30 (.mv (.t 0)), kn 31 (.mv (.t 1)), kn 32 (.mv (.t 5)), kn 33 (.nc (.t 30)), kn 34 (.fa (.t 33) 1), kn 35 (.iar (.t 34) (.t 31) 256 1), ke (.st (.t 35) (.t 32) 1)])
 (.seq (.reg [kn 36 (.mv (.t 0)), kn 37 (.mv (.t 0)), kn 38 (.nc (.t 37)), kn 39 (.fa (.t 38) 257), kn 40 (.ld (.t 39) 1 false), kn 41 (.bd [kz, (.d (.v (.string ⟨#[]⟩))), (.d (.v (.string ⟨#[]⟩))), kz, kz, kz, .esl, .esl, kz, kz] []), kn 42 (.bs .im 49 10 [(.t 41)]), kn 43 (.app .gr 49 10 128 (.t 40) (.t 42)), kn 44 (.nc (.t 36)), kn 45 (.fa (.t 44) 257), ke (.st (.t 45) (.t 43) 1)])
 (.seq (.reg [kn 46 (.mv (.t 0)), kn 47 (.nc (.t 46)), kn 48 (.fa (.t 47) 0), kn 49 (.ld (.t 48) 1 false), kn 50 (.mv (.t 1)), kn 51 (.ia (.t 49) (.t 50) 10), kn 52 (.ld (.t 51) 10 true), kn 6 (.al [kz, (.d (.v (.string ⟨#[]⟩))), (.d (.v (.string ⟨#[]⟩))), kz, kz, kz, .esl, .esl, kz, kz]), ke (.st (.t 6) (.t 52) 10)])
 (.seq (.seq (.dreg [[], [0], [1], [2], [3], [4, 3], [3], [6, 3], [7, 3], [8, 3], [5, 9, 3], [3, 10]] [kn 53 (.fa (.t 6) 0), kn 54 (.ld (.t 53) 1 false), kn 55 (.bin .eql (.t 54) (kc 9)), kn 56 (.mv (.t 55)), ky 57 56 (.fa (.t 6) 1), ky 58 56 (.ld (.t 57) 1 false), ky 59 56 (.mv (.t 0)), ky 60 56 (.nc (.t 59)), ky 61 56 (.fa (.t 60) 258), ky 62 56 (.ld (.t 61) 1 false), ky 63 56 (.bin .eql (.t 58) (.t 62)), kn 64 (.pick (.t 56) (.t 63) (.c (.d (.v (.bool false)))))])
 (.cond (.t 64) (.seq (.reg [kn 65 (.mv (.t 0)), kn 66 (.nc (.t 65)), kn 67 (.fa (.t 66) 259), kn 68 (.ld (.t 67) 1 false), kn 69 (.fa (.t 6) 9), ke (.st (.t 69) (.t 68) 1)])
 (.reg [kn 70 (.mv (.t 0)), kn 71 (.nc (.t 70)), kn 72 (.fa (.t 71) 259), kn 73 (.ld (.t 72) 1 false), kn 74 (.bin .add (.t 73) (kc 1)), kn 75 (.nc (.t 70)), kn 76 (.fa (.t 75) 259), ke (.st (.t 76) (.t 74) 1)])) (.skip)))
 (.seq (.reg [kn 77 (.mv (.t 0)), kn 78 (.fa (.t 6) 4), kn 79 (.ld (.t 78) 1 false), kn 80 (.call 42 [(.t 77), (.t 79)]), kn 81 (.fa (.t 6) 4), ke (.st (.t 81) (.t 80) 1)])
 (.seq (.reg [kn 82 (.mv (.t 0)), kn 83 (.fa (.t 6) 5), kn 84 (.ld (.t 83) 1 false), kn 85 (.call 42 [(.t 82), (.t 84)]), kn 86 (.fa (.t 6) 5), ke (.st (.t 86) (.t 85) 1)])
 (.seq (.reg [kn 87 (.fa (.t 6) 6), kn 88 (.ld (.t 87) 1 false), kn 89 (.call 87 [(.t 88)]), kn 90 (.fa (.t 6) 6), ke (.st (.t 90) (.t 89) 1)])
 (.seq (.seq (.reg [kn 91 (.fa (.t 6) 6), kn 92 (.ld (.t 91) 1 false), kn 93 (.len false (.t 92)), kn 94 (.mv (kc 0))])
 (.block 0 (.loop c42l1)))
 (.seq (.reg [kn 111 (.fa (.t 6) 7), kn 112 (.ld (.t 111) 1 false), kn 113 (.call 88 [(.t 112)]), kn 114 (.fa (.t 6) 7), ke (.st (.t 114) (.t 113) 1)])
 (.seq (.seq (.reg [kn 115 (.fa (.t 6) 7), kn 116 (.ld (.t 115) 1 false), kn 117 (.len false (.t 116)), kn 118 (.mv (kc 0))])
 (.block 2 (.loop c42l0)))
 (.seq (.reg [kn 135 (.mv (.t 0)), kn 136 (.fa (.t 6) 8), kn 137 (.ld (.t 136) 1 false), kn 138 (.call 42 [(.t 135), (.t 137)]), kn 139 (.fa (.t 6) 8), ke (.st (.t 139) (.t 138) 1)])
 (.seq (.dreg [[], [0], [1], [2], [], [], [3, 4, 0, 1, 2, 3, 4, 5], [6, 5, 0, 1, 2, 3, 4, 5]] [kn 140 (.mv (.t 0)), kn 141 (.nc (.t 140)), kn 142 (.fa (.t 141) 257), kn 143 (.ld (.t 142) 1 false), kn 144 (.mv (.t 5)), kn 145 (.ld (.t 6) 10 true), kn 146 (.ia (.t 143) (.t 144) 10), ke (.st (.t 146) (.t 145) 10)])
 (.seq (.reg [kn 147 (.mv (.t 5)), kn 4 (.mv (.t 147))])
 (.ret)))))))))))))))))
def r42 : List RC := [.t 4]

def c45l0 : AC :=
 .seq (.reg [kn 14 (.bin .lss (.t 13) (.t 12))])
 (.seq (.cond (.t 14) (.skip) (.exit 0))
 (.seq (.block 1 (.seq (.reg [kn 15 (.mv (.t 13)), kn 5 (.mv (.t 15))])
 (.seq (.dreg [[], [], [0, 1], [2], [], [], [4, 5], [6], [3, 7]] [kn 16 (.mv (.t 0)), kn 17 (.mv (.t 5)), kn 18 (.ia (.t 16) (.t 17) 2), kn 19 (.ld (.t 18) 2 true), kn 20 (.mv (.t 1)), kn 21 (.mv (.t 5)), kn 22 (.ia (.t 20) (.t 21) 2), kn 23 (.ld (.t 22) 2 true), kn 24 (.eqg ⟨true, [.s, .i .u32]⟩ true (.t 19) (.t 23))])
 (.cond (.t 24) (.seq (.reg [kn 4 (.mv (.c (.d (.v (.bool false)))))])
 (.ret)) (.skip)))))
 (.reg [kn 25 (.bin .add (.t 13) (kc 1)), kn 13 (.mv (.t 25))])))

def c45 : AC :=
 .seq (.reg [kn 4 (.mv (.c (.d (.v (.bool false)))))])
 (.seq (.seq (.reg [kn 6 (.mv (.t 0)), kn 7 (.len false (.t 6)), kn 8 (.mv (.t 1)), kn 9 (.len false (.t 8)), kn 10 (.bin .neq (.t 7) (.t 9))])
 (.cond (.t 10) (.seq (.reg [kn 4 (.mv (.c (.d (.v (.bool false)))))])
 (.ret)) (.skip)))
 (.seq (.seq (.reg [kn 11 (.mv (.t 0)), kn 12 (.len false (.t 11)), kn 13 (.mv (kc 0))])
 (.block 0 (.loop c45l0)))
 (.seq (.reg [kn 4 (.mv (.c (.d (.v (.bool true)))))])
 (.ret))))
def r45 : List RC := [.t 4]

def c46l0 : AC :=
 .seq (.reg [kn 14 (.bin .lss (.t 13) (.t 12))])
 (.seq (.cond (.t 14) (.skip) (.exit 0))
 (.seq (.block 1 (.seq (.reg [kn 15 (.mv (.t 13)), kn 5 (.mv (.t 15))])
 (.seq (.dreg [[], [], [0, 1], [2], [], [], [4, 5], [6], [3, 7]] [kn 16 (.mv (.t 0)), kn 17 (.mv (.t 5)), kn 18 (.ia (.t 16) (.t 17) 7), kn 19 (.ld (.t 18) 7 true), kn 20 (.mv (.t 1)), kn 21 (.mv (.t 5)), kn 22 (.ia (.t 20) (.t 21) 7), kn 23 (.ld (.t 22) 7 true), kn 24 (.eqg ⟨true, [.i .i64, .s, .i .i64, .i .i64, .i .i64, .s, .i .i64]⟩ true (.t 19) (.t 23))])
 (.cond (.t 24) (.seq (.reg [kn 4 (.mv (.c (.d (.v (.bool false)))))])
 (.ret)) (.skip)))))
 (.reg [kn 25 (.bin .add (.t 13) (kc 1)), kn 13 (.mv (.t 25))])))

def c46 : AC :=
 .seq (.reg [kn 4 (.mv (.c (.d (.v (.bool false)))))])
 (.seq (.seq (.reg [kn 6 (.mv (.t 0)), kn 7 (.len false (.t 6)), kn 8 (.mv (.t 1)), kn 9 (.len false (.t 8)), kn 10 (.bin .neq (.t 7) (.t 9))])
 (.cond (.t 10) (.seq (.reg [kn 4 (.mv (.c (.d (.v (.bool false)))))])
 (.ret)) (.skip)))
 (.seq (.seq (.reg [kn 11 (.mv (.t 0)), kn 12 (.len false (.t 11)), kn 13 (.mv (kc 0))])
 (.block 0 (.loop c46l0)))
 (.seq (.reg [kn 4 (.mv (.c (.d (.v (.bool true)))))])
 (.ret))))
def r46 : List RC := [.t 4]

def c47l0 : AC :=
 .seq (.reg [kn 18 (.bin .lss (.t 17) (.t 16))])
 (.seq (.cond (.t 18) (.skip) (.exit 0))
 (.seq (.block 1 (.seq (.reg [kn 19 (.mv (.t 17)), kn 20 (.ia (.t 15) (.t 17) 10), kn 21 (.ld (.t 20) 10 true), kn 8 (.al [kz, (.d (.v (.string ⟨#[]⟩))), (.d (.v (.string ⟨#[]⟩))), kz, kz, kz, .esl, .esl, kz, kz]), kn 7 (.mv (.t 19)), ke (.st (.t 8) (.t 21) 10)])
 (.seq (.reg [kn 22 (.mv (.t 1)), kn 23 (.mv (.t 7)), kn 24 (.ia (.t 22) (.t 23) 10), kn 25 (.ld (.t 24) 10 true), kn 9 (.al [kz, (.d (.v (.string ⟨#[]⟩))), (.d (.v (.string ⟨#[]⟩))), kz, kz, kz, .esl, .esl, kz, kz]), ke (.st (.t 9) (.t 25) 10)])
 (.seq (.reg [kn 26 (.mv (.t 2)), kn 27 (.ld (.t 8) 10 true), kn 28 (.ld (.t 9) 10 true), kn 29 (.callv (.t 26) [(.t 27), (.t 28)]), kn 30 (.un .not (.t 29))])
 (.cond (.t 30) (.seq (.reg [kn 6 (.mv (.c (.d (.v (.bool false)))))])
 (.ret)) (.skip))))))
 (.reg [kn 31 (.bin .add (.t 17) (kc 1)), kn 17 (.mv (.t 31))])))

def c47 : AC :=
 .seq (.reg [kn 6 (.mv (.c (.d (.v (.bool false)))))])
 (.seq (.seq (.reg [kn 10 (.mv (.t 0)), kn 11 (.len false (.t 10)), kn 12 (.mv (.t 1)), kn 13 (.len false (.t 12)), kn 14 (.bin .neq (.t 11) (.t 13))])
 (.cond (.t 14) (.seq (.reg [kn 6 (.mv (.c (.d (.v (.bool false)))))])
 (.ret)) (.skip)))
 (.seq (.seq (.reg [kn 15 (.mv (.t 0)), kn 16 (.len false (.t 15)), kn 17 (.mv (kc 0))])
 (.block 0 (.loop c47l0)))
 (.seq (.reg [kn 6 (.mv (.c (.d (.v (.bool true)))))])
 (.ret))))
def r47 : List RC := [.t 6]

def c48 : AC :=
 .seq (.reg [kn 2 (.bx (.t 0)), kn 3 (.bx (.t 1)), kn 4 (.mv (.c (.d (.v (.bool false)))))])
 (.seq (.reg [kn 5 (.fa (.t 2) 0), kn 6 (.ld (.t 5) 1 false), kn 7 (.fa (.t 3) 0), kn 8 (.ld (.t 7) 1 false), kn 9 (.bin .eql (.t 6) (.t 8)), kn 10 (.mv (.t 9)), ky 11 10 (.fa (.t 2) 1), ky 12 10 (.ld (.t 11) 1 false), ky 13 10 (.fa (.t 3) 1), ky 14 10 (.ld (.t 13) 1 false), ky 15 10 (.bin .eql (.t 12) (.t 14)), kn 16 (.pick (.t 10) (.t 15) (.c (.d (.v (.bool false))))), kn 17 (.mv (.t 16)), ky 18 17 (.fa (.t 2) 2), ky 19 17 (.ld (.t 18) 1 false), ky 20 17 (.fa (.t 3) 2), ky 21 17 (.ld (.t 20) 1 false), ky 22 17 (.bin .eql (.t 19) (.t 21)), kn 23 (.pick (.t 17) (.t 22) (.c (.d (.v (.bool false))))), kn 24 (.mv (.t 23)), ky 25 24 (.fa (.t 2) 3), ky 26 24 (.ld (.t 25) 1 false), ky 27 24 (.fa (.t 3) 3), ky 28 24 (.ld (.t 27) 1 false), ky 29 24 (.bin .eql (.t 26) (.t 28)), kn 30 (.pick (.t 24) (.t 29) (.c (.d (.v (.bool false))))), kn 31 (.mv (.t 30)), ky 32 31 (.fa (.t 2) 4), ky 33 31 (.ld (.t 32) 1 false), ky 34 31 (.fa (.t 3) 4), ky 35 31 (.ld (.t 34) 1 false), ky 36 31 (.bin .eql (.t 33) (.t 35)), kn 37 (.pick (.t 31) (.t 36) (.c (.d (.v (.bool false))))), kn 38 (.mv (.t 37)), ky 39 38 (.fa (.t 2) 5), ky 40 38 (.ld (.t 39) 1 false), ky 41 38 (.fa (.t 3) 5), ky 42 38 (.ld (.t 41) 1 false), ky 43 38 (.bin .eql (.t 40) (.t 42)), kn 44 (.pick (.t 38) (.t 43) (.c (.d (.v (.bool false))))), kn 45 (.mv (.t 44)), ky 46 45 (.fa (.t 2) 8), ky 47 45 (.ld (.t 46) 1 false), ky 48 45 (.fa (.t 3) 8), ky 49 45 (.ld (.t 48) 1 false), ky 50 45 (.bin .eql (.t 47) (.t 49)), kn 51 (.pick (.t 45) (.t 50) (.c (.d (.v (.bool false))))), kn 52 (.mv (.t 51)), ky 53 52 (.fa (.t 2) 9), ky 54 52 (.ld (.t 53) 1 false), ky 55 52 (.fa (.t 3) 9), ky 56 52 (.ld (.t 55) 1 false), ky 57 52 (.bin .eql (.t 54) (.t 56)), kn 58 (.pick (.t 52) (.t 57) (.c (.d (.v (.bool false))))), kn 59 (.mv (.t 58)), ky 60 59 (.fa (.t 2) 6), ky 61 59 (.ld (.t 60) 1 false), ky 62 59 (.fa (.t 3) 6), ky 63 59 (.ld (.t 62) 1 false), ky 64 59 (.call 49 [(.t 61), (.t 63)]), kn 65 (.pick (.t 59) (.t 64) (.c (.d (.v (.bool false))))), kn 66 (.mv (.t 65)), ky 67 66 (.fa (.t 2) 7), ky 68 66 (.ld (.t 67) 1 false), ky 69 66 (.fa (.t 3) 7), ky 70 66 (.ld (.t 69) 1 false), ky 71 66 (.call 50 [(.t 68), (.t 70)]), kn 72 (.pick (.t 66) (.t 71) (.c (.d (.v (.bool false))))), kn 4 (.mv (.t 72))])
 (.ret))
def r48 : List RC := [.t 4]

def c49l0 : AC :=
 .seq (.reg [kn 14 (.bin .lss (.t 13) (.t 12))])
 (.seq (.cond (.t 14) (.skip) (.exit 0))
 (.seq (.block 1 (.seq (.reg [kn 15 (.mv (.t 13)), kn 5 (.mv (.t 15))])
 (.seq (.dreg [[], [], [0, 1], [2], [], [], [4, 5], [6], [3, 7]] [kn 16 (.mv (.t 0)), kn 17 (.mv (.t 5)), kn 18 (.ia (.t 16) (.t 17) 3), kn 19 (.ld (.t 18) 3 true), kn 20 (.mv (.t 1)), kn 21 (.mv (.t 5)), kn 22 (.ia (.t 20) (.t 21) 3), kn 23 (.ld (.t 22) 3 true), kn 24 (.eqg ⟨true, [.s, .b, .i .i64]⟩ true (.t 19) (.t 23))])
 (.cond (.t 24) (.seq (.reg [kn 4 (.mv (.c (.d (.v (.bool false)))))])
 (.ret)) (.skip)))))
 (.reg [kn 25 (.bin .add (.t 13) (kc 1)), kn 13 (.mv (.t 25))])))

def c49 : AC :=
 .seq (.reg [kn 4 (.mv (.c (.d (.v (.bool false)))))])
 (.seq (.seq (.reg [kn 6 (.mv (.t 0)), kn 7 (.len false (.t 6)), kn 8 (.mv (.t 1)), kn 9 (.len false (.t 8)), kn 10 (.bin .neq (.t 7) (.t 9))])
 (.cond (.t 10) (.seq (.reg [kn 4 (.mv (.c (.d (.v (.bool false)))))])
 (.ret)) (.skip)))
 (.seq (.seq (.reg [kn 11 (.mv (.t 0)), kn 12 (.len false (.t 11)), kn 13 (.mv (kc 0))])
 (.block 0 (.loop c49l0)))
 (.seq (.reg [kn 4 (.mv (.c (.d (.v (.bool true)))))])
 (.ret))))
def r49 : List RC := [.t 4]

def c50l0 : AC :=
 .seq (.reg [kn 14 (.bin .lss (.t 13) (.t 12))])
 (.seq (.cond (.t 14) (.skip) (.exit 0))
 (.seq (.block 1 (.seq (.reg [kn 15 (.mv (.t 13)), kn 5 (.mv (.t 15))])
 (.seq (.dreg [[], [], [0, 1], [2], [], [], [4, 5], [6], [3, 7]] [kn 16 (.mv (.t 0)), kn 17 (.mv (.t 5)), kn 18 (.ia (.t 16) (.t 17) 2), kn 19 (.ld (.t 18) 2 true), kn 20 (.mv (.t 1)), kn 21 (.mv (.t 5)), kn 22 (.ia (.t 20) (.t 21) 2), kn 23 (.ld (.t 22) 2 true), kn 24 (.eqg ⟨true, [.b, .i .i64]⟩ true (.t 19) (.t 23))])
 (.cond (.t 24) (.seq (.reg [kn 4 (.mv (.c (.d (.v (.bool false)))))])
 (.ret)) (.skip)))))
 (.reg [kn 25 (.bin .add (.t 13) (kc 1)), kn 13 (.mv (.t 25))])))

def c50 : AC :=
 .seq (.reg [kn 4 (.mv (.c (.d (.v (.bool false)))))])
 (.seq (.seq (.reg [kn 6 (.mv (.t 0)), kn 7 (.len false (.t 6)), kn 8 (.mv (.t 1)), kn 9 (.len false (.t 8)), kn 10 (.bin .neq (.t 7) (.t 9))])
 (.cond (.t 10) (.seq (.reg [kn 4 (.mv (.c (.d (.v (.bool false)))))])
 (.ret)) (.skip)))
 (.seq (.seq (.reg [kn 11 (.mv (.t 0)), kn 12 (.len false (.t 11)), kn 13 (.mv (kc 0))])
 (.block 0 (.loop c50l0)))
 (.seq (.reg [kn 4 (.mv (.c (.d (.v (.bool true)))))])
 (.ret))))
def r50 : List RC := [.t 4]

def c79 : AC :=
 .seq (.reg [kn 2 (.mv (.c (.d (.v (.bool false)))))])
 (.seq (.seq (.reg [kn 3 (.mv (.t 0)), kn 4 (.bin .eql (.t 3) (.c (.d (.v (.string ⟨#[]⟩))))), kn 5 (.mv (.t 4)), ko 6 5 (.mv (.t 0)), ko 7 5 (.len true (.t 6)), ko 8 5 (.bin .gtr (.t 7) (kc 24)), kn 9 (.pick (.t 5) (.c (.d (.v (.bool true)))) (.t 8)), kn 10 (.mv (.t 9)), ko 11 10 (.mv (.t 0)), ko 12 10 (.ix (.t 11) (kc 0)), ko 13 10 (.bin .leq (.t 12) (.c (.d (.v (.int .u8 57))))), kn 14 (.pick (.t 10) (.c (.d (.v (.bool true)))) (.t 13))])
 (.cond (.t 14) (.seq (.reg [kn 2 (.mv (.c (.d (.v (.bool false)))))])
 (.ret)) (.skip)))
 (.seq (.reg [kn 15 (.mv (.t 0)), kn 16 (.s2b .im 0 (.t 15)), kn 17 (.call 104 [(.t 16), (.c (.fn 105 []))]), kn 18 (.un .not (.t 17)), kn 2 (.mv (.t 18))])
 (.ret)))
def r79 : List RC := [.t 2]

def c81 : AC :=
 .seq (.reg [kn 2 (.bx (.t 0)), kn 3 (.bx (.t 1)), kn 4 (.mv (.c (.d (.v (.bool false)))))])
 (.seq (.seq (.reg [kn 6 (.fa (.t 3) 1), kn 7 (.ld (.t 6) 1 false), kn 8 (.call 79 [(.t 7)]), kn 9 (.un .not (.t 8)), kn 10 (.mv (.t 9)), ko 11 10 (.fa (.t 3) 2), ko 12 10 (.ld (.t 11) 1 false), ko 13 10 (.bin .lss (.t 12) (kc 0)), kn 14 (.pick (.t 10) (.c (.d (.v (.bool true)))) (.t 13)), kn 15 (.mv (.t 14)), ko 16 15 (.fa (.t 3) 2), ko 17 15 (.ld (.t 16) 1 false), ko 18 15 (.fa (.t 2) 3), ko 19 15 (.ld (.t 18) 1 false), ko 20 15 (.len false (.t 19)), ko 21 15 (.bin .geq (.t 17) (.t 20)), kn 22 (.pick (.t 15) (.c (.d (.v (.bool true)))) (.t 21)), kn 23 (.mv (.t 22)), ko 24 23 (.fa (.t 3) 0), ko 25 23 (.ld (.t 24) 1 false), ko 26 23 (.bin .neq (.t 25) (kc 1)), ko 27 23 (.mv (.t 26)), ky 28 27 (.fa (.t 3) 3), ky 29 27 (.ld (.t 28) 3 true), ky 30 27 (.bd [kz, kz, (.d (.v (.string ⟨#[]⟩)))] []), ky 31 27 (.eqg ⟨true, [.i .i64, .i .i64, .s]⟩ true (.t 29) (.t 30)), ko 32 23 (.pick (.t 27) (.t 31) (.c (.d (.v (.bool false))))), kn 33 (.pick (.t 23) (.c (.d (.v (.bool true)))) (.t 32))])
 (.cond (.t 33) (.seq (.reg [kn 4 (.mv (.c (.d (.v (.bool false)))))])
 (.ret)) (.skip)))
 (.seq (.reg [kn 34 (.fa (.t 2) 3), kn 35 (.ld (.t 34) 1 false), kn 36 (.fa (.t 3) 2), kn 37 (.ld (.t 36) 1 false), kn 38 (.ia (.t 35) (.t 37) 10), kn 39 (.fa (.t 38) 0), kn 40 (.ld (.t 39) 1 false), kn 5 (.mv (.t 40))])
 (.seq (.seq (.reg [kn 41 (.fa (.t 3) 0), kn 42 (.ld (.t 41) 1 false)])
 (.block 0 (.seq (.reg [kn 44 (.bin .eql (.t 42) (kc 1)), kn 43 (.mv (.t 44))])
 (.cond (.t 43) (.seq (.reg [kn 45 (.fa (.t 3) 3), kn 46 (.ld (.t 45) 3 true), kn 47 (.call 107 [(.t 46)]), kn 48 (.mv (.t 47)), ky 49 48 (.fa (.t 3) 2), ky 50 48 (.ld (.t 49) 1 false), ky 51 48 (.fa (.t 3) 3), ky 52 48 (.fa (.t 51) 0), ky 53 48 (.ld (.t 52) 1 false), ky 54 48 (.bin .eql (.t 50) (.t 53)), kn 55 (.pick (.t 48) (.t 54) (.c (.d (.v (.bool false))))), kn 56 (.mv (.t 55)), ky 57 56 (.fa (.t 3) 6), ky 58 56 (.ld (.t 57) 1 false), ky 59 56 (.bin .eql (.t 58) (kc 0)), kn 60 (.pick (.t 56) (.t 59) (.c (.d (.v (.bool false))))), kn 4 (.mv (.t 60))])
 (.ret)) (.seq (.reg [kn 62 (.bin .eql (.t 42) (kc 2)), kn 61 (.mv (.t 62))])
 (.cond (.t 61) (.seq (.reg [kn 63 (.fa (.t 3) 6), kn 64 (.ld (.t 63) 1 false), kn 65 (.bin .eql (.t 64) (kc 0)), kn 66 (.mv (.t 65)), ky 67 66 (.fa (.t 3) 2), ky 68 66 (.ld (.t 67) 1 false), ky 69 66 (.bin .leq (kc 1) (.t 68)), ky 70 66 (.mv (.t 69)), ky 71 70 (.fa (.t 3) 2), ky 72 70 (.ld (.t 71) 1 false), ky 73 70 (.bin .leq (.t 72) (kc 4)), ky 74 66 (.pick (.t 70) (.t 73) (.c (.d (.v (.bool false))))), ky 75 66 (.mv (.t 74)), ko 76 75 (.fa (.t 3) 2), ko 77 75 (.ld (.t 76) 1 false), ko 78 75 (.bin .gtr (.t 77) (kc 6)), ky 79 66 (.pick (.t 75) (.c (.d (.v (.bool true)))) (.t 78)), kn 80 (.pick (.t 66) (.t 79) (.c (.d (.v (.bool false))))), kn 4 (.mv (.t 80))])
 (.ret)) (.seq (.reg [kn 82 (.bin .eql (.t 42) (kc 3)), kn 81 (.mv (.t 82))])
 (.cond (.t 81) (.seq (.reg [kn 83 (.mv (.t 5)), kn 84 (.bin .neq (.t 83) (kc 0)), kn 85 (.mv (.t 84)), ky 86 85 (.mv (.t 5)), ky 87 85 (.bin .neq (.t 86) (kc 5)), kn 88 (.pick (.t 85) (.t 87) (.c (.d (.v (.bool false))))), kn 89 (.mv (.t 88)), ky 90 89 (.mv (.t 5)), ky 91 89 (.bin .neq (.t 90) (kc 6)), kn 92 (.pick (.t 89) (.t 91) (.c (.d (.v (.bool false))))), kn 93 (.mv (.t 92)), ky 94 93 (.mv (.t 5)), ky 95 93 (.bin .neq (.t 94) (kc 8)), kn 96 (.pick (.t 93) (.t 95) (.c (.d (.v (.bool false))))), kn 97 (.mv (.t 96)), ky 98 97 (.fa (.t 3) 6), ky 99 97 (.ld (.t 98) 1 false), ky 100 97 (.bin .leq (kc 0) (.t 99)), kn 101 (.pick (.t 97) (.t 100) (.c (.d (.v (.bool false))))), kn 102 (.mv (.t 101)), ky 103 102 (.fa (.t 3) 6), ky 104 102 (.ld (.t 103) 1 false), ky 105 102 (.bin .lss (.t 104) (kc 64)), kn 106 (.pick (.t 102) (.t 105) (.c (.d (.v (.bool false))))), kn 4 (.mv (.t 106))])
 (.ret)) (.seq (.reg [kn 108 (.bin .eql (.t 42) (kc 4)), kn 107 (.mv (.t 108))])
 (.cond (.t 107) (.seq (.reg [kn 109 (.mv (.t 5)), kn 110 (.bin .eql (.t 109) (kc 11)), kn 111 (.mv (.t 110)), ky 112 111 (.fa (.t 3) 6), ky 113 111 (.ld (.t 112) 1 false), ky 114 111 (.bin .leq (kc 1) (.t 113)), kn 115 (.pick (.t 111) (.t 114) (.c (.d (.v (.bool false))))), kn 116 (.mv (.t 115)), ky 117 116 (.fa (.t 3) 6), ky 118 116 (.ld (.t 117) 1 false), ky 119 116 (.bin .lss (.t 118) (kc 64)), kn 120 (.pick (.t 116) (.t 119) (.c (.d (.v (.bool false))))), kn 4 (.mv (.t 120))])
 (.ret)) (.skip)))))))))))
 (.seq (.reg [kn 4 (.mv (.c (.d (.v (.bool false)))))])
 (.ret)))))
def r81 : List RC := [.t 4]

def c82 : AC :=
 .seq (.reg [kn 2 (.mv (.c (.d (.v (.bool false)))))])
 (.seq (.reg [kn 3 (.mv (.t 0)), kn 4 (.call 108 [(.t 3)]), kn 2 (.mv (.t 4))])
 (.ret))
def r82 : List RC := [.t 2]

def c84l0 : AC :=
 .seq (.seq (.reg [kn 29 (.mv (.t 5)), kn 30 (.mv (.t 3)), kn 31 (.bin .lss (.t 29) (.t 30))])
 (.cond (.t 31) (.skip) (.exit 2)))
 (.seq (.block 3 (.seq (.reg [kn 34 (.fa (.t 1) 3), kn 35 (.ld (.t 34) 1 false), kn 36 (.mv (.t 5)), kn 37 (.ia (.t 35) (.t 36) 10), kn 38 (.ld (.t 37) 10 true), kn 6 (.al [kz, (.d (.v (.string ⟨#[]⟩))), (.d (.v (.string ⟨#[]⟩))), kz, kz, kz, .esl, .esl, kz, kz]), ke (.st (.t 6) (.t 38) 10)])
 (.seq (.reg [kn 39 (.fa (.t 4) 2), kn 40 (.ld (.t 39) 1 false), kn 41 (.bin .neq (.t 40) (.c (.d (.v (.string ⟨#[]⟩))))), kn 42 (.mv (.t 41)), ky 43 42 (.fa (.t 4) 1), ky 44 42 (.ld (.t 43) 1 false), ky 45 42 (.fa (.t 6) 1), ky 46 42 (.ld (.t 45) 1 false), ky 47 42 (.bin .eql (.t 44) (.t 46)), kn 48 (.pick (.t 42) (.t 47) (.c (.d (.v (.bool false))))), kn 49 (.mv (.t 48)), ky 50 49 (.fa (.t 4) 2), ky 51 49 (.ld (.t 50) 1 false), ky 52 49 (.fa (.t 6) 2), ky 53 49 (.ld (.t 52) 1 false), ky 54 49 (.bin .eql (.t 51) (.t 53)), kn 55 (.pick (.t 49) (.t 54) (.c (.d (.v (.bool false))))), kn 56 (.mv (.t 55)), ky 57 56 (.fa (.t 4) 0), ky 58 56 (.ld (.t 57) 1 false), ky 59 56 (.bin .eql (.t 58) (kc 9)), ky 60 56 (.fa (.t 6) 0), ky 61 56 (.ld (.t 60) 1 false), ky 62 56 (.bin .eql (.t 61) (kc 9)), ky 63 56 (.eqs false (.t 59) (.t 62)), kn 64 (.pick (.t 56) (.t 63) (.c (.d (.v (.bool false)))))])
 (.cond (.t 64) (.seq (.reg [kn 2 (.mv (.c (.d (.v (.bool false)))))])
 (.ret)) (.skip)))))
 (.reg [kn 32 (.mv (.t 5)), kn 33 (.bin .add (.t 32) (kc 1)), kn 5 (.mv (.t 33))]))

def c84l1 : AC :=
 .seq (.seq (.reg [kn 7 (.mv (.t 3)), kn 8 (.fa (.t 1) 3), kn 9 (.ld (.t 8) 1 false), kn 10 (.len false (.t 9)), kn 11 (.bin .lss (.t 7) (.t 10))])
 (.cond (.t 11) (.skip) (.exit 0)))
 (.seq (.block 1 (.seq (.reg [kn 14 (.fa (.t 1) 3), kn 15 (.ld (.t 14) 1 false), kn 16 (.mv (.t 3)), kn 17 (.ia (.t 15) (.t 16) 10), kn 18 (.ld (.t 17) 10 true), kn 4 (.al [kz, (.d (.v (.string ⟨#[]⟩))), (.d (.v (.string ⟨#[]⟩))), kz, kz, kz, .esl, .esl, kz, kz]), ke (.st (.t 4) (.t 18) 10)])
 (.seq (.seq (.reg [kn 19 (.fa (.t 4) 1), kn 20 (.ld (.t 19) 1 false), kn 21 (.bin .neq (.t 20) (.c (.d (.v (.string ⟨#[]⟩))))), kn 22 (.mv (.t 21)), ky 23 22 (.ld (.t 1) 5 true), ky 24 22 (.fa (.t 4) 1), ky 25 22 (.ld (.t 24) 1 false), ky 26 22 (.call 111 [(.t 23), (.t 25)]), ky 27 22 (.un .not (.t 26)), kn 28 (.pick (.t 22) (.t 27) (.c (.d (.v (.bool false)))))])
 (.cond (.t 28) (.seq (.reg [kn 2 (.mv (.c (.d (.v (.bool false)))))])
 (.ret)) (.skip)))
 (.seq (.reg [kn 5 (.mv (kc 7))])
 (.block 2 (.loop c84l0))))))
 (.reg [kn 12 (.mv (.t 3)), kn 13 (.bin .add (.t 12) (kc 1)), kn 3 (.mv (.t 13))]))

def c84 : AC :=
 .seq (.reg [kn 1 (.bx (.t 0)), kn 2 (.mv (.c (.d (.v (.bool false)))))])
 (.seq (.seq (.reg [kn 3 (.mv (kc 7))])
 (.block 0 (.loop c84l1)))
 (.seq (.reg [kn 2 (.mv (.c (.d (.v (.bool true)))))])
 (.ret)))
def r84 : List RC := [.t 2]

def c85 : AC :=
 .seq (.reg [kn 2 (.bx (.t 0)), kn 3 (.bx (.t 1)), kn 4 (.mv (.c (.d (.v (.bool false)))))])
 (.seq (.seq (.reg [kn 6 (.fa (.t 3) 1), kn 7 (.ld (.t 6) 1 false), kn 8 (.call 82 [(.t 7)]), kn 9 (.un .not (.t 8)), kn 10 (.mv (.t 9)), ko 11 10 (.fa (.t 3) 2), ko 12 10 (.ld (.t 11) 1 false), ko 13 10 (.bin .lss (.t 12) (kc 0)), kn 14 (.pick (.t 10) (.c (.d (.v (.bool true)))) (.t 13)), kn 15 (.mv (.t 14)), ko 16 15 (.fa (.t 3) 2), ko 17 15 (.ld (.t 16) 1 false), ko 18 15 (.fa (.t 2) 3), ko 19 15 (.ld (.t 18) 1 false), ko 20 15 (.len false (.t 19)), ko 21 15 (.bin .geq (.t 17) (.t 20)), kn 22 (.pick (.t 15) (.c (.d (.v (.bool true)))) (.t 21)), kn 23 (.mv (.t 22)), ko 24 23 (.fa (.t 3) 0), ko 25 23 (.ld (.t 24) 1 false), ko 26 23 (.bin .neq (.t 25) (kc 1)), ko 27 23 (.mv (.t 26)), ky 28 27 (.fa (.t 3) 3), ky 29 27 (.ld (.t 28) 3 true), ky 30 27 (.bd [kz, kz, (.d (.v (.string ⟨#[]⟩)))] []), ky 31 27 (.call 38 [(.t 29), (.t 30)]), ky 32 27 (.un .not (.t 31)), ko 33 23 (.pick (.t 27) (.t 32) (.c (.d (.v (.bool false))))), kn 34 (.pick (.t 23) (.c (.d (.v (.bool true)))) (.t 33))])
 (.cond (.t 34) (.seq (.reg [kn 4 (.mv (.c (.d (.v (.bool false)))))])
 (.ret)) (.skip)))
 (.seq (.reg [kn 35 (.fa (.t 2) 3), kn 36 (.ld (.t 35) 1 false), kn 37 (.fa (.t 3) 2), kn 38 (.ld (.t 37) 1 false), kn 39 (.ia (.t 36) (.t 38) 10), kn 40 (.fa (.t 39) 0), kn 41 (.ld (.t 40) 1 false), kn 5 (.mv (.t 41))])
 (.seq (.seq (.reg [kn 42 (.fa (.t 3) 0), kn 43 (.ld (.t 42) 1 false)])
 (.block 0 (.seq (.reg [kn 45 (.bin .eql (.t 43) (kc 1)), kn 44 (.mv (.t 45))])
 (.cond (.t 44) (.seq (.reg [kn 46 (.fa (.t 3) 3), kn 47 (.ld (.t 46) 3 true), kn 48 (.call 112 [(.t 47)]), kn 49 (.mv (.t 48)), ky 50 49 (.fa (.t 3) 2), ky 51 49 (.ld (.t 50) 1 false), ky 52 49 (.fa (.t 3) 3), ky 53 49 (.fa (.t 52) 0), ky 54 49 (.ld (.t 53) 1 false), ky 55 49 (.bin .eql (.t 51) (.t 54)), kn 56 (.pick (.t 49) (.t 55) (.c (.d (.v (.bool false))))), kn 57 (.mv (.t 56)), ky 58 57 (.fa (.t 3) 6), ky 59 57 (.ld (.t 58) 1 false), ky 60 57 (.bin .eql (.t 59) (kc 0)), kn 61 (.pick (.t 57) (.t 60) (.c (.d (.v (.bool false))))), kn 4 (.mv (.t 61))])
 (.ret)) (.seq (.reg [kn 63 (.bin .eql (.t 43) (kc 2)), kn 62 (.mv (.t 63))])
 (.cond (.t 62) (.seq (.reg [kn 64 (.fa (.t 3) 2), kn 65 (.ld (.t 64) 1 false), kn 66 (.bin .geq (.t 65) (kc 1)), kn 67 (.mv (.t 66)), ky 68 67 (.fa (.t 3) 2), ky 69 67 (.ld (.t 68) 1 false), ky 70 67 (.bin .leq (.t 69) (kc 4)), kn 71 (.pick (.t 67) (.t 70) (.c (.d (.v (.bool false))))), kn 72 (.mv (.t 71)), ko 73 72 (.fa (.t 3) 2), ko 74 72 (.ld (.t 73) 1 false), ko 75 72 (.bin .geq (.t 74) (kc 7)), kn 76 (.pick (.t 72) (.c (.d (.v (.bool true)))) (.t 75)), kn 77 (.mv (.t 76)), ky 78 77 (.fa (.t 3) 6), ky 79 77 (.ld (.t 78) 1 false), ky 80 77 (.bin .eql (.t 79) (kc 0)), kn 81 (.pick (.t 77) (.t 80) (.c (.d (.v (.bool false))))), kn 4 (.mv (.t 81))])
 (.ret)) (.seq (.reg [kn 83 (.bin .eql (.t 43) (kc 3)), kn 82 (.mv (.t 83))])
 (.cond (.t 82) (.seq (.reg [kn 84 (.mv (.t 5)), kn 85 (.bin .neq (.t 84) (kc 0)), kn 86 (.mv (.t 85)), ky 87 86 (.mv (.t 5)), ky 88 86 (.bin .neq (.t 87) (kc 5)), kn 89 (.pick (.t 86) (.t 88) (.c (.d (.v (.bool false))))), kn 90 (.mv (.t 89)), ky 91 90 (.mv (.t 5)), ky 92 90 (.bin .neq (.t 91) (kc 6)), kn 93 (.pick (.t 90) (.t 92) (.c (.d (.v (.bool false))))), kn 94 (.mv (.t 93)), ky 95 94 (.mv (.t 5)), ky 96 94 (.bin .neq (.t 95) (kc 8)), kn 97 (.pick (.t 94) (.t 96) (.c (.d (.v (.bool false))))), kn 98 (.mv (.t 97)), ky 99 98 (.fa (.t 3) 6), ky 100 98 (.ld (.t 99) 1 false), ky 101 98 (.bin .geq (.t 100) (kc 0)), kn 102 (.pick (.t 98) (.t 101) (.c (.d (.v (.bool false))))), kn 103 (.mv (.t 102)), ky 104 103 (.fa (.t 3) 6), ky 105 103 (.ld (.t 104) 1 false), ky 106 103 (.bin .lss (.t 105) (kc 64)), kn 107 (.pick (.t 103) (.t 106) (.c (.d (.v (.bool false))))), kn 4 (.mv (.t 107))])
 (.ret)) (.seq (.reg [kn 109 (.bin .eql (.t 43) (kc 4)), kn 108 (.mv (.t 109))])
 (.cond (.t 108) (.seq (.reg [kn 110 (.mv (.t 5)), kn 111 (.bin .eql (.t 110) (kc 11)), kn 112 (.mv (.t 111)), ky 113 112 (.fa (.t 3) 6), ky 114 112 (.ld (.t 113) 1 false), ky 115 112 (.bin .geq (.t 114) (kc 1)), kn 116 (.pick (.t 112) (.t 115) (.c (.d (.v (.bool false))))), kn 117 (.mv (.t 116)), ky 118 117 (.fa (.t 3) 6), ky 119 117 (.ld (.t 118) 1 false), ky 120 117 (.bin .lss (.t 119) (kc 64)), kn 121 (.pick (.t 117) (.t 120) (.c (.d (.v (.bool false))))), kn 4 (.mv (.t 121))])
 (.ret)) (.skip)))))))))))
 (.seq (.reg [kn 4 (.mv (.c (.d (.v (.bool false)))))])
 (.ret)))))
def r85 : List RC := [.t 4]

def c87 : AC :=
 .seq (.reg [kn 2 (.mv (.c .esl))])
 (.seq (.seq (.reg [kn 3 (.mv (.t 0)), kn 4 (.isn false false (.t 3))])
 (.cond (.t 4) (.seq (.reg [kn 2 (.mv (.c .esl))])
 (.ret)) (.skip)))
 (.seq (.reg [kn 5 (.bs .im 83 3 []), kn 6 (.mv (.t 0)), kn 7 (.app .gr 83 3 32 (.t 5) (.t 6)), kn 2 (.mv (.t 7))])
 (.ret)))
def r87 : List RC := [.t 2]

def c88 : AC :=
 .seq (.reg [kn 2 (.mv (.c .esl))])
 (.seq (.seq (.reg [kn 3 (.mv (.t 0)), kn 4 (.isn false false (.t 3))])
 (.cond (.t 4) (.seq (.reg [kn 2 (.mv (.c .esl))])
 (.ret)) (.skip)))
 (.seq (.reg [kn 5 (.bs .im 85 2 []), kn 6 (.mv (.t 0)), kn 7 (.app .gr 85 2 16 (.t 5) (.t 6)), kn 2 (.mv (.t 7))])
 (.ret)))
def r88 : List RC := [.t 2]

def c92 : AC :=
 .seq (.reg [kn 4 (.mv (.c (.d (.v (.bool false)))))])
 (.seq (.reg [kn 5 (.mv (.t 1)), kn 6 (.bin .geq (.t 5) (kc 1)), kn 7 (.mv (.t 6)), ky 8 7 (.mv (.t 1)), ky 9 7 (.bin .leq (.t 8) (kc 32)), kn 10 (.pick (.t 7) (.t 9) (.c (.d (.v (.bool false))))), kn 11 (.mv (.t 10)), ky 12 11 (.mv (.t 1)), ky 13 11 (.bin .sub (.t 12) (kc 1)), ky 14 11 (.bin .shl (kc (-1)) (.t 13)), ky 15 11 (.mv (.t 0)), ky 16 11 (.bin .leq (.t 14) (.t 15)), kn 17 (.pick (.t 11) (.t 16) (.c (.d (.v (.bool false))))), kn 18 (.mv (.t 17)), ky 19 18 (.mv (.t 0)), ky 20 18 (.mv (.t 1)), ky 21 18 (.bin .sub (.t 20) (kc 1)), ky 22 18 (.bin .shl (kc 1) (.t 21)), ky 23 18 (.bin .lss (.t 19) (.t 22)), kn 24 (.pick (.t 18) (.t 23) (.c (.d (.v (.bool false))))), kn 4 (.mv (.t 24))])
 (.ret))
def r92 : List RC := [.t 4]

def c97 : AC :=
 .seq (.reg [kn 4 (.mv (.c (.d (.v (.bool false)))))])
 (.seq (.seq (.reg [kn 6 (.mv (.t 1)), kn 7 (.bin .lss (.t 6) (kc 1)), kn 8 (.mv (.t 7)), ko 9 8 (.mv (.t 1)), ko 10 8 (.bin .gtr (.t 9) (kc 32)), kn 11 (.pick (.t 8) (.c (.d (.v (.bool true)))) (.t 10))])
 (.cond (.t 11) (.seq (.reg [kn 4 (.mv (.c (.d (.v (.bool false)))))])
 (.ret)) (.skip)))
 (.seq (.reg [kn 12 (.mv (.t 1)), kn 13 (.cvi .u32 (.t 12)), kn 14 (.call 115 [(.t 13)]), kn 15 (.cvi .i64 (.t 14)), kn 16 (.bin .quo (.t 15) (kc 2)), kn 5 (.mv (.t 16))])
 (.seq (.reg [kn 17 (.mv (.t 0)), kn 18 (.mv (.t 5)), kn 19 (.un .neg (.t 18)), kn 20 (.bin .geq (.t 17) (.t 19)), kn 21 (.mv (.t 20)), ky 22 21 (.mv (.t 0)), ky 23 21 (.mv (.t 5)), ky 24 21 (.bin .lss (.t 22) (.t 23)), kn 25 (.pick (.t 21) (.t 24) (.c (.d (.v (.bool false))))), kn 4 (.mv (.t 25))])
 (.ret))))
def r97 : List RC := [.t 4]

def c105 : AC :=
 .seq (.reg [kn 2 (.mv (.c (.d (.v (.bool false)))))])
 (.seq (.reg [kn 3 (.mv (.t 0)), kn 4 (.bin .lss (.t 3) (.c (.d (.v (.int .u8 97))))), kn 5 (.mv (.t 4)), ko 6 5 (.mv (.t 0)), ko 7 5 (.bin .gtr (.t 6) (.c (.d (.v (.int .u8 122))))), kn 8 (.pick (.t 5) (.c (.d (.v (.bool true)))) (.t 7)), kn 9 (.mv (.t 8)), ky 10 9 (.mv (.t 0)), ky 11 9 (.bin .lss (.t 10) (.c (.d (.v (.int .u8 65))))), ky 12 9 (.mv (.t 11)), ko 13 12 (.mv (.t 0)), ko 14 12 (.bin .gtr (.t 13) (.c (.d (.v (.int .u8 90))))), ky 15 9 (.pick (.t 12) (.c (.d (.v (.bool true)))) (.t 14)), kn 16 (.pick (.t 9) (.t 15) (.c (.d (.v (.bool false))))), kn 17 (.mv (.t 16)), ky 18 17 (.mv (.t 0)), ky 19 17 (.bin .lss (.t 18) (.c (.d (.v (.int .u8 48))))), ky 20 17 (.mv (.t 19)), ko 21 20 (.mv (.t 0)), ko 22 20 (.bin .gtr (.t 21) (.c (.d (.v (.int .u8 57))))), ky 23 17 (.pick (.t 20) (.c (.d (.v (.bool true)))) (.t 22)), kn 24 (.pick (.t 17) (.t 23) (.c (.d (.v (.bool false))))), kn 2 (.mv (.t 24))])
 (.ret))
def r105 : List RC := [.t 2]

def c107l0 : AC :=
 .seq (.reg [kn 20 (.bin .lss (.t 19) (.t 18))])
 (.seq (.cond (.t 20) (.skip) (.exit 0))
 (.seq (.block 1 (.seq (.reg [kn 21 (.mv (.t 19)), kn 3 (.mv (.t 21))])
 (.seq (.reg [kn 22 (.fa (.t 1) 2), kn 23 (.ld (.t 22) 1 false), kn 24 (.mv (.t 3)), kn 25 (.ix (.t 23) (.t 24)), kn 26 (.bin .lss (.t 25) (.c (.d (.v (.int .u8 32))))), kn 27 (.mv (.t 26)), ko 28 27 (.fa (.t 1) 2), ko 29 27 (.ld (.t 28) 1 false), ko 30 27 (.mv (.t 3)), ko 31 27 (.ix (.t 29) (.t 30)), ko 32 27 (.bin .eql (.t 31) (.c (.d (.v (.int .u8 34))))), kn 33 (.pick (.t 27) (.c (.d (.v (.bool true)))) (.t 32))])
 (.cond (.t 33) (.seq (.reg [kn 2 (.mv (.c (.d (.v (.bool false)))))])
 (.ret)) (.skip)))))
 (.reg [kn 34 (.bin .add (.t 19) (kc 1)), kn 19 (.mv (.t 34))])))

def c107 : AC :=
 .seq (.reg [kn 1 (.bx (.t 0)), kn 2 (.mv (.c (.d (.v (.bool false)))))])
 (.seq (.seq (.reg [kn 4 (.fa (.t 1) 0), kn 5 (.ld (.t 4) 1 false), kn 6 (.bin .eql (.t 5) (kc 6))])
 (.cond (.t 6) (.seq (.seq (.reg [kn 7 (.fa (.t 1) 1), kn 8 (.ld (.t 7) 1 false), kn 9 (.bin .neq (.t 8) (kc 0)), kn 10 (.mv (.t 9)), ko 11 10 (.fa (.t 1) 2), ko 12 10 (.ld (.t 11) 1 false), ko 13 10 (.len true (.t 12)), ko 14 10 (.bin .gtr (.t 13) (kc 64)), kn 15 (.pick (.t 10) (.c (.d (.v (.bool true)))) (.t 14))])
 (.cond (.t 15) (.seq (.reg [kn 2 (.mv (.c (.d (.v (.bool false)))))])
 (.ret)) (.skip)))
 (.seq (.seq (.reg [kn 16 (.fa (.t 1) 2), kn 17 (.ld (.t 16) 1 false), kn 18 (.len true (.t 17)), kn 19 (.mv (kc 0))])
 (.block 0 (.loop c107l0)))
 (.seq (.reg [kn 2 (.mv (.c (.d (.v (.bool true)))))])
 (.ret)))) (.skip)))
 (.seq (.seq (.reg [kn 35 (.fa (.t 1) 2), kn 36 (.ld (.t 35) 1 false), kn 37 (.bin .neq (.t 36) (.c (.d (.v (.string ⟨#[]⟩)))))])
 (.cond (.t 37) (.seq (.reg [kn 2 (.mv (.c (.d (.v (.bool false)))))])
 (.ret)) (.skip)))
 (.seq (.seq (.reg [kn 38 (.fa (.t 1) 0), kn 39 (.ld (.t 38) 1 false)])
 (.block 2 (.seq (.reg [kn 41 (.bin .eql (.t 39) (kc 1)), kn 40 (.mv (.t 41))])
 (.cond (.t 40) (.seq (.reg [kn 42 (.fa (.t 1) 1), kn 43 (.ld (.t 42) 1 false), kn 44 (.call 92 [(.t 43), (kc 32)]), kn 2 (.mv (.t 44))])
 (.ret)) (.seq (.reg [kn 46 (.bin .eql (.t 39) (kc 2)), kn 45 (.mv (.t 46))])
 (.cond (.t 45) (.seq (.reg [kn 47 (.fa (.t 1) 1), kn 48 (.ld (.t 47) 1 false), kn 49 (.bin .eql (.t 48) (kc 0)), kn 50 (.mv (.t 49)), ko 51 50 (.fa (.t 1) 1), ko 52 50 (.ld (.t 51) 1 false), ko 53 50 (.bin .eql (.t 52) (kc 1)), kn 54 (.pick (.t 50) (.c (.d (.v (.bool true)))) (.t 53)), kn 2 (.mv (.t 54))])
 (.ret)) (.seq (.reg [kn 56 (.bin .eql (.t 39) (kc 3)), kn 55 (.mv (.t 56))])
 (.cond (.t 55) (.seq (.reg [kn 57 (.fa (.t 1) 1), kn 58 (.ld (.t 57) 1 false), kn 59 (.fa (.t 1) 1), kn 60 (.ld (.t 59) 1 false), kn 61 (.cvi .u8 (.t 60)), kn 62 (.cvi .i64 (.t 61)), kn 63 (.bin .eql (.t 58) (.t 62)), kn 2 (.mv (.t 63))])
 (.ret)) (.seq (.reg [kn 65 (.bin .eql (.t 39) (kc 4)), kn 64 (.mv (.t 65))])
 (.cond (.t 64) (.seq (.reg [kn 66 (.fa (.t 1) 1), kn 67 (.ld (.t 66) 1 false), kn 68 (.fa (.t 1) 1), kn 69 (.ld (.t 68) 1 false), kn 70 (.cvi .u32 (.t 69)), kn 71 (.cvi .i64 (.t 70)), kn 72 (.bin .eql (.t 67) (.t 71)), kn 2 (.mv (.t 72))])
 (.ret)) (.skip)))))))))))
 (.seq (.reg [kn 73 (.fa (.t 1) 0), kn 74 (.ld (.t 73) 1 false), kn 75 (.bin .eql (.t 74) (kc 5)), kn 76 (.mv (.t 75)), ky 77 76 (.fa (.t 1) 1), ky 78 76 (.ld (.t 77) 1 false), ky 79 76 (.bin .eql (.t 78) (kc 0)), kn 80 (.pick (.t 76) (.t 79) (.c (.d (.v (.bool false))))), kn 2 (.mv (.t 80))])
 (.ret)))))
def r107 : List RC := [.t 2]

def c111l0 : AC :=
 .seq (.seq (.reg [kn 6 (.mv (.t 5)), kn 7 (.fa (.t 2) 2), kn 8 (.ld (.t 7) 1 false), kn 9 (.len false (.t 8)), kn 10 (.bin .lss (.t 6) (.t 9))])
 (.cond (.t 10) (.skip) (.exit 0)))
 (.seq (.block 1 (.seq (.reg [kn 13 (.fa (.t 2) 2), kn 14 (.ld (.t 13) 1 false), kn 15 (.mv (.t 5)), kn 16 (.ia (.t 14) (.t 15) 2), kn 17 (.fa (.t 16) 0), kn 18 (.ld (.t 17) 1 false), kn 19 (.mv (.t 1)), kn 20 (.bin .eql (.t 18) (.t 19))])
 (.cond (.t 20) (.seq (.reg [kn 4 (.mv (.c (.d (.v (.bool true)))))])
 (.ret)) (.skip))))
 (.reg [kn 11 (.mv (.t 5)), kn 12 (.bin .add (.t 11) (kc 1)), kn 5 (.mv (.t 12))]))

def c111 : AC :=
 .seq (.reg [kn 2 (.bx (.t 0)), kn 4 (.mv (.c (.d (.v (.bool false)))))])
 (.seq (.seq (.reg [kn 5 (.mv (kc 0))])
 (.block 0 (.loop c111l0)))
 (.seq (.reg [kn 21 (.fa (.t 2) 0), kn 22 (.ld (.t 21) 1 false), kn 23 (.mv (.t 1)), kn 24 (.bin .eql (.t 22) (.t 23)), kn 4 (.mv (.t 24))])
 (.ret)))
def r111 : List RC := [.t 4]

def c112 : AC :=
 .seq (.reg [kn 1 (.bx (.t 0)), kn 2 (.mv (.c (.d (.v (.bool false)))))])
 (.seq (.seq (.reg [kn 3 (.fa (.t 1) 0), kn 4 (.ld (.t 3) 1 false), kn 5 (.bin .neq (.t 4) (kc 6)), kn 6 (.mv (.t 5)), ky 7 6 (.fa (.t 1) 2), ky 8 6 (.ld (.t 7) 1 false), ky 9 6 (.bin .neq (.t 8) (.c (.d (.v (.string ⟨#[]⟩))))), kn 10 (.pick (.t 6) (.t 9) (.c (.d (.v (.bool false)))))])
 (.cond (.t 10) (.seq (.reg [kn 2 (.mv (.c (.d (.v (.bool false)))))])
 (.ret)) (.skip)))
 (.seq (.seq (.reg [kn 11 (.fa (.t 1) 0), kn 12 (.ld (.t 11) 1 false)])
 (.block 0 (.seq (.reg [kn 14 (.bin .eql (.t 12) (kc 1)), kn 13 (.mv (.t 14))])
 (.cond (.t 13) (.seq (.reg [kn 15 (.fa (.t 1) 1), kn 16 (.ld (.t 15) 1 false), kn 17 (.call 97 [(.t 16), (kc 32)]), kn 2 (.mv (.t 17))])
 (.ret)) (.seq (.reg [kn 19 (.bin .eql (.t 12) (kc 2)), kn 18 (.mv (.t 19))])
 (.cond (.t 18) (.seq (.reg [kn 20 (.fa (.t 1) 1), kn 21 (.ld (.t 20) 1 false), kn 22 (.bin .eql (.t 21) (kc 0)), kn 23 (.mv (.t 22)), ko 24 23 (.fa (.t 1) 1), ko 25 23 (.ld (.t 24) 1 false), ko 26 23 (.bin .eql (.t 25) (kc 1)), kn 27 (.pick (.t 23) (.c (.d (.v (.bool true)))) (.t 26)), kn 2 (.mv (.t 27))])
 (.ret)) (.seq (.reg [kn 29 (.bin .eql (.t 12) (kc 3)), kn 28 (.mv (.t 29))])
 (.cond (.t 28) (.seq (.reg [kn 30 (.fa (.t 1) 1), kn 31 (.ld (.t 30) 1 false), kn 32 (.bin .geq (.t 31) (kc 0)), kn 33 (.mv (.t 32)), ky 34 33 (.fa (.t 1) 1), ky 35 33 (.ld (.t 34) 1 false), ky 36 33 (.bin .lss (.t 35) (kc 256)), kn 37 (.pick (.t 33) (.t 36) (.c (.d (.v (.bool false))))), kn 2 (.mv (.t 37))])
 (.ret)) (.seq (.reg [kn 39 (.bin .eql (.t 12) (kc 4)), kn 38 (.mv (.t 39))])
 (.cond (.t 38) (.seq (.reg [kn 40 (.fa (.t 1) 1), kn 41 (.ld (.t 40) 1 false), kn 42 (.bin .geq (.t 41) (kc 0)), kn 43 (.mv (.t 42)), ky 44 43 (.fa (.t 1) 1), ky 45 43 (.ld (.t 44) 1 false), ky 46 43 (.bin .lss (.t 45) (kc 4294967296)), kn 47 (.pick (.t 43) (.t 46) (.c (.d (.v (.bool false))))), kn 2 (.mv (.t 47))])
 (.ret)) (.seq (.reg [kn 49 (.bin .eql (.t 12) (kc 5)), kn 48 (.mv (.t 49))])
 (.cond (.t 48) (.seq (.reg [kn 50 (.fa (.t 1) 1), kn 51 (.ld (.t 50) 1 false), kn 52 (.bin .eql (.t 51) (kc 0)), kn 2 (.mv (.t 52))])
 (.ret)) (.seq (.reg [kn 54 (.bin .eql (.t 12) (kc 6)), kn 53 (.mv (.t 54))])
 (.cond (.t 53) (.seq (.reg [kn 55 (.fa (.t 1) 1), kn 56 (.ld (.t 55) 1 false), kn 57 (.bin .eql (.t 56) (kc 0)), kn 58 (.mv (.t 57)), ky 59 58 (.fa (.t 1) 2), ky 60 58 (.ld (.t 59) 1 false), ky 61 58 (.call 129 [(.t 60)]), kn 62 (.pick (.t 58) (.t 61) (.c (.d (.v (.bool false))))), kn 2 (.mv (.t 62))])
 (.ret)) (.skip)))))))))))))))
 (.seq (.reg [kn 2 (.mv (.c (.d (.v (.bool false)))))])
 (.ret))))
def r112 : List RC := [.t 2]

def c115l0 : AC :=
 .seq (.seq (.reg [kn 5 (.mv (.t 4)), kn 6 (.mv (.t 0)), kn 7 (.bin .lss (.t 5) (.t 6))])
 (.cond (.t 7) (.skip) (.exit 0)))
 (.seq (.block 1 (.reg [kn 10 (.mv (.t 3)), kn 11 (.bin .mul (.t 10) (.c (.d (.v (.int .u64 2))))), kn 3 (.mv (.t 11))]))
 (.reg [kn 8 (.mv (.t 4)), kn 9 (.bin .add (.t 8) (.c (.d (.v (.int .u32 1))))), kn 4 (.mv (.t 9))]))

def c115 : AC :=
 .seq (.reg [kn 2 (.mv (.c (.d (.v (.int .u64 0)))))])
 (.seq (.reg [kn 3 (.mv (.c (.d (.v (.int .u64 1)))))])
 (.seq (.seq (.reg [kn 4 (.mv (.c (.d (.v (.int .u32 0)))))])
 (.block 0 (.loop c115l0)))
 (.seq (.reg [kn 12 (.mv (.t 3)), kn 2 (.mv (.t 12))])
 (.ret))))
def r115 : List RC := [.t 2]

def c129l0 : AC :=
 .seq (.seq (.reg [kn 7 (.mv (.t 3)), kn 8 (.mv (.t 0)), kn 9 (.len true (.t 8)), kn 10 (.bin .lss (.t 7) (.t 9))])
 (.cond (.t 10) (.skip) (.exit 0)))
 (.seq (.block 1 (.seq (.reg [kn 13 (.mv (.t 0)), kn 14 (.mv (.t 3)), kn 15 (.ix (.t 13) (.t 14)), kn 16 (.bin .lss (.t 15) (.c (.d (.v (.int .u8 32))))), kn 17 (.mv (.t 16)), ko 18 17 (.mv (.t 0)), ko 19 17 (.mv (.t 3)), ko 20 17 (.ix (.t 18) (.t 19)), ko 21 17 (.bin .eql (.t 20) (.c (.d (.v (.int .u8 34))))), kn 22 (.pick (.t 17) (.c (.d (.v (.bool true)))) (.t 21))])
 (.cond (.t 22) (.seq (.reg [kn 2 (.mv (.c (.d (.v (.bool false)))))])
 (.ret)) (.skip))))
 (.reg [kn 11 (.mv (.t 3)), kn 12 (.bin .add (.t 11) (kc 1)), kn 3 (.mv (.t 12))]))

def c129 : AC :=
 .seq (.reg [kn 2 (.mv (.c (.d (.v (.bool false)))))])
 (.seq (.seq (.reg [kn 4 (.mv (.t 0)), kn 5 (.len true (.t 4)), kn 6 (.bin .gtr (.t 5) (kc 64))])
 (.cond (.t 6) (.seq (.reg [kn 2 (.mv (.c (.d (.v (.bool false)))))])
 (.ret)) (.skip)))
 (.seq (.seq (.reg [kn 3 (.mv (kc 0))])
 (.block 0 (.loop c129l0)))
 (.seq (.reg [kn 2 (.mv (.c (.d (.v (.bool true)))))])
 (.ret))))
def r129 : List RC := [.t 2]

theorem cc5 : Try.f5.body.bind (comp Try.prog (hhI 5)) = some c5 := by kernel_rfl
theorem rr5 : resC Try.prog Try.f5 = some r5 := by kernel_rfl
theorem cc6 : Try.f6.body.bind (comp Try.prog (hhI 6)) = some c6 := by kernel_rfl
theorem rr6 : resC Try.prog Try.f6 = some r6 := by kernel_rfl
theorem cc8 : Try.f8.body.bind (comp Try.prog (hhI 8)) = some c8 := by kernel_rfl
theorem rr8 : resC Try.prog Try.f8 = some r8 := by kernel_rfl
theorem cc14 : Try.f14.body.bind (comp Try.prog (hhI 14)) = some c14 := by kernel_rfl
theorem rr14 : resC Try.prog Try.f14 = some r14 := by kernel_rfl
theorem cc15 : Try.f15.body.bind (comp Try.prog (hhI 15)) = some c15 := by kernel_rfl
theorem rr15 : resC Try.prog Try.f15 = some r15 := by kernel_rfl
theorem cc16 : Try.f16.body.bind (comp Try.prog (hhI 16)) = some c16 := by kernel_rfl
theorem rr16 : resC Try.prog Try.f16 = some r16 := by kernel_rfl
theorem cc17 : Try.f17.body.bind (comp Try.prog (hhI 17)) = some c17 := by kernel_rfl
theorem rr17 : resC Try.prog Try.f17 = some r17 := by kernel_rfl
theorem cc19 : Try.f19.body.bind (comp Try.prog (hhI 19)) = some c19 := by kernel_rfl
theorem rr19 : resC Try.prog Try.f19 = some r19 := by kernel_rfl
theorem cc20 : Try.f20.body.bind (comp Try.prog (hhI 20)) = some c20 := by kernel_rfl
theorem rr20 : resC Try.prog Try.f20 = some r20 := by kernel_rfl
theorem cc21 : Try.f21.body.bind (comp Try.prog (hhI 21)) = some c21 := by kernel_rfl
theorem rr21 : resC Try.prog Try.f21 = some r21 := by kernel_rfl
theorem cc22 : Try.f22.body.bind (comp Try.prog (hhI 22)) = some c22 := by kernel_rfl
theorem rr22 : resC Try.prog Try.f22 = some r22 := by kernel_rfl
theorem cc23 : Try.f23.body.bind (comp Try.prog (hhI 23)) = some c23 := by kernel_rfl
theorem rr23 : resC Try.prog Try.f23 = some r23 := by kernel_rfl
theorem cc25 : Try.f25.body.bind (comp Try.prog (hhI 25)) = some c25 := by kernel_rfl
theorem rr25 : resC Try.prog Try.f25 = some r25 := by kernel_rfl
theorem cc33 : Try.f33.body.bind (comp Try.prog (hhI 33)) = some c33 := by kernel_rfl
theorem rr33 : resC Try.prog Try.f33 = some r33 := by kernel_rfl
theorem cc35 : Try.f35.body.bind (comp Try.prog (hhI 35)) = some c35 := by kernel_rfl
theorem rr35 : resC Try.prog Try.f35 = some r35 := by kernel_rfl
theorem cc36 : Try.f36.body.bind (comp Try.prog (hhI 36)) = some c36 := by kernel_rfl
theorem rr36 : resC Try.prog Try.f36 = some r36 := by kernel_rfl
theorem cc37 : Try.f37.body.bind (comp Try.prog (hhI 37)) = some c37 := by kernel_rfl
theorem rr37 : resC Try.prog Try.f37 = some r37 := by kernel_rfl
theorem cc38 : Try.f38.body.bind (comp Try.prog (hhI 38)) = some c38 := by kernel_rfl
theorem rr38 : resC Try.prog Try.f38 = some r38 := by kernel_rfl
theorem cc41 : Try.f41.body.bind (comp Try.prog (hhI 41)) = some c41 := by kernel_rfl
theorem rr41 : resC Try.prog Try.f41 = some r41 := by kernel_rfl
theorem cc42 : Try.f42.body.bind (comp Try.prog (hhI 42)) = some c42 := by kernel_rfl
theorem rr42 : resC Try.prog Try.f42 = some r42 := by kernel_rfl
theorem cc45 : Try.f45.body.bind (comp Try.prog (hhI 45)) = some c45 := by kernel_rfl
theorem rr45 : resC Try.prog Try.f45 = some r45 := by kernel_rfl
theorem cc46 : Try.f46.body.bind (comp Try.prog (hhI 46)) = some c46 := by kernel_rfl
theorem rr46 : resC Try.prog Try.f46 = some r46 := by kernel_rfl
theorem cc47 : Try.f47.body.bind (comp Try.prog (hhI 47)) = some c47 := by kernel_rfl
theorem rr47 : resC Try.prog Try.f47 = some r47 := by kernel_rfl
theorem cc48 : Try.f48.body.bind (comp Try.prog (hhI 48)) = some c48 := by kernel_rfl
theorem rr48 : resC Try.prog Try.f48 = some r48 := by kernel_rfl
theorem cc49 : Try.f49.body.bind (comp Try.prog (hhI 49)) = some c49 := by kernel_rfl
theorem rr49 : resC Try.prog Try.f49 = some r49 := by kernel_rfl
theorem cc50 : Try.f50.body.bind (comp Try.prog (hhI 50)) = some c50 := by kernel_rfl
theorem rr50 : resC Try.prog Try.f50 = some r50 := by kernel_rfl
theorem cc79 : Try.f79.body.bind (comp Try.prog (hhI 79)) = some c79 := by kernel_rfl
theorem rr79 : resC Try.prog Try.f79 = some r79 := by kernel_rfl
theorem cc81 : Try.f81.body.bind (comp Try.prog (hhI 81)) = some c81 := by kernel_rfl
theorem rr81 : resC Try.prog Try.f81 = some r81 := by kernel_rfl
theorem cc82 : Try.f82.body.bind (comp Try.prog (hhI 82)) = some c82 := by kernel_rfl
theorem rr82 : resC Try.prog Try.f82 = some r82 := by kernel_rfl
theorem cc84 : Try.f84.body.bind (comp Try.prog (hhI 84)) = some c84 := by kernel_rfl
theorem rr84 : resC Try.prog Try.f84 = some r84 := by kernel_rfl
theorem cc85 : Try.f85.body.bind (comp Try.prog (hhI 85)) = some c85 := by kernel_rfl
theorem rr85 : resC Try.prog Try.f85 = some r85 := by kernel_rfl
theorem cc87 : Try.f87.body.bind (comp Try.prog (hhI 87)) = some c87 := by kernel_rfl
theorem rr87 : resC Try.prog Try.f87 = some r87 := by kernel_rfl
theorem cc88 : Try.f88.body.bind (comp Try.prog (hhI 88)) = some c88 := by kernel_rfl
theorem rr88 : resC Try.prog Try.f88 = some r88 := by kernel_rfl
theorem cc92 : Try.f92.body.bind (comp Try.prog (hhI 92)) = some c92 := by kernel_rfl
theorem rr92 : resC Try.prog Try.f92 = some r92 := by kernel_rfl
theorem cc97 : Try.f97.body.bind (comp Try.prog (hhI 97)) = some c97 := by kernel_rfl
theorem rr97 : resC Try.prog Try.f97 = some r97 := by kernel_rfl
theorem cc105 : Try.f105.body.bind (comp Try.prog (hhI 105)) = some c105 := by kernel_rfl
theorem rr105 : resC Try.prog Try.f105 = some r105 := by kernel_rfl
theorem cc107 : Try.f107.body.bind (comp Try.prog (hhI 107)) = some c107 := by kernel_rfl
theorem rr107 : resC Try.prog Try.f107 = some r107 := by kernel_rfl
theorem cc111 : Try.f111.body.bind (comp Try.prog (hhI 111)) = some c111 := by kernel_rfl
theorem rr111 : resC Try.prog Try.f111 = some r111 := by kernel_rfl
theorem cc112 : Try.f112.body.bind (comp Try.prog (hhI 112)) = some c112 := by kernel_rfl
theorem rr112 : resC Try.prog Try.f112 = some r112 := by kernel_rfl
theorem cc115 : Try.f115.body.bind (comp Try.prog (hhI 115)) = some c115 := by kernel_rfl
theorem rr115 : resC Try.prog Try.f115 = some r115 := by kernel_rfl
theorem cc129 : Try.f129.body.bind (comp Try.prog (hhI 129)) = some c129 := by kernel_rfl
theorem rr129 : resC Try.prog Try.f129 = some r129 := by kernel_rfl
end Go.Proofs.Ythifjndenhjobaa

/- The functions' code in the small language. Printed by program (wip/tools). -/
namespace Go.Proofs.Ythifjndenhjobaa
set_option linter.unusedVariables false
set_option linter.unusedSimpArgs false
open Go.RowKit
def hht : Nat → Nat → Option Md := fun fn slot => if (fn, slot) ∈ [(42, 43), (87, 5), (87, 7), (88, 5), (88, 7)] then some .hp else if (fn, slot) ∈ [(42, 42)] then some .im else none

def c42tl0 : AC :=
 .seq (.reg [kn 119 (.bin .lss (.t 118) (.t 117))])
 (.seq (.cond (.t 119) (.skip) (.exit 2))
 (.seq (.block 3 (.seq (.reg [kn 120 (.mv (.t 118)), kn 8 (.mv (.t 120))])
 (.dreg [[], [0], [], [], [], [4], [], [5, 6], [7], [8], [3, 9], [1, 2, 0, 1, 2, 3, 4, 5, 6, 7, 8, 9, 10], [11, 0, 1, 2, 3, 4, 5, 6, 7, 8, 9, 10], [12, 10, 10, 0, 1, 2, 3, 4, 5, 6, 7, 8, 9, 10]] [kn 121 (.fa (.t 6) 7), kn 122 (.ld (.t 121) 1 false), kn 123 (.mv (.t 8)), kn 124 (.mv (.t 0)), kn 125 (.fa (.t 6) 7), kn 126 (.ld (.t 125) 1 false), kn 127 (.mv (.t 8)), kn 128 (.ia (.t 126) (.t 127) 2), kn 129 (.fa (.t 128) 1), kn 130 (.ld (.t 129) 1 false), kn 131 (.call 42 [(.t 124), (.t 130)]), kn 132 (.ia (.t 122) (.t 123) 2), kn 133 (.fa (.t 132) 1), ke (.st (.t 133) (.t 131) 1)])))
 (.reg [kn 134 (.bin .add (.t 118) (kc 1)), kn 118 (.mv (.t 134))])))

def c42tl1 : AC :=
 .seq (.reg [kn 95 (.bin .lss (.t 94) (.t 93))])
 (.seq (.cond (.t 95) (.skip) (.exit 0))
 (.seq (.block 1 (.seq (.reg [kn 96 (.mv (.t 94)), kn 7 (.mv (.t 96))])
 (.dreg [[], [0], [], [], [], [4], [], [5, 6], [7], [8], [3, 9], [1, 2, 0, 1, 2, 3, 4, 5, 6, 7, 8, 9, 10], [11, 0, 1, 2, 3, 4, 5, 6, 7, 8, 9, 10], [12, 10, 10, 0, 1, 2, 3, 4, 5, 6, 7, 8, 9, 10]] [kn 97 (.fa (.t 6) 6), kn 98 (.ld (.t 97) 1 false), kn 99 (.mv (.t 7)), kn 100 (.mv (.t 0)), kn 101 (.fa (.t 6) 6), kn 102 (.ld (.t 101) 1 false), kn 103 (.mv (.t 7)), kn 104 (.ia (.t 102) (.t 103) 3), kn 105 (.fa (.t 104) 2), kn 106 (.ld (.t 105) 1 false), kn 107 (.call 42 [(.t 100), (.t 106)]), kn 108 (.ia (.t 98) (.t 99) 3), kn 109 (.fa (.t 108) 2), ke (.st (.t 109) (.t 107) 1)])))
 (.reg [kn 110 (.bin .add (.t 94) (kc 1)), kn 94 (.mv (.t 110))])))

def c42t : AC :=
 .seq (.reg [kn 4 (.mv (kc 0))])
 (.seq (.seq (.reg [kn 9 (.mv (.t 1)), kn 10 (.bin .leq (.t 9) (kc 6))])
 (.cond (.t 10) (.seq (.reg [kn 11 (.mv (.t 1)), kn 4 (.mv (.t 11))])
 (.ret)) (.skip)))
 (.seq (.seq (.reg [kn 12 (.mv (.t 0)), kn 13 (.mv (.t 1)), kn 14 (.nc (.t 12)), kn 15 (.fa (.t 14) 1), kn 16 (.iar (.t 15) (.t 13) 256 1), kn 17 (.ld (.t 16) 1 false), kn 18 (.bin .gtr (.t 17) (kc 0))])
 (.cond (.t 18) (.seq (.reg [kn 19 (.mv (.t 0)), kn 20 (.mv (.t 1)), kn 21 (.nc (.t 19)), kn 22 (.fa (.t 21) 1), kn 23 (.iar (.t 22) (.t 20) 256 1), kn 24 (.ld (.t 23) 1 false), kn 4 (.mv (.t 24))])
 (.ret)) (.skip)))
 (.seq (.reg [kn 25 (.mv (.t 0)), kn 26 (.nc (.t 25)), kn 27 (.fa (.t 26) 257), kn 28 (.ld (.t 27) 1 false), kn 29 (.len false (.t 28)), kn 5 (.mv (.t 29))])
 (.seq (.reg [kn 30 (.mv (.t 0)), kn 31 (.mv (.t 1)), kn 32 (.mv (.t 5)), kn 33 (.nc (.t 30)), kn 34 (.fa (.t 33) 1), kn 35 (.iar (.t 34) (.t 31) 256 1), ke (.st (.t 35) (.t 32) 1)])
 (.seq (.reg [kn 36 (.mv (.t 0)), kn 37 (.mv (.t 0)), kn 38 (.nc (.t 37)), kn 39 (.fa (.t 38) 257), kn 40 (.ld (.t 39) 1 false), kn 41 (.bd [kz, (.d (.v (.string ⟨#[]⟩))), (.d (.v (.string ⟨#[]⟩))), kz, kz, kz, .esl, .esl, kz, kz] []), kn 42 (.bs .im 49 10 [(.t 41)]), kn 43 (.app .hp 49 10 128 (.t 40) (.t 42)), kn 44 (.nc (.t 36)), kn 45 (.fa (.t 44) 257), ke (.st (.t 45) (.t 43) 1)])
 (.seq (.reg [kn 46 (.mv (.t 0)), kn 47 (.nc (.t 46)), kn 48 (.fa (.t 47) 0), kn 49 (.ld (.t 48) 1 false), kn 50 (.mv (.t 1)), kn 51 (.ia (.t 49) (.t 50) 10), kn 52 (.ld (.t 51) 10 true), kn 6 (.al [kz, (.d (.v (.string ⟨#[]⟩))), (.d (.v (.string ⟨#[]⟩))), kz, kz, kz, .esl, .esl, kz, kz]), ke (.st (.t 6) (.t 52) 10)])
 (.seq (.seq (.dreg [[], [0], [1], [2], [3], [4, 3], [3], [6, 3], [7, 3], [8, 3], [5, 9, 3], [3, 10]] [kn 53 (.fa (.t 6) 0), kn 54 (.ld (.t 53) 1 false), kn 55 (.bin .eql (.t 54) (kc 9)), kn 56 (.mv (.t 55)), ky 57 56 (.fa (.t 6) 1), ky 58 56 (.ld (.t 57) 1 false), ky 59 56 (.mv (.t 0)), ky 60 56 (.nc (.t 59)), ky 61 56 (.fa (.t 60) 258), ky 62 56 (.ld (.t 61) 1 false), ky 63 56 (.bin .eql (.t 58) (.t 62)), kn 64 (.pick (.t 56) (.t 63) (.c (.d (.v (.bool false)))))])
 (.cond (.t 64) (.seq (.reg [kn 65 (.mv (.t 0)), kn 66 (.nc (.t 65)), kn 67 (.fa (.t 66) 259), kn 68 (.ld (.t 67) 1 false), kn 69 (.fa (.t 6) 9), ke (.st (.t 69) (.t 68) 1)])
 (.reg [kn 70 (.mv (.t 0)), kn 71 (.nc (.t 70)), kn 72 (.fa (.t 71) 259), kn 73 (.ld (.t 72) 1 false), kn 74 (.bin .add (.t 73) (kc 1)), kn 75 (.nc (.t 70)), kn 76 (.fa (.t 75) 259), ke (.st (.t 76) (.t 74) 1)])) (.skip)))
 (.seq (.reg [kn 77 (.mv (.t 0)), kn 78 (.fa (.t 6) 4), kn 79 (.ld (.t 78) 1 false), kn 80 (.call 42 [(.t 77), (.t 79)]), kn 81 (.fa (.t 6) 4), ke (.st (.t 81) (.t 80) 1)])
 (.seq (.reg [kn 82 (.mv (.t 0)), kn 83 (.fa (.t 6) 5), kn 84 (.ld (.t 83) 1 false), kn 85 (.call 42 [(.t 82), (.t 84)]), kn 86 (.fa (.t 6) 5), ke (.st (.t 86) (.t 85) 1)])
 (.seq (.reg [kn 87 (.fa (.t 6) 6), kn 88 (.ld (.t 87) 1 false), kn 89 (.call 87 [(.t 88)]), kn 90 (.fa (.t 6) 6), ke (.st (.t 90) (.t 89) 1)])
 (.seq (.seq (.reg [kn 91 (.fa (.t 6) 6), kn 92 (.ld (.t 91) 1 false), kn 93 (.len false (.t 92)), kn 94 (.mv (kc 0))])
 (.block 0 (.loop c42tl1)))
 (.seq (.reg [kn 111 (.fa (.t 6) 7), kn 112 (.ld (.t 111) 1 false), kn 113 (.call 88 [(.t 112)]), kn 114 (.fa (.t 6) 7), ke (.st (.t 114) (.t 113) 1)])
 (.seq (.seq (.reg [kn 115 (.fa (.t 6) 7), kn 116 (.ld (.t 115) 1 false), kn 117 (.len false (.t 116)), kn 118 (.mv (kc 0))])
 (.block 2 (.loop c42tl0)))
 (.seq (.reg [kn 135 (.mv (.t 0)), kn 136 (.fa (.t 6) 8), kn 137 (.ld (.t 136) 1 false), kn 138 (.call 42 [(.t 135), (.t 137)]), kn 139 (.fa (.t 6) 8), ke (.st (.t 139) (.t 138) 1)])
 (.seq (.dreg [[], [0], [1], [2], [], [], [3, 4, 0, 1, 2, 3, 4, 5], [6, 5, 0, 1, 2, 3, 4, 5]] [kn 140 (.mv (.t 0)), kn 141 (.nc (.t 140)), kn 142 (.fa (.t 141) 257), kn 143 (.ld (.t 142) 1 false), kn 144 (.mv (.t 5)), kn 145 (.ld (.t 6) 10 true), kn 146 (.ia (.t 143) (.t 144) 10), ke (.st (.t 146) (.t 145) 10)])
 (.seq (.reg [kn 147 (.mv (.t 5)), kn 4 (.mv (.t 147))])
 (.ret)))))))))))))))))
def r42t : List RC := [.t 4]

def c87t : AC :=
 .seq (.reg [kn 2 (.mv (.c .esl))])
 (.seq (.seq (.reg [kn 3 (.mv (.t 0)), kn 4 (.isn false false (.t 3))])
 (.cond (.t 4) (.seq (.reg [kn 2 (.mv (.c .esl))])
 (.ret)) (.skip)))
 (.seq (.reg [kn 5 (.bs .hp 83 3 []), kn 6 (.mv (.t 0)), kn 7 (.app .hp 83 3 32 (.t 5) (.t 6)), kn 2 (.mv (.t 7))])
 (.ret)))
def r87t : List RC := [.t 2]

def c88t : AC :=
 .seq (.reg [kn 2 (.mv (.c .esl))])
 (.seq (.seq (.reg [kn 3 (.mv (.t 0)), kn 4 (.isn false false (.t 3))])
 (.cond (.t 4) (.seq (.reg [kn 2 (.mv (.c .esl))])
 (.ret)) (.skip)))
 (.seq (.reg [kn 5 (.bs .hp 85 2 []), kn 6 (.mv (.t 0)), kn 7 (.app .hp 85 2 16 (.t 5) (.t 6)), kn 2 (.mv (.t 7))])
 (.ret)))
def r88t : List RC := [.t 2]

theorem cc42t : Try.f42.body.bind (comp Try.prog (hht 42)) = some c42t := by kernel_rfl
theorem rr42t : resC Try.prog Try.f42 = some r42t := by kernel_rfl
theorem cc87t : Try.f87.body.bind (comp Try.prog (hht 87)) = some c87t := by kernel_rfl
theorem rr87t : resC Try.prog Try.f87 = some r87t := by kernel_rfl
theorem cc88t : Try.f88.body.bind (comp Try.prog (hht 88)) = some c88t := by kernel_rfl
theorem rr88t : resC Try.prog Try.f88 = some r88t := by kernel_rfl
end Go.Proofs.Ythifjndenhjobaa

/- The functions' code in the small language. Printed by program (wip/tools). -/
namespace Go.Proofs.Ythifjndenhjobaa
set_option linter.unusedVariables false
set_option linter.unusedSimpArgs false
open Go.RowKit
def hhh : Nat → Nat → Option Md := fun fn slot => if (fn, slot) ∈ [(40, 11)] then some .hp else none

def c40hl0 : AC :=
 .seq (.seq (.reg [⟨(some 3), .mv (.t 2), none⟩,
 ⟨(some 4), .bin .leq (.t 3) (.c (.d (.v (.int .i64 6)))), none⟩])
 (.cond (.t 4) (.skip) (.exit 0)))
 (.seq (.block 1 (.reg [⟨(some 7), .mv (.t 1), none⟩,
 ⟨(some 8), .mv (.t 2), none⟩,
 ⟨(some 9), .bd [(.d (.v (.int .i64 0))), (.d (.v (.string ⟨#[]⟩))), (.d (.v (.string ⟨#[]⟩))), (.d (.v (.int .i64 0))), (.d (.v (.int .i64 0))), (.d (.v (.int .i64 0))), .esl, .esl, (.d (.v (.int .i64 0))), (.d (.v (.int .i64 0)))] [(0, 1, (.t 8))], none⟩,
 ⟨(some 10), .bs .im 49 10 [(.t 9)], none⟩,
 ⟨(some 11), .app .hp 49 10 128 (.t 7) (.t 10), none⟩,
 ⟨(some 1), .mv (.t 11), none⟩]))
 (.reg [⟨(some 5), .mv (.t 2), none⟩,
 ⟨(some 6), .bin .add (.t 5) (.c (.d (.v (.int .i64 1)))), none⟩,
 ⟨(some 2), .mv (.t 6), none⟩]))

def c40h : AC :=
 .seq (.reg [⟨(some 0), .mv (.c .esl), none⟩])
 (.seq (.reg [⟨(some 1), .mv (.c .esl), none⟩])
 (.seq (.seq (.reg [⟨(some 2), .mv (.c (.d (.v (.int .i64 0)))), none⟩])
 (.block 0 (.loop c40hl0)))
 (.seq (.reg [⟨(some 12), .mv (.t 1), none⟩,
 ⟨(some 0), .mv (.t 12), none⟩])
 (.ret))))
def r40h : List RC := [.t 0]

theorem cc40h : Try.f40.body.bind (comp Try.prog (hhh 40)) = some c40h := by kernel_rfl
theorem rr40h : resC Try.prog Try.f40 = some r40h := by kernel_rfl
end Go.Proofs.Ythifjndenhjobaa
