/- The functions' code in the small language. Printed by program (wip/tools). -/
import Derived.Test.YthifjndenhjobaaXRead
import Derived.Test.YthifjndenhjobaaXCode
import Derived.Test.YthifjndenhjobaaProg
import Derived.KernelRfl
namespace Go.Proofs.Ythifjndenhjobaa
set_option linter.unusedVariables false
set_option linter.unusedSimpArgs false
open Go.RowKit
def hhI : Nat → Nat → Option Md := fun fn slot => if (fn, slot) ∈ [(110, 7), (110, 36), (110, 50), (136, 8), (34, 3), (40, 1), (51, 1)] then some .gr else if (fn, slot) ∈ [(34, 19), (34, 23), (16, 6), (16, 15)] then some .im else none

def c3 : AC :=
 .seq (.reg [kn 2 (.bx (.t 0)), kn 4 (.mv (.c (.d (.v (.bool false)))))])
 (.seq (.seq (.reg [kn 10 (.ld (.t 2) 5 true), kn 11 (.call 14 [(.t 10)]), kn 12 (.mv (.t 11)), ko 13 12 (.mv (.t 1)), ko 14 12 (.len true (.t 13)), ko 15 12 (.bin .gtr (.t 14) (kc 500)), kn 16 (.pick (.t 12) (.c (.d (.v (.bool true)))) (.t 15))])
 (.cond (.t 16) (.seq (.reg [kn 17 (.call 15 []), kn 4 (.mv (.t 17))])
 (.ret)) (.skip)))
 (.seq (.reg [kn 18 (.ld (.t 2) 5 true), kn 19 (.call 16 [(.t 18)]), kn 5 (.al [(.d (.v (.string ⟨#[]⟩))), (.d (.v (.int .u32 0))), .esl, .esl, .esl]), ke (.st (.t 5) (.t 19) 5)])
 (.seq (.reg [kn 21 (.ld (.t 2) 5 true), kn 22 (.call 16 [(.t 21)]), kn 23 (.mv (.t 1)), kn 24 (.call 17 [(.t 22), (.t 23)]), kn 20 (.mv (.t 24)), kn 25 (.ext (.t 20) 0), kn 26 (.ext (.t 20) 1), kn 6 (.al [kz, (.d (.v (.string ⟨#[]⟩))), kz, kz, kz, (.d (.v (.string ⟨#[]⟩))), kz]), ke (.st (.t 6) (.t 25) 7), kn 7 (.mv (.t 26))])
 (.seq (.reg [kn 28 (.ld (.t 2) 5 true), kn 29 (.mv (.t 1)), kn 30 (.call 18 [(.t 28), (.t 29)]), kn 27 (.mv (.t 30)), kn 31 (.ext (.t 27) 0), kn 32 (.ext (.t 27) 1), kn 8 (.al [kz, (.d (.v (.string ⟨#[]⟩))), kz, kz, kz, (.d (.v (.string ⟨#[]⟩))), kz]), ke (.st (.t 8) (.t 31) 7), kn 9 (.mv (.t 32))])
 (.seq (.dreg [[], [0], [], [2, 1], [1, 3], [4, 3], [5], [5], [6, 7, 5], [5, 8], [9, 5], [10], [10], [11, 12, 10, 10], [10, 13], [14, 13], [15], [15], [16, 17, 15, 15], [15, 18], [19, 18], [20, 20], [20, 21], [22, 21, 0, 1, 2, 3, 4, 5, 6, 7, 8, 9, 10, 11, 12, 13, 14, 15, 16, 17, 18, 19, 20, 21, 22]] [kn 33 (.ld (.t 5) 5 true), kn 34 (.call 19 [(.t 33)]), kn 35 (.ld (.t 2) 5 true), kn 36 (.call 20 [(.t 35)]), kn 37 (.eqs false (.t 34) (.t 36)), kn 38 (.mv (.t 37)), ky 39 38 (.mv (.t 7)), ky 40 38 (.mv (.t 9)), ky 41 38 (.eqs false (.t 39) (.t 40)), kn 42 (.pick (.t 38) (.t 41) (.c (.d (.v (.bool false))))), kn 43 (.mv (.t 42)), ky 44 43 (.ld (.t 6) 7 true), ky 45 43 (.ld (.t 8) 7 true), ky 46 43 (.call 21 [(.t 44), (.t 45)]), kn 47 (.pick (.t 43) (.t 46) (.c (.d (.v (.bool false))))), kn 48 (.mv (.t 47)), ky 49 48 (.ld (.t 5) 5 true), ky 50 48 (.ld (.t 2) 5 true), ky 51 48 (.call 22 [(.t 49), (.t 50)]), kn 52 (.pick (.t 48) (.t 51) (.c (.d (.v (.bool false))))), kn 53 (.mv (.t 52)), ky 54 53 (.call 15 []), kn 55 (.pick (.t 53) (.t 54) (.c (.d (.v (.bool false))))), kn 4 (.mv (.t 55))])
 (.ret))))))
def r3 : List RC := [.t 4]

def c4 : AC :=
 .seq (.reg [kn 1 (.bx (.t 0)), kn 2 (.mv (.c (.d (.v (.bool false)))))])
 (.seq (.seq (.reg [kn 8 (.ld (.t 1) 5 true), kn 9 (.call 14 [(.t 8)])])
 (.cond (.t 9) (.seq (.reg [kn 10 (.call 15 []), kn 2 (.mv (.t 10))])
 (.ret)) (.skip)))
 (.seq (.reg [kn 11 (.ld (.t 1) 5 true), kn 12 (.call 16 [(.t 11)]), kn 3 (.al [(.d (.v (.string ⟨#[]⟩))), (.d (.v (.int .u32 0))), .esl, .esl, .esl]), ke (.st (.t 3) (.t 12) 5)])
 (.seq (.reg [kn 14 (.ld (.t 3) 5 true), kn 15 (.call 23 [(.t 14)]), kn 13 (.mv (.t 15)), kn 16 (.ext (.t 13) 0), kn 17 (.ext (.t 13) 1), kn 4 (.al [(.d (.v (.string ⟨#[]⟩))), (.d (.v (.int .u32 0))), .esl, .esl, .esl]), ke (.st (.t 4) (.t 16) 5), kn 5 (.mv (.t 17))])
 (.seq (.reg [kn 19 (.ld (.t 1) 5 true), kn 20 (.call 24 [(.t 19)]), kn 18 (.mv (.t 20)), kn 21 (.ext (.t 18) 0), kn 22 (.ext (.t 18) 1), kn 6 (.al [(.d (.v (.string ⟨#[]⟩))), (.d (.v (.int .u32 0))), .esl, .esl, .esl]), ke (.st (.t 6) (.t 21) 5), kn 7 (.mv (.t 22))])
 (.seq (.reg [kn 23 (.mv (.t 5)), kn 24 (.mv (.t 7)), kn 25 (.bin .eql (.t 23) (.t 24)), kn 26 (.mv (.t 25)), ky 27 26 (.ld (.t 4) 5 true), ky 28 26 (.ld (.t 6) 5 true), ky 29 26 (.call 22 [(.t 27), (.t 28)]), kn 30 (.pick (.t 26) (.t 29) (.c (.d (.v (.bool false))))), kn 31 (.mv (.t 30)), ky 32 31 (.ld (.t 3) 5 true), ky 33 31 (.ld (.t 1) 5 true), ky 34 31 (.call 22 [(.t 32), (.t 33)]), kn 35 (.pick (.t 31) (.t 34) (.c (.d (.v (.bool false))))), kn 36 (.mv (.t 35)), ky 37 36 (.call 15 []), kn 38 (.pick (.t 36) (.t 37) (.c (.d (.v (.bool false))))), kn 2 (.mv (.t 38))])
 (.ret))))))
def c5 : AC :=
 .seq (.reg [kn 2 (.bx (.t 0)), kn 4 (.mv (.c (.d (.v (.bool false)))))])
 (.seq (.seq (.reg [kn 10 (.ld (.t 2) 5 true), kn 11 (.call 14 [(.t 10)]), kn 12 (.mv (.t 11)), ko 13 12 (.ld (.t 2) 5 true), ko 14 12 (.call 20 [(.t 13)]), ko 15 12 (.un .not (.t 14)), kn 16 (.pick (.t 12) (.c (.d (.v (.bool true)))) (.t 15)), kn 17 (.mv (.t 16)), ko 18 17 (.fa (.t 2) 3), ko 19 17 (.ld (.t 18) 1 false), ko 20 17 (.len false (.t 19)), ko 21 17 (.bin .gtr (.t 20) (kc 250)), kn 22 (.pick (.t 17) (.c (.d (.v (.bool true)))) (.t 21))])
 (.cond (.t 22) (.seq (.reg [kn 23 (.call 15 []), kn 4 (.mv (.t 23))])
 (.ret)) (.skip)))
 (.seq (.reg [kn 24 (.ld (.t 2) 5 true), kn 25 (.call 16 [(.t 24)]), kn 5 (.al [(.d (.v (.string ⟨#[]⟩))), (.d (.v (.int .u32 0))), .esl, .esl, .esl]), ke (.st (.t 5) (.t 25) 5)])
 (.seq (.reg [kn 26 (.fa (.t 5) 3), kn 27 (.ld (.t 26) 1 false), kn 28 (.mv (.t 1)), kn 29 (.cvi .u64 (.t 28)), kn 30 (.bin .rem (.t 29) (.c (.d (.v (.int .u64 4096))))), kn 31 (.cvi .i64 (.t 30)), kn 32 (.bin .add (kc 1) (.t 31)), kn 33 (.bd [kz, (.d (.v (.string ⟨#[]⟩))), (.d (.v (.string ⟨#[]⟩))), kz, kz, kz, .esl, .esl, kz, kz] [(0, 1, (kc 7)), (3, 1, (.t 32)), (4, 1, (kc 3))]), kn 34 (.bs .im 49 10 [(.t 33)]), kn 35 (.app .gr 49 10 128 (.t 27) (.t 34)), kn 36 (.fa (.t 5) 3), ke (.st (.t 36) (.t 35) 1)])
 (.seq (.reg [kn 38 (.ld (.t 2) 5 true), kn 39 (.call 16 [(.t 38)]), kn 40 (.call 23 [(.t 39)]), kn 37 (.mv (.t 40)), kn 41 (.ext (.t 37) 0), kn 42 (.ext (.t 37) 1), kn 6 (.al [(.d (.v (.string ⟨#[]⟩))), (.d (.v (.int .u32 0))), .esl, .esl, .esl]), ke (.st (.t 6) (.t 41) 5), kn 7 (.mv (.t 42))])
 (.seq (.reg [kn 44 (.ld (.t 5) 5 true), kn 45 (.call 23 [(.t 44)]), kn 43 (.mv (.t 45)), kn 46 (.ext (.t 43) 0), kn 47 (.ext (.t 43) 1), kn 8 (.al [(.d (.v (.string ⟨#[]⟩))), (.d (.v (.int .u32 0))), .esl, .esl, .esl]), ke (.st (.t 8) (.t 46) 5), kn 9 (.mv (.t 47))])
 (.seq (.reg [kn 48 (.mv (.t 7)), kn 49 (.mv (.t 9)), kn 50 (.bin .eql (.t 48) (.t 49)), kn 51 (.mv (.t 50)), ky 52 51 (.mv (.t 7)), ky 53 51 (.bin .eql (.t 52) (kc 0)), ky 54 51 (.mv (.t 53)), ko 55 54 (.mv (.t 7)), ko 56 54 (.bin .eql (.t 55) (kc 160)), ky 57 51 (.pick (.t 54) (.c (.d (.v (.bool true)))) (.t 56)), kn 58 (.pick (.t 51) (.t 57) (.c (.d (.v (.bool false))))), kn 59 (.mv (.t 58)), ky 60 59 (.ld (.t 6) 5 true), ky 61 59 (.ld (.t 8) 5 true), ky 62 59 (.call 22 [(.t 60), (.t 61)]), kn 63 (.pick (.t 59) (.t 62) (.c (.d (.v (.bool false))))), kn 64 (.mv (.t 63)), ky 65 64 (.call 15 []), kn 66 (.pick (.t 64) (.t 65) (.c (.d (.v (.bool false))))), kn 4 (.mv (.t 66))])
 (.ret)))))))
def c6l0 : AC :=
 .seq (.seq (.reg [kn 34 (.mv (.t 8)), kn 35 (.fa (.t 2) 4), kn 36 (.ld (.t 35) 1 false), kn 37 (.len false (.t 36)), kn 38 (.bin .lss (.t 34) (.t 37))])
 (.cond (.t 38) (.skip) (.exit 0)))
 (.seq (.block 1 (.seq (.dreg [[], [0], [], [2], [], [3, 4], [5], [6], [1, 7, 1], [8], [9], [9], [], [12, 10, 8, 0, 1, 2, 3, 4, 5, 6, 7, 8, 9, 10, 12], [11, 13, 0, 1, 2, 3, 4, 5, 6, 7, 8, 9, 10, 11, 12, 13]] [kn 42 (.ld (.t 2) 5 true), kn 43 (.call 16 [(.t 42)]), kn 44 (.fa (.t 2) 4), kn 45 (.ld (.t 44) 1 false), kn 46 (.mv (.t 8)), kn 47 (.ia (.t 45) (.t 46) 7), kn 48 (.fa (.t 47) 1), kn 49 (.ld (.t 48) 1 false), kn 50 (.call 17 [(.t 43), (.t 49)]), kn 41 (.mv (.t 50)), kn 51 (.ext (.t 41) 0), kn 52 (.ext (.t 41) 1), kn 9 (.al [kz, (.d (.v (.string ⟨#[]⟩))), kz, kz, kz, (.d (.v (.string ⟨#[]⟩))), kz]), ke (.st (.t 9) (.t 51) 7), kn 10 (.mv (.t 52))])
 (.seq (.seq (.dreg [[], [0], [1], [2], [2], [4, 2], [2], [5, 6, 2], [7, 2], [3, 8, 2, 2], [9, 2], [2, 10]] [kn 53 (.mv (.t 10)), kn 54 (.un .not (.t 53)), kn 55 (.mv (.t 54)), ko 56 55 (.ld (.t 9) 7 true), ko 57 55 (.fa (.t 2) 4), ko 58 55 (.ld (.t 57) 1 false), ko 59 55 (.mv (.t 8)), ko 60 55 (.ia (.t 58) (.t 59) 7), ko 61 55 (.ld (.t 60) 7 true), ko 62 55 (.call 21 [(.t 56), (.t 61)]), ko 63 55 (.un .not (.t 62)), kn 64 (.pick (.t 55) (.c (.d (.v (.bool true)))) (.t 63))])
 (.cond (.t 64) (.seq (.reg [kn 4 (.mv (.c (.d (.v (.bool false)))))])
 (.ret)) (.skip)))
 (.seq (.dreg [[], [], [1], [], [2, 3], [4], [5], [0, 6], [7], [8], [8], [], [11, 9, 7, 0, 1, 2, 3, 4, 5, 6, 7, 8, 9, 11], [10, 12, 0, 1, 2, 3, 4, 5, 6, 7, 8, 9, 10, 11, 12]] [kn 66 (.ld (.t 5) 5 true), kn 67 (.fa (.t 2) 4), kn 68 (.ld (.t 67) 1 false), kn 69 (.mv (.t 8)), kn 70 (.ia (.t 68) (.t 69) 7), kn 71 (.fa (.t 70) 1), kn 72 (.ld (.t 71) 1 false), kn 73 (.call 17 [(.t 66), (.t 72)]), kn 65 (.mv (.t 73)), kn 74 (.ext (.t 65) 0), kn 75 (.ext (.t 65) 1), kn 11 (.al [kz, (.d (.v (.string ⟨#[]⟩))), kz, kz, kz, (.d (.v (.string ⟨#[]⟩))), kz]), ke (.st (.t 11) (.t 74) 7), kn 12 (.mv (.t 75))])
 (.seq (.seq (.reg [kn 76 (.mv (.t 6)), kn 77 (.bin .eql (.t 76) (kc 0)), kn 78 (.mv (.t 77)), ky 79 78 (.mv (.t 12)), ky 80 78 (.un .not (.t 79)), ky 81 78 (.mv (.t 80)), ko 82 81 (.fa (.t 11) 0), ko 83 81 (.ld (.t 82) 1 false), ko 84 81 (.fa (.t 9) 0), ko 85 81 (.ld (.t 84) 1 false), ko 86 81 (.bin .neq (.t 83) (.t 85)), ky 87 78 (.pick (.t 81) (.c (.d (.v (.bool true)))) (.t 86)), ky 88 78 (.mv (.t 87)), ko 89 88 (.fa (.t 11) 6), ko 90 88 (.ld (.t 89) 1 false), ko 91 88 (.fa (.t 9) 6), ko 92 88 (.ld (.t 91) 1 false), ko 93 88 (.bin .neq (.t 90) (.t 92)), ky 94 78 (.pick (.t 88) (.c (.d (.v (.bool true)))) (.t 93)), kn 95 (.pick (.t 78) (.t 94) (.c (.d (.v (.bool false)))))])
 (.cond (.t 95) (.seq (.reg [kn 4 (.mv (.c (.d (.v (.bool false)))))])
 (.ret)) (.skip)))
 (.reg [kn 96 (.mv (.t 7)), kn 97 (.mv (.t 96)), ko 98 97 (.fa (.t 2) 4), ko 99 97 (.ld (.t 98) 1 false), ko 100 97 (.mv (.t 8)), ko 101 97 (.ia (.t 99) (.t 100) 7), ko 102 97 (.fa (.t 101) 1), ko 103 97 (.ld (.t 102) 1 false), ko 104 97 (.mv (.t 1)), ko 105 97 (.bin .eql (.t 103) (.t 104)), kn 106 (.pick (.t 97) (.c (.d (.v (.bool true)))) (.t 105)), kn 7 (.mv (.t 106))]))))))
 (.reg [kn 39 (.mv (.t 8)), kn 40 (.bin .add (.t 39) (kc 1)), kn 8 (.mv (.t 40))]))

def c6 : AC :=
 .seq (.reg [kn 2 (.bx (.t 0)), kn 4 (.mv (.c (.d (.v (.bool false)))))])
 (.seq (.seq (.reg [kn 15 (.ld (.t 2) 5 true), kn 16 (.call 14 [(.t 15)]), kn 17 (.mv (.t 16)), ko 18 17 (.mv (.t 1)), ko 19 17 (.len true (.t 18)), ko 20 17 (.bin .gtr (.t 19) (kc 500)), kn 21 (.pick (.t 17) (.c (.d (.v (.bool true)))) (.t 20)), kn 22 (.mv (.t 21)), ko 23 22 (.ld (.t 2) 5 true), ko 24 22 (.call 20 [(.t 23)]), ko 25 22 (.un .not (.t 24)), kn 26 (.pick (.t 22) (.c (.d (.v (.bool true)))) (.t 25))])
 (.cond (.t 26) (.seq (.reg [kn 27 (.call 15 []), kn 4 (.mv (.t 27))])
 (.ret)) (.skip)))
 (.seq (.reg [kn 29 (.ld (.t 2) 5 true), kn 30 (.call 16 [(.t 29)]), kn 31 (.call 23 [(.t 30)]), kn 28 (.mv (.t 31)), kn 32 (.ext (.t 28) 0), kn 33 (.ext (.t 28) 1), kn 5 (.al [(.d (.v (.string ⟨#[]⟩))), (.d (.v (.int .u32 0))), .esl, .esl, .esl]), ke (.st (.t 5) (.t 32) 5), kn 6 (.mv (.t 33))])
 (.seq (.reg [kn 7 (.mv (.c (.d (.v (.bool false)))))])
 (.seq (.seq (.reg [kn 8 (.mv (kc 0))])
 (.block 0 (.loop c6l0)))
 (.seq (.reg [kn 108 (.ld (.t 2) 5 true), kn 109 (.call 16 [(.t 108)]), kn 110 (.mv (.t 1)), kn 111 (.call 17 [(.t 109), (.t 110)]), kn 107 (.mv (.t 111)), kn 112 (.ext (.t 107) 0), kn 113 (.ext (.t 107) 1), kn 13 (.al [kz, (.d (.v (.string ⟨#[]⟩))), kz, kz, kz, (.d (.v (.string ⟨#[]⟩))), kz]), ke (.st (.t 13) (.t 112) 7), kn 14 (.mv (.t 113))])
 (.seq (.reg [kn 114 (.mv (.t 14)), kn 115 (.mv (.t 7)), kn 116 (.eqs false (.t 114) (.t 115)), kn 117 (.mv (.t 116)), ky 118 117 (.call 15 []), kn 119 (.pick (.t 117) (.t 118) (.c (.d (.v (.bool false))))), kn 4 (.mv (.t 119))])
 (.ret)))))))
def c7 : AC :=
 .seq (.reg [kn 2 (.bx (.t 0)), kn 3 (.bx (.t 1)), kn 4 (.mv (.c (.d (.v (.bool false)))))])
 (.seq (.seq (.reg [kn 5 (.ld (.t 2) 5 true), kn 6 (.call 14 [(.t 5)]), kn 7 (.mv (.t 6)), ko 8 7 (.ld (.t 3) 5 true), ko 9 7 (.call 14 [(.t 8)]), kn 10 (.pick (.t 7) (.c (.d (.v (.bool true)))) (.t 9))])
 (.cond (.t 10) (.seq (.reg [kn 11 (.call 15 []), kn 4 (.mv (.t 11))])
 (.ret)) (.skip)))
 (.seq (.dreg [[], [0], [], [2, 1], [1, 3, 3], [], [], [5, 6, 4], [4, 7], [8, 7], [9], [10, 9, 9], [9], [12, 11, 9], [11, 13, 13, 9], [9, 14], [15, 14], [16, 16], [16, 17], [18, 17, 0, 1, 2, 3, 4, 5, 6, 7, 8, 9, 10, 11, 12, 13, 14, 15, 16, 17, 18]] [kn 12 (.ld (.t 2) 5 true), kn 13 (.call 16 [(.t 12)]), kn 14 (.ld (.t 3) 5 true), kn 15 (.call 16 [(.t 14)]), kn 16 (.call 25 [(.t 13), (.t 15)]), kn 17 (.ld (.t 2) 5 true), kn 18 (.ld (.t 3) 5 true), kn 19 (.call 22 [(.t 17), (.t 18)]), kn 20 (.eqs false (.t 16) (.t 19)), kn 21 (.mv (.t 20)), ky 22 21 (.ld (.t 2) 5 true), ky 23 21 (.call 16 [(.t 22)]), ky 24 21 (.ld (.t 2) 5 true), ky 25 21 (.call 16 [(.t 24)]), ky 26 21 (.call 25 [(.t 23), (.t 25)]), kn 27 (.pick (.t 21) (.t 26) (.c (.d (.v (.bool false))))), kn 28 (.mv (.t 27)), ky 29 28 (.call 15 []), kn 30 (.pick (.t 28) (.t 29) (.c (.d (.v (.bool false))))), kn 4 (.mv (.t 30))])
 (.ret)))
def c8l0 : AC :=
 .seq (.seq (.reg [kn 75 (.mv (.t 7)), kn 76 (.fa (.t 1) 4), kn 77 (.ld (.t 76) 1 false), kn 78 (.len false (.t 77)), kn 79 (.bin .lss (.t 75) (.t 78))])
 (.cond (.t 79) (.skip) (.exit 0)))
 (.seq (.block 1 (.seq (.dreg [[], [0], [], [1, 2], [3], [4], [], [6], [], [7, 8], [9], [10], [5, 11], [12], [13], [14, 13], [13], [15, 16, 13], [17, 13], [18, 13], [13], [20, 13], [13], [21, 22, 13], [23, 13], [24, 13], [19, 25, 13], [13, 26], [27, 13], [28], [29, 28], [28], [30, 31, 28], [32, 28], [33, 28], [28], [35, 28], [28], [36, 37, 28], [38, 28], [39, 28], [34, 40, 28], [28, 41], [42, 28], [43], [44, 43], [43], [46, 43], [43], [47, 48, 43], [49, 43], [50, 43], [45, 51, 43], [52, 43], [53, 43], [43], [55, 43], [43], [57, 43], [43], [58, 59, 43], [60, 43], [61, 43], [56, 62, 43], [63, 43], [64, 43], [54, 65, 43], [43, 66]] [kn 82 (.fa (.t 3) 4), kn 83 (.ld (.t 82) 1 false), kn 84 (.mv (.t 7)), kn 85 (.ia (.t 83) (.t 84) 7), kn 86 (.fa (.t 85) 1), kn 87 (.ld (.t 86) 1 false), kn 88 (.fa (.t 1) 4), kn 89 (.ld (.t 88) 1 false), kn 90 (.mv (.t 7)), kn 91 (.ia (.t 89) (.t 90) 7), kn 92 (.fa (.t 91) 1), kn 93 (.ld (.t 92) 1 false), kn 94 (.bin .neq (.t 87) (.t 93)), kn 95 (.mv (.t 94)), ko 96 95 (.fa (.t 3) 4), ko 97 95 (.ld (.t 96) 1 false), ko 98 95 (.mv (.t 7)), ko 99 95 (.ia (.t 97) (.t 98) 7), ko 100 95 (.fa (.t 99) 0), ko 101 95 (.ld (.t 100) 1 false), ko 102 95 (.fa (.t 1) 4), ko 103 95 (.ld (.t 102) 1 false), ko 104 95 (.mv (.t 7)), ko 105 95 (.ia (.t 103) (.t 104) 7), ko 106 95 (.fa (.t 105) 0), ko 107 95 (.ld (.t 106) 1 false), ko 108 95 (.bin .neq (.t 101) (.t 107)), kn 109 (.pick (.t 95) (.c (.d (.v (.bool true)))) (.t 108)), kn 110 (.mv (.t 109)), ko 111 110 (.fa (.t 3) 4), ko 112 110 (.ld (.t 111) 1 false), ko 113 110 (.mv (.t 7)), ko 114 110 (.ia (.t 112) (.t 113) 7), ko 115 110 (.fa (.t 114) 6), ko 116 110 (.ld (.t 115) 1 false), ko 117 110 (.fa (.t 1) 4), ko 118 110 (.ld (.t 117) 1 false), ko 119 110 (.mv (.t 7)), ko 120 110 (.ia (.t 118) (.t 119) 7), ko 121 110 (.fa (.t 120) 6), ko 122 110 (.ld (.t 121) 1 false), ko 123 110 (.bin .neq (.t 116) (.t 122)), kn 124 (.pick (.t 110) (.c (.d (.v (.bool true)))) (.t 123)), kn 125 (.mv (.t 124)), ko 126 125 (.fa (.t 3) 3), ko 127 125 (.ld (.t 126) 1 false), ko 128 125 (.fa (.t 3) 4), ko 129 125 (.ld (.t 128) 1 false), ko 130 125 (.mv (.t 7)), ko 131 125 (.ia (.t 129) (.t 130) 7), ko 132 125 (.fa (.t 131) 2), ko 133 125 (.ld (.t 132) 1 false), ko 134 125 (.ia (.t 127) (.t 133) 10), ko 135 125 (.fa (.t 134) 0), ko 136 125 (.ld (.t 135) 1 false), ko 137 125 (.fa (.t 1) 3), ko 138 125 (.ld (.t 137) 1 false), ko 139 125 (.fa (.t 1) 4), ko 140 125 (.ld (.t 139) 1 false), ko 141 125 (.mv (.t 7)), ko 142 125 (.ia (.t 140) (.t 141) 7), ko 143 125 (.fa (.t 142) 2), ko 144 125 (.ld (.t 143) 1 false), ko 145 125 (.ia (.t 138) (.t 144) 10), ko 146 125 (.fa (.t 145) 0), ko 147 125 (.ld (.t 146) 1 false), ko 148 125 (.bin .neq (.t 136) (.t 147)), kn 149 (.pick (.t 125) (.c (.d (.v (.bool true)))) (.t 148))])
 (.cond (.t 149) (.seq (.reg [kn 2 (.mv (.c (.d (.v (.bool false)))))])
 (.ret)) (.skip))))
 (.reg [kn 80 (.mv (.t 7)), kn 81 (.bin .add (.t 80) (kc 1)), kn 7 (.mv (.t 81))]))

def c8 : AC :=
 .seq (.reg [kn 1 (.bx (.t 0)), kn 2 (.mv (.c (.d (.v (.bool false)))))])
 (.seq (.seq (.reg [kn 8 (.ld (.t 1) 5 true), kn 9 (.call 14 [(.t 8)])])
 (.cond (.t 9) (.seq (.reg [kn 10 (.call 15 []), kn 2 (.mv (.t 10))])
 (.ret)) (.skip)))
 (.seq (.reg [kn 12 (.ld (.t 1) 5 true), kn 13 (.call 16 [(.t 12)]), kn 14 (.call 23 [(.t 13)]), kn 11 (.mv (.t 14)), kn 15 (.ext (.t 11) 0), kn 16 (.ext (.t 11) 1), kn 3 (.al [(.d (.v (.string ⟨#[]⟩))), (.d (.v (.int .u32 0))), .esl, .esl, .esl]), ke (.st (.t 3) (.t 15) 5), kn 4 (.mv (.t 16))])
 (.seq (.seq (.reg [kn 17 (.mv (.t 4)), kn 18 (.bin .neq (.t 17) (kc 0))])
 (.cond (.t 18) (.seq (.reg [kn 19 (.mv (.t 4)), kn 20 (.bin .eql (.t 19) (kc 160)), kn 21 (.mv (.t 20)), ky 22 21 (.fa (.t 3) 3), ky 23 21 (.ld (.t 22) 1 false), ky 24 21 (.len false (.t 23)), ky 25 21 (.bin .eql (.t 24) (kc 0)), kn 26 (.pick (.t 21) (.t 25) (.c (.d (.v (.bool false))))), kn 27 (.mv (.t 26)), ky 28 27 (.fa (.t 3) 0), ky 29 27 (.ld (.t 28) 1 false), ky 30 27 (.bin .eql (.t 29) (.c (.d (.v (.string ⟨#[]⟩))))), kn 31 (.pick (.t 27) (.t 30) (.c (.d (.v (.bool false))))), kn 32 (.mv (.t 31)), ky 33 32 (.call 15 []), kn 34 (.pick (.t 32) (.t 33) (.c (.d (.v (.bool false))))), kn 2 (.mv (.t 34))])
 (.ret)) (.skip)))
 (.seq (.seq (.reg [kn 35 (.ld (.t 3) 5 true), kn 36 (.call 14 [(.t 35)]), kn 37 (.mv (.t 36)), ko 38 37 (.fa (.t 3) 4), ko 39 37 (.ld (.t 38) 1 false), ko 40 37 (.len false (.t 39)), ko 41 37 (.fa (.t 1) 4), ko 42 37 (.ld (.t 41) 1 false), ko 43 37 (.len false (.t 42)), ko 44 37 (.bin .neq (.t 40) (.t 43)), kn 45 (.pick (.t 37) (.c (.d (.v (.bool true)))) (.t 44)), kn 46 (.mv (.t 45)), ko 47 46 (.fa (.t 3) 3), ko 48 46 (.ld (.t 47) 1 false), ko 49 46 (.len false (.t 48)), ko 50 46 (.fa (.t 1) 3), ko 51 46 (.ld (.t 50) 1 false), ko 52 46 (.len false (.t 51)), ko 53 46 (.bin .gtr (.t 49) (.t 52)), kn 54 (.pick (.t 46) (.c (.d (.v (.bool true)))) (.t 53))])
 (.cond (.t 54) (.seq (.reg [kn 2 (.mv (.c (.d (.v (.bool false)))))])
 (.ret)) (.skip)))
 (.seq (.reg [kn 56 (.ld (.t 3) 5 true), kn 57 (.call 16 [(.t 56)]), kn 58 (.call 23 [(.t 57)]), kn 55 (.mv (.t 58)), kn 59 (.ext (.t 55) 0), kn 60 (.ext (.t 55) 1), kn 5 (.al [(.d (.v (.string ⟨#[]⟩))), (.d (.v (.int .u32 0))), .esl, .esl, .esl]), ke (.st (.t 5) (.t 59) 5), kn 6 (.mv (.t 60))])
 (.seq (.seq (.reg [kn 61 (.mv (.t 6)), kn 62 (.bin .neq (.t 61) (kc 0)), kn 63 (.mv (.t 62)), ko 64 63 (.ld (.t 3) 5 true), ko 65 63 (.call 16 [(.t 64)]), ko 66 63 (.call 19 [(.t 65)]), ko 67 63 (.un .not (.t 66)), kn 68 (.pick (.t 63) (.c (.d (.v (.bool true)))) (.t 67)), kn 69 (.mv (.t 68)), ko 70 69 (.ld (.t 3) 5 true), ko 71 69 (.ld (.t 5) 5 true), ko 72 69 (.call 25 [(.t 70), (.t 71)]), ko 73 69 (.un .not (.t 72)), kn 74 (.pick (.t 69) (.c (.d (.v (.bool true)))) (.t 73))])
 (.cond (.t 74) (.seq (.reg [kn 2 (.mv (.c (.d (.v (.bool false)))))])
 (.ret)) (.skip)))
 (.seq (.seq (.reg [kn 7 (.mv (kc 0))])
 (.block 0 (.loop c8l0)))
 (.seq (.reg [kn 150 (.call 15 []), kn 2 (.mv (.t 150))])
 (.ret)))))))))
def c92 : AC :=
 .seq (.reg [kn 4 (.mv (.c (.d (.v (.bool false)))))])
 (.seq (.reg [kn 5 (.mv (.t 1)), kn 6 (.bin .geq (.t 5) (kc 1)), kn 7 (.mv (.t 6)), ky 8 7 (.mv (.t 1)), ky 9 7 (.bin .leq (.t 8) (kc 32)), kn 10 (.pick (.t 7) (.t 9) (.c (.d (.v (.bool false))))), kn 11 (.mv (.t 10)), ky 12 11 (.mv (.t 1)), ky 13 11 (.bin .sub (.t 12) (kc 1)), ky 14 11 (.bin .shl (kc (-1)) (.t 13)), ky 15 11 (.mv (.t 0)), ky 16 11 (.bin .leq (.t 14) (.t 15)), kn 17 (.pick (.t 11) (.t 16) (.c (.d (.v (.bool false))))), kn 18 (.mv (.t 17)), ky 19 18 (.mv (.t 0)), ky 20 18 (.mv (.t 1)), ky 21 18 (.bin .sub (.t 20) (kc 1)), ky 22 18 (.bin .shl (kc 1) (.t 21)), ky 23 18 (.bin .lss (.t 19) (.t 22)), kn 24 (.pick (.t 18) (.t 23) (.c (.d (.v (.bool false))))), kn 4 (.mv (.t 24))])
 (.ret))
def r92 : List RC := [.t 4]

theorem cc92 : Try.f92.body.bind (comp Try.prog (hhI 92)) = some c92 := by kernel_rfl
theorem rr92 : resC Try.prog Try.f92 = some r92 := by kernel_rfl
end Go.Proofs.Ythifjndenhjobaa
