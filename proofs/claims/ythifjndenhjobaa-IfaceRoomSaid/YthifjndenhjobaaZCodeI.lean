/- The functions' code in the small language. Printed by program (wip/tools). -/
import Derived.Test.YthifjndenhjobaaZRead
import Derived.Test.YthifjndenhjobaaZCode
import Derived.Test.YthifjndenhjobaaProg
import Derived.KernelRfl
namespace Go.Proofs.Ythifjndenhjobaa
set_option linter.unusedVariables false
set_option linter.unusedSimpArgs false
open Go.RowKit
def hhI : Nat → Nat → Option Md := fun fn slot => if (fn, slot) ∈ [(110, 7), (110, 36), (110, 50), (136, 8), (34, 3), (40, 1), (51, 1)] then some .gr else if (fn, slot) ∈ [(34, 19), (34, 23), (16, 6), (16, 15)] then some .im else none

def c15 : AC :=
 .seq (.reg [kn 0 (.mv (.c (.d (.v (.bool false)))))])
 (.seq (.reg [kn 6 (.call 33 []), kn 7 (.call 23 [(.t 6)]), kn 5 (.mv (.t 7)), kn 8 (.ext (.t 5) 0), kn 9 (.ext (.t 5) 1), kn 1 (.al [(.d (.v (.string ⟨#[]⟩))), (.d (.v (.int .u32 0))), .esl, .esl, .esl]), ke (.st (.t 1) (.t 8) 5), kn 2 (.mv (.t 9))])
 (.seq (.reg [kn 11 (.call 33 []), kn 12 (.call 17 [(.t 11), (.c (.d (.v (.string ⟨#[120]⟩))))]), kn 10 (.mv (.t 12)), kn 13 (.ext (.t 10) 0), kn 14 (.ext (.t 10) 1), kn 3 (.al [kz, (.d (.v (.string ⟨#[]⟩))), kz, kz, kz, (.d (.v (.string ⟨#[]⟩))), kz]), ke (.st (.t 3) (.t 13) 7), kn 4 (.mv (.t 14))])
 (.seq (.reg [kn 15 (.mv (.t 2)), kn 16 (.bin .eql (.t 15) (kc 0)), kn 17 (.mv (.t 16)), ky 18 17 (.fa (.t 1) 3), ky 19 17 (.ld (.t 18) 1 false), ky 20 17 (.len false (.t 19)), ky 21 17 (.bin .eql (.t 20) (kc 8)), kn 22 (.pick (.t 17) (.t 21) (.c (.d (.v (.bool false))))), kn 23 (.mv (.t 22)), ky 24 23 (.fa (.t 1) 3), ky 25 23 (.ld (.t 24) 1 false), ky 26 23 (.ia (.t 25) (kc 7) 10), ky 27 23 (.fa (.t 26) 3), ky 28 23 (.ld (.t 27) 1 false), ky 29 23 (.bin .eql (.t 28) (kc 3)), kn 30 (.pick (.t 23) (.t 29) (.c (.d (.v (.bool false))))), kn 31 (.mv (.t 30)), ky 32 31 (.fa (.t 1) 4), ky 33 31 (.ld (.t 32) 1 false), ky 34 31 (.ia (.t 33) (kc 0) 7), ky 35 31 (.fa (.t 34) 2), ky 36 31 (.ld (.t 35) 1 false), ky 37 31 (.bin .eql (.t 36) (kc 7)), kn 38 (.pick (.t 31) (.t 37) (.c (.d (.v (.bool false))))), kn 39 (.mv (.t 38)), ky 40 39 (.mv (.t 4)), kn 41 (.pick (.t 39) (.t 40) (.c (.d (.v (.bool false))))), kn 42 (.mv (.t 41)), ky 43 42 (.fa (.t 3) 2), ky 44 42 (.ld (.t 43) 1 false), ky 45 42 (.bin .eql (.t 44) (kc 8)), kn 46 (.pick (.t 42) (.t 45) (.c (.d (.v (.bool false))))), kn 47 (.mv (.t 46)), ky 48 47 (.call 33 []), ky 49 47 (.call 19 [(.t 48)]), kn 50 (.pick (.t 47) (.t 49) (.c (.d (.v (.bool false))))), kn 0 (.mv (.t 50))])
 (.ret))))
def r15 : List RC := [.t 0]

def c16 : AC :=
 .seq (.reg [kn 1 (.bx (.t 0)), kn 2 (.al [(.d (.v (.string ⟨#[]⟩))), (.d (.v (.int .u32 0))), .esl, .esl, .esl])])
 (.seq (.reg [kn 3 (.bs .im 65 2 []), kn 4 (.fa (.t 1) 2), kn 5 (.ld (.t 4) 1 false), kn 6 (.app .im 65 2 24 (.t 3) (.t 5)), kn 7 (.fa (.t 1) 2), ke (.st (.t 7) (.t 6) 1)])
 (.seq (.reg [kn 8 (.fa (.t 1) 3), kn 9 (.ld (.t 8) 1 false), kn 10 (.call 34 [(.t 9)]), kn 11 (.fa (.t 1) 3), ke (.st (.t 11) (.t 10) 1)])
 (.seq (.reg [kn 12 (.bs .im 34 7 []), kn 13 (.fa (.t 1) 4), kn 14 (.ld (.t 13) 1 false), kn 15 (.app .im 34 7 72 (.t 12) (.t 14)), kn 16 (.fa (.t 1) 4), ke (.st (.t 16) (.t 15) 1)])
 (.seq (.reg [kn 17 (.ld (.t 1) 5 true), ke (.st (.t 2) (.t 17) 5)])
 (.ret)))))
def r16 : List RC := [.c 2 5 true]

def c17l0 : AC :=
 .seq (.reg [kn 12 (.bin .lss (.t 11) (.t 10))])
 (.seq (.cond (.t 12) (.skip) (.exit 0))
 (.seq (.block 1 (.seq (.reg [kn 13 (.ia (.t 9) (.t 11) 7), kn 14 (.ld (.t 13) 7 true), kn 7 (.al [kz, (.d (.v (.string ⟨#[]⟩))), kz, kz, kz, (.d (.v (.string ⟨#[]⟩))), kz]), ke (.st (.t 7) (.t 14) 7)])
 (.seq (.reg [kn 15 (.fa (.t 7) 1), kn 16 (.ld (.t 15) 1 false), kn 17 (.mv (.t 1)), kn 18 (.bin .eql (.t 16) (.t 17))])
 (.cond (.t 18) (.seq (.reg [kn 19 (.ld (.t 7) 7 true), ke (.st (.t 4) (.t 19) 7), kn 5 (.mv (.c (.d (.v (.bool true)))))])
 (.ret)) (.skip)))))
 (.reg [kn 20 (.bin .add (.t 11) (kc 1)), kn 11 (.mv (.t 20))])))

def c17 : AC :=
 .seq (.reg [kn 2 (.bx (.t 0)), kn 4 (.al [kz, (.d (.v (.string ⟨#[]⟩))), kz, kz, kz, (.d (.v (.string ⟨#[]⟩))), kz]), kn 5 (.mv (.c (.d (.v (.bool false)))))])
 (.seq (.seq (.reg [kn 8 (.fa (.t 2) 4), kn 9 (.ld (.t 8) 1 false), kn 10 (.len false (.t 9)), kn 11 (.mv (kc 0))])
 (.block 0 (.loop c17l0)))
 (.seq (.reg [kn 21 (.bd [kz, (.d (.v (.string ⟨#[]⟩))), kz, kz, kz, (.d (.v (.string ⟨#[]⟩))), kz] []), ke (.st (.t 4) (.t 21) 7), kn 5 (.mv (.c (.d (.v (.bool false)))))])
 (.ret)))
def r17 : List RC := [.c 4 7 true, .t 5]

def c19l0 : AC :=
 .seq (.reg [kn 10 (.bin .lss (.t 9) (.t 8))])
 (.seq (.cond (.t 10) (.skip) (.exit 0))
 (.seq (.block 1 (.seq (.reg [kn 11 (.ia (.t 7) (.t 9) 10), kn 12 (.ld (.t 11) 10 true), kn 5 (.al [kz, (.d (.v (.string ⟨#[]⟩))), (.d (.v (.string ⟨#[]⟩))), kz, kz, kz, .esl, .esl, kz, kz]), ke (.st (.t 5) (.t 12) 10)])
 (.seq (.seq (.reg [kn 13 (.fa (.t 5) 0), kn 14 (.ld (.t 13) 1 false), kn 15 (.bin .neq (.t 14) (kc 9))])
 (.cond (.t 15) (.exit 1) (.skip)))
 (.seq (.seq (.reg [kn 16 (.fa (.t 5) 9), kn 17 (.ld (.t 16) 1 false), kn 18 (.bin .lss (.t 17) (kc 0)), kn 19 (.mv (.t 18)), ko 20 19 (.fa (.t 5) 1), ko 21 19 (.ld (.t 20) 1 false), ko 22 19 (.fa (.t 1) 0), ko 23 19 (.ld (.t 22) 1 false), ko 24 19 (.bin .eql (.t 21) (.t 23)), ko 25 19 (.mv (.t 24)), ky 26 25 (.fa (.t 5) 9), ky 27 25 (.ld (.t 26) 1 false), ky 28 25 (.mv (.t 3)), ky 29 25 (.bin .neq (.t 27) (.t 28)), ko 30 19 (.pick (.t 25) (.t 29) (.c (.d (.v (.bool false))))), kn 31 (.pick (.t 19) (.c (.d (.v (.bool true)))) (.t 30))])
 (.cond (.t 31) (.seq (.reg [kn 2 (.mv (.c (.d (.v (.bool false)))))])
 (.ret)) (.skip)))
 (.seq (.reg [kn 32 (.fa (.t 5) 1), kn 33 (.ld (.t 32) 1 false), kn 34 (.fa (.t 1) 0), kn 35 (.ld (.t 34) 1 false), kn 36 (.bin .eql (.t 33) (.t 35))])
 (.cond (.t 36) (.reg [kn 37 (.mv (.t 3)), kn 38 (.bin .add (.t 37) (kc 1)), kn 3 (.mv (.t 38))]) (.skip)))))))
 (.reg [kn 39 (.bin .add (.t 9) (kc 1)), kn 9 (.mv (.t 39))])))

def c19 : AC :=
 .seq (.reg [kn 1 (.bx (.t 0)), kn 2 (.mv (.c (.d (.v (.bool false)))))])
 (.seq (.reg [kn 3 (.mv (kc 0))])
 (.seq (.seq (.reg [kn 6 (.fa (.t 1) 3), kn 7 (.ld (.t 6) 1 false), kn 8 (.len false (.t 7)), kn 9 (.mv (kc 0))])
 (.block 0 (.loop c19l0)))
 (.seq (.reg [kn 40 (.ld (.t 1) 5 true), kn 41 (.call 35 [(.t 40)]), kn 2 (.mv (.t 41))])
 (.ret))))
def r19 : List RC := [.t 2]

def c23l0 : AC :=
 .seq (.reg [kn 31 (.bin .lss (.t 30) (.t 29))])
 (.seq (.cond (.t 31) (.skip) (.exit 0))
 (.seq (.block 1 (.seq (.reg [kn 32 (.ia (.t 28) (.t 30) 7), kn 33 (.ld (.t 32) 7 true), kn 7 (.al [kz, (.d (.v (.string ⟨#[]⟩))), kz, kz, kz, (.d (.v (.string ⟨#[]⟩))), kz]), ke (.st (.t 7) (.t 33) 7)])
 (.seq (.reg [kn 34 (.mv (.t 4)), kn 35 (.fa (.t 7) 2), kn 36 (.ld (.t 35) 1 false), kn 37 (.call 42 [(.t 34), (.t 36)]), kn 38 (.fa (.t 7) 2), ke (.st (.t 38) (.t 37) 1)])
 (.reg [kn 39 (.fa (.t 5) 4), kn 40 (.ld (.t 39) 1 false), kn 41 (.ld (.t 7) 7 true), kn 42 (.bs .im 34 7 [(.t 41)]), kn 43 (.app .gr 34 7 72 (.t 40) (.t 42)), kn 44 (.fa (.t 5) 4), ke (.st (.t 44) (.t 43) 1)]))))
 (.reg [kn 45 (.bin .add (.t 30) (kc 1)), kn 30 (.mv (.t 45))])))

def c23 : AC :=
 .seq (.reg [kn 1 (.bx (.t 0)), kn 2 (.al [(.d (.v (.string ⟨#[]⟩))), (.d (.v (.int .u32 0))), .esl, .esl, .esl]), kn 3 (.mv (kc 0))])
 (.seq (.seq (.reg [kn 8 (.ld (.t 1) 5 true), kn 9 (.call 35 [(.t 8)]), kn 10 (.un .not (.t 9))])
 (.cond (.t 10) (.seq (.reg [kn 11 (.bd [(.d (.v (.string ⟨#[]⟩))), (.d (.v (.int .u32 0))), .esl, .esl, .esl] []), ke (.st (.t 2) (.t 11) 5), kn 3 (.mv (kc 160))])
 (.ret)) (.skip)))
 (.seq (.dreg [[], [0], [], [], [3], [1, 2, 4], [5], [6, 2, 0, 1, 2, 3, 4, 5, 6]] [kn 12 (.fa (.t 1) 3), kn 13 (.ld (.t 12) 1 false), kn 14 (.call 40 []), kn 15 (.fa (.t 1) 0), kn 16 (.ld (.t 15) 1 false), kn 17 (.bd [.esl, kz, kz, kz, kz, kz, kz, kz, kz, kz, kz, kz, kz, kz, kz, kz, kz, kz, kz, kz, kz, kz, kz, kz, kz, kz, kz, kz, kz, kz, kz, kz, kz, kz, kz, kz, kz, kz, kz, kz, kz, kz, kz, kz, kz, kz, kz, kz, kz, kz, kz, kz, kz, kz, kz, kz, kz, kz, kz, kz, kz, kz, kz, kz, kz, kz, kz, kz, kz, kz, kz, kz, kz, kz, kz, kz, kz, kz, kz, kz, kz, kz, kz, kz, kz, kz, kz, kz, kz, kz, kz, kz, kz, kz, kz, kz, kz, kz, kz, kz, kz, kz, kz, kz, kz, kz, kz, kz, kz, kz, kz, kz, kz, kz, kz, kz, kz, kz, kz, kz, kz, kz, kz, kz, kz, kz, kz, kz, kz, kz, kz, kz, kz, kz, kz, kz, kz, kz, kz, kz, kz, kz, kz, kz, kz, kz, kz, kz, kz, kz, kz, kz, kz, kz, kz, kz, kz, kz, kz, kz, kz, kz, kz, kz, kz, kz, kz, kz, kz, kz, kz, kz, kz, kz, kz, kz, kz, kz, kz, kz, kz, kz, kz, kz, kz, kz, kz, kz, kz, kz, kz, kz, kz, kz, kz, kz, kz, kz, kz, kz, kz, kz, kz, kz, kz, kz, kz, kz, kz, kz, kz, kz, kz, kz, kz, kz, kz, kz, kz, kz, kz, kz, kz, kz, kz, kz, kz, kz, kz, kz, kz, kz, kz, kz, kz, kz, kz, kz, kz, kz, kz, kz, kz, kz, kz, kz, kz, kz, kz, kz, kz, kz, kz, kz, kz, kz, kz, .esl, (.d (.v (.string ⟨#[]⟩))), kz] [(0, 1, (.t 13)), (257, 1, (.t 14)), (258, 1, (.t 16))]), kn 18 (.bx (.t 17)), kn 4 (.mv (.t 18))])
 (.seq (.dreg [[], [0], [], [2], [], [4], [5], [1, 3, 6], [], [8, 7, 6, 0, 1, 2, 3, 4, 5, 6, 7, 8]] [kn 19 (.fa (.t 1) 0), kn 20 (.ld (.t 19) 1 false), kn 21 (.fa (.t 1) 1), kn 22 (.ld (.t 21) 1 false), kn 23 (.fa (.t 1) 2), kn 24 (.ld (.t 23) 1 false), kn 25 (.call 41 [(.t 24)]), kn 26 (.bd [(.d (.v (.string ⟨#[]⟩))), (.d (.v (.int .u32 0))), .esl, .esl, .esl] [(0, 1, (.t 20)), (1, 1, (.t 22)), (2, 1, (.t 25))]), kn 5 (.al [(.d (.v (.string ⟨#[]⟩))), (.d (.v (.int .u32 0))), .esl, .esl, .esl]), ke (.st (.t 5) (.t 26) 5)])
 (.seq (.seq (.reg [kn 27 (.fa (.t 1) 4), kn 28 (.ld (.t 27) 1 false), kn 29 (.len false (.t 28)), kn 30 (.mv (kc 0))])
 (.block 0 (.loop c23l0)))
 (.seq (.reg [kn 46 (.mv (.t 4)), kn 47 (.nc (.t 46)), kn 48 (.fa (.t 47) 257), kn 49 (.ld (.t 48) 1 false), kn 50 (.fa (.t 5) 3), ke (.st (.t 50) (.t 49) 1)])
 (.seq (.seq (.reg [kn 51 (.ld (.t 5) 5 true), kn 52 (.call 19 [(.t 51)]), kn 53 (.un .not (.t 52))])
 (.cond (.t 53) (.seq (.reg [kn 54 (.bd [(.d (.v (.string ⟨#[]⟩))), (.d (.v (.int .u32 0))), .esl, .esl, .esl] []), ke (.st (.t 2) (.t 54) 5), kn 3 (.mv (kc 160))])
 (.ret)) (.skip)))
 (.seq (.reg [kn 55 (.ld (.t 5) 5 true), ke (.st (.t 2) (.t 55) 5), kn 3 (.mv (kc 0))])
 (.ret))))))))
def r23 : List RC := [.c 2 5 true, .t 3]

def c33 : AC :=
 .seq (.reg [kn 0 (.al [(.d (.v (.string ⟨#[]⟩))), (.d (.v (.int .u32 0))), .esl, .esl, .esl])])
 (.seq (.reg [kn 2 (.call 51 []), kn 3 (.bd [kz, (.d (.v (.string ⟨#[]⟩))), (.d (.v (.string ⟨#[]⟩))), kz, kz, kz, .esl, .esl, kz, kz] [(0, 1, (kc 7)), (3, 1, (kc 2)), (4, 1, (kc 1))]), kn 4 (.bd [kz, (.d (.v (.string ⟨#[]⟩))), (.d (.v (.string ⟨#[]⟩))), kz, kz, kz, .esl, .esl, kz, kz] [(0, 1, (kc 7)), (3, 1, (kc 3)), (4, 1, (kc 1))]), kn 5 (.bs .im 49 10 [(.t 3), (.t 4)]), kn 6 (.app .gr 49 10 128 (.t 2) (.t 5)), kn 1 (.mv (.t 6))])
 (.seq (.reg [kn 7 (.mv (.t 1)), kn 8 (.bd [kz, (.d (.v (.string ⟨#[]⟩))), kz, kz, kz, (.d (.v (.string ⟨#[]⟩))), kz] [(0, 1, (kc 3)), (1, 1, (.c (.d (.v (.string ⟨#[120]⟩))))), (2, 1, (kc 8))]), kn 9 (.bs .im 34 7 [(.t 8)]), kn 10 (.bd [(.d (.v (.string ⟨#[]⟩))), (.d (.v (.int .u32 0))), .esl, .esl, .esl] [(0, 1, (.c (.d (.v (.string ⟨#[65]⟩))))), (3, 1, (.t 7)), (4, 1, (.t 9))]), ke (.st (.t 0) (.t 10) 5)])
 (.ret)))
def r33 : List RC := [.c 0 5 true]

def c35l0 : AC :=
 .seq (.reg [kn 133 (.bin .lss (.t 132) (.t 131))])
 (.seq (.cond (.t 133) (.skip) (.exit 4))
 (.seq (.block 5 (.seq (.reg [kn 134 (.ia (.t 130) (.t 132) 7), kn 135 (.ld (.t 134) 7 true), kn 13 (.al [kz, (.d (.v (.string ⟨#[]⟩))), kz, kz, kz, (.d (.v (.string ⟨#[]⟩))), kz]), ke (.st (.t 13) (.t 135) 7)])
 (.seq (.reg [kn 136 (.fa (.t 13) 1), kn 137 (.ld (.t 136) 1 false), kn 138 (.bd [(.d (.v (.string ⟨#[]⟩))), (.d (.v (.string ⟨#[]⟩)))] [(0, 1, (.c (.d (.v (.string ⟨#[]⟩))))), (1, 1, (.t 137))]), kn 14 (.al [(.d (.v (.string ⟨#[]⟩))), (.d (.v (.string ⟨#[]⟩)))]), ke (.st (.t 14) (.t 138) 2)])
 (.seq (.dreg [[], [], [0, 1], [2], [0, 1, 0, 1], [4], [0, 5, 3, 4, 0, 1, 2, 3, 4, 5]] [kn 139 (.mv (.t 11)), kn 140 (.ld (.t 14) 2 true), kn 141 (.lk ⟨true, [.s, .s]⟩ kz (.t 139) (.t 140) false), kn 142 (.bin .add (.t 141) (kc 1)), kn 143 (.me ⟨true, [.s, .s]⟩ kz (.t 139) (.t 140)), kn 144 (.ext (.t 143) 1), ke (.mes (.t 139) (.t 144) (.t 142))])
 (.seq (.reg [kn 145 (.mv (.t 11)), kn 146 (.ld (.t 14) 2 true), kn 147 (.lk ⟨true, [.s, .s]⟩ kz (.t 145) (.t 146) false), kn 148 (.bin .gtr (.t 147) (kc 1)), kn 149 (.mv (.t 148)), ko 150 149 (.ld (.t 1) 5 true), ko 151 149 (.ld (.t 13) 7 true), ko 152 149 (.call 81 [(.t 150), (.t 151)]), ko 153 149 (.un .not (.t 152)), kn 154 (.pick (.t 149) (.c (.d (.v (.bool true)))) (.t 153))])
 (.cond (.t 154) (.seq (.reg [kn 2 (.mv (.c (.d (.v (.bool false)))))])
 (.ret)) (.skip)))))))
 (.reg [kn 155 (.bin .add (.t 132) (kc 1)), kn 132 (.mv (.t 155))])))

def c35l1 : AC :=
 .seq (.reg [kn 74 (.bin .lss (.t 73) (.t 72))])
 (.seq (.cond (.t 74) (.skip) (.exit 2))
 (.seq (.block 3 (.seq (.reg [kn 75 (.ia (.t 71) (.t 73) 10), kn 76 (.ld (.t 75) 10 true), kn 9 (.al [kz, (.d (.v (.string ⟨#[]⟩))), (.d (.v (.string ⟨#[]⟩))), kz, kz, kz, .esl, .esl, kz, kz]), ke (.st (.t 9) (.t 76) 10)])
 (.seq (.seq (.reg [kn 77 (.fa (.t 9) 1), kn 78 (.ld (.t 77) 1 false), kn 79 (.bin .neq (.t 78) (.c (.d (.v (.string ⟨#[]⟩))))), kn 80 (.mv (.t 79)), ky 81 80 (.mv (.t 3)), ky 82 80 (.fa (.t 9) 1), ky 83 80 (.ld (.t 82) 1 false), ky 84 80 (.bd [(.d (.v (.string ⟨#[]⟩))), (.d (.v (.string ⟨#[]⟩)))] [(0, 1, (.t 83)), (1, 1, (.c (.d (.v (.string ⟨#[]⟩)))))]), ky 85 80 (.lk ⟨true, [.s, .s]⟩ kz (.t 81) (.t 84) false), ky 86 80 (.bin .eql (.t 85) (kc 0)), kn 87 (.pick (.t 80) (.t 86) (.c (.d (.v (.bool false))))), kn 88 (.mv (.t 87)), ko 89 88 (.fa (.t 9) 0), ko 90 88 (.ld (.t 89) 1 false), ko 91 88 (.bin .eql (.t 90) (kc 9)), ko 92 88 (.mv (.t 91)), ky 93 92 (.fa (.t 9) 1), ky 94 92 (.ld (.t 93) 1 false), ky 95 92 (.fa (.t 1) 0), ky 96 92 (.ld (.t 95) 1 false), ky 97 92 (.bin .neq (.t 94) (.t 96)), ko 98 88 (.pick (.t 92) (.t 97) (.c (.d (.v (.bool false))))), ko 99 88 (.mv (.t 98)), ky 100 99 (.fa (.t 9) 9), ky 101 99 (.ld (.t 100) 1 false), ky 102 99 (.bin .lss (.t 101) (kc 0)), ko 103 88 (.pick (.t 99) (.t 102) (.c (.d (.v (.bool false))))), kn 104 (.pick (.t 88) (.c (.d (.v (.bool true)))) (.t 103))])
 (.cond (.t 104) (.seq (.reg [kn 2 (.mv (.c (.d (.v (.bool false)))))])
 (.ret)) (.skip)))
 (.seq (.seq (.reg [kn 105 (.fa (.t 9) 2), kn 106 (.ld (.t 105) 1 false), kn 107 (.bin .eql (.t 106) (.c (.d (.v (.string ⟨#[]⟩)))))])
 (.cond (.t 107) (.exit 3) (.skip)))
 (.seq (.reg [kn 108 (.fa (.t 9) 1), kn 109 (.ld (.t 108) 1 false), kn 110 (.fa (.t 9) 2), kn 111 (.ld (.t 110) 1 false), kn 112 (.bd [(.d (.v (.string ⟨#[]⟩))), (.d (.v (.string ⟨#[]⟩)))] [(0, 1, (.t 109)), (1, 1, (.t 111))]), kn 113 (.fa (.t 9) 0), kn 114 (.ld (.t 113) 1 false), kn 115 (.bin .eql (.t 114) (kc 9)), kn 116 (.bd [(.d (.v (.string ⟨#[]⟩))), (.d (.v (.string ⟨#[]⟩))), (.d (.v (.bool false)))] [(0, 2, (.t 112)), (2, 1, (.t 115))]), kn 10 (.al [(.d (.v (.string ⟨#[]⟩))), (.d (.v (.string ⟨#[]⟩))), (.d (.v (.bool false)))]), ke (.st (.t 10) (.t 116) 3)])
 (.seq (.dreg [[], [], [0, 1], [2], [0, 1, 0, 1], [4], [0, 5, 3, 4, 0, 1, 2, 3, 4, 5]] [kn 117 (.mv (.t 7)), kn 118 (.ld (.t 10) 3 true), kn 119 (.lk ⟨true, [.s, .s, .b]⟩ kz (.t 117) (.t 118) false), kn 120 (.bin .add (.t 119) (kc 1)), kn 121 (.me ⟨true, [.s, .s, .b]⟩ kz (.t 117) (.t 118)), kn 122 (.ext (.t 121) 1), ke (.mes (.t 117) (.t 122) (.t 120))])
 (.seq (.reg [kn 123 (.mv (.t 7)), kn 124 (.ld (.t 10) 3 true), kn 125 (.lk ⟨true, [.s, .s, .b]⟩ kz (.t 123) (.t 124) false), kn 126 (.bin .gtr (.t 125) (kc 1))])
 (.cond (.t 126) (.seq (.reg [kn 2 (.mv (.c (.d (.v (.bool false)))))])
 (.ret)) (.skip)))))))))
 (.reg [kn 127 (.bin .add (.t 73) (kc 1)), kn 73 (.mv (.t 127))])))

def c35l2 : AC :=
 .seq (.reg [kn 46 (.bin .lss (.t 45) (.t 44))])
 (.seq (.cond (.t 46) (.skip) (.exit 0))
 (.seq (.block 1 (.seq (.reg [kn 47 (.ia (.t 43) (.t 45) 2), kn 48 (.ld (.t 47) 2 true), kn 5 (.al [(.d (.v (.string ⟨#[]⟩))), (.d (.v (.int .u32 0)))]), ke (.st (.t 5) (.t 48) 2)])
 (.seq (.reg [kn 49 (.fa (.t 5) 0), kn 50 (.ld (.t 49) 1 false), kn 51 (.bd [(.d (.v (.string ⟨#[]⟩))), (.d (.v (.string ⟨#[]⟩)))] [(0, 1, (.t 50)), (1, 1, (.c (.d (.v (.string ⟨#[]⟩)))))]), kn 6 (.al [(.d (.v (.string ⟨#[]⟩))), (.d (.v (.string ⟨#[]⟩)))]), ke (.st (.t 6) (.t 51) 2)])
 (.seq (.dreg [[], [], [0, 1], [2], [0, 1, 0, 1], [4], [0, 5, 3, 4, 0, 1, 2, 3, 4, 5]] [kn 52 (.mv (.t 3)), kn 53 (.ld (.t 6) 2 true), kn 54 (.lk ⟨true, [.s, .s]⟩ kz (.t 52) (.t 53) false), kn 55 (.bin .add (.t 54) (kc 1)), kn 56 (.me ⟨true, [.s, .s]⟩ kz (.t 52) (.t 53)), kn 57 (.ext (.t 56) 1), ke (.mes (.t 52) (.t 57) (.t 55))])
 (.seq (.reg [kn 58 (.fa (.t 5) 0), kn 59 (.ld (.t 58) 1 false), kn 60 (.call 79 [(.t 59)]), kn 61 (.un .not (.t 60)), kn 62 (.mv (.t 61)), ko 63 62 (.mv (.t 3)), ko 64 62 (.ld (.t 6) 2 true), ko 65 62 (.lk ⟨true, [.s, .s]⟩ kz (.t 63) (.t 64) false), ko 66 62 (.bin .gtr (.t 65) (kc 1)), kn 67 (.pick (.t 62) (.c (.d (.v (.bool true)))) (.t 66))])
 (.cond (.t 67) (.seq (.reg [kn 2 (.mv (.c (.d (.v (.bool false)))))])
 (.ret)) (.skip)))))))
 (.reg [kn 68 (.bin .add (.t 45) (kc 1)), kn 45 (.mv (.t 68))])))

def c35 : AC :=
 .seq (.reg [kn 1 (.bx (.t 0)), kn 2 (.mv (.c (.d (.v (.bool false)))))])
 (.seq (.seq (.reg [kn 15 (.fa (.t 1) 0), kn 16 (.ld (.t 15) 1 false), kn 17 (.call 79 [(.t 16)]), kn 18 (.un .not (.t 17)), kn 19 (.mv (.t 18)), ko 20 19 (.fa (.t 1) 2), ko 21 19 (.ld (.t 20) 1 false), ko 22 19 (.len false (.t 21)), ko 23 19 (.bin .gtr (.t 22) (kc 16)), kn 24 (.pick (.t 19) (.c (.d (.v (.bool true)))) (.t 23)), kn 25 (.mv (.t 24)), ko 26 25 (.fa (.t 1) 4), ko 27 25 (.ld (.t 26) 1 false), ko 28 25 (.len false (.t 27)), ko 29 25 (.bin .gtr (.t 28) (kc 64)), kn 30 (.pick (.t 25) (.c (.d (.v (.bool true)))) (.t 29)), kn 31 (.mv (.t 30)), ko 32 31 (.fa (.t 1) 3), ko 33 31 (.ld (.t 32) 1 false), ko 34 31 (.call 80 [(.t 33)]), ko 35 31 (.un .not (.t 34)), kn 36 (.pick (.t 31) (.c (.d (.v (.bool true)))) (.t 35))])
 (.cond (.t 36) (.seq (.reg [kn 2 (.mv (.c (.d (.v (.bool false)))))])
 (.ret)) (.skip)))
 (.seq (.reg [kn 37 (.mkm ⟨true, [.s, .s]⟩), kn 38 (.fa (.t 1) 0), kn 39 (.ld (.t 38) 1 false), kn 40 (.bd [(.d (.v (.string ⟨#[]⟩))), (.d (.v (.string ⟨#[]⟩)))] [(0, 1, (.t 39)), (1, 1, (.c (.d (.v (.string ⟨#[]⟩)))))]), ke (.mu ⟨true, [.s, .s]⟩ (.t 37) (.t 40) (kc 1)), kn 41 (.mv (.t 37)), kn 3 (.mv (.t 41))])
 (.seq (.seq (.reg [kn 42 (.fa (.t 1) 2), kn 43 (.ld (.t 42) 1 false), kn 44 (.len false (.t 43)), kn 45 (.mv (kc 0))])
 (.block 0 (.loop c35l2)))
 (.seq (.reg [kn 69 (.mkm ⟨true, [.s, .s, .b]⟩), kn 7 (.mv (.t 69))])
 (.seq (.seq (.reg [kn 70 (.fa (.t 1) 3), kn 71 (.ld (.t 70) 1 false), kn 72 (.len false (.t 71)), kn 73 (.mv (kc 0))])
 (.block 2 (.loop c35l1)))
 (.seq (.reg [kn 128 (.mkm ⟨true, [.s, .s]⟩), kn 11 (.mv (.t 128))])
 (.seq (.seq (.reg [kn 129 (.fa (.t 1) 4), kn 130 (.ld (.t 129) 1 false), kn 131 (.len false (.t 130)), kn 132 (.mv (kc 0))])
 (.block 4 (.loop c35l0)))
 (.seq (.reg [kn 2 (.mv (.c (.d (.v (.bool true)))))])
 (.ret)))))))))
def r35 : List RC := [.t 2]

def c41 : AC :=
 .seq (.reg [kn 2 (.mv (.c .esl))])
 (.seq (.seq (.reg [kn 3 (.mv (.t 0)), kn 4 (.isn false false (.t 3))])
 (.cond (.t 4) (.seq (.reg [kn 2 (.mv (.c .esl))])
 (.ret)) (.skip)))
 (.seq (.reg [kn 5 (.bs .im 65 2 []), kn 6 (.mv (.t 0)), kn 7 (.app .gr 65 2 24 (.t 5) (.t 6)), kn 2 (.mv (.t 7))])
 (.ret)))
def r41 : List RC := [.t 2]

def c42l0 : AC :=
 .seq (.reg [kn 119 (.bin .lss (.t 118) (.t 117))])
 (.seq (.cond (.t 119) (.skip) (.exit 2))
 (.seq (.block 3 (.seq (.reg [kn 120 (.mv (.t 118)), kn 8 (.mv (.t 120))])
 (.dreg [[], [0], [], [], [], [4], [], [5, 6], [7], [8], [3, 9], [1, 2, 0, 1, 2, 3, 4, 5, 6, 7, 8, 9, 10], [11, 0, 1, 2, 3, 4, 5, 6, 7, 8, 9, 10], [12, 10, 10, 0, 1, 2, 3, 4, 5, 6, 7, 8, 9, 10]] [kn 121 (.fa (.t 6) 7), kn 122 (.ld (.t 121) 1 false), kn 123 (.mv (.t 8)), kn 124 (.mv (.t 0)), kn 125 (.fa (.t 6) 7), kn 126 (.ld (.t 125) 1 false), kn 127 (.mv (.t 8)), kn 128 (.ia (.t 126) (.t 127) 2), kn 129 (.fa (.t 128) 1), kn 130 (.ld (.t 129) 1 false), kn 131 (.call 42 [(.t 124), (.t 130)]), kn 132 (.ia (.t 122) (.t 123) 2), kn 133 (.fa (.t 132) 1), ke (.st (.t 133) (.t 131) 1)])))
 (.reg [kn 134 (.bin .add (.t 118) (kc 1)), kn 118 (.mv (.t 134))])))

def c42l1 : AC :=
 .seq (.reg [kn 95 (.bin .lss (.t 94) (.t 93))])
 (.seq (.cond (.t 95) (.skip) (.exit 0))
 (.seq (.block 1 (.seq (.reg [kn 96 (.mv (.t 94)), kn 7 (.mv (.t 96))])
 (.dreg [[], [0], [], [], [], [4], [], [5, 6], [7], [8], [3, 9], [1, 2, 0, 1, 2, 3, 4, 5, 6, 7, 8, 9, 10], [11, 0, 1, 2, 3, 4, 5, 6, 7, 8, 9, 10], [12, 10, 10, 0, 1, 2, 3, 4, 5, 6, 7, 8, 9, 10]] [kn 97 (.fa (.t 6) 6), kn 98 (.ld (.t 97) 1 false), kn 99 (.mv (.t 7)), kn 100 (.mv (.t 0)), kn 101 (.fa (.t 6) 6), kn 102 (.ld (.t 101) 1 false), kn 103 (.mv (.t 7)), kn 104 (.ia (.t 102) (.t 103) 3), kn 105 (.fa (.t 104) 2), kn 106 (.ld (.t 105) 1 false), kn 107 (.call 42 [(.t 100), (.t 106)]), kn 108 (.ia (.t 98) (.t 99) 3), kn 109 (.fa (.t 108) 2), ke (.st (.t 109) (.t 107) 1)])))
 (.reg [kn 110 (.bin .add (.t 94) (kc 1)), kn 94 (.mv (.t 110))])))

def c42 : AC :=
 .seq (.reg [kn 4 (.mv (kc 0))])
 (.seq (.seq (.reg [kn 9 (.mv (.t 1)), kn 10 (.bin .leq (.t 9) (kc 6))])
 (.cond (.t 10) (.seq (.reg [kn 11 (.mv (.t 1)), kn 4 (.mv (.t 11))])
 (.ret)) (.skip)))
 (.seq (.seq (.reg [kn 12 (.mv (.t 0)), kn 13 (.mv (.t 1)), kn 14 (.nc (.t 12)), kn 15 (.fa (.t 14) 1), kn 16 (.iar (.t 15) (.t 13) 256 1), kn 17 (.ld (.t 16) 1 false), kn 18 (.bin .gtr (.t 17) (kc 0))])
 (.cond (.t 18) (.seq (.reg [kn 19 (.mv (.t 0)), kn 20 (.mv (.t 1)), kn 21 (.nc (.t 19)), kn 22 (.fa (.t 21) 1), kn 23 (.iar (.t 22) (.t 20) 256 1), kn 24 (.ld (.t 23) 1 false), kn 4 (.mv (.t 24))])
 (.ret)) (.skip)))
 (.seq (.reg [kn 25 (.mv (.t 0)), kn 26 (.nc (.t 25)), kn 27 (.fa (.t 26) 257), kn 28 (.ld (.t 27) 1 false), kn 29 (.len false (.t 28)), kn 5 (.mv (.t 29))])
 (.seq (.reg [kn 30 (.mv (.t 0)), kn 31 (.mv (.t 1)), kn 32 (.mv (.t 5)), kn 33 (.nc (.t 30)), kn 34 (.fa (.t 33) 1), kn 35 (.iar (.t 34) (.t 31) 256 1), ke (.st (.t 35) (.t 32) 1)])
 (.seq (.reg [kn 36 (.mv (.t 0)), kn 37 (.mv (.t 0)), kn 38 (.nc (.t 37)), kn 39 (.fa (.t 38) 257), kn 40 (.ld (.t 39) 1 false), kn 41 (.bd [kz, (.d (.v (.string ⟨#[]⟩))), (.d (.v (.string ⟨#[]⟩))), kz, kz, kz, .esl, .esl, kz, kz] []), kn 42 (.bs .im 49 10 [(.t 41)]), kn 43 (.app .gr 49 10 128 (.t 40) (.t 42)), kn 44 (.nc (.t 36)), kn 45 (.fa (.t 44) 257), ke (.st (.t 45) (.t 43) 1)])
 (.seq (.reg [kn 46 (.mv (.t 0)), kn 47 (.nc (.t 46)), kn 48 (.fa (.t 47) 0), kn 49 (.ld (.t 48) 1 false), kn 50 (.mv (.t 1)), kn 51 (.ia (.t 49) (.t 50) 10), kn 52 (.ld (.t 51) 10 true), kn 6 (.al [kz, (.d (.v (.string ⟨#[]⟩))), (.d (.v (.string ⟨#[]⟩))), kz, kz, kz, .esl, .esl, kz, kz]), ke (.st (.t 6) (.t 52) 10)])
 (.seq (.seq (.dreg [[], [0], [1], [2], [3], [4, 3], [3], [6, 3], [7, 3], [8, 3], [5, 9, 3], [3, 10]] [kn 53 (.fa (.t 6) 0), kn 54 (.ld (.t 53) 1 false), kn 55 (.bin .eql (.t 54) (kc 9)), kn 56 (.mv (.t 55)), ky 57 56 (.fa (.t 6) 1), ky 58 56 (.ld (.t 57) 1 false), ky 59 56 (.mv (.t 0)), ky 60 56 (.nc (.t 59)), ky 61 56 (.fa (.t 60) 258), ky 62 56 (.ld (.t 61) 1 false), ky 63 56 (.bin .eql (.t 58) (.t 62)), kn 64 (.pick (.t 56) (.t 63) (.c (.d (.v (.bool false)))))])
 (.cond (.t 64) (.seq (.reg [kn 65 (.mv (.t 0)), kn 66 (.nc (.t 65)), kn 67 (.fa (.t 66) 259), kn 68 (.ld (.t 67) 1 false), kn 69 (.fa (.t 6) 9), ke (.st (.t 69) (.t 68) 1)])
 (.reg [kn 70 (.mv (.t 0)), kn 71 (.nc (.t 70)), kn 72 (.fa (.t 71) 259), kn 73 (.ld (.t 72) 1 false), kn 74 (.bin .add (.t 73) (kc 1)), kn 75 (.nc (.t 70)), kn 76 (.fa (.t 75) 259), ke (.st (.t 76) (.t 74) 1)])) (.skip)))
 (.seq (.reg [kn 77 (.mv (.t 0)), kn 78 (.fa (.t 6) 4), kn 79 (.ld (.t 78) 1 false), kn 80 (.call 42 [(.t 77), (.t 79)]), kn 81 (.fa (.t 6) 4), ke (.st (.t 81) (.t 80) 1)])
 (.seq (.reg [kn 82 (.mv (.t 0)), kn 83 (.fa (.t 6) 5), kn 84 (.ld (.t 83) 1 false), kn 85 (.call 42 [(.t 82), (.t 84)]), kn 86 (.fa (.t 6) 5), ke (.st (.t 86) (.t 85) 1)])
 (.seq (.reg [kn 87 (.fa (.t 6) 6), kn 88 (.ld (.t 87) 1 false), kn 89 (.call 87 [(.t 88)]), kn 90 (.fa (.t 6) 6), ke (.st (.t 90) (.t 89) 1)])
 (.seq (.seq (.reg [kn 91 (.fa (.t 6) 6), kn 92 (.ld (.t 91) 1 false), kn 93 (.len false (.t 92)), kn 94 (.mv (kc 0))])
 (.block 0 (.loop c42l1)))
 (.seq (.reg [kn 111 (.fa (.t 6) 7), kn 112 (.ld (.t 111) 1 false), kn 113 (.call 88 [(.t 112)]), kn 114 (.fa (.t 6) 7), ke (.st (.t 114) (.t 113) 1)])
 (.seq (.seq (.reg [kn 115 (.fa (.t 6) 7), kn 116 (.ld (.t 115) 1 false), kn 117 (.len false (.t 116)), kn 118 (.mv (kc 0))])
 (.block 2 (.loop c42l0)))
 (.seq (.reg [kn 135 (.mv (.t 0)), kn 136 (.fa (.t 6) 8), kn 137 (.ld (.t 136) 1 false), kn 138 (.call 42 [(.t 135), (.t 137)]), kn 139 (.fa (.t 6) 8), ke (.st (.t 139) (.t 138) 1)])
 (.seq (.dreg [[], [0], [1], [2], [], [], [3, 4, 0, 1, 2, 3, 4, 5], [6, 5, 0, 1, 2, 3, 4, 5]] [kn 140 (.mv (.t 0)), kn 141 (.nc (.t 140)), kn 142 (.fa (.t 141) 257), kn 143 (.ld (.t 142) 1 false), kn 144 (.mv (.t 5)), kn 145 (.ld (.t 6) 10 true), kn 146 (.ia (.t 143) (.t 144) 10), ke (.st (.t 146) (.t 145) 10)])
 (.seq (.reg [kn 147 (.mv (.t 5)), kn 4 (.mv (.t 147))])
 (.ret)))))))))))))))))
def r42 : List RC := [.t 4]

def c79 : AC :=
 .seq (.reg [kn 2 (.mv (.c (.d (.v (.bool false)))))])
 (.seq (.seq (.reg [kn 3 (.mv (.t 0)), kn 4 (.bin .eql (.t 3) (.c (.d (.v (.string ⟨#[]⟩))))), kn 5 (.mv (.t 4)), ko 6 5 (.mv (.t 0)), ko 7 5 (.len true (.t 6)), ko 8 5 (.bin .gtr (.t 7) (kc 24)), kn 9 (.pick (.t 5) (.c (.d (.v (.bool true)))) (.t 8)), kn 10 (.mv (.t 9)), ko 11 10 (.mv (.t 0)), ko 12 10 (.ix (.t 11) (kc 0)), ko 13 10 (.bin .leq (.t 12) (.c (.d (.v (.int .u8 57))))), kn 14 (.pick (.t 10) (.c (.d (.v (.bool true)))) (.t 13))])
 (.cond (.t 14) (.seq (.reg [kn 2 (.mv (.c (.d (.v (.bool false)))))])
 (.ret)) (.skip)))
 (.seq (.reg [kn 15 (.mv (.t 0)), kn 16 (.s2b .im 0 (.t 15)), kn 17 (.call 104 [(.t 16), (.c (.fn 105 []))]), kn 18 (.un .not (.t 17)), kn 2 (.mv (.t 18))])
 (.ret)))
def r79 : List RC := [.t 2]

def c81 : AC :=
 .seq (.reg [kn 2 (.bx (.t 0)), kn 3 (.bx (.t 1)), kn 4 (.mv (.c (.d (.v (.bool false)))))])
 (.seq (.seq (.reg [kn 6 (.fa (.t 3) 1), kn 7 (.ld (.t 6) 1 false), kn 8 (.call 79 [(.t 7)]), kn 9 (.un .not (.t 8)), kn 10 (.mv (.t 9)), ko 11 10 (.fa (.t 3) 2), ko 12 10 (.ld (.t 11) 1 false), ko 13 10 (.bin .lss (.t 12) (kc 0)), kn 14 (.pick (.t 10) (.c (.d (.v (.bool true)))) (.t 13)), kn 15 (.mv (.t 14)), ko 16 15 (.fa (.t 3) 2), ko 17 15 (.ld (.t 16) 1 false), ko 18 15 (.fa (.t 2) 3), ko 19 15 (.ld (.t 18) 1 false), ko 20 15 (.len false (.t 19)), ko 21 15 (.bin .geq (.t 17) (.t 20)), kn 22 (.pick (.t 15) (.c (.d (.v (.bool true)))) (.t 21)), kn 23 (.mv (.t 22)), ko 24 23 (.fa (.t 3) 0), ko 25 23 (.ld (.t 24) 1 false), ko 26 23 (.bin .neq (.t 25) (kc 1)), ko 27 23 (.mv (.t 26)), ky 28 27 (.fa (.t 3) 3), ky 29 27 (.ld (.t 28) 3 true), ky 30 27 (.bd [kz, kz, (.d (.v (.string ⟨#[]⟩)))] []), ky 31 27 (.eqg ⟨true, [.i .i64, .i .i64, .s]⟩ true (.t 29) (.t 30)), ko 32 23 (.pick (.t 27) (.t 31) (.c (.d (.v (.bool false))))), kn 33 (.pick (.t 23) (.c (.d (.v (.bool true)))) (.t 32))])
 (.cond (.t 33) (.seq (.reg [kn 4 (.mv (.c (.d (.v (.bool false)))))])
 (.ret)) (.skip)))
 (.seq (.reg [kn 34 (.fa (.t 2) 3), kn 35 (.ld (.t 34) 1 false), kn 36 (.fa (.t 3) 2), kn 37 (.ld (.t 36) 1 false), kn 38 (.ia (.t 35) (.t 37) 10), kn 39 (.fa (.t 38) 0), kn 40 (.ld (.t 39) 1 false), kn 5 (.mv (.t 40))])
 (.seq (.seq (.reg [kn 41 (.fa (.t 3) 0), kn 42 (.ld (.t 41) 1 false)])
 (.block 0 (.seq (.reg [kn 44 (.bin .eql (.t 42) (kc 1)), kn 43 (.mv (.t 44))])
 (.cond (.t 43) (.seq (.reg [kn 45 (.fa (.t 3) 3), kn 46 (.ld (.t 45) 3 true), kn 47 (.call 107 [(.t 46)]), kn 48 (.mv (.t 47)), ky 49 48 (.fa (.t 3) 2), ky 50 48 (.ld (.t 49) 1 false), ky 51 48 (.fa (.t 3) 3), ky 52 48 (.fa (.t 51) 0), ky 53 48 (.ld (.t 52) 1 false), ky 54 48 (.bin .eql (.t 50) (.t 53)), kn 55 (.pick (.t 48) (.t 54) (.c (.d (.v (.bool false))))), kn 56 (.mv (.t 55)), ky 57 56 (.fa (.t 3) 6), ky 58 56 (.ld (.t 57) 1 false), ky 59 56 (.bin .eql (.t 58) (kc 0)), kn 60 (.pick (.t 56) (.t 59) (.c (.d (.v (.bool false))))), kn 4 (.mv (.t 60))])
 (.ret)) (.seq (.reg [kn 62 (.bin .eql (.t 42) (kc 2)), kn 61 (.mv (.t 62))])
 (.cond (.t 61) (.seq (.reg [kn 63 (.fa (.t 3) 6), kn 64 (.ld (.t 63) 1 false), kn 65 (.bin .eql (.t 64) (kc 0)), kn 66 (.mv (.t 65)), ky 67 66 (.fa (.t 3) 2), ky 68 66 (.ld (.t 67) 1 false), ky 69 66 (.bin .leq (kc 1) (.t 68)), ky 70 66 (.mv (.t 69)), ky 71 70 (.fa (.t 3) 2), ky 72 70 (.ld (.t 71) 1 false), ky 73 70 (.bin .leq (.t 72) (kc 4)), ky 74 66 (.pick (.t 70) (.t 73) (.c (.d (.v (.bool false))))), ky 75 66 (.mv (.t 74)), ko 76 75 (.fa (.t 3) 2), ko 77 75 (.ld (.t 76) 1 false), ko 78 75 (.bin .gtr (.t 77) (kc 6)), ky 79 66 (.pick (.t 75) (.c (.d (.v (.bool true)))) (.t 78)), kn 80 (.pick (.t 66) (.t 79) (.c (.d (.v (.bool false))))), kn 4 (.mv (.t 80))])
 (.ret)) (.seq (.reg [kn 82 (.bin .eql (.t 42) (kc 3)), kn 81 (.mv (.t 82))])
 (.cond (.t 81) (.seq (.reg [kn 83 (.mv (.t 5)), kn 84 (.bin .neq (.t 83) (kc 0)), kn 85 (.mv (.t 84)), ky 86 85 (.mv (.t 5)), ky 87 85 (.bin .neq (.t 86) (kc 5)), kn 88 (.pick (.t 85) (.t 87) (.c (.d (.v (.bool false))))), kn 89 (.mv (.t 88)), ky 90 89 (.mv (.t 5)), ky 91 89 (.bin .neq (.t 90) (kc 6)), kn 92 (.pick (.t 89) (.t 91) (.c (.d (.v (.bool false))))), kn 93 (.mv (.t 92)), ky 94 93 (.mv (.t 5)), ky 95 93 (.bin .neq (.t 94) (kc 8)), kn 96 (.pick (.t 93) (.t 95) (.c (.d (.v (.bool false))))), kn 97 (.mv (.t 96)), ky 98 97 (.fa (.t 3) 6), ky 99 97 (.ld (.t 98) 1 false), ky 100 97 (.bin .leq (kc 0) (.t 99)), kn 101 (.pick (.t 97) (.t 100) (.c (.d (.v (.bool false))))), kn 102 (.mv (.t 101)), ky 103 102 (.fa (.t 3) 6), ky 104 102 (.ld (.t 103) 1 false), ky 105 102 (.bin .lss (.t 104) (kc 64)), kn 106 (.pick (.t 102) (.t 105) (.c (.d (.v (.bool false))))), kn 4 (.mv (.t 106))])
 (.ret)) (.seq (.reg [kn 108 (.bin .eql (.t 42) (kc 4)), kn 107 (.mv (.t 108))])
 (.cond (.t 107) (.seq (.reg [kn 109 (.mv (.t 5)), kn 110 (.bin .eql (.t 109) (kc 11)), kn 111 (.mv (.t 110)), ky 112 111 (.fa (.t 3) 6), ky 113 111 (.ld (.t 112) 1 false), ky 114 111 (.bin .leq (kc 1) (.t 113)), kn 115 (.pick (.t 111) (.t 114) (.c (.d (.v (.bool false))))), kn 116 (.mv (.t 115)), ky 117 116 (.fa (.t 3) 6), ky 118 116 (.ld (.t 117) 1 false), ky 119 116 (.bin .lss (.t 118) (kc 64)), kn 120 (.pick (.t 116) (.t 119) (.c (.d (.v (.bool false))))), kn 4 (.mv (.t 120))])
 (.ret)) (.skip)))))))))))
 (.seq (.reg [kn 4 (.mv (.c (.d (.v (.bool false)))))])
 (.ret)))))
def r81 : List RC := [.t 4]

def c87 : AC :=
 .seq (.reg [kn 2 (.mv (.c .esl))])
 (.seq (.seq (.reg [kn 3 (.mv (.t 0)), kn 4 (.isn false false (.t 3))])
 (.cond (.t 4) (.seq (.reg [kn 2 (.mv (.c .esl))])
 (.ret)) (.skip)))
 (.seq (.reg [kn 5 (.bs .im 83 3 []), kn 6 (.mv (.t 0)), kn 7 (.app .gr 83 3 32 (.t 5) (.t 6)), kn 2 (.mv (.t 7))])
 (.ret)))
def r87 : List RC := [.t 2]

def c88 : AC :=
 .seq (.reg [kn 2 (.mv (.c .esl))])
 (.seq (.seq (.reg [kn 3 (.mv (.t 0)), kn 4 (.isn false false (.t 3))])
 (.cond (.t 4) (.seq (.reg [kn 2 (.mv (.c .esl))])
 (.ret)) (.skip)))
 (.seq (.reg [kn 5 (.bs .im 85 2 []), kn 6 (.mv (.t 0)), kn 7 (.app .gr 85 2 16 (.t 5) (.t 6)), kn 2 (.mv (.t 7))])
 (.ret)))
def r88 : List RC := [.t 2]

def c92 : AC :=
 .seq (.reg [kn 4 (.mv (.c (.d (.v (.bool false)))))])
 (.seq (.reg [kn 5 (.mv (.t 1)), kn 6 (.bin .geq (.t 5) (kc 1)), kn 7 (.mv (.t 6)), ky 8 7 (.mv (.t 1)), ky 9 7 (.bin .leq (.t 8) (kc 32)), kn 10 (.pick (.t 7) (.t 9) (.c (.d (.v (.bool false))))), kn 11 (.mv (.t 10)), ky 12 11 (.mv (.t 1)), ky 13 11 (.bin .sub (.t 12) (kc 1)), ky 14 11 (.bin .shl (kc (-1)) (.t 13)), ky 15 11 (.mv (.t 0)), ky 16 11 (.bin .leq (.t 14) (.t 15)), kn 17 (.pick (.t 11) (.t 16) (.c (.d (.v (.bool false))))), kn 18 (.mv (.t 17)), ky 19 18 (.mv (.t 0)), ky 20 18 (.mv (.t 1)), ky 21 18 (.bin .sub (.t 20) (kc 1)), ky 22 18 (.bin .shl (kc 1) (.t 21)), ky 23 18 (.bin .lss (.t 19) (.t 22)), kn 24 (.pick (.t 18) (.t 23) (.c (.d (.v (.bool false))))), kn 4 (.mv (.t 24))])
 (.ret))
def r92 : List RC := [.t 4]

def c105 : AC :=
 .seq (.reg [kn 2 (.mv (.c (.d (.v (.bool false)))))])
 (.seq (.reg [kn 3 (.mv (.t 0)), kn 4 (.bin .lss (.t 3) (.c (.d (.v (.int .u8 97))))), kn 5 (.mv (.t 4)), ko 6 5 (.mv (.t 0)), ko 7 5 (.bin .gtr (.t 6) (.c (.d (.v (.int .u8 122))))), kn 8 (.pick (.t 5) (.c (.d (.v (.bool true)))) (.t 7)), kn 9 (.mv (.t 8)), ky 10 9 (.mv (.t 0)), ky 11 9 (.bin .lss (.t 10) (.c (.d (.v (.int .u8 65))))), ky 12 9 (.mv (.t 11)), ko 13 12 (.mv (.t 0)), ko 14 12 (.bin .gtr (.t 13) (.c (.d (.v (.int .u8 90))))), ky 15 9 (.pick (.t 12) (.c (.d (.v (.bool true)))) (.t 14)), kn 16 (.pick (.t 9) (.t 15) (.c (.d (.v (.bool false))))), kn 17 (.mv (.t 16)), ky 18 17 (.mv (.t 0)), ky 19 17 (.bin .lss (.t 18) (.c (.d (.v (.int .u8 48))))), ky 20 17 (.mv (.t 19)), ko 21 20 (.mv (.t 0)), ko 22 20 (.bin .gtr (.t 21) (.c (.d (.v (.int .u8 57))))), ky 23 17 (.pick (.t 20) (.c (.d (.v (.bool true)))) (.t 22)), kn 24 (.pick (.t 17) (.t 23) (.c (.d (.v (.bool false))))), kn 2 (.mv (.t 24))])
 (.ret))
def r105 : List RC := [.t 2]

def c107l0 : AC :=
 .seq (.reg [kn 20 (.bin .lss (.t 19) (.t 18))])
 (.seq (.cond (.t 20) (.skip) (.exit 0))
 (.seq (.block 1 (.seq (.reg [kn 21 (.mv (.t 19)), kn 3 (.mv (.t 21))])
 (.seq (.reg [kn 22 (.fa (.t 1) 2), kn 23 (.ld (.t 22) 1 false), kn 24 (.mv (.t 3)), kn 25 (.ix (.t 23) (.t 24)), kn 26 (.bin .lss (.t 25) (.c (.d (.v (.int .u8 32))))), kn 27 (.mv (.t 26)), ko 28 27 (.fa (.t 1) 2), ko 29 27 (.ld (.t 28) 1 false), ko 30 27 (.mv (.t 3)), ko 31 27 (.ix (.t 29) (.t 30)), ko 32 27 (.bin .eql (.t 31) (.c (.d (.v (.int .u8 34))))), kn 33 (.pick (.t 27) (.c (.d (.v (.bool true)))) (.t 32))])
 (.cond (.t 33) (.seq (.reg [kn 2 (.mv (.c (.d (.v (.bool false)))))])
 (.ret)) (.skip)))))
 (.reg [kn 34 (.bin .add (.t 19) (kc 1)), kn 19 (.mv (.t 34))])))

def c107 : AC :=
 .seq (.reg [kn 1 (.bx (.t 0)), kn 2 (.mv (.c (.d (.v (.bool false)))))])
 (.seq (.seq (.reg [kn 4 (.fa (.t 1) 0), kn 5 (.ld (.t 4) 1 false), kn 6 (.bin .eql (.t 5) (kc 6))])
 (.cond (.t 6) (.seq (.seq (.reg [kn 7 (.fa (.t 1) 1), kn 8 (.ld (.t 7) 1 false), kn 9 (.bin .neq (.t 8) (kc 0)), kn 10 (.mv (.t 9)), ko 11 10 (.fa (.t 1) 2), ko 12 10 (.ld (.t 11) 1 false), ko 13 10 (.len true (.t 12)), ko 14 10 (.bin .gtr (.t 13) (kc 64)), kn 15 (.pick (.t 10) (.c (.d (.v (.bool true)))) (.t 14))])
 (.cond (.t 15) (.seq (.reg [kn 2 (.mv (.c (.d (.v (.bool false)))))])
 (.ret)) (.skip)))
 (.seq (.seq (.reg [kn 16 (.fa (.t 1) 2), kn 17 (.ld (.t 16) 1 false), kn 18 (.len true (.t 17)), kn 19 (.mv (kc 0))])
 (.block 0 (.loop c107l0)))
 (.seq (.reg [kn 2 (.mv (.c (.d (.v (.bool true)))))])
 (.ret)))) (.skip)))
 (.seq (.seq (.reg [kn 35 (.fa (.t 1) 2), kn 36 (.ld (.t 35) 1 false), kn 37 (.bin .neq (.t 36) (.c (.d (.v (.string ⟨#[]⟩)))))])
 (.cond (.t 37) (.seq (.reg [kn 2 (.mv (.c (.d (.v (.bool false)))))])
 (.ret)) (.skip)))
 (.seq (.seq (.reg [kn 38 (.fa (.t 1) 0), kn 39 (.ld (.t 38) 1 false)])
 (.block 2 (.seq (.reg [kn 41 (.bin .eql (.t 39) (kc 1)), kn 40 (.mv (.t 41))])
 (.cond (.t 40) (.seq (.reg [kn 42 (.fa (.t 1) 1), kn 43 (.ld (.t 42) 1 false), kn 44 (.call 92 [(.t 43), (kc 32)]), kn 2 (.mv (.t 44))])
 (.ret)) (.seq (.reg [kn 46 (.bin .eql (.t 39) (kc 2)), kn 45 (.mv (.t 46))])
 (.cond (.t 45) (.seq (.reg [kn 47 (.fa (.t 1) 1), kn 48 (.ld (.t 47) 1 false), kn 49 (.bin .eql (.t 48) (kc 0)), kn 50 (.mv (.t 49)), ko 51 50 (.fa (.t 1) 1), ko 52 50 (.ld (.t 51) 1 false), ko 53 50 (.bin .eql (.t 52) (kc 1)), kn 54 (.pick (.t 50) (.c (.d (.v (.bool true)))) (.t 53)), kn 2 (.mv (.t 54))])
 (.ret)) (.seq (.reg [kn 56 (.bin .eql (.t 39) (kc 3)), kn 55 (.mv (.t 56))])
 (.cond (.t 55) (.seq (.reg [kn 57 (.fa (.t 1) 1), kn 58 (.ld (.t 57) 1 false), kn 59 (.fa (.t 1) 1), kn 60 (.ld (.t 59) 1 false), kn 61 (.cvi .u8 (.t 60)), kn 62 (.cvi .i64 (.t 61)), kn 63 (.bin .eql (.t 58) (.t 62)), kn 2 (.mv (.t 63))])
 (.ret)) (.seq (.reg [kn 65 (.bin .eql (.t 39) (kc 4)), kn 64 (.mv (.t 65))])
 (.cond (.t 64) (.seq (.reg [kn 66 (.fa (.t 1) 1), kn 67 (.ld (.t 66) 1 false), kn 68 (.fa (.t 1) 1), kn 69 (.ld (.t 68) 1 false), kn 70 (.cvi .u32 (.t 69)), kn 71 (.cvi .i64 (.t 70)), kn 72 (.bin .eql (.t 67) (.t 71)), kn 2 (.mv (.t 72))])
 (.ret)) (.skip)))))))))))
 (.seq (.reg [kn 73 (.fa (.t 1) 0), kn 74 (.ld (.t 73) 1 false), kn 75 (.bin .eql (.t 74) (kc 5)), kn 76 (.mv (.t 75)), ky 77 76 (.fa (.t 1) 1), ky 78 76 (.ld (.t 77) 1 false), ky 79 76 (.bin .eql (.t 78) (kc 0)), kn 80 (.pick (.t 76) (.t 79) (.c (.d (.v (.bool false))))), kn 2 (.mv (.t 80))])
 (.ret)))))
def r107 : List RC := [.t 2]

theorem cc15 : Try.f15.body.bind (comp Try.prog (hhI 15)) = some c15 := by kernel_rfl
theorem rr15 : resC Try.prog Try.f15 = some r15 := by kernel_rfl
theorem cc16 : Try.f16.body.bind (comp Try.prog (hhI 16)) = some c16 := by kernel_rfl
theorem rr16 : resC Try.prog Try.f16 = some r16 := by kernel_rfl
theorem cc17 : Try.f17.body.bind (comp Try.prog (hhI 17)) = some c17 := by kernel_rfl
theorem rr17 : resC Try.prog Try.f17 = some r17 := by kernel_rfl
theorem cc19 : Try.f19.body.bind (comp Try.prog (hhI 19)) = some c19 := by kernel_rfl
theorem rr19 : resC Try.prog Try.f19 = some r19 := by kernel_rfl
theorem cc23 : Try.f23.body.bind (comp Try.prog (hhI 23)) = some c23 := by kernel_rfl
theorem rr23 : resC Try.prog Try.f23 = some r23 := by kernel_rfl
theorem cc33 : Try.f33.body.bind (comp Try.prog (hhI 33)) = some c33 := by kernel_rfl
theorem rr33 : resC Try.prog Try.f33 = some r33 := by kernel_rfl
theorem cc35 : Try.f35.body.bind (comp Try.prog (hhI 35)) = some c35 := by kernel_rfl
theorem rr35 : resC Try.prog Try.f35 = some r35 := by kernel_rfl
theorem cc41 : Try.f41.body.bind (comp Try.prog (hhI 41)) = some c41 := by kernel_rfl
theorem rr41 : resC Try.prog Try.f41 = some r41 := by kernel_rfl
theorem cc42 : Try.f42.body.bind (comp Try.prog (hhI 42)) = some c42 := by kernel_rfl
theorem rr42 : resC Try.prog Try.f42 = some r42 := by kernel_rfl
theorem cc79 : Try.f79.body.bind (comp Try.prog (hhI 79)) = some c79 := by kernel_rfl
theorem rr79 : resC Try.prog Try.f79 = some r79 := by kernel_rfl
theorem cc81 : Try.f81.body.bind (comp Try.prog (hhI 81)) = some c81 := by kernel_rfl
theorem rr81 : resC Try.prog Try.f81 = some r81 := by kernel_rfl
theorem cc87 : Try.f87.body.bind (comp Try.prog (hhI 87)) = some c87 := by kernel_rfl
theorem rr87 : resC Try.prog Try.f87 = some r87 := by kernel_rfl
theorem cc88 : Try.f88.body.bind (comp Try.prog (hhI 88)) = some c88 := by kernel_rfl
theorem rr88 : resC Try.prog Try.f88 = some r88 := by kernel_rfl
theorem cc92 : Try.f92.body.bind (comp Try.prog (hhI 92)) = some c92 := by kernel_rfl
theorem rr92 : resC Try.prog Try.f92 = some r92 := by kernel_rfl
theorem cc105 : Try.f105.body.bind (comp Try.prog (hhI 105)) = some c105 := by kernel_rfl
theorem rr105 : resC Try.prog Try.f105 = some r105 := by kernel_rfl
theorem cc107 : Try.f107.body.bind (comp Try.prog (hhI 107)) = some c107 := by kernel_rfl
theorem rr107 : resC Try.prog Try.f107 = some r107 := by kernel_rfl
end Go.Proofs.Ythifjndenhjobaa
