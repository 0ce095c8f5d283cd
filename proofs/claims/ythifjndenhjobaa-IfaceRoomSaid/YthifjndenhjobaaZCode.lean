/- The functions' code in the small language. Printed by program (wip/tools). -/
import Derived.Test.YthifjndenhjobaaZRead
import Derived.Test.YthifjndenhjobaaProg
import Derived.KernelRfl
namespace Go.Proofs.Ythifjndenhjobaa
set_option linter.unusedVariables false
set_option linter.unusedSimpArgs false
open Go.RowKit
def hh : Nat → Nat → Option Md := fun fn slot => if (fn, slot) ∈ [(110, 7), (110, 36), (110, 50), (136, 8), (34, 3), (40, 1), (51, 1)] then some .gr else if (fn, slot) ∈ [(34, 19), (34, 23), (16, 6), (16, 15)] then some .im else none
abbrev kn (d : Nat) (k : K) : Ins := ⟨some d, k, none⟩
abbrev ky (d g : Nat) (k : K) : Ins := ⟨some d, k, some (g, true)⟩
abbrev ko (d g : Nat) (k : K) : Ins := ⟨some d, k, some (g, false)⟩
abbrev ke (k : K) : Ins := ⟨none, k, none⟩
abbrev kc (n : Int) : Opd := .c (.d (.v (.int .i64 n)))
abbrev kz : AV := .d (.v (.int .i64 0))

def c51l0 : AC :=
 .seq (.seq (.reg [kn 3 (.mv (.t 2)), kn 4 (.bin .lss (.t 3) (kc 7))])
 (.cond (.t 4) (.skip) (.exit 0)))
 (.seq (.block 1 (.reg [kn 7 (.mv (.t 1)), kn 8 (.mv (.t 2)), kn 9 (.bd [kz, (.d (.v (.string ⟨#[]⟩))), (.d (.v (.string ⟨#[]⟩))), kz, kz, kz, .esl, .esl, kz, kz] [(0, 1, (.t 8))]), kn 10 (.bs .im 49 10 [(.t 9)]), kn 11 (.app .gr 49 10 128 (.t 7) (.t 10)), kn 1 (.mvg 49 10 (.t 11))]))
 (.reg [kn 5 (.mv (.t 2)), kn 6 (.bin .add (.t 5) (kc 1)), kn 2 (.mv (.t 6))]))

def c51 : AC :=
 .seq (.reg [kn 0 (.mv (.c .esl))])
 (.seq (.reg [kn 1 (.mvg 49 10 (.c .esl))])
 (.seq (.seq (.reg [kn 2 (.mv (kc 0))])
 (.block 0 (.loop c51l0)))
 (.seq (.reg [kn 12 (.mv (.t 1)), kn 0 (.mv (.t 12))])
 (.ret))))
def r51 : List RC := [.t 0]

def c80 : AC :=
 .seq (.reg [kn 2 (.mv (.c (.d (.v (.bool false)))))])
 (.seq (.reg [kn 3 (.mv (.t 0)), kn 4 (.call 106 [(.t 3)]), kn 2 (.mv (.t 4))])
 (.ret))
def r80 : List RC := [.t 2]

def c104 : AC :=
 .seq (.reg [kn 4 (.mv (.c (.d (.v (.bool false)))))])
 (.seq (.reg [kn 5 (.mv (.t 0)), kn 6 (.mv (.t 1)), kn 7 (.call 116 [(.t 5), (.t 6)]), kn 8 (.bin .geq (.t 7) (kc 0)), kn 4 (.mv (.t 8))])
 (.ret))
def r104 : List RC := [.t 4]

def c106l0 : AC :=
 .seq (.reg [kn 50 (.bin .lss (.t 49) (.t 48))])
 (.seq (.cond (.t 50) (.skip) (.exit 2))
 (.seq (.block 3 (.seq (.reg [kn 51 (.mv (.t 49)), kn 52 (.ia (.t 47) (.t 49) 10), kn 53 (.ld (.t 52) 10 true), kn 8 (.al [kz, (.d (.v (.string ⟨#[]⟩))), (.d (.v (.string ⟨#[]⟩))), kz, kz, kz, .esl, .esl, kz, kz]), kn 7 (.mv (.t 51)), ke (.st (.t 8) (.t 53) 10)])
 (.seq (.seq (.reg [kn 54 (.fa (.t 8) 0), kn 55 (.ld (.t 54) 1 false), kn 56 (.bin .eql (.t 55) (kc 9)), kn 57 (.mv (.t 56)), ky 58 57 (.fa (.t 8) 9), ky 59 57 (.ld (.t 58) 1 false), ky 60 57 (.bin .geq (.t 59) (kc 0)), kn 61 (.pick (.t 57) (.t 60) (.c (.d (.v (.bool false)))))])
 (.cond (.t 61) (.dreg [[], [], [1], [], [3], [2, 4], [0, 5], [6], [0, 5, 0, 1, 2, 3, 4, 5], [8], [0, 9, 7, 8, 0, 1, 2, 3, 4, 5, 6, 7, 8, 9]] [kn 62 (.mv (.t 6)), kn 63 (.fa (.t 8) 1), kn 64 (.ld (.t 63) 1 false), kn 65 (.fa (.t 8) 9), kn 66 (.ld (.t 65) 1 false), kn 67 (.bd [(.d (.v (.string ⟨#[]⟩))), kz] [(0, 1, (.t 64)), (1, 1, (.t 66))]), kn 68 (.lk ⟨true, [.s, .i .i64]⟩ kz (.t 62) (.t 67) false), kn 69 (.bin .add (.t 68) (kc 1)), kn 70 (.me ⟨true, [.s, .i .i64]⟩ kz (.t 62) (.t 67)), kn 71 (.ext (.t 70) 1), ke (.mes (.t 62) (.t 71) (.t 69))]) (.skip)))
 (.seq (.reg [kn 72 (.mv (.t 6)), kn 73 (.fa (.t 8) 1), kn 74 (.ld (.t 73) 1 false), kn 75 (.fa (.t 8) 9), kn 76 (.ld (.t 75) 1 false), kn 77 (.bd [(.d (.v (.string ⟨#[]⟩))), kz] [(0, 1, (.t 74)), (1, 1, (.t 76))]), kn 78 (.lk ⟨true, [.s, .i .i64]⟩ kz (.t 72) (.t 77) false), kn 79 (.bin .gtr (.t 78) (kc 1)), kn 80 (.mv (.t 79)), ko 81 80 (.ld (.t 1) 1 false), ko 82 80 (.mv (.t 7)), ko 83 80 (.mv (.t 5)), ko 84 80 (.call 119 [(.t 81), (.t 82), (.t 83)]), ko 85 80 (.un .not (.t 84)), kn 86 (.pick (.t 80) (.c (.d (.v (.bool true)))) (.t 85))])
 (.cond (.t 86) (.seq (.reg [kn 2 (.mv (.c (.d (.v (.bool false)))))])
 (.ret)) (.skip))))))
 (.reg [kn 87 (.bin .add (.t 49) (kc 1)), kn 49 (.mv (.t 87))])))

def c106l1 : AC :=
 .seq (.reg [kn 20 (.bin .lss (.t 19) (.t 18))])
 (.seq (.cond (.t 20) (.skip) (.exit 0))
 (.seq (.block 1 (.seq (.reg [kn 21 (.mv (.t 19)), kn 22 (.ia (.t 17) (.t 19) 10), kn 23 (.ld (.t 22) 10 true), kn 4 (.al [kz, (.d (.v (.string ⟨#[]⟩))), (.d (.v (.string ⟨#[]⟩))), kz, kz, kz, .esl, .esl, kz, kz]), kn 3 (.mv (.t 21)), ke (.st (.t 4) (.t 23) 10)])
 (.seq (.reg [kn 24 (.mv (.t 3)), kn 25 (.bin .leq (.t 24) (kc 6)), kn 26 (.mv (.t 25)), ky 27 26 (.ld (.t 4) 10 true), ky 28 26 (.mv (.t 3)), ky 29 26 (.call 117 [(.t 27), (.t 28)]), ky 30 26 (.un .not (.t 29)), kn 31 (.pick (.t 26) (.t 30) (.c (.d (.v (.bool false))))), kn 32 (.mv (.t 31)), ko 33 32 (.mv (.t 3)), ko 34 32 (.bin .gtr (.t 33) (kc 6)), ko 35 32 (.mv (.t 34)), ky 36 35 (.ld (.t 1) 1 false), ky 37 35 (.ld (.t 4) 10 true), ky 38 35 (.call 118 [(.t 36), (.t 37)]), ky 39 35 (.un .not (.t 38)), ko 40 32 (.pick (.t 35) (.t 39) (.c (.d (.v (.bool false))))), kn 41 (.pick (.t 32) (.c (.d (.v (.bool true)))) (.t 40))])
 (.cond (.t 41) (.seq (.reg [kn 2 (.mv (.c (.d (.v (.bool false)))))])
 (.ret)) (.skip)))))
 (.reg [kn 42 (.bin .add (.t 19) (kc 1)), kn 19 (.mv (.t 42))])))

def c106 : AC :=
 .seq (.reg [kn 1 (.bx (.t 0)), kn 2 (.mv (.c (.d (.v (.bool false)))))])
 (.seq (.seq (.reg [kn 9 (.ld (.t 1) 1 false), kn 10 (.len false (.t 9)), kn 11 (.bin .leq (.t 10) (kc 6)), kn 12 (.mv (.t 11)), ko 13 12 (.ld (.t 1) 1 false), ko 14 12 (.len false (.t 13)), ko 15 12 (.bin .gtr (.t 14) (kc 256)), kn 16 (.pick (.t 12) (.c (.d (.v (.bool true)))) (.t 15))])
 (.cond (.t 16) (.seq (.reg [kn 2 (.mv (.c (.d (.v (.bool false)))))])
 (.ret)) (.skip)))
 (.seq (.seq (.reg [kn 17 (.ld (.t 1) 1 false), kn 18 (.len false (.t 17)), kn 19 (.mv (kc 0))])
 (.block 0 (.loop c106l1)))
 (.seq (.reg [kn 43 (.ld (.t 1) 1 false), kn 44 (.len false (.t 43)), kn 45 (.mks .hp 3 1 8 [kz] (.t 44) (.t 44)), kn 5 (.mv (.t 45))])
 (.seq (.reg [kn 46 (.mkm ⟨true, [.s, .i .i64]⟩), kn 6 (.mv (.t 46))])
 (.seq (.seq (.reg [kn 47 (.ld (.t 1) 1 false), kn 48 (.len false (.t 47)), kn 49 (.mv (kc 0))])
 (.block 2 (.loop c106l0)))
 (.seq (.reg [kn 88 (.ld (.t 1) 1 false), kn 89 (.mkf 121 [(.t 1)]), kn 90 (.call 120 [(.t 88), (.t 89)]), kn 91 (.un .not (.t 90)), kn 2 (.mv (.t 91))])
 (.ret)))))))
def r106 : List RC := [.t 2]

def c116l0 : AC :=
 .seq (.reg [kn 9 (.bin .lss (.t 8) (.t 7))])
 (.seq (.cond (.t 9) (.skip) (.exit 0))
 (.seq (.block 1 (.seq (.reg [kn 10 (.mv (.t 8)), kn 5 (.mv (.t 10))])
 (.seq (.reg [kn 11 (.mv (.t 1)), kn 12 (.mv (.t 0)), kn 13 (.mv (.t 5)), kn 14 (.ia (.t 12) (.t 13) 1), kn 15 (.ld (.t 14) 1 false), kn 16 (.callv (.t 11) [(.t 15)])])
 (.cond (.t 16) (.seq (.reg [kn 17 (.mv (.t 5)), kn 4 (.mv (.t 17))])
 (.ret)) (.skip)))))
 (.reg [kn 18 (.bin .add (.t 8) (kc 1)), kn 8 (.mv (.t 18))])))

def c116 : AC :=
 .seq (.reg [kn 4 (.mv (kc 0))])
 (.seq (.seq (.reg [kn 6 (.mv (.t 0)), kn 7 (.len false (.t 6)), kn 8 (.mv (kc 0))])
 (.block 0 (.loop c116l0)))
 (.seq (.reg [kn 4 (.mv (kc (-1)))])
 (.ret)))
def r116 : List RC := [.t 4]

def c117 : AC :=
 .seq (.reg [kn 2 (.bx (.t 0)), kn 4 (.mv (.c (.d (.v (.bool false)))))])
 (.seq (.reg [kn 5 (.fa (.t 2) 0), kn 6 (.ld (.t 5) 1 false), kn 7 (.mv (.t 1)), kn 8 (.bin .eql (.t 6) (.t 7)), kn 9 (.mv (.t 8)), ky 10 9 (.fa (.t 2) 1), ky 11 9 (.ld (.t 10) 1 false), ky 12 9 (.bin .eql (.t 11) (.c (.d (.v (.string ⟨#[]⟩))))), kn 13 (.pick (.t 9) (.t 12) (.c (.d (.v (.bool false))))), kn 14 (.mv (.t 13)), ky 15 14 (.fa (.t 2) 2), ky 16 14 (.ld (.t 15) 1 false), ky 17 14 (.bin .eql (.t 16) (.c (.d (.v (.string ⟨#[]⟩))))), kn 18 (.pick (.t 14) (.t 17) (.c (.d (.v (.bool false))))), kn 19 (.mv (.t 18)), ky 20 19 (.fa (.t 2) 3), ky 21 19 (.ld (.t 20) 1 false), ky 22 19 (.bin .eql (.t 21) (kc 0)), kn 23 (.pick (.t 19) (.t 22) (.c (.d (.v (.bool false))))), kn 24 (.mv (.t 23)), ky 25 24 (.fa (.t 2) 4), ky 26 24 (.ld (.t 25) 1 false), ky 27 24 (.bin .eql (.t 26) (kc 0)), kn 28 (.pick (.t 24) (.t 27) (.c (.d (.v (.bool false))))), kn 29 (.mv (.t 28)), ky 30 29 (.fa (.t 2) 5), ky 31 29 (.ld (.t 30) 1 false), ky 32 29 (.bin .eql (.t 31) (kc 0)), kn 33 (.pick (.t 29) (.t 32) (.c (.d (.v (.bool false))))), kn 34 (.mv (.t 33)), ky 35 34 (.fa (.t 2) 8), ky 36 34 (.ld (.t 35) 1 false), ky 37 34 (.bin .eql (.t 36) (kc 0)), kn 38 (.pick (.t 34) (.t 37) (.c (.d (.v (.bool false))))), kn 39 (.mv (.t 38)), ky 40 39 (.fa (.t 2) 9), ky 41 39 (.ld (.t 40) 1 false), ky 42 39 (.bin .eql (.t 41) (kc 0)), kn 43 (.pick (.t 39) (.t 42) (.c (.d (.v (.bool false))))), kn 44 (.mv (.t 43)), ky 45 44 (.fa (.t 2) 6), ky 46 44 (.ld (.t 45) 1 false), ky 47 44 (.len false (.t 46)), ky 48 44 (.bin .eql (.t 47) (kc 0)), kn 49 (.pick (.t 44) (.t 48) (.c (.d (.v (.bool false))))), kn 50 (.mv (.t 49)), ky 51 50 (.fa (.t 2) 7), ky 52 50 (.ld (.t 51) 1 false), ky 53 50 (.len false (.t 52)), ky 54 50 (.bin .eql (.t 53) (kc 0)), kn 55 (.pick (.t 50) (.t 54) (.c (.d (.v (.bool false))))), kn 4 (.mv (.t 55))])
 (.ret))
def r117 : List RC := [.t 4]

def c118l0 : AC :=
 .seq (.reg [kn 155 (.bin .lss (.t 154) (.t 153))])
 (.seq (.cond (.t 155) (.skip) (.exit 3))
 (.seq (.block 4 (.seq (.reg [kn 156 (.ia (.t 152) (.t 154) 2), kn 157 (.ld (.t 156) 2 true), kn 11 (.al [(.d (.v (.bool false))), kz]), ke (.st (.t 11) (.t 157) 2)])
 (.reg [kn 158 (.mv (.t 7)), kn 159 (.mv (.t 158)), ky 160 159 (.mv (.t 5)), ky 161 159 (.fa (.t 11) 1), ky 162 159 (.ld (.t 161) 1 false), ky 163 159 (.callv (.t 160) [(.t 162)]), ky 164 159 (.call 132 [(.t 163)]), ky 165 159 (.mv (.t 164)), ko 166 165 (.mv (.t 5)), ko 167 165 (.fa (.t 11) 1), ko 168 165 (.ld (.t 167) 1 false), ko 169 165 (.callv (.t 166) [(.t 168)]), ko 170 165 (.bin .eql (.t 169) (kc 8)), ky 171 159 (.pick (.t 165) (.c (.d (.v (.bool true)))) (.t 170)), kn 172 (.pick (.t 159) (.t 171) (.c (.d (.v (.bool false))))), kn 7 (.mv (.t 172))])))
 (.reg [kn 173 (.bin .add (.t 154) (kc 1)), kn 154 (.mv (.t 173))])))

def c118l1 : AC :=
 .seq (.reg [kn 100 (.bin .lss (.t 99) (.t 98))])
 (.seq (.cond (.t 100) (.skip) (.exit 1))
 (.seq (.block 2 (.seq (.reg [kn 101 (.ia (.t 97) (.t 99) 3), kn 102 (.ld (.t 101) 3 true), kn 9 (.al [(.d (.v (.string ⟨#[]⟩))), (.d (.v (.bool false))), kz]), ke (.st (.t 9) (.t 102) 3)])
 (.reg [kn 103 (.mv (.t 7)), kn 104 (.mv (.t 103)), ky 105 104 (.fa (.t 9) 0), ky 106 104 (.ld (.t 105) 1 false), ky 107 104 (.call 133 [(.t 106)]), kn 108 (.pick (.t 104) (.t 107) (.c (.d (.v (.bool false))))), kn 109 (.mv (.t 108)), ky 110 109 (.mv (.t 5)), ky 111 109 (.fa (.t 9) 2), ky 112 109 (.ld (.t 111) 1 false), ky 113 109 (.callv (.t 110) [(.t 112)]), ky 114 109 (.call 132 [(.t 113)]), kn 115 (.pick (.t 109) (.t 114) (.c (.d (.v (.bool false))))), kn 7 (.mv (.t 115))])))
 (.reg [kn 116 (.bin .add (.t 99) (kc 1)), kn 99 (.mv (.t 116))])))

def c118 : AC :=
 .seq (.reg [kn 2 (.bx (.t 0)), kn 3 (.bx (.t 1)), kn 4 (.mv (.c (.d (.v (.bool false)))))])
 (.seq (.reg [kn 13 (.mkf 131 [(.t 2)]), kn 5 (.mv (.t 13))])
 (.seq (.reg [kn 14 (.fa (.t 3) 0), kn 15 (.ld (.t 14) 1 false), kn 16 (.bd [kz, (.d (.v (.string ⟨#[]⟩))), (.d (.v (.string ⟨#[]⟩))), kz, kz, kz, .esl, .esl, kz, kz] [(0, 1, (.t 15))]), kn 6 (.al [kz, (.d (.v (.string ⟨#[]⟩))), (.d (.v (.string ⟨#[]⟩))), kz, kz, kz, .esl, .esl, kz, kz]), ke (.st (.t 6) (.t 16) 10)])
 (.seq (.reg [kn 7 (.mv (.c (.d (.v (.bool false)))))])
 (.seq (.seq (.reg [kn 17 (.fa (.t 3) 0), kn 18 (.ld (.t 17) 1 false)])
 (.block 0 (.seq (.reg [kn 20 (.bin .eql (.t 18) (kc 7)), kn 19 (.mv (.t 20))])
 (.cond (.t 19) (.seq (.dreg [[], [0], [], [2], [0, 1], [4, 1, 0, 1], [0, 1, 2, 3, 4, 5], [6, 3, 5, 0, 1, 2, 3, 4, 5]] [kn 21 (.fa (.t 3) 3), kn 22 (.ld (.t 21) 1 false), kn 23 (.fa (.t 3) 4), kn 24 (.ld (.t 23) 1 false), kn 25 (.fa (.t 6) 3), ke (.st (.t 25) (.t 22) 1), kn 26 (.fa (.t 6) 4), ke (.st (.t 26) (.t 24) 1)])
 (.reg [kn 27 (.fa (.t 3) 3), kn 28 (.ld (.t 27) 1 false), kn 29 (.bin .leq (kc 1) (.t 28)), kn 30 (.mv (.t 29)), ky 31 30 (.fa (.t 3) 3), ky 32 30 (.ld (.t 31) 1 false), ky 33 30 (.bin .leq (.t 32) (kc 4096)), kn 34 (.pick (.t 30) (.t 33) (.c (.d (.v (.bool false))))), kn 35 (.mv (.t 34)), ky 36 35 (.mv (.t 5)), ky 37 35 (.fa (.t 3) 4), ky 38 35 (.ld (.t 37) 1 false), ky 39 35 (.callv (.t 36) [(.t 38)]), ky 40 35 (.call 132 [(.t 39)]), kn 41 (.pick (.t 35) (.t 40) (.c (.d (.v (.bool false))))), kn 7 (.mv (.t 41))])) (.seq (.reg [kn 43 (.bin .eql (.t 18) (kc 8)), kn 42 (.mv (.t 43))])
 (.cond (.t 42) (.seq (.reg [kn 44 (.fa (.t 3) 4), kn 45 (.ld (.t 44) 1 false), kn 46 (.fa (.t 6) 4), ke (.st (.t 46) (.t 45) 1)])
 (.reg [kn 47 (.mv (.t 5)), kn 48 (.fa (.t 3) 4), kn 49 (.ld (.t 48) 1 false), kn 50 (.callv (.t 47) [(.t 49)]), kn 51 (.call 132 [(.t 50)]), kn 52 (.mv (.t 51)), ko 53 52 (.mv (.t 5)), ko 54 52 (.fa (.t 3) 4), ko 55 52 (.ld (.t 54) 1 false), ko 56 52 (.callv (.t 53) [(.t 55)]), ko 57 52 (.bin .eql (.t 56) (kc 8)), kn 58 (.pick (.t 52) (.c (.d (.v (.bool true)))) (.t 57)), kn 7 (.mv (.t 58))])) (.seq (.reg [kn 60 (.bin .eql (.t 18) (kc 9)), kn 59 (.mv (.t 60))])
 (.cond (.t 59) (.seq (.dreg [[], [0], [], [2], [], [4], [0, 1], [6, 1, 0, 1], [0, 1, 2, 3, 6, 7], [8, 3, 7, 0, 1, 2, 3, 6, 7], [0, 1, 2, 3, 4, 5, 6, 7, 8, 9], [10, 5, 9, 0, 1, 2, 3, 4, 5, 6, 7, 8, 9]] [kn 61 (.fa (.t 3) 5), kn 62 (.ld (.t 61) 1 false), kn 63 (.fa (.t 3) 6), kn 64 (.ld (.t 63) 1 false), kn 65 (.fa (.t 3) 9), kn 66 (.ld (.t 65) 1 false), kn 67 (.fa (.t 6) 5), ke (.st (.t 67) (.t 62) 1), kn 68 (.fa (.t 6) 6), ke (.st (.t 68) (.t 64) 1), kn 69 (.fa (.t 6) 9), ke (.st (.t 69) (.t 66) 1)])
 (.seq (.reg [kn 70 (.fa (.t 3) 5), kn 71 (.ld (.t 70) 1 false), kn 72 (.bin .eql (.t 71) (kc 0)), kn 73 (.mv (.t 72)), ko 74 73 (.mv (.t 5)), ko 75 73 (.fa (.t 3) 5), ko 76 73 (.ld (.t 75) 1 false), ko 77 73 (.callv (.t 74) [(.t 76)]), ko 78 73 (.bin .eql (.t 77) (kc 9)), kn 79 (.pick (.t 73) (.c (.d (.v (.bool true)))) (.t 78)), kn 80 (.mv (.t 79)), ky 81 80 (.fa (.t 3) 6), ky 82 80 (.ld (.t 81) 1 false), ky 83 80 (.len false (.t 82)), ky 84 80 (.bin .leq (.t 83) (kc 64)), kn 85 (.pick (.t 80) (.t 84) (.c (.d (.v (.bool false))))), kn 86 (.mv (.t 85)), ky 87 86 (.fa (.t 3) 9), ky 88 86 (.ld (.t 87) 1 false), ky 89 86 (.bin .leq (kc (-1)) (.t 88)), kn 90 (.pick (.t 86) (.t 89) (.c (.d (.v (.bool false))))), kn 91 (.mv (.t 90)), ky 92 91 (.fa (.t 3) 9), ky 93 91 (.ld (.t 92) 1 false), ky 94 91 (.bin .lss (.t 93) (kc 64)), kn 95 (.pick (.t 91) (.t 94) (.c (.d (.v (.bool false))))), kn 7 (.mv (.t 95))])
 (.seq (.reg [kn 96 (.fa (.t 3) 6), kn 97 (.ld (.t 96) 1 false), kn 98 (.len false (.t 97)), kn 99 (.mv (kc 0))])
 (.block 1 (.loop c118l1))))) (.seq (.reg [kn 118 (.bin .eql (.t 18) (kc 10)), kn 117 (.mv (.t 118))])
 (.cond (.t 117) (.seq (.reg [kn 119 (.fa (.t 3) 4), kn 120 (.ld (.t 119) 1 false), kn 121 (.fa (.t 6) 4), ke (.st (.t 121) (.t 120) 1)])
 (.reg [kn 122 (.mv (.t 5)), kn 123 (.fa (.t 3) 4), kn 124 (.ld (.t 123) 1 false), kn 125 (.callv (.t 122) [(.t 124)]), kn 126 (.bin .eql (.t 125) (kc 9)), kn 7 (.mv (.t 126))])) (.seq (.reg [kn 128 (.bin .eql (.t 18) (kc 11)), kn 127 (.mv (.t 128))])
 (.cond (.t 127) (.seq (.dreg [[], [0], [], [2], [0, 1], [4, 1, 0, 1], [0, 1, 2, 3, 4, 5], [6, 3, 5, 0, 1, 2, 3, 4, 5]] [kn 129 (.fa (.t 3) 7), kn 130 (.ld (.t 129) 1 false), kn 131 (.fa (.t 3) 8), kn 132 (.ld (.t 131) 1 false), kn 133 (.fa (.t 6) 7), ke (.st (.t 133) (.t 130) 1), kn 134 (.fa (.t 6) 8), ke (.st (.t 134) (.t 132) 1)])
 (.seq (.reg [kn 135 (.fa (.t 3) 7), kn 136 (.ld (.t 135) 1 false), kn 137 (.len false (.t 136)), kn 138 (.bin .leq (.t 137) (kc 64)), kn 139 (.mv (.t 138)), ky 140 139 (.fa (.t 3) 8), ky 141 139 (.ld (.t 140) 1 false), ky 142 139 (.bin .eql (.t 141) (kc 0)), ky 143 139 (.mv (.t 142)), ko 144 143 (.mv (.t 5)), ko 145 143 (.fa (.t 3) 8), ko 146 143 (.ld (.t 145) 1 false), ko 147 143 (.callv (.t 144) [(.t 146)]), ko 148 143 (.call 134 [(.t 147)]), ky 149 139 (.pick (.t 143) (.c (.d (.v (.bool true)))) (.t 148)), kn 150 (.pick (.t 139) (.t 149) (.c (.d (.v (.bool false))))), kn 7 (.mv (.t 150))])
 (.seq (.reg [kn 151 (.fa (.t 3) 7), kn 152 (.ld (.t 151) 1 false), kn 153 (.len false (.t 152)), kn 154 (.mv (kc 0))])
 (.block 3 (.loop c118l0))))) (.skip)))))))))))))
 (.seq (.reg [kn 174 (.fa (.t 3) 1), kn 175 (.ld (.t 174) 1 false), kn 176 (.bin .eql (.t 175) (.c (.d (.v (.string ⟨#[]⟩))))), kn 177 (.mv (.t 176)), ky 178 177 (.fa (.t 3) 2), ky 179 177 (.ld (.t 178) 1 false), ky 180 177 (.bin .eql (.t 179) (.c (.d (.v (.string ⟨#[]⟩))))), kn 181 (.pick (.t 177) (.t 180) (.c (.d (.v (.bool false))))), kn 182 (.mv (.t 181)), ky 183 182 (.fa (.t 3) 0), ky 184 182 (.ld (.t 183) 1 false), ky 185 182 (.bin .neq (.t 184) (kc 9)), kn 186 (.pick (.t 182) (.t 185) (.c (.d (.v (.bool false))))), kn 187 (.mv (.t 186)), ko 188 187 (.fa (.t 3) 1), ko 189 187 (.ld (.t 188) 1 false), ko 190 187 (.call 133 [(.t 189)]), ko 191 187 (.mv (.t 190)), ky 192 191 (.fa (.t 3) 2), ky 193 191 (.ld (.t 192) 1 false), ky 194 191 (.call 133 [(.t 193)]), ky 195 191 (.mv (.t 194)), ko 196 195 (.fa (.t 3) 2), ko 197 195 (.ld (.t 196) 1 false), ko 198 195 (.bin .eql (.t 197) (.c (.d (.v (.string ⟨#[]⟩))))), ko 199 195 (.mv (.t 198)), ky 200 199 (.fa (.t 3) 0), ky 201 199 (.ld (.t 200) 1 false), ky 202 199 (.bin .eql (.t 201) (kc 9)), ko 203 195 (.pick (.t 199) (.t 202) (.c (.d (.v (.bool false))))), ky 204 191 (.pick (.t 195) (.c (.d (.v (.bool true)))) (.t 203)), ko 205 187 (.pick (.t 191) (.t 204) (.c (.d (.v (.bool false))))), kn 206 (.pick (.t 187) (.c (.d (.v (.bool true)))) (.t 205)), kn 12 (.mv (.t 206))])
 (.seq (.reg [kn 207 (.mv (.t 7)), kn 208 (.mv (.t 207)), ky 209 208 (.mv (.t 12)), kn 210 (.pick (.t 208) (.t 209) (.c (.d (.v (.bool false))))), kn 211 (.mv (.t 210)), ky 212 211 (.fa (.t 3) 9), ky 213 211 (.ld (.t 212) 1 false), ky 214 211 (.fa (.t 6) 9), ky 215 211 (.ld (.t 214) 1 false), ky 216 211 (.bin .eql (.t 213) (.t 215)), kn 217 (.pick (.t 211) (.t 216) (.c (.d (.v (.bool false))))), kn 218 (.mv (.t 217)), ky 219 218 (.fa (.t 3) 3), ky 220 218 (.ld (.t 219) 1 false), ky 221 218 (.fa (.t 6) 3), ky 222 218 (.ld (.t 221) 1 false), ky 223 218 (.bin .eql (.t 220) (.t 222)), kn 224 (.pick (.t 218) (.t 223) (.c (.d (.v (.bool false))))), kn 225 (.mv (.t 224)), ky 226 225 (.fa (.t 3) 4), ky 227 225 (.ld (.t 226) 1 false), ky 228 225 (.fa (.t 6) 4), ky 229 225 (.ld (.t 228) 1 false), ky 230 225 (.bin .eql (.t 227) (.t 229)), kn 231 (.pick (.t 225) (.t 230) (.c (.d (.v (.bool false))))), kn 232 (.mv (.t 231)), ky 233 232 (.fa (.t 3) 5), ky 234 232 (.ld (.t 233) 1 false), ky 235 232 (.fa (.t 6) 5), ky 236 232 (.ld (.t 235) 1 false), ky 237 232 (.bin .eql (.t 234) (.t 236)), kn 238 (.pick (.t 232) (.t 237) (.c (.d (.v (.bool false))))), kn 239 (.mv (.t 238)), ky 240 239 (.fa (.t 3) 8), ky 241 239 (.ld (.t 240) 1 false), ky 242 239 (.fa (.t 6) 8), ky 243 239 (.ld (.t 242) 1 false), ky 244 239 (.bin .eql (.t 241) (.t 243)), kn 245 (.pick (.t 239) (.t 244) (.c (.d (.v (.bool false))))), kn 246 (.mv (.t 245)), ky 247 246 (.fa (.t 3) 6), ky 248 246 (.ld (.t 247) 1 false), ky 249 246 (.len false (.t 248)), ky 250 246 (.fa (.t 6) 6), ky 251 246 (.ld (.t 250) 1 false), ky 252 246 (.len false (.t 251)), ky 253 246 (.bin .eql (.t 249) (.t 252)), kn 254 (.pick (.t 246) (.t 253) (.c (.d (.v (.bool false))))), kn 255 (.mv (.t 254)), ky 256 255 (.fa (.t 3) 7), ky 257 255 (.ld (.t 256) 1 false), ky 258 255 (.len false (.t 257)), ky 259 255 (.fa (.t 6) 7), ky 260 255 (.ld (.t 259) 1 false), ky 261 255 (.len false (.t 260)), ky 262 255 (.bin .eql (.t 258) (.t 261)), kn 263 (.pick (.t 255) (.t 262) (.c (.d (.v (.bool false))))), kn 4 (.mv (.t 263))])
 (.ret)))))))
def r118 : List RC := [.t 4]

def c119l0 : AC :=
 .seq (.reg [kn 71 (.bin .lss (.t 70) (.t 69))])
 (.seq (.cond (.t 71) (.skip) (.exit 3))
 (.seq (.block 4 (.seq (.reg [kn 72 (.ia (.t 68) (.t 70) 1), kn 73 (.ld (.t 72) 1 false), kn 11 (.mv (.t 73))])
 (.seq (.reg [kn 74 (.mv (.t 0)), kn 75 (.mv (.t 11)), kn 76 (.mv (.t 2)), kn 77 (.call 119 [(.t 74), (.t 75), (.t 76)]), kn 78 (.un .not (.t 77))])
 (.cond (.t 78) (.seq (.reg [kn 6 (.mv (.c (.d (.v (.bool false)))))])
 (.ret)) (.skip)))))
 (.reg [kn 79 (.bin .add (.t 70) (kc 1)), kn 70 (.mv (.t 79))])))

def c119l1 : AC :=
 .seq (.reg [kn 59 (.bin .lss (.t 58) (.t 57))])
 (.seq (.cond (.t 59) (.skip) (.exit 1))
 (.seq (.block 2 (.seq (.reg [kn 60 (.ia (.t 56) (.t 58) 3), kn 61 (.ld (.t 60) 3 true), kn 9 (.al [(.d (.v (.string ⟨#[]⟩))), (.d (.v (.bool false))), kz]), ke (.st (.t 9) (.t 61) 3)])
 (.reg [kn 62 (.mv (.t 7)), kn 63 (.fa (.t 9) 2), kn 64 (.ld (.t 63) 1 false), kn 65 (.bs .im 3 1 [(.t 64)]), kn 66 (.app .gr 3 1 8 (.t 62) (.t 65)), kn 7 (.mv (.t 66))])))
 (.reg [kn 67 (.bin .add (.t 58) (kc 1)), kn 58 (.mv (.t 67))])))

def c119 : AC :=
 .seq (.reg [kn 6 (.mv (.c (.d (.v (.bool false)))))])
 (.seq (.seq (.reg [kn 12 (.mv (.t 2)), kn 13 (.mv (.t 1)), kn 14 (.ia (.t 12) (.t 13) 1), kn 15 (.ld (.t 14) 1 false), kn 16 (.bin .gtr (.t 15) (kc 0))])
 (.cond (.t 16) (.seq (.reg [kn 17 (.mv (.t 2)), kn 18 (.mv (.t 1)), kn 19 (.ia (.t 17) (.t 18) 1), kn 20 (.ld (.t 19) 1 false), kn 21 (.bin .eql (.t 20) (kc 2)), kn 6 (.mv (.t 21))])
 (.ret)) (.skip)))
 (.seq (.reg [kn 22 (.mv (.t 2)), kn 23 (.mv (.t 1)), kn 24 (.ia (.t 22) (.t 23) 1), ke (.st (.t 24) (kc 1) 1)])
 (.seq (.reg [kn 25 (.bs .im 3 1 []), kn 7 (.mv (.t 25))])
 (.seq (.seq (.reg [kn 26 (.mv (.t 0)), kn 27 (.mv (.t 1)), kn 28 (.ia (.t 26) (.t 27) 10), kn 29 (.fa (.t 28) 0), kn 30 (.ld (.t 29) 1 false)])
 (.block 0 (.seq (.seq (.reg [kn 32 (.bin .eql (.t 30) (kc 7)), kn 31 (.mv (.t 32))])
 (.cond (.t 31) (.skip) (.reg [kn 33 (.bin .eql (.t 30) (kc 8)), kn 31 (.mv (.t 33))])))
 (.cond (.t 31) (.reg [kn 34 (.mv (.t 7)), kn 35 (.mv (.t 0)), kn 36 (.mv (.t 1)), kn 37 (.ia (.t 35) (.t 36) 10), kn 38 (.fa (.t 37) 4), kn 39 (.ld (.t 38) 1 false), kn 40 (.bs .im 3 1 [(.t 39)]), kn 41 (.app .gr 3 1 8 (.t 34) (.t 40)), kn 7 (.mv (.t 41))]) (.seq (.reg [kn 43 (.bin .eql (.t 30) (kc 9)), kn 42 (.mv (.t 43))])
 (.cond (.t 42) (.seq (.reg [kn 44 (.mv (.t 7)), kn 45 (.mv (.t 0)), kn 46 (.mv (.t 1)), kn 47 (.ia (.t 45) (.t 46) 10), kn 48 (.fa (.t 47) 5), kn 49 (.ld (.t 48) 1 false), kn 50 (.bs .im 3 1 [(.t 49)]), kn 51 (.app .gr 3 1 8 (.t 44) (.t 50)), kn 7 (.mv (.t 51))])
 (.seq (.reg [kn 52 (.mv (.t 0)), kn 53 (.mv (.t 1)), kn 54 (.ia (.t 52) (.t 53) 10), kn 55 (.fa (.t 54) 6), kn 56 (.ld (.t 55) 1 false), kn 57 (.len false (.t 56)), kn 58 (.mv (kc 0))])
 (.block 1 (.loop c119l1)))) (.skip)))))))
 (.seq (.seq (.reg [kn 68 (.mv (.t 7)), kn 69 (.len false (.t 68)), kn 70 (.mv (kc 0))])
 (.block 3 (.loop c119l0)))
 (.seq (.reg [kn 80 (.mv (.t 2)), kn 81 (.mv (.t 1)), kn 82 (.ia (.t 80) (.t 81) 1), ke (.st (.t 82) (kc 2) 1)])
 (.seq (.reg [kn 6 (.mv (.c (.d (.v (.bool true)))))])
 (.ret))))))))
def r119 : List RC := [.t 6]

def c120 : AC :=
 .seq (.reg [kn 4 (.mv (.c (.d (.v (.bool false)))))])
 (.seq (.reg [kn 5 (.mv (.t 0)), kn 6 (.mv (.t 1)), kn 7 (.call 135 [(.t 5), (.t 6)]), kn 8 (.bin .geq (.t 7) (kc 0)), kn 4 (.mv (.t 8))])
 (.ret))
def r120 : List RC := [.t 4]

def c121 : AC :=
 .seq (.reg [kn 2 (.bx (.t 0)), kn 3 (.mv (.c (.d (.v (.bool false)))))])
 (.seq (.reg [kn 4 (.fa (.t 2) 0), kn 5 (.ld (.t 4) 1 false), kn 6 (.bin .eql (.t 5) (kc 9)), kn 7 (.mv (.t 6)), ky 8 7 (.ld (.t 1) 1 false), ky 9 7 (.ld (.t 2) 10 true), ky 10 7 (.call 122 [(.t 8), (.t 9)]), ky 11 7 (.un .not (.t 10)), kn 12 (.pick (.t 7) (.t 11) (.c (.d (.v (.bool false))))), kn 3 (.mv (.t 12))])
 (.ret))
def r121 : List RC := [.t 3]

def c122l0 : AC :=
 .seq (.reg [kn 18 (.bin .lss (.t 17) (.t 16))])
 (.seq (.cond (.t 18) (.skip) (.exit 2))
 (.seq (.block 3 (.seq (.reg [kn 19 (.ia (.t 15) (.t 17) 3), kn 20 (.ld (.t 19) 3 true), kn 8 (.al [(.d (.v (.string ⟨#[]⟩))), (.d (.v (.bool false))), kz]), ke (.st (.t 8) (.t 20) 3)])
 (.seq (.reg [kn 21 (.mv (.t 5)), kn 22 (.fa (.t 8) 0), kn 23 (.ld (.t 22) 1 false), kn 24 (.lk ⟨false, [.s]⟩ kz (.t 21) (.t 23) false), kn 25 (.bin .add (.t 24) (kc 1)), ke (.mu ⟨false, [.s]⟩ (.t 21) (.t 23) (.t 25))])
 (.seq (.reg [kn 26 (.mv (.t 5)), kn 27 (.fa (.t 8) 0), kn 28 (.ld (.t 27) 1 false), kn 29 (.lk ⟨false, [.s]⟩ kz (.t 26) (.t 28) false), kn 30 (.bin .gtr (.t 29) (kc 1))])
 (.cond (.t 30) (.seq (.reg [kn 4 (.mv (.c (.d (.v (.bool false)))))])
 (.ret)) (.skip))))))
 (.reg [kn 31 (.bin .add (.t 17) (kc 1)), kn 17 (.mv (.t 31))])))

def c122l1 : AC :=
 .seq (.block 1 (.seq (.seq (.reg [kn 12 (.mv (.t 6)), kn 13 (.bin .gtr (.t 12) (kc 4))])
 (.cond (.t 13) (.seq (.reg [kn 4 (.mv (.c (.d (.v (.bool false)))))])
 (.ret)) (.skip)))
 (.seq (.seq (.reg [kn 14 (.fa (.t 3) 6), kn 15 (.ld (.t 14) 1 false), kn 16 (.len false (.t 15)), kn 17 (.mv (kc 0))])
 (.block 2 (.loop c122l0)))
 (.seq (.seq (.reg [kn 32 (.fa (.t 3) 5), kn 33 (.ld (.t 32) 1 false), kn 34 (.bin .eql (.t 33) (kc 0))])
 (.cond (.t 34) (.seq (.reg [kn 4 (.mv (.c (.d (.v (.bool true)))))])
 (.ret)) (.skip)))
 (.reg [kn 35 (.mv (.t 0)), kn 36 (.fa (.t 3) 5), kn 37 (.ld (.t 36) 1 false), kn 38 (.ia (.t 35) (.t 37) 10), kn 39 (.ld (.t 38) 10 true), ke (.st (.t 3) (.t 39) 10)])))))
 (.reg [kn 10 (.mv (.t 6)), kn 11 (.bin .add (.t 10) (kc 1)), kn 6 (.mv (.t 11))])

def c122 : AC :=
 .seq (.reg [kn 3 (.bx (.t 1)), kn 4 (.mv (.c (.d (.v (.bool false)))))])
 (.seq (.reg [kn 9 (.mkm ⟨false, [.s]⟩), kn 5 (.mv (.t 9))])
 (.seq (.reg [kn 6 (.mv (kc 0))])
 (.block 0 (.loop c122l1))))
def r122 : List RC := [.t 4]

def c131 : AC :=
 .seq (.reg [kn 3 (.mv (kc 0))])
 (.seq (.seq (.reg [kn 4 (.mv (.t 0)), kn 5 (.bin .lss (.t 4) (kc 0)), kn 6 (.mv (.t 5)), ko 7 6 (.mv (.t 0)), ko 8 6 (.ld (.t 1) 1 false), ko 9 6 (.len false (.t 8)), ko 10 6 (.bin .geq (.t 7) (.t 9)), kn 11 (.pick (.t 6) (.c (.d (.v (.bool true)))) (.t 10))])
 (.cond (.t 11) (.seq (.reg [kn 3 (.mv (kc (-1)))])
 (.ret)) (.skip)))
 (.seq (.reg [kn 12 (.ld (.t 1) 1 false), kn 13 (.mv (.t 0)), kn 14 (.ia (.t 12) (.t 13) 10), kn 15 (.fa (.t 14) 0), kn 16 (.ld (.t 15) 1 false), kn 3 (.mv (.t 16))])
 (.ret)))
def r131 : List RC := [.t 3]

def c132 : AC :=
 .seq (.reg [kn 2 (.mv (.c (.d (.v (.bool false)))))])
 (.seq (.reg [kn 3 (.mv (.t 0)), kn 4 (.bin .geq (.t 3) (kc 1)), kn 5 (.mv (.t 4)), ky 6 5 (.mv (.t 0)), ky 7 5 (.bin .leq (.t 6) (kc 4)), kn 8 (.pick (.t 5) (.t 7) (.c (.d (.v (.bool false))))), kn 9 (.mv (.t 8)), ko 10 9 (.mv (.t 0)), ko 11 9 (.bin .eql (.t 10) (kc 7)), kn 12 (.pick (.t 9) (.c (.d (.v (.bool true)))) (.t 11)), kn 13 (.mv (.t 12)), ko 14 13 (.mv (.t 0)), ko 15 13 (.bin .geq (.t 14) (kc 9)), ko 16 13 (.mv (.t 15)), ky 17 16 (.mv (.t 0)), ky 18 16 (.bin .leq (.t 17) (kc 11)), ko 19 13 (.pick (.t 16) (.t 18) (.c (.d (.v (.bool false))))), kn 20 (.pick (.t 13) (.c (.d (.v (.bool true)))) (.t 19)), kn 2 (.mv (.t 20))])
 (.ret))
def r132 : List RC := [.t 2]

def c133 : AC :=
 .seq (.reg [kn 2 (.mv (.c (.d (.v (.bool false)))))])
 (.seq (.seq (.reg [kn 3 (.mv (.t 0)), kn 4 (.bin .eql (.t 3) (.c (.d (.v (.string ⟨#[]⟩))))), kn 5 (.mv (.t 4)), ko 6 5 (.mv (.t 0)), ko 7 5 (.len true (.t 6)), ko 8 5 (.bin .gtr (.t 7) (kc 24)), kn 9 (.pick (.t 5) (.c (.d (.v (.bool true)))) (.t 8)), kn 10 (.mv (.t 9)), ko 11 10 (.mv (.t 0)), ko 12 10 (.ix (.t 11) (kc 0)), ko 13 10 (.bin .leq (.t 12) (.c (.d (.v (.int .u8 57))))), kn 14 (.pick (.t 10) (.c (.d (.v (.bool true)))) (.t 13))])
 (.cond (.t 14) (.seq (.reg [kn 2 (.mv (.c (.d (.v (.bool false)))))])
 (.ret)) (.skip)))
 (.seq (.reg [kn 15 (.mv (.t 0)), kn 16 (.s2b .im 0 (.t 15)), kn 17 (.call 104 [(.t 16), (.c (.fn 137 []))]), kn 18 (.un .not (.t 17)), kn 2 (.mv (.t 18))])
 (.ret)))
def r133 : List RC := [.t 2]

def c134 : AC :=
 .seq (.reg [kn 2 (.mv (.c (.d (.v (.bool false)))))])
 (.seq (.reg [kn 3 (.mv (.t 0)), kn 4 (.bin .geq (.t 3) (kc 1)), kn 5 (.mv (.t 4)), ky 6 5 (.mv (.t 0)), ky 7 5 (.bin .leq (.t 6) (kc 4)), kn 8 (.pick (.t 5) (.t 7) (.c (.d (.v (.bool false))))), kn 9 (.mv (.t 8)), ko 10 9 (.mv (.t 0)), ko 11 9 (.bin .eql (.t 10) (kc 10)), kn 12 (.pick (.t 9) (.c (.d (.v (.bool true)))) (.t 11)), kn 13 (.mv (.t 12)), ko 14 13 (.mv (.t 0)), ko 15 13 (.bin .eql (.t 14) (kc 11)), kn 16 (.pick (.t 13) (.c (.d (.v (.bool true)))) (.t 15)), kn 2 (.mv (.t 16))])
 (.ret))
def r134 : List RC := [.t 2]

def c135l0 : AC :=
 .seq (.reg [kn 9 (.bin .lss (.t 8) (.t 7))])
 (.seq (.cond (.t 9) (.skip) (.exit 0))
 (.seq (.block 1 (.seq (.reg [kn 10 (.mv (.t 8)), kn 5 (.mv (.t 10))])
 (.seq (.reg [kn 11 (.mv (.t 1)), kn 12 (.mv (.t 0)), kn 13 (.mv (.t 5)), kn 14 (.ia (.t 12) (.t 13) 10), kn 15 (.ld (.t 14) 10 true), kn 16 (.callv (.t 11) [(.t 15)])])
 (.cond (.t 16) (.seq (.reg [kn 17 (.mv (.t 5)), kn 4 (.mv (.t 17))])
 (.ret)) (.skip)))))
 (.reg [kn 18 (.bin .add (.t 8) (kc 1)), kn 8 (.mv (.t 18))])))

def c135 : AC :=
 .seq (.reg [kn 4 (.mv (kc 0))])
 (.seq (.seq (.reg [kn 6 (.mv (.t 0)), kn 7 (.len false (.t 6)), kn 8 (.mv (kc 0))])
 (.block 0 (.loop c135l0)))
 (.seq (.reg [kn 4 (.mv (kc (-1)))])
 (.ret)))
def r135 : List RC := [.t 4]

def c137 : AC :=
 .seq (.reg [kn 2 (.mv (.c (.d (.v (.bool false)))))])
 (.seq (.reg [kn 3 (.mv (.t 0)), kn 4 (.bin .lss (.t 3) (.c (.d (.v (.int .u8 97))))), kn 5 (.mv (.t 4)), ko 6 5 (.mv (.t 0)), ko 7 5 (.bin .gtr (.t 6) (.c (.d (.v (.int .u8 122))))), kn 8 (.pick (.t 5) (.c (.d (.v (.bool true)))) (.t 7)), kn 9 (.mv (.t 8)), ky 10 9 (.mv (.t 0)), ky 11 9 (.bin .lss (.t 10) (.c (.d (.v (.int .u8 65))))), ky 12 9 (.mv (.t 11)), ko 13 12 (.mv (.t 0)), ko 14 12 (.bin .gtr (.t 13) (.c (.d (.v (.int .u8 90))))), ky 15 9 (.pick (.t 12) (.c (.d (.v (.bool true)))) (.t 14)), kn 16 (.pick (.t 9) (.t 15) (.c (.d (.v (.bool false))))), kn 17 (.mv (.t 16)), ky 18 17 (.mv (.t 0)), ky 19 17 (.bin .lss (.t 18) (.c (.d (.v (.int .u8 48))))), ky 20 17 (.mv (.t 19)), ko 21 20 (.mv (.t 0)), ko 22 20 (.bin .gtr (.t 21) (.c (.d (.v (.int .u8 57))))), ky 23 17 (.pick (.t 20) (.c (.d (.v (.bool true)))) (.t 22)), kn 24 (.pick (.t 17) (.t 23) (.c (.d (.v (.bool false))))), kn 2 (.mv (.t 24))])
 (.ret))
def r137 : List RC := [.t 2]

theorem cc51 : Try.f51.body.bind (comp Try.prog (hh 51)) = some c51 := by kernel_rfl
theorem rr51 : resC Try.prog Try.f51 = some r51 := by kernel_rfl
theorem cc80 : Try.f80.body.bind (comp Try.prog (hh 80)) = some c80 := by kernel_rfl
theorem rr80 : resC Try.prog Try.f80 = some r80 := by kernel_rfl
theorem cc104 : Try.f104.body.bind (comp Try.prog (hh 104)) = some c104 := by kernel_rfl
theorem rr104 : resC Try.prog Try.f104 = some r104 := by kernel_rfl
theorem cc106 : Try.f106.body.bind (comp Try.prog (hh 106)) = some c106 := by kernel_rfl
theorem rr106 : resC Try.prog Try.f106 = some r106 := by kernel_rfl
theorem cc116 : Try.f116.body.bind (comp Try.prog (hh 116)) = some c116 := by kernel_rfl
theorem rr116 : resC Try.prog Try.f116 = some r116 := by kernel_rfl
theorem cc117 : Try.f117.body.bind (comp Try.prog (hh 117)) = some c117 := by kernel_rfl
theorem rr117 : resC Try.prog Try.f117 = some r117 := by kernel_rfl
theorem cc118 : Try.f118.body.bind (comp Try.prog (hh 118)) = some c118 := by kernel_rfl
theorem rr118 : resC Try.prog Try.f118 = some r118 := by kernel_rfl
theorem cc119 : Try.f119.body.bind (comp Try.prog (hh 119)) = some c119 := by kernel_rfl
theorem rr119 : resC Try.prog Try.f119 = some r119 := by kernel_rfl
theorem cc120 : Try.f120.body.bind (comp Try.prog (hh 120)) = some c120 := by kernel_rfl
theorem rr120 : resC Try.prog Try.f120 = some r120 := by kernel_rfl
theorem cc121 : Try.f121.body.bind (comp Try.prog (hh 121)) = some c121 := by kernel_rfl
theorem rr121 : resC Try.prog Try.f121 = some r121 := by kernel_rfl
theorem cc122 : Try.f122.body.bind (comp Try.prog (hh 122)) = some c122 := by kernel_rfl
theorem rr122 : resC Try.prog Try.f122 = some r122 := by kernel_rfl
theorem cc131 : Try.f131.body.bind (comp Try.prog (hh 131)) = some c131 := by kernel_rfl
theorem rr131 : resC Try.prog Try.f131 = some r131 := by kernel_rfl
theorem cc132 : Try.f132.body.bind (comp Try.prog (hh 132)) = some c132 := by kernel_rfl
theorem rr132 : resC Try.prog Try.f132 = some r132 := by kernel_rfl
theorem cc133 : Try.f133.body.bind (comp Try.prog (hh 133)) = some c133 := by kernel_rfl
theorem rr133 : resC Try.prog Try.f133 = some r133 := by kernel_rfl
theorem cc134 : Try.f134.body.bind (comp Try.prog (hh 134)) = some c134 := by kernel_rfl
theorem rr134 : resC Try.prog Try.f134 = some r134 := by kernel_rfl
theorem cc135 : Try.f135.body.bind (comp Try.prog (hh 135)) = some c135 := by kernel_rfl
theorem rr135 : resC Try.prog Try.f135 = some r135 := by kernel_rfl
theorem cc137 : Try.f137.body.bind (comp Try.prog (hh 137)) = some c137 := by kernel_rfl
theorem rr137 : resC Try.prog Try.f137 = some r137 := by kernel_rfl
end Go.Proofs.Ythifjndenhjobaa
