/- The functions' code in the small language. Printed by program (wip/tools). -/
import Derived.Test.YtofpekbidngnfaaGreatDoorYRead
import Derived.Test.YtofpekbidngnfaaGreatDoorProg
import Derived.KernelRfl
set_option linter.unusedSectionVars false
set_option linter.unusedSimpArgs false
set_option linter.unusedVariables false
namespace Go.Proofs.YtofpekbidngnfaaGreatDoor
open Go.RowKit
def hh:Nat->Nat->Option Md:=λ_ _=>none
abbrev kn (d:Nat) (k:K):Ins:=⟨some d,k,none⟩
abbrev ky (d g:Nat) (k:K):Ins:=⟨some d,k,some (g,true)⟩
abbrev ko (d g:Nat) (k:K):Ins:=⟨some d,k,some (g,false)⟩
abbrev ke (k:K):Ins:=⟨none,k,none⟩
abbrev kc (n:Int):Opd:=.c (.d (.v (.int .i64 n)))
abbrev kz:AV:=.d (.v (.int .i64 0))
abbrev ks:AV:=.d (.v (.string ⟨#[]⟩))
abbrev kF:Opd:=.c (.d (.v (.bool false)))
abbrev kT:Opd:=.c (.d (.v (.bool true)))
abbrev im (d:Nat) (x:Opd):Ins:=kn d (.mv x)
abbrev il (d:Nat) (x:Opd):Ins:=kn d (.ld x 1 false)
abbrev ia (d:Nat) (x:Opd) (n:Nat):Ins:=kn d (.fa x n)
abbrev iv0 (d:Nat) (x:Opd):Ins:=kn d (.nc x)
abbrev ic (d f:Nat) (l:List Opd):Ins:=kn d (.call f l)
abbrev ib (d:Nat) (o:BinOp) (x y:Opd):Ins:=kn d (.bin o x y)
abbrev sr (l:List Ins) (x:AC):AC:=.seq (.reg l) x
abbrev t0:Opd:=.t 0
abbrev t1:Opd:=.t 1
abbrev t2:Opd:=.t 2
abbrev t3:Opd:=.t 3
abbrev t4:Opd:=.t 4
abbrev t5:Opd:=.t 5
abbrev t6:Opd:=.t 6
abbrev t7:Opd:=.t 7
abbrev t8:Opd:=.t 8
abbrev t9:Opd:=.t 9
abbrev t10:Opd:=.t 10
abbrev t11:Opd:=.t 11
abbrev t12:Opd:=.t 12
abbrev t13:Opd:=.t 13
abbrev t14:Opd:=.t 14
abbrev t15:Opd:=.t 15
abbrev t16:Opd:=.t 16
abbrev t17:Opd:=.t 17
abbrev t18:Opd:=.t 18
abbrev t19:Opd:=.t 19
abbrev t20:Opd:=.t 20
abbrev t21:Opd:=.t 21
abbrev t22:Opd:=.t 22
abbrev t23:Opd:=.t 23
abbrev t24:Opd:=.t 24
abbrev t25:Opd:=.t 25
abbrev t26:Opd:=.t 26
abbrev t27:Opd:=.t 27
abbrev t28:Opd:=.t 28
abbrev t29:Opd:=.t 29
abbrev t30:Opd:=.t 30
abbrev t31:Opd:=.t 31
abbrev t32:Opd:=.t 32
abbrev t33:Opd:=.t 33
abbrev t34:Opd:=.t 34
abbrev t35:Opd:=.t 35
abbrev t36:Opd:=.t 36
abbrev t37:Opd:=.t 37
abbrev t38:Opd:=.t 38
abbrev t39:Opd:=.t 39
abbrev t40:Opd:=.t 40
abbrev t41:Opd:=.t 41
abbrev t42:Opd:=.t 42
abbrev t43:Opd:=.t 43
abbrev t44:Opd:=.t 44
abbrev t45:Opd:=.t 45
abbrev t46:Opd:=.t 46
abbrev t47:Opd:=.t 47
abbrev t48:Opd:=.t 48
abbrev t49:Opd:=.t 49
abbrev t50:Opd:=.t 50
abbrev t51:Opd:=.t 51
abbrev t52:Opd:=.t 52
abbrev t53:Opd:=.t 53
abbrev t54:Opd:=.t 54
abbrev t55:Opd:=.t 55
abbrev t56:Opd:=.t 56
abbrev t57:Opd:=.t 57
abbrev t58:Opd:=.t 58
abbrev t59:Opd:=.t 59
abbrev t60:Opd:=.t 60
abbrev t61:Opd:=.t 61
abbrev t62:Opd:=.t 62
abbrev t63:Opd:=.t 63
abbrev t64:Opd:=.t 64
abbrev t65:Opd:=.t 65
abbrev t66:Opd:=.t 66
abbrev t67:Opd:=.t 67
abbrev t68:Opd:=.t 68
abbrev t69:Opd:=.t 69
abbrev t70:Opd:=.t 70
abbrev t71:Opd:=.t 71
abbrev t72:Opd:=.t 72
abbrev t73:Opd:=.t 73
abbrev t74:Opd:=.t 74
abbrev t75:Opd:=.t 75
abbrev t76:Opd:=.t 76
abbrev t77:Opd:=.t 77
abbrev t78:Opd:=.t 78
abbrev t79:Opd:=.t 79
abbrev t80:Opd:=.t 80
abbrev t81:Opd:=.t 81
abbrev t82:Opd:=.t 82
abbrev t83:Opd:=.t 83
abbrev t84:Opd:=.t 84
abbrev t85:Opd:=.t 85
abbrev t86:Opd:=.t 86
abbrev t87:Opd:=.t 87
abbrev t88:Opd:=.t 88
abbrev t89:Opd:=.t 89
abbrev t90:Opd:=.t 90
abbrev t91:Opd:=.t 91
abbrev t92:Opd:=.t 92
abbrev t93:Opd:=.t 93
abbrev t94:Opd:=.t 94
abbrev t95:Opd:=.t 95
abbrev t96:Opd:=.t 96
abbrev t97:Opd:=.t 97
abbrev t98:Opd:=.t 98
abbrev t99:Opd:=.t 99
abbrev t100:Opd:=.t 100
abbrev t101:Opd:=.t 101
abbrev t102:Opd:=.t 102
abbrev t103:Opd:=.t 103
abbrev t104:Opd:=.t 104
abbrev t105:Opd:=.t 105
abbrev t106:Opd:=.t 106
abbrev t107:Opd:=.t 107
abbrev t108:Opd:=.t 108
abbrev t109:Opd:=.t 109
abbrev t110:Opd:=.t 110
abbrev t111:Opd:=.t 111
abbrev t112:Opd:=.t 112
abbrev t113:Opd:=.t 113
abbrev t114:Opd:=.t 114
abbrev t115:Opd:=.t 115
abbrev t116:Opd:=.t 116
abbrev t117:Opd:=.t 117
abbrev t118:Opd:=.t 118
abbrev t119:Opd:=.t 119
abbrev t120:Opd:=.t 120
abbrev t121:Opd:=.t 121
abbrev t122:Opd:=.t 122
abbrev t123:Opd:=.t 123
abbrev t124:Opd:=.t 124
abbrev t125:Opd:=.t 125
abbrev t126:Opd:=.t 126
abbrev t127:Opd:=.t 127
abbrev t128:Opd:=.t 128
abbrev t129:Opd:=.t 129
abbrev t130:Opd:=.t 130
abbrev t131:Opd:=.t 131
abbrev t132:Opd:=.t 132
abbrev t133:Opd:=.t 133
abbrev t134:Opd:=.t 134
abbrev t135:Opd:=.t 135
abbrev t136:Opd:=.t 136
abbrev t137:Opd:=.t 137
abbrev t138:Opd:=.t 138
abbrev t139:Opd:=.t 139
abbrev t140:Opd:=.t 140
abbrev t141:Opd:=.t 141
abbrev t142:Opd:=.t 142
abbrev t143:Opd:=.t 143
abbrev t144:Opd:=.t 144
abbrev t145:Opd:=.t 145
abbrev t146:Opd:=.t 146
abbrev t147:Opd:=.t 147
abbrev t148:Opd:=.t 148
abbrev t149:Opd:=.t 149
abbrev t150:Opd:=.t 150
abbrev t151:Opd:=.t 151
abbrev t152:Opd:=.t 152
abbrev t153:Opd:=.t 153
abbrev t154:Opd:=.t 154
abbrev t155:Opd:=.t 155
abbrev t156:Opd:=.t 156
abbrev t157:Opd:=.t 157
abbrev t158:Opd:=.t 158
abbrev t159:Opd:=.t 159
abbrev t160:Opd:=.t 160
abbrev t161:Opd:=.t 161
abbrev t162:Opd:=.t 162
abbrev t163:Opd:=.t 163
abbrev t164:Opd:=.t 164
abbrev t165:Opd:=.t 165
abbrev t166:Opd:=.t 166
abbrev t167:Opd:=.t 167
abbrev t168:Opd:=.t 168
abbrev t169:Opd:=.t 169
abbrev cKc (f:Func) (h:Nat->Option Md) (c:AC):Prop:=f.body.bind (comp Tryz.prog h) = some c
def c178:AC:=
 sr [im 8 kT]
 (.seq (.block 0 (sr [im 17 t1,kn 18 (.bin .eql t17 (.c (.d (.v (.int .u32 4294967240))))),im 16 t18]
 (.cond t16 (.seq (sr [im 19 t0,iv0 20 t19,ia 21 t20 25,il 22 t21,kn 23 (.len false t22),ib 24 .eql t23 (kc 4096)]
 (.cond t24 (sr [im 25 t0,iv0 26 t25,ia 27 t26 26,ke (.st t27 (kc 6) 1)]
 (.ret)) (.skip)))
 (.reg [im 28 t0,im 29 t0,iv0 30 t29,ia 31 t30 25,il 32 t31,im 33 t2,kn 34 (.cvi .u8 t33),kn 35 (.bs .im 5 1 [t34]),kn 36 (.app .gr 5 1 1 t32 t35),iv0 37 t28,ia 38 t37 25,ke (.st t38 t36 1)])) (sr [im 40 t1,kn 41 (.bin .eql t40 (.c (.d (.v (.int .u32 4294967236))))),im 39 t41]
 (.cond t39 (.reg [im 42 t0,im 43 t0,im 44 t2,ic 45 264 [t44],iv0 46 t42,ia 47 t46 26,ke (.st t47 (kc 2) 1),iv0 48 t43,ia 49 t48 27,ke (.st t49 t45 1)]) (sr [im 51 t1,kn 52 (.bin .eql t51 (.c (.d (.v (.int .u32 4294967232))))),im 50 t52]
 (.cond t50 (.reg [im 53 t0,iv0 54 t53,ia 55 t54 26,ke (.st t55 (kc 1) 1)]) (sr [im 57 t3,im 56 t57]
 (.cond t56 (.reg [im 58 t0,iv0 59 t58,ia 60 t59 22,il 61 t60,im 62 t1,im 63 t2,ic 64 265 [t61,t62,t63],im 8 t64]) (.reg [im 9 t0,iv0 10 t9,ia 11 t10 22,il 12 t11,im 13 t1,im 14 t2,ic 15 266 [t12,t13,t14],im 8 t15]))))))))))
 (sr [im 65 t8,kn 66 (.un .not t65)]
 (.cond t66 (.reg [im 67 t0,iv0 68 t67,ia 69 t68 26,ke (.st t69 (kc 5) 1)]) (.skip))))
def r178:List RC:=[]
def c183:AC:=
 sr [kn 11 (.bx t5),kn 12 (.mv (.c (.d (.v (.int .u32 0))))),kn 13 (.mv (.c (.d (.v (.int .u32 0))))),kn 14 (.al [(.d (.v (.bool false))),(.d (.v (.bool false))),(.d (.v (.bool false))),(.d (.v (.bool false)))]),im 15 kF]
 (.seq (sr [im 17 t0,ib 18 .lss t17 (kc 0),im 19 t18,ko 20 19 (.mv t0),ko 21 19 (.bin .gtr t20 (kc 11)),kn 22 (.pick t19 kT t21),im 23 t22,ko 24 23 (.mv t1),ko 25 23 (.mv t24),ky 26 25 (.mv t0),ky 27 25 (.bin .neq t26 (kc 0)),ko 28 23 (.pick t25 t27 kF),ko 29 23 (.mv t28),ky 30 29 (.mv t0),ky 31 29 (.bin .lss t30 (kc 8)),ky 32 29 (.mv t31),ko 33 32 (.mv t0),ko 34 32 (.bin .gtr t33 (kc 10)),ky 35 29 (.pick t32 kT t34),ko 36 23 (.pick t29 t35 kF),kn 37 (.pick t23 kT t36)]
 (.cond t37 (sr [kn 38 (.bd [(.d (.v (.bool false))),(.d (.v (.bool false))),(.d (.v (.bool false))),(.d (.v (.bool false)))] []),kn 12 (.mv (.c (.d (.v (.int .u32 0))))),kn 13 (.mv (.c (.d (.v (.int .u32 0))))),ke (.st t14 t38 4),im 15 kF]
 (.ret)) (.skip)))
 (sr [kn 16 (.mv (.c (.d (.v (.int .u32 0)))))]
 (.seq (sr [im 39 t1,im 40 t39,ky 41 40 (.fa t11 2),ky 42 40 (.ld t41 1 false),kn 43 (.pick t40 t42 kF)]
 (.cond t43 (.reg [kn 16 (.mv (.c (.d (.v (.int .u32 1)))))]) (.skip)))
 (sr [im 44 t4,im 13 t44]
 (.seq (sr [im 45 t0]
 (.block 0 (sr [ib 47 .eql t45 (kc 0),im 46 t47]
 (.cond t46 (sr [im 48 t3,im 12 t48]
 (sr [im 49 t1]
 (.cond t49 (.reg [im 50 t4,im 12 t50]) (.skip)))) (sr [ib 52 .eql t45 (kc 1),im 51 t52]
 (.cond t51 (.reg [im 53 t2,im 54 t3,ic 55 268 [t53,t54],im 12 t55]) (sr [ib 57 .eql t45 (kc 2),im 56 t57]
 (.cond t56 (.reg [im 58 t2,im 59 t3,ic 60 269 [t58,t59],im 12 t60]) (sr [ib 62 .eql t45 (kc 3),im 61 t62]
 (.cond t61 (.reg [im 63 t2,im 64 t3,ic 65 270 [t63,t64],im 12 t65]) (sr [ib 67 .eql t45 (kc 4),im 66 t67]
 (.cond t66 (.reg [im 68 t2,im 69 t3,ib 70 .and t68 t69,im 12 t70]) (sr [ib 72 .eql t45 (kc 5),im 71 t72]
 (.cond t71 (.reg [im 73 t2,im 74 t3,ib 75 .andNot t73 t74,im 12 t75]) (sr [ib 77 .eql t45 (kc 6),im 76 t77]
 (.cond t76 (.reg [im 78 t2,im 79 t3,ib 80 .or t78 t79,im 12 t80]) (sr [ib 82 .eql t45 (kc 7),im 81 t82]
 (.cond t81 (.reg [im 83 t2,im 84 t3,ib 85 .xor t83 t84,im 12 t85]) (sr [ib 87 .eql t45 (kc 8),im 86 t87]
 (.cond t86 (sr [im 88 t2,im 89 t3,ib 90 .add t88 t89,im 91 t16,ib 92 .add t90 t91,im 12 t92]
 (sr [im 93 t2,kn 94 (.cvi .u64 t93),im 95 t3,kn 96 (.cvi .u64 t95),ib 97 .add t94 t96,im 98 t16,kn 99 (.cvi .u64 t98),ib 100 .add t97 t99,kn 101 (.bin .geq t100 (.c (.d (.v (.int .u64 4294967296))))),ia 102 t11 2,ke (.st t102 t101 1)]
 (.reg [im 103 t2,kn 104 (.cvi .i32 t103),kn 105 (.cvi .i64 t104),im 106 t3,kn 107 (.cvi .i32 t106),kn 108 (.cvi .i64 t107),ib 109 .add t105 t108,im 110 t16,kn 111 (.cvi .i64 t110),ib 112 .add t109 t111,ic 113 271 [t112],ia 114 t11 3,ke (.st t114 t113 1)]))) (sr [ib 116 .eql t45 (kc 9),im 115 t116]
 (.cond t115 (sr [im 117 t2,im 118 t3,ib 119 .sub t117 t118,im 120 t16,ib 121 .sub t119 t120,im 12 t121]
 (sr [im 122 t2,kn 123 (.cvi .u64 t122),im 124 t3,kn 125 (.cvi .u64 t124),im 126 t16,kn 127 (.cvi .u64 t126),ib 128 .add t125 t127,ib 129 .lss t123 t128,ia 130 t11 2,ke (.st t130 t129 1)]
 (.reg [im 131 t2,kn 132 (.cvi .i32 t131),kn 133 (.cvi .i64 t132),im 134 t3,kn 135 (.cvi .i32 t134),kn 136 (.cvi .i64 t135),ib 137 .sub t133 t136,im 138 t16,kn 139 (.cvi .i64 t138),ib 140 .sub t137 t139,ic 141 271 [t140],ia 142 t11 3,ke (.st t142 t141 1)]))) (sr [ib 144 .eql t45 (kc 10),im 143 t144]
 (.cond t143 (.reg [im 146 t1,im 147 t2,im 148 t3,ic 149 272 [t146,t147,t148],im 145 t149,kn 150 (.ext t145 0),kn 151 (.ext t145 1),im 12 t150,im 13 t151]) (sr [ib 153 .eql t45 (kc 11),im 152 t153]
 (.cond t152 (.reg [im 155 t2,im 156 t3,ic 157 273 [t155,t156],im 154 t157,kn 158 (.ext t154 0),kn 159 (.ext t154 1),im 12 t158,im 13 t159]) (.skip)))))))))))))))))))))))))))
 (sr [im 160 t12,kn 161 (.bin .shr t160 (.c (.d (.v (.int .u64 31))))),kn 162 (.bin .eql t161 (.c (.d (.v (.int .u32 1))))),im 163 t12,kn 164 (.bin .eql t163 (.c (.d (.v (.int .u32 0))))),ia 165 t11 0,ke (.st t165 t162 1),ia 166 t11 1,ke (.st t166 t164 1)]
 (.seq (.dreg [[],[],[],[0,0],[1,3,0,1,3],[2,4,0,1,2,3,4],[5,0,1,2,3,4,5]] [im 167 t12,im 168 t13,kn 169 (.ld t11 4 true),im 12 t167,im 13 t168,ke (.st t14 t169 4),im 15 kT])
 (.ret))))))))
def r183:List RC:=[.t 12,.t 13,.c 14 4 true,.t 15]
theorem cc178:cKc Tryz.f178 (hh 178) c178:=by unfold cKc; kernel_rfl
theorem rr178:resC Tryz.prog Tryz.f178 = some r178:=by kernel_rfl
theorem cc183:cKc Tryz.f183 (hh 183) c183:=by unfold cKc; kernel_rfl
theorem rr183:resC Tryz.prog Tryz.f183 = some r183:=by kernel_rfl
def hht:Nat->Nat->Option Md:=λfn slot=>if (fn,slot) ∈ [(332,7)] then some .hp else none
def hhu:Nat->Nat->Option Md:=λfn slot=>if (fn,slot) ∈ [(4,21)] then some .hp else if (fn,slot) ∈ [(3,39),(3,56),(3,62)] then some .gr else none
end Go.Proofs.YtofpekbidngnfaaGreatDoor
