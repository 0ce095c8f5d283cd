/- Plain law: chains of bases; fields' names. -/
import Derived.Test.YthifjndenhjobaaXT6
namespace Go.Proofs.Ythifjndenhjobaa
set_option linter.unusedSimpArgs false
set_option linter.unusedVariables false

def chain (t : List Ty) : Nat → Int → List Int
 | 0, a => [a]
 | n + 1, a => a :: if (tyAt t a).base = 0 then [] else chain t n (tyAt t a).base
def namesL (t : List Ty) (l : List Int) : List ByteArray := l.flatMap fun a => (tyAt t a).fields.map Fd.name
def ChainP (t : List Ty) (a : Int) : Prop := (chain t 5 a).length ≤ 5 ∧ (namesL t (chain t 5 a)).Nodup
end Go.Proofs.Ythifjndenhjobaa

/- tables.formed: has a type what its form has, and nothing else? -/
namespace Go.Proofs.Ythifjndenhjobaa
set_option linter.unusedSimpArgs false
set_option linter.unusedVariables false
set_option maxRecDepth 20000
set_option maxHeartbeats 4000000
open Go.RowKit

def c118l0 : AC :=
 .seq (.reg [kn 155 (.bin .lss (.t 154) (.t 153))])
 (.seq (.cond (.t 155) (.skip) (.exit 3))
 (.seq (.block 4 (.seq (.reg [kn 156 (.ia (.t 152) (.t 154) 2), kn 157 (.ld (.t 156) 2 true), kn 11 (.al [(.d (.v (.bool false))), kz]), ke (.st (.t 11) (.t 157) 2)])
 (.reg [kn 158 (.mv (.t 7)), kn 159 (.mv (.t 158)), ky 160 159 (.mv (.t 5)), ky 161 159 (.fa (.t 11) 1), ky 162 159 (.ld (.t 161) 1 false), ky 163 159 (.callv (.t 160) [(.t 162)]), ky 164 159 (.call 132 [(.t 163)]), ky 165 159 (.mv (.t 164)), ko 166 165 (.mv (.t 5)), ko 167 165 (.fa (.t 11) 1), ko 168 165 (.ld (.t 167) 1 false), ko 169 165 (.callv (.t 166) [(.t 168)]), ko 170 165 (.bin .eql (.t 169) (kc 8)), ky 171 159 (.pick (.t 165) (.c (.d (.v (.bool true)))) (.t 170)), kn 172 (.pick (.t 159) (.t 171) (.c (.d (.v (.bool false))))), kn 7 (.mv (.t 172))])))
 (.reg [kn 173 (.bin .add (.t 154) (kc 1)), kn 154 (.mv (.t 173))])))

def c118l1 : AC :=
 .seq (.reg [kn 100 (.bin .lss (.t 99) (.t 98))])
 (.seq (.cond (.t 100) (.skip) (.exit 1))
 (.seq (.block 2 (.seq (.reg [kn 101 (.ia (.t 97) (.t 99) 3), kn 102 (.ld (.t 101) 3 true), kn 9 (.al [(.d (.v (.string ⟨#[]⟩))), (.d (.v (.bool false))), kz]), ke (.st (.t 9) (.t 102) 3)])
 (.reg [kn 103 (.mv (.t 7)), kn 104 (.mv (.t 103)), ky 105 104 (.fa (.t 9) 0), ky 106 104 (.ld (.t 105) 1 false), ky 107 104 (.call 133 [(.t 106)]), kn 108 (.pick (.t 104) (.t 107) (.c (.d (.v (.bool false))))), kn 109 (.mv (.t 108)), ky 110 109 (.mv (.t 5)), ky 111 109 (.fa (.t 9) 2), ky 112 109 (.ld (.t 111) 1 false), ky 113 109 (.callv (.t 110) [(.t 112)]), ky 114 109 (.call 132 [(.t 113)]), kn 115 (.pick (.t 109) (.t 114) (.c (.d (.v (.bool false))))), kn 7 (.mv (.t 115))])))
 (.reg [kn 116 (.bin .add (.t 99) (kc 1)), kn 99 (.mv (.t 116))])))

def c118 : AC :=
 .seq (.reg [kn 2 (.bx (.t 0)), kn 3 (.bx (.t 1)), kn 4 (.mv (.c (.d (.v (.bool false)))))])
 (.seq (.reg [kn 13 (.mkf 131 [(.t 2)]), kn 5 (.mv (.t 13))])
 (.seq (.reg [kn 14 (.fa (.t 3) 0), kn 15 (.ld (.t 14) 1 false), kn 16 (.bd [kz, (.d (.v (.string ⟨#[]⟩))), (.d (.v (.string ⟨#[]⟩))), kz, kz, kz, .esl, .esl, kz, kz] [(0, 1, (.t 15))]), kn 6 (.al [kz, (.d (.v (.string ⟨#[]⟩))), (.d (.v (.string ⟨#[]⟩))), kz, kz, kz, .esl, .esl, kz, kz]), ke (.st (.t 6) (.t 16) 10)])
 (.seq (.reg [kn 7 (.mv (.c (.d (.v (.bool false)))))])
 (.seq (.seq (.reg [kn 17 (.fa (.t 3) 0), kn 18 (.ld (.t 17) 1 false)])
 (.block 0 (.seq (.reg [kn 20 (.bin .eql (.t 18) (kc 7)), kn 19 (.mv (.t 20))])
 (.cond (.t 19) (.seq (.dreg [[], [0], [], [2], [0, 1], [4, 1, 0, 1], [0, 1, 2, 3, 4, 5], [6, 3, 5, 0, 1, 2, 3, 4, 5]] [kn 21 (.fa (.t 3) 3), kn 22 (.ld (.t 21) 1 false), kn 23 (.fa (.t 3) 4), kn 24 (.ld (.t 23) 1 false), kn 25 (.fa (.t 6) 3), ke (.st (.t 25) (.t 22) 1), kn 26 (.fa (.t 6) 4), ke (.st (.t 26) (.t 24) 1)])
 (.reg [kn 27 (.fa (.t 3) 3), kn 28 (.ld (.t 27) 1 false), kn 29 (.bin .leq (kc 1) (.t 28)), kn 30 (.mv (.t 29)), ky 31 30 (.fa (.t 3) 3), ky 32 30 (.ld (.t 31) 1 false), ky 33 30 (.bin .leq (.t 32) (kc 4096)), kn 34 (.pick (.t 30) (.t 33) (.c (.d (.v (.bool false))))), kn 35 (.mv (.t 34)), ky 36 35 (.mv (.t 5)), ky 37 35 (.fa (.t 3) 4), ky 38 35 (.ld (.t 37) 1 false), ky 39 35 (.callv (.t 36) [(.t 38)]), ky 40 35 (.call 132 [(.t 39)]), kn 41 (.pick (.t 35) (.t 40) (.c (.d (.v (.bool false))))), kn 7 (.mv (.t 41))])) (.seq (.reg [kn 43 (.bin .eql (.t 18) (kc 8)), kn 42 (.mv (.t 43))])
 (.cond (.t 42) (.seq (.reg [kn 44 (.fa (.t 3) 4), kn 45 (.ld (.t 44) 1 false), kn 46 (.fa (.t 6) 4), ke (.st (.t 46) (.t 45) 1)])
 (.reg [kn 47 (.mv (.t 5)), kn 48 (.fa (.t 3) 4), kn 49 (.ld (.t 48) 1 false), kn 50 (.callv (.t 47) [(.t 49)]), kn 51 (.call 132 [(.t 50)]), kn 52 (.mv (.t 51)), ko 53 52 (.mv (.t 5)), ko 54 52 (.fa (.t 3) 4), ko 55 52 (.ld (.t 54) 1 false), ko 56 52 (.callv (.t 53) [(.t 55)]), ko 57 52 (.bin .eql (.t 56) (kc 8)), kn 58 (.pick (.t 52) (.c (.d (.v (.bool true)))) (.t 57)), kn 7 (.mv (.t 58))])) (.seq (.reg [kn 60 (.bin .eql (.t 18) (kc 9)), kn 59 (.mv (.t 60))])
 (.cond (.t 59) (.seq (.dreg [[], [0], [], [2], [], [4], [0, 1], [6, 1, 0, 1], [0, 1, 2, 3, 6, 7], [8, 3, 7, 0, 1, 2, 3, 6, 7], [0, 1, 2, 3, 4, 5, 6, 7, 8, 9], [10, 5, 9, 0, 1, 2, 3, 4, 5, 6, 7, 8, 9]] [kn 61 (.fa (.t 3) 5), kn 62 (.ld (.t 61) 1 false), kn 63 (.fa (.t 3) 6), kn 64 (.ld (.t 63) 1 false), kn 65 (.fa (.t 3) 9), kn 66 (.ld (.t 65) 1 false), kn 67 (.fa (.t 6) 5), ke (.st (.t 67) (.t 62) 1), kn 68 (.fa (.t 6) 6), ke (.st (.t 68) (.t 64) 1), kn 69 (.fa (.t 6) 9), ke (.st (.t 69) (.t 66) 1)])
 (.seq (.reg [kn 70 (.fa (.t 3) 5), kn 71 (.ld (.t 70) 1 false), kn 72 (.bin .eql (.t 71) (kc 0)), kn 73 (.mv (.t 72)), ko 74 73 (.mv (.t 5)), ko 75 73 (.fa (.t 3) 5), ko 76 73 (.ld (.t 75) 1 false), ko 77 73 (.callv (.t 74) [(.t 76)]), ko 78 73 (.bin .eql (.t 77) (kc 9)), kn 79 (.pick (.t 73) (.c (.d (.v (.bool true)))) (.t 78)), kn 80 (.mv (.t 79)), ky 81 80 (.fa (.t 3) 6), ky 82 80 (.ld (.t 81) 1 false), ky 83 80 (.len false (.t 82)), ky 84 80 (.bin .leq (.t 83) (kc 64)), kn 85 (.pick (.t 80) (.t 84) (.c (.d (.v (.bool false))))), kn 86 (.mv (.t 85)), ky 87 86 (.fa (.t 3) 9), ky 88 86 (.ld (.t 87) 1 false), ky 89 86 (.bin .leq (kc (-1)) (.t 88)), kn 90 (.pick (.t 86) (.t 89) (.c (.d (.v (.bool false))))), kn 91 (.mv (.t 90)), ky 92 91 (.fa (.t 3) 9), ky 93 91 (.ld (.t 92) 1 false), ky 94 91 (.bin .lss (.t 93) (kc 64)), kn 95 (.pick (.t 91) (.t 94) (.c (.d (.v (.bool false))))), kn 7 (.mv (.t 95))])
 (.seq (.reg [kn 96 (.fa (.t 3) 6), kn 97 (.ld (.t 96) 1 false), kn 98 (.len false (.t 97)), kn 99 (.mv (kc 0))])
 (.block 1 (.loop c118l1))))) (.seq (.reg [kn 118 (.bin .eql (.t 18) (kc 10)), kn 117 (.mv (.t 118))])
 (.cond (.t 117) (.seq (.reg [kn 119 (.fa (.t 3) 4), kn 120 (.ld (.t 119) 1 false), kn 121 (.fa (.t 6) 4), ke (.st (.t 121) (.t 120) 1)])
 (.reg [kn 122 (.mv (.t 5)), kn 123 (.fa (.t 3) 4), kn 124 (.ld (.t 123) 1 false), kn 125 (.callv (.t 122) [(.t 124)]), kn 126 (.bin .eql (.t 125) (kc 9)), kn 7 (.mv (.t 126))])) (.seq (.reg [kn 128 (.bin .eql (.t 18) (kc 11)), kn 127 (.mv (.t 128))])
 (.cond (.t 127) (.seq (.dreg [[], [0], [], [2], [0, 1], [4, 1, 0, 1], [0, 1, 2, 3, 4, 5], [6, 3, 5, 0, 1, 2, 3, 4, 5]] [kn 129 (.fa (.t 3) 7), kn 130 (.ld (.t 129) 1 false), kn 131 (.fa (.t 3) 8), kn 132 (.ld (.t 131) 1 false), kn 133 (.fa (.t 6) 7), ke (.st (.t 133) (.t 130) 1), kn 134 (.fa (.t 6) 8), ke (.st (.t 134) (.t 132) 1)])
 (.seq (.reg [kn 135 (.fa (.t 3) 7), kn 136 (.ld (.t 135) 1 false), kn 137 (.len false (.t 136)), kn 138 (.bin .leq (.t 137) (kc 64)), kn 139 (.mv (.t 138)), ky 140 139 (.fa (.t 3) 8), ky 141 139 (.ld (.t 140) 1 false), ky 142 139 (.bin .eql (.t 141) (kc 0)), ky 143 139 (.mv (.t 142)), ko 144 143 (.mv (.t 5)), ko 145 143 (.fa (.t 3) 8), ko 146 143 (.ld (.t 145) 1 false), ko 147 143 (.callv (.t 144) [(.t 146)]), ko 148 143 (.call 134 [(.t 147)]), ky 149 139 (.pick (.t 143) (.c (.d (.v (.bool true)))) (.t 148)), kn 150 (.pick (.t 139) (.t 149) (.c (.d (.v (.bool false))))), kn 7 (.mv (.t 150))])
 (.seq (.reg [kn 151 (.fa (.t 3) 7), kn 152 (.ld (.t 151) 1 false), kn 153 (.len false (.t 152)), kn 154 (.mv (kc 0))])
 (.block 3 (.loop c118l0))))) (.skip)))))))))))))
 (.seq (.reg [kn 174 (.fa (.t 3) 1), kn 175 (.ld (.t 174) 1 false), kn 176 (.bin .eql (.t 175) (.c (.d (.v (.string ⟨#[]⟩))))), kn 177 (.mv (.t 176)), ky 178 177 (.fa (.t 3) 2), ky 179 177 (.ld (.t 178) 1 false), ky 180 177 (.bin .eql (.t 179) (.c (.d (.v (.string ⟨#[]⟩))))), kn 181 (.pick (.t 177) (.t 180) (.c (.d (.v (.bool false))))), kn 182 (.mv (.t 181)), ky 183 182 (.fa (.t 3) 0), ky 184 182 (.ld (.t 183) 1 false), ky 185 182 (.bin .neq (.t 184) (kc 9)), kn 186 (.pick (.t 182) (.t 185) (.c (.d (.v (.bool false))))), kn 187 (.mv (.t 186)), ko 188 187 (.fa (.t 3) 1), ko 189 187 (.ld (.t 188) 1 false), ko 190 187 (.call 133 [(.t 189)]), ko 191 187 (.mv (.t 190)), ky 192 191 (.fa (.t 3) 2), ky 193 191 (.ld (.t 192) 1 false), ky 194 191 (.call 133 [(.t 193)]), ky 195 191 (.mv (.t 194)), ko 196 195 (.fa (.t 3) 2), ko 197 195 (.ld (.t 196) 1 false), ko 198 195 (.bin .eql (.t 197) (.c (.d (.v (.string ⟨#[]⟩))))), ko 199 195 (.mv (.t 198)), ky 200 199 (.fa (.t 3) 0), ky 201 199 (.ld (.t 200) 1 false), ky 202 199 (.bin .eql (.t 201) (kc 9)), ko 203 195 (.pick (.t 199) (.t 202) (.c (.d (.v (.bool false))))), ky 204 191 (.pick (.t 195) (.c (.d (.v (.bool true)))) (.t 203)), ko 205 187 (.pick (.t 191) (.t 204) (.c (.d (.v (.bool false))))), kn 206 (.pick (.t 187) (.c (.d (.v (.bool true)))) (.t 205)), kn 12 (.mv (.t 206))])
 (.seq (.reg [kn 207 (.mv (.t 7)), kn 208 (.mv (.t 207)), ky 209 208 (.mv (.t 12)), kn 210 (.pick (.t 208) (.t 209) (.c (.d (.v (.bool false))))), kn 211 (.mv (.t 210)), ky 212 211 (.fa (.t 3) 9), ky 213 211 (.ld (.t 212) 1 false), ky 214 211 (.fa (.t 6) 9), ky 215 211 (.ld (.t 214) 1 false), ky 216 211 (.bin .eql (.t 213) (.t 215)), kn 217 (.pick (.t 211) (.t 216) (.c (.d (.v (.bool false))))), kn 218 (.mv (.t 217)), ky 219 218 (.fa (.t 3) 3), ky 220 218 (.ld (.t 219) 1 false), ky 221 218 (.fa (.t 6) 3), ky 222 218 (.ld (.t 221) 1 false), ky 223 218 (.bin .eql (.t 220) (.t 222)), kn 224 (.pick (.t 218) (.t 223) (.c (.d (.v (.bool false))))), kn 225 (.mv (.t 224)), ky 226 225 (.fa (.t 3) 4), ky 227 225 (.ld (.t 226) 1 false), ky 228 225 (.fa (.t 6) 4), ky 229 225 (.ld (.t 228) 1 false), ky 230 225 (.bin .eql (.t 227) (.t 229)), kn 231 (.pick (.t 225) (.t 230) (.c (.d (.v (.bool false))))), kn 232 (.mv (.t 231)), ky 233 232 (.fa (.t 3) 5), ky 234 232 (.ld (.t 233) 1 false), ky 235 232 (.fa (.t 6) 5), ky 236 232 (.ld (.t 235) 1 false), ky 237 232 (.bin .eql (.t 234) (.t 236)), kn 238 (.pick (.t 232) (.t 237) (.c (.d (.v (.bool false))))), kn 239 (.mv (.t 238)), ky 240 239 (.fa (.t 3) 8), ky 241 239 (.ld (.t 240) 1 false), ky 242 239 (.fa (.t 6) 8), ky 243 239 (.ld (.t 242) 1 false), ky 244 239 (.bin .eql (.t 241) (.t 243)), kn 245 (.pick (.t 239) (.t 244) (.c (.d (.v (.bool false))))), kn 246 (.mv (.t 245)), ky 247 246 (.fa (.t 3) 6), ky 248 246 (.ld (.t 247) 1 false), ky 249 246 (.len false (.t 248)), ky 250 246 (.fa (.t 6) 6), ky 251 246 (.ld (.t 250) 1 false), ky 252 246 (.len false (.t 251)), ky 253 246 (.bin .eql (.t 249) (.t 252)), kn 254 (.pick (.t 246) (.t 253) (.c (.d (.v (.bool false))))), kn 255 (.mv (.t 254)), ky 256 255 (.fa (.t 3) 7), ky 257 255 (.ld (.t 256) 1 false), ky 258 255 (.len false (.t 257)), ky 259 255 (.fa (.t 6) 7), ky 260 255 (.ld (.t 259) 1 false), ky 261 255 (.len false (.t 260)), ky 262 255 (.bin .eql (.t 258) (.t 261)), kn 263 (.pick (.t 255) (.t 262) (.c (.d (.v (.bool false))))), kn 4 (.mv (.t 263))])
 (.ret)))))))
def r118 : List RC := [.t 4]

theorem cc118 : Try.f118.body.bind (comp Try.prog (hh 118)) = some c118 := by kernel_rfl
theorem rr118 : resC Try.prog Try.f118 = some r118 := by kernel_rfl
def okP (t : List Ty) (x : Ty) : Prop :=
 (x.form = 7 ∧ 1 ≤ x.len ∧ x.len ≤ 4096 ∧ partP (formA t x.elem)) ∨
 (x.form = 8 ∧ (partP (formA t x.elem) ∨ formA t x.elem = 8)) ∨
 (x.form = 9 ∧ (x.base = 0 ∨ formA t x.base = 9) ∧ x.fields.length ≤ 64 ∧ -1 ≤ x.desc ∧ x.desc < 64 ∧ ∀ f ∈ x.fields, Nm f.name ∧ partP (formA t f.typ)) ∨
 (x.form = 10 ∧ formA t x.elem = 9) ∨
 (x.form = 11 ∧ x.params.length ≤ 64 ∧ (x.result = 0 ∨ plainP (formA t x.result)) ∧ ∀ p ∈ x.params, partP (formA t p.typ) ∨ formA t p.typ = 8)
def want (x : Ty) : Ty :=
 { form := x.form, mod := se, name := se, len := if x.form = 7 then x.len else 0, elem := if x.form = 7 ∨ x.form = 8 ∨ x.form = 10 then x.elem else 0, base := if x.form = 9 then x.base else 0,
   fields := if x.form = 9 then x.fields else [], params := if x.form = 11 then x.params else [], result := if x.form = 11 then x.result else 0, desc := if x.form = 9 then x.desc else 0 }
def namedP (x : Ty) : Prop := (x.mod = se ∧ x.name = se ∧ x.form ≠ 9) ∨ (Nm x.mod ∧ (Nm x.name ∨ (x.name = se ∧ x.form = 9)))
def likeW (x : Ty) : Prop := x.desc = (want x).desc ∧ x.len = (want x).len ∧ x.elem = (want x).elem ∧ x.base = (want x).base ∧ x.result = (want x).result ∧ x.fields.length = (want x).fields.length ∧ x.params.length = (want x).params.length
def FormedP (t : List Ty) (x : Ty) : Prop := okP t x ∧ namedP x ∧ likeW x
theorem not_Nm_se : ¬ Nm se := fun h => by have := h.1; rw [size_nil] at this; omega
abbrev hbx (t : List Ty) (x : Ty) (L E Bs : Int) (wf wp : AV) (R D : Int) : List ABlk := [.cells [tv t], .cells x.cs, .cells [iv x.form, sv se, sv se, iv L, iv E, iv Bs, wf, wp, iv R, iv D]]
abbrev SF (H : List ABlk) (B : Bool) : List AV := [.any, .any, .any, .ptr (H.length + 1) 0, bv false, .any, .ptr (H.length + 2) 0, bv B]
def FormedR (t : List Ty) (x : Ty) (H : List ABlk) (v : AV) (H' : List ABlk) : Prop := (∃ B, v = bv B ∧ (B = true ↔ FormedP t x)) ∧ H' = H
section
variable {t : List Ty} {x w : Ty} {H : List ABlk}
theorem hb_0 (H : List ABlk) (a b c : ABlk) : (H ++ [a, b, c])[H.length]? = some a := by rw [List.getElem?_append_right (Nat.le_refl _)]; simp
theorem hb_1 (H : List ABlk) (a b c : ABlk) : (H ++ [a, b, c])[H.length + 1]? = some b := by rw [List.getElem?_append_right (by omega)]; simp
theorem hb_2 (H : List ABlk) (a b c : ABlk) : (H ++ [a, b, c])[H.length + 2]? = some c := by rw [List.getElem?_append_right (by omega)]; simp
theorem hb_0' (H : List ABlk) (a b : ABlk) : (H ++ [a, b])[H.length]? = some a := by rw [List.getElem?_append_right (Nat.le_refl _)]; simp
theorem hb_1' (H : List ABlk) (a b : ABlk) : (H ++ [a, b])[H.length + 1]? = some b := by rw [List.getElem?_append_right (by omega)]; simp
theorem hs_2 (H : List ABlk) (a b c d : ABlk) : (H ++ [a, b, c]).set (H.length + 2) d = H ++ [a, b, d] := by rw [List.set_append_right _ _ (by omega)]; simp
theorem hb_3 (H : List ABlk) (a b c d : ABlk) : (H ++ [a, b, c, d])[H.length + 3]? = some d := by rw [List.getElem?_append_right (by omega)]; simp
theorem hs_3 (H : List ABlk) (a b c d e : ABlk) : (H ++ [a, b, c, d]).set (H.length + 3) e = H ++ [a, b, c, e] := by rw [List.set_append_right _ _ (by omega)]; simp
end

def JF (t : List Ty) (x : Ty) (H : List ABlk) (s : List AV) (H' : List ABlk) : Prop :=
 ∃ (B : Bool) (wf wp : AV), (B = true ↔ okP t x) ∧ (lenA wf = some (want x).fields.length ∧ isStr wf = false) ∧ (lenA wp = some (want x).params.length ∧ isStr wp = false) ∧ s = SF H B ++ List.replicate 256 .any ∧
  H' = H ++ hbx t x (want x).len (want x).elem (want x).base wf wp (want x).result (want x).desc
theorem cl3 {H : List ABlk} (h : cl H) {t : List Ty} {x : Ty} {L E Bs : Int} {wf wp : AV} {R D : Int} (h1 : refs wf = []) (h2 : refs wp = []) : cl (H ++ hbx t x L E Bs wf wp R D) := by
 refine h.append fun k hk r hr => ?_
 simp only [List.mem_cons, List.not_mem_nil, or_false] at hk
 rcases hk with rfl | rfl | rfl <;> simp [ABlk.refs, refs.refsL, refs, Ty.cs, h1, h2] at hr
theorem JF.fin {t : List Ty} {x : Ty} {H : List ABlk} {s : List AV} {B : Bool} {L E Bs R D : Int} {wf wp : AV} (hcl : cl H) (hk : WkL s (SF H B ++ List.replicate 256 .any)) (hB : B = true ↔ okP t x) (hw : L = (want x).len ∧ E = (want x).elem ∧ Bs = (want x).base ∧ R = (want x).result ∧ D = (want x).desc)
 (h1 : lenA wf = some (want x).fields.length ∧ isStr wf = false) (h2 : lenA wp = some (want x).params.length ∧ isStr wp = false) (h3 : refs wf = []) (h4 : refs wp = []) : ∃ s0 H0, Wk H.length s (H ++ hbx t x L E Bs wf wp R D) s0 H0 ∧ JF t x H s0 H0 := by
 obtain ⟨rfl, rfl, rfl, rfl, rfl⟩ := hw
 exact ⟨_, _, Wk.slots hk, B, wf, wp, hB, h1, h2, rfl, rfl⟩
abbrev S9 (H : List ABlk) (l : AV) (n : Nat) (B : Bool) (i : Nat) : List AV := [.any, .any, .ptr H.length 0, .ptr (H.length + 1) 0, bv false, .fn 131 [.ptr H.length 0], .ptr (H.length + 2) 0, bv B] ++ List.replicate 89 .any ++ [l, iv n, iv i]
theorem formed_l1 {t : List Ty} {x : Ty} {H G : List ABlk} {nb : Nat} (ht : t.length ≤ 9000000) (hfl : x.fields.length ≤ 9000000) (hG : G[H.length]? = some (.cells [tv t])) (hHG : H.length + 3 ≤ G.length) (hcl : cl G) (hnb : nb ≤ G.length) (B0 : Bool) :
 W Try.prog (hh 118) nb (.loop c118l1) (S9 H (fdv x.fields) x.fields.length B0 0 ++ List.replicate 164 .any) G
  (fun e s H' => e = .exit 1 ∧ ∃ B : Bool, (B = true ↔ B0 = true ∧ ∀ f ∈ x.fields, Nm f.name ∧ partP (formA t f.typ)) ∧ s = S9 H (fdv x.fields) x.fields.length B x.fields.length ++ bv false :: List.replicate 163 .any ∧ H' = G) := by
 have hck : callOk Try.prog 131 = true := by kernel_rfl
 obtain ⟨S, hS⟩ : ∃ S : Nat × Bool → List AV, ∀ g, S g = S9 H (fdv x.fields) x.fields.length g.2 g.1 ++ List.replicate 164 .any := ⟨_, fun _ => rfl⟩
 refine W.loopG (γ := Nat × Bool) (fun g => x.fields.length - g.1) S (fun _ => G) (fun g => g.1 ≤ x.fields.length ∧ (g.2 = true ↔ B0 = true ∧ ∀ j, j < g.1 → Nm (x.fields.getD j default).name ∧ partP (formA t (x.fields.getD j default).typ))) (0, B0) (by rw [hS]; exact Wk.refl) ⟨Nat.zero_le _, by simp⟩ (fun g hg => ?_)
 obtain ⟨i, B⟩ := g
 obtain ⟨q1, q2⟩ := hg
 simp only at q1 q2
 simp (maxSteps := 2000000) (disch := omega) only [c118l1, hS, List.append_assoc, List.cons_append, List.nil_append, go_sem, seval, reduceCtorEq]
 refine Br.dec (fun hc => ?_) (fun hc => ?_) <;> simp (maxSteps := 2000000) (disch := omega) only [go_sem, seval, reduceCtorEq]
 ·have hfa := iaA_fd (t := x.fields) (a := i) (by omega) (by omega)
  have e1 : fdAt x.fields (i : Int) = x.fields.getD i default := rfl
  rw [e1] at hfa
  have hg0 : ∀ k : ABlk, (G ++ [k])[G.length]? = some k := fun k => by rw [List.getElem?_append_right (Nat.le_refl _)]; simp
  have hs0 : ∀ k k' : ABlk, (G ++ [k]).set G.length k' = G ++ [k'] := fun k k' => by rw [List.set_append_right _ _ (Nat.le_refl _)]; simp
  have hgt : ∀ l : List ABlk, (G ++ l)[H.length]? = some (.cells [tv t]) := fun l => by rw [List.getElem?_append_left (by omega), hG]
  have nxt : ∀ {B' : Bool} {s' : List AV} {k : ABlk}, (B' = true ↔ B = true ∧ Nm (x.fields.getD i default).name ∧ partP (formA t (x.fields.getD i default).typ)) → WkL s' (S (i + 1, B')) → Nxt nb (fun g : Nat × Bool => x.fields.length - g.1) S (fun _ => G) (fun g => g.1 ≤ x.fields.length ∧ (g.2 = true ↔ B0 = true ∧ ∀ j, j < g.1 → Nm (x.fields.getD j default).name ∧ partP (formA t (x.fields.getD j default).typ))) (x.fields.length - i) s' (G ++ [k]) := fun {B' s' k} hB hk => by
   refine Nxt.mk (i + 1, B') (by simp only; omega) (Wk.drop hk hnb hcl ?_) ⟨by simp only; omega, ?_⟩
   ·rw [hS]; simp [refs, refs.refsL]; omega
   ·simp only
    rw [hB, q2]
    refine ⟨fun ⟨⟨a, b⟩, c⟩ => ⟨a, fun j hj => ?_⟩, fun ⟨a, b⟩ => ⟨⟨a, fun j hj => b j (by omega)⟩, b i (by omega)⟩⟩
    rcases Nat.lt_or_ge j i with h' | h'
    ·exact b j h'
    ·rw [show j = i by omega]; exact c
  generalize x.fields.getD i default = f at *
  simp (maxSteps := 2000000) (disch := omega) only [hfa, Fd.c, hg0, hs0, go_sem, seval, reduceCtorEq]
  cases hBv : B with
  | false =>
   simp (maxSteps := 2000000) (disch := omega) only [go_sem, seval, reduceCtorEq]
   exact nxt (B' := false) (by simp [hBv]) (by rw [hS]; exact WkL.tail 100 _ rfl (by simp only [List.take_succ_cons, List.take_zero]; repeat' first | exact WkL.nil | refine WkL.cons (Wk1.rfl _) ?_ | refine WkL.cons Wk1.esl ?_ | refine WkL.cons (Wk1.gsl _ _ _) ?_ | refine WkL.cons (Wk1.any _) ?_))
  | true =>
   simp (maxSteps := 2000000) (disch := omega) only [hg0, hs0, go_sem, seval, reduceCtorEq]
   refine Cont.mk (name_c _ _) ?_
   cases hnm : nmF f.name with
   | false =>
    simp (maxSteps := 2000000) (disch := omega) only [go_sem, seval, reduceCtorEq]
    exact nxt (B' := false) ⟨fun h => by simp at h, fun h => by rw [nm_t h.2.1] at hnm; cases hnm⟩ (by rw [hS]; exact WkL.tail 100 _ rfl (by simp only [List.take_succ_cons, List.take_zero]; repeat' first | exact WkL.nil | refine WkL.cons (Wk1.rfl _) ?_ | refine WkL.cons Wk1.esl ?_ | refine WkL.cons (Wk1.gsl _ _ _) ?_ | refine WkL.cons (Wk1.any _) ?_))
   | true =>
    simp (maxSteps := 2000000) (disch := omega) only [hg0, hs0, go_sem, seval, reduceCtorEq]
    refine ⟨hck, Cont.mk (form_c _ ht (hgt _)) ?_⟩
    simp (maxSteps := 2000000) (disch := omega) only [go_sem, seval, reduceCtorEq]
    refine Cont.mk (part_c _ _) ?_
    simp (maxSteps := 2000000) (disch := omega) only [go_sem, seval, reduceCtorEq]
    exact nxt (B' := decide (partP (formA t f.typ))) ⟨fun h => ⟨hBv, of_decide_eq_true hnm, of_decide_eq_true h⟩, fun h => decide_eq_true h.2.2⟩ (by rw [hS]; exact WkL.tail 100 _ rfl (by simp only [List.take_succ_cons, List.take_zero]; repeat' first | exact WkL.nil | refine WkL.cons (Wk1.rfl _) ?_ | refine WkL.cons Wk1.esl ?_ | refine WkL.cons (Wk1.gsl _ _ _) ?_ | refine WkL.cons (Wk1.any _) ?_))
 ·have hi : i = x.fields.length := by omega
  subst hi
  refine ⟨B, ?_, rfl⟩
  rw [q2]
  refine ⟨fun ⟨a, b⟩ => ⟨a, fun f hf => ?_⟩, fun ⟨a, b⟩ => ⟨a, fun j hj => b _ ?_⟩⟩
  ·obtain ⟨j, hj, rfl⟩ := List.getElem_of_mem hf
   have := b j hj
   rwa [List.getD_eq_getElem?_getD, List.getElem?_eq_getElem hj] at this
  ·rw [List.getD_eq_getElem?_getD, List.getElem?_eq_getElem hj]; exact List.getElem_mem _

abbrev S11 (H : List ABlk) (l : AV) (n : Nat) (B : Bool) (i : Nat) : List AV := [.any, .any, .ptr H.length 0, .ptr (H.length + 1) 0, bv false, .fn 131 [.ptr H.length 0], .ptr (H.length + 2) 0, bv B] ++ List.replicate 144 .any ++ [l, iv n, iv i]
theorem formed_l0 {t : List Ty} {x : Ty} {H G : List ABlk} {nb : Nat} (ht : t.length ≤ 9000000) (hfl : x.params.length ≤ 9000000) (hG : G[H.length]? = some (.cells [tv t])) (hHG : H.length + 3 ≤ G.length) (hcl : cl G) (hnb : nb ≤ G.length) (B0 : Bool) :
 W Try.prog (hh 118) nb (.loop c118l0) (S11 H (pmv x.params) x.params.length B0 0 ++ List.replicate 109 .any) G
  (fun e s H' => e = .exit 3 ∧ ∃ B : Bool, (B = true ↔ B0 = true ∧ ∀ p ∈ x.params, partP (formA t p.typ) ∨ formA t p.typ = 8) ∧ s = S11 H (pmv x.params) x.params.length B x.params.length ++ bv false :: List.replicate 108 .any ∧ H' = G) := by
 have hck : callOk Try.prog 131 = true := by kernel_rfl
 obtain ⟨S, hS⟩ : ∃ S : Nat × Bool → List AV, ∀ g, S g = S11 H (pmv x.params) x.params.length g.2 g.1 ++ List.replicate 109 .any := ⟨_, fun _ => rfl⟩
 refine W.loopG (γ := Nat × Bool) (fun g => x.params.length - g.1) S (fun _ => G) (fun g => g.1 ≤ x.params.length ∧ (g.2 = true ↔ B0 = true ∧ ∀ j, j < g.1 → partP (formA t (x.params.getD j default).typ) ∨ formA t (x.params.getD j default).typ = 8)) (0, B0) (by rw [hS]; exact Wk.refl) ⟨Nat.zero_le _, by simp⟩ (fun g hg => ?_)
 obtain ⟨i, B⟩ := g
 obtain ⟨q1, q2⟩ := hg
 simp only at q1 q2
 simp (maxSteps := 2000000) (disch := omega) only [c118l0, hS, List.append_assoc, List.cons_append, List.nil_append, go_sem, seval, reduceCtorEq]
 refine Br.dec (fun hc => ?_) (fun hc => ?_) <;> simp (maxSteps := 2000000) (disch := omega) only [go_sem, seval, reduceCtorEq]
 ·have hfa := iaA_pm (t := x.params) (a := i) (by omega) (by omega)
  have e1 : pmAt x.params (i : Int) = x.params.getD i default := rfl
  rw [e1] at hfa
  have hg0 : ∀ k : ABlk, (G ++ [k])[G.length]? = some k := fun k => by rw [List.getElem?_append_right (Nat.le_refl _)]; simp
  have hs0 : ∀ k k' : ABlk, (G ++ [k]).set G.length k' = G ++ [k'] := fun k k' => by rw [List.set_append_right _ _ (Nat.le_refl _)]; simp
  have hgt : ∀ l : List ABlk, (G ++ l)[H.length]? = some (.cells [tv t]) := fun l => by rw [List.getElem?_append_left (by omega), hG]
  have nxt : ∀ {B' : Bool} {s' : List AV} {k : ABlk}, (B' = true ↔ B = true ∧ (partP (formA t (x.params.getD i default).typ) ∨ formA t (x.params.getD i default).typ = 8)) → WkL s' (S (i + 1, B')) → Nxt nb (fun g : Nat × Bool => x.params.length - g.1) S (fun _ => G) (fun g => g.1 ≤ x.params.length ∧ (g.2 = true ↔ B0 = true ∧ ∀ j, j < g.1 → partP (formA t (x.params.getD j default).typ) ∨ formA t (x.params.getD j default).typ = 8)) (x.params.length - i) s' (G ++ [k]) := fun {B' s' k} hB hk => by
   refine Nxt.mk (i + 1, B') (by simp only; omega) (Wk.drop hk hnb hcl ?_) ⟨by simp only; omega, ?_⟩
   ·rw [hS]; simp [refs, refs.refsL]; omega
   ·simp only
    rw [hB, q2]
    refine ⟨fun ⟨⟨a, b⟩, c⟩ => ⟨a, fun j hj => ?_⟩, fun ⟨a, b⟩ => ⟨⟨a, fun j hj => b j (by omega)⟩, b i (by omega)⟩⟩
    rcases Nat.lt_or_ge j i with h' | h'
    ·exact b j h'
    ·rw [show j = i by omega]; exact c
  generalize x.params.getD i default = f at *
  simp (maxSteps := 2000000) (disch := omega) only [hfa, Pm.c, hg0, hs0, go_sem, seval, reduceCtorEq]
  cases hBv : B with
  | false =>
   simp (maxSteps := 2000000) (disch := omega) only [go_sem, seval, reduceCtorEq]
   exact nxt (B' := false) (by simp [hBv]) (by rw [hS]; exact WkL.tail 155 _ rfl (by simp only [List.take_succ_cons, List.take_zero]; repeat' first | exact WkL.nil | refine WkL.cons (Wk1.rfl _) ?_ | refine WkL.cons Wk1.esl ?_ | refine WkL.cons (Wk1.gsl _ _ _) ?_ | refine WkL.cons (Wk1.any _) ?_))
  | true =>
   simp (maxSteps := 2000000) (disch := omega) only [hg0, hs0, go_sem, seval, reduceCtorEq]
   refine ⟨hck, Cont.mk (form_c _ ht (hgt _)) ?_⟩
   simp (maxSteps := 2000000) (disch := omega) only [go_sem, seval, reduceCtorEq]
   refine Cont.mk (part_c _ _) ?_
   by_cases hp : partP (formA t f.typ)
   ·have hp' := decide_eq_true hp
    simp (maxSteps := 2000000) (disch := omega) only [hp', go_sem, seval, reduceCtorEq]
    exact nxt (B' := true) ⟨fun h => ⟨hBv, .inl hp⟩, fun _ => rfl⟩ (by rw [hS]; exact WkL.tail 155 _ rfl (by simp only [List.take_succ_cons, List.take_zero]; repeat' first | exact WkL.nil | refine WkL.cons (Wk1.rfl _) ?_ | refine WkL.cons Wk1.esl ?_ | refine WkL.cons (Wk1.gsl _ _ _) ?_ | refine WkL.cons (Wk1.any _) ?_))
   ·have hp' := decide_eq_false hp
    simp (maxSteps := 2000000) (disch := omega) only [hp', hg0, hs0, go_sem, seval, reduceCtorEq]
    refine ⟨hck, Cont.mk (form_c _ ht (hgt _)) ?_⟩
    simp (maxSteps := 2000000) (disch := omega) only [go_sem, seval, reduceCtorEq]
    exact nxt (B' := decide (formA t f.typ = 8)) ⟨fun h => ⟨hBv, .inr (of_decide_eq_true h)⟩, fun h => decide_eq_true (h.2.resolve_left hp)⟩ (by rw [hS]; exact WkL.tail 155 _ rfl (by simp only [List.take_succ_cons, List.take_zero]; repeat' first | exact WkL.nil | refine WkL.cons (Wk1.rfl _) ?_ | refine WkL.cons Wk1.esl ?_ | refine WkL.cons (Wk1.gsl _ _ _) ?_ | refine WkL.cons (Wk1.any _) ?_))
 ·have hi : i = x.params.length := by omega
  subst hi
  refine ⟨B, ?_, rfl⟩
  rw [q2]
  refine ⟨fun ⟨a, b⟩ => ⟨a, fun f hf => ?_⟩, fun ⟨a, b⟩ => ⟨a, fun j hj => b _ ?_⟩⟩
  ·obtain ⟨j, hj, rfl⟩ := List.getElem_of_mem hf
   have := b j hj
   rwa [List.getD_eq_getElem?_getD, List.getElem?_eq_getElem hj] at this
  ·rw [List.getD_eq_getElem?_getD, List.getElem?_eq_getElem hj]; exact List.getElem_mem _
end Go.Proofs.Ythifjndenhjobaa
