/- The reference: one type by itself. -/
import Derived.Test.YthifjndenhjobaaYT7b
import Derived.Test.YthifjndenhjobaaYT12
import Derived.Test.YthifjndenhjobaaYI0
namespace Go.Proofs.Ythifjndenhjobaa
set_option linter.unusedSimpArgs false
set_option linter.unusedVariables false
set_option maxRecDepth 20000
set_option maxHeartbeats 4000000
open Go.RowKit

def c109l0 : AC :=
 .seq (.seq (.reg [kn 190 (.mv (.t 6)), kn 191 (.fa (.t 5) 7), kn 192 (.ld (.t 191) 1 false), kn 193 (.len false (.t 192)), kn 194 (.bin .lss (.t 190) (.t 193))])
 (.cond (.t 194) (.skip) (.exit 1)))
 (.seq (.block 2 (.seq (.reg [kn 197 (.fa (.t 5) 7), kn 198 (.ld (.t 197) 1 false), kn 199 (.mv (.t 6)), kn 200 (.ia (.t 198) (.t 199) 2), kn 201 (.fa (.t 200) 1), kn 202 (.ld (.t 201) 1 false), kn 7 (.mv (.t 202))])
 (.seq (.reg [kn 203 (.mv (.t 0)), kn 204 (.mv (.t 7)), kn 205 (.call 126 [(.t 203), (.t 204)]), kn 206 (.un .not (.t 205)), kn 207 (.mv (.t 206)), ky 208 207 (.mv (.t 0)), ky 209 207 (.mv (.t 7)), ky 210 207 (.call 127 [(.t 208), (.t 209)]), ky 211 207 (.un .not (.t 210)), ky 212 207 (.mv (.t 211)), ko 213 212 (.mv (.t 0)), ko 214 212 (.mv (.t 7)), ko 215 212 (.ia (.t 213) (.t 214) 10), ko 216 212 (.fa (.t 215) 0), ko 217 212 (.ld (.t 216) 1 false), ko 218 212 (.bin .neq (.t 217) (kc 8)), ky 219 207 (.pick (.t 212) (.c (.d (.v (.bool true)))) (.t 218)), kn 220 (.pick (.t 207) (.t 219) (.c (.d (.v (.bool false)))))])
 (.cond (.t 220) (.seq (.reg [kn 4 (.mv (.c (.d (.v (.bool false)))))])
 (.ret)) (.skip)))))
 (.reg [kn 195 (.mv (.t 6)), kn 196 (.bin .add (.t 195) (kc 1)), kn 6 (.mv (.t 196))]))

def c109 : AC :=
 .seq (.reg [kn 4 (.mv (.c (.d (.v (.bool false)))))])
 (.seq (.reg [kn 8 (.mv (.t 0)), kn 9 (.mv (.t 1)), kn 10 (.ia (.t 8) (.t 9) 10), kn 11 (.ld (.t 10) 10 true), kn 5 (.al [kz, (.d (.v (.string ⟨#[]⟩))), (.d (.v (.string ⟨#[]⟩))), kz, kz, kz, .esl, .esl, kz, kz]), ke (.st (.t 5) (.t 11) 10)])
 (.seq (.seq (.reg [kn 12 (.fa (.t 5) 0), kn 13 (.ld (.t 12) 1 false), kn 14 (.bin .neq (.t 13) (kc 9)), kn 15 (.mv (.t 14)), ky 16 15 (.fa (.t 5) 9), ky 17 15 (.ld (.t 16) 1 false), ky 18 15 (.bin .neq (.t 17) (kc 0)), ky 19 15 (.mv (.t 18)), ko 20 19 (.fa (.t 5) 1), ko 21 19 (.ld (.t 20) 1 false), ko 22 19 (.bin .eql (.t 21) (.c (.d (.v (.string ⟨#[]⟩))))), ko 23 19 (.fa (.t 5) 2), ko 24 19 (.ld (.t 23) 1 false), ko 25 19 (.bin .eql (.t 24) (.c (.d (.v (.string ⟨#[]⟩))))), ko 26 19 (.eqs true (.t 22) (.t 25)), ky 27 15 (.pick (.t 19) (.c (.d (.v (.bool true)))) (.t 26)), kn 28 (.pick (.t 15) (.t 27) (.c (.d (.v (.bool false))))), kn 29 (.mv (.t 28)), ko 30 29 (.fa (.t 5) 0), ko 31 29 (.ld (.t 30) 1 false), ko 32 29 (.bin .eql (.t 31) (kc 9)), ko 33 29 (.mv (.t 32)), ky 34 33 (.fa (.t 5) 1), ky 35 33 (.ld (.t 34) 1 false), ky 36 33 (.bin .eql (.t 35) (.c (.d (.v (.string ⟨#[]⟩))))), ky 37 33 (.mv (.t 36)), ko 38 37 (.fa (.t 5) 9), ko 39 37 (.ld (.t 38) 1 false), ko 40 37 (.bin .lss (.t 39) (kc (-1))), ky 41 33 (.pick (.t 37) (.c (.d (.v (.bool true)))) (.t 40)), ky 42 33 (.mv (.t 41)), ko 43 42 (.fa (.t 5) 9), ko 44 42 (.ld (.t 43) 1 false), ko 45 42 (.bin .gtr (.t 44) (kc 63)), ky 46 33 (.pick (.t 42) (.c (.d (.v (.bool true)))) (.t 45)), ko 47 29 (.pick (.t 33) (.t 46) (.c (.d (.v (.bool false))))), kn 48 (.pick (.t 29) (.c (.d (.v (.bool true)))) (.t 47))])
 (.cond (.t 48) (.seq (.reg [kn 4 (.mv (.c (.d (.v (.bool false)))))])
 (.ret)) (.skip)))
 (.seq (.seq (.reg [kn 49 (.fa (.t 5) 1), kn 50 (.ld (.t 49) 1 false), kn 51 (.bin .neq (.t 50) (.c (.d (.v (.string ⟨#[]⟩))))), kn 52 (.mv (.t 51)), ky 53 52 (.fa (.t 5) 1), ky 54 52 (.ld (.t 53) 1 false), ky 55 52 (.call 125 [(.t 54)]), ky 56 52 (.un .not (.t 55)), kn 57 (.pick (.t 52) (.t 56) (.c (.d (.v (.bool false))))), kn 58 (.mv (.t 57)), ko 59 58 (.fa (.t 5) 2), ko 60 58 (.ld (.t 59) 1 false), ko 61 58 (.bin .neq (.t 60) (.c (.d (.v (.string ⟨#[]⟩))))), ko 62 58 (.mv (.t 61)), ky 63 62 (.fa (.t 5) 2), ky 64 62 (.ld (.t 63) 1 false), ky 65 62 (.call 125 [(.t 64)]), ky 66 62 (.un .not (.t 65)), ko 67 58 (.pick (.t 62) (.t 66) (.c (.d (.v (.bool false))))), kn 68 (.pick (.t 58) (.c (.d (.v (.bool true)))) (.t 67))])
 (.cond (.t 68) (.seq (.reg [kn 4 (.mv (.c (.d (.v (.bool false)))))])
 (.ret)) (.skip)))
 (.seq (.seq (.reg [kn 69 (.fa (.t 5) 0), kn 70 (.ld (.t 69) 1 false), kn 71 (.bin .neq (.t 70) (kc 7)), kn 72 (.mv (.t 71)), ky 73 72 (.fa (.t 5) 3), ky 74 72 (.ld (.t 73) 1 false), ky 75 72 (.bin .neq (.t 74) (kc 0)), kn 76 (.pick (.t 72) (.t 75) (.c (.d (.v (.bool false))))), kn 77 (.mv (.t 76)), ko 78 77 (.fa (.t 5) 0), ko 79 77 (.ld (.t 78) 1 false), ko 80 77 (.bin .neq (.t 79) (kc 7)), ko 81 77 (.mv (.t 80)), ky 82 81 (.fa (.t 5) 0), ky 83 81 (.ld (.t 82) 1 false), ky 84 81 (.bin .neq (.t 83) (kc 8)), ko 85 77 (.pick (.t 81) (.t 84) (.c (.d (.v (.bool false))))), ko 86 77 (.mv (.t 85)), ky 87 86 (.fa (.t 5) 0), ky 88 86 (.ld (.t 87) 1 false), ky 89 86 (.bin .neq (.t 88) (kc 10)), ko 90 77 (.pick (.t 86) (.t 89) (.c (.d (.v (.bool false))))), ko 91 77 (.mv (.t 90)), ky 92 91 (.fa (.t 5) 4), ky 93 91 (.ld (.t 92) 1 false), ky 94 91 (.bin .neq (.t 93) (kc 0)), ko 95 77 (.pick (.t 91) (.t 94) (.c (.d (.v (.bool false))))), kn 96 (.pick (.t 77) (.c (.d (.v (.bool true)))) (.t 95)), kn 97 (.mv (.t 96)), ko 98 97 (.fa (.t 5) 0), ko 99 97 (.ld (.t 98) 1 false), ko 100 97 (.bin .neq (.t 99) (kc 9)), ko 101 97 (.mv (.t 100)), ky 102 101 (.fa (.t 5) 5), ky 103 101 (.ld (.t 102) 1 false), ky 104 101 (.bin .neq (.t 103) (kc 0)), ky 105 101 (.mv (.t 104)), ko 106 105 (.fa (.t 5) 6), ko 107 105 (.ld (.t 106) 1 false), ko 108 105 (.len false (.t 107)), ko 109 105 (.bin .gtr (.t 108) (kc 0)), ky 110 101 (.pick (.t 105) (.c (.d (.v (.bool true)))) (.t 109)), ko 111 97 (.pick (.t 101) (.t 110) (.c (.d (.v (.bool false))))), kn 112 (.pick (.t 97) (.c (.d (.v (.bool true)))) (.t 111)), kn 113 (.mv (.t 112)), ko 114 113 (.fa (.t 5) 0), ko 115 113 (.ld (.t 114) 1 false), ko 116 113 (.bin .neq (.t 115) (kc 11)), ko 117 113 (.mv (.t 116)), ky 118 117 (.fa (.t 5) 7), ky 119 117 (.ld (.t 118) 1 false), ky 120 117 (.len false (.t 119)), ky 121 117 (.bin .gtr (.t 120) (kc 0)), ky 122 117 (.mv (.t 121)), ko 123 122 (.fa (.t 5) 8), ko 124 122 (.ld (.t 123) 1 false), ko 125 122 (.bin .neq (.t 124) (kc 0)), ky 126 117 (.pick (.t 122) (.c (.d (.v (.bool true)))) (.t 125)), ko 127 113 (.pick (.t 117) (.t 126) (.c (.d (.v (.bool false))))), kn 128 (.pick (.t 113) (.c (.d (.v (.bool true)))) (.t 127))])
 (.cond (.t 128) (.seq (.reg [kn 4 (.mv (.c (.d (.v (.bool false)))))])
 (.ret)) (.skip)))
 (.seq (.seq (.reg [kn 129 (.fa (.t 5) 0), kn 130 (.ld (.t 129) 1 false)])
 (.block 0 (.seq (.reg [kn 132 (.bin .eql (.t 130) (kc 7)), kn 131 (.mv (.t 132))])
 (.cond (.t 131) (.seq (.reg [kn 133 (.fa (.t 5) 3), kn 134 (.ld (.t 133) 1 false), kn 135 (.bin .geq (.t 134) (kc 1)), kn 136 (.mv (.t 135)), ky 137 136 (.fa (.t 5) 3), ky 138 136 (.ld (.t 137) 1 false), ky 139 136 (.bin .leq (.t 138) (kc 4096)), kn 140 (.pick (.t 136) (.t 139) (.c (.d (.v (.bool false))))), kn 141 (.mv (.t 140)), ky 142 141 (.mv (.t 0)), ky 143 141 (.fa (.t 5) 4), ky 144 141 (.ld (.t 143) 1 false), ky 145 141 (.call 126 [(.t 142), (.t 144)]), kn 146 (.pick (.t 141) (.t 145) (.c (.d (.v (.bool false))))), kn 4 (.mv (.t 146))])
 (.ret)) (.seq (.reg [kn 148 (.bin .eql (.t 130) (kc 8)), kn 147 (.mv (.t 148))])
 (.cond (.t 147) (.seq (.reg [kn 149 (.mv (.t 0)), kn 150 (.fa (.t 5) 4), kn 151 (.ld (.t 150) 1 false), kn 152 (.call 126 [(.t 149), (.t 151)]), kn 153 (.mv (.t 152)), ko 154 153 (.mv (.t 0)), ko 155 153 (.fa (.t 5) 4), ko 156 153 (.ld (.t 155) 1 false), ko 157 153 (.call 127 [(.t 154), (.t 156)]), ko 158 153 (.mv (.t 157)), ky 159 158 (.mv (.t 0)), ky 160 158 (.fa (.t 5) 4), ky 161 158 (.ld (.t 160) 1 false), ky 162 158 (.ia (.t 159) (.t 161) 10), ky 163 158 (.fa (.t 162) 0), ky 164 158 (.ld (.t 163) 1 false), ky 165 158 (.bin .eql (.t 164) (kc 8)), ko 166 153 (.pick (.t 158) (.t 165) (.c (.d (.v (.bool false))))), kn 167 (.pick (.t 153) (.c (.d (.v (.bool true)))) (.t 166)), kn 4 (.mv (.t 167))])
 (.ret)) (.seq (.reg [kn 169 (.bin .eql (.t 130) (kc 10)), kn 168 (.mv (.t 169))])
 (.cond (.t 168) (.seq (.reg [kn 170 (.mv (.t 0)), kn 171 (.fa (.t 5) 4), kn 172 (.ld (.t 171) 1 false), kn 173 (.call 127 [(.t 170), (.t 172)]), kn 174 (.mv (.t 173)), ky 175 174 (.mv (.t 0)), ky 176 174 (.fa (.t 5) 4), ky 177 174 (.ld (.t 176) 1 false), ky 178 174 (.ia (.t 175) (.t 177) 10), ky 179 174 (.fa (.t 178) 0), ky 180 174 (.ld (.t 179) 1 false), ky 181 174 (.bin .eql (.t 180) (kc 9)), kn 182 (.pick (.t 174) (.t 181) (.c (.d (.v (.bool false))))), kn 4 (.mv (.t 182))])
 (.ret)) (.seq (.reg [kn 184 (.bin .eql (.t 130) (kc 9)), kn 183 (.mv (.t 184))])
 (.cond (.t 183) (.seq (.reg [kn 185 (.mv (.t 0)), kn 186 (.mv (.t 1)), kn 187 (.call 128 [(.t 185), (.t 186)]), kn 4 (.mv (.t 187))])
 (.ret)) (.seq (.reg [kn 189 (.bin .eql (.t 130) (kc 11)), kn 188 (.mv (.t 189))])
 (.cond (.t 188) (.seq (.seq (.reg [kn 6 (.mv (kc 0))])
 (.block 1 (.loop c109l0)))
 (.seq (.reg [kn 221 (.fa (.t 5) 7), kn 222 (.ld (.t 221) 1 false), kn 223 (.len false (.t 222)), kn 224 (.bin .leq (.t 223) (kc 64)), kn 225 (.mv (.t 224)), ky 226 225 (.fa (.t 5) 8), ky 227 225 (.ld (.t 226) 1 false), ky 228 225 (.bin .eql (.t 227) (kc 0)), ky 229 225 (.mv (.t 228)), ko 230 229 (.mv (.t 0)), ko 231 229 (.fa (.t 5) 8), ko 232 229 (.ld (.t 231) 1 false), ko 233 229 (.call 126 [(.t 230), (.t 232)]), ko 234 229 (.mv (.t 233)), ky 235 234 (.mv (.t 0)), ky 236 234 (.fa (.t 5) 8), ky 237 234 (.ld (.t 236) 1 false), ky 238 234 (.ia (.t 235) (.t 237) 10), ky 239 234 (.fa (.t 238) 0), ky 240 234 (.ld (.t 239) 1 false), ky 241 234 (.bin .neq (.t 240) (kc 7)), ko 242 229 (.pick (.t 234) (.t 241) (.c (.d (.v (.bool false))))), ko 243 229 (.mv (.t 242)), ky 244 243 (.mv (.t 0)), ky 245 243 (.fa (.t 5) 8), ky 246 243 (.ld (.t 245) 1 false), ky 247 243 (.ia (.t 244) (.t 246) 10), ky 248 243 (.fa (.t 247) 0), ky 249 243 (.ld (.t 248) 1 false), ky 250 243 (.bin .neq (.t 249) (kc 9)), ko 251 229 (.pick (.t 243) (.t 250) (.c (.d (.v (.bool false))))), ky 252 225 (.pick (.t 229) (.c (.d (.v (.bool true)))) (.t 251)), kn 253 (.pick (.t 225) (.t 252) (.c (.d (.v (.bool false))))), kn 4 (.mv (.t 253))])
 (.ret))) (.skip)))))))))))))
 (.seq (.reg [kn 4 (.mv (.c (.d (.v (.bool false)))))])
 (.ret)))))))
def r109 : List RC := [.t 4]

theorem cc109 : Try.f109.body.bind (comp Try.prog (hh 109)) = some c109 := by kernel_rfl
theorem rr109 : resC Try.prog Try.f109 = some r109 := by kernel_rfl
def ok1 (x : Ty) : Prop := (x.form ≠ 9 → x.desc = 0 ∧ (x.mod = se ↔ x.name = se)) ∧ (x.form = 9 → x.mod ≠ se ∧ -1 ≤ x.desc ∧ x.desc ≤ 63)
def ok2 (x : Ty) : Prop := (x.mod = se ∨ Nm x.mod) ∧ (x.name = se ∨ Nm x.name)
def ok3 (x : Ty) : Prop := (x.form ≠ 7 → x.len = 0) ∧ (x.form ≠ 7 ∧ x.form ≠ 8 ∧ x.form ≠ 10 → x.elem = 0) ∧ (x.form ≠ 9 → x.base = 0 ∧ x.fields.length = 0) ∧ (x.form ≠ 11 → x.params.length = 0 ∧ x.result = 0)
def hopenP (t : List Ty) (n : Int) : Prop := placeP t n ∧ (tyAt t n).form = 8
def swP (t : List Ty) (a : Int) (x : Ty) : Prop :=
 (x.form = 7 ∧ 1 ≤ x.len ∧ x.len ≤ 4096 ∧ holdsP t x.elem) ∨ (x.form = 8 ∧ (holdsP t x.elem ∨ hopenP t x.elem)) ∨ (x.form = 10 ∧ placeP t x.elem ∧ (tyAt t x.elem).form = 9) ∨ (x.form = 9 ∧ RecP t a) ∨
 (x.form = 11 ∧ (∀ p ∈ x.params, holdsP t p.typ ∨ hopenP t p.typ) ∧ x.params.length ≤ 64 ∧ (x.result = 0 ∨ (holdsP t x.result ∧ (tyAt t x.result).form ≠ 7 ∧ (tyAt t x.result).form ≠ 9)))
def OneP (t : List Ty) (a : Int) : Prop := ok1 (tyAt t a) ∧ ok2 (tyAt t a) ∧ ok3 (tyAt t a) ∧ swP t a (tyAt t a)
def OneR (t : List Ty) (a : Int) (H : List ABlk) (v : AV) (H' : List ABlk) : Prop := (∃ B, v = bv B ∧ (B = true ↔ OneP t a)) ∧ H' = H
theorem word_t {s : ByteArray} (h : Nm s) (H : List ABlk) : ACalls Try.prog 125 [sv s] H fun v H' => v = bv true ∧ H' = H := (word13_c s H).mono fun v H' e => by rw [nm_t h] at e; exact e
theorem word_f {s : ByteArray} (h : ¬ Nm s) (H : List ABlk) : ACalls Try.prog 125 [sv s] H fun v H' => v = bv false ∧ H' = H := (word13_c s H).mono fun v H' e => by rw [nm_f h] at e; exact e
abbrev S5 (t : List Ty) (a : Int) (H : List ABlk) : List AV := [tv t, iv a, .any, .any, bv false, .ptr H.length 0] ++ List.replicate 248 .any
def J5 (t : List Ty) (a : Int) (x : Ty) (H : List ABlk) (P : Prop) (s : List AV) (H' : List ABlk) : Prop := P ∧ s = S5 t a H ∧ H' = H ++ [.cells x.cs]
theorem J5.mk {t : List Ty} {a : Int} {x : Ty} {H : List ABlk} {P : Prop} {s : List AV} (hk : WkL s (S5 t a H)) (h : P) : ∃ s0 H0, Wk H.length s (H ++ [.cells x.cs]) s0 H0 ∧ J5 t a x H P s0 H0 := ⟨_, _, Wk.slots hk, h, rfl, rfl⟩
theorem one_l0 {t : List Ty} (ht : t.length ≤ 9000000) {a : Int} {x : Ty} {H G : List ABlk} {nb : Nat} (hfl : x.params.length ≤ 9000000) (hG : G[H.length]? = some (.cells x.cs)) :
 W Try.prog (hh 109) nb (.loop c109l0) ([tv t, iv a, .any, .any, bv false, .ptr H.length 0, iv (0 : Nat)] ++ List.replicate 247 .any) G
  (fun e s H' => (e = .exit 1 ∧ (∃ y0 y1 y2 y3 y4 y5, s = [tv t, iv a, .any, .any, bv false, .ptr H.length 0, y0] ++ List.replicate 183 .any ++ [y1, y2, y3, y4, y5] ++ List.replicate 59 .any) ∧ H' = G ∧ ∀ p ∈ x.params, holdsP t p.typ ∨ hopenP t p.typ) ∨
    (e = .ret ∧ resA [RC.t 4] s H' = some (bv false) ∧ H' = G ∧ ¬ ∀ p ∈ x.params, holdsP t p.typ ∨ hopenP t p.typ)) := by
 obtain ⟨S, hS⟩ : ∃ S : Nat → List AV, ∀ i, S i = [tv t, iv a, .any, .any, bv false, .ptr H.length 0, iv i] ++ List.replicate 247 .any := ⟨_, fun _ => rfl⟩
 refine W.loopG (γ := Nat) (fun i => x.params.length - i) S (fun i => G) (fun i => i ≤ x.params.length ∧ ∀ j, j < i → holdsP t (x.params.getD j default).typ ∨ hopenP t (x.params.getD j default).typ) 0 (by rw [hS]; exact Wk.refl) ⟨Nat.zero_le _, fun j hj => by omega⟩ (fun i hi => ?_)
 obtain ⟨q1, q4⟩ := hi
 simp (maxSteps := 2000000) (disch := omega) only [c109l0, hS, hG, Ty.cs, List.length_map, List.append_assoc, List.cons_append, List.nil_append, go_sem, seval, reduceCtorEq]
 refine Br.dec (fun hc => ?_) (fun hc => ?_) <;> simp (maxSteps := 2000000) (disch := omega) only [go_sem, seval, reduceCtorEq]
 ·have hfa := iaA_pm (t := x.params) (a := i) (by omega) (by omega)
  have e1 : pmAt x.params (i : Int) = x.params.getD i default := rfl
  rw [e1] at hfa
  have hmf : x.params.getD i default ∈ x.params := by rw [List.getD_eq_getElem?_getD, List.getElem?_eq_getElem (by omega)]; exact List.getElem_mem _
  have nx : (holdsP t (x.params.getD i default).typ ∨ hopenP t (x.params.getD i default).typ) → Nxt nb (fun i => x.params.length - i) S (fun i => G) (fun i => i ≤ x.params.length ∧ ∀ j, j < i → holdsP t (x.params.getD j default).typ ∨ hopenP t (x.params.getD j default).typ) (x.params.length - i) (S (i + 1)) G := fun h => by
   refine Nxt.mk (i + 1) (by omega) Wk.refl ⟨by omega, fun j hj => ?_⟩
   rcases Nat.lt_or_ge j i with h' | h'
   ·exact q4 j h'
   ·rw [show j = i by omega]; exact h
  have nx2 : ∀ {s' : List AV}, (holdsP t (x.params.getD i default).typ ∨ hopenP t (x.params.getD i default).typ) → WkL s' (S (i + 1)) → Nxt nb (fun i => x.params.length - i) S (fun i => G) (fun i => i ≤ x.params.length ∧ ∀ j, j < i → holdsP t (x.params.getD j default).typ ∨ hopenP t (x.params.getD j default).typ) (x.params.length - i) s' G := fun {s'} h hk => by
   obtain ⟨g, h1, h2, h3⟩ := nx h
   refine Nxt.mk (i + 1) (by omega) (Wk.slots hk) ⟨by omega, fun j hj => ?_⟩
   rcases Nat.lt_or_ge j i with h' | h'
   ·exact q4 j h'
   ·rw [show j = i by omega]; exact h
  generalize x.params.getD i default = p at *
  simp (maxSteps := 2000000) (disch := omega) only [hfa, Pm.c, hG, Ty.cs, go_sem, seval, reduceCtorEq]
  refine Cont.mk (holds_c _ ht _) ?_
  by_cases hh : holdsP t p.typ
  ·have kh := decide_eq_true hh
   simp (maxSteps := 2000000) (disch := omega) only [kh, go_sem, seval, reduceCtorEq]
   exact nx2 (.inl hh) (by rw [hS]; exact WkL.tail 7 _ rfl (by simp only [List.take_succ_cons, List.take_zero]; repeat' first | exact WkL.nil | refine WkL.cons (Wk1.rfl _) ?_ | refine WkL.cons Wk1.esl ?_ | refine WkL.cons (Wk1.gsl _ _ _) ?_ | refine WkL.cons (Wk1.any _) ?_))
  ·have kh := decide_eq_false hh
   simp (maxSteps := 2000000) (disch := omega) only [kh, go_sem, seval, reduceCtorEq]
   refine Cont.mk (place_c _ ht _) ?_
   by_cases hp : placeP t p.typ
   ·have kp := decide_eq_true hp
    have hty := iaA_ty hp.1 hp.2
    by_cases h8 : (tyAt t p.typ).form = 8
    ·simp (maxSteps := 2000000) (disch := omega) only [kp, hty, Ty.c, h8, go_sem, seval, reduceCtorEq]
     exact nx2 (.inr ⟨hp, h8⟩) (by rw [hS]; exact WkL.tail 7 _ rfl (by simp only [List.take_succ_cons, List.take_zero]; repeat' first | exact WkL.nil | refine WkL.cons (Wk1.rfl _) ?_ | refine WkL.cons Wk1.esl ?_ | refine WkL.cons (Wk1.gsl _ _ _) ?_ | refine WkL.cons (Wk1.any _) ?_))
    ·simp (maxSteps := 2000000) (disch := omega) only [kp, hty, Ty.c, go_sem, seval, reduceCtorEq]
     exact .inr fun h => (h p hmf).elim hh fun h => h8 h.2
   ·have kp := decide_eq_false hp
    simp (maxSteps := 2000000) (disch := omega) only [kp, go_sem, seval, reduceCtorEq]
    exact .inr fun h => (h p hmf).elim hh fun h => hp h.1
 ·have hie : i = x.params.length := by omega
  subst hie
  refine .inl ⟨⟨_, _, _, _, _, _, rfl⟩, fun f hf => ?_⟩
  obtain ⟨j, hj, rfl⟩ := List.getElem_of_mem hf
  have := q4 j hj
  rwa [List.getD_eq_getElem?_getD, List.getElem?_eq_getElem hj] at this
end Go.Proofs.Ythifjndenhjobaa

/- Plain law: the document's table is the program's. -/
namespace Go.Proofs.Ythifjndenhjobaa
set_option linter.unusedSimpArgs false
set_option linter.unusedVariables false

structure GoodR (t : List Ty) : Prop where
 len : 7 ≤ t.length ∧ t.length ≤ 256
 bas : ∀ i, i < 7 → t.getD i default = bt i
 one : ∀ i : Nat, 7 ≤ i → i < t.length → OneP t i
 acc : ∀ i : Nat, 7 ≤ i → i < t.length → Acc (KdR t) i
 uni : ∀ i k : Nat, 7 ≤ k → k < i → i < t.length → ¬ ((t.getD i default).form = 9 ∧ (t.getD k default).form = 9 ∧ (t.getD i default).mod = (t.getD k default).mod ∧ (t.getD i default).desc = (t.getD k default).desc ∧ (t.getD i default).desc ≠ -1)

def Forms (t : List Ty) : Prop := ∀ a : Int, 0 ≤ a → a < t.length → 0 ≤ (tyAt t a).form ∧ (tyAt t a).form ≤ 11
theorem formA_p {t : List Ty} {n : Int} (h : placeP t n) : formA t n = (tyAt t n).form := if_pos h
theorem formA_n {t : List Ty} {n : Int} (h : ¬ placeP t n) : formA t n = -1 := if_neg h
theorem partR {t : List Ty} (h : Forms t) (n : Int) : partP (formA t n) ↔ holdsP t n := by
 by_cases hp : placeP t n
 ·rw [formA_p hp]
  have := h n hp.1 hp.2
  simp only [partP, holdsP, hp, true_and]
  omega
 ·rw [formA_n hp]
  simp [partP, holdsP, hp]
theorem openR {t : List Ty} (n : Int) : formA t n = 8 ↔ hopenP t n := by
 by_cases hp : placeP t n
 ·rw [formA_p hp]; simp [hopenP, hp]
 ·rw [formA_n hp]; simp [hopenP, hp]
theorem recR {t : List Ty} (n : Int) : formA t n = 9 ↔ placeP t n ∧ (tyAt t n).form = 9 := by
 by_cases hp : placeP t n
 ·rw [formA_p hp]; simp [hp]
 ·rw [formA_n hp]; simp [hp]
theorem plainR {t : List Ty} (h : Forms t) (n : Int) : plainP (formA t n) ↔ holdsP t n ∧ (tyAt t n).form ≠ 7 ∧ (tyAt t n).form ≠ 9 := by
 by_cases hp : placeP t n
 ·rw [formA_p hp]
  have := h n hp.1 hp.2
  simp only [plainP, holdsP, hp, true_and]
  omega
 ·rw [formA_n hp]
  simp [plainP, holdsP, hp]
theorem FrmP.forms {t : List Ty} (h : FrmP t) : Forms t := fun a h0 h1 => by
 rcases h.at_ h0 h1 with ⟨h7, e⟩ | ⟨h7, f⟩
 ·rw [e]; simp only [bt]; omega
 ·have := FrmP.form f; omega
theorem GoodR.forms {t : List Ty} (h : GoodR t) : Forms t := fun a h0 h1 => by
 rcases Int.lt_or_le a 7 with h7 | h7
 ·have := h.bas a.toNat (by omega)
  rw [tyAt, this]; simp only [bt]; omega
 ·have := (h.one a.toNat (by omega) (by omega)).2.2.2
  rw [show ((a.toNat : Nat) : Int) = a by omega] at this
  rcases this with h | h | h | h | h <;> omega
theorem named_iff {x : Ty} (h9 : x.form = 9 ∨ x.form ≠ 9) : namedP x ↔ ((x.form ≠ 9 → (x.mod = se ↔ x.name = se)) ∧ (x.form = 9 → x.mod ≠ se)) ∧ ok2 x := by
 unfold namedP ok2
 by_cases hm : x.mod = se <;> by_cases hn : x.name = se <;> by_cases hf : x.form = 9 <;> simp [hm, hn, hf, not_Nm_se]
theorem like_iff {x : Ty} : likeW x ↔ (x.form ≠ 9 → x.desc = 0) ∧ ok3 x := by
 have e1 : (x.form = 7 → (want x).len = x.len) ∧ (x.form ≠ 7 → (want x).len = 0) := ⟨fun h => by simp [want, h], fun h => by simp [want, h]⟩
 have e2 : ((x.form = 7 ∨ x.form = 8 ∨ x.form = 10) → (want x).elem = x.elem) ∧ (¬ (x.form = 7 ∨ x.form = 8 ∨ x.form = 10) → (want x).elem = 0) := ⟨fun h => by simp only [want]; rw [if_pos h], fun h => by simp only [want]; rw [if_neg h]⟩
 have e3 : (x.form = 9 → (want x).base = x.base ∧ (want x).fields.length = x.fields.length ∧ (want x).desc = x.desc) ∧ (x.form ≠ 9 → (want x).base = 0 ∧ (want x).fields.length = 0 ∧ (want x).desc = 0) := ⟨fun h => by simp [want, h], fun h => by simp [want, h]⟩
 have e4 : (x.form = 11 → (want x).result = x.result ∧ (want x).params.length = x.params.length) ∧ (x.form ≠ 11 → (want x).result = 0 ∧ (want x).params.length = 0) := ⟨fun h => by simp [want, h], fun h => by simp [want, h]⟩
 unfold likeW ok3
 omega
theorem one_iff {t : List Ty} (hF : Forms t) {a : Int} (h9 : (tyAt t a).form ≠ 9) : OneP t a ↔ FormedP t (tyAt t a) := by
 generalize hx : tyAt t a = x at *
 have hsw : swP t a x ↔ okP t x := by
  unfold swP okP
  rw [partR hF, recR, openR, recR]
  simp only [h9, false_and, false_or, or_false, plainR hF, partR hF, openR]
  refine ⟨fun h => ?_, fun h => ?_⟩
  ·rcases h with h | h | h | ⟨h, h1, h2, h3⟩
   ·exact .inl h
   ·exact .inr (.inl h)
   ·exact .inr (.inr (.inl h))
   ·exact .inr (.inr (.inr ⟨h, h2, h3, h1⟩))
  ·rcases h with h | h | h | ⟨h, h1, h2, h3⟩
   ·exact .inl h
   ·exact .inr (.inl h)
   ·exact .inr (.inr (.inl h))
   ·exact .inr (.inr (.inr ⟨h, h3, h1, h2⟩))
 unfold OneP FormedP
 rw [hx, hsw, named_iff (.inr h9), like_iff]
 unfold ok1
 constructor
 ·rintro ⟨⟨h1, h2⟩, h3, h4, h5⟩
  exact ⟨h5, ⟨⟨fun h => (h1 h).2, fun h => absurd h h9⟩, h3⟩, fun h => (h1 h).1, h4⟩
 ·rintro ⟨h5, ⟨⟨h1, _⟩, h3⟩, h2, h4⟩
  exact ⟨⟨fun h => ⟨h2 h, h1 h⟩, fun h => absurd h h9⟩, h3, h4, h5⟩
theorem one_rec {t : List Ty} {a : Int} (h9 : (tyAt t a).form = 9) : OneP t a ↔ (namedP (tyAt t a) ∧ likeW (tyAt t a) ∧ -1 ≤ (tyAt t a).desc ∧ (tyAt t a).desc ≤ 63) ∧ RecP t a := by
 generalize hx : tyAt t a = x at *
 unfold OneP swP
 rw [hx, named_iff (.inl h9), like_iff]
 unfold ok1
 constructor
 ·rintro ⟨⟨h1, h2⟩, h4, h5, h6⟩
  obtain ⟨h2, h3⟩ := h2 h9
  refine ⟨⟨⟨⟨fun h => absurd h9 h, fun _ => h2⟩, h4⟩, ⟨fun h => absurd h9 h, h5⟩, h3⟩, ?_⟩
  rcases h6 with h | h | h | h | h
  ·omega
  ·omega
  ·omega
  ·exact h.2
  ·omega
 ·rintro ⟨⟨⟨⟨h1, h2⟩, h4⟩, ⟨_, h5⟩, h3⟩, h6⟩
  exact ⟨⟨fun h => absurd h9 h, fun h => ⟨h2 h, h3⟩⟩, h4, h5, .inr (.inr (.inr (.inl ⟨h9, h6⟩)))⟩
theorem bas_len {t : List Ty} : ∀ {n : Nat} {a : Int} {l : List Int}, basR t n a = some l → l.length ≤ n ∧ chain t n a = a :: l
 | 0, a, l, h => by
  simp only [basR] at h
  split at h
  ·cases h; simp [chain]
  ·cases h
 | n + 1, a, l, h => by
  simp only [basR] at h
  split at h
  ·rename_i hz; cases h; simp [chain, hz]
  ·rename_i hz
   split at h
   ·obtain ⟨r, hr, rfl⟩ := Option.map_eq_some_iff.1 h
    obtain ⟨h1, h2⟩ := bas_len hr
    simp only [chain, if_neg hz, h2, List.length_cons]
    exact ⟨by omega, trivial⟩
   ·cases h
theorem bas_some {t : List Ty} (hb : ∀ a : Int, placeP t a → (tyAt t a).form = 9 → (tyAt t a).base = 0 ∨ (placeP t (tyAt t a).base ∧ (tyAt t (tyAt t a).base).form = 9)) :
 ∀ {n : Nat} {a : Int}, placeP t a → (tyAt t a).form = 9 → (chain t n a).length ≤ n → ∃ l, basR t n a = some l
 | 0, a, _, _, h => by simp [chain] at h
 | n + 1, a, hp, h9, h => by
  simp only [basR, chain, List.length_cons] at h ⊢
  by_cases hz : (tyAt t a).base = 0
  ·exact ⟨[], if_pos hz⟩
  ·have := (hb a hp h9).resolve_left hz
   rw [if_neg hz] at h ⊢
   rw [if_pos this]
   obtain ⟨l, hl⟩ := bas_some hb (n := n) this.1 this.2 (by omega)
   exact ⟨_, by rw [hl]; rfl⟩

theorem bas_step {t : List Ty} {n : Nat} {a : Int} {l : List Int} (h : basR t (n + 1) a = some l) : (tyAt t a).base = 0 ∨ (placeP t (tyAt t a).base ∧ (tyAt t (tyAt t a).base).form = 9) := by
 simp only [basR] at h
 split at h
 ·rename_i hz; exact .inl hz
 ·split at h
  ·rename_i hp; exact .inr hp
  ·cases h
theorem bas_form {t : List Ty} : ∀ {n : Nat} {a : Int} {l : List Int}, basR t n a = some l → ∀ b ∈ l, (tyAt t b).form = 9
 | 0, a, l, h => by
  simp only [basR] at h
  split at h
  ·cases h; simp
  ·cases h
 | n + 1, a, l, h => by
  simp only [basR] at h
  split at h
  ·cases h; simp
  ·split at h
   ·rename_i hp
    obtain ⟨r, hr, rfl⟩ := Option.map_eq_some_iff.1 h
    intro b hb
    rcases List.mem_cons.1 hb with rfl | hb
    ·exact hp.2
    ·exact bas_form hr b hb
   ·cases h
theorem GoodR.good {t : List Ty} (h : GoodR t) : GoodP t := by
 have hf := h.forms
 have hl := h.len
 have hlo : ∀ a : Int, 0 ≤ a → a < 7 → tyAt t a = bt a := fun a h0 h7 => by
  have := h.bas a.toNat (by omega)
  rw [tyAt, this, show ((a.toNat : Nat) : Int) = a by omega]
 have hone : ∀ a : Int, 7 ≤ a → a < t.length → OneP t a := fun a h7 h1 => by
  have := h.one a.toNat (by omega) (by omega)
  rwa [show ((a.toNat : Nat) : Int) = a by omega] at this
 have hF : FrmP t := by
  refine ⟨hl, h.bas, fun i h7 hi => ?_⟩
  have ho := h.one i h7 hi
  have e : tyAt t (i : Int) = t.getD i default := rfl
  by_cases h9 : (tyAt t (i : Int)).form = 9
  ·obtain ⟨⟨g1, g2, g3, g4⟩, l, g5, g6, g7, _⟩ := (one_rec h9).1 ho
   rw [← e]
   have g8 := g7 _ List.mem_cons_self
   refine ⟨(ok9 h9).2 ⟨⟨?_, g8.1, g3, by omega⟩, fun f hf' => ⟨(g8.2 f hf').1, (partR hf _).2 (g8.2 f hf').2⟩⟩, g1, g2⟩
   rcases bas_step (n := 4) g5 with hz | hp
   ·exact .inl hz
   ·exact .inr ((recR _).2 hp)
  ·rw [← e]; exact (one_iff hf h9).1 ho
 refine ⟨hF, fun a h0 h1 => ?_, fun i j hij hj hT => ?_, fun i hi hO => ?_⟩
 ·rcases Int.lt_or_le a 7 with h7 | h7
  ·refine .intro a fun y hy => ?_
   have e := hlo a h0 h7
   simp only [KdC] at hy
   rw [kids_no (by rw [e]; simp only [bt]; omega) (by rw [e]; simp only [bt]; omega) (by rw [e]; simp only [bt]; omega)] at hy
   simp at hy
  ·have := h.acc a.toNat (by omega) (by omega)
   rw [show ((a.toNat : Nat) : Int) = a by omega] at this
   exact (acc_CR (by rw [hlo 0 (by omega) (by omega)]; rfl)).2 this
 ·obtain ⟨g1, g2, g3, g4, g5⟩ := hT
  have hi7 : 7 ≤ i := by
   rcases Nat.lt_or_ge i 7 with h7 | h7
   ·rw [h.bas i h7] at g1; simp only [bt] at g1; omega
   ·exact h7
  exact h.uni j i hi7 hij hj ⟨g2, g1, g4.symm, g5.symm, by omega⟩
 ·obtain ⟨g1, g2⟩ := hO
  have hi7 : 7 ≤ i := by
   rcases Nat.lt_or_ge i 7 with h7 | h7
   ·rw [h.bas i h7] at g1; simp only [bt] at g1; omega
   ·exact h7
  obtain ⟨_, l, g5, g6, _, g8⟩ := (one_rec (t := t) (a := (i : Int)) g1).1 (h.one i hi7 hi)
  obtain ⟨_, hc⟩ := bas_len g5
  exact g2 ⟨by rw [hc]; simpa using g6, by rw [hc]; exact g8⟩
theorem GoodP.ref {t : List Ty} (h : GoodP t) : GoodR t := by
 have hF := h.toFrmP
 have hf := hF.forms
 have hl := hF.len
 refine ⟨hl, hF.bas, fun i h7 hi => ?_, fun i h7 hi => ?_, fun i k h7 hk hi hT => ?_⟩
 ·have e : tyAt t (i : Int) = t.getD i default := rfl
  have hfm := hF.frm i h7 hi
  rw [← e] at hfm
  by_cases h9 : (tyAt t (i : Int)).form = 9
  ·obtain ⟨g1, g2, g3⟩ := hfm
   have gg := FrmP.f9 ⟨g1, g2, g3⟩ h9
   refine (one_rec h9).2 ⟨⟨g2, g3, gg.1.2.2.1, by have := gg.1.2.2.2; omega⟩, ?_⟩
   have hc : ChainP t i := Classical.not_not.1 fun hc => h.chn i hi ⟨h9, hc⟩
   obtain ⟨l, hl'⟩ := bas_some (fun a hp h9 => by
    rcases hF.base hp.1 hp.2 h9 with hb | ⟨b1, b2, b3⟩
    ·exact .inl hb
    ·exact .inr ⟨⟨b1, b2⟩, b3⟩) (n := 5) (a := (i : Int)) ⟨by omega, by omega⟩ h9 hc.1
   obtain ⟨_, hce⟩ := bas_len hl'
   obtain ⟨hc1, hc2⟩ := hc
   rw [hce] at hc1 hc2
   refine ⟨l, hl', by simpa using hc1, fun b hb => ?_, hc2⟩
   have hb9 : placeP t b ∧ (tyAt t b).form = 9 := by
    rcases List.mem_cons.1 hb with rfl | hb
    ·exact ⟨⟨by omega, by omega⟩, h9⟩
    ·exact ⟨bas_place hl' b hb, bas_form hl' b hb⟩
   rcases hF.at_ hb9.1.1 hb9.1.2 with ⟨b7, e⟩ | ⟨b7, fb⟩
   ·rw [e] at hb9; simp only [bt] at hb9; omega
   ·obtain ⟨⟨_, c2, _⟩, c3⟩ := FrmP.f9 fb hb9.2
    exact ⟨c2, fun f hf' => ⟨(c3 f hf').1, (partR hf _).1 (c3 f hf').2⟩⟩
  ·exact (one_iff hf h9).2 hfm
 ·exact (acc_CR (by rw [tyAt_lt hF (by omega) (by omega)]; rfl)).1 (h.acc i (by omega) (by omega))
 ·obtain ⟨g1, g2, g3, g4, g5⟩ := hT
  refine h.uni k i hk hi ⟨g2, g1, ?_, g3.symm, g4.symm⟩
  have := hF.frm i (by omega) hi
  have := (FrmP.f9 this g1).1.2.2.1
  omega
end Go.Proofs.Ythifjndenhjobaa
