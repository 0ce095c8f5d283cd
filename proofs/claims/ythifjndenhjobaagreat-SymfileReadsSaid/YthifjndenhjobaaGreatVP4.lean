/- The reference: one type by itself. -/
import Derived.Test.YthifjndenhjobaaGreatVT7b
import Derived.Test.YthifjndenhjobaaGreatVT12
import Derived.Test.YthifjndenhjobaaGreatVI0
set_option linter.unusedSectionVars false
set_option linter.unusedSimpArgs false
set_option linter.unusedVariables false
set_option maxHeartbeats 4000000
set_option maxRecDepth 20000
namespace Go.Proofs.YthifjndenhjobaaGreat
open Go.RowKit
def c79l0 : AC :=
 .seq (sr [im 190 t6, ia 191 t5 7, il 192 t191, kn 193 (.len false t192), ib 194 .lss t190 t193]
 (.cond t194 (.skip) (.exit 1)))
 (.seq (.block 2 (sr [ia 197 t5 7, il 198 t197, im 199 t6, kn 200 (.ia t198 t199 2), ia 201 t200 1, il 202 t201, im 7 t202]
 (sr [im 203 t0, im 204 t7, ic 205 90 [t203, t204], kn 206 (.un .not t205), im 207 t206, ky 208 207 (.mv t0), ky 209 207 (.mv t7), ky 210 207 (.call 91 [t208, t209]), ky 211 207 (.un .not t210), ky 212 207 (.mv t211), ko 213 212 (.mv t0), ko 214 212 (.mv t7), ko 215 212 (.ia t213 t214 10), ko 216 212 (.fa t215 0), ko 217 212 (.ld t216 1 false), ko 218 212 (.bin .neq t217 (kc 8)), ky 219 207 (.pick t212 kT t218), kn 220 (.pick t207 t219 kF)]
 (.cond t220 (sr [im 4 kF]
 (.ret)) (.skip)))))
 (.reg [im 195 t6, ib 196 .add t195 (kc 1), im 6 t196]))
def c79 : AC :=
 sr [im 4 kF]
 (sr [im 8 t0, im 9 t1, kn 10 (.ia t8 t9 10), kn 11 (.ld t10 10 true), kn 5 (.al [kz, ks, ks, kz, kz, kz, .esl, .esl, kz, kz]), ke (.st t5 t11 10)]
 (.seq (sr [ia 12 t5 0, il 13 t12, ib 14 .neq t13 (kc 9), im 15 t14, ky 16 15 (.fa t5 9), ky 17 15 (.ld t16 1 false), ky 18 15 (.bin .neq t17 (kc 0)), ky 19 15 (.mv t18), ko 20 19 (.fa t5 1), ko 21 19 (.ld t20 1 false), ko 22 19 (.bin .eql t21 (.c ks)), ko 23 19 (.fa t5 2), ko 24 19 (.ld t23 1 false), ko 25 19 (.bin .eql t24 (.c ks)), ko 26 19 (.eqs true t22 t25), ky 27 15 (.pick t19 kT t26), kn 28 (.pick t15 t27 kF), im 29 t28, ko 30 29 (.fa t5 0), ko 31 29 (.ld t30 1 false), ko 32 29 (.bin .eql t31 (kc 9)), ko 33 29 (.mv t32), ky 34 33 (.fa t5 1), ky 35 33 (.ld t34 1 false), ky 36 33 (.bin .eql t35 (.c ks)), ky 37 33 (.mv t36), ko 38 37 (.fa t5 9), ko 39 37 (.ld t38 1 false), ko 40 37 (.bin .lss t39 (kc (-1))), ky 41 33 (.pick t37 kT t40), ky 42 33 (.mv t41), ko 43 42 (.fa t5 9), ko 44 42 (.ld t43 1 false), ko 45 42 (.bin .gtr t44 (kc 63)), ky 46 33 (.pick t42 kT t45), ko 47 29 (.pick t33 t46 kF), kn 48 (.pick t29 kT t47)]
 (.cond t48 (sr [im 4 kF]
 (.ret)) (.skip)))
 (.seq (sr [ia 49 t5 1, il 50 t49, kn 51 (.bin .neq t50 (.c ks)), im 52 t51, ky 53 52 (.fa t5 1), ky 54 52 (.ld t53 1 false), ky 55 52 (.call 89 [t54]), ky 56 52 (.un .not t55), kn 57 (.pick t52 t56 kF), im 58 t57, ko 59 58 (.fa t5 2), ko 60 58 (.ld t59 1 false), ko 61 58 (.bin .neq t60 (.c ks)), ko 62 58 (.mv t61), ky 63 62 (.fa t5 2), ky 64 62 (.ld t63 1 false), ky 65 62 (.call 89 [t64]), ky 66 62 (.un .not t65), ko 67 58 (.pick t62 t66 kF), kn 68 (.pick t58 kT t67)]
 (.cond t68 (sr [im 4 kF]
 (.ret)) (.skip)))
 (.seq (sr [ia 69 t5 0, il 70 t69, ib 71 .neq t70 (kc 7), im 72 t71, ky 73 72 (.fa t5 3), ky 74 72 (.ld t73 1 false), ky 75 72 (.bin .neq t74 (kc 0)), kn 76 (.pick t72 t75 kF), im 77 t76, ko 78 77 (.fa t5 0), ko 79 77 (.ld t78 1 false), ko 80 77 (.bin .neq t79 (kc 7)), ko 81 77 (.mv t80), ky 82 81 (.fa t5 0), ky 83 81 (.ld t82 1 false), ky 84 81 (.bin .neq t83 (kc 8)), ko 85 77 (.pick t81 t84 kF), ko 86 77 (.mv t85), ky 87 86 (.fa t5 0), ky 88 86 (.ld t87 1 false), ky 89 86 (.bin .neq t88 (kc 10)), ko 90 77 (.pick t86 t89 kF), ko 91 77 (.mv t90), ky 92 91 (.fa t5 4), ky 93 91 (.ld t92 1 false), ky 94 91 (.bin .neq t93 (kc 0)), ko 95 77 (.pick t91 t94 kF), kn 96 (.pick t77 kT t95), im 97 t96, ko 98 97 (.fa t5 0), ko 99 97 (.ld t98 1 false), ko 100 97 (.bin .neq t99 (kc 9)), ko 101 97 (.mv t100), ky 102 101 (.fa t5 5), ky 103 101 (.ld t102 1 false), ky 104 101 (.bin .neq t103 (kc 0)), ky 105 101 (.mv t104), ko 106 105 (.fa t5 6), ko 107 105 (.ld t106 1 false), ko 108 105 (.len false t107), ko 109 105 (.bin .gtr t108 (kc 0)), ky 110 101 (.pick t105 kT t109), ko 111 97 (.pick t101 t110 kF), kn 112 (.pick t97 kT t111), im 113 t112, ko 114 113 (.fa t5 0), ko 115 113 (.ld t114 1 false), ko 116 113 (.bin .neq t115 (kc 11)), ko 117 113 (.mv t116), ky 118 117 (.fa t5 7), ky 119 117 (.ld t118 1 false), ky 120 117 (.len false t119), ky 121 117 (.bin .gtr t120 (kc 0)), ky 122 117 (.mv t121), ko 123 122 (.fa t5 8), ko 124 122 (.ld t123 1 false), ko 125 122 (.bin .neq t124 (kc 0)), ky 126 117 (.pick t122 kT t125), ko 127 113 (.pick t117 t126 kF), kn 128 (.pick t113 kT t127)]
 (.cond t128 (sr [im 4 kF]
 (.ret)) (.skip)))
 (.seq (sr [ia 129 t5 0, il 130 t129]
 (.block 0 (sr [ib 132 .eql t130 (kc 7), im 131 t132]
 (.cond t131 (sr [ia 133 t5 3, il 134 t133, ib 135 .geq t134 (kc 1), im 136 t135, ky 137 136 (.fa t5 3), ky 138 136 (.ld t137 1 false), ky 139 136 (.bin .leq t138 (kc 4096)), kn 140 (.pick t136 t139 kF), im 141 t140, ky 142 141 (.mv t0), ky 143 141 (.fa t5 4), ky 144 141 (.ld t143 1 false), ky 145 141 (.call 90 [t142, t144]), kn 146 (.pick t141 t145 kF), im 4 t146]
 (.ret)) (sr [ib 148 .eql t130 (kc 8), im 147 t148]
 (.cond t147 (sr [im 149 t0, ia 150 t5 4, il 151 t150, ic 152 90 [t149, t151], im 153 t152, ko 154 153 (.mv t0), ko 155 153 (.fa t5 4), ko 156 153 (.ld t155 1 false), ko 157 153 (.call 91 [t154, t156]), ko 158 153 (.mv t157), ky 159 158 (.mv t0), ky 160 158 (.fa t5 4), ky 161 158 (.ld t160 1 false), ky 162 158 (.ia t159 t161 10), ky 163 158 (.fa t162 0), ky 164 158 (.ld t163 1 false), ky 165 158 (.bin .eql t164 (kc 8)), ko 166 153 (.pick t158 t165 kF), kn 167 (.pick t153 kT t166), im 4 t167]
 (.ret)) (sr [ib 169 .eql t130 (kc 10), im 168 t169]
 (.cond t168 (sr [im 170 t0, ia 171 t5 4, il 172 t171, ic 173 91 [t170, t172], im 174 t173, ky 175 174 (.mv t0), ky 176 174 (.fa t5 4), ky 177 174 (.ld t176 1 false), ky 178 174 (.ia t175 t177 10), ky 179 174 (.fa t178 0), ky 180 174 (.ld t179 1 false), ky 181 174 (.bin .eql t180 (kc 9)), kn 182 (.pick t174 t181 kF), im 4 t182]
 (.ret)) (sr [ib 184 .eql t130 (kc 9), im 183 t184]
 (.cond t183 (sr [im 185 t0, im 186 t1, ic 187 92 [t185, t186], im 4 t187]
 (.ret)) (sr [ib 189 .eql t130 (kc 11), im 188 t189]
 (.cond t188 (.seq (sr [im 6 (kc 0)]
 (.block 1 (.loop c79l0)))
 (sr [ia 221 t5 7, il 222 t221, kn 223 (.len false t222), ib 224 .leq t223 (kc 64), im 225 t224, ky 226 225 (.fa t5 8), ky 227 225 (.ld t226 1 false), ky 228 225 (.bin .eql t227 (kc 0)), ky 229 225 (.mv t228), ko 230 229 (.mv t0), ko 231 229 (.fa t5 8), ko 232 229 (.ld t231 1 false), ko 233 229 (.call 90 [t230, t232]), ko 234 229 (.mv t233), ky 235 234 (.mv t0), ky 236 234 (.fa t5 8), ky 237 234 (.ld t236 1 false), ky 238 234 (.ia t235 t237 10), ky 239 234 (.fa t238 0), ky 240 234 (.ld t239 1 false), ky 241 234 (.bin .neq t240 (kc 7)), ko 242 229 (.pick t234 t241 kF), ko 243 229 (.mv t242), ky 244 243 (.mv t0), ky 245 243 (.fa t5 8), ky 246 243 (.ld t245 1 false), ky 247 243 (.ia t244 t246 10), ky 248 243 (.fa t247 0), ky 249 243 (.ld t248 1 false), ky 250 243 (.bin .neq t249 (kc 9)), ko 251 229 (.pick t243 t250 kF), ky 252 225 (.pick t229 kT t251), kn 253 (.pick t225 t252 kF), im 4 t253]
 (.ret))) (.skip)))))))))))))
 (sr [im 4 kF]
 (.ret)))))))
def r79 : List RC := [.t 4]
theorem cc79 : cK Tryz.f79 (hh 79) c79 := by unfold cK; kernel_rfl
theorem rr79 : resC Tryz.prog Tryz.f79 = some r79 := by kernel_rfl
def ok1 (x : Ty) : Prop := (x.form ≠ 9 -> x.desc = 0 /\ (x.mod = se ↔ x.name = se)) /\ (x.form = 9 -> x.mod ≠ se /\ -1 <= x.desc /\ x.desc <= 63)
def ok2 (x : Ty) : Prop := (x.mod = se \/ Nm x.mod) /\ (x.name = se \/ Nm x.name)
def ok3 (x : Ty) : Prop := (x.form ≠ 7 -> x.len = 0) /\ (x.form ≠ 7 /\ x.form ≠ 8 /\ x.form ≠ 10 -> x.elem = 0) /\ (x.form ≠ 9 -> x.base = 0 /\ x.fields.length = 0) /\ (x.form ≠ 11 -> x.params.length = 0 /\ x.result = 0)
def hopenP (t : List Ty) (n : Int) : Prop := placeP t n /\ (tyAt t n).form = 8
def swP (t : List Ty) (a : Int) (x : Ty) : Prop :=
 (x.form = 7 /\ 1 <= x.len /\ x.len <= 4096 /\ holdsP t x.elem) \/ (x.form = 8 /\ (holdsP t x.elem \/ hopenP t x.elem)) \/ (x.form = 10 /\ placeP t x.elem /\ (tyAt t x.elem).form = 9) \/ (x.form = 9 /\ RecP t a) \/
 (x.form = 11 /\ (∀ p ∈ x.params, holdsP t p.typ \/ hopenP t p.typ) /\ x.params.length <= 64 /\ (x.result = 0 \/ (holdsP t x.result /\ (tyAt t x.result).form ≠ 7 /\ (tyAt t x.result).form ≠ 9)))
def OneP (t : List Ty) (a : Int) : Prop := ok1 (tyAt t a) /\ ok2 (tyAt t a) /\ ok3 (tyAt t a) /\ swP t a (tyAt t a)
def OneR (t : List Ty) (a : Int) (H : List ABlk) (v : AV) (H' : List ABlk) : Prop := (∃ B, v = bv B /\ (B = true ↔ OneP t a)) /\ H' = H
theorem word_t {s : ByteArray} (h : Nm s) (H : List ABlk) : ACalls Tryz.prog 89 [sv s] H fun v H' => v = bv true /\ H' = H := (word13_c s H).mono fun v H' e => by rw [nm_t h] at e; exact e
theorem word_f {s : ByteArray} (h : ¬ Nm s) (H : List ABlk) : ACalls Tryz.prog 89 [sv s] H fun v H' => v = bv false /\ H' = H := (word13_c s H).mono fun v H' e => by rw [nm_f h] at e; exact e
abbrev S5 (t : List Ty) (a : Int) (H : List ABlk) : List AV := [tv t, iv a, .any, .any, bv false, .ptr H.length 0] ++ List.replicate 248 .any
def J5 (t : List Ty) (a : Int) (x : Ty) (H : List ABlk) (P : Prop) (s : List AV) (H' : List ABlk) : Prop := P /\ s = S5 t a H /\ H' = H ++ [.cells x.cs]
theorem J5.mk {t : List Ty} {a : Int} {x : Ty} {H : List ABlk} {P : Prop} {s : List AV} (hk : WkL s (S5 t a H)) (h : P) : ∃ s0 H0, Wk H.length s (H ++ [.cells x.cs]) s0 H0 /\ J5 t a x H P s0 H0 := ⟨_, _, Wk.slots hk, h, rfl, rfl⟩
theorem one_l0 {t : List Ty} (ht : t.length <= 9000000) {a : Int} {x : Ty} {H G : List ABlk} {nb : Nat} (hfl : x.params.length <= 9000000) (hG : G[H.length]? = some (.cells x.cs)) :
 W Tryz.prog (hh 79) nb (.loop c79l0) ([tv t, iv a, .any, .any, bv false, .ptr H.length 0, iv (0 : Nat)] ++ List.replicate 247 .any) G
  (fun e s H' => (e = .exit 1 /\ (∃ y0 y1 y2 y3 y4 y5, s = [tv t, iv a, .any, .any, bv false, .ptr H.length 0, y0] ++ List.replicate 183 .any ++ [y1, y2, y3, y4, y5] ++ List.replicate 59 .any) /\ H' = G /\ ∀ p ∈ x.params, holdsP t p.typ \/ hopenP t p.typ) \/
    (e = .ret /\ resA [RC.t 4] s H' = some (bv false) /\ H' = G /\ ¬ ∀ p ∈ x.params, holdsP t p.typ \/ hopenP t p.typ)) := by
 obtain ⟨S, hS⟩ : ∃ S : Nat -> List AV, ∀ i, S i = [tv t, iv a, .any, .any, bv false, .ptr H.length 0, iv i] ++ List.replicate 247 .any := ⟨_, fun _ => rfl⟩; refine W.loopG (γ := Nat) (fun i => x.params.length - i) S (fun i => G) (fun i => i <= x.params.length /\ ∀ j, j < i -> holdsP t (x.params.getD j default).typ \/ hopenP t (x.params.getD j default).typ) 0 (by rw [hS]; exact Wk.refl) ⟨Nat.zero_le _, fun j hj => by omega⟩ (fun i hi => ?_); obtain ⟨q1, q4⟩ := hi; simp (disch := omega) only [c79l0, hS, hG, Ty.cs, lnm, apS, go_sem, seval, reduceCtorEq]; refine Br.dec (fun hc => ?_) (fun hc => ?_) <;> simp (disch := omega) only [go_sem, seval, reduceCtorEq]
 ·have hfa := iaA_pm (t := x.params) (a := i) (by omega) (by omega)
  have e1 : pmAt x.params (i : Int) = x.params.getD i default := rfl; rw [e1] at hfa; have hmf : x.params.getD i default ∈ x.params := by rw [gD, gE (by omega)]; exact List.getElem_mem _
  have nx : (holdsP t (x.params.getD i default).typ \/ hopenP t (x.params.getD i default).typ) -> Nxt nb (fun i => x.params.length - i) S (fun i => G) (fun i => i <= x.params.length /\ ∀ j, j < i -> holdsP t (x.params.getD j default).typ \/ hopenP t (x.params.getD j default).typ) (x.params.length - i) (S (i + 1)) G := fun h => by
   refine Nxt.mk (i + 1) (by omega) Wk.refl ⟨by omega, fun j hj => ?_⟩; rcases Nat.lt_or_ge j i with h' | h'
   ·exact q4 j h'
   ·rw [show j = i by omega]; exact h
  have nx2 : ∀ {s' : List AV}, (holdsP t (x.params.getD i default).typ \/ hopenP t (x.params.getD i default).typ) -> WkL s' (S (i + 1)) -> Nxt nb (fun i => x.params.length - i) S (fun i => G) (fun i => i <= x.params.length /\ ∀ j, j < i -> holdsP t (x.params.getD j default).typ \/ hopenP t (x.params.getD j default).typ) (x.params.length - i) s' G := fun {s'} h hk => by
   obtain ⟨g, h1, h2, h3⟩ := nx h; refine Nxt.mk (i + 1) (by omega) (Wk.slots hk) ⟨by omega, fun j hj => ?_⟩; rcases Nat.lt_or_ge j i with h' | h'
   ·exact q4 j h'
   ·rw [show j = i by omega]; exact h
  generalize x.params.getD i default = p at *
  simp (disch := omega) only [hfa, Pm.c, hG, Ty.cs, go_sem, seval, reduceCtorEq]; refine Cont.mk (holds_c _ ht _) ?_
  by_cases hh : holdsP t p.typ
  ·have kh := decide_eq_true hh
   simp (disch := omega) only [kh, go_sem, seval, reduceCtorEq]; exact nx2 (.inl hh) (WkL.tw 7 (hS _))
  ·have kh := decide_eq_false hh
   simp (disch := omega) only [kh, go_sem, seval, reduceCtorEq]; refine Cont.mk (place_c _ ht _) ?_
   by_cases hp : placeP t p.typ
   ·have kp := decide_eq_true hp
    have hty := iaA_ty hp.1 hp.2
    by_cases h8 : (tyAt t p.typ).form = 8
    ·simp (disch := omega) only [kp, hty, Ty.c, h8, go_sem, seval, reduceCtorEq]
     exact nx2 (.inr ⟨hp, h8⟩) (WkL.tw 7 (hS _))
    ·simp (disch := omega) only [kp, hty, Ty.c, go_sem, seval, reduceCtorEq]
     exact .inr fun h => (h p hmf).elim hh fun h => h8 h.2
   ·have kp := decide_eq_false hp
    simp (disch := omega) only [kp, go_sem, seval, reduceCtorEq]; exact .inr fun h => (h p hmf).elim hh fun h => hp h.1
 ·have hie : i = x.params.length := by omega
  subst hie; refine .inl ⟨⟨_, _, _, _, _, _, rfl⟩, fun f hf => ?_⟩; obtain ⟨j, hj, rfl⟩ := List.getElem_of_mem hf; have := q4 j hj
  rwa [gD, gE hj] at this
end Go.Proofs.YthifjndenhjobaaGreat
namespace Go.Proofs.YthifjndenhjobaaGreat
structure GoodR (t : List Ty) : Prop where
 len : 7 <= t.length /\ t.length <= 256
 bas : ∀ i, i < 7 -> t.getD i default = bt i
 one : ∀ i : Nat, 7 <= i -> i < t.length -> OneP t i
 acc : ∀ i : Nat, 7 <= i -> i < t.length -> Acc (KdR t) i
 uni : ∀ i k : Nat, 7 <= k -> k < i -> i < t.length -> ¬ ((t.getD i default).form = 9 /\ (t.getD k default).form = 9 /\ (t.getD i default).mod = (t.getD k default).mod /\ (t.getD i default).desc = (t.getD k default).desc /\ (t.getD i default).desc ≠ -1)
def Forms (t : List Ty) : Prop := ∀ a : Int, 0 <= a -> a < t.length -> 0 <= (tyAt t a).form /\ (tyAt t a).form <= 11
theorem formA_p {t : List Ty} {n : Int} (h : placeP t n) : formA t n = (tyAt t n).form := if_pos h
theorem formA_n {t : List Ty} {n : Int} (h : ¬ placeP t n) : formA t n = -1 := if_neg h
theorem partR {t : List Ty} (h : Forms t) (n : Int) : partP (formA t n) ↔ holdsP t n := by
 by_cases hp : placeP t n
 ·rw [formA_p hp]
  have := h n hp.1 hp.2; simp only [partP, holdsP, hp, true_and]; omega
 ·rw [formA_n hp]
  simp [partP, holdsP, hp]
theorem openR {t : List Ty} (n : Int) : formA t n = 8 ↔ hopenP t n := by
 by_cases hp : placeP t n
 ·rw [formA_p hp]; simp [hopenP, hp]
 ·rw [formA_n hp]; simp [hopenP, hp]
theorem recR {t : List Ty} (n : Int) : formA t n = 9 ↔ placeP t n /\ (tyAt t n).form = 9 := by
 by_cases hp : placeP t n
 ·rw [formA_p hp]; simp [hp]
 ·rw [formA_n hp]; simp [hp]
theorem plainR {t : List Ty} (h : Forms t) (n : Int) : plainP (formA t n) ↔ holdsP t n /\ (tyAt t n).form ≠ 7 /\ (tyAt t n).form ≠ 9 := by
 by_cases hp : placeP t n
 ·rw [formA_p hp]
  have := h n hp.1 hp.2; simp only [plainP, holdsP, hp, true_and]; omega
 ·rw [formA_n hp]
  simp [plainP, holdsP, hp]
theorem FrmP.forms {t : List Ty} (h : FrmP t) : Forms t := fun a h0 h1 => by
 rcases h.at_ h0 h1 with ⟨h7, e⟩ | ⟨h7, f⟩
 ·rw [e]; simp only [bt]; omega
 ·have := FrmP.form f; omega
theorem GoodR.forms {t : List Ty} (h : GoodR t) : Forms t := fun a h0 h1 => by
 rcases Int.lt_or_le a 7 with h7 | h7
 ·have := h.bas a.toNat (by omega)
  rw [tyAt, this]; simp only [bt]; omega
 ·have := (h.one a.toNat (by omega) (by omega)).2.2.2
  rw [show ((a.toNat : Nat) : Int) = a by omega] at this; rcases this with h | h | h | h | h <;> omega
theorem named_iff {x : Ty} (h9 : x.form = 9 \/ x.form ≠ 9) : namedP x ↔ ((x.form ≠ 9 -> (x.mod = se ↔ x.name = se)) /\ (x.form = 9 -> x.mod ≠ se)) /\ ok2 x := by
 unfold namedP ok2
 by_cases hm : x.mod = se <;> by_cases hn : x.name = se <;> by_cases hf : x.form = 9 <;> simp [hm, hn, hf, not_Nm_se]
theorem like_iff {x : Ty} : likeW x ↔ (x.form ≠ 9 -> x.desc = 0) /\ ok3 x := by
 have e1 : (x.form = 7 -> (want x).len = x.len) /\ (x.form ≠ 7 -> (want x).len = 0) := ⟨fun h => by simp [want, h], fun h => by simp [want, h]⟩; have e2 : ((x.form = 7 \/ x.form = 8 \/ x.form = 10) -> (want x).elem = x.elem) /\ (¬ (x.form = 7 \/ x.form = 8 \/ x.form = 10) -> (want x).elem = 0) := ⟨fun h => by simp only [want]; rw [if_pos h], fun h => by simp only [want]; rw [if_neg h]⟩; have e3 : (x.form = 9 -> (want x).base = x.base /\ (want x).fields.length = x.fields.length /\ (want x).desc = x.desc) /\ (x.form ≠ 9 -> (want x).base = 0 /\ (want x).fields.length = 0 /\ (want x).desc = 0) := ⟨fun h => by simp [want, h], fun h => by simp [want, h]⟩; have e4 : (x.form = 11 -> (want x).result = x.result /\ (want x).params.length = x.params.length) /\ (x.form ≠ 11 -> (want x).result = 0 /\ (want x).params.length = 0) := ⟨fun h => by simp [want, h], fun h => by simp [want, h]⟩
 unfold likeW ok3
 omega
theorem one_iff {t : List Ty} (hF : Forms t) {a : Int} (h9 : (tyAt t a).form ≠ 9) : OneP t a ↔ FormedP t (tyAt t a) := by
 generalize hx : tyAt t a = x at *
 have hsw : swP t a x ↔ okP t x := by
  unfold swP okP
  rw [partR hF, recR, openR, recR]; simp only [h9, false_and, false_or, or_false, plainR hF, partR hF, openR]; refine ⟨fun h => ?_, fun h => ?_⟩
  ·rcases h with h | h | h | ⟨h, h1, h2, h3⟩
   ·exact .inl h
   ·exact .inr (.inl h)
   ·exact .inr (.inr (.inl h))
   ·exact .inr (.inr (.inr ⟨h, h2, h3, h1⟩))
  ·rcases h with h | h | h | ⟨h, h1, h2, h3⟩
   ·exact .inl h
   ·exact .inr (.inl h)
   ·exact .inr (.inr (.inl h))
   ·exact .inr (.inr (.inr ⟨h, h3, h1, h2⟩))
 unfold OneP FormedP
 rw [hx, hsw, named_iff (.inr h9), like_iff]
 unfold ok1
 constructor
 ·rintro ⟨⟨h1, h2⟩, h3, h4, h5⟩
  exact ⟨h5, ⟨⟨fun h => (h1 h).2, fun h => absurd h h9⟩, h3⟩, fun h => (h1 h).1, h4⟩
 ·rintro ⟨h5, ⟨⟨h1, _⟩, h3⟩, h2, h4⟩
  exact ⟨⟨fun h => ⟨h2 h, h1 h⟩, fun h => absurd h h9⟩, h3, h4, h5⟩
theorem one_rec {t : List Ty} {a : Int} (h9 : (tyAt t a).form = 9) : OneP t a ↔ (namedP (tyAt t a) /\ likeW (tyAt t a) /\ -1 <= (tyAt t a).desc /\ (tyAt t a).desc <= 63) /\ RecP t a := by
 generalize hx : tyAt t a = x at *
 unfold OneP swP
 rw [hx, named_iff (.inl h9), like_iff]
 unfold ok1
 constructor
 ·rintro ⟨⟨h1, h2⟩, h4, h5, h6⟩
  obtain ⟨h2, h3⟩ := h2 h9; refine ⟨⟨⟨⟨fun h => absurd h9 h, fun _ => h2⟩, h4⟩, ⟨fun h => absurd h9 h, h5⟩, h3⟩, ?_⟩; rcases h6 with h | h | h | h | h
  ·omega
  ·omega
  ·omega
  ·exact h.2
  ·omega
 ·rintro ⟨⟨⟨⟨h1, h2⟩, h4⟩, ⟨_, h5⟩, h3⟩, h6⟩
  exact ⟨⟨fun h => absurd h9 h, fun h => ⟨h2 h, h3⟩⟩, h4, h5, .inr (.inr (.inr (.inl ⟨h9, h6⟩)))⟩
theorem bas_len {t : List Ty} : ∀ {n : Nat} {a : Int} {l : List Int}, basR t n a = some l -> l.length <= n /\ chain t n a = a :: l
 | 0, a, l, h => by
  simp only [basR] at h
  split at h
  ·cases h; simp [chain]
  ·cases h
 | n + 1, a, l, h => by
  simp only [basR] at h
  split at h
  ·rename_i hz; cases h; simp [chain, hz]
  ·rename_i hz
   split at h
   ·obtain ⟨r, hr, rfl⟩ := Option.map_eq_some_iff.1 h
    obtain ⟨h1, h2⟩ := bas_len hr; simp only [chain, if_neg hz, h2, List.length_cons]; exact ⟨by omega, trivial⟩
   ·cases h
theorem bas_some {t : List Ty} (hb : ∀ a : Int, placeP t a -> (tyAt t a).form = 9 -> (tyAt t a).base = 0 \/ (placeP t (tyAt t a).base /\ (tyAt t (tyAt t a).base).form = 9)) :
 ∀ {n : Nat} {a : Int}, placeP t a -> (tyAt t a).form = 9 -> (chain t n a).length <= n -> ∃ l, basR t n a = some l
 | 0, a, _, _, h => by simp [chain] at h
 | n + 1, a, hp, h9, h => by
  simp only [basR, chain, List.length_cons] at h ⊢
  by_cases hz : (tyAt t a).base = 0
  ·exact ⟨[], if_pos hz⟩
  ·have := (hb a hp h9).resolve_left hz
   rw [if_neg hz] at h ⊢; rw [if_pos this]; obtain ⟨l, hl⟩ := bas_some hb (n := n) this.1 this.2 (by omega); exact ⟨_, by rw [hl]; rfl⟩
theorem bas_step {t : List Ty} {n : Nat} {a : Int} {l : List Int} (h : basR t (n + 1) a = some l) : (tyAt t a).base = 0 \/ (placeP t (tyAt t a).base /\ (tyAt t (tyAt t a).base).form = 9) := by
 simp only [basR] at h
 split at h
 ·rename_i hz; exact .inl hz
 ·split at h
  ·rename_i hp; exact .inr hp
  ·cases h
theorem bas_form {t : List Ty} : ∀ {n : Nat} {a : Int} {l : List Int}, basR t n a = some l -> ∀ b ∈ l, (tyAt t b).form = 9
 | 0, a, l, h => by
  simp only [basR] at h
  split at h
  ·cases h; simp
  ·cases h
 | n + 1, a, l, h => by
  simp only [basR] at h
  split at h
  ·cases h; simp
  ·split at h
   ·rename_i hp
    obtain ⟨r, hr, rfl⟩ := Option.map_eq_some_iff.1 h
    intro b hb
    rcases List.mem_cons.1 hb with rfl | hb
    ·exact hp.2
    ·exact bas_form hr b hb
   ·cases h
theorem GoodR.good {t : List Ty} (h : GoodR t) : GoodP t := by
 have hf := h.forms; have hl := h.len; have hlo : ∀ a : Int, 0 <= a -> a < 7 -> tyAt t a = bt a := fun a h0 h7 => by
  have := h.bas a.toNat (by omega); rw [tyAt, this, show ((a.toNat : Nat) : Int) = a by omega]
 have hone : ∀ a : Int, 7 <= a -> a < t.length -> OneP t a := fun a h7 h1 => by
  have := h.one a.toNat (by omega) (by omega)
  rwa [show ((a.toNat : Nat) : Int) = a by omega] at this
 have hF : FrmP t := by
  refine ⟨hl, h.bas, fun i h7 hi => ?_⟩; have ho := h.one i h7 hi; have e : tyAt t (i : Int) = t.getD i default := rfl
  by_cases h9 : (tyAt t (i : Int)).form = 9
  ·obtain ⟨⟨g1, g2, g3, g4⟩, l, g5, g6, g7, _⟩ := (one_rec h9).1 ho
   rw [<- e]; have g8 := g7 _ List.mem_cons_self; refine ⟨(ok9 h9).2 ⟨⟨?_, g8.1, g3, by omega⟩, fun f hf' => ⟨(g8.2 f hf').1, (partR hf _).2 (g8.2 f hf').2⟩⟩, g1, g2⟩; rcases bas_step (n := 4) g5 with hz | hp
   ·exact .inl hz
   ·exact .inr ((recR _).2 hp)
  ·rw [<- e]; exact (one_iff hf h9).1 ho
 refine ⟨hF, fun a h0 h1 => ?_, fun i j hij hj hT => ?_, fun i hi hO => ?_⟩
 ·rcases Int.lt_or_le a 7 with h7 | h7
  ·refine .intro a fun y hy => ?_
   have e := hlo a h0 h7; simp only [KdC] at hy; rw [kids_no (by rw [e]; simp only [bt]; omega) (by rw [e]; simp only [bt]; omega) (by rw [e]; simp only [bt]; omega)] at hy; simp at hy
  ·have := h.acc a.toNat (by omega) (by omega)
   rw [show ((a.toNat : Nat) : Int) = a by omega] at this; exact (acc_CR (by rw [hlo 0 (by omega) (by omega)]; rfl)).2 this
 ·obtain ⟨g1, g2, g3, g4, g5⟩ := hT
  have hi7 : 7 <= i := by
   rcases Nat.lt_or_ge i 7 with h7 | h7
   ·rw [h.bas i h7] at g1; simp only [bt] at g1; omega
   ·exact h7
  exact h.uni j i hi7 hij hj ⟨g2, g1, g4.symm, g5.symm, by omega⟩
 ·obtain ⟨g1, g2⟩ := hO
  have hi7 : 7 <= i := by
   rcases Nat.lt_or_ge i 7 with h7 | h7
   ·rw [h.bas i h7] at g1; simp only [bt] at g1; omega
   ·exact h7
  obtain ⟨_, l, g5, g6, _, g8⟩ := (one_rec (t := t) (a := (i : Int)) g1).1 (h.one i hi7 hi); obtain ⟨_, hc⟩ := bas_len g5; exact g2 ⟨by rw [hc]; simpa using g6, by rw [hc]; exact g8⟩
theorem GoodP.ref {t : List Ty} (h : GoodP t) : GoodR t := by
 have hF := h.toFrmP; have hf := hF.forms; have hl := hF.len; refine ⟨hl, hF.bas, fun i h7 hi => ?_, fun i h7 hi => ?_, fun i k h7 hk hi hT => ?_⟩
 ·have e : tyAt t (i : Int) = t.getD i default := rfl
  have hfm := hF.frm i h7 hi; rw [<- e] at hfm
  by_cases h9 : (tyAt t (i : Int)).form = 9
  ·obtain ⟨g1, g2, g3⟩ := hfm
   have gg := FrmP.f9 ⟨g1, g2, g3⟩ h9; refine (one_rec h9).2 ⟨⟨g2, g3, gg.1.2.2.1, by have := gg.1.2.2.2; omega⟩, ?_⟩; have hc : ChainP t i := Classical.not_not.1 fun hc => h.chn i hi ⟨h9, hc⟩
   obtain ⟨l, hl'⟩ := bas_some (fun a hp h9 => by
    rcases hF.base hp.1 hp.2 h9 with hb | ⟨b1, b2, b3⟩
    ·exact .inl hb
    ·exact .inr ⟨⟨b1, b2⟩, b3⟩) (n := 5) (a := (i : Int)) ⟨by omega, by omega⟩ h9 hc.1
   obtain ⟨_, hce⟩ := bas_len hl'; obtain ⟨hc1, hc2⟩ := hc; rw [hce] at hc1 hc2; refine ⟨l, hl', by simpa using hc1, fun b hb => ?_, hc2⟩; have hb9 : placeP t b /\ (tyAt t b).form = 9 := by
    rcases List.mem_cons.1 hb with rfl | hb
    ·exact ⟨⟨by omega, by omega⟩, h9⟩
    ·exact ⟨bas_place hl' b hb, bas_form hl' b hb⟩
   rcases hF.at_ hb9.1.1 hb9.1.2 with ⟨b7, e⟩ | ⟨b7, fb⟩
   ·rw [e] at hb9; simp only [bt] at hb9; omega
   ·obtain ⟨⟨_, c2, _⟩, c3⟩ := FrmP.f9 fb hb9.2
    exact ⟨c2, fun f hf' => ⟨(c3 f hf').1, (partR hf _).1 (c3 f hf').2⟩⟩
  ·exact (one_iff hf h9).2 hfm
 ·exact (acc_CR (by rw [tyAt_lt hF (by omega) (by omega)]; rfl)).1 (h.acc i (by omega) (by omega))
 ·obtain ⟨g1, g2, g3, g4, g5⟩ := hT
  refine h.uni k i hk hi ⟨g2, g1, ?_, g3.symm, g4.symm⟩; have := hF.frm i (by omega) hi; have := (FrmP.f9 this g1).1.2.2.1; omega
end Go.Proofs.YthifjndenhjobaaGreat
