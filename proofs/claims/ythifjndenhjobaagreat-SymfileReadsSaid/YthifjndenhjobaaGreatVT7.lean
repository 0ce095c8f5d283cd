/- Plain law: chains of bases; fields' names. -/
import Derived.Test.YthifjndenhjobaaGreatVT6
set_option linter.unusedSectionVars false
set_option linter.unusedSimpArgs false
set_option linter.unusedVariables false
set_option maxHeartbeats 4000000
set_option maxRecDepth 20000
namespace Go.Proofs.YthifjndenhjobaaGreat
def chain (t : List Ty) : Nat -> Int -> List Int
 | 0, a => [a]
 | n + 1, a => a :: if (tyAt t a).base = 0 then [] else chain t n (tyAt t a).base
def namesL (t : List Ty) (l : List Int) : List ByteArray := l.flatMap fun a => (tyAt t a).fields.map Fd.name
def ChainP (t : List Ty) (a : Int) : Prop := (chain t 5 a).length <= 5 /\ (namesL t (chain t 5 a)).Nodup
end Go.Proofs.YthifjndenhjobaaGreat
namespace Go.Proofs.YthifjndenhjobaaGreat
open Go.RowKit
def c96l0 : AC :=
 sr [ib 155 .lss t154 t153]
 (.seq (.cond t155 (.skip) (.exit 3))
 (.seq (.block 4 (sr [kn 156 (.ia t152 t154 2), kn 157 (.ld t156 2 true), kn 11 (.al [(.d (.v (.bool false))), kz]), ke (.st t11 t157 2)]
 (.reg [im 158 t7, im 159 t158, ky 160 159 (.mv t5), ky 161 159 (.fa t11 1), ky 162 159 (.ld t161 1 false), ky 163 159 (.callv t160 [t162]), ky 164 159 (.call 103 [t163]), ky 165 159 (.mv t164), ko 166 165 (.mv t5), ko 167 165 (.fa t11 1), ko 168 165 (.ld t167 1 false), ko 169 165 (.callv t166 [t168]), ko 170 165 (.bin .eql t169 (kc 8)), ky 171 159 (.pick t165 kT t170), kn 172 (.pick t159 t171 kF), im 7 t172])))
 (.reg [ib 173 .add t154 (kc 1), im 154 t173])))
def c96l1 : AC :=
 sr [ib 100 .lss t99 t98]
 (.seq (.cond t100 (.skip) (.exit 1))
 (.seq (.block 2 (sr [kn 101 (.ia t97 t99 3), kn 102 (.ld t101 3 true), kn 9 (.al [ks, (.d (.v (.bool false))), kz]), ke (.st t9 t102 3)]
 (.reg [im 103 t7, im 104 t103, ky 105 104 (.fa t9 0), ky 106 104 (.ld t105 1 false), ky 107 104 (.call 104 [t106]), kn 108 (.pick t104 t107 kF), im 109 t108, ky 110 109 (.mv t5), ky 111 109 (.fa t9 2), ky 112 109 (.ld t111 1 false), ky 113 109 (.callv t110 [t112]), ky 114 109 (.call 103 [t113]), kn 115 (.pick t109 t114 kF), im 7 t115])))
 (.reg [ib 116 .add t99 (kc 1), im 99 t116])))
def c96 : AC :=
 sr [kn 2 (.bx t0), kn 3 (.bx t1), im 4 kF]
 (sr [kn 13 (.mkf 102 [t2]), im 5 t13]
 (sr [ia 14 t3 0, il 15 t14, kn 16 (.bd [kz, ks, ks, kz, kz, kz, .esl, .esl, kz, kz] [(0, 1, t15)]), kn 6 (.al [kz, ks, ks, kz, kz, kz, .esl, .esl, kz, kz]), ke (.st t6 t16 10)]
 (sr [im 7 kF]
 (.seq (sr [ia 17 t3 0, il 18 t17]
 (.block 0 (sr [ib 20 .eql t18 (kc 7), im 19 t20]
 (.cond t19 (.seq (.dreg [[], [0], [], [2], [0, 1], [4, 1, 0, 1], [0, 1, 2, 3, 4, 5], [6, 3, 5, 0, 1, 2, 3, 4, 5]] [ia 21 t3 3, il 22 t21, ia 23 t3 4, il 24 t23, ia 25 t6 3, ke (.st t25 t22 1), ia 26 t6 4, ke (.st t26 t24 1)])
 (.reg [ia 27 t3 3, il 28 t27, kn 29 (.bin .leq (kc 1) t28), im 30 t29, ky 31 30 (.fa t3 3), ky 32 30 (.ld t31 1 false), ky 33 30 (.bin .leq t32 (kc 4096)), kn 34 (.pick t30 t33 kF), im 35 t34, ky 36 35 (.mv t5), ky 37 35 (.fa t3 4), ky 38 35 (.ld t37 1 false), ky 39 35 (.callv t36 [t38]), ky 40 35 (.call 103 [t39]), kn 41 (.pick t35 t40 kF), im 7 t41])) (sr [ib 43 .eql t18 (kc 8), im 42 t43]
 (.cond t42 (sr [ia 44 t3 4, il 45 t44, ia 46 t6 4, ke (.st t46 t45 1)]
 (.reg [im 47 t5, ia 48 t3 4, il 49 t48, kn 50 (.callv t47 [t49]), ic 51 103 [t50], im 52 t51, ko 53 52 (.mv t5), ko 54 52 (.fa t3 4), ko 55 52 (.ld t54 1 false), ko 56 52 (.callv t53 [t55]), ko 57 52 (.bin .eql t56 (kc 8)), kn 58 (.pick t52 kT t57), im 7 t58])) (sr [ib 60 .eql t18 (kc 9), im 59 t60]
 (.cond t59 (.seq (.dreg [[], [0], [], [2], [], [4], [0, 1], [6, 1, 0, 1], [0, 1, 2, 3, 6, 7], [8, 3, 7, 0, 1, 2, 3, 6, 7], [0, 1, 2, 3, 4, 5, 6, 7, 8, 9], [10, 5, 9, 0, 1, 2, 3, 4, 5, 6, 7, 8, 9]] [ia 61 t3 5, il 62 t61, ia 63 t3 6, il 64 t63, ia 65 t3 9, il 66 t65, ia 67 t6 5, ke (.st t67 t62 1), ia 68 t6 6, ke (.st t68 t64 1), ia 69 t6 9, ke (.st t69 t66 1)])
 (sr [ia 70 t3 5, il 71 t70, ib 72 .eql t71 (kc 0), im 73 t72, ko 74 73 (.mv t5), ko 75 73 (.fa t3 5), ko 76 73 (.ld t75 1 false), ko 77 73 (.callv t74 [t76]), ko 78 73 (.bin .eql t77 (kc 9)), kn 79 (.pick t73 kT t78), im 80 t79, ky 81 80 (.fa t3 6), ky 82 80 (.ld t81 1 false), ky 83 80 (.len false t82), ky 84 80 (.bin .leq t83 (kc 64)), kn 85 (.pick t80 t84 kF), im 86 t85, ky 87 86 (.fa t3 9), ky 88 86 (.ld t87 1 false), ky 89 86 (.bin .leq (kc (-1)) t88), kn 90 (.pick t86 t89 kF), im 91 t90, ky 92 91 (.fa t3 9), ky 93 91 (.ld t92 1 false), ky 94 91 (.bin .lss t93 (kc 64)), kn 95 (.pick t91 t94 kF), im 7 t95]
 (sr [ia 96 t3 6, il 97 t96, kn 98 (.len false t97), im 99 (kc 0)]
 (.block 1 (.loop c96l1))))) (sr [ib 118 .eql t18 (kc 10), im 117 t118]
 (.cond t117 (sr [ia 119 t3 4, il 120 t119, ia 121 t6 4, ke (.st t121 t120 1)]
 (.reg [im 122 t5, ia 123 t3 4, il 124 t123, kn 125 (.callv t122 [t124]), ib 126 .eql t125 (kc 9), im 7 t126])) (sr [ib 128 .eql t18 (kc 11), im 127 t128]
 (.cond t127 (.seq (.dreg [[], [0], [], [2], [0, 1], [4, 1, 0, 1], [0, 1, 2, 3, 4, 5], [6, 3, 5, 0, 1, 2, 3, 4, 5]] [ia 129 t3 7, il 130 t129, ia 131 t3 8, il 132 t131, ia 133 t6 7, ke (.st t133 t130 1), ia 134 t6 8, ke (.st t134 t132 1)])
 (sr [ia 135 t3 7, il 136 t135, kn 137 (.len false t136), ib 138 .leq t137 (kc 64), im 139 t138, ky 140 139 (.fa t3 8), ky 141 139 (.ld t140 1 false), ky 142 139 (.bin .eql t141 (kc 0)), ky 143 139 (.mv t142), ko 144 143 (.mv t5), ko 145 143 (.fa t3 8), ko 146 143 (.ld t145 1 false), ko 147 143 (.callv t144 [t146]), ko 148 143 (.call 105 [t147]), ky 149 139 (.pick t143 kT t148), kn 150 (.pick t139 t149 kF), im 7 t150]
 (sr [ia 151 t3 7, il 152 t151, kn 153 (.len false t152), im 154 (kc 0)]
 (.block 3 (.loop c96l0))))) (.skip)))))))))))))
 (sr [ia 174 t3 1, il 175 t174, kn 176 (.bin .eql t175 (.c ks)), im 177 t176, ky 178 177 (.fa t3 2), ky 179 177 (.ld t178 1 false), ky 180 177 (.bin .eql t179 (.c ks)), kn 181 (.pick t177 t180 kF), im 182 t181, ky 183 182 (.fa t3 0), ky 184 182 (.ld t183 1 false), ky 185 182 (.bin .neq t184 (kc 9)), kn 186 (.pick t182 t185 kF), im 187 t186, ko 188 187 (.fa t3 1), ko 189 187 (.ld t188 1 false), ko 190 187 (.call 104 [t189]), ko 191 187 (.mv t190), ky 192 191 (.fa t3 2), ky 193 191 (.ld t192 1 false), ky 194 191 (.call 104 [t193]), ky 195 191 (.mv t194), ko 196 195 (.fa t3 2), ko 197 195 (.ld t196 1 false), ko 198 195 (.bin .eql t197 (.c ks)), ko 199 195 (.mv t198), ky 200 199 (.fa t3 0), ky 201 199 (.ld t200 1 false), ky 202 199 (.bin .eql t201 (kc 9)), ko 203 195 (.pick t199 t202 kF), ky 204 191 (.pick t195 kT t203), ko 205 187 (.pick t191 t204 kF), kn 206 (.pick t187 kT t205), im 12 t206]
 (sr [im 207 t7, im 208 t207, ky 209 208 (.mv t12), kn 210 (.pick t208 t209 kF), im 211 t210, ky 212 211 (.fa t3 9), ky 213 211 (.ld t212 1 false), ky 214 211 (.fa t6 9), ky 215 211 (.ld t214 1 false), ky 216 211 (.bin .eql t213 t215), kn 217 (.pick t211 t216 kF), im 218 t217, ky 219 218 (.fa t3 3), ky 220 218 (.ld t219 1 false), ky 221 218 (.fa t6 3), ky 222 218 (.ld t221 1 false), ky 223 218 (.bin .eql t220 t222), kn 224 (.pick t218 t223 kF), im 225 t224, ky 226 225 (.fa t3 4), ky 227 225 (.ld t226 1 false), ky 228 225 (.fa t6 4), ky 229 225 (.ld t228 1 false), ky 230 225 (.bin .eql t227 t229), kn 231 (.pick t225 t230 kF), im 232 t231, ky 233 232 (.fa t3 5), ky 234 232 (.ld t233 1 false), ky 235 232 (.fa t6 5), ky 236 232 (.ld t235 1 false), ky 237 232 (.bin .eql t234 t236), kn 238 (.pick t232 t237 kF), im 239 t238, ky 240 239 (.fa t3 8), ky 241 239 (.ld t240 1 false), ky 242 239 (.fa t6 8), ky 243 239 (.ld t242 1 false), ky 244 239 (.bin .eql t241 t243), kn 245 (.pick t239 t244 kF), im 246 t245, ky 247 246 (.fa t3 6), ky 248 246 (.ld t247 1 false), ky 249 246 (.len false t248), ky 250 246 (.fa t6 6), ky 251 246 (.ld t250 1 false), ky 252 246 (.len false t251), ky 253 246 (.bin .eql t249 t252), kn 254 (.pick t246 t253 kF), im 255 t254, ky 256 255 (.fa t3 7), ky 257 255 (.ld t256 1 false), ky 258 255 (.len false t257), ky 259 255 (.fa t6 7), ky 260 255 (.ld t259 1 false), ky 261 255 (.len false t260), ky 262 255 (.bin .eql t258 t261), kn 263 (.pick t255 t262 kF), im 4 t263]
 (.ret)))))))
def r96 : List RC := [.t 4]
theorem cc96 : cK Tryz.f96 (hh 96) c96 := by unfold cK; kernel_rfl
theorem rr96 : resC Tryz.prog Tryz.f96 = some r96 := by kernel_rfl
def okP (t : List Ty) (x : Ty) : Prop :=
 (x.form = 7 /\ 1 <= x.len /\ x.len <= 4096 /\ partP (formA t x.elem)) \/
 (x.form = 8 /\ (partP (formA t x.elem) \/ formA t x.elem = 8)) \/
 (x.form = 9 /\ (x.base = 0 \/ formA t x.base = 9) /\ x.fields.length <= 64 /\ -1 <= x.desc /\ x.desc < 64 /\ ∀ f ∈ x.fields, Nm f.name /\ partP (formA t f.typ)) \/
 (x.form = 10 /\ formA t x.elem = 9) \/
 (x.form = 11 /\ x.params.length <= 64 /\ (x.result = 0 \/ plainP (formA t x.result)) /\ ∀ p ∈ x.params, partP (formA t p.typ) \/ formA t p.typ = 8)
def want (x : Ty) : Ty :=
 { form := x.form, mod := se, name := se, len := if x.form = 7 then x.len else 0, elem := if x.form = 7 \/ x.form = 8 \/ x.form = 10 then x.elem else 0, base := if x.form = 9 then x.base else 0,
   fields := if x.form = 9 then x.fields else [], params := if x.form = 11 then x.params else [], result := if x.form = 11 then x.result else 0, desc := if x.form = 9 then x.desc else 0 }
def namedP (x : Ty) : Prop := (x.mod = se /\ x.name = se /\ x.form ≠ 9) \/ (Nm x.mod /\ (Nm x.name \/ (x.name = se /\ x.form = 9)))
def likeW (x : Ty) : Prop := x.desc = (want x).desc /\ x.len = (want x).len /\ x.elem = (want x).elem /\ x.base = (want x).base /\ x.result = (want x).result /\ x.fields.length = (want x).fields.length /\ x.params.length = (want x).params.length
def FormedP (t : List Ty) (x : Ty) : Prop := okP t x /\ namedP x /\ likeW x
theorem not_Nm_se : ¬ Nm se := fun h => by have := h.1; rw [size_nil] at this; omega
abbrev hbx (t : List Ty) (x : Ty) (L E Bs : Int) (wf wp : AV) (R D : Int) : List ABlk := [.cells [tv t], .cells x.cs, .cells [iv x.form, sv se, sv se, iv L, iv E, iv Bs, wf, wp, iv R, iv D]]
abbrev SF (H : List ABlk) (B : Bool) : List AV := [.any, .any, .any, .ptr (H.length + 1) 0, bv false, .any, .ptr (H.length + 2) 0, bv B]
def FormedR (t : List Ty) (x : Ty) (H : List ABlk) (v : AV) (H' : List ABlk) : Prop := (∃ B, v = bv B /\ (B = true ↔ FormedP t x)) /\ H' = H
section
variable {t : List Ty} {x w : Ty} {H : List ABlk}
theorem hb_0 (H : List ABlk) (a b c : ABlk) : (H ++ [a, b, c])[H.length]? = some a := by rw [List.getElem?_append_right (Nat.le_refl _)]; simp
theorem hb_1 (H : List ABlk) (a b c : ABlk) : (H ++ [a, b, c])[H.length + 1]? = some b := by rw [List.getElem?_append_right (by omega)]; simp
theorem hb_2 (H : List ABlk) (a b c : ABlk) : (H ++ [a, b, c])[H.length + 2]? = some c := by rw [List.getElem?_append_right (by omega)]; simp
theorem hb_0' (H : List ABlk) (a b : ABlk) : (H ++ [a, b])[H.length]? = some a := by rw [List.getElem?_append_right (Nat.le_refl _)]; simp
theorem hb_1' (H : List ABlk) (a b : ABlk) : (H ++ [a, b])[H.length + 1]? = some b := by rw [List.getElem?_append_right (by omega)]; simp
theorem hs_2 (H : List ABlk) (a b c d : ABlk) : (H ++ [a, b, c]).set (H.length + 2) d = H ++ [a, b, d] := by rw [List.set_append_right _ _ (by omega)]; simp
theorem hb_3 (H : List ABlk) (a b c d : ABlk) : (H ++ [a, b, c, d])[H.length + 3]? = some d := by rw [List.getElem?_append_right (by omega)]; simp
theorem hs_3 (H : List ABlk) (a b c d e : ABlk) : (H ++ [a, b, c, d]).set (H.length + 3) e = H ++ [a, b, c, e] := by rw [List.set_append_right _ _ (by omega)]; simp
end
def JF (t : List Ty) (x : Ty) (H : List ABlk) (s : List AV) (H' : List ABlk) : Prop :=
 ∃ (B : Bool) (wf wp : AV), (B = true ↔ okP t x) /\ (lenA wf = some (want x).fields.length /\ isStr wf = false) /\ (lenA wp = some (want x).params.length /\ isStr wp = false) /\ s = SF H B ++ List.replicate 256 .any /\
  H' = H ++ hbx t x (want x).len (want x).elem (want x).base wf wp (want x).result (want x).desc
theorem cl3 {H : List ABlk} (h : cl H) {t : List Ty} {x : Ty} {L E Bs : Int} {wf wp : AV} {R D : Int} (h1 : refs wf = []) (h2 : refs wp = []) : cl (H ++ hbx t x L E Bs wf wp R D) := by
 refine h.append fun k hk r hr => ?_
 simp only [List.mem_cons, List.not_mem_nil, or_false] at hk; rcases hk with rfl | rfl | rfl <;> simp [ABlk.refs, refs.refsL, refs, Ty.cs, h1, h2] at hr
theorem JF.fin {t : List Ty} {x : Ty} {H : List ABlk} {s : List AV} {B : Bool} {L E Bs R D : Int} {wf wp : AV} (hcl : cl H) (hk : WkL s (SF H B ++ List.replicate 256 .any)) (hB : B = true ↔ okP t x) (hw : L = (want x).len /\ E = (want x).elem /\ Bs = (want x).base /\ R = (want x).result /\ D = (want x).desc)
 (h1 : lenA wf = some (want x).fields.length /\ isStr wf = false) (h2 : lenA wp = some (want x).params.length /\ isStr wp = false) (h3 : refs wf = []) (h4 : refs wp = []) : ∃ s0 H0, Wk H.length s (H ++ hbx t x L E Bs wf wp R D) s0 H0 /\ JF t x H s0 H0 := by
 obtain ⟨rfl, rfl, rfl, rfl, rfl⟩ := hw; exact ⟨_, _, Wk.slots hk, B, wf, wp, hB, h1, h2, rfl, rfl⟩
abbrev S9 (H : List ABlk) (l : AV) (n : Nat) (B : Bool) (i : Nat) : List AV := [.any, .any, .ptr H.length 0, .ptr (H.length + 1) 0, bv false, .fn 102 [.ptr H.length 0], .ptr (H.length + 2) 0, bv B] ++ List.replicate 89 .any ++ [l, iv n, iv i]
theorem formed_l1 {t : List Ty} {x : Ty} {H G : List ABlk} {nb : Nat} (ht : t.length <= 9000000) (hfl : x.fields.length <= 9000000) (hG : G[H.length]? = some (.cells [tv t])) (hHG : H.length + 3 <= G.length) (hcl : cl G) (hnb : nb <= G.length) (B0 : Bool) :
 W Tryz.prog (hh 96) nb (.loop c96l1) (S9 H (fdv x.fields) x.fields.length B0 0 ++ List.replicate 164 .any) G
  (fun e s H' => e = .exit 1 /\ ∃ B : Bool, (B = true ↔ B0 = true /\ ∀ f ∈ x.fields, Nm f.name /\ partP (formA t f.typ)) /\ s = S9 H (fdv x.fields) x.fields.length B x.fields.length ++ bv false :: List.replicate 163 .any /\ H' = G) := by
 have hck : callOk Tryz.prog 102 = true := by kernel_rfl
 obtain ⟨S, hS⟩ : ∃ S : Nat × Bool -> List AV, ∀ g, S g = S9 H (fdv x.fields) x.fields.length g.2 g.1 ++ List.replicate 164 .any := ⟨_, fun _ => rfl⟩; refine W.loopG (γ := Nat × Bool) (fun g => x.fields.length - g.1) S (fun _ => G) (fun g => g.1 <= x.fields.length /\ (g.2 = true ↔ B0 = true /\ ∀ j, j < g.1 -> Nm (x.fields.getD j default).name /\ partP (formA t (x.fields.getD j default).typ))) (0, B0) (by rw [hS]; exact Wk.refl) ⟨Nat.zero_le _, by simp⟩ (fun g hg => ?_); obtain ⟨i, B⟩ := g; obtain ⟨q1, q2⟩ := hg; simp only at q1 q2; simp (disch := omega) only [c96l1, hS, apS, go_sem, seval, reduceCtorEq]; refine Br.dec (fun hc => ?_) (fun hc => ?_) <;> simp (disch := omega) only [go_sem, seval, reduceCtorEq]
 ·have hfa := iaA_fd (t := x.fields) (a := i) (by omega) (by omega)
  have e1 : fdAt x.fields (i : Int) = x.fields.getD i default := rfl; rw [e1] at hfa; have hg0 : ∀ k : ABlk, (G ++ [k])[G.length]? = some k := fun k => by rw [List.getElem?_append_right (Nat.le_refl _)]; simp
  have hs0 : ∀ k k' : ABlk, (G ++ [k]).set G.length k' = G ++ [k'] := fun k k' => by rw [List.set_append_right _ _ (Nat.le_refl _)]; simp
  have hgt : ∀ l : List ABlk, (G ++ l)[H.length]? = some (.cells [tv t]) := fun l => by rw [List.getElem?_append_left (by omega), hG]
  have nxt : ∀ {B' : Bool} {s' : List AV} {k : ABlk}, (B' = true ↔ B = true /\ Nm (x.fields.getD i default).name /\ partP (formA t (x.fields.getD i default).typ)) -> WkL s' (S (i + 1, B')) -> Nxt nb (fun g : Nat × Bool => x.fields.length - g.1) S (fun _ => G) (fun g => g.1 <= x.fields.length /\ (g.2 = true ↔ B0 = true /\ ∀ j, j < g.1 -> Nm (x.fields.getD j default).name /\ partP (formA t (x.fields.getD j default).typ))) (x.fields.length - i) s' (G ++ [k]) := fun {B' s' k} hB hk => by
   refine Nxt.mk (i + 1, B') (by simp only; omega) (Wk.drop hk hnb hcl ?_) ⟨by simp only; omega, ?_⟩
   ·rw [hS]; simp [refs, refs.refsL]; omega
   ·simp only
    rw [hB, q2]; refine ⟨fun ⟨⟨a, b⟩, c⟩ => ⟨a, fun j hj => ?_⟩, fun ⟨a, b⟩ => ⟨⟨a, fun j hj => b j (by omega)⟩, b i (by omega)⟩⟩; rcases Nat.lt_or_ge j i with h' | h'
    ·exact b j h'
    ·rw [show j = i by omega]; exact c
  generalize x.fields.getD i default = f at *
  simp (disch := omega) only [hfa, Fd.c, hg0, hs0, go_sem, seval, reduceCtorEq]
  cases hBv : B with
  | false =>
   simp (disch := omega) only [go_sem, seval, reduceCtorEq]; exact nxt (B' := false) (by simp [hBv]) (WkL.tw 100 (hS _))
  | true =>
   simp (disch := omega) only [hg0, hs0, go_sem, seval, reduceCtorEq]; refine Cont.mk (name_c _ _) ?_
   cases hnm : nmF f.name with
   | false =>
    simp (disch := omega) only [go_sem, seval, reduceCtorEq]; exact nxt (B' := false) ⟨fun h => by simp at h, fun h => by rw [nm_t h.2.1] at hnm; cases hnm⟩ (WkL.tw 100 (hS _))
   | true =>
    simp (disch := omega) only [hg0, hs0, go_sem, seval, reduceCtorEq]; refine ⟨hck, Cont.mk (form_c _ ht (hgt _)) ?_⟩; simp (disch := omega) only [go_sem, seval, reduceCtorEq]; refine Cont.mk (part_c _ _) ?_; simp (disch := omega) only [go_sem, seval, reduceCtorEq]; exact nxt (B' := decide (partP (formA t f.typ))) ⟨fun h => ⟨hBv, of_decide_eq_true hnm, of_decide_eq_true h⟩, fun h => decide_eq_true h.2.2⟩ (WkL.tw 100 (hS _))
 ·have hi : i = x.fields.length := by omega
  subst hi; refine ⟨B, ?_, rfl⟩; rw [q2]; refine ⟨fun ⟨a, b⟩ => ⟨a, fun f hf => ?_⟩, fun ⟨a, b⟩ => ⟨a, fun j hj => b _ ?_⟩⟩
  ·obtain ⟨j, hj, rfl⟩ := List.getElem_of_mem hf
   have := b j hj
   rwa [gD, gE hj] at this
  ·rw [gD, gE hj]; exact List.getElem_mem _
abbrev S11 (H : List ABlk) (l : AV) (n : Nat) (B : Bool) (i : Nat) : List AV := [.any, .any, .ptr H.length 0, .ptr (H.length + 1) 0, bv false, .fn 102 [.ptr H.length 0], .ptr (H.length + 2) 0, bv B] ++ List.replicate 144 .any ++ [l, iv n, iv i]
theorem formed_l0 {t : List Ty} {x : Ty} {H G : List ABlk} {nb : Nat} (ht : t.length <= 9000000) (hfl : x.params.length <= 9000000) (hG : G[H.length]? = some (.cells [tv t])) (hHG : H.length + 3 <= G.length) (hcl : cl G) (hnb : nb <= G.length) (B0 : Bool) :
 W Tryz.prog (hh 96) nb (.loop c96l0) (S11 H (pmv x.params) x.params.length B0 0 ++ List.replicate 109 .any) G
  (fun e s H' => e = .exit 3 /\ ∃ B : Bool, (B = true ↔ B0 = true /\ ∀ p ∈ x.params, partP (formA t p.typ) \/ formA t p.typ = 8) /\ s = S11 H (pmv x.params) x.params.length B x.params.length ++ bv false :: List.replicate 108 .any /\ H' = G) := by
 have hck : callOk Tryz.prog 102 = true := by kernel_rfl
 obtain ⟨S, hS⟩ : ∃ S : Nat × Bool -> List AV, ∀ g, S g = S11 H (pmv x.params) x.params.length g.2 g.1 ++ List.replicate 109 .any := ⟨_, fun _ => rfl⟩; refine W.loopG (γ := Nat × Bool) (fun g => x.params.length - g.1) S (fun _ => G) (fun g => g.1 <= x.params.length /\ (g.2 = true ↔ B0 = true /\ ∀ j, j < g.1 -> partP (formA t (x.params.getD j default).typ) \/ formA t (x.params.getD j default).typ = 8)) (0, B0) (by rw [hS]; exact Wk.refl) ⟨Nat.zero_le _, by simp⟩ (fun g hg => ?_); obtain ⟨i, B⟩ := g; obtain ⟨q1, q2⟩ := hg; simp only at q1 q2; simp (disch := omega) only [c96l0, hS, apS, go_sem, seval, reduceCtorEq]; refine Br.dec (fun hc => ?_) (fun hc => ?_) <;> simp (disch := omega) only [go_sem, seval, reduceCtorEq]
 ·have hfa := iaA_pm (t := x.params) (a := i) (by omega) (by omega)
  have e1 : pmAt x.params (i : Int) = x.params.getD i default := rfl; rw [e1] at hfa; have hg0 : ∀ k : ABlk, (G ++ [k])[G.length]? = some k := fun k => by rw [List.getElem?_append_right (Nat.le_refl _)]; simp
  have hs0 : ∀ k k' : ABlk, (G ++ [k]).set G.length k' = G ++ [k'] := fun k k' => by rw [List.set_append_right _ _ (Nat.le_refl _)]; simp
  have hgt : ∀ l : List ABlk, (G ++ l)[H.length]? = some (.cells [tv t]) := fun l => by rw [List.getElem?_append_left (by omega), hG]
  have nxt : ∀ {B' : Bool} {s' : List AV} {k : ABlk}, (B' = true ↔ B = true /\ (partP (formA t (x.params.getD i default).typ) \/ formA t (x.params.getD i default).typ = 8)) -> WkL s' (S (i + 1, B')) -> Nxt nb (fun g : Nat × Bool => x.params.length - g.1) S (fun _ => G) (fun g => g.1 <= x.params.length /\ (g.2 = true ↔ B0 = true /\ ∀ j, j < g.1 -> partP (formA t (x.params.getD j default).typ) \/ formA t (x.params.getD j default).typ = 8)) (x.params.length - i) s' (G ++ [k]) := fun {B' s' k} hB hk => by
   refine Nxt.mk (i + 1, B') (by simp only; omega) (Wk.drop hk hnb hcl ?_) ⟨by simp only; omega, ?_⟩
   ·rw [hS]; simp [refs, refs.refsL]; omega
   ·simp only
    rw [hB, q2]; refine ⟨fun ⟨⟨a, b⟩, c⟩ => ⟨a, fun j hj => ?_⟩, fun ⟨a, b⟩ => ⟨⟨a, fun j hj => b j (by omega)⟩, b i (by omega)⟩⟩; rcases Nat.lt_or_ge j i with h' | h'
    ·exact b j h'
    ·rw [show j = i by omega]; exact c
  generalize x.params.getD i default = f at *
  simp (disch := omega) only [hfa, Pm.c, hg0, hs0, go_sem, seval, reduceCtorEq]
  cases hBv : B with
  | false =>
   simp (disch := omega) only [go_sem, seval, reduceCtorEq]; exact nxt (B' := false) (by simp [hBv]) (WkL.tw 155 (hS _))
  | true =>
   simp (disch := omega) only [hg0, hs0, go_sem, seval, reduceCtorEq]; refine ⟨hck, Cont.mk (form_c _ ht (hgt _)) ?_⟩; simp (disch := omega) only [go_sem, seval, reduceCtorEq]; refine Cont.mk (part_c _ _) ?_
   by_cases hp : partP (formA t f.typ)
   ·have hp' := decide_eq_true hp
    simp (disch := omega) only [hp', go_sem, seval, reduceCtorEq]; exact nxt (B' := true) ⟨fun h => ⟨hBv, .inl hp⟩, fun _ => rfl⟩ (WkL.tw 155 (hS _))
   ·have hp' := decide_eq_false hp
    simp (disch := omega) only [hp', hg0, hs0, go_sem, seval, reduceCtorEq]; refine ⟨hck, Cont.mk (form_c _ ht (hgt _)) ?_⟩; simp (disch := omega) only [go_sem, seval, reduceCtorEq]; exact nxt (B' := decide (formA t f.typ = 8)) ⟨fun h => ⟨hBv, .inr (of_decide_eq_true h)⟩, fun h => decide_eq_true (h.2.resolve_left hp)⟩ (WkL.tw 155 (hS _))
 ·have hi : i = x.params.length := by omega
  subst hi; refine ⟨B, ?_, rfl⟩; rw [q2]; refine ⟨fun ⟨a, b⟩ => ⟨a, fun f hf => ?_⟩, fun ⟨a, b⟩ => ⟨a, fun j hj => b _ ?_⟩⟩
  ·obtain ⟨j, hj, rfl⟩ := List.getElem_of_mem hf
   have := b j hj
   rwa [gD, gE hj] at this
  ·rw [gD, gE hj]; exact List.getElem_mem _
end Go.Proofs.YthifjndenhjobaaGreat
