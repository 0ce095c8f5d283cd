/- The reference's reader of interfaces: Spoil, count, flag, obj. Printed by genU3.py. -/
import Derived.Test.YthifjndenhjobaaGreatVU2
import Derived.Test.YthifjndenhjobaaGreatVQ2
import Derived.Test.YthifjndenhjobaaGreatVD5
set_option linter.unusedSectionVars false
set_option linter.unusedSimpArgs false
set_option linter.unusedVariables false
set_option maxHeartbeats 8000000
set_option maxRecDepth 20000
namespace Go.Proofs.YthifjndenhjobaaGreat.Rid
open Go.RowKit
def c26 : AC :=
 sr [im 4 (kc 0)]
 (sr [im 6 t0, iv0 7 t6, ia 8 t7 0, il 9 t8, ic 10 51 [t9], im 5 t10]
 (.seq (sr [im 11 t5, ib 12 .lss t11 (kc 0), im 13 t12, ko 14 13 (.mv t5), ko 15 13 (.mv t1), ko 16 13 (.bin .gtr t14 t15), kn 17 (.pick t13 kT t16)]
 (.cond t17 (sr [im 18 t0, iv0 19 t18, ia 20 t19 0, il 21 t20, ic 22 52 [t21]]
 (sr [im 4 (kc 0)]
 (.ret))) (.skip)))
 (sr [im 23 t5, im 4 t23]
 (.ret))))
def r26 : List RC := [.t 4]
def c29 : AC :=
 sr [kn 2 (.al [kz, ks, kz, kz, kz, ks, kz])]
 (sr [im 4 t0, iv0 5 t4, ia 6 t5 0, il 7 t6, ic 8 53 [t7], kn 9 (.bd [kz, ks, kz, kz, kz, ks, kz] [(0, 1, t8)]), kn 3 (.al [kz, ks, kz, kz, kz, ks, kz]), ke (.st t3 t9 7)]
 (sr [im 10 t0, iv0 11 t10, ia 12 t11 0, il 13 t12, ic 14 24 [t13], ia 15 t3 1, ke (.st t15 t14 1)]
 (sr [im 16 t0, iv0 17 t16, ia 18 t17 0, il 19 t18, ic 20 51 [t19], ia 21 t3 2, ke (.st t21 t20 1)]
 (sr [im 22 t0, iv0 23 t22, ia 24 t23 0, il 25 t24, ic 26 53 [t25], ia 27 t3 3, ia 28 t27 0, ke (.st t28 t26 1)]
 (sr [im 29 t0, iv0 30 t29, ia 31 t30 0, il 32 t31, ic 33 51 [t32], ia 34 t3 3, ia 35 t34 1, ke (.st t35 t33 1)]
 (.seq (sr [ia 36 t3 3, ia 37 t36 0, il 38 t37, ib 39 .eql t38 (kc 4)]
 (.cond t39 (.reg [ia 40 t3 3, ia 41 t40 1, il 42 t41, ic 43 55 [t42], kn 44 (.cvi .i64 t43), ia 45 t3 3, ia 46 t45 1, ke (.st t46 t44 1)]) (.skip)))
 (sr [im 47 t0, iv0 48 t47, ia 49 t48 0, il 50 t49, ic 51 24 [t50], ia 52 t3 3, ia 53 t52 2, ke (.st t53 t51 1)]
 (sr [im 54 t0, iv0 55 t54, ia 56 t55 0, il 57 t56, ic 58 51 [t57], ia 59 t3 6, ke (.st t59 t58 1)]
 (sr [kn 60 (.ld t3 7 true), ke (.st t2 t60 7)]
 (.ret))))))))))
def r29 : List RC := [.c 2 7 true]
def c52 : AC :=
 .reg [im 2 t0, iv0 3 t2, ia 4 t3 2, ke (.st t4 kT 1)]
def r52 : List RC := []
def c54 : AC :=
 sr [im 2 kF]
 (sr [im 4 t0, iv0 5 t4, ia 6 t5 0, il 7 t6, ic 8 53 [t7], im 3 t8]
 (.seq (sr [im 9 t3, ib 10 .gtr t9 (kc 1)]
 (.cond t10 (.reg [im 11 t0, iv0 12 t11, ia 13 t12 0, il 14 t13, ic 15 52 [t14]]) (.skip)))
 (sr [im 16 t3, ib 17 .eql t16 (kc 1), im 2 t17]
 (.ret))))
def r54 : List RC := [.t 2]
def c55 : AC :=
 sr [kn 2 (.mv (.c (.d (.v (.int .u32 0)))))]
 (sr [im 3 t0, ib 4 .rem t3 (kc 4294967296), im 0 t4]
 (.seq (sr [im 5 t0, ib 6 .lss t5 (kc 0)]
 (.cond t6 (.reg [im 7 t0, ib 8 .add t7 (kc 4294967296), im 0 t8]) (.skip)))
 (sr [im 9 t0, kn 10 (.cvi .u32 t9), im 2 t10]
 (.ret))))
def r55 : List RC := [.t 2]
theorem cc26 : cK Tryz.f26 (hhY 26) c26 := by unfold cK; kernel_rfl
theorem rr26 : resC Tryz.prog Tryz.f26 = some r26 := by kernel_rfl
theorem cc29 : cK Tryz.f29 (hhY 29) c29 := by unfold cK; kernel_rfl
theorem rr29 : resC Tryz.prog Tryz.f29 = some r29 := by kernel_rfl
theorem cc52 : cK Tryz.f52 (hhY 52) c52 := by unfold cK; kernel_rfl
theorem rr52 : resC Tryz.prog Tryz.f52 = some r52 := by kernel_rfl
theorem cc54 : cK Tryz.f54 (hhY 54) c54 := by unfold cK; kernel_rfl
theorem rr54 : resC Tryz.prog Tryz.f54 = some r54 := by kernel_rfl
theorem cc55 : cK Tryz.f55 (hhY 55) c55 := by unfold cK; kernel_rfl
theorem rr55 : resC Tryz.prog Tryz.f55 = some r55 := by kernel_rfl
theorem spoilR_c {H : List ABlk} {rb : Nat} {s : ByteArray} {r : Rd} (h : H[rb]? = some (rd s r.a r.bad)) : ACalls Tryz.prog 52 [.ptr rb 0] H fun v H' => v = .tup [] /\ H' = H.set rb (rd s r.a true) := by
 refine ACalls.into Tryz.func52 cc52 rr52 fun hcl => ?_
 simp (disch := omega) only [Tryz.ntmps52, c52, r52, h, go_sem, seval, reduceCtorEq]; exact Ret.keep ⟨rfl, rfl⟩
theorem count_c {H : List ABlk} {rb vb : Nat} {s : ByteArray} {r : Rd} (hs : s.size <= 300000) (h : H[rb]? = some (rd s r.a r.bad)) (hv : H[vb]? = some (.cells [.ptr rb 0])) (hne : rb ≠ vb) (ha : r.a <= s.size) (m : Int) : ACalls Tryz.prog 26 [.ptr vb 0, iv m] H fun v H' => v = iv (cntF s m r).1 /\ H' = H.set rb (rd s (cntF s m r).2.a (cntF s m r).2.bad) := by
 refine ACalls.into Tryz.func26 cc26 rr26 fun hcl => ?_
 have hl := (List.getElem?_eq_some_iff.1 h).1; have hS : ∀ x, (H.set rb x)[rb]? = some x := fun x => List.getElem?_set_self hl
 have hV : ∀ x, (H.set rb x)[vb]? = some (.cells [.ptr rb 0]) := fun x => by rw [getset_ne hne, hv]
 obtain ⟨n, q, e⟩ : ∃ n q, numF s r = (n, q) := ⟨_, _, rfl⟩; simp (disch := omega) only [Tryz.ntmps26, c26, r26, hv, go_sem, seval, reduceCtorEq]; refine Cont.mk (numR_c h hs ha) ?_; rw [e]
 by_cases h0 : n < 0
 ·have ec : cntF s m r = (0, ⟨q.a, true⟩) := by rw [cntF, e, if_neg (by show ¬ (0 <= n /\ n <= m); omega)]
  simp (disch := omega) only [hV, decide_eq_true h0, go_sem, seval, reduceCtorEq]; refine Cont.mk (spoilR_c (r := q) (hS _)) ?_; simp (disch := omega) only [List.set_set, go_sem, seval, reduceCtorEq]; exact Ret.keep ⟨by rw [ec], by rw [ec]⟩
 ·by_cases h1 : n > m
  ·have ec : cntF s m r = (0, ⟨q.a, true⟩) := by rw [cntF, e, if_neg (by show ¬ (0 <= n /\ n <= m); omega)]
   simp (disch := omega) only [hV, decide_eq_false h0, decide_eq_true h1, go_sem, seval, reduceCtorEq]; refine Cont.mk (spoilR_c (r := q) (hS _)) ?_; simp (disch := omega) only [List.set_set, go_sem, seval, reduceCtorEq]; exact Ret.keep ⟨by rw [ec], by rw [ec]⟩
  ·have ec : cntF s m r = (n, q) := by rw [cntF, e, if_pos (by show 0 <= n /\ n <= m; omega)]
   simp (disch := omega) only [hV, decide_eq_false h0, decide_eq_false h1, go_sem, seval, reduceCtorEq]; exact Ret.keep ⟨by rw [ec], by rw [ec]⟩
theorem flgR_c {H : List ABlk} {rb vb : Nat} {s : ByteArray} {r : Rd} (hs : s.size <= 300000) (h : H[rb]? = some (rd s r.a r.bad)) (hv : H[vb]? = some (.cells [.ptr rb 0])) (hne : rb ≠ vb) (ha : r.a <= s.size) : ACalls Tryz.prog 54 [.ptr vb 0] H fun v H' => v = bv (flgF s r).1 /\ H' = H.set rb (rd s (flgF s r).2.a (flgF s r).2.bad) := by
 refine ACalls.into Tryz.func54 cc54 rr54 fun hcl => ?_
 have hl := (List.getElem?_eq_some_iff.1 h).1; have hS : ∀ x, (H.set rb x)[rb]? = some x := fun x => List.getElem?_set_self hl
 have hV : ∀ x, (H.set rb x)[vb]? = some (.cells [.ptr rb 0]) := fun x => by rw [getset_ne hne, hv]
 obtain ⟨n, q, e⟩ : ∃ n q, byteF s r = (n, q) := ⟨_, _, rfl⟩; simp (disch := omega) only [Tryz.ntmps54, c54, r54, hv, go_sem, seval, reduceCtorEq]; refine Cont.mk (byteR_c h hs ha) ?_; rw [e]
 by_cases h1 : n > 1
 ·have ec : flgF s r = (decide (n = 1), ⟨q.a, true⟩) := by rw [flgF, e]; simp only; rw [if_neg (by omega)]
  simp (disch := omega) only [hV, decide_eq_true h1, go_sem, seval, reduceCtorEq]; refine Cont.mk (spoilR_c (r := q) (hS _)) ?_; simp (disch := omega) only [List.set_set, go_sem, seval, reduceCtorEq]; exact Ret.keep ⟨by rw [ec]; show _ = bv (decide (n = 1)); rw [decide_eq_false (by omega)], by rw [ec]⟩
 ·have ec : flgF s r = (decide (n = 1), q) := by rw [flgF, e]; simp only; rw [if_pos (by omega)]
  simp (disch := omega) only [hV, decide_eq_false h1, go_sem, seval, reduceCtorEq]; exact Ret.keep ⟨by rw [ec], by rw [ec]⟩
theorem word01_c (n : Int) (h : fit32 n) (H : List ABlk) : ACalls Tryz.prog 55 [iv n] H fun v H' => v = wv (n % 4294967296) /\ H' = H := by
 refine ACalls.into Tryz.func55 cc55 rr55 fun hcl => ?_
 have h1 := h.1; have h2 := h.2; have et : n.tmod 4294967296 = n := by
  rcases (by omega : n < 0 \/ 0 <= n) with hn | hn
  ·rw [show n = -(-n) by omega, Int.neg_tmod, Int.tmod_eq_of_lt (by omega) (by omega)]
  ·exact Int.tmod_eq_of_lt hn (by omega)
 by_cases h0 : n < 0
 ·have e2 : IntKind.i64.wrap (n + 4294967296) = n + 4294967296 := w_i64 (by omega) (by omega)
  have e3 : IntKind.u32.wrap (n + 4294967296) = n % 4294967296 := by
   have : IntKind.u32.wrap (n + 4294967296) = (n + 4294967296) % 4294967296 := by simp [IntKind.wrap, IntKind.bits, IntKind.signed]
   rw [this]; omega
  simp (disch := omega) only [Tryz.ntmps55, c55, r55, et, decide_eq_true h0, e2, e3, go_sem, seval, reduceCtorEq]; exact Ret.keep ⟨rfl, rfl⟩
 ·have e3 : IntKind.u32.wrap n = n % 4294967296 := by simp [IntKind.wrap, IntKind.bits, IntKind.signed]
  simp (disch := omega) only [Tryz.ntmps55, c55, r55, et, decide_eq_false h0, e3, go_sem, seval, reduceCtorEq]; exact Ret.keep ⟨rfl, rfl⟩
theorem obj_c {s : ByteArray} (hs : s.size <= 300000) {rb vb : Nat} {r : Rd} {H : List ABlk} (her : H[rb]? = some (rd s r.a r.bad)) (hev : H[vb]? = some (.cells [.ptr rb 0])) (hne : rb ≠ vb) (le0 : r.a <= s.size) : ACalls Tryz.prog 29 [.ptr vb 0] H fun v H' => v = .agg ((obF s r).1.c.map .d) /\ H' = H.set rb (rd s (obF s r).2.a (obF s r).2.bad) := by
 refine ACalls.into Tryz.func29 cc29 rr29 fun hcl => ?_
 have l0 := (List.getElem?_eq_some_iff.1 her).1; have l0v := (List.getElem?_eq_some_iff.1 hev).1; have le1 := (byte_r s).le r le0; have ok1 := (byte_r s).ok r le0; obtain ⟨y1, q1, e1⟩ : ∃ y q, byteF s r = (y, q) := ⟨_, _, rfl⟩; rw [e1] at le1 ok1; simp only at le1 ok1; have le2 := (text_r s).le q1 le1; have ok2 := (text_r s).ok q1 le1; obtain ⟨y2, q2, e2⟩ : ∃ y q, textF s q1 = (y, q) := ⟨_, _, rfl⟩; rw [e2] at le2 ok2; simp only at le2 ok2; have le3 := (num_r s).le q2 le2; have ok3 := (num_r s).ok q2 le2; obtain ⟨y3, q3, e3⟩ : ∃ y q, numF s q2 = (y, q) := ⟨_, _, rfl⟩; rw [e3] at le3 ok3; simp only at le3 ok3; have le4 := (byte_r s).le q3 le3; have ok4 := (byte_r s).ok q3 le3; obtain ⟨y4, q4, e4⟩ : ∃ y q, byteF s q3 = (y, q) := ⟨_, _, rfl⟩; rw [e4] at le4 ok4; simp only at le4 ok4; have le5 := (num_r s).le q4 le4; have ok5 := (num_r s).ok q4 le4; obtain ⟨y5, q5, e5⟩ : ∃ y q, numF s q4 = (y, q) := ⟨_, _, rfl⟩; rw [e5] at le5 ok5; simp only at le5 ok5; have le6 := (text_r s).le q5 le5; have ok6 := (text_r s).ok q5 le5; obtain ⟨y6, q6, e6⟩ : ∃ y q, textF s q5 = (y, q) := ⟨_, _, rfl⟩; rw [e6] at le6 ok6; simp only at le6 ok6; have le7 := (num_r s).le q6 le6; have ok7 := (num_r s).ok q6 le6; obtain ⟨y7, q7, e7⟩ : ∃ y q, numF s q6 = (y, q) := ⟨_, _, rfl⟩; rw [e7] at le7 ok7; simp only at le7 ok7; have ep : obF s r = ((⟨y1, y2, y3, ⟨y4, numR y4 y5, y6⟩, y7⟩ : Ob), q7) := by simp only [obF, bnd, mp, e1, e2, e3, e4, e5, e6, e7]
 rw [ep]; clear ep; obtain ⟨B, hB⟩ : ∃ B, H.set rb (rd s q1.a q1.bad) ++ [.cells [kz, (.d (.v (.string ⟨#[]⟩))), kz, kz, kz, (.d (.v (.string ⟨#[]⟩))), kz], .cells [iv y1, (.d (.v (.string ⟨#[]⟩))), kz, kz, kz, (.d (.v (.string ⟨#[]⟩))), kz]] = B := ⟨_, rfl⟩; have lH : (H.set rb (rd s q1.a q1.bad)).length = H.length := List.length_set; have lB : B.length = H.length + 2 := by rw [<- hB]; simp
 have hv : B[vb]? = some (.cells [.ptr rb 0]) := by rw [<- hB, List.getElem?_append_left (by omega), getset_ne hne, hev]
 have hz : B[H.length]? = some (.cells [kz, (.d (.v (.string ⟨#[]⟩))), kz, kz, kz, (.d (.v (.string ⟨#[]⟩))), kz]) := by rw [<- hB, List.getElem?_append_right (by omega), lH, Nat.sub_self]; rfl
 have ht : B[H.length + 1]? = some (.cells [iv y1, (.d (.v (.string ⟨#[]⟩))), kz, kz, kz, (.d (.v (.string ⟨#[]⟩))), kz]) := by rw [<- hB, List.getElem?_append_right (by omega), lH, Nat.add_sub_cancel_left]; rfl
 have hr : B[rb]? = some (rd s q1.a q1.bad) := by rw [<- hB, List.getElem?_append_left (by omega), List.getElem?_set_self l0]
 have hbl : ∀ c, c < H.length -> c ≠ rb -> B[c]? = H[c]? := fun c hc hn => by rw [<- hB, List.getElem?_append_left (by omega), getset_ne (Ne.symm hn)]
 have l1 : rb < B.length := by omega
 have l2 : vb < B.length := by omega
 have l3 : H.length + 1 < B.length := by omega
 have d1 : rb ≠ vb := hne; have d2 : rb ≠ H.length + 1 := by omega
 have d3 : vb ≠ H.length + 1 := by omega
 have hE : HP B s rb (H.length + 1) (B.length + 5) q1 [iv y1, (.d (.v (.string ⟨#[]⟩))), kz, kz, kz, (.d (.v (.string ⟨#[]⟩))), kz] .dead [] = B := hp_self hr ht (.inr (by omega)); have hev2 : ∀ l : List ABlk, (H ++ l)[vb]? = some (.cells [.ptr rb 0]) := fun l => by rw [List.getElem?_append_left l0v, hev]
 simp (disch := omega) only [Tryz.ntmps29, c29, r29, hev2, go_sem, seval, reduceCtorEq]; refine Cont.mk (byteR_c (r := r) (by rw [List.getElem?_append_left l0, her]) hs le0) ?_; rw [e1]; have hq : ∀ (X a b : ABlk), (H.set rb X ++ [a, b])[H.length + 1]? = some b := fun X a b => by rw [List.getElem?_append_right (by rw [List.length_set]; omega), List.length_set, Nat.add_sub_cancel_left]; rfl
 have hq2 : ∀ (X a b d : ABlk), (H.set rb X ++ [a, b]).set (H.length + 1) d = H.set rb X ++ [a, d] := fun X a b d => by rw [List.set_append_right _ _ (by rw [List.length_set]; omega), List.length_set, Nat.add_sub_cancel_left]; rfl
 simp (disch := omega) only [List.set_append_left _ _ l0, hq, hq2, hB, hv, go_sem, seval, reduceCtorEq]; rw [<- hE]; refine Cont.mk (textR_c (hp_r l1 d2 (by omega)) hs le1) ?_; rw [e2]; simp (disch := omega) only [hv, go_sem, seval, reduceCtorEq]; refine Cont.mk (numR_c (hp_r l1 d2 (by omega)) hs le2) ?_; rw [e3]; simp (disch := omega) only [hv, go_sem, seval, reduceCtorEq]; refine Cont.mk (byteR_c (hp_r l1 d2 (by omega)) hs le3) ?_; rw [e4]; simp (disch := omega) only [hv, go_sem, seval, reduceCtorEq]; refine Cont.mk (numR_c (hp_r l1 d2 (by omega)) hs le4) ?_; rw [e5]
 by_cases h4 : y4 = 4
 ·have eR : IntKind.i64.wrap (y5 % 4294967296) = numR y4 y5 := by rw [numR, if_pos h4, w_i64 (by omega) (by omega)]
  simp (disch := omega) only [hv, decide_eq_true h4, go_sem, seval, reduceCtorEq]; refine Cont.mk (word01_c y5 ok5 _) ?_; simp (disch := omega) only [hv, eR, go_sem, seval, reduceCtorEq]; refine Cont.mk (textR_c (hp_r l1 d2 (by omega)) hs le5) ?_; rw [e6]; simp (disch := omega) only [hv, go_sem, seval, reduceCtorEq]; refine Cont.mk (numR_c (hp_r l1 d2 (by omega)) hs le6) ?_; rw [e7]; have hlo : ∀ (cs : List AV) c, c < H.length + 1 -> c ≠ rb -> (HP B s rb (H.length + 1) (B.length + 5) q7 cs .dead [])[c]? = B[c]? := fun cs c hc hn => hp_lo (by omega) hn (by omega) (by omega)
  have hlz : ∀ (cs : List AV), (HP B s rb (H.length + 1) (B.length + 5) q7 cs .dead [])[H.length]? = some (.cells [kz, (.d (.v (.string ⟨#[]⟩))), kz, kz, kz, (.d (.v (.string ⟨#[]⟩))), kz]) := fun cs => by rw [hlo cs _ (by omega) (by omega), hz]
  have hsz : ∀ (cs : List AV) X, ((HP B s rb (H.length + 1) (B.length + 5) q7 cs .dead []).set H.length X)[H.length]? = some X := fun cs X => List.getElem?_set_self (by rw [hp_len0]; omega)
  simp (disch := omega) only [hv, hlz, hsz, go_sem, seval, reduceCtorEq]; refine Ret.pre _ (H.set rb (rd s q7.a q7.bad)) (pre_out1 fun c hc => ?_) (by rw [List.length_set]; exact Nat.le_refl _) (cl.set0 hcl rfl) (.rfl _) (by simp [refs, refs.refsL]) ⟨by rfl, by rfl⟩; rw [List.length_set] at hc; rw [getset_ne (by omega)]
  by_cases hcr : c = rb
  ·subst hcr
   rw [hp_r l1 d2 (by omega), List.getElem?_set_self l0]
  ·rw [getset_ne (Ne.symm hcr), hlo _ c (by omega) hcr, hbl c hc hcr]
 ·have eR : numR y4 y5 = y5 := by rw [numR, if_neg h4]
  rw [eR]; simp (disch := omega) only [hv, decide_eq_false h4, go_sem, seval, reduceCtorEq]; refine Cont.mk (textR_c (hp_r l1 d2 (by omega)) hs le5) ?_; rw [e6]; simp (disch := omega) only [hv, go_sem, seval, reduceCtorEq]; refine Cont.mk (numR_c (hp_r l1 d2 (by omega)) hs le6) ?_; rw [e7]; have hlo : ∀ (cs : List AV) c, c < H.length + 1 -> c ≠ rb -> (HP B s rb (H.length + 1) (B.length + 5) q7 cs .dead [])[c]? = B[c]? := fun cs c hc hn => hp_lo (by omega) hn (by omega) (by omega)
  have hlz : ∀ (cs : List AV), (HP B s rb (H.length + 1) (B.length + 5) q7 cs .dead [])[H.length]? = some (.cells [kz, (.d (.v (.string ⟨#[]⟩))), kz, kz, kz, (.d (.v (.string ⟨#[]⟩))), kz]) := fun cs => by rw [hlo cs _ (by omega) (by omega), hz]
  have hsz : ∀ (cs : List AV) X, ((HP B s rb (H.length + 1) (B.length + 5) q7 cs .dead []).set H.length X)[H.length]? = some X := fun cs X => List.getElem?_set_self (by rw [hp_len0]; omega)
  simp (disch := omega) only [hv, hlz, hsz, go_sem, seval, reduceCtorEq]; refine Ret.pre _ (H.set rb (rd s q7.a q7.bad)) (pre_out1 fun c hc => ?_) (by rw [List.length_set]; exact Nat.le_refl _) (cl.set0 hcl rfl) (.rfl _) (by simp [refs, refs.refsL]) ⟨by rfl, by rfl⟩; rw [List.length_set] at hc; rw [getset_ne (by omega)]
  by_cases hcr : c = rb
  ·subst hcr
   rw [hp_r l1 d2 (by omega), List.getElem?_set_self l0]
  ·rw [getset_ne (Ne.symm hcr), hlo _ c (by omega) hcr, hbl c hc hcr]
def c28l0 : AC :=
 .seq (sr [im 95 t7, im 96 t4, ib 97 .lss t95 t96, im 98 t97, ky 99 98 (.mv t0), ky 100 98 (.nc t99), ky 101 98 (.fa t100 0), ky 102 98 (.ld t101 1 false), ky 103 98 (.call 27 [t102]), ky 104 98 (.un .not t103), kn 105 (.pick t98 t104 kF)]
 (.cond t105 (.skip) (.exit 2)))
 (.seq (.block 3 (sr [im 108 t0, ic 109 54 [t108], kn 110 (.bd [(.d (.v (.bool false))), kz] [(0, 1, t109)]), kn 8 (.al [(.d (.v (.bool false))), kz]), ke (.st t8 t110 2)]
 (sr [im 111 t0, iv0 112 t111, ia 113 t112 0, il 114 t113, ic 115 51 [t114], ia 116 t8 1, ke (.st t116 t115 1)]
 (.reg [ia 117 t3 7, il 118 t117, kn 119 (.ld t8 2 true), kn 120 (.bs .im 88 2 [t119]), kn 121 (.app .gr 88 2 16 t118 t120), ia 122 t3 7, ke (.st t122 t121 1)]))))
 (.reg [im 106 t7, ib 107 .add t106 (kc 1), im 7 t107]))
def c28l1 : AC :=
 .seq (sr [im 59 t5, im 60 t4, ib 61 .lss t59 t60, im 62 t61, ky 63 62 (.mv t0), ky 64 62 (.nc t63), ky 65 62 (.fa t64 0), ky 66 62 (.ld t65 1 false), ky 67 62 (.call 27 [t66]), ky 68 62 (.un .not t67), kn 69 (.pick t62 t68 kF)]
 (.cond t69 (.skip) (.exit 0)))
 (.seq (.block 1 (sr [im 72 t0, iv0 73 t72, ia 74 t73 0, il 75 t74, ic 76 24 [t75], kn 77 (.bd [ks, (.d (.v (.bool false))), kz] [(0, 1, t76)]), kn 6 (.al [ks, (.d (.v (.bool false))), kz]), ke (.st t6 t77 3)]
 (sr [im 78 t0, ic 79 54 [t78], ia 80 t6 1, ke (.st t80 t79 1)]
 (sr [im 81 t0, iv0 82 t81, ia 83 t82 0, il 84 t83, ic 85 51 [t84], ia 86 t6 2, ke (.st t86 t85 1)]
 (.reg [ia 87 t3 6, il 88 t87, kn 89 (.ld t6 3 true), kn 90 (.bs .im 86 3 [t89]), kn 91 (.app .gr 86 3 32 t88 t90), ia 92 t3 6, ke (.st t92 t91 1)])))))
 (.reg [im 70 t5, ib 71 .add t70 (kc 1), im 5 t71]))
def c28 : AC :=
 sr [kn 2 (.al [kz, ks, ks, kz, kz, kz, .esl, .esl, kz, kz])]
 (sr [im 9 t0, iv0 10 t9, ia 11 t10 0, il 12 t11, ic 13 53 [t12], kn 14 (.bd [kz, ks, ks, kz, kz, kz, .esl, .esl, kz, kz] [(0, 1, t13)]), kn 3 (.al [kz, ks, ks, kz, kz, kz, .esl, .esl, kz, kz]), ke (.st t3 t14 10)]
 (sr [im 15 t0, iv0 16 t15, ia 17 t16 0, il 18 t17, ic 19 24 [t18], ia 20 t3 1, ke (.st t20 t19 1)]
 (sr [im 21 t0, iv0 22 t21, ia 23 t22 0, il 24 t23, ic 25 24 [t24], ia 26 t3 2, ke (.st t26 t25 1)]
 (sr [im 27 t0, iv0 28 t27, ia 29 t28 0, il 30 t29, ic 31 51 [t30], ia 32 t3 3, ke (.st t32 t31 1)]
 (sr [im 33 t0, iv0 34 t33, ia 35 t34 0, il 36 t35, ic 37 51 [t36], ia 38 t3 4, ke (.st t38 t37 1)]
 (sr [im 39 t0, iv0 40 t39, ia 41 t40 0, il 42 t41, ic 43 51 [t42], ia 44 t3 5, ke (.st t44 t43 1)]
 (sr [im 45 t0, iv0 46 t45, ia 47 t46 0, il 48 t47, ic 49 51 [t48], ia 50 t3 8, ke (.st t50 t49 1)]
 (sr [im 51 t0, iv0 52 t51, ia 53 t52 0, il 54 t53, ic 55 51 [t54], ia 56 t3 9, ke (.st t56 t55 1)]
 (sr [im 57 t0, ic 58 26 [t57, (kc 64)], im 4 t58]
 (.seq (sr [im 5 (kc 0)]
 (.block 0 (.loop c28l1)))
 (sr [im 93 t0, ic 94 26 [t93, (kc 64)], im 4 t94]
 (.seq (sr [im 7 (kc 0)]
 (.block 2 (.loop c28l0)))
 (sr [kn 123 (.ld t3 10 true), ke (.st t2 t123 10)]
 (.ret))))))))))))))
def r28 : List RC := [.c 2 10 true]
theorem cc28 : cK Tryz.f28 (hhY 28) c28 := by unfold cK; kernel_rfl
theorem rr28 : resC Tryz.prog Tryz.f28 = some r28 := by kernel_rfl
structure EL (α : Type) where
 i : Nat
 H : List ABlk
 r : Rd
 x : AV
 l : List α
theorem typR2_c {s : ByteArray} (hs : s.size <= 300000) {rb vb : Nat} {r : Rd} {H : List ABlk} (her : H[rb]? = some (rd s r.a r.bad)) (hev : H[vb]? = some (.cells [.ptr rb 0])) (hne : rb ≠ vb) (le0 : r.a <= s.size) : ACalls Tryz.prog 28 [.ptr vb 0] H fun v H' => v = (rtyF s r).1.av /\ H' = H.set rb (rd s (rtyF s r).2.a (rtyF s r).2.bad) := by
 refine ACalls.enter Tryz.func28 cc28 rr28 fun hcl => ?_
 have l0 := (List.getElem?_eq_some_iff.1 her).1; have l0v := (List.getElem?_eq_some_iff.1 hev).1; have le1 := (byte_r s).le r le0; obtain ⟨y1, q1, e1⟩ : ∃ y q, byteF s r = (y, q) := ⟨_, _, rfl⟩; rw [e1] at le1; simp only at le1; have le2 := (text_r s).le q1 le1; obtain ⟨y2, q2, e2⟩ : ∃ y q, textF s q1 = (y, q) := ⟨_, _, rfl⟩; rw [e2] at le2; simp only at le2; have le3 := (text_r s).le q2 le2; obtain ⟨y3, q3, e3⟩ : ∃ y q, textF s q2 = (y, q) := ⟨_, _, rfl⟩; rw [e3] at le3; simp only at le3; have le4 := (num_r s).le q3 le3; obtain ⟨y4, q4, e4⟩ : ∃ y q, numF s q3 = (y, q) := ⟨_, _, rfl⟩; rw [e4] at le4; simp only at le4; have le5 := (num_r s).le q4 le4; obtain ⟨y5, q5, e5⟩ : ∃ y q, numF s q4 = (y, q) := ⟨_, _, rfl⟩; rw [e5] at le5; simp only at le5; have le6 := (num_r s).le q5 le5; obtain ⟨y6, q6, e6⟩ : ∃ y q, numF s q5 = (y, q) := ⟨_, _, rfl⟩; rw [e6] at le6; simp only at le6; have le7 := (num_r s).le q6 le6; obtain ⟨y7, q7, e7⟩ : ∃ y q, numF s q6 = (y, q) := ⟨_, _, rfl⟩; rw [e7] at le7; simp only at le7; have le8 := (num_r s).le q7 le7; obtain ⟨y8, q8, e8⟩ : ∃ y q, numF s q7 = (y, q) := ⟨_, _, rfl⟩; rw [e8] at le8; simp only at le8; have lc9 := (cnt_r s (m := 64) (by decide)).le q8 le8; have oc9 := (cnt_r s (m := 64) (by decide)).ok q8 le8; obtain ⟨n9, p9, ec9⟩ : ∃ y q, cntF s 64 q8 = (y, q) := ⟨_, _, rfl⟩; rw [ec9] at lc9 oc9; simp only at lc9 oc9; have le9 := (loop_r (rfd_r s) n9.toNat).le p9 lc9; obtain ⟨y9, q9, e9⟩ : ∃ y q, loopL (rfdF s) n9.toNat p9 = (y, q) := ⟨_, _, rfl⟩; rw [e9] at le9; simp only at le9; have lc10 := (cnt_r s (m := 64) (by decide)).le q9 le9; have oc10 := (cnt_r s (m := 64) (by decide)).ok q9 le9; obtain ⟨n10, p10, ec10⟩ : ∃ y q, cntF s 64 q9 = (y, q) := ⟨_, _, rfl⟩; rw [ec10] at lc10 oc10; simp only at lc10 oc10; have le10 := (loop_r (rpm_r s) n10.toNat).le p10 lc10; obtain ⟨y10, q10, e10⟩ : ∃ y q, loopL (rpmF s) n10.toNat p10 = (y, q) := ⟨_, _, rfl⟩; rw [e10] at le10; simp only at le10; have ep : rtyF s r = ((⟨y1, y2, y3, y4, y5, y6, y9, y10, y7, y8⟩ : Ty), q10) := by simp only [rtyF, rlF, bnd, mp, e1, e2, e3, e4, e5, e6, e7, e8, e9, e10, ec9, ec10]
 rw [ep]; clear ep; obtain ⟨B, hB⟩ : ∃ B, H.set rb (rd s q1.a q1.bad) ++ [.cells [kz, (.d (.v (.string ⟨#[]⟩))), (.d (.v (.string ⟨#[]⟩))), kz, kz, kz, .esl, .esl, kz, kz], .cells [iv y1, (.d (.v (.string ⟨#[]⟩))), (.d (.v (.string ⟨#[]⟩))), kz, kz, kz, .esl, .esl, kz, kz]] = B := ⟨_, rfl⟩; have lH : (H.set rb (rd s q1.a q1.bad)).length = H.length := List.length_set; have lB : B.length = H.length + 2 := by rw [<- hB]; simp
 have hv : B[vb]? = some (.cells [.ptr rb 0]) := by rw [<- hB, List.getElem?_append_left (by omega), getset_ne hne, hev]
 have hz : B[H.length]? = some (.cells [kz, (.d (.v (.string ⟨#[]⟩))), (.d (.v (.string ⟨#[]⟩))), kz, kz, kz, .esl, .esl, kz, kz]) := by rw [<- hB, List.getElem?_append_right (by omega), lH, Nat.sub_self]; rfl
 have ht : B[(H.length + 1)]? = some (.cells [iv y1, (.d (.v (.string ⟨#[]⟩))), (.d (.v (.string ⟨#[]⟩))), kz, kz, kz, .esl, .esl, kz, kz]) := by rw [<- hB, List.getElem?_append_right (by omega), lH, Nat.add_sub_cancel_left]; rfl
 have hr : B[rb]? = some (rd s q1.a q1.bad) := by rw [<- hB, List.getElem?_append_left (by omega), List.getElem?_set_self l0]
 have hbl : ∀ c, c < H.length -> c ≠ rb -> B[c]? = H[c]? := fun c hc hn => by rw [<- hB, List.getElem?_append_left (by omega), getset_ne (Ne.symm hn)]
 have l1 : rb < B.length := by omega
 have l2 : vb < B.length := by omega
 have l3 : (H.length + 1) < B.length := by omega
 have d1 : rb ≠ vb := hne; have d2 : rb ≠ (H.length + 1) := by omega
 have d3 : vb ≠ (H.length + 1) := by omega
 have hE : HP B s rb (H.length + 1) (B.length + 5) q1 [iv y1, (.d (.v (.string ⟨#[]⟩))), (.d (.v (.string ⟨#[]⟩))), kz, kz, kz, .esl, .esl, kz, kz] .dead [] = B := hp_self hr ht (.inr (by omega)); have hev2 : ∀ l : List ABlk, (H ++ l)[vb]? = some (.cells [.ptr rb 0]) := fun l => by rw [List.getElem?_append_left l0v, hev]
 have hq : ∀ (X a b : ABlk), (H.set rb X ++ [a, b])[(H.length + 1)]? = some b := fun X a b => by rw [List.getElem?_append_right (by rw [List.length_set]; omega), List.length_set, Nat.add_sub_cancel_left]; rfl
 have hq2 : ∀ (X a b d : ABlk), (H.set rb X ++ [a, b]).set (H.length + 1) d = H.set rb X ++ [a, d] := fun X a b d => by rw [List.set_append_right _ _ (by rw [List.length_set]; omega), List.length_set, Nat.add_sub_cancel_left]; rfl
 simp only [Tryz.ntmps28, c28, r28]; refine W.seq_reg ?_; simp (disch := omega) only [go_sem, seval, reduceCtorEq]; refine W.seq_reg ?_; simp (disch := omega) only [hev2, go_sem, seval, reduceCtorEq]; refine Cont.mk (byteR_c (r := r) (by rw [List.getElem?_append_left l0, her]) hs le0) ?_; rw [e1]; simp (disch := omega) only [List.set_append_left _ _ l0, hq, hq2, hB, hv, go_sem, seval, reduceCtorEq]; rw [<- hE]; refine W.seq_reg ?_; simp (disch := omega) only [hv, go_sem, seval, reduceCtorEq]; refine Cont.mk (textR_c (hp_r l1 d2 (by omega)) hs le1) ?_; rw [e2]; simp (disch := omega) only [hv, go_sem, seval, reduceCtorEq]; refine W.seq_reg ?_; simp (disch := omega) only [hv, go_sem, seval, reduceCtorEq]; refine Cont.mk (textR_c (hp_r l1 d2 (by omega)) hs le2) ?_; rw [e3]; simp (disch := omega) only [hv, go_sem, seval, reduceCtorEq]; refine W.seq_reg ?_; simp (disch := omega) only [hv, go_sem, seval, reduceCtorEq]; refine Cont.mk (numR_c (hp_r l1 d2 (by omega)) hs le3) ?_; rw [e4]; simp (disch := omega) only [hv, go_sem, seval, reduceCtorEq]; refine W.seq_reg ?_; simp (disch := omega) only [hv, go_sem, seval, reduceCtorEq]; refine Cont.mk (numR_c (hp_r l1 d2 (by omega)) hs le4) ?_; rw [e5]; simp (disch := omega) only [hv, go_sem, seval, reduceCtorEq]; refine W.seq_reg ?_; simp (disch := omega) only [hv, go_sem, seval, reduceCtorEq]; refine Cont.mk (numR_c (hp_r l1 d2 (by omega)) hs le5) ?_; rw [e6]; simp (disch := omega) only [hv, go_sem, seval, reduceCtorEq]; refine W.seq_reg ?_; simp (disch := omega) only [hv, go_sem, seval, reduceCtorEq]; refine Cont.mk (numR_c (hp_r l1 d2 (by omega)) hs le6) ?_; rw [e7]; simp (disch := omega) only [hv, go_sem, seval, reduceCtorEq]; refine W.seq_reg ?_; simp (disch := omega) only [hv, go_sem, seval, reduceCtorEq]; refine Cont.mk (numR_c (hp_r l1 d2 (by omega)) hs le7) ?_; rw [e8]; simp (disch := omega) only [hv, go_sem, seval, reduceCtorEq]; refine W.seq_reg ?_; simp (disch := omega) only [hv, go_sem, seval, reduceCtorEq]; refine Cont.mk (count_c hs (hp_r l1 d2 (by omega)) ((hp_lo l2 (by omega) (by omega) (by omega)).trans hv) hne le8 64) ?_; rw [ec9]; simp (disch := omega) only [hv, go_sem, seval, reduceCtorEq]; have hp0 : ∀ c, c < H.length -> c ≠ rb -> (HP B s rb (H.length + 1) (B.length + 5) p9 [iv y1, sv y2, sv y3, iv y4, iv y5, iv y6, .esl, .esl, iv y7, iv y8] .dead [])[c]? = H[c]? := fun c hc hn => by rw [hp_lo (by omega) hn (by omega) (by omega), hbl c hc hn]
 have hpz : (HP B s rb (H.length + 1) (B.length + 5) p9 [iv y1, sv y2, sv y3, iv y4, iv y5, iv y6, .esl, .esl, iv y7, iv y8] .dead [])[H.length]? = some (.cells [kz, (.d (.v (.string ⟨#[]⟩))), (.d (.v (.string ⟨#[]⟩))), kz, kz, kz, .esl, .esl, kz, kz]) := by rw [hp_lo (by omega) (by omega) (by omega) (by omega), hz]
 have hg1 : GS s rb vb (H.length + 1) (fun x => [iv y1, sv y2, sv y3, iv y4, iv y5, iv y6, x, .esl, iv y7, iv y8]) Fd.c 86 3 (HP B s rb (H.length + 1) (B.length + 5) p9 [iv y1, sv y2, sv y3, iv y4, iv y5, iv y6, .esl, .esl, iv y7, iv y8] .dead []) p9 .esl [] :=
  ⟨hp_r l1 d2 (by omega), (hp_lo l2 (by omega) (by omega) (by omega)).trans hv, hp_t l3 (by omega), .inl ⟨rfl, rfl⟩, d1, d2, d3, lc9, fun _ => Nat.zero_le _⟩
 have lG : (HP B s rb (H.length + 1) (B.length + 5) p9 [iv y1, sv y2, sv y3, iv y4, iv y5, iv y6, .esl, .esl, iv y7, iv y8] .dead []).length = H.length + 2 := by rw [hp_len0, lB]
 obtain ⟨G0, hG0⟩ : ∃ G0, (HP B s rb (H.length + 1) (B.length + 5) p9 [iv y1, sv y2, sv y3, iv y4, iv y5, iv y6, .esl, .esl, iv y7, iv y8] .dead []) = G0 := ⟨_, rfl⟩; rw [hG0] at hg1 hp0 hpz lG ⊢; obtain ⟨SX, hSX⟩ : ∃ SX : List AV, SX = [.ptr vb 0, .any, .ptr H.length 0, .ptr (H.length + 1) 0] ++ List.replicate 120 .any := ⟨_, rfl⟩; refine W.cut (fun s' H' => s' = SX /\ ∃ x, GS s rb vb (H.length + 1) (fun x => [iv y1, sv y2, sv y3, iv y4, iv y5, iv y6, x, .esl, iv y7, iv y8]) Fd.c 86 3 H' q9 x y9 /\ Chg G0 (GF rb (H.length + 1) .esl) H' (GF rb (H.length + 1) x)) (wpA.W ?_) ?_
 ·simp (disch := omega) only [go_sem, seval, reduceCtorEq]
  obtain ⟨S1, hS1⟩ : ∃ S1 : EL Fd -> List AV, ∀ g, S1 g = [.ptr vb 0, .any, .ptr H.length 0, .ptr (H.length + 1) 0, iv n9, iv g.i] ++ List.replicate 118 .any := ⟨_, fun _ => rfl⟩; refine W.loopG (γ := EL Fd) (fun g => n9.toNat - g.i) S1 (fun g => g.H) (fun g => g.i <= n9.toNat /\ GS s rb vb (H.length + 1) (fun x => [iv y1, sv y2, sv y3, iv y4, iv y5, iv y6, x, .esl, iv y7, iv y8]) Fd.c 86 3 g.H g.r g.x g.l /\ Chg G0 (GF rb (H.length + 1) .esl) g.H (GF rb (H.length + 1) g.x) /\ g.l ++ (loopL (rfdF s) (n9.toNat - g.i) g.r).1 = y9 /\ (loopL (rfdF s) (n9.toNat - g.i) g.r).2 = q9) ⟨0, G0, p9, .esl, []⟩ (Wk.slots (WkL.tw 6 (hS1 _))) ⟨Nat.zero_le _, hg1, .rfl', by show [] ++ (loopL (rfdF s) (n9.toNat - 0) p9).1 = y9; rw [Nat.sub_zero, e9]; try rfl, by show (loopL (rfdF s) (n9.toNat - 0) p9).2 = q9; rw [Nat.sub_zero, e9]⟩ (fun g hg => ?_); obtain ⟨i, G, p, y, m⟩ := g; obtain ⟨hi, k2, k3, k4, k5⟩ := hg; simp only at hi k2 k3 k4 k5; have gv := k2.ev; have kr := k2.er
  by_cases hin : i < n9.toNat
  ·have hc1 : (i : Int) < n9 := by omega
   cases hb : p.bad with
   | true =>
    rw [hb] at kr; rw [loopL_bad _ _ hb] at k4 k5; simp (disch := omega) only [hS1, c28l1, decide_eq_true hc1, gv, go_sem, seval, reduceCtorEq]; refine Cont.mk (badR_c (r := ⟨p.a, true⟩) kr) ?_; simp (disch := omega) only [go_sem, seval, reduceCtorEq]; rw [List.append_nil] at k4; have k5 : p = q9 := k5; have k4 : m = y9 := k4; exact ⟨SX, G, Wk.slots (WkL.tw 4 hSX), rfl, y, by rw [<- k4, <- k5]; exact k2, k3⟩
   | false =>
    have hsub : n9.toNat - i = (n9.toNat - (i + 1)) + 1 := by omega
    rw [hsub, loopL, if_neg (by rw [hb]; simp)] at k4 k5; have k5 : (loopL (rfdF s) (n9.toNat - (i + 1)) (rfdF s p).2).2 = q9 := k5; have k4 : m ++ ((rfdF s p).1 :: (loopL (rfdF s) (n9.toNat - (i + 1)) (rfdF s p).2).1) = y9 := k4; rw [show m ++ ((rfdF s p).1 :: (loopL (rfdF s) (n9.toNat - (i + 1)) (rfdF s p).2).1) = (m ++ [(rfdF s p).1]) ++ (loopL (rfdF s) (n9.toNat - (i + 1)) (rfdF s p).2).1 by rw [List.append_assoc]; rfl] at k4; have kr2 := kr; rw [hb] at kr2; have pm := k2.m hb; have hw : IntKind.i64.wrap ((i : Int) + 1) = ((i + 1 : Nat) : Int) := by rw [w_i64 (by omega) (by omega)]; rfl
    simp (disch := omega) only [hS1, c28l1, decide_eq_true hc1, gv, go_sem, seval, reduceCtorEq]; refine Cont.mk (badR_c (r := ⟨p.a, false⟩) kr2) ?_; simp (disch := omega) only [gv, go_sem, seval, reduceCtorEq]; obtain ⟨t1, t2, t3⟩ := k2.lt; have dd1 := k2.d1; have dd2 := k2.d2; have dd3 := k2.d3; have f0 := k2.le; have f1 := (text_r s).le p f0; obtain ⟨u1, v1, g1⟩ : ∃ y q, textF s p = (y, q) := ⟨_, _, rfl⟩; rw [g1] at f1; simp only at f1; have f2 := (flg_r s).le v1 f1; obtain ⟨u2, v2, g2⟩ : ∃ y q, flgF s v1 = (y, q) := ⟨_, _, rfl⟩; rw [g2] at f2; simp only at f2; have f3 := (num_r s).le v2 f2; obtain ⟨u3, v3, g3⟩ : ∃ y q, numF s v2 = (y, q) := ⟨_, _, rfl⟩; rw [g3] at f3; simp only at f3; have ew : rfdF s p = ((⟨u1, u2, u3⟩ : Fd), v3) := by simp only [rfdF, bnd, mp, g1, g2, g3]
    have mv : v3.bad = false -> p.bad = false /\ p.a < v3.a := fun hq => by
     have z1 := (rfd_r s).st p; have z2 := (rfd_r s).go p; rw [ew] at z1 z2; exact ⟨z1 hq, z2 hq⟩
    rw [ew] at k4 k5; simp only at k4 k5; rcases k2.g with ⟨rfl, rfl⟩ | ⟨b, rfl, g1', g2', g3', g4'⟩
    ·have hh := hp_self (s := s) (r := p) (k := .dead) (b := (G.length + 5)) k2.er k2.et (.inr (by omega))
     rw [<- hh]; refine Cont.mk (textR_c (hp_r t1 dd2 (by omega)) hs f0) ?_; rw [g1]; simp (disch := omega) only [gv, go_sem, seval, reduceCtorEq]; refine Cont.mk (flgR_c hs (hp_r t1 dd2 (by omega)) ((hp_v t2 (by omega) (by omega) (by omega)).trans gv) dd1 f1) ?_; rw [g2]; simp (disch := omega) only [gv, go_sem, seval, reduceCtorEq]; refine Cont.mk (numR_c (hp_r t1 dd2 (by omega)) hs f2) ?_; rw [g3]; simp (disch := omega) only [gv, hw, go_sem, seval, reduceCtorEq]; have hfin := k2.first (b := G.length + 5) (k := .dead) (y := (⟨u1, u2, u3⟩ : Fd)) (by omega) [.cells [sv u1, bv u2, iv u3]] f3 mv rfl; exact Nxt.mk ⟨i + 1, _, v3, _, [] ++ [(⟨u1, u2, u3⟩ : Fd)]⟩ (by show n9.toNat - (i + 1) < n9.toNat - i; omega) (Wk.slots (WkL.tw 6 (hS1 _))) ⟨by show i + 1 <= _; omega, hfin.1, k3.trans hfin.2, k4, k5⟩
    ·have hh := hp_self (s := s) (r := p) (k := (.row 86 3 m.length)) (b := b) k2.er k2.et (.inl g1')
     have l4 := (List.getElem?_eq_some_iff.1 g1').1; have hml : m.length <= 300000 := by omega
     have llm : (m.map Fd.c).length = m.length := lnm ..; rw [<- hh]; refine Cont.mk (textR_c (hp_r t1 dd2 (by omega)) hs f0) ?_; rw [g1]; simp (disch := omega) only [gv, go_sem, seval, reduceCtorEq]; refine Cont.mk (flgR_c hs (hp_r t1 dd2 (by omega)) ((hp_v t2 (by omega) (by omega) (by omega)).trans gv) dd1 f1) ?_; rw [g2]; simp (disch := omega) only [gv, go_sem, seval, reduceCtorEq]; refine Cont.mk (numR_c (hp_r t1 dd2 (by omega)) hs f2) ?_; rw [g3]; simp (disch := omega) only [gv, hw, llm, go_sem, seval, reduceCtorEq]; have hfin := k2.next (y := (⟨u1, u2, u3⟩ : Fd)) g1' g2' g3' g4' [.cells [sv u1, bv u2, iv u3]] f3 mv; rw [List.map_append] at hfin; exact Nxt.mk ⟨i + 1, _, v3, _, m ++ [(⟨u1, u2, u3⟩ : Fd)]⟩ (by show n9.toNat - (i + 1) < n9.toNat - i; omega) (Wk.slots (WkL.tw 6 (hS1 _))) ⟨by show i + 1 <= _; omega, hfin.1, k3.trans hfin.2, k4, k5⟩
  ·have hc1 : ¬ (i : Int) < n9 := by omega
   have hi0 : n9.toNat - i = 0 := by omega
   rw [hi0] at k4 k5; simp (disch := omega) only [hS1, c28l1, decide_eq_false hc1, go_sem, seval, reduceCtorEq]; have k4 : m ++ [] = y9 := k4; rw [List.append_nil] at k4; have k5 : p = q9 := k5; exact ⟨SX, G, Wk.slots (WkL.tw 4 hSX), rfl, y, by rw [<- k4, <- k5]; exact k2, k3⟩
 rintro s' G1 ⟨hs', x1, g1, k1⟩; rw [hs', hSX]; refine W.seq_reg ?_; have g1v := g1.ev; simp (disch := omega) only [g1v, go_sem, seval, reduceCtorEq]; refine Cont.mk (count_c hs g1.er g1.ev hne le9 64) ?_; rw [ec10]; simp (disch := omega) only [go_sem, seval, reduceCtorEq]; obtain ⟨j1, j2⟩ := g1.setR (q := p10) lc10 (fun hb => by
  have z1 := (cnt_r s (m := 64) (by decide)).on q9; have z2 := (cnt_r s (m := 64) (by decide)).st q9; rw [ec10] at z1 z2; exact Nat.le_trans (g1.m (z2 hb)) z1)
 have k1 := k1.trans j2; have hg2 : GS s rb vb (H.length + 1) (fun x => [iv y1, sv y2, sv y3, iv y4, iv y5, iv y6, x1, x, iv y7, iv y8]) Pm.c 88 2 (G1.set rb (rd s p10.a p10.bad)) p10 .esl [] := ⟨j1.er, j1.ev, j1.et, .inl ⟨rfl, rfl⟩, d1, d2, d3, lc10, fun _ => Nat.zero_le _⟩; obtain ⟨G2, hG2⟩ : ∃ G2, G1.set rb (rd s p10.a p10.bad) = G2 := ⟨_, rfl⟩; rw [hG2] at k1 hg2 ⊢; refine W.cut (fun s' H' => s' = SX /\ ∃ x, GS s rb vb (H.length + 1) (fun x => [iv y1, sv y2, sv y3, iv y4, iv y5, iv y6, x1, x, iv y7, iv y8]) Pm.c 88 2 H' q10 x y10 /\ Chg G2 (GF rb (H.length + 1) .esl) H' (GF rb (H.length + 1) x)) (wpA.W ?_) ?_
 ·simp (disch := omega) only [go_sem, seval, reduceCtorEq]
  obtain ⟨S2, hS2⟩ : ∃ S2 : EL Pm -> List AV, ∀ g, S2 g = [.ptr vb 0, .any, .ptr H.length 0, .ptr (H.length + 1) 0, iv n10, .any, .any, iv g.i] ++ List.replicate 116 .any := ⟨_, fun _ => rfl⟩; refine W.loopG (γ := EL Pm) (fun g => n10.toNat - g.i) S2 (fun g => g.H) (fun g => g.i <= n10.toNat /\ GS s rb vb (H.length + 1) (fun x => [iv y1, sv y2, sv y3, iv y4, iv y5, iv y6, x1, x, iv y7, iv y8]) Pm.c 88 2 g.H g.r g.x g.l /\ Chg G2 (GF rb (H.length + 1) .esl) g.H (GF rb (H.length + 1) g.x) /\ g.l ++ (loopL (rpmF s) (n10.toNat - g.i) g.r).1 = y10 /\ (loopL (rpmF s) (n10.toNat - g.i) g.r).2 = q10) ⟨0, G2, p10, .esl, []⟩ (Wk.slots (WkL.tw 8 (hS2 _))) ⟨Nat.zero_le _, hg2, .rfl', by show [] ++ (loopL (rpmF s) (n10.toNat - 0) p10).1 = y10; rw [Nat.sub_zero, e10]; try rfl, by show (loopL (rpmF s) (n10.toNat - 0) p10).2 = q10; rw [Nat.sub_zero, e10]⟩ (fun g hg => ?_); obtain ⟨i, G, p, y, m⟩ := g; obtain ⟨hi, k2, k3, k4, k5⟩ := hg; simp only at hi k2 k3 k4 k5; have gv := k2.ev; have kr := k2.er
  by_cases hin : i < n10.toNat
  ·have hc1 : (i : Int) < n10 := by omega
   cases hb : p.bad with
   | true =>
    rw [hb] at kr; rw [loopL_bad _ _ hb] at k4 k5; simp (disch := omega) only [hS2, c28l0, decide_eq_true hc1, gv, go_sem, seval, reduceCtorEq]; refine Cont.mk (badR_c (r := ⟨p.a, true⟩) kr) ?_; simp (disch := omega) only [go_sem, seval, reduceCtorEq]; rw [List.append_nil] at k4; have k5 : p = q10 := k5; have k4 : m = y10 := k4; exact ⟨SX, G, Wk.slots (WkL.tw 4 hSX), rfl, y, by rw [<- k4, <- k5]; exact k2, k3⟩
   | false =>
    have hsub : n10.toNat - i = (n10.toNat - (i + 1)) + 1 := by omega
    rw [hsub, loopL, if_neg (by rw [hb]; simp)] at k4 k5; have k5 : (loopL (rpmF s) (n10.toNat - (i + 1)) (rpmF s p).2).2 = q10 := k5; have k4 : m ++ ((rpmF s p).1 :: (loopL (rpmF s) (n10.toNat - (i + 1)) (rpmF s p).2).1) = y10 := k4; rw [show m ++ ((rpmF s p).1 :: (loopL (rpmF s) (n10.toNat - (i + 1)) (rpmF s p).2).1) = (m ++ [(rpmF s p).1]) ++ (loopL (rpmF s) (n10.toNat - (i + 1)) (rpmF s p).2).1 by rw [List.append_assoc]; rfl] at k4; have kr2 := kr; rw [hb] at kr2; have pm := k2.m hb; have hw : IntKind.i64.wrap ((i : Int) + 1) = ((i + 1 : Nat) : Int) := by rw [w_i64 (by omega) (by omega)]; rfl
    simp (disch := omega) only [hS2, c28l0, decide_eq_true hc1, gv, go_sem, seval, reduceCtorEq]; refine Cont.mk (badR_c (r := ⟨p.a, false⟩) kr2) ?_; simp (disch := omega) only [gv, go_sem, seval, reduceCtorEq]; obtain ⟨t1, t2, t3⟩ := k2.lt; have dd1 := k2.d1; have dd2 := k2.d2; have dd3 := k2.d3; have f0 := k2.le; have f1 := (flg_r s).le p f0; obtain ⟨u1, v1, g1⟩ : ∃ y q, flgF s p = (y, q) := ⟨_, _, rfl⟩; rw [g1] at f1; simp only at f1; have f2 := (num_r s).le v1 f1; obtain ⟨u2, v2, g2⟩ : ∃ y q, numF s v1 = (y, q) := ⟨_, _, rfl⟩; rw [g2] at f2; simp only at f2; have ew : rpmF s p = ((⟨u1, u2⟩ : Pm), v2) := by simp only [rpmF, bnd, mp, g1, g2]
    have mv : v2.bad = false -> p.bad = false /\ p.a < v2.a := fun hq => by
     have z1 := (rpm_r s).st p; have z2 := (rpm_r s).go p; rw [ew] at z1 z2; exact ⟨z1 hq, z2 hq⟩
    rw [ew] at k4 k5; simp only at k4 k5; rcases k2.g with ⟨rfl, rfl⟩ | ⟨b, rfl, g1', g2', g3', g4'⟩
    ·have hh := hp_self (s := s) (r := p) (k := .dead) (b := (G.length + 5)) k2.er k2.et (.inr (by omega))
     rw [<- hh]; refine Cont.mk (flgR_c hs (hp_r t1 dd2 (by omega)) ((hp_v t2 (by omega) (by omega) (by omega)).trans gv) dd1 f0) ?_; rw [g1]; simp (disch := omega) only [gv, go_sem, seval, reduceCtorEq]; refine Cont.mk (numR_c (hp_r t1 dd2 (by omega)) hs f1) ?_; rw [g2]; simp (disch := omega) only [gv, hw, go_sem, seval, reduceCtorEq]; have hfin := k2.first (b := G.length + 5) (k := .dead) (y := (⟨u1, u2⟩ : Pm)) (by omega) [.cells [bv u1, iv u2]] f2 mv rfl; exact Nxt.mk ⟨i + 1, _, v2, _, [] ++ [(⟨u1, u2⟩ : Pm)]⟩ (by show n10.toNat - (i + 1) < n10.toNat - i; omega) (Wk.slots (WkL.tw 8 (hS2 _))) ⟨by show i + 1 <= _; omega, hfin.1, k3.trans hfin.2, k4, k5⟩
    ·have hh := hp_self (s := s) (r := p) (k := (.row 88 2 m.length)) (b := b) k2.er k2.et (.inl g1')
     have l4 := (List.getElem?_eq_some_iff.1 g1').1; have hml : m.length <= 300000 := by omega
     have llm : (m.map Pm.c).length = m.length := lnm ..; rw [<- hh]; refine Cont.mk (flgR_c hs (hp_r t1 dd2 (by omega)) ((hp_v t2 (by omega) (by omega) (by omega)).trans gv) dd1 f0) ?_; rw [g1]; simp (disch := omega) only [gv, go_sem, seval, reduceCtorEq]; refine Cont.mk (numR_c (hp_r t1 dd2 (by omega)) hs f1) ?_; rw [g2]; simp (disch := omega) only [gv, hw, llm, go_sem, seval, reduceCtorEq]; have hfin := k2.next (y := (⟨u1, u2⟩ : Pm)) g1' g2' g3' g4' [.cells [bv u1, iv u2]] f2 mv; rw [List.map_append] at hfin; exact Nxt.mk ⟨i + 1, _, v2, _, m ++ [(⟨u1, u2⟩ : Pm)]⟩ (by show n10.toNat - (i + 1) < n10.toNat - i; omega) (Wk.slots (WkL.tw 8 (hS2 _))) ⟨by show i + 1 <= _; omega, hfin.1, k3.trans hfin.2, k4, k5⟩
  ·have hc1 : ¬ (i : Int) < n10 := by omega
   have hi0 : n10.toNat - i = 0 := by omega
   rw [hi0] at k4 k5; simp (disch := omega) only [hS2, c28l0, decide_eq_false hc1, go_sem, seval, reduceCtorEq]; have k4 : m ++ [] = y10 := k4; rw [List.append_nil] at k4; have k5 : p = q10 := k5; exact ⟨SX, G, Wk.slots (WkL.tw 4 hSX), rfl, y, by rw [<- k4, <- k5]; exact k2, k3⟩
 rintro s' G3 ⟨hs'', x2, g2, k2⟩; rw [hs'', hSX]; have g2t := g2.et; have o1 := g1.one; have o2 := g2.one
 try simp only [go_sem, seval, reduceCtorEq] at o1
 try simp only [go_sem, seval, reduceCtorEq] at o2
 have k1l := k1.len; have k2l := k2.len; rw [lG] at k1l; have low : ∀ c, c < H.length + 1 -> c ≠ rb -> G3[c]? = G0[c]? := fun c hc h1 => by
  rw [k2.out c (by omega) (by simp [GF, rowB]; omega), k1.out c (by rw [lG]; omega) (by simp [GF, rowB]; omega)]
 have g3z : G3[H.length]? = some (.cells [kz, (.d (.v (.string ⟨#[]⟩))), (.d (.v (.string ⟨#[]⟩))), kz, kz, kz, .esl, .esl, kz, kz]) := by rw [low _ (by omega) (by omega), hpz]
 have g3s : ∀ X, (G3.set H.length X)[H.length]? = some X := fun X => List.getElem?_set_self (by omega)
 refine W.seq_reg ?_; simp (disch := omega) only [g2t, g3z, o1, o2, Bool.and_self, go_sem, seval, reduceCtorEq]; refine wpA.W ?_; simp (disch := omega) only [g3s, go_sem, seval, reduceCtorEq]; refine Ret.pre (Ty.av ⟨y1, y2, y3, y4, y5, y6, y9, y10, y7, y8⟩) (H.set rb (rd s q10.a q10.bad)) (pre_out1 fun c hc => ?_) (by rw [List.length_set]; exact Nat.le_refl _) (cl.set0 hcl rfl) (Wk1.ofL ?_) (by simp [refs, refs.refsL, Ty.cs]) ⟨by rfl, by rfl⟩
 ·rw [List.length_set] at hc
  rw [getset_ne (by omega)]
  by_cases hcr : c = rb
  ·subst hcr
   rw [g2.er, List.getElem?_set_self l0]
  ·rw [getset_ne (Ne.symm hcr), low c (by omega) hcr, hp0 c hc hcr]
 ·exact .cons (.rfl _) (.cons (.rfl _) (.cons (.rfl _) (.cons (.rfl _) (.cons (.rfl _) (.cons (.rfl _) (.cons g1.wk (.cons g2.wk (.cons (.rfl _) (.cons (.rfl _) .nil)))))))))
end Go.Proofs.YthifjndenhjobaaGreat.Rid
