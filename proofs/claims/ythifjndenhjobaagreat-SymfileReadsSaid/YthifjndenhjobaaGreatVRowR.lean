/- The reference's Decode. Printed by genU5.py. -/
import Derived.Test.YthifjndenhjobaaGreatVU4
import Derived.Test.YthifjndenhjobaaGreatVD8
import Derived.Test.YthifjndenhjobaaGreatVQ2
import Derived.Test.YthifjndenhjobaaGreatVIA
import Derived.Test.YthifjndenhjobaaGreatVID
import Derived.Test.YthifjndenhjobaaGreatVRead
import Derived.Test.YthifjndenhjobaaGreatVCode
import Derived.Test.YthifjndenhjobaaGreatRows
set_option linter.unusedSectionVars false
set_option linter.unusedSimpArgs false
set_option linter.unusedVariables false
set_option maxHeartbeats 16000000
set_option maxRecDepth 20000
namespace Go.Proofs.YthifjndenhjobaaGreat.Rid
open Go.RowKit
def c6l0 : AC :=
 .seq (sr [im 99 t10, im 100 t6, ib 101 .lss t99 t100, im 102 t101, ky 103 102 (.mv t4), ky 104 102 (.nc t103), ky 105 102 (.fa t104 0), ky 106 102 (.ld t105 1 false), ky 107 102 (.call 27 [t106]), ky 108 102 (.un .not t107), kn 109 (.pick t102 t108 kF)]
 (.cond t109 (.skip) (.exit 4)))
 (.seq (.block 5 (.dreg [[], [0], [], [2], [3], [1, 4, 3], [0, 1, 2, 3, 4, 5], [6, 5, 5, 0, 1, 2, 3, 4, 5]] [ia 112 t5 4, il 113 t112, im 114 t4, ic 115 29 [t114], kn 116 (.bs .im 58 7 [t115]), kn 117 (.app .gr 58 7 72 t113 t116), ia 118 t5 4, ke (.st t118 t117 1)]))
 (.reg [im 110 t10, ib 111 .add t110 (kc 1), im 10 t111]))
def c6l1 : AC :=
 .seq (sr [im 77 t9, im 78 t6, ib 79 .lss t77 t78, im 80 t79, ky 81 80 (.mv t4), ky 82 80 (.nc t81), ky 83 80 (.fa t82 0), ky 84 80 (.ld t83 1 false), ky 85 80 (.call 27 [t84]), ky 86 80 (.un .not t85), kn 87 (.pick t80 t86 kF)]
 (.cond t87 (.skip) (.exit 2)))
 (.seq (.block 3 (.dreg [[], [0], [], [2], [3], [1, 4, 3], [0, 1, 2, 3, 4, 5], [6, 5, 5, 0, 1, 2, 3, 4, 5]] [ia 90 t5 3, il 91 t90, im 92 t4, ic 93 28 [t92], kn 94 (.bs .im 52 10 [t93]), kn 95 (.app .gr 52 10 128 t91 t94), ia 96 t5 3, ke (.st t96 t95 1)]))
 (.reg [im 88 t9, ib 89 .add t88 (kc 1), im 9 t89]))
def c6l2 : AC :=
 .seq (sr [im 42 t7, im 43 t6, ib 44 .lss t42 t43, im 45 t44, ky 46 45 (.mv t4), ky 47 45 (.nc t46), ky 48 45 (.fa t47 0), ky 49 45 (.ld t48 1 false), ky 50 45 (.call 27 [t49]), ky 51 45 (.un .not t50), kn 52 (.pick t45 t51 kF)]
 (.cond t52 (.skip) (.exit 0)))
 (.seq (.block 1 (sr [im 55 t4, iv0 56 t55, ia 57 t56 0, il 58 t57, ic 59 24 [t58], kn 60 (.bd [ks, (.d (.v (.int .u32 0)))] [(0, 1, t59)]), kn 8 (.al [ks, (.d (.v (.int .u32 0)))]), ke (.st t8 t60 2)]
 (sr [im 61 t4, iv0 62 t61, ia 63 t62 0, il 64 t63, ic 65 25 [t64], ia 66 t8 1, ke (.st t66 t65 1)]
 (.reg [ia 67 t5 2, il 68 t67, kn 69 (.ld t8 2 true), kn 70 (.bs .im 48 2 [t69]), kn 71 (.app .gr 48 2 24 t68 t70), ia 72 t5 2, ke (.st t72 t71 1)]))))
 (.reg [im 53 t7, ib 54 .add t53 (kc 1), im 7 t54]))
def c6 : AC :=
 sr [kn 2 (.al [ks, (.d (.v (.int .u32 0))), .esl, .esl, .esl]), im 3 (kc 0)]
 (.seq (sr [im 11 t0, kn 12 (.len true t11), ib 13 .gtr t12 (kc 131072)]
 (.cond t13 (sr [kn 14 (.bd [ks, (.d (.v (.int .u32 0))), .esl, .esl, .esl] []), ke (.st t2 t14 5), im 3 (kc 170)]
 (.ret)) (.skip)))
 (sr [im 15 t0, kn 16 (.bd [ks, kz, (.d (.v (.bool false)))] [(0, 1, t15)]), kn 17 (.bx t16), kn 18 (.bd [.nilp] [(0, 1, t17)]), kn 19 (.bx t18), im 4 t19]
 (sr [kn 20 (.bd [ks, (.d (.v (.int .u32 0))), .esl, .esl, .esl] []), kn 5 (.al [ks, (.d (.v (.int .u32 0))), .esl, .esl, .esl]), ke (.st t5 t20 5)]
 (.seq (sr [im 21 t4, iv0 22 t21, ia 23 t22 0, il 24 t23, ic 25 24 [t24], kn 26 (.bin .neq t25 (.c (.d (.v (.string ⟨#[83, 80, 83, 89]⟩)))))]
 (.cond t26 (sr [kn 27 (.bd [ks, (.d (.v (.int .u32 0))), .esl, .esl, .esl] []), ke (.st t2 t27 5), im 3 (kc 170)]
 (.ret)) (.skip)))
 (sr [im 28 t4, iv0 29 t28, ia 30 t29 0, il 31 t30, ic 32 24 [t31], ia 33 t5 0, ke (.st t33 t32 1)]
 (sr [im 34 t4, iv0 35 t34, ia 36 t35 0, il 37 t36, ic 38 25 [t37], ia 39 t5 1, ke (.st t39 t38 1)]
 (sr [im 40 t4, ic 41 26 [t40, (kc 16)], im 6 t41]
 (.seq (sr [im 7 (kc 0)]
 (.block 0 (.loop c6l2)))
 (sr [ic 73 9 [], ia 74 t5 3, ke (.st t74 t73 1)]
 (sr [im 75 t4, ic 76 26 [t75, (kc 249)], im 6 t76]
 (.seq (sr [im 9 (kc 0)]
 (.block 2 (.loop c6l1)))
 (sr [im 97 t4, ic 98 26 [t97, (kc 64)], im 6 t98]
 (.seq (sr [im 10 (kc 0)]
 (.block 4 (.loop c6l0)))
 (.seq (sr [im 119 t4, iv0 120 t119, ia 121 t120 0, il 122 t121, ic 123 30 [t122], kn 124 (.un .not t123), im 125 t124, ko 126 125 (.ld t5 5 true), ko 127 125 (.call 31 [t126]), ko 128 125 (.un .not t127), kn 129 (.pick t125 kT t128)]
 (.cond t129 (sr [kn 130 (.bd [ks, (.d (.v (.int .u32 0))), .esl, .esl, .esl] []), ke (.st t2 t130 5), im 3 (kc 170)]
 (.ret)) (.skip)))
 (sr [kn 131 (.ld t5 5 true), ke (.st t2 t131 5), im 3 (kc 0)]
 (.ret))))))))))))))))
def r6 : List RC := [.c 2 5 true, .t 3]
theorem cc6 : cK Tryz.f6 (hhY 6) c6 := by unfold cK; kernel_rfl
theorem rr6 : resC Tryz.prog Tryz.f6 = some r6 := by kernel_rfl
def RGood : Prop := ∀ {f : Fc}, FIn f -> Small f.types -> ∀ H, ACalls Tryz.prog 31 [f.av] H fun v H' => v = bv (cdec (FaceP f)) /\ H' = H
theorem refV_refs (s : ByteArray) : refs (.tup (refV s)) = [] := by
 rw [refV]
 split
 ·simp [refs, refs.refsL, Fc.cs]
 ·simp [refs, refs.refsL, Fc.cs, zF]
theorem rdecode_c (hgd : RGood) (s : ByteArray) (hs : s.size <= 131072) (H : List ABlk) : ACalls Tryz.prog 6 [sv s] H fun v H' => v = .tup (refV s) /\ H' = H := by
 refine ACalls.enter Tryz.func6 cc6 rr6 fun hcl => ?_
 have hs : s.size <= 300000 := by omega
 have hs1 : s.size <= 131072 := by assumption
 have le0 := (text_r s).le ⟨0, false⟩ (Nat.zero_le _); obtain ⟨y0, q0, e0⟩ : ∃ y q, textF s ⟨0, false⟩ = (y, q) := ⟨_, _, rfl⟩; rw [e0] at le0; simp only at le0; have le1 := (text_r s).le q0 le0; obtain ⟨y1, q1, e1⟩ : ∃ y q, textF s q0 = (y, q) := ⟨_, _, rfl⟩; rw [e1] at le1; simp only at le1; have le2 := (word_r s).le q1 le1; obtain ⟨y2, q2, e2⟩ : ∃ y q, wordF s q1 = (y, q) := ⟨_, _, rfl⟩; rw [e2] at le2; simp only at le2; have lc3 := (cnt_r s (m := 16) (by decide)).le q2 le2; have oc3 := (cnt_r s (m := 16) (by decide)).ok q2 le2; have on3 := (cnt_r s (m := 16) (by decide)).on q2; have st3 := (cnt_r s (m := 16) (by decide)).st q2; obtain ⟨n3, p3, ec3⟩ : ∃ y q, cntF s 16 q2 = (y, q) := ⟨_, _, rfl⟩; rw [ec3] at lc3 oc3 on3 st3; simp only at lc3 oc3 on3 st3; have le3 := (loop_r (us_r s) n3.toNat).le p3 lc3; have ln3 := (loop_r (us_r s) n3.toNat).on p3; have lt3 := (loop_r (us_r s) n3.toNat).st p3; obtain ⟨y3, q3, e3⟩ : ∃ y q, loopL (usF s) n3.toNat p3 = (y, q) := ⟨_, _, rfl⟩; rw [e3] at le3 ln3 lt3; simp only at le3 ln3 lt3; have lc4 := (cnt_r s (m := 249) (by decide)).le q3 le3; have oc4 := (cnt_r s (m := 249) (by decide)).ok q3 le3; have on4 := (cnt_r s (m := 249) (by decide)).on q3; have st4 := (cnt_r s (m := 249) (by decide)).st q3; obtain ⟨n4, p4, ec4⟩ : ∃ y q, cntF s 249 q3 = (y, q) := ⟨_, _, rfl⟩; rw [ec4] at lc4 oc4 on4 st4; simp only at lc4 oc4 on4 st4; have le4 := (loop_r (rty_r s) n4.toNat).le p4 lc4; have ln4 := (loop_r (rty_r s) n4.toNat).on p4; have lt4 := (loop_r (rty_r s) n4.toNat).st p4; obtain ⟨y4, q4, e4⟩ : ∃ y q, loopL (rtyF s) n4.toNat p4 = (y, q) := ⟨_, _, rfl⟩; rw [e4] at le4 ln4 lt4; simp only at le4 ln4 lt4; have lc5 := (cnt_r s (m := 64) (by decide)).le q4 le4; have oc5 := (cnt_r s (m := 64) (by decide)).ok q4 le4; have on5 := (cnt_r s (m := 64) (by decide)).on q4; have st5 := (cnt_r s (m := 64) (by decide)).st q4; obtain ⟨n5, p5, ec5⟩ : ∃ y q, cntF s 64 q4 = (y, q) := ⟨_, _, rfl⟩; rw [ec5] at lc5 oc5 on5 st5; simp only at lc5 oc5 on5 st5; have le5 := (loop_r (ob_r s) n5.toNat).le p5 lc5; have ln5 := (loop_r (ob_r s) n5.toNat).on p5; have lt5 := (loop_r (ob_r s) n5.toNat).st p5; obtain ⟨y5, q5, e5⟩ : ∃ y q, loopL (obF s) n5.toNat p5 = (y, q) := ⟨_, _, rfl⟩; rw [e5] at le5 ln5 lt5; simp only at le5 ln5 lt5; have on1 : q1.bad = false -> q0.a < q1.a := fun h => by have := (text_r s).go q0; rw [e1] at this; exact this h
 have on2 : q2.bad = false -> q1.a < q2.a /\ q1.bad = false := fun h => by
  have := (word_r s).go q1; have h2 := (word_r s).st q1; rw [e2] at this h2; exact ⟨this h, h2 h⟩
 have hh : hdF s = (y0, q0) := e0; have er : rfcF s (hdF s).2 = ((⟨y1, y2, y3, basicL ++ y4, y5⟩ : Fc), q5) := by simp only [hh, rfcF, rlF, bnd, mp, e1, e2, e3, e4, e5, ec3, ec4, ec5]
 have hk := (ref_key s).1; rw [er] at hk; simp only at hk; have out : ∀ {u v0 : List AV} {L : List ABlk}, H <+: L -> WkL u v0 -> v0 = refV s -> Ret r6 H.length (fun v H' => v = .tup (refV s) /\ H' = H) (some (.tup u)) L := fun {u v0 L} hp hv h =>
  Ret.pre (.tup (refV s)) H hp (Nat.le_refl _) hcl (by rw [<- h]; exact Wk1.ofT hv) (by rw [refV_refs]; intro r hr; cases hr) ⟨rfl, rfl⟩
 have dno : ¬ RefP s -> [zF.av, iv 170] = refV s := fun h => by rw [refV, if_neg h]
 have hzw : WkL [.agg [(.d (.v (.string ⟨#[]⟩))), (.d (.v (.int .u32 0))), .esl, .esl, .esl], iv 170] [zF.av, iv 170] := .cons (Wk1.ofL (.cons (.rfl _) (.cons (.rfl _) (.cons .esl (.cons .esl (.cons .esl .nil)))))) (.cons (.rfl _) .nil); obtain ⟨K, hK⟩ : ∃ K, H ++ [.cells [(.d (.v (.string ⟨#[]⟩))), (.d (.v (.int .u32 0))), .esl, .esl, .esl], .cells [.d (.v (.string s)), kz, .d (.v (.bool false))], .cells [.ptr (H.length + 1) 0], .cells [(.d (.v (.string ⟨#[]⟩))), (.d (.v (.int .u32 0))), .esl, .esl, .esl]] = K := ⟨_, rfl⟩; have lK : K.length = H.length + 4 := by rw [<- hK]; simp
 have kz : K[H.length]? = some (.cells [(.d (.v (.string ⟨#[]⟩))), (.d (.v (.int .u32 0))), .esl, .esl, .esl]) := by rw [<- hK, List.getElem?_append_right (Nat.le_refl _), Nat.sub_self]; rfl
 have kr : K[(H.length + 1)]? = some (rd s 0 false) := by rw [<- hK, List.getElem?_append_right (by omega), Nat.add_sub_cancel_left]; rfl
 have kv : K[(H.length + 2)]? = some (.cells [.ptr (H.length + 1) 0]) := by rw [<- hK, List.getElem?_append_right (by omega), Nat.add_sub_cancel_left]; rfl
 have kt : K[(H.length + 3)]? = some (.cells [(.d (.v (.string ⟨#[]⟩))), (.d (.v (.int .u32 0))), .esl, .esl, .esl]) := by rw [<- hK, List.getElem?_append_right (by omega), Nat.add_sub_cancel_left]; rfl
 have kl : ∀ c, c < H.length -> K[c]? = H[c]? := fun c hc => by rw [<- hK, List.getElem?_append_left hc]
 have l1 : (H.length + 1) < K.length := by omega
 have l2 : (H.length + 2) < K.length := by omega
 have l3 : (H.length + 3) < K.length := by omega
 have d1 : (H.length + 1) ≠ (H.length + 2) := by omega
 have d2 : (H.length + 1) ≠ (H.length + 3) := by omega
 have d3 : (H.length + 2) ≠ (H.length + 3) := by omega
 have hE : (HP K s (H.length + 1) (H.length + 3) (K.length + 5) ⟨0, false⟩ [(.d (.v (.string ⟨#[]⟩))), (.d (.v (.int .u32 0))), .esl, .esl, .esl] .dead []) = K := hp_self (r := ⟨0, false⟩) kr kt (.inr (by omega)); have hpl : ∀ q cs c, c < H.length -> (HP K s (H.length + 1) (H.length + 3) (K.length + 5) q cs .dead [])[c]? = H[c]? := fun q cs c hc => by rw [hp_lo (by omega) (by omega) (by omega) (by omega), kl c hc]
 have hpz : ∀ q cs, (HP K s (H.length + 1) (H.length + 3) (K.length + 5) q cs .dead [])[H.length]? = some (.cells [(.d (.v (.string ⟨#[]⟩))), (.d (.v (.int .u32 0))), .esl, .esl, .esl]) := fun q cs => by rw [hp_lo (by omega) (by omega) (by omega) (by omega), kz]
 have hpv : ∀ q cs, (HP K s (H.length + 1) (H.length + 3) (K.length + 5) q cs .dead [])[(H.length + 2)]? = some (.cells [.ptr (H.length + 1) 0]) := fun q cs => by rw [hp_lo (by omega) (by omega) (by omega) (by omega), kv]
 have hq3 : ∀ (a b c d : ABlk), (H ++ [a, b, c, d])[(H.length + 3)]? = some d := fun a b c d => by rw [List.getElem?_append_right (by omega), Nat.add_sub_cancel_left]; rfl
 have hq4 : ∀ (a b c d e : ABlk), (H ++ [a, b, c, d]).set (H.length + 3) e = H ++ [a, b, c, e] := fun a b c d e => by rw [List.set_append_right _ _ (by omega), Nat.add_sub_cancel_left]; rfl
 simp only [Tryz.ntmps6, c6, r6]; refine W.seq_reg ?_; simp (disch := omega) only [go_sem, seval, reduceCtorEq]; refine W.seq (wpA.W ?_); simp (disch := omega) only [decide_eq_false (show ¬ (s.size : Int) > 131072 by omega), go_sem, seval, reduceCtorEq]; refine W.seq_reg ?_; simp (disch := omega) only [go_sem, seval, reduceCtorEq]; refine W.seq_reg ?_; have kst : K.set (H.length + 3) (.cells [(.d (.v (.string ⟨#[]⟩))), (.d (.v (.int .u32 0))), .esl, .esl, .esl]) = K := set_self kt; simp (disch := omega) only [hq3, hq4, hK, kt, kst, go_sem, seval, reduceCtorEq]; rw [<- hE]; have hzK : ∀ q cs X, ((HP K s (H.length + 1) (H.length + 3) (K.length + 5) q cs .dead []).set H.length X)[H.length]? = some X := fun q cs X => List.getElem?_set_self (by rw [hp_len0]; omega)
 refine W.seq (wpA.W ?_); simp (disch := omega) only [kv, go_sem, seval, reduceCtorEq]; refine Cont.mk (textR_c (r := ⟨0, false⟩) (hp_r (r := ⟨0, false⟩) l1 d2 (by omega)) hs (Nat.zero_le _)) ?_; rw [e0]
 by_cases hy : y0 = ⟨#[83, 80, 83, 89]⟩
 case neg =>
  simp (disch := omega) only [decide_eq_false hy, hpz, hzK, go_sem, seval, reduceCtorEq]; refine out (pre_out1 fun c hc => ?_) hzw (dno fun h => hy (by have := h.1; rw [hh] at this; exact this)); rw [getset_ne (by omega), hpl _ _ c hc]
 obtain ⟨qb, qa⟩ := text_at (Nat.zero_le _) e0 (by rw [hy]; decide); have qa : q0.a = 5 := by rw [qa, hy]; rfl
 simp (disch := omega) only [decide_eq_true hy, go_sem, seval, reduceCtorEq]; refine W.seq_reg ?_; simp (disch := omega) only [kv, go_sem, seval, reduceCtorEq]; refine Cont.mk (textR_c (hp_r l1 d2 (by omega)) hs le0) ?_; rw [e1]; simp (disch := omega) only [kv, go_sem, seval, reduceCtorEq]; refine W.seq_reg ?_; simp (disch := omega) only [kv, go_sem, seval, reduceCtorEq]; refine Cont.mk (wordR_c (hp_r l1 d2 (by omega)) hs le1) ?_; rw [e2]; simp (disch := omega) only [kv, go_sem, seval, reduceCtorEq]; refine W.seq_reg ?_; simp (disch := omega) only [kv, go_sem, seval, reduceCtorEq]; refine Cont.mk (count_c hs (hp_r l1 d2 (by omega)) (hpv _ _) d1 le2 16) ?_; rw [ec3]; simp (disch := omega) only [kv, go_sem, seval, reduceCtorEq]; have hg1 : GS s (H.length + 1) (H.length + 2) (H.length + 3) (fun x => [sv y1, wv y2, x, .esl, .esl]) Us.c 48 2 (HP K s (H.length + 1) (H.length + 3) (K.length + 5) p3 [sv y1, wv y2, .esl, .esl, .esl] .dead []) p3 .esl [] :=
  ⟨hp_r l1 d2 (by omega), hpv _ _, hp_t l3 (by omega), .inl ⟨rfl, rfl⟩, d1, d2, d3, lc3, fun _ => Nat.zero_le _⟩
 have lG : (HP K s (H.length + 1) (H.length + 3) (K.length + 5) p3 [sv y1, wv y2, .esl, .esl, .esl] .dead []).length = H.length + 4 := by rw [hp_len0, lK]
 have gl0 := hpl p3 [sv y1, wv y2, .esl, .esl, .esl]; have gz0 := hpz p3 [sv y1, wv y2, .esl, .esl, .esl]; obtain ⟨G0, hG0⟩ : ∃ G0, (HP K s (H.length + 1) (H.length + 3) (K.length + 5) p3 [sv y1, wv y2, .esl, .esl, .esl] .dead []) = G0 := ⟨_, rfl⟩; rw [hG0] at hg1 lG gl0 gz0 ⊢; obtain ⟨SX, hSX⟩ : ∃ SX : List AV, SX = [.any, .any, .ptr H.length 0, .any, .ptr (H.length + 2) 0, .ptr (H.length + 3) 0] ++ List.replicate 126 .any := ⟨_, rfl⟩; refine W.cut (fun s' H' => s' = SX /\ ∃ x, GS s (H.length + 1) (H.length + 2) (H.length + 3) (fun x => [sv y1, wv y2, x, .esl, .esl]) Us.c 48 2 H' q3 x y3 /\ Chg G0 (GF (H.length + 1) (H.length + 3) .esl) H' (GF (H.length + 1) (H.length + 3) x)) (wpA.W ?_) ?_
 ·simp (disch := omega) only [go_sem, seval, reduceCtorEq]
  obtain ⟨S1, hS1⟩ : ∃ S1 : EL Us -> List AV, ∀ g, S1 g = [.any, .any, .ptr H.length 0, .any, .ptr (H.length + 2) 0, .ptr (H.length + 3) 0, iv n3, iv g.i] ++ List.replicate 124 .any := ⟨_, fun _ => rfl⟩; refine W.loopG (γ := EL Us) (fun g => n3.toNat - g.i) S1 (fun g => g.H) (fun g => g.i <= n3.toNat /\ GS s (H.length + 1) (H.length + 2) (H.length + 3) (fun x => [sv y1, wv y2, x, .esl, .esl]) Us.c 48 2 g.H g.r g.x g.l /\ Chg G0 (GF (H.length + 1) (H.length + 3) .esl) g.H (GF (H.length + 1) (H.length + 3) g.x) /\ g.l ++ (loopL (usF s) (n3.toNat - g.i) g.r).1 = y3 /\ (loopL (usF s) (n3.toNat - g.i) g.r).2 = q3) ⟨0, G0, p3, .esl, []⟩ (Wk.slots (WkL.tw 8 (hS1 _))) ⟨Nat.zero_le _, hg1, .rfl', by show [] ++ (loopL (usF s) (n3.toNat - 0) p3).1 = y3; rw [Nat.sub_zero, e3]; try rfl, by show (loopL (usF s) (n3.toNat - 0) p3).2 = q3; rw [Nat.sub_zero, e3]⟩ (fun g hg => ?_); obtain ⟨i, G, p, y, m⟩ := g; obtain ⟨hi, k2, k3, k4, k5⟩ := hg; simp only at hi k2 k3 k4 k5; have gv := k2.ev; have kr := k2.er
  by_cases hin : i < n3.toNat
  ·have hc1 : (i : Int) < n3 := by omega
   cases hb : p.bad with
   | true =>
    rw [hb] at kr; rw [loopL_bad _ _ hb] at k4 k5; simp (disch := omega) only [hS1, c6l2, decide_eq_true hc1, gv, go_sem, seval, reduceCtorEq]; refine Cont.mk (badR_c (r := ⟨p.a, true⟩) kr) ?_; simp (disch := omega) only [go_sem, seval, reduceCtorEq]; rw [List.append_nil] at k4; have k5 : p = q3 := k5; have k4 : m = y3 := k4; exact ⟨SX, G, Wk.slots (WkL.tw 6 hSX), rfl, y, by rw [<- k4, <- k5]; exact k2, k3⟩
   | false =>
    have hsub : n3.toNat - i = (n3.toNat - (i + 1)) + 1 := by omega
    rw [hsub, loopL, if_neg (by rw [hb]; simp)] at k4 k5; have k5 : (loopL (usF s) (n3.toNat - (i + 1)) (usF s p).2).2 = q3 := k5; have k4 : m ++ ((usF s p).1 :: (loopL (usF s) (n3.toNat - (i + 1)) (usF s p).2).1) = y3 := k4; rw [show m ++ ((usF s p).1 :: (loopL (usF s) (n3.toNat - (i + 1)) (usF s p).2).1) = (m ++ [(usF s p).1]) ++ (loopL (usF s) (n3.toNat - (i + 1)) (usF s p).2).1 by rw [List.append_assoc]; rfl] at k4; have kr2 := kr; rw [hb] at kr2; have pm := k2.m hb; have hw : IntKind.i64.wrap ((i : Int) + 1) = ((i + 1 : Nat) : Int) := by rw [w_i64 (by omega) (by omega)]; rfl
    simp (disch := omega) only [hS1, c6l2, decide_eq_true hc1, gv, go_sem, seval, reduceCtorEq]; refine Cont.mk (badR_c (r := ⟨p.a, false⟩) kr2) ?_; simp (disch := omega) only [gv, go_sem, seval, reduceCtorEq]; obtain ⟨t1, t2, t3⟩ := k2.lt; have dd1 := k2.d1; have dd2 := k2.d2; have dd3 := k2.d3; have f0 := k2.le; have f1 := (text_r s).le p f0; obtain ⟨u1, v1, g1⟩ : ∃ y q, textF s p = (y, q) := ⟨_, _, rfl⟩; rw [g1] at f1; simp only at f1; have f2 := (word_r s).le v1 f1; obtain ⟨u2, v2, g2⟩ : ∃ y q, wordF s v1 = (y, q) := ⟨_, _, rfl⟩; rw [g2] at f2; simp only at f2; have ew : usF s p = ((⟨u1, u2⟩ : Us), v2) := by simp only [usF, bnd, mp, g1, g2]
    have mv : v2.bad = false -> p.bad = false /\ p.a < v2.a := fun hq => by
     have z1 := (us_r s).st p; have z2 := (us_r s).go p; rw [ew] at z1 z2; exact ⟨z1 hq, z2 hq⟩
    rw [ew] at k4 k5; simp only at k4 k5; rcases k2.g with ⟨rfl, rfl⟩ | ⟨b, rfl, g1', g2', g3', g4'⟩
    ·have hh := hp_self (s := s) (r := p) (k := .dead) (b := (G.length + 5)) k2.er k2.et (.inr (by omega))
     rw [<- hh]; refine Cont.mk (textR_c (hp_r t1 dd2 (by omega)) hs f0) ?_; rw [g1]; simp (disch := omega) only [gv, go_sem, seval, reduceCtorEq]; refine Cont.mk (wordR_c (hp_r t1 dd2 (by omega)) hs f1) ?_; rw [g2]; simp (disch := omega) only [gv, hw, go_sem, seval, reduceCtorEq]; have hfin := k2.first (b := G.length + 5) (k := .dead) (y := (⟨u1, u2⟩ : Us)) (by omega) [.cells [sv u1, wv u2]] f2 mv rfl; exact Nxt.mk ⟨i + 1, _, v2, _, [] ++ [(⟨u1, u2⟩ : Us)]⟩ (by show n3.toNat - (i + 1) < n3.toNat - i; omega) (Wk.slots (WkL.tw 8 (hS1 _))) ⟨by show i + 1 <= _; omega, hfin.1, k3.trans hfin.2, k4, k5⟩
    ·have hh := hp_self (s := s) (r := p) (k := (.row 48 2 m.length)) (b := b) k2.er k2.et (.inl g1')
     have l4 := (List.getElem?_eq_some_iff.1 g1').1; have hml : m.length <= 300000 := by omega
     have llm : (m.map Us.c).length = m.length := lnm ..; rw [<- hh]; refine Cont.mk (textR_c (hp_r t1 dd2 (by omega)) hs f0) ?_; rw [g1]; simp (disch := omega) only [gv, go_sem, seval, reduceCtorEq]; refine Cont.mk (wordR_c (hp_r t1 dd2 (by omega)) hs f1) ?_; rw [g2]; simp (disch := omega) only [gv, hw, llm, go_sem, seval, reduceCtorEq]; have hfin := k2.next (y := (⟨u1, u2⟩ : Us)) g1' g2' g3' g4' [.cells [sv u1, wv u2]] f2 mv; rw [List.map_append] at hfin; exact Nxt.mk ⟨i + 1, _, v2, _, m ++ [(⟨u1, u2⟩ : Us)]⟩ (by show n3.toNat - (i + 1) < n3.toNat - i; omega) (Wk.slots (WkL.tw 8 (hS1 _))) ⟨by show i + 1 <= _; omega, hfin.1, k3.trans hfin.2, k4, k5⟩
  ·have hc1 : ¬ (i : Int) < n3 := by omega
   have hi0 : n3.toNat - i = 0 := by omega
   rw [hi0] at k4 k5; simp (disch := omega) only [hS1, c6l2, decide_eq_false hc1, go_sem, seval, reduceCtorEq]; have k4 : m ++ [] = y3 := k4; rw [List.append_nil] at k4; have k5 : p = q3 := k5; exact ⟨SX, G, Wk.slots (WkL.tw 6 hSX), rfl, y, by rw [<- k4, <- k5]; exact k2, k3⟩
 rintro s' G1 ⟨hs', x1, g1, k1⟩; rw [hs', hSX]; have g1v := g1.ev; have g1t := g1.et; obtain ⟨b1, b2, b3⟩ := g1.lt; have hx : ∀ l : List ABlk, (G1 ++ l)[(H.length + 3)]? = some (.cells [sv y1, wv y2, x1, .esl, .esl]) := fun l => by rw [List.getElem?_append_left b3, g1t]
 refine W.seq_reg ?_; simp (disch := omega) only [g1v, go_sem, seval, reduceCtorEq]; refine Cont.mk (rbasic_c _) ?_; simp (disch := omega) only [hx, List.set_append_left _ _ b3, go_sem, seval, reduceCtorEq]; obtain ⟨G2, hG2⟩ : ∃ G2, G1.set (H.length + 3) (.cells [sv y1, wv y2, x1, .gsl G1.length 10 (basicL.map Ty.c), .esl]) ++ [.row 52 10 7] = G2 := ⟨_, rfl⟩; have lS : (G1.set (H.length + 3) (.cells [sv y1, wv y2, x1, .gsl G1.length 10 (basicL.map Ty.c), .esl])).length = G1.length := List.length_set; have c2 : Chg G1 (GF (H.length + 1) (H.length + 3) x1) G2 (GF (H.length + 1) (H.length + 3) (.gsl G1.length 10 (basicL.map Ty.c))) := by
  refine ⟨by rw [<- hG2, List.length_append, lS]; omega, fun c hc hF => ?_, fun c hc => ?_⟩
  ·have : c ≠ (H.length + 3) := fun e => hF (by rw [e]; simp [GF])
   rw [<- hG2, List.getElem?_append_left (by omega), getset_ne (Ne.symm this)]
  ·simp only [GF, rowB, List.mem_cons, List.not_mem_nil, or_false] at hc ⊢
   rcases hc with hc | hc | hc
   ·exact .inl (.inl hc)
   ·exact .inl (.inr (.inl hc))
   ·exact .inr (by omega)
 have gA : GS s (H.length + 1) (H.length + 2) (H.length + 3) (fun x => [sv y1, wv y2, x1, x, .esl]) Ty.c 52 10 G2 q3 (.gsl G1.length 10 (basicL.map Ty.c)) basicL :=
  ⟨by rw [<- hG2, List.getElem?_append_left (by omega), getset_ne (Ne.symm d2), g1.er], by rw [<- hG2, List.getElem?_append_left (by omega), getset_ne (Ne.symm d3), g1v], by rw [<- hG2, List.getElem?_append_left (by omega), List.getElem?_set_self b3], .inr ⟨_, rfl, by rw [<- hG2, List.getElem?_append_right (by omega), lS, Nat.sub_self]; rfl, by omega, by omega, by omega⟩, d1, d2, d3, le3, fun hb => by
    have a1 := lt3 hb; have a2 := st3 a1; obtain ⟨a3, a4⟩ := on2 a2; have a5 := on1 a4
    show 7 <= q3.a
    omega⟩
 rw [hG2]; have gAv := gA.ev; refine W.seq_reg ?_; simp (disch := omega) only [gAv, go_sem, seval, reduceCtorEq]; refine Cont.mk (count_c hs gA.er gA.ev d1 le3 249) ?_; rw [ec4]; simp (disch := omega) only [go_sem, seval, reduceCtorEq]; obtain ⟨hg2, j2⟩ := gA.setR (q := p4) lc4 (fun hb => Nat.le_trans (gA.m (st4 hb)) on4); have c2 := c2.trans j2; obtain ⟨G3, hG3⟩ : ∃ G3, G2.set (H.length + 1) (rd s p4.a p4.bad) = G3 := ⟨_, rfl⟩; rw [hG3] at c2 hg2 ⊢; refine W.cut (fun s' H' => s' = SX /\ ∃ x, GS s (H.length + 1) (H.length + 2) (H.length + 3) (fun x => [sv y1, wv y2, x1, x, .esl]) Ty.c 52 10 H' q4 x (basicL ++ y4) /\ Chg G3 (GF (H.length + 1) (H.length + 3) (.gsl G1.length 10 (basicL.map Ty.c))) H' (GF (H.length + 1) (H.length + 3) x)) (wpA.W ?_) ?_
 ·simp (disch := omega) only [go_sem, seval, reduceCtorEq]
  obtain ⟨S2, hS2⟩ : ∃ S2 : EL Ty -> List AV, ∀ g, S2 g = [.any, .any, .ptr H.length 0, .any, .ptr (H.length + 2) 0, .ptr (H.length + 3) 0, iv n4, .any, .any, iv g.i] ++ List.replicate 122 .any := ⟨_, fun _ => rfl⟩; refine W.loopG (γ := EL Ty) (fun g => n4.toNat - g.i) S2 (fun g => g.H) (fun g => g.i <= n4.toNat /\ GS s (H.length + 1) (H.length + 2) (H.length + 3) (fun x => [sv y1, wv y2, x1, x, .esl]) Ty.c 52 10 g.H g.r g.x g.l /\ Chg G3 (GF (H.length + 1) (H.length + 3) (.gsl G1.length 10 (basicL.map Ty.c))) g.H (GF (H.length + 1) (H.length + 3) g.x) /\ g.l ++ (loopL (rtyF s) (n4.toNat - g.i) g.r).1 = (basicL ++ y4) /\ (loopL (rtyF s) (n4.toNat - g.i) g.r).2 = q4) ⟨0, G3, p4, (.gsl G1.length 10 (basicL.map Ty.c)), basicL⟩ (Wk.slots (WkL.tw 10 (hS2 _))) ⟨Nat.zero_le _, hg2, .rfl', by show basicL ++ (loopL (rtyF s) (n4.toNat - 0) p4).1 = (basicL ++ y4); rw [Nat.sub_zero, e4]; try rfl, by show (loopL (rtyF s) (n4.toNat - 0) p4).2 = q4; rw [Nat.sub_zero, e4]⟩ (fun g hg => ?_); obtain ⟨i, G, p, y, m⟩ := g; obtain ⟨hi, k2, k3, k4, k5⟩ := hg; simp only at hi k2 k3 k4 k5; have gv := k2.ev; have kr := k2.er
  by_cases hin : i < n4.toNat
  ·have hc1 : (i : Int) < n4 := by omega
   cases hb : p.bad with
   | true =>
    rw [hb] at kr; rw [loopL_bad _ _ hb] at k4 k5; simp (disch := omega) only [hS2, c6l1, decide_eq_true hc1, gv, go_sem, seval, reduceCtorEq]; refine Cont.mk (badR_c (r := ⟨p.a, true⟩) kr) ?_; simp (disch := omega) only [go_sem, seval, reduceCtorEq]; rw [List.append_nil] at k4; have k5 : p = q4 := k5; have k4 : m = (basicL ++ y4) := k4; exact ⟨SX, G, Wk.slots (WkL.tw 6 hSX), rfl, y, by rw [<- k4, <- k5]; exact k2, k3⟩
   | false =>
    have hsub : n4.toNat - i = (n4.toNat - (i + 1)) + 1 := by omega
    rw [hsub, loopL, if_neg (by rw [hb]; simp)] at k4 k5; have k5 : (loopL (rtyF s) (n4.toNat - (i + 1)) (rtyF s p).2).2 = q4 := k5; have k4 : m ++ ((rtyF s p).1 :: (loopL (rtyF s) (n4.toNat - (i + 1)) (rtyF s p).2).1) = (basicL ++ y4) := k4; rw [show m ++ ((rtyF s p).1 :: (loopL (rtyF s) (n4.toNat - (i + 1)) (rtyF s p).2).1) = (m ++ [(rtyF s p).1]) ++ (loopL (rtyF s) (n4.toNat - (i + 1)) (rtyF s p).2).1 by rw [List.append_assoc]; rfl] at k4; have kr2 := kr; rw [hb] at kr2; have pm := k2.m hb; have hw : IntKind.i64.wrap ((i : Int) + 1) = ((i + 1 : Nat) : Int) := by rw [w_i64 (by omega) (by omega)]; rfl
    simp (disch := omega) only [hS2, c6l1, decide_eq_true hc1, gv, go_sem, seval, reduceCtorEq]; refine Cont.mk (badR_c (r := ⟨p.a, false⟩) kr2) ?_; simp (disch := omega) only [gv, go_sem, seval, reduceCtorEq]; obtain ⟨t1, t2, t3⟩ := k2.lt; have dd1 := k2.d1; have dd2 := k2.d2; have dd3 := k2.d3; have f0 := k2.le; have f1 := (rty_r s).le p f0; have z1 := (rty_r s).st p; have z2 := (rty_r s).go p; obtain ⟨u1, v1, g1'⟩ : ∃ y q, rtyF s p = (y, q) := ⟨_, _, rfl⟩; rw [g1'] at f1 z1 z2 k4 k5; simp only at f1 z1 z2 k4 k5; have mv : v1.bad = false -> p.bad = false /\ p.a < v1.a := fun hq => ⟨z1 hq, z2 hq⟩
    rcases k2.g with ⟨rfl, rfl⟩ | ⟨b, rfl, h1', h2', h3', h4'⟩
    ·have hh' := hp_self (s := s) (r := p) (k := .dead) (b := (G.length + 5)) k2.er k2.et (.inr (by omega))
     rw [<- hh']; refine W.dregD [([], [(H.length + 1)]), ([], [(H.length + 1)]), ([], []), ([(H.length + 1)], []), ([], []), ([G.length], []), ([], []), ([(H.length + 3)], [])] follows (by decide +kernel) rfl rfl (fun z hz c hc => ?_) ?_
     ·simp only [List.mem_cons, List.not_mem_nil, or_false] at hz
      rcases hz with rfl | rfl | rfl | rfl | rfl | rfl | rfl | rfl <;> first | exact absurd hc List.not_mem_nil | (rw [List.mem_singleton.1 hc, hp_r t1 dd2 (by omega)]; simp; try omega) | (rw [List.mem_singleton.1 hc, List.getElem?_eq_none (by rw [hp_len0]; exact Nat.le_refl _)]; simp; try omega) | (rw [List.mem_singleton.1 hc, hp_t t3 (by omega)]; simp; try omega)
     repeat (rw [DC_p]; simp (disch := omega) only [gv, kr1, go_sem, seval, reduceCtorEq])
     refine WStep.call (typR2_c hs (hp_r t1 dd2 (by omega)) ((hp_v t2 (by omega) (by omega) (by omega)).trans gv) dd1 f0) fr_c fr_l ?_; rw [g1']; simp (disch := omega) only [gv, kr1, Ty.cs, go_sem, seval, reduceCtorEq]
     repeat (rw [DC_p]; simp (disch := omega) only [gv, kr1, Ty.cs, go_sem, seval, reduceCtorEq])
     refine WStep.ev (fun _ _ e => by cases e) (fun _ _ e => by cases e) ?_; simp (disch := omega) only [Ty.cs, go_sem, seval, reduceCtorEq]; refine ⟨fr_n, ?_⟩
     repeat (rw [DC_p]; simp (disch := omega) only [go_sem, seval, reduceCtorEq])
     refine WStep.ev (fun _ _ e => by cases e) (fun _ _ e => by cases e) ?_; simp (disch := omega) only [hw, go_sem, seval, reduceCtorEq]; refine ⟨fr_t t3 (by omega), ?_⟩; have hfin := k2.first (b := G.length + 5) (k := .dead) (y := u1) (by omega) [] f1 mv rfl; exact Nxt.mk ⟨i + 1, _, v1, _, [] ++ [u1]⟩ (by show n4.toNat - (i + 1) < n4.toNat - i; omega) (Wk.slots (WkL.tw 10 (hS2 _))) ⟨by show i + 1 <= _; omega, hfin.1, k3.trans hfin.2, k4, k5⟩
    ·have hh' := hp_self (s := s) (r := p) (k := (.row 52 10 m.length)) (b := b) k2.er k2.et (.inl h1')
     have l4 := (List.getElem?_eq_some_iff.1 h1').1; have hml : m.length <= 300000 := by omega
     have llm : (m.map Ty.c).length = m.length := lnm ..; rw [<- hh']; refine W.dregD [([], [(H.length + 1)]), ([], [(H.length + 1)]), ([], []), ([(H.length + 1)], []), ([], []), ([b], []), ([], []), ([(H.length + 3)], [])] follows (by decide +kernel) rfl rfl (fun z hz c hc => ?_) ?_
     ·simp only [List.mem_cons, List.not_mem_nil, or_false] at hz
      rcases hz with rfl | rfl | rfl | rfl | rfl | rfl | rfl | rfl <;> first | exact absurd hc List.not_mem_nil | (rw [List.mem_singleton.1 hc, hp_r t1 dd2 (by omega)]; simp; try omega) | (rw [List.mem_singleton.1 hc, hp_b l4]; simp; try omega) | (rw [List.mem_singleton.1 hc, hp_t t3 (by omega)]; simp; try omega)
     repeat (rw [DC_p]; simp (disch := omega) only [gv, kr1, go_sem, seval, reduceCtorEq])
     refine WStep.call (typR2_c hs (hp_r t1 dd2 (by omega)) ((hp_v t2 (by omega) (by omega) (by omega)).trans gv) dd1 f0) fr_c fr_l ?_; rw [g1']; simp (disch := omega) only [gv, kr1, Ty.cs, go_sem, seval, reduceCtorEq]
     repeat (rw [DC_p]; simp (disch := omega) only [gv, kr1, Ty.cs, go_sem, seval, reduceCtorEq])
     refine WStep.ev (fun _ _ e => by cases e) (fun _ _ e => by cases e) ?_; simp (disch := omega) only [Ty.cs, llm, go_sem, seval, reduceCtorEq]; refine ⟨fr_b l4, ?_⟩
     repeat (rw [DC_p]; simp (disch := omega) only [go_sem, seval, reduceCtorEq])
     refine WStep.ev (fun _ _ e => by cases e) (fun _ _ e => by cases e) ?_; simp (disch := omega) only [hw, go_sem, seval, reduceCtorEq]; refine ⟨fr_t t3 (by omega), ?_⟩; have hfin := k2.next (y := u1) h1' h2' h3' h4' [] f1 mv; rw [List.map_append] at hfin; exact Nxt.mk ⟨i + 1, _, v1, _, m ++ [u1]⟩ (by show n4.toNat - (i + 1) < n4.toNat - i; omega) (Wk.slots (WkL.tw 10 (hS2 _))) ⟨by show i + 1 <= _; omega, hfin.1, k3.trans hfin.2, k4, k5⟩
  ·have hc1 : ¬ (i : Int) < n4 := by omega
   have hi0 : n4.toNat - i = 0 := by omega
   rw [hi0] at k4 k5; simp (disch := omega) only [hS2, c6l1, decide_eq_false hc1, go_sem, seval, reduceCtorEq]; have k4 : m ++ [] = (basicL ++ y4) := k4; rw [List.append_nil] at k4; have k5 : p = q4 := k5; exact ⟨SX, G, Wk.slots (WkL.tw 6 hSX), rfl, y, by rw [<- k4, <- k5]; exact k2, k3⟩
 rintro s' G4 ⟨hs'', x2, g2, k2⟩; rw [hs'', hSX]; have g2v := g2.ev; refine W.seq_reg ?_; simp (disch := omega) only [g2v, go_sem, seval, reduceCtorEq]; refine Cont.mk (count_c hs g2.er g2.ev d1 le4 64) ?_; rw [ec5]; simp (disch := omega) only [go_sem, seval, reduceCtorEq]; obtain ⟨j3, j4⟩ := g2.setR (q := p5) lc5 (fun hb => Nat.le_trans (g2.m (st5 hb)) on5); have k2 := k2.trans j4; have hg3 : GS s (H.length + 1) (H.length + 2) (H.length + 3) (fun x => [sv y1, wv y2, x1, x2, x]) Ob.c 58 7 (G4.set (H.length + 1) (rd s p5.a p5.bad)) p5 .esl [] := ⟨j3.er, j3.ev, j3.et, .inl ⟨rfl, rfl⟩, d1, d2, d3, lc5, fun _ => Nat.zero_le _⟩; obtain ⟨G5, hG5⟩ : ∃ G5, G4.set (H.length + 1) (rd s p5.a p5.bad) = G5 := ⟨_, rfl⟩; rw [hG5] at k2 hg3 ⊢; refine W.cut (fun s' H' => s' = SX /\ ∃ x, GS s (H.length + 1) (H.length + 2) (H.length + 3) (fun x => [sv y1, wv y2, x1, x2, x]) Ob.c 58 7 H' q5 x y5 /\ Chg G5 (GF (H.length + 1) (H.length + 3) .esl) H' (GF (H.length + 1) (H.length + 3) x)) (wpA.W ?_) ?_
 ·simp (disch := omega) only [go_sem, seval, reduceCtorEq]
  obtain ⟨S3, hS3⟩ : ∃ S3 : EL Ob -> List AV, ∀ g, S3 g = [.any, .any, .ptr H.length 0, .any, .ptr (H.length + 2) 0, .ptr (H.length + 3) 0, iv n5, .any, .any, .any, iv g.i] ++ List.replicate 121 .any := ⟨_, fun _ => rfl⟩; refine W.loopG (γ := EL Ob) (fun g => n5.toNat - g.i) S3 (fun g => g.H) (fun g => g.i <= n5.toNat /\ GS s (H.length + 1) (H.length + 2) (H.length + 3) (fun x => [sv y1, wv y2, x1, x2, x]) Ob.c 58 7 g.H g.r g.x g.l /\ Chg G5 (GF (H.length + 1) (H.length + 3) .esl) g.H (GF (H.length + 1) (H.length + 3) g.x) /\ g.l ++ (loopL (obF s) (n5.toNat - g.i) g.r).1 = y5 /\ (loopL (obF s) (n5.toNat - g.i) g.r).2 = q5) ⟨0, G5, p5, .esl, []⟩ (Wk.slots (WkL.tw 11 (hS3 _))) ⟨Nat.zero_le _, hg3, .rfl', by show [] ++ (loopL (obF s) (n5.toNat - 0) p5).1 = y5; rw [Nat.sub_zero, e5]; try rfl, by show (loopL (obF s) (n5.toNat - 0) p5).2 = q5; rw [Nat.sub_zero, e5]⟩ (fun g hg => ?_); obtain ⟨i, G, p, y, m⟩ := g; obtain ⟨hi, k2, k3, k4, k5⟩ := hg; simp only at hi k2 k3 k4 k5; have gv := k2.ev; have kr := k2.er
  by_cases hin : i < n5.toNat
  ·have hc1 : (i : Int) < n5 := by omega
   cases hb : p.bad with
   | true =>
    rw [hb] at kr; rw [loopL_bad _ _ hb] at k4 k5; simp (disch := omega) only [hS3, c6l0, decide_eq_true hc1, gv, go_sem, seval, reduceCtorEq]; refine Cont.mk (badR_c (r := ⟨p.a, true⟩) kr) ?_; simp (disch := omega) only [go_sem, seval, reduceCtorEq]; rw [List.append_nil] at k4; have k5 : p = q5 := k5; have k4 : m = y5 := k4; exact ⟨SX, G, Wk.slots (WkL.tw 6 hSX), rfl, y, by rw [<- k4, <- k5]; exact k2, k3⟩
   | false =>
    have hsub : n5.toNat - i = (n5.toNat - (i + 1)) + 1 := by omega
    rw [hsub, loopL, if_neg (by rw [hb]; simp)] at k4 k5; have k5 : (loopL (obF s) (n5.toNat - (i + 1)) (obF s p).2).2 = q5 := k5; have k4 : m ++ ((obF s p).1 :: (loopL (obF s) (n5.toNat - (i + 1)) (obF s p).2).1) = y5 := k4; rw [show m ++ ((obF s p).1 :: (loopL (obF s) (n5.toNat - (i + 1)) (obF s p).2).1) = (m ++ [(obF s p).1]) ++ (loopL (obF s) (n5.toNat - (i + 1)) (obF s p).2).1 by rw [List.append_assoc]; rfl] at k4; have kr2 := kr; rw [hb] at kr2; have pm := k2.m hb; have hw : IntKind.i64.wrap ((i : Int) + 1) = ((i + 1 : Nat) : Int) := by rw [w_i64 (by omega) (by omega)]; rfl
    simp (disch := omega) only [hS3, c6l0, decide_eq_true hc1, gv, go_sem, seval, reduceCtorEq]; refine Cont.mk (badR_c (r := ⟨p.a, false⟩) kr2) ?_; simp (disch := omega) only [gv, go_sem, seval, reduceCtorEq]; obtain ⟨t1, t2, t3⟩ := k2.lt; have dd1 := k2.d1; have dd2 := k2.d2; have dd3 := k2.d3; have f0 := k2.le; have f1 := (ob_r s).le p f0; have z1 := (ob_r s).st p; have z2 := (ob_r s).go p; obtain ⟨u1, v1, g1'⟩ : ∃ y q, obF s p = (y, q) := ⟨_, _, rfl⟩; rw [g1'] at f1 z1 z2 k4 k5; simp only at f1 z1 z2 k4 k5; have mv : v1.bad = false -> p.bad = false /\ p.a < v1.a := fun hq => ⟨z1 hq, z2 hq⟩
    rcases k2.g with ⟨rfl, rfl⟩ | ⟨b, rfl, h1', h2', h3', h4'⟩
    ·have hh' := hp_self (s := s) (r := p) (k := .dead) (b := (G.length + 5)) k2.er k2.et (.inr (by omega))
     rw [<- hh']; refine W.dregD [([], [(H.length + 1)]), ([], [(H.length + 1)]), ([], []), ([(H.length + 1)], []), ([], []), ([G.length], []), ([], []), ([(H.length + 3)], [])] follows (by decide +kernel) rfl rfl (fun z hz c hc => ?_) ?_
     ·simp only [List.mem_cons, List.not_mem_nil, or_false] at hz
      rcases hz with rfl | rfl | rfl | rfl | rfl | rfl | rfl | rfl <;> first | exact absurd hc List.not_mem_nil | (rw [List.mem_singleton.1 hc, hp_r t1 dd2 (by omega)]; simp; try omega) | (rw [List.mem_singleton.1 hc, List.getElem?_eq_none (by rw [hp_len0]; exact Nat.le_refl _)]; simp; try omega) | (rw [List.mem_singleton.1 hc, hp_t t3 (by omega)]; simp; try omega)
     repeat (rw [DC_p]; simp (disch := omega) only [gv, kr1, go_sem, seval, reduceCtorEq])
     refine WStep.call (obj_c hs (hp_r t1 dd2 (by omega)) ((hp_v t2 (by omega) (by omega) (by omega)).trans gv) dd1 f0) fr_c fr_l ?_; rw [g1']; simp (disch := omega) only [gv, kr1, Ob.c, List.map_cons, List.map_nil, go_sem, seval, reduceCtorEq]
     repeat (rw [DC_p]; simp (disch := omega) only [gv, kr1, Ob.c, List.map_cons, List.map_nil, go_sem, seval, reduceCtorEq])
     refine WStep.ev (fun _ _ e => by cases e) (fun _ _ e => by cases e) ?_; simp (disch := omega) only [Ob.c, List.map_cons, List.map_nil, go_sem, seval, reduceCtorEq]; refine ⟨fr_n, ?_⟩
     repeat (rw [DC_p]; simp (disch := omega) only [go_sem, seval, reduceCtorEq])
     refine WStep.ev (fun _ _ e => by cases e) (fun _ _ e => by cases e) ?_; simp (disch := omega) only [hw, go_sem, seval, reduceCtorEq]; refine ⟨fr_t t3 (by omega), ?_⟩; have hfin := k2.first (b := G.length + 5) (k := .dead) (y := u1) (by omega) [] f1 mv rfl; exact Nxt.mk ⟨i + 1, _, v1, _, [] ++ [u1]⟩ (by show n5.toNat - (i + 1) < n5.toNat - i; omega) (Wk.slots (WkL.tw 11 (hS3 _))) ⟨by show i + 1 <= _; omega, hfin.1, k3.trans hfin.2, k4, k5⟩
    ·have hh' := hp_self (s := s) (r := p) (k := (.row 58 7 m.length)) (b := b) k2.er k2.et (.inl h1')
     have l4 := (List.getElem?_eq_some_iff.1 h1').1; have hml : m.length <= 300000 := by omega
     have llm : (m.map Ob.c).length = m.length := lnm ..; rw [<- hh']; refine W.dregD [([], [(H.length + 1)]), ([], [(H.length + 1)]), ([], []), ([(H.length + 1)], []), ([], []), ([b], []), ([], []), ([(H.length + 3)], [])] follows (by decide +kernel) rfl rfl (fun z hz c hc => ?_) ?_
     ·simp only [List.mem_cons, List.not_mem_nil, or_false] at hz
      rcases hz with rfl | rfl | rfl | rfl | rfl | rfl | rfl | rfl <;> first | exact absurd hc List.not_mem_nil | (rw [List.mem_singleton.1 hc, hp_r t1 dd2 (by omega)]; simp; try omega) | (rw [List.mem_singleton.1 hc, hp_b l4]; simp; try omega) | (rw [List.mem_singleton.1 hc, hp_t t3 (by omega)]; simp; try omega)
     repeat (rw [DC_p]; simp (disch := omega) only [gv, kr1, go_sem, seval, reduceCtorEq])
     refine WStep.call (obj_c hs (hp_r t1 dd2 (by omega)) ((hp_v t2 (by omega) (by omega) (by omega)).trans gv) dd1 f0) fr_c fr_l ?_; rw [g1']; simp (disch := omega) only [gv, kr1, Ob.c, List.map_cons, List.map_nil, go_sem, seval, reduceCtorEq]
     repeat (rw [DC_p]; simp (disch := omega) only [gv, kr1, Ob.c, List.map_cons, List.map_nil, go_sem, seval, reduceCtorEq])
     refine WStep.ev (fun _ _ e => by cases e) (fun _ _ e => by cases e) ?_; simp (disch := omega) only [Ob.c, List.map_cons, List.map_nil, llm, go_sem, seval, reduceCtorEq]; refine ⟨fr_b l4, ?_⟩
     repeat (rw [DC_p]; simp (disch := omega) only [go_sem, seval, reduceCtorEq])
     refine WStep.ev (fun _ _ e => by cases e) (fun _ _ e => by cases e) ?_; simp (disch := omega) only [hw, go_sem, seval, reduceCtorEq]; refine ⟨fr_t t3 (by omega), ?_⟩; have hfin := k2.next (y := u1) h1' h2' h3' h4' [] f1 mv; rw [List.map_append] at hfin; exact Nxt.mk ⟨i + 1, _, v1, _, m ++ [u1]⟩ (by show n5.toNat - (i + 1) < n5.toNat - i; omega) (Wk.slots (WkL.tw 11 (hS3 _))) ⟨by show i + 1 <= _; omega, hfin.1, k3.trans hfin.2, k4, k5⟩
  ·have hc1 : ¬ (i : Int) < n5 := by omega
   have hi0 : n5.toNat - i = 0 := by omega
   rw [hi0] at k4 k5; simp (disch := omega) only [hS3, c6l0, decide_eq_false hc1, go_sem, seval, reduceCtorEq]; have k4 : m ++ [] = y5 := k4; rw [List.append_nil] at k4; have k5 : p = q5 := k5; exact ⟨SX, G, Wk.slots (WkL.tw 6 hSX), rfl, y, by rw [<- k4, <- k5]; exact k2, k3⟩
 rintro s' G6 ⟨hs3, x3, g3, k3⟩; rw [hs3, hSX]; have g3v := g3.ev; have g3t := g3.et; have w1 := k1.len; have w2 := c2.len; have w3 := k2.len; have w4 := k3.len; rw [lG] at w1; have low : ∀ c, c <= H.length -> G6[c]? = G0[c]? := fun c hc => by
  rw [k3.out c (by omega) (by simp [GF, rowB]; omega), k2.out c (by omega) (by simp [GF, rowB]; omega), c2.out c (by omega) (fun hF => ?_), k1.out c (by omega) (by simp [GF, rowB]; omega)]; rcases k1.sub c hF with h | h
  ·simp [GF, rowB] at h; omega
  ·omega
 have hz6 : G6[H.length]? = some (.cells [(.d (.v (.string ⟨#[]⟩))), (.d (.v (.int .u32 0))), .esl, .esl, .esl]) := by rw [low _ (Nat.le_refl _), gz0]
 have hl6 : H.length < G6.length := by omega
 have hzs : ∀ X, (G6.set H.length X)[H.length]? = some X := fun X => List.getElem?_set_self hl6
 have pre6 : ∀ X, H <+: G6.set H.length X := fun X => pre_out1 fun c hc => by rw [getset_ne (by omega), low c (by omega), gl0 c hc]
 obtain ⟨f, hf⟩ : ∃ f : Fc, f = ⟨y1, y2, y3, basicL ++ y4, y5⟩ := ⟨_, rfl⟩; rw [<- hf] at hk er; have wk : WkL [sv y1, wv y2, x1, x2, x3] f.cs := by rw [hf]; exact .cons (.rfl _) (.cons (.rfl _) (.cons g1.wk (.cons g2.wk (.cons g3.wk .nil))))
 have hRP : RefP s ↔ endF s q5 = true /\ FaceP f := by
  rw [RefP, er, hh]
  constructor
  ·rintro ⟨_, b, c⟩; exact ⟨b, c⟩
  ·rintro ⟨b, c⟩; exact ⟨hy, b, c⟩
 have o1 := g1.one; have o2 := g2.one; have o3 := g3.one
 try simp only [go_sem, seval, reduceCtorEq] at o1
 try simp only [go_sem, seval, reduceCtorEq] at o2
 try simp only [go_sem, seval, reduceCtorEq] at o3
 refine W.seq (wpA.W ?_); simp (disch := omega) only [g3v, go_sem, seval, reduceCtorEq]; refine Cont.mk (endR_c g3.er) ?_
 cases hE : endF s q5 with
 | false =>
  simp (disch := omega) only [hzs, hz6, go_sem, seval, reduceCtorEq]; exact out (pre6 _) hzw (dno fun h => by have := (hRP.1 h).1; rw [hE] at this; cases this)
 | true =>
  simp (disch := omega) only [g3t, go_sem, seval, reduceCtorEq]; refine Cont.mk (ACalls.weak (hgd (hk.fin hs) (hk.small hs) _) (.cons (Wk1.ofL wk) .nil)) ?_
  by_cases hF : FaceP f
  case neg =>
   rw [cdec_f hF]; simp (disch := omega) only [hzs, hz6, go_sem, seval, reduceCtorEq]; exact out (pre6 _) hzw (dno fun h => hF (hRP.1 h).2)
  rw [cdec_t hF]; simp (disch := omega) only [go_sem, seval, reduceCtorEq]; refine W.seq_reg ?_; simp (disch := omega) only [g3t, hz6, o1, o2, o3, Bool.and_self, go_sem, seval, reduceCtorEq]; refine wpA.W ?_; simp (disch := omega) only [hzs, go_sem, seval, reduceCtorEq]; exact out (pre6 _) (.cons (Wk1.ofL wk) (.cons (.rfl _) .nil)) (by rw [refV, if_pos (hRP.2 ⟨hE, hF⟩), er])
def c3 : AC :=
 sr [im 2 kF]
 (.seq (sr [im 7 t0, kn 8 (.len true t7), ib 9 .gtr t8 (kc 30000)]
 (.cond t9 (sr [ic 10 4 [], im 2 t10]
 (.ret)) (.skip)))
 (sr [im 12 t0, ic 13 5 [t12], im 11 t13, kn 14 (.ext t11 0), kn 15 (.ext t11 1), kn 3 (.al [ks, (.d (.v (.int .u32 0))), .esl, .esl, .esl]), ke (.st t3 t14 5), im 4 t15]
 (sr [im 17 t0, ic 18 6 [t17], im 16 t18, kn 19 (.ext t16 0), kn 20 (.ext t16 1), kn 5 (.al [ks, (.d (.v (.int .u32 0))), .esl, .esl, .esl]), ke (.st t5 t19 5), im 6 t20]
 (sr [im 21 t4, im 22 t6, ib 23 .eql t21 t22, im 24 t23, ky 25 24 (.ld t3 5 true), ky 26 24 (.ld t5 5 true), ky 27 24 (.call 7 [t25, t26]), kn 28 (.pick t24 t27 kF), im 29 t28, ky 30 29 (.call 4 []), kn 31 (.pick t29 t30 kF), im 2 t31]
 (.ret)))))
def r3 : List RC := [.t 2]
theorem cc3 : cK Tryz.f3 (hhY 3) c3 := by unfold cK; kernel_rfl
theorem rr3 : resC Tryz.prog Tryz.f3 = some r3 := by kernel_rfl
theorem zF_in : FIn zF := ⟨by decide, by simp [zF], by simp [zF], ⟨by simp [zF], fun x hx => by cases hx⟩, fun x hx => (by cases hx), fun x hx => (by cases hx), fun x hx => (by cases hx)⟩
theorem SymfileReads_c (s : ByteArray) (hn : s.size <= 140737488355328) (H : List ABlk) : ACalls Tryz.prog 3 [sv s] H fun v H' => v = bv true /\ H' = H := by
 refine ACalls.into Tryz.func3 cc3 rr3 fun hcl => ?_
 have out : ∀ {b : Bool} {l : List ABlk}, b = true -> Ret r3 H.length (fun v H' => v = bv true /\ H' = H) (some (bv b)) (H ++ l) := fun {b l} h =>
  Ret.drop _ H (Nat.le_refl _) hcl (.rfl _) (by simp [refs]) ⟨by rw [h], rfl⟩
 have out0 : ∀ {b : Bool}, b = true -> Ret r3 H.length (fun v H' => v = bv true /\ H' = H) (some (bv b)) H := fun {b} h => Ret.keep ⟨by rw [h], rfl⟩
 by_cases hz : 30000 < s.size
 ·simp (disch := omega) only [Tryz.ntmps3, c3, r3, go_sem, seval, reduceCtorEq]
  refine Cont.mk (wakesY_c _) ?_; simp (disch := omega) only [go_sem, seval, reduceCtorEq]; exact out0 rfl
 have h1 := decode_c s (by omega); have h2 := rdecode_c (fun hf hs H => rgood16_c hf hs H) s (by omega); rw [refV_eq (by omega)] at h2; have hsm : ∀ (f : Fc), FIn f -> ∀ H, ACalls Tryz.prog 7 [f.av, f.av] H fun v H' => v = bv true /\ H' = H := fun f hf H => (rsame_c hf hf H).mono fun v H' h => ⟨by have := cdec_of h.1; rw [cdec_t rfl] at this; exact this, h.2⟩
 rcases decV_cases s with ⟨g, hg, e2, e3⟩ | ⟨_, e3⟩
 ·rw [e3] at h1 h2
  have h3 := hsm g (hg.fin (by omega)); simp (disch := omega) only [Tryz.ntmps3, c3, r3, go_sem, seval, reduceCtorEq]; refine Cont.mk (h1 _) ?_; simp (disch := omega) only [Fc.cs, go_sem, seval, reduceCtorEq]; refine Cont.mk (h2 _) ?_; simp (disch := omega) only [Fc.cs, go_sem, seval, reduceCtorEq]; refine Cont.mk (h3 _) ?_; simp (disch := omega) only [go_sem, seval, reduceCtorEq]; refine Cont.mk (wakesY_c _) ?_; simp (disch := omega) only [go_sem, seval, reduceCtorEq]; exact out rfl
 ·rw [e3] at h1 h2
  have h3 := hsm zF zF_in; simp (disch := omega) only [Tryz.ntmps3, c3, r3, go_sem, seval, reduceCtorEq]; refine Cont.mk (h1 _) ?_; simp (disch := omega) only [Fc.cs, go_sem, seval, reduceCtorEq]; refine Cont.mk (h2 _) ?_; simp (disch := omega) only [Fc.cs, go_sem, seval, reduceCtorEq]; refine Cont.mk (h3 _) ?_; simp (disch := omega) only [go_sem, seval, reduceCtorEq]; refine Cont.mk (wakesY_c _) ?_; simp (disch := omega) only [go_sem, seval, reduceCtorEq]; exact out rfl
end Go.Proofs.YthifjndenhjobaaGreat.Rid
namespace Go.Proofs.YthifjndenhjobaaGreat
open Go.ChangeShapes Go.WideShapes Go.ChangeAt Go.RowKit
theorem Tryz.laidOut : laidOutB Tryz.prog = true := by kernel_rfl
theorem Tryz.own : ownKnob Tryz.prog.godebug = none := by kernel_rfl
def argL : List TypeId := [9]
theorem argL_ok : dataB Tryz.prog argL = true := by kernel_rfl
theorem symfileReads_any {a0 : AV} (h0 : ArgD Tryz.prog 9 a0) (v0 : Value) (W : World) (hv : VRs ⟨W.cell?, fun _ _ => none⟩ [a0] [v0]) :
 Calls Tryz.prog 3 #[v0] W fun e w' => e = .returned (.bool true) /\ Below W.heap.size W w' := by
 obtain ⟨s, rfl, hs⟩ := h0.str Tryz.underlying9; exact (Rid.SymfileReads_c s hs []).law (fun a v h => h) hv
set_option maxRecDepth 100000 in
theorem symfileReads_lifted (os : Os) (started : os.Started) (H : Type) (enc : TypeId × Value -> H) :
 ReturnsInHanded {} Tryz.checked os 3 .any (Rows.symfileReadsSpec.pre6 enc Tryz.prog Tryz.f3 Rows.symfileReadsRow.domain false) (Rows.symfileReadsSpec.post enc Tryz.prog Tryz.f3 false true false false) := by
 refine returnsInHanded_of_change_sized (C := Tryz.checked) Tryz.own started (by kernel_rfl) Tryz.func3
  (ChangeSpec.witness6 (enc := enc) (C := Tryz.checked) false ⟨#[], #[.string ⟨#[]⟩], []⟩ 8 (by kernel_rfl) (by kernel_rfl) (by kernel_rfl) (by kernel_rfl)) ?_
 intro W base args ds gs before hval0 hW hcnd hsz _
 have hval : ∀ (j : Nat) t v, Tryz.f3.params[j]? = some t -> args[j]? = some v -> Value.okWide Tryz.prog W .any base t v := hval0; have hW' := hW; obtain ⟨p, q, hA0, hV, rfl, hfz, hnd⟩ := hW; have hA : DataW.TrodAll enc Tryz.prog W 0 (fun _ => true) true Tryz.f3.params.toList args.toList ds p := hA0; rw [Tryz.params3] at hA hval hsz; obtain ⟨v0, d0, rfl, rfl, h0⟩ := trodAll_one hA; obtain ⟨rfl, rfl⟩ := trodVars_none hV; obtain ⟨a0, ha0, hr0⟩ := read_val argL_ok (by decide) (hval 0 9 v0 rfl rfl) h0 (fun n hn => of_decide_eq_true (List.all_eq_true.1 hsz n (DataW.weights_mem_each (j := 0) rfl rfl n hn))); clear hA0 hval0; simp only [List.append_nil] at hW'; have hlt := hW'.lt; refine (symfileReads_any ha0 v0 W (.cons hr0 .nil)).mono fun e W' ⟨he, hw⟩ => ?_
 subst he; exact ⟨_, rfl, post_of_below (pa := p) (pv := []) hW' (fun _ _ _ => trodAll_mk1 (shut_bool Tryz.underlying4 _)) (fun sp hsp => trodAll_mk1 (WideElems.Trod_stays Tryz.laidOut (by kernel_rfl) (of_decide_eq_true (by kernel_rfl)) h0 (fun x hx => hw.same (hlt x (by simp [hx]))) (fun x hx => hsp x (by simp [hx])))) (fun _ _ => rfl) (by simp)
  hw (ok_one (by kernel_rfl) rfl (okWide_bool_mk Tryz.underlying4 _))⟩
theorem symfileReads_holds : Rows.SymfileReadsSaid :=
 OpenClaim.holds_of_wide 3 Tryz.f3 rfl rfl rfl rfl rfl rfl rfl ⟨rfl, rfl, rfl, rfl, rfl⟩ rfl rfl rfl rfl rfl (by kernel_rfl) Tryz.func3 (by kernel_rfl)
  (of_decide_eq_true (by kernel_rfl)) (by unfold Func.isWrapper; first | (rw [if_pos (by decide +kernel)]; kernel_rfl) | (rw [if_neg (by decide +kernel)]; exact ⟨rfl, rfl⟩))
  (fun os started H enc _ => symfileReads_lifted os started H enc)
end Go.Proofs.YthifjndenhjobaaGreat
