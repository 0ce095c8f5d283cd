/- tables.Good. -/
import Derived.Test.YthifjndenhjobaaGreatVP5
import Derived.Test.YthifjndenhjobaaGreatVIC
import Derived.Test.YthifjndenhjobaaGreatVI8
set_option linter.unusedSectionVars false
set_option linter.unusedSimpArgs false
set_option linter.unusedVariables false
set_option maxHeartbeats 4000000
set_option maxRecDepth 20000
namespace Go.Proofs.YthifjndenhjobaaGreat
open Go.RowKit
noncomputable instance (t : List Ty) : Decidable (GoodP t) := Classical.propDecidable _
def c85l0 : AC :=
 sr [ib 50 .lss t49 t48]
 (.seq (.cond t50 (.skip) (.exit 2))
 (.seq (.block 3 (sr [im 51 t49, kn 52 (.ia t47 t49 10), kn 53 (.ld t52 10 true), kn 8 (.al [kz, ks, ks, kz, kz, kz, .esl, .esl, kz, kz]), im 7 t51, ke (.st t8 t53 10)]
 (.seq (sr [ia 54 t8 0, il 55 t54, ib 56 .eql t55 (kc 9), im 57 t56, ky 58 57 (.fa t8 9), ky 59 57 (.ld t58 1 false), ky 60 57 (.bin .geq t59 (kc 0)), kn 61 (.pick t57 t60 kF)]
 (.cond t61 (.dreg [[], [], [1], [], [3], [2, 4], [0, 5], [6], [0, 5, 0, 1, 2, 3, 4, 5], [8], [0, 9, 7, 8, 0, 1, 2, 3, 4, 5, 6, 7, 8, 9]] [im 62 t6, ia 63 t8 1, il 64 t63, ia 65 t8 9, il 66 t65, kn 67 (.bd [ks, kz] [(0, 1, t64), (1, 1, t66)]), kn 68 (.lk ⟨true, [.s, .i .i64]⟩ kz t62 t67 false), ib 69 .add t68 (kc 1), kn 70 (.me ⟨true, [.s, .i .i64]⟩ kz t62 t67), kn 71 (.ext t70 1), ke (.mes t62 t71 t69)]) (.skip)))
 (sr [im 72 t6, ia 73 t8 1, il 74 t73, ia 75 t8 9, il 76 t75, kn 77 (.bd [ks, kz] [(0, 1, t74), (1, 1, t76)]), kn 78 (.lk ⟨true, [.s, .i .i64]⟩ kz t72 t77 false), ib 79 .gtr t78 (kc 1), im 80 t79, ko 81 80 (.ld t1 1 false), ko 82 80 (.mv t7), ko 83 80 (.mv t5), ko 84 80 (.call 97 [t81, t82, t83]), ko 85 80 (.un .not t84), kn 86 (.pick t80 kT t85)]
 (.cond t86 (sr [im 2 kF]
 (.ret)) (.skip))))))
 (.reg [ib 87 .add t49 (kc 1), im 49 t87])))
def c85l1 : AC :=
 sr [ib 20 .lss t19 t18]
 (.seq (.cond t20 (.skip) (.exit 0))
 (.seq (.block 1 (sr [im 21 t19, kn 22 (.ia t17 t19 10), kn 23 (.ld t22 10 true), kn 4 (.al [kz, ks, ks, kz, kz, kz, .esl, .esl, kz, kz]), im 3 t21, ke (.st t4 t23 10)]
 (sr [im 24 t3, ib 25 .leq t24 (kc 6), im 26 t25, ky 27 26 (.ld t4 10 true), ky 28 26 (.mv t3), ky 29 26 (.call 95 [t27, t28]), ky 30 26 (.un .not t29), kn 31 (.pick t26 t30 kF), im 32 t31, ko 33 32 (.mv t3), ko 34 32 (.bin .gtr t33 (kc 6)), ko 35 32 (.mv t34), ky 36 35 (.ld t1 1 false), ky 37 35 (.ld t4 10 true), ky 38 35 (.call 96 [t36, t37]), ky 39 35 (.un .not t38), ko 40 32 (.pick t35 t39 kF), kn 41 (.pick t32 kT t40)]
 (.cond t41 (sr [im 2 kF]
 (.ret)) (.skip)))))
 (.reg [ib 42 .add t19 (kc 1), im 19 t42])))
def c85 : AC :=
 sr [kn 1 (.bx t0), im 2 kF]
 (.seq (sr [il 9 t1, kn 10 (.len false t9), ib 11 .leq t10 (kc 6), im 12 t11, ko 13 12 (.ld t1 1 false), ko 14 12 (.len false t13), ko 15 12 (.bin .gtr t14 (kc 256)), kn 16 (.pick t12 kT t15)]
 (.cond t16 (sr [im 2 kF]
 (.ret)) (.skip)))
 (.seq (sr [il 17 t1, kn 18 (.len false t17), im 19 (kc 0)]
 (.block 0 (.loop c85l1)))
 (sr [il 43 t1, kn 44 (.len false t43), kn 45 (.mks .hp 3 1 8 [kz] t44 t44), im 5 t45]
 (sr [kn 46 (.mkm ⟨true, [.s, .i .i64]⟩), im 6 t46]
 (.seq (sr [il 47 t1, kn 48 (.len false t47), im 49 (kc 0)]
 (.block 2 (.loop c85l0)))
 (sr [il 88 t1, kn 89 (.mkf 99 [t1]), ic 90 98 [t88, t89], kn 91 (.un .not t90), im 2 t91]
 (.ret)))))))
def r85 : List RC := [.t 2]
theorem cc85 : cK Tryz.f85 (hh 85) c85 := by unfold cK; kernel_rfl
theorem rr85 : resC Tryz.prog Tryz.f85 = some r85 := by kernel_rfl
noncomputable def goodF (t : List Ty) : Bool := decide (GoodP t)
theorem good_t {t : List Ty} (h : GoodP t) : goodF t = true := decide_eq_true h
theorem good_f {t : List Ty} (h : ¬ GoodP t) : goodF t = false := decide_eq_false h
def FrmTo (t : List Ty) (i : Nat) : Prop := ∀ j, j < i -> (j < 7 -> t.getD j default = bt j) /\ (7 <= j -> FormedP t (t.getD j default))
abbrev SG (H : List ABlk) : List AV := [.any, .ptr H.length 0, bv false]
theorem rep_flat : ∀ n : Nat, (List.replicate n [iv 0]).flatten = (List.replicate n 0).map iv
 | 0 => rfl
 | n + 1 => by simp only [List.replicate_succ, List.flatten_cons, List.map_cons, rep_flat n]; rfl
theorem mt_rep (n : Nat) (x : Int) : mt (List.replicate n 0) x = 0 := by
 simp only [mt, gD, List.getElem?_replicate]; split <;> rfl
theorem hq_0 (H : List ABlk) (a b c d : ABlk) : (H ++ [a, b, c, d])[H.length]? = some a := by rw [List.getElem?_append_right (Nat.le_refl _)]; simp
theorem hq_1 (H : List ABlk) (a b c d : ABlk) : (H ++ [a, b, c, d])[H.length + 1]? = some b := by rw [List.getElem?_append_right (by omega)]; simp
theorem hq_2 (H : List ABlk) (a b c d : ABlk) : (H ++ [a, b, c, d])[H.length + 2]? = some c := by rw [List.getElem?_append_right (by omega)]; simp
theorem hq_3 (H : List ABlk) (a b c d : ABlk) : (H ++ [a, b, c, d])[H.length + 3]? = some d := by rw [List.getElem?_append_right (by omega)]; simp
theorem hq_s1 (H : List ABlk) (a b c d e : ABlk) : (H ++ [a, b, c, d]).set (H.length + 1) e = H ++ [a, e, c, d] := by rw [List.set_append_right _ _ (by omega)]; simp
theorem hq_s2 (H : List ABlk) (a b c d e : ABlk) : (H ++ [a, b, c, d]).set (H.length + 2) e = H ++ [a, b, e, d] := by rw [List.set_append_right _ _ (by omega)]; simp
theorem hq_s3 (H : List ABlk) (a b c d e : ABlk) : (H ++ [a, b, c, d]).set (H.length + 3) e = H ++ [a, b, c, e] := by rw [List.set_append_right _ _ (by omega)]; simp
theorem cl_g {H : List ABlk} (h : cl H) {t : List Ty} (m : List Int) {α : Type} {f : α -> Value} {kt : KT} {ck : Nat} (l : List α) : cl (H ++ [.cells [tv t], .cells (m.map iv), .map kt ck (mkK f 0 l)]) := by
 refine h.append fun k hk r hr => ?_
 simp only [List.mem_cons, List.not_mem_nil, or_false] at hk; rcases hk with rfl | rfl | rfl
 ·simp [ABlk.refs, refs.refsL, refs] at hr
 ·simp [ABlk.refs, refs_iv] at hr
 ·rw [mkK_refs] at hr; simp at hr
theorem FrmP.desc {t : List Ty} (h : FrmP t) {a : Int} (h0 : 0 <= a) (h1 : a < t.length) : -1 <= (tyAt t a).desc /\ (tyAt t a).desc <= 64 := by
 rcases h.at_ h0 h1 with ⟨h7, e⟩ | ⟨h7, f⟩
 ·rw [e]; simp [bt]
 ·by_cases f9 : (tyAt t a).form = 9
  ·obtain ⟨⟨_, _, c3, c4⟩, _⟩ := FrmP.f9 f f9; omega
  ·have := f.2.2.1; simp [want, f9] at this; omega
theorem good_c {t : List Ty} (hs : Small t) (hn : FNames t) (H : List ABlk) : ACalls Tryz.prog 85 [tv t] H fun v H' => v = bv (goodF t) /\ H' = H := by
 refine ACalls.into Tryz.func85 cc85 rr85 fun hcl => ?_
 have htl := hs.1; have fin : ∀ {v : Bool}, v = goodF t -> ∀ l, Ret r85 H.length (fun v H' => v = bv (goodF t) /\ H' = H) (some (bv v)) (H ++ l) := fun {v} e l => Ret.drop (bv v) H (Nat.le_refl _) hcl (.rfl _) (by simp [refs]) ⟨by rw [e], rfl⟩
 have no : ¬ GoodP t -> ∀ l, Ret r85 H.length (fun v H' => v = bv (goodF t) /\ H' = H) (some (bv false)) (H ++ l) := fun h l => fin (good_f h).symm l
 have hb1 : ∀ l : List ABlk, (H ++ (.cells [tv t] :: l))[H.length]? = some (.cells [tv t]) := fun l => by rw [List.getElem?_append_right (Nat.le_refl _)]; simp
 by_cases h1 : t.length <= 6
 ·simp (disch := omega) only [Tryz.ntmps85, c85, r85, hb1, lnm, apS, go_sem, seval, reduceCtorEq]
  exact no (fun h => by have := h.len; omega) _
 by_cases h2 : 256 < t.length
 ·simp (disch := omega) only [Tryz.ntmps85, c85, r85, hb1, lnm, apS, go_sem, seval, reduceCtorEq]
  exact no (fun h => by have := h.len; omega) _
 simp (disch := omega) only [Tryz.ntmps85, c85, r85, hb1, lnm, apS, go_sem, seval, reduceCtorEq]; obtain ⟨S, hS⟩ : ∃ S : Nat -> List AV, ∀ i, S i = SG H ++ List.replicate 14 .any ++ [tv t, iv t.length, iv i] ++ List.replicate 72 .any := ⟨_, fun _ => rfl⟩; have hclb : cl (H ++ [.cells [tv t]]) := hcl.append fun k hk r hr => by simp at hk; subst hk; simp [ABlk.refs, refs.refsL, refs] at hr
 refine W.loopG (γ := Nat) (fun i => t.length - i) S (fun _ => H ++ [.cells [tv t]]) (fun i => i <= t.length /\ FrmTo t i) 0 (by rw [hS]; exact Wk.slots WkL.wk) ⟨by omega, fun j hj => by omega⟩ (fun i hi => ?_); obtain ⟨q1, q2⟩ := hi; simp (disch := omega) only [c85l1, hS, apS, go_sem, seval, reduceCtorEq]; refine Br.dec (fun hc => ?_) (fun hc => ?_) <;> simp (disch := omega) only [go_sem, seval, reduceCtorEq]
 ·have hia := iaA_ty (t := t) (a := i) (by omega) (by omega)
  have e : tyAt t (i : Int) = t.getD i default := rfl; have hxm := tyAt_mem (t := t) (a := i) (by omega) (by omega); obtain ⟨x1, x2, x3, x4⟩ := hs.2 _ hxm; rw [e] at hia x1 x2 x3 x4 hxm; have nx : (i < 7 -> t.getD i default = bt i) -> (7 <= i -> FormedP t (t.getD i default)) -> FrmTo t (i + 1) := fun g1 g2 j hj => by
   rcases Nat.lt_or_ge j i with h' | h'
   ·exact q2 j h'
   ·rw [show j = i by omega]; exact ⟨g1, g2⟩
  have nb : i < 7 -> t.getD i default ≠ bt i -> ¬ GoodP t := fun g1 g2 h => g2 (h.bas i g1)
  have nf : 7 <= i -> ¬ FormedP t (t.getD i default) -> ¬ GoodP t := fun g1 g2 h => g2 (h.frm i g1 (by omega))
  have nxt : ∀ {s' : List AV} {k : ABlk}, FrmTo t (i + 1) -> WkL s' (S (i + 1)) -> Nxt H.length (fun i => t.length - i) S (fun _ => H ++ [.cells [tv t]]) (fun i => i <= t.length /\ FrmTo t i) (t.length - i) s' (H ++ [.cells [tv t], k]) := fun {s' k} hB hk => by
   rw [show ∀ (A : List ABlk) (p q : ABlk), A ++ [p, q] = (A ++ [p]) ++ [q] from fun A p q => by simp]; refine Nxt.mk (i + 1) (by omega) (Wk.drop hk (by simp) hclb ?_) ⟨by omega, hB⟩; rw [hS]; simp [refs, refs.refsL]
  have hbc := bare_c (x := t.getD i default) (i : Int) (by omega) (by omega); have hfc := formed_c (t := t) (x := t.getD i default) (by omega) (by omega) (by omega)
  generalize t.getD i default = x at *
  by_cases h7 : i < 7
  ·simp (disch := omega) only [hia, Ty.c, hb1, hb_0', hb_1', apS, go_sem, seval, reduceCtorEq]
   refine Cont.mk (hbc _) ?_
   by_cases hx : x = bt i
   ·have k := decide_eq_true hx
    simp (disch := omega) only [k, go_sem, seval, reduceCtorEq]; exact nxt (nx (fun _ => hx) (fun h => by omega)) (WkL.tw 20 (hS _))
   ·have k := decide_eq_false hx
    simp (disch := omega) only [k, go_sem, seval, reduceCtorEq]; exact no (nb h7 hx) _
  ·simp (disch := omega) only [hia, Ty.c, hb1, hb_0', hb_1', apS, go_sem, seval, reduceCtorEq]
   refine Cont.rel (hfc _) ?_; rintro v H' ⟨⟨B, rfl, hB⟩, rfl⟩
   cases B with
   | true =>
    simp (disch := omega) only [go_sem, seval, reduceCtorEq]; exact nxt (nx (fun h => by omega) (fun _ => hB.1 rfl)) (WkL.tw 20 (hS _))
   | false =>
    simp (disch := omega) only [go_sem, seval, reduceCtorEq]; exact no (nf (by omega) (fun h => by have := hB.2 h; cases this)) _
 ·have hie : i = t.length := by omega
  subst hie; have hF : FrmP t := ⟨⟨by omega, by omega⟩, fun j hj => (q2 j (by omega)).1 hj, fun j h7 hj => (q2 j hj).2 h7⟩; obtain ⟨S2, hS2⟩ : ∃ S2 : Nat × List Int × List (ByteArray × Int) -> List AV, ∀ g, S2 g = SG H ++ [.any, .any, .hsl (H.length + 1) 0 t.length t.length 1, .mp (H.length + 2)] ++ List.replicate 40 .any ++ [tv t, iv t.length, iv g.1] ++ List.replicate 42 .any := ⟨_, fun _ => rfl⟩; have hz0 : (List.replicate t.length [iv 0]).flatten = (List.replicate t.length 0).map iv := rep_flat _; rw [hz0]; refine W.loopG (γ := Nat × List Int × List (ByteArray × Int)) (fun g => t.length - g.1) S2 (fun g => H ++ [.cells [tv t], .cells (g.2.1.map iv), .map ktR g.2.2.length (mkK rkey 0 g.2.2)])
   (fun g => g.1 <= t.length /\ Met (KdC t) t.length g.2.1 /\ (∀ x : Int, 0 <= x -> x < t.length -> mt g.2.1 x ≠ 1) /\ (∀ j : Nat, j < g.1 -> Acc (KdC t) j) /\ (∀ p, p ∈ g.2.2 ↔ ∃ j, j < g.1 /\ (t.getD j default).form = 9 /\ 0 <= (t.getD j default).desc /\ p = ((t.getD j default).mod, (t.getD j default).desc)) /\ (∀ j k, j < k -> k < g.1 -> ¬ Twice (t.getD j default) (t.getD k default)))
   (0, List.replicate t.length 0, []) (by simp only [hS2]; exact Wk.slots WkL.wk) ⟨by omega, Met.zero, fun x h0 h1 => by rw [mt_rep]; omega, fun j hj => by omega, fun p => ⟨fun h => by simp at h, fun ⟨j, hj, _⟩ => by omega⟩, fun j k _ hk => by omega⟩ (fun g hg => ?_)
  obtain ⟨i, met, recs⟩ := g; obtain ⟨w1, w2, w3, w4, w5, w6⟩ := hg; simp only at w1 w2 w3 w4 w5 w6; simp (disch := omega) only [c85l0, hS2, apS, go_sem, seval, reduceCtorEq]; refine Br.dec (fun hc2 => ?_) (fun hc2 => ?_) <;> simp (disch := omega) only [go_sem, seval, reduceCtorEq]
  ·have hia := iaA_ty (t := t) (a := i) (by omega) (by omega)
   have e : tyAt t (i : Int) = t.getD i default := rfl; have hxm := tyAt_mem (t := t) (a := i) (by omega) (by omega); obtain ⟨x1, x2, x3, x4⟩ := hs.2 _ hxm; have hds := hF.desc (a := (i : Int)) (by omega) (by omega); rw [e] at hia x1 x2 x3 x4 hxm hds; have u5 : ∀ p, (∃ j, j < i + 1 /\ (t.getD j default).form = 9 /\ 0 <= (t.getD j default).desc /\ p = ((t.getD j default).mod, (t.getD j default).desc)) ↔ (p ∈ recs \/ ((t.getD i default).form = 9 /\ 0 <= (t.getD i default).desc /\ p = ((t.getD i default).mod, (t.getD i default).desc))) := fun p => by
    rw [w5]; refine ⟨fun ⟨j, hj, h⟩ => ?_, fun h => ?_⟩
    ·rcases Nat.lt_or_ge j i with h' | h'
     ·exact .inl ⟨j, h', h⟩
     ·have : j = i := by omega
      subst this; exact .inr h
    ·rcases h with ⟨j, hj, h⟩ | h
     ·exact ⟨j, by omega, h⟩
     ·exact ⟨i, by omega, h⟩
   have u6 : ((t.getD i default).form = 9 -> 0 <= (t.getD i default).desc -> ((t.getD i default).mod, (t.getD i default).desc) ∉ recs) -> ∀ j k, j < k -> k < i + 1 -> ¬ Twice (t.getD j default) (t.getD k default) := fun h j k hjk hk => by
    rcases Nat.lt_or_ge k i with h' | h'
    ·exact w6 j k hjk h'
    ·have : k = i := by omega
     subst this; rintro ⟨g1, g2, g3, g4, g5⟩; exact h g2 (by omega) ((w5 _).2 ⟨j, hjk, g1, g3, by rw [g4, g5]⟩)
   have u7 : ((t.getD i default).form = 9 /\ 0 <= (t.getD i default).desc) -> ((t.getD i default).mod, (t.getD i default).desc) ∈ recs -> ¬ GoodP t := fun ⟨h9, hd⟩ hm h => by
    obtain ⟨j, hj, g1, g2, g3⟩ := (w5 _).1 hm; have e1 := congrArg Prod.fst g3; have e2 := congrArg Prod.snd g3; exact h.uni j i hj (by omega) ⟨g1, h9, g2, e1.symm, e2.symm⟩
   have u8 : (∀ p, (p ∈ recs ++ [((t.getD i default).mod, (t.getD i default).desc)]) ↔ (p ∈ recs \/ p = ((t.getD i default).mod, (t.getD i default).desc))) := fun p => by simp
   generalize t.getD i default = x at *
   have hkf := rkey_fits (s := x.mod) (n := x.desc) (by omega) hds
   by_cases hr : x.form = 9 /\ 0 <= x.desc
   ·have k9 := decide_eq_true hr.1
    simp (disch := omega) only [hia, Ty.c, k9, hb_0, hb_1, hb_2, hq_0, hq_1, hq_2, hq_3, hq_s3, hb_3, hs_3, apS, go_sem, seval, reduceCtorEq]
    by_cases hm : (x.mod, x.desc) ∈ recs
    ·obtain ⟨c, es2, g1, _, g3, g4⟩ := mkK_yes (f := rkey) rkey_eq (s := (x.mod, x.desc)) (iv 2) (n := 0) hm
     refine W.dregM 6 (H.length + 2) 68 69 70 71 62 67 ktR (iv 0) (iv 1) (iv 2) (iv 1) recs.length recs.length c (rkey (x.mod, x.desc)) (mkK rkey 0 recs) (mkK rkey 0 recs) es2 rfl follows (by decide +kernel) rfl (by decide +kernel) (by decide) (hq_2 _ _ _ _ _) hkf (by rw [rkey_eq]; simp) (.inl ⟨g1, rfl, rfl⟩) rfl g3 rfl ?_; simp (disch := omega) only [List.take_succ_cons, List.take_zero, hq_0, hq_1, hq_2, hq_3, hq_s1, hq_s2, hq_s3, apS, go_sem, seval, reduceCtorEq]; refine ⟨rfl, rfl, rfl, rfl, rfl, rfl, ?_⟩; simp (disch := omega) only [hq_0, hq_1, hq_2, hq_3, hq_s1, hq_s2, hq_s3, apS, Ty.cs, rkey_of, hkf, mapOf, g4, hb1, go_sem, seval, reduceCtorEq]; exact no (u7 hr hm) _
    ·have g1 := mkK_no (f := rkey) rkey_eq (s := (x.mod, x.desc)) (n := 0) hm
     have g3 := mkK_new (f := rkey) rkey_eq (s := (x.mod, x.desc)) recs (iv 0) 0 recs.length (by omega); obtain ⟨c, _, g4, _⟩ := mkK_yes (f := rkey) rkey_eq (s := (x.mod, x.desc)) (iv 2) (n := 0) (l := recs ++ [(x.mod, x.desc)]) (by simp); refine W.dregM 6 (H.length + 2) 68 69 70 71 62 67 ktR (iv 0) (iv 0) (iv 1) (iv 1) recs.length (recs.length + 1) recs.length (rkey (x.mod, x.desc)) (mkK rkey 0 recs) (mkK rkey 0 recs ++ [(rkey (x.mod, x.desc), iv 0, recs.length)]) (mkK rkey 0 (recs ++ [(x.mod, x.desc)])) rfl follows (by decide +kernel) rfl (by decide +kernel) (by decide) (hq_2 _ _ _ _ _) hkf (by rw [rkey_eq]; simp) (.inr ⟨g1, rfl, rfl, rfl, rfl⟩) rfl g3 rfl ?_; have hlr : recs.length + 1 = (recs ++ [(x.mod, x.desc)]).length := by simp
     rw [hlr]; simp (disch := omega) only [List.take_succ_cons, List.take_zero, hq_0, hq_1, hq_2, hq_3, hq_s1, hq_s2, hq_s3, apS, go_sem, seval, reduceCtorEq]; refine ⟨rfl, rfl, rfl, rfl, rfl, rfl, ?_⟩; simp (disch := omega) only [hq_0, hq_1, hq_2, hq_3, hq_s1, hq_s2, hq_s3, apS, Ty.cs, rkey_of, hkf, mapOf, g4, hb1, go_sem, seval, reduceCtorEq]; refine Cont.rel (ends_c (hF.tk hs) (zc met + 1) (by omega) w2 (Way.none w3) (by omega) (a := (i : Int)) (b := H.length + 1) (hq_1 _ _ _ _ _)) ?_; rintro v H' ⟨B, m', rfl, rfl, e1, e2, e3⟩
     cases B with
     | true =>
      obtain ⟨f1, f2, f3⟩ := e2 rfl; simp (disch := omega) only [hq_s1, go_sem, seval, reduceCtorEq]; rw [show ∀ (A : List ABlk) (p q r u : ABlk), A ++ [p, q, r, u] = (A ++ [p, q, r]) ++ [u] from fun A p q r u => by simp]; rw [hlr]; refine Nxt.mk (i + 1, m', recs ++ [(x.mod, x.desc)]) (by simp only; omega) (Wk.drop (WkL.tw 50 (hS2 _)) (by simp) (cl_g hcl _ _) (by rw [hS2]; simp [refs, refs.refsL])) ⟨by simp only; omega, f2, f3.none w3, fun j hj => ?_, ?_, ?_⟩
      ·rcases Nat.lt_or_ge j i with h' | h'
       ·exact w4 j h'
       ·rw [show j = i by simp only at hj; omega]; exact f1
      ·intro p; simp only; rw [u5, u8]; constructor <;> (rintro (h | h); exact .inl h; first | exact .inr h.2.2 | exact .inr ⟨hr.1, hr.2, h⟩)
      ·exact u6 fun _ _ => hm
     | false =>
      simp (disch := omega) only [hq_s1, go_sem, seval, reduceCtorEq]; exact no (fun h => e3 rfl (h.acc _ (by omega) (by omega))) _
   ·have hlk : ∃ v : Int, (v = 0 \/ v = 1) /\ ∃ c, mapGet (mkK rkey 0 recs) (rkey (x.mod, x.desc)) = some (iv v, c) \/ (v = 0 /\ mapGet (mkK rkey 0 recs) (rkey (x.mod, x.desc)) = none) := by
     by_cases hm : (x.mod, x.desc) ∈ recs
     ·obtain ⟨c, _, g4, _⟩ := mkK_yes (f := rkey) rkey_eq (s := (x.mod, x.desc)) (iv 2) (n := 0) hm
      exact ⟨1, .inr rfl, c, .inl g4⟩
     ·exact ⟨0, .inl rfl, 0, .inr ⟨rfl, mkK_no (f := rkey) rkey_eq (n := 0) hm⟩⟩
    simp (disch := omega) only [hia, Ty.c, hb_0, hb_1, hb_2, hq_0, hq_1, hq_2, hq_3, hq_s3, hb_3, hs_3, apS, go_sem, seval, reduceCtorEq]; refine Br.dec (fun k9 => ?_) (fun k9 => ?_) <;> simp (disch := omega) only [hq_0, hq_1, hq_2, hq_3, hq_s1, hq_s2, hq_s3, apS, Ty.cs, go_sem, seval, reduceCtorEq]
    ·obtain ⟨v, hv, c, hlk⟩ := hlk
     rcases hlk with g4 | ⟨rfl, g4⟩
     ·simp (disch := omega) only [hq_0, hq_1, hq_2, hq_3, hq_s1, hq_s2, hq_s3, apS, Ty.cs, rkey_of, hkf, mapOf, g4, hb1, go_sem, seval, reduceCtorEq]
      refine Cont.rel (ends_c (hF.tk hs) (zc met + 1) (by omega) w2 (Way.none w3) (by omega) (a := (i : Int)) (b := H.length + 1) (hq_1 _ _ _ _ _)) ?_; rintro v H' ⟨B, m', rfl, rfl, e1, e2, e3⟩
      cases B with
      | true =>
       obtain ⟨f1, f2, f3⟩ := e2 rfl; simp (disch := omega) only [hq_s1, go_sem, seval, reduceCtorEq]; rw [show ∀ (A : List ABlk) (p q r u : ABlk), A ++ [p, q, r, u] = (A ++ [p, q, r]) ++ [u] from fun A p q r u => by simp]; refine Nxt.mk (i + 1, m', recs) (by simp only; omega) (Wk.drop (WkL.tw 50 (hS2 _)) (by simp) (cl_g hcl _ _) (by rw [hS2]; simp [refs, refs.refsL])) ⟨by simp only; omega, f2, f3.none w3, fun j hj => ?_, ?_, ?_⟩
       ·rcases Nat.lt_or_ge j i with h' | h'
        ·exact w4 j h'
        ·rw [show j = i by simp only at hj; omega]; exact f1
       ·intro p; simp only; rw [u5]; exact ⟨.inl, fun h => h.resolve_right fun h => hr ⟨h.1, h.2.1⟩⟩
       ·exact u6 fun h9 hd => absurd ⟨h9, hd⟩ hr
      | false =>
       simp (disch := omega) only [hq_s1, go_sem, seval, reduceCtorEq]; exact no (fun h => e3 rfl (h.acc _ (by omega) (by omega))) _
     ·simp (disch := omega) only [hq_0, hq_1, hq_2, hq_3, hq_s1, hq_s2, hq_s3, apS, Ty.cs, rkey_of, hkf, mapOf, g4, hb1, go_sem, seval, reduceCtorEq]
      refine Cont.rel (ends_c (hF.tk hs) (zc met + 1) (by omega) w2 (Way.none w3) (by omega) (a := (i : Int)) (b := H.length + 1) (hq_1 _ _ _ _ _)) ?_; rintro v H' ⟨B, m', rfl, rfl, e1, e2, e3⟩
      cases B with
      | true =>
       obtain ⟨f1, f2, f3⟩ := e2 rfl; simp (disch := omega) only [hq_s1, go_sem, seval, reduceCtorEq]; rw [show ∀ (A : List ABlk) (p q r u : ABlk), A ++ [p, q, r, u] = (A ++ [p, q, r]) ++ [u] from fun A p q r u => by simp]; refine Nxt.mk (i + 1, m', recs) (by simp only; omega) (Wk.drop (WkL.tw 50 (hS2 _)) (by simp) (cl_g hcl _ _) (by rw [hS2]; simp [refs, refs.refsL])) ⟨by simp only; omega, f2, f3.none w3, fun j hj => ?_, ?_, ?_⟩
       ·rcases Nat.lt_or_ge j i with h' | h'
        ·exact w4 j h'
        ·rw [show j = i by simp only at hj; omega]; exact f1
       ·intro p; simp only; rw [u5]; exact ⟨.inl, fun h => h.resolve_right fun h => hr ⟨h.1, h.2.1⟩⟩
       ·exact u6 fun h9 hd => absurd ⟨h9, hd⟩ hr
      | false =>
       simp (disch := omega) only [hq_s1, go_sem, seval, reduceCtorEq]; exact no (fun h => e3 rfl (h.acc _ (by omega) (by omega))) _
    ·obtain ⟨v, hv, c, hlk⟩ := hlk
     rcases hlk with g4 | ⟨rfl, g4⟩
     ·simp (disch := omega) only [hq_0, hq_1, hq_2, hq_3, hq_s1, hq_s2, hq_s3, apS, Ty.cs, rkey_of, hkf, mapOf, g4, hb1, go_sem, seval, reduceCtorEq]
      refine Cont.rel (ends_c (hF.tk hs) (zc met + 1) (by omega) w2 (Way.none w3) (by omega) (a := (i : Int)) (b := H.length + 1) (hq_1 _ _ _ _ _)) ?_; rintro v H' ⟨B, m', rfl, rfl, e1, e2, e3⟩
      cases B with
      | true =>
       obtain ⟨f1, f2, f3⟩ := e2 rfl; simp (disch := omega) only [hq_s1, go_sem, seval, reduceCtorEq]; rw [show ∀ (A : List ABlk) (p q r u : ABlk), A ++ [p, q, r, u] = (A ++ [p, q, r]) ++ [u] from fun A p q r u => by simp]; refine Nxt.mk (i + 1, m', recs) (by simp only; omega) (Wk.drop (WkL.tw 50 (hS2 _)) (by simp) (cl_g hcl _ _) (by rw [hS2]; simp [refs, refs.refsL])) ⟨by simp only; omega, f2, f3.none w3, fun j hj => ?_, ?_, ?_⟩
       ·rcases Nat.lt_or_ge j i with h' | h'
        ·exact w4 j h'
        ·rw [show j = i by simp only at hj; omega]; exact f1
       ·intro p; simp only; rw [u5]; exact ⟨.inl, fun h => h.resolve_right fun h => hr ⟨h.1, h.2.1⟩⟩
       ·exact u6 fun h9 hd => absurd ⟨h9, hd⟩ hr
      | false =>
       simp (disch := omega) only [hq_s1, go_sem, seval, reduceCtorEq]; exact no (fun h => e3 rfl (h.acc _ (by omega) (by omega))) _
     ·simp (disch := omega) only [hq_0, hq_1, hq_2, hq_3, hq_s1, hq_s2, hq_s3, apS, Ty.cs, rkey_of, hkf, mapOf, g4, hb1, go_sem, seval, reduceCtorEq]
      refine Cont.rel (ends_c (hF.tk hs) (zc met + 1) (by omega) w2 (Way.none w3) (by omega) (a := (i : Int)) (b := H.length + 1) (hq_1 _ _ _ _ _)) ?_; rintro v H' ⟨B, m', rfl, rfl, e1, e2, e3⟩
      cases B with
      | true =>
       obtain ⟨f1, f2, f3⟩ := e2 rfl; simp (disch := omega) only [hq_s1, go_sem, seval, reduceCtorEq]; rw [show ∀ (A : List ABlk) (p q r u : ABlk), A ++ [p, q, r, u] = (A ++ [p, q, r]) ++ [u] from fun A p q r u => by simp]; refine Nxt.mk (i + 1, m', recs) (by simp only; omega) (Wk.drop (WkL.tw 50 (hS2 _)) (by simp) (cl_g hcl _ _) (by rw [hS2]; simp [refs, refs.refsL])) ⟨by simp only; omega, f2, f3.none w3, fun j hj => ?_, ?_, ?_⟩
       ·rcases Nat.lt_or_ge j i with h' | h'
        ·exact w4 j h'
        ·rw [show j = i by simp only at hj; omega]; exact f1
       ·intro p; simp only; rw [u5]; exact ⟨.inl, fun h => h.resolve_right fun h => hr ⟨h.1, h.2.1⟩⟩
       ·exact u6 fun h9 hd => absurd ⟨h9, hd⟩ hr
      | false =>
       simp (disch := omega) only [hq_s1, go_sem, seval, reduceCtorEq]; exact no (fun h => e3 rfl (h.acc _ (by omega) (by omega))) _
  ·have hit : i = t.length := by omega
   subst hit; refine Cont.rel (hasT_c 99 [.ptr H.length 0] (Odd1 t) (by kernel_rfl) (by omega) (fun i hi => odd1_c (hF.tb hs hn) (hb_0 _ _ _ _) i hi)) ?_; rintro v H' ⟨⟨B, rfl, hB⟩, rfl⟩; simp (disch := omega) only [go_sem, seval, reduceCtorEq]
   cases hBv : B with
   | true =>
    obtain ⟨i, h1, h2⟩ := hB.1 hBv; exact no (fun h => h.chn i h1 h2) _
   | false =>
    refine fin (v := true) (good_t ⟨hF, fun a h0 h1 => ?_, fun j k hjk hk => w6 j k hjk hk, fun i hi h => by have := hB.2 ⟨i, hi, h⟩; rw [hBv] at this; cases this⟩).symm _; have := w4 a.toNat (by omega)
    rwa [show ((a.toNat : Nat) : Int) = a by omega] at this
theorem nodup_at {α β : Type} [Inhabited α] (g : α -> β) (l : List α) : (l.map g).Nodup ↔ ∀ k j, k < j -> j < l.length -> g (l.getD k default) ≠ g (l.getD j default) := by
 rw [List.Nodup, List.pairwise_map, List.pairwise_iff_getElem]
 constructor
 ·intro h k j hkj hj
  have := h k j (by omega) hj hkj
  rwa [gD, gD, gE (by omega), gE hj]
 ·intro h k j hk hj hkj
  have := h k j hkj hj
  rwa [gD, gD, gE hk, gE hj] at this
theorem all_at {α : Type} [Inhabited α] {P : α -> Prop} {l : List α} (h : ∀ i, i < l.length -> P (l.getD i default)) : ∀ x ∈ l, P x := fun x hx => by
 obtain ⟨i, hi, rfl⟩ := List.getElem_of_mem hx; have := h i hi
 rwa [gD, gE hi] at this
noncomputable def cdec (p : Prop) : Bool := @decide p (Classical.propDecidable p)
theorem cdec_t {p : Prop} (h : p) : cdec p = true := @decide_eq_true p (Classical.propDecidable p) h
theorem cdec_f {p : Prop} (h : ¬ p) : cdec p = false := @decide_eq_false p (Classical.propDecidable p) h
theorem cdec_of {p : Prop} {v : AV} (h : ∃ B, v = bv B /\ (B = true ↔ p)) : v = bv (cdec p) := by
 obtain ⟨B, rfl, hB⟩ := h
 by_cases hp : p
 ·rw [cdec_t hp, hB.2 hp]
 ·rw [cdec_f hp]
  cases B with
  | false => rfl
  | true => exact absurd (hB.1 rfl) hp
structure UseTo (f : Fc) (n : Nat) : Prop where
 nm : ∀ j, j < n -> Nm (f.uses.getD j default).name /\ (f.uses.getD j default).name ≠ f.name
 nd : ∀ k j, k < j -> j < n -> (f.uses.getD k default).name ≠ (f.uses.getD j default).name
structure ObjTo (f : Fc) (n : Nat) : Prop where
 ob : ∀ j, j < n -> ObP f.types (f.objs.getD j default)
 nd : ∀ k j, k < j -> j < n -> (f.objs.getD k default).name ≠ (f.objs.getD j default).name
theorem ShapeP.use {f : Fc} (h : ShapeP f) : UseTo f f.uses.length := ⟨fun j hj => h.un _ (usAt_mem hj), (nodup_at Us.name _).1 h.ud⟩
theorem ShapeP.obj {f : Fc} (h : ShapeP f) : ObjTo f f.objs.length := ⟨fun j hj => h.ob _ (obAt_mem hj), (nodup_at Ob.name _).1 h.od⟩
end Go.Proofs.YthifjndenhjobaaGreat
