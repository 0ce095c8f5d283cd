/- The reference: Good. -/
import Derived.Test.YthifjndenhjobaaGreatVP4
import Derived.Test.YthifjndenhjobaaGreatVT14
import Derived.Test.YthifjndenhjobaaGreatVI0
set_option linter.unusedSectionVars false
set_option linter.unusedSimpArgs false
set_option linter.unusedVariables false
set_option maxHeartbeats 4000000
set_option maxRecDepth 20000
namespace Go.Proofs.YthifjndenhjobaaGreat
open Go.RowKit
def c69l0 : AC :=
 .seq (sr [im 55 t8, im 56 t7, ib 57 .lss t55 t56]
 (.cond t57 (.skip) (.exit 6)))
 (.seq (.block 7 (.seq (.dreg [[], [], [0, 1], [2], [3], [4], [5], [6], [6], [7, 8, 6], [9, 6], [10, 6], [11, 6], [6, 12], [13, 6], [14], [14], [15, 16, 14], [17, 14], [18, 14], [14], [14], [20, 21, 14], [22, 14], [23, 14], [19, 24, 14], [14, 25], [26, 14], [27], [27], [28, 29, 27], [30, 27], [31, 27], [27], [27], [33, 34, 27], [35, 27], [36, 27], [32, 37, 27], [27, 38], [39, 27], [40], [40], [41, 42, 40], [43, 40], [44, 40], [45, 40], [40, 46]] [im 60 t0, im 61 t7, kn 62 (.ia t60 t61 10), ia 63 t62 0, il 64 t63, ib 65 .eql t64 (kc 9), im 66 t65, ky 67 66 (.mv t0), ky 68 66 (.mv t8), ky 69 66 (.ia t67 t68 10), ky 70 66 (.fa t69 0), ky 71 66 (.ld t70 1 false), ky 72 66 (.bin .eql t71 (kc 9)), kn 73 (.pick t66 t72 kF), im 74 t73, ky 75 74 (.mv t0), ky 76 74 (.mv t7), ky 77 74 (.ia t75 t76 10), ky 78 74 (.fa t77 1), ky 79 74 (.ld t78 1 false), ky 80 74 (.mv t0), ky 81 74 (.mv t8), ky 82 74 (.ia t80 t81 10), ky 83 74 (.fa t82 1), ky 84 74 (.ld t83 1 false), ky 85 74 (.bin .eql t79 t84), kn 86 (.pick t74 t85 kF), im 87 t86, ky 88 87 (.mv t0), ky 89 87 (.mv t7), ky 90 87 (.ia t88 t89 10), ky 91 87 (.fa t90 9), ky 92 87 (.ld t91 1 false), ky 93 87 (.mv t0), ky 94 87 (.mv t8), ky 95 87 (.ia t93 t94 10), ky 96 87 (.fa t95 9), ky 97 87 (.ld t96 1 false), ky 98 87 (.bin .eql t92 t97), kn 99 (.pick t87 t98 kF), im 100 t99, ky 101 100 (.mv t0), ky 102 100 (.mv t7), ky 103 100 (.ia t101 t102 10), ky 104 100 (.fa t103 9), ky 105 100 (.ld t104 1 false), ky 106 100 (.bin .neq t105 (kc (-1))), kn 107 (.pick t100 t106 kF)])
 (.cond t107 (sr [im 2 kF]
 (.ret)) (.skip))))
 (.reg [im 58 t8, ib 59 .add t58 (kc 1), im 8 t59]))
def c69l1 : AC :=
 .seq (sr [im 45 t7, im 46 t0, kn 47 (.len false t46), ib 48 .lss t45 t47]
 (.cond t48 (.skip) (.exit 4)))
 (.seq (.block 5 (.seq (sr [im 51 t0, im 52 t7, im 53 t6, ic 54 80 [t51, t52, t53]]
 (.cond t54 (sr [im 2 kF]
 (.ret)) (.skip)))
 (sr [im 8 (kc 7)]
 (.block 6 (.loop c69l0)))))
 (.reg [im 49 t7, ib 50 .add t49 (kc 1), im 7 t50]))
def c69l2 : AC :=
 .seq (sr [im 32 t5, im 33 t0, kn 34 (.len false t33), ib 35 .lss t32 t34]
 (.cond t35 (.skip) (.exit 2)))
 (.seq (.block 3 (sr [im 38 t0, im 39 t5, ic 40 79 [t38, t39], kn 41 (.un .not t40)]
 (.cond t41 (sr [im 2 kF]
 (.ret)) (.skip))))
 (.reg [im 36 t5, ib 37 .add t36 (kc 1), im 5 t37]))
def c69l3 : AC :=
 .seq (sr [im 18 t4, ib 19 .lss t18 (kc 7)]
 (.cond t19 (.skip) (.exit 0)))
 (.seq (.block 1 (.seq (.dreg [[], [], [0, 1], [2], [], [], [4, 5], [6], [3, 7], [8]] [im 22 t0, im 23 t4, kn 24 (.ia t22 t23 10), kn 25 (.ld t24 10 true), im 26 t3, im 27 t4, kn 28 (.ia t26 t27 10), kn 29 (.ld t28 10 true), ic 30 58 [t25, t29], kn 31 (.un .not t30)])
 (.cond t31 (sr [im 2 kF]
 (.ret)) (.skip))))
 (.reg [im 20 t4, ib 21 .add t20 (kc 1), im 4 t21]))
def c69 : AC :=
 sr [im 2 kF]
 (.seq (sr [im 9 t0, kn 10 (.len false t9), ib 11 .lss t10 (kc 7), im 12 t11, ko 13 12 (.mv t0), ko 14 12 (.len false t13), ko 15 12 (.bin .gtr t14 (kc 256)), kn 16 (.pick t12 kT t15)]
 (.cond t16 (sr [im 2 kF]
 (.ret)) (.skip)))
 (sr [ic 17 9 [], im 3 t17]
 (.seq (sr [im 4 (kc 0)]
 (.block 0 (.loop c69l3)))
 (.seq (sr [im 5 (kc 7)]
 (.block 2 (.loop c69l2)))
 (sr [im 42 t0, kn 43 (.len false t42), kn 44 (.mks .hp 3 1 8 [kz] t43 t43), im 6 t44]
 (.seq (sr [im 7 (kc 7)]
 (.block 4 (.loop c69l1)))
 (sr [im 2 kT]
 (.ret))))))))
def r69 : List RC := [.t 2]
theorem cc69 : cK Tryz.f69 (hh 69) c69 := by unfold cK; kernel_rfl
theorem rr69 : resC Tryz.prog Tryz.f69 = some r69 := by kernel_rfl
def ClashP (t : List Ty) (i k : Nat) : Prop := (t.getD i default).form = 9 /\ (t.getD k default).form = 9 /\ (t.getD i default).mod = (t.getD k default).mod /\ (t.getD i default).desc = (t.getD k default).desc /\ (t.getD i default).desc ≠ -1
theorem kidsR_ok {t : List Ty} (hs : Small t) (h1 : ¬ t.length < 7) (h2 : t.length <= 256) (hbas : ∀ j, j < 7 -> t.getD j default = bt j) (hone : ∀ j : Nat, 7 <= j -> j < t.length -> OneP t j) : TKidsR t := by
 refine ⟨h2, fun a h0 ha y hy => ?_, fun x hx => (hs.2 x hx).1⟩; rcases Int.lt_or_le a 7 with h7 | h7
 ·have e : tyAt t a = bt a := by
   have := hbas a.toNat (by omega); rw [tyAt, this, show ((a.toNat : Nat) : Int) = a by omega]
  rw [kidr_no (by rw [e]; simp only [bt]; omega) (by rw [e]; simp only [bt]; omega) (by rw [e]; simp only [bt]; omega)] at hy; simp at hy
 ·have ho := hone a.toNat (by omega) (by omega)
  rw [show ((a.toNat : Nat) : Int) = a by omega] at ho
  by_cases f9 : (tyAt t a).form = 9
  ·obtain ⟨_, l, g5, g6, g7, _⟩ := (one_rec f9).1 ho
   rw [kidr_rec f9] at hy; rcases List.mem_append.1 hy with hy | hy
   ·split at hy
    ·simp at hy
    ·rename_i hz
     rw [List.mem_singleton.1 hy]; exact ((bas_step (n := 4) g5).resolve_left hz).1
   ·obtain ⟨f, hf, rfl⟩ := List.mem_map.1 hy
    exact ((g7 a List.mem_cons_self).2 f hf).2.1
  have hsw := ho.2.2.2
  by_cases f7 : (tyAt t a).form = 7
  ·rw [kidr_arr (.inl f7)] at hy
   rw [List.mem_singleton.1 hy]; rcases hsw with h | h | h | h | h
   ·exact h.2.2.2.1
   all_goals omega
  by_cases f8 : (tyAt t a).form = 8
  ·rw [kidr_arr (.inr f8)] at hy
   rw [List.mem_singleton.1 hy]; rcases hsw with h | h | h | h | h
   ·omega
   ·exact h.2.elim (fun h => h.1) (fun h => h.1)
   all_goals omega
  ·rw [kidr_no f7 f8 f9] at hy; simp at hy
theorem rgood_c {t : List Ty} (hs : Small t) (hn : FNames t) (hok : TOk t) (H : List ABlk) : ACalls Tryz.prog 69 [tv t] H fun v H' => v = bv (goodF t) /\ H' = H := by
 refine ACalls.into Tryz.func69 cc69 rr69 fun hcl => ?_
 have htl := hs.1; have fin : ∀ {v : Bool}, v = goodF t -> ∀ l, Ret r69 H.length (fun v H' => v = bv (goodF t) /\ H' = H) (some (bv v)) (H ++ l) := fun {v} e l => Ret.drop (bv v) H (Nat.le_refl _) hcl (.rfl _) (by simp [refs]) ⟨by rw [e], rfl⟩
 have fin0 : ∀ {v : Bool}, v = goodF t -> Ret r69 H.length (fun v H' => v = bv (goodF t) /\ H' = H) (some (bv v)) H := fun {v} e => Ret.keep ⟨by rw [e], rfl⟩
 have nf : ¬ GoodR t -> false = goodF t := fun h => (good_f fun k => h k.ref).symm
 by_cases h1 : t.length < 7
 ·simp (disch := omega) only [Tryz.ntmps69, c69, r69, lnm, go_sem, seval, reduceCtorEq]
  exact fin0 (nf fun h => by have := h.len; omega)
 by_cases h2 : 256 < t.length
 ·simp (disch := omega) only [Tryz.ntmps69, c69, r69, lnm, go_sem, seval, reduceCtorEq]
  exact fin0 (nf fun h => by have := h.len; omega)
 simp (disch := omega) only [Tryz.ntmps69, c69, r69, lnm, go_sem, seval, reduceCtorEq]; refine Cont.rel (rbasic_c H) ?_; rintro v H' ⟨rfl, rfl⟩; simp (disch := omega) only [go_sem, seval, reduceCtorEq]; have hcr : cl (H ++ [.row 52 10 7]) := hcl.row _ _ _; refine W.loopG (γ := Nat) (fun i => 7 - i) (fun i => [tv t, .any, bv false, .d (.sl (basicL.map Ty.c)), iv i] ++ List.replicate 103 .any) (fun _ => H ++ [.row 52 10 7]) (fun i => i <= 7 /\ ∀ j, j < i -> t.getD j default = bt j) 0 (Wk.slots WkL.wk) ⟨by omega, fun j hj => by omega⟩ (fun i hi => ?_); obtain ⟨q1, q2⟩ := hi; simp (disch := omega) only [c69l3, go_sem, seval, reduceCtorEq]; refine Br.dec (fun hc => ?_) (fun hc => ?_) <;> simp (disch := omega) only [go_sem, seval, reduceCtorEq]
 ·have hia := iaA_ty (t := t) (a := i) (by omega) (by omega)
  have hib := iaA_ty (t := basicL) (a := i) (by omega) (by show (i : Int) < (7 : Nat); omega); have e1 : tyAt t (i : Int) = t.getD i default := rfl; have e2 : tyAt basicL (i : Int) = bt i := basic_at (by omega); have al := alike_c (x := tyAt t i) (y := tyAt basicL i) (hok.at_ (by omega) (by omega)) (H ++ [.row 52 10 7]); refine W.pchain follows (by decide +kernel) ?_; rw [Ty.av, Ty.av, Ty.cs, Ty.cs] at al; simp (disch := omega) only [hia, hib, Ty.c, go_sem, seval, reduceCtorEq]; refine PCont.mk al ?_
  cases hd : decide (tyAt t i = tyAt basicL i) with
  | true =>
   simp (disch := omega) only [go_sem, seval, reduceCtorEq]; refine Nxt.mk (i + 1) (by omega) (Wk.slots WkL.wk) ⟨by omega, fun j hj => ?_⟩; rcases Nat.lt_or_ge j i with h' | h'
   ·exact q2 j h'
   ·rw [show j = i by omega, <- e1, of_decide_eq_true hd, e2]
  | false =>
   simp (disch := omega) only [go_sem, seval, reduceCtorEq]; refine fin (nf fun h => of_decide_eq_false hd ?_) _; rw [e1, e2, h.bas i (by omega)]
 have hbas : ∀ j, j < 7 -> t.getD j default = bt j := fun j hj => q2 j (by omega)
 clear q1 q2 hc; refine W.loopG (γ := Nat) (fun i => t.length - i) (fun i => [tv t, .any, bv false, .any, .any, iv i] ++ List.replicate 102 .any) (fun _ => H ++ [.row 52 10 7]) (fun i => 7 <= i /\ i <= t.length /\ ∀ j : Nat, 7 <= j -> j < i -> OneP t j) 7 (Wk.slots WkL.wk) ⟨by omega, by omega, fun j hj => by omega⟩ (fun i hi => ?_); obtain ⟨q0, q1, q2⟩ := hi; simp (disch := omega) only [c69l2, lnm, go_sem, seval, reduceCtorEq]; refine Br.dec (fun hc => ?_) (fun hc => ?_) <;> simp (disch := omega) only [go_sem, seval, reduceCtorEq]
 ·refine Cont.rel (one_c hs hn (a := (i : Int)) ⟨by omega, by omega⟩ _) ?_
  rintro v H' ⟨⟨B, rfl, hB⟩, rfl⟩
  cases B with
  | true =>
   simp (disch := omega) only [go_sem, seval, reduceCtorEq]; refine Nxt.mk (i + 1) (by omega) (Wk.slots WkL.wk) ⟨by omega, by omega, fun j hj7 hj => ?_⟩; rcases Nat.lt_or_ge j i with h' | h'
   ·exact q2 j hj7 h'
   ·rw [show j = i by omega]; exact hB.1 rfl
  | false =>
   simp (disch := omega) only [go_sem, seval, reduceCtorEq]; exact fin (nf fun h => by have := hB.2 (h.one i q0 (by omega)); cases this) _
 have hone : ∀ j : Nat, 7 <= j -> j < t.length -> OneP t j := fun j h7 hj => q2 j h7 (by omega)
 clear q0 q1 q2; have hz0 : (List.replicate t.length [iv 0]).flatten = (List.replicate t.length 0).map iv := rep_flat _; rw [hz0]; have hk := kidsR_ok hs h1 (by omega) hbas hone; obtain ⟨S, hS⟩ : ∃ S : Nat × List Int -> List AV, ∀ g, S g = [tv t, .any, bv false, .any, .any, .any, .hsl (H.length + 1) 0 t.length t.length 1, iv g.1] ++ List.replicate 100 .any := ⟨_, fun _ => rfl⟩; refine W.loopG (γ := Nat × List Int) (fun g => t.length - g.1) S (fun g => H ++ [.row 52 10 7, .cells (g.2.map iv)])
  (fun g => 7 <= g.1 /\ g.1 <= t.length /\ Met (KdR t) t.length g.2 /\ (∀ x : Int, 0 <= x -> x < t.length -> mt g.2 x ≠ 1) /\ (∀ j : Nat, 7 <= j -> j < g.1 -> Acc (KdR t) j) /\ (∀ i k : Nat, 7 <= k -> k < i -> i < g.1 -> ¬ ClashP t i k))
  (7, List.replicate t.length 0) (by rw [hS]; exact Wk.slots WkL.wk) ⟨by omega, by omega, Met.zero, fun x h0 h1 => by rw [mt_rep]; omega, fun j hj => by omega, fun i k _ _ hk => by simp only at hk; omega⟩ (fun g hg => ?_)
 obtain ⟨i, met⟩ := g; obtain ⟨w0, w1, w2, w3, w4, w5⟩ := hg; simp only at w0 w1 w2 w3 w4 w5; simp (disch := omega) only [c69l1, hS, lnm, apS, go_sem, seval, reduceCtorEq]; refine Br.dec (fun hc2 => ?_) (fun hc2 => ?_) <;> simp (disch := omega) only [go_sem, seval, reduceCtorEq]
 ·refine Cont.rel (round_c hk (zc met + 1) (by omega) w2 (Way.none w3) (a := (i : Int)) (b := H.length + 1) (by omega) (hb_1' _ _ _)) ?_
  rintro v H' ⟨B, m', rfl, rfl, e1, e2, e3⟩; have hst : (H ++ [ABlk.row 52 10 7, .cells (met.map iv)]).set (H.length + 1) (.cells (m'.map iv)) = H ++ [.row 52 10 7, .cells (m'.map iv)] := by rw [List.set_append_right _ _ (by omega)]; simp
  rw [hst]
  cases B with
  | true =>
   simp (disch := omega) only [go_sem, seval, reduceCtorEq]; exact fin (nf fun h => e3 rfl (h.acc i w0 (by omega))) _
  | false =>
   obtain ⟨f1, f2, f3⟩ := e2 rfl; simp (disch := omega) only [go_sem, seval, reduceCtorEq]; obtain ⟨S2, hS2⟩ : ∃ S2 : Nat -> List AV, ∀ k, S2 k = [tv t, .any, bv false, .any, .any, .any, .hsl (H.length + 1) 0 t.length t.length 1, iv i, iv k] ++ List.replicate 99 .any := ⟨_, fun _ => rfl⟩; refine W.loopG (γ := Nat) (fun k => i - k) S2 (fun _ => H ++ [.row 52 10 7, .cells (m'.map iv)]) (fun k => 7 <= k /\ k <= i /\ ∀ j : Nat, 7 <= j -> j < k -> ¬ ClashP t i j) 7 (by rw [hS2]; exact Wk.slots WkL.wk) ⟨by omega, w0, fun j h7 hj => by omega⟩ (fun k hk' => ?_); obtain ⟨y0, y1, y2⟩ := hk'; simp (disch := omega) only [c69l0, hS2, apS, go_sem, seval, reduceCtorEq]; refine Br.dec (fun hc3 => ?_) (fun hc3 => ?_) <;> simp (disch := omega) only [go_sem, seval, reduceCtorEq]
   ·have hia := iaA_ty (t := t) (a := i) (by omega) (by omega)
    have hib := iaA_ty (t := t) (a := k) (by omega) (by omega); have e1 : tyAt t (i : Int) = t.getD i default := rfl; have e2 : tyAt t (k : Int) = t.getD k default := rfl; rw [e1] at hia; rw [e2] at hib; have hC : ClashP t i k ↔ (t.getD i default).form = 9 /\ (t.getD k default).form = 9 /\ (t.getD i default).mod = (t.getD k default).mod /\ (t.getD i default).desc = (t.getD k default).desc /\ (t.getD i default).desc ≠ -1 := Iff.rfl; have nxt : ∀ {s' : List AV}, ¬ ClashP t i k -> WkL s' (S2 (k + 1)) -> Nxt H.length (fun k => i - k) S2 (fun _ => H ++ [.row 52 10 7, .cells (m'.map iv)]) (fun k => 7 <= k /\ k <= i /\ ∀ j : Nat, 7 <= j -> j < k -> ¬ ClashP t i j) (i - k) s' (H ++ [.row 52 10 7, .cells (m'.map iv)]) := fun {s'} h hk => by
     refine Nxt.mk (k + 1) (by omega) (Wk.slots hk) ⟨by omega, by omega, fun j h7 hj => ?_⟩; rcases Nat.lt_or_ge j k with h' | h'
     ·exact y2 j h7 h'
     ·rw [show j = k by omega]; exact h
    generalize t.getD i default = x at *
    generalize t.getD k default = y at *
    refine W.pchain follows (by decide +kernel) ?_
    by_cases b1 : x.form = 9
    rotate_left
    ·simp (disch := omega) only [hia, hib, Ty.c, go_sem, seval, reduceCtorEq]
     exact nxt (fun h => b1 (hC.1 h).1) (WkL.tw 9 (hS2 _))
    by_cases b2 : y.form = 9
    rotate_left
    ·simp (disch := omega) only [hia, hib, Ty.c, go_sem, seval, reduceCtorEq]
     exact nxt (fun h => b2 (hC.1 h).2.1) (WkL.tw 9 (hS2 _))
    by_cases b3 : x.mod = y.mod
    rotate_left
    ·have k3 := decide_eq_false b3
     simp (disch := omega) only [hia, hib, Ty.c, k3, go_sem, seval, reduceCtorEq]; exact nxt (fun h => b3 (hC.1 h).2.2.1) (WkL.tw 9 (hS2 _))
    have k3 := decide_eq_true b3
    by_cases b4 : x.desc = y.desc
    rotate_left
    ·simp (disch := omega) only [hia, hib, Ty.c, k3, go_sem, seval, reduceCtorEq]
     exact nxt (fun h => b4 (hC.1 h).2.2.2.1) (WkL.tw 9 (hS2 _))
    by_cases b5 : x.desc = -1
    ·simp (disch := omega) only [hia, hib, Ty.c, k3, go_sem, seval, reduceCtorEq]
     exact nxt (fun h => (hC.1 h).2.2.2.2 b5) (WkL.tw 9 (hS2 _))
    ·simp (disch := omega) only [hia, hib, Ty.c, k3, go_sem, seval, reduceCtorEq]
     exact fin (nf fun h => h.uni i k y0 (by omega) (by omega) (show ClashP t i k from hC.2 ⟨b1, b2, b3, b4, b5⟩)) _
   ·refine Nxt.mk (i + 1, m') (by simp only; omega) (Wk.slots (WkL.tw 8 (hS _))) ⟨by simp only; omega, by simp only; omega, f2, f3.none w3, fun j h7 hj => ?_, fun a k h7 hk ha => ?_⟩
    ·rcases Nat.lt_or_ge j i with h' | h'
     ·exact w4 j h7 h'
     ·rw [show j = i by simp only at hj; omega]; exact f1
    ·rcases Nat.lt_or_ge a i with h' | h'
     ·exact w5 a k h7 hk h'
     ·rw [show a = i by simp only at ha; omega]; exact y2 k h7 (by omega)
 ·refine fin (v := true) (good_t (GoodR.good ⟨⟨by omega, by omega⟩, hbas, hone, fun i h7 hi => w4 i h7 (by omega), fun i k h7 hk hi => w5 i k h7 hk (by omega)⟩)).symm _
def c31 : AC :=
 sr [kn 1 (.bx t0), im 2 kF]
 (sr [kn 3 (.ld t1 5 true), ic 4 56 [t3], im 5 t4, ky 6 5 (.ld t1 5 true), ky 7 5 (.call 57 [t6]), kn 8 (.pick t5 t7 kF), im 2 t8]
 (.ret))
def r31 : List RC := [.t 2]
def c56l0 : AC :=
 .seq (sr [im 93 t6, im 94 t5, ib 95 .lss t93 t94]
 (.cond t95 (.skip) (.exit 6)))
 (.seq (.block 7 (.seq (.dreg [[], [0], [], [1, 2], [3], [4], [], [6], [], [7, 8], [9], [10], [5, 11]] [ia 98 t1 4, il 99 t98, im 100 t6, kn 101 (.ia t99 t100 7), ia 102 t101 1, il 103 t102, ia 104 t1 4, il 105 t104, im 106 t5, kn 107 (.ia t105 t106 7), ia 108 t107 1, il 109 t108, ib 110 .eql t103 t109])
 (.cond t110 (sr [im 2 kF]
 (.ret)) (.skip))))
 (.reg [im 96 t6, ib 97 .add t96 (kc 1), im 6 t97]))
def c56l1 : AC :=
 .seq (sr [im 78 t5, ia 79 t1 4, il 80 t79, kn 81 (.len false t80), ib 82 .lss t78 t81]
 (.cond t82 (.skip) (.exit 4)))
 (.seq (.block 5 (.seq (.seq (.dreg [[], [], [1], [], [2, 3], [4], [0, 5], [6]] [kn 85 (.ld t1 5 true), ia 86 t1 4, il 87 t86, im 88 t5, kn 89 (.ia t87 t88 7), kn 90 (.ld t89 7 true), ic 91 71 [t85, t90], kn 92 (.un .not t91)])
 (.cond t92 (sr [im 2 kF]
 (.ret)) (.skip)))
 (sr [im 6 (kc 0)]
 (.block 6 (.loop c56l0)))))
 (.reg [im 83 t5, ib 84 .add t83 (kc 1), im 5 t84]))
def c56l2 : AC :=
 .seq (sr [im 60 t4, im 61 t3, ib 62 .lss t60 t61]
 (.cond t62 (.skip) (.exit 2)))
 (.seq (.block 3 (.seq (.dreg [[], [0], [], [1, 2], [3], [4], [], [6], [], [7, 8], [9], [10], [5, 11]] [ia 65 t1 2, il 66 t65, im 67 t4, kn 68 (.ia t66 t67 2), ia 69 t68 0, il 70 t69, ia 71 t1 2, il 72 t71, im 73 t3, kn 74 (.ia t72 t73 2), ia 75 t74 0, il 76 t75, ib 77 .eql t70 t76])
 (.cond t77 (sr [im 2 kF]
 (.ret)) (.skip))))
 (.reg [im 63 t4, ib 64 .add t63 (kc 1), im 4 t64]))
def c56l3 : AC :=
 .seq (sr [im 34 t3, ia 35 t1 2, il 36 t35, kn 37 (.len false t36), ib 38 .lss t34 t37]
 (.cond t38 (.skip) (.exit 0)))
 (.seq (.block 1 (.seq (.seq (.dreg [[], [0], [], [1, 2], [3], [4], [5], [6], [7, 6], [8], [9, 8], [8], [10, 11, 8], [12, 8], [13, 8], [8], [15, 8], [14, 16, 8], [8, 17]] [ia 41 t1 2, il 42 t41, im 43 t3, kn 44 (.ia t42 t43 2), ia 45 t44 0, il 46 t45, ic 47 68 [t46], kn 48 (.un .not t47), im 49 t48, ko 50 49 (.fa t1 2), ko 51 49 (.ld t50 1 false), ko 52 49 (.mv t3), ko 53 49 (.ia t51 t52 2), ko 54 49 (.fa t53 0), ko 55 49 (.ld t54 1 false), ko 56 49 (.fa t1 0), ko 57 49 (.ld t56 1 false), ko 58 49 (.bin .eql t55 t57), kn 59 (.pick t49 kT t58)])
 (.cond t59 (sr [im 2 kF]
 (.ret)) (.skip)))
 (sr [im 4 (kc 0)]
 (.block 2 (.loop c56l2)))))
 (.reg [im 39 t3, ib 40 .add t39 (kc 1), im 3 t40]))
def c56 : AC :=
 sr [kn 1 (.bx t0), im 2 kF]
 (.seq (sr [ia 7 t1 0, il 8 t7, ic 9 68 [t8], kn 10 (.un .not t9), im 11 t10, ko 12 11 (.fa t1 2), ko 13 11 (.ld t12 1 false), ko 14 11 (.len false t13), ko 15 11 (.bin .gtr t14 (kc 16)), kn 16 (.pick t11 kT t15), im 17 t16, ko 18 17 (.fa t1 4), ko 19 17 (.ld t18 1 false), ko 20 17 (.len false t19), ko 21 17 (.bin .gtr t20 (kc 64)), kn 22 (.pick t17 kT t21), im 23 t22, ko 24 23 (.fa t1 3), ko 25 23 (.ld t24 1 false), ko 26 23 (.call 69 [t25]), ko 27 23 (.un .not t26), kn 28 (.pick t23 kT t27), im 29 t28, ko 30 29 (.ld t1 5 true), ko 31 29 (.call 70 [t30]), ko 32 29 (.un .not t31), kn 33 (.pick t29 kT t32)]
 (.cond t33 (sr [im 2 kF]
 (.ret)) (.skip)))
 (.seq (sr [im 3 (kc 0)]
 (.block 0 (.loop c56l3)))
 (.seq (sr [im 5 (kc 0)]
 (.block 4 (.loop c56l1)))
 (sr [im 2 kT]
 (.ret)))))
def r56 : List RC := [.t 2]
theorem cc31 : cK Tryz.f31 (hhI 31) c31 := by unfold cK; kernel_rfl
theorem rr31 : resC Tryz.prog Tryz.f31 = some r31 := by kernel_rfl
theorem cc56 : cK Tryz.f56 (hhI 56) c56 := by unfold cK; kernel_rfl
theorem rr56 : resC Tryz.prog Tryz.f56 = some r56 := by kernel_rfl
theorem nam_iff {f : Fc} (hg : GoodP f.types) : NamP f ↔ (∀ i, i < f.types.length -> ModP f (f.types.getD i default).mod) /\ ∀ i j, i < j -> j < f.types.length -> ¬ SameN (f.types.getD i default) (f.types.getD j default) := by
 constructor
 ·intro h
  refine ⟨fun i hi => ?_, fun i j hij hj hs => ?_⟩
  ·rcases Nat.lt_or_ge i 7 with h7 | h7
   ·rw [hg.bas i h7]; exact .inl rfl
   ·exact h.1 i h7 hi
  ·rcases Nat.lt_or_ge i 7 with h7 | h7
   ·rw [hg.bas i h7] at hs; exact hs.1 rfl
   ·exact h.2 j i h7 hij hj hs.symm
 ·intro h
  exact ⟨fun i _ hi => h.1 i hi, fun i k _ hk hi hs => h.2 k i hk hi hs.symm⟩
abbrev ShR (f : Fc) (H : List ABlk) (v : AV) (H' : List ABlk) : Prop := (∃ B, v = bv B /\ (B = true ↔ ShapeP f)) /\ H' = H
theorem shaped_c {f : Fc} (hf : FIn f) (hs : Small f.types) (H : List ABlk) : ACalls Tryz.prog 56 [f.av] H (ShR f H) := by
 refine ACalls.into Tryz.func56 cc56 rr56 fun hcl => ?_
 have hus := hf.us; have hos := hf.os; have fin : ∀ {B : Bool} {l : List ABlk}, (B = true ↔ ShapeP f) -> Ret [RC.t 2] H.length (ShR f H) (some (bv B)) (H ++ l) := fun {B l} h =>
  Ret.drop _ H (Nat.le_refl _) hcl (.rfl _) (by simp [refs]) ⟨⟨B, rfl, h⟩, rfl⟩
 have no : ∀ {l : List ABlk}, ¬ ShapeP f -> Ret [RC.t 2] H.length (ShR f H) (some (bv false)) (H ++ l) := fun h => fin ⟨fun h' => (by cases h'), fun h' => absurd h' h⟩
 by_cases h1 : Nm f.name
 rotate_left
 ·simp (disch := omega) only [Tryz.ntmps56, c56, r56, Fc.cs, go_sem, seval, reduceCtorEq]
  refine Cont.mk (iword_c _ _) ?_; rw [nm_f h1]; simp (disch := omega) only [go_sem, seval, reduceCtorEq]; exact no fun h => h1 h.nm
 have h1' := nm_t h1
 by_cases h2 : 16 < f.uses.length
 ·simp (disch := omega) only [Tryz.ntmps56, c56, r56, Fc.cs, go_sem, seval, reduceCtorEq]
  refine Cont.mk (iword_c _ _) ?_; rw [h1']; simp (disch := omega) only [lnm, go_sem, seval, reduceCtorEq]; exact no fun h => by have := h.us; omega
 by_cases h3 : 64 < f.objs.length
 ·simp (disch := omega) only [Tryz.ntmps56, c56, r56, Fc.cs, go_sem, seval, reduceCtorEq]
  refine Cont.mk (iword_c _ _) ?_; rw [h1']; simp (disch := omega) only [lnm, go_sem, seval, reduceCtorEq]; exact no fun h => by have := h.os; omega
 simp (disch := omega) only [Tryz.ntmps56, c56, r56, Fc.cs, go_sem, seval, reduceCtorEq]; refine Cont.mk (iword_c _ _) ?_; rw [h1']; simp (disch := omega) only [lnm, go_sem, seval, reduceCtorEq]; refine Cont.mk (rgood_c hs hf.fn hf.ty _) ?_
 by_cases hg : GoodP f.types
 rotate_left
 ·rw [good_f hg]
  simp (disch := omega) only [go_sem, seval, reduceCtorEq]; exact no fun h => hg h.ty
 rw [good_t hg]; simp (disch := omega) only [go_sem, seval, reduceCtorEq]; refine Cont.rel (named16_c hf _) ?_; rintro v H' ⟨⟨B, rfl, hB⟩, rfl⟩
 cases hBv : B with
 | false =>
  simp (disch := omega) only [go_sem, seval, reduceCtorEq]; exact no fun h => by have := hB.2 ((nam_iff hg).2 ⟨h.md, h.nn⟩); rw [hBv] at this; cases this
 | true =>
  have hN := (nam_iff hg).1 (hB.1 hBv); simp (disch := omega) only [go_sem, seval, reduceCtorEq]; have gu : ∀ i : Nat, i < f.uses.length -> iaA (.d (.sl (f.uses.map Us.c))) (i : Int) 2 = some (.ip (f.uses.getD i default).c) := fun i hi => iaA_us (t := f.uses) (a := i) (by omega) (by omega)
  have go : ∀ i : Nat, i < f.objs.length -> iaA (.d (.sl (f.objs.map Ob.c))) (i : Int) 7 = some (.ip (f.objs.getD i default).c) := fun i hi => iaA_ob (t := f.objs) (a := i) (by omega) (by omega)
  obtain ⟨S, hS⟩ : ∃ S : Nat -> List AV, ∀ i, S i = [.any, .ptr H.length 0, bv false, iv i] ++ List.replicate 107 .any := ⟨_, fun _ => rfl⟩; refine W.loopG (γ := Nat) (fun i => f.uses.length - i) S (fun _ => H ++ [.cells f.cs]) (fun i => i <= f.uses.length /\ UseTo f i) 0 (Wk.slots (WkL.tw 4 (hS _))) ⟨by omega, ⟨fun j hj => by omega, fun k j hk hj => by omega⟩⟩ (fun i hi => ?_); obtain ⟨q1, q2⟩ := hi; simp (disch := omega) only [c56l3, hS, Fc.cs, lnm, go_sem, seval, reduceCtorEq]; refine Br.dec (fun hc => ?_) (fun hc => ?_) <;> simp (disch := omega) only [go_sem, seval, reduceCtorEq]
  ·refine W.pchain follows (by decide +kernel) ?_
   have gi := gu i (by omega)
   generalize hx : f.uses.getD i default = x at *
   simp (disch := omega) only [gi, Us.c, go_sem, seval, reduceCtorEq]; refine PCont.mk (iword_c _ _) ?_
   by_cases b1 : Nm x.name
   rotate_left
   ·rw [nm_f b1]
    simp (disch := omega) only [go_sem, seval, reduceCtorEq]; exact no fun h => b1 (by have := (h.use.nm i (by omega)).1; rwa [hx] at this)
   rw [nm_t b1]
   cases b2 : decide (x.name = f.name) with
   | true =>
    simp (disch := omega) only [gi, Us.c, b2, go_sem, seval, reduceCtorEq]; exact no fun h => by have := (h.use.nm i (by omega)).2; rw [hx] at this; exact this (of_decide_eq_true b2)
   | false =>
    simp (disch := omega) only [gi, Us.c, b2, go_sem, seval, reduceCtorEq]; obtain ⟨S2, hS2⟩ : ∃ S : Nat -> List AV, ∀ k, S k = [.any, .ptr H.length 0, bv false, iv i, iv k] ++ List.replicate 106 .any := ⟨_, fun _ => rfl⟩; refine W.loopG (γ := Nat) (fun k => i - k) S2 (fun _ => H ++ [.cells f.cs]) (fun k => k <= i /\ ∀ j, j < k -> (f.uses.getD j default).name ≠ x.name) 0 (Wk.slots (WkL.tw 5 (hS2 _))) ⟨by omega, fun j hj => by omega⟩ (fun k hk => ?_); obtain ⟨y1, y2⟩ := hk; simp (disch := omega) only [c56l2, hS2, Fc.cs, lnm, go_sem, seval, reduceCtorEq]; refine Br.dec (fun hc2 => ?_) (fun hc2 => ?_) <;> simp (disch := omega) only [go_sem, seval, reduceCtorEq]
    ·refine W.pchain follows (by decide +kernel) ?_
     have gk := gu k (by omega)
     generalize hy : f.uses.getD k default = y at *
     cases b3 : decide (y.name = x.name) with
     | true =>
      simp (disch := omega) only [gi, gk, Us.c, b3, go_sem, seval, reduceCtorEq]; exact no fun h => h.use.nd k i (by omega) (by omega) (by rw [hx, hy]; exact of_decide_eq_true b3)
     | false =>
      simp (disch := omega) only [gi, gk, Us.c, b3, go_sem, seval, reduceCtorEq]; refine Nxt.mk (k + 1) (by omega) (Wk.slots (WkL.tw 5 (hS2 _))) ⟨by omega, fun j hj => ?_⟩; rcases Nat.lt_or_ge j k with h' | h'
      ·exact y2 j h'
      ·rw [show j = k by omega, hy]; exact of_decide_eq_false b3
    ·refine Nxt.mk (i + 1) (by omega) (Wk.slots (WkL.tw 4 (hS _))) ⟨by omega, ⟨fun j hj => ?_, fun k2 j hk2 hj => ?_⟩⟩
     ·rcases Nat.lt_or_ge j i with h' | h'
      ·exact q2.nm j h'
      ·rw [show j = i by omega, hx]; exact ⟨b1, of_decide_eq_false b2⟩
     ·rcases Nat.lt_or_ge j i with h' | h'
      ·exact q2.nd k2 j hk2 h'
      ·rw [show j = i by omega, hx]; exact y2 k2 (by omega)
  ·have qU := q2
   rw [show i = f.uses.length by omega] at qU; clear q1 q2 hc hS S; obtain ⟨S, hS⟩ : ∃ S : Nat -> List AV, ∀ i, S i = [.any, .ptr H.length 0, bv false, .any, .any, iv i] ++ List.replicate 105 .any := ⟨_, fun _ => rfl⟩; refine W.loopG (γ := Nat) (fun i => f.objs.length - i) S (fun _ => H ++ [.cells f.cs]) (fun i => i <= f.objs.length /\ ObjTo f i) 0 (Wk.slots (WkL.tw 6 (hS _))) ⟨by omega, ⟨fun j hj => by omega, fun k j hk hj => by omega⟩⟩ (fun i hi => ?_); obtain ⟨q1, q2⟩ := hi; simp (disch := omega) only [c56l1, hS, Fc.cs, lnm, go_sem, seval, reduceCtorEq]; refine Br.dec (fun hc => ?_) (fun hc => ?_) <;> simp (disch := omega) only [go_sem, seval, reduceCtorEq]
   ·refine W.pchain follows (by decide +kernel) ?_
    have gi := go i (by omega); have hin := hf.ob _ (obAt_mem (l := f.objs) (i := i) (by omega))
    generalize hx : f.objs.getD i default = x at *
    simp (disch := omega) only [gi, Ob.c, go_sem, seval, reduceCtorEq]; refine PCont.mk ((robject_c (f := f) (o := x) (by have := hs.1; omega) hin.2.2.1 _).mono fun v H' h => ⟨cdec_of h.1, h.2⟩) ?_
    by_cases b1 : ObP f.types x
    rotate_left
    ·rw [cdec_f b1]
     simp (disch := omega) only [go_sem, seval, reduceCtorEq]; exact no fun h => b1 (by have := h.obj.ob i (by omega); rwa [hx] at this)
    rw [cdec_t b1]; simp (disch := omega) only [go_sem, seval, reduceCtorEq]; obtain ⟨S2, hS2⟩ : ∃ S : Nat -> List AV, ∀ k, S k = [.any, .ptr H.length 0, bv false, .any, .any, iv i, iv k] ++ List.replicate 104 .any := ⟨_, fun _ => rfl⟩; refine W.loopG (γ := Nat) (fun k => i - k) S2 (fun _ => H ++ [.cells f.cs]) (fun k => k <= i /\ ∀ j, j < k -> (f.objs.getD j default).name ≠ x.name) 0 (Wk.slots (WkL.tw 7 (hS2 _))) ⟨by omega, fun j hj => by omega⟩ (fun k hk => ?_); obtain ⟨y1, y2⟩ := hk; simp (disch := omega) only [c56l0, hS2, Fc.cs, lnm, go_sem, seval, reduceCtorEq]; refine Br.dec (fun hc2 => ?_) (fun hc2 => ?_) <;> simp (disch := omega) only [go_sem, seval, reduceCtorEq]
    ·refine W.pchain follows (by decide +kernel) ?_
     have gk := go k (by omega)
     generalize hy : f.objs.getD k default = y at *
     cases b3 : decide (y.name = x.name) with
     | true =>
      simp (disch := omega) only [gi, gk, Ob.c, b3, go_sem, seval, reduceCtorEq]; exact no fun h => h.obj.nd k i (by omega) (by omega) (by rw [hx, hy]; exact of_decide_eq_true b3)
     | false =>
      simp (disch := omega) only [gi, gk, Ob.c, b3, go_sem, seval, reduceCtorEq]; refine Nxt.mk (k + 1) (by omega) (Wk.slots (WkL.tw 7 (hS2 _))) ⟨by omega, fun j hj => ?_⟩; rcases Nat.lt_or_ge j k with h' | h'
      ·exact y2 j h'
      ·rw [show j = k by omega, hy]; exact of_decide_eq_false b3
    ·refine Nxt.mk (i + 1) (by omega) (Wk.slots (WkL.tw 6 (hS _))) ⟨by omega, ⟨fun j hj => ?_, fun k2 j hk2 hj => ?_⟩⟩
     ·rcases Nat.lt_or_ge j i with h' | h'
      ·exact q2.ob j h'
      ·rw [show j = i by omega, hx]; exact b1
     ·rcases Nat.lt_or_ge j i with h' | h'
      ·exact q2.nd k2 j hk2 h'
      ·rw [show j = i by omega, hx]; exact y2 k2 (by omega)
   ·rw [show i = f.objs.length by omega] at q2
    exact fin ⟨fun _ => ⟨h1, by omega, by omega, hg, hN.1, hN.2, all_at qU.nm, (nodup_at _ _).2 qU.nd, all_at q2.ob, (nodup_at _ _).2 q2.nd⟩, fun _ => rfl⟩
theorem rgood16_c {f : Fc} (hf : FIn f) (hs : Small f.types) (H : List ABlk) : ACalls Tryz.prog 31 [f.av] H fun v H' => v = bv (cdec (FaceP f)) /\ H' = H := by
 refine ACalls.into Tryz.func31 cc31 rr31 fun hcl => ?_
 have fin : ∀ {B : Bool} {l : List ABlk}, (B = true ↔ FaceP f) -> Ret [RC.t 2] H.length (fun v H' => v = bv (cdec (FaceP f)) /\ H' = H) (some (bv B)) (H ++ l) := fun {B l} h =>
  Ret.drop _ H (Nat.le_refl _) hcl (.rfl _) (by simp [refs]) ⟨cdec_of ⟨B, rfl, h⟩, rfl⟩
 simp (disch := omega) only [Tryz.ntmps31, c31, r31, Fc.cs, go_sem, seval, reduceCtorEq]; refine Cont.rel (shaped_c hf hs _) ?_; rintro v H' ⟨⟨B, rfl, hB⟩, rfl⟩
 cases hBv : B with
 | false =>
  simp (disch := omega) only [go_sem, seval, reduceCtorEq]; exact fin ⟨fun h => (by cases h), fun h => by have := hB.2 h.toShapeP; rw [hBv] at this; cases this⟩
 | true =>
  have hsh := hB.1 hBv; simp (disch := omega) only [go_sem, seval, reduceCtorEq]; refine Cont.rel (numbered_c hf hsh.ty _) ?_; rintro v H' ⟨⟨B2, rfl, hB2⟩, rfl⟩; simp (disch := omega) only [go_sem, seval, reduceCtorEq]; exact fin (hB2.trans ⟨fun h => ⟨hsh, h⟩, fun h => h.num⟩)
end Go.Proofs.YthifjndenhjobaaGreat
