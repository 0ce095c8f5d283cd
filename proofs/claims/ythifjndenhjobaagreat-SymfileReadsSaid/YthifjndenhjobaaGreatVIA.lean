/- Objects are found by their names. -/
import Derived.Test.YthifjndenhjobaaGreatVI5
set_option linter.unusedSectionVars false
set_option linter.unusedSimpArgs false
set_option linter.unusedVariables false
set_option maxHeartbeats 4000000
set_option maxRecDepth 20000
namespace Go.Proofs.YthifjndenhjobaaGreat
open Go.RowKit
structure FindP (l : List Ob) (s : ByteArray) (x : Ob) (b : Bool) : Prop where
 yes : b = true -> ∃ i, i < l.length /\ l.getD i default = x /\ x.name = s /\ ∀ j, j < i -> (l.getD j default).name ≠ s
 no : b = false -> x = default /\ ∀ j, j < l.length -> (l.getD j default).name ≠ s
theorem FindP.det {l : List Ob} {s : ByteArray} {x y : Ob} {b c : Bool} (h : FindP l s x b) (k : FindP l s y c) : x = y /\ b = c := by
 cases b with
 | true =>
  obtain ⟨i, h1, h2, h3, h4⟩ := h.yes rfl
  cases c with
  | true =>
   obtain ⟨j, k1, k2, k3, k4⟩ := k.yes rfl; rcases Nat.lt_trichotomy i j with e | e | e
   ·exact absurd (by rw [h2]; exact h3) (k4 i e)
   ·subst e; exact ⟨by rw [<- h2, k2], rfl⟩
   ·exact absurd (by rw [k2]; exact k3) (h4 j e)
  | false => exact absurd (by rw [h2]; exact h3) ((k.no rfl).2 i h1)
 | false =>
  cases c with
  | true =>
   obtain ⟨j, k1, k2, k3, k4⟩ := k.yes rfl; exact absurd (by rw [k2]; exact k3) ((h.no rfl).2 j k1)
  | false => exact ⟨by rw [(h.no rfl).1, (k.no rfl).1], rfl⟩
def c33 : AC :=
 sr [kn 2 (.bx t0), kn 3 (.bx t1), im 4 kF]
 (sr [ia 5 t2 0, il 6 t5, ia 7 t3 0, il 8 t7, ib 9 .eql t6 t8, im 10 t9, ky 11 10 (.fa t2 1), ky 12 10 (.ld t11 1 false), ky 13 10 (.fa t3 1), ky 14 10 (.ld t13 1 false), ky 15 10 (.bin .eql t12 t14), kn 16 (.pick t10 t15 kF), im 17 t16, ky 18 17 (.fa t2 2), ky 19 17 (.ld t18 1 false), ky 20 17 (.fa t3 2), ky 21 17 (.ld t20 1 false), ky 22 17 (.bin .eql t19 t21), kn 23 (.pick t17 t22 kF), im 24 t23, ky 25 24 (.fa t2 6), ky 26 24 (.ld t25 1 false), ky 27 24 (.fa t3 6), ky 28 24 (.ld t27 1 false), ky 29 24 (.bin .eql t26 t28), kn 30 (.pick t24 t29 kF), im 31 t30, ky 32 31 (.fa t2 3), ky 33 31 (.ld t32 3 true), ky 34 31 (.fa t3 3), ky 35 31 (.ld t34 3 true), ky 36 31 (.call 59 [t33, t35]), kn 37 (.pick t31 t36 kF), im 4 t37]
 (.ret))
def r33 : List RC := [.t 4]
def c7l0 : AC :=
 .seq (sr [im 80 t6, ia 81 t2 4, il 82 t81, kn 83 (.len false t82), ib 84 .lss t80 t83]
 (.cond t84 (.skip) (.exit 2)))
 (.seq (.block 3 (.seq (.dreg [[], [0], [], [1, 2], [3], [], [5], [], [6, 7], [8], [4, 9], [10]] [ia 87 t2 4, il 88 t87, im 89 t6, kn 90 (.ia t88 t89 7), kn 91 (.ld t90 7 true), ia 92 t3 4, il 93 t92, im 94 t6, kn 95 (.ia t93 t94 7), kn 96 (.ld t95 7 true), ic 97 33 [t91, t96], kn 98 (.un .not t97)])
 (.cond t98 (sr [im 4 kF]
 (.ret)) (.skip))))
 (.reg [im 85 t6, ib 86 .add t85 (kc 1), im 6 t86]))
def c7l1 : AC :=
 .seq (sr [im 45 t5, ia 46 t2 2, il 47 t46, kn 48 (.len false t47), ib 49 .lss t45 t48]
 (.cond t49 (.skip) (.exit 0)))
 (.seq (.block 1 (.seq (.dreg [[], [0], [], [1, 2], [3], [4], [], [6], [], [7, 8], [9], [10], [5, 11], [12], [13], [14, 13], [13], [15, 16, 13], [17, 13], [18, 13], [13], [20, 13], [13], [21, 22, 13], [23, 13], [24, 13], [19, 25, 13], [13, 26]] [ia 52 t2 2, il 53 t52, im 54 t5, kn 55 (.ia t53 t54 2), ia 56 t55 0, il 57 t56, ia 58 t3 2, il 59 t58, im 60 t5, kn 61 (.ia t59 t60 2), ia 62 t61 0, il 63 t62, ib 64 .neq t57 t63, im 65 t64, ko 66 65 (.fa t2 2), ko 67 65 (.ld t66 1 false), ko 68 65 (.mv t5), ko 69 65 (.ia t67 t68 2), ko 70 65 (.fa t69 1), ko 71 65 (.ld t70 1 false), ko 72 65 (.fa t3 2), ko 73 65 (.ld t72 1 false), ko 74 65 (.mv t5), ko 75 65 (.ia t73 t74 2), ko 76 65 (.fa t75 1), ko 77 65 (.ld t76 1 false), ko 78 65 (.bin .neq t71 t77), kn 79 (.pick t65 kT t78)])
 (.cond t79 (sr [im 4 kF]
 (.ret)) (.skip))))
 (.reg [im 50 t5, ib 51 .add t50 (kc 1), im 5 t51]))
def c7 : AC :=
 sr [kn 2 (.bx t0), kn 3 (.bx t1), im 4 kF]
 (.seq (sr [ia 7 t2 0, il 8 t7, ia 9 t3 0, il 10 t9, ib 11 .neq t8 t10, im 12 t11, ko 13 12 (.fa t2 1), ko 14 12 (.ld t13 1 false), ko 15 12 (.fa t3 1), ko 16 12 (.ld t15 1 false), ko 17 12 (.bin .neq t14 t16), kn 18 (.pick t12 kT t17), im 19 t18, ko 20 19 (.fa t2 2), ko 21 19 (.ld t20 1 false), ko 22 19 (.len false t21), ko 23 19 (.fa t3 2), ko 24 19 (.ld t23 1 false), ko 25 19 (.len false t24), ko 26 19 (.bin .neq t22 t25), kn 27 (.pick t19 kT t26), im 28 t27, ko 29 28 (.fa t2 4), ko 30 28 (.ld t29 1 false), ko 31 28 (.len false t30), ko 32 28 (.fa t3 4), ko 33 28 (.ld t32 1 false), ko 34 28 (.len false t33), ko 35 28 (.bin .neq t31 t34), kn 36 (.pick t28 kT t35), im 37 t36, ko 38 37 (.fa t2 3), ko 39 37 (.ld t38 1 false), ko 40 37 (.fa t3 3), ko 41 37 (.ld t40 1 false), ko 42 37 (.call 32 [t39, t41]), ko 43 37 (.un .not t42), kn 44 (.pick t37 kT t43)]
 (.cond t44 (sr [im 4 kF]
 (.ret)) (.skip)))
 (.seq (sr [im 5 (kc 0)]
 (.block 0 (.loop c7l1)))
 (.seq (sr [im 6 (kc 0)]
 (.block 2 (.loop c7l0)))
 (sr [im 4 kT]
 (.ret)))))
def r7 : List RC := [.t 4]
theorem cc33 : cK Tryz.f33 (hhI 33) c33 := by unfold cK; kernel_rfl
theorem rr33 : resC Tryz.prog Tryz.f33 = some r33 := by kernel_rfl
theorem cc7 : cK Tryz.f7 (hhI 7) c7 := by unfold cK; kernel_rfl
theorem rr7 : resC Tryz.prog Tryz.f7 = some r7 := by kernel_rfl
theorem rsobj_c (x y : Ob) (H : List ABlk) : ACalls Tryz.prog 33 [x.av, y.av] H fun u H' => u = bv (decide (x = y)) /\ H' = H := by
 refine ACalls.into Tryz.func33 cc33 rr33 fun hcl => ?_
 have fin : ∀ {B : Bool} {l : List ABlk}, B = decide (x = y) -> Ret [RC.t 4] H.length (fun u H' => u = bv (decide (x = y)) /\ H' = H) (some (bv B)) (H ++ l) := fun {B l} h =>
  Ret.drop _ H (Nat.le_refl _) hcl (.rfl _) (by simp [refs]) ⟨by rw [h], rfl⟩
 have no : x ≠ y -> false = decide (x = y) := fun h => (dcF h).symm
 generalize hD : decide (x = y) = D at *
 by_cases h1 : x.cls = y.cls
 rotate_left
 ·simp (disch := omega) only [Tryz.ntmps33, c33, r33, Ob.cs, go_sem, seval, reduceCtorEq]
  exact fin (no fun h => h1 (by rw [h]))
 cases h2 : decide (x.name = y.name) with
 | false =>
  simp (disch := omega) only [Tryz.ntmps33, c33, r33, Ob.cs, h2, go_sem, seval, reduceCtorEq]; exact fin (no fun h => of_decide_eq_false h2 (by rw [h]))
 | true =>
  by_cases h3 : x.typ = y.typ
  rotate_left
  ·simp (disch := omega) only [Tryz.ntmps33, c33, r33, Ob.cs, h2, go_sem, seval, reduceCtorEq]
   exact fin (no fun h => h3 (by rw [h]))
  by_cases h4 : x.n = y.n
  rotate_left
  ·simp (disch := omega) only [Tryz.ntmps33, c33, r33, Ob.cs, h2, go_sem, seval, reduceCtorEq]
   exact fin (no fun h => h4 (by rw [h]))
  simp (disch := omega) only [Tryz.ntmps33, c33, r33, Ob.cs, h2, go_sem, seval, reduceCtorEq]; refine Cont.mk (rsameV_c x.val y.val _) ?_; simp (disch := omega) only [go_sem, seval, reduceCtorEq]; refine fin ?_; have h2' := of_decide_eq_true h2; rw [<- hD]; obtain ⟨a, b, c, d, e⟩ := x; obtain ⟨a', b', c', d', e'⟩ := y; simp only at h1 h2' h3 h4; subst h1 h2' h3 h4
  by_cases hv : d = d'
  ·rw [dcT hv, dcT (by rw [hv])]
  ·rw [dcF hv, dcF (by intro h; cases h; exact hv rfl)]
def SameR (a b : Fc) (H : List ABlk) (v : AV) (H' : List ABlk) : Prop := (∃ B, v = bv B /\ (B = true ↔ a = b)) /\ H' = H
theorem Fc.ext' {a b : Fc} (h1 : a.name = b.name) (h2 : a.key = b.key) (h3 : a.uses = b.uses) (h4 : a.types = b.types) (h5 : a.objs = b.objs) : a = b := by
 obtain ⟨a1, a2, a3, a4, a5⟩ := a; obtain ⟨b1, b2, b3, b4, b5⟩ := b; simp only at h1 h2 h3 h4 h5; rw [h1, h2, h3, h4, h5]
theorem rsame_c {a b : Fc} (ha : FIn a) (hb : FIn b) (H : List ABlk) : ACalls Tryz.prog 7 [a.av, b.av] H (SameR a b H) := by
 have ha2 := ha.us; have ha3 := ha.os; have hb2 := hb.us; have hb3 := hb.os; refine ACalls.into Tryz.func7 cc7 rr7 fun hcl => ?_
 have fin : ∀ {B : Bool} {l : List ABlk}, (B = true ↔ a = b) -> Ret [RC.t 4] H.length (SameR a b H) (some (bv B)) (H ++ l) := fun {B l} h =>
  Ret.drop _ H (Nat.le_refl _) hcl (.rfl _) (by simp [refs]) ⟨⟨B, rfl, h⟩, rfl⟩
 have no : ∀ {l : List ABlk}, a ≠ b -> Ret [RC.t 4] H.length (SameR a b H) (some (bv false)) (H ++ l) := fun h => fin ⟨fun h' => (by cases h'), fun h' => absurd h' h⟩
 cases h1 : decide (a.name = b.name) with
 | false =>
  simp (disch := omega) only [Tryz.ntmps7, c7, r7, Fc.cs, h1, go_sem, seval, reduceCtorEq]; exact no fun h => of_decide_eq_false h1 (by rw [h])
 | true =>
  by_cases h2 : a.key = b.key
  rotate_left
  ·simp (disch := omega) only [Tryz.ntmps7, c7, r7, Fc.cs, h1, go_sem, seval, reduceCtorEq]
   exact no fun h => h2 (by rw [h])
  by_cases h3 : a.uses.length = b.uses.length
  rotate_left
  ·simp (disch := omega) only [Tryz.ntmps7, c7, r7, Fc.cs, h1, lnm, go_sem, seval, reduceCtorEq]
   exact no fun h => h3 (by rw [h])
  by_cases h4 : a.objs.length = b.objs.length
  rotate_left
  ·simp (disch := omega) only [Tryz.ntmps7, c7, r7, Fc.cs, h1, lnm, go_sem, seval, reduceCtorEq]
   exact no fun h => h4 (by rw [h])
  simp (disch := omega) only [Tryz.ntmps7, c7, r7, Fc.cs, h1, lnm, go_sem, seval, reduceCtorEq]; refine Cont.mk (tables_c ha.ty hb.ty _) ?_
  cases h5 : decide (a.types = b.types) with
  | false =>
   simp (disch := omega) only [go_sem, seval, reduceCtorEq]; exact no fun h => of_decide_eq_false h5 (by rw [h])
  | true =>
   simp (disch := omega) only [go_sem, seval, reduceCtorEq]; have ga : ∀ i, i < a.uses.length -> iaA (.d (.sl (a.uses.map Us.c))) (i : Int) 2 = some (.ip (a.uses.getD i default).c) := fun i hi => iaA_us (t := a.uses) (a := i) (by omega) (by omega)
   have gb : ∀ i, i < b.uses.length -> iaA (.d (.sl (b.uses.map Us.c))) (i : Int) 2 = some (.ip (b.uses.getD i default).c) := fun i hi => iaA_us (t := b.uses) (a := i) (by omega) (by omega)
   obtain ⟨S, hS⟩ : ∃ S : Nat -> List AV, ∀ i, S i = [.any, .any, .ptr H.length 0, .ptr (H.length + 1) 0, bv false, iv i] ++ List.replicate 93 .any := ⟨_, fun _ => rfl⟩; refine W.loopG (γ := Nat) (fun i => a.uses.length - i) S (fun _ => H ++ [.cells [sv a.name, wv a.key, usv a.uses, tv a.types, obv a.objs], .cells [sv b.name, wv b.key, usv b.uses, tv b.types, obv b.objs]]) (fun i => i <= a.uses.length /\ ∀ j, j < i -> a.uses.getD j default = b.uses.getD j default) 0 (Wk.slots (WkL.tw 6 (hS _))) ⟨by omega, fun j hj => by omega⟩ (fun i hi => ?_); obtain ⟨q1, q2⟩ := hi; simp (disch := omega) only [c7l1, hS, lnm, go_sem, seval, reduceCtorEq]; refine Br.dec (fun hc => ?_) (fun hc => ?_) <;> simp (disch := omega) only [go_sem, seval, reduceCtorEq]
   ·refine W.pchain follows (by decide +kernel) ?_
    have gai := ga i (by omega); have gbi := gb i (by omega)
    generalize hx : a.uses.getD i default = x at *
    generalize hy : b.uses.getD i default = y at *
    cases k1 : decide (x.name = y.name) with
    | false =>
     simp (disch := omega) only [gai, gbi, Us.c, k1, go_sem, seval, reduceCtorEq]; exact no fun h => of_decide_eq_false k1 (by rw [<- hx, <- hy, h])
    | true =>
     by_cases k2 : x.key = y.key
     ·simp (disch := omega) only [gai, gbi, Us.c, k1, go_sem, seval, reduceCtorEq]
      refine Nxt.mk (i + 1) (by omega) (Wk.slots (WkL.tw 6 (hS _))) ⟨by omega, fun j hj => ?_⟩; rcases Nat.lt_or_ge j i with h' | h'
      ·exact q2 j h'
      ·rw [show j = i by omega, hx, hy]
       have k1' := of_decide_eq_true k1; obtain ⟨x1, x2⟩ := x; obtain ⟨y1, y2⟩ := y; simp only at k1' k2; rw [k1', k2]
     ·simp (disch := omega) only [gai, gbi, Us.c, k1, go_sem, seval, reduceCtorEq]
      exact no fun h => k2 (by rw [<- hx, <- hy, h])
   ·have hU : a.uses = b.uses := ext_at (d := default) h3 fun i hi => q2 i (by omega)
    have oa : ∀ i, i < a.objs.length -> iaA (.d (.sl (a.objs.map Ob.c))) (i : Int) 7 = some (.ip (a.objs.getD i default).c) := fun i hi => iaA_ob (t := a.objs) (a := i) (by omega) (by omega)
    have ob : ∀ i, i < b.objs.length -> iaA (.d (.sl (b.objs.map Ob.c))) (i : Int) 7 = some (.ip (b.objs.getD i default).c) := fun i hi => iaA_ob (t := b.objs) (a := i) (by omega) (by omega)
    clear ga gb; obtain ⟨S2, hS2⟩ : ∃ S : Nat -> List AV, ∀ i, S i = [.any, .any, .ptr H.length 0, .ptr (H.length + 1) 0, bv false, .any, iv i] ++ List.replicate 92 .any := ⟨_, fun _ => rfl⟩; refine W.loopG (γ := Nat) (fun i => a.objs.length - i) S2 (fun _ => H ++ [.cells [sv a.name, wv a.key, usv a.uses, tv a.types, obv a.objs], .cells [sv b.name, wv b.key, usv b.uses, tv b.types, obv b.objs]]) (fun i => i <= a.objs.length /\ ∀ j, j < i -> a.objs.getD j default = b.objs.getD j default) 0 (Wk.slots (WkL.tw 7 (hS2 _))) ⟨by omega, fun j hj => by omega⟩ (fun k hk => ?_); obtain ⟨y1, y2⟩ := hk; simp (disch := omega) only [c7l0, hS2, lnm, go_sem, seval, reduceCtorEq]; refine Br.dec (fun hc2 => ?_) (fun hc2 => ?_) <;> simp (disch := omega) only [go_sem, seval, reduceCtorEq]
    ·refine W.pchain follows (by decide +kernel) ?_
     have gai := oa k (by omega); have gbi := ob k (by omega)
     generalize hx : a.objs.getD k default = x at *
     generalize hy : b.objs.getD k default = y at *
     have hso := rsobj_c x y; simp (disch := omega) only [gai, gbi, Ob.c, go_sem, seval, reduceCtorEq]; refine PCont.mk (hso _) ?_
     cases k1 : decide (x = y) with
     | false =>
      simp (disch := omega) only [go_sem, seval, reduceCtorEq]; exact no fun h => of_decide_eq_false k1 (by rw [<- hx, <- hy, h])
     | true =>
      simp (disch := omega) only [go_sem, seval, reduceCtorEq]; refine Nxt.mk (k + 1) (by omega) (Wk.slots (WkL.tw 7 (hS2 _))) ⟨by omega, fun j hj => ?_⟩; rcases Nat.lt_or_ge j k with h' | h'
      ·exact y2 j h'
      ·rw [show j = k by omega, hx, hy]; exact of_decide_eq_true k1
    ·exact fin ⟨fun _ => Fc.ext' (of_decide_eq_true h1) h2 hU (of_decide_eq_true h5) (ext_at (d := default) h4 fun i hi => y2 i (by omega)), fun _ => rfl⟩
end Go.Proofs.YthifjndenhjobaaGreat
