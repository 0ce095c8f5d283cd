/- The reference: names of types. -/
import Derived.Test.YthifjndenhjobaaGreatVIA
set_option linter.unusedSectionVars false
set_option linter.unusedSimpArgs false
set_option linter.unusedVariables false
set_option maxHeartbeats 4000000
set_option maxRecDepth 20000
namespace Go.Proofs.YthifjndenhjobaaGreat
open Go.RowKit
def c70l0 : AC :=
 .seq (sr [im 29 t5, im 30 t3, ib 31 .lss t29 t30]
 (.cond t31 (.skip) (.exit 2)))
 (.seq (.block 3 (sr [ia 34 t1 3, il 35 t34, im 36 t5, kn 37 (.ia t35 t36 10), kn 38 (.ld t37 10 true), kn 6 (.al [kz, ks, ks, kz, kz, kz, .esl, .esl, kz, kz]), ke (.st t6 t38 10)]
 (sr [ia 39 t4 2, il 40 t39, kn 41 (.bin .neq t40 (.c ks)), im 42 t41, ky 43 42 (.fa t4 1), ky 44 42 (.ld t43 1 false), ky 45 42 (.fa t6 1), ky 46 42 (.ld t45 1 false), ky 47 42 (.bin .eql t44 t46), kn 48 (.pick t42 t47 kF), im 49 t48, ky 50 49 (.fa t4 2), ky 51 49 (.ld t50 1 false), ky 52 49 (.fa t6 2), ky 53 49 (.ld t52 1 false), ky 54 49 (.bin .eql t51 t53), kn 55 (.pick t49 t54 kF), im 56 t55, ky 57 56 (.fa t4 0), ky 58 56 (.ld t57 1 false), ky 59 56 (.bin .eql t58 (kc 9)), ky 60 56 (.fa t6 0), ky 61 56 (.ld t60 1 false), ky 62 56 (.bin .eql t61 (kc 9)), ky 63 56 (.eqs false t59 t62), kn 64 (.pick t56 t63 kF)]
 (.cond t64 (sr [im 2 kF]
 (.ret)) (.skip)))))
 (.reg [im 32 t5, ib 33 .add t32 (kc 1), im 5 t33]))
def c70l1 : AC :=
 .seq (sr [im 7 t3, ia 8 t1 3, il 9 t8, kn 10 (.len false t9), ib 11 .lss t7 t10]
 (.cond t11 (.skip) (.exit 0)))
 (.seq (.block 1 (sr [ia 14 t1 3, il 15 t14, im 16 t3, kn 17 (.ia t15 t16 10), kn 18 (.ld t17 10 true), kn 4 (.al [kz, ks, ks, kz, kz, kz, .esl, .esl, kz, kz]), ke (.st t4 t18 10)]
 (.seq (sr [ia 19 t4 1, il 20 t19, kn 21 (.bin .neq t20 (.c ks)), im 22 t21, ky 23 22 (.ld t1 5 true), ky 24 22 (.fa t4 1), ky 25 22 (.ld t24 1 false), ky 26 22 (.call 81 [t23, t25]), ky 27 22 (.un .not t26), kn 28 (.pick t22 t27 kF)]
 (.cond t28 (sr [im 2 kF]
 (.ret)) (.skip)))
 (sr [im 5 (kc 7)]
 (.block 2 (.loop c70l0))))))
 (.reg [im 12 t3, ib 13 .add t12 (kc 1), im 3 t13]))
def c70 : AC :=
 sr [kn 1 (.bx t0), im 2 kF]
 (.seq (sr [im 3 (kc 7)]
 (.block 0 (.loop c70l1)))
 (sr [im 2 kT]
 (.ret)))
def r70 : List RC := [.t 2]
def c81l0 : AC :=
 .seq (sr [im 6 t5, ia 7 t2 2, il 8 t7, kn 9 (.len false t8), ib 10 .lss t6 t9]
 (.cond t10 (.skip) (.exit 0)))
 (.seq (.block 1 (sr [ia 13 t2 2, il 14 t13, im 15 t5, kn 16 (.ia t14 t15 2), ia 17 t16 0, il 18 t17, im 19 t1, ib 20 .eql t18 t19]
 (.cond t20 (sr [im 4 kT]
 (.ret)) (.skip))))
 (.reg [im 11 t5, ib 12 .add t11 (kc 1), im 5 t12]))
def c81 : AC :=
 sr [kn 2 (.bx t0), im 4 kF]
 (.seq (sr [im 5 (kc 0)]
 (.block 0 (.loop c81l0)))
 (sr [ia 21 t2 0, il 22 t21, im 23 t1, ib 24 .eql t22 t23, im 4 t24]
 (.ret)))
def r81 : List RC := [.t 4]
theorem cc70 : cK Tryz.f70 (hhI 70) c70 := by unfold cK; kernel_rfl
theorem rr70 : resC Tryz.prog Tryz.f70 = some r70 := by kernel_rfl
theorem cc81 : cK Tryz.f81 (hhI 81) c81 := by unfold cK; kernel_rfl
theorem rr81 : resC Tryz.prog Tryz.f81 = some r81 := by kernel_rfl
theorem used_c {f : Fc} (hf : FIn f) (m : ByteArray) (H : List ABlk) : ACalls Tryz.prog 81 [f.av, sv m] H fun v H' => (∃ B, v = bv B /\ (B = true ↔ f.name = m \/ ∃ u ∈ f.uses, u.name = m)) /\ H' = H := by
 refine ACalls.into Tryz.func81 cc81 rr81 fun hcl => ?_
 have hus := hf.us; have fin : ∀ {B : Bool} {l : List ABlk}, (B = true ↔ f.name = m \/ ∃ u ∈ f.uses, u.name = m) -> Ret [RC.t 4] H.length (fun v H' => (∃ B, v = bv B /\ (B = true ↔ f.name = m \/ ∃ u ∈ f.uses, u.name = m)) /\ H' = H) (some (bv B)) (H ++ l) := fun {B l} h =>
  Ret.drop _ H (Nat.le_refl _) hcl (.rfl _) (by simp [refs]) ⟨⟨B, rfl, h⟩, rfl⟩
 simp (disch := omega) only [Tryz.ntmps81, c81, r81, Fc.cs, go_sem, seval, reduceCtorEq]; obtain ⟨S, hS⟩ : ∃ S : Nat -> List AV, ∀ i, S i = [.any, sv m, .ptr H.length 0, .any, bv false, iv i] ++ List.replicate 19 .any := ⟨_, fun _ => rfl⟩; refine W.loopG (γ := Nat) (fun i => f.uses.length - i) S (fun _ => H ++ [.cells f.cs]) (fun i => i <= f.uses.length /\ ∀ j, j < i -> (f.uses.getD j default).name ≠ m) 0 (Wk.slots (WkL.tw 6 (hS _))) ⟨by omega, fun j hj => by omega⟩ (fun i hi => ?_); obtain ⟨q1, q2⟩ := hi; simp (disch := omega) only [c81l0, hS, Fc.cs, lnm, go_sem, seval, reduceCtorEq]; refine Br.dec (fun hc => ?_) (fun hc => ?_) <;> simp (disch := omega) only [go_sem, seval, reduceCtorEq]
 ·have hia := iaA_us (t := f.uses) (a := i) (by omega) (by omega)
  have e : usAt f.uses (i : Int) = f.uses.getD i default := rfl; have hmem := usAt_mem (l := f.uses) (i := i) (by omega); rw [e] at hia
  generalize hx : f.uses.getD i default = x at *
  cases hd : decide (x.name = m) with
  | true =>
   simp (disch := omega) only [hia, Us.c, hd, go_sem, seval, reduceCtorEq]; exact fin ⟨fun _ => .inr ⟨x, hmem, of_decide_eq_true hd⟩, fun _ => rfl⟩
  | false =>
   simp (disch := omega) only [hia, Us.c, hd, go_sem, seval, reduceCtorEq]; refine Nxt.mk (i + 1) (by omega) (Wk.slots (WkL.tw 6 (hS _))) ⟨by omega, fun j hj => ?_⟩; rcases Nat.lt_or_ge j i with h' | h'
   ·exact q2 j h'
   ·rw [show j = i by omega, hx]; exact of_decide_eq_false hd
 ·have hno : ¬ ∃ u ∈ f.uses, u.name = m := fun ⟨u, hu, he⟩ => by
   obtain ⟨j, hj, rfl⟩ := List.getElem_of_mem hu; have := q2 j (by omega); rw [gD, gE hj] at this; exact this he
  refine fin (B := decide (f.name = m)) ?_; rw [decide_eq_true_eq]; exact ⟨.inl, fun h => h.resolve_right hno⟩
def NamP (f : Fc) : Prop := (∀ i : Nat, 7 <= i -> i < f.types.length -> ModP f (f.types.getD i default).mod) /\ ∀ i k : Nat, 7 <= k -> k < i -> i < f.types.length -> ¬ SameN (f.types.getD i default) (f.types.getD k default)
theorem named16_c {f : Fc} (hf : FIn f) (H : List ABlk) : ACalls Tryz.prog 70 [f.av] H fun v H' => (∃ B, v = bv B /\ (B = true ↔ NamP f)) /\ H' = H := by
 refine ACalls.into Tryz.func70 cc70 rr70 fun hcl => ?_
 have htl := hf.ty.1; have fin : ∀ {B : Bool} {l : List ABlk}, (B = true ↔ NamP f) -> Ret [RC.t 2] H.length (fun v H' => (∃ B, v = bv B /\ (B = true ↔ NamP f)) /\ H' = H) (some (bv B)) (H ++ l) := fun {B l} h =>
  Ret.drop _ H (Nat.le_refl _) hcl (.rfl _) (by simp [refs]) ⟨⟨B, rfl, h⟩, rfl⟩
 have no : ∀ {l : List ABlk}, ¬ NamP f -> Ret [RC.t 2] H.length (fun v H' => (∃ B, v = bv B /\ (B = true ↔ NamP f)) /\ H' = H) (some (bv false)) (H ++ l) := fun h => fin ⟨fun h' => (by cases h'), fun h' => absurd h' h⟩
 have hF : cl (H ++ [.cells f.cs]) := hcl.append (by simp [ABlk.refs, refs.refsL, refs, Fc.cs]); simp (disch := omega) only [Tryz.ntmps70, c70, r70, Fc.cs, go_sem, seval, reduceCtorEq]; obtain ⟨S, hS⟩ : ∃ S : Nat -> List AV, ∀ i, S i = [.any, .ptr H.length 0, bv false, iv i] ++ List.replicate 61 .any := ⟨_, fun _ => rfl⟩; refine W.loopG (γ := Nat) (fun i => f.types.length - i) S (fun _ => H ++ [.cells f.cs]) (fun i => 7 <= i /\ (∀ j : Nat, 7 <= j -> j < i -> j < f.types.length -> ModP f (f.types.getD j default).mod) /\ ∀ j k : Nat, 7 <= k -> k < j -> j < i -> j < f.types.length -> ¬ SameN (f.types.getD j default) (f.types.getD k default)) 7 (Wk.slots (WkL.tw 4 (hS _))) ⟨by omega, fun j h7 hj => by omega, fun j k h7 hk hj => by omega⟩ (fun i hi => ?_); obtain ⟨q1, q2, q3⟩ := hi; simp (disch := omega) only [c70l1, hS, Fc.cs, lnm, go_sem, seval, reduceCtorEq]; refine Br.dec (fun hc => ?_) (fun hc => ?_) <;> simp (disch := omega) only [go_sem, seval, reduceCtorEq]
 ·have hia := iaA_ty (t := f.types) (a := i) (by omega) (by omega)
  have e : tyAt f.types (i : Int) = f.types.getD i default := rfl; rw [e] at hia
  generalize hx : f.types.getD i default = x at *
  cases hm : decide (x.mod = se)
  case' false =>
   simp (disch := omega) only [hia, Ty.c, hm, go_sem, seval, reduceCtorEq]; refine Cont.rel (used_c hf x.mod _) ?_; rintro v H' ⟨⟨B, rfl, hB⟩, rfl⟩
   cases hBv : B
   case' false =>
    simp (disch := omega) only [go_sem, seval, reduceCtorEq]; exact no fun h => by
     have := h.1 i (by omega) (by omega); rw [hx] at this; rcases this with h1 | h1 | h1
     ·exact of_decide_eq_false hm h1
     ·have := hB.2 (.inl h1.symm); rw [hBv] at this; cases this
     ·have := hB.2 (.inr h1); rw [hBv] at this; cases this
   have hM : ModP f x.mod := .inr ((hB.1 hBv).imp (fun h => h.symm) id); simp (disch := omega) only [go_sem, seval, reduceCtorEq]
  case' true =>
   have hM : ModP f x.mod := .inl (of_decide_eq_true hm); simp (disch := omega) only [hia, Ty.c, hm, go_sem, seval, reduceCtorEq]
  all_goals (
   obtain ⟨S2, hS2⟩ : ∃ S : Nat -> List AV, ∀ k, S k = [.any, .ptr H.length 0, bv false, iv i, .ptr (H.length + 1) 0, iv k] ++ List.replicate 59 .any := ⟨_, fun _ => rfl⟩; refine W.loopG (γ := Nat) (fun k => i - k) S2 (fun _ => H ++ [.cells f.cs, .cells x.cs]) (fun k => 7 <= k /\ ∀ j : Nat, 7 <= j -> j < k -> j < i -> ¬ SameN x (f.types.getD j default)) 7 (Wk.slots (WkL.tw 6 (hS2 _))) ⟨by omega, fun j h7 hj => by omega⟩ (fun k hk => ?_); obtain ⟨y1, y2⟩ := hk; have hF2 : cl (H ++ [.cells f.cs, .cells x.cs]) := hcl.append (by simp [ABlk.refs, refs.refsL, refs, Fc.cs, Ty.cs]); simp (disch := omega) only [c70l0, hS2, Fc.cs, lnm, go_sem, seval, reduceCtorEq]; refine Br.dec (fun hc2 => ?_) (fun hc2 => ?_) <;> simp (disch := omega) only [go_sem, seval, reduceCtorEq]
   ·have hib := iaA_ty (t := f.types) (a := k) (by omega) (by omega)
    have e2 : tyAt f.types (k : Int) = f.types.getD k default := rfl; rw [e2] at hib
    generalize hy : f.types.getD k default = y at *
    have nxt : ∀ {s' : List AV} {z : ABlk}, ¬ SameN x y -> WkL s' (S2 (k + 1)) -> Nxt H.length (fun k => i - k) S2 (fun _ => H ++ [.cells f.cs, .cells x.cs]) (fun k => 7 <= k /\ ∀ j : Nat, 7 <= j -> j < k -> j < i -> ¬ SameN x (f.types.getD j default)) (i - k) s' (H ++ [.cells f.cs, .cells x.cs, z]) := fun {s' z} h hk => by
     rw [show ∀ (A : List ABlk) (p q r : ABlk), A ++ [p, q, r] = (A ++ [p, q]) ++ [r] from fun A p q r => by simp]; refine Nxt.mk (k + 1) (by omega) (Wk.drop hk (by simp) hF2 (by rw [hS2]; simp [refs.refsL, refs])) ⟨by omega, fun j h7 hj hj2 => ?_⟩; rcases Nat.lt_or_ge j k with h' | h'
     ·exact y2 j h7 h' hj2
     ·rw [show j = k by omega, hy]; exact h
    have out : ∀ {l : List ABlk}, SameN x y -> Ret [RC.t 2] H.length (fun v H' => (∃ B, v = bv B /\ (B = true ↔ NamP f)) /\ H' = H) (some (bv false)) (H ++ l) := fun h => no fun hN => hN.2 i k y1 (by omega) (by omega) (by rw [hx, hy]; exact h)
    cases b1 : decide (x.name = se) with
    | true =>
     simp (disch := omega) only [hib, Ty.c, Ty.cs, b1, go_sem, seval, reduceCtorEq]; refine nxt (fun h => h.1 (of_decide_eq_true b1)) ?_; exact (WkL.tw 6 (hS2 _))
    | false =>
     cases b2 : decide (x.mod = y.mod) with
     | false =>
      simp (disch := omega) only [hib, Ty.c, Ty.cs, b1, b2, go_sem, seval, reduceCtorEq]; refine nxt (fun h => of_decide_eq_false b2 h.2.1) ?_; exact (WkL.tw 6 (hS2 _))
     | true =>
      cases b3 : decide (x.name = y.name) with
      | false =>
       simp (disch := omega) only [hib, Ty.c, Ty.cs, b1, b2, b3, go_sem, seval, reduceCtorEq]; refine nxt (fun h => of_decide_eq_false b3 h.2.2.1) ?_; exact (WkL.tw 6 (hS2 _))
      | true =>
       by_cases b4 : x.form = 9
       ·by_cases b5 : y.form = 9
        ·simp (disch := omega) only [hib, Ty.c, Ty.cs, b1, b2, b3, go_sem, seval, reduceCtorEq]
         exact out ⟨of_decide_eq_false b1, of_decide_eq_true b2, of_decide_eq_true b3, fun _ => b5, fun _ => b4⟩
        ·simp (disch := omega) only [hib, Ty.c, Ty.cs, b1, b2, b3, go_sem, seval, reduceCtorEq]
         refine nxt (fun h => b5 (h.2.2.2.1 b4)) ?_; exact (WkL.tw 6 (hS2 _))
       ·by_cases b5 : y.form = 9
        ·simp (disch := omega) only [hib, Ty.c, Ty.cs, b1, b2, b3, go_sem, seval, reduceCtorEq]
         refine nxt (fun h => b4 (h.2.2.2.2 b5)) ?_; exact (WkL.tw 6 (hS2 _))
        ·simp (disch := omega) only [hib, Ty.c, Ty.cs, b1, b2, b3, go_sem, seval, reduceCtorEq]
         exact out ⟨of_decide_eq_false b1, of_decide_eq_true b2, of_decide_eq_true b3, fun h => absurd h b4, fun h => absurd h b5⟩
   ·rw [show ∀ (A : List ABlk) (p q : ABlk), A ++ [p, q] = (A ++ [p]) ++ [q] from fun A p q => by simp]
    refine Nxt.mk (i + 1) (by omega) (Wk.drop (WkL.tw 4 (hS _)) (by simp) hF (by rw [hS]; simp [refs.refsL, refs])) ⟨by omega, fun j h7 hj hl => ?_, fun j k2 h7 hk2 hj hl => ?_⟩
    ·rcases Nat.lt_or_ge j i with h' | h'
     ·exact q2 j h7 h' hl
     ·rw [show j = i by omega, hx]; exact hM
    ·rcases Nat.lt_or_ge j i with h' | h'
     ·exact q3 j k2 h7 hk2 h' hl
     ·rw [show j = i by omega, hx]; exact y2 k2 h7 (by omega) (by omega))
 ·exact fin ⟨fun _ => ⟨fun j h7 hj => q2 j h7 (by omega) hj, fun j k h7 hk hj => q3 j k h7 hk (by omega) hj⟩, fun _ => rfl⟩
def c34l0 : AC :=
 sr [ib 10 .lss t9 t8]
 (.seq (.cond t10 (.skip) (.exit 0))
 (.seq (.block 1 (sr [kn 11 (.ia t7 t9 10), kn 12 (.ld t11 10 true), kn 5 (.al [kz, ks, ks, kz, kz, kz, .esl, .esl, kz, kz]), ke (.st t5 t12 10)]
 (.seq (sr [ia 13 t5 0, il 14 t13, ib 15 .neq t14 (kc 9)]
 (.cond t15 (.exit 1) (.skip)))
 (.seq (sr [ia 16 t5 9, il 17 t16, ib 18 .lss t17 (kc 0), im 19 t18, ko 20 19 (.fa t5 1), ko 21 19 (.ld t20 1 false), ko 22 19 (.fa t1 0), ko 23 19 (.ld t22 1 false), ko 24 19 (.bin .eql t21 t23), ko 25 19 (.mv t24), ky 26 25 (.fa t5 9), ky 27 25 (.ld t26 1 false), ky 28 25 (.mv t3), ky 29 25 (.bin .neq t27 t28), ko 30 19 (.pick t25 t29 kF), kn 31 (.pick t19 kT t30)]
 (.cond t31 (sr [im 2 kF]
 (.ret)) (.skip)))
 (sr [ia 32 t5 1, il 33 t32, ia 34 t1 0, il 35 t34, ib 36 .eql t33 t35]
 (.cond t36 (.reg [im 37 t3, ib 38 .add t37 (kc 1), im 3 t38]) (.skip)))))))
 (.reg [ib 39 .add t9 (kc 1), im 9 t39])))
def c34 : AC :=
 sr [kn 1 (.bx t0), im 2 kF]
 (sr [im 3 (kc 0)]
 (.seq (sr [ia 6 t1 3, il 7 t6, kn 8 (.len false t7), im 9 (kc 0)]
 (.block 0 (.loop c34l0)))
 (sr [kn 40 (.ld t1 5 true), ic 41 60 [t40], im 2 t41]
 (.ret))))
def r34 : List RC := [.t 2]
def c57l0 : AC :=
 .seq (sr [im 6 t4, ia 7 t1 3, il 8 t7, kn 9 (.len false t8), ib 10 .lss t6 t9]
 (.cond t10 (.skip) (.exit 0)))
 (.seq (.block 1 (sr [ia 13 t1 3, il 14 t13, im 15 t4, kn 16 (.ia t14 t15 10), kn 17 (.ld t16 10 true), kn 5 (.al [kz, ks, ks, kz, kz, kz, .esl, .esl, kz, kz]), ke (.st t5 t17 10)]
 (.seq (sr [ia 18 t5 0, il 19 t18, ib 20 .neq t19 (kc 9)]
 (.cond t20 (.exit 1) (.skip)))
 (.seq (sr [ia 21 t5 9, il 22 t21, ib 23 .lss t22 (kc 0), im 24 t23, ko 25 24 (.fa t5 1), ko 26 24 (.ld t25 1 false), ko 27 24 (.fa t1 0), ko 28 24 (.ld t27 1 false), ko 29 24 (.bin .eql t26 t28), ko 30 24 (.mv t29), ky 31 30 (.fa t5 9), ky 32 30 (.ld t31 1 false), ky 33 30 (.mv t3), ky 34 30 (.bin .neq t32 t33), ko 35 24 (.pick t30 t34 kF), kn 36 (.pick t24 kT t35)]
 (.cond t36 (sr [im 2 kF]
 (.ret)) (.skip)))
 (sr [ia 37 t5 1, il 38 t37, ia 39 t1 0, il 40 t39, ib 41 .eql t38 t40]
 (.cond t41 (.reg [im 42 t3, ib 43 .add t42 (kc 1), im 3 t43]) (.skip)))))))
 (.reg [im 11 t4, ib 12 .add t11 (kc 1), im 4 t12]))
def c57 : AC :=
 sr [kn 1 (.bx t0), im 2 kF]
 (sr [im 3 (kc 0)]
 (.seq (sr [im 4 (kc 7)]
 (.block 0 (.loop c57l0)))
 (sr [im 2 kT]
 (.ret))))
def r57 : List RC := [.t 2]
theorem cc34 : cK Tryz.f34 (hhI 34) c34 := by unfold cK; kernel_rfl
theorem rr34 : resC Tryz.prog Tryz.f34 = some r34 := by kernel_rfl
theorem cc57 : cK Tryz.f57 (hhI 57) c57 := by unfold cK; kernel_rfl
theorem rr57 : resC Tryz.prog Tryz.f57 = some r57 := by kernel_rfl
abbrev cntN (f : Fc) (i : Nat) : Nat := (f.types.take i).countP (ownX f.name)
theorem cntN_succ {f : Fc} {i : Nat} (h : i < f.types.length) : cntN f (i + 1) = cntN f i + (if ownX f.name (f.types.getD i default) = true then 1 else 0) := by
 rw [cntN, getD_take (d := default) h, List.countP_append, List.countP_singleton]
theorem cntN_le (f : Fc) (i : Nat) : cntN f i <= i := Nat.le_trans List.countP_le_length (by rw [List.length_take]; omega)
def NumTo (f : Fc) (n : Nat) : Prop := ∀ i, i < n -> i < f.types.length -> (f.types.getD i default).form = 9 -> 0 <= (f.types.getD i default).desc /\ ((f.types.getD i default).mod = f.name -> (f.types.getD i default).desc = (cntN f i : Nat))
theorem NumTo.all {f : Fc} {n : Nat} (h : NumTo f n) (hn : f.types.length <= n) : NumP f := fun i hi => h i (by omega) hi
theorem NumTo.succ {f : Fc} {n : Nat} (h : NumTo f n) (k : (f.types.getD n default).form = 9 -> 0 <= (f.types.getD n default).desc /\ ((f.types.getD n default).mod = f.name -> (f.types.getD n default).desc = (cntN f n : Nat))) : NumTo f (n + 1) := fun i hi hl => by
 rcases Nat.lt_or_ge i n with h' | h'
 ·exact h i h' hl
 ·rw [show i = n by omega]; exact k
theorem numbered_c {f : Fc} (hf : FIn f) (hg : GoodP f.types) (H : List ABlk) : ACalls Tryz.prog 57 [f.av] H fun v H' => (∃ B, v = bv B /\ (B = true ↔ NumP f)) /\ H' = H := by
 refine ACalls.into Tryz.func57 cc57 rr57 fun hcl => ?_
 have htl := hg.len; have fin : ∀ {B : Bool} {l : List ABlk}, (B = true ↔ NumP f) -> Ret [RC.t 2] H.length (fun v H' => (∃ B, v = bv B /\ (B = true ↔ NumP f)) /\ H' = H) (some (bv B)) (H ++ l) := fun {B l} h =>
  Ret.drop _ H (Nat.le_refl _) hcl (.rfl _) (by simp [refs]) ⟨⟨B, rfl, h⟩, rfl⟩
 have no : ∀ {l : List ABlk}, ¬ NumP f -> Ret [RC.t 2] H.length (fun v H' => (∃ B, v = bv B /\ (B = true ↔ NumP f)) /\ H' = H) (some (bv false)) (H ++ l) := fun h => fin ⟨fun h' => (by cases h'), fun h' => absurd h' h⟩
 have hF : cl (H ++ [.cells f.cs]) := hcl.append (by simp [ABlk.refs, refs.refsL, refs, Fc.cs]); have h9 : ∀ i, i < 7 -> (f.types.getD i default).form ≠ 9 := fun i hi => by rw [hg.bas i hi]; simp [bt]; omega
 have c7 : ∀ i, i <= 7 -> cntN f i = 0 := fun i => by
  induction i with
  | zero => exact fun _ => rfl
  | succ i ih => exact fun hi => by rw [cntN_succ (by omega), ih (by omega), if_neg (by simp only [ownX, decide_eq_true_eq]; exact fun h => h9 i (by omega) h.1)]
 simp (disch := omega) only [Tryz.ntmps57, c57, r57, Fc.cs, go_sem, seval, reduceCtorEq]; obtain ⟨S, hS⟩ : ∃ S : Nat × Nat -> List AV, ∀ g, S g = [.any, .ptr H.length 0, bv false, iv g.2, iv g.1] ++ List.replicate 39 .any := ⟨_, fun _ => rfl⟩; refine W.loopG (γ := Nat × Nat) (fun g => f.types.length - g.1) S (fun _ => H ++ [.cells f.cs]) (fun g => g.1 <= f.types.length /\ g.2 = cntN f g.1 /\ NumTo f g.1) (7, 0) (Wk.slots (WkL.tw 5 (hS _))) ⟨by simp only; omega, (c7 7 (by omega)).symm, fun i hi _ h => absurd h (h9 i hi)⟩ (fun g hg2 => ?_); obtain ⟨i, n⟩ := g; obtain ⟨q1, q2, q3⟩ := hg2; simp only at q1 q2 q3; have hn := cntN_le f i; simp (disch := omega) only [c57l0, hS, Fc.cs, lnm, go_sem, seval, reduceCtorEq]; refine Br.dec (fun hc => ?_) (fun hc => ?_) <;> simp (disch := omega) only [go_sem, seval, reduceCtorEq]
 ·have hia := iaA_ty (t := f.types) (a := i) (by omega) (by omega)
  have e : tyAt f.types (i : Int) = f.types.getD i default := rfl; have hsu := cntN_succ (f := f) (i := i) (by omega); have hto := NumTo.succ q3; rw [e] at hia; have hbad : ∀ {l : List ABlk}, (f.types.getD i default).form = 9 -> ¬ (0 <= (f.types.getD i default).desc /\ ((f.types.getD i default).mod = f.name -> (f.types.getD i default).desc = (n : Int))) -> Ret [RC.t 2] H.length (fun v H' => (∃ B, v = bv B /\ (B = true ↔ NumP f)) /\ H' = H) (some (bv false)) (H ++ l) := fun k1 k2 => no fun h => k2 (by rw [q2]; exact h i (by omega) k1)
  rw [<- q2] at hto hsu
  generalize f.types.getD i default = x at *
  have nxt : ∀ {s' : List AV} {z : ABlk} {m : Nat}, cntN f (i + 1) = m -> NumTo f (i + 1) -> WkL s' (S (i + 1, m)) -> Nxt H.length (fun g => f.types.length - g.1) S (fun _ => H ++ [.cells f.cs]) (fun g => g.1 <= f.types.length /\ g.2 = cntN f g.1 /\ NumTo f g.1) (f.types.length - i) s' (H ++ [.cells f.cs, z]) := fun {s' z m} h1 h2 hk => by
   rw [show ∀ (A : List ABlk) (p q : ABlk), A ++ [p, q] = (A ++ [p]) ++ [q] from fun A p q => by simp]; exact Nxt.mk (i + 1, m) (by simp only; omega) (Wk.drop hk (by simp) hF (by rw [hS]; simp [refs.refsL, refs])) ⟨by simp only; omega, h1.symm, h2⟩
  by_cases b1 : x.form = 9
  rotate_left
  ·simp (disch := omega) only [hia, Ty.c, Ty.cs, go_sem, seval, reduceCtorEq]
   refine nxt (m := n) (by rw [hsu, if_neg (by simp [ownX, b1])]; rfl) (hto fun h => absurd h b1) ?_; exact (WkL.tw 5 (hS _))
  by_cases b2 : x.desc < 0
  ·simp (disch := omega) only [hia, Ty.c, Ty.cs, go_sem, seval, reduceCtorEq]
   exact hbad b1 fun h => by have := h.1; omega
  cases b3 : decide (x.mod = f.name) with
  | false =>
   simp (disch := omega) only [hia, Ty.c, Ty.cs, b3, go_sem, seval, reduceCtorEq]; refine nxt (m := n) (by rw [hsu, if_neg (by simp only [ownX, decide_eq_true_eq]; exact fun h => of_decide_eq_false b3 h.2)]; rfl) (hto fun _ => ⟨by omega, fun h => absurd h (of_decide_eq_false b3)⟩) ?_; exact (WkL.tw 5 (hS _))
  | true =>
   by_cases b4 : x.desc = n
   ·simp (disch := omega) only [hia, Ty.c, Ty.cs, b3, go_sem, seval, reduceCtorEq]
    refine nxt (m := n + 1) (by rw [hsu, if_pos (by simp only [ownX, decide_eq_true_eq]; exact ⟨b1, of_decide_eq_true b3⟩)]) (hto fun _ => ⟨by omega, fun _ => b4⟩) ?_; exact (WkL.tw 5 (hS _))
   ·simp (disch := omega) only [hia, Ty.c, Ty.cs, b3, go_sem, seval, reduceCtorEq]
    exact hbad b1 fun h => b4 (h.2 (of_decide_eq_true b3))
 ·exact fin ⟨fun _ => q3.all (by omega), fun _ => rfl⟩
theorem igood_of {f : Fc} (hf : FIn f) {R : Prop} (hfr : ∀ H, ACalls Tryz.prog 60 [f.av] H fun v H' => (∃ B, v = bv B /\ (B = true ↔ R)) /\ H' = H) (H : List ABlk) : ACalls Tryz.prog 34 [f.av] H fun v H' => (∃ B, v = bv B /\ (B = true ↔ R /\ NumP f)) /\ H' = H := by
 refine ACalls.into Tryz.func34 cc34 rr34 fun hcl => ?_
 have htl := hf.ty.1; have fin : ∀ {B : Bool} {l : List ABlk}, (B = true ↔ R /\ NumP f) -> Ret [RC.t 2] H.length (fun v H' => (∃ B, v = bv B /\ (B = true ↔ R /\ NumP f)) /\ H' = H) (some (bv B)) (H ++ l) := fun {B l} h =>
  Ret.drop _ H (Nat.le_refl _) hcl (.rfl _) (by simp [refs]) ⟨⟨B, rfl, h⟩, rfl⟩
 have no : ∀ {l : List ABlk}, ¬ NumP f -> Ret [RC.t 2] H.length (fun v H' => (∃ B, v = bv B /\ (B = true ↔ R /\ NumP f)) /\ H' = H) (some (bv false)) (H ++ l) := fun h => fin ⟨fun h' => (by cases h'), fun h' => absurd h'.2 h⟩
 have hF : cl (H ++ [.cells f.cs]) := hcl.append (by simp [ABlk.refs, refs.refsL, refs, Fc.cs]); simp (disch := omega) only [Tryz.ntmps34, c34, r34, Fc.cs, lnm, go_sem, seval, reduceCtorEq]; obtain ⟨S, hS⟩ : ∃ S : Nat × Nat -> List AV, ∀ g, S g = [.any, .ptr H.length 0, bv false, iv g.2, .any, .any, .any, tv f.types, iv f.types.length, iv g.1] ++ List.replicate 32 .any := ⟨_, fun _ => rfl⟩; refine W.loopG (γ := Nat × Nat) (fun g => f.types.length - g.1) S (fun _ => H ++ [.cells f.cs]) (fun g => g.1 <= f.types.length /\ g.2 = cntN f g.1 /\ NumTo f g.1) (0, 0) (Wk.slots (WkL.tw 10 (hS _))) ⟨by simp only; omega, rfl, fun i hi _ h => absurd hi (by omega)⟩ (fun g hg2 => ?_); obtain ⟨i, n⟩ := g; obtain ⟨q1, q2, q3⟩ := hg2; simp only at q1 q2 q3; have hn := cntN_le f i; simp (disch := omega) only [c34l0, hS, Fc.cs, lnm, go_sem, seval, reduceCtorEq]; refine Br.dec (fun hc => ?_) (fun hc => ?_) <;> simp (disch := omega) only [go_sem, seval, reduceCtorEq]
 ·have hia := iaA_ty (t := f.types) (a := i) (by omega) (by omega)
  have e : tyAt f.types (i : Int) = f.types.getD i default := rfl; have hsu := cntN_succ (f := f) (i := i) (by omega); have hto := NumTo.succ q3; rw [e] at hia; have hbad : ∀ {l : List ABlk}, (f.types.getD i default).form = 9 -> ¬ (0 <= (f.types.getD i default).desc /\ ((f.types.getD i default).mod = f.name -> (f.types.getD i default).desc = (n : Int))) -> Ret [RC.t 2] H.length (fun v H' => (∃ B, v = bv B /\ (B = true ↔ R /\ NumP f)) /\ H' = H) (some (bv false)) (H ++ l) := fun k1 k2 => no fun h => k2 (by rw [q2]; exact h i (by omega) k1)
  rw [<- q2] at hto hsu
  generalize f.types.getD i default = x at *
  have nxt : ∀ {s' : List AV} {z : ABlk} {m : Nat}, cntN f (i + 1) = m -> NumTo f (i + 1) -> WkL s' (S (i + 1, m)) -> Nxt H.length (fun g => f.types.length - g.1) S (fun _ => H ++ [.cells f.cs]) (fun g => g.1 <= f.types.length /\ g.2 = cntN f g.1 /\ NumTo f g.1) (f.types.length - i) s' (H ++ [.cells f.cs, z]) := fun {s' z m} h1 h2 hk => by
   rw [show ∀ (A : List ABlk) (p q : ABlk), A ++ [p, q] = (A ++ [p]) ++ [q] from fun A p q => by simp]; exact Nxt.mk (i + 1, m) (by simp only; omega) (Wk.drop hk (by simp) hF (by rw [hS]; simp [refs.refsL, refs])) ⟨by simp only; omega, h1.symm, h2⟩
  by_cases b1 : x.form = 9
  rotate_left
  ·simp (disch := omega) only [hia, Ty.c, Ty.cs, go_sem, seval, reduceCtorEq]
   refine nxt (m := n) (by rw [hsu, if_neg (by simp [ownX, b1])]; rfl) (hto fun h => absurd h b1) ?_; exact (WkL.tw 10 (hS _))
  by_cases b2 : x.desc < 0
  ·simp (disch := omega) only [hia, Ty.c, Ty.cs, go_sem, seval, reduceCtorEq]
   exact hbad b1 fun h => by have := h.1; omega
  cases b3 : decide (x.mod = f.name) with
  | false =>
   simp (disch := omega) only [hia, Ty.c, Ty.cs, b3, go_sem, seval, reduceCtorEq]; refine nxt (m := n) (by rw [hsu, if_neg (by simp only [ownX, decide_eq_true_eq]; exact fun h => of_decide_eq_false b3 h.2)]; rfl) (hto fun _ => ⟨by omega, fun h => absurd h (of_decide_eq_false b3)⟩) ?_; exact (WkL.tw 10 (hS _))
  | true =>
   by_cases b4 : x.desc = n
   ·simp (disch := omega) only [hia, Ty.c, Ty.cs, b3, go_sem, seval, reduceCtorEq]
    refine nxt (m := n + 1) (by rw [hsu, if_pos (by simp only [ownX, decide_eq_true_eq]; exact ⟨b1, of_decide_eq_true b3⟩)]) (hto fun _ => ⟨by omega, fun _ => b4⟩) ?_; exact (WkL.tw 10 (hS _))
   ·simp (disch := omega) only [hia, Ty.c, Ty.cs, b3, go_sem, seval, reduceCtorEq]
    exact hbad b1 fun h => b4 (h.2 (of_decide_eq_true b3))
 ·refine Cont.rel (hfr _) ?_
  rintro v H' ⟨⟨B, rfl, hB⟩, rfl⟩; simp (disch := omega) only [go_sem, seval, reduceCtorEq]; exact fin (hB.trans ⟨fun h => ⟨h, q3.all (by omega)⟩, fun h => h.1⟩)
end Go.Proofs.YthifjndenhjobaaGreat
