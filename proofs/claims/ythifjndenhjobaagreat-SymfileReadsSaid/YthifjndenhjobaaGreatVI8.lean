/- Objects: may they be? Printed by genI6.py. -/
import Derived.Test.YthifjndenhjobaaGreatVI4
set_option linter.unusedSectionVars false
set_option linter.unusedSimpArgs false
set_option linter.unusedVariables false
set_option maxHeartbeats 4000000
set_option maxRecDepth 20000
namespace Go.Proofs.YthifjndenhjobaaGreat
open Go.RowKit
def c74 : AC :=
 sr [kn 2 (.bx t0), kn 3 (.bx t1), im 4 kF]
 (.seq (sr [ia 6 t3 1, il 7 t6, ic 8 72 [t7], kn 9 (.un .not t8), im 10 t9, ko 11 10 (.fa t3 2), ko 12 10 (.ld t11 1 false), ko 13 10 (.bin .lss t12 (kc 0)), kn 14 (.pick t10 kT t13), im 15 t14, ko 16 15 (.fa t3 2), ko 17 15 (.ld t16 1 false), ko 18 15 (.fa t2 3), ko 19 15 (.ld t18 1 false), ko 20 15 (.len false t19), ko 21 15 (.bin .geq t17 t20), kn 22 (.pick t15 kT t21), im 23 t22, ko 24 23 (.fa t3 0), ko 25 23 (.ld t24 1 false), ko 26 23 (.bin .neq t25 (kc 1)), ko 27 23 (.mv t26), ky 28 27 (.fa t3 3), ky 29 27 (.ld t28 3 true), ky 30 27 (.bd [kz, kz, ks] []), ky 31 27 (.eqg ⟨true, [.i .i64, .i .i64, .s]⟩ true t29 t30), ko 32 23 (.pick t27 t31 kF), kn 33 (.pick t23 kT t32)]
 (.cond t33 (sr [im 4 kF]
 (.ret)) (.skip)))
 (sr [ia 34 t2 3, il 35 t34, ia 36 t3 2, il 37 t36, kn 38 (.ia t35 t37 10), ia 39 t38 0, il 40 t39, im 5 t40]
 (.seq (sr [ia 41 t3 0, il 42 t41]
 (.block 0 (sr [ib 44 .eql t42 (kc 1), im 43 t44]
 (.cond t43 (sr [ia 45 t3 3, kn 46 (.ld t45 3 true), ic 47 86 [t46], im 48 t47, ky 49 48 (.fa t3 2), ky 50 48 (.ld t49 1 false), ky 51 48 (.fa t3 3), ky 52 48 (.fa t51 0), ky 53 48 (.ld t52 1 false), ky 54 48 (.bin .eql t50 t53), kn 55 (.pick t48 t54 kF), im 56 t55, ky 57 56 (.fa t3 6), ky 58 56 (.ld t57 1 false), ky 59 56 (.bin .eql t58 (kc 0)), kn 60 (.pick t56 t59 kF), im 4 t60]
 (.ret)) (sr [ib 62 .eql t42 (kc 2), im 61 t62]
 (.cond t61 (sr [ia 63 t3 6, il 64 t63, ib 65 .eql t64 (kc 0), im 66 t65, ky 67 66 (.fa t3 2), ky 68 66 (.ld t67 1 false), ky 69 66 (.bin .leq (kc 1) t68), ky 70 66 (.mv t69), ky 71 70 (.fa t3 2), ky 72 70 (.ld t71 1 false), ky 73 70 (.bin .leq t72 (kc 4)), ky 74 66 (.pick t70 t73 kF), ky 75 66 (.mv t74), ko 76 75 (.fa t3 2), ko 77 75 (.ld t76 1 false), ko 78 75 (.bin .gtr t77 (kc 6)), ky 79 66 (.pick t75 kT t78), kn 80 (.pick t66 t79 kF), im 4 t80]
 (.ret)) (sr [ib 82 .eql t42 (kc 3), im 81 t82]
 (.cond t81 (sr [im 83 t5, ib 84 .neq t83 (kc 0), im 85 t84, ky 86 85 (.mv t5), ky 87 85 (.bin .neq t86 (kc 5)), kn 88 (.pick t85 t87 kF), im 89 t88, ky 90 89 (.mv t5), ky 91 89 (.bin .neq t90 (kc 6)), kn 92 (.pick t89 t91 kF), im 93 t92, ky 94 93 (.mv t5), ky 95 93 (.bin .neq t94 (kc 8)), kn 96 (.pick t93 t95 kF), im 97 t96, ky 98 97 (.fa t3 6), ky 99 97 (.ld t98 1 false), ky 100 97 (.bin .leq (kc 0) t99), kn 101 (.pick t97 t100 kF), im 102 t101, ky 103 102 (.fa t3 6), ky 104 102 (.ld t103 1 false), ky 105 102 (.bin .lss t104 (kc 64)), kn 106 (.pick t102 t105 kF), im 4 t106]
 (.ret)) (sr [ib 108 .eql t42 (kc 4), im 107 t108]
 (.cond t107 (sr [im 109 t5, ib 110 .eql t109 (kc 11), im 111 t110, ky 112 111 (.fa t3 6), ky 113 111 (.ld t112 1 false), ky 114 111 (.bin .leq (kc 1) t113), kn 115 (.pick t111 t114 kF), im 116 t115, ky 117 116 (.fa t3 6), ky 118 116 (.ld t117 1 false), ky 119 116 (.bin .lss t118 (kc 64)), kn 120 (.pick t116 t119 kF), im 4 t120]
 (.ret)) (.skip)))))))))))
 (sr [im 4 kF]
 (.ret)))))
def r74 : List RC := [.t 4]
theorem cc74 : cK Tryz.f74 (hhI 74) c74 := by unfold cK; kernel_rfl
theorem rr74 : resC Tryz.prog Tryz.f74 = some r74 := by kernel_rfl
abbrev ObQ (t : List Ty) (cls : Int) (name : ByteArray) (typ : Int) (val : Vl) (n : Int) : Prop :=
 Nm name /\ placeP t typ /\
 ((cls = 1 /\ VlP val /\ typ = val.form /\ n = 0) \/
  (cls = 2 /\ val = ⟨0, 0, se⟩ /\ n = 0 /\ ((1 <= typ /\ typ <= 4) \/ 7 <= typ)) \/
  (cls = 3 /\ val = ⟨0, 0, se⟩ /\ (tyAt t typ).form ≠ 0 /\ (tyAt t typ).form ≠ 5 /\ (tyAt t typ).form ≠ 6 /\ (tyAt t typ).form ≠ 8 /\ 0 <= n /\ n < 64) \/
  (cls = 4 /\ val = ⟨0, 0, se⟩ /\ (tyAt t typ).form = 11 /\ 1 <= n /\ n < 64))
theorem zeV_in : zeV.In := ⟨by decide, by decide, by decide⟩
theorem iobject_c {f : Fc} (hl : f.types.length <= 9000000) {o : Ob} (hv : o.val.In) (H : List ABlk) : ACalls Tryz.prog 74 [f.av, o.av] H (ObR f o H) := by
 refine ACalls.into Tryz.func74 cc74 rr74 fun hcl => ?_
 have fin : ∀ {B : Bool} {l : List ABlk}, (B = true ↔ ObP f.types o) -> Ret [RC.t 4] H.length (ObR f o H) (some (bv B)) (H ++ l) := fun {B l} h =>
  Ret.drop _ H (Nat.le_refl _) hcl (.rfl _) (by simp [refs]) ⟨⟨B, rfl, h⟩, rfl⟩
 have nof : ¬ ObP f.types o -> (false = true ↔ ObP f.types o) := fun h => ⟨fun h' => (by cases h'), fun h' => absurd h' h⟩
 have hP : ObP f.types o ↔ ObQ f.types o.cls o.name o.typ o.val o.n := Iff.rfl; obtain ⟨cls, name, typ, val, n⟩ := o; simp only at hv hP; have hkf := vl_fits hv; have hkz := vl_fits zeV_in; have hz0 : decide (val = zeV) = (decide (val.form = 0) && decide (val.n = 0) && decide (val.text = se)) := (Vl.eq_iff (w := zeV)).symm
 by_cases h1 : Nm name
 rotate_left
 ·simp (disch := omega) only [Tryz.ntmps74, c74, r74, Fc.cs, Ob.cs, go_sem, seval, reduceCtorEq]
  refine Cont.mk (named_c _ _) ?_; rw [nm_f h1]; simp (disch := omega) only [go_sem, seval, reduceCtorEq]; exact fin (nof fun h => h1 (hP.1 h).1)
 have h1' := nm_t h1
 by_cases h2 : typ < 0
 ·simp (disch := omega) only [Tryz.ntmps74, c74, r74, Fc.cs, Ob.cs, go_sem, seval, reduceCtorEq]
  refine Cont.mk (named_c _ _) ?_; rw [h1']; simp (disch := omega) only [go_sem, seval, reduceCtorEq]; exact fin (nof fun h => by have := (hP.1 h).2.1.1; omega)
 by_cases h3 : (f.types.length : Int) <= typ
 ·simp (disch := omega) only [Tryz.ntmps74, c74, r74, Fc.cs, Ob.cs, go_sem, seval, reduceCtorEq]
  refine Cont.mk (named_c _ _) ?_; rw [h1']; simp (disch := omega) only [lnm, go_sem, seval, reduceCtorEq]; exact fin (nof fun h => by have := (hP.1 h).2.1.2; omega)
 have hpl : placeP f.types typ := ⟨by omega, by omega⟩; have hia := iaA_ty (t := f.types) (a := typ) (by omega) (by omega)
 by_cases c1 : cls = 1
 ·simp (disch := omega) only [Tryz.ntmps74, c74, r74, Fc.cs, Ob.cs, go_sem, seval, reduceCtorEq]
  refine Cont.mk (named_c _ _) ?_; rw [h1']; simp (disch := omega) only [lnm, hia, Ty.c, go_sem, seval, reduceCtorEq]; refine Cont.rel (cgood_c hv _) ?_; rintro v H' ⟨⟨B, rfl, hB⟩, rfl⟩
  cases hBv : B with
  | false =>
   simp (disch := omega) only [go_sem, seval, reduceCtorEq]; exact fin (nof fun h => by
    rcases (hP.1 h).2.2 with h | h | h | h
    ·have := hB.2 h.2.1; rw [hBv] at this; cases this
    all_goals (have := h.1; omega))
  | true =>
   have hV := hB.1 hBv
   by_cases k1 : typ = val.form
   ·by_cases k2 : n = 0
    ·simp (disch := omega) only [go_sem, seval, reduceCtorEq]
     exact fin ⟨fun _ => hP.2 ⟨h1, hpl, .inl ⟨c1, hV, k1, k2⟩⟩, fun _ => rfl⟩
    ·simp (disch := omega) only [go_sem, seval, reduceCtorEq]
     exact fin (nof fun h => by rcases (hP.1 h).2.2 with h | h | h | h <;> first | exact k2 h.2.2.2 | (have := h.1; omega))
   ·simp (disch := omega) only [go_sem, seval, reduceCtorEq]
    exact fin (nof fun h => by rcases (hP.1 h).2.2 with h | h | h | h <;> first | exact k1 h.2.2.1 | (have := h.1; omega))
 cases hz : decide (val = zeV) with
 | false =>
  have hz2 := hz; rw [hz0] at hz2; have hno : ¬ ObP f.types ⟨cls, name, typ, val, n⟩ := fun h => by
   have hv0 : val ≠ zeV := of_decide_eq_false hz; rcases (hP.1 h).2.2 with h | h | h | h
   ·exact c1 h.1
   all_goals exact hv0 h.2.1
  simp (disch := omega) only [Tryz.ntmps74, c74, r74, Fc.cs, Ob.cs, go_sem, seval, reduceCtorEq]; refine Cont.mk (named_c _ _) ?_; rw [h1']; simp (disch := omega) only [lnm, vl_key, hkf, hkz, vl_keq, hz2, go_sem, seval, reduceCtorEq]; exact fin (nof hno)
 | true =>
  have hze : val = zeV := of_decide_eq_true hz; rw [hz0] at hz; simp (disch := omega) only [Tryz.ntmps74, c74, r74, Fc.cs, Ob.cs, go_sem, seval, reduceCtorEq]; refine Cont.mk (named_c _ _) ?_; rw [h1']; simp (disch := omega) only [lnm, vl_key, hkf, hkz, vl_keq, hz, hia, Ty.c, go_sem, seval, reduceCtorEq]
  by_cases c2 : cls = 2
  ·by_cases k1 : n = 0
   ·by_cases k2 : 1 <= typ
    ·by_cases k3 : typ <= 4
     ·simp (disch := omega) only [go_sem, seval, reduceCtorEq]
      exact fin ⟨fun _ => hP.2 ⟨h1, hpl, .inr (.inl ⟨c2, hze, k1, .inl ⟨k2, k3⟩⟩)⟩, fun _ => rfl⟩
     ·by_cases k4 : 7 <= typ
      ·simp (disch := omega) only [go_sem, seval, reduceCtorEq]
       exact fin ⟨fun _ => hP.2 ⟨h1, hpl, .inr (.inl ⟨c2, hze, k1, .inr k4⟩)⟩, fun _ => rfl⟩
      ·simp (disch := omega) only [go_sem, seval, reduceCtorEq]
       exact fin (nof fun h => by rcases (hP.1 h).2.2 with h | h | h | h <;> first | (have := h.2.2.2; omega) | (have := h.1; omega))
    ·simp (disch := omega) only [go_sem, seval, reduceCtorEq]
     exact fin (nof fun h => by rcases (hP.1 h).2.2 with h | h | h | h <;> first | (have := h.2.2.2; omega) | (have := h.1; omega))
   ·simp (disch := omega) only [go_sem, seval, reduceCtorEq]
    exact fin (nof fun h => by rcases (hP.1 h).2.2 with h | h | h | h <;> first | exact k1 h.2.2.1 | (have := h.1; omega))
  by_cases c3 : cls = 3
  ·by_cases k : (tyAt f.types typ).form ≠ 0 /\ (tyAt f.types typ).form ≠ 5 /\ (tyAt f.types typ).form ≠ 6 /\ (tyAt f.types typ).form ≠ 8
   ·obtain ⟨k1, k2, k3, k4⟩ := k
    by_cases k5 : 0 <= n
    ·by_cases k6 : n < 64
     ·simp (disch := omega) only [go_sem, seval, reduceCtorEq]
      exact fin ⟨fun _ => hP.2 ⟨h1, hpl, .inr (.inr (.inl ⟨c3, hze, k1, k2, k3, k4, k5, k6⟩))⟩, fun _ => rfl⟩
     ·simp (disch := omega) only [go_sem, seval, reduceCtorEq]
      exact fin (nof fun h => by rcases (hP.1 h).2.2 with h | h | h | h <;> first | exact k6 h.2.2.2.2.2.2.2 | (have := h.1; omega))
    ·simp (disch := omega) only [go_sem, seval, reduceCtorEq]
     exact fin (nof fun h => by rcases (hP.1 h).2.2 with h | h | h | h <;> first | exact k5 h.2.2.2.2.2.2.1 | (have := h.1; omega))
   ·have hno : ¬ ObP f.types ⟨cls, name, typ, val, n⟩ := fun h => by rcases (hP.1 h).2.2 with h | h | h | h <;> first | exact k ⟨h.2.2.1, h.2.2.2.1, h.2.2.2.2.1, h.2.2.2.2.2.1⟩ | (have := h.1; omega)
    have k' : (tyAt f.types typ).form = 0 \/ (tyAt f.types typ).form = 5 \/ (tyAt f.types typ).form = 6 \/ (tyAt f.types typ).form = 8 := by omega
    clear k
    generalize (tyAt f.types typ).form = fm at *
    rcases k' with rfl | rfl | rfl | rfl <;> (simp (disch := omega) only [go_sem, seval, reduceCtorEq]; exact fin (nof hno))
  by_cases c4 : cls = 4
  ·by_cases k : (tyAt f.types typ).form = 11
   ·by_cases k5 : 1 <= n
    ·by_cases k6 : n < 64
     ·simp (disch := omega) only [go_sem, seval, reduceCtorEq]
      exact fin ⟨fun _ => hP.2 ⟨h1, hpl, .inr (.inr (.inr ⟨c4, hze, k, k5, k6⟩))⟩, fun _ => rfl⟩
     ·simp (disch := omega) only [go_sem, seval, reduceCtorEq]
      exact fin (nof fun h => by rcases (hP.1 h).2.2 with h | h | h | h <;> first | exact k6 h.2.2.2.2 | (have := h.1; omega))
    ·simp (disch := omega) only [go_sem, seval, reduceCtorEq]
     exact fin (nof fun h => by rcases (hP.1 h).2.2 with h | h | h | h <;> first | exact k5 h.2.2.2.1 | (have := h.1; omega))
   ·simp (disch := omega) only [go_sem, seval, reduceCtorEq]
    exact fin (nof fun h => by rcases (hP.1 h).2.2 with h | h | h | h <;> first | exact k h.2.2.1 | (have := h.1; omega))
  ·simp (disch := omega) only [go_sem, seval, reduceCtorEq]
   exact fin (nof fun h => by rcases (hP.1 h).2.2 with h | h | h | h <;> (have := h.1; omega))
def c82 : AC :=
 sr [kn 1 (.bx t0), im 2 kF]
 (.seq (sr [ia 3 t1 0, il 4 t3, ib 5 .neq t4 (kc 6), im 6 t5, ky 7 6 (.fa t1 2), ky 8 6 (.ld t7 1 false), ky 9 6 (.bin .neq t8 (.c ks)), kn 10 (.pick t6 t9 kF)]
 (.cond t10 (sr [im 2 kF]
 (.ret)) (.skip)))
 (.seq (sr [ia 11 t1 0, il 12 t11]
 (.block 0 (sr [ib 14 .eql t12 (kc 1), im 13 t14]
 (.cond t13 (sr [ia 15 t1 1, il 16 t15, ic 17 67 [t16, (kc 32)], im 2 t17]
 (.ret)) (sr [ib 19 .eql t12 (kc 2), im 18 t19]
 (.cond t18 (sr [ia 20 t1 1, il 21 t20, ib 22 .eql t21 (kc 0), im 23 t22, ko 24 23 (.fa t1 1), ko 25 23 (.ld t24 1 false), ko 26 23 (.bin .eql t25 (kc 1)), kn 27 (.pick t23 kT t26), im 2 t27]
 (.ret)) (sr [ib 29 .eql t12 (kc 3), im 28 t29]
 (.cond t28 (sr [ia 30 t1 1, il 31 t30, ib 32 .geq t31 (kc 0), im 33 t32, ky 34 33 (.fa t1 1), ky 35 33 (.ld t34 1 false), ky 36 33 (.bin .lss t35 (kc 256)), kn 37 (.pick t33 t36 kF), im 2 t37]
 (.ret)) (sr [ib 39 .eql t12 (kc 4), im 38 t39]
 (.cond t38 (sr [ia 40 t1 1, il 41 t40, ib 42 .geq t41 (kc 0), im 43 t42, ky 44 43 (.fa t1 1), ky 45 43 (.ld t44 1 false), ky 46 43 (.bin .lss t45 (kc 4294967296)), kn 47 (.pick t43 t46 kF), im 2 t47]
 (.ret)) (sr [ib 49 .eql t12 (kc 5), im 48 t49]
 (.cond t48 (sr [ia 50 t1 1, il 51 t50, ib 52 .eql t51 (kc 0), im 2 t52]
 (.ret)) (sr [ib 54 .eql t12 (kc 6), im 53 t54]
 (.cond t53 (sr [ia 55 t1 1, il 56 t55, ib 57 .eql t56 (kc 0), im 58 t57, ky 59 58 (.fa t1 2), ky 60 58 (.ld t59 1 false), ky 61 58 (.call 93 [t60]), kn 62 (.pick t58 t61 kF), im 2 t62]
 (.ret)) (.skip)))))))))))))))
 (sr [im 2 kF]
 (.ret))))
def r82 : List RC := [.t 2]
def c93l0 : AC :=
 .seq (sr [im 7 t3, im 8 t0, kn 9 (.len true t8), ib 10 .lss t7 t9]
 (.cond t10 (.skip) (.exit 0)))
 (.seq (.block 1 (sr [im 13 t0, im 14 t3, kn 15 (.ix t13 t14), kn 16 (.bin .lss t15 (.c (.d (.v (.int .u8 32))))), im 17 t16, ko 18 17 (.mv t0), ko 19 17 (.mv t3), ko 20 17 (.ix t18 t19), ko 21 17 (.bin .eql t20 (.c (.d (.v (.int .u8 34))))), kn 22 (.pick t17 kT t21)]
 (.cond t22 (sr [im 2 kF]
 (.ret)) (.skip))))
 (.reg [im 11 t3, ib 12 .add t11 (kc 1), im 3 t12]))
def c93 : AC :=
 sr [im 2 kF]
 (.seq (sr [im 4 t0, kn 5 (.len true t4), ib 6 .gtr t5 (kc 64)]
 (.cond t6 (sr [im 2 kF]
 (.ret)) (.skip)))
 (.seq (sr [im 3 (kc 0)]
 (.block 0 (.loop c93l0)))
 (sr [im 2 kT]
 (.ret))))
def r93 : List RC := [.t 2]
theorem cc82 : cK Tryz.f82 (hhI 82) c82 := by unfold cK; kernel_rfl
theorem rr82 : resC Tryz.prog Tryz.f82 = some r82 := by kernel_rfl
theorem cc93 : cK Tryz.f93 (hhI 93) c93 := by unfold cK; kernel_rfl
theorem rr93 : resC Tryz.prog Tryz.f93 = some r93 := by kernel_rfl
def StrP (s : ByteArray) : Prop := s.size <= 64 /\ plainB s
theorem rstring_c {s : ByteArray} (ht : s.size <= 140737488355328) (H : List ABlk) : ACalls Tryz.prog 93 [sv s] H fun u H' => (∃ B, u = bv B /\ (B = true ↔ StrP s)) /\ H' = H := by
 refine ACalls.into Tryz.func93 cc93 rr93 fun hcl => ?_
 have nof : ∀ {p : Prop}, ¬ p -> (false = true ↔ p) := fun h => ⟨fun h' => (by cases h'), fun h' => absurd h' h⟩
 have fin : ∀ {B : Bool}, (B = true ↔ StrP s) -> Ret [RC.t 2] H.length (fun u H' => (∃ B, u = bv B /\ (B = true ↔ StrP s)) /\ H' = H) (some (bv B)) H := fun {B} h => Ret.keep ⟨⟨B, rfl, h⟩, rfl⟩
 by_cases hs : 64 < s.size
 ·simp (disch := omega) only [Tryz.ntmps93, c93, r93, go_sem, seval, reduceCtorEq]
  exact fin (nof fun h => by have := h.1; omega)
 simp (disch := omega) only [Tryz.ntmps93, c93, r93, go_sem, seval, reduceCtorEq]; obtain ⟨S, hS⟩ : ∃ S : Nat -> List AV, ∀ i, S i = [sv s, .any, bv false, iv i] ++ List.replicate 19 .any := ⟨_, fun _ => rfl⟩; refine W.loopG (γ := Nat) (fun i => s.size - i) S (fun _ => H) (fun i => i <= s.size /\ ∀ j, j < i -> 32 <= chr s j /\ chr s j ≠ 34) 0 (Wk.slots (WkL.tw 4 (hS _))) ⟨by omega, fun j hj => by omega⟩ (fun i hi => ?_); obtain ⟨q1, q2⟩ := hi; simp (disch := omega) only [c93l0, hS, go_sem, seval, reduceCtorEq]; refine Br.dec (fun hc => ?_) (fun hc => ?_) <;> simp (disch := omega) only [go_sem, seval, reduceCtorEq]
 ·by_cases k1 : chr s i < 32
  ·have k1' := k1
   simp only [chr] at k1'; simp (disch := omega) only [go_sem, seval, reduceCtorEq]; exact fin (nof fun h => by have := (h.2 i (by omega)).1; omega)
  ·by_cases k2 : chr s i = 34
   ·simp only [chr] at k1 k2
    simp (disch := omega) only [go_sem, seval, reduceCtorEq]; exact fin (nof fun h => by have := (h.2 i (by omega)).2; simp only [chr] at this; omega)
   ·have k1' := k1
    have k2' := k2; simp only [chr] at k1' k2'; simp (disch := omega) only [go_sem, seval, reduceCtorEq]; refine Nxt.mk (i + 1) (by omega) (Wk.slots (WkL.tw 4 (hS _))) ⟨by omega, fun j hj => ?_⟩; rcases Nat.lt_or_ge j i with h' | h'
    ·exact q2 j h'
    ·rw [show j = i by omega]; exact ⟨by omega, k2⟩
 ·exact fin ⟨fun _ => ⟨by omega, fun j hj => q2 j (by omega)⟩, fun _ => rfl⟩
theorem rcgood_c {v : Vl} (hv : v.In) (H : List ABlk) : ACalls Tryz.prog 82 [v.av] H fun u H' => (∃ B, u = bv B /\ (B = true ↔ VlP v)) /\ H' = H := by
 refine ACalls.into Tryz.func82 cc82 rr82 fun hcl => ?_
 obtain ⟨⟨f0, f1⟩, ⟨n0, n1⟩, ht⟩ := hv; obtain ⟨a, n, s⟩ := v; simp only at f0 f1 n0 n1 ht; have fin : ∀ {B : Bool} {l : List ABlk}, (B = true ↔ VlP ⟨a, n, s⟩) -> Ret [RC.t 2] H.length (fun u H' => (∃ B, u = bv B /\ (B = true ↔ VlP ⟨a, n, s⟩)) /\ H' = H) (some (bv B)) (H ++ l) := fun {B l} h =>
  Ret.drop _ H (Nat.le_refl _) hcl (.rfl _) (by simp [refs]) ⟨⟨B, rfl, h⟩, rfl⟩
 have hP : VlP ⟨a, n, s⟩ ↔ (a = 6 /\ n = 0 /\ s.size <= 64 /\ plainB s) \/ (s = se /\ ((a = 1 /\ -2147483648 <= n /\ n <= 2147483647) \/ (a = 2 /\ (n = 0 \/ n = 1)) \/ (a = 3 /\ 0 <= n /\ n < 256) \/ (a = 4 /\ 0 <= n /\ n < 4294967296) \/ (a = 5 /\ n = 0))) := Iff.rfl; have nof : ∀ {p : Prop}, ¬ p -> (false = true ↔ p) := fun h => ⟨fun h' => (by cases h'), fun h' => absurd h' h⟩
 by_cases a6 : a = 6
 ·subst a6
  by_cases hn : n = 0
  ·simp (disch := omega) only [Tryz.ntmps82, c82, r82, go_sem, seval, reduceCtorEq]
   refine Cont.rel (rstring_c ht _) ?_; rintro v H' ⟨⟨B, rfl, hB⟩, rfl⟩; simp (disch := omega) only [go_sem, seval, reduceCtorEq]; exact fin (hB.trans ⟨fun h => hP.2 (.inl ⟨rfl, hn, h⟩), fun h => by rcases hP.1 h with h | ⟨_, h | h | h | h | h⟩ <;> first | exact h.2.2 | omega⟩)
  ·simp (disch := omega) only [Tryz.ntmps82, c82, r82, go_sem, seval, reduceCtorEq]
   exact fin (nof fun h => by rcases hP.1 h with h | ⟨_, h | h | h | h | h⟩ <;> omega)
 cases hse : decide (s = se) with
 | false =>
  simp (disch := omega) only [Tryz.ntmps82, c82, r82, hse, go_sem, seval, reduceCtorEq]; exact fin (nof fun h => by
   rcases hP.1 h with h | ⟨h, _⟩
   ·omega
   ·simp [h] at hse)
 | true =>
  have hse' := of_decide_eq_true hse
  by_cases a1 : a = 1
  ·simp (disch := omega) only [Tryz.ntmps82, c82, r82, hse, go_sem, seval, reduceCtorEq]
   refine Cont.rel (rfits_c _ _) ?_; rintro v H' ⟨⟨B, rfl, hB⟩, rfl⟩; simp (disch := omega) only [go_sem, seval, reduceCtorEq]; exact fin (hB.trans ⟨fun h => hP.2 (.inr ⟨hse', .inl ⟨a1, h⟩⟩), fun h => by rcases hP.1 h with h | ⟨_, h | h | h | h | h⟩ <;> first | omega | exact h.2⟩)
  by_cases a2 : a = 2
  ·by_cases n0' : n = 0
   ·simp (disch := omega) only [Tryz.ntmps82, c82, r82, hse, go_sem, seval, reduceCtorEq]
    exact fin ⟨fun _ => hP.2 (.inr ⟨hse', .inr (.inl ⟨a2, .inl n0'⟩)⟩), fun _ => rfl⟩
   by_cases n1' : n = 1
   ·simp (disch := omega) only [Tryz.ntmps82, c82, r82, hse, go_sem, seval, reduceCtorEq]
    exact fin ⟨fun _ => hP.2 (.inr ⟨hse', .inr (.inl ⟨a2, .inr n1'⟩)⟩), fun _ => rfl⟩
   ·simp (disch := omega) only [Tryz.ntmps82, c82, r82, hse, go_sem, seval, reduceCtorEq]
    exact fin (nof fun h => by rcases hP.1 h with h | ⟨_, h | h | h | h | h⟩ <;> omega)
  by_cases a3 : a = 3
  ·by_cases k0 : 0 <= n
   ·by_cases k1 : n < 256
    ·simp (disch := omega) only [Tryz.ntmps82, c82, r82, hse, go_sem, seval, reduceCtorEq]
     exact fin ⟨fun _ => hP.2 (.inr ⟨hse', .inr (.inr (.inl ⟨a3, by omega, by omega⟩))⟩), fun _ => rfl⟩
    ·simp (disch := omega) only [Tryz.ntmps82, c82, r82, hse, go_sem, seval, reduceCtorEq]
     exact fin (nof fun h => by rcases hP.1 h with h | ⟨_, h | h | h | h | h⟩ <;> omega)
   ·simp (disch := omega) only [Tryz.ntmps82, c82, r82, hse, go_sem, seval, reduceCtorEq]
    exact fin (nof fun h => by rcases hP.1 h with h | ⟨_, h | h | h | h | h⟩ <;> omega)
  by_cases a4 : a = 4
  ·by_cases k0 : 0 <= n
   ·by_cases k1 : n < 4294967296
    ·simp (disch := omega) only [Tryz.ntmps82, c82, r82, hse, go_sem, seval, reduceCtorEq]
     exact fin ⟨fun _ => hP.2 (.inr ⟨hse', .inr (.inr (.inr (.inl ⟨a4, by omega, by omega⟩)))⟩), fun _ => rfl⟩
    ·simp (disch := omega) only [Tryz.ntmps82, c82, r82, hse, go_sem, seval, reduceCtorEq]
     exact fin (nof fun h => by rcases hP.1 h with h | ⟨_, h | h | h | h | h⟩ <;> omega)
   ·simp (disch := omega) only [Tryz.ntmps82, c82, r82, hse, go_sem, seval, reduceCtorEq]
    exact fin (nof fun h => by rcases hP.1 h with h | ⟨_, h | h | h | h | h⟩ <;> omega)
  by_cases a5 : a = 5
  ·by_cases hr : n = 0
   ·simp (disch := omega) only [Tryz.ntmps82, c82, r82, hse, go_sem, seval, reduceCtorEq]
    exact fin ⟨fun _ => hP.2 (.inr ⟨hse', .inr (.inr (.inr (.inr ⟨a5, hr⟩)))⟩), fun _ => rfl⟩
   ·simp (disch := omega) only [Tryz.ntmps82, c82, r82, hse, go_sem, seval, reduceCtorEq]
    exact fin (nof fun h => by rcases hP.1 h with h | ⟨_, h | h | h | h | h⟩ <;> omega)
  ·simp (disch := omega) only [Tryz.ntmps82, c82, r82, hse, go_sem, seval, reduceCtorEq]
   exact fin (nof fun h => by rcases hP.1 h with h | ⟨_, h | h | h | h | h⟩ <;> omega)
def c71 : AC :=
 sr [kn 2 (.bx t0), kn 3 (.bx t1), im 4 kF]
 (.seq (sr [ia 6 t3 1, il 7 t6, ic 8 68 [t7], kn 9 (.un .not t8), im 10 t9, ko 11 10 (.fa t3 2), ko 12 10 (.ld t11 1 false), ko 13 10 (.bin .lss t12 (kc 0)), kn 14 (.pick t10 kT t13), im 15 t14, ko 16 15 (.fa t3 2), ko 17 15 (.ld t16 1 false), ko 18 15 (.fa t2 3), ko 19 15 (.ld t18 1 false), ko 20 15 (.len false t19), ko 21 15 (.bin .geq t17 t20), kn 22 (.pick t15 kT t21), im 23 t22, ko 24 23 (.fa t3 0), ko 25 23 (.ld t24 1 false), ko 26 23 (.bin .neq t25 (kc 1)), ko 27 23 (.mv t26), ky 28 27 (.fa t3 3), ky 29 27 (.ld t28 3 true), ky 30 27 (.bd [kz, kz, ks] []), ky 31 27 (.call 59 [t29, t30]), ky 32 27 (.un .not t31), ko 33 23 (.pick t27 t32 kF), kn 34 (.pick t23 kT t33)]
 (.cond t34 (sr [im 4 kF]
 (.ret)) (.skip)))
 (sr [ia 35 t2 3, il 36 t35, ia 37 t3 2, il 38 t37, kn 39 (.ia t36 t38 10), ia 40 t39 0, il 41 t40, im 5 t41]
 (.seq (sr [ia 42 t3 0, il 43 t42]
 (.block 0 (sr [ib 45 .eql t43 (kc 1), im 44 t45]
 (.cond t44 (sr [ia 46 t3 3, kn 47 (.ld t46 3 true), ic 48 82 [t47], im 49 t48, ky 50 49 (.fa t3 2), ky 51 49 (.ld t50 1 false), ky 52 49 (.fa t3 3), ky 53 49 (.fa t52 0), ky 54 49 (.ld t53 1 false), ky 55 49 (.bin .eql t51 t54), kn 56 (.pick t49 t55 kF), im 57 t56, ky 58 57 (.fa t3 6), ky 59 57 (.ld t58 1 false), ky 60 57 (.bin .eql t59 (kc 0)), kn 61 (.pick t57 t60 kF), im 4 t61]
 (.ret)) (sr [ib 63 .eql t43 (kc 2), im 62 t63]
 (.cond t62 (sr [ia 64 t3 2, il 65 t64, ib 66 .geq t65 (kc 1), im 67 t66, ky 68 67 (.fa t3 2), ky 69 67 (.ld t68 1 false), ky 70 67 (.bin .leq t69 (kc 4)), kn 71 (.pick t67 t70 kF), im 72 t71, ko 73 72 (.fa t3 2), ko 74 72 (.ld t73 1 false), ko 75 72 (.bin .geq t74 (kc 7)), kn 76 (.pick t72 kT t75), im 77 t76, ky 78 77 (.fa t3 6), ky 79 77 (.ld t78 1 false), ky 80 77 (.bin .eql t79 (kc 0)), kn 81 (.pick t77 t80 kF), im 4 t81]
 (.ret)) (sr [ib 83 .eql t43 (kc 3), im 82 t83]
 (.cond t82 (sr [im 84 t5, ib 85 .neq t84 (kc 0), im 86 t85, ky 87 86 (.mv t5), ky 88 86 (.bin .neq t87 (kc 5)), kn 89 (.pick t86 t88 kF), im 90 t89, ky 91 90 (.mv t5), ky 92 90 (.bin .neq t91 (kc 6)), kn 93 (.pick t90 t92 kF), im 94 t93, ky 95 94 (.mv t5), ky 96 94 (.bin .neq t95 (kc 8)), kn 97 (.pick t94 t96 kF), im 98 t97, ky 99 98 (.fa t3 6), ky 100 98 (.ld t99 1 false), ky 101 98 (.bin .geq t100 (kc 0)), kn 102 (.pick t98 t101 kF), im 103 t102, ky 104 103 (.fa t3 6), ky 105 103 (.ld t104 1 false), ky 106 103 (.bin .lss t105 (kc 64)), kn 107 (.pick t103 t106 kF), im 4 t107]
 (.ret)) (sr [ib 109 .eql t43 (kc 4), im 108 t109]
 (.cond t108 (sr [im 110 t5, ib 111 .eql t110 (kc 11), im 112 t111, ky 113 112 (.fa t3 6), ky 114 112 (.ld t113 1 false), ky 115 112 (.bin .geq t114 (kc 1)), kn 116 (.pick t112 t115 kF), im 117 t116, ky 118 117 (.fa t3 6), ky 119 117 (.ld t118 1 false), ky 120 117 (.bin .lss t119 (kc 64)), kn 121 (.pick t117 t120 kF), im 4 t121]
 (.ret)) (.skip)))))))))))
 (sr [im 4 kF]
 (.ret)))))
def r71 : List RC := [.t 4]
theorem cc71 : cK Tryz.f71 (hhI 71) c71 := by unfold cK; kernel_rfl
theorem rr71 : resC Tryz.prog Tryz.f71 = some r71 := by kernel_rfl
theorem robject_c {f : Fc} (hl : f.types.length <= 9000000) {o : Ob} (hv : o.val.In) (H : List ABlk) : ACalls Tryz.prog 71 [f.av, o.av] H (ObR f o H) := by
 refine ACalls.into Tryz.func71 cc71 rr71 fun hcl => ?_
 have fin : ∀ {B : Bool} {l : List ABlk}, (B = true ↔ ObP f.types o) -> Ret [RC.t 4] H.length (ObR f o H) (some (bv B)) (H ++ l) := fun {B l} h =>
  Ret.drop _ H (Nat.le_refl _) hcl (.rfl _) (by simp [refs]) ⟨⟨B, rfl, h⟩, rfl⟩
 have nof : ¬ ObP f.types o -> (false = true ↔ ObP f.types o) := fun h => ⟨fun h' => (by cases h'), fun h' => absurd h' h⟩
 have hP : ObP f.types o ↔ ObQ f.types o.cls o.name o.typ o.val o.n := Iff.rfl; obtain ⟨cls, name, typ, val, n⟩ := o; simp only at hv hP; have hkf := vl_fits hv; have hkz := vl_fits zeV_in; have hz0 : decide (val = zeV) = (decide (val.form = 0) && decide (val.n = 0) && decide (val.text = se)) := (Vl.eq_iff (w := zeV)).symm
 by_cases h1 : Nm name
 rotate_left
 ·simp (disch := omega) only [Tryz.ntmps71, c71, r71, Fc.cs, Ob.cs, go_sem, seval, reduceCtorEq]
  refine Cont.mk (iword_c _ _) ?_; rw [nm_f h1]; simp (disch := omega) only [go_sem, seval, reduceCtorEq]; exact fin (nof fun h => h1 (hP.1 h).1)
 have h1' := nm_t h1
 by_cases h2 : typ < 0
 ·simp (disch := omega) only [Tryz.ntmps71, c71, r71, Fc.cs, Ob.cs, go_sem, seval, reduceCtorEq]
  refine Cont.mk (iword_c _ _) ?_; rw [h1']; simp (disch := omega) only [go_sem, seval, reduceCtorEq]; exact fin (nof fun h => by have := (hP.1 h).2.1.1; omega)
 by_cases h3 : (f.types.length : Int) <= typ
 ·simp (disch := omega) only [Tryz.ntmps71, c71, r71, Fc.cs, Ob.cs, go_sem, seval, reduceCtorEq]
  refine Cont.mk (iword_c _ _) ?_; rw [h1']; simp (disch := omega) only [lnm, go_sem, seval, reduceCtorEq]; exact fin (nof fun h => by have := (hP.1 h).2.1.2; omega)
 have hpl : placeP f.types typ := ⟨by omega, by omega⟩; have hia := iaA_ty (t := f.types) (a := typ) (by omega) (by omega)
 by_cases c1 : cls = 1
 ·simp (disch := omega) only [Tryz.ntmps71, c71, r71, Fc.cs, Ob.cs, go_sem, seval, reduceCtorEq]
  refine Cont.mk (iword_c _ _) ?_; rw [h1']; simp (disch := omega) only [lnm, hia, Ty.c, go_sem, seval, reduceCtorEq]; refine Cont.rel (rcgood_c hv _) ?_; rintro v H' ⟨⟨B, rfl, hB⟩, rfl⟩
  cases hBv : B with
  | false =>
   simp (disch := omega) only [go_sem, seval, reduceCtorEq]; exact fin (nof fun h => by
    rcases (hP.1 h).2.2 with h | h | h | h
    ·have := hB.2 h.2.1; rw [hBv] at this; cases this
    all_goals (have := h.1; omega))
  | true =>
   have hV := hB.1 hBv
   by_cases k1 : typ = val.form
   ·by_cases k2 : n = 0
    ·simp (disch := omega) only [go_sem, seval, reduceCtorEq]
     exact fin ⟨fun _ => hP.2 ⟨h1, hpl, .inl ⟨c1, hV, k1, k2⟩⟩, fun _ => rfl⟩
    ·simp (disch := omega) only [go_sem, seval, reduceCtorEq]
     exact fin (nof fun h => by rcases (hP.1 h).2.2 with h | h | h | h <;> first | exact k2 h.2.2.2 | (have := h.1; omega))
   ·simp (disch := omega) only [go_sem, seval, reduceCtorEq]
    exact fin (nof fun h => by rcases (hP.1 h).2.2 with h | h | h | h <;> first | exact k1 h.2.2.1 | (have := h.1; omega))
 cases hz : decide (val = zeV) with
 | false =>
  have hz2 := hz; rw [hz0] at hz2; have hno : ¬ ObP f.types ⟨cls, name, typ, val, n⟩ := fun h => by
   have hv0 : val ≠ zeV := of_decide_eq_false hz; rcases (hP.1 h).2.2 with h | h | h | h
   ·exact c1 h.1
   all_goals exact hv0 h.2.1
  simp (disch := omega) only [Tryz.ntmps71, c71, r71, Fc.cs, Ob.cs, go_sem, seval, reduceCtorEq]; refine Cont.mk (iword_c _ _) ?_; rw [h1']; simp (disch := omega) only [lnm, go_sem, seval, reduceCtorEq]; refine Cont.mk (rsameV_c val zeV _) ?_; rw [hz]; simp (disch := omega) only [go_sem, seval, reduceCtorEq]; exact fin (nof hno)
 | true =>
  have hze : val = zeV := of_decide_eq_true hz; simp (disch := omega) only [Tryz.ntmps71, c71, r71, Fc.cs, Ob.cs, go_sem, seval, reduceCtorEq]; refine Cont.mk (iword_c _ _) ?_; rw [h1']; simp (disch := omega) only [lnm, go_sem, seval, reduceCtorEq]; refine Cont.mk (rsameV_c val zeV _) ?_; rw [hz]; simp (disch := omega) only [hia, Ty.c, go_sem, seval, reduceCtorEq]
  by_cases c2 : cls = 2
  ·by_cases k1 : n = 0
   ·by_cases k2 : 1 <= typ
    ·by_cases k3 : typ <= 4
     ·simp (disch := omega) only [go_sem, seval, reduceCtorEq]
      exact fin ⟨fun _ => hP.2 ⟨h1, hpl, .inr (.inl ⟨c2, hze, k1, .inl ⟨k2, k3⟩⟩)⟩, fun _ => rfl⟩
     ·by_cases k4 : 7 <= typ
      ·simp (disch := omega) only [go_sem, seval, reduceCtorEq]
       exact fin ⟨fun _ => hP.2 ⟨h1, hpl, .inr (.inl ⟨c2, hze, k1, .inr k4⟩)⟩, fun _ => rfl⟩
      ·simp (disch := omega) only [go_sem, seval, reduceCtorEq]
       exact fin (nof fun h => by rcases (hP.1 h).2.2 with h | h | h | h <;> first | (have := h.2.2.2; omega) | (have := h.1; omega))
    ·simp (disch := omega) only [go_sem, seval, reduceCtorEq]
     exact fin (nof fun h => by rcases (hP.1 h).2.2 with h | h | h | h <;> first | (have := h.2.2.2; omega) | (have := h.1; omega))
   ·by_cases k2 : 1 <= typ
    ·by_cases k3 : typ <= 4
     ·simp (disch := omega) only [go_sem, seval, reduceCtorEq]
      exact fin (nof fun h => by rcases (hP.1 h).2.2 with h | h | h | h <;> first | exact k1 h.2.2.1 | (have := h.1; omega))
     ·by_cases k4 : 7 <= typ
      ·simp (disch := omega) only [go_sem, seval, reduceCtorEq]
       exact fin (nof fun h => by rcases (hP.1 h).2.2 with h | h | h | h <;> first | exact k1 h.2.2.1 | (have := h.1; omega))
      ·simp (disch := omega) only [go_sem, seval, reduceCtorEq]
       exact fin (nof fun h => by rcases (hP.1 h).2.2 with h | h | h | h <;> first | exact k1 h.2.2.1 | (have := h.1; omega))
    ·simp (disch := omega) only [go_sem, seval, reduceCtorEq]
     exact fin (nof fun h => by rcases (hP.1 h).2.2 with h | h | h | h <;> first | exact k1 h.2.2.1 | (have := h.1; omega))
  by_cases c3 : cls = 3
  ·by_cases k : (tyAt f.types typ).form ≠ 0 /\ (tyAt f.types typ).form ≠ 5 /\ (tyAt f.types typ).form ≠ 6 /\ (tyAt f.types typ).form ≠ 8
   ·obtain ⟨k1, k2, k3, k4⟩ := k
    by_cases k5 : 0 <= n
    ·by_cases k6 : n < 64
     ·simp (disch := omega) only [go_sem, seval, reduceCtorEq]
      exact fin ⟨fun _ => hP.2 ⟨h1, hpl, .inr (.inr (.inl ⟨c3, hze, k1, k2, k3, k4, k5, k6⟩))⟩, fun _ => rfl⟩
     ·simp (disch := omega) only [go_sem, seval, reduceCtorEq]
      exact fin (nof fun h => by rcases (hP.1 h).2.2 with h | h | h | h <;> first | exact k6 h.2.2.2.2.2.2.2 | (have := h.1; omega))
    ·simp (disch := omega) only [go_sem, seval, reduceCtorEq]
     exact fin (nof fun h => by rcases (hP.1 h).2.2 with h | h | h | h <;> first | exact k5 h.2.2.2.2.2.2.1 | (have := h.1; omega))
   ·have hno : ¬ ObP f.types ⟨cls, name, typ, val, n⟩ := fun h => by rcases (hP.1 h).2.2 with h | h | h | h <;> first | exact k ⟨h.2.2.1, h.2.2.2.1, h.2.2.2.2.1, h.2.2.2.2.2.1⟩ | (have := h.1; omega)
    have k' : (tyAt f.types typ).form = 0 \/ (tyAt f.types typ).form = 5 \/ (tyAt f.types typ).form = 6 \/ (tyAt f.types typ).form = 8 := by omega
    clear k
    generalize (tyAt f.types typ).form = fm at *
    rcases k' with rfl | rfl | rfl | rfl <;> (simp (disch := omega) only [go_sem, seval, reduceCtorEq]; exact fin (nof hno))
  by_cases c4 : cls = 4
  ·by_cases k : (tyAt f.types typ).form = 11
   ·by_cases k5 : 1 <= n
    ·by_cases k6 : n < 64
     ·simp (disch := omega) only [go_sem, seval, reduceCtorEq]
      exact fin ⟨fun _ => hP.2 ⟨h1, hpl, .inr (.inr (.inr ⟨c4, hze, k, k5, k6⟩))⟩, fun _ => rfl⟩
     ·simp (disch := omega) only [go_sem, seval, reduceCtorEq]
      exact fin (nof fun h => by rcases (hP.1 h).2.2 with h | h | h | h <;> first | exact k6 h.2.2.2.2 | (have := h.1; omega))
    ·simp (disch := omega) only [go_sem, seval, reduceCtorEq]
     exact fin (nof fun h => by rcases (hP.1 h).2.2 with h | h | h | h <;> first | exact k5 h.2.2.2.1 | (have := h.1; omega))
   ·simp (disch := omega) only [go_sem, seval, reduceCtorEq]
    exact fin (nof fun h => by rcases (hP.1 h).2.2 with h | h | h | h <;> first | exact k h.2.2.1 | (have := h.1; omega))
  ·simp (disch := omega) only [go_sem, seval, reduceCtorEq]
   exact fin (nof fun h => by rcases (hP.1 h).2.2 with h | h | h | h <;> (have := h.1; omega))
end Go.Proofs.YthifjndenhjobaaGreat
