/- Tables of types: the first seven, copies. -/
import Derived.Test.YthifjndenhjobaaGreatVT2
set_option linter.unusedSectionVars false
set_option linter.unusedSimpArgs false
set_option linter.unusedVariables false
set_option maxHeartbeats 4000000
set_option maxRecDepth 20000
namespace Go.Proofs.YthifjndenhjobaaGreat
open Go.RowKit
def c32l0 : AC :=
 .seq (sr [im 11 t5, im 12 t0, kn 13 (.len false t12), ib 14 .lss t11 t13]
 (.cond t14 (.skip) (.exit 0)))
 (.seq (.block 1 (.seq (.dreg [[], [], [0, 1], [2], [], [], [4, 5], [6], [3, 7], [8]] [im 17 t0, im 18 t5, kn 19 (.ia t17 t18 10), kn 20 (.ld t19 10 true), im 21 t1, im 22 t5, kn 23 (.ia t21 t22 10), kn 24 (.ld t23 10 true), ic 25 58 [t20, t24], kn 26 (.un .not t25)])
 (.cond t26 (sr [im 4 kF]
 (.ret)) (.skip))))
 (.reg [im 15 t5, ib 16 .add t15 (kc 1), im 5 t16]))
def c32 : AC :=
 sr [im 4 kF]
 (.seq (sr [im 6 t0, kn 7 (.len false t6), im 8 t1, kn 9 (.len false t8), ib 10 .neq t7 t9]
 (.cond t10 (sr [im 4 kF]
 (.ret)) (.skip)))
 (.seq (sr [im 5 (kc 0)]
 (.block 0 (.loop c32l0)))
 (sr [im 4 kT]
 (.ret))))
def r32 : List RC := [.t 4]
def c15l0 : AC :=
 .seq (sr [im 3 t2, ib 4 .leq t3 (kc 6)]
 (.cond t4 (.skip) (.exit 0)))
 (.seq (.block 1 (.reg [im 7 t1, im 8 t2, kn 9 (.bd [kz, ks, ks, kz, kz, kz, .esl, .esl, kz, kz] [(0, 1, t8)]), kn 10 (.bs .im 52 10 [t9]), kn 11 (.app .gr 52 10 128 t7 t10), kn 1 (.mvg 52 10 t11)]))
 (.reg [im 5 t2, ib 6 .add t5 (kc 1), im 2 t6]))
def c15 : AC :=
 sr [im 0 (.c .esl)]
 (sr [kn 1 (.mvg 52 10 (.c .esl))]
 (.seq (sr [im 2 (kc 0)]
 (.block 0 (.loop c15l0)))
 (sr [im 12 t1, im 0 t12]
 (.ret))))
def r15 : List RC := [.t 0]
def c9l0 : AC :=
 .seq (sr [im 3 t2, ib 4 .lss t3 (kc 7)]
 (.cond t4 (.skip) (.exit 0)))
 (.seq (.block 1 (.reg [im 7 t1, im 8 t2, kn 9 (.bd [kz, ks, ks, kz, kz, kz, .esl, .esl, kz, kz] [(0, 1, t8)]), kn 10 (.bs .im 52 10 [t9]), kn 11 (.app .gr 52 10 128 t7 t10), kn 1 (.mvg 52 10 t11)]))
 (.reg [im 5 t2, ib 6 .add t5 (kc 1), im 2 t6]))
def c9 : AC :=
 sr [im 0 (.c .esl)]
 (sr [kn 1 (.mvg 52 10 (.c .esl))]
 (.seq (sr [im 2 (kc 0)]
 (.block 0 (.loop c9l0)))
 (sr [im 12 t1, im 0 t12]
 (.ret))))
def r9 : List RC := [.t 0]
def c58l0 : AC :=
 .seq (sr [im 129 t6, ia 130 t2 7, il 131 t130, kn 132 (.len false t131), ib 133 .lss t129 t132]
 (.cond t133 (.skip) (.exit 2)))
 (.seq (.block 3 (.seq (.dreg [[], [0], [], [1, 2], [3], [4], [], [6], [], [7, 8], [9], [10], [5, 11], [12], [13], [14, 13], [13], [15, 16, 13], [17, 13], [18, 13], [13], [20, 13], [13], [21, 22, 13], [23, 13], [24, 13], [19, 25, 13], [13, 26]] [ia 136 t2 7, il 137 t136, im 138 t6, kn 139 (.ia t137 t138 2), ia 140 t139 0, il 141 t140, ia 142 t3 7, il 143 t142, im 144 t6, kn 145 (.ia t143 t144 2), ia 146 t145 0, il 147 t146, kn 148 (.eqs true t141 t147), im 149 t148, ko 150 149 (.fa t2 7), ko 151 149 (.ld t150 1 false), ko 152 149 (.mv t6), ko 153 149 (.ia t151 t152 2), ko 154 149 (.fa t153 1), ko 155 149 (.ld t154 1 false), ko 156 149 (.fa t3 7), ko 157 149 (.ld t156 1 false), ko 158 149 (.mv t6), ko 159 149 (.ia t157 t158 2), ko 160 149 (.fa t159 1), ko 161 149 (.ld t160 1 false), ko 162 149 (.bin .neq t155 t161), kn 163 (.pick t149 kT t162)])
 (.cond t163 (sr [im 4 kF]
 (.ret)) (.skip))))
 (.reg [im 134 t6, ib 135 .add t134 (kc 1), im 6 t135]))
def c58l1 : AC :=
 .seq (sr [im 79 t5, ia 80 t2 6, il 81 t80, kn 82 (.len false t81), ib 83 .lss t79 t82]
 (.cond t83 (.skip) (.exit 0)))
 (.seq (.block 1 (.seq (.dreg [[], [0], [], [1, 2], [3], [4], [], [6], [], [7, 8], [9], [10], [5, 11], [12], [13], [14, 13], [13], [15, 16, 13], [17, 13], [18, 13], [13], [20, 13], [13], [21, 22, 13], [23, 13], [24, 13], [19, 25, 13], [13, 26], [27, 13], [28], [29, 28], [28], [30, 31, 28], [32, 28], [33, 28], [28], [35, 28], [28], [36, 37, 28], [38, 28], [39, 28], [34, 40, 28], [28, 41]] [ia 86 t2 6, il 87 t86, im 88 t5, kn 89 (.ia t87 t88 3), ia 90 t89 0, il 91 t90, ia 92 t3 6, il 93 t92, im 94 t5, kn 95 (.ia t93 t94 3), ia 96 t95 0, il 97 t96, ib 98 .neq t91 t97, im 99 t98, ko 100 99 (.fa t2 6), ko 101 99 (.ld t100 1 false), ko 102 99 (.mv t5), ko 103 99 (.ia t101 t102 3), ko 104 99 (.fa t103 1), ko 105 99 (.ld t104 1 false), ko 106 99 (.fa t3 6), ko 107 99 (.ld t106 1 false), ko 108 99 (.mv t5), ko 109 99 (.ia t107 t108 3), ko 110 99 (.fa t109 1), ko 111 99 (.ld t110 1 false), ko 112 99 (.eqs true t105 t111), kn 113 (.pick t99 kT t112), im 114 t113, ko 115 114 (.fa t2 6), ko 116 114 (.ld t115 1 false), ko 117 114 (.mv t5), ko 118 114 (.ia t116 t117 3), ko 119 114 (.fa t118 2), ko 120 114 (.ld t119 1 false), ko 121 114 (.fa t3 6), ko 122 114 (.ld t121 1 false), ko 123 114 (.mv t5), ko 124 114 (.ia t122 t123 3), ko 125 114 (.fa t124 2), ko 126 114 (.ld t125 1 false), ko 127 114 (.bin .neq t120 t126), kn 128 (.pick t114 kT t127)])
 (.cond t128 (sr [im 4 kF]
 (.ret)) (.skip))))
 (.reg [im 84 t5, ib 85 .add t84 (kc 1), im 5 t85]))
def c58 : AC :=
 sr [kn 2 (.bx t0), kn 3 (.bx t1), im 4 kF]
 (.seq (sr [ia 7 t2 0, il 8 t7, ia 9 t3 0, il 10 t9, ib 11 .neq t8 t10, im 12 t11, ko 13 12 (.fa t2 1), ko 14 12 (.ld t13 1 false), ko 15 12 (.fa t3 1), ko 16 12 (.ld t15 1 false), ko 17 12 (.bin .neq t14 t16), kn 18 (.pick t12 kT t17), im 19 t18, ko 20 19 (.fa t2 2), ko 21 19 (.ld t20 1 false), ko 22 19 (.fa t3 2), ko 23 19 (.ld t22 1 false), ko 24 19 (.bin .neq t21 t23), kn 25 (.pick t19 kT t24), im 26 t25, ko 27 26 (.fa t2 3), ko 28 26 (.ld t27 1 false), ko 29 26 (.fa t3 3), ko 30 26 (.ld t29 1 false), ko 31 26 (.bin .neq t28 t30), kn 32 (.pick t26 kT t31), im 33 t32, ko 34 33 (.fa t2 4), ko 35 33 (.ld t34 1 false), ko 36 33 (.fa t3 4), ko 37 33 (.ld t36 1 false), ko 38 33 (.bin .neq t35 t37), kn 39 (.pick t33 kT t38), im 40 t39, ko 41 40 (.fa t2 5), ko 42 40 (.ld t41 1 false), ko 43 40 (.fa t3 5), ko 44 40 (.ld t43 1 false), ko 45 40 (.bin .neq t42 t44), kn 46 (.pick t40 kT t45), im 47 t46, ko 48 47 (.fa t2 8), ko 49 47 (.ld t48 1 false), ko 50 47 (.fa t3 8), ko 51 47 (.ld t50 1 false), ko 52 47 (.bin .neq t49 t51), kn 53 (.pick t47 kT t52), im 54 t53, ko 55 54 (.fa t2 9), ko 56 54 (.ld t55 1 false), ko 57 54 (.fa t3 9), ko 58 54 (.ld t57 1 false), ko 59 54 (.bin .neq t56 t58), kn 60 (.pick t54 kT t59), im 61 t60, ko 62 61 (.fa t2 6), ko 63 61 (.ld t62 1 false), ko 64 61 (.len false t63), ko 65 61 (.fa t3 6), ko 66 61 (.ld t65 1 false), ko 67 61 (.len false t66), ko 68 61 (.bin .neq t64 t67), kn 69 (.pick t61 kT t68), im 70 t69, ko 71 70 (.fa t2 7), ko 72 70 (.ld t71 1 false), ko 73 70 (.len false t72), ko 74 70 (.fa t3 7), ko 75 70 (.ld t74 1 false), ko 76 70 (.len false t75), ko 77 70 (.bin .neq t73 t76), kn 78 (.pick t70 kT t77)]
 (.cond t78 (sr [im 4 kF]
 (.ret)) (.skip)))
 (.seq (sr [im 5 (kc 0)]
 (.block 0 (.loop c58l1)))
 (.seq (sr [im 6 (kc 0)]
 (.block 2 (.loop c58l0)))
 (sr [im 4 kT]
 (.ret)))))
def r58 : List RC := [.t 4]
theorem cc32 : cK Tryz.f32 (hh 32) c32 := by unfold cK; kernel_rfl
theorem rr32 : resC Tryz.prog Tryz.f32 = some r32 := by kernel_rfl
theorem cc15 : cK Tryz.f15 (hh 15) c15 := by unfold cK; kernel_rfl
theorem rr15 : resC Tryz.prog Tryz.f15 = some r15 := by kernel_rfl
theorem cc9 : cK Tryz.f9 (hh 9) c9 := by unfold cK; kernel_rfl
theorem rr9 : resC Tryz.prog Tryz.f9 = some r9 := by kernel_rfl
theorem cc58 : cK Tryz.f58 (hh 58) c58 := by unfold cK; kernel_rfl
theorem rr58 : resC Tryz.prog Tryz.f58 = some r58 := by kernel_rfl
def bt (k : Int) : Ty := ⟨k, se, se, 0, 0, 0, [], [], 0, 0⟩
def basicL : List Ty := [bt 0, bt 1, bt 2, bt 3, bt 4, bt 5, bt 6]
theorem basic_at {i : Nat} (h : i < 7) : basicL.getD i default = bt i := by
 rcases (by omega : i = 0 \/ i = 1 \/ i = 2 \/ i = 3 \/ i = 4 \/ i = 5 \/ i = 6) with rfl | rfl | rfl | rfl | rfl | rfl | rfl <;> rfl
theorem basic_take {i : Nat} (h : i < 7) : (basicL.take (i + 1)).map Ty.c = (basicL.take i).map Ty.c ++ [(bt i).c] := by
 rw [getD_take (d := default) (show i < basicL.length from h), basic_at h, List.map_append]; rfl
theorem basic_len {i : Nat} (h : i <= 7) : ((basicL.take i).map Ty.c).length = i := by
 rw [lnm, List.length_take]; show min i 7 = i; omega
theorem cl.row {H : List ABlk} (h : cl H) (e sz n : Nat) : cl (H ++ [.row e sz n]) := h.append fun k hk r hr => by simp at hk; subst hk; simp [ABlk.refs] at hr
theorem tbasic_c (H : List ABlk) : ACalls Tryz.prog 15 [] H fun v H' => v = .gsl H.length 10 (basicL.map Ty.c) /\ H' = H ++ [.row 52 10 7] := by
 refine ACalls.into Tryz.func15 cc15 rr15 fun hcl => ?_
 simp (disch := omega) only [Tryz.ntmps15, c15, r15, go_sem, seval, reduceCtorEq]; obtain ⟨S, hS⟩ : ∃ S : Nat -> List AV, ∀ i, S i = [.any, .gsl H.length 10 ((basicL.take i).map Ty.c), iv i] ++ List.replicate 10 .any := ⟨_, fun _ => rfl⟩; refine W.loopG (γ := Nat) (fun i => 7 - i) S (fun i => H ++ [.row 52 10 i]) (fun i => i <= 7) 0 (Wk.slots (WkL.tw 3 (hS _))) (by omega) (fun i hi => ?_); have hl := basic_len hi; simp (disch := omega) only [c15l0, hS, go_sem, seval, reduceCtorEq]; refine Br.dec (fun hc => ?_) (fun hc => ?_) <;> simp (disch := omega) only [hl, go_sem, seval, reduceCtorEq]
 ·refine Nxt.mk (i + 1) (by omega) (Wk.slots ?_) (by omega)
  have e := basic_take (i := i) (by omega); rw [bt, Ty.c] at e; simp only [List.map_nil] at e; rw [hS, e]; exact WkL.tail 3 _ rfl (by simp only [List.take_succ_cons, List.take_zero]; repeat' constructor)
 ·have : i = 7 := by omega
  subst this; exact Ret.keep ⟨rfl, rfl⟩
theorem rbasic_c (H : List ABlk) : ACalls Tryz.prog 9 [] H fun v H' => v = .gsl H.length 10 (basicL.map Ty.c) /\ H' = H ++ [.row 52 10 7] := by
 refine ACalls.into Tryz.func9 cc9 rr9 fun hcl => ?_
 simp (disch := omega) only [Tryz.ntmps9, c9, r9, go_sem, seval, reduceCtorEq]; obtain ⟨S, hS⟩ : ∃ S : Nat -> List AV, ∀ i, S i = [.any, .gsl H.length 10 ((basicL.take i).map Ty.c), iv i] ++ List.replicate 10 .any := ⟨_, fun _ => rfl⟩; refine W.loopG (γ := Nat) (fun i => 7 - i) S (fun i => H ++ [.row 52 10 i]) (fun i => i <= 7) 0 (Wk.slots (WkL.tw 3 (hS _))) (by omega) (fun i hi => ?_); have hl := basic_len hi; simp (disch := omega) only [c9l0, hS, go_sem, seval, reduceCtorEq]; refine Br.dec (fun hc => ?_) (fun hc => ?_) <;> simp (disch := omega) only [hl, go_sem, seval, reduceCtorEq]
 ·refine Nxt.mk (i + 1) (by omega) (Wk.slots ?_) (by omega)
  have e := basic_take (i := i) (by omega); rw [bt, Ty.c] at e; simp only [List.map_nil] at e; rw [hS, e]; exact WkL.tail 3 _ rfl (by simp only [List.take_succ_cons, List.take_zero]; repeat' constructor)
 ·have : i = 7 := by omega
  subst this; exact Ret.keep ⟨rfl, rfl⟩
theorem alike_c {x y : Ty} (hx : x.Ok) (H : List ABlk) : ACalls Tryz.prog 58 [x.av, y.av] H fun v H' => v = bv (decide (x = y)) /\ H' = H := by
 obtain ⟨B, hB⟩ : ∃ B, B = decide (x = y) := ⟨_, rfl⟩; rw [<- hB]; refine ACalls.into Tryz.func58 cc58 rr58 fun hcl => ?_
 obtain ⟨x1, x2, x3, x4⟩ := hx; have no : ∀ {p : Prop}, (x = y -> p) -> ¬ p -> false = B := fun h hp => by rw [hB]; exact (decide_eq_false fun e => hp (h e)).symm
 have fin : ∀ {v : Bool}, v = B -> ∀ l, Ret r58 H.length (fun v H' => v = bv B /\ H' = H) (some (bv v)) (H ++ l) := fun {v} e l => Ret.drop (bv B) H (Nat.le_refl _) hcl (by rw [e]; exact .rfl _) (by simp [refs]) ⟨rfl, rfl⟩
 simp (disch := omega) only [Tryz.ntmps58, c58, r58, Ty.cs, lnm, go_sem, seval, reduceCtorEq]; refine Br.yes (fun h1 => ?_) (fun h1 => ?_) <;> simp (disch := omega) only [h1, go_sem, seval, reduceCtorEq]
 rotate_left
 ·exact fin (no (fun e => congrArg Ty.form e) (of_decide_eq_false h1)) _
 refine Br.yes (fun h2 => ?_) (fun h2 => ?_) <;> simp (disch := omega) only [h2, go_sem, seval, reduceCtorEq]
 rotate_left
 ·exact fin (no (fun e => congrArg Ty.mod e) (of_decide_eq_false h2)) _
 refine Br.yes (fun h3 => ?_) (fun h3 => ?_) <;> simp (disch := omega) only [h3, go_sem, seval, reduceCtorEq]
 rotate_left
 ·exact fin (no (fun e => congrArg Ty.name e) (of_decide_eq_false h3)) _
 refine Br.yes (fun h4 => ?_) (fun h4 => ?_) <;> simp (disch := omega) only [h4, go_sem, seval, reduceCtorEq]
 rotate_left
 ·exact fin (no (fun e => congrArg Ty.len e) (of_decide_eq_false h4)) _
 refine Br.yes (fun h5 => ?_) (fun h5 => ?_) <;> simp (disch := omega) only [h5, go_sem, seval, reduceCtorEq]
 rotate_left
 ·exact fin (no (fun e => congrArg Ty.elem e) (of_decide_eq_false h5)) _
 refine Br.yes (fun h6 => ?_) (fun h6 => ?_) <;> simp (disch := omega) only [h6, go_sem, seval, reduceCtorEq]
 rotate_left
 ·exact fin (no (fun e => congrArg Ty.base e) (of_decide_eq_false h6)) _
 refine Br.yes (fun h7 => ?_) (fun h7 => ?_) <;> simp (disch := omega) only [h7, go_sem, seval, reduceCtorEq]
 rotate_left
 ·exact fin (no (fun e => congrArg Ty.result e) (of_decide_eq_false h7)) _
 refine Br.yes (fun h8 => ?_) (fun h8 => ?_) <;> simp (disch := omega) only [h8, go_sem, seval, reduceCtorEq]
 rotate_left
 ·exact fin (no (fun e => congrArg Ty.desc e) (of_decide_eq_false h8)) _
 refine Br.yes (fun h9 => ?_) (fun h9 => ?_) <;> simp (disch := omega) only [h9, go_sem, seval, reduceCtorEq]
 rotate_left
 ·exact fin (no (fun e => congrArg (fun z : Ty => (z.fields.length : Int)) e) (of_decide_eq_false h9)) _
 refine Br.yes (fun h10 => ?_) (fun h10 => ?_) <;> simp (disch := omega) only [h10, go_sem, seval, reduceCtorEq]
 rotate_left
 ·exact fin (no (fun e => congrArg (fun z : Ty => (z.params.length : Int)) e) (of_decide_eq_false h10)) _
 refine W.loopG (γ := Nat) (fun i => x.fields.length - i) (fun i => [.any, .any, .ptr H.length 0, .ptr (H.length + 1) 0, .any, iv i] ++ List.replicate 158 .any) (fun _ => H ++ [.cells x.cs, .cells y.cs]) (fun i => i <= x.fields.length /\ ∀ j, j < i -> x.fields.getD j default = y.fields.getD j default) 0 (Wk.slots WkL.wk) ⟨by omega, fun j hj => by omega⟩ (fun i hi => ?_); obtain ⟨q1, q2⟩ := hi; have h9' := of_decide_eq_true h9; have h10' := of_decide_eq_true h10; simp (disch := omega) only [c58l1, lnm, Ty.cs, go_sem, seval, reduceCtorEq]; refine Br.dec (fun hc => ?_) (fun hc => ?_) <;> simp (disch := omega) only [go_sem, seval, reduceCtorEq]
 ·have hia := iaA_fd (t := x.fields) (a := i) (by omega) (by omega)
  have hib := iaA_fd (t := y.fields) (a := i) (by omega) (by omega); have e1 : fdAt x.fields (i : Int) = x.fields.getD i default := rfl; have e2 : fdAt y.fields (i : Int) = y.fields.getD i default := rfl; have nof : ∀ {p : Prop}, (x.fields.getD i default = y.fields.getD i default -> p) -> ¬ p -> false = B := fun hf hp => no (fun e => by rw [e]) (fun e => hp (hf e))
  rw [e1] at hia; rw [e2] at hib; refine W.pchain follows (by decide +kernel) ?_
  by_cases k1 : (x.fields.getD i default).name = (y.fields.getD i default).name
  rotate_left
  ·simp (disch := omega) only [hia, hib, Fd.c, k1, go_sem, seval, reduceCtorEq]
   exact fin (nof (fun e => congrArg Fd.name e) k1) _
  by_cases k2 : (x.fields.getD i default).exp = (y.fields.getD i default).exp
  rotate_left
  ·have k2' : ((x.fields.getD i default).exp == (y.fields.getD i default).exp) = false := by simpa using k2
   simp (disch := omega) only [hia, hib, Fd.c, k1, k2', go_sem, seval, reduceCtorEq]; exact fin (nof (fun e => congrArg Fd.exp e) k2) _
  by_cases k3 : (x.fields.getD i default).typ = (y.fields.getD i default).typ
  rotate_left
  ·simp (disch := omega) only [hia, hib, Fd.c, k1, k2, k3, go_sem, seval, reduceCtorEq]
   exact fin (nof (fun e => congrArg Fd.typ e) k3) _
  simp (disch := omega) only [hia, hib, Fd.c, k1, k2, k3, go_sem, seval, reduceCtorEq]; refine Nxt.mk (i + 1) (by omega) (Wk.slots WkL.wk) ⟨by omega, fun j hj => ?_⟩; rcases Nat.lt_or_ge j i with h' | h'
  ·exact q2 j h'
  ·rw [show j = i by omega]
   generalize x.fields.getD i default = p at *
   generalize y.fields.getD i default = q at *
   obtain ⟨a, b, c⟩ := p; obtain ⟨a', b', c'⟩ := q; simp only at k1 k2 k3; rw [k1, k2, k3]
 have ef : x.fields = y.fields := ext_at (d := default) (by omega) fun j hj => q2 j (by omega)
 refine W.loopG (γ := Nat) (fun i => x.params.length - i) (fun i => [.any, .any, .ptr H.length 0, .ptr (H.length + 1) 0, .any, .any, iv i] ++ List.replicate 157 .any) (fun _ => H ++ [.cells x.cs, .cells y.cs]) (fun i => i <= x.params.length /\ ∀ j, j < i -> x.params.getD j default = y.params.getD j default) 0 (Wk.slots WkL.wk) ⟨by omega, fun j hj => by omega⟩ (fun i hi => ?_); obtain ⟨r1, r2⟩ := hi; simp (disch := omega) only [c58l0, lnm, Ty.cs, go_sem, seval, reduceCtorEq]; refine Br.dec (fun hc2 => ?_) (fun hc2 => ?_) <;> simp (disch := omega) only [go_sem, seval, reduceCtorEq]
 ·have hia := iaA_pm (t := x.params) (a := i) (by omega) (by omega)
  have hib := iaA_pm (t := y.params) (a := i) (by omega) (by omega); have e1 : pmAt x.params (i : Int) = x.params.getD i default := rfl; have e2 : pmAt y.params (i : Int) = y.params.getD i default := rfl; have nof : ∀ {p : Prop}, (x.params.getD i default = y.params.getD i default -> p) -> ¬ p -> false = B := fun hf hp => no (fun e => by rw [e]) (fun e => hp (hf e))
  rw [e1] at hia; rw [e2] at hib; refine W.pchain follows (by decide +kernel) ?_
  by_cases k2 : (x.params.getD i default).var = (y.params.getD i default).var
  rotate_left
  ·have k2' : ((x.params.getD i default).var == (y.params.getD i default).var) = false := by simpa using k2
   simp (disch := omega) only [hia, hib, Pm.c, k2', go_sem, seval, reduceCtorEq]; exact fin (nof (fun e => congrArg Pm.var e) k2) _
  by_cases k3 : (x.params.getD i default).typ = (y.params.getD i default).typ
  rotate_left
  ·simp (disch := omega) only [hia, hib, Pm.c, k2, k3, go_sem, seval, reduceCtorEq]
   exact fin (nof (fun e => congrArg Pm.typ e) k3) _
  simp (disch := omega) only [hia, hib, Pm.c, k2, k3, go_sem, seval, reduceCtorEq]; refine Nxt.mk (i + 1) (by omega) (Wk.slots WkL.wk) ⟨by omega, fun j hj => ?_⟩; rcases Nat.lt_or_ge j i with h' | h'
  ·exact r2 j h'
  ·rw [show j = i by omega]
   generalize x.params.getD i default = p at *
   generalize y.params.getD i default = q at *
   obtain ⟨b, c⟩ := p; obtain ⟨b', c'⟩ := q; simp only at k2 k3; rw [k2, k3]
 have ep : x.params = y.params := ext_at (d := default) (by omega) fun j hj => r2 j (by omega)
 refine fin ?_ _; rw [hB]; refine (decide_eq_true ?_).symm; have g1 := of_decide_eq_true h1; have g2 := of_decide_eq_true h2; have g3 := of_decide_eq_true h3; have g4 := of_decide_eq_true h4; have g5 := of_decide_eq_true h5; have g6 := of_decide_eq_true h6; have g7 := of_decide_eq_true h7; have g8 := of_decide_eq_true h8; clear no fin hB q2 r2; obtain ⟨a1, a2, a3, a4, a5, a6, a7, a8, a9, a10⟩ := x; obtain ⟨b1, b2, b3, b4, b5, b6, b7, b8, b9, b10⟩ := y; simp only at ef ep g1 g2 g3 g4 g5 g6 g7 g8; rw [ef, ep, g1, g2, g3, g4, g5, g6, g7, g8]
theorem tables_c {a b : List Ty} (ha : TOk a) (hb : TOk b) (H : List ABlk) : ACalls Tryz.prog 32 [tv a, tv b] H fun v H' => v = bv (decide (a = b)) /\ H' = H := by
 obtain ⟨B, hB⟩ : ∃ B, B = decide (a = b) := ⟨_, rfl⟩; rw [<- hB]; refine ACalls.into Tryz.func32 cc32 rr32 fun hcl => ?_
 have ha1 := ha.1; have hb1 := hb.1; have no : ∀ {p : Prop}, (a = b -> p) -> ¬ p -> false = B := fun h hp => by rw [hB]; exact (decide_eq_false fun e => hp (h e)).symm
 by_cases hl : a.length = b.length
 rotate_left
 ·simp (disch := omega) only [Tryz.ntmps32, c32, r32, lnm, go_sem, seval, reduceCtorEq]
  exact Ret.keep ⟨by rw [<- no (fun e => congrArg List.length e) hl], rfl⟩
 simp (disch := omega) only [Tryz.ntmps32, c32, r32, lnm, hl, go_sem, seval, reduceCtorEq]; refine W.loopG (γ := Nat) (fun i => a.length - i) (fun i => [tv a, tv b, .any, .any, .any, iv i] ++ List.replicate 21 .any) (fun _ => H) (fun i => i <= a.length /\ ∀ j, j < i -> a.getD j default = b.getD j default) 0 (Wk.slots WkL.wk) ⟨by omega, fun j hj => by omega⟩ (fun i hi => ?_); obtain ⟨q1, q2⟩ := hi; simp (disch := omega) only [c32l0, lnm, go_sem, seval, reduceCtorEq]; refine Br.dec (fun hc => ?_) (fun hc => ?_) <;> simp (disch := omega) only [go_sem, seval, reduceCtorEq]
 ·have hia := iaA_ty (t := a) (a := i) (by omega) (by omega)
  have hib := iaA_ty (t := b) (a := i) (by omega) (by omega); have al := alike_c (x := tyAt a i) (y := tyAt b i) (ha.at_ (by omega) (by omega)) H; refine W.pchain follows (by decide +kernel) ?_; rw [Ty.av, Ty.av, Ty.cs, Ty.cs] at al; simp (disch := omega) only [hia, hib, Ty.c, go_sem, seval, reduceCtorEq]; refine PCont.mk al ?_
  cases hd : decide (tyAt a i = tyAt b i) with
  | true =>
   simp (disch := omega) only [go_sem, seval, reduceCtorEq]; refine Nxt.mk (i + 1) (by omega) (Wk.slots WkL.wk) ⟨by omega, fun j hj => ?_⟩; rcases Nat.lt_or_ge j i with h' | h'
   ·exact q2 j h'
   ·rw [show j = i by omega]; exact of_decide_eq_true hd
  | false =>
   simp (disch := omega) only [go_sem, seval, reduceCtorEq]; exact Ret.keep ⟨by rw [<- no (fun e => by rw [e]) (of_decide_eq_false hd)], rfl⟩
 ·refine Ret.keep ⟨?_, rfl⟩
  rw [hB, decide_eq_true (ext_at (d := default) hl fun j hj => q2 j (by omega))]
end Go.Proofs.YthifjndenhjobaaGreat
