/- Lists alike. Printed by genIH.py. -/
import Derived.Test.YthifjndenhjobaaZIF
namespace Go.Proofs.Ythifjndenhjobaa
set_option linter.unusedSimpArgs false
set_option linter.unusedVariables false
set_option maxRecDepth 20000
set_option maxHeartbeats 4000000
open Go.RowKit

def c45l0 : AC :=
 .seq (.reg [kn 14 (.bin .lss (.t 13) (.t 12))])
 (.seq (.cond (.t 14) (.skip) (.exit 0))
 (.seq (.block 1 (.seq (.reg [kn 15 (.mv (.t 13)), kn 5 (.mv (.t 15))])
 (.seq (.dreg [[], [], [0, 1], [2], [], [], [4, 5], [6], [3, 7]] [kn 16 (.mv (.t 0)), kn 17 (.mv (.t 5)), kn 18 (.ia (.t 16) (.t 17) 2), kn 19 (.ld (.t 18) 2 true), kn 20 (.mv (.t 1)), kn 21 (.mv (.t 5)), kn 22 (.ia (.t 20) (.t 21) 2), kn 23 (.ld (.t 22) 2 true), kn 24 (.eqg ⟨true, [.s, .i .u32]⟩ true (.t 19) (.t 23))])
 (.cond (.t 24) (.seq (.reg [kn 4 (.mv (.c (.d (.v (.bool false)))))])
 (.ret)) (.skip)))))
 (.reg [kn 25 (.bin .add (.t 13) (kc 1)), kn 13 (.mv (.t 25))])))

def c45 : AC :=
 .seq (.reg [kn 4 (.mv (.c (.d (.v (.bool false)))))])
 (.seq (.seq (.reg [kn 6 (.mv (.t 0)), kn 7 (.len false (.t 6)), kn 8 (.mv (.t 1)), kn 9 (.len false (.t 8)), kn 10 (.bin .neq (.t 7) (.t 9))])
 (.cond (.t 10) (.seq (.reg [kn 4 (.mv (.c (.d (.v (.bool false)))))])
 (.ret)) (.skip)))
 (.seq (.seq (.reg [kn 11 (.mv (.t 0)), kn 12 (.len false (.t 11)), kn 13 (.mv (kc 0))])
 (.block 0 (.loop c45l0)))
 (.seq (.reg [kn 4 (.mv (.c (.d (.v (.bool true)))))])
 (.ret))))
def r45 : List RC := [.t 4]

def c46l0 : AC :=
 .seq (.reg [kn 14 (.bin .lss (.t 13) (.t 12))])
 (.seq (.cond (.t 14) (.skip) (.exit 0))
 (.seq (.block 1 (.seq (.reg [kn 15 (.mv (.t 13)), kn 5 (.mv (.t 15))])
 (.seq (.dreg [[], [], [0, 1], [2], [], [], [4, 5], [6], [3, 7]] [kn 16 (.mv (.t 0)), kn 17 (.mv (.t 5)), kn 18 (.ia (.t 16) (.t 17) 7), kn 19 (.ld (.t 18) 7 true), kn 20 (.mv (.t 1)), kn 21 (.mv (.t 5)), kn 22 (.ia (.t 20) (.t 21) 7), kn 23 (.ld (.t 22) 7 true), kn 24 (.eqg ⟨true, [.i .i64, .s, .i .i64, .i .i64, .i .i64, .s, .i .i64]⟩ true (.t 19) (.t 23))])
 (.cond (.t 24) (.seq (.reg [kn 4 (.mv (.c (.d (.v (.bool false)))))])
 (.ret)) (.skip)))))
 (.reg [kn 25 (.bin .add (.t 13) (kc 1)), kn 13 (.mv (.t 25))])))

def c46 : AC :=
 .seq (.reg [kn 4 (.mv (.c (.d (.v (.bool false)))))])
 (.seq (.seq (.reg [kn 6 (.mv (.t 0)), kn 7 (.len false (.t 6)), kn 8 (.mv (.t 1)), kn 9 (.len false (.t 8)), kn 10 (.bin .neq (.t 7) (.t 9))])
 (.cond (.t 10) (.seq (.reg [kn 4 (.mv (.c (.d (.v (.bool false)))))])
 (.ret)) (.skip)))
 (.seq (.seq (.reg [kn 11 (.mv (.t 0)), kn 12 (.len false (.t 11)), kn 13 (.mv (kc 0))])
 (.block 0 (.loop c46l0)))
 (.seq (.reg [kn 4 (.mv (.c (.d (.v (.bool true)))))])
 (.ret))))
def r46 : List RC := [.t 4]

def c49l0 : AC :=
 .seq (.reg [kn 14 (.bin .lss (.t 13) (.t 12))])
 (.seq (.cond (.t 14) (.skip) (.exit 0))
 (.seq (.block 1 (.seq (.reg [kn 15 (.mv (.t 13)), kn 5 (.mv (.t 15))])
 (.seq (.dreg [[], [], [0, 1], [2], [], [], [4, 5], [6], [3, 7]] [kn 16 (.mv (.t 0)), kn 17 (.mv (.t 5)), kn 18 (.ia (.t 16) (.t 17) 3), kn 19 (.ld (.t 18) 3 true), kn 20 (.mv (.t 1)), kn 21 (.mv (.t 5)), kn 22 (.ia (.t 20) (.t 21) 3), kn 23 (.ld (.t 22) 3 true), kn 24 (.eqg ⟨true, [.s, .b, .i .i64]⟩ true (.t 19) (.t 23))])
 (.cond (.t 24) (.seq (.reg [kn 4 (.mv (.c (.d (.v (.bool false)))))])
 (.ret)) (.skip)))))
 (.reg [kn 25 (.bin .add (.t 13) (kc 1)), kn 13 (.mv (.t 25))])))

def c49 : AC :=
 .seq (.reg [kn 4 (.mv (.c (.d (.v (.bool false)))))])
 (.seq (.seq (.reg [kn 6 (.mv (.t 0)), kn 7 (.len false (.t 6)), kn 8 (.mv (.t 1)), kn 9 (.len false (.t 8)), kn 10 (.bin .neq (.t 7) (.t 9))])
 (.cond (.t 10) (.seq (.reg [kn 4 (.mv (.c (.d (.v (.bool false)))))])
 (.ret)) (.skip)))
 (.seq (.seq (.reg [kn 11 (.mv (.t 0)), kn 12 (.len false (.t 11)), kn 13 (.mv (kc 0))])
 (.block 0 (.loop c49l0)))
 (.seq (.reg [kn 4 (.mv (.c (.d (.v (.bool true)))))])
 (.ret))))
def r49 : List RC := [.t 4]

def c50l0 : AC :=
 .seq (.reg [kn 14 (.bin .lss (.t 13) (.t 12))])
 (.seq (.cond (.t 14) (.skip) (.exit 0))
 (.seq (.block 1 (.seq (.reg [kn 15 (.mv (.t 13)), kn 5 (.mv (.t 15))])
 (.seq (.dreg [[], [], [0, 1], [2], [], [], [4, 5], [6], [3, 7]] [kn 16 (.mv (.t 0)), kn 17 (.mv (.t 5)), kn 18 (.ia (.t 16) (.t 17) 2), kn 19 (.ld (.t 18) 2 true), kn 20 (.mv (.t 1)), kn 21 (.mv (.t 5)), kn 22 (.ia (.t 20) (.t 21) 2), kn 23 (.ld (.t 22) 2 true), kn 24 (.eqg ⟨true, [.b, .i .i64]⟩ true (.t 19) (.t 23))])
 (.cond (.t 24) (.seq (.reg [kn 4 (.mv (.c (.d (.v (.bool false)))))])
 (.ret)) (.skip)))))
 (.reg [kn 25 (.bin .add (.t 13) (kc 1)), kn 13 (.mv (.t 25))])))

def c50 : AC :=
 .seq (.reg [kn 4 (.mv (.c (.d (.v (.bool false)))))])
 (.seq (.seq (.reg [kn 6 (.mv (.t 0)), kn 7 (.len false (.t 6)), kn 8 (.mv (.t 1)), kn 9 (.len false (.t 8)), kn 10 (.bin .neq (.t 7) (.t 9))])
 (.cond (.t 10) (.seq (.reg [kn 4 (.mv (.c (.d (.v (.bool false)))))])
 (.ret)) (.skip)))
 (.seq (.seq (.reg [kn 11 (.mv (.t 0)), kn 12 (.len false (.t 11)), kn 13 (.mv (kc 0))])
 (.block 0 (.loop c50l0)))
 (.seq (.reg [kn 4 (.mv (.c (.d (.v (.bool true)))))])
 (.ret))))
def r50 : List RC := [.t 4]

theorem cc45 : Try.f45.body.bind (comp Try.prog (hhI 45)) = some c45 := by kernel_rfl
theorem rr45 : resC Try.prog Try.f45 = some r45 := by kernel_rfl
theorem cc46 : Try.f46.body.bind (comp Try.prog (hhI 46)) = some c46 := by kernel_rfl
theorem rr46 : resC Try.prog Try.f46 = some r46 := by kernel_rfl
theorem cc49 : Try.f49.body.bind (comp Try.prog (hhI 49)) = some c49 := by kernel_rfl
theorem rr49 : resC Try.prog Try.f49 = some r49 := by kernel_rfl
theorem cc50 : Try.f50.body.bind (comp Try.prog (hhI 50)) = some c50 := by kernel_rfl
theorem rr50 : resC Try.prog Try.f50 = some r50 := by kernel_rfl
theorem kc_u {n : Int} (h : 0 ≤ n ∧ n < 4294967296) : kcFit (.i .u32) (.int .u32 n) = true := by
 have a : decide (IntKind.u32.min ≤ n) = true := decide_eq_true (by rw [show IntKind.u32.min = 0 from rfl]; exact h.1)
 have b : decide (n ≤ IntKind.u32.max) = true := decide_eq_true (by rw [show IntKind.u32.max = 4294967295 by decide]; omega)
 simp only [kcFit, a, b]; rfl
theorem kc_b {b : Bool} : kcFit .b (.bool b) = true := rfl
structure FitU (x : Us) : Prop where
 a0 : x.name.size ≤ 140737488355328
 a1 : 0 ≤ x.key ∧ x.key < 4294967296
def keyU (x : Us) : Value := .agg #[.string x.name, .int .u32 x.key]
theorem keyU_of (x : Us) : keyOf (.agg [sv x.name, wv x.key]) = some (keyU x) := rfl
theorem keyU_fits {x : Us} (h : FitU x) : keyFits ⟨true, [.s, .i .u32]⟩ (keyU x) = true := by
 show (kcFit .s (.string x.name) && (kcFit (.i .u32) (.int .u32 x.key) && true)) = true
 rw [kc_s h.a0, kc_u h.a1]; rfl
theorem keyU_eq (x y : Us) : keq (keyU x) (keyU y) = decide (x = y) := by
 obtain ⟨x1, x2⟩ := x
 obtain ⟨y1, y2⟩ := y
 simp only [keyU, keq, keqL, keq1, Bool.and_true]
 by_cases h1 : x1 = y1 <;> by_cases h2 : x2 = y2 <;> simp [h1, h2]
theorem equalU_c {a b : List Us} (la : a.length ≤ 140737488355328) (lb : b.length ≤ 140737488355328) (ha : ∀ x ∈ a, FitU x) (hb : ∀ x ∈ b, FitU x) (H : List ABlk) : ACalls Try.prog 45 [usv a, usv b] H fun v H' => v = bv (cdec (a = b)) ∧ H' = H := by
 refine ACalls.into Try.func45 cc45 rr45 fun hcl => ?_
 have fin : ∀ {B : Bool}, (B = true ↔ a = b) → Ret [RC.t 4] H.length (fun v H' => v = bv (cdec (a = b)) ∧ H' = H) (some (bv B)) H := fun {B} h => Ret.keep ⟨cdec_of ⟨B, rfl, h⟩, rfl⟩
 have no : a ≠ b → Ret [RC.t 4] H.length (fun v H' => v = bv (cdec (a = b)) ∧ H' = H) (some (bv false)) H := fun h => fin ⟨fun h' => (by cases h'), fun h' => absurd h' h⟩
 by_cases hl : a.length = b.length
 rotate_left
 ·simp (maxSteps := 2000000) (disch := omega) only [Try.ntmps45, c45, r45, List.length_map, go_sem, seval, reduceCtorEq]
  exact no fun h => hl (by rw [h])
 simp (maxSteps := 2000000) (disch := omega) only [Try.ntmps45, c45, r45, List.length_map, go_sem, seval, reduceCtorEq]
 obtain ⟨S, hS⟩ : ∃ S : Nat → List AV, ∀ i, S i = [usv a, usv b, .any, .any, bv false, .any, .any, .any, .any, .any, .any, .any, iv a.length, iv i] ++ List.replicate 12 .any := ⟨_, fun _ => rfl⟩
 refine W.loopG (γ := Nat) (fun i => a.length - i) S (fun _ => H) (fun i => i ≤ a.length ∧ ∀ j, j < i → a.getD j default = b.getD j default) 0 (Wk.slots (by rw [hS]; exact WkL.tail 14 _ rfl (by simp only [List.take_succ_cons, List.take_zero]; repeat' first | exact WkL.nil | refine WkL.cons (Wk1.rfl _) ?_ | refine WkL.cons Wk1.esl ?_ | refine WkL.cons (Wk1.gsl _ _ _) ?_ | refine WkL.cons (Wk1.any _) ?_))) ⟨by omega, fun j hj => by omega⟩ (fun i hi => ?_)
 obtain ⟨q1, q2⟩ := hi
 simp (maxSteps := 2000000) (disch := omega) only [c45l0, hS, List.length_map, go_sem, seval, reduceCtorEq]
 refine Br.dec (fun hc => ?_) (fun hc => ?_) <;> simp (maxSteps := 2000000) (disch := omega) only [go_sem, seval, reduceCtorEq]
 ·have gai : iaA (usv a) (i : Int) 2 = some (.ip (a.getD i default).c) := iaA_us (t := a) (a := i) (by omega) (by omega)
  have gbi : iaA (usv b) (i : Int) 2 = some (.ip (b.getD i default).c) := iaA_us (t := b) (a := i) (by omega) (by omega)
  have ma : a.getD i default ∈ a := by rw [List.getD_eq_getElem?_getD, List.getElem?_eq_getElem (by omega)]; exact List.getElem_mem _
  have mb : b.getD i default ∈ b := by rw [List.getD_eq_getElem?_getD, List.getElem?_eq_getElem (by omega)]; exact List.getElem_mem _
  have fa := keyU_fits (ha _ ma)
  have fb := keyU_fits (hb _ mb)
  generalize hx : a.getD i default = x at *
  generalize hy : b.getD i default = y at *
  have ox := keyU_of x
  have oy := keyU_of y
  have hq := keyU_eq x y
  refine W.pchain follows (by decide +kernel) ?_
  cases k1 : decide (x = y) with
  | false =>
   rw [k1] at hq
   simp (maxSteps := 2000000) (disch := omega) only [gai, gbi, Us.c, ox, oy, fa, fb, hq, go_sem, seval, reduceCtorEq]
   exact no fun h => of_decide_eq_false k1 (by rw [← hx, ← hy, h])
  | true =>
   rw [k1] at hq
   simp (maxSteps := 2000000) (disch := omega) only [gai, gbi, Us.c, ox, oy, fa, fb, hq, go_sem, seval, reduceCtorEq]
   refine Nxt.mk (i + 1) (by omega) (Wk.slots (by rw [hS]; exact WkL.tail 14 _ rfl (by simp only [List.take_succ_cons, List.take_zero]; repeat' first | exact WkL.nil | refine WkL.cons (Wk1.rfl _) ?_ | refine WkL.cons Wk1.esl ?_ | refine WkL.cons (Wk1.gsl _ _ _) ?_ | refine WkL.cons (Wk1.any _) ?_))) ⟨by omega, fun j hj => ?_⟩
   rcases Nat.lt_or_ge j i with h' | h'
   ·exact q2 j h'
   ·rw [show j = i by omega, hx, hy]; exact of_decide_eq_true k1
 ·exact fin ⟨fun _ => ext_at (d := default) hl fun i hi => q2 i (by omega), fun _ => rfl⟩
structure FitO (x : Ob) : Prop where
 a0 : J64 x.cls
 a1 : x.name.size ≤ 140737488355328
 a2 : J64 x.typ
 a3 : J64 x.val.form
 a4 : J64 x.val.n
 a5 : x.val.text.size ≤ 140737488355328
 a6 : J64 x.n
def keyO (x : Ob) : Value := .agg #[.int .i64 x.cls, .string x.name, .int .i64 x.typ, .int .i64 x.val.form, .int .i64 x.val.n, .string x.val.text, .int .i64 x.n]
theorem keyO_of (x : Ob) : keyOf (.agg [iv x.cls, sv x.name, iv x.typ, iv x.val.form, iv x.val.n, sv x.val.text, iv x.n]) = some (keyO x) := rfl
theorem keyO_fits {x : Ob} (h : FitO x) : keyFits ⟨true, [.i .i64, .s, .i .i64, .i .i64, .i .i64, .s, .i .i64]⟩ (keyO x) = true := by
 show (kcFit (.i .i64) (.int .i64 x.cls) && (kcFit .s (.string x.name) && (kcFit (.i .i64) (.int .i64 x.typ) && (kcFit (.i .i64) (.int .i64 x.val.form) && (kcFit (.i .i64) (.int .i64 x.val.n) && (kcFit .s (.string x.val.text) && (kcFit (.i .i64) (.int .i64 x.n) && true))))))) = true
 rw [kc_i h.a0, kc_s h.a1, kc_i h.a2, kc_i h.a3, kc_i h.a4, kc_s h.a5, kc_i h.a6]; rfl
theorem keyO_eq (x y : Ob) : keq (keyO x) (keyO y) = decide (x = y) := by
 obtain ⟨x1, x2, x3, ⟨x4, x5, x6⟩, x7⟩ := x
 obtain ⟨y1, y2, y3, ⟨y4, y5, y6⟩, y7⟩ := y
 simp only [keyO, keq, keqL, keq1, Bool.and_true]
 by_cases h1 : x1 = y1 <;> by_cases h2 : x2 = y2 <;> by_cases h3 : x3 = y3 <;> by_cases h4 : x4 = y4 <;> by_cases h5 : x5 = y5 <;> by_cases h6 : x6 = y6 <;> by_cases h7 : x7 = y7 <;> simp [h1, h2, h3, h4, h5, h6, h7]
theorem equalO_c {a b : List Ob} (la : a.length ≤ 140737488355328) (lb : b.length ≤ 140737488355328) (ha : ∀ x ∈ a, FitO x) (hb : ∀ x ∈ b, FitO x) (H : List ABlk) : ACalls Try.prog 46 [obv a, obv b] H fun v H' => v = bv (cdec (a = b)) ∧ H' = H := by
 refine ACalls.into Try.func46 cc46 rr46 fun hcl => ?_
 have fin : ∀ {B : Bool}, (B = true ↔ a = b) → Ret [RC.t 4] H.length (fun v H' => v = bv (cdec (a = b)) ∧ H' = H) (some (bv B)) H := fun {B} h => Ret.keep ⟨cdec_of ⟨B, rfl, h⟩, rfl⟩
 have no : a ≠ b → Ret [RC.t 4] H.length (fun v H' => v = bv (cdec (a = b)) ∧ H' = H) (some (bv false)) H := fun h => fin ⟨fun h' => (by cases h'), fun h' => absurd h' h⟩
 by_cases hl : a.length = b.length
 rotate_left
 ·simp (maxSteps := 2000000) (disch := omega) only [Try.ntmps46, c46, r46, List.length_map, go_sem, seval, reduceCtorEq]
  exact no fun h => hl (by rw [h])
 simp (maxSteps := 2000000) (disch := omega) only [Try.ntmps46, c46, r46, List.length_map, go_sem, seval, reduceCtorEq]
 obtain ⟨S, hS⟩ : ∃ S : Nat → List AV, ∀ i, S i = [obv a, obv b, .any, .any, bv false, .any, .any, .any, .any, .any, .any, .any, iv a.length, iv i] ++ List.replicate 12 .any := ⟨_, fun _ => rfl⟩
 refine W.loopG (γ := Nat) (fun i => a.length - i) S (fun _ => H) (fun i => i ≤ a.length ∧ ∀ j, j < i → a.getD j default = b.getD j default) 0 (Wk.slots (by rw [hS]; exact WkL.tail 14 _ rfl (by simp only [List.take_succ_cons, List.take_zero]; repeat' first | exact WkL.nil | refine WkL.cons (Wk1.rfl _) ?_ | refine WkL.cons Wk1.esl ?_ | refine WkL.cons (Wk1.gsl _ _ _) ?_ | refine WkL.cons (Wk1.any _) ?_))) ⟨by omega, fun j hj => by omega⟩ (fun i hi => ?_)
 obtain ⟨q1, q2⟩ := hi
 simp (maxSteps := 2000000) (disch := omega) only [c46l0, hS, List.length_map, go_sem, seval, reduceCtorEq]
 refine Br.dec (fun hc => ?_) (fun hc => ?_) <;> simp (maxSteps := 2000000) (disch := omega) only [go_sem, seval, reduceCtorEq]
 ·have gai : iaA (obv a) (i : Int) 7 = some (.ip (a.getD i default).c) := iaA_ob (t := a) (a := i) (by omega) (by omega)
  have gbi : iaA (obv b) (i : Int) 7 = some (.ip (b.getD i default).c) := iaA_ob (t := b) (a := i) (by omega) (by omega)
  have ma : a.getD i default ∈ a := by rw [List.getD_eq_getElem?_getD, List.getElem?_eq_getElem (by omega)]; exact List.getElem_mem _
  have mb : b.getD i default ∈ b := by rw [List.getD_eq_getElem?_getD, List.getElem?_eq_getElem (by omega)]; exact List.getElem_mem _
  have fa := keyO_fits (ha _ ma)
  have fb := keyO_fits (hb _ mb)
  generalize hx : a.getD i default = x at *
  generalize hy : b.getD i default = y at *
  have ox := keyO_of x
  have oy := keyO_of y
  have hq := keyO_eq x y
  refine W.pchain follows (by decide +kernel) ?_
  cases k1 : decide (x = y) with
  | false =>
   rw [k1] at hq
   simp (maxSteps := 2000000) (disch := omega) only [gai, gbi, Ob.c, ox, oy, fa, fb, hq, go_sem, seval, reduceCtorEq]
   exact no fun h => of_decide_eq_false k1 (by rw [← hx, ← hy, h])
  | true =>
   rw [k1] at hq
   simp (maxSteps := 2000000) (disch := omega) only [gai, gbi, Ob.c, ox, oy, fa, fb, hq, go_sem, seval, reduceCtorEq]
   refine Nxt.mk (i + 1) (by omega) (Wk.slots (by rw [hS]; exact WkL.tail 14 _ rfl (by simp only [List.take_succ_cons, List.take_zero]; repeat' first | exact WkL.nil | refine WkL.cons (Wk1.rfl _) ?_ | refine WkL.cons Wk1.esl ?_ | refine WkL.cons (Wk1.gsl _ _ _) ?_ | refine WkL.cons (Wk1.any _) ?_))) ⟨by omega, fun j hj => ?_⟩
   rcases Nat.lt_or_ge j i with h' | h'
   ·exact q2 j h'
   ·rw [show j = i by omega, hx, hy]; exact of_decide_eq_true k1
 ·exact fin ⟨fun _ => ext_at (d := default) hl fun i hi => q2 i (by omega), fun _ => rfl⟩
structure FitF (x : Fd) : Prop where
 a0 : x.name.size ≤ 140737488355328
 a1 : True
 a2 : J64 x.typ
def keyF (x : Fd) : Value := .agg #[.string x.name, .bool x.exp, .int .i64 x.typ]
theorem keyF_of (x : Fd) : keyOf (.agg [sv x.name, bv x.exp, iv x.typ]) = some (keyF x) := rfl
theorem keyF_fits {x : Fd} (h : FitF x) : keyFits ⟨true, [.s, .b, .i .i64]⟩ (keyF x) = true := by
 show (kcFit .s (.string x.name) && (kcFit .b (.bool x.exp) && (kcFit (.i .i64) (.int .i64 x.typ) && true))) = true
 rw [kc_s h.a0, kc_b, kc_i h.a2]; rfl
theorem keyF_eq (x y : Fd) : keq (keyF x) (keyF y) = decide (x = y) := by
 obtain ⟨x1, x2, x3⟩ := x
 obtain ⟨y1, y2, y3⟩ := y
 simp only [keyF, keq, keqL, keq1, Bool.and_true]
 by_cases h1 : x1 = y1 <;> cases x2 <;> cases y2 <;> by_cases h3 : x3 = y3 <;> simp [h1, h3]
theorem equalF_c {a b : List Fd} (la : a.length ≤ 140737488355328) (lb : b.length ≤ 140737488355328) (ha : ∀ x ∈ a, FitF x) (hb : ∀ x ∈ b, FitF x) (H : List ABlk) : ACalls Try.prog 49 [fdv a, fdv b] H fun v H' => v = bv (cdec (a = b)) ∧ H' = H := by
 refine ACalls.into Try.func49 cc49 rr49 fun hcl => ?_
 have fin : ∀ {B : Bool}, (B = true ↔ a = b) → Ret [RC.t 4] H.length (fun v H' => v = bv (cdec (a = b)) ∧ H' = H) (some (bv B)) H := fun {B} h => Ret.keep ⟨cdec_of ⟨B, rfl, h⟩, rfl⟩
 have no : a ≠ b → Ret [RC.t 4] H.length (fun v H' => v = bv (cdec (a = b)) ∧ H' = H) (some (bv false)) H := fun h => fin ⟨fun h' => (by cases h'), fun h' => absurd h' h⟩
 by_cases hl : a.length = b.length
 rotate_left
 ·simp (maxSteps := 2000000) (disch := omega) only [Try.ntmps49, c49, r49, List.length_map, go_sem, seval, reduceCtorEq]
  exact no fun h => hl (by rw [h])
 simp (maxSteps := 2000000) (disch := omega) only [Try.ntmps49, c49, r49, List.length_map, go_sem, seval, reduceCtorEq]
 obtain ⟨S, hS⟩ : ∃ S : Nat → List AV, ∀ i, S i = [fdv a, fdv b, .any, .any, bv false, .any, .any, .any, .any, .any, .any, .any, iv a.length, iv i] ++ List.replicate 12 .any := ⟨_, fun _ => rfl⟩
 refine W.loopG (γ := Nat) (fun i => a.length - i) S (fun _ => H) (fun i => i ≤ a.length ∧ ∀ j, j < i → a.getD j default = b.getD j default) 0 (Wk.slots (by rw [hS]; exact WkL.tail 14 _ rfl (by simp only [List.take_succ_cons, List.take_zero]; repeat' first | exact WkL.nil | refine WkL.cons (Wk1.rfl _) ?_ | refine WkL.cons Wk1.esl ?_ | refine WkL.cons (Wk1.gsl _ _ _) ?_ | refine WkL.cons (Wk1.any _) ?_))) ⟨by omega, fun j hj => by omega⟩ (fun i hi => ?_)
 obtain ⟨q1, q2⟩ := hi
 simp (maxSteps := 2000000) (disch := omega) only [c49l0, hS, List.length_map, go_sem, seval, reduceCtorEq]
 refine Br.dec (fun hc => ?_) (fun hc => ?_) <;> simp (maxSteps := 2000000) (disch := omega) only [go_sem, seval, reduceCtorEq]
 ·have gai : iaA (fdv a) (i : Int) 3 = some (.ip (a.getD i default).c) := iaA_fd (t := a) (a := i) (by omega) (by omega)
  have gbi : iaA (fdv b) (i : Int) 3 = some (.ip (b.getD i default).c) := iaA_fd (t := b) (a := i) (by omega) (by omega)
  have ma : a.getD i default ∈ a := by rw [List.getD_eq_getElem?_getD, List.getElem?_eq_getElem (by omega)]; exact List.getElem_mem _
  have mb : b.getD i default ∈ b := by rw [List.getD_eq_getElem?_getD, List.getElem?_eq_getElem (by omega)]; exact List.getElem_mem _
  have fa := keyF_fits (ha _ ma)
  have fb := keyF_fits (hb _ mb)
  generalize hx : a.getD i default = x at *
  generalize hy : b.getD i default = y at *
  have ox := keyF_of x
  have oy := keyF_of y
  have hq := keyF_eq x y
  refine W.pchain follows (by decide +kernel) ?_
  cases k1 : decide (x = y) with
  | false =>
   rw [k1] at hq
   simp (maxSteps := 2000000) (disch := omega) only [gai, gbi, Fd.c, ox, oy, fa, fb, hq, go_sem, seval, reduceCtorEq]
   exact no fun h => of_decide_eq_false k1 (by rw [← hx, ← hy, h])
  | true =>
   rw [k1] at hq
   simp (maxSteps := 2000000) (disch := omega) only [gai, gbi, Fd.c, ox, oy, fa, fb, hq, go_sem, seval, reduceCtorEq]
   refine Nxt.mk (i + 1) (by omega) (Wk.slots (by rw [hS]; exact WkL.tail 14 _ rfl (by simp only [List.take_succ_cons, List.take_zero]; repeat' first | exact WkL.nil | refine WkL.cons (Wk1.rfl _) ?_ | refine WkL.cons Wk1.esl ?_ | refine WkL.cons (Wk1.gsl _ _ _) ?_ | refine WkL.cons (Wk1.any _) ?_))) ⟨by omega, fun j hj => ?_⟩
   rcases Nat.lt_or_ge j i with h' | h'
   ·exact q2 j h'
   ·rw [show j = i by omega, hx, hy]; exact of_decide_eq_true k1
 ·exact fin ⟨fun _ => ext_at (d := default) hl fun i hi => q2 i (by omega), fun _ => rfl⟩
structure FitP (x : Pm) : Prop where
 a0 : True
 a1 : J64 x.typ
def keyP (x : Pm) : Value := .agg #[.bool x.var, .int .i64 x.typ]
theorem keyP_of (x : Pm) : keyOf (.agg [bv x.var, iv x.typ]) = some (keyP x) := rfl
theorem keyP_fits {x : Pm} (h : FitP x) : keyFits ⟨true, [.b, .i .i64]⟩ (keyP x) = true := by
 show (kcFit .b (.bool x.var) && (kcFit (.i .i64) (.int .i64 x.typ) && true)) = true
 rw [kc_b, kc_i h.a1]; rfl
theorem keyP_eq (x y : Pm) : keq (keyP x) (keyP y) = decide (x = y) := by
 obtain ⟨x1, x2⟩ := x
 obtain ⟨y1, y2⟩ := y
 simp only [keyP, keq, keqL, keq1, Bool.and_true]
 cases x1 <;> cases y1 <;> by_cases h2 : x2 = y2 <;> simp [h2]
theorem equalP_c {a b : List Pm} (la : a.length ≤ 140737488355328) (lb : b.length ≤ 140737488355328) (ha : ∀ x ∈ a, FitP x) (hb : ∀ x ∈ b, FitP x) (H : List ABlk) : ACalls Try.prog 50 [pmv a, pmv b] H fun v H' => v = bv (cdec (a = b)) ∧ H' = H := by
 refine ACalls.into Try.func50 cc50 rr50 fun hcl => ?_
 have fin : ∀ {B : Bool}, (B = true ↔ a = b) → Ret [RC.t 4] H.length (fun v H' => v = bv (cdec (a = b)) ∧ H' = H) (some (bv B)) H := fun {B} h => Ret.keep ⟨cdec_of ⟨B, rfl, h⟩, rfl⟩
 have no : a ≠ b → Ret [RC.t 4] H.length (fun v H' => v = bv (cdec (a = b)) ∧ H' = H) (some (bv false)) H := fun h => fin ⟨fun h' => (by cases h'), fun h' => absurd h' h⟩
 by_cases hl : a.length = b.length
 rotate_left
 ·simp (maxSteps := 2000000) (disch := omega) only [Try.ntmps50, c50, r50, List.length_map, go_sem, seval, reduceCtorEq]
  exact no fun h => hl (by rw [h])
 simp (maxSteps := 2000000) (disch := omega) only [Try.ntmps50, c50, r50, List.length_map, go_sem, seval, reduceCtorEq]
 obtain ⟨S, hS⟩ : ∃ S : Nat → List AV, ∀ i, S i = [pmv a, pmv b, .any, .any, bv false, .any, .any, .any, .any, .any, .any, .any, iv a.length, iv i] ++ List.replicate 12 .any := ⟨_, fun _ => rfl⟩
 refine W.loopG (γ := Nat) (fun i => a.length - i) S (fun _ => H) (fun i => i ≤ a.length ∧ ∀ j, j < i → a.getD j default = b.getD j default) 0 (Wk.slots (by rw [hS]; exact WkL.tail 14 _ rfl (by simp only [List.take_succ_cons, List.take_zero]; repeat' first | exact WkL.nil | refine WkL.cons (Wk1.rfl _) ?_ | refine WkL.cons Wk1.esl ?_ | refine WkL.cons (Wk1.gsl _ _ _) ?_ | refine WkL.cons (Wk1.any _) ?_))) ⟨by omega, fun j hj => by omega⟩ (fun i hi => ?_)
 obtain ⟨q1, q2⟩ := hi
 simp (maxSteps := 2000000) (disch := omega) only [c50l0, hS, List.length_map, go_sem, seval, reduceCtorEq]
 refine Br.dec (fun hc => ?_) (fun hc => ?_) <;> simp (maxSteps := 2000000) (disch := omega) only [go_sem, seval, reduceCtorEq]
 ·have gai : iaA (pmv a) (i : Int) 2 = some (.ip (a.getD i default).c) := iaA_pm (t := a) (a := i) (by omega) (by omega)
  have gbi : iaA (pmv b) (i : Int) 2 = some (.ip (b.getD i default).c) := iaA_pm (t := b) (a := i) (by omega) (by omega)
  have ma : a.getD i default ∈ a := by rw [List.getD_eq_getElem?_getD, List.getElem?_eq_getElem (by omega)]; exact List.getElem_mem _
  have mb : b.getD i default ∈ b := by rw [List.getD_eq_getElem?_getD, List.getElem?_eq_getElem (by omega)]; exact List.getElem_mem _
  have fa := keyP_fits (ha _ ma)
  have fb := keyP_fits (hb _ mb)
  generalize hx : a.getD i default = x at *
  generalize hy : b.getD i default = y at *
  have ox := keyP_of x
  have oy := keyP_of y
  have hq := keyP_eq x y
  refine W.pchain follows (by decide +kernel) ?_
  cases k1 : decide (x = y) with
  | false =>
   rw [k1] at hq
   simp (maxSteps := 2000000) (disch := omega) only [gai, gbi, Pm.c, ox, oy, fa, fb, hq, go_sem, seval, reduceCtorEq]
   exact no fun h => of_decide_eq_false k1 (by rw [← hx, ← hy, h])
  | true =>
   rw [k1] at hq
   simp (maxSteps := 2000000) (disch := omega) only [gai, gbi, Pm.c, ox, oy, fa, fb, hq, go_sem, seval, reduceCtorEq]
   refine Nxt.mk (i + 1) (by omega) (Wk.slots (by rw [hS]; exact WkL.tail 14 _ rfl (by simp only [List.take_succ_cons, List.take_zero]; repeat' first | exact WkL.nil | refine WkL.cons (Wk1.rfl _) ?_ | refine WkL.cons Wk1.esl ?_ | refine WkL.cons (Wk1.gsl _ _ _) ?_ | refine WkL.cons (Wk1.any _) ?_))) ⟨by omega, fun j hj => ?_⟩
   rcases Nat.lt_or_ge j i with h' | h'
   ·exact q2 j h'
   ·rw [show j = i by omega, hx, hy]; exact of_decide_eq_true k1
 ·exact fin ⟨fun _ => ext_at (d := default) hl fun i hi => q2 i (by omega), fun _ => rfl⟩
end Go.Proofs.Ythifjndenhjobaa

/- Interfaces alike: the program. Printed by genII.py. -/
namespace Go.Proofs.Ythifjndenhjobaa
set_option linter.unusedSimpArgs false
set_option linter.unusedVariables false
set_option maxRecDepth 20000
set_option maxHeartbeats 4000000
open Go.RowKit

def c25 : AC :=
 .seq (.reg [kn 2 (.bx (.t 0)), kn 3 (.bx (.t 1)), kn 4 (.mv (.c (.d (.v (.bool false)))))])
 (.seq (.reg [kn 5 (.fa (.t 2) 0), kn 6 (.ld (.t 5) 1 false), kn 7 (.fa (.t 3) 0), kn 8 (.ld (.t 7) 1 false), kn 9 (.bin .eql (.t 6) (.t 8)), kn 10 (.mv (.t 9)), ky 11 10 (.fa (.t 2) 1), ky 12 10 (.ld (.t 11) 1 false), ky 13 10 (.fa (.t 3) 1), ky 14 10 (.ld (.t 13) 1 false), ky 15 10 (.bin .eql (.t 12) (.t 14)), kn 16 (.pick (.t 10) (.t 15) (.c (.d (.v (.bool false))))), kn 17 (.mv (.t 16)), ky 18 17 (.fa (.t 2) 2), ky 19 17 (.ld (.t 18) 1 false), ky 20 17 (.fa (.t 3) 2), ky 21 17 (.ld (.t 20) 1 false), ky 22 17 (.call 45 [(.t 19), (.t 21)]), kn 23 (.pick (.t 17) (.t 22) (.c (.d (.v (.bool false))))), kn 24 (.mv (.t 23)), ky 25 24 (.fa (.t 2) 4), ky 26 24 (.ld (.t 25) 1 false), ky 27 24 (.fa (.t 3) 4), ky 28 24 (.ld (.t 27) 1 false), ky 29 24 (.call 46 [(.t 26), (.t 28)]), kn 30 (.pick (.t 24) (.t 29) (.c (.d (.v (.bool false))))), kn 31 (.mv (.t 30)), ky 32 31 (.fa (.t 2) 3), ky 33 31 (.ld (.t 32) 1 false), ky 34 31 (.fa (.t 3) 3), ky 35 31 (.ld (.t 34) 1 false), ky 36 31 (.call 47 [(.t 33), (.t 35), (.c (.fn 48 []))]), kn 37 (.pick (.t 31) (.t 36) (.c (.d (.v (.bool false))))), kn 4 (.mv (.t 37))])
 (.ret))
def r25 : List RC := [.t 4]

def c47l0 : AC :=
 .seq (.reg [kn 18 (.bin .lss (.t 17) (.t 16))])
 (.seq (.cond (.t 18) (.skip) (.exit 0))
 (.seq (.block 1 (.seq (.reg [kn 19 (.mv (.t 17)), kn 20 (.ia (.t 15) (.t 17) 10), kn 21 (.ld (.t 20) 10 true), kn 8 (.al [kz, (.d (.v (.string ⟨#[]⟩))), (.d (.v (.string ⟨#[]⟩))), kz, kz, kz, .esl, .esl, kz, kz]), kn 7 (.mv (.t 19)), ke (.st (.t 8) (.t 21) 10)])
 (.seq (.reg [kn 22 (.mv (.t 1)), kn 23 (.mv (.t 7)), kn 24 (.ia (.t 22) (.t 23) 10), kn 25 (.ld (.t 24) 10 true), kn 9 (.al [kz, (.d (.v (.string ⟨#[]⟩))), (.d (.v (.string ⟨#[]⟩))), kz, kz, kz, .esl, .esl, kz, kz]), ke (.st (.t 9) (.t 25) 10)])
 (.seq (.reg [kn 26 (.mv (.t 2)), kn 27 (.ld (.t 8) 10 true), kn 28 (.ld (.t 9) 10 true), kn 29 (.callv (.t 26) [(.t 27), (.t 28)]), kn 30 (.un .not (.t 29))])
 (.cond (.t 30) (.seq (.reg [kn 6 (.mv (.c (.d (.v (.bool false)))))])
 (.ret)) (.skip))))))
 (.reg [kn 31 (.bin .add (.t 17) (kc 1)), kn 17 (.mv (.t 31))])))

def c47 : AC :=
 .seq (.reg [kn 6 (.mv (.c (.d (.v (.bool false)))))])
 (.seq (.seq (.reg [kn 10 (.mv (.t 0)), kn 11 (.len false (.t 10)), kn 12 (.mv (.t 1)), kn 13 (.len false (.t 12)), kn 14 (.bin .neq (.t 11) (.t 13))])
 (.cond (.t 14) (.seq (.reg [kn 6 (.mv (.c (.d (.v (.bool false)))))])
 (.ret)) (.skip)))
 (.seq (.seq (.reg [kn 15 (.mv (.t 0)), kn 16 (.len false (.t 15)), kn 17 (.mv (kc 0))])
 (.block 0 (.loop c47l0)))
 (.seq (.reg [kn 6 (.mv (.c (.d (.v (.bool true)))))])
 (.ret))))
def r47 : List RC := [.t 6]

def c48 : AC :=
 .seq (.reg [kn 2 (.bx (.t 0)), kn 3 (.bx (.t 1)), kn 4 (.mv (.c (.d (.v (.bool false)))))])
 (.seq (.reg [kn 5 (.fa (.t 2) 0), kn 6 (.ld (.t 5) 1 false), kn 7 (.fa (.t 3) 0), kn 8 (.ld (.t 7) 1 false), kn 9 (.bin .eql (.t 6) (.t 8)), kn 10 (.mv (.t 9)), ky 11 10 (.fa (.t 2) 1), ky 12 10 (.ld (.t 11) 1 false), ky 13 10 (.fa (.t 3) 1), ky 14 10 (.ld (.t 13) 1 false), ky 15 10 (.bin .eql (.t 12) (.t 14)), kn 16 (.pick (.t 10) (.t 15) (.c (.d (.v (.bool false))))), kn 17 (.mv (.t 16)), ky 18 17 (.fa (.t 2) 2), ky 19 17 (.ld (.t 18) 1 false), ky 20 17 (.fa (.t 3) 2), ky 21 17 (.ld (.t 20) 1 false), ky 22 17 (.bin .eql (.t 19) (.t 21)), kn 23 (.pick (.t 17) (.t 22) (.c (.d (.v (.bool false))))), kn 24 (.mv (.t 23)), ky 25 24 (.fa (.t 2) 3), ky 26 24 (.ld (.t 25) 1 false), ky 27 24 (.fa (.t 3) 3), ky 28 24 (.ld (.t 27) 1 false), ky 29 24 (.bin .eql (.t 26) (.t 28)), kn 30 (.pick (.t 24) (.t 29) (.c (.d (.v (.bool false))))), kn 31 (.mv (.t 30)), ky 32 31 (.fa (.t 2) 4), ky 33 31 (.ld (.t 32) 1 false), ky 34 31 (.fa (.t 3) 4), ky 35 31 (.ld (.t 34) 1 false), ky 36 31 (.bin .eql (.t 33) (.t 35)), kn 37 (.pick (.t 31) (.t 36) (.c (.d (.v (.bool false))))), kn 38 (.mv (.t 37)), ky 39 38 (.fa (.t 2) 5), ky 40 38 (.ld (.t 39) 1 false), ky 41 38 (.fa (.t 3) 5), ky 42 38 (.ld (.t 41) 1 false), ky 43 38 (.bin .eql (.t 40) (.t 42)), kn 44 (.pick (.t 38) (.t 43) (.c (.d (.v (.bool false))))), kn 45 (.mv (.t 44)), ky 46 45 (.fa (.t 2) 8), ky 47 45 (.ld (.t 46) 1 false), ky 48 45 (.fa (.t 3) 8), ky 49 45 (.ld (.t 48) 1 false), ky 50 45 (.bin .eql (.t 47) (.t 49)), kn 51 (.pick (.t 45) (.t 50) (.c (.d (.v (.bool false))))), kn 52 (.mv (.t 51)), ky 53 52 (.fa (.t 2) 9), ky 54 52 (.ld (.t 53) 1 false), ky 55 52 (.fa (.t 3) 9), ky 56 52 (.ld (.t 55) 1 false), ky 57 52 (.bin .eql (.t 54) (.t 56)), kn 58 (.pick (.t 52) (.t 57) (.c (.d (.v (.bool false))))), kn 59 (.mv (.t 58)), ky 60 59 (.fa (.t 2) 6), ky 61 59 (.ld (.t 60) 1 false), ky 62 59 (.fa (.t 3) 6), ky 63 59 (.ld (.t 62) 1 false), ky 64 59 (.call 49 [(.t 61), (.t 63)]), kn 65 (.pick (.t 59) (.t 64) (.c (.d (.v (.bool false))))), kn 66 (.mv (.t 65)), ky 67 66 (.fa (.t 2) 7), ky 68 66 (.ld (.t 67) 1 false), ky 69 66 (.fa (.t 3) 7), ky 70 66 (.ld (.t 69) 1 false), ky 71 66 (.call 50 [(.t 68), (.t 70)]), kn 72 (.pick (.t 66) (.t 71) (.c (.d (.v (.bool false))))), kn 4 (.mv (.t 72))])
 (.ret))
def r48 : List RC := [.t 4]

theorem cc25 : Try.f25.body.bind (comp Try.prog (hhI 25)) = some c25 := by kernel_rfl
theorem rr25 : resC Try.prog Try.f25 = some r25 := by kernel_rfl
theorem cc47 : Try.f47.body.bind (comp Try.prog (hhI 47)) = some c47 := by kernel_rfl
theorem rr47 : resC Try.prog Try.f47 = some r47 := by kernel_rfl
theorem cc48 : Try.f48.body.bind (comp Try.prog (hhI 48)) = some c48 := by kernel_rfl
theorem rr48 : resC Try.prog Try.f48 = some r48 := by kernel_rfl
structure FitT (x : Ty) : Prop where
 fl : x.fields.length ≤ 140737488355328
 pl : x.params.length ≤ 140737488355328
 ff : ∀ f ∈ x.fields, FitF f
 fp : ∀ p ∈ x.params, FitP p
theorem same1_c {x y : Ty} (hx : FitT x) (hy : FitT y) (H : List ABlk) : ACalls Try.prog 48 [x.av, y.av] H fun v H' => v = bv (cdec (x = y)) ∧ H' = H := by
 refine ACalls.into Try.func48 cc48 rr48 fun hcl => ?_
 have fin : ∀ {B : Bool} {l : List ABlk}, (B = true ↔ x = y) → Ret [RC.t 4] H.length (fun v H' => v = bv (cdec (x = y)) ∧ H' = H) (some (bv B)) (H ++ l) := fun {B l} h =>
  Ret.drop _ H (Nat.le_refl _) hcl (.rfl _) (by simp [refs]) ⟨cdec_of ⟨B, rfl, h⟩, rfl⟩
 have no : ∀ {l : List ABlk}, x ≠ y → Ret [RC.t 4] H.length (fun v H' => v = bv (cdec (x = y)) ∧ H' = H) (some (bv false)) (H ++ l) := fun h => fin ⟨fun h' => (by cases h'), fun h' => absurd h' h⟩
 by_cases h0 : x.form = y.form
 rotate_left
 ·simp (maxSteps := 2000000) (disch := omega) only [Try.ntmps48, c48, r48, Ty.cs, go_sem, seval, reduceCtorEq]
  exact no fun h => h0 (by rw [h])
 cases h1 : decide (x.mod = y.mod)
 ·simp (maxSteps := 2000000) (disch := omega) only [Try.ntmps48, c48, r48, Ty.cs, h1, go_sem, seval, reduceCtorEq]
  exact no fun h => of_decide_eq_false h1 (by rw [h])
 cases h2 : decide (x.name = y.name)
 ·simp (maxSteps := 2000000) (disch := omega) only [Try.ntmps48, c48, r48, Ty.cs, h1, h2, go_sem, seval, reduceCtorEq]
  exact no fun h => of_decide_eq_false h2 (by rw [h])
 by_cases h3 : x.len = y.len
 rotate_left
 ·simp (maxSteps := 2000000) (disch := omega) only [Try.ntmps48, c48, r48, Ty.cs, h1, h2, go_sem, seval, reduceCtorEq]
  exact no fun h => h3 (by rw [h])
 by_cases h4 : x.elem = y.elem
 rotate_left
 ·simp (maxSteps := 2000000) (disch := omega) only [Try.ntmps48, c48, r48, Ty.cs, h1, h2, go_sem, seval, reduceCtorEq]
  exact no fun h => h4 (by rw [h])
 by_cases h5 : x.base = y.base
 rotate_left
 ·simp (maxSteps := 2000000) (disch := omega) only [Try.ntmps48, c48, r48, Ty.cs, h1, h2, go_sem, seval, reduceCtorEq]
  exact no fun h => h5 (by rw [h])
 by_cases h6 : x.result = y.result
 rotate_left
 ·simp (maxSteps := 2000000) (disch := omega) only [Try.ntmps48, c48, r48, Ty.cs, h1, h2, go_sem, seval, reduceCtorEq]
  exact no fun h => h6 (by rw [h])
 by_cases h7 : x.desc = y.desc
 rotate_left
 ·simp (maxSteps := 2000000) (disch := omega) only [Try.ntmps48, c48, r48, Ty.cs, h1, h2, go_sem, seval, reduceCtorEq]
  exact no fun h => h7 (by rw [h])
 simp (maxSteps := 2000000) (disch := omega) only [Try.ntmps48, c48, r48, Ty.cs, h1, h2, go_sem, seval, reduceCtorEq]
 refine Cont.mk (equalF_c hx.fl hy.fl hx.ff hy.ff _) ?_
 by_cases h8 : x.fields = y.fields
 rotate_left
 ·rw [cdec_f h8]
  simp (maxSteps := 2000000) (disch := omega) only [go_sem, seval, reduceCtorEq]
  exact no fun h => h8 (by rw [h])
 rw [cdec_t h8]
 simp (maxSteps := 2000000) (disch := omega) only [go_sem, seval, reduceCtorEq]
 refine Cont.mk (equalP_c hx.pl hy.pl hx.fp hy.fp _) ?_
 by_cases h9 : x.params = y.params
 rotate_left
 ·rw [cdec_f h9]
  simp (maxSteps := 2000000) (disch := omega) only [go_sem, seval, reduceCtorEq]
  exact no fun h => h9 (by rw [h])
 rw [cdec_t h9]
 simp (maxSteps := 2000000) (disch := omega) only [go_sem, seval, reduceCtorEq]
 refine fin ⟨fun _ => ?_, fun _ => rfl⟩
 have h1 := of_decide_eq_true h1
 have h2 := of_decide_eq_true h2
 obtain ⟨x0, x1, x2, x3, x4, x5, x6, x7, x8, x9⟩ := x
 obtain ⟨y0, y1, y2, y3, y4, y5, y6, y7, y8, y9⟩ := y
 simp only at h0 h1 h2 h3 h4 h5 h6 h7 h8 h9
 rw [h0, h1, h2, h3, h4, h5, h6, h7, h8, h9]
theorem equalT_c {a b : List Ty} (la : a.length ≤ 140737488355328) (lb : b.length ≤ 140737488355328) (ha : ∀ x ∈ a, FitT x) (hb : ∀ x ∈ b, FitT x) (H : List ABlk) : ACalls Try.prog 47 [tv a, tv b, .fn 48 []] H fun v H' => v = bv (cdec (a = b)) ∧ H' = H := by
 refine ACalls.into Try.func47 cc47 rr47 fun hcl => ?_
 have fin : ∀ {B : Bool} {l : List ABlk}, (B = true ↔ a = b) → Ret [RC.t 6] H.length (fun v H' => v = bv (cdec (a = b)) ∧ H' = H) (some (bv B)) (H ++ l) := fun {B l} h => Ret.drop _ H (Nat.le_refl _) hcl (.rfl _) (by simp [refs]) ⟨cdec_of ⟨B, rfl, h⟩, rfl⟩
 have fin0 : ∀ {B : Bool}, (B = true ↔ a = b) → Ret [RC.t 6] H.length (fun v H' => v = bv (cdec (a = b)) ∧ H' = H) (some (bv B)) H := fun {B} h => Ret.keep ⟨cdec_of ⟨B, rfl, h⟩, rfl⟩
 by_cases hl : a.length = b.length
 rotate_left
 ·simp (maxSteps := 2000000) (disch := omega) only [Try.ntmps47, c47, r47, List.length_map, go_sem, seval, reduceCtorEq]
  exact fin0 ⟨fun h' => (by cases h'), fun h => absurd (by rw [h]) hl⟩
 simp (maxSteps := 2000000) (disch := omega) only [Try.ntmps47, c47, r47, List.length_map, go_sem, seval, reduceCtorEq]
 obtain ⟨S, hS⟩ : ∃ S : Nat → List AV, ∀ i, S i = [.any, tv b, .fn 48 [], .any, .any, .any, bv false, .any, .any, .any, .any, .any, .any, .any, .any, tv a, iv a.length, iv i] ++ List.replicate 14 .any := ⟨_, fun _ => rfl⟩
 have hcok : callOk Try.prog 48 = true := by kernel_rfl
 refine W.loopG (γ := Nat) (fun i => a.length - i) S (fun _ => H) (fun i => i ≤ a.length ∧ ∀ j, j < i → a.getD j default = b.getD j default) 0 (Wk.slots (by rw [hS]; exact WkL.tail 18 _ rfl (by simp only [List.take_succ_cons, List.take_zero]; repeat' first | exact WkL.nil | refine WkL.cons (Wk1.rfl _) ?_ | refine WkL.cons Wk1.esl ?_ | refine WkL.cons (Wk1.gsl _ _ _) ?_ | refine WkL.cons (Wk1.any _) ?_))) ⟨by omega, fun j hj => by omega⟩ (fun i hi => ?_)
 obtain ⟨q1, q2⟩ := hi
 simp (maxSteps := 2000000) (disch := omega) only [c47l0, hS, List.length_map, go_sem, seval, reduceCtorEq]
 refine Br.dec (fun hc => ?_) (fun hc => ?_) <;> simp (maxSteps := 2000000) (disch := omega) only [go_sem, seval, reduceCtorEq]
 ·have gai : iaA (tv a) (i : Int) 10 = some (.ip (a.getD i default).c) := iaA_ty (t := a) (a := i) (by omega) (by omega)
  have gbi : iaA (tv b) (i : Int) 10 = some (.ip (b.getD i default).c) := iaA_ty (t := b) (a := i) (by omega) (by omega)
  have ma : a.getD i default ∈ a := by rw [List.getD_eq_getElem?_getD, List.getElem?_eq_getElem (by omega)]; exact List.getElem_mem _
  have mb : b.getD i default ∈ b := by rw [List.getD_eq_getElem?_getD, List.getElem?_eq_getElem (by omega)]; exact List.getElem_mem _
  have fa := ha _ ma
  have fb := hb _ mb
  generalize hx : a.getD i default = x at *
  generalize hy : b.getD i default = y at *
  simp (maxSteps := 2000000) (disch := omega) only [gai, gbi, Ty.c, go_sem, seval, reduceCtorEq]
  refine ⟨hcok, Cont.mk (same1_c fa fb _) ?_⟩
  by_cases k1 : x = y
  ·rw [cdec_t k1]
   simp (maxSteps := 2000000) (disch := omega) only [go_sem, seval, reduceCtorEq]
   refine Nxt.mk (i + 1) (by omega) (Wk.drop (by rw [hS]; exact WkL.tail 18 _ rfl (by simp only [List.take_succ_cons, List.take_zero]; repeat' first | exact WkL.nil | refine WkL.cons (Wk1.rfl _) ?_ | refine WkL.cons Wk1.esl ?_ | refine WkL.cons (Wk1.gsl _ _ _) ?_ | refine WkL.cons (Wk1.any _) ?_)) (Nat.le_refl _) hcl (by rw [hS]; simp [refs.refsL, refs])) ⟨by omega, fun j hj => ?_⟩
   rcases Nat.lt_or_ge j i with h' | h'
   ·exact q2 j h'
   ·rw [show j = i by omega, hx, hy]; exact k1
  ·rw [cdec_f k1]
   simp (maxSteps := 2000000) (disch := omega) only [go_sem, seval, reduceCtorEq]
   exact fin ⟨fun h' => (by cases h'), fun h => absurd (by rw [← hx, ← hy, h]) k1⟩
 ·exact fin0 ⟨fun _ => ext_at (d := default) hl fun i hi => q2 i (by omega), fun _ => rfl⟩
structure FFit (f : Fc) : Prop where
 us : ∀ u ∈ f.uses, FitU u
 os : ∀ o ∈ f.objs, FitO o
 ts : ∀ x ∈ f.types, FitT x
theorem same_c {a b : Fc} (ha : FIn a) (hb : FIn b) (ga : FFit a) (gb : FFit b) (H : List ABlk) : ACalls Try.prog 25 [a.av, b.av] H fun v H' => v = bv (cdec (a = b)) ∧ H' = H := by
 refine ACalls.into Try.func25 cc25 rr25 fun hcl => ?_
 have fin : ∀ {B : Bool} {l : List ABlk}, (B = true ↔ a = b) → Ret [RC.t 4] H.length (fun v H' => v = bv (cdec (a = b)) ∧ H' = H) (some (bv B)) (H ++ l) := fun {B l} h =>
  Ret.drop _ H (Nat.le_refl _) hcl (.rfl _) (by simp [refs]) ⟨cdec_of ⟨B, rfl, h⟩, rfl⟩
 have no : ∀ {l : List ABlk}, a ≠ b → Ret [RC.t 4] H.length (fun v H' => v = bv (cdec (a = b)) ∧ H' = H) (some (bv false)) (H ++ l) := fun h => fin ⟨fun h' => (by cases h'), fun h' => absurd h' h⟩
 cases h1 : decide (a.name = b.name)
 ·simp (maxSteps := 2000000) (disch := omega) only [Try.ntmps25, c25, r25, Fc.cs, h1, go_sem, seval, reduceCtorEq]
  exact no fun h => of_decide_eq_false h1 (by rw [h])
 by_cases h2 : a.key = b.key
 rotate_left
 ·simp (maxSteps := 2000000) (disch := omega) only [Try.ntmps25, c25, r25, Fc.cs, h1, go_sem, seval, reduceCtorEq]
  exact no fun h => h2 (by rw [h])
 simp (maxSteps := 2000000) (disch := omega) only [Try.ntmps25, c25, r25, Fc.cs, h1, go_sem, seval, reduceCtorEq]
 refine Cont.mk (equalU_c ha.us hb.us ga.us gb.us _) ?_
 by_cases h3 : a.uses = b.uses
 rotate_left
 ·rw [cdec_f h3]
  simp (maxSteps := 2000000) (disch := omega) only [go_sem, seval, reduceCtorEq]
  exact no fun h => h3 (by rw [h])
 rw [cdec_t h3]
 simp (maxSteps := 2000000) (disch := omega) only [go_sem, seval, reduceCtorEq]
 refine Cont.mk (equalO_c ha.os hb.os ga.os gb.os _) ?_
 by_cases h4 : a.objs = b.objs
 rotate_left
 ·rw [cdec_f h4]
  simp (maxSteps := 2000000) (disch := omega) only [go_sem, seval, reduceCtorEq]
  exact no fun h => h4 (by rw [h])
 rw [cdec_t h4]
 simp (maxSteps := 2000000) (disch := omega) only [go_sem, seval, reduceCtorEq]
 refine Cont.mk (equalT_c ha.ty.1 hb.ty.1 ga.ts gb.ts _) ?_
 by_cases h5 : a.types = b.types
 rotate_left
 ·rw [cdec_f h5]
  simp (maxSteps := 2000000) (disch := omega) only [go_sem, seval, reduceCtorEq]
  exact no fun h => h5 (by rw [h])
 rw [cdec_t h5]
 simp (maxSteps := 2000000) (disch := omega) only [go_sem, seval, reduceCtorEq]
 exact fin ⟨fun _ => Fc.ext' (of_decide_eq_true h1) h2 h3 h5 h4, fun _ => rfl⟩
end Go.Proofs.Ythifjndenhjobaa
