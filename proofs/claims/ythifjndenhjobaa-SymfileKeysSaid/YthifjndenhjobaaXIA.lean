/- Objects are found by their names. -/
import Derived.Test.YthifjndenhjobaaXI5
namespace Go.Proofs.Ythifjndenhjobaa
set_option linter.unusedSimpArgs false
set_option linter.unusedVariables false
set_option maxRecDepth 20000
set_option maxHeartbeats 4000000
open Go.RowKit

structure FindP (l : List Ob) (s : ByteArray) (x : Ob) (b : Bool) : Prop where
 yes : b = true → ∃ i, i < l.length ∧ l.getD i default = x ∧ x.name = s ∧ ∀ j, j < i → (l.getD j default).name ≠ s
 no : b = false → x = default ∧ ∀ j, j < l.length → (l.getD j default).name ≠ s
theorem FindP.det {l : List Ob} {s : ByteArray} {x y : Ob} {b c : Bool} (h : FindP l s x b) (k : FindP l s y c) : x = y ∧ b = c := by
 cases b with
 | true =>
  obtain ⟨i, h1, h2, h3, h4⟩ := h.yes rfl
  cases c with
  | true =>
   obtain ⟨j, k1, k2, k3, k4⟩ := k.yes rfl
   rcases Nat.lt_trichotomy i j with e | e | e
   ·exact absurd (by rw [h2]; exact h3) (k4 i e)
   ·subst e; exact ⟨by rw [← h2, k2], rfl⟩
   ·exact absurd (by rw [k2]; exact k3) (h4 j e)
  | false => exact absurd (by rw [h2]; exact h3) ((k.no rfl).2 i h1)
 | false =>
  cases c with
  | true =>
   obtain ⟨j, k1, k2, k3, k4⟩ := k.yes rfl
   exact absurd (by rw [k2]; exact k3) ((h.no rfl).2 j k1)
  | false => exact ⟨by rw [(h.no rfl).1, (k.no rfl).1], rfl⟩
end Go.Proofs.Ythifjndenhjobaa

/- Interfaces alike: the reference. -/
namespace Go.Proofs.Ythifjndenhjobaa
set_option linter.unusedSimpArgs false
set_option linter.unusedVariables false
set_option maxRecDepth 20000
set_option maxHeartbeats 4000000
open Go.RowKit

def c21 : AC :=
 .seq (.reg [kn 2 (.bx (.t 0)), kn 3 (.bx (.t 1)), kn 4 (.mv (.c (.d (.v (.bool false)))))])
 (.seq (.reg [kn 5 (.fa (.t 2) 0), kn 6 (.ld (.t 5) 1 false), kn 7 (.fa (.t 3) 0), kn 8 (.ld (.t 7) 1 false), kn 9 (.bin .eql (.t 6) (.t 8)), kn 10 (.mv (.t 9)), ky 11 10 (.fa (.t 2) 1), ky 12 10 (.ld (.t 11) 1 false), ky 13 10 (.fa (.t 3) 1), ky 14 10 (.ld (.t 13) 1 false), ky 15 10 (.bin .eql (.t 12) (.t 14)), kn 16 (.pick (.t 10) (.t 15) (.c (.d (.v (.bool false))))), kn 17 (.mv (.t 16)), ky 18 17 (.fa (.t 2) 2), ky 19 17 (.ld (.t 18) 1 false), ky 20 17 (.fa (.t 3) 2), ky 21 17 (.ld (.t 20) 1 false), ky 22 17 (.bin .eql (.t 19) (.t 21)), kn 23 (.pick (.t 17) (.t 22) (.c (.d (.v (.bool false))))), kn 24 (.mv (.t 23)), ky 25 24 (.fa (.t 2) 6), ky 26 24 (.ld (.t 25) 1 false), ky 27 24 (.fa (.t 3) 6), ky 28 24 (.ld (.t 27) 1 false), ky 29 24 (.bin .eql (.t 26) (.t 28)), kn 30 (.pick (.t 24) (.t 29) (.c (.d (.v (.bool false))))), kn 31 (.mv (.t 30)), ky 32 31 (.fa (.t 2) 3), ky 33 31 (.ld (.t 32) 3 true), ky 34 31 (.fa (.t 3) 3), ky 35 31 (.ld (.t 34) 3 true), ky 36 31 (.call 38 [(.t 33), (.t 35)]), kn 37 (.pick (.t 31) (.t 36) (.c (.d (.v (.bool false))))), kn 4 (.mv (.t 37))])
 (.ret))
def r21 : List RC := [.t 4]

def c22l0 : AC :=
 .seq (.seq (.reg [kn 80 (.mv (.t 6)), kn 81 (.fa (.t 2) 4), kn 82 (.ld (.t 81) 1 false), kn 83 (.len false (.t 82)), kn 84 (.bin .lss (.t 80) (.t 83))])
 (.cond (.t 84) (.skip) (.exit 2)))
 (.seq (.block 3 (.seq (.dreg [[], [0], [], [1, 2], [3], [], [5], [], [6, 7], [8], [4, 9], [10]] [kn 87 (.fa (.t 2) 4), kn 88 (.ld (.t 87) 1 false), kn 89 (.mv (.t 6)), kn 90 (.ia (.t 88) (.t 89) 7), kn 91 (.ld (.t 90) 7 true), kn 92 (.fa (.t 3) 4), kn 93 (.ld (.t 92) 1 false), kn 94 (.mv (.t 6)), kn 95 (.ia (.t 93) (.t 94) 7), kn 96 (.ld (.t 95) 7 true), kn 97 (.call 21 [(.t 91), (.t 96)]), kn 98 (.un .not (.t 97))])
 (.cond (.t 98) (.seq (.reg [kn 4 (.mv (.c (.d (.v (.bool false)))))])
 (.ret)) (.skip))))
 (.reg [kn 85 (.mv (.t 6)), kn 86 (.bin .add (.t 85) (kc 1)), kn 6 (.mv (.t 86))]))

def c22l1 : AC :=
 .seq (.seq (.reg [kn 45 (.mv (.t 5)), kn 46 (.fa (.t 2) 2), kn 47 (.ld (.t 46) 1 false), kn 48 (.len false (.t 47)), kn 49 (.bin .lss (.t 45) (.t 48))])
 (.cond (.t 49) (.skip) (.exit 0)))
 (.seq (.block 1 (.seq (.dreg [[], [0], [], [1, 2], [3], [4], [], [6], [], [7, 8], [9], [10], [5, 11], [12], [13], [14, 13], [13], [15, 16, 13], [17, 13], [18, 13], [13], [20, 13], [13], [21, 22, 13], [23, 13], [24, 13], [19, 25, 13], [13, 26]] [kn 52 (.fa (.t 2) 2), kn 53 (.ld (.t 52) 1 false), kn 54 (.mv (.t 5)), kn 55 (.ia (.t 53) (.t 54) 2), kn 56 (.fa (.t 55) 0), kn 57 (.ld (.t 56) 1 false), kn 58 (.fa (.t 3) 2), kn 59 (.ld (.t 58) 1 false), kn 60 (.mv (.t 5)), kn 61 (.ia (.t 59) (.t 60) 2), kn 62 (.fa (.t 61) 0), kn 63 (.ld (.t 62) 1 false), kn 64 (.bin .neq (.t 57) (.t 63)), kn 65 (.mv (.t 64)), ko 66 65 (.fa (.t 2) 2), ko 67 65 (.ld (.t 66) 1 false), ko 68 65 (.mv (.t 5)), ko 69 65 (.ia (.t 67) (.t 68) 2), ko 70 65 (.fa (.t 69) 1), ko 71 65 (.ld (.t 70) 1 false), ko 72 65 (.fa (.t 3) 2), ko 73 65 (.ld (.t 72) 1 false), ko 74 65 (.mv (.t 5)), ko 75 65 (.ia (.t 73) (.t 74) 2), ko 76 65 (.fa (.t 75) 1), ko 77 65 (.ld (.t 76) 1 false), ko 78 65 (.bin .neq (.t 71) (.t 77)), kn 79 (.pick (.t 65) (.c (.d (.v (.bool true)))) (.t 78))])
 (.cond (.t 79) (.seq (.reg [kn 4 (.mv (.c (.d (.v (.bool false)))))])
 (.ret)) (.skip))))
 (.reg [kn 50 (.mv (.t 5)), kn 51 (.bin .add (.t 50) (kc 1)), kn 5 (.mv (.t 51))]))

def c22 : AC :=
 .seq (.reg [kn 2 (.bx (.t 0)), kn 3 (.bx (.t 1)), kn 4 (.mv (.c (.d (.v (.bool false)))))])
 (.seq (.seq (.reg [kn 7 (.fa (.t 2) 0), kn 8 (.ld (.t 7) 1 false), kn 9 (.fa (.t 3) 0), kn 10 (.ld (.t 9) 1 false), kn 11 (.bin .neq (.t 8) (.t 10)), kn 12 (.mv (.t 11)), ko 13 12 (.fa (.t 2) 1), ko 14 12 (.ld (.t 13) 1 false), ko 15 12 (.fa (.t 3) 1), ko 16 12 (.ld (.t 15) 1 false), ko 17 12 (.bin .neq (.t 14) (.t 16)), kn 18 (.pick (.t 12) (.c (.d (.v (.bool true)))) (.t 17)), kn 19 (.mv (.t 18)), ko 20 19 (.fa (.t 2) 2), ko 21 19 (.ld (.t 20) 1 false), ko 22 19 (.len false (.t 21)), ko 23 19 (.fa (.t 3) 2), ko 24 19 (.ld (.t 23) 1 false), ko 25 19 (.len false (.t 24)), ko 26 19 (.bin .neq (.t 22) (.t 25)), kn 27 (.pick (.t 19) (.c (.d (.v (.bool true)))) (.t 26)), kn 28 (.mv (.t 27)), ko 29 28 (.fa (.t 2) 4), ko 30 28 (.ld (.t 29) 1 false), ko 31 28 (.len false (.t 30)), ko 32 28 (.fa (.t 3) 4), ko 33 28 (.ld (.t 32) 1 false), ko 34 28 (.len false (.t 33)), ko 35 28 (.bin .neq (.t 31) (.t 34)), kn 36 (.pick (.t 28) (.c (.d (.v (.bool true)))) (.t 35)), kn 37 (.mv (.t 36)), ko 38 37 (.fa (.t 2) 3), ko 39 37 (.ld (.t 38) 1 false), ko 40 37 (.fa (.t 3) 3), ko 41 37 (.ld (.t 40) 1 false), ko 42 37 (.call 39 [(.t 39), (.t 41)]), ko 43 37 (.un .not (.t 42)), kn 44 (.pick (.t 37) (.c (.d (.v (.bool true)))) (.t 43))])
 (.cond (.t 44) (.seq (.reg [kn 4 (.mv (.c (.d (.v (.bool false)))))])
 (.ret)) (.skip)))
 (.seq (.seq (.reg [kn 5 (.mv (kc 0))])
 (.block 0 (.loop c22l1)))
 (.seq (.seq (.reg [kn 6 (.mv (kc 0))])
 (.block 2 (.loop c22l0)))
 (.seq (.reg [kn 4 (.mv (.c (.d (.v (.bool true)))))])
 (.ret)))))
def r22 : List RC := [.t 4]

theorem cc21 : Try.f21.body.bind (comp Try.prog (hhI 21)) = some c21 := by kernel_rfl
theorem rr21 : resC Try.prog Try.f21 = some r21 := by kernel_rfl
theorem cc22 : Try.f22.body.bind (comp Try.prog (hhI 22)) = some c22 := by kernel_rfl
theorem rr22 : resC Try.prog Try.f22 = some r22 := by kernel_rfl
theorem rsobj_c (x y : Ob) (H : List ABlk) : ACalls Try.prog 21 [x.av, y.av] H fun u H' => u = bv (decide (x = y)) ∧ H' = H := by
 refine ACalls.into Try.func21 cc21 rr21 fun hcl => ?_
 have fin : ∀ {B : Bool} {l : List ABlk}, B = decide (x = y) → Ret [RC.t 4] H.length (fun u H' => u = bv (decide (x = y)) ∧ H' = H) (some (bv B)) (H ++ l) := fun {B l} h =>
  Ret.drop _ H (Nat.le_refl _) hcl (.rfl _) (by simp [refs]) ⟨by rw [h], rfl⟩
 have no : x ≠ y → false = decide (x = y) := fun h => (dcF h).symm
 generalize hD : decide (x = y) = D at *
 by_cases h1 : x.cls = y.cls
 rotate_left
 ·simp (maxSteps := 2000000) (disch := omega) only [Try.ntmps21, c21, r21, Ob.cs, go_sem, seval, reduceCtorEq]
  exact fin (no fun h => h1 (by rw [h]))
 cases h2 : decide (x.name = y.name) with
 | false =>
  simp (maxSteps := 2000000) (disch := omega) only [Try.ntmps21, c21, r21, Ob.cs, h2, go_sem, seval, reduceCtorEq]
  exact fin (no fun h => of_decide_eq_false h2 (by rw [h]))
 | true =>
  by_cases h3 : x.typ = y.typ
  rotate_left
  ·simp (maxSteps := 2000000) (disch := omega) only [Try.ntmps21, c21, r21, Ob.cs, h2, go_sem, seval, reduceCtorEq]
   exact fin (no fun h => h3 (by rw [h]))
  by_cases h4 : x.n = y.n
  rotate_left
  ·simp (maxSteps := 2000000) (disch := omega) only [Try.ntmps21, c21, r21, Ob.cs, h2, go_sem, seval, reduceCtorEq]
   exact fin (no fun h => h4 (by rw [h]))
  simp (maxSteps := 2000000) (disch := omega) only [Try.ntmps21, c21, r21, Ob.cs, h2, go_sem, seval, reduceCtorEq]
  refine Cont.mk (rsameV_c x.val y.val _) ?_
  simp (maxSteps := 2000000) (disch := omega) only [go_sem, seval, reduceCtorEq]
  refine fin ?_
  have h2' := of_decide_eq_true h2
  rw [← hD]
  obtain ⟨a, b, c, d, e⟩ := x
  obtain ⟨a', b', c', d', e'⟩ := y
  simp only at h1 h2' h3 h4
  subst h1 h2' h3 h4
  by_cases hv : d = d'
  ·rw [dcT hv, dcT (by rw [hv])]
  ·rw [dcF hv, dcF (by intro h; cases h; exact hv rfl)]
def SameR (a b : Fc) (H : List ABlk) (v : AV) (H' : List ABlk) : Prop := (∃ B, v = bv B ∧ (B = true ↔ a = b)) ∧ H' = H
theorem Fc.ext' {a b : Fc} (h1 : a.name = b.name) (h2 : a.key = b.key) (h3 : a.uses = b.uses) (h4 : a.types = b.types) (h5 : a.objs = b.objs) : a = b := by
 obtain ⟨a1, a2, a3, a4, a5⟩ := a
 obtain ⟨b1, b2, b3, b4, b5⟩ := b
 simp only at h1 h2 h3 h4 h5
 rw [h1, h2, h3, h4, h5]
theorem rsame_c {a b : Fc} (ha : FIn a) (hb : FIn b) (H : List ABlk) : ACalls Try.prog 22 [a.av, b.av] H (SameR a b H) := by
 have ha2 := ha.us
 have ha3 := ha.os
 have hb2 := hb.us
 have hb3 := hb.os
 refine ACalls.into Try.func22 cc22 rr22 fun hcl => ?_
 have fin : ∀ {B : Bool} {l : List ABlk}, (B = true ↔ a = b) → Ret [RC.t 4] H.length (SameR a b H) (some (bv B)) (H ++ l) := fun {B l} h =>
  Ret.drop _ H (Nat.le_refl _) hcl (.rfl _) (by simp [refs]) ⟨⟨B, rfl, h⟩, rfl⟩
 have no : ∀ {l : List ABlk}, a ≠ b → Ret [RC.t 4] H.length (SameR a b H) (some (bv false)) (H ++ l) := fun h => fin ⟨fun h' => (by cases h'), fun h' => absurd h' h⟩
 cases h1 : decide (a.name = b.name) with
 | false =>
  simp (maxSteps := 2000000) (disch := omega) only [Try.ntmps22, c22, r22, Fc.cs, h1, go_sem, seval, reduceCtorEq]
  exact no fun h => of_decide_eq_false h1 (by rw [h])
 | true =>
  by_cases h2 : a.key = b.key
  rotate_left
  ·simp (maxSteps := 2000000) (disch := omega) only [Try.ntmps22, c22, r22, Fc.cs, h1, go_sem, seval, reduceCtorEq]
   exact no fun h => h2 (by rw [h])
  by_cases h3 : a.uses.length = b.uses.length
  rotate_left
  ·simp (maxSteps := 2000000) (disch := omega) only [Try.ntmps22, c22, r22, Fc.cs, h1, List.length_map, go_sem, seval, reduceCtorEq]
   exact no fun h => h3 (by rw [h])
  by_cases h4 : a.objs.length = b.objs.length
  rotate_left
  ·simp (maxSteps := 2000000) (disch := omega) only [Try.ntmps22, c22, r22, Fc.cs, h1, List.length_map, go_sem, seval, reduceCtorEq]
   exact no fun h => h4 (by rw [h])
  simp (maxSteps := 2000000) (disch := omega) only [Try.ntmps22, c22, r22, Fc.cs, h1, List.length_map, go_sem, seval, reduceCtorEq]
  refine Cont.mk (tables_c ha.ty hb.ty _) ?_
  cases h5 : decide (a.types = b.types) with
  | false =>
   simp (maxSteps := 2000000) (disch := omega) only [go_sem, seval, reduceCtorEq]
   exact no fun h => of_decide_eq_false h5 (by rw [h])
  | true =>
   simp (maxSteps := 2000000) (disch := omega) only [go_sem, seval, reduceCtorEq]
   have ga : ∀ i, i < a.uses.length → iaA (.d (.sl (a.uses.map Us.c))) (i : Int) 2 = some (.ip (a.uses.getD i default).c) := fun i hi => iaA_us (t := a.uses) (a := i) (by omega) (by omega)
   have gb : ∀ i, i < b.uses.length → iaA (.d (.sl (b.uses.map Us.c))) (i : Int) 2 = some (.ip (b.uses.getD i default).c) := fun i hi => iaA_us (t := b.uses) (a := i) (by omega) (by omega)
   obtain ⟨S, hS⟩ : ∃ S : Nat → List AV, ∀ i, S i = [.any, .any, .ptr H.length 0, .ptr (H.length + 1) 0, bv false, iv i] ++ List.replicate 93 .any := ⟨_, fun _ => rfl⟩
   refine W.loopG (γ := Nat) (fun i => a.uses.length - i) S (fun _ => H ++ [.cells [sv a.name, wv a.key, usv a.uses, tv a.types, obv a.objs], .cells [sv b.name, wv b.key, usv b.uses, tv b.types, obv b.objs]]) (fun i => i ≤ a.uses.length ∧ ∀ j, j < i → a.uses.getD j default = b.uses.getD j default) 0 (Wk.slots (by rw [hS]; exact WkL.tail 6 _ rfl (by simp only [List.take_succ_cons, List.take_zero]; repeat' first | exact WkL.nil | refine WkL.cons (Wk1.rfl _) ?_ | refine WkL.cons Wk1.esl ?_ | refine WkL.cons (Wk1.gsl _ _ _) ?_ | refine WkL.cons (Wk1.any _) ?_))) ⟨by omega, fun j hj => by omega⟩ (fun i hi => ?_)
   obtain ⟨q1, q2⟩ := hi
   simp (maxSteps := 2000000) (disch := omega) only [c22l1, hS, List.length_map, go_sem, seval, reduceCtorEq]
   refine Br.dec (fun hc => ?_) (fun hc => ?_) <;> simp (maxSteps := 2000000) (disch := omega) only [go_sem, seval, reduceCtorEq]
   ·refine W.pchain follows (by decide +kernel) ?_
    have gai := ga i (by omega)
    have gbi := gb i (by omega)
    generalize hx : a.uses.getD i default = x at *
    generalize hy : b.uses.getD i default = y at *
    cases k1 : decide (x.name = y.name) with
    | false =>
     simp (maxSteps := 2000000) (disch := omega) only [gai, gbi, Us.c, k1, go_sem, seval, reduceCtorEq]
     exact no fun h => of_decide_eq_false k1 (by rw [← hx, ← hy, h])
    | true =>
     by_cases k2 : x.key = y.key
     ·simp (maxSteps := 2000000) (disch := omega) only [gai, gbi, Us.c, k1, go_sem, seval, reduceCtorEq]
      refine Nxt.mk (i + 1) (by omega) (Wk.slots (by rw [hS]; exact WkL.tail 6 _ rfl (by simp only [List.take_succ_cons, List.take_zero]; repeat' first | exact WkL.nil | refine WkL.cons (Wk1.rfl _) ?_ | refine WkL.cons Wk1.esl ?_ | refine WkL.cons (Wk1.gsl _ _ _) ?_ | refine WkL.cons (Wk1.any _) ?_))) ⟨by omega, fun j hj => ?_⟩
      rcases Nat.lt_or_ge j i with h' | h'
      ·exact q2 j h'
      ·rw [show j = i by omega, hx, hy]
       have k1' := of_decide_eq_true k1
       obtain ⟨x1, x2⟩ := x
       obtain ⟨y1, y2⟩ := y
       simp only at k1' k2
       rw [k1', k2]
     ·simp (maxSteps := 2000000) (disch := omega) only [gai, gbi, Us.c, k1, go_sem, seval, reduceCtorEq]
      exact no fun h => k2 (by rw [← hx, ← hy, h])
   ·have hU : a.uses = b.uses := ext_at (d := default) h3 fun i hi => q2 i (by omega)
    have oa : ∀ i, i < a.objs.length → iaA (.d (.sl (a.objs.map Ob.c))) (i : Int) 7 = some (.ip (a.objs.getD i default).c) := fun i hi => iaA_ob (t := a.objs) (a := i) (by omega) (by omega)
    have ob : ∀ i, i < b.objs.length → iaA (.d (.sl (b.objs.map Ob.c))) (i : Int) 7 = some (.ip (b.objs.getD i default).c) := fun i hi => iaA_ob (t := b.objs) (a := i) (by omega) (by omega)
    clear ga gb
    obtain ⟨S2, hS2⟩ : ∃ S : Nat → List AV, ∀ i, S i = [.any, .any, .ptr H.length 0, .ptr (H.length + 1) 0, bv false, .any, iv i] ++ List.replicate 92 .any := ⟨_, fun _ => rfl⟩
    refine W.loopG (γ := Nat) (fun i => a.objs.length - i) S2 (fun _ => H ++ [.cells [sv a.name, wv a.key, usv a.uses, tv a.types, obv a.objs], .cells [sv b.name, wv b.key, usv b.uses, tv b.types, obv b.objs]]) (fun i => i ≤ a.objs.length ∧ ∀ j, j < i → a.objs.getD j default = b.objs.getD j default) 0 (Wk.slots (by rw [hS2]; exact WkL.tail 7 _ rfl (by simp only [List.take_succ_cons, List.take_zero]; repeat' first | exact WkL.nil | refine WkL.cons (Wk1.rfl _) ?_ | refine WkL.cons Wk1.esl ?_ | refine WkL.cons (Wk1.gsl _ _ _) ?_ | refine WkL.cons (Wk1.any _) ?_))) ⟨by omega, fun j hj => by omega⟩ (fun k hk => ?_)
    obtain ⟨y1, y2⟩ := hk
    simp (maxSteps := 2000000) (disch := omega) only [c22l0, hS2, List.length_map, go_sem, seval, reduceCtorEq]
    refine Br.dec (fun hc2 => ?_) (fun hc2 => ?_) <;> simp (maxSteps := 2000000) (disch := omega) only [go_sem, seval, reduceCtorEq]
    ·refine W.pchain follows (by decide +kernel) ?_
     have gai := oa k (by omega)
     have gbi := ob k (by omega)
     generalize hx : a.objs.getD k default = x at *
     generalize hy : b.objs.getD k default = y at *
     have hso := rsobj_c x y
     simp (maxSteps := 2000000) (disch := omega) only [gai, gbi, Ob.c, go_sem, seval, reduceCtorEq]
     refine PCont.mk (hso _) ?_
     cases k1 : decide (x = y) with
     | false =>
      simp (maxSteps := 2000000) (disch := omega) only [go_sem, seval, reduceCtorEq]
      exact no fun h => of_decide_eq_false k1 (by rw [← hx, ← hy, h])
     | true =>
      simp (maxSteps := 2000000) (disch := omega) only [go_sem, seval, reduceCtorEq]
      refine Nxt.mk (k + 1) (by omega) (Wk.slots (by rw [hS2]; exact WkL.tail 7 _ rfl (by simp only [List.take_succ_cons, List.take_zero]; repeat' first | exact WkL.nil | refine WkL.cons (Wk1.rfl _) ?_ | refine WkL.cons Wk1.esl ?_ | refine WkL.cons (Wk1.gsl _ _ _) ?_ | refine WkL.cons (Wk1.any _) ?_))) ⟨by omega, fun j hj => ?_⟩
      rcases Nat.lt_or_ge j k with h' | h'
      ·exact y2 j h'
      ·rw [show j = k by omega, hx, hy]; exact of_decide_eq_true k1
    ·exact fin ⟨fun _ => Fc.ext' (of_decide_eq_true h1) h2 hU (of_decide_eq_true h5) (ext_at (d := default) h4 fun i hi => y2 i (by omega)), fun _ => rfl⟩
end Go.Proofs.Ythifjndenhjobaa
