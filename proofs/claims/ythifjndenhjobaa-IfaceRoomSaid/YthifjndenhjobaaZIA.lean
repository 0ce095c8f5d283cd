/- Objects are found by their names. -/
import Derived.Test.YthifjndenhjobaaZI5
namespace Go.Proofs.Ythifjndenhjobaa
set_option linter.unusedSimpArgs false
set_option linter.unusedVariables false
set_option maxRecDepth 20000
set_option maxHeartbeats 4000000
open Go.RowKit

structure FindP (l : List Ob) (s : ByteArray) (x : Ob) (b : Bool) : Prop where
 yes : b = true → ∃ i, i < l.length ∧ l.getD i default = x ∧ x.name = s ∧ ∀ j, j < i → (l.getD j default).name ≠ s
 no : b = false → x = default ∧ ∀ j, j < l.length → (l.getD j default).name ≠ s
theorem FindP.det {l : List Ob} {s : ByteArray} {x y : Ob} {b c : Bool} (h : FindP l s x b) (k : FindP l s y c) : x = y ∧ b = c := by
 cases b with
 | true =>
  obtain ⟨i, h1, h2, h3, h4⟩ := h.yes rfl
  cases c with
  | true =>
   obtain ⟨j, k1, k2, k3, k4⟩ := k.yes rfl
   rcases Nat.lt_trichotomy i j with e | e | e
   ·exact absurd (by rw [h2]; exact h3) (k4 i e)
   ·subst e; exact ⟨by rw [← h2, k2], rfl⟩
   ·exact absurd (by rw [k2]; exact k3) (h4 j e)
  | false => exact absurd (by rw [h2]; exact h3) ((k.no rfl).2 i h1)
 | false =>
  cases c with
  | true =>
   obtain ⟨j, k1, k2, k3, k4⟩ := k.yes rfl
   exact absurd (by rw [k2]; exact k3) ((h.no rfl).2 j k1)
  | false => exact ⟨by rw [(h.no rfl).1, (k.no rfl).1], rfl⟩
theorem find_c {f : Fc} (hl : f.objs.length ≤ 9000000) (s : ByteArray) (H : List ABlk) : ACalls Try.prog 17 [f.av, sv s] H fun v H' => (∃ x b, v = .tup [x.av, bv b] ∧ FindP f.objs s x b) ∧ H' = H := by
 refine ACalls.into Try.func17 cc17 rr17 fun hcl => ?_
 have fin : ∀ {x : Ob} {b : Bool} {l : List ABlk}, FindP f.objs s x b → Ret [RC.c 4 7 true, RC.t 5] H.length (fun v H' => (∃ x b, v = .tup [x.av, bv b] ∧ FindP f.objs s x b) ∧ H' = H) (some (.tup [x.av, bv b])) (H ++ l) := fun {x b l} h =>
  Ret.drop _ H (Nat.le_refl _) hcl (.rfl _) (by simp [refs, refs.refsL, Ob.cs]) ⟨⟨x, b, rfl, h⟩, rfl⟩
 simp (maxSteps := 2000000) (disch := omega) only [Try.ntmps17, c17, r17, Fc.cs, List.length_map, method_specs_simp, seval, reduceCtorEq]
 obtain ⟨S, hS⟩ : ∃ S : Nat → List AV, ∀ i, S i = [.any, sv s, .any, .any, .ptr (H.length + 1) 0, bv false, .any, .any, .any, obv f.objs, iv f.objs.length, iv i] ++ List.replicate 10 .any := ⟨_, fun _ => rfl⟩
 refine W.loopG (γ := Nat) (fun i => f.objs.length - i) S (fun _ => H ++ [.cells f.cs, .cells [iv 0, sv se, iv 0, iv 0, iv 0, sv se, iv 0]]) (fun i => i ≤ f.objs.length ∧ ∀ j, j < i → (f.objs.getD j default).name ≠ s) 0 (Wk.slots (by rw [hS]; exact WkL.tail 12 _ rfl (by simp only [List.take_succ_cons, List.take_zero]; repeat' first | exact WkL.nil | refine WkL.cons (Wk1.rfl _) ?_ | refine WkL.cons Wk1.esl ?_ | refine WkL.cons (Wk1.gsl _ _ _) ?_ | refine WkL.cons (Wk1.any _) ?_))) ⟨by omega, fun j hj => by omega⟩ (fun i hi => ?_)
 obtain ⟨q1, q2⟩ := hi
 simp (maxSteps := 2000000) (disch := omega) only [c17l0, hS, Fc.cs, List.length_map, method_specs_simp, seval, reduceCtorEq]
 refine Br.dec (fun hc => ?_) (fun hc => ?_) <;> simp (maxSteps := 2000000) (disch := omega) only [method_specs_simp, seval, reduceCtorEq]
 ·have hia := iaA_ob (t := f.objs) (a := i) (by omega) (by omega)
  have e : obAt f.objs (i : Int) = f.objs.getD i default := rfl
  rw [e] at hia
  generalize hx : f.objs.getD i default = x at *
  cases hd : decide (x.name = s) with
  | true =>
   simp (maxSteps := 2000000) (disch := omega) only [hia, Ob.c, hd, method_specs_simp, seval, reduceCtorEq]
   exact fin (x := x) (b := true) ⟨fun _ => ⟨i, by omega, hx, of_decide_eq_true hd, q2⟩, fun h => by cases h⟩
  | false =>
   simp (maxSteps := 2000000) (disch := omega) only [hia, Ob.c, hd, method_specs_simp, seval, reduceCtorEq]
   rw [show ∀ (A : List ABlk) (p q r : ABlk), A ++ [p, q, r] = (A ++ [p, q]) ++ [r] from fun A p q r => by simp]
   refine Nxt.mk (i + 1) (by omega) (Wk.drop (by rw [hS]; exact WkL.tail 12 _ rfl (by simp only [List.take_succ_cons, List.take_zero]; repeat' first | exact WkL.nil | refine WkL.cons (Wk1.rfl _) ?_ | refine WkL.cons Wk1.esl ?_ | refine WkL.cons (Wk1.gsl _ _ _) ?_ | refine WkL.cons (Wk1.any _) ?_)) (by simp) (hcl.append (by simp [ABlk.refs, refs.refsL, refs, Fc.cs])) (by rw [hS]; simp [refs.refsL, refs])) ⟨by omega, fun j hj => ?_⟩
   rcases Nat.lt_or_ge j i with h' | h'
   ·exact q2 j h'
   ·rw [show j = i by omega, hx]; exact of_decide_eq_false hd
 ·exact fin (x := default) (b := false) ⟨fun h => (by cases h), fun _ => ⟨rfl, fun j hj => q2 j (by omega)⟩⟩
end Go.Proofs.Ythifjndenhjobaa

/- Interfaces alike: the reference. -/
namespace Go.Proofs.Ythifjndenhjobaa
set_option linter.unusedSimpArgs false
set_option linter.unusedVariables false
set_option maxRecDepth 20000
set_option maxHeartbeats 4000000
open Go.RowKit

theorem rsobj_c (x y : Ob) (H : List ABlk) : ACalls Try.prog 21 [x.av, y.av] H fun u H' => u = bv (decide (x = y)) ∧ H' = H := by
 refine ACalls.into Try.func21 cc21 rr21 fun hcl => ?_
 have fin : ∀ {B : Bool} {l : List ABlk}, B = decide (x = y) → Ret [RC.t 4] H.length (fun u H' => u = bv (decide (x = y)) ∧ H' = H) (some (bv B)) (H ++ l) := fun {B l} h =>
  Ret.drop _ H (Nat.le_refl _) hcl (.rfl _) (by simp [refs]) ⟨by rw [h], rfl⟩
 have no : x ≠ y → false = decide (x = y) := fun h => (dcF h).symm
 generalize hD : decide (x = y) = D at *
 by_cases h1 : x.cls = y.cls
 rotate_left
 ·simp (maxSteps := 2000000) (disch := omega) only [Try.ntmps21, c21, r21, Ob.cs, method_specs_simp, seval, reduceCtorEq]
  exact fin (no fun h => h1 (by rw [h]))
 cases h2 : decide (x.name = y.name) with
 | false =>
  simp (maxSteps := 2000000) (disch := omega) only [Try.ntmps21, c21, r21, Ob.cs, h2, method_specs_simp, seval, reduceCtorEq]
  exact fin (no fun h => of_decide_eq_false h2 (by rw [h]))
 | true =>
  by_cases h3 : x.typ = y.typ
  rotate_left
  ·simp (maxSteps := 2000000) (disch := omega) only [Try.ntmps21, c21, r21, Ob.cs, h2, method_specs_simp, seval, reduceCtorEq]
   exact fin (no fun h => h3 (by rw [h]))
  by_cases h4 : x.n = y.n
  rotate_left
  ·simp (maxSteps := 2000000) (disch := omega) only [Try.ntmps21, c21, r21, Ob.cs, h2, method_specs_simp, seval, reduceCtorEq]
   exact fin (no fun h => h4 (by rw [h]))
  simp (maxSteps := 2000000) (disch := omega) only [Try.ntmps21, c21, r21, Ob.cs, h2, method_specs_simp, seval, reduceCtorEq]
  refine Cont.mk (rsameV_c x.val y.val _) ?_
  simp (maxSteps := 2000000) (disch := omega) only [method_specs_simp, seval, reduceCtorEq]
  refine fin ?_
  have h2' := of_decide_eq_true h2
  rw [← hD]
  obtain ⟨a, b, c, d, e⟩ := x
  obtain ⟨a', b', c', d', e'⟩ := y
  simp only at h1 h2' h3 h4
  subst h1 h2' h3 h4
  by_cases hv : d = d'
  ·rw [dcT hv, dcT (by rw [hv])]
  ·rw [dcF hv, dcF (by intro h; cases h; exact hv rfl)]
def SameR (a b : Fc) (H : List ABlk) (v : AV) (H' : List ABlk) : Prop := (∃ B, v = bv B ∧ (B = true ↔ a = b)) ∧ H' = H
theorem Fc.ext' {a b : Fc} (h1 : a.name = b.name) (h2 : a.key = b.key) (h3 : a.uses = b.uses) (h4 : a.types = b.types) (h5 : a.objs = b.objs) : a = b := by
 obtain ⟨a1, a2, a3, a4, a5⟩ := a
 obtain ⟨b1, b2, b3, b4, b5⟩ := b
 simp only at h1 h2 h3 h4 h5
 rw [h1, h2, h3, h4, h5]
theorem rsame_c {a b : Fc} (ha : FIn a) (hb : FIn b) (H : List ABlk) : ACalls Try.prog 22 [a.av, b.av] H (SameR a b H) := by
 have ha2 := ha.us
 have ha3 := ha.os
 have hb2 := hb.us
 have hb3 := hb.os
 refine ACalls.into Try.func22 cc22 rr22 fun hcl => ?_
 have fin : ∀ {B : Bool} {l : List ABlk}, (B = true ↔ a = b) → Ret [RC.t 4] H.length (SameR a b H) (some (bv B)) (H ++ l) := fun {B l} h =>
  Ret.drop _ H (Nat.le_refl _) hcl (.rfl _) (by simp [refs]) ⟨⟨B, rfl, h⟩, rfl⟩
 have no : ∀ {l : List ABlk}, a ≠ b → Ret [RC.t 4] H.length (SameR a b H) (some (bv false)) (H ++ l) := fun h => fin ⟨fun h' => (by cases h'), fun h' => absurd h' h⟩
 cases h1 : decide (a.name = b.name) with
 | false =>
  simp (maxSteps := 2000000) (disch := omega) only [Try.ntmps22, c22, r22, Fc.cs, h1, method_specs_simp, seval, reduceCtorEq]
  exact no fun h => of_decide_eq_false h1 (by rw [h])
 | true =>
  by_cases h2 : a.key = b.key
  rotate_left
  ·simp (maxSteps := 2000000) (disch := omega) only [Try.ntmps22, c22, r22, Fc.cs, h1, method_specs_simp, seval, reduceCtorEq]
   exact no fun h => h2 (by rw [h])
  by_cases h3 : a.uses.length = b.uses.length
  rotate_left
  ·simp (maxSteps := 2000000) (disch := omega) only [Try.ntmps22, c22, r22, Fc.cs, h1, List.length_map, method_specs_simp, seval, reduceCtorEq]
   exact no fun h => h3 (by rw [h])
  by_cases h4 : a.objs.length = b.objs.length
  rotate_left
  ·simp (maxSteps := 2000000) (disch := omega) only [Try.ntmps22, c22, r22, Fc.cs, h1, List.length_map, method_specs_simp, seval, reduceCtorEq]
   exact no fun h => h4 (by rw [h])
  simp (maxSteps := 2000000) (disch := omega) only [Try.ntmps22, c22, r22, Fc.cs, h1, List.length_map, method_specs_simp, seval, reduceCtorEq]
  refine Cont.mk (tables_c ha.ty hb.ty _) ?_
  cases h5 : decide (a.types = b.types) with
  | false =>
   simp (maxSteps := 2000000) (disch := omega) only [method_specs_simp, seval, reduceCtorEq]
   exact no fun h => of_decide_eq_false h5 (by rw [h])
  | true =>
   simp (maxSteps := 2000000) (disch := omega) only [method_specs_simp, seval, reduceCtorEq]
   have ga : ∀ i, i < a.uses.length → iaA (.d (.sl (a.uses.map Us.c))) (i : Int) 2 = some (.ip (a.uses.getD i default).c) := fun i hi => iaA_us (t := a.uses) (a := i) (by omega) (by omega)
   have gb : ∀ i, i < b.uses.length → iaA (.d (.sl (b.uses.map Us.c))) (i : Int) 2 = some (.ip (b.uses.getD i default).c) := fun i hi => iaA_us (t := b.uses) (a := i) (by omega) (by omega)
   obtain ⟨S, hS⟩ : ∃ S : Nat → List AV, ∀ i, S i = [.any, .any, .ptr H.length 0, .ptr (H.length + 1) 0, bv false, iv i] ++ List.replicate 93 .any := ⟨_, fun _ => rfl⟩
   refine W.loopG (γ := Nat) (fun i => a.uses.length - i) S (fun _ => H ++ [.cells [sv a.name, wv a.key, usv a.uses, tv a.types, obv a.objs], .cells [sv b.name, wv b.key, usv b.uses, tv b.types, obv b.objs]]) (fun i => i ≤ a.uses.length ∧ ∀ j, j < i → a.uses.getD j default = b.uses.getD j default) 0 (Wk.slots (by rw [hS]; exact WkL.tail 6 _ rfl (by simp only [List.take_succ_cons, List.take_zero]; repeat' first | exact WkL.nil | refine WkL.cons (Wk1.rfl _) ?_ | refine WkL.cons Wk1.esl ?_ | refine WkL.cons (Wk1.gsl _ _ _) ?_ | refine WkL.cons (Wk1.any _) ?_))) ⟨by omega, fun j hj => by omega⟩ (fun i hi => ?_)
   obtain ⟨q1, q2⟩ := hi
   simp (maxSteps := 2000000) (disch := omega) only [c22l1, hS, List.length_map, method_specs_simp, seval, reduceCtorEq]
   refine Br.dec (fun hc => ?_) (fun hc => ?_) <;> simp (maxSteps := 2000000) (disch := omega) only [method_specs_simp, seval, reduceCtorEq]
   ·refine W.pchain follows (by decide +kernel) ?_
    have gai := ga i (by omega)
    have gbi := gb i (by omega)
    generalize hx : a.uses.getD i default = x at *
    generalize hy : b.uses.getD i default = y at *
    cases k1 : decide (x.name = y.name) with
    | false =>
     simp (maxSteps := 2000000) (disch := omega) only [gai, gbi, Us.c, k1, method_specs_simp, seval, reduceCtorEq]
     exact no fun h => of_decide_eq_false k1 (by rw [← hx, ← hy, h])
    | true =>
     by_cases k2 : x.key = y.key
     ·simp (maxSteps := 2000000) (disch := omega) only [gai, gbi, Us.c, k1, method_specs_simp, seval, reduceCtorEq]
      refine Nxt.mk (i + 1) (by omega) (Wk.slots (by rw [hS]; exact WkL.tail 6 _ rfl (by simp only [List.take_succ_cons, List.take_zero]; repeat' first | exact WkL.nil | refine WkL.cons (Wk1.rfl _) ?_ | refine WkL.cons Wk1.esl ?_ | refine WkL.cons (Wk1.gsl _ _ _) ?_ | refine WkL.cons (Wk1.any _) ?_))) ⟨by omega, fun j hj => ?_⟩
      rcases Nat.lt_or_ge j i with h' | h'
      ·exact q2 j h'
      ·rw [show j = i by omega, hx, hy]
       have k1' := of_decide_eq_true k1
       obtain ⟨x1, x2⟩ := x
       obtain ⟨y1, y2⟩ := y
       simp only at k1' k2
       rw [k1', k2]
     ·simp (maxSteps := 2000000) (disch := omega) only [gai, gbi, Us.c, k1, method_specs_simp, seval, reduceCtorEq]
      exact no fun h => k2 (by rw [← hx, ← hy, h])
   ·have hU : a.uses = b.uses := ext_at (d := default) h3 fun i hi => q2 i (by omega)
    have oa : ∀ i, i < a.objs.length → iaA (.d (.sl (a.objs.map Ob.c))) (i : Int) 7 = some (.ip (a.objs.getD i default).c) := fun i hi => iaA_ob (t := a.objs) (a := i) (by omega) (by omega)
    have ob : ∀ i, i < b.objs.length → iaA (.d (.sl (b.objs.map Ob.c))) (i : Int) 7 = some (.ip (b.objs.getD i default).c) := fun i hi => iaA_ob (t := b.objs) (a := i) (by omega) (by omega)
    clear ga gb
    obtain ⟨S2, hS2⟩ : ∃ S : Nat → List AV, ∀ i, S i = [.any, .any, .ptr H.length 0, .ptr (H.length + 1) 0, bv false, .any, iv i] ++ List.replicate 92 .any := ⟨_, fun _ => rfl⟩
    refine W.loopG (γ := Nat) (fun i => a.objs.length - i) S2 (fun _ => H ++ [.cells [sv a.name, wv a.key, usv a.uses, tv a.types, obv a.objs], .cells [sv b.name, wv b.key, usv b.uses, tv b.types, obv b.objs]]) (fun i => i ≤ a.objs.length ∧ ∀ j, j < i → a.objs.getD j default = b.objs.getD j default) 0 (Wk.slots (by rw [hS2]; exact WkL.tail 7 _ rfl (by simp only [List.take_succ_cons, List.take_zero]; repeat' first | exact WkL.nil | refine WkL.cons (Wk1.rfl _) ?_ | refine WkL.cons Wk1.esl ?_ | refine WkL.cons (Wk1.gsl _ _ _) ?_ | refine WkL.cons (Wk1.any _) ?_))) ⟨by omega, fun j hj => by omega⟩ (fun k hk => ?_)
    obtain ⟨y1, y2⟩ := hk
    simp (maxSteps := 2000000) (disch := omega) only [c22l0, hS2, List.length_map, method_specs_simp, seval, reduceCtorEq]
    refine Br.dec (fun hc2 => ?_) (fun hc2 => ?_) <;> simp (maxSteps := 2000000) (disch := omega) only [method_specs_simp, seval, reduceCtorEq]
    ·refine W.pchain follows (by decide +kernel) ?_
     have gai := oa k (by omega)
     have gbi := ob k (by omega)
     generalize hx : a.objs.getD k default = x at *
     generalize hy : b.objs.getD k default = y at *
     have hso := rsobj_c x y
     simp (maxSteps := 2000000) (disch := omega) only [gai, gbi, Ob.c, method_specs_simp, seval, reduceCtorEq]
     refine PCont.mk (hso _) ?_
     cases k1 : decide (x = y) with
     | false =>
      simp (maxSteps := 2000000) (disch := omega) only [method_specs_simp, seval, reduceCtorEq]
      exact no fun h => of_decide_eq_false k1 (by rw [← hx, ← hy, h])
     | true =>
      simp (maxSteps := 2000000) (disch := omega) only [method_specs_simp, seval, reduceCtorEq]
      refine Nxt.mk (k + 1) (by omega) (Wk.slots (by rw [hS2]; exact WkL.tail 7 _ rfl (by simp only [List.take_succ_cons, List.take_zero]; repeat' first | exact WkL.nil | refine WkL.cons (Wk1.rfl _) ?_ | refine WkL.cons Wk1.esl ?_ | refine WkL.cons (Wk1.gsl _ _ _) ?_ | refine WkL.cons (Wk1.any _) ?_))) ⟨by omega, fun j hj => ?_⟩
      rcases Nat.lt_or_ge j k with h' | h'
      ·exact y2 j h'
      ·rw [show j = k by omega, hx, hy]; exact of_decide_eq_true k1
    ·exact fin ⟨fun _ => Fc.ext' (of_decide_eq_true h1) h2 hU (of_decide_eq_true h5) (ext_at (d := default) h4 fun i hi => y2 i (by omega)), fun _ => rfl⟩
end Go.Proofs.Ythifjndenhjobaa
