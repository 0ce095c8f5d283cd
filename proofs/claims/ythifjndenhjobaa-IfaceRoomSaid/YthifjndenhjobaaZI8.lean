/- Objects: may they be? Printed by genI6.py. -/
import Derived.Test.YthifjndenhjobaaZI4
namespace Go.Proofs.Ythifjndenhjobaa
set_option linter.unusedSimpArgs false
set_option linter.unusedVariables false
set_option maxRecDepth 20000
set_option maxHeartbeats 4000000
open Go.RowKit

abbrev ObQ (t : List Ty) (cls : Int) (name : ByteArray) (typ : Int) (val : Vl) (n : Int) : Prop :=
 Nm name ∧ placeP t typ ∧
 ((cls = 1 ∧ VlP val ∧ typ = val.form ∧ n = 0) ∨
  (cls = 2 ∧ val = ⟨0, 0, se⟩ ∧ n = 0 ∧ ((1 ≤ typ ∧ typ ≤ 4) ∨ 7 ≤ typ)) ∨
  (cls = 3 ∧ val = ⟨0, 0, se⟩ ∧ (tyAt t typ).form ≠ 0 ∧ (tyAt t typ).form ≠ 5 ∧ (tyAt t typ).form ≠ 6 ∧ (tyAt t typ).form ≠ 8 ∧ 0 ≤ n ∧ n < 64) ∨
  (cls = 4 ∧ val = ⟨0, 0, se⟩ ∧ (tyAt t typ).form = 11 ∧ 1 ≤ n ∧ n < 64))
theorem zeV_in : zeV.In := ⟨by decide, by decide, by decide⟩
theorem iobject_c {f : Fc} (hl : f.types.length ≤ 9000000) {o : Ob} (hv : o.val.In) (H : List ABlk) : ACalls Try.prog 81 [f.av, o.av] H (ObR f o H) := by
 refine ACalls.into Try.func81 cc81 rr81 fun hcl => ?_
 have fin : ∀ {B : Bool} {l : List ABlk}, (B = true ↔ ObP f.types o) → Ret [RC.t 4] H.length (ObR f o H) (some (bv B)) (H ++ l) := fun {B l} h =>
  Ret.drop _ H (Nat.le_refl _) hcl (.rfl _) (by simp [refs]) ⟨⟨B, rfl, h⟩, rfl⟩
 have nof : ¬ ObP f.types o → (false = true ↔ ObP f.types o) := fun h => ⟨fun h' => (by cases h'), fun h' => absurd h' h⟩
 have hP : ObP f.types o ↔ ObQ f.types o.cls o.name o.typ o.val o.n := Iff.rfl
 obtain ⟨cls, name, typ, val, n⟩ := o
 simp only at hv hP
 have hkf := vl_fits hv
 have hkz := vl_fits zeV_in
 have hz0 : decide (val = zeV) = (decide (val.form = 0) && decide (val.n = 0) && decide (val.text = se)) := (Vl.eq_iff (w := zeV)).symm
 by_cases h1 : Nm name
 rotate_left
 ·simp (maxSteps := 2000000) (disch := omega) only [Try.ntmps81, c81, r81, Fc.cs, Ob.cs, method_specs_simp, seval, reduceCtorEq]
  refine Cont.mk (named_c _ _) ?_
  rw [nm_f h1]
  simp (maxSteps := 2000000) (disch := omega) only [method_specs_simp, seval, reduceCtorEq]
  exact fin (nof fun h => h1 (hP.1 h).1)
 have h1' := nm_t h1
 by_cases h2 : typ < 0
 ·simp (maxSteps := 2000000) (disch := omega) only [Try.ntmps81, c81, r81, Fc.cs, Ob.cs, method_specs_simp, seval, reduceCtorEq]
  refine Cont.mk (named_c _ _) ?_
  rw [h1']
  simp (maxSteps := 2000000) (disch := omega) only [method_specs_simp, seval, reduceCtorEq]
  exact fin (nof fun h => by have := (hP.1 h).2.1.1; omega)
 by_cases h3 : (f.types.length : Int) ≤ typ
 ·simp (maxSteps := 2000000) (disch := omega) only [Try.ntmps81, c81, r81, Fc.cs, Ob.cs, method_specs_simp, seval, reduceCtorEq]
  refine Cont.mk (named_c _ _) ?_
  rw [h1']
  simp (maxSteps := 2000000) (disch := omega) only [List.length_map, method_specs_simp, seval, reduceCtorEq]
  exact fin (nof fun h => by have := (hP.1 h).2.1.2; omega)
 have hpl : placeP f.types typ := ⟨by omega, by omega⟩
 have hia := iaA_ty (t := f.types) (a := typ) (by omega) (by omega)
 by_cases c1 : cls = 1
 ·simp (maxSteps := 2000000) (disch := omega) only [Try.ntmps81, c81, r81, Fc.cs, Ob.cs, method_specs_simp, seval, reduceCtorEq]
  refine Cont.mk (named_c _ _) ?_
  rw [h1']
  simp (maxSteps := 2000000) (disch := omega) only [List.length_map, hia, Ty.c, method_specs_simp, seval, reduceCtorEq]
  refine Cont.rel (cgood_c hv _) ?_
  rintro v H' ⟨⟨B, rfl, hB⟩, rfl⟩
  cases hBv : B with
  | false =>
   simp (maxSteps := 2000000) (disch := omega) only [method_specs_simp, seval, reduceCtorEq]
   exact fin (nof fun h => by
    rcases (hP.1 h).2.2 with h | h | h | h
    ·have := hB.2 h.2.1; rw [hBv] at this; cases this
    all_goals (have := h.1; omega))
  | true =>
   have hV := hB.1 hBv
   by_cases k1 : typ = val.form
   ·by_cases k2 : n = 0
    ·simp (maxSteps := 2000000) (disch := omega) only [method_specs_simp, seval, reduceCtorEq]
     exact fin ⟨fun _ => hP.2 ⟨h1, hpl, .inl ⟨c1, hV, k1, k2⟩⟩, fun _ => rfl⟩
    ·simp (maxSteps := 2000000) (disch := omega) only [method_specs_simp, seval, reduceCtorEq]
     exact fin (nof fun h => by rcases (hP.1 h).2.2 with h | h | h | h <;> first | exact k2 h.2.2.2 | (have := h.1; omega))
   ·simp (maxSteps := 2000000) (disch := omega) only [method_specs_simp, seval, reduceCtorEq]
    exact fin (nof fun h => by rcases (hP.1 h).2.2 with h | h | h | h <;> first | exact k1 h.2.2.1 | (have := h.1; omega))
 cases hz : decide (val = zeV) with
 | false =>
  have hz2 := hz
  rw [hz0] at hz2
  have hno : ¬ ObP f.types ⟨cls, name, typ, val, n⟩ := fun h => by
   have hv0 : val ≠ zeV := of_decide_eq_false hz
   rcases (hP.1 h).2.2 with h | h | h | h
   ·exact c1 h.1
   all_goals exact hv0 h.2.1
  simp (maxSteps := 2000000) (disch := omega) only [Try.ntmps81, c81, r81, Fc.cs, Ob.cs, method_specs_simp, seval, reduceCtorEq]
  refine Cont.mk (named_c _ _) ?_
  rw [h1']
  simp (maxSteps := 2000000) (disch := omega) only [List.length_map, vl_key, hkf, hkz, vl_keq, hz2, method_specs_simp, seval, reduceCtorEq]
  exact fin (nof hno)
 | true =>
  have hze : val = zeV := of_decide_eq_true hz
  rw [hz0] at hz
  simp (maxSteps := 2000000) (disch := omega) only [Try.ntmps81, c81, r81, Fc.cs, Ob.cs, method_specs_simp, seval, reduceCtorEq]
  refine Cont.mk (named_c _ _) ?_
  rw [h1']
  simp (maxSteps := 2000000) (disch := omega) only [List.length_map, vl_key, hkf, hkz, vl_keq, hz, hia, Ty.c, method_specs_simp, seval, reduceCtorEq]
  by_cases c2 : cls = 2
  ·by_cases k1 : n = 0
   ·by_cases k2 : 1 ≤ typ
    ·by_cases k3 : typ ≤ 4
     ·simp (maxSteps := 2000000) (disch := omega) only [method_specs_simp, seval, reduceCtorEq]
      exact fin ⟨fun _ => hP.2 ⟨h1, hpl, .inr (.inl ⟨c2, hze, k1, .inl ⟨k2, k3⟩⟩)⟩, fun _ => rfl⟩
     ·by_cases k4 : 7 ≤ typ
      ·simp (maxSteps := 2000000) (disch := omega) only [method_specs_simp, seval, reduceCtorEq]
       exact fin ⟨fun _ => hP.2 ⟨h1, hpl, .inr (.inl ⟨c2, hze, k1, .inr k4⟩)⟩, fun _ => rfl⟩
      ·simp (maxSteps := 2000000) (disch := omega) only [method_specs_simp, seval, reduceCtorEq]
       exact fin (nof fun h => by rcases (hP.1 h).2.2 with h | h | h | h <;> first | (have := h.2.2.2; omega) | (have := h.1; omega))
    ·simp (maxSteps := 2000000) (disch := omega) only [method_specs_simp, seval, reduceCtorEq]
     exact fin (nof fun h => by rcases (hP.1 h).2.2 with h | h | h | h <;> first | (have := h.2.2.2; omega) | (have := h.1; omega))
   ·simp (maxSteps := 2000000) (disch := omega) only [method_specs_simp, seval, reduceCtorEq]
    exact fin (nof fun h => by rcases (hP.1 h).2.2 with h | h | h | h <;> first | exact k1 h.2.2.1 | (have := h.1; omega))
  by_cases c3 : cls = 3
  ·by_cases k : (tyAt f.types typ).form ≠ 0 ∧ (tyAt f.types typ).form ≠ 5 ∧ (tyAt f.types typ).form ≠ 6 ∧ (tyAt f.types typ).form ≠ 8
   ·obtain ⟨k1, k2, k3, k4⟩ := k
    by_cases k5 : 0 ≤ n
    ·by_cases k6 : n < 64
     ·simp (maxSteps := 2000000) (disch := omega) only [method_specs_simp, seval, reduceCtorEq]
      exact fin ⟨fun _ => hP.2 ⟨h1, hpl, .inr (.inr (.inl ⟨c3, hze, k1, k2, k3, k4, k5, k6⟩))⟩, fun _ => rfl⟩
     ·simp (maxSteps := 2000000) (disch := omega) only [method_specs_simp, seval, reduceCtorEq]
      exact fin (nof fun h => by rcases (hP.1 h).2.2 with h | h | h | h <;> first | exact k6 h.2.2.2.2.2.2.2 | (have := h.1; omega))
    ·simp (maxSteps := 2000000) (disch := omega) only [method_specs_simp, seval, reduceCtorEq]
     exact fin (nof fun h => by rcases (hP.1 h).2.2 with h | h | h | h <;> first | exact k5 h.2.2.2.2.2.2.1 | (have := h.1; omega))
   ·have hno : ¬ ObP f.types ⟨cls, name, typ, val, n⟩ := fun h => by rcases (hP.1 h).2.2 with h | h | h | h <;> first | exact k ⟨h.2.2.1, h.2.2.2.1, h.2.2.2.2.1, h.2.2.2.2.2.1⟩ | (have := h.1; omega)
    have k' : (tyAt f.types typ).form = 0 ∨ (tyAt f.types typ).form = 5 ∨ (tyAt f.types typ).form = 6 ∨ (tyAt f.types typ).form = 8 := by omega
    clear k
    generalize (tyAt f.types typ).form = fm at *
    rcases k' with rfl | rfl | rfl | rfl <;> (simp (maxSteps := 2000000) (disch := omega) only [method_specs_simp, seval, reduceCtorEq]; exact fin (nof hno))
  by_cases c4 : cls = 4
  ·by_cases k : (tyAt f.types typ).form = 11
   ·by_cases k5 : 1 ≤ n
    ·by_cases k6 : n < 64
     ·simp (maxSteps := 2000000) (disch := omega) only [method_specs_simp, seval, reduceCtorEq]
      exact fin ⟨fun _ => hP.2 ⟨h1, hpl, .inr (.inr (.inr ⟨c4, hze, k, k5, k6⟩))⟩, fun _ => rfl⟩
     ·simp (maxSteps := 2000000) (disch := omega) only [method_specs_simp, seval, reduceCtorEq]
      exact fin (nof fun h => by rcases (hP.1 h).2.2 with h | h | h | h <;> first | exact k6 h.2.2.2.2 | (have := h.1; omega))
    ·simp (maxSteps := 2000000) (disch := omega) only [method_specs_simp, seval, reduceCtorEq]
     exact fin (nof fun h => by rcases (hP.1 h).2.2 with h | h | h | h <;> first | exact k5 h.2.2.2.1 | (have := h.1; omega))
   ·simp (maxSteps := 2000000) (disch := omega) only [method_specs_simp, seval, reduceCtorEq]
    exact fin (nof fun h => by rcases (hP.1 h).2.2 with h | h | h | h <;> first | exact k h.2.2.1 | (have := h.1; omega))
  ·simp (maxSteps := 2000000) (disch := omega) only [method_specs_simp, seval, reduceCtorEq]
   exact fin (nof fun h => by rcases (hP.1 h).2.2 with h | h | h | h <;> (have := h.1; omega))
end Go.Proofs.Ythifjndenhjobaa

/- The reference's constants: are they good? -/
namespace Go.Proofs.Ythifjndenhjobaa
set_option linter.unusedSimpArgs false
set_option linter.unusedVariables false
set_option maxRecDepth 20000
set_option maxHeartbeats 4000000
open Go.RowKit

def StrP (s : ByteArray) : Prop := s.size ≤ 64 ∧ plainB s
theorem rstring_c {s : ByteArray} (ht : s.size ≤ 140737488355328) (H : List ABlk) : ACalls Try.prog 129 [sv s] H fun u H' => (∃ B, u = bv B ∧ (B = true ↔ StrP s)) ∧ H' = H := by
 refine ACalls.into Try.func129 cc129 rr129 fun hcl => ?_
 have nof : ∀ {p : Prop}, ¬ p → (false = true ↔ p) := fun h => ⟨fun h' => (by cases h'), fun h' => absurd h' h⟩
 have fin : ∀ {B : Bool}, (B = true ↔ StrP s) → Ret [RC.t 2] H.length (fun u H' => (∃ B, u = bv B ∧ (B = true ↔ StrP s)) ∧ H' = H) (some (bv B)) H := fun {B} h => Ret.keep ⟨⟨B, rfl, h⟩, rfl⟩
 by_cases hs : 64 < s.size
 ·simp (maxSteps := 2000000) (disch := omega) only [Try.ntmps129, c129, r129, method_specs_simp, seval, reduceCtorEq]
  exact fin (nof fun h => by have := h.1; omega)
 simp (maxSteps := 2000000) (disch := omega) only [Try.ntmps129, c129, r129, method_specs_simp, seval, reduceCtorEq]
 obtain ⟨S, hS⟩ : ∃ S : Nat → List AV, ∀ i, S i = [sv s, .any, bv false, iv i] ++ List.replicate 19 .any := ⟨_, fun _ => rfl⟩
 refine W.loopG (γ := Nat) (fun i => s.size - i) S (fun _ => H) (fun i => i ≤ s.size ∧ ∀ j, j < i → 32 ≤ chr s j ∧ chr s j ≠ 34) 0 (Wk.slots (by rw [hS]; exact WkL.tail 4 _ rfl (by simp only [List.take_succ_cons, List.take_zero]; repeat' first | exact WkL.nil | refine WkL.cons (Wk1.rfl _) ?_ | refine WkL.cons Wk1.esl ?_ | refine WkL.cons (Wk1.gsl _ _ _) ?_ | refine WkL.cons (Wk1.any _) ?_))) ⟨by omega, fun j hj => by omega⟩ (fun i hi => ?_)
 obtain ⟨q1, q2⟩ := hi
 simp (maxSteps := 2000000) (disch := omega) only [c129l0, hS, method_specs_simp, seval, reduceCtorEq]
 refine Br.dec (fun hc => ?_) (fun hc => ?_) <;> simp (maxSteps := 2000000) (disch := omega) only [method_specs_simp, seval, reduceCtorEq]
 ·by_cases k1 : chr s i < 32
  ·have k1' := k1
   simp only [chr] at k1'
   simp (maxSteps := 2000000) (disch := omega) only [method_specs_simp, seval, reduceCtorEq]
   exact fin (nof fun h => by have := (h.2 i (by omega)).1; omega)
  ·by_cases k2 : chr s i = 34
   ·simp only [chr] at k1 k2
    simp (maxSteps := 2000000) (disch := omega) only [method_specs_simp, seval, reduceCtorEq]
    exact fin (nof fun h => by have := (h.2 i (by omega)).2; simp only [chr] at this; omega)
   ·have k1' := k1
    have k2' := k2
    simp only [chr] at k1' k2'
    simp (maxSteps := 2000000) (disch := omega) only [method_specs_simp, seval, reduceCtorEq]
    refine Nxt.mk (i + 1) (by omega) (Wk.slots (by rw [hS]; exact WkL.tail 4 _ rfl (by simp only [List.take_succ_cons, List.take_zero]; repeat' first | exact WkL.nil | refine WkL.cons (Wk1.rfl _) ?_ | refine WkL.cons Wk1.esl ?_ | refine WkL.cons (Wk1.gsl _ _ _) ?_ | refine WkL.cons (Wk1.any _) ?_))) ⟨by omega, fun j hj => ?_⟩
    rcases Nat.lt_or_ge j i with h' | h'
    ·exact q2 j h'
    ·rw [show j = i by omega]; exact ⟨by omega, k2⟩
 ·exact fin ⟨fun _ => ⟨by omega, fun j hj => q2 j (by omega)⟩, fun _ => rfl⟩
theorem rcgood_c {v : Vl} (hv : v.In) (H : List ABlk) : ACalls Try.prog 112 [v.av] H fun u H' => (∃ B, u = bv B ∧ (B = true ↔ VlP v)) ∧ H' = H := by
 refine ACalls.into Try.func112 cc112 rr112 fun hcl => ?_
 obtain ⟨⟨f0, f1⟩, ⟨n0, n1⟩, ht⟩ := hv
 obtain ⟨a, n, s⟩ := v
 simp only at f0 f1 n0 n1 ht
 have fin : ∀ {B : Bool} {l : List ABlk}, (B = true ↔ VlP ⟨a, n, s⟩) → Ret [RC.t 2] H.length (fun u H' => (∃ B, u = bv B ∧ (B = true ↔ VlP ⟨a, n, s⟩)) ∧ H' = H) (some (bv B)) (H ++ l) := fun {B l} h =>
  Ret.drop _ H (Nat.le_refl _) hcl (.rfl _) (by simp [refs]) ⟨⟨B, rfl, h⟩, rfl⟩
 have hP : VlP ⟨a, n, s⟩ ↔ (a = 6 ∧ n = 0 ∧ s.size ≤ 64 ∧ plainB s) ∨ (s = se ∧ ((a = 1 ∧ -2147483648 ≤ n ∧ n ≤ 2147483647) ∨ (a = 2 ∧ (n = 0 ∨ n = 1)) ∨ (a = 3 ∧ 0 ≤ n ∧ n < 256) ∨ (a = 4 ∧ 0 ≤ n ∧ n < 4294967296) ∨ (a = 5 ∧ n = 0))) := Iff.rfl
 have nof : ∀ {p : Prop}, ¬ p → (false = true ↔ p) := fun h => ⟨fun h' => (by cases h'), fun h' => absurd h' h⟩
 by_cases a6 : a = 6
 ·subst a6
  by_cases hn : n = 0
  ·simp (maxSteps := 2000000) (disch := omega) only [Try.ntmps112, c112, r112, method_specs_simp, seval, reduceCtorEq]
   refine Cont.rel (rstring_c ht _) ?_
   rintro v H' ⟨⟨B, rfl, hB⟩, rfl⟩
   simp (maxSteps := 2000000) (disch := omega) only [method_specs_simp, seval, reduceCtorEq]
   exact fin (hB.trans ⟨fun h => hP.2 (.inl ⟨rfl, hn, h⟩), fun h => by rcases hP.1 h with h | ⟨_, h | h | h | h | h⟩ <;> first | exact h.2.2 | omega⟩)
  ·simp (maxSteps := 2000000) (disch := omega) only [Try.ntmps112, c112, r112, method_specs_simp, seval, reduceCtorEq]
   exact fin (nof fun h => by rcases hP.1 h with h | ⟨_, h | h | h | h | h⟩ <;> omega)
 cases hse : decide (s = se) with
 | false =>
  simp (maxSteps := 2000000) (disch := omega) only [Try.ntmps112, c112, r112, hse, method_specs_simp, seval, reduceCtorEq]
  exact fin (nof fun h => by
   rcases hP.1 h with h | ⟨h, _⟩
   ·omega
   ·simp [h] at hse)
 | true =>
  have hse' := of_decide_eq_true hse
  by_cases a1 : a = 1
  ·simp (maxSteps := 2000000) (disch := omega) only [Try.ntmps112, c112, r112, hse, method_specs_simp, seval, reduceCtorEq]
   refine Cont.rel (rfits_c _ _) ?_
   rintro v H' ⟨⟨B, rfl, hB⟩, rfl⟩
   simp (maxSteps := 2000000) (disch := omega) only [method_specs_simp, seval, reduceCtorEq]
   exact fin (hB.trans ⟨fun h => hP.2 (.inr ⟨hse', .inl ⟨a1, h⟩⟩), fun h => by rcases hP.1 h with h | ⟨_, h | h | h | h | h⟩ <;> first | omega | exact h.2⟩)
  by_cases a2 : a = 2
  ·by_cases n0' : n = 0
   ·simp (maxSteps := 2000000) (disch := omega) only [Try.ntmps112, c112, r112, hse, method_specs_simp, seval, reduceCtorEq]
    exact fin ⟨fun _ => hP.2 (.inr ⟨hse', .inr (.inl ⟨a2, .inl n0'⟩)⟩), fun _ => rfl⟩
   by_cases n1' : n = 1
   ·simp (maxSteps := 2000000) (disch := omega) only [Try.ntmps112, c112, r112, hse, method_specs_simp, seval, reduceCtorEq]
    exact fin ⟨fun _ => hP.2 (.inr ⟨hse', .inr (.inl ⟨a2, .inr n1'⟩)⟩), fun _ => rfl⟩
   ·simp (maxSteps := 2000000) (disch := omega) only [Try.ntmps112, c112, r112, hse, method_specs_simp, seval, reduceCtorEq]
    exact fin (nof fun h => by rcases hP.1 h with h | ⟨_, h | h | h | h | h⟩ <;> omega)
  by_cases a3 : a = 3
  ·by_cases k0 : 0 ≤ n
   ·by_cases k1 : n < 256
    ·simp (maxSteps := 2000000) (disch := omega) only [Try.ntmps112, c112, r112, hse, method_specs_simp, seval, reduceCtorEq]
     exact fin ⟨fun _ => hP.2 (.inr ⟨hse', .inr (.inr (.inl ⟨a3, by omega, by omega⟩))⟩), fun _ => rfl⟩
    ·simp (maxSteps := 2000000) (disch := omega) only [Try.ntmps112, c112, r112, hse, method_specs_simp, seval, reduceCtorEq]
     exact fin (nof fun h => by rcases hP.1 h with h | ⟨_, h | h | h | h | h⟩ <;> omega)
   ·simp (maxSteps := 2000000) (disch := omega) only [Try.ntmps112, c112, r112, hse, method_specs_simp, seval, reduceCtorEq]
    exact fin (nof fun h => by rcases hP.1 h with h | ⟨_, h | h | h | h | h⟩ <;> omega)
  by_cases a4 : a = 4
  ·by_cases k0 : 0 ≤ n
   ·by_cases k1 : n < 4294967296
    ·simp (maxSteps := 2000000) (disch := omega) only [Try.ntmps112, c112, r112, hse, method_specs_simp, seval, reduceCtorEq]
     exact fin ⟨fun _ => hP.2 (.inr ⟨hse', .inr (.inr (.inr (.inl ⟨a4, by omega, by omega⟩)))⟩), fun _ => rfl⟩
    ·simp (maxSteps := 2000000) (disch := omega) only [Try.ntmps112, c112, r112, hse, method_specs_simp, seval, reduceCtorEq]
     exact fin (nof fun h => by rcases hP.1 h with h | ⟨_, h | h | h | h | h⟩ <;> omega)
   ·simp (maxSteps := 2000000) (disch := omega) only [Try.ntmps112, c112, r112, hse, method_specs_simp, seval, reduceCtorEq]
    exact fin (nof fun h => by rcases hP.1 h with h | ⟨_, h | h | h | h | h⟩ <;> omega)
  by_cases a5 : a = 5
  ·by_cases hr : n = 0
   ·simp (maxSteps := 2000000) (disch := omega) only [Try.ntmps112, c112, r112, hse, method_specs_simp, seval, reduceCtorEq]
    exact fin ⟨fun _ => hP.2 (.inr ⟨hse', .inr (.inr (.inr (.inr ⟨a5, hr⟩)))⟩), fun _ => rfl⟩
   ·simp (maxSteps := 2000000) (disch := omega) only [Try.ntmps112, c112, r112, hse, method_specs_simp, seval, reduceCtorEq]
    exact fin (nof fun h => by rcases hP.1 h with h | ⟨_, h | h | h | h | h⟩ <;> omega)
  ·simp (maxSteps := 2000000) (disch := omega) only [Try.ntmps112, c112, r112, hse, method_specs_simp, seval, reduceCtorEq]
   exact fin (nof fun h => by rcases hP.1 h with h | ⟨_, h | h | h | h | h⟩ <;> omega)
end Go.Proofs.Ythifjndenhjobaa

/- Objects: may they be? Printed by genI6.py. -/
namespace Go.Proofs.Ythifjndenhjobaa
set_option linter.unusedSimpArgs false
set_option linter.unusedVariables false
set_option maxRecDepth 20000
set_option maxHeartbeats 4000000
open Go.RowKit

theorem robject_c {f : Fc} (hl : f.types.length ≤ 9000000) {o : Ob} (hv : o.val.In) (H : List ABlk) : ACalls Try.prog 85 [f.av, o.av] H (ObR f o H) := by
 refine ACalls.into Try.func85 cc85 rr85 fun hcl => ?_
 have fin : ∀ {B : Bool} {l : List ABlk}, (B = true ↔ ObP f.types o) → Ret [RC.t 4] H.length (ObR f o H) (some (bv B)) (H ++ l) := fun {B l} h =>
  Ret.drop _ H (Nat.le_refl _) hcl (.rfl _) (by simp [refs]) ⟨⟨B, rfl, h⟩, rfl⟩
 have nof : ¬ ObP f.types o → (false = true ↔ ObP f.types o) := fun h => ⟨fun h' => (by cases h'), fun h' => absurd h' h⟩
 have hP : ObP f.types o ↔ ObQ f.types o.cls o.name o.typ o.val o.n := Iff.rfl
 obtain ⟨cls, name, typ, val, n⟩ := o
 simp only at hv hP
 have hkf := vl_fits hv
 have hkz := vl_fits zeV_in
 have hz0 : decide (val = zeV) = (decide (val.form = 0) && decide (val.n = 0) && decide (val.text = se)) := (Vl.eq_iff (w := zeV)).symm
 by_cases h1 : Nm name
 rotate_left
 ·simp (maxSteps := 2000000) (disch := omega) only [Try.ntmps85, c85, r85, Fc.cs, Ob.cs, method_specs_simp, seval, reduceCtorEq]
  refine Cont.mk (iword_c _ _) ?_
  rw [nm_f h1]
  simp (maxSteps := 2000000) (disch := omega) only [method_specs_simp, seval, reduceCtorEq]
  exact fin (nof fun h => h1 (hP.1 h).1)
 have h1' := nm_t h1
 by_cases h2 : typ < 0
 ·simp (maxSteps := 2000000) (disch := omega) only [Try.ntmps85, c85, r85, Fc.cs, Ob.cs, method_specs_simp, seval, reduceCtorEq]
  refine Cont.mk (iword_c _ _) ?_
  rw [h1']
  simp (maxSteps := 2000000) (disch := omega) only [method_specs_simp, seval, reduceCtorEq]
  exact fin (nof fun h => by have := (hP.1 h).2.1.1; omega)
 by_cases h3 : (f.types.length : Int) ≤ typ
 ·simp (maxSteps := 2000000) (disch := omega) only [Try.ntmps85, c85, r85, Fc.cs, Ob.cs, method_specs_simp, seval, reduceCtorEq]
  refine Cont.mk (iword_c _ _) ?_
  rw [h1']
  simp (maxSteps := 2000000) (disch := omega) only [List.length_map, method_specs_simp, seval, reduceCtorEq]
  exact fin (nof fun h => by have := (hP.1 h).2.1.2; omega)
 have hpl : placeP f.types typ := ⟨by omega, by omega⟩
 have hia := iaA_ty (t := f.types) (a := typ) (by omega) (by omega)
 by_cases c1 : cls = 1
 ·simp (maxSteps := 2000000) (disch := omega) only [Try.ntmps85, c85, r85, Fc.cs, Ob.cs, method_specs_simp, seval, reduceCtorEq]
  refine Cont.mk (iword_c _ _) ?_
  rw [h1']
  simp (maxSteps := 2000000) (disch := omega) only [List.length_map, hia, Ty.c, method_specs_simp, seval, reduceCtorEq]
  refine Cont.rel (rcgood_c hv _) ?_
  rintro v H' ⟨⟨B, rfl, hB⟩, rfl⟩
  cases hBv : B with
  | false =>
   simp (maxSteps := 2000000) (disch := omega) only [method_specs_simp, seval, reduceCtorEq]
   exact fin (nof fun h => by
    rcases (hP.1 h).2.2 with h | h | h | h
    ·have := hB.2 h.2.1; rw [hBv] at this; cases this
    all_goals (have := h.1; omega))
  | true =>
   have hV := hB.1 hBv
   by_cases k1 : typ = val.form
   ·by_cases k2 : n = 0
    ·simp (maxSteps := 2000000) (disch := omega) only [method_specs_simp, seval, reduceCtorEq]
     exact fin ⟨fun _ => hP.2 ⟨h1, hpl, .inl ⟨c1, hV, k1, k2⟩⟩, fun _ => rfl⟩
    ·simp (maxSteps := 2000000) (disch := omega) only [method_specs_simp, seval, reduceCtorEq]
     exact fin (nof fun h => by rcases (hP.1 h).2.2 with h | h | h | h <;> first | exact k2 h.2.2.2 | (have := h.1; omega))
   ·simp (maxSteps := 2000000) (disch := omega) only [method_specs_simp, seval, reduceCtorEq]
    exact fin (nof fun h => by rcases (hP.1 h).2.2 with h | h | h | h <;> first | exact k1 h.2.2.1 | (have := h.1; omega))
 cases hz : decide (val = zeV) with
 | false =>
  have hz2 := hz
  rw [hz0] at hz2
  have hno : ¬ ObP f.types ⟨cls, name, typ, val, n⟩ := fun h => by
   have hv0 : val ≠ zeV := of_decide_eq_false hz
   rcases (hP.1 h).2.2 with h | h | h | h
   ·exact c1 h.1
   all_goals exact hv0 h.2.1
  simp (maxSteps := 2000000) (disch := omega) only [Try.ntmps85, c85, r85, Fc.cs, Ob.cs, method_specs_simp, seval, reduceCtorEq]
  refine Cont.mk (iword_c _ _) ?_
  rw [h1']
  simp (maxSteps := 2000000) (disch := omega) only [List.length_map, method_specs_simp, seval, reduceCtorEq]
  refine Cont.mk (rsameV_c val zeV _) ?_
  rw [hz]
  simp (maxSteps := 2000000) (disch := omega) only [method_specs_simp, seval, reduceCtorEq]
  exact fin (nof hno)
 | true =>
  have hze : val = zeV := of_decide_eq_true hz
  simp (maxSteps := 2000000) (disch := omega) only [Try.ntmps85, c85, r85, Fc.cs, Ob.cs, method_specs_simp, seval, reduceCtorEq]
  refine Cont.mk (iword_c _ _) ?_
  rw [h1']
  simp (maxSteps := 2000000) (disch := omega) only [List.length_map, method_specs_simp, seval, reduceCtorEq]
  refine Cont.mk (rsameV_c val zeV _) ?_
  rw [hz]
  simp (maxSteps := 2000000) (disch := omega) only [hia, Ty.c, method_specs_simp, seval, reduceCtorEq]
  by_cases c2 : cls = 2
  ·by_cases k1 : n = 0
   ·by_cases k2 : 1 ≤ typ
    ·by_cases k3 : typ ≤ 4
     ·simp (maxSteps := 2000000) (disch := omega) only [method_specs_simp, seval, reduceCtorEq]
      exact fin ⟨fun _ => hP.2 ⟨h1, hpl, .inr (.inl ⟨c2, hze, k1, .inl ⟨k2, k3⟩⟩)⟩, fun _ => rfl⟩
     ·by_cases k4 : 7 ≤ typ
      ·simp (maxSteps := 2000000) (disch := omega) only [method_specs_simp, seval, reduceCtorEq]
       exact fin ⟨fun _ => hP.2 ⟨h1, hpl, .inr (.inl ⟨c2, hze, k1, .inr k4⟩)⟩, fun _ => rfl⟩
      ·simp (maxSteps := 2000000) (disch := omega) only [method_specs_simp, seval, reduceCtorEq]
       exact fin (nof fun h => by rcases (hP.1 h).2.2 with h | h | h | h <;> first | (have := h.2.2.2; omega) | (have := h.1; omega))
    ·simp (maxSteps := 2000000) (disch := omega) only [method_specs_simp, seval, reduceCtorEq]
     exact fin (nof fun h => by rcases (hP.1 h).2.2 with h | h | h | h <;> first | (have := h.2.2.2; omega) | (have := h.1; omega))
   ·by_cases k2 : 1 ≤ typ
    ·by_cases k3 : typ ≤ 4
     ·simp (maxSteps := 2000000) (disch := omega) only [method_specs_simp, seval, reduceCtorEq]
      exact fin (nof fun h => by rcases (hP.1 h).2.2 with h | h | h | h <;> first | exact k1 h.2.2.1 | (have := h.1; omega))
     ·by_cases k4 : 7 ≤ typ
      ·simp (maxSteps := 2000000) (disch := omega) only [method_specs_simp, seval, reduceCtorEq]
       exact fin (nof fun h => by rcases (hP.1 h).2.2 with h | h | h | h <;> first | exact k1 h.2.2.1 | (have := h.1; omega))
      ·simp (maxSteps := 2000000) (disch := omega) only [method_specs_simp, seval, reduceCtorEq]
       exact fin (nof fun h => by rcases (hP.1 h).2.2 with h | h | h | h <;> first | exact k1 h.2.2.1 | (have := h.1; omega))
    ·simp (maxSteps := 2000000) (disch := omega) only [method_specs_simp, seval, reduceCtorEq]
     exact fin (nof fun h => by rcases (hP.1 h).2.2 with h | h | h | h <;> first | exact k1 h.2.2.1 | (have := h.1; omega))
  by_cases c3 : cls = 3
  ·by_cases k : (tyAt f.types typ).form ≠ 0 ∧ (tyAt f.types typ).form ≠ 5 ∧ (tyAt f.types typ).form ≠ 6 ∧ (tyAt f.types typ).form ≠ 8
   ·obtain ⟨k1, k2, k3, k4⟩ := k
    by_cases k5 : 0 ≤ n
    ·by_cases k6 : n < 64
     ·simp (maxSteps := 2000000) (disch := omega) only [method_specs_simp, seval, reduceCtorEq]
      exact fin ⟨fun _ => hP.2 ⟨h1, hpl, .inr (.inr (.inl ⟨c3, hze, k1, k2, k3, k4, k5, k6⟩))⟩, fun _ => rfl⟩
     ·simp (maxSteps := 2000000) (disch := omega) only [method_specs_simp, seval, reduceCtorEq]
      exact fin (nof fun h => by rcases (hP.1 h).2.2 with h | h | h | h <;> first | exact k6 h.2.2.2.2.2.2.2 | (have := h.1; omega))
    ·simp (maxSteps := 2000000) (disch := omega) only [method_specs_simp, seval, reduceCtorEq]
     exact fin (nof fun h => by rcases (hP.1 h).2.2 with h | h | h | h <;> first | exact k5 h.2.2.2.2.2.2.1 | (have := h.1; omega))
   ·have hno : ¬ ObP f.types ⟨cls, name, typ, val, n⟩ := fun h => by rcases (hP.1 h).2.2 with h | h | h | h <;> first | exact k ⟨h.2.2.1, h.2.2.2.1, h.2.2.2.2.1, h.2.2.2.2.2.1⟩ | (have := h.1; omega)
    have k' : (tyAt f.types typ).form = 0 ∨ (tyAt f.types typ).form = 5 ∨ (tyAt f.types typ).form = 6 ∨ (tyAt f.types typ).form = 8 := by omega
    clear k
    generalize (tyAt f.types typ).form = fm at *
    rcases k' with rfl | rfl | rfl | rfl <;> (simp (maxSteps := 2000000) (disch := omega) only [method_specs_simp, seval, reduceCtorEq]; exact fin (nof hno))
  by_cases c4 : cls = 4
  ·by_cases k : (tyAt f.types typ).form = 11
   ·by_cases k5 : 1 ≤ n
    ·by_cases k6 : n < 64
     ·simp (maxSteps := 2000000) (disch := omega) only [method_specs_simp, seval, reduceCtorEq]
      exact fin ⟨fun _ => hP.2 ⟨h1, hpl, .inr (.inr (.inr ⟨c4, hze, k, k5, k6⟩))⟩, fun _ => rfl⟩
     ·simp (maxSteps := 2000000) (disch := omega) only [method_specs_simp, seval, reduceCtorEq]
      exact fin (nof fun h => by rcases (hP.1 h).2.2 with h | h | h | h <;> first | exact k6 h.2.2.2.2 | (have := h.1; omega))
    ·simp (maxSteps := 2000000) (disch := omega) only [method_specs_simp, seval, reduceCtorEq]
     exact fin (nof fun h => by rcases (hP.1 h).2.2 with h | h | h | h <;> first | exact k5 h.2.2.2.1 | (have := h.1; omega))
   ·simp (maxSteps := 2000000) (disch := omega) only [method_specs_simp, seval, reduceCtorEq]
    exact fin (nof fun h => by rcases (hP.1 h).2.2 with h | h | h | h <;> first | exact k h.2.2.1 | (have := h.1; omega))
  ·simp (maxSteps := 2000000) (disch := omega) only [method_specs_simp, seval, reduceCtorEq]
   exact fin (nof fun h => by rcases (hP.1 h).2.2 with h | h | h | h <;> (have := h.1; omega))
end Go.Proofs.Ythifjndenhjobaa
