/- Copies; Good; IfaceGoods. -/
import Derived.Test.YthifjndenhjobaaQIE
import Derived.Test.YthifjndenhjobaaQEvW
namespace Go.Proofs.Ythifjndenhjobaa
set_option linter.unusedSimpArgs false
set_option linter.unusedVariables false
set_option maxRecDepth 20000
set_option maxHeartbeats 4000000
open Go.RowKit

theorem copy16_c {f : Fc} (hs : Small f.types) (hu : f.uses.length ≤ 9000000) (ho : f.objs.length ≤ 9000000) (H : List ABlk) : ACalls Try.prog 16 [f.av] H fun v H' => v = f.av ∧ H' = H := by
  refine ACalls.into Try.func16 cc16 rr16 fun hcl => ?_
  have e1 : ∀ H, elemsA H 2 (usv f.uses) = some ((f.uses.map Us.c).map (·.map .d)) := fun H => by simp only [usv, elems_d, all_us, if_true]
  have e2 : ∀ H, elemsA H 7 (obv f.objs) = some ((f.objs.map Ob.c).map (·.map .d)) := fun H => by simp only [obv, elems_d, all_ob, if_true]
  have d1 := datss_map_d (f.uses.map Us.c)
  have d2 := datss_map_d (f.objs.map Ob.c)
  have mx : maxLen = 9223372036854775807 := mx_eq
  simp (maxSteps := 2000000) (disch := omega) only [Try.ntmps16, c16, r16, Fc.cs, e1, d1, List.length_map, method_specs_simp, seval, eq_self, if_true, if_false, reduceCtorEq]
  refine Cont.mk (copy_c hs _) ?_
  simp (maxSteps := 2000000) (disch := omega) only [e2, d2, List.length_map, method_specs_simp, seval, eq_self, if_true, if_false, reduceCtorEq]
  refine Ret.drop f.av H (Nat.le_refl _) hcl ?_ (by simp [refs, refs.refsL, Fc.cs]) ⟨rfl, rfl⟩
  exact .agg rfl fun i c c' h1 h2 => by
    rcases i with _ | _ | _ | _ | _ | i <;> simp [Fc.cs] at h1 h2
    · subst h1 h2; exact .rfl _
    · subst h1 h2; exact .rfl _
    · subst h1 h2; exact .rfl _
    · subst h1 h2; exact .gsl _ _ _
    · subst h1 h2; exact .rfl _
theorem igood16_c {f : Fc} (hf : FIn f) (hs : Small f.types) (H : List ABlk) : ACalls Try.prog 19 [f.av] H fun v H' => v = bv (cdec (FaceP f)) ∧ H' = H :=
  (igood_of hf (R := FrameP f) (fun H => framed_c hf hs H) H).mono fun v H' h => by
    obtain ⟨⟨B, h1, h2⟩, h3⟩ := h
    exact ⟨cdec_of ⟨B, h1, h2.trans ⟨fun k => ⟨k.1.toShapeP, k.2⟩, fun k => ⟨k.frame, k.num⟩⟩⟩, h3⟩
theorem Less.sm {f : Fc} (h : Less f) : Small f.types ∧ f.uses.length ≤ 9000000 ∧ f.objs.length ≤ 9000000 := ⟨h.ty.small, by have := h.us; omega, by have := h.os; omega⟩
end Go.Proofs.Ythifjndenhjobaa

/- IfaceGoods. -/
namespace Go.Proofs.Ythifjndenhjobaa
set_option linter.unusedSimpArgs false
set_option linter.unusedVariables false
set_option maxRecDepth 20000
set_option maxHeartbeats 4000000
open Go.RowKit

theorem rsame_d {a b : Fc} (ha : FIn a) (hb : FIn b) (H : List ABlk) : ACalls Try.prog 22 [a.av, b.av] H fun v H' => v = bv (cdec (a = b)) ∧ H' = H := (rsame_c ha hb H).mono fun v H' h => ⟨cdec_of h.1, h.2⟩
theorem IfaceGoods_c {f : Fc} (hf : FIn f) (s : ByteArray) (hn : s.size ≤ 140737488355328) (H : List ABlk) : ACalls Try.prog 3 [f.av, sv s] H fun v H' => v = bv true ∧ H' = H := by
  refine ACalls.into Try.func3 cc3 rr3 fun hcl => ?_
  have out : ∀ {b : Bool} {l : List ABlk}, b = true → Ret r3 H.length (fun v H' => v = bv true ∧ H' = H) (some (bv b)) (H ++ l) := fun {b l} h =>
    Ret.drop _ H (Nat.le_refl _) hcl (.rfl _) (by simp [refs]) ⟨by rw [h], rfl⟩
  simp (maxSteps := 2000000) (disch := omega) only [Try.ntmps3, c3, r3, Fc.cs, method_specs_simp, seval, eq_self, if_true, if_false, reduceCtorEq]
  refine Cont.rel (large16_c hf _) ?_
  rintro v H' ⟨⟨B, rfl, hB⟩, rfl⟩
  cases hBv : B with
  | true =>
    simp (maxSteps := 2000000) (disch := omega) only [method_specs_simp, seval, eq_self, if_true, if_false, reduceCtorEq]
    refine Cont.mk (wakes16_c _) ?_
    simp (maxSteps := 2000000) (disch := omega) only [method_specs_simp, seval, eq_self, if_true, if_false, reduceCtorEq]
    exact out rfl
  | false =>
    have hL := hB.1 hBv
    obtain ⟨hs, hu, ho⟩ := hL.sm
    by_cases h2 : 500 < s.size
    · simp (maxSteps := 2000000) (disch := omega) only [method_specs_simp, seval, eq_self, if_true, if_false, reduceCtorEq]
      refine Cont.mk (wakes16_c _) ?_
      simp (maxSteps := 2000000) (disch := omega) only [method_specs_simp, seval, eq_self, if_true, if_false, reduceCtorEq]
      exact out rfl
    simp (maxSteps := 2000000) (disch := omega) only [method_specs_simp, seval, eq_self, if_true, if_false, reduceCtorEq]
    refine Cont.mk (copy16_c hs hu ho _) ?_
    simp (maxSteps := 2000000) (disch := omega) only [Fc.cs, method_specs_simp, seval, eq_self, if_true, if_false, reduceCtorEq]
    refine Cont.mk (copy16_c hs hu ho _) ?_
    simp (maxSteps := 2000000) (disch := omega) only [Fc.cs, method_specs_simp, seval, eq_self, if_true, if_false, reduceCtorEq]
    refine Cont.rel (find_c ho s _) ?_
    rintro v H' ⟨⟨x, b, rfl, hx⟩, rfl⟩
    simp (maxSteps := 2000000) (disch := omega) only [Ob.cs, method_specs_simp, seval, eq_self, if_true, if_false, reduceCtorEq]
    refine Cont.rel (rfind_c ho s _) ?_
    rintro v H' ⟨⟨y, c, rfl, hy⟩, rfl⟩
    obtain ⟨rfl, rfl⟩ := hx.det hy
    simp (maxSteps := 2000000) (disch := omega) only [Ob.cs, method_specs_simp, seval, eq_self, if_true, if_false, reduceCtorEq]
    refine W.pchain follows (by decide +kernel) ?_
    simp (maxSteps := 2000000) (disch := omega) only [Ob.cs, Fc.cs, method_specs_simp, seval, eq_self, if_true, if_false, reduceCtorEq]
    refine PCont.mk (igood16_c hf hs _) ?_
    simp (maxSteps := 2000000) (disch := omega) only [Ob.cs, Fc.cs, method_specs_simp, seval, eq_self, if_true, if_false, reduceCtorEq]
    refine PCont.mk (rgood16_c hf hs _) ?_
    have hso := fun H => rsobj_c x x H
    have hsa : ∀ H, ACalls Try.prog 22 [f.av, f.av] H fun v H' => v = bv true ∧ H' = H := fun H => (rsame_d hf hf H).mono fun v H' e => by rw [cdec_t rfl] at e; exact e
    simp only [dcT (rfl : x = x)] at hso
    clear hx hy hB hBv
    generalize cdec (FaceP f) = B
    cases B <;> cases b <;> (
      simp (maxSteps := 2000000) (disch := omega) only [Ob.cs, Fc.cs, method_specs_simp, seval, eq_self, if_true, if_false, reduceCtorEq]
      refine PCont.mk (hso _) ?_
      simp (maxSteps := 2000000) (disch := omega) only [Ob.cs, Fc.cs, method_specs_simp, seval, eq_self, if_true, if_false, reduceCtorEq]
      refine PCont.mk (hsa _) ?_
      simp (maxSteps := 2000000) (disch := omega) only [Ob.cs, Fc.cs, method_specs_simp, seval, eq_self, if_true, if_false, reduceCtorEq]
      refine PCont.mk (wakes16_c _) ?_
      simp (maxSteps := 2000000) (disch := omega) only [method_specs_simp, seval, eq_self, if_true, if_false, reduceCtorEq]
      exact out rfl)
end Go.Proofs.Ythifjndenhjobaa
