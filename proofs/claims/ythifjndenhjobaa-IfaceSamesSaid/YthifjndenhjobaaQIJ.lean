/- Interfaces alike: the program. Printed by genII.py. -/
import Derived.Test.YthifjndenhjobaaQIH
import Derived.Test.YthifjndenhjobaaQIG
namespace Go.Proofs.Ythifjndenhjobaa
set_option linter.unusedSimpArgs false
set_option linter.unusedVariables false
set_option maxRecDepth 20000
set_option maxHeartbeats 4000000
open Go.RowKit

structure FitT (x : Ty) : Prop where
  fl : x.fields.length ≤ 140737488355328
  pl : x.params.length ≤ 140737488355328
  ff : ∀ f ∈ x.fields, FitF f
  fp : ∀ p ∈ x.params, FitP p
theorem same1_c {x y : Ty} (hx : FitT x) (hy : FitT y) (H : List ABlk) : ACalls Try.prog 48 [x.av, y.av] H fun v H' => v = bv (cdec (x = y)) ∧ H' = H := by
  refine ACalls.into Try.func48 cc48 rr48 fun hcl => ?_
  have fin : ∀ {B : Bool} {l : List ABlk}, (B = true ↔ x = y) → Ret [RC.t 4] H.length (fun v H' => v = bv (cdec (x = y)) ∧ H' = H) (some (bv B)) (H ++ l) := fun {B l} h =>
    Ret.drop _ H (Nat.le_refl _) hcl (.rfl _) (by simp [refs]) ⟨cdec_of ⟨B, rfl, h⟩, rfl⟩
  have no : ∀ {l : List ABlk}, x ≠ y → Ret [RC.t 4] H.length (fun v H' => v = bv (cdec (x = y)) ∧ H' = H) (some (bv false)) (H ++ l) := fun h => fin ⟨fun h' => (by cases h'), fun h' => absurd h' h⟩
  by_cases h0 : x.form = y.form
  rotate_left
  · simp (maxSteps := 2000000) (disch := omega) only [Try.ntmps48, c48, r48, Ty.cs, method_specs_simp, seval, eq_self, if_true, if_false, reduceCtorEq]
    exact no fun h => h0 (by rw [h])
  cases h1 : decide (x.mod = y.mod)
  · simp (maxSteps := 2000000) (disch := omega) only [Try.ntmps48, c48, r48, Ty.cs, h1, method_specs_simp, seval, eq_self, if_true, if_false, reduceCtorEq]
    exact no fun h => of_decide_eq_false h1 (by rw [h])
  cases h2 : decide (x.name = y.name)
  · simp (maxSteps := 2000000) (disch := omega) only [Try.ntmps48, c48, r48, Ty.cs, h1, h2, method_specs_simp, seval, eq_self, if_true, if_false, reduceCtorEq]
    exact no fun h => of_decide_eq_false h2 (by rw [h])
  by_cases h3 : x.len = y.len
  rotate_left
  · simp (maxSteps := 2000000) (disch := omega) only [Try.ntmps48, c48, r48, Ty.cs, h1, h2, method_specs_simp, seval, eq_self, if_true, if_false, reduceCtorEq]
    exact no fun h => h3 (by rw [h])
  by_cases h4 : x.elem = y.elem
  rotate_left
  · simp (maxSteps := 2000000) (disch := omega) only [Try.ntmps48, c48, r48, Ty.cs, h1, h2, method_specs_simp, seval, eq_self, if_true, if_false, reduceCtorEq]
    exact no fun h => h4 (by rw [h])
  by_cases h5 : x.base = y.base
  rotate_left
  · simp (maxSteps := 2000000) (disch := omega) only [Try.ntmps48, c48, r48, Ty.cs, h1, h2, method_specs_simp, seval, eq_self, if_true, if_false, reduceCtorEq]
    exact no fun h => h5 (by rw [h])
  by_cases h6 : x.result = y.result
  rotate_left
  · simp (maxSteps := 2000000) (disch := omega) only [Try.ntmps48, c48, r48, Ty.cs, h1, h2, method_specs_simp, seval, eq_self, if_true, if_false, reduceCtorEq]
    exact no fun h => h6 (by rw [h])
  by_cases h7 : x.desc = y.desc
  rotate_left
  · simp (maxSteps := 2000000) (disch := omega) only [Try.ntmps48, c48, r48, Ty.cs, h1, h2, method_specs_simp, seval, eq_self, if_true, if_false, reduceCtorEq]
    exact no fun h => h7 (by rw [h])
  simp (maxSteps := 2000000) (disch := omega) only [Try.ntmps48, c48, r48, Ty.cs, h1, h2, method_specs_simp, seval, eq_self, if_true, if_false, reduceCtorEq]
  refine Cont.mk (equalF_c hx.fl hy.fl hx.ff hy.ff _) ?_
  by_cases h8 : x.fields = y.fields
  rotate_left
  · rw [cdec_f h8]
    simp (maxSteps := 2000000) (disch := omega) only [method_specs_simp, seval, eq_self, if_true, if_false, reduceCtorEq]
    exact no fun h => h8 (by rw [h])
  rw [cdec_t h8]
  simp (maxSteps := 2000000) (disch := omega) only [method_specs_simp, seval, eq_self, if_true, if_false, reduceCtorEq]
  refine Cont.mk (equalP_c hx.pl hy.pl hx.fp hy.fp _) ?_
  by_cases h9 : x.params = y.params
  rotate_left
  · rw [cdec_f h9]
    simp (maxSteps := 2000000) (disch := omega) only [method_specs_simp, seval, eq_self, if_true, if_false, reduceCtorEq]
    exact no fun h => h9 (by rw [h])
  rw [cdec_t h9]
  simp (maxSteps := 2000000) (disch := omega) only [method_specs_simp, seval, eq_self, if_true, if_false, reduceCtorEq]
  refine fin ⟨fun _ => ?_, fun _ => rfl⟩
  have h1 := of_decide_eq_true h1
  have h2 := of_decide_eq_true h2
  obtain ⟨x0, x1, x2, x3, x4, x5, x6, x7, x8, x9⟩ := x
  obtain ⟨y0, y1, y2, y3, y4, y5, y6, y7, y8, y9⟩ := y
  simp only at h0 h1 h2 h3 h4 h5 h6 h7 h8 h9
  rw [h0, h1, h2, h3, h4, h5, h6, h7, h8, h9]
theorem equalT_c {a b : List Ty} (la : a.length ≤ 140737488355328) (lb : b.length ≤ 140737488355328) (ha : ∀ x ∈ a, FitT x) (hb : ∀ x ∈ b, FitT x) (H : List ABlk) : ACalls Try.prog 47 [tv a, tv b, .fn 48 []] H fun v H' => v = bv (cdec (a = b)) ∧ H' = H := by
  refine ACalls.into Try.func47 cc47 rr47 fun hcl => ?_
  have fin : ∀ {B : Bool} {l : List ABlk}, (B = true ↔ a = b) → Ret [RC.t 6] H.length (fun v H' => v = bv (cdec (a = b)) ∧ H' = H) (some (bv B)) (H ++ l) := fun {B l} h => Ret.drop _ H (Nat.le_refl _) hcl (.rfl _) (by simp [refs]) ⟨cdec_of ⟨B, rfl, h⟩, rfl⟩
  have fin0 : ∀ {B : Bool}, (B = true ↔ a = b) → Ret [RC.t 6] H.length (fun v H' => v = bv (cdec (a = b)) ∧ H' = H) (some (bv B)) H := fun {B} h => Ret.keep ⟨cdec_of ⟨B, rfl, h⟩, rfl⟩
  by_cases hl : a.length = b.length
  rotate_left
  · simp (maxSteps := 2000000) (disch := omega) only [Try.ntmps47, c47, r47, List.length_map, method_specs_simp, seval, eq_self, if_true, if_false, reduceCtorEq]
    exact fin0 ⟨fun h' => (by cases h'), fun h => absurd (by rw [h]) hl⟩
  simp (maxSteps := 2000000) (disch := omega) only [Try.ntmps47, c47, r47, List.length_map, method_specs_simp, seval, eq_self, if_true, if_false, reduceCtorEq]
  obtain ⟨S, hS⟩ : ∃ S : Nat → List AV, ∀ i, S i = [.any, tv b, .fn 48 [], .any, .any, .any, bv false, .any, .any, .any, .any, .any, .any, .any, .any, tv a, iv a.length, iv i] ++ List.replicate 14 .any := ⟨_, fun _ => rfl⟩
  have hcok : callOk Try.prog 48 = true := by kernel_rfl
  refine W.loopG (γ := Nat) (fun i => a.length - i) S (fun _ => H) (fun i => i ≤ a.length ∧ ∀ j, j < i → a.getD j default = b.getD j default) 0 (Wk.slots (by rw [hS]; exact WkL.tail 18 _ rfl (by simp only [List.take_succ_cons, List.take_zero]; repeat' first | exact WkL.nil | refine WkL.cons (Wk1.rfl _) ?_ | refine WkL.cons Wk1.esl ?_ | refine WkL.cons (Wk1.gsl _ _ _) ?_ | refine WkL.cons (Wk1.any _) ?_))) ⟨by omega, fun j hj => by omega⟩ (fun i hi => ?_)
  obtain ⟨q1, q2⟩ := hi
  simp (maxSteps := 2000000) (disch := omega) only [c47l0, hS, List.length_map, method_specs_simp, seval, eq_self, if_true, if_false, reduceCtorEq]
  refine Br.dec (fun hc => ?_) (fun hc => ?_) <;> simp (maxSteps := 2000000) (disch := omega) only [method_specs_simp, seval, eq_self, if_true, if_false, reduceCtorEq]
  · have gai : iaA (tv a) (i : Int) 10 = some (.ip (a.getD i default).c) := iaA_ty (t := a) (a := i) (by omega) (by omega)
    have gbi : iaA (tv b) (i : Int) 10 = some (.ip (b.getD i default).c) := iaA_ty (t := b) (a := i) (by omega) (by omega)
    have ma : a.getD i default ∈ a := by rw [List.getD_eq_getElem?_getD, List.getElem?_eq_getElem (by omega)]; exact List.getElem_mem _
    have mb : b.getD i default ∈ b := by rw [List.getD_eq_getElem?_getD, List.getElem?_eq_getElem (by omega)]; exact List.getElem_mem _
    have fa := ha _ ma
    have fb := hb _ mb
    generalize hx : a.getD i default = x at *
    generalize hy : b.getD i default = y at *
    simp (maxSteps := 2000000) (disch := omega) only [gai, gbi, Ty.c, method_specs_simp, seval, eq_self, if_true, if_false, reduceCtorEq]
    refine ⟨hcok, Cont.mk (same1_c fa fb _) ?_⟩
    by_cases k1 : x = y
    · rw [cdec_t k1]
      simp (maxSteps := 2000000) (disch := omega) only [method_specs_simp, seval, eq_self, if_true, if_false, reduceCtorEq]
      refine Nxt.mk (i + 1) (by omega) (Wk.drop (by rw [hS]; exact WkL.tail 18 _ rfl (by simp only [List.take_succ_cons, List.take_zero]; repeat' first | exact WkL.nil | refine WkL.cons (Wk1.rfl _) ?_ | refine WkL.cons Wk1.esl ?_ | refine WkL.cons (Wk1.gsl _ _ _) ?_ | refine WkL.cons (Wk1.any _) ?_)) (Nat.le_refl _) hcl (by rw [hS]; simp [refs.refsL, refs])) ⟨by omega, fun j hj => ?_⟩
      rcases Nat.lt_or_ge j i with h' | h'
      · exact q2 j h'
      · rw [show j = i by omega, hx, hy]; exact k1
    · rw [cdec_f k1]
      simp (maxSteps := 2000000) (disch := omega) only [method_specs_simp, seval, eq_self, if_true, if_false, reduceCtorEq]
      exact fin ⟨fun h' => (by cases h'), fun h => absurd (by rw [← hx, ← hy, h]) k1⟩
  · exact fin0 ⟨fun _ => ext_at (d := default) hl fun i hi => q2 i (by omega), fun _ => rfl⟩
/-- What keys of maps, and comparisons, want. -/
structure FFit (f : Fc) : Prop where
  us : ∀ u ∈ f.uses, FitU u
  os : ∀ o ∈ f.objs, FitO o
  ts : ∀ x ∈ f.types, FitT x
theorem same_c {a b : Fc} (ha : FIn a) (hb : FIn b) (ga : FFit a) (gb : FFit b) (H : List ABlk) : ACalls Try.prog 25 [a.av, b.av] H fun v H' => v = bv (cdec (a = b)) ∧ H' = H := by
  refine ACalls.into Try.func25 cc25 rr25 fun hcl => ?_
  have fin : ∀ {B : Bool} {l : List ABlk}, (B = true ↔ a = b) → Ret [RC.t 4] H.length (fun v H' => v = bv (cdec (a = b)) ∧ H' = H) (some (bv B)) (H ++ l) := fun {B l} h =>
    Ret.drop _ H (Nat.le_refl _) hcl (.rfl _) (by simp [refs]) ⟨cdec_of ⟨B, rfl, h⟩, rfl⟩
  have no : ∀ {l : List ABlk}, a ≠ b → Ret [RC.t 4] H.length (fun v H' => v = bv (cdec (a = b)) ∧ H' = H) (some (bv false)) (H ++ l) := fun h => fin ⟨fun h' => (by cases h'), fun h' => absurd h' h⟩
  cases h1 : decide (a.name = b.name)
  · simp (maxSteps := 2000000) (disch := omega) only [Try.ntmps25, c25, r25, Fc.cs, h1, method_specs_simp, seval, eq_self, if_true, if_false, reduceCtorEq]
    exact no fun h => of_decide_eq_false h1 (by rw [h])
  by_cases h2 : a.key = b.key
  rotate_left
  · simp (maxSteps := 2000000) (disch := omega) only [Try.ntmps25, c25, r25, Fc.cs, h1, method_specs_simp, seval, eq_self, if_true, if_false, reduceCtorEq]
    exact no fun h => h2 (by rw [h])
  simp (maxSteps := 2000000) (disch := omega) only [Try.ntmps25, c25, r25, Fc.cs, h1, method_specs_simp, seval, eq_self, if_true, if_false, reduceCtorEq]
  refine Cont.mk (equalU_c ha.us hb.us ga.us gb.us _) ?_
  by_cases h3 : a.uses = b.uses
  rotate_left
  · rw [cdec_f h3]
    simp (maxSteps := 2000000) (disch := omega) only [method_specs_simp, seval, eq_self, if_true, if_false, reduceCtorEq]
    exact no fun h => h3 (by rw [h])
  rw [cdec_t h3]
  simp (maxSteps := 2000000) (disch := omega) only [method_specs_simp, seval, eq_self, if_true, if_false, reduceCtorEq]
  refine Cont.mk (equalO_c ha.os hb.os ga.os gb.os _) ?_
  by_cases h4 : a.objs = b.objs
  rotate_left
  · rw [cdec_f h4]
    simp (maxSteps := 2000000) (disch := omega) only [method_specs_simp, seval, eq_self, if_true, if_false, reduceCtorEq]
    exact no fun h => h4 (by rw [h])
  rw [cdec_t h4]
  simp (maxSteps := 2000000) (disch := omega) only [method_specs_simp, seval, eq_self, if_true, if_false, reduceCtorEq]
  refine Cont.mk (equalT_c ha.ty.1 hb.ty.1 ga.ts gb.ts _) ?_
  by_cases h5 : a.types = b.types
  rotate_left
  · rw [cdec_f h5]
    simp (maxSteps := 2000000) (disch := omega) only [method_specs_simp, seval, eq_self, if_true, if_false, reduceCtorEq]
    exact no fun h => h5 (by rw [h])
  rw [cdec_t h5]
  simp (maxSteps := 2000000) (disch := omega) only [method_specs_simp, seval, eq_self, if_true, if_false, reduceCtorEq]
  exact fin ⟨fun _ => Fc.ext' (of_decide_eq_true h1) h2 h3 h5 h4, fun _ => rfl⟩
end Go.Proofs.Ythifjndenhjobaa

/- IfaceSames. -/
namespace Go.Proofs.Ythifjndenhjobaa
set_option linter.unusedSimpArgs false
set_option linter.unusedVariables false
set_option maxRecDepth 20000
set_option maxHeartbeats 4000000
open Go.RowKit

theorem IfaceSames_c {a b : Fc} (ha : FIn a) (hb : FIn b) (ga : FFit a) (gb : FFit b) (H : List ABlk) : ACalls Try.prog 7 [a.av, b.av] H fun v H' => v = bv true ∧ H' = H := by
  refine ACalls.into Try.func7 cc7 rr7 fun hcl => ?_
  have out : ∀ {b : Bool} {l : List ABlk}, b = true → Ret r7 H.length (fun v H' => v = bv true ∧ H' = H) (some (bv b)) (H ++ l) := fun {b l} h =>
    Ret.drop _ H (Nat.le_refl _) hcl (.rfl _) (by simp [refs]) ⟨by rw [h], rfl⟩
  simp (maxSteps := 2000000) (disch := omega) only [Try.ntmps7, c7, r7, Fc.cs, method_specs_simp, seval, eq_self, if_true, if_false, reduceCtorEq]
  refine Cont.rel (large16_c ha _) ?_
  rintro v H' ⟨⟨B, rfl, hB⟩, rfl⟩
  cases hBv : B with
  | true =>
    simp (maxSteps := 2000000) (disch := omega) only [method_specs_simp, seval, eq_self, if_true, if_false, reduceCtorEq]
    refine Cont.mk (wakes16_c _) ?_
    simp (maxSteps := 2000000) (disch := omega) only [method_specs_simp, seval, eq_self, if_true, if_false, reduceCtorEq]
    exact out rfl
  | false =>
    obtain ⟨hs, hu, ho⟩ := (hB.1 hBv).sm
    simp (maxSteps := 2000000) (disch := omega) only [Fc.cs, method_specs_simp, seval, eq_self, if_true, if_false, reduceCtorEq]
    refine Cont.rel (large16_c hb _) ?_
    rintro v H' ⟨⟨B2, rfl, hB2⟩, rfl⟩
    cases hBv2 : B2 with
    | true =>
      simp (maxSteps := 2000000) (disch := omega) only [method_specs_simp, seval, eq_self, if_true, if_false, reduceCtorEq]
      refine Cont.mk (wakes16_c _) ?_
      simp (maxSteps := 2000000) (disch := omega) only [method_specs_simp, seval, eq_self, if_true, if_false, reduceCtorEq]
      exact out rfl
    | false =>
      obtain ⟨hs2, hu2, ho2⟩ := (hB2.1 hBv2).sm
      have hsa : ∀ H, ACalls Try.prog 25 [a.av, a.av] H fun v H' => v = bv true ∧ H' = H := fun H => (same_c ha ha ga ga H).mono fun v H' e => by rw [cdec_t rfl] at e; exact e
      have hc1 := fun H => copy16_c hs hu ho H
      have hc2 := fun H => copy16_c hs2 hu2 ho2 H
      have h1 := fun H => same_c ha hb ga gb H
      have h2 := fun H => rsame_d ha hb H
      generalize cdec (a = b) = E at *
      simp (maxSteps := 2000000) (disch := omega) only [Fc.cs, method_specs_simp, seval, eq_self, if_true, if_false, reduceCtorEq]
      refine W.pchain follows (by decide +kernel) ?_
      cases E <;> (
        simp (maxSteps := 2000000) (disch := omega) only [Fc.cs, method_specs_simp, seval, eq_self, if_true, if_false, reduceCtorEq]
        refine PCont.mk (hc1 _) ?_
        simp (maxSteps := 2000000) (disch := omega) only [Fc.cs, method_specs_simp, seval, eq_self, if_true, if_false, reduceCtorEq]
        refine PCont.mk (hc2 _) ?_
        simp (maxSteps := 2000000) (disch := omega) only [Fc.cs, method_specs_simp, seval, eq_self, if_true, if_false, reduceCtorEq]
        refine PCont.mk (h1 _) ?_
        simp (maxSteps := 2000000) (disch := omega) only [Fc.cs, method_specs_simp, seval, eq_self, if_true, if_false, reduceCtorEq]
        refine PCont.mk (h2 _) ?_
        simp (maxSteps := 2000000) (disch := omega) only [Fc.cs, method_specs_simp, seval, eq_self, if_true, if_false, reduceCtorEq]
        refine PCont.mk (hc1 _) ?_
        simp (maxSteps := 2000000) (disch := omega) only [Fc.cs, method_specs_simp, seval, eq_self, if_true, if_false, reduceCtorEq]
        refine PCont.mk (hc1 _) ?_
        simp (maxSteps := 2000000) (disch := omega) only [Fc.cs, method_specs_simp, seval, eq_self, if_true, if_false, reduceCtorEq]
        refine PCont.mk (hsa _) ?_
        simp (maxSteps := 2000000) (disch := omega) only [method_specs_simp, seval, eq_self, if_true, if_false, reduceCtorEq]
        refine PCont.mk (wakes16_c _) ?_
        simp (maxSteps := 2000000) (disch := omega) only [method_specs_simp, seval, eq_self, if_true, if_false, reduceCtorEq]
        exact out rfl)
end Go.Proofs.Ythifjndenhjobaa
