/- The reference: is it an interface? -/
import Derived.Test.YthifjndenhjobaaQIC
import Derived.Test.YthifjndenhjobaaQI8
import Derived.Test.YthifjndenhjobaaQT15
namespace Go.Proofs.Ythifjndenhjobaa
set_option linter.unusedSimpArgs false
set_option linter.unusedVariables false
set_option maxRecDepth 20000
set_option maxHeartbeats 4000000
open Go.RowKit

theorem nodup_at {α β : Type} [Inhabited α] (g : α → β) (l : List α) : (l.map g).Nodup ↔ ∀ k j, k < j → j < l.length → g (l.getD k default) ≠ g (l.getD j default) := by
  rw [List.Nodup, List.pairwise_map, List.pairwise_iff_getElem]
  constructor
  · intro h k j hkj hj
    have := h k j (by omega) hj hkj
    rwa [List.getD_eq_getElem?_getD, List.getD_eq_getElem?_getD, List.getElem?_eq_getElem (by omega), List.getElem?_eq_getElem hj]
  · intro h k j hk hj hkj
    have := h k j hkj hj
    rwa [List.getD_eq_getElem?_getD, List.getD_eq_getElem?_getD, List.getElem?_eq_getElem hk, List.getElem?_eq_getElem hj] at this
theorem all_at {α : Type} [Inhabited α] {P : α → Prop} {l : List α} (h : ∀ i, i < l.length → P (l.getD i default)) : ∀ x ∈ l, P x := fun x hx => by
  obtain ⟨i, hi, rfl⟩ := List.getElem_of_mem hx
  have := h i hi
  rwa [List.getD_eq_getElem?_getD, List.getElem?_eq_getElem hi] at this
/-- The names of the types of a good table. -/
theorem nam_iff {f : Fc} (hg : GoodP f.types) : NamP f ↔ (∀ i, i < f.types.length → ModP f (f.types.getD i default).mod) ∧ ∀ i j, i < j → j < f.types.length → ¬ SameN (f.types.getD i default) (f.types.getD j default) := by
  constructor
  · intro h
    refine ⟨fun i hi => ?_, fun i j hij hj hs => ?_⟩
    · rcases Nat.lt_or_ge i 7 with h7 | h7
      · rw [hg.bas i h7]; exact .inl rfl
      · exact h.1 i h7 hi
    · rcases Nat.lt_or_ge i 7 with h7 | h7
      · rw [hg.bas i h7] at hs; exact hs.1 rfl
      · exact h.2 j i h7 hij hj hs.symm
  · intro h
    exact ⟨fun i _ hi => h.1 i hi, fun i k _ hk hi hs => h.2 k i hk hi hs.symm⟩
noncomputable def cdec (p : Prop) : Bool := @decide p (Classical.propDecidable p)
theorem cdec_t {p : Prop} (h : p) : cdec p = true := @decide_eq_true p (Classical.propDecidable p) h
theorem cdec_f {p : Prop} (h : ¬ p) : cdec p = false := @decide_eq_false p (Classical.propDecidable p) h
theorem cdec_of {p : Prop} {v : AV} (h : ∃ B, v = bv B ∧ (B = true ↔ p)) : v = bv (cdec p) := by
  obtain ⟨B, rfl, hB⟩ := h
  by_cases hp : p
  · rw [cdec_t hp, hB.2 hp]
  · rw [cdec_f hp]
    cases B with
    | false => rfl
    | true => exact absurd (hB.1 rfl) hp
structure UseTo (f : Fc) (n : Nat) : Prop where
  nm : ∀ j, j < n → Nm (f.uses.getD j default).name ∧ (f.uses.getD j default).name ≠ f.name
  nd : ∀ k j, k < j → j < n → (f.uses.getD k default).name ≠ (f.uses.getD j default).name
structure ObjTo (f : Fc) (n : Nat) : Prop where
  ob : ∀ j, j < n → ObP f.types (f.objs.getD j default)
  nd : ∀ k j, k < j → j < n → (f.objs.getD k default).name ≠ (f.objs.getD j default).name
theorem ShapeP.use {f : Fc} (h : ShapeP f) : UseTo f f.uses.length := ⟨fun j hj => h.un _ (usAt_mem hj), (nodup_at Us.name _).1 h.ud⟩
theorem ShapeP.obj {f : Fc} (h : ShapeP f) : ObjTo f f.objs.length := ⟨fun j hj => h.ob _ (obAt_mem hj), (nodup_at Ob.name _).1 h.od⟩
abbrev ShR (f : Fc) (H : List ABlk) (v : AV) (H' : List ABlk) : Prop := (∃ B, v = bv B ∧ (B = true ↔ ShapeP f)) ∧ H' = H
theorem shaped_c {f : Fc} (hf : FIn f) (hs : Small f.types) (H : List ABlk) : ACalls Try.prog 36 [f.av] H (ShR f H) := by
  refine ACalls.into Try.func36 cc36 rr36 fun hcl => ?_
  have hus := hf.us
  have hos := hf.os
  have fin : ∀ {B : Bool} {l : List ABlk}, (B = true ↔ ShapeP f) → Ret [RC.t 2] H.length (ShR f H) (some (bv B)) (H ++ l) := fun {B l} h =>
    Ret.drop _ H (Nat.le_refl _) hcl (.rfl _) (by simp [refs]) ⟨⟨B, rfl, h⟩, rfl⟩
  have no : ∀ {l : List ABlk}, ¬ ShapeP f → Ret [RC.t 2] H.length (ShR f H) (some (bv false)) (H ++ l) := fun h => fin ⟨fun h' => (by cases h'), fun h' => absurd h' h⟩
  by_cases h1 : Nm f.name
  rotate_left
  · simp (maxSteps := 2000000) (disch := omega) only [Try.ntmps36, c36, r36, Fc.cs, method_specs_simp, seval, eq_self, if_true, if_false, reduceCtorEq]
    refine Cont.mk (iword_c _ _) ?_
    rw [nm_f h1]
    simp (maxSteps := 2000000) (disch := omega) only [method_specs_simp, seval, eq_self, if_true, if_false, reduceCtorEq]
    exact no fun h => h1 h.nm
  have h1' := nm_t h1
  by_cases h2 : 16 < f.uses.length
  · simp (maxSteps := 2000000) (disch := omega) only [Try.ntmps36, c36, r36, Fc.cs, method_specs_simp, seval, eq_self, if_true, if_false, reduceCtorEq]
    refine Cont.mk (iword_c _ _) ?_
    rw [h1']
    simp (maxSteps := 2000000) (disch := omega) only [List.length_map, method_specs_simp, seval, eq_self, if_true, if_false, reduceCtorEq]
    exact no fun h => by have := h.us; omega
  by_cases h3 : 64 < f.objs.length
  · simp (maxSteps := 2000000) (disch := omega) only [Try.ntmps36, c36, r36, Fc.cs, method_specs_simp, seval, eq_self, if_true, if_false, reduceCtorEq]
    refine Cont.mk (iword_c _ _) ?_
    rw [h1']
    simp (maxSteps := 2000000) (disch := omega) only [List.length_map, method_specs_simp, seval, eq_self, if_true, if_false, reduceCtorEq]
    exact no fun h => by have := h.os; omega
  simp (maxSteps := 2000000) (disch := omega) only [Try.ntmps36, c36, r36, Fc.cs, method_specs_simp, seval, eq_self, if_true, if_false, reduceCtorEq]
  refine Cont.mk (iword_c _ _) ?_
  rw [h1']
  simp (maxSteps := 2000000) (disch := omega) only [List.length_map, method_specs_simp, seval, eq_self, if_true, if_false, reduceCtorEq]
  refine Cont.mk (rgood_c hs hf.fn hf.ty _) ?_
  by_cases hg : GoodP f.types
  rotate_left
  · rw [good_f hg]
    simp (maxSteps := 2000000) (disch := omega) only [method_specs_simp, seval, eq_self, if_true, if_false, reduceCtorEq]
    exact no fun h => hg h.ty
  rw [good_t hg]
  simp (maxSteps := 2000000) (disch := omega) only [method_specs_simp, seval, eq_self, if_true, if_false, reduceCtorEq]
  refine Cont.rel (named16_c hf _) ?_
  rintro v H' ⟨⟨B, rfl, hB⟩, rfl⟩
  cases hBv : B with
  | false =>
    simp (maxSteps := 2000000) (disch := omega) only [method_specs_simp, seval, eq_self, if_true, if_false, reduceCtorEq]
    exact no fun h => by have := hB.2 ((nam_iff hg).2 ⟨h.md, h.nn⟩); rw [hBv] at this; cases this
  | true =>
    have hN := (nam_iff hg).1 (hB.1 hBv)
    simp (maxSteps := 2000000) (disch := omega) only [method_specs_simp, seval, eq_self, if_true, if_false, reduceCtorEq]
    have gu : ∀ i : Nat, i < f.uses.length → iaA (.d (.sl (f.uses.map Us.c))) (i : Int) 2 = some (.ip (f.uses.getD i default).c) := fun i hi => iaA_us (t := f.uses) (a := i) (by omega) (by omega)
    have go : ∀ i : Nat, i < f.objs.length → iaA (.d (.sl (f.objs.map Ob.c))) (i : Int) 7 = some (.ip (f.objs.getD i default).c) := fun i hi => iaA_ob (t := f.objs) (a := i) (by omega) (by omega)
    obtain ⟨S, hS⟩ : ∃ S : Nat → List AV, ∀ i, S i = [.any, .ptr H.length 0, bv false, iv i] ++ List.replicate 107 .any := ⟨_, fun _ => rfl⟩
    refine W.loopG (γ := Nat) (fun i => f.uses.length - i) S (fun _ => H ++ [.cells f.cs]) (fun i => i ≤ f.uses.length ∧ UseTo f i) 0 (Wk.slots (by rw [hS]; exact WkL.tail 4 _ rfl (by simp only [List.take_succ_cons, List.take_zero]; repeat' first | exact WkL.nil | refine WkL.cons (Wk1.rfl _) ?_ | refine WkL.cons Wk1.esl ?_ | refine WkL.cons (Wk1.gsl _ _ _) ?_ | refine WkL.cons (Wk1.any _) ?_))) ⟨by omega, ⟨fun j hj => by omega, fun k j hk hj => by omega⟩⟩ (fun i hi => ?_)
    obtain ⟨q1, q2⟩ := hi
    simp (maxSteps := 2000000) (disch := omega) only [c36l3, hS, Fc.cs, List.length_map, method_specs_simp, seval, eq_self, if_true, if_false, reduceCtorEq]
    refine Br.dec (fun hc => ?_) (fun hc => ?_) <;> simp (maxSteps := 2000000) (disch := omega) only [method_specs_simp, seval, eq_self, if_true, if_false, reduceCtorEq]
    · refine W.pchain follows (by decide +kernel) ?_
      have gi := gu i (by omega)
      generalize hx : f.uses.getD i default = x at *
      simp (maxSteps := 2000000) (disch := omega) only [gi, Us.c, method_specs_simp, seval, eq_self, if_true, if_false, reduceCtorEq]
      refine PCont.mk (iword_c _ _) ?_
      by_cases b1 : Nm x.name
      rotate_left
      · rw [nm_f b1]
        simp (maxSteps := 2000000) (disch := omega) only [method_specs_simp, seval, eq_self, if_true, if_false, reduceCtorEq]
        exact no fun h => b1 (by have := (h.use.nm i (by omega)).1; rwa [hx] at this)
      rw [nm_t b1]
      cases b2 : decide (x.name = f.name) with
      | true =>
        simp (maxSteps := 2000000) (disch := omega) only [gi, Us.c, b2, method_specs_simp, seval, eq_self, if_true, if_false, reduceCtorEq]
        exact no fun h => by have := (h.use.nm i (by omega)).2; rw [hx] at this; exact this (of_decide_eq_true b2)
      | false =>
        simp (maxSteps := 2000000) (disch := omega) only [gi, Us.c, b2, method_specs_simp, seval, eq_self, if_true, if_false, reduceCtorEq]
        obtain ⟨S2, hS2⟩ : ∃ S : Nat → List AV, ∀ k, S k = [.any, .ptr H.length 0, bv false, iv i, iv k] ++ List.replicate 106 .any := ⟨_, fun _ => rfl⟩
        refine W.loopG (γ := Nat) (fun k => i - k) S2 (fun _ => H ++ [.cells f.cs]) (fun k => k ≤ i ∧ ∀ j, j < k → (f.uses.getD j default).name ≠ x.name) 0 (Wk.slots (by rw [hS2]; exact WkL.tail 5 _ rfl (by simp only [List.take_succ_cons, List.take_zero]; repeat' first | exact WkL.nil | refine WkL.cons (Wk1.rfl _) ?_ | refine WkL.cons Wk1.esl ?_ | refine WkL.cons (Wk1.gsl _ _ _) ?_ | refine WkL.cons (Wk1.any _) ?_))) ⟨by omega, fun j hj => by omega⟩ (fun k hk => ?_)
        obtain ⟨y1, y2⟩ := hk
        simp (maxSteps := 2000000) (disch := omega) only [c36l2, hS2, Fc.cs, List.length_map, method_specs_simp, seval, eq_self, if_true, if_false, reduceCtorEq]
        refine Br.dec (fun hc2 => ?_) (fun hc2 => ?_) <;> simp (maxSteps := 2000000) (disch := omega) only [method_specs_simp, seval, eq_self, if_true, if_false, reduceCtorEq]
        · refine W.pchain follows (by decide +kernel) ?_
          have gk := gu k (by omega)
          generalize hy : f.uses.getD k default = y at *
          cases b3 : decide (y.name = x.name) with
          | true =>
            simp (maxSteps := 2000000) (disch := omega) only [gi, gk, Us.c, b3, method_specs_simp, seval, eq_self, if_true, if_false, reduceCtorEq]
            exact no fun h => h.use.nd k i (by omega) (by omega) (by rw [hx, hy]; exact of_decide_eq_true b3)
          | false =>
            simp (maxSteps := 2000000) (disch := omega) only [gi, gk, Us.c, b3, method_specs_simp, seval, eq_self, if_true, if_false, reduceCtorEq]
            refine Nxt.mk (k + 1) (by omega) (Wk.slots (by rw [hS2]; exact WkL.tail 5 _ rfl (by simp only [List.take_succ_cons, List.take_zero]; repeat' first | exact WkL.nil | refine WkL.cons (Wk1.rfl _) ?_ | refine WkL.cons Wk1.esl ?_ | refine WkL.cons (Wk1.gsl _ _ _) ?_ | refine WkL.cons (Wk1.any _) ?_))) ⟨by omega, fun j hj => ?_⟩
            rcases Nat.lt_or_ge j k with h' | h'
            · exact y2 j h'
            · rw [show j = k by omega, hy]; exact of_decide_eq_false b3
        · refine Nxt.mk (i + 1) (by omega) (Wk.slots (by rw [hS]; exact WkL.tail 4 _ rfl (by simp only [List.take_succ_cons, List.take_zero]; repeat' first | exact WkL.nil | refine WkL.cons (Wk1.rfl _) ?_ | refine WkL.cons Wk1.esl ?_ | refine WkL.cons (Wk1.gsl _ _ _) ?_ | refine WkL.cons (Wk1.any _) ?_))) ⟨by omega, ⟨fun j hj => ?_, fun k2 j hk2 hj => ?_⟩⟩
          · rcases Nat.lt_or_ge j i with h' | h'
            · exact q2.nm j h'
            · rw [show j = i by omega, hx]; exact ⟨b1, of_decide_eq_false b2⟩
          · rcases Nat.lt_or_ge j i with h' | h'
            · exact q2.nd k2 j hk2 h'
            · rw [show j = i by omega, hx]; exact y2 k2 (by omega)
    · have qU := q2
      rw [show i = f.uses.length by omega] at qU
      clear q1 q2 hc hS S
      obtain ⟨S, hS⟩ : ∃ S : Nat → List AV, ∀ i, S i = [.any, .ptr H.length 0, bv false, .any, .any, iv i] ++ List.replicate 105 .any := ⟨_, fun _ => rfl⟩
      refine W.loopG (γ := Nat) (fun i => f.objs.length - i) S (fun _ => H ++ [.cells f.cs]) (fun i => i ≤ f.objs.length ∧ ObjTo f i) 0 (Wk.slots (by rw [hS]; exact WkL.tail 6 _ rfl (by simp only [List.take_succ_cons, List.take_zero]; repeat' first | exact WkL.nil | refine WkL.cons (Wk1.rfl _) ?_ | refine WkL.cons Wk1.esl ?_ | refine WkL.cons (Wk1.gsl _ _ _) ?_ | refine WkL.cons (Wk1.any _) ?_))) ⟨by omega, ⟨fun j hj => by omega, fun k j hk hj => by omega⟩⟩ (fun i hi => ?_)
      obtain ⟨q1, q2⟩ := hi
      simp (maxSteps := 2000000) (disch := omega) only [c36l1, hS, Fc.cs, List.length_map, method_specs_simp, seval, eq_self, if_true, if_false, reduceCtorEq]
      refine Br.dec (fun hc => ?_) (fun hc => ?_) <;> simp (maxSteps := 2000000) (disch := omega) only [method_specs_simp, seval, eq_self, if_true, if_false, reduceCtorEq]
      · refine W.pchain follows (by decide +kernel) ?_
        have gi := go i (by omega)
        have hin := hf.ob _ (obAt_mem (l := f.objs) (i := i) (by omega))
        generalize hx : f.objs.getD i default = x at *
        simp (maxSteps := 2000000) (disch := omega) only [gi, Ob.c, method_specs_simp, seval, eq_self, if_true, if_false, reduceCtorEq]
        refine PCont.mk ((robject_c (f := f) (o := x) (by have := hs.1; omega) hin.2.2.1 _).mono fun v H' h => ⟨cdec_of h.1, h.2⟩) ?_
        by_cases b1 : ObP f.types x
        rotate_left
        · rw [cdec_f b1]
          simp (maxSteps := 2000000) (disch := omega) only [method_specs_simp, seval, eq_self, if_true, if_false, reduceCtorEq]
          exact no fun h => b1 (by have := h.obj.ob i (by omega); rwa [hx] at this)
        rw [cdec_t b1]
        simp (maxSteps := 2000000) (disch := omega) only [method_specs_simp, seval, eq_self, if_true, if_false, reduceCtorEq]
        obtain ⟨S2, hS2⟩ : ∃ S : Nat → List AV, ∀ k, S k = [.any, .ptr H.length 0, bv false, .any, .any, iv i, iv k] ++ List.replicate 104 .any := ⟨_, fun _ => rfl⟩
        refine W.loopG (γ := Nat) (fun k => i - k) S2 (fun _ => H ++ [.cells f.cs]) (fun k => k ≤ i ∧ ∀ j, j < k → (f.objs.getD j default).name ≠ x.name) 0 (Wk.slots (by rw [hS2]; exact WkL.tail 7 _ rfl (by simp only [List.take_succ_cons, List.take_zero]; repeat' first | exact WkL.nil | refine WkL.cons (Wk1.rfl _) ?_ | refine WkL.cons Wk1.esl ?_ | refine WkL.cons (Wk1.gsl _ _ _) ?_ | refine WkL.cons (Wk1.any _) ?_))) ⟨by omega, fun j hj => by omega⟩ (fun k hk => ?_)
        obtain ⟨y1, y2⟩ := hk
        simp (maxSteps := 2000000) (disch := omega) only [c36l0, hS2, Fc.cs, List.length_map, method_specs_simp, seval, eq_self, if_true, if_false, reduceCtorEq]
        refine Br.dec (fun hc2 => ?_) (fun hc2 => ?_) <;> simp (maxSteps := 2000000) (disch := omega) only [method_specs_simp, seval, eq_self, if_true, if_false, reduceCtorEq]
        · refine W.pchain follows (by decide +kernel) ?_
          have gk := go k (by omega)
          generalize hy : f.objs.getD k default = y at *
          cases b3 : decide (y.name = x.name) with
          | true =>
            simp (maxSteps := 2000000) (disch := omega) only [gi, gk, Ob.c, b3, method_specs_simp, seval, eq_self, if_true, if_false, reduceCtorEq]
            exact no fun h => h.obj.nd k i (by omega) (by omega) (by rw [hx, hy]; exact of_decide_eq_true b3)
          | false =>
            simp (maxSteps := 2000000) (disch := omega) only [gi, gk, Ob.c, b3, method_specs_simp, seval, eq_self, if_true, if_false, reduceCtorEq]
            refine Nxt.mk (k + 1) (by omega) (Wk.slots (by rw [hS2]; exact WkL.tail 7 _ rfl (by simp only [List.take_succ_cons, List.take_zero]; repeat' first | exact WkL.nil | refine WkL.cons (Wk1.rfl _) ?_ | refine WkL.cons Wk1.esl ?_ | refine WkL.cons (Wk1.gsl _ _ _) ?_ | refine WkL.cons (Wk1.any _) ?_))) ⟨by omega, fun j hj => ?_⟩
            rcases Nat.lt_or_ge j k with h' | h'
            · exact y2 j h'
            · rw [show j = k by omega, hy]; exact of_decide_eq_false b3
        · refine Nxt.mk (i + 1) (by omega) (Wk.slots (by rw [hS]; exact WkL.tail 6 _ rfl (by simp only [List.take_succ_cons, List.take_zero]; repeat' first | exact WkL.nil | refine WkL.cons (Wk1.rfl _) ?_ | refine WkL.cons Wk1.esl ?_ | refine WkL.cons (Wk1.gsl _ _ _) ?_ | refine WkL.cons (Wk1.any _) ?_))) ⟨by omega, ⟨fun j hj => ?_, fun k2 j hk2 hj => ?_⟩⟩
          · rcases Nat.lt_or_ge j i with h' | h'
            · exact q2.ob j h'
            · rw [show j = i by omega, hx]; exact b1
          · rcases Nat.lt_or_ge j i with h' | h'
            · exact q2.nd k2 j hk2 h'
            · rw [show j = i by omega, hx]; exact y2 k2 (by omega)
      · rw [show i = f.objs.length by omega] at q2
        exact fin ⟨fun _ => ⟨h1, by omega, by omega, hg, hN.1, hN.2, all_at qU.nm, (nodup_at _ _).2 qU.nd, all_at q2.ob, (nodup_at _ _).2 q2.nd⟩, fun _ => rfl⟩
theorem rgood16_c {f : Fc} (hf : FIn f) (hs : Small f.types) (H : List ABlk) : ACalls Try.prog 20 [f.av] H fun v H' => v = bv (cdec (FaceP f)) ∧ H' = H := by
  refine ACalls.into Try.func20 cc20 rr20 fun hcl => ?_
  have fin : ∀ {B : Bool} {l : List ABlk}, (B = true ↔ FaceP f) → Ret [RC.t 2] H.length (fun v H' => v = bv (cdec (FaceP f)) ∧ H' = H) (some (bv B)) (H ++ l) := fun {B l} h =>
    Ret.drop _ H (Nat.le_refl _) hcl (.rfl _) (by simp [refs]) ⟨cdec_of ⟨B, rfl, h⟩, rfl⟩
  simp (maxSteps := 2000000) (disch := omega) only [Try.ntmps20, c20, r20, Fc.cs, method_specs_simp, seval, eq_self, if_true, if_false, reduceCtorEq]
  refine Cont.rel (shaped_c hf hs _) ?_
  rintro v H' ⟨⟨B, rfl, hB⟩, rfl⟩
  cases hBv : B with
  | false =>
    simp (maxSteps := 2000000) (disch := omega) only [method_specs_simp, seval, eq_self, if_true, if_false, reduceCtorEq]
    exact fin ⟨fun h => (by cases h), fun h => by have := hB.2 h.toShapeP; rw [hBv] at this; cases this⟩
  | true =>
    have hsh := hB.1 hBv
    simp (maxSteps := 2000000) (disch := omega) only [method_specs_simp, seval, eq_self, if_true, if_false, reduceCtorEq]
    refine Cont.rel (numbered_c hf hsh.ty _) ?_
    rintro v H' ⟨⟨B2, rfl, hB2⟩, rfl⟩
    simp (maxSteps := 2000000) (disch := omega) only [method_specs_simp, seval, eq_self, if_true, if_false, reduceCtorEq]
    exact fin (hB2.trans ⟨fun h => ⟨hsh, h⟩, fun h => h.num⟩)
end Go.Proofs.Ythifjndenhjobaa
