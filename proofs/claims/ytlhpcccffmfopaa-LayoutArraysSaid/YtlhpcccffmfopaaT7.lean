/- tables.formed: has a type what its form has, and nothing else? -/
import Derived.Test.YtlhpcccffmfopaaT6
namespace Go.Proofs.Ytlhpcccffmfopaa
set_option linter.unusedSectionVars false
set_option linter.unusedSimpArgs false
set_option linter.unusedVariables false
set_option maxRecDepth 20000
set_option maxHeartbeats 4000000
open Go.RowKit

def okP (t : List Ty) (x : Ty) : Prop :=
  (x.form = 7 ∧ 1 ≤ x.len ∧ x.len ≤ 4096 ∧ partP (formA t x.elem)) ∨
  (x.form = 8 ∧ (partP (formA t x.elem) ∨ formA t x.elem = 8)) ∨
  (x.form = 9 ∧ (x.base = 0 ∨ formA t x.base = 9) ∧ x.fields.length ≤ 64 ∧ -1 ≤ x.desc ∧ x.desc < 64 ∧ ∀ f ∈ x.fields, Nm f.name ∧ partP (formA t f.typ)) ∨
  (x.form = 10 ∧ formA t x.elem = 9) ∨
  (x.form = 11 ∧ x.params.length ≤ 64 ∧ (x.result = 0 ∨ plainP (formA t x.result)) ∧ ∀ p ∈ x.params, partP (formA t p.typ) ∨ formA t p.typ = 8)
def want (x : Ty) : Ty :=
  { form := x.form, mod := se, name := se, len := if x.form = 7 then x.len else 0, elem := if x.form = 7 ∨ x.form = 8 ∨ x.form = 10 then x.elem else 0, base := if x.form = 9 then x.base else 0,
    fields := if x.form = 9 then x.fields else [], params := if x.form = 11 then x.params else [], result := if x.form = 11 then x.result else 0, desc := if x.form = 9 then x.desc else 0 }
def namedP (x : Ty) : Prop := (x.mod = se ∧ x.name = se ∧ x.form ≠ 9) ∨ (Nm x.mod ∧ (Nm x.name ∨ (x.name = se ∧ x.form = 9)))
def likeW (x : Ty) : Prop := x.desc = (want x).desc ∧ x.len = (want x).len ∧ x.elem = (want x).elem ∧ x.base = (want x).base ∧ x.result = (want x).result ∧ x.fields.length = (want x).fields.length ∧ x.params.length = (want x).params.length
def FormedP (t : List Ty) (x : Ty) : Prop := okP t x ∧ namedP x ∧ likeW x
theorem not_Nm_se : ¬ Nm se := fun h => by have := h.1; rw [size_nil] at this; omega
abbrev hbx (t : List Ty) (x : Ty) (L E Bs : Int) (wf wp : AV) (R D : Int) : List ABlk := [.cells [tv t], .cells x.cs, .cells [iv x.form, sv se, sv se, iv L, iv E, iv Bs, wf, wp, iv R, iv D]]
abbrev SF (H : List ABlk) (B : Bool) : List AV := [.any, .any, .any, .ptr (H.length + 1) 0, bv false, .any, .ptr (H.length + 2) 0, bv B]
/-- The end: compared with what is wanted. -/
def FormedR (t : List Ty) (x : Ty) (H : List ABlk) (v : AV) (H' : List ABlk) : Prop := (∃ B, v = bv B ∧ (B = true ↔ FormedP t x)) ∧ H' = H
section
variable {t : List Ty} {x w : Ty} {H : List ABlk}
theorem hb_0 (H : List ABlk) (a b c : ABlk) : (H ++ [a, b, c])[H.length]? = some a := by rw [List.getElem?_append_right (Nat.le_refl _)]; simp
theorem hb_1 (H : List ABlk) (a b c : ABlk) : (H ++ [a, b, c])[H.length + 1]? = some b := by rw [List.getElem?_append_right (by omega)]; simp
theorem hb_2 (H : List ABlk) (a b c : ABlk) : (H ++ [a, b, c])[H.length + 2]? = some c := by rw [List.getElem?_append_right (by omega)]; simp
theorem hb_0' (H : List ABlk) (a b : ABlk) : (H ++ [a, b])[H.length]? = some a := by rw [List.getElem?_append_right (Nat.le_refl _)]; simp
theorem hb_1' (H : List ABlk) (a b : ABlk) : (H ++ [a, b])[H.length + 1]? = some b := by rw [List.getElem?_append_right (by omega)]; simp
theorem hs_2 (H : List ABlk) (a b c d : ABlk) : (H ++ [a, b, c]).set (H.length + 2) d = H ++ [a, b, d] := by rw [List.set_append_right _ _ (by omega)]; simp
theorem hb_2' (H : List ABlk) (a b c d : ABlk) : (H ++ [a, b, c, d])[H.length + 1]? = some b := by rw [List.getElem?_append_right (by omega)]; simp
theorem hb_0'' (H : List ABlk) (a b c d : ABlk) : (H ++ [a, b, c, d])[H.length]? = some a := by rw [List.getElem?_append_right (by omega)]; simp
theorem hb_3 (H : List ABlk) (a b c d : ABlk) : (H ++ [a, b, c, d])[H.length + 3]? = some d := by rw [List.getElem?_append_right (by omega)]; simp
theorem hs_3 (H : List ABlk) (a b c d e : ABlk) : (H ++ [a, b, c, d]).set (H.length + 3) e = H ++ [a, b, c, e] := by rw [List.set_append_right _ _ (by omega)]; simp
end

/-- Behind the switch. -/
def JF (t : List Ty) (x : Ty) (H : List ABlk) (s : List AV) (H' : List ABlk) : Prop :=
  ∃ (B : Bool) (wf wp : AV), (B = true ↔ okP t x) ∧ (lenA wf = some (want x).fields.length ∧ isStr wf = false) ∧ (lenA wp = some (want x).params.length ∧ isStr wp = false) ∧ s = SF H B ++ List.replicate 256 .any ∧
    H' = H ++ hbx t x (want x).len (want x).elem (want x).base wf wp (want x).result (want x).desc
theorem cl3 {H : List ABlk} (h : cl H) {t : List Ty} {x : Ty} {L E Bs : Int} {wf wp : AV} {R D : Int} (h1 : refs wf = []) (h2 : refs wp = []) : cl (H ++ hbx t x L E Bs wf wp R D) := by
  refine h.append fun k hk r hr => ?_
  simp only [List.mem_cons, List.not_mem_nil, or_false] at hk
  rcases hk with rfl | rfl | rfl <;> simp [ABlk.refs, refs.refsL, refs, Ty.cs, h1, h2] at hr
theorem JF.fin {t : List Ty} {x : Ty} {H : List ABlk} {s : List AV} {B : Bool} {L E Bs R D : Int} {wf wp : AV} (hcl : cl H) (hk : WkL s (SF H B ++ List.replicate 256 .any)) (hB : B = true ↔ okP t x) (hw : L = (want x).len ∧ E = (want x).elem ∧ Bs = (want x).base ∧ R = (want x).result ∧ D = (want x).desc)
    (h1 : lenA wf = some (want x).fields.length ∧ isStr wf = false) (h2 : lenA wp = some (want x).params.length ∧ isStr wp = false) (h3 : refs wf = []) (h4 : refs wp = []) : ∃ s0 H0, Wk H.length s (H ++ hbx t x L E Bs wf wp R D) s0 H0 ∧ JF t x H s0 H0 := by
  obtain ⟨rfl, rfl, rfl, rfl, rfl⟩ := hw
  exact ⟨_, _, Wk.slots hk, B, wf, wp, hB, h1, h2, rfl, rfl⟩
/-- The fields, one behind the other. -/
abbrev S9 (H : List ABlk) (l : AV) (n : Nat) (B : Bool) (i : Nat) : List AV := [.any, .any, .ptr H.length 0, .ptr (H.length + 1) 0, bv false, .fn 67 [.ptr H.length 0], .ptr (H.length + 2) 0, bv B] ++ List.replicate 89 .any ++ [l, iv n, iv i]
theorem formed_l1 {t : List Ty} {x : Ty} {H G : List ABlk} {nb : Nat} (ht : t.length ≤ 9000000) (hfl : x.fields.length ≤ 9000000) (hG : G[H.length]? = some (.cells [tv t])) (hHG : H.length + 3 ≤ G.length) (hcl : cl G) (hnb : nb ≤ G.length) (B0 : Bool) :
    W Try.prog (hh 53) nb (.loop c53l1) (S9 H (fdv x.fields) x.fields.length B0 0 ++ List.replicate 164 .any) G
      (fun e s H' => e = .exit 1 ∧ ∃ B : Bool, (B = true ↔ B0 = true ∧ ∀ f ∈ x.fields, Nm f.name ∧ partP (formA t f.typ)) ∧ s = S9 H (fdv x.fields) x.fields.length B x.fields.length ++ bv false :: List.replicate 163 .any ∧ H' = G) := by
  have hck : callOk Try.prog 67 = true := by kernel_rfl
  obtain ⟨S, hS⟩ : ∃ S : Nat × Bool → List AV, ∀ g, S g = S9 H (fdv x.fields) x.fields.length g.2 g.1 ++ List.replicate 164 .any := ⟨_, fun _ => rfl⟩
  refine W.loopG (γ := Nat × Bool) (fun g => x.fields.length - g.1) S (fun _ => G) (fun g => g.1 ≤ x.fields.length ∧ (g.2 = true ↔ B0 = true ∧ ∀ j, j < g.1 → Nm (x.fields.getD j default).name ∧ partP (formA t (x.fields.getD j default).typ))) (0, B0) (by rw [hS]; exact Wk.refl) ⟨Nat.zero_le _, by simp⟩ (fun g hg => ?_)
  obtain ⟨i, B⟩ := g
  obtain ⟨q1, q2⟩ := hg
  simp only at q1 q2
  simp (maxSteps := 2000000) (disch := omega) only [c53l1, hS, List.append_assoc, List.cons_append, List.nil_append, go_sem, eq_self, if_true, if_false, reduceCtorEq, Int.reduceToNat, Int.reducePow, Nat.reducePow, Nat.reduceMul, Int.reduceLT, Int.reduceLE, Nat.reduceAdd, Nat.reduceLeDiff, Nat.reduceBEq, Nat.reduceSub, Int.reduceSub, Int.reduceMul, Int.reduceNeg, Int.reduceAdd]
  refine Br.dec (fun hc => ?_) (fun hc => ?_) <;> simp (maxSteps := 2000000) (disch := omega) only [go_sem, eq_self, if_true, if_false, reduceCtorEq, Int.reduceToNat, Int.reducePow, Nat.reducePow, Nat.reduceMul, Int.reduceLT, Int.reduceLE, Nat.reduceAdd, Nat.reduceLeDiff, Nat.reduceBEq, Nat.reduceSub, Int.reduceSub, Int.reduceMul, Int.reduceNeg, Int.reduceAdd]
  · have hfa := iaA_fd (t := x.fields) (a := i) (by omega) (by omega)
    have e1 : fdAt x.fields (i : Int) = x.fields.getD i default := rfl
    rw [e1] at hfa
    have hg0 : ∀ k : ABlk, (G ++ [k])[G.length]? = some k := fun k => by rw [List.getElem?_append_right (Nat.le_refl _)]; simp
    have hs0 : ∀ k k' : ABlk, (G ++ [k]).set G.length k' = G ++ [k'] := fun k k' => by rw [List.set_append_right _ _ (Nat.le_refl _)]; simp
    have hgt : ∀ l : List ABlk, (G ++ l)[H.length]? = some (.cells [tv t]) := fun l => by rw [List.getElem?_append_left (by omega), hG]
    have nxt : ∀ {B' : Bool} {s' : List AV} {k : ABlk}, (B' = true ↔ B = true ∧ Nm (x.fields.getD i default).name ∧ partP (formA t (x.fields.getD i default).typ)) → WkL s' (S (i + 1, B')) → Nxt nb (fun g : Nat × Bool => x.fields.length - g.1) S (fun _ => G) (fun g => g.1 ≤ x.fields.length ∧ (g.2 = true ↔ B0 = true ∧ ∀ j, j < g.1 → Nm (x.fields.getD j default).name ∧ partP (formA t (x.fields.getD j default).typ))) (x.fields.length - i) s' (G ++ [k]) := fun {B' s' k} hB hk => by
      refine Nxt.mk (i + 1, B') (by simp only; omega) (Wk.drop hk hnb hcl ?_) ⟨by simp only; omega, ?_⟩
      · rw [hS]; simp [refs, refs.refsL]; omega
      · simp only
        rw [hB, q2]
        refine ⟨fun ⟨⟨a, b⟩, c⟩ => ⟨a, fun j hj => ?_⟩, fun ⟨a, b⟩ => ⟨⟨a, fun j hj => b j (by omega)⟩, b i (by omega)⟩⟩
        rcases Nat.lt_or_ge j i with h' | h'
        · exact b j h'
        · rw [show j = i by omega]; exact c
    generalize x.fields.getD i default = f at *
    simp (maxSteps := 2000000) (disch := omega) only [hfa, Fd.c, hg0, hs0, go_sem, eq_self, if_true, if_false, reduceCtorEq, Int.reduceToNat, Int.reducePow, Nat.reducePow, Nat.reduceMul, Int.reduceLT, Int.reduceLE, Nat.reduceAdd, Nat.reduceLeDiff, Nat.reduceBEq, Nat.reduceSub, Int.reduceSub, Int.reduceMul, Int.reduceNeg, Int.reduceAdd]
    cases hBv : B with
    | false =>
      simp (maxSteps := 2000000) (disch := omega) only [go_sem, eq_self, if_true, if_false, reduceCtorEq, Int.reduceToNat, Int.reducePow, Nat.reducePow, Nat.reduceMul, Int.reduceLT, Int.reduceLE, Nat.reduceAdd, Nat.reduceLeDiff, Nat.reduceBEq, Nat.reduceSub, Int.reduceSub, Int.reduceMul, Int.reduceNeg, Int.reduceAdd]
      exact nxt (B' := false) (by simp [hBv]) (by rw [hS]; exact WkL.tail 100 _ rfl (by simp only [List.take_succ_cons, List.take_zero]; repeat' first | exact WkL.nil | refine WkL.cons (Wk1.rfl _) ?_ | refine WkL.cons Wk1.esl ?_ | refine WkL.cons (Wk1.gsl _ _ _) ?_ | refine WkL.cons (Wk1.any _) ?_))
    | true =>
      simp (maxSteps := 2000000) (disch := omega) only [hg0, hs0, go_sem, eq_self, if_true, if_false, reduceCtorEq, Int.reduceToNat, Int.reducePow, Nat.reducePow, Nat.reduceMul, Int.reduceLT, Int.reduceLE, Nat.reduceAdd, Nat.reduceLeDiff, Nat.reduceBEq, Nat.reduceSub, Int.reduceSub, Int.reduceMul, Int.reduceNeg, Int.reduceAdd]
      refine Cont.mk (name_c _ _) ?_
      cases hnm : nmF f.name with
      | false =>
        simp (maxSteps := 2000000) (disch := omega) only [go_sem, eq_self, if_true, if_false, reduceCtorEq, Int.reduceToNat, Int.reducePow, Nat.reducePow, Nat.reduceMul, Int.reduceLT, Int.reduceLE, Nat.reduceAdd, Nat.reduceLeDiff, Nat.reduceBEq, Nat.reduceSub, Int.reduceSub, Int.reduceMul, Int.reduceNeg, Int.reduceAdd]
        exact nxt (B' := false) ⟨fun h => by simp at h, fun h => by rw [nm_t h.2.1] at hnm; cases hnm⟩ (by rw [hS]; exact WkL.tail 100 _ rfl (by simp only [List.take_succ_cons, List.take_zero]; repeat' first | exact WkL.nil | refine WkL.cons (Wk1.rfl _) ?_ | refine WkL.cons Wk1.esl ?_ | refine WkL.cons (Wk1.gsl _ _ _) ?_ | refine WkL.cons (Wk1.any _) ?_))
      | true =>
        simp (maxSteps := 2000000) (disch := omega) only [hg0, hs0, go_sem, eq_self, if_true, if_false, reduceCtorEq, Int.reduceToNat, Int.reducePow, Nat.reducePow, Nat.reduceMul, Int.reduceLT, Int.reduceLE, Nat.reduceAdd, Nat.reduceLeDiff, Nat.reduceBEq, Nat.reduceSub, Int.reduceSub, Int.reduceMul, Int.reduceNeg, Int.reduceAdd]
        refine ⟨hck, Cont.mk (form_c _ ht (hgt _)) ?_⟩
        simp (maxSteps := 2000000) (disch := omega) only [go_sem, eq_self, if_true, if_false, reduceCtorEq, Int.reduceToNat, Int.reducePow, Nat.reducePow, Nat.reduceMul, Int.reduceLT, Int.reduceLE, Nat.reduceAdd, Nat.reduceLeDiff, Nat.reduceBEq, Nat.reduceSub, Int.reduceSub, Int.reduceMul, Int.reduceNeg, Int.reduceAdd]
        refine Cont.mk (part_c _ _) ?_
        simp (maxSteps := 2000000) (disch := omega) only [go_sem, eq_self, if_true, if_false, reduceCtorEq, Int.reduceToNat, Int.reducePow, Nat.reducePow, Nat.reduceMul, Int.reduceLT, Int.reduceLE, Nat.reduceAdd, Nat.reduceLeDiff, Nat.reduceBEq, Nat.reduceSub, Int.reduceSub, Int.reduceMul, Int.reduceNeg, Int.reduceAdd]
        exact nxt (B' := decide (partP (formA t f.typ))) ⟨fun h => ⟨hBv, of_decide_eq_true hnm, of_decide_eq_true h⟩, fun h => decide_eq_true h.2.2⟩ (by rw [hS]; exact WkL.tail 100 _ rfl (by simp only [List.take_succ_cons, List.take_zero]; repeat' first | exact WkL.nil | refine WkL.cons (Wk1.rfl _) ?_ | refine WkL.cons Wk1.esl ?_ | refine WkL.cons (Wk1.gsl _ _ _) ?_ | refine WkL.cons (Wk1.any _) ?_))
  · have hi : i = x.fields.length := by omega
    subst hi
    refine ⟨B, ?_, rfl⟩
    rw [q2]
    refine ⟨fun ⟨a, b⟩ => ⟨a, fun f hf => ?_⟩, fun ⟨a, b⟩ => ⟨a, fun j hj => b _ ?_⟩⟩
    · obtain ⟨j, hj, rfl⟩ := List.getElem_of_mem hf
      have := b j hj
      rwa [List.getD_eq_getElem?_getD, List.getElem?_eq_getElem hj] at this
    · rw [List.getD_eq_getElem?_getD, List.getElem?_eq_getElem hj]; exact List.getElem_mem _

abbrev S11 (H : List ABlk) (l : AV) (n : Nat) (B : Bool) (i : Nat) : List AV := [.any, .any, .ptr H.length 0, .ptr (H.length + 1) 0, bv false, .fn 67 [.ptr H.length 0], .ptr (H.length + 2) 0, bv B] ++ List.replicate 144 .any ++ [l, iv n, iv i]
theorem formed_l0 {t : List Ty} {x : Ty} {H G : List ABlk} {nb : Nat} (ht : t.length ≤ 9000000) (hfl : x.params.length ≤ 9000000) (hG : G[H.length]? = some (.cells [tv t])) (hHG : H.length + 3 ≤ G.length) (hcl : cl G) (hnb : nb ≤ G.length) (B0 : Bool) :
    W Try.prog (hh 53) nb (.loop c53l0) (S11 H (pmv x.params) x.params.length B0 0 ++ List.replicate 109 .any) G
      (fun e s H' => e = .exit 3 ∧ ∃ B : Bool, (B = true ↔ B0 = true ∧ ∀ p ∈ x.params, partP (formA t p.typ) ∨ formA t p.typ = 8) ∧ s = S11 H (pmv x.params) x.params.length B x.params.length ++ bv false :: List.replicate 108 .any ∧ H' = G) := by
  have hck : callOk Try.prog 67 = true := by kernel_rfl
  obtain ⟨S, hS⟩ : ∃ S : Nat × Bool → List AV, ∀ g, S g = S11 H (pmv x.params) x.params.length g.2 g.1 ++ List.replicate 109 .any := ⟨_, fun _ => rfl⟩
  refine W.loopG (γ := Nat × Bool) (fun g => x.params.length - g.1) S (fun _ => G) (fun g => g.1 ≤ x.params.length ∧ (g.2 = true ↔ B0 = true ∧ ∀ j, j < g.1 → partP (formA t (x.params.getD j default).typ) ∨ formA t (x.params.getD j default).typ = 8)) (0, B0) (by rw [hS]; exact Wk.refl) ⟨Nat.zero_le _, by simp⟩ (fun g hg => ?_)
  obtain ⟨i, B⟩ := g
  obtain ⟨q1, q2⟩ := hg
  simp only at q1 q2
  simp (maxSteps := 2000000) (disch := omega) only [c53l0, hS, List.append_assoc, List.cons_append, List.nil_append, go_sem, eq_self, if_true, if_false, reduceCtorEq, Int.reduceToNat, Int.reducePow, Nat.reducePow, Nat.reduceMul, Int.reduceLT, Int.reduceLE, Nat.reduceAdd, Nat.reduceLeDiff, Nat.reduceBEq, Nat.reduceSub, Int.reduceSub, Int.reduceMul, Int.reduceNeg, Int.reduceAdd]
  refine Br.dec (fun hc => ?_) (fun hc => ?_) <;> simp (maxSteps := 2000000) (disch := omega) only [go_sem, eq_self, if_true, if_false, reduceCtorEq, Int.reduceToNat, Int.reducePow, Nat.reducePow, Nat.reduceMul, Int.reduceLT, Int.reduceLE, Nat.reduceAdd, Nat.reduceLeDiff, Nat.reduceBEq, Nat.reduceSub, Int.reduceSub, Int.reduceMul, Int.reduceNeg, Int.reduceAdd]
  · have hfa := iaA_pm (t := x.params) (a := i) (by omega) (by omega)
    have e1 : pmAt x.params (i : Int) = x.params.getD i default := rfl
    rw [e1] at hfa
    have hg0 : ∀ k : ABlk, (G ++ [k])[G.length]? = some k := fun k => by rw [List.getElem?_append_right (Nat.le_refl _)]; simp
    have hs0 : ∀ k k' : ABlk, (G ++ [k]).set G.length k' = G ++ [k'] := fun k k' => by rw [List.set_append_right _ _ (Nat.le_refl _)]; simp
    have hgt : ∀ l : List ABlk, (G ++ l)[H.length]? = some (.cells [tv t]) := fun l => by rw [List.getElem?_append_left (by omega), hG]
    have nxt : ∀ {B' : Bool} {s' : List AV} {k : ABlk}, (B' = true ↔ B = true ∧ (partP (formA t (x.params.getD i default).typ) ∨ formA t (x.params.getD i default).typ = 8)) → WkL s' (S (i + 1, B')) → Nxt nb (fun g : Nat × Bool => x.params.length - g.1) S (fun _ => G) (fun g => g.1 ≤ x.params.length ∧ (g.2 = true ↔ B0 = true ∧ ∀ j, j < g.1 → partP (formA t (x.params.getD j default).typ) ∨ formA t (x.params.getD j default).typ = 8)) (x.params.length - i) s' (G ++ [k]) := fun {B' s' k} hB hk => by
      refine Nxt.mk (i + 1, B') (by simp only; omega) (Wk.drop hk hnb hcl ?_) ⟨by simp only; omega, ?_⟩
      · rw [hS]; simp [refs, refs.refsL]; omega
      · simp only
        rw [hB, q2]
        refine ⟨fun ⟨⟨a, b⟩, c⟩ => ⟨a, fun j hj => ?_⟩, fun ⟨a, b⟩ => ⟨⟨a, fun j hj => b j (by omega)⟩, b i (by omega)⟩⟩
        rcases Nat.lt_or_ge j i with h' | h'
        · exact b j h'
        · rw [show j = i by omega]; exact c
    generalize x.params.getD i default = f at *
    simp (maxSteps := 2000000) (disch := omega) only [hfa, Pm.c, hg0, hs0, go_sem, eq_self, if_true, if_false, reduceCtorEq, Int.reduceToNat, Int.reducePow, Nat.reducePow, Nat.reduceMul, Int.reduceLT, Int.reduceLE, Nat.reduceAdd, Nat.reduceLeDiff, Nat.reduceBEq, Nat.reduceSub, Int.reduceSub, Int.reduceMul, Int.reduceNeg, Int.reduceAdd]
    cases hBv : B with
    | false =>
      simp (maxSteps := 2000000) (disch := omega) only [go_sem, eq_self, if_true, if_false, reduceCtorEq, Int.reduceToNat, Int.reducePow, Nat.reducePow, Nat.reduceMul, Int.reduceLT, Int.reduceLE, Nat.reduceAdd, Nat.reduceLeDiff, Nat.reduceBEq, Nat.reduceSub, Int.reduceSub, Int.reduceMul, Int.reduceNeg, Int.reduceAdd]
      exact nxt (B' := false) (by simp [hBv]) (by rw [hS]; exact WkL.tail 155 _ rfl (by simp only [List.take_succ_cons, List.take_zero]; repeat' first | exact WkL.nil | refine WkL.cons (Wk1.rfl _) ?_ | refine WkL.cons Wk1.esl ?_ | refine WkL.cons (Wk1.gsl _ _ _) ?_ | refine WkL.cons (Wk1.any _) ?_))
    | true =>
      simp (maxSteps := 2000000) (disch := omega) only [hg0, hs0, go_sem, eq_self, if_true, if_false, reduceCtorEq, Int.reduceToNat, Int.reducePow, Nat.reducePow, Nat.reduceMul, Int.reduceLT, Int.reduceLE, Nat.reduceAdd, Nat.reduceLeDiff, Nat.reduceBEq, Nat.reduceSub, Int.reduceSub, Int.reduceMul, Int.reduceNeg, Int.reduceAdd]
      refine ⟨hck, Cont.mk (form_c _ ht (hgt _)) ?_⟩
      simp (maxSteps := 2000000) (disch := omega) only [go_sem, eq_self, if_true, if_false, reduceCtorEq, Int.reduceToNat, Int.reducePow, Nat.reducePow, Nat.reduceMul, Int.reduceLT, Int.reduceLE, Nat.reduceAdd, Nat.reduceLeDiff, Nat.reduceBEq, Nat.reduceSub, Int.reduceSub, Int.reduceMul, Int.reduceNeg, Int.reduceAdd]
      refine Cont.mk (part_c _ _) ?_
      by_cases hp : partP (formA t f.typ)
      · have hp' := decide_eq_true hp
        simp (maxSteps := 2000000) (disch := omega) only [hp', go_sem, eq_self, if_true, if_false, reduceCtorEq, Int.reduceToNat, Int.reducePow, Nat.reducePow, Nat.reduceMul, Int.reduceLT, Int.reduceLE, Nat.reduceAdd, Nat.reduceLeDiff, Nat.reduceBEq, Nat.reduceSub, Int.reduceSub, Int.reduceMul, Int.reduceNeg, Int.reduceAdd]
        exact nxt (B' := true) ⟨fun h => ⟨hBv, .inl hp⟩, fun _ => rfl⟩ (by rw [hS]; exact WkL.tail 155 _ rfl (by simp only [List.take_succ_cons, List.take_zero]; repeat' first | exact WkL.nil | refine WkL.cons (Wk1.rfl _) ?_ | refine WkL.cons Wk1.esl ?_ | refine WkL.cons (Wk1.gsl _ _ _) ?_ | refine WkL.cons (Wk1.any _) ?_))
      · have hp' := decide_eq_false hp
        simp (maxSteps := 2000000) (disch := omega) only [hp', hg0, hs0, go_sem, eq_self, if_true, if_false, reduceCtorEq, Int.reduceToNat, Int.reducePow, Nat.reducePow, Nat.reduceMul, Int.reduceLT, Int.reduceLE, Nat.reduceAdd, Nat.reduceLeDiff, Nat.reduceBEq, Nat.reduceSub, Int.reduceSub, Int.reduceMul, Int.reduceNeg, Int.reduceAdd]
        refine ⟨hck, Cont.mk (form_c _ ht (hgt _)) ?_⟩
        simp (maxSteps := 2000000) (disch := omega) only [go_sem, eq_self, if_true, if_false, reduceCtorEq, Int.reduceToNat, Int.reducePow, Nat.reducePow, Nat.reduceMul, Int.reduceLT, Int.reduceLE, Nat.reduceAdd, Nat.reduceLeDiff, Nat.reduceBEq, Nat.reduceSub, Int.reduceSub, Int.reduceMul, Int.reduceNeg, Int.reduceAdd]
        exact nxt (B' := decide (formA t f.typ = 8)) ⟨fun h => ⟨hBv, .inr (of_decide_eq_true h)⟩, fun h => decide_eq_true (h.2.resolve_left hp)⟩ (by rw [hS]; exact WkL.tail 155 _ rfl (by simp only [List.take_succ_cons, List.take_zero]; repeat' first | exact WkL.nil | refine WkL.cons (Wk1.rfl _) ?_ | refine WkL.cons Wk1.esl ?_ | refine WkL.cons (Wk1.gsl _ _ _) ?_ | refine WkL.cons (Wk1.any _) ?_))
  · have hi : i = x.params.length := by omega
    subst hi
    refine ⟨B, ?_, rfl⟩
    rw [q2]
    refine ⟨fun ⟨a, b⟩ => ⟨a, fun f hf => ?_⟩, fun ⟨a, b⟩ => ⟨a, fun j hj => b _ ?_⟩⟩
    · obtain ⟨j, hj, rfl⟩ := List.getElem_of_mem hf
      have := b j hj
      rwa [List.getD_eq_getElem?_getD, List.getElem?_eq_getElem hj] at this
    · rw [List.getD_eq_getElem?_getD, List.getElem?_eq_getElem hj]; exact List.getElem_mem _
end Go.Proofs.Ytlhpcccffmfopaa
