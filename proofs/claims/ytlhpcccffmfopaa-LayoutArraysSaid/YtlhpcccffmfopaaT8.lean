/- tables.formed, put together. -/
import Derived.Test.YtlhpcccffmfopaaT7b
namespace Go.Proofs.Ytlhpcccffmfopaa
set_option linter.unusedSectionVars false
set_option linter.unusedSimpArgs false
set_option linter.unusedVariables false
set_option maxRecDepth 20000
set_option maxHeartbeats 4000000
open Go.RowKit

def conds9 (t : List Ty) (x : Ty) : Prop := (x.base = 0 ∨ formA t x.base = 9) ∧ x.fields.length ≤ 64 ∧ -1 ≤ x.desc ∧ x.desc < 64
theorem ok9 {t : List Ty} {x : Ty} (f9 : x.form = 9) : okP t x ↔ conds9 t x ∧ ∀ f ∈ x.fields, Nm f.name ∧ partP (formA t f.typ) := by
  simp [okP, f9, conds9, and_assoc]
def conds11 (t : List Ty) (x : Ty) : Prop := x.params.length ≤ 64 ∧ (x.result = 0 ∨ plainP (formA t x.result))
theorem ok11 {t : List Ty} {x : Ty} (f11 : x.form = 11) : okP t x ↔ conds11 t x ∧ ∀ p ∈ x.params, partP (formA t p.typ) ∨ formA t p.typ = 8 := by
  simp [okP, f11, conds11, and_assoc]
theorem formed_c {t : List Ty} {x : Ty} (ht : t.length ≤ 9000000) (hfl : x.fields.length ≤ 9000000) (hpl : x.params.length ≤ 9000000) (H : List ABlk) : ACalls Try.prog 53 [tv t, x.av] H (FormedR t x H) := by
  refine ACalls.enter Try.func53 cc53 rr53 fun hcl => ?_
  simp only [Try.ntmps53, c53, r53]
  refine W.seq_reg ?_
  simp (maxSteps := 2000000) (disch := omega) only [go_sem, eq_self, if_true, if_false, reduceCtorEq, Int.reduceToNat, Int.reducePow, Nat.reducePow, Nat.reduceMul, Int.reduceLT, Int.reduceLE, Nat.reduceAdd, Nat.reduceLeDiff, Nat.reduceBEq, Nat.reduceSub, Int.reduceSub, Int.reduceMul, Int.reduceNeg, Int.reduceAdd]
  refine W.seq_reg ?_
  simp (maxSteps := 2000000) (disch := omega) only [go_sem, eq_self, if_true, if_false, reduceCtorEq, Int.reduceToNat, Int.reducePow, Nat.reducePow, Nat.reduceMul, Int.reduceLT, Int.reduceLE, Nat.reduceAdd, Nat.reduceLeDiff, Nat.reduceBEq, Nat.reduceSub, Int.reduceSub, Int.reduceMul, Int.reduceNeg, Int.reduceAdd]
  refine W.seq_reg ?_
  simp (maxSteps := 2000000) (disch := omega) only [Ty.cs, hb_0', hb_1', List.append_assoc, List.cons_append, List.nil_append, go_sem, eq_self, if_true, if_false, reduceCtorEq, Int.reduceToNat, Int.reducePow, Nat.reducePow, Nat.reduceMul, Int.reduceLT, Int.reduceLE, Nat.reduceAdd, Nat.reduceLeDiff, Nat.reduceBEq, Nat.reduceSub, Int.reduceSub, Int.reduceMul, Int.reduceNeg, Int.reduceAdd]
  refine W.seq_reg ?_
  simp (maxSteps := 2000000) (disch := omega) only [go_sem, eq_self, if_true, if_false, reduceCtorEq, Int.reduceToNat, Int.reducePow, Nat.reducePow, Nat.reduceMul, Int.reduceLT, Int.reduceLE, Nat.reduceAdd, Nat.reduceLeDiff, Nat.reduceBEq, Nat.reduceSub, Int.reduceSub, Int.reduceMul, Int.reduceNeg, Int.reduceAdd]
  refine W.cut (JF t x H) (wpA.W ?_) ?_
  · have hfm : ∀ n : Int, ∀ tl : List ABlk, ACalls Try.prog 67 [iv n, .ptr H.length 0] (H ++ (.cells [tv t] :: tl)) fun v H' => v = iv (formA t n) ∧ H' = H ++ (.cells [tv t] :: tl) := fun n tl => form_c n ht (by rw [List.getElem?_append_right (Nat.le_refl _)]; simp)
    have hck : callOk Try.prog 67 = true := by kernel_rfl
    by_cases f7 : x.form = 7
    · have k7 := feq f7
      have ew : x.len = (want x).len ∧ x.elem = (want x).elem ∧ 0 = (want x).base ∧ 0 = (want x).result ∧ 0 = (want x).desc := by simp [want, f7]
      have ef : lenA .esl = some (want x).fields.length ∧ isStr .esl = false := by simp [want, f7, lenA, isStr]
      have ep : lenA .esl = some (want x).params.length ∧ isStr .esl = false := by simp [want, f7, lenA, isStr]
      simp (maxSteps := 2000000) (disch := omega) only [Ty.cs, k7, hb_1, hb_2, List.append_assoc, List.cons_append, List.nil_append, go_sem, eq_self, if_true, if_false, reduceCtorEq, Int.reduceToNat, Int.reducePow, Nat.reducePow, Nat.reduceMul, Int.reduceLT, Int.reduceLE, Nat.reduceAdd, Nat.reduceLeDiff, Nat.reduceBEq, Nat.reduceSub, Int.reduceSub, Int.reduceMul, Int.reduceNeg, Int.reduceAdd]
      refine W.dregD [([], []), ([], []), ([], [H.length + 2]), ([], [H.length + 2]), ([], []), ([H.length + 2], []), ([], []), ([H.length + 2], [])] follows (by decide +kernel) rfl rfl (fun z hz b hb => ?_) ?_
      · simp only [List.mem_cons, List.not_mem_nil, or_false] at hz
        rcases hz with rfl | rfl | rfl | rfl | rfl | rfl | rfl | rfl <;> simp at hb <;> subst hb <;> exact ⟨by simp, by rw [hb_2]; simp⟩
      repeat (rw [DC_p]; simp (maxSteps := 2000000) (disch := omega) only [kill_c, hs_2, hb_1, hb_2, go_sem, eq_self, if_true, if_false, reduceCtorEq, Int.reduceToNat, Int.reducePow, Nat.reducePow, Nat.reduceMul, Int.reduceLT, Int.reduceLE, Nat.reduceAdd, Nat.reduceLeDiff, Nat.reduceBEq, Nat.reduceSub, Int.reduceSub, Int.reduceMul, Int.reduceNeg, Int.reduceAdd])
      refine WStep.ev (by simp) (by simp) ?_
      simp (maxSteps := 2000000) (disch := omega) only [hb_2, hs_2, go_sem, eq_self, if_true, if_false, reduceCtorEq, Int.reduceToNat, Int.reducePow, Nat.reducePow, Nat.reduceMul, Int.reduceLT, Int.reduceLE, Nat.reduceAdd, Nat.reduceLeDiff, Nat.reduceBEq, Nat.reduceSub, Int.reduceSub, Int.reduceMul, Int.reduceNeg, Int.reduceAdd]
      refine ⟨FrOk.at_ (H.length + 2) _ (by simp) (by rw [hs_2]), ?_⟩
      repeat (rw [DC_p]; simp (maxSteps := 2000000) (disch := omega) only [kill_c, hs_2, hb_1, hb_2, go_sem, eq_self, if_true, if_false, reduceCtorEq, Int.reduceToNat, Int.reducePow, Nat.reducePow, Nat.reduceMul, Int.reduceLT, Int.reduceLE, Nat.reduceAdd, Nat.reduceLeDiff, Nat.reduceBEq, Nat.reduceSub, Int.reduceSub, Int.reduceMul, Int.reduceNeg, Int.reduceAdd])
      refine WStep.ev (by simp) (by simp) ?_
      simp (maxSteps := 2000000) (disch := omega) only [hb_1, hb_2, hs_2, go_sem, eq_self, if_true, if_false, reduceCtorEq, Int.reduceToNat, Int.reducePow, Nat.reducePow, Nat.reduceMul, Int.reduceLT, Int.reduceLE, Nat.reduceAdd, Nat.reduceLeDiff, Nat.reduceBEq, Nat.reduceSub, Int.reduceSub, Int.reduceMul, Int.reduceNeg, Int.reduceAdd]
      refine ⟨FrOk.at_ (H.length + 2) _ (by simp) (by rw [hs_2]), ?_⟩
      refine Br.dec (fun a1 => ?_) (fun a1 => ?_) <;> simp (maxSteps := 2000000) (disch := omega) only [hb_1, hb_2, go_sem, eq_self, if_true, if_false, reduceCtorEq, Int.reduceToNat, Int.reducePow, Nat.reducePow, Nat.reduceMul, Int.reduceLT, Int.reduceLE, Nat.reduceAdd, Nat.reduceLeDiff, Nat.reduceBEq, Nat.reduceSub, Int.reduceSub, Int.reduceMul, Int.reduceNeg, Int.reduceAdd]
      · refine Br.dec (fun a2 => ?_) (fun a2 => ?_) <;> simp (maxSteps := 2000000) (disch := omega) only [hb_1, hb_2, go_sem, eq_self, if_true, if_false, reduceCtorEq, Int.reduceToNat, Int.reducePow, Nat.reducePow, Nat.reduceMul, Int.reduceLT, Int.reduceLE, Nat.reduceAdd, Nat.reduceLeDiff, Nat.reduceBEq, Nat.reduceSub, Int.reduceSub, Int.reduceMul, Int.reduceNeg, Int.reduceAdd]
        · refine ⟨hck, Cont.mk (hfm _ _) ?_⟩
          simp (maxSteps := 2000000) (disch := omega) only [go_sem, eq_self, if_true, if_false, reduceCtorEq, Int.reduceToNat, Int.reducePow, Nat.reducePow, Nat.reduceMul, Int.reduceLT, Int.reduceLE, Nat.reduceAdd, Nat.reduceLeDiff, Nat.reduceBEq, Nat.reduceSub, Int.reduceSub, Int.reduceMul, Int.reduceNeg, Int.reduceAdd]
          refine Cont.mk (part_c _ _) ?_
          simp (maxSteps := 2000000) (disch := omega) only [go_sem, eq_self, if_true, if_false, reduceCtorEq, Int.reduceToNat, Int.reducePow, Nat.reducePow, Nat.reduceMul, Int.reduceLT, Int.reduceLE, Nat.reduceAdd, Nat.reduceLeDiff, Nat.reduceBEq, Nat.reduceSub, Int.reduceSub, Int.reduceMul, Int.reduceNeg, Int.reduceAdd]
          exact JF.fin hcl (B := decide (partP (formA t x.elem))) (by (try simp only [List.replicate, List.cons_append, List.nil_append]); repeat' first | exact WkL.nil | refine WkL.cons (Wk1.rfl _) ?_ | refine WkL.cons Wk1.esl ?_ | refine WkL.cons (Wk1.gsl _ _ _) ?_ | refine WkL.cons (Wk1.any _) ?_) (by simp [okP, f7, a1, a2]) ew ef ep rfl rfl
        · exact JF.fin hcl (B := false) (by (try simp only [List.replicate, List.cons_append, List.nil_append]); repeat' first | exact WkL.nil | refine WkL.cons (Wk1.rfl _) ?_ | refine WkL.cons Wk1.esl ?_ | refine WkL.cons (Wk1.gsl _ _ _) ?_ | refine WkL.cons (Wk1.any _) ?_) (by simp [okP, f7]; intros; omega) ew ef ep rfl rfl
      · exact JF.fin hcl (B := false) (by (try simp only [List.replicate, List.cons_append, List.nil_append]); repeat' first | exact WkL.nil | refine WkL.cons (Wk1.rfl _) ?_ | refine WkL.cons Wk1.esl ?_ | refine WkL.cons (Wk1.gsl _ _ _) ?_ | refine WkL.cons (Wk1.any _) ?_) (by simp [okP, f7]; intros; omega) ew ef ep rfl rfl
    have k7 := fne f7
    by_cases f8 : x.form = 8
    · have k8 := feq f8
      have ew : 0 = (want x).len ∧ x.elem = (want x).elem ∧ 0 = (want x).base ∧ 0 = (want x).result ∧ 0 = (want x).desc := by simp [want, f8]
      have ef : lenA .esl = some (want x).fields.length ∧ isStr .esl = false := by simp [want, f8, lenA, isStr]
      have ep : lenA .esl = some (want x).params.length ∧ isStr .esl = false := by simp [want, f8, lenA, isStr]
      simp (maxSteps := 2000000) (disch := omega) only [Ty.cs, k7, k8, hb_1, hb_2, hs_2, List.append_assoc, List.cons_append, List.nil_append, go_sem, eq_self, if_true, if_false, reduceCtorEq, Int.reduceToNat, Int.reducePow, Nat.reducePow, Nat.reduceMul, Int.reduceLT, Int.reduceLE, Nat.reduceAdd, Nat.reduceLeDiff, Nat.reduceBEq, Nat.reduceSub, Int.reduceSub, Int.reduceMul, Int.reduceNeg, Int.reduceAdd]
      refine ⟨hck, Cont.mk (hfm _ _) ?_⟩
      simp (maxSteps := 2000000) (disch := omega) only [go_sem, eq_self, if_true, if_false, reduceCtorEq, Int.reduceToNat, Int.reducePow, Nat.reducePow, Nat.reduceMul, Int.reduceLT, Int.reduceLE, Nat.reduceAdd, Nat.reduceLeDiff, Nat.reduceBEq, Nat.reduceSub, Int.reduceSub, Int.reduceMul, Int.reduceNeg, Int.reduceAdd]
      refine Cont.mk (part_c _ _) ?_
      by_cases hp : partP (formA t x.elem)
      · have hp' := decide_eq_true hp
        simp (maxSteps := 2000000) (disch := omega) only [hp', go_sem, eq_self, if_true, if_false, reduceCtorEq, Int.reduceToNat, Int.reducePow, Nat.reducePow, Nat.reduceMul, Int.reduceLT, Int.reduceLE, Nat.reduceAdd, Nat.reduceLeDiff, Nat.reduceBEq, Nat.reduceSub, Int.reduceSub, Int.reduceMul, Int.reduceNeg, Int.reduceAdd]
        exact JF.fin hcl (B := true) (by (try simp only [List.replicate, List.cons_append, List.nil_append]); repeat' first | exact WkL.nil | refine WkL.cons (Wk1.rfl _) ?_ | refine WkL.cons Wk1.esl ?_ | refine WkL.cons (Wk1.gsl _ _ _) ?_ | refine WkL.cons (Wk1.any _) ?_) (by simp [okP, f8, hp]) ew ef ep rfl rfl
      · have hp' := decide_eq_false hp
        simp (maxSteps := 2000000) (disch := omega) only [hp', hb_1, hb_2, go_sem, eq_self, if_true, if_false, reduceCtorEq, Int.reduceToNat, Int.reducePow, Nat.reducePow, Nat.reduceMul, Int.reduceLT, Int.reduceLE, Nat.reduceAdd, Nat.reduceLeDiff, Nat.reduceBEq, Nat.reduceSub, Int.reduceSub, Int.reduceMul, Int.reduceNeg, Int.reduceAdd]
        refine ⟨hck, Cont.mk (hfm _ _) ?_⟩
        simp (maxSteps := 2000000) (disch := omega) only [go_sem, eq_self, if_true, if_false, reduceCtorEq, Int.reduceToNat, Int.reducePow, Nat.reducePow, Nat.reduceMul, Int.reduceLT, Int.reduceLE, Nat.reduceAdd, Nat.reduceLeDiff, Nat.reduceBEq, Nat.reduceSub, Int.reduceSub, Int.reduceMul, Int.reduceNeg, Int.reduceAdd]
        exact JF.fin hcl (B := decide (formA t x.elem = 8)) (by (try simp only [List.replicate, List.cons_append, List.nil_append]); repeat' first | exact WkL.nil | refine WkL.cons (Wk1.rfl _) ?_ | refine WkL.cons Wk1.esl ?_ | refine WkL.cons (Wk1.gsl _ _ _) ?_ | refine WkL.cons (Wk1.any _) ?_) (by simp [okP, f8, hp]) ew ef ep rfl rfl
    have k8 := fne f8
    by_cases f9 : x.form = 9
    · have k9 := feq f9
      have ew : 0 = (want x).len ∧ 0 = (want x).elem ∧ x.base = (want x).base ∧ 0 = (want x).result ∧ x.desc = (want x).desc := by simp [want, f9]
      have ef : lenA (fdv x.fields) = some (want x).fields.length ∧ isStr (fdv x.fields) = false := by simp [want, f9, lenA, isStr]
      have ep : lenA .esl = some (want x).params.length ∧ isStr .esl = false := by simp [want, f9, lenA, isStr]
      simp (maxSteps := 2000000) (disch := omega) only [Ty.cs, k7, k8, k9, hb_1, hb_2, List.append_assoc, List.cons_append, List.nil_append, go_sem, eq_self, if_true, if_false, reduceCtorEq, Int.reduceToNat, Int.reducePow, Nat.reducePow, Nat.reduceMul, Int.reduceLT, Int.reduceLE, Nat.reduceAdd, Nat.reduceLeDiff, Nat.reduceBEq, Nat.reduceSub, Int.reduceSub, Int.reduceMul, Int.reduceNeg, Int.reduceAdd]
      refine W.dregD [([], []), ([], []), ([], [H.length + 2]), ([], [H.length + 2]), ([], [H.length + 2, H.length + 2]), ([], [H.length + 2, H.length + 2]), ([], []), ([H.length + 2], []), ([], []), ([H.length + 2], []), ([], []), ([H.length + 2], [])] follows (by decide +kernel) rfl rfl (fun z hz b hb => ?_) ?_
      · simp only [List.mem_cons, List.not_mem_nil, or_false] at hz
        rcases hz with rfl | rfl | rfl | rfl | rfl | rfl | rfl | rfl | rfl | rfl | rfl | rfl <;> simp at hb <;> subst hb <;> exact ⟨by simp, by rw [hb_2]; simp⟩
      repeat (rw [DC_p]; simp (maxSteps := 2000000) (disch := omega) only [kill_c, hs_2, hb_1, hb_2, go_sem, eq_self, if_true, if_false, reduceCtorEq, Int.reduceToNat, Int.reducePow, Nat.reducePow, Nat.reduceMul, Int.reduceLT, Int.reduceLE, Nat.reduceAdd, Nat.reduceLeDiff, Nat.reduceBEq, Nat.reduceSub, Int.reduceSub, Int.reduceMul, Int.reduceNeg, Int.reduceAdd])
      refine WStep.ev (by simp) (by simp) ?_
      simp (maxSteps := 2000000) (disch := omega) only [hb_2, hs_2, go_sem, eq_self, if_true, if_false, reduceCtorEq, Int.reduceToNat, Int.reducePow, Nat.reducePow, Nat.reduceMul, Int.reduceLT, Int.reduceLE, Nat.reduceAdd, Nat.reduceLeDiff, Nat.reduceBEq, Nat.reduceSub, Int.reduceSub, Int.reduceMul, Int.reduceNeg, Int.reduceAdd]
      refine ⟨FrOk.at_ (H.length + 2) _ (by simp) (by rw [hs_2]), ?_⟩
      repeat (rw [DC_p]; simp (maxSteps := 2000000) (disch := omega) only [kill_c, hs_2, hb_1, hb_2, go_sem, eq_self, if_true, if_false, reduceCtorEq, Int.reduceToNat, Int.reducePow, Nat.reducePow, Nat.reduceMul, Int.reduceLT, Int.reduceLE, Nat.reduceAdd, Nat.reduceLeDiff, Nat.reduceBEq, Nat.reduceSub, Int.reduceSub, Int.reduceMul, Int.reduceNeg, Int.reduceAdd])
      refine WStep.ev (by simp) (by simp) ?_
      simp (maxSteps := 2000000) (disch := omega) only [hb_1, hb_2, hs_2, go_sem, eq_self, if_true, if_false, reduceCtorEq, Int.reduceToNat, Int.reducePow, Nat.reducePow, Nat.reduceMul, Int.reduceLT, Int.reduceLE, Nat.reduceAdd, Nat.reduceLeDiff, Nat.reduceBEq, Nat.reduceSub, Int.reduceSub, Int.reduceMul, Int.reduceNeg, Int.reduceAdd]
      refine ⟨FrOk.at_ (H.length + 2) _ (by simp) (by rw [hs_2]), ?_⟩
      repeat (rw [DC_p]; simp (maxSteps := 2000000) (disch := omega) only [kill_c, hs_2, hb_1, hb_2, go_sem, eq_self, if_true, if_false, reduceCtorEq, Int.reduceToNat, Int.reducePow, Nat.reducePow, Nat.reduceMul, Int.reduceLT, Int.reduceLE, Nat.reduceAdd, Nat.reduceLeDiff, Nat.reduceBEq, Nat.reduceSub, Int.reduceSub, Int.reduceMul, Int.reduceNeg, Int.reduceAdd])
      refine WStep.ev (by simp) (by simp) ?_
      simp (maxSteps := 2000000) (disch := omega) only [hb_1, hb_2, hs_2, go_sem, eq_self, if_true, if_false, reduceCtorEq, Int.reduceToNat, Int.reducePow, Nat.reducePow, Nat.reduceMul, Int.reduceLT, Int.reduceLE, Nat.reduceAdd, Nat.reduceLeDiff, Nat.reduceBEq, Nat.reduceSub, Int.reduceSub, Int.reduceMul, Int.reduceNeg, Int.reduceAdd]
      refine ⟨FrOk.at_ (H.length + 2) _ (by simp) (by rw [hs_2]), ?_⟩
      refine Br.dec (fun c1 => ?_) (fun c1 => ?_) <;> simp (maxSteps := 2000000) (disch := omega) only [hb_1, hb_2, List.length_map, go_sem, eq_self, if_true, if_false, reduceCtorEq, Int.reduceToNat, Int.reducePow, Nat.reducePow, Nat.reduceMul, Int.reduceLT, Int.reduceLE, Nat.reduceAdd, Nat.reduceLeDiff, Nat.reduceBEq, Nat.reduceSub, Int.reduceSub, Int.reduceMul, Int.reduceNeg, Int.reduceAdd]
      · refine Br.dec (fun c2 => ?_) (fun c2 => ?_) <;> simp (maxSteps := 2000000) (disch := omega) only [hb_1, hb_2, go_sem, eq_self, if_true, if_false, reduceCtorEq, Int.reduceToNat, Int.reducePow, Nat.reducePow, Nat.reduceMul, Int.reduceLT, Int.reduceLE, Nat.reduceAdd, Nat.reduceLeDiff, Nat.reduceBEq, Nat.reduceSub, Int.reduceSub, Int.reduceMul, Int.reduceNeg, Int.reduceAdd]
        · refine Br.dec (fun c3 => ?_) (fun c3 => ?_) <;> simp (maxSteps := 2000000) (disch := omega) only [hb_1, hb_2, go_sem, eq_self, if_true, if_false, reduceCtorEq, Int.reduceToNat, Int.reducePow, Nat.reducePow, Nat.reduceMul, Int.reduceLT, Int.reduceLE, Nat.reduceAdd, Nat.reduceLeDiff, Nat.reduceBEq, Nat.reduceSub, Int.reduceSub, Int.reduceMul, Int.reduceNeg, Int.reduceAdd]
          · refine W.weak (Wk.slots (by (try simp only [List.replicate, List.cons_append, List.nil_append]); repeat' first | exact WkL.nil | refine WkL.cons (Wk1.rfl _) ?_ | refine WkL.cons Wk1.esl ?_ | refine WkL.cons (Wk1.gsl _ _ _) ?_ | refine WkL.cons (Wk1.any _) ?_)) (W.mono (formed_l1 (x := x) ht hfl (hb_0 _ _ _ _) (by simp) (cl3 hcl rfl rfl) (by simp) (decide (x.desc < 64))) ?_)
            rintro e s H' ⟨rfl, B, hB, rfl, rfl⟩
            simp (maxSteps := 2000000) (disch := omega) only [List.append_assoc, List.cons_append, List.nil_append, go_sem, eq_self, if_true, if_false, reduceCtorEq, Int.reduceToNat, Int.reducePow, Nat.reducePow, Nat.reduceMul, Int.reduceLT, Int.reduceLE, Nat.reduceAdd, Nat.reduceLeDiff, Nat.reduceBEq, Nat.reduceSub, Int.reduceSub, Int.reduceMul, Int.reduceNeg, Int.reduceAdd]
            exact JF.fin hcl (B := B) (by (try simp only [List.replicate, List.cons_append, List.nil_append]); repeat' first | exact WkL.nil | refine WkL.cons (Wk1.rfl _) ?_ | refine WkL.cons Wk1.esl ?_ | refine WkL.cons (Wk1.gsl _ _ _) ?_ | refine WkL.cons (Wk1.any _) ?_) (by rw [hB, ok9 f9]; exact ⟨fun h => ⟨⟨.inl c1, by omega, c3, of_decide_eq_true h.1⟩, h.2⟩, fun h => ⟨decide_eq_true h.1.2.2.2, h.2⟩⟩) ew ef ep rfl rfl
          · refine W.weak (Wk.slots (by (try simp only [List.replicate, List.cons_append, List.nil_append]); repeat' first | exact WkL.nil | refine WkL.cons (Wk1.rfl _) ?_ | refine WkL.cons Wk1.esl ?_ | refine WkL.cons (Wk1.gsl _ _ _) ?_ | refine WkL.cons (Wk1.any _) ?_)) (W.mono (formed_l1 (x := x) ht hfl (hb_0 _ _ _ _) (by simp) (cl3 hcl rfl rfl) (by simp) false) ?_)
            rintro e s H' ⟨rfl, B, hB, rfl, rfl⟩
            simp (maxSteps := 2000000) (disch := omega) only [List.append_assoc, List.cons_append, List.nil_append, go_sem, eq_self, if_true, if_false, reduceCtorEq, Int.reduceToNat, Int.reducePow, Nat.reducePow, Nat.reduceMul, Int.reduceLT, Int.reduceLE, Nat.reduceAdd, Nat.reduceLeDiff, Nat.reduceBEq, Nat.reduceSub, Int.reduceSub, Int.reduceMul, Int.reduceNeg, Int.reduceAdd]
            exact JF.fin hcl (B := B) (by (try simp only [List.replicate, List.cons_append, List.nil_append]); repeat' first | exact WkL.nil | refine WkL.cons (Wk1.rfl _) ?_ | refine WkL.cons Wk1.esl ?_ | refine WkL.cons (Wk1.gsl _ _ _) ?_ | refine WkL.cons (Wk1.any _) ?_) (by rw [hB, ok9 f9]; exact ⟨fun h => by simp at h, fun h => absurd h.1 fun hc => by obtain ⟨e1, e2, e3, e4⟩ := hc; omega⟩) ew ef ep rfl rfl
        · refine W.weak (Wk.slots (by (try simp only [List.replicate, List.cons_append, List.nil_append]); repeat' first | exact WkL.nil | refine WkL.cons (Wk1.rfl _) ?_ | refine WkL.cons Wk1.esl ?_ | refine WkL.cons (Wk1.gsl _ _ _) ?_ | refine WkL.cons (Wk1.any _) ?_)) (W.mono (formed_l1 (x := x) ht hfl (hb_0 _ _ _ _) (by simp) (cl3 hcl rfl rfl) (by simp) false) ?_)
          rintro e s H' ⟨rfl, B, hB, rfl, rfl⟩
          simp (maxSteps := 2000000) (disch := omega) only [List.append_assoc, List.cons_append, List.nil_append, go_sem, eq_self, if_true, if_false, reduceCtorEq, Int.reduceToNat, Int.reducePow, Nat.reducePow, Nat.reduceMul, Int.reduceLT, Int.reduceLE, Nat.reduceAdd, Nat.reduceLeDiff, Nat.reduceBEq, Nat.reduceSub, Int.reduceSub, Int.reduceMul, Int.reduceNeg, Int.reduceAdd]
          exact JF.fin hcl (B := B) (by (try simp only [List.replicate, List.cons_append, List.nil_append]); repeat' first | exact WkL.nil | refine WkL.cons (Wk1.rfl _) ?_ | refine WkL.cons Wk1.esl ?_ | refine WkL.cons (Wk1.gsl _ _ _) ?_ | refine WkL.cons (Wk1.any _) ?_) (by rw [hB, ok9 f9]; exact ⟨fun h => by simp at h, fun h => absurd h.1 fun hc => by obtain ⟨e1, e2, e3, e4⟩ := hc; omega⟩) ew ef ep rfl rfl
      · refine ⟨hck, Cont.mk (hfm _ _) ?_⟩
        by_cases c1b : formA t x.base = 9
        · have k1b := feq c1b
          simp (maxSteps := 2000000) (disch := omega) only [k1b, hb_1, hb_2, List.length_map, go_sem, eq_self, if_true, if_false, reduceCtorEq, Int.reduceToNat, Int.reducePow, Nat.reducePow, Nat.reduceMul, Int.reduceLT, Int.reduceLE, Nat.reduceAdd, Nat.reduceLeDiff, Nat.reduceBEq, Nat.reduceSub, Int.reduceSub, Int.reduceMul, Int.reduceNeg, Int.reduceAdd]
          refine Br.dec (fun c2 => ?_) (fun c2 => ?_) <;> simp (maxSteps := 2000000) (disch := omega) only [hb_1, hb_2, go_sem, eq_self, if_true, if_false, reduceCtorEq, Int.reduceToNat, Int.reducePow, Nat.reducePow, Nat.reduceMul, Int.reduceLT, Int.reduceLE, Nat.reduceAdd, Nat.reduceLeDiff, Nat.reduceBEq, Nat.reduceSub, Int.reduceSub, Int.reduceMul, Int.reduceNeg, Int.reduceAdd]
          · refine Br.dec (fun c3 => ?_) (fun c3 => ?_) <;> simp (maxSteps := 2000000) (disch := omega) only [hb_1, hb_2, go_sem, eq_self, if_true, if_false, reduceCtorEq, Int.reduceToNat, Int.reducePow, Nat.reducePow, Nat.reduceMul, Int.reduceLT, Int.reduceLE, Nat.reduceAdd, Nat.reduceLeDiff, Nat.reduceBEq, Nat.reduceSub, Int.reduceSub, Int.reduceMul, Int.reduceNeg, Int.reduceAdd]
            · refine W.weak (Wk.slots (by (try simp only [List.replicate, List.cons_append, List.nil_append]); repeat' first | exact WkL.nil | refine WkL.cons (Wk1.rfl _) ?_ | refine WkL.cons Wk1.esl ?_ | refine WkL.cons (Wk1.gsl _ _ _) ?_ | refine WkL.cons (Wk1.any _) ?_)) (W.mono (formed_l1 (x := x) ht hfl (hb_0 _ _ _ _) (by simp) (cl3 hcl rfl rfl) (by simp) (decide (x.desc < 64))) ?_)
              rintro e s H' ⟨rfl, B, hB, rfl, rfl⟩
              simp (maxSteps := 2000000) (disch := omega) only [List.append_assoc, List.cons_append, List.nil_append, go_sem, eq_self, if_true, if_false, reduceCtorEq, Int.reduceToNat, Int.reducePow, Nat.reducePow, Nat.reduceMul, Int.reduceLT, Int.reduceLE, Nat.reduceAdd, Nat.reduceLeDiff, Nat.reduceBEq, Nat.reduceSub, Int.reduceSub, Int.reduceMul, Int.reduceNeg, Int.reduceAdd]
              exact JF.fin hcl (B := B) (by (try simp only [List.replicate, List.cons_append, List.nil_append]); repeat' first | exact WkL.nil | refine WkL.cons (Wk1.rfl _) ?_ | refine WkL.cons Wk1.esl ?_ | refine WkL.cons (Wk1.gsl _ _ _) ?_ | refine WkL.cons (Wk1.any _) ?_) (by rw [hB, ok9 f9]; exact ⟨fun h => ⟨⟨.inr c1b, by omega, c3, of_decide_eq_true h.1⟩, h.2⟩, fun h => ⟨decide_eq_true h.1.2.2.2, h.2⟩⟩) ew ef ep rfl rfl
            · refine W.weak (Wk.slots (by (try simp only [List.replicate, List.cons_append, List.nil_append]); repeat' first | exact WkL.nil | refine WkL.cons (Wk1.rfl _) ?_ | refine WkL.cons Wk1.esl ?_ | refine WkL.cons (Wk1.gsl _ _ _) ?_ | refine WkL.cons (Wk1.any _) ?_)) (W.mono (formed_l1 (x := x) ht hfl (hb_0 _ _ _ _) (by simp) (cl3 hcl rfl rfl) (by simp) false) ?_)
              rintro e s H' ⟨rfl, B, hB, rfl, rfl⟩
              simp (maxSteps := 2000000) (disch := omega) only [List.append_assoc, List.cons_append, List.nil_append, go_sem, eq_self, if_true, if_false, reduceCtorEq, Int.reduceToNat, Int.reducePow, Nat.reducePow, Nat.reduceMul, Int.reduceLT, Int.reduceLE, Nat.reduceAdd, Nat.reduceLeDiff, Nat.reduceBEq, Nat.reduceSub, Int.reduceSub, Int.reduceMul, Int.reduceNeg, Int.reduceAdd]
              exact JF.fin hcl (B := B) (by (try simp only [List.replicate, List.cons_append, List.nil_append]); repeat' first | exact WkL.nil | refine WkL.cons (Wk1.rfl _) ?_ | refine WkL.cons Wk1.esl ?_ | refine WkL.cons (Wk1.gsl _ _ _) ?_ | refine WkL.cons (Wk1.any _) ?_) (by rw [hB, ok9 f9]; exact ⟨fun h => by simp at h, fun h => absurd h.1 fun hc => by obtain ⟨e1, e2, e3, e4⟩ := hc; omega⟩) ew ef ep rfl rfl
          · refine W.weak (Wk.slots (by (try simp only [List.replicate, List.cons_append, List.nil_append]); repeat' first | exact WkL.nil | refine WkL.cons (Wk1.rfl _) ?_ | refine WkL.cons Wk1.esl ?_ | refine WkL.cons (Wk1.gsl _ _ _) ?_ | refine WkL.cons (Wk1.any _) ?_)) (W.mono (formed_l1 (x := x) ht hfl (hb_0 _ _ _ _) (by simp) (cl3 hcl rfl rfl) (by simp) false) ?_)
            rintro e s H' ⟨rfl, B, hB, rfl, rfl⟩
            simp (maxSteps := 2000000) (disch := omega) only [List.append_assoc, List.cons_append, List.nil_append, go_sem, eq_self, if_true, if_false, reduceCtorEq, Int.reduceToNat, Int.reducePow, Nat.reducePow, Nat.reduceMul, Int.reduceLT, Int.reduceLE, Nat.reduceAdd, Nat.reduceLeDiff, Nat.reduceBEq, Nat.reduceSub, Int.reduceSub, Int.reduceMul, Int.reduceNeg, Int.reduceAdd]
            exact JF.fin hcl (B := B) (by (try simp only [List.replicate, List.cons_append, List.nil_append]); repeat' first | exact WkL.nil | refine WkL.cons (Wk1.rfl _) ?_ | refine WkL.cons Wk1.esl ?_ | refine WkL.cons (Wk1.gsl _ _ _) ?_ | refine WkL.cons (Wk1.any _) ?_) (by rw [hB, ok9 f9]; exact ⟨fun h => by simp at h, fun h => absurd h.1 fun hc => by obtain ⟨e1, e2, e3, e4⟩ := hc; omega⟩) ew ef ep rfl rfl
        · have k1b := fne c1b
          simp (maxSteps := 2000000) (disch := omega) only [k1b, hb_1, hb_2, List.length_map, go_sem, eq_self, if_true, if_false, reduceCtorEq, Int.reduceToNat, Int.reducePow, Nat.reducePow, Nat.reduceMul, Int.reduceLT, Int.reduceLE, Nat.reduceAdd, Nat.reduceLeDiff, Nat.reduceBEq, Nat.reduceSub, Int.reduceSub, Int.reduceMul, Int.reduceNeg, Int.reduceAdd]
          refine W.weak (Wk.slots (by (try simp only [List.replicate, List.cons_append, List.nil_append]); repeat' first | exact WkL.nil | refine WkL.cons (Wk1.rfl _) ?_ | refine WkL.cons Wk1.esl ?_ | refine WkL.cons (Wk1.gsl _ _ _) ?_ | refine WkL.cons (Wk1.any _) ?_)) (W.mono (formed_l1 (x := x) ht hfl (hb_0 _ _ _ _) (by simp) (cl3 hcl rfl rfl) (by simp) false) ?_)
          rintro e s H' ⟨rfl, B, hB, rfl, rfl⟩
          simp (maxSteps := 2000000) (disch := omega) only [List.append_assoc, List.cons_append, List.nil_append, go_sem, eq_self, if_true, if_false, reduceCtorEq, Int.reduceToNat, Int.reducePow, Nat.reducePow, Nat.reduceMul, Int.reduceLT, Int.reduceLE, Nat.reduceAdd, Nat.reduceLeDiff, Nat.reduceBEq, Nat.reduceSub, Int.reduceSub, Int.reduceMul, Int.reduceNeg, Int.reduceAdd]
          exact JF.fin hcl (B := B) (by (try simp only [List.replicate, List.cons_append, List.nil_append]); repeat' first | exact WkL.nil | refine WkL.cons (Wk1.rfl _) ?_ | refine WkL.cons Wk1.esl ?_ | refine WkL.cons (Wk1.gsl _ _ _) ?_ | refine WkL.cons (Wk1.any _) ?_) (by rw [hB, ok9 f9]; exact ⟨fun h => by simp at h, fun h => absurd h.1 fun hc => by rcases hc.1 with h | h; exact c1 h; exact c1b h⟩) ew ef ep rfl rfl
    have k9 := fne f9
    by_cases f10 : x.form = 10
    · have k10 := feq f10
      have ew : 0 = (want x).len ∧ x.elem = (want x).elem ∧ 0 = (want x).base ∧ 0 = (want x).result ∧ 0 = (want x).desc := by simp [want, f10]
      have ef : lenA .esl = some (want x).fields.length ∧ isStr .esl = false := by simp [want, f10, lenA, isStr]
      have ep : lenA .esl = some (want x).params.length ∧ isStr .esl = false := by simp [want, f10, lenA, isStr]
      simp (maxSteps := 2000000) (disch := omega) only [Ty.cs, k7, k8, k9, k10, hb_1, hb_2, hs_2, List.append_assoc, List.cons_append, List.nil_append, go_sem, eq_self, if_true, if_false, reduceCtorEq, Int.reduceToNat, Int.reducePow, Nat.reducePow, Nat.reduceMul, Int.reduceLT, Int.reduceLE, Nat.reduceAdd, Nat.reduceLeDiff, Nat.reduceBEq, Nat.reduceSub, Int.reduceSub, Int.reduceMul, Int.reduceNeg, Int.reduceAdd]
      refine ⟨hck, Cont.mk (hfm _ _) ?_⟩
      simp (maxSteps := 2000000) (disch := omega) only [go_sem, eq_self, if_true, if_false, reduceCtorEq, Int.reduceToNat, Int.reducePow, Nat.reducePow, Nat.reduceMul, Int.reduceLT, Int.reduceLE, Nat.reduceAdd, Nat.reduceLeDiff, Nat.reduceBEq, Nat.reduceSub, Int.reduceSub, Int.reduceMul, Int.reduceNeg, Int.reduceAdd]
      exact JF.fin hcl (B := decide (formA t x.elem = 9)) (by (try simp only [List.replicate, List.cons_append, List.nil_append]); repeat' first | exact WkL.nil | refine WkL.cons (Wk1.rfl _) ?_ | refine WkL.cons Wk1.esl ?_ | refine WkL.cons (Wk1.gsl _ _ _) ?_ | refine WkL.cons (Wk1.any _) ?_) (by simp [okP, f10]) ew ef ep rfl rfl
    have k10 := fne f10
    by_cases f11 : x.form = 11
    · have k11 := feq f11
      have ew : 0 = (want x).len ∧ 0 = (want x).elem ∧ 0 = (want x).base ∧ x.result = (want x).result ∧ 0 = (want x).desc := by simp [want, f11]
      have ef : lenA .esl = some (want x).fields.length ∧ isStr .esl = false := by simp [want, f11, lenA, isStr]
      have ep : lenA (pmv x.params) = some (want x).params.length ∧ isStr (pmv x.params) = false := by simp [want, f11, lenA, isStr]
      simp (maxSteps := 2000000) (disch := omega) only [Ty.cs, k7, k8, k9, k10, k11, hb_1, hb_2, List.append_assoc, List.cons_append, List.nil_append, go_sem, eq_self, if_true, if_false, reduceCtorEq, Int.reduceToNat, Int.reducePow, Nat.reducePow, Nat.reduceMul, Int.reduceLT, Int.reduceLE, Nat.reduceAdd, Nat.reduceLeDiff, Nat.reduceBEq, Nat.reduceSub, Int.reduceSub, Int.reduceMul, Int.reduceNeg, Int.reduceAdd]
      refine W.dregD [([], []), ([], []), ([], [H.length + 2]), ([], [H.length + 2]), ([], []), ([H.length + 2], []), ([], []), ([H.length + 2], [])] follows (by decide +kernel) rfl rfl (fun z hz b hb => ?_) ?_
      · simp only [List.mem_cons, List.not_mem_nil, or_false] at hz
        rcases hz with rfl | rfl | rfl | rfl | rfl | rfl | rfl | rfl <;> simp at hb <;> subst hb <;> exact ⟨by simp, by rw [hb_2]; simp⟩
      repeat (rw [DC_p]; simp (maxSteps := 2000000) (disch := omega) only [kill_c, hs_2, hb_1, hb_2, go_sem, eq_self, if_true, if_false, reduceCtorEq, Int.reduceToNat, Int.reducePow, Nat.reducePow, Nat.reduceMul, Int.reduceLT, Int.reduceLE, Nat.reduceAdd, Nat.reduceLeDiff, Nat.reduceBEq, Nat.reduceSub, Int.reduceSub, Int.reduceMul, Int.reduceNeg, Int.reduceAdd])
      refine WStep.ev (by simp) (by simp) ?_
      simp (maxSteps := 2000000) (disch := omega) only [hb_2, hs_2, go_sem, eq_self, if_true, if_false, reduceCtorEq, Int.reduceToNat, Int.reducePow, Nat.reducePow, Nat.reduceMul, Int.reduceLT, Int.reduceLE, Nat.reduceAdd, Nat.reduceLeDiff, Nat.reduceBEq, Nat.reduceSub, Int.reduceSub, Int.reduceMul, Int.reduceNeg, Int.reduceAdd]
      refine ⟨FrOk.at_ (H.length + 2) _ (by simp) (by rw [hs_2]), ?_⟩
      repeat (rw [DC_p]; simp (maxSteps := 2000000) (disch := omega) only [kill_c, hs_2, hb_1, hb_2, go_sem, eq_self, if_true, if_false, reduceCtorEq, Int.reduceToNat, Int.reducePow, Nat.reducePow, Nat.reduceMul, Int.reduceLT, Int.reduceLE, Nat.reduceAdd, Nat.reduceLeDiff, Nat.reduceBEq, Nat.reduceSub, Int.reduceSub, Int.reduceMul, Int.reduceNeg, Int.reduceAdd])
      refine WStep.ev (by simp) (by simp) ?_
      simp (maxSteps := 2000000) (disch := omega) only [hb_1, hb_2, hs_2, List.length_map, go_sem, eq_self, if_true, if_false, reduceCtorEq, Int.reduceToNat, Int.reducePow, Nat.reducePow, Nat.reduceMul, Int.reduceLT, Int.reduceLE, Nat.reduceAdd, Nat.reduceLeDiff, Nat.reduceBEq, Nat.reduceSub, Int.reduceSub, Int.reduceMul, Int.reduceNeg, Int.reduceAdd]
      refine ⟨FrOk.at_ (H.length + 2) _ (by simp) (by rw [hs_2]), ?_⟩
      refine Br.dec (fun c1 => ?_) (fun c1 => ?_) <;> simp (maxSteps := 2000000) (disch := omega) only [hb_1, hb_2, go_sem, eq_self, if_true, if_false, reduceCtorEq, Int.reduceToNat, Int.reducePow, Nat.reducePow, Nat.reduceMul, Int.reduceLT, Int.reduceLE, Nat.reduceAdd, Nat.reduceLeDiff, Nat.reduceBEq, Nat.reduceSub, Int.reduceSub, Int.reduceMul, Int.reduceNeg, Int.reduceAdd]
      · refine Br.dec (fun c2 => ?_) (fun c2 => ?_) <;> simp (maxSteps := 2000000) (disch := omega) only [hb_1, hb_2, go_sem, eq_self, if_true, if_false, reduceCtorEq, Int.reduceToNat, Int.reducePow, Nat.reducePow, Nat.reduceMul, Int.reduceLT, Int.reduceLE, Nat.reduceAdd, Nat.reduceLeDiff, Nat.reduceBEq, Nat.reduceSub, Int.reduceSub, Int.reduceMul, Int.reduceNeg, Int.reduceAdd]
        · refine W.weak (Wk.slots (by (try simp only [List.replicate, List.cons_append, List.nil_append]); repeat' first | exact WkL.nil | refine WkL.cons (Wk1.rfl _) ?_ | refine WkL.cons Wk1.esl ?_ | refine WkL.cons (Wk1.gsl _ _ _) ?_ | refine WkL.cons (Wk1.any _) ?_)) (W.mono (formed_l0 (x := x) ht hpl (hb_0 _ _ _ _) (by simp) (cl3 hcl rfl rfl) (by simp) true) ?_)
          rintro e s H' ⟨rfl, B, hB, rfl, rfl⟩
          simp (maxSteps := 2000000) (disch := omega) only [List.append_assoc, List.cons_append, List.nil_append, go_sem, eq_self, if_true, if_false, reduceCtorEq, Int.reduceToNat, Int.reducePow, Nat.reducePow, Nat.reduceMul, Int.reduceLT, Int.reduceLE, Nat.reduceAdd, Nat.reduceLeDiff, Nat.reduceBEq, Nat.reduceSub, Int.reduceSub, Int.reduceMul, Int.reduceNeg, Int.reduceAdd]
          exact JF.fin hcl (B := B) (by (try simp only [List.replicate, List.cons_append, List.nil_append]); repeat' first | exact WkL.nil | refine WkL.cons (Wk1.rfl _) ?_ | refine WkL.cons Wk1.esl ?_ | refine WkL.cons (Wk1.gsl _ _ _) ?_ | refine WkL.cons (Wk1.any _) ?_) (by rw [hB, ok11 f11]; exact ⟨fun h => ⟨⟨by omega, .inl c2⟩, h.2⟩, fun h => ⟨rfl, h.2⟩⟩) ew ef ep rfl rfl
        · refine ⟨hck, Cont.mk (hfm _ _) ?_⟩
          simp (maxSteps := 2000000) (disch := omega) only [go_sem, eq_self, if_true, if_false, reduceCtorEq, Int.reduceToNat, Int.reducePow, Nat.reducePow, Nat.reduceMul, Int.reduceLT, Int.reduceLE, Nat.reduceAdd, Nat.reduceLeDiff, Nat.reduceBEq, Nat.reduceSub, Int.reduceSub, Int.reduceMul, Int.reduceNeg, Int.reduceAdd]
          refine Cont.mk (plain_c _ _) ?_
          by_cases hp : plainP (formA t x.result)
          · have hp' := decide_eq_true hp
            simp (maxSteps := 2000000) (disch := omega) only [hp', hb_1, hb_2, go_sem, eq_self, if_true, if_false, reduceCtorEq, Int.reduceToNat, Int.reducePow, Nat.reducePow, Nat.reduceMul, Int.reduceLT, Int.reduceLE, Nat.reduceAdd, Nat.reduceLeDiff, Nat.reduceBEq, Nat.reduceSub, Int.reduceSub, Int.reduceMul, Int.reduceNeg, Int.reduceAdd]
            refine W.weak (Wk.slots (by (try simp only [List.replicate, List.cons_append, List.nil_append]); repeat' first | exact WkL.nil | refine WkL.cons (Wk1.rfl _) ?_ | refine WkL.cons Wk1.esl ?_ | refine WkL.cons (Wk1.gsl _ _ _) ?_ | refine WkL.cons (Wk1.any _) ?_)) (W.mono (formed_l0 (x := x) ht hpl (hb_0 _ _ _ _) (by simp) (cl3 hcl rfl rfl) (by simp) true) ?_)
            rintro e s H' ⟨rfl, B, hB, rfl, rfl⟩
            simp (maxSteps := 2000000) (disch := omega) only [List.append_assoc, List.cons_append, List.nil_append, go_sem, eq_self, if_true, if_false, reduceCtorEq, Int.reduceToNat, Int.reducePow, Nat.reducePow, Nat.reduceMul, Int.reduceLT, Int.reduceLE, Nat.reduceAdd, Nat.reduceLeDiff, Nat.reduceBEq, Nat.reduceSub, Int.reduceSub, Int.reduceMul, Int.reduceNeg, Int.reduceAdd]
            exact JF.fin hcl (B := B) (by (try simp only [List.replicate, List.cons_append, List.nil_append]); repeat' first | exact WkL.nil | refine WkL.cons (Wk1.rfl _) ?_ | refine WkL.cons Wk1.esl ?_ | refine WkL.cons (Wk1.gsl _ _ _) ?_ | refine WkL.cons (Wk1.any _) ?_) (by rw [hB, ok11 f11]; exact ⟨fun h => ⟨⟨by omega, .inr hp⟩, h.2⟩, fun h => ⟨rfl, h.2⟩⟩) ew ef ep rfl rfl
          · have hp' := decide_eq_false hp
            simp (maxSteps := 2000000) (disch := omega) only [hp', hb_1, hb_2, go_sem, eq_self, if_true, if_false, reduceCtorEq, Int.reduceToNat, Int.reducePow, Nat.reducePow, Nat.reduceMul, Int.reduceLT, Int.reduceLE, Nat.reduceAdd, Nat.reduceLeDiff, Nat.reduceBEq, Nat.reduceSub, Int.reduceSub, Int.reduceMul, Int.reduceNeg, Int.reduceAdd]
            refine W.weak (Wk.slots (by (try simp only [List.replicate, List.cons_append, List.nil_append]); repeat' first | exact WkL.nil | refine WkL.cons (Wk1.rfl _) ?_ | refine WkL.cons Wk1.esl ?_ | refine WkL.cons (Wk1.gsl _ _ _) ?_ | refine WkL.cons (Wk1.any _) ?_)) (W.mono (formed_l0 (x := x) ht hpl (hb_0 _ _ _ _) (by simp) (cl3 hcl rfl rfl) (by simp) false) ?_)
            rintro e s H' ⟨rfl, B, hB, rfl, rfl⟩
            simp (maxSteps := 2000000) (disch := omega) only [List.append_assoc, List.cons_append, List.nil_append, go_sem, eq_self, if_true, if_false, reduceCtorEq, Int.reduceToNat, Int.reducePow, Nat.reducePow, Nat.reduceMul, Int.reduceLT, Int.reduceLE, Nat.reduceAdd, Nat.reduceLeDiff, Nat.reduceBEq, Nat.reduceSub, Int.reduceSub, Int.reduceMul, Int.reduceNeg, Int.reduceAdd]
            exact JF.fin hcl (B := B) (by (try simp only [List.replicate, List.cons_append, List.nil_append]); repeat' first | exact WkL.nil | refine WkL.cons (Wk1.rfl _) ?_ | refine WkL.cons Wk1.esl ?_ | refine WkL.cons (Wk1.gsl _ _ _) ?_ | refine WkL.cons (Wk1.any _) ?_) (by rw [hB, ok11 f11]; exact ⟨fun h => by simp at h, fun h => absurd h.1 fun hc => by rcases hc.2 with h | h; exact c2 h; exact hp h⟩) ew ef ep rfl rfl
      · refine W.weak (Wk.slots (by (try simp only [List.replicate, List.cons_append, List.nil_append]); repeat' first | exact WkL.nil | refine WkL.cons (Wk1.rfl _) ?_ | refine WkL.cons Wk1.esl ?_ | refine WkL.cons (Wk1.gsl _ _ _) ?_ | refine WkL.cons (Wk1.any _) ?_)) (W.mono (formed_l0 (x := x) ht hpl (hb_0 _ _ _ _) (by simp) (cl3 hcl rfl rfl) (by simp) false) ?_)
        rintro e s H' ⟨rfl, B, hB, rfl, rfl⟩
        simp (maxSteps := 2000000) (disch := omega) only [List.append_assoc, List.cons_append, List.nil_append, go_sem, eq_self, if_true, if_false, reduceCtorEq, Int.reduceToNat, Int.reducePow, Nat.reducePow, Nat.reduceMul, Int.reduceLT, Int.reduceLE, Nat.reduceAdd, Nat.reduceLeDiff, Nat.reduceBEq, Nat.reduceSub, Int.reduceSub, Int.reduceMul, Int.reduceNeg, Int.reduceAdd]
        exact JF.fin hcl (B := B) (by (try simp only [List.replicate, List.cons_append, List.nil_append]); repeat' first | exact WkL.nil | refine WkL.cons (Wk1.rfl _) ?_ | refine WkL.cons Wk1.esl ?_ | refine WkL.cons (Wk1.gsl _ _ _) ?_ | refine WkL.cons (Wk1.any _) ?_) (by rw [hB, ok11 f11]; exact ⟨fun h => by simp at h, fun h => absurd h.1 fun hc => by obtain ⟨e1, e2⟩ := hc; omega⟩) ew ef ep rfl rfl
    have k11 := fne f11
    have ew : 0 = (want x).len ∧ 0 = (want x).elem ∧ 0 = (want x).base ∧ 0 = (want x).result ∧ 0 = (want x).desc := by simp [want, f7, f8, f9, f10, f11]
    have ef : lenA .esl = some (want x).fields.length ∧ isStr .esl = false := by simp [want, f9, lenA, isStr]
    have ep : lenA .esl = some (want x).params.length ∧ isStr .esl = false := by simp [want, f11, lenA, isStr]
    simp (maxSteps := 2000000) (disch := omega) only [Ty.cs, k7, k8, k9, k10, k11, hb_1, hb_2, hs_2, List.append_assoc, List.cons_append, List.nil_append, go_sem, eq_self, if_true, if_false, reduceCtorEq, Int.reduceToNat, Int.reducePow, Nat.reducePow, Nat.reduceMul, Int.reduceLT, Int.reduceLE, Nat.reduceAdd, Nat.reduceLeDiff, Nat.reduceBEq, Nat.reduceSub, Int.reduceSub, Int.reduceMul, Int.reduceNeg, Int.reduceAdd]
    exact JF.fin hcl (B := false) (by (try simp only [List.replicate, List.cons_append, List.nil_append]); repeat' first | exact WkL.nil | refine WkL.cons (Wk1.rfl _) ?_ | refine WkL.cons Wk1.esl ?_ | refine WkL.cons (Wk1.gsl _ _ _) ?_ | refine WkL.cons (Wk1.any _) ?_) (by simp [okP, f7, f8, f9, f10, f11]) ew ef ep rfl rfl
  · exact fun s H' h => formed_tail hcl hfl hpl h
end Go.Proofs.Ytlhpcccffmfopaa
