/- tables.opens, tables.Fits. -/
import Derived.Test.YtlhpcccffmfopaaGdC
import Derived.Test.YtlhpcccffmfopaaGdA
import Derived.Test.YtlhpcccffmfopaaT15
namespace Go.Proofs.Ytlhpcccffmfopaa
set_option linter.unusedSectionVars false
set_option linter.unusedSimpArgs false
set_option linter.unusedVariables false
set_option maxRecDepth 20000
set_option maxHeartbeats 4000000
open Go.RowKit

/-- Does it fit an open array? -/
inductive Opn (t : List Ty) (bn : Bool) : Int → Int → Prop
  | elem {a b : Int} : ((tyAt t a).form = 7 ∨ (tyAt t a).form = 8) → Sim t (tyAt t a).elem (tyAt t b).elem → Opn t bn a b
  | deep {a b : Int} : ((tyAt t a).form = 7 ∨ (tyAt t a).form = 8) → (tyAt t (tyAt t b).elem).form = 8 → Opn t bn (tyAt t a).elem (tyAt t b).elem → Opn t bn a b
  | text {a b : Int} : (tyAt t a).form = 6 → bn = false → (tyAt t (tyAt t b).elem).form = 3 → Opn t bn a b
noncomputable instance (t : List Ty) (bn : Bool) (a b : Int) : Decidable (Opn t bn a b) := Classical.propDecidable _
theorem Opn.iff {t : List Ty} {bn : Bool} {a b : Int} : Opn t bn a b ↔ (((tyAt t a).form = 7 ∨ (tyAt t a).form = 8) ∧ (Sim t (tyAt t a).elem (tyAt t b).elem ∨ ((tyAt t (tyAt t b).elem).form = 8 ∧ Opn t bn (tyAt t a).elem (tyAt t b).elem))) ∨ ((tyAt t a).form = 6 ∧ bn = false ∧ (tyAt t (tyAt t b).elem).form = 3) :=
  ⟨fun h => by
    cases h with
    | elem h1 h2 => exact .inl ⟨h1, .inl h2⟩
    | deep h1 h2 h3 => exact .inl ⟨h1, .inr ⟨h2, h3⟩⟩
    | text h1 h2 h3 => exact .inr ⟨h1, h2, h3⟩, fun h => by
    rcases h with ⟨h1, h2 | h2⟩ | ⟨h1, h2, h3⟩
    · exact .elem h1 h2
    · exact .deep h1 h2.1 h2.2
    · exact .text h1 h2 h3⟩
theorem opens_c {t : List Ty} (ht : TT t) (hg : GoodP t) (bn : Bool) {b : Int} (hac : Acc (KdC t) b) : placeP t b → (tyAt t b).form = 8 → ∀ a, placeP t a → ∀ H, ACalls Try.prog 63 [tv t, iv a, iv b, bv bn] H fun v H' => v = bv (decide (Opn t bn a b)) ∧ H' = H := by
  induction hac with
  | intro b _ ih =>
  intro hb f8 a ha H
  generalize hB : decide (Opn t bn a b) = B
  have hO : (B = true ↔ _) := Iff.trans (by rw [← hB, decide_eq_true_iff]) Opn.iff
  have hbe := hg.opn hb.1 hb.2 f8
  have hkid : KdC t (tyAt t b).elem b := by show _ ∈ kidsC t b; rw [kids_arr (.inr f8)]; simp
  have ihe := ih _ hkid hbe
  refine ACalls.enter Try.func63 cc63 rr63 fun hcl => ?_
  have iax := iaA_ty ha.1 ha.2
  have iay := iaA_ty hb.1 hb.2
  have iae := iaA_ty hbe.1 hbe.2
  have ka7 := hg.arr ha.1 ha.2
  have ka8 := hg.opn ha.1 ha.2
  have fin : ∀ {v : Bool}, v = B → ∀ l, Ret r63 H.length (fun v H' => v = bv B ∧ H' = H) (some (bv v)) (H ++ l) := fun {v} e l => Ret.drop (bv B) H (Nat.le_refl _) hcl (by rw [e]; exact .rfl _) (by simp [refs]) ⟨rfl, rfl⟩
  have sm : ∀ c d, placeP t c → placeP t d → ∀ H, ACalls Try.prog 38 [tv t, iv c, iv d] H fun v H' => v = bv (simF t c d) ∧ H' = H := fun c d hc hd H => tsame_c ht hg hc hd H
  have hsf : ∀ c d, simF t c d = true ↔ Sim t c d := fun c d => decide_eq_true_iff
  clear hB ih
  generalize hx : tyAt t a = x at *
  generalize hy : tyAt t b = y at *
  generalize hz : tyAt t y.elem = z at *
  simp only [Try.ntmps63, c63, r63]
  refine W.seq_reg ?_
  simp (maxSteps := 2000000) (disch := omega) only [go_sem, eq_self, if_true, if_false, reduceCtorEq, Int.reduceToNat, Int.reducePow, Nat.reducePow, Nat.reduceMul, Int.reduceLT, Int.reduceLE, Nat.reduceAdd, Nat.reduceLeDiff, Nat.reduceBEq, Nat.reduceSub, Int.reduceSub, Int.reduceMul, Int.reduceNeg, Int.reduceAdd]
  refine W.cut (fun s H' => s = [tv t, iv a, iv b, bv bn, .any, .any, .any, .any, bv false, .ptr H.length 0, .ptr (H.length + 1) 0] ++ List.replicate 50 .any ∧ H' = H ++ axs x y) ?_ ?_
  · refine W.dregD [([], [H.length, H.length + 1]), ([], [H.length, H.length + 1]), ([], [H.length, H.length + 1]), ([], [H.length, H.length + 1]), ([], [H.length, H.length + 1, H.length]), ([], [H.length, H.length + 1, H.length]), ([], [H.length, H.length + 1, H.length]), ([], [H.length, H.length + 1, H.length]), ([H.length], [H.length + 1]), ([H.length + 1], [H.length]), ([H.length], []), ([H.length + 1], [])] follows (by decide +kernel) rfl rfl (fun z hz b hb => ?_) ?_
    · simp only [List.mem_cons, List.not_mem_nil, or_false] at hz
      rcases hz with rfl | rfl | rfl | rfl | rfl | rfl | rfl | rfl | rfl | rfl | rfl | rfl <;> simp at hb <;> subst hb <;> exact ⟨by simp, by rw [List.getElem?_eq_none (by simp)]; exact fun h => by cases h⟩
    have hk0 : H.set H.length .dead = H := List.set_eq_of_length_le (Nat.le_refl _)
    have hk1 : H.set (H.length + 1) .dead = H := List.set_eq_of_length_le (by omega)
    repeat (rw [DC_p]; simp (maxSteps := 2000000) (disch := omega) only [kill_c, hk0, hk1, iax, iay, Ty.c, List.set_nil, go_sem, eq_self, if_true, if_false, reduceCtorEq, Int.reduceToNat, Int.reducePow, Nat.reducePow, Nat.reduceMul, Int.reduceLT, Int.reduceLE, Nat.reduceAdd, Nat.reduceLeDiff, Nat.reduceBEq, Nat.reduceSub, Int.reduceSub, Int.reduceMul, Int.reduceNeg, Int.reduceAdd])
    refine WStep.al (by simp) (by simp) ?_
    simp (maxSteps := 2000000) (disch := omega) only [go_sem, eq_self, if_true, if_false, reduceCtorEq, Int.reduceToNat, Int.reducePow, Nat.reducePow, Nat.reduceMul, Int.reduceLT, Int.reduceLE, Nat.reduceAdd, Nat.reduceLeDiff, Nat.reduceBEq, Nat.reduceSub, Int.reduceSub, Int.reduceMul, Int.reduceNeg, Int.reduceAdd]
    refine WStep.al (by simp) (by simp) ?_
    simp (maxSteps := 2000000) (disch := omega) only [go_sem, eq_self, if_true, if_false, reduceCtorEq, Int.reduceToNat, Int.reducePow, Nat.reducePow, Nat.reduceMul, Int.reduceLT, Int.reduceLE, Nat.reduceAdd, Nat.reduceLeDiff, Nat.reduceBEq, Nat.reduceSub, Int.reduceSub, Int.reduceMul, Int.reduceNeg, Int.reduceAdd]
    refine WStep.ev (by simp) (by simp) ?_
    simp (maxSteps := 2000000) (disch := omega) only [go_sem, eq_self, if_true, if_false, reduceCtorEq, Int.reduceToNat, Int.reducePow, Nat.reducePow, Nat.reduceMul, Int.reduceLT, Int.reduceLE, Nat.reduceAdd, Nat.reduceLeDiff, Nat.reduceBEq, Nat.reduceSub, Int.reduceSub, Int.reduceMul, Int.reduceNeg, Int.reduceAdd]
    refine ⟨FrOk.put 0 _ (by simp) rfl, ?_⟩
    refine WStep.ev (by simp) (by simp) ?_
    simp (maxSteps := 2000000) (disch := omega) only [go_sem, eq_self, if_true, if_false, reduceCtorEq, Int.reduceToNat, Int.reducePow, Nat.reducePow, Nat.reduceMul, Int.reduceLT, Int.reduceLE, Nat.reduceAdd, Nat.reduceLeDiff, Nat.reduceBEq, Nat.reduceSub, Int.reduceSub, Int.reduceMul, Int.reduceNeg, Int.reduceAdd]
    refine ⟨FrOk.put 1 _ (by simp) rfl, ?_⟩
    exact ⟨_, _, Wk.slots (by (try simp only [List.replicate, List.cons_append, List.nil_append]); repeat' first | exact WkL.nil | refine WkL.cons (Wk1.rfl _) ?_ | refine WkL.cons Wk1.esl ?_ | refine WkL.cons (Wk1.gsl _ _ _) ?_ | refine WkL.cons (Wk1.any _) ?_), rfl, rfl⟩
  rintro s H' ⟨rfl, rfl⟩
  refine wpA.W ?_
  by_cases f78 : x.form = 7 ∨ x.form = 8
  · have hae : placeP t x.elem := by
      rcases f78 with f | f
      · exact ka7 f
      · exact ka8 f
    rcases f78 with f | f <;> (
      simp (maxSteps := 2000000) (disch := omega) only [Ty.cs, f, List.append_assoc, List.cons_append, List.nil_append, go_sem, eq_self, if_true, if_false, reduceCtorEq, Int.reduceToNat, Int.reducePow, Nat.reducePow, Nat.reduceMul, Int.reduceLT, Int.reduceLE, Nat.reduceAdd, Nat.reduceLeDiff, Nat.reduceBEq, Nat.reduceSub, Int.reduceSub, Int.reduceMul, Int.reduceNeg, Int.reduceAdd]
      refine Cont.mk (sm _ _ hae hbe _) ?_
      cases hS : simF t x.elem y.elem
      · by_cases z8 : z.form = 8
        · simp (maxSteps := 2000000) (disch := omega) only [Ty.cs, Ty.c, iae, hz, z8, go_sem, eq_self, if_true, if_false, reduceCtorEq, Int.reduceToNat, Int.reducePow, Nat.reducePow, Nat.reduceMul, Int.reduceLT, Int.reduceLE, Nat.reduceAdd, Nat.reduceLeDiff, Nat.reduceBEq, Nat.reduceSub, Int.reduceSub, Int.reduceMul, Int.reduceNeg, Int.reduceAdd]
          refine Cont.mk (ihe z8 _ hae _) ?_
          simp (maxSteps := 2000000) (disch := omega) only [go_sem, eq_self, if_true, if_false, reduceCtorEq, Int.reduceToNat, Int.reducePow, Nat.reducePow, Nat.reduceMul, Int.reduceLT, Int.reduceLE, Nat.reduceAdd, Nat.reduceLeDiff, Nat.reduceBEq, Nat.reduceSub, Int.reduceSub, Int.reduceMul, Int.reduceNeg, Int.reduceAdd]
          refine fin (Bool.eq_iff_iff.2 ?_) _
          rw [decide_eq_true_iff, hO]
          have := hsf x.elem y.elem
          rw [hS] at this
          simp [f, z8, ← this]
        · simp (maxSteps := 2000000) (disch := omega) only [Ty.cs, Ty.c, iae, hz, go_sem, eq_self, if_true, if_false, reduceCtorEq, Int.reduceToNat, Int.reducePow, Nat.reducePow, Nat.reduceMul, Int.reduceLT, Int.reduceLE, Nat.reduceAdd, Nat.reduceLeDiff, Nat.reduceBEq, Nat.reduceSub, Int.reduceSub, Int.reduceMul, Int.reduceNeg, Int.reduceAdd]
          refine fin (Bool.eq_iff_iff.2 ?_) _
          rw [hO]
          have := hsf x.elem y.elem
          rw [hS] at this
          simp [f, z8, ← this]
      · simp (maxSteps := 2000000) (disch := omega) only [Ty.cs, go_sem, eq_self, if_true, if_false, reduceCtorEq, Int.reduceToNat, Int.reducePow, Nat.reducePow, Nat.reduceMul, Int.reduceLT, Int.reduceLE, Nat.reduceAdd, Nat.reduceLeDiff, Nat.reduceBEq, Nat.reduceSub, Int.reduceSub, Int.reduceMul, Int.reduceNeg, Int.reduceAdd]
        refine fin (Bool.eq_iff_iff.2 ?_) _
        rw [hO]
        have := (hsf x.elem y.elem).1 hS
        simp [f, this])
  by_cases f6 : x.form = 6
  · cases bn
    · simp (maxSteps := 2000000) (disch := omega) only [Ty.cs, Ty.c, f6, iae, hz, List.append_assoc, List.cons_append, List.nil_append, go_sem, eq_self, if_true, if_false, reduceCtorEq, Int.reduceToNat, Int.reducePow, Nat.reducePow, Nat.reduceMul, Int.reduceLT, Int.reduceLE, Nat.reduceAdd, Nat.reduceLeDiff, Nat.reduceBEq, Nat.reduceSub, Int.reduceSub, Int.reduceMul, Int.reduceNeg, Int.reduceAdd]
      refine fin (Bool.eq_iff_iff.2 ?_) _
      rw [hO]
      simp [f6]
    · simp (maxSteps := 2000000) (disch := omega) only [Ty.cs, f6, List.append_assoc, List.cons_append, List.nil_append, go_sem, eq_self, if_true, if_false, reduceCtorEq, Int.reduceToNat, Int.reducePow, Nat.reducePow, Nat.reduceMul, Int.reduceLT, Int.reduceLE, Nat.reduceAdd, Nat.reduceLeDiff, Nat.reduceBEq, Nat.reduceSub, Int.reduceSub, Int.reduceMul, Int.reduceNeg, Int.reduceAdd]
      refine fin (Bool.eq_iff_iff.2 ?_) _
      rw [hO]
      simp [f6]
  · have f7 : x.form ≠ 7 := fun e => f78 (.inl e)
    have f8' : x.form ≠ 8 := fun e => f78 (.inr e)
    simp (maxSteps := 2000000) (disch := omega) only [Ty.cs, List.append_assoc, List.cons_append, List.nil_append, go_sem, eq_self, if_true, if_false, reduceCtorEq, Int.reduceToNat, Int.reducePow, Nat.reducePow, Nat.reduceMul, Int.reduceLT, Int.reduceLE, Nat.reduceAdd, Nat.reduceLeDiff, Nat.reduceBEq, Nat.reduceSub, Int.reduceSub, Int.reduceMul, Int.reduceNeg, Int.reduceAdd]
    refine fin (Bool.eq_iff_iff.2 ?_) _
    rw [hO]
    simp [f6, f7, f8']
end Go.Proofs.Ytlhpcccffmfopaa

/- tables.Fits, types.Fits. -/
namespace Go.Proofs.Ytlhpcccffmfopaa
set_option linter.unusedSimpArgs false
set_option linter.unusedVariables false
set_option maxRecDepth 20000
set_option maxHeartbeats 4000000
open Go.RowKit

noncomputable def asgG (t : List Ty) (a b : Int) : Bool := asgF t a b (simF t a b) (simF t (tyAt t a).elem (tyAt t b).elem)
theorem tasg_c {t : List Ty} (ht : TT t) (hg : GoodP t) {a b : Int} (ha : placeP t a) (hb : placeP t b) (H : List ABlk) : ACalls Try.prog 40 [tv t, iv a, iv b] H fun v H' => v = bv (asgG t a b) ∧ H' = H :=
  asg_c ht.k hg ha.1 ha.2 hb.1 hb.2 (tsame_c ht hg ha hb) (fun f8 f7 => tsame_c ht hg (hg.opn ha.1 ha.2 f8) (hg.arr hb.1 hb.2 f7)) H
def fitV (x y : Int) (var O S E A : Bool) : Bool :=
  if y = 8 ∧ O = true then true
  else if var = true then (decide (x ≠ 0 ∧ x ≠ 5 ∧ x ≠ 6) && (S || (decide (x = 9) && E)))
  else (A && (decide (x ≠ 8 ∧ x ≠ 6) || decide (y ≠ 7)))
noncomputable def fitF (t : List Ty) (a : Int) (p : Pm) : Bool := fitV (tyAt t a).form (tyAt t p.typ).form p.var (decide (Opn t p.var a p.typ)) (simF t a p.typ) (decide (ExtP t a p.typ)) (asgG t a p.typ)
abbrev Pm.av (p : Pm) : AV := .agg [bv p.var, iv p.typ]
theorem fits_c {t : List Ty} (ht : TT t) (hg : GoodP t) {a : Int} (ha : placeP t a) {p : Pm} (hb : placeP t p.typ) (H : List ABlk) : ACalls Try.prog 42 [tv t, iv a, p.av] H fun v H' => v = bv (fitF t a p) ∧ H' = H := by
  generalize hB : fitF t a p = B
  have op : (tyAt t p.typ).form = 8 → ∀ H, ACalls Try.prog 63 [tv t, iv a, iv p.typ, bv p.var] H fun v H' => v = bv (decide (Opn t p.var a p.typ)) ∧ H' = H := fun f8 => opens_c ht hg p.var (hg.acc _ hb.1 hb.2) hb f8 a ha
  have sm : ∀ H, ACalls Try.prog 38 [tv t, iv a, iv p.typ] H fun v H' => v = bv (simF t a p.typ) ∧ H' = H := tsame_c ht hg ha hb
  have ex : ∀ H, ACalls Try.prog 39 [tv t, iv a, iv p.typ] H fun v H' => v = bv (decide (ExtP t a p.typ)) ∧ H' = H := ext_c ht.k hg ha.1 ha.2 hb.1 hb.2
  have asn : ∀ H, ACalls Try.prog 40 [tv t, iv a, iv p.typ] H fun v H' => v = bv (asgG t a p.typ) ∧ H' = H := tasg_c ht hg ha hb
  refine ACalls.enter Try.func42 cc42 rr42 fun hcl => ?_
  have iax := iaA_ty ha.1 ha.2
  have iay := iaA_ty hb.1 hb.2
  have fin : ∀ {v : Bool}, v = B → ∀ l, Ret r42 H.length (fun v H' => v = bv B ∧ H' = H) (some (bv v)) (H ++ l) := fun {v} e l => Ret.drop (bv B) H (Nat.le_refl _) hcl (by rw [e]; exact .rfl _) (by simp [refs]) ⟨rfl, rfl⟩
  unfold fitF fitV at hB
  generalize decide (Opn t p.var a p.typ) = O at *
  generalize simF t a p.typ = S at *
  generalize decide (ExtP t a p.typ) = E at *
  generalize asgG t a p.typ = A at *
  obtain ⟨var, b⟩ := p
  simp only [Pm.av] at *
  generalize hx : tyAt t a = x at *
  generalize hy : tyAt t b = y at *
  simp only [Try.ntmps42, c42, r42]
  refine W.seq_reg ?_
  simp (maxSteps := 2000000) (disch := omega) only [go_sem, eq_self, if_true, if_false, reduceCtorEq, Int.reduceToNat, Int.reducePow, Nat.reducePow, Nat.reduceMul, Int.reduceLT, Int.reduceLE, Nat.reduceAdd, Nat.reduceLeDiff, Nat.reduceBEq, Nat.reduceSub, Int.reduceSub, Int.reduceMul, Int.reduceNeg, Int.reduceAdd]
  refine W.cut (fun s H' => s = [tv t, iv a, .any, .any, .any, .ptr H.length 0, bv false, .ptr (H.length + 1) 0, .ptr (H.length + 2) 0] ++ List.replicate 75 .any ∧ H' = H ++ [.cells [bv var, iv b], .cells x.cs, .cells y.cs]) ?_ ?_
  · refine W.dregD [([], [H.length + 1, H.length + 2]), ([], [H.length + 1, H.length + 2]), ([], [H.length + 1, H.length + 2]), ([], [H.length + 1, H.length + 2]), ([], [H.length + 1, H.length + 2, H.length + 1]), ([], [H.length + 1, H.length + 2, H.length + 1]), ([], [H.length + 1, H.length + 2, H.length + 1]), ([], [H.length + 1, H.length + 2, H.length + 1]), ([], [H.length + 1, H.length + 2, H.length + 1]), ([H.length + 1], [H.length + 2]), ([H.length + 2], [H.length + 1]), ([H.length + 1], []), ([H.length + 2], [])] follows (by decide +kernel) rfl rfl (fun z hz b hb => ?_) ?_
    · simp only [List.mem_cons, List.not_mem_nil, or_false] at hz
      rcases hz with rfl | rfl | rfl | rfl | rfl | rfl | rfl | rfl | rfl | rfl | rfl | rfl | rfl <;> simp at hb <;> subst hb <;> exact ⟨by simp, by rw [List.getElem?_eq_none (by simp)]; exact fun h => by cases h⟩
    repeat (rw [DC_p]; simp (maxSteps := 2000000) (disch := omega) only [kill_c, iax, iay, Ty.c, List.set_nil, List.set_cons_succ, go_sem, eq_self, if_true, if_false, reduceCtorEq, Int.reduceToNat, Int.reducePow, Nat.reducePow, Nat.reduceMul, Int.reduceLT, Int.reduceLE, Nat.reduceAdd, Nat.reduceLeDiff, Nat.reduceBEq, Nat.reduceSub, Int.reduceSub, Int.reduceMul, Int.reduceNeg, Int.reduceAdd])
    refine WStep.al (by simp) (by simp) ?_
    simp (maxSteps := 2000000) (disch := omega) only [go_sem, eq_self, if_true, if_false, reduceCtorEq, Int.reduceToNat, Int.reducePow, Nat.reducePow, Nat.reduceMul, Int.reduceLT, Int.reduceLE, Nat.reduceAdd, Nat.reduceLeDiff, Nat.reduceBEq, Nat.reduceSub, Int.reduceSub, Int.reduceMul, Int.reduceNeg, Int.reduceAdd]
    refine WStep.al (by simp) (by simp) ?_
    simp (maxSteps := 2000000) (disch := omega) only [go_sem, eq_self, if_true, if_false, reduceCtorEq, Int.reduceToNat, Int.reducePow, Nat.reducePow, Nat.reduceMul, Int.reduceLT, Int.reduceLE, Nat.reduceAdd, Nat.reduceLeDiff, Nat.reduceBEq, Nat.reduceSub, Int.reduceSub, Int.reduceMul, Int.reduceNeg, Int.reduceAdd]
    refine WStep.ev (by simp) (by simp) ?_
    simp (maxSteps := 2000000) (disch := omega) only [go_sem, eq_self, if_true, if_false, reduceCtorEq, Int.reduceToNat, Int.reducePow, Nat.reducePow, Nat.reduceMul, Int.reduceLT, Int.reduceLE, Nat.reduceAdd, Nat.reduceLeDiff, Nat.reduceBEq, Nat.reduceSub, Int.reduceSub, Int.reduceMul, Int.reduceNeg, Int.reduceAdd]
    refine ⟨FrOk.put 1 _ (by simp) rfl, ?_⟩
    refine WStep.ev (by simp) (by simp) ?_
    simp (maxSteps := 2000000) (disch := omega) only [go_sem, eq_self, if_true, if_false, reduceCtorEq, Int.reduceToNat, Int.reducePow, Nat.reducePow, Nat.reduceMul, Int.reduceLT, Int.reduceLE, Nat.reduceAdd, Nat.reduceLeDiff, Nat.reduceBEq, Nat.reduceSub, Int.reduceSub, Int.reduceMul, Int.reduceNeg, Int.reduceAdd]
    refine ⟨FrOk.put 2 _ (by simp) rfl, ?_⟩
    exact ⟨_, _, Wk.slots (by (try simp only [List.replicate, List.cons_append, List.nil_append]); repeat' first | exact WkL.nil | refine WkL.cons (Wk1.rfl _) ?_ | refine WkL.cons Wk1.esl ?_ | refine WkL.cons (Wk1.gsl _ _ _) ?_ | refine WkL.cons (Wk1.any _) ?_), rfl, rfl⟩
  rintro s H' ⟨rfl, rfl⟩
  refine W.cut (fun s H' => (s = [tv t, iv a, .any, .any, .any, .ptr H.length 0, bv false, .ptr (H.length + 1) 0, .ptr (H.length + 2) 0] ++ List.replicate 75 .any ∧ H' = H ++ [.cells [bv var, iv b], .cells x.cs, .cells y.cs]) ∧ ¬ (y.form = 8 ∧ O = true)) (wpA.W ?_) ?_
  · by_cases y8 : y.form = 8
    · simp (maxSteps := 2000000) (disch := omega) only [Ty.cs, y8, List.append_assoc, List.cons_append, List.nil_append, go_sem, eq_self, if_true, if_false, reduceCtorEq, Int.reduceToNat, Int.reducePow, Nat.reducePow, Nat.reduceMul, Int.reduceLT, Int.reduceLE, Nat.reduceAdd, Nat.reduceLeDiff, Nat.reduceBEq, Nat.reduceSub, Int.reduceSub, Int.reduceMul, Int.reduceNeg, Int.reduceAdd]
      refine Cont.mk (op y8 _) ?_
      cases O
      · simp (maxSteps := 2000000) (disch := omega) only [go_sem, eq_self, if_true, if_false, reduceCtorEq, Int.reduceToNat, Int.reducePow, Nat.reducePow, Nat.reduceMul, Int.reduceLT, Int.reduceLE, Nat.reduceAdd, Nat.reduceLeDiff, Nat.reduceBEq, Nat.reduceSub, Int.reduceSub, Int.reduceMul, Int.reduceNeg, Int.reduceAdd]
        exact ⟨_, _, Wk.slots (by (try simp only [List.replicate, List.cons_append, List.nil_append]); repeat' first | exact WkL.nil | refine WkL.cons (Wk1.rfl _) ?_ | refine WkL.cons Wk1.esl ?_ | refine WkL.cons (Wk1.gsl _ _ _) ?_ | refine WkL.cons (Wk1.any _) ?_), ⟨rfl, rfl⟩, by simp⟩
      · rw [if_pos ⟨y8, rfl⟩] at hB
        simp (maxSteps := 2000000) (disch := omega) only [go_sem, eq_self, if_true, if_false, reduceCtorEq, Int.reduceToNat, Int.reducePow, Nat.reducePow, Nat.reduceMul, Int.reduceLT, Int.reduceLE, Nat.reduceAdd, Nat.reduceLeDiff, Nat.reduceBEq, Nat.reduceSub, Int.reduceSub, Int.reduceMul, Int.reduceNeg, Int.reduceAdd]
        exact fin hB _
    · simp (maxSteps := 2000000) (disch := omega) only [Ty.cs, List.append_assoc, List.cons_append, List.nil_append, go_sem, eq_self, if_true, if_false, reduceCtorEq, Int.reduceToNat, Int.reducePow, Nat.reducePow, Nat.reduceMul, Int.reduceLT, Int.reduceLE, Nat.reduceAdd, Nat.reduceLeDiff, Nat.reduceBEq, Nat.reduceSub, Int.reduceSub, Int.reduceMul, Int.reduceNeg, Int.reduceAdd]
      exact ⟨_, _, Wk.slots (by (try simp only [List.replicate, List.cons_append, List.nil_append]); repeat' first | exact WkL.nil | refine WkL.cons (Wk1.rfl _) ?_ | refine WkL.cons Wk1.esl ?_ | refine WkL.cons (Wk1.gsl _ _ _) ?_ | refine WkL.cons (Wk1.any _) ?_), ⟨rfl, rfl⟩, fun h => h.1.elim⟩
  rintro s H' ⟨⟨rfl, rfl⟩, hno⟩
  rw [if_neg hno] at hB
  refine wpA.W ?_
  cases var
  rotate_left
  · simp only [if_true] at hB
    by_cases f0 : x.form = 0 ∨ x.form = 5 ∨ x.form = 6
    · rw [decf (by omega), Bool.false_and] at hB
      rcases f0 with f | f | f <;> (simp (maxSteps := 2000000) (disch := omega) only [Ty.cs, f, List.append_assoc, List.cons_append, List.nil_append, go_sem, eq_self, if_true, if_false, reduceCtorEq, Int.reduceToNat, Int.reducePow, Nat.reducePow, Nat.reduceMul, Int.reduceLT, Int.reduceLE, Nat.reduceAdd, Nat.reduceLeDiff, Nat.reduceBEq, Nat.reduceSub, Int.reduceSub, Int.reduceMul, Int.reduceNeg, Int.reduceAdd]; exact fin hB _)
    · rw [dect (by omega), Bool.true_and] at hB
      simp (maxSteps := 2000000) (disch := omega) only [Ty.cs, List.append_assoc, List.cons_append, List.nil_append, go_sem, eq_self, if_true, if_false, reduceCtorEq, Int.reduceToNat, Int.reducePow, Nat.reducePow, Nat.reduceMul, Int.reduceLT, Int.reduceLE, Nat.reduceAdd, Nat.reduceLeDiff, Nat.reduceBEq, Nat.reduceSub, Int.reduceSub, Int.reduceMul, Int.reduceNeg, Int.reduceAdd]
      refine Cont.mk (sm _) ?_
      cases S
      · by_cases f9 : x.form = 9
        · rw [dect f9] at hB
          simp (maxSteps := 2000000) (disch := omega) only [Ty.cs, f9, go_sem, eq_self, if_true, if_false, reduceCtorEq, Int.reduceToNat, Int.reducePow, Nat.reducePow, Nat.reduceMul, Int.reduceLT, Int.reduceLE, Nat.reduceAdd, Nat.reduceLeDiff, Nat.reduceBEq, Nat.reduceSub, Int.reduceSub, Int.reduceMul, Int.reduceNeg, Int.reduceAdd]
          refine Cont.mk (ex _) ?_
          simp (maxSteps := 2000000) (disch := omega) only [go_sem, eq_self, if_true, if_false, reduceCtorEq, Int.reduceToNat, Int.reducePow, Nat.reducePow, Nat.reduceMul, Int.reduceLT, Int.reduceLE, Nat.reduceAdd, Nat.reduceLeDiff, Nat.reduceBEq, Nat.reduceSub, Int.reduceSub, Int.reduceMul, Int.reduceNeg, Int.reduceAdd]
          exact fin (by rw [← hB]; simp) _
        · rw [decf f9] at hB
          simp (maxSteps := 2000000) (disch := omega) only [Ty.cs, go_sem, eq_self, if_true, if_false, reduceCtorEq, Int.reduceToNat, Int.reducePow, Nat.reducePow, Nat.reduceMul, Int.reduceLT, Int.reduceLE, Nat.reduceAdd, Nat.reduceLeDiff, Nat.reduceBEq, Nat.reduceSub, Int.reduceSub, Int.reduceMul, Int.reduceNeg, Int.reduceAdd]
          exact fin (by rw [← hB]; simp) _
      · simp (maxSteps := 2000000) (disch := omega) only [Ty.cs, go_sem, eq_self, if_true, if_false, reduceCtorEq, Int.reduceToNat, Int.reducePow, Nat.reducePow, Nat.reduceMul, Int.reduceLT, Int.reduceLE, Nat.reduceAdd, Nat.reduceLeDiff, Nat.reduceBEq, Nat.reduceSub, Int.reduceSub, Int.reduceMul, Int.reduceNeg, Int.reduceAdd]
        exact fin (by rw [← hB]; simp) _
  · simp only [Bool.false_eq_true, if_false] at hB
    simp (maxSteps := 2000000) (disch := omega) only [Ty.cs, List.append_assoc, List.cons_append, List.nil_append, go_sem, eq_self, if_true, if_false, reduceCtorEq, Int.reduceToNat, Int.reducePow, Nat.reducePow, Nat.reduceMul, Int.reduceLT, Int.reduceLE, Nat.reduceAdd, Nat.reduceLeDiff, Nat.reduceBEq, Nat.reduceSub, Int.reduceSub, Int.reduceMul, Int.reduceNeg, Int.reduceAdd]
    refine Cont.mk (asn _) ?_
    cases A
    · simp (maxSteps := 2000000) (disch := omega) only [Ty.cs, go_sem, eq_self, if_true, if_false, reduceCtorEq, Int.reduceToNat, Int.reducePow, Nat.reducePow, Nat.reduceMul, Int.reduceLT, Int.reduceLE, Nat.reduceAdd, Nat.reduceLeDiff, Nat.reduceBEq, Nat.reduceSub, Int.reduceSub, Int.reduceMul, Int.reduceNeg, Int.reduceAdd]
      exact fin (by rw [← hB]; simp) _
    by_cases f8 : x.form = 8
    · simp (maxSteps := 2000000) (disch := omega) only [Ty.cs, f8, go_sem, eq_self, if_true, if_false, reduceCtorEq, Int.reduceToNat, Int.reducePow, Nat.reducePow, Nat.reduceMul, Int.reduceLT, Int.reduceLE, Nat.reduceAdd, Nat.reduceLeDiff, Nat.reduceBEq, Nat.reduceSub, Int.reduceSub, Int.reduceMul, Int.reduceNeg, Int.reduceAdd]
      exact fin (by rw [← hB]; simp [f8]) _
    by_cases f6 : x.form = 6
    · simp (maxSteps := 2000000) (disch := omega) only [Ty.cs, f6, go_sem, eq_self, if_true, if_false, reduceCtorEq, Int.reduceToNat, Int.reducePow, Nat.reducePow, Nat.reduceMul, Int.reduceLT, Int.reduceLE, Nat.reduceAdd, Nat.reduceLeDiff, Nat.reduceBEq, Nat.reduceSub, Int.reduceSub, Int.reduceMul, Int.reduceNeg, Int.reduceAdd]
      exact fin (by rw [← hB]; simp [f6]) _
    simp (maxSteps := 2000000) (disch := omega) only [Ty.cs, go_sem, eq_self, if_true, if_false, reduceCtorEq, Int.reduceToNat, Int.reducePow, Nat.reducePow, Nat.reduceMul, Int.reduceLT, Int.reduceLE, Nat.reduceAdd, Nat.reduceLeDiff, Nat.reduceBEq, Nat.reduceSub, Int.reduceSub, Int.reduceMul, Int.reduceNeg, Int.reduceAdd]
    exact fin (by rw [← hB]; simp [f8, f6]) _
theorem tyfit_c {t : List Ty} (ht : TT t) (a : Int) (p : Pm) {S : Bool} (hS : PlP t [a, p.typ] → ∀ H, ACalls Try.prog 42 [tv t, iv a, p.av] H fun v H' => v = bv S ∧ H' = H) (H : List ABlk) :
    ACalls Try.prog 24 [tv t, iv a, p.av] H fun v H' => v = bv (decide (PlP t [a, p.typ]) && S) ∧ H' = H := by
  refine ACalls.into Try.func24 cc24 rr24 fun hcl => ?_
  have fin : ∀ (v : Bool) l, Ret r24 H.length (fun v' H' => v' = bv v ∧ H' = H) (some (bv v)) (H ++ l) := fun v l => Ret.drop (bv v) H (Nat.le_refl _) hcl (.rfl _) (by simp [refs]) ⟨rfl, rfl⟩
  simp (maxSteps := 2000000) (disch := omega) only [Try.ntmps24, c24, r24, go_sem, eq_self, if_true, if_false, reduceCtorEq, Int.reduceToNat, Int.reducePow, Nat.reducePow, Nat.reduceMul, Int.reduceLT, Int.reduceLE, Nat.reduceAdd, Nat.reduceLeDiff, Nat.reduceBEq, Nat.reduceSub, Int.reduceSub, Int.reduceMul, Int.reduceNeg, Int.reduceAdd]
  refine Cont.mk (places_c ht [a, p.typ] (by simp) _) ?_
  by_cases hp : PlP t [a, p.typ]
  · have kp := decide_eq_true hp
    rw [kp]
    simp (maxSteps := 2000000) (disch := omega) only [go_sem, eq_self, if_true, if_false, reduceCtorEq, Int.reduceToNat, Int.reducePow, Nat.reducePow, Nat.reduceMul, Int.reduceLT, Int.reduceLE, Nat.reduceAdd, Nat.reduceLeDiff, Nat.reduceBEq, Nat.reduceSub, Int.reduceSub, Int.reduceMul, Int.reduceNeg, Int.reduceAdd]
    refine Cont.mk (hS hp _) ?_
    simp (maxSteps := 2000000) (disch := omega) only [go_sem, eq_self, if_true, if_false, reduceCtorEq, Int.reduceToNat, Int.reducePow, Nat.reducePow, Nat.reduceMul, Int.reduceLT, Int.reduceLE, Nat.reduceAdd, Nat.reduceLeDiff, Nat.reduceBEq, Nat.reduceSub, Int.reduceSub, Int.reduceMul, Int.reduceNeg, Int.reduceAdd]
    exact fin S _
  · have kp := decide_eq_false hp
    rw [kp]
    simp (maxSteps := 2000000) (disch := omega) only [go_sem, eq_self, if_true, if_false, reduceCtorEq, Int.reduceToNat, Int.reducePow, Nat.reducePow, Nat.reduceMul, Int.reduceLT, Int.reduceLE, Nat.reduceAdd, Nat.reduceLeDiff, Nat.reduceBEq, Nat.reduceSub, Int.reduceSub, Int.reduceMul, Int.reduceNeg, Int.reduceAdd]
    exact fin false _
end Go.Proofs.Ytlhpcccffmfopaa

/- Plain law: a table with more types. -/
namespace Go.Proofs.Ytlhpcccffmfopaa
set_option linter.unusedSimpArgs false
set_option linter.unusedVariables false

section
variable {t u : List Ty}
theorem tyAt_app {a : Int} (h : placeP t a) : tyAt (t ++ u) a = tyAt t a := by
  have h1 := h.1
  have h2 := h.2
  rw [tyAt, tyAt, List.getD_eq_getElem?_getD, List.getD_eq_getElem?_getD, List.getElem?_append_left (by omega)]
theorem placeP.app {a : Int} (h : placeP t a) : placeP (t ++ u) a := ⟨h.1, by have := h.2; rw [List.length_append]; omega⟩
theorem tyAt_new {i : Nat} : tyAt (t ++ u) ((t.length : Int) + i) = u.getD i default := by
  rw [tyAt, show ((t.length : Int) + i).toNat = t.length + i by omega, List.getD_eq_getElem?_getD, List.getD_eq_getElem?_getD, List.getElem?_append_right (by omega), Nat.add_sub_cancel_left]
theorem formA_app {n : Int} (h : formA t n ≠ -1) : formA (t ++ u) n = formA t n := by
  obtain ⟨h0, h1, h2⟩ := formA_ne h
  have hp : placeP t n := ⟨h0, h1⟩
  rw [formA, if_pos (show 0 ≤ n ∧ n < ((t ++ u).length : Nat) from (hp.app (u := u))), tyAt_app hp, h2]
theorem part_app {n : Int} (h : partP (formA t n)) : partP (formA (t ++ u) n) := by
  rw [formA_app (by rcases h with h | h | h <;> omega)]; exact h
theorem is_app {n k : Int} (h : formA t n = k) (hk : k ≠ -1) : formA (t ++ u) n = k := by
  rw [formA_app (by omega)]; exact h
theorem FormedP.app {x : Ty} (h : FormedP t x) : FormedP (t ++ u) x := by
  refine ⟨?_, h.2⟩
  rcases h.1 with h | h | h | h | h
  · exact .inl ⟨h.1, h.2.1, h.2.2.1, part_app h.2.2.2⟩
  · exact .inr (.inl ⟨h.1, h.2.imp part_app fun k => is_app k (by decide)⟩)
  · exact .inr (.inr (.inl ⟨h.1, h.2.1.imp_right fun k => is_app k (by decide), h.2.2.1, h.2.2.2.1, h.2.2.2.2.1, fun f hf => ⟨(h.2.2.2.2.2 f hf).1, part_app (h.2.2.2.2.2 f hf).2⟩⟩))
  · exact .inr (.inr (.inr (.inl ⟨h.1, is_app h.2 (by decide)⟩)))
  · refine .inr (.inr (.inr (.inr ⟨h.1, h.2.1, h.2.2.1.imp_right fun k => ?_, fun p hp => (h.2.2.2 p hp).imp part_app fun k => is_app k (by decide)⟩)))
    rw [formA_app (by rcases k with k | k | k <;> omega)]; exact k
theorem easy_app {a b : Int} (ha : placeP t a) (hb : placeP t b) : easyF (t ++ u) a b = easyF t a b := by
  unfold easyF
  rw [tyAt_app ha, tyAt_app hb]
theorem GoodP.elem {a : Int} (h : GoodP t) (ha : placeP t a) (f : (tyAt t a).form = 7 ∨ (tyAt t a).form = 8 ∨ (tyAt t a).form = 10) : placeP t (tyAt t a).elem := by
  rcases f with f | f | f
  · exact h.arr ha.1 ha.2 f
  · exact h.opn ha.1 ha.2 f
  · have := h.ptr ha.1 ha.2 f; exact ⟨this.1, this.2.1⟩
/-- The parts are types of the table. -/
theorem GoodP.step {a b : Int} (h : GoodP t) (ha : placeP t a) (hb : placeP t b) (hf : (tyAt t a).form = (tyAt t b).form) {R : Int → Int → Prop} (hs : stepP t R a b) : stepP t (fun c d => placeP t c ∧ placeP t d ∧ R c d) a b := by
  rcases hs with ⟨h1, h2, h3, h4, h5⟩ | ⟨h1, h2, h3, h4⟩
  · exact .inl ⟨h1, h2, h3, h4, h.elem ha h1, h.elem hb (by rw [← hf]; exact h1), h5⟩
  · have pa := h.prc ha.1 ha.2 h1
    have pb := h.prc hb.1 hb.2 (by omega)
    have hm : ∀ (l : List Pm) i, i < l.length → l.getD i default ∈ l := fun l i hi => by
      rw [List.getD_eq_getElem?_getD, List.getElem?_eq_getElem hi]; exact List.getElem_mem _
    exact .inr ⟨h1, h2, fun i hi => ⟨(h3 i hi).1, pa.1 _ (hm _ i hi), pb.1 _ (hm _ i (by omega)), (h3 i hi).2⟩, pa.2, pb.2, h4⟩
theorem step_app {a b : Int} {R : Int → Int → Prop} (ha : placeP t a) (hb : placeP t b) : stepP (t ++ u) R a b ↔ stepP t R a b := by
  unfold stepP
  rw [tyAt_app ha, tyAt_app hb]
theorem sim_app (h : GoodP t) {a b : Int} (ha : placeP t a) (hb : placeP t b) : Sim (t ++ u) a b ↔ Sim t a b := by
  constructor
  · intro hs
    refine ⟨fun c d => placeP t c ∧ placeP t d ∧ Sim (t ++ u) c d, ⟨ha, hb, hs⟩, fun c d ⟨hc, hd, k⟩ => ?_⟩
    rcases k.un with k | ⟨k, k'⟩
    · exact .inl (by rw [← easy_app hc hd]; exact k)
    · rw [easy_app hc hd] at k
      exact .inr ⟨k, h.step hc hd (easy_form k) ((step_app hc hd).1 k')⟩
  · intro hs
    refine ⟨fun c d => placeP t c ∧ placeP t d ∧ Sim t c d, ⟨ha, hb, hs⟩, fun c d ⟨hc, hd, k⟩ => ?_⟩
    rcases k.un with k | ⟨k, k'⟩
    · exact .inl (by rw [easy_app hc hd]; exact k)
    · exact .inr ⟨by rw [easy_app hc hd]; exact k, (step_app hc hd).2 (h.step hc hd (easy_form k) k')⟩
theorem simF_app (h : GoodP t) {a b : Int} (ha : placeP t a) (hb : placeP t b) : simF (t ++ u) a b = simF t a b := by
  have := sim_app (u := u) h ha hb
  unfold simF
  by_cases k : Sim t a b
  · rw [dect k, dect (this.2 k)]
  · rw [decf k, decf fun k' => k (this.1 k')]
theorem RecIn.pl {a : Int} (h : RecIn t a) : placeP t a := ⟨h.1, h.2.1⟩
theorem chain_app (h : GoodP t) : ∀ {n : Nat} {a : Int}, RecIn t a → chain (t ++ u) n a = chain t n a
  | 0, a, _ => rfl
  | n + 1, a, ha => by
    simp only [chain]
    rw [tyAt_app ha.pl]
    rcases h.base ha with hb | hb
    · rw [if_pos hb, if_pos hb]
    · rw [chain_app h hb]
theorem ext_app (h : GoodP t) {a b : Int} (ha : placeP t a) (hb : placeP t b) : ExtP (t ++ u) a b ↔ ExtP t a b := by
  unfold ExtP ExtR
  rw [tyAt_app ha, tyAt_app hb]
  refine and_congr_right fun hf => or_congr (and_congr_right fun f => ?_) (and_congr_right fun f => ?_)
  · rw [chain_app h ⟨ha.1, ha.2, f⟩]
  · rw [chain_app h (h.ptr ha.1 ha.2 f)]
theorem asgV_app {x y z z' : Int} {S E T T' : Bool} (hz : y = 7 → z = z') (hT : x = 8 → y = 7 → T = T') : asgV x y z S E T = asgV x y z' S E T' := by
  unfold asgV
  by_cases y7 : y = 7
  · rw [hz y7]
    by_cases x8 : x = 8
    · rw [hT x8 y7]
    · simp only [if_neg x8]
  · simp [y7]
theorem asgG_app (h : GoodP t) {a b : Int} (ha : placeP t a) (hb : placeP t b) : asgG (t ++ u) a b = asgG t a b := by
  unfold asgG asgF
  rw [simF_app h ha hb, tyAt_app ha, tyAt_app hb]
  have : decide (ExtP (t ++ u) a b) = decide (ExtP t a b) := by
    have := ext_app (u := u) h ha hb
    by_cases k : ExtP t a b
    · rw [dect k, dect (this.2 k)]
    · rw [decf k, decf fun k' => k (this.1 k')]
  rw [this]
  exact asgV_app (fun y7 => by rw [tyAt_app (h.arr hb.1 hb.2 y7)]) (fun x8 y7 => simF_app h (h.opn ha.1 ha.2 x8) (h.arr hb.1 hb.2 y7))
theorem opn_app (h : GoodP t) (bn : Bool) {b : Int} (hac : Acc (KdC t) b) : placeP t b → (tyAt t b).form = 8 → ∀ a, placeP t a → (Opn (t ++ u) bn a b ↔ Opn t bn a b) := by
  induction hac with
  | intro b _ ih =>
  intro hb f8 a ha
  have hbe := h.opn hb.1 hb.2 f8
  have hkid : KdC t (tyAt t b).elem b := by show _ ∈ kidsC t b; rw [kids_arr (.inr f8)]; simp
  refine Iff.trans Opn.iff (Iff.trans ?_ Opn.iff.symm)
  rw [tyAt_app ha, tyAt_app hb, tyAt_app hbe]
  refine or_congr (and_congr_right fun f => ?_) .rfl
  have hae : placeP t (tyAt t a).elem := h.elem ha (f.imp_right .inl)
  rw [sim_app h hae hbe]
  exact or_congr .rfl (and_congr_right fun z8 => ih _ hkid hbe z8 _ hae)
theorem fit_app (h : GoodP t) {a : Int} {p : Pm} (ha : placeP t a) (hb : placeP t p.typ) : fitF (t ++ u) a p = fitF t a p := by
  unfold fitF fitV
  rw [simF_app h ha hb, asgG_app h ha hb, tyAt_app ha, tyAt_app hb]
  have e : decide (ExtP (t ++ u) a p.typ) = decide (ExtP t a p.typ) := by
    have := ext_app (u := u) h ha hb
    by_cases k : ExtP t a p.typ
    · rw [dect k, dect (this.2 k)]
    · rw [decf k, decf fun k' => k (this.1 k')]
  rw [e]
  by_cases f8 : (tyAt t p.typ).form = 8
  · have := opn_app (u := u) h p.var (h.acc _ hb.1 hb.2) hb f8 a ha
    by_cases k : Opn t p.var a p.typ
    · rw [dect k, dect (this.2 k)]
    · rw [decf k, decf fun k' => k (this.1 k')]
  · simp [f8]
/-- Types that only name types ahead of them. -/
structure NewP (t u : List Ty) : Prop where
  len : t.length + u.length ≤ 256
  frm : ∀ i, i < u.length → FormedP (t ++ u) (u.getD i default)
  kid : ∀ i : Nat, i < u.length → ∀ y ∈ kidsC (t ++ u) ((t.length : Int) + i), 0 ≤ y ∧ y < (t.length : Int) + i
  rec_ : ∀ i, i < u.length → (u.getD i default).form = 9 → (u.getD i default).base = 0 ∧ (u.getD i default).desc = -1 ∧ ((u.getD i default).fields.map Fd.name).Nodup
theorem getD_app_l {i : Nat} (h : i < t.length) : (t ++ u).getD i default = t.getD i default := by
  rw [List.getD_eq_getElem?_getD, List.getD_eq_getElem?_getD, List.getElem?_append_left h]
theorem getD_app_r {i : Nat} (h : t.length ≤ i) : (t ++ u).getD i default = u.getD (i - t.length) default := by
  rw [List.getD_eq_getElem?_getD, List.getD_eq_getElem?_getD, List.getElem?_append_right h]
theorem kids_app {a : Int} (ha : placeP t a) : kidsC (t ++ u) a = kidsC t a := by unfold kidsC; rw [tyAt_app ha]
theorem names_app {l : List Int} (h : ∀ c ∈ l, placeP t c) : namesL (t ++ u) l = namesL t l := by
  induction l with
  | nil => rfl
  | cons c l ih =>
    simp only [namesL, List.flatMap_cons]
    rw [tyAt_app (h c (by simp))]
    have := ih fun d hd => h d (by simp [hd])
    simp only [namesL] at this
    rw [this]
theorem GoodP.app (h : GoodP t) (k : NewP t u) : GoodP (t ++ u) := by
  have hl := h.len
  have hlen : (t ++ u).length = t.length + u.length := List.length_append
  have accT : ∀ a : Int, Acc (KdC t) a → placeP t a → Acc (KdC (t ++ u)) a := fun a ha => by
    induction ha with
    | intro a _ ih =>
      intro hp
      refine ⟨_, fun y hy => ?_⟩
      have hy' : y ∈ kidsC t a := by rw [← kids_app (u := u) hp]; exact hy
      exact ih y hy' (h.toFrmP.kid hp.1 hp.2 hy')
  have accN : ∀ n : Nat, ∀ i : Nat, i ≤ n → i < t.length + u.length → Acc (KdC (t ++ u)) (i : Int) := by
    intro n
    induction n using Nat.strongRecOn with
    | _ n ih =>
      intro i hi hi2
      by_cases hlt : i < t.length
      · exact accT _ (h.acc _ (by omega) (by omega)) ⟨by omega, by omega⟩
      · refine ⟨_, fun y hy => ?_⟩
        have hk := k.kid (i - t.length) (by omega) y (by rw [show ((t.length : Int) + (i - t.length : Nat)) = i by omega]; exact hy)
        have := ih y.toNat (by omega) y.toNat (Nat.le_refl _) (by omega)
        rwa [show ((y.toNat : Nat) : Int) = y by omega] at this
  refine ⟨⟨by rw [hlen]; have := k.len; omega, fun i hi => ?_, fun i h7 hi => ?_⟩, fun a a0 a1 => ?_, fun i j hij hj => ?_, fun i hi => ?_⟩
  · rw [getD_app_l (by omega)]; exact h.bas i hi
  · by_cases hlt : i < t.length
    · rw [getD_app_l hlt]; exact (h.frm i h7 hlt).app
    · rw [getD_app_r (by omega)]; exact k.frm _ (by omega)
  · have := accN a.toNat a.toNat (Nat.le_refl _) (by omega)
    rwa [show ((a.toNat : Nat) : Int) = a by omega] at this
  · by_cases hlt : j < t.length
    · rw [getD_app_l hlt, getD_app_l (by omega)]; exact h.uni i j hij hlt
    · rintro ⟨_, h9, h0, _, he⟩
      rw [getD_app_r (show t.length ≤ j by omega)] at h9 he
      have := (k.rec_ _ (by omega) h9).2.1
      omega
  · rintro ⟨h9, hc⟩
    by_cases hlt : i < t.length
    · rw [getD_app_l hlt] at h9
      have hr : RecIn t (i : Int) := ⟨by omega, by omega, h9⟩
      refine hc ?_
      have hch : ChainP t i := Classical.byContradiction fun hn => h.chn i hlt ⟨h9, hn⟩
      unfold ChainP at hch ⊢
      rw [chain_app h hr, names_app fun c hc => (h.chain_rec hr c hc).pl]
      exact hch
    · rw [getD_app_r (by omega)] at h9
      obtain ⟨b0, _, nd⟩ := k.rec_ _ (by omega) h9
      have e : tyAt (t ++ u) (i : Int) = u.getD (i - t.length) default := by
        have := tyAt_new (t := t) (u := u) (i := i - t.length)
        rwa [show ((t.length : Int) + (i - t.length : Nat)) = i by omega] at this
      refine hc ?_
      unfold ChainP namesL
      simp only [chain]
      rw [e, b0, if_pos rfl]
      simpa [e] using nd
end
end Go.Proofs.Ytlhpcccffmfopaa

/- TypesRoom. -/
namespace Go.Proofs.Ytlhpcccffmfopaa
set_option linter.unusedSimpArgs false
set_option linter.unusedVariables false
set_option maxRecDepth 20000
set_option maxHeartbeats 4000000
open Go.RowKit

theorem PlP.a {t : List Ty} {a b : Int} (h : PlP t [a, b]) : placeP t a ∧ placeP t b ∧ GoodP t := ⟨h.1 a (by simp), h.1 b (by simp), h.2⟩
section
variable {t : List Ty} (ht : TT t)
include ht
theorem gv_good (hg : GoodP t) (B : Nat) (H : List ABlk) : ACalls Try.prog 15 [.gsl B 10 (t.map Ty.c)] H fun v H' => v = bv true ∧ H' = H := by
  have := tgood_c ht H
  rw [good_t hg] at this
  exact this.weak (.cons (.gsl _ _ _) .nil)
theorem gv_same (a b : Int) (B : Nat) (H : List ABlk) : ACalls Try.prog 20 [.gsl B 10 (t.map Ty.c), iv a, iv b] H fun v H' => v = bv (decide (PlP t [a, b]) && simF t a b) ∧ H' = H :=
  (tysame_c ht a b (fun h => tsame_c ht h.a.2.2 h.a.1 h.a.2.1) H).weak (.cons (.gsl _ _ _) (.cons (.rfl _) (.cons (.rfl _) .nil)))
theorem gv_ext (a b : Int) (B : Nat) (H : List ABlk) : ACalls Try.prog 21 [.gsl B 10 (t.map Ty.c), iv a, iv b] H fun v H' => v = bv (decide (PlP t [a, b]) && decide (ExtP t a b)) ∧ H' = H :=
  (tyext_c ht a b (fun h => ext_c ht.k h.a.2.2 h.a.1.1 h.a.1.2 h.a.2.1.1 h.a.2.1.2) H).weak (.cons (.gsl _ _ _) (.cons (.rfl _) (.cons (.rfl _) .nil)))
theorem gv_asg (a b : Int) (B : Nat) (H : List ABlk) : ACalls Try.prog 22 [.gsl B 10 (t.map Ty.c), iv a, iv b] H fun v H' => v = bv (decide (PlP t [a, b]) && asgG t a b) ∧ H' = H :=
  (tyasg_c ht a b (fun h => tasg_c ht h.a.2.2 h.a.1 h.a.2.1) H).weak (.cons (.gsl _ _ _) (.cons (.rfl _) (.cons (.rfl _) .nil)))
theorem gv_fit (a : Int) (p : Pm) (B : Nat) (H : List ABlk) : ACalls Try.prog 24 [.gsl B 10 (t.map Ty.c), iv a, .agg [bv p.var, iv p.typ]] H fun v H' => v = bv (decide (PlP t [a, p.typ]) && fitF t a p) ∧ H' = H :=
  (tyfit_c ht a p (fun h => fits_c ht h.a.2.2 h.a.1 h.a.2.1) H).weak (.cons (.gsl _ _ _) (.cons (.rfl _) (.cons (.rfl _) .nil)))
end
theorem formA_bt {t : List Ty} (h : GoodP t) {n : Int} (h0 : 0 ≤ n) (h7 : n < 7) : formA t n = n := by
  have hl := h.len
  rw [formA, if_pos ⟨h0, by omega⟩, tyAt_lt h.toFrmP h0 h7]; rfl
def roomU : List Ty := [⟨7, se, se, 2, 1, 0, [], [], 0, 0⟩, ⟨8, se, se, 0, 3, 0, [], [], 0, 0⟩]
theorem room_new {t : List Ty} (h : GoodP t) (hl : t.length ≤ 250) : NewP t roomU := by
  have h7 := h.len.1
  have hu : roomU.length = 2 := rfl
  have f1 : partP (formA (t ++ roomU) 1) := part_app (by rw [formA_bt h (by decide) (by decide)]; exact .inl (by decide))
  have f3 : partP (formA (t ++ roomU) 3) := part_app (by rw [formA_bt h (by decide) (by decide)]; exact .inl (by decide))
  refine ⟨by omega, fun i hi => ?_, fun i hi y hy => ?_, fun i hi h9 => ?_⟩
  · have : i = 0 ∨ i = 1 := by omega
    rcases this with rfl | rfl
    · exact ⟨.inl ⟨rfl, by decide, by decide, f1⟩, .inl ⟨rfl, rfl, by decide⟩, ⟨rfl, rfl, rfl, rfl, rfl, rfl, rfl⟩⟩
    · exact ⟨.inr (.inl ⟨rfl, .inl f3⟩), .inl ⟨rfl, rfl, by decide⟩, ⟨rfl, rfl, rfl, rfl, rfl, rfl, rfl⟩⟩
  · have : i = 0 ∨ i = 1 := by omega
    rcases this with rfl | rfl
    · rw [kids_arr (.inl (by rw [tyAt_new]; rfl)), tyAt_new] at hy
      rw [List.mem_singleton.1 hy]
      show (0 : Int) ≤ 1 ∧ (1 : Int) < _
      omega
    · rw [kids_arr (.inr (by rw [tyAt_new]; rfl)), tyAt_new] at hy
      rw [List.mem_singleton.1 hy]
      show (0 : Int) ≤ 3 ∧ (3 : Int) < _
      omega
  · have : i = 0 ∨ i = 1 := by omega
    rcases this with rfl | rfl <;> exact absurd h9 (by decide)
theorem TT.app {t u : List Ty} (h : TT t) (hl : t.length + u.length ≤ 300) (hu : ∀ x ∈ u, x.fields.length ≤ 1 ∧ x.params = [] ∧ x.mod.size ≤ 2 ∧ x.name = se ∧ ∀ f ∈ x.fields, f.name.size ≤ 1) : TT (t ++ u) := by
  have hse : se.size = 0 := rfl
  refine ⟨⟨by rw [List.length_append]; exact hl, fun x hx => ?_⟩, fun x hx f hf => ?_, ⟨by rw [List.length_append]; omega, fun x hx => ?_⟩⟩
  · rcases List.mem_append.1 hx with hx | hx
    · exact h.s.2 x hx
    · obtain ⟨h1, h2, h3, h4, _⟩ := hu x hx
      rw [h2, h4, hse]; exact ⟨by omega, by simp, by omega, by omega⟩
  · rcases List.mem_append.1 hx with hx | hx
    · exact h.n x hx f hf
    · have := (hu x hx).2.2.2.2 f hf; omega
  · rcases List.mem_append.1 hx with hx | hx
    · exact h.k.2 x hx
    · obtain ⟨h1, h2, h3, h4, _⟩ := hu x hx
      refine ⟨by omega, by rw [h2]; simp, by omega, by rw [h4, hse]; omega⟩
theorem TypesRoom_c {t : List Ty} (hk : TOk t) (hn : FNames t) (a b : Int) (ia : -9223372036854775808 ≤ a ∧ a < 9223372036854775808) (H : List ABlk) : ACalls Try.prog 6 [tv t, iv a, iv b] H fun v H' => v = bv true ∧ H' = H := by
  refine ACalls.into Try.func6 cc6 rr6 fun hcl => ?_
  have fin : ∀ l, Ret r6 H.length (fun v H' => v = bv true ∧ H' = H) (some (bv true)) (H ++ l) := fun l => Ret.drop (bv true) H (Nat.le_refl _) hcl (.rfl _) (by simp [refs]) ⟨rfl, rfl⟩
  have fin0 : Ret r6 H.length (fun v H' => v = bv true ∧ H' = H) (some (bv true)) H := Ret.keep ⟨rfl, rfl⟩
  simp (maxSteps := 2000000) (disch := omega) only [Try.ntmps6, c6, r6, go_sem, eq_self, if_true, if_false, reduceCtorEq, Int.reduceToNat, Int.reducePow, Nat.reducePow, Nat.reduceMul, Int.reduceLT, Int.reduceLE, Nat.reduceAdd, Nat.reduceLeDiff, Nat.reduceBEq, Nat.reduceSub, Int.reduceSub, Int.reduceMul, Int.reduceNeg, Int.reduceAdd]
  refine Cont.rel (large_c hk _) ?_
  rintro v H' ⟨⟨B, rfl, hB⟩, rfl⟩
  cases B
  rotate_left
  · simp (maxSteps := 2000000) (disch := omega) only [go_sem, eq_self, if_true, if_false, reduceCtorEq, Int.reduceToNat, Int.reducePow, Nat.reducePow, Nat.reduceMul, Int.reduceLT, Int.reduceLE, Nat.reduceAdd, Nat.reduceLeDiff, Nat.reduceBEq, Nat.reduceSub, Int.reduceSub, Int.reduceMul, Int.reduceNeg, Int.reduceAdd]
    refine Cont.mk (wakes_c _) ?_
    simp (maxSteps := 2000000) (disch := omega) only [go_sem, eq_self, if_true, if_false, reduceCtorEq, Int.reduceToNat, Int.reducePow, Nat.reducePow, Nat.reduceMul, Int.reduceLT, Int.reduceLE, Nat.reduceAdd, Nat.reduceLeDiff, Nat.reduceBEq, Nat.reduceSub, Int.reduceSub, Int.reduceMul, Int.reduceNeg, Int.reduceAdd]
    exact fin0
  have hs := hB rfl
  have htt : TT t := ⟨hs, hn, hk⟩
  have hlen := hs.1
  simp (maxSteps := 2000000) (disch := omega) only [go_sem, eq_self, if_true, if_false, reduceCtorEq, Int.reduceToNat, Int.reducePow, Nat.reducePow, Nat.reduceMul, Int.reduceLT, Int.reduceLE, Nat.reduceAdd, Nat.reduceLeDiff, Nat.reduceBEq, Nat.reduceSub, Int.reduceSub, Int.reduceMul, Int.reduceNeg, Int.reduceAdd]
  refine Cont.mk (rgood_c hs hn hk _) ?_
  by_cases hg : GoodP t
  rotate_left
  · rw [good_f hg]
    simp (maxSteps := 2000000) (disch := omega) only [go_sem, eq_self, if_true, if_false, reduceCtorEq, Int.reduceToNat, Int.reducePow, Nat.reducePow, Nat.reduceMul, Int.reduceLT, Int.reduceLE, Nat.reduceAdd, Nat.reduceLeDiff, Nat.reduceBEq, Nat.reduceSub, Int.reduceSub, Int.reduceMul, Int.reduceNeg, Int.reduceAdd]
    refine Cont.mk (wakes_c _) ?_
    simp (maxSteps := 2000000) (disch := omega) only [go_sem, eq_self, if_true, if_false, reduceCtorEq, Int.reduceToNat, Int.reducePow, Nat.reducePow, Nat.reduceMul, Int.reduceLT, Int.reduceLE, Nat.reduceAdd, Nat.reduceLeDiff, Nat.reduceBEq, Nat.reduceSub, Int.reduceSub, Int.reduceMul, Int.reduceNeg, Int.reduceAdd]
    exact fin0
  rw [good_t hg]
  by_cases hl : t.length ≤ 250
  rotate_left
  · simp (maxSteps := 2000000) (disch := omega) only [List.length_map, go_sem, eq_self, if_true, if_false, reduceCtorEq, Int.reduceToNat, Int.reducePow, Nat.reducePow, Nat.reduceMul, Int.reduceLT, Int.reduceLE, Nat.reduceAdd, Nat.reduceLeDiff, Nat.reduceBEq, Nat.reduceSub, Int.reduceSub, Int.reduceMul, Int.reduceNeg, Int.reduceAdd]
    refine Cont.mk (wakes_c _) ?_
    simp (maxSteps := 2000000) (disch := omega) only [go_sem, eq_self, if_true, if_false, reduceCtorEq, Int.reduceToNat, Int.reducePow, Nat.reducePow, Nat.reduceMul, Int.reduceLT, Int.reduceLE, Nat.reduceAdd, Nat.reduceLeDiff, Nat.reduceBEq, Nat.reduceSub, Int.reduceSub, Int.reduceMul, Int.reduceNeg, Int.reduceAdd]
    exact fin0
  have hg2 : GoodP (t ++ roomU) := hg.app (room_new hg hl)
  have htt2 : TT (t ++ roomU) := htt.app (by show t.length + 2 ≤ 300; omega) (fun x hx => by
    simp only [roomU, List.mem_cons, List.not_mem_nil, or_false] at hx
    rcases hx with rfl | rfl <;> exact ⟨by decide, rfl, by decide, rfl, fun f hf => by cases hf⟩)
  simp (maxSteps := 2000000) (disch := omega) only [List.length_map, go_sem, eq_self, if_true, if_false, reduceCtorEq, Int.reduceToNat, Int.reducePow, Nat.reducePow, Nat.reduceMul, Int.reduceLT, Int.reduceLE, Nat.reduceAdd, Nat.reduceLeDiff, Nat.reduceBEq, Nat.reduceSub, Int.reduceSub, Int.reduceMul, Int.reduceNeg, Int.reduceAdd]
  refine Cont.mk (copy_c hs _) ?_
  simp (maxSteps := 2000000) (disch := omega) only [List.length_map, go_sem, eq_self, if_true, if_false, reduceCtorEq, Int.reduceToNat, Int.reducePow, Nat.reducePow, Nat.reduceMul, Int.reduceLT, Int.reduceLE, Nat.reduceAdd, Nat.reduceLeDiff, Nat.reduceBEq, Nat.reduceSub, Int.reduceSub, Int.reduceMul, Int.reduceNeg, Int.reduceAdd]
  refine Cont.mk (copy_c hs _) ?_
  have hm : t.map Ty.c ++ [[.v (.int .i64 7), .v (.string se), .v (.string se), .v (.int .i64 2), .v (.int .i64 1), .v (.int .i64 0), .sl [], .sl [], .v (.int .i64 0), .v (.int .i64 0)], [.v (.int .i64 8), .v (.string se), .v (.string se), .v (.int .i64 0), .v (.int .i64 3), .v (.int .i64 0), .sl [], .sl [], .v (.int .i64 0), .v (.int .i64 0)]] = (t ++ roomU).map Ty.c := by rw [List.map_append]; rfl
  by_cases hp : placeP t a ∧ placeP t b
  rotate_left
  · have hq : ¬ PlP t [a, b] := fun h => hp ⟨h.a.1, h.a.2.1⟩
    have no : a < 0 ∨ b < 0 ∨ ¬ a < t.length ∨ ¬ b < t.length := by
      rcases Int.lt_or_le a 0 with h | h
      · exact .inl h
      rcases Int.lt_or_le b 0 with h' | h'
      · exact .inr (.inl h')
      by_cases h2 : a < t.length
      · exact .inr (.inr (.inr fun h3 => hp ⟨⟨h, h2⟩, h', h3⟩))
      · exact .inr (.inr (.inl h2))
    have s1 := gv_same htt a b
    have s2 := gv_ext htt a b
    have s3 := gv_asg htt a b
    simp only [decf hq, Bool.false_and] at s1 s2 s3
    have c0 : ∀ p : Prop, p ∨ ¬ p := fun p => Classical.em p
    rcases c0 (a < 0) with a0 | a0
    · simp (maxSteps := 2000000) (disch := omega) only [List.length_map, go_sem, eq_self, if_true, if_false, reduceCtorEq, Int.reduceToNat, Int.reducePow, Nat.reducePow, Nat.reduceMul, Int.reduceLT, Int.reduceLE, Nat.reduceAdd, Nat.reduceLeDiff, Nat.reduceBEq, Nat.reduceSub, Int.reduceSub, Int.reduceMul, Int.reduceNeg, Int.reduceAdd]
      refine Cont.mk (s1 _ _) ?_
      simp (maxSteps := 2000000) (disch := omega) only [go_sem, eq_self, if_true, if_false, reduceCtorEq, Int.reduceToNat, Int.reducePow, Nat.reducePow, Nat.reduceMul, Int.reduceLT, Int.reduceLE, Nat.reduceAdd, Nat.reduceLeDiff, Nat.reduceBEq, Nat.reduceSub, Int.reduceSub, Int.reduceMul, Int.reduceNeg, Int.reduceAdd]
      refine Cont.mk (s2 _ _) ?_
      simp (maxSteps := 2000000) (disch := omega) only [go_sem, eq_self, if_true, if_false, reduceCtorEq, Int.reduceToNat, Int.reducePow, Nat.reducePow, Nat.reduceMul, Int.reduceLT, Int.reduceLE, Nat.reduceAdd, Nat.reduceLeDiff, Nat.reduceBEq, Nat.reduceSub, Int.reduceSub, Int.reduceMul, Int.reduceNeg, Int.reduceAdd]
      refine Cont.mk (s3 _ _) ?_
      simp (maxSteps := 2000000) (disch := omega) only [go_sem, eq_self, if_true, if_false, reduceCtorEq, Int.reduceToNat, Int.reducePow, Nat.reducePow, Nat.reduceMul, Int.reduceLT, Int.reduceLE, Nat.reduceAdd, Nat.reduceLeDiff, Nat.reduceBEq, Nat.reduceSub, Int.reduceSub, Int.reduceMul, Int.reduceNeg, Int.reduceAdd]
      refine Cont.mk (wakes_c _) ?_
      simp (maxSteps := 2000000) (disch := omega) only [go_sem, eq_self, if_true, if_false, reduceCtorEq, Int.reduceToNat, Int.reducePow, Nat.reducePow, Nat.reduceMul, Int.reduceLT, Int.reduceLE, Nat.reduceAdd, Nat.reduceLeDiff, Nat.reduceBEq, Nat.reduceSub, Int.reduceSub, Int.reduceMul, Int.reduceNeg, Int.reduceAdd]
      exact fin _
    rcases c0 (b < 0) with b0 | b0
    · simp (maxSteps := 2000000) (disch := omega) only [List.length_map, go_sem, eq_self, if_true, if_false, reduceCtorEq, Int.reduceToNat, Int.reducePow, Nat.reducePow, Nat.reduceMul, Int.reduceLT, Int.reduceLE, Nat.reduceAdd, Nat.reduceLeDiff, Nat.reduceBEq, Nat.reduceSub, Int.reduceSub, Int.reduceMul, Int.reduceNeg, Int.reduceAdd]
      refine Cont.mk (s1 _ _) ?_
      simp (maxSteps := 2000000) (disch := omega) only [go_sem, eq_self, if_true, if_false, reduceCtorEq, Int.reduceToNat, Int.reducePow, Nat.reducePow, Nat.reduceMul, Int.reduceLT, Int.reduceLE, Nat.reduceAdd, Nat.reduceLeDiff, Nat.reduceBEq, Nat.reduceSub, Int.reduceSub, Int.reduceMul, Int.reduceNeg, Int.reduceAdd]
      refine Cont.mk (s2 _ _) ?_
      simp (maxSteps := 2000000) (disch := omega) only [go_sem, eq_self, if_true, if_false, reduceCtorEq, Int.reduceToNat, Int.reducePow, Nat.reducePow, Nat.reduceMul, Int.reduceLT, Int.reduceLE, Nat.reduceAdd, Nat.reduceLeDiff, Nat.reduceBEq, Nat.reduceSub, Int.reduceSub, Int.reduceMul, Int.reduceNeg, Int.reduceAdd]
      refine Cont.mk (s3 _ _) ?_
      simp (maxSteps := 2000000) (disch := omega) only [go_sem, eq_self, if_true, if_false, reduceCtorEq, Int.reduceToNat, Int.reducePow, Nat.reducePow, Nat.reduceMul, Int.reduceLT, Int.reduceLE, Nat.reduceAdd, Nat.reduceLeDiff, Nat.reduceBEq, Nat.reduceSub, Int.reduceSub, Int.reduceMul, Int.reduceNeg, Int.reduceAdd]
      refine Cont.mk (wakes_c _) ?_
      simp (maxSteps := 2000000) (disch := omega) only [go_sem, eq_self, if_true, if_false, reduceCtorEq, Int.reduceToNat, Int.reducePow, Nat.reducePow, Nat.reduceMul, Int.reduceLT, Int.reduceLE, Nat.reduceAdd, Nat.reduceLeDiff, Nat.reduceBEq, Nat.reduceSub, Int.reduceSub, Int.reduceMul, Int.reduceNeg, Int.reduceAdd]
      exact fin _
    rcases c0 (a < t.length) with a1 | a1
    rotate_left
    · simp (maxSteps := 2000000) (disch := omega) only [List.length_map, go_sem, eq_self, if_true, if_false, reduceCtorEq, Int.reduceToNat, Int.reducePow, Nat.reducePow, Nat.reduceMul, Int.reduceLT, Int.reduceLE, Nat.reduceAdd, Nat.reduceLeDiff, Nat.reduceBEq, Nat.reduceSub, Int.reduceSub, Int.reduceMul, Int.reduceNeg, Int.reduceAdd]
      refine Cont.mk (s1 _ _) ?_
      simp (maxSteps := 2000000) (disch := omega) only [go_sem, eq_self, if_true, if_false, reduceCtorEq, Int.reduceToNat, Int.reducePow, Nat.reducePow, Nat.reduceMul, Int.reduceLT, Int.reduceLE, Nat.reduceAdd, Nat.reduceLeDiff, Nat.reduceBEq, Nat.reduceSub, Int.reduceSub, Int.reduceMul, Int.reduceNeg, Int.reduceAdd]
      refine Cont.mk (s2 _ _) ?_
      simp (maxSteps := 2000000) (disch := omega) only [go_sem, eq_self, if_true, if_false, reduceCtorEq, Int.reduceToNat, Int.reducePow, Nat.reducePow, Nat.reduceMul, Int.reduceLT, Int.reduceLE, Nat.reduceAdd, Nat.reduceLeDiff, Nat.reduceBEq, Nat.reduceSub, Int.reduceSub, Int.reduceMul, Int.reduceNeg, Int.reduceAdd]
      refine Cont.mk (s3 _ _) ?_
      simp (maxSteps := 2000000) (disch := omega) only [go_sem, eq_self, if_true, if_false, reduceCtorEq, Int.reduceToNat, Int.reducePow, Nat.reducePow, Nat.reduceMul, Int.reduceLT, Int.reduceLE, Nat.reduceAdd, Nat.reduceLeDiff, Nat.reduceBEq, Nat.reduceSub, Int.reduceSub, Int.reduceMul, Int.reduceNeg, Int.reduceAdd]
      refine Cont.mk (wakes_c _) ?_
      simp (maxSteps := 2000000) (disch := omega) only [go_sem, eq_self, if_true, if_false, reduceCtorEq, Int.reduceToNat, Int.reducePow, Nat.reducePow, Nat.reduceMul, Int.reduceLT, Int.reduceLE, Nat.reduceAdd, Nat.reduceLeDiff, Nat.reduceBEq, Nat.reduceSub, Int.reduceSub, Int.reduceMul, Int.reduceNeg, Int.reduceAdd]
      exact fin _
    have b1 : ¬ b < t.length := by omega
    simp (maxSteps := 2000000) (disch := omega) only [List.length_map, go_sem, eq_self, if_true, if_false, reduceCtorEq, Int.reduceToNat, Int.reducePow, Nat.reducePow, Nat.reduceMul, Int.reduceLT, Int.reduceLE, Nat.reduceAdd, Nat.reduceLeDiff, Nat.reduceBEq, Nat.reduceSub, Int.reduceSub, Int.reduceMul, Int.reduceNeg, Int.reduceAdd]
    refine Cont.mk (s1 _ _) ?_
    simp (maxSteps := 2000000) (disch := omega) only [go_sem, eq_self, if_true, if_false, reduceCtorEq, Int.reduceToNat, Int.reducePow, Nat.reducePow, Nat.reduceMul, Int.reduceLT, Int.reduceLE, Nat.reduceAdd, Nat.reduceLeDiff, Nat.reduceBEq, Nat.reduceSub, Int.reduceSub, Int.reduceMul, Int.reduceNeg, Int.reduceAdd]
    refine Cont.mk (s2 _ _) ?_
    simp (maxSteps := 2000000) (disch := omega) only [go_sem, eq_self, if_true, if_false, reduceCtorEq, Int.reduceToNat, Int.reducePow, Nat.reducePow, Nat.reduceMul, Int.reduceLT, Int.reduceLE, Nat.reduceAdd, Nat.reduceLeDiff, Nat.reduceBEq, Nat.reduceSub, Int.reduceSub, Int.reduceMul, Int.reduceNeg, Int.reduceAdd]
    refine Cont.mk (s3 _ _) ?_
    simp (maxSteps := 2000000) (disch := omega) only [go_sem, eq_self, if_true, if_false, reduceCtorEq, Int.reduceToNat, Int.reducePow, Nat.reducePow, Nat.reduceMul, Int.reduceLT, Int.reduceLE, Nat.reduceAdd, Nat.reduceLeDiff, Nat.reduceBEq, Nat.reduceSub, Int.reduceSub, Int.reduceMul, Int.reduceNeg, Int.reduceAdd]
    refine Cont.mk (wakes_c _) ?_
    simp (maxSteps := 2000000) (disch := omega) only [go_sem, eq_self, if_true, if_false, reduceCtorEq, Int.reduceToNat, Int.reducePow, Nat.reducePow, Nat.reduceMul, Int.reduceLT, Int.reduceLE, Nat.reduceAdd, Nat.reduceLeDiff, Nat.reduceBEq, Nat.reduceSub, Int.reduceSub, Int.reduceMul, Int.reduceNeg, Int.reduceAdd]
    exact fin _
  obtain ⟨ha, hb⟩ := hp
  have a0 := ha.1
  have a1 := ha.2
  have b0 := hb.1
  have b1 := hb.2
  have q1 := pl2 hg ha hb
  have q2 := pl2 hg2 (ha.app (u := roomU)) (hb.app (u := roomU))
  have s1 := gv_same htt a b
  have s2 := gv_ext htt a b
  have s3 := gv_asg htt a b
  have s4 : ∀ v : Bool, _ := fun v => gv_fit htt a ⟨v, b⟩
  have r1 := gv_same htt2 a b
  have r2 := gv_ext htt2 a b
  have r3 := gv_asg htt2 a b
  have r4 : ∀ v : Bool, _ := fun v => gv_fit htt2 a ⟨v, b⟩
  have e2 : decide (ExtP (t ++ roomU) a b) = decide (ExtP t a b) := by
    have := ext_app (u := roomU) hg ha hb
    by_cases k : ExtP t a b
    · rw [dect k, dect (this.2 k)]
    · rw [decf k, decf fun k' => k (this.1 k')]
  have e4 : ∀ v, fitF (t ++ roomU) a ⟨v, b⟩ = fitF t a ⟨v, b⟩ := fun v => fit_app hg ha hb
  simp only [dect q1, dect q2, Bool.true_and, e2, e4, simF_app hg ha hb, asgG_app hg ha hb] at s1 s2 s3 s4 r1 r2 r3 r4
  have bb : ∀ x : Bool, (x == x) = true := fun x => by cases x <;> rfl
  simp (maxSteps := 2000000) (disch := omega) only [List.length_map, hm, go_sem, eq_self, if_true, if_false, reduceCtorEq, Int.reduceToNat, Int.reducePow, Nat.reducePow, Nat.reduceMul, Int.reduceLT, Int.reduceLE, Nat.reduceAdd, Nat.reduceLeDiff, Nat.reduceBEq, Nat.reduceSub, Int.reduceSub, Int.reduceMul, Int.reduceNeg, Int.reduceAdd]
  refine W.pchain follows (by decide +kernel) ?_
  simp (maxSteps := 2000000) (disch := omega) only [List.length_map, hm, go_sem, eq_self, if_true, if_false, reduceCtorEq, Int.reduceToNat, Int.reducePow, Nat.reducePow, Nat.reduceMul, Int.reduceLT, Int.reduceLE, Nat.reduceAdd, Nat.reduceLeDiff, Nat.reduceBEq, Nat.reduceSub, Int.reduceSub, Int.reduceMul, Int.reduceNeg, Int.reduceAdd]
  refine PCont.mk (gv_good htt2 hg2 _ _) ?_
  simp (maxSteps := 2000000) (disch := omega) only [go_sem, eq_self, if_true, if_false, reduceCtorEq, Int.reduceToNat, Int.reducePow, Nat.reducePow, Nat.reduceMul, Int.reduceLT, Int.reduceLE, Nat.reduceAdd, Nat.reduceLeDiff, Nat.reduceBEq, Nat.reduceSub, Int.reduceSub, Int.reduceMul, Int.reduceNeg, Int.reduceAdd]
  refine PCont.mk (r1 _ _) ?_
  simp (maxSteps := 2000000) (disch := omega) only [go_sem, eq_self, if_true, if_false, reduceCtorEq, Int.reduceToNat, Int.reducePow, Nat.reducePow, Nat.reduceMul, Int.reduceLT, Int.reduceLE, Nat.reduceAdd, Nat.reduceLeDiff, Nat.reduceBEq, Nat.reduceSub, Int.reduceSub, Int.reduceMul, Int.reduceNeg, Int.reduceAdd]
  refine PCont.mk (s1 _ _) ?_
  simp (maxSteps := 2000000) (disch := omega) only [bb, go_sem, eq_self, if_true, if_false, reduceCtorEq, Int.reduceToNat, Int.reducePow, Nat.reducePow, Nat.reduceMul, Int.reduceLT, Int.reduceLE, Nat.reduceAdd, Nat.reduceLeDiff, Nat.reduceBEq, Nat.reduceSub, Int.reduceSub, Int.reduceMul, Int.reduceNeg, Int.reduceAdd]
  refine PCont.mk (r2 _ _) ?_
  simp (maxSteps := 2000000) (disch := omega) only [go_sem, eq_self, if_true, if_false, reduceCtorEq, Int.reduceToNat, Int.reducePow, Nat.reducePow, Nat.reduceMul, Int.reduceLT, Int.reduceLE, Nat.reduceAdd, Nat.reduceLeDiff, Nat.reduceBEq, Nat.reduceSub, Int.reduceSub, Int.reduceMul, Int.reduceNeg, Int.reduceAdd]
  refine PCont.mk (s2 _ _) ?_
  simp (maxSteps := 2000000) (disch := omega) only [bb, go_sem, eq_self, if_true, if_false, reduceCtorEq, Int.reduceToNat, Int.reducePow, Nat.reducePow, Nat.reduceMul, Int.reduceLT, Int.reduceLE, Nat.reduceAdd, Nat.reduceLeDiff, Nat.reduceBEq, Nat.reduceSub, Int.reduceSub, Int.reduceMul, Int.reduceNeg, Int.reduceAdd]
  refine PCont.mk (r3 _ _) ?_
  simp (maxSteps := 2000000) (disch := omega) only [go_sem, eq_self, if_true, if_false, reduceCtorEq, Int.reduceToNat, Int.reducePow, Nat.reducePow, Nat.reduceMul, Int.reduceLT, Int.reduceLE, Nat.reduceAdd, Nat.reduceLeDiff, Nat.reduceBEq, Nat.reduceSub, Int.reduceSub, Int.reduceMul, Int.reduceNeg, Int.reduceAdd]
  refine PCont.mk (s3 _ _) ?_
  simp (maxSteps := 2000000) (disch := omega) only [bb, go_sem, eq_self, if_true, if_false, reduceCtorEq, Int.reduceToNat, Int.reducePow, Nat.reducePow, Nat.reduceMul, Int.reduceLT, Int.reduceLE, Nat.reduceAdd, Nat.reduceLeDiff, Nat.reduceBEq, Nat.reduceSub, Int.reduceSub, Int.reduceMul, Int.reduceNeg, Int.reduceAdd]
  refine PCont.mk (r4 _ _ _) ?_
  simp (maxSteps := 2000000) (disch := omega) only [go_sem, eq_self, if_true, if_false, reduceCtorEq, Int.reduceToNat, Int.reducePow, Nat.reducePow, Nat.reduceMul, Int.reduceLT, Int.reduceLE, Nat.reduceAdd, Nat.reduceLeDiff, Nat.reduceBEq, Nat.reduceSub, Int.reduceSub, Int.reduceMul, Int.reduceNeg, Int.reduceAdd]
  refine PCont.mk (s4 _ _ _) ?_
  simp (maxSteps := 2000000) (disch := omega) only [bb, go_sem, eq_self, if_true, if_false, reduceCtorEq, Int.reduceToNat, Int.reducePow, Nat.reducePow, Nat.reduceMul, Int.reduceLT, Int.reduceLE, Nat.reduceAdd, Nat.reduceLeDiff, Nat.reduceBEq, Nat.reduceSub, Int.reduceSub, Int.reduceMul, Int.reduceNeg, Int.reduceAdd]
  refine PCont.mk (wakes_c _) ?_
  simp (maxSteps := 2000000) (disch := omega) only [go_sem, eq_self, if_true, if_false, reduceCtorEq, Int.reduceToNat, Int.reducePow, Nat.reducePow, Nat.reduceMul, Int.reduceLT, Int.reduceLE, Nat.reduceAdd, Nat.reduceLeDiff, Nat.reduceBEq, Nat.reduceSub, Int.reduceSub, Int.reduceMul, Int.reduceNeg, Int.reduceAdd]
  exact fin _
end Go.Proofs.Ytlhpcccffmfopaa
