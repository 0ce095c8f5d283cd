/- Tables of types: the first seven, copies. -/
import Derived.Test.YtlhpcccffmfopaaT2
namespace Go.Proofs.Ytlhpcccffmfopaa
set_option linter.unusedSectionVars false
set_option linter.unusedSimpArgs false
set_option linter.unusedVariables false
set_option maxRecDepth 20000
set_option maxHeartbeats 4000000
open Go.RowKit

/-- One of the first seven. -/
def bt (k : Int) : Ty := ⟨k, se, se, 0, 0, 0, [], [], 0, 0⟩
def basicL : List Ty := [bt 0, bt 1, bt 2, bt 3, bt 4, bt 5, bt 6]
theorem basic_at {i : Nat} (h : i < 7) : basicL.getD i default = bt i := by
  rcases (by omega : i = 0 ∨ i = 1 ∨ i = 2 ∨ i = 3 ∨ i = 4 ∨ i = 5 ∨ i = 6) with rfl | rfl | rfl | rfl | rfl | rfl | rfl <;> rfl
theorem basic_take {i : Nat} (h : i < 7) : (basicL.take (i + 1)).map Ty.c = (basicL.take i).map Ty.c ++ [(bt i).c] := by
  rw [getD_take (d := default) (show i < basicL.length from h), basic_at h, List.map_append]; rfl
theorem basic_len {i : Nat} (h : i ≤ 7) : ((basicL.take i).map Ty.c).length = i := by
  rw [List.length_map, List.length_take]; show min i 7 = i; omega
theorem rowsL {n : Nat} {x : Nat} : cl (List.replicate 0 (ABlk.row x 10 n)) := fun b k h => by simp at h
theorem cl.row {H : List ABlk} (h : cl H) (e sz n : Nat) : cl (H ++ [.row e sz n]) := h.append fun k hk r hr => by simp at hk; subst hk; simp [ABlk.refs] at hr
theorem tbasic_c (H : List ABlk) : ACalls Try.prog 18 [] H fun v H' => v = .gsl H.length 10 (basicL.map Ty.c) ∧ H' = H ++ [.row 32 10 7] := by
  refine ACalls.into Try.func18 cc18 rr18 fun hcl => ?_
  simp (maxSteps := 2000000) (disch := omega) only [Try.ntmps18, c18, r18, go_sem, eq_self, if_true, if_false, reduceCtorEq, Int.reduceToNat, Int.reducePow, Nat.reducePow, Nat.reduceMul, Int.reduceLT, Int.reduceLE, Nat.reduceAdd, Nat.reduceLeDiff, Nat.reduceBEq, Nat.reduceSub, Int.reduceSub, Int.reduceMul, Int.reduceNeg, Int.reduceAdd]
  obtain ⟨S, hS⟩ : ∃ S : Nat → List AV, ∀ i, S i = [.any, .gsl H.length 10 ((basicL.take i).map Ty.c), iv i] ++ List.replicate 10 .any := ⟨_, fun _ => rfl⟩
  refine W.loopG (γ := Nat) (fun i => 7 - i) S (fun i => H ++ [.row 32 10 i]) (fun i => i ≤ 7) 0 (Wk.slots (by rw [hS]; exact WkL.tail 3 _ rfl (by simp only [List.take_succ_cons, List.take_zero]; repeat' first | exact WkL.nil | refine WkL.cons (Wk1.rfl _) ?_ | refine WkL.cons Wk1.esl ?_ | refine WkL.cons (Wk1.gsl _ _ _) ?_ | refine WkL.cons (Wk1.any _) ?_))) (by omega) (fun i hi => ?_)
  have hl := basic_len hi
  simp (maxSteps := 2000000) (disch := omega) only [c18l0, hS, go_sem, eq_self, if_true, if_false, reduceCtorEq, Int.reduceToNat, Int.reducePow, Nat.reducePow, Nat.reduceMul, Int.reduceLT, Int.reduceLE, Nat.reduceAdd, Nat.reduceLeDiff, Nat.reduceBEq, Nat.reduceSub, Int.reduceSub, Int.reduceMul, Int.reduceNeg, Int.reduceAdd]
  refine Br.dec (fun hc => ?_) (fun hc => ?_) <;> simp (maxSteps := 2000000) (disch := omega) only [hl, go_sem, eq_self, if_true, if_false, reduceCtorEq, Int.reduceToNat, Int.reducePow, Nat.reducePow, Nat.reduceMul, Int.reduceLT, Int.reduceLE, Nat.reduceAdd, Nat.reduceLeDiff, Nat.reduceBEq, Nat.reduceSub, Int.reduceSub, Int.reduceMul, Int.reduceNeg, Int.reduceAdd]
  · refine Nxt.mk (i + 1) (by omega) (Wk.slots ?_) (by omega)
    have e := basic_take (i := i) (by omega)
    rw [bt, Ty.c] at e
    simp only [List.map_nil] at e
    rw [hS, e]
    exact WkL.tail 3 _ rfl (by simp only [List.take_succ_cons, List.take_zero]; repeat' first | exact WkL.nil | refine WkL.cons (Wk1.rfl _) ?_ | refine WkL.cons Wk1.esl ?_ | refine WkL.cons (Wk1.gsl _ _ _) ?_ | refine WkL.cons (Wk1.any _) ?_)
  · have : i = 7 := by omega
    subst this
    exact Ret.keep ⟨rfl, rfl⟩
theorem rbasic_c (H : List ABlk) : ACalls Try.prog 19 [] H fun v H' => v = .gsl H.length 10 (basicL.map Ty.c) ∧ H' = H ++ [.row 32 10 7] := by
  refine ACalls.into Try.func19 cc19 rr19 fun hcl => ?_
  simp (maxSteps := 2000000) (disch := omega) only [Try.ntmps19, c19, r19, go_sem, eq_self, if_true, if_false, reduceCtorEq, Int.reduceToNat, Int.reducePow, Nat.reducePow, Nat.reduceMul, Int.reduceLT, Int.reduceLE, Nat.reduceAdd, Nat.reduceLeDiff, Nat.reduceBEq, Nat.reduceSub, Int.reduceSub, Int.reduceMul, Int.reduceNeg, Int.reduceAdd]
  obtain ⟨S, hS⟩ : ∃ S : Nat → List AV, ∀ i, S i = [.any, .gsl H.length 10 ((basicL.take i).map Ty.c), iv i] ++ List.replicate 10 .any := ⟨_, fun _ => rfl⟩
  refine W.loopG (γ := Nat) (fun i => 7 - i) S (fun i => H ++ [.row 32 10 i]) (fun i => i ≤ 7) 0 (Wk.slots (by rw [hS]; exact WkL.tail 3 _ rfl (by simp only [List.take_succ_cons, List.take_zero]; repeat' first | exact WkL.nil | refine WkL.cons (Wk1.rfl _) ?_ | refine WkL.cons Wk1.esl ?_ | refine WkL.cons (Wk1.gsl _ _ _) ?_ | refine WkL.cons (Wk1.any _) ?_))) (by omega) (fun i hi => ?_)
  have hl := basic_len hi
  simp (maxSteps := 2000000) (disch := omega) only [c19l0, hS, go_sem, eq_self, if_true, if_false, reduceCtorEq, Int.reduceToNat, Int.reducePow, Nat.reducePow, Nat.reduceMul, Int.reduceLT, Int.reduceLE, Nat.reduceAdd, Nat.reduceLeDiff, Nat.reduceBEq, Nat.reduceSub, Int.reduceSub, Int.reduceMul, Int.reduceNeg, Int.reduceAdd]
  refine Br.dec (fun hc => ?_) (fun hc => ?_) <;> simp (maxSteps := 2000000) (disch := omega) only [hl, go_sem, eq_self, if_true, if_false, reduceCtorEq, Int.reduceToNat, Int.reducePow, Nat.reducePow, Nat.reduceMul, Int.reduceLT, Int.reduceLE, Nat.reduceAdd, Nat.reduceLeDiff, Nat.reduceBEq, Nat.reduceSub, Int.reduceSub, Int.reduceMul, Int.reduceNeg, Int.reduceAdd]
  · refine Nxt.mk (i + 1) (by omega) (Wk.slots ?_) (by omega)
    have e := basic_take (i := i) (by omega)
    rw [bt, Ty.c] at e
    simp only [List.map_nil] at e
    rw [hS, e]
    exact WkL.tail 3 _ rfl (by simp only [List.take_succ_cons, List.take_zero]; repeat' first | exact WkL.nil | refine WkL.cons (Wk1.rfl _) ?_ | refine WkL.cons Wk1.esl ?_ | refine WkL.cons (Wk1.gsl _ _ _) ?_ | refine WkL.cons (Wk1.any _) ?_)
  · have : i = 7 := by omega
    subst this
    exact Ret.keep ⟨rfl, rfl⟩
/-- COPY. -/
theorem copy_c {t : List Ty} (ht : Small t) (H : List ABlk) : ACalls Try.prog 14 [tv t] H fun v H' => v = .gsl H.length 10 (t.map Ty.c) ∧ H' = H ++ [.row 32 10 t.length] := by
  refine ACalls.into Try.func14 cc14 rr14 fun hcl => ?_
  obtain ⟨h1, h2⟩ := ht
  simp (maxSteps := 2000000) (disch := omega) only [Try.ntmps14, c14, r14, go_sem, eq_self, if_true, if_false, reduceCtorEq, Int.reduceToNat, Int.reducePow, Nat.reducePow, Nat.reduceMul, Int.reduceLT, Int.reduceLE, Nat.reduceAdd, Nat.reduceLeDiff, Nat.reduceBEq, Nat.reduceSub, Int.reduceSub, Int.reduceMul, Int.reduceNeg, Int.reduceAdd]
  obtain ⟨S, hS⟩ : ∃ S : Nat → List AV, ∀ i, S i = [tv t, .any, .any, .gsl H.length 10 ((t.take i).map Ty.c), iv i] ++ List.replicate 26 .any := ⟨_, fun _ => rfl⟩
  refine W.loopG (γ := Nat) (fun i => t.length - i) S (fun i => H ++ [.row 32 10 i]) (fun i => i ≤ t.length) 0 (Wk.slots (by rw [hS]; exact WkL.tail 5 _ rfl (by simp only [List.take_succ_cons, List.take_zero]; repeat' first | exact WkL.nil | refine WkL.cons (Wk1.rfl _) ?_ | refine WkL.cons Wk1.esl ?_ | refine WkL.cons (Wk1.gsl _ _ _) ?_ | refine WkL.cons (Wk1.any _) ?_))) (by omega) (fun i hi => ?_)
  have hl : (t.take i).length = i := by rw [List.length_take]; omega
  simp (maxSteps := 2000000) (disch := omega) only [c14l0, hS, List.length_map, go_sem, eq_self, if_true, if_false, reduceCtorEq, Int.reduceToNat, Int.reducePow, Nat.reducePow, Nat.reduceMul, Int.reduceLT, Int.reduceLE, Nat.reduceAdd, Nat.reduceLeDiff, Nat.reduceBEq, Nat.reduceSub, Int.reduceSub, Int.reduceMul, Int.reduceNeg, Int.reduceAdd]
  refine Br.dec (fun hc => ?_) (fun hc => ?_) <;> simp (maxSteps := 2000000) (disch := omega) only [go_sem, eq_self, if_true, if_false, reduceCtorEq, Int.reduceToNat, Int.reducePow, Nat.reducePow, Nat.reduceMul, Int.reduceLT, Int.reduceLE, Nat.reduceAdd, Nat.reduceLeDiff, Nat.reduceBEq, Nat.reduceSub, Int.reduceSub, Int.reduceMul, Int.reduceNeg, Int.reduceAdd]
  · have hia := iaA_ty (t := t) (a := i) (by omega) (by omega)
    have e : tyAt t (i : Int) = t.getD i default := rfl
    obtain ⟨x1, x2, x3, x4⟩ := h2 _ (tyAt_mem (t := t) (a := i) (by omega) (by omega))
    have et := congrArg (List.map Ty.c) (getD_take (d := (default : Ty)) (l := t) (i := i) (by omega))
    rw [List.map_append] at et
    rw [e] at hia x1 x2 x3 x4
    generalize hx : t.getD i default = x at *
    simp (maxSteps := 2000000) (disch := omega) only [hia, Ty.c, List.length_map, hl, go_sem, eq_self, if_true, if_false, reduceCtorEq, Int.reduceToNat, Int.reducePow, Nat.reducePow, Nat.reduceMul, Int.reduceLT, Int.reduceLE, Nat.reduceAdd, Nat.reduceLeDiff, Nat.reduceBEq, Nat.reduceSub, Int.reduceSub, Int.reduceMul, Int.reduceNeg, Int.reduceAdd]
    refine W.dregD [([], []), ([], []), ([], []), ([], []), ([], []), ([], []), ([], []), ([], []), ([], []), ([H.length + 1], []), ([], []), ([H.length + 1], [])] follows (by decide +kernel) rfl rfl (fun z hz b hb => ?_) ?_
    · have : b = H.length + 1 ∧ z.2 = [] := by
        simp only [List.mem_cons, List.not_mem_nil, or_false] at hz
        rcases hz with rfl | rfl | rfl | rfl | rfl | rfl | rfl | rfl | rfl | rfl | rfl | rfl <;> simp at hb ⊢ <;> simp [hb]
      rw [this.2, this.1]
      simp
    repeat (rw [DC_p]; simp (maxSteps := 2000000) (disch := omega) only [List.length_map, all_fd, all_pm, datss_map_d, go_sem, eq_self, if_true, if_false, reduceCtorEq, Int.reduceToNat, Int.reducePow, Nat.reducePow, Nat.reduceMul, Int.reduceLT, Int.reduceLE, Nat.reduceAdd, Nat.reduceLeDiff, Nat.reduceBEq, Nat.reduceSub, Int.reduceSub, Int.reduceMul, Int.reduceNeg, Int.reduceAdd])
    refine WStep.ev (by simp) (by simp) ?_
    simp (maxSteps := 2000000) (disch := omega) only [go_sem, eq_self, if_true, if_false, reduceCtorEq, Int.reduceToNat, Int.reducePow, Nat.reducePow, Nat.reduceMul, Int.reduceLT, Int.reduceLE, Nat.reduceAdd, Nat.reduceLeDiff, Nat.reduceBEq, Nat.reduceSub, Int.reduceSub, Int.reduceMul, Int.reduceNeg, Int.reduceAdd]
    refine ⟨FrOk.at_ (H.length + 1) _ (by simp) (by rw [hsk]; rfl), ?_⟩
    repeat (rw [DC_p]; simp (maxSteps := 2000000) (disch := omega) only [go_sem, eq_self, if_true, if_false, reduceCtorEq, Int.reduceToNat, Int.reducePow, Nat.reducePow, Nat.reduceMul, Int.reduceLT, Int.reduceLE, Nat.reduceAdd, Nat.reduceLeDiff, Nat.reduceBEq, Nat.reduceSub, Int.reduceSub, Int.reduceMul, Int.reduceNeg, Int.reduceAdd])
    refine WStep.ev (by simp) (by simp) ?_
    simp (maxSteps := 2000000) (disch := omega) only [go_sem, eq_self, if_true, if_false, reduceCtorEq, Int.reduceToNat, Int.reducePow, Nat.reducePow, Nat.reduceMul, Int.reduceLT, Int.reduceLE, Nat.reduceAdd, Nat.reduceLeDiff, Nat.reduceBEq, Nat.reduceSub, Int.reduceSub, Int.reduceMul, Int.reduceNeg, Int.reduceAdd]
    refine ⟨FrOk.at_ (H.length + 1) _ (by simp) (by rw [hsk]; rfl), ?_⟩
    simp (maxSteps := 2000000) (disch := omega) only [hl, go_sem, eq_self, if_true, if_false, reduceCtorEq, Int.reduceToNat, Int.reducePow, Nat.reducePow, Nat.reduceMul, Int.reduceLT, Int.reduceLE, Nat.reduceAdd, Nat.reduceLeDiff, Nat.reduceBEq, Nat.reduceSub, Int.reduceSub, Int.reduceMul, Int.reduceNeg, Int.reduceAdd]
    refine Nxt.mk (i + 1) (by omega) ?_ (by omega)
    simp only [List.map_cons, List.map_nil, Ty.c] at et
    rw [show ∀ (a b : ABlk), H ++ [a, b] = (H ++ [a]) ++ [b] from fun a b => by simp]
    refine Wk.drop (by rw [hS, et]; exact WkL.tail 5 _ rfl (by simp only [List.take_succ_cons, List.take_zero]; repeat' first | exact WkL.nil | refine WkL.cons (Wk1.rfl _) ?_ | refine WkL.cons Wk1.esl ?_ | refine WkL.cons (Wk1.gsl _ _ _) ?_ | refine WkL.cons (Wk1.any _) ?_)) (by simp) (hcl.row _ _ _) ?_
    rw [hS, refsL_app, refsL_any]
    simp [refs, refs.refsL]
  · have : i = t.length := by omega
    subst this
    rw [List.take_length]
    exact Ret.keep ⟨rfl, rfl⟩
/-! ### alike -/
theorem alike_c {x y : Ty} (hx : x.Ok) (H : List ABlk) : ACalls Try.prog 34 [x.av, y.av] H fun v H' => v = bv (decide (x = y)) ∧ H' = H := by
  obtain ⟨B, hB⟩ : ∃ B, B = decide (x = y) := ⟨_, rfl⟩
  rw [← hB]
  refine ACalls.into Try.func34 cc34 rr34 fun hcl => ?_
  obtain ⟨x1, x2, x3, x4⟩ := hx
  have no : ∀ {p : Prop}, (x = y → p) → ¬ p → false = B := fun h hp => by rw [hB]; exact (decide_eq_false fun e => hp (h e)).symm
  have fin : ∀ {v : Bool}, v = B → ∀ l, Ret r34 H.length (fun v H' => v = bv B ∧ H' = H) (some (bv v)) (H ++ l) := fun {v} e l => Ret.drop (bv B) H (Nat.le_refl _) hcl (by rw [e]; exact .rfl _) (by simp [refs]) ⟨rfl, rfl⟩
  simp (maxSteps := 2000000) (disch := omega) only [Try.ntmps34, c34, r34, Ty.cs, List.length_map, go_sem, eq_self, if_true, if_false, reduceCtorEq, Int.reduceToNat, Int.reducePow, Nat.reducePow, Nat.reduceMul, Int.reduceLT, Int.reduceLE, Nat.reduceAdd, Nat.reduceLeDiff, Nat.reduceBEq, Nat.reduceSub, Int.reduceSub, Int.reduceMul, Int.reduceNeg, Int.reduceAdd]
  refine Br.yes (fun h1 => ?_) (fun h1 => ?_) <;> simp (maxSteps := 2000000) (disch := omega) only [h1, go_sem, eq_self, if_true, if_false, reduceCtorEq, Int.reduceToNat, Int.reducePow, Nat.reducePow, Nat.reduceMul, Int.reduceLT, Int.reduceLE, Nat.reduceAdd, Nat.reduceLeDiff, Nat.reduceBEq, Nat.reduceSub, Int.reduceSub, Int.reduceMul, Int.reduceNeg, Int.reduceAdd]
  rotate_left
  · exact fin (no (fun e => congrArg Ty.form e) (of_decide_eq_false h1)) _
  refine Br.yes (fun h2 => ?_) (fun h2 => ?_) <;> simp (maxSteps := 2000000) (disch := omega) only [h2, go_sem, eq_self, if_true, if_false, reduceCtorEq, Int.reduceToNat, Int.reducePow, Nat.reducePow, Nat.reduceMul, Int.reduceLT, Int.reduceLE, Nat.reduceAdd, Nat.reduceLeDiff, Nat.reduceBEq, Nat.reduceSub, Int.reduceSub, Int.reduceMul, Int.reduceNeg, Int.reduceAdd]
  rotate_left
  · exact fin (no (fun e => congrArg Ty.mod e) (of_decide_eq_false h2)) _
  refine Br.yes (fun h3 => ?_) (fun h3 => ?_) <;> simp (maxSteps := 2000000) (disch := omega) only [h3, go_sem, eq_self, if_true, if_false, reduceCtorEq, Int.reduceToNat, Int.reducePow, Nat.reducePow, Nat.reduceMul, Int.reduceLT, Int.reduceLE, Nat.reduceAdd, Nat.reduceLeDiff, Nat.reduceBEq, Nat.reduceSub, Int.reduceSub, Int.reduceMul, Int.reduceNeg, Int.reduceAdd]
  rotate_left
  · exact fin (no (fun e => congrArg Ty.name e) (of_decide_eq_false h3)) _
  refine Br.yes (fun h4 => ?_) (fun h4 => ?_) <;> simp (maxSteps := 2000000) (disch := omega) only [h4, go_sem, eq_self, if_true, if_false, reduceCtorEq, Int.reduceToNat, Int.reducePow, Nat.reducePow, Nat.reduceMul, Int.reduceLT, Int.reduceLE, Nat.reduceAdd, Nat.reduceLeDiff, Nat.reduceBEq, Nat.reduceSub, Int.reduceSub, Int.reduceMul, Int.reduceNeg, Int.reduceAdd]
  rotate_left
  · exact fin (no (fun e => congrArg Ty.len e) (of_decide_eq_false h4)) _
  refine Br.yes (fun h5 => ?_) (fun h5 => ?_) <;> simp (maxSteps := 2000000) (disch := omega) only [h5, go_sem, eq_self, if_true, if_false, reduceCtorEq, Int.reduceToNat, Int.reducePow, Nat.reducePow, Nat.reduceMul, Int.reduceLT, Int.reduceLE, Nat.reduceAdd, Nat.reduceLeDiff, Nat.reduceBEq, Nat.reduceSub, Int.reduceSub, Int.reduceMul, Int.reduceNeg, Int.reduceAdd]
  rotate_left
  · exact fin (no (fun e => congrArg Ty.elem e) (of_decide_eq_false h5)) _
  refine Br.yes (fun h6 => ?_) (fun h6 => ?_) <;> simp (maxSteps := 2000000) (disch := omega) only [h6, go_sem, eq_self, if_true, if_false, reduceCtorEq, Int.reduceToNat, Int.reducePow, Nat.reducePow, Nat.reduceMul, Int.reduceLT, Int.reduceLE, Nat.reduceAdd, Nat.reduceLeDiff, Nat.reduceBEq, Nat.reduceSub, Int.reduceSub, Int.reduceMul, Int.reduceNeg, Int.reduceAdd]
  rotate_left
  · exact fin (no (fun e => congrArg Ty.base e) (of_decide_eq_false h6)) _
  refine Br.yes (fun h7 => ?_) (fun h7 => ?_) <;> simp (maxSteps := 2000000) (disch := omega) only [h7, go_sem, eq_self, if_true, if_false, reduceCtorEq, Int.reduceToNat, Int.reducePow, Nat.reducePow, Nat.reduceMul, Int.reduceLT, Int.reduceLE, Nat.reduceAdd, Nat.reduceLeDiff, Nat.reduceBEq, Nat.reduceSub, Int.reduceSub, Int.reduceMul, Int.reduceNeg, Int.reduceAdd]
  rotate_left
  · exact fin (no (fun e => congrArg Ty.result e) (of_decide_eq_false h7)) _
  refine Br.yes (fun h8 => ?_) (fun h8 => ?_) <;> simp (maxSteps := 2000000) (disch := omega) only [h8, go_sem, eq_self, if_true, if_false, reduceCtorEq, Int.reduceToNat, Int.reducePow, Nat.reducePow, Nat.reduceMul, Int.reduceLT, Int.reduceLE, Nat.reduceAdd, Nat.reduceLeDiff, Nat.reduceBEq, Nat.reduceSub, Int.reduceSub, Int.reduceMul, Int.reduceNeg, Int.reduceAdd]
  rotate_left
  · exact fin (no (fun e => congrArg Ty.desc e) (of_decide_eq_false h8)) _
  refine Br.yes (fun h9 => ?_) (fun h9 => ?_) <;> simp (maxSteps := 2000000) (disch := omega) only [h9, go_sem, eq_self, if_true, if_false, reduceCtorEq, Int.reduceToNat, Int.reducePow, Nat.reducePow, Nat.reduceMul, Int.reduceLT, Int.reduceLE, Nat.reduceAdd, Nat.reduceLeDiff, Nat.reduceBEq, Nat.reduceSub, Int.reduceSub, Int.reduceMul, Int.reduceNeg, Int.reduceAdd]
  rotate_left
  · exact fin (no (fun e => congrArg (fun z : Ty => (z.fields.length : Int)) e) (of_decide_eq_false h9)) _
  refine Br.yes (fun h10 => ?_) (fun h10 => ?_) <;> simp (maxSteps := 2000000) (disch := omega) only [h10, go_sem, eq_self, if_true, if_false, reduceCtorEq, Int.reduceToNat, Int.reducePow, Nat.reducePow, Nat.reduceMul, Int.reduceLT, Int.reduceLE, Nat.reduceAdd, Nat.reduceLeDiff, Nat.reduceBEq, Nat.reduceSub, Int.reduceSub, Int.reduceMul, Int.reduceNeg, Int.reduceAdd]
  rotate_left
  · exact fin (no (fun e => congrArg (fun z : Ty => (z.params.length : Int)) e) (of_decide_eq_false h10)) _
  refine W.loopG (γ := Nat) (fun i => x.fields.length - i) (fun i => [.any, .any, .ptr H.length 0, .ptr (H.length + 1) 0, .any, iv i] ++ List.replicate 158 .any) (fun _ => H ++ [.cells x.cs, .cells y.cs]) (fun i => i ≤ x.fields.length ∧ ∀ j, j < i → x.fields.getD j default = y.fields.getD j default) 0 (Wk.slots (by (try simp only [List.replicate, List.cons_append, List.nil_append]); repeat' first | exact WkL.nil | refine WkL.cons (Wk1.rfl _) ?_ | refine WkL.cons Wk1.esl ?_ | refine WkL.cons (Wk1.gsl _ _ _) ?_ | refine WkL.cons (Wk1.any _) ?_)) ⟨by omega, fun j hj => by omega⟩ (fun i hi => ?_)
  obtain ⟨q1, q2⟩ := hi
  have h9' := of_decide_eq_true h9
  have h10' := of_decide_eq_true h10
  simp (maxSteps := 2000000) (disch := omega) only [c34l1, List.length_map, Ty.cs, go_sem, eq_self, if_true, if_false, reduceCtorEq, Int.reduceToNat, Int.reducePow, Nat.reducePow, Nat.reduceMul, Int.reduceLT, Int.reduceLE, Nat.reduceAdd, Nat.reduceLeDiff, Nat.reduceBEq, Nat.reduceSub, Int.reduceSub, Int.reduceMul, Int.reduceNeg, Int.reduceAdd]
  refine Br.dec (fun hc => ?_) (fun hc => ?_) <;> simp (maxSteps := 2000000) (disch := omega) only [go_sem, eq_self, if_true, if_false, reduceCtorEq, Int.reduceToNat, Int.reducePow, Nat.reducePow, Nat.reduceMul, Int.reduceLT, Int.reduceLE, Nat.reduceAdd, Nat.reduceLeDiff, Nat.reduceBEq, Nat.reduceSub, Int.reduceSub, Int.reduceMul, Int.reduceNeg, Int.reduceAdd]
  · have hia := iaA_fd (t := x.fields) (a := i) (by omega) (by omega)
    have hib := iaA_fd (t := y.fields) (a := i) (by omega) (by omega)
    have e1 : fdAt x.fields (i : Int) = x.fields.getD i default := rfl
    have e2 : fdAt y.fields (i : Int) = y.fields.getD i default := rfl
    have nof : ∀ {p : Prop}, (x.fields.getD i default = y.fields.getD i default → p) → ¬ p → false = B := fun hf hp => no (fun e => by rw [e]) (fun e => hp (hf e))
    rw [e1] at hia
    rw [e2] at hib
    refine W.pchain follows (by decide +kernel) ?_
    by_cases k1 : (x.fields.getD i default).name = (y.fields.getD i default).name
    rotate_left
    · simp (maxSteps := 2000000) (disch := omega) only [hia, hib, Fd.c, k1, go_sem, eq_self, if_true, if_false, reduceCtorEq, Int.reduceToNat, Int.reducePow, Nat.reducePow, Nat.reduceMul, Int.reduceLT, Int.reduceLE, Nat.reduceAdd, Nat.reduceLeDiff, Nat.reduceBEq, Nat.reduceSub, Int.reduceSub, Int.reduceMul, Int.reduceNeg, Int.reduceAdd]
      exact fin (nof (fun e => congrArg Fd.name e) k1) _
    by_cases k2 : (x.fields.getD i default).exp = (y.fields.getD i default).exp
    rotate_left
    · have k2' : ((x.fields.getD i default).exp == (y.fields.getD i default).exp) = false := by simpa using k2
      simp (maxSteps := 2000000) (disch := omega) only [hia, hib, Fd.c, k1, k2', go_sem, eq_self, if_true, if_false, reduceCtorEq, Int.reduceToNat, Int.reducePow, Nat.reducePow, Nat.reduceMul, Int.reduceLT, Int.reduceLE, Nat.reduceAdd, Nat.reduceLeDiff, Nat.reduceBEq, Nat.reduceSub, Int.reduceSub, Int.reduceMul, Int.reduceNeg, Int.reduceAdd]
      exact fin (nof (fun e => congrArg Fd.exp e) k2) _
    by_cases k3 : (x.fields.getD i default).typ = (y.fields.getD i default).typ
    rotate_left
    · simp (maxSteps := 2000000) (disch := omega) only [hia, hib, Fd.c, k1, k2, k3, go_sem, eq_self, if_true, if_false, reduceCtorEq, Int.reduceToNat, Int.reducePow, Nat.reducePow, Nat.reduceMul, Int.reduceLT, Int.reduceLE, Nat.reduceAdd, Nat.reduceLeDiff, Nat.reduceBEq, Nat.reduceSub, Int.reduceSub, Int.reduceMul, Int.reduceNeg, Int.reduceAdd]
      exact fin (nof (fun e => congrArg Fd.typ e) k3) _
    simp (maxSteps := 2000000) (disch := omega) only [hia, hib, Fd.c, k1, k2, k3, go_sem, eq_self, if_true, if_false, reduceCtorEq, Int.reduceToNat, Int.reducePow, Nat.reducePow, Nat.reduceMul, Int.reduceLT, Int.reduceLE, Nat.reduceAdd, Nat.reduceLeDiff, Nat.reduceBEq, Nat.reduceSub, Int.reduceSub, Int.reduceMul, Int.reduceNeg, Int.reduceAdd]
    refine Nxt.mk (i + 1) (by omega) (Wk.slots (by (try simp only [List.replicate, List.cons_append, List.nil_append]); repeat' first | exact WkL.nil | refine WkL.cons (Wk1.rfl _) ?_ | refine WkL.cons Wk1.esl ?_ | refine WkL.cons (Wk1.gsl _ _ _) ?_ | refine WkL.cons (Wk1.any _) ?_)) ⟨by omega, fun j hj => ?_⟩
    rcases Nat.lt_or_ge j i with h' | h'
    · exact q2 j h'
    · rw [show j = i by omega]
      generalize x.fields.getD i default = p at *
      generalize y.fields.getD i default = q at *
      obtain ⟨a, b, c⟩ := p
      obtain ⟨a', b', c'⟩ := q
      simp only at k1 k2 k3
      rw [k1, k2, k3]
  have ef : x.fields = y.fields := ext_at (d := default) (by omega) fun j hj => q2 j (by omega)
  refine W.loopG (γ := Nat) (fun i => x.params.length - i) (fun i => [.any, .any, .ptr H.length 0, .ptr (H.length + 1) 0, .any, .any, iv i] ++ List.replicate 157 .any) (fun _ => H ++ [.cells x.cs, .cells y.cs]) (fun i => i ≤ x.params.length ∧ ∀ j, j < i → x.params.getD j default = y.params.getD j default) 0 (Wk.slots (by (try simp only [List.replicate, List.cons_append, List.nil_append]); repeat' first | exact WkL.nil | refine WkL.cons (Wk1.rfl _) ?_ | refine WkL.cons Wk1.esl ?_ | refine WkL.cons (Wk1.gsl _ _ _) ?_ | refine WkL.cons (Wk1.any _) ?_)) ⟨by omega, fun j hj => by omega⟩ (fun i hi => ?_)
  obtain ⟨r1, r2⟩ := hi
  simp (maxSteps := 2000000) (disch := omega) only [c34l0, List.length_map, Ty.cs, go_sem, eq_self, if_true, if_false, reduceCtorEq, Int.reduceToNat, Int.reducePow, Nat.reducePow, Nat.reduceMul, Int.reduceLT, Int.reduceLE, Nat.reduceAdd, Nat.reduceLeDiff, Nat.reduceBEq, Nat.reduceSub, Int.reduceSub, Int.reduceMul, Int.reduceNeg, Int.reduceAdd]
  refine Br.dec (fun hc2 => ?_) (fun hc2 => ?_) <;> simp (maxSteps := 2000000) (disch := omega) only [go_sem, eq_self, if_true, if_false, reduceCtorEq, Int.reduceToNat, Int.reducePow, Nat.reducePow, Nat.reduceMul, Int.reduceLT, Int.reduceLE, Nat.reduceAdd, Nat.reduceLeDiff, Nat.reduceBEq, Nat.reduceSub, Int.reduceSub, Int.reduceMul, Int.reduceNeg, Int.reduceAdd]
  · have hia := iaA_pm (t := x.params) (a := i) (by omega) (by omega)
    have hib := iaA_pm (t := y.params) (a := i) (by omega) (by omega)
    have e1 : pmAt x.params (i : Int) = x.params.getD i default := rfl
    have e2 : pmAt y.params (i : Int) = y.params.getD i default := rfl
    have nof : ∀ {p : Prop}, (x.params.getD i default = y.params.getD i default → p) → ¬ p → false = B := fun hf hp => no (fun e => by rw [e]) (fun e => hp (hf e))
    rw [e1] at hia
    rw [e2] at hib
    refine W.pchain follows (by decide +kernel) ?_
    by_cases k2 : (x.params.getD i default).var = (y.params.getD i default).var
    rotate_left
    · have k2' : ((x.params.getD i default).var == (y.params.getD i default).var) = false := by simpa using k2
      simp (maxSteps := 2000000) (disch := omega) only [hia, hib, Pm.c, k2', go_sem, eq_self, if_true, if_false, reduceCtorEq, Int.reduceToNat, Int.reducePow, Nat.reducePow, Nat.reduceMul, Int.reduceLT, Int.reduceLE, Nat.reduceAdd, Nat.reduceLeDiff, Nat.reduceBEq, Nat.reduceSub, Int.reduceSub, Int.reduceMul, Int.reduceNeg, Int.reduceAdd]
      exact fin (nof (fun e => congrArg Pm.var e) k2) _
    by_cases k3 : (x.params.getD i default).typ = (y.params.getD i default).typ
    rotate_left
    · simp (maxSteps := 2000000) (disch := omega) only [hia, hib, Pm.c, k2, k3, go_sem, eq_self, if_true, if_false, reduceCtorEq, Int.reduceToNat, Int.reducePow, Nat.reducePow, Nat.reduceMul, Int.reduceLT, Int.reduceLE, Nat.reduceAdd, Nat.reduceLeDiff, Nat.reduceBEq, Nat.reduceSub, Int.reduceSub, Int.reduceMul, Int.reduceNeg, Int.reduceAdd]
      exact fin (nof (fun e => congrArg Pm.typ e) k3) _
    simp (maxSteps := 2000000) (disch := omega) only [hia, hib, Pm.c, k2, k3, go_sem, eq_self, if_true, if_false, reduceCtorEq, Int.reduceToNat, Int.reducePow, Nat.reducePow, Nat.reduceMul, Int.reduceLT, Int.reduceLE, Nat.reduceAdd, Nat.reduceLeDiff, Nat.reduceBEq, Nat.reduceSub, Int.reduceSub, Int.reduceMul, Int.reduceNeg, Int.reduceAdd]
    refine Nxt.mk (i + 1) (by omega) (Wk.slots (by (try simp only [List.replicate, List.cons_append, List.nil_append]); repeat' first | exact WkL.nil | refine WkL.cons (Wk1.rfl _) ?_ | refine WkL.cons Wk1.esl ?_ | refine WkL.cons (Wk1.gsl _ _ _) ?_ | refine WkL.cons (Wk1.any _) ?_)) ⟨by omega, fun j hj => ?_⟩
    rcases Nat.lt_or_ge j i with h' | h'
    · exact r2 j h'
    · rw [show j = i by omega]
      generalize x.params.getD i default = p at *
      generalize y.params.getD i default = q at *
      obtain ⟨b, c⟩ := p
      obtain ⟨b', c'⟩ := q
      simp only at k2 k3
      rw [k2, k3]
  have ep : x.params = y.params := ext_at (d := default) (by omega) fun j hj => r2 j (by omega)
  refine fin ?_ _
  rw [hB]
  refine (decide_eq_true ?_).symm
  have g1 := of_decide_eq_true h1
  have g2 := of_decide_eq_true h2
  have g3 := of_decide_eq_true h3
  have g4 := of_decide_eq_true h4
  have g5 := of_decide_eq_true h5
  have g6 := of_decide_eq_true h6
  have g7 := of_decide_eq_true h7
  have g8 := of_decide_eq_true h8
  clear no fin hB q2 r2
  obtain ⟨a1, a2, a3, a4, a5, a6, a7, a8, a9, a10⟩ := x
  obtain ⟨b1, b2, b3, b4, b5, b6, b7, b8, b9, b10⟩ := y
  simp only at ef ep g1 g2 g3 g4 g5 g6 g7 g8
  rw [ef, ep, g1, g2, g3, g4, g5, g6, g7, g8]
/-- Two tables alike. -/
theorem tables_c {a b : List Ty} (ha : TOk a) (hb : TOk b) (H : List ABlk) : ACalls Try.prog 17 [tv a, tv b] H fun v H' => v = bv (decide (a = b)) ∧ H' = H := by
  obtain ⟨B, hB⟩ : ∃ B, B = decide (a = b) := ⟨_, rfl⟩
  rw [← hB]
  refine ACalls.into Try.func17 cc17 rr17 fun hcl => ?_
  have ha1 := ha.1
  have hb1 := hb.1
  have no : ∀ {p : Prop}, (a = b → p) → ¬ p → false = B := fun h hp => by rw [hB]; exact (decide_eq_false fun e => hp (h e)).symm
  by_cases hl : a.length = b.length
  rotate_left
  · simp (maxSteps := 2000000) (disch := omega) only [Try.ntmps17, c17, r17, List.length_map, go_sem, eq_self, if_true, if_false, reduceCtorEq, Int.reduceToNat, Int.reducePow, Nat.reducePow, Nat.reduceMul, Int.reduceLT, Int.reduceLE, Nat.reduceAdd, Nat.reduceLeDiff, Nat.reduceBEq, Nat.reduceSub, Int.reduceSub, Int.reduceMul, Int.reduceNeg, Int.reduceAdd]
    exact Ret.keep ⟨by rw [← no (fun e => congrArg List.length e) hl], rfl⟩
  simp (maxSteps := 2000000) (disch := omega) only [Try.ntmps17, c17, r17, List.length_map, hl, go_sem, eq_self, if_true, if_false, reduceCtorEq, Int.reduceToNat, Int.reducePow, Nat.reducePow, Nat.reduceMul, Int.reduceLT, Int.reduceLE, Nat.reduceAdd, Nat.reduceLeDiff, Nat.reduceBEq, Nat.reduceSub, Int.reduceSub, Int.reduceMul, Int.reduceNeg, Int.reduceAdd]
  refine W.loopG (γ := Nat) (fun i => a.length - i) (fun i => [tv a, tv b, .any, .any, .any, iv i] ++ List.replicate 21 .any) (fun _ => H) (fun i => i ≤ a.length ∧ ∀ j, j < i → a.getD j default = b.getD j default) 0 (Wk.slots (by (try simp only [List.replicate, List.cons_append, List.nil_append]); repeat' first | exact WkL.nil | refine WkL.cons (Wk1.rfl _) ?_ | refine WkL.cons Wk1.esl ?_ | refine WkL.cons (Wk1.gsl _ _ _) ?_ | refine WkL.cons (Wk1.any _) ?_)) ⟨by omega, fun j hj => by omega⟩ (fun i hi => ?_)
  obtain ⟨q1, q2⟩ := hi
  simp (maxSteps := 2000000) (disch := omega) only [c17l0, List.length_map, go_sem, eq_self, if_true, if_false, reduceCtorEq, Int.reduceToNat, Int.reducePow, Nat.reducePow, Nat.reduceMul, Int.reduceLT, Int.reduceLE, Nat.reduceAdd, Nat.reduceLeDiff, Nat.reduceBEq, Nat.reduceSub, Int.reduceSub, Int.reduceMul, Int.reduceNeg, Int.reduceAdd]
  refine Br.dec (fun hc => ?_) (fun hc => ?_) <;> simp (maxSteps := 2000000) (disch := omega) only [go_sem, eq_self, if_true, if_false, reduceCtorEq, Int.reduceToNat, Int.reducePow, Nat.reducePow, Nat.reduceMul, Int.reduceLT, Int.reduceLE, Nat.reduceAdd, Nat.reduceLeDiff, Nat.reduceBEq, Nat.reduceSub, Int.reduceSub, Int.reduceMul, Int.reduceNeg, Int.reduceAdd]
  · have hia := iaA_ty (t := a) (a := i) (by omega) (by omega)
    have hib := iaA_ty (t := b) (a := i) (by omega) (by omega)
    have al := alike_c (x := tyAt a i) (y := tyAt b i) (ha.at_ (by omega) (by omega)) H
    refine W.pchain follows (by decide +kernel) ?_
    rw [Ty.av, Ty.av, Ty.cs, Ty.cs] at al
    simp (maxSteps := 2000000) (disch := omega) only [hia, hib, Ty.c, go_sem, eq_self, if_true, if_false, reduceCtorEq, Int.reduceToNat, Int.reducePow, Nat.reducePow, Nat.reduceMul, Int.reduceLT, Int.reduceLE, Nat.reduceAdd, Nat.reduceLeDiff, Nat.reduceBEq, Nat.reduceSub, Int.reduceSub, Int.reduceMul, Int.reduceNeg, Int.reduceAdd]
    refine PCont.mk al ?_
    cases hd : decide (tyAt a i = tyAt b i) with
    | true =>
      simp (maxSteps := 2000000) (disch := omega) only [go_sem, eq_self, if_true, if_false, reduceCtorEq, Int.reduceToNat, Int.reducePow, Nat.reducePow, Nat.reduceMul, Int.reduceLT, Int.reduceLE, Nat.reduceAdd, Nat.reduceLeDiff, Nat.reduceBEq, Nat.reduceSub, Int.reduceSub, Int.reduceMul, Int.reduceNeg, Int.reduceAdd]
      refine Nxt.mk (i + 1) (by omega) (Wk.slots (by (try simp only [List.replicate, List.cons_append, List.nil_append]); repeat' first | exact WkL.nil | refine WkL.cons (Wk1.rfl _) ?_ | refine WkL.cons Wk1.esl ?_ | refine WkL.cons (Wk1.gsl _ _ _) ?_ | refine WkL.cons (Wk1.any _) ?_)) ⟨by omega, fun j hj => ?_⟩
      rcases Nat.lt_or_ge j i with h' | h'
      · exact q2 j h'
      · rw [show j = i by omega]; exact of_decide_eq_true hd
    | false =>
      simp (maxSteps := 2000000) (disch := omega) only [go_sem, eq_self, if_true, if_false, reduceCtorEq, Int.reduceToNat, Int.reducePow, Nat.reducePow, Nat.reduceMul, Int.reduceLT, Int.reduceLE, Nat.reduceAdd, Nat.reduceLeDiff, Nat.reduceBEq, Nat.reduceSub, Int.reduceSub, Int.reduceMul, Int.reduceNeg, Int.reduceAdd]
      exact Ret.keep ⟨by rw [← no (fun e => by rw [e]) (of_decide_eq_false hd)], rfl⟩
  · refine Ret.keep ⟨?_, rfl⟩
    rw [hB, decide_eq_true (ext_at (d := default) hl fun j hj => q2 j (by omega))]
end Go.Proofs.Ytlhpcccffmfopaa
