/- cpu.packed. -/
import Derived.Test.YtalhmnijkkihgaaA4
namespace Go.Proofs.Ytalhmnijkkihgaa
set_option linter.unusedSectionVars false
set_option linter.unusedSimpArgs false
set_option linter.unusedVariables false
set_option maxRecDepth 20000
set_option maxHeartbeats 1000000
open Go.RowKit

theorem put1_f (x lo : Int) (hx : U32 x) (h0 : 28 ≤ lo) (h1 : lo ≤ 31) : ∃ r, U32 r ∧ ∀ H, ACalls Try.prog 47 [wv x, iv lo, iv 1, wv 1] H fun v H' => v = wv r ∧ H' = H := by
  obtain ⟨x0, x1⟩ := hx
  apply Exists.intro
  refine ⟨?_, fun H => ?_⟩
  rotate_left
  · refine ACalls.into Try.func47 cc47 rr47 fun hcl => ?_
    simp (maxSteps := 2000000) (disch := omega) only [Try.ntmps47, c47, r47, go_sem, eq_self, if_true, if_false, reduceCtorEq, Int.reduceToNat, Int.reducePow, Nat.reducePow, Nat.reduceMul, Int.reduceLT, Int.reduceLE, Nat.reduceAdd, Nat.reduceLeDiff, Nat.reduceBEq, Nat.reduceSub, Int.reduceSub, Int.reduceMul, Int.reduceNeg, Int.reduceAdd]
    refine Cont.mk (inside_c _ _ (by omega) (by decide) (by omega) _) ?_
    simp (maxSteps := 2000000) (disch := omega) only [go_sem, eq_self, if_true, if_false, reduceCtorEq, Int.reduceToNat, Int.reducePow, Nat.reducePow, Nat.reduceMul, Int.reduceLT, Int.reduceLE, Nat.reduceAdd, Nat.reduceLeDiff, Nat.reduceBEq, Nat.reduceSub, Int.reduceSub, Int.reduceMul, Int.reduceNeg, Int.reduceAdd]
    refine Cont.mk (mask1_c _) ?_
    simp (maxSteps := 2000000) (disch := omega) only [go_sem, eq_self, if_true, if_false, reduceCtorEq, Int.reduceToNat, Int.reducePow, Nat.reducePow, Nat.reduceMul, Int.reduceLT, Int.reduceLE, Nat.reduceAdd, Nat.reduceLeDiff, Nat.reduceBEq, Nat.reduceSub, Int.reduceSub, Int.reduceMul, Int.reduceNeg, Int.reduceAdd]
    exact Ret.keep ⟨rfl, rfl⟩
  · first | exact u32_mod _ | exact u32_bv _
theorem putB (b : Bool) (x lo : Int) (hx : U32 x) (h0 : 28 ≤ lo) (h1 : lo ≤ 31) : ∃ r, U32 r ∧ (b = false → r = x) ∧ (b = true → ∀ H, ACalls Try.prog 47 [wv x, iv lo, iv 1, wv 1] H fun v H' => v = wv r ∧ H' = H) := by
  cases b
  · exact ⟨x, hx, fun _ => rfl, fun h => by cases h⟩
  · obtain ⟨r, h1, h2⟩ := put1_f x lo hx h0 h1
    exact ⟨r, h1, (fun h => by cases h), fun _ => h2⟩
theorem packed_f (n z c v : Bool) : ∃ r, U32 r ∧ ∀ H, ACalls Try.prog 35 [.agg [bv n, bv z, bv c, bv v]] H fun w H' => w = wv r ∧ H' = H := by
  obtain ⟨r1, u1, f1, t1⟩ := putB v 0 28 (by decide) (by decide) (by decide)
  obtain ⟨r2, u2, f2, t2⟩ := putB c r1 29 u1 (by decide) (by decide)
  obtain ⟨r3, u3, f3, t3⟩ := putB z r2 30 u2 (by decide) (by decide)
  obtain ⟨r4, u4, f4, t4⟩ := putB n r3 31 u3 (by decide) (by decide)
  refine ⟨r4, u4, fun H => ?_⟩
  refine ACalls.into Try.func35 cc35 rr35 fun hcl => ?_
  simp (maxSteps := 2000000) (disch := omega) only [Try.ntmps35, c35, r35, go_sem, eq_self, if_true, if_false, reduceCtorEq, Int.reduceToNat, Int.reducePow, Nat.reducePow, Nat.reduceMul, Int.reduceLT, Int.reduceLE, Nat.reduceAdd, Nat.reduceLeDiff, Nat.reduceBEq, Nat.reduceSub, Int.reduceSub, Int.reduceMul, Int.reduceNeg, Int.reduceAdd]
  obtain ⟨R, hR⟩ : ∃ R : Nat → Int, R 0 = 0 ∧ R 1 = r1 ∧ R 2 = r2 ∧ R 3 = r3 ∧ R 4 = r4 := ⟨fun i => match i with | 0 => 0 | 1 => r1 | 2 => r2 | 3 => r3 | _ => r4, rfl, rfl, rfl, rfl, rfl⟩
  obtain ⟨e0, e1, e2, e3, e4⟩ := hR
  refine W.loopG (γ := Nat) (fun i => 4 - i) (fun i => [.any, .any, .any, wv (R i)] ++ List.replicate 10 .any ++ [.agg [bv v, bv c, bv z, bv n], iv i] ++ List.replicate 10 .any) (fun _ => H ++ [.cells [bv n, bv z, bv c, bv v]]) (fun i => i ≤ 4) 0 (by rw [e0]; exact Wk.slots (by (try simp only [List.replicate, List.cons_append, List.nil_append]); repeat' first | exact WkL.nil | refine WkL.cons (Wk1.rfl _) ?_ | refine WkL.cons Wk1.esl ?_ | refine WkL.cons (Wk1.gsl _ _ _) ?_ | refine WkL.cons (Wk1.any _) ?_)) (by decide) (fun i q1 => ?_)
  have hi : i = 0 ∨ i = 1 ∨ i = 2 ∨ i = 3 ∨ i = 4 := by omega
  rcases hi with rfl | rfl | rfl | rfl | rfl
  · rw [e0]
    cases v
    · have q := f1 rfl
      simp (maxSteps := 2000000) (disch := omega) only [c35l0, go_sem, eq_self, if_true, if_false, reduceCtorEq, Int.reduceToNat, Int.reducePow, Nat.reducePow, Nat.reduceMul, Int.reduceLT, Int.reduceLE, Nat.reduceAdd, Nat.reduceLeDiff, Nat.reduceBEq, Nat.reduceSub, Int.reduceSub, Int.reduceMul, Int.reduceNeg, Int.reduceAdd]
      exact Nxt.mk 1 (by omega) (by rw [e1, q]; exact Wk.slots (by (try simp only [List.replicate, List.cons_append, List.nil_append]); repeat' first | exact WkL.nil | refine WkL.cons (Wk1.rfl _) ?_ | refine WkL.cons Wk1.esl ?_ | refine WkL.cons (Wk1.gsl _ _ _) ?_ | refine WkL.cons (Wk1.any _) ?_)) (by omega)
    · have q := t1 rfl
      simp (maxSteps := 2000000) (disch := omega) only [c35l0, go_sem, eq_self, if_true, if_false, reduceCtorEq, Int.reduceToNat, Int.reducePow, Nat.reducePow, Nat.reduceMul, Int.reduceLT, Int.reduceLE, Nat.reduceAdd, Nat.reduceLeDiff, Nat.reduceBEq, Nat.reduceSub, Int.reduceSub, Int.reduceMul, Int.reduceNeg, Int.reduceAdd]
      refine Cont.mk (q _) ?_
      simp (maxSteps := 2000000) (disch := omega) only [go_sem, eq_self, if_true, if_false, reduceCtorEq, Int.reduceToNat, Int.reducePow, Nat.reducePow, Nat.reduceMul, Int.reduceLT, Int.reduceLE, Nat.reduceAdd, Nat.reduceLeDiff, Nat.reduceBEq, Nat.reduceSub, Int.reduceSub, Int.reduceMul, Int.reduceNeg, Int.reduceAdd]
      exact Nxt.mk 1 (by omega) (by rw [e1]; exact Wk.slots (by (try simp only [List.replicate, List.cons_append, List.nil_append]); repeat' first | exact WkL.nil | refine WkL.cons (Wk1.rfl _) ?_ | refine WkL.cons Wk1.esl ?_ | refine WkL.cons (Wk1.gsl _ _ _) ?_ | refine WkL.cons (Wk1.any _) ?_)) (by omega)
  · rw [e1]
    cases c
    · have q := f2 rfl
      simp (maxSteps := 2000000) (disch := omega) only [c35l0, go_sem, eq_self, if_true, if_false, reduceCtorEq, Int.reduceToNat, Int.reducePow, Nat.reducePow, Nat.reduceMul, Int.reduceLT, Int.reduceLE, Nat.reduceAdd, Nat.reduceLeDiff, Nat.reduceBEq, Nat.reduceSub, Int.reduceSub, Int.reduceMul, Int.reduceNeg, Int.reduceAdd]
      exact Nxt.mk 2 (by omega) (by rw [e2, q]; exact Wk.slots (by (try simp only [List.replicate, List.cons_append, List.nil_append]); repeat' first | exact WkL.nil | refine WkL.cons (Wk1.rfl _) ?_ | refine WkL.cons Wk1.esl ?_ | refine WkL.cons (Wk1.gsl _ _ _) ?_ | refine WkL.cons (Wk1.any _) ?_)) (by omega)
    · have q := t2 rfl
      simp (maxSteps := 2000000) (disch := omega) only [c35l0, go_sem, eq_self, if_true, if_false, reduceCtorEq, Int.reduceToNat, Int.reducePow, Nat.reducePow, Nat.reduceMul, Int.reduceLT, Int.reduceLE, Nat.reduceAdd, Nat.reduceLeDiff, Nat.reduceBEq, Nat.reduceSub, Int.reduceSub, Int.reduceMul, Int.reduceNeg, Int.reduceAdd]
      refine Cont.mk (q _) ?_
      simp (maxSteps := 2000000) (disch := omega) only [go_sem, eq_self, if_true, if_false, reduceCtorEq, Int.reduceToNat, Int.reducePow, Nat.reducePow, Nat.reduceMul, Int.reduceLT, Int.reduceLE, Nat.reduceAdd, Nat.reduceLeDiff, Nat.reduceBEq, Nat.reduceSub, Int.reduceSub, Int.reduceMul, Int.reduceNeg, Int.reduceAdd]
      exact Nxt.mk 2 (by omega) (by rw [e2]; exact Wk.slots (by (try simp only [List.replicate, List.cons_append, List.nil_append]); repeat' first | exact WkL.nil | refine WkL.cons (Wk1.rfl _) ?_ | refine WkL.cons Wk1.esl ?_ | refine WkL.cons (Wk1.gsl _ _ _) ?_ | refine WkL.cons (Wk1.any _) ?_)) (by omega)
  · rw [e2]
    cases z
    · have q := f3 rfl
      simp (maxSteps := 2000000) (disch := omega) only [c35l0, go_sem, eq_self, if_true, if_false, reduceCtorEq, Int.reduceToNat, Int.reducePow, Nat.reducePow, Nat.reduceMul, Int.reduceLT, Int.reduceLE, Nat.reduceAdd, Nat.reduceLeDiff, Nat.reduceBEq, Nat.reduceSub, Int.reduceSub, Int.reduceMul, Int.reduceNeg, Int.reduceAdd]
      exact Nxt.mk 3 (by omega) (by rw [e3, q]; exact Wk.slots (by (try simp only [List.replicate, List.cons_append, List.nil_append]); repeat' first | exact WkL.nil | refine WkL.cons (Wk1.rfl _) ?_ | refine WkL.cons Wk1.esl ?_ | refine WkL.cons (Wk1.gsl _ _ _) ?_ | refine WkL.cons (Wk1.any _) ?_)) (by omega)
    · have q := t3 rfl
      simp (maxSteps := 2000000) (disch := omega) only [c35l0, go_sem, eq_self, if_true, if_false, reduceCtorEq, Int.reduceToNat, Int.reducePow, Nat.reducePow, Nat.reduceMul, Int.reduceLT, Int.reduceLE, Nat.reduceAdd, Nat.reduceLeDiff, Nat.reduceBEq, Nat.reduceSub, Int.reduceSub, Int.reduceMul, Int.reduceNeg, Int.reduceAdd]
      refine Cont.mk (q _) ?_
      simp (maxSteps := 2000000) (disch := omega) only [go_sem, eq_self, if_true, if_false, reduceCtorEq, Int.reduceToNat, Int.reducePow, Nat.reducePow, Nat.reduceMul, Int.reduceLT, Int.reduceLE, Nat.reduceAdd, Nat.reduceLeDiff, Nat.reduceBEq, Nat.reduceSub, Int.reduceSub, Int.reduceMul, Int.reduceNeg, Int.reduceAdd]
      exact Nxt.mk 3 (by omega) (by rw [e3]; exact Wk.slots (by (try simp only [List.replicate, List.cons_append, List.nil_append]); repeat' first | exact WkL.nil | refine WkL.cons (Wk1.rfl _) ?_ | refine WkL.cons Wk1.esl ?_ | refine WkL.cons (Wk1.gsl _ _ _) ?_ | refine WkL.cons (Wk1.any _) ?_)) (by omega)
  · rw [e3]
    cases n
    · have q := f4 rfl
      simp (maxSteps := 2000000) (disch := omega) only [c35l0, go_sem, eq_self, if_true, if_false, reduceCtorEq, Int.reduceToNat, Int.reducePow, Nat.reducePow, Nat.reduceMul, Int.reduceLT, Int.reduceLE, Nat.reduceAdd, Nat.reduceLeDiff, Nat.reduceBEq, Nat.reduceSub, Int.reduceSub, Int.reduceMul, Int.reduceNeg, Int.reduceAdd]
      exact Nxt.mk 4 (by omega) (by rw [e4, q]; exact Wk.slots (by (try simp only [List.replicate, List.cons_append, List.nil_append]); repeat' first | exact WkL.nil | refine WkL.cons (Wk1.rfl _) ?_ | refine WkL.cons Wk1.esl ?_ | refine WkL.cons (Wk1.gsl _ _ _) ?_ | refine WkL.cons (Wk1.any _) ?_)) (by omega)
    · have q := t4 rfl
      simp (maxSteps := 2000000) (disch := omega) only [c35l0, go_sem, eq_self, if_true, if_false, reduceCtorEq, Int.reduceToNat, Int.reducePow, Nat.reducePow, Nat.reduceMul, Int.reduceLT, Int.reduceLE, Nat.reduceAdd, Nat.reduceLeDiff, Nat.reduceBEq, Nat.reduceSub, Int.reduceSub, Int.reduceMul, Int.reduceNeg, Int.reduceAdd]
      refine Cont.mk (q _) ?_
      simp (maxSteps := 2000000) (disch := omega) only [go_sem, eq_self, if_true, if_false, reduceCtorEq, Int.reduceToNat, Int.reducePow, Nat.reducePow, Nat.reduceMul, Int.reduceLT, Int.reduceLE, Nat.reduceAdd, Nat.reduceLeDiff, Nat.reduceBEq, Nat.reduceSub, Int.reduceSub, Int.reduceMul, Int.reduceNeg, Int.reduceAdd]
      exact Nxt.mk 4 (by omega) (by rw [e4]; exact Wk.slots (by (try simp only [List.replicate, List.cons_append, List.nil_append]); repeat' first | exact WkL.nil | refine WkL.cons (Wk1.rfl _) ?_ | refine WkL.cons Wk1.esl ?_ | refine WkL.cons (Wk1.gsl _ _ _) ?_ | refine WkL.cons (Wk1.any _) ?_)) (by omega)
  · rw [e4]
    simp (maxSteps := 2000000) (disch := omega) only [c35l0, go_sem, eq_self, if_true, if_false, reduceCtorEq, Int.reduceToNat, Int.reducePow, Nat.reducePow, Nat.reduceMul, Int.reduceLT, Int.reduceLE, Nat.reduceAdd, Nat.reduceLeDiff, Nat.reduceBEq, Nat.reduceSub, Int.reduceSub, Int.reduceMul, Int.reduceNeg, Int.reduceAdd]
    exact Ret.drop _ H (Nat.le_refl _) hcl (.rfl _) (by simp [refs]) ⟨rfl, rfl⟩
end Go.Proofs.Ytalhmnijkkihgaa
