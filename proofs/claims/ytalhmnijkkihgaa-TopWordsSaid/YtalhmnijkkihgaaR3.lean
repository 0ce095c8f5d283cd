/- risc.Encode, risc.Decode. -/
import Derived.Test.YtalhmnijkkihgaaR2
namespace Go.Proofs.Ytalhmnijkkihgaa
set_option linter.unusedSectionVars false
set_option linter.unusedSimpArgs false
set_option linter.unusedVariables false
set_option maxRecDepth 20000
set_option maxHeartbeats 1000000
open Go.RowKit

abbrev U32 (n : Int) : Prop := 0 ≤ n ∧ n < 4294967296
theorem u32_bv (b : BitVec 32) : U32 ((b.toNat : Nat) : Int) := ⟨by omega, by have := b.isLt; omega⟩
theorem u32_mod (n : Int) : U32 (n % 4294967296) := ⟨Int.emod_nonneg _ (by decide), Int.emod_lt_of_pos _ (by decide)⟩
abbrev InI (x : In) : Prop := J64 x.a ∧ J64 x.b ∧ J64 x.c ∧ J64 x.op ∧ J64 x.im
theorem enc_c (x : In) (hf : x.f = 0 ∨ x.f = 1 ∨ x.f = 2 ∨ x.f = 3) (hI : InI x) : ∃ w e, U32 w ∧ (e = 0 ∨ e = 20) ∧ ∀ H, ACalls Try.prog 17 [x.av] H fun v H' => v = .tup [wv w, iv e] ∧ H' = H := by
  have hgd := good_c x hf hI
  by_cases hg : gdB x = true
  rotate_left
  · have hg : gdB x = false := by simpa using hg
    rw [hg] at hgd
    refine ⟨0, 20, by decide, .inr rfl, fun H => ?_⟩
    refine ACalls.into Try.func17 cc17 rr17 fun hcl => ?_
    simp (maxSteps := 2000000) (disch := omega) only [Try.ntmps17, c17, r17, go_sem, eq_self, if_true, if_false, reduceCtorEq, Int.reduceToNat, Int.reducePow, Nat.reducePow, Nat.reduceMul, Int.reduceLT, Int.reduceLE, Nat.reduceAdd, Nat.reduceLeDiff, Nat.reduceBEq, Nat.reduceSub, Int.reduceSub, Int.reduceMul, Int.reduceNeg, Int.reduceAdd]
    refine Cont.mk (hgd _) ?_
    simp (maxSteps := 2000000) (disch := omega) only [go_sem, eq_self, if_true, if_false, reduceCtorEq, Int.reduceToNat, Int.reducePow, Nat.reducePow, Nat.reduceMul, Int.reduceLT, Int.reduceLE, Nat.reduceAdd, Nat.reduceLeDiff, Nat.reduceBEq, Nat.reduceSub, Int.reduceSub, Int.reduceMul, Int.reduceNeg, Int.reduceAdd]
    exact Ret.drop _ H (Nat.le_refl _) hcl (.rfl _) (by simp [refs, refs.refsL]) ⟨rfl, rfl⟩
  rw [hg] at hgd
  clear hg
  obtain ⟨f, u, v, a, b, c, op, im⟩ := x
  simp only at hf hI hgd
  rcases hf with rfl | rfl | rfl | rfl
  all_goals (
    apply Exists.intro
    apply Exists.intro (0 : Int)
    refine ⟨?_, .inl rfl, fun H => ?_⟩
    rotate_left
    · refine ACalls.into Try.func17 cc17 rr17 fun hcl => ?_
      simp (maxSteps := 2000000) (disch := omega) only [Try.ntmps17, c17, r17, go_sem, eq_self, if_true, if_false, reduceCtorEq, Int.reduceToNat, Int.reducePow, Nat.reducePow, Nat.reduceMul, Int.reduceLT, Int.reduceLE, Nat.reduceAdd, Nat.reduceLeDiff, Nat.reduceBEq, Nat.reduceSub, Int.reduceSub, Int.reduceMul, Int.reduceNeg, Int.reduceAdd]
      refine Cont.mk (hgd _) ?_
      simp (maxSteps := 2000000) (disch := omega) only [go_sem, eq_self, if_true, if_false, reduceCtorEq, Int.reduceToNat, Int.reducePow, Nat.reducePow, Nat.reduceMul, Int.reduceLT, Int.reduceLE, Nat.reduceAdd, Nat.reduceLeDiff, Nat.reduceBEq, Nat.reduceSub, Int.reduceSub, Int.reduceMul, Int.reduceNeg, Int.reduceAdd]
      refine W.pchain follows (by decide +kernel) ?_
      simp (maxSteps := 2000000) (disch := omega) only [go_sem, eq_self, if_true, if_false, reduceCtorEq, Int.reduceToNat, Int.reducePow, Nat.reducePow, Nat.reduceMul, Int.reduceLT, Int.reduceLE, Nat.reduceAdd, Nat.reduceLeDiff, Nat.reduceBEq, Nat.reduceSub, Int.reduceSub, Int.reduceMul, Int.reduceNeg, Int.reduceAdd]
      refine PCont.mk (bit29_c u _) ?_
      simp (maxSteps := 2000000) (disch := omega) only [go_sem, eq_self, if_true, if_false, reduceCtorEq, Int.reduceToNat, Int.reducePow, Nat.reducePow, Nat.reduceMul, Int.reduceLT, Int.reduceLE, Nat.reduceAdd, Nat.reduceLeDiff, Nat.reduceBEq, Nat.reduceSub, Int.reduceSub, Int.reduceMul, Int.reduceNeg, Int.reduceAdd]
      refine PCont.mk (bit28_c v _) ?_
      simp (maxSteps := 2000000) (disch := omega) only [go_sem, eq_self, if_true, if_false, reduceCtorEq, Int.reduceToNat, Int.reducePow, Nat.reducePow, Nat.reduceMul, Int.reduceLT, Int.reduceLE, Nat.reduceAdd, Nat.reduceLeDiff, Nat.reduceBEq, Nat.reduceSub, Int.reduceSub, Int.reduceMul, Int.reduceNeg, Int.reduceAdd]
      exact Ret.drop _ H (Nat.le_refl _) hcl (.rfl _) (by simp [refs, refs.refsL]) ⟨rfl, rfl⟩
    · first | exact u32_mod _ | exact u32_bv _)
end Go.Proofs.Ytalhmnijkkihgaa
