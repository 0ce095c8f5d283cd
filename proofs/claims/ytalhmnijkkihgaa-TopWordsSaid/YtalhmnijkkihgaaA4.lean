/- alu.Holds, bits.Put, cpu.packed, bits.Signed. -/
import Derived.Test.YtalhmnijkkihgaaA1
namespace Go.Proofs.Ytalhmnijkkihgaa
set_option linter.unusedSectionVars false
set_option linter.unusedSimpArgs false
set_option linter.unusedVariables false
set_option maxRecDepth 20000
set_option maxHeartbeats 1000000
open Go.RowKit

theorem holds_c (k : Int) (n z c v : Bool) (H : List ABlk) : ACalls Try.prog 34 [iv k, .agg [bv n, bv z, bv c, bv v]] H fun w H' => (∃ b, w = bv b) ∧ H' = H := by
  refine ACalls.into Try.func34 cc34 rr34 fun hcl => ?_
  by_cases h0 : k < 0
  · simp (maxSteps := 2000000) (disch := omega) only [Try.ntmps34, c34, r34, go_sem, eq_self, if_true, if_false, reduceCtorEq, Int.reduceToNat, Int.reducePow, Nat.reducePow, Nat.reduceMul, Int.reduceLT, Int.reduceLE, Nat.reduceAdd, Nat.reduceLeDiff, Nat.reduceBEq, Nat.reduceSub, Int.reduceSub, Int.reduceMul, Int.reduceNeg, Int.reduceAdd]
    exact Ret.drop _ H (Nat.le_refl _) hcl (.rfl _) (by simp [refs]) ⟨⟨_, rfl⟩, rfl⟩
  by_cases h1 : 15 < k
  · simp (maxSteps := 2000000) (disch := omega) only [Try.ntmps34, c34, r34, go_sem, eq_self, if_true, if_false, reduceCtorEq, Int.reduceToNat, Int.reducePow, Nat.reducePow, Nat.reduceMul, Int.reduceLT, Int.reduceLE, Nat.reduceAdd, Nat.reduceLeDiff, Nat.reduceBEq, Nat.reduceSub, Int.reduceSub, Int.reduceMul, Int.reduceNeg, Int.reduceAdd]
    exact Ret.drop _ H (Nat.le_refl _) hcl (.rfl _) (by simp [refs]) ⟨⟨_, rfl⟩, rfl⟩
  have hm : k.tmod 8 = 0 ∨ k.tmod 8 = 1 ∨ k.tmod 8 = 2 ∨ k.tmod 8 = 3 ∨ k.tmod 8 = 4 ∨ k.tmod 8 = 5 ∨ k.tmod 8 = 6 ∨ k.tmod 8 = 7 := by
    rw [Int.tmod_eq_emod_of_nonneg (by omega)]; omega
  have he : k.tmod 8 = k % 8 := Int.tmod_eq_emod_of_nonneg (by omega)
  rcases hm with h | h | h | h | h | h | h | h
  all_goals (
    rw [he] at h
    try cases c <;> (
      try cases n <;> cases v <;> (
        simp (maxSteps := 2000000) (disch := omega) only [Try.ntmps34, c34, r34, h, go_sem, eq_self, if_true, if_false, reduceCtorEq, Int.reduceToNat, Int.reducePow, Nat.reducePow, Nat.reduceMul, Int.reduceLT, Int.reduceLE, Nat.reduceAdd, Nat.reduceLeDiff, Nat.reduceBEq, Nat.reduceSub, Int.reduceSub, Int.reduceMul, Int.reduceNeg, Int.reduceAdd]
        exact Ret.drop _ H (Nat.le_refl _) hcl (.rfl _) (by simp [refs]) ⟨⟨_, rfl⟩, rfl⟩)))
theorem put1_c (x lo : Int) (hx : U32 x) (h0 : 28 ≤ lo) (h1 : lo ≤ 31) (H : List ABlk) : ACalls Try.prog 47 [wv x, iv lo, iv 1, wv 1] H fun v H' => (∃ r, U32 r ∧ v = wv r) ∧ H' = H := by
  obtain ⟨x0, x1⟩ := hx
  refine ACalls.into Try.func47 cc47 rr47 fun hcl => ?_
  simp (maxSteps := 2000000) (disch := omega) only [Try.ntmps47, c47, r47, go_sem, eq_self, if_true, if_false, reduceCtorEq, Int.reduceToNat, Int.reducePow, Nat.reducePow, Nat.reduceMul, Int.reduceLT, Int.reduceLE, Nat.reduceAdd, Nat.reduceLeDiff, Nat.reduceBEq, Nat.reduceSub, Int.reduceSub, Int.reduceMul, Int.reduceNeg, Int.reduceAdd]
  refine Cont.mk (inside_c _ _ (by omega) (by decide) (by omega) _) ?_
  simp (maxSteps := 2000000) (disch := omega) only [go_sem, eq_self, if_true, if_false, reduceCtorEq, Int.reduceToNat, Int.reducePow, Nat.reducePow, Nat.reduceMul, Int.reduceLT, Int.reduceLE, Nat.reduceAdd, Nat.reduceLeDiff, Nat.reduceBEq, Nat.reduceSub, Int.reduceSub, Int.reduceMul, Int.reduceNeg, Int.reduceAdd]
  refine Cont.mk (mask1_c _) ?_
  simp (maxSteps := 2000000) (disch := omega) only [go_sem, eq_self, if_true, if_false, reduceCtorEq, Int.reduceToNat, Int.reducePow, Nat.reducePow, Nat.reduceMul, Int.reduceLT, Int.reduceLE, Nat.reduceAdd, Nat.reduceLeDiff, Nat.reduceBEq, Nat.reduceSub, Int.reduceSub, Int.reduceMul, Int.reduceNeg, Int.reduceAdd]
  exact Ret.keep ⟨⟨_, by first | exact u32_mod _ | exact u32_bv _, rfl⟩, rfl⟩
theorem signed_c (x : Int) (hx : U32 x) (H : List ABlk) : ACalls Try.prog 44 [wv x] H fun w H' => (∃ r, w = iv r) ∧ H' = H := by
  obtain ⟨x0, x1⟩ := hx
  refine ACalls.into Try.func44 cc44 rr44 fun hcl => ?_
  simp (maxSteps := 2000000) (disch := omega) only [Try.ntmps44, c44, r44, go_sem, eq_self, if_true, if_false, reduceCtorEq, Int.reduceToNat, Int.reducePow, Nat.reducePow, Nat.reduceMul, Int.reduceLT, Int.reduceLE, Nat.reduceAdd, Nat.reduceLeDiff, Nat.reduceBEq, Nat.reduceSub, Int.reduceSub, Int.reduceMul, Int.reduceNeg, Int.reduceAdd]
  exact Ret.keep ⟨⟨_, rfl⟩, rfl⟩
end Go.Proofs.Ytalhmnijkkihgaa
