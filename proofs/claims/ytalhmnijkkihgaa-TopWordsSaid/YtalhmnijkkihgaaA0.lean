/- alu.Do, of a move. -/
import Derived.Test.YtalhmnijkkihgaaA1
namespace Go.Proofs.Ytalhmnijkkihgaa
set_option linter.unusedSectionVars false
set_option linter.unusedSimpArgs false
set_option linter.unusedVariables false
set_option maxRecDepth 20000
set_option maxHeartbeats 1000000
open Go.RowKit

theorem do_0 (u : Bool) (b n h : Int) (fn fz fc fv : Bool) (hb : U32 b) (hn : U32 n) (hh : U32 h) : ∃ r h2 n2 z2 c2 v2 ok, U32 r ∧ U32 h2 ∧ ∀ H, ACalls Try.prog 36 [iv 0, bv u, wv b, wv n, wv h, .agg [bv fn, bv fz, bv fc, bv fv]] H fun v H' => v = .tup [wv r, wv h2, .agg [bv n2, bv z2, bv c2, bv v2], bv ok] ∧ H' = H := by
  have hb2 := hb
  have hn2 := hn
  have hh2 := hh
  obtain ⟨b0, b1⟩ := hb
  obtain ⟨n0, n1⟩ := hn
  obtain ⟨h00, h01⟩ := hh
  cases u
  · iterate 7 (apply Exists.intro)
    refine ⟨?_, ?_, fun H => ?_⟩
    rotate_left 2
    · refine ACalls.into Try.func36 cc36 rr36 fun hcl => ?_
      simp (maxSteps := 2000000) (disch := omega) only [Try.ntmps36, c36, r36, go_sem, eq_self, if_true, if_false, reduceCtorEq, Int.reduceToNat, Int.reducePow, Nat.reducePow, Nat.reduceMul, Int.reduceLT, Int.reduceLE, Nat.reduceAdd, Nat.reduceLeDiff, Nat.reduceBEq, Nat.reduceSub, Int.reduceSub, Int.reduceMul, Int.reduceNeg, Int.reduceAdd]
      refine W.dregD [([], []), ([], []), ([], []), ([], []), ([], []), ([H.length + 1], []), ([], [])] follows (by decide +kernel) rfl rfl (fun z hz b' hb' => ?_) ?_
      · simp only [List.mem_cons, List.not_mem_nil, or_false] at hz
        rcases hz with rfl | rfl | rfl | rfl | rfl | rfl | rfl <;> simp at hb' <;> subst hb' <;> exact ⟨by simp, by simp⟩
      repeat (rw [DC_p]; simp (maxSteps := 2000000) (disch := omega) only [kill_c, go_sem, eq_self, if_true, if_false, reduceCtorEq, Int.reduceToNat, Int.reducePow, Nat.reducePow, Nat.reduceMul, Int.reduceLT, Int.reduceLE, Nat.reduceAdd, Nat.reduceLeDiff, Nat.reduceBEq, Nat.reduceSub, Int.reduceSub, Int.reduceMul, Int.reduceNeg, Int.reduceAdd])
      refine WStep.ev (by simp) (by simp) ?_
      simp (maxSteps := 2000000) (disch := omega) only [go_sem, eq_self, if_true, if_false, reduceCtorEq, Int.reduceToNat, Int.reducePow, Nat.reducePow, Nat.reduceMul, Int.reduceLT, Int.reduceLE, Nat.reduceAdd, Nat.reduceLeDiff, Nat.reduceBEq, Nat.reduceSub, Int.reduceSub, Int.reduceMul, Int.reduceNeg, Int.reduceAdd]
      refine ⟨FrOk.put 1 _ (by simp) rfl, ?_⟩
      repeat (rw [DC_p]; simp (maxSteps := 2000000) (disch := omega) only [kill_c, go_sem, eq_self, if_true, if_false, reduceCtorEq, Int.reduceToNat, Int.reducePow, Nat.reducePow, Nat.reduceMul, Int.reduceLT, Int.reduceLE, Nat.reduceAdd, Nat.reduceLeDiff, Nat.reduceBEq, Nat.reduceSub, Int.reduceSub, Int.reduceMul, Int.reduceNeg, Int.reduceAdd])
      try simp (maxSteps := 2000000) (disch := omega) only [go_sem, eq_self, if_true, if_false, reduceCtorEq, Int.reduceToNat, Int.reducePow, Nat.reducePow, Nat.reduceMul, Int.reduceLT, Int.reduceLE, Nat.reduceAdd, Nat.reduceLeDiff, Nat.reduceBEq, Nat.reduceSub, Int.reduceSub, Int.reduceMul, Int.reduceNeg, Int.reduceAdd]
      exact Ret.drop _ H (Nat.le_refl _) hcl (.rfl _) (by simp [refs, refs.refsL]) ⟨rfl, rfl⟩
    · first | assumption | exact u32_mod _ | exact u32_wrap _ | exact u32_bv _ | exact ⟨by omega, by omega⟩
    · first | assumption | exact u32_mod _ | exact u32_wrap _ | exact u32_bv _ | exact ⟨by omega, by omega⟩
  · cases fc
    · iterate 7 (apply Exists.intro)
      refine ⟨?_, ?_, fun H => ?_⟩
      rotate_left 2
      · refine ACalls.into Try.func36 cc36 rr36 fun hcl => ?_
        simp (maxSteps := 2000000) (disch := omega) only [Try.ntmps36, c36, r36, go_sem, eq_self, if_true, if_false, reduceCtorEq, Int.reduceToNat, Int.reducePow, Nat.reducePow, Nat.reduceMul, Int.reduceLT, Int.reduceLE, Nat.reduceAdd, Nat.reduceLeDiff, Nat.reduceBEq, Nat.reduceSub, Int.reduceSub, Int.reduceMul, Int.reduceNeg, Int.reduceAdd]
        refine W.dregD [([], []), ([], []), ([], []), ([], []), ([], []), ([H.length + 1], []), ([], [])] follows (by decide +kernel) rfl rfl (fun z hz b' hb' => ?_) ?_
        · simp only [List.mem_cons, List.not_mem_nil, or_false] at hz
          rcases hz with rfl | rfl | rfl | rfl | rfl | rfl | rfl <;> simp at hb' <;> subst hb' <;> exact ⟨by simp, by simp⟩
        repeat (rw [DC_p]; simp (maxSteps := 2000000) (disch := omega) only [kill_c, go_sem, eq_self, if_true, if_false, reduceCtorEq, Int.reduceToNat, Int.reducePow, Nat.reducePow, Nat.reduceMul, Int.reduceLT, Int.reduceLE, Nat.reduceAdd, Nat.reduceLeDiff, Nat.reduceBEq, Nat.reduceSub, Int.reduceSub, Int.reduceMul, Int.reduceNeg, Int.reduceAdd])
        refine WStep.ev (by simp) (by simp) ?_
        simp (maxSteps := 2000000) (disch := omega) only [go_sem, eq_self, if_true, if_false, reduceCtorEq, Int.reduceToNat, Int.reducePow, Nat.reducePow, Nat.reduceMul, Int.reduceLT, Int.reduceLE, Nat.reduceAdd, Nat.reduceLeDiff, Nat.reduceBEq, Nat.reduceSub, Int.reduceSub, Int.reduceMul, Int.reduceNeg, Int.reduceAdd]
        refine ⟨FrOk.put 1 _ (by simp) rfl, ?_⟩
        repeat (rw [DC_p]; simp (maxSteps := 2000000) (disch := omega) only [kill_c, go_sem, eq_self, if_true, if_false, reduceCtorEq, Int.reduceToNat, Int.reducePow, Nat.reducePow, Nat.reduceMul, Int.reduceLT, Int.reduceLE, Nat.reduceAdd, Nat.reduceLeDiff, Nat.reduceBEq, Nat.reduceSub, Int.reduceSub, Int.reduceMul, Int.reduceNeg, Int.reduceAdd])
        try simp (maxSteps := 2000000) (disch := omega) only [go_sem, eq_self, if_true, if_false, reduceCtorEq, Int.reduceToNat, Int.reducePow, Nat.reducePow, Nat.reduceMul, Int.reduceLT, Int.reduceLE, Nat.reduceAdd, Nat.reduceLeDiff, Nat.reduceBEq, Nat.reduceSub, Int.reduceSub, Int.reduceMul, Int.reduceNeg, Int.reduceAdd]
        exact Ret.drop _ H (Nat.le_refl _) hcl (.rfl _) (by simp [refs, refs.refsL]) ⟨rfl, rfl⟩
      · first | assumption | exact u32_mod _ | exact u32_wrap _ | exact u32_bv _ | exact ⟨by omega, by omega⟩
      · first | assumption | exact u32_mod _ | exact u32_wrap _ | exact u32_bv _ | exact ⟨by omega, by omega⟩
    · iterate 7 (apply Exists.intro)
      refine ⟨?_, ?_, fun H => ?_⟩
      rotate_left 2
      · refine ACalls.into Try.func36 cc36 rr36 fun hcl => ?_
        simp (maxSteps := 2000000) (disch := omega) only [Try.ntmps36, c36, r36, go_sem, eq_self, if_true, if_false, reduceCtorEq, Int.reduceToNat, Int.reducePow, Nat.reducePow, Nat.reduceMul, Int.reduceLT, Int.reduceLE, Nat.reduceAdd, Nat.reduceLeDiff, Nat.reduceBEq, Nat.reduceSub, Int.reduceSub, Int.reduceMul, Int.reduceNeg, Int.reduceAdd]
        refine W.dregD [([], []), ([], []), ([], []), ([], []), ([], []), ([H.length + 1], []), ([], [])] follows (by decide +kernel) rfl rfl (fun z hz b' hb' => ?_) ?_
        · simp only [List.mem_cons, List.not_mem_nil, or_false] at hz
          rcases hz with rfl | rfl | rfl | rfl | rfl | rfl | rfl <;> simp at hb' <;> subst hb' <;> exact ⟨by simp, by simp⟩
        repeat (rw [DC_p]; simp (maxSteps := 2000000) (disch := omega) only [kill_c, go_sem, eq_self, if_true, if_false, reduceCtorEq, Int.reduceToNat, Int.reducePow, Nat.reducePow, Nat.reduceMul, Int.reduceLT, Int.reduceLE, Nat.reduceAdd, Nat.reduceLeDiff, Nat.reduceBEq, Nat.reduceSub, Int.reduceSub, Int.reduceMul, Int.reduceNeg, Int.reduceAdd])
        refine WStep.ev (by simp) (by simp) ?_
        simp (maxSteps := 2000000) (disch := omega) only [go_sem, eq_self, if_true, if_false, reduceCtorEq, Int.reduceToNat, Int.reducePow, Nat.reducePow, Nat.reduceMul, Int.reduceLT, Int.reduceLE, Nat.reduceAdd, Nat.reduceLeDiff, Nat.reduceBEq, Nat.reduceSub, Int.reduceSub, Int.reduceMul, Int.reduceNeg, Int.reduceAdd]
        refine ⟨FrOk.put 1 _ (by simp) rfl, ?_⟩
        repeat (rw [DC_p]; simp (maxSteps := 2000000) (disch := omega) only [kill_c, go_sem, eq_self, if_true, if_false, reduceCtorEq, Int.reduceToNat, Int.reducePow, Nat.reducePow, Nat.reduceMul, Int.reduceLT, Int.reduceLE, Nat.reduceAdd, Nat.reduceLeDiff, Nat.reduceBEq, Nat.reduceSub, Int.reduceSub, Int.reduceMul, Int.reduceNeg, Int.reduceAdd])
        try simp (maxSteps := 2000000) (disch := omega) only [go_sem, eq_self, if_true, if_false, reduceCtorEq, Int.reduceToNat, Int.reducePow, Nat.reducePow, Nat.reduceMul, Int.reduceLT, Int.reduceLE, Nat.reduceAdd, Nat.reduceLeDiff, Nat.reduceBEq, Nat.reduceSub, Int.reduceSub, Int.reduceMul, Int.reduceNeg, Int.reduceAdd]
        exact Ret.drop _ H (Nat.le_refl _) hcl (.rfl _) (by simp [refs, refs.refsL]) ⟨rfl, rfl⟩
      · first | assumption | exact u32_mod _ | exact u32_wrap _ | exact u32_bv _ | exact ⟨by omega, by omega⟩
      · first | assumption | exact u32_mod _ | exact u32_wrap _ | exact u32_bv _ | exact ⟨by omega, by omega⟩
end Go.Proofs.Ytalhmnijkkihgaa
