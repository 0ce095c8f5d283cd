/- alu.Holds: the same at every heap. -/
import Derived.Test.YtmgmoamcbnkbfaaGreatDoorYA1
set_option linter.unusedVariables false
set_option linter.unusedSimpArgs false
set_option linter.unusedSectionVars false
namespace Go.Proofs.YtmgmoamcbnkbfaaGreatDoor
set_option linter.unusedSimpArgs false
set_option linter.unusedVariables false
set_option maxRecDepth 20000
set_option maxHeartbeats 1000000
open Go.RowKit

theorem holds_f (k : Int) (n z c v : Bool) : ∃ b, ∀ H, ACalls Tryz.prog 70 [iv k, .agg [bv n, bv z, bv c, bv v]] H fun w H' => w = bv b ∧ H' = H := by
  by_cases h0 : k < 0
  · apply Exists.intro
    intro H
    refine ACalls.into Tryz.func70 cc70 rr70 fun hcl => ?_
    simp (maxSteps := 2000000) (disch := omega) only [Tryz.ntmps70, c70, r70, go_sem, seval, eq_self, if_true, if_false, reduceCtorEq]
    exact Ret.drop _ H (Nat.le_refl _) hcl (.rfl _) (by simp [refs]) ⟨rfl, rfl⟩
  by_cases h1 : 15 < k
  · apply Exists.intro
    intro H
    refine ACalls.into Tryz.func70 cc70 rr70 fun hcl => ?_
    simp (maxSteps := 2000000) (disch := omega) only [Tryz.ntmps70, c70, r70, go_sem, seval, eq_self, if_true, if_false, reduceCtorEq]
    exact Ret.drop _ H (Nat.le_refl _) hcl (.rfl _) (by simp [refs]) ⟨rfl, rfl⟩
  have hm : k.tmod 8 = 0 ∨ k.tmod 8 = 1 ∨ k.tmod 8 = 2 ∨ k.tmod 8 = 3 ∨ k.tmod 8 = 4 ∨ k.tmod 8 = 5 ∨ k.tmod 8 = 6 ∨ k.tmod 8 = 7 := by
    rw [Int.tmod_eq_emod_of_nonneg (by omega)]; omega
  have he : k.tmod 8 = k % 8 := Int.tmod_eq_emod_of_nonneg (by omega)
  rcases hm with h | h | h | h | h | h | h | h
  all_goals (
    rw [he] at h
    cases c <;> cases n <;> cases v <;> (
      apply Exists.intro
      intro H
      refine ACalls.into Tryz.func70 cc70 rr70 fun hcl => ?_
      simp (maxSteps := 2000000) (disch := omega) only [Tryz.ntmps70, c70, r70, h, go_sem, seval, eq_self, if_true, if_false, reduceCtorEq]
      exact Ret.drop _ H (Nat.le_refl _) hcl (.rfl _) (by simp [refs]) ⟨rfl, rfl⟩))
end Go.Proofs.YtmgmoamcbnkbfaaGreatDoor
