/- alu.Do, alu.Holds, cpu.packed. -/
import Derived.Test.YtalhmnijkkihgaaA2
import Derived.Test.YtalhmnijkkihgaaA0
namespace Go.Proofs.Ytalhmnijkkihgaa
set_option linter.unusedSectionVars false
set_option linter.unusedSimpArgs false
set_option linter.unusedVariables false
set_option maxRecDepth 20000
set_option maxHeartbeats 1000000
open Go.RowKit

def DoP (op : Int) (u : Bool) (b n h : Int) (f : Fl) (r h2 : Int) (f2 : Fl) (ok : Bool) : Prop := U32 r ∧ U32 h2 ∧ ∀ H, ACalls Try.prog 36 [iv op, bv u, wv b, wv n, wv h, f.av] H fun v H' => v = .tup [wv r, wv h2, f2.av, bv ok] ∧ H' = H
theorem do_ex (op : Int) (u : Bool) (b n h : Int) (f : Fl) (hb : U32 b) (hn : U32 n) (hh : U32 h) : ∃ r h2 f2 ok, DoP op u b n h f r h2 f2 ok := by
  obtain ⟨fn, fz, fc, fv⟩ := f
  by_cases h0 : op < 0 ∨ 11 < op ∨ (u = true ∧ op ≠ 0 ∧ (op < 8 ∨ 10 < op))
  · refine ⟨0, 0, ⟨false, false, false, false⟩, false, by decide, by decide, fun H => ?_⟩
    refine ACalls.into Try.func36 cc36 rr36 fun hcl => ?_
    by_cases h1 : op < 0
    · simp (maxSteps := 2000000) (disch := omega) only [Try.ntmps36, c36, r36, go_sem, eq_self, if_true, if_false, reduceCtorEq, Int.reduceToNat, Int.reducePow, Nat.reducePow, Nat.reduceMul, Int.reduceLT, Int.reduceLE, Nat.reduceAdd, Nat.reduceLeDiff, Nat.reduceBEq, Nat.reduceSub, Int.reduceSub, Int.reduceMul, Int.reduceNeg, Int.reduceAdd]
      exact Ret.drop _ H (Nat.le_refl _) hcl (.rfl _) (by simp [refs, refs.refsL]) ⟨rfl, rfl⟩
    by_cases h2 : 11 < op
    · simp (maxSteps := 2000000) (disch := omega) only [Try.ntmps36, c36, r36, go_sem, eq_self, if_true, if_false, reduceCtorEq, Int.reduceToNat, Int.reducePow, Nat.reducePow, Nat.reduceMul, Int.reduceLT, Int.reduceLE, Nat.reduceAdd, Nat.reduceLeDiff, Nat.reduceBEq, Nat.reduceSub, Int.reduceSub, Int.reduceMul, Int.reduceNeg, Int.reduceAdd]
      exact Ret.drop _ H (Nat.le_refl _) hcl (.rfl _) (by simp [refs, refs.refsL]) ⟨rfl, rfl⟩
    obtain ⟨rfl, h3, h4⟩ : u = true ∧ op ≠ 0 ∧ (op < 8 ∨ 10 < op) := by
      rcases h0 with h | h | h
      · exact absurd h h1
      · exact absurd h h2
      · exact h
    by_cases h5 : op < 8
    · simp (maxSteps := 2000000) (disch := omega) only [Try.ntmps36, c36, r36, go_sem, eq_self, if_true, if_false, reduceCtorEq, Int.reduceToNat, Int.reducePow, Nat.reducePow, Nat.reduceMul, Int.reduceLT, Int.reduceLE, Nat.reduceAdd, Nat.reduceLeDiff, Nat.reduceBEq, Nat.reduceSub, Int.reduceSub, Int.reduceMul, Int.reduceNeg, Int.reduceAdd]
      exact Ret.drop _ H (Nat.le_refl _) hcl (.rfl _) (by simp [refs, refs.refsL]) ⟨rfl, rfl⟩
    · have : 10 < op := by omega
      simp (maxSteps := 2000000) (disch := omega) only [Try.ntmps36, c36, r36, go_sem, eq_self, if_true, if_false, reduceCtorEq, Int.reduceToNat, Int.reducePow, Nat.reducePow, Nat.reduceMul, Int.reduceLT, Int.reduceLE, Nat.reduceAdd, Nat.reduceLeDiff, Nat.reduceBEq, Nat.reduceSub, Int.reduceSub, Int.reduceMul, Int.reduceNeg, Int.reduceAdd]
      exact Ret.drop _ H (Nat.le_refl _) hcl (.rfl _) (by simp [refs, refs.refsL]) ⟨rfl, rfl⟩
  have hop : op = 0 ∨ op = 1 ∨ op = 2 ∨ op = 3 ∨ op = 4 ∨ op = 5 ∨ op = 6 ∨ op = 7 ∨ op = 8 ∨ op = 9 ∨ op = 10 ∨ op = 11 := by omega
  have pack : ∀ {op u}, (∃ r h2 n2 z2 c2 v2 ok, U32 r ∧ U32 h2 ∧ ∀ H, ACalls Try.prog 36 [iv op, bv u, wv b, wv n, wv h, .agg [bv fn, bv fz, bv fc, bv fv]] H fun v H' => v = .tup [wv r, wv h2, .agg [bv n2, bv z2, bv c2, bv v2], bv ok] ∧ H' = H) →
      ∃ r h2 f2 ok, DoP op u b n h ⟨fn, fz, fc, fv⟩ r h2 f2 ok := fun ⟨r, h2, n2, z2, c2, v2, ok, k1, k2, k3⟩ => ⟨r, h2, ⟨n2, z2, c2, v2⟩, ok, k1, k2, k3⟩
  have hu : op ≠ 0 → op < 8 ∨ 10 < op → u = false := fun k1 k2 => by
    cases u
    · rfl
    · exact absurd (.inr (.inr ⟨rfl, k1, k2⟩)) h0
  rcases hop with rfl | rfl | rfl | rfl | rfl | rfl | rfl | rfl | rfl | rfl | rfl | rfl
  · exact pack (do_0 u b n h fn fz fc fv hb hn hh)
  · rw [hu (by decide) (by decide)]; exact pack (do_1 b n h fn fz fc fv hb hn hh)
  · rw [hu (by decide) (by decide)]; exact pack (do_2 b n h fn fz fc fv hb hn hh)
  · rw [hu (by decide) (by decide)]; exact pack (do_3 b n h fn fz fc fv hb hn hh)
  · rw [hu (by decide) (by decide)]; exact pack (do_4 b n h fn fz fc fv hb hn hh)
  · rw [hu (by decide) (by decide)]; exact pack (do_5 b n h fn fz fc fv hb hn hh)
  · rw [hu (by decide) (by decide)]; exact pack (do_6 b n h fn fz fc fv hb hn hh)
  · rw [hu (by decide) (by decide)]; exact pack (do_7 b n h fn fz fc fv hb hn hh)
  · exact pack (do_8 u b n h fn fz fc fv hb hn hh)
  · exact pack (do_9 u b n h fn fz fc fv hb hn hh)
  · exact pack (do_10 u b n h fn fz fc fv hb hn hh)
  · rw [hu (by decide) (by decide)]; exact pack (do_11 b n h fn fz fc fv hb hn hh)
end Go.Proofs.Ytalhmnijkkihgaa
