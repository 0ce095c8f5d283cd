/- Small functions of words. -/
import Derived.Test.YtalhmnijkkihgaaM2
namespace Go.Proofs.Ytalhmnijkkihgaa
set_option linter.unusedSectionVars false
set_option linter.unusedSimpArgs false
set_option linter.unusedVariables false
set_option maxRecDepth 20000
set_option maxHeartbeats 400000
open Go.RowKit

theorem FrOk.put {w : List Nat} {H l l' : List ABlk} (k : Nat) (x : ABlk) (hw : H.length + k ∈ w) (h : l' = l.set k x) : FrOk w [] (H ++ l) (H ++ l') (H ++ l') := by
  subst h
  have e : H ++ l.set k x = (H ++ l).set (H.length + k) x := by rw [List.set_append_right _ _ (by omega), Nat.add_sub_cancel_left]
  rw [e]
  exact .set hw
theorem decf {p : Prop} {i : Decidable p} (h : ¬ p) : decide p = false := decide_eq_false h
theorem dect {p : Prop} {i : Decidable p} (h : p) : decide p = true := decide_eq_true h
theorem dec2 {p q : Prop} {i : Decidable p} {j : Decidable q} (h : p ↔ q) : bv (decide p) = bv (decide q) := congrArg bv (decide_eq_decide.2 h)
def hf4 (x : Int) : Bool := decide (0 ≤ x ∧ x < 16)
def hf16 (x : Int) : Bool := decide (0 ≤ x ∧ x < 65536)
theorem half4_c (x : Int) (H : List ABlk) : ACalls Try.prog 37 [iv x, iv 4] H fun v H' => v = bv (hf4 x) ∧ H' = H := by
  refine ACalls.into Try.func37 cc37 rr37 fun hcl => ?_
  by_cases h0 : 0 ≤ x
  · simp (maxSteps := 2000000) (disch := omega) only [Try.ntmps37, c37, r37, go_sem, eq_self, if_true, if_false, reduceCtorEq, Int.reduceToNat, Int.reducePow, Nat.reducePow, Nat.reduceMul, Int.reduceLT, Int.reduceLE, Nat.reduceAdd, Nat.reduceLeDiff, Nat.reduceBEq, Nat.reduceSub, Int.reduceSub, Int.reduceMul, Int.reduceNeg, Int.reduceAdd]
    exact Ret.keep ⟨dec2 ⟨fun h => ⟨h0, h⟩, fun h => h.2⟩, rfl⟩
  · simp (maxSteps := 2000000) (disch := omega) only [Try.ntmps37, c37, r37, go_sem, eq_self, if_true, if_false, reduceCtorEq, Int.reduceToNat, Int.reducePow, Nat.reducePow, Nat.reduceMul, Int.reduceLT, Int.reduceLE, Nat.reduceAdd, Nat.reduceLeDiff, Nat.reduceBEq, Nat.reduceSub, Int.reduceSub, Int.reduceMul, Int.reduceNeg, Int.reduceAdd]
    exact Ret.keep ⟨congrArg bv (Eq.symm (decide_eq_false fun h => h0 h.1)), rfl⟩
theorem half16_c (x : Int) (H : List ABlk) : ACalls Try.prog 37 [iv x, iv 16] H fun v H' => v = bv (hf16 x) ∧ H' = H := by
  refine ACalls.into Try.func37 cc37 rr37 fun hcl => ?_
  by_cases h0 : 0 ≤ x
  · simp (maxSteps := 2000000) (disch := omega) only [Try.ntmps37, c37, r37, go_sem, eq_self, if_true, if_false, reduceCtorEq, Int.reduceToNat, Int.reducePow, Nat.reducePow, Nat.reduceMul, Int.reduceLT, Int.reduceLE, Nat.reduceAdd, Nat.reduceLeDiff, Nat.reduceBEq, Nat.reduceSub, Int.reduceSub, Int.reduceMul, Int.reduceNeg, Int.reduceAdd]
    exact Ret.keep ⟨dec2 ⟨fun h => ⟨h0, h⟩, fun h => h.2⟩, rfl⟩
  · simp (maxSteps := 2000000) (disch := omega) only [Try.ntmps37, c37, r37, go_sem, eq_self, if_true, if_false, reduceCtorEq, Int.reduceToNat, Int.reducePow, Nat.reducePow, Nat.reduceMul, Int.reduceLT, Int.reduceLE, Nat.reduceAdd, Nat.reduceLeDiff, Nat.reduceBEq, Nat.reduceSub, Int.reduceSub, Int.reduceMul, Int.reduceNeg, Int.reduceAdd]
    exact Ret.keep ⟨congrArg bv (Eq.symm (decide_eq_false fun h => h0 h.1)), rfl⟩
def ft20 (x : Int) : Bool := decide (-524288 ≤ x ∧ x < 524288)
def ft24 (x : Int) : Bool := decide (-8388608 ≤ x ∧ x < 8388608)
theorem fits20_d (x : Int) (H : List ABlk) (h0 : -524288 ≤ x) : ACalls Try.prog 38 [iv x, iv 20] H fun v H' => v = bv (ft20 x) ∧ H' = H := by
  refine ACalls.into Try.func38 cc38 rr38 fun hcl => ?_
  simp (maxSteps := 2000000) (disch := omega) only [Try.ntmps38, c38, r38, go_sem, eq_self, if_true, if_false, reduceCtorEq, Int.reduceToNat, Int.reducePow, Nat.reducePow, Nat.reduceMul, Int.reduceLT, Int.reduceLE, Nat.reduceAdd, Nat.reduceLeDiff, Nat.reduceBEq, Nat.reduceSub, Int.reduceSub, Int.reduceMul, Int.reduceNeg, Int.reduceAdd]
  refine Ret.keep ⟨?_, rfl⟩
  refine dec2 ?_
  exact ⟨fun h => ⟨h0, h⟩, fun h => h.2⟩
theorem fits20_e (x : Int) (H : List ABlk) (h0 : ¬ -524288 ≤ x) : ACalls Try.prog 38 [iv x, iv 20] H fun v H' => v = bv (ft20 x) ∧ H' = H := by
  refine ACalls.into Try.func38 cc38 rr38 fun hcl => ?_
  simp (maxSteps := 2000000) (disch := omega) only [Try.ntmps38, c38, r38, go_sem, eq_self, if_true, if_false, reduceCtorEq, Int.reduceToNat, Int.reducePow, Nat.reducePow, Nat.reduceMul, Int.reduceLT, Int.reduceLE, Nat.reduceAdd, Nat.reduceLeDiff, Nat.reduceBEq, Nat.reduceSub, Int.reduceSub, Int.reduceMul, Int.reduceNeg, Int.reduceAdd]
  refine Ret.keep ⟨?_, rfl⟩
  exact congrArg bv (Eq.symm (decide_eq_false fun h => h0 h.1))
theorem fits20_c (x : Int) (H : List ABlk) : ACalls Try.prog 38 [iv x, iv 20] H fun v H' => v = bv (ft20 x) ∧ H' = H :=
  (Classical.em (-524288 ≤ x)).elim (fits20_d x H) (fits20_e x H)
theorem fits24_d (x : Int) (H : List ABlk) (h0 : -8388608 ≤ x) : ACalls Try.prog 38 [iv x, iv 24] H fun v H' => v = bv (ft24 x) ∧ H' = H := by
  refine ACalls.into Try.func38 cc38 rr38 fun hcl => ?_
  simp (maxSteps := 2000000) (disch := omega) only [Try.ntmps38, c38, r38, go_sem, eq_self, if_true, if_false, reduceCtorEq, Int.reduceToNat, Int.reducePow, Nat.reducePow, Nat.reduceMul, Int.reduceLT, Int.reduceLE, Nat.reduceAdd, Nat.reduceLeDiff, Nat.reduceBEq, Nat.reduceSub, Int.reduceSub, Int.reduceMul, Int.reduceNeg, Int.reduceAdd]
  refine Ret.keep ⟨?_, rfl⟩
  refine dec2 ?_
  exact ⟨fun h => ⟨h0, h⟩, fun h => h.2⟩
theorem fits24_e (x : Int) (H : List ABlk) (h0 : ¬ -8388608 ≤ x) : ACalls Try.prog 38 [iv x, iv 24] H fun v H' => v = bv (ft24 x) ∧ H' = H := by
  refine ACalls.into Try.func38 cc38 rr38 fun hcl => ?_
  simp (maxSteps := 2000000) (disch := omega) only [Try.ntmps38, c38, r38, go_sem, eq_self, if_true, if_false, reduceCtorEq, Int.reduceToNat, Int.reducePow, Nat.reducePow, Nat.reduceMul, Int.reduceLT, Int.reduceLE, Nat.reduceAdd, Nat.reduceLeDiff, Nat.reduceBEq, Nat.reduceSub, Int.reduceSub, Int.reduceMul, Int.reduceNeg, Int.reduceAdd]
  refine Ret.keep ⟨?_, rfl⟩
  exact congrArg bv (Eq.symm (decide_eq_false fun h => h0 h.1))
theorem fits24_c (x : Int) (H : List ABlk) : ACalls Try.prog 38 [iv x, iv 24] H fun v H' => v = bv (ft24 x) ∧ H' = H :=
  (Classical.em (-8388608 ≤ x)).elim (fits24_d x H) (fits24_e x H)
def bitU (b : Bool) : Int := if b then 536870912 else 0
def bitV (b : Bool) : Int := if b then 268435456 else 0
theorem bit29_c (b : Bool) (H : List ABlk) : ACalls Try.prog 26 [bv b, iv 29] H fun v H' => v = wv (bitU b) ∧ H' = H := by
  refine ACalls.into Try.func26 cc26 rr26 fun hcl => ?_
  cases b <;> (
    simp (maxSteps := 2000000) (disch := omega) only [Try.ntmps26, c26, r26, go_sem, eq_self, if_true, if_false, reduceCtorEq, Int.reduceToNat, Int.reducePow, Nat.reducePow, Nat.reduceMul, Int.reduceLT, Int.reduceLE, Nat.reduceAdd, Nat.reduceLeDiff, Nat.reduceBEq, Nat.reduceSub, Int.reduceSub, Int.reduceMul, Int.reduceNeg, Int.reduceAdd]
    exact Ret.keep ⟨rfl, rfl⟩)
theorem bit28_c (b : Bool) (H : List ABlk) : ACalls Try.prog 26 [bv b, iv 28] H fun v H' => v = wv (bitV b) ∧ H' = H := by
  refine ACalls.into Try.func26 cc26 rr26 fun hcl => ?_
  cases b <;> (
    simp (maxSteps := 2000000) (disch := omega) only [Try.ntmps26, c26, r26, go_sem, eq_self, if_true, if_false, reduceCtorEq, Int.reduceToNat, Int.reducePow, Nat.reducePow, Nat.reduceMul, Int.reduceLT, Int.reduceLE, Nat.reduceAdd, Nat.reduceLeDiff, Nat.reduceBEq, Nat.reduceSub, Int.reduceSub, Int.reduceMul, Int.reduceNeg, Int.reduceAdd]
    exact Ret.keep ⟨rfl, rfl⟩)
theorem inside_c (lo n : Int) (h0 : 0 ≤ lo) (h1 : 1 ≤ n) (h2 : lo + n ≤ 32) (H : List ABlk) : ACalls Try.prog 23 [iv lo, iv n] H fun v H' => v = bv true ∧ H' = H := by
  refine ACalls.into Try.func23 cc23 rr23 fun hcl => ?_
  simp (maxSteps := 2000000) (disch := omega) only [Try.ntmps23, c23, r23, go_sem, eq_self, if_true, if_false, reduceCtorEq, Int.reduceToNat, Int.reducePow, Nat.reducePow, Nat.reduceMul, Int.reduceLT, Int.reduceLE, Nat.reduceAdd, Nat.reduceLeDiff, Nat.reduceBEq, Nat.reduceSub, Int.reduceSub, Int.reduceMul, Int.reduceNeg, Int.reduceAdd]
  exact Ret.keep ⟨rfl, rfl⟩
theorem mask4_c (H : List ABlk) : ACalls Try.prog 24 [iv 4] H fun v H' => v = wv 15 ∧ H' = H := by
  refine ACalls.into Try.func24 cc24 rr24 fun hcl => ?_
  simp (maxSteps := 2000000) (disch := omega) only [Try.ntmps24, c24, r24, go_sem, eq_self, if_true, if_false, reduceCtorEq, Int.reduceToNat, Int.reducePow, Nat.reducePow, Nat.reduceMul, Int.reduceLT, Int.reduceLE, Nat.reduceAdd, Nat.reduceLeDiff, Nat.reduceBEq, Nat.reduceSub, Int.reduceSub, Int.reduceMul, Int.reduceNeg, Int.reduceAdd]
  exact Ret.keep ⟨rfl, rfl⟩
theorem mask1_c (H : List ABlk) : ACalls Try.prog 24 [iv 1] H fun v H' => v = wv 1 ∧ H' = H := by
  refine ACalls.into Try.func24 cc24 rr24 fun hcl => ?_
  simp (maxSteps := 2000000) (disch := omega) only [Try.ntmps24, c24, r24, go_sem, eq_self, if_true, if_false, reduceCtorEq, Int.reduceToNat, Int.reducePow, Nat.reducePow, Nat.reduceMul, Int.reduceLT, Int.reduceLE, Nat.reduceAdd, Nat.reduceLeDiff, Nat.reduceBEq, Nat.reduceSub, Int.reduceSub, Int.reduceMul, Int.reduceNeg, Int.reduceAdd]
  exact Ret.keep ⟨rfl, rfl⟩
/-- The lowest four bits. -/
theorem bvmod (b : BitVec 32) : ((b.toNat : Nat) : Int) % 4294967296 = (b.toNat : Nat) := by have := b.isLt; omega
def g4 (q : Int) : Int := ((BitVec.ofInt 32 q &&& BitVec.ofInt 32 15).toNat : Int) % 4294967296
theorem g4_rng (q : Int) : 0 ≤ g4 q ∧ g4 q < 16 := by
  unfold g4
  rw [BitVec.toNat_and]
  have : (BitVec.ofInt 32 q).toNat &&& (BitVec.ofInt 32 15).toNat ≤ (BitVec.ofInt 32 15).toNat := Nat.and_le_right
  have e : (BitVec.ofInt 32 15).toNat = 15 := by decide
  rw [e] at this ⊢
  omega
theorem get_c (w lo d : Int) (w0 : 0 ≤ w) (w1 : w < 4294967296) (hlo : (lo = 16 ∧ d = 65536) ∨ (lo = 20 ∧ d = 1048576) ∨ (lo = 24 ∧ d = 16777216)) (H : List ABlk) : ACalls Try.prog 15 [wv w, iv lo, iv 4] H fun v H' => v = wv (g4 (w / d)) ∧ H' = H := by
  refine ACalls.into Try.func15 cc15 rr15 fun hcl => ?_
  rcases hlo with ⟨rfl, rfl⟩ | ⟨rfl, rfl⟩ | ⟨rfl, rfl⟩ <;> (
    simp (maxSteps := 2000000) (disch := omega) only [Try.ntmps15, c15, r15, go_sem, eq_self, if_true, if_false, reduceCtorEq, Int.reduceToNat, Int.reducePow, Nat.reducePow, Nat.reduceMul, Int.reduceLT, Int.reduceLE, Nat.reduceAdd, Nat.reduceLeDiff, Nat.reduceBEq, Nat.reduceSub, Int.reduceSub, Int.reduceMul, Int.reduceNeg, Int.reduceAdd]
    refine Cont.mk (inside_c _ _ (by decide) (by decide) (by decide) _) ?_
    simp (maxSteps := 2000000) (disch := omega) only [go_sem, eq_self, if_true, if_false, reduceCtorEq, Int.reduceToNat, Int.reducePow, Nat.reducePow, Nat.reduceMul, Int.reduceLT, Int.reduceLE, Nat.reduceAdd, Nat.reduceLeDiff, Nat.reduceBEq, Nat.reduceSub, Int.reduceSub, Int.reduceMul, Int.reduceNeg, Int.reduceAdd]
    refine W.pchain follows (by decide +kernel) ?_
    simp (maxSteps := 2000000) (disch := omega) only [go_sem, eq_self, if_true, if_false, reduceCtorEq, Int.reduceToNat, Int.reducePow, Nat.reducePow, Nat.reduceMul, Int.reduceLT, Int.reduceLE, Nat.reduceAdd, Nat.reduceLeDiff, Nat.reduceBEq, Nat.reduceSub, Int.reduceSub, Int.reduceMul, Int.reduceNeg, Int.reduceAdd]
    refine PCont.mk (mask4_c _) ?_
    simp (maxSteps := 2000000) (disch := omega) only [go_sem, eq_self, if_true, if_false, reduceCtorEq, Int.reduceToNat, Int.reducePow, Nat.reducePow, Nat.reduceMul, Int.reduceLT, Int.reduceLE, Nat.reduceAdd, Nat.reduceLeDiff, Nat.reduceBEq, Nat.reduceSub, Int.reduceSub, Int.reduceMul, Int.reduceNeg, Int.reduceAdd]
    exact Ret.keep ⟨by first | rfl | (rw [g4, bvmod]; rfl), rfl⟩)
end Go.Proofs.Ytalhmnijkkihgaa
