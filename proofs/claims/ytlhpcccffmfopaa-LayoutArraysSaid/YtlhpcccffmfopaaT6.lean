/- Tables: the small questions. -/
import Derived.Test.YtlhpcccffmfopaaT5
namespace Go.Proofs.Ytlhpcccffmfopaa
set_option linter.unusedSectionVars false
set_option linter.unusedSimpArgs false
set_option linter.unusedVariables false
set_option maxRecDepth 20000
set_option maxHeartbeats 4000000
open Go.RowKit

def partP (n : Int) : Prop := (1 ≤ n ∧ n ≤ 4) ∨ n = 7 ∨ (9 ≤ n ∧ n ≤ 11)
def plainP (n : Int) : Prop := (1 ≤ n ∧ n ≤ 4) ∨ n = 10 ∨ n = 11
instance (n : Int) : Decidable (partP n) := by unfold partP; infer_instance
instance (n : Int) : Decidable (plainP n) := by unfold plainP; infer_instance
def formA (t : List Ty) (n : Int) : Int := if 0 ≤ n ∧ n < t.length then (tyAt t n).form else -1
def placeP (t : List Ty) (n : Int) : Prop := 0 ≤ n ∧ n < t.length
def holdsP (t : List Ty) (n : Int) : Prop := placeP t n ∧ (tyAt t n).form ≠ 0 ∧ (tyAt t n).form ≠ 5 ∧ (tyAt t n).form ≠ 6 ∧ (tyAt t n).form ≠ 8
instance (t : List Ty) (n : Int) : Decidable (placeP t n) := by unfold placeP; infer_instance
instance (t : List Ty) (n : Int) : Decidable (holdsP t n) := by unfold holdsP; infer_instance

theorem bvt {c : Prop} [Decidable c] (h : c) : bv true = bv (decide c) := by rw [decide_eq_true h]
theorem bvf {c : Prop} [Decidable c] (h : ¬ c) : bv false = bv (decide c) := by rw [decide_eq_false h]
theorem part_c (n : Int) (H : List ABlk) : ACalls Try.prog 68 [iv n] H fun v H' => v = bv (decide (partP n)) ∧ H' = H := by
  refine ACalls.into Try.func68 cc68 rr68 fun hcl => ?_
  have hsp : n < 1 ∨ (1 ≤ n ∧ n ≤ 4) ∨ (4 < n ∧ n < 7) ∨ n = 7 ∨ (7 < n ∧ n < 9) ∨ (9 ≤ n ∧ n ≤ 11) ∨ 11 < n := by omega
  rcases hsp with h | ⟨h, h'⟩ | ⟨h, h'⟩ | h | ⟨h, h'⟩ | ⟨h, h'⟩ | h <;> (simp (maxSteps := 2000000) (disch := omega) only [Try.ntmps68, c68, r68, go_sem, eq_self, if_true, if_false, reduceCtorEq, Int.reduceToNat, Int.reducePow, Nat.reducePow, Nat.reduceMul, Int.reduceLT, Int.reduceLE, Nat.reduceAdd, Nat.reduceLeDiff, Nat.reduceBEq, Nat.reduceSub, Int.reduceSub, Int.reduceMul, Int.reduceNeg, Int.reduceAdd]; first | exact Ret.keep ⟨bvt (by simp only [partP]; omega), rfl⟩ | exact Ret.keep ⟨bvf (by simp only [partP]; omega), rfl⟩)
theorem plain_c (n : Int) (H : List ABlk) : ACalls Try.prog 70 [iv n] H fun v H' => v = bv (decide (plainP n)) ∧ H' = H := by
  refine ACalls.into Try.func70 cc70 rr70 fun hcl => ?_
  have hsp : n < 1 ∨ (1 ≤ n ∧ n ≤ 4) ∨ (4 < n ∧ n < 10) ∨ n = 10 ∨ n = 11 ∨ 11 < n := by omega
  rcases hsp with h | ⟨h, h'⟩ | ⟨h, h'⟩ | h | h | h <;> (simp (maxSteps := 2000000) (disch := omega) only [Try.ntmps70, c70, r70, go_sem, eq_self, if_true, if_false, reduceCtorEq, Int.reduceToNat, Int.reducePow, Nat.reducePow, Nat.reduceMul, Int.reduceLT, Int.reduceLE, Nat.reduceAdd, Nat.reduceLeDiff, Nat.reduceBEq, Nat.reduceSub, Int.reduceSub, Int.reduceMul, Int.reduceNeg, Int.reduceAdd]; first | exact Ret.keep ⟨bvt (by simp only [plainP]; omega), rfl⟩ | exact Ret.keep ⟨bvf (by simp only [plainP]; omega), rfl⟩)
theorem place_c {t : List Ty} (a : Int) (ht : t.length ≤ 9000000) (H : List ABlk) : ACalls Try.prog 60 [tv t, iv a] H fun v H' => v = bv (decide (placeP t a)) ∧ H' = H := by
  refine ACalls.into Try.func60 cc60 rr60 fun hcl => ?_
  have hsp : a < 0 ∨ (0 ≤ a ∧ a < t.length) ∨ (0 ≤ a ∧ (t.length : Int) ≤ a) := by omega
  rcases hsp with h | ⟨h, h'⟩ | ⟨h, h'⟩ <;> (simp (maxSteps := 2000000) (disch := omega) only [Try.ntmps60, c60, r60, List.length_map, go_sem, eq_self, if_true, if_false, reduceCtorEq, Int.reduceToNat, Int.reducePow, Nat.reducePow, Nat.reduceMul, Int.reduceLT, Int.reduceLE, Nat.reduceAdd, Nat.reduceLeDiff, Nat.reduceBEq, Nat.reduceSub, Int.reduceSub, Int.reduceMul, Int.reduceNeg, Int.reduceAdd]; first | exact Ret.keep ⟨bvt (by simp only [placeP]; omega), rfl⟩ | exact Ret.keep ⟨bvf (by simp only [placeP]; omega), rfl⟩)
theorem holds_c {t : List Ty} (a : Int) (ht : t.length ≤ 9000000) (H : List ABlk) : ACalls Try.prog 59 [tv t, iv a] H fun v H' => v = bv (decide (holdsP t a)) ∧ H' = H := by
  refine ACalls.into Try.func59 cc59 rr59 fun hcl => ?_
  simp (maxSteps := 2000000) (disch := omega) only [Try.ntmps59, c59, r59, go_sem, eq_self, if_true, if_false, reduceCtorEq, Int.reduceToNat, Int.reducePow, Nat.reducePow, Nat.reduceMul, Int.reduceLT, Int.reduceLE, Nat.reduceAdd, Nat.reduceLeDiff, Nat.reduceBEq, Nat.reduceSub, Int.reduceSub, Int.reduceMul, Int.reduceNeg, Int.reduceAdd]
  refine Cont.mk (place_c a ht H) ?_
  by_cases hp : placeP t a
  rotate_left
  · have hp' := decide_eq_false hp
    simp (maxSteps := 2000000) (disch := omega) only [hp', go_sem, eq_self, if_true, if_false, reduceCtorEq, Int.reduceToNat, Int.reducePow, Nat.reducePow, Nat.reduceMul, Int.reduceLT, Int.reduceLE, Nat.reduceAdd, Nat.reduceLeDiff, Nat.reduceBEq, Nat.reduceSub, Int.reduceSub, Int.reduceMul, Int.reduceNeg, Int.reduceAdd]
    exact Ret.keep ⟨bvf fun h => hp h.1, rfl⟩
  have hp' := decide_eq_true hp
  have hty := iaA_ty hp.1 hp.2
  generalize hx : tyAt t a = x at *
  have key : ∀ {B : Bool}, (B = true ↔ (x.form ≠ 0 ∧ x.form ≠ 5 ∧ x.form ≠ 6 ∧ x.form ≠ 8)) → bv B = bv (decide (holdsP t a)) := fun h => by
    refine bvx ?_
    rw [h, decide_eq_true_iff, holdsP, hx]
    exact ⟨fun h => ⟨hp, h⟩, fun h => h.2⟩
  by_cases h0 : x.form = 0
  · simp (maxSteps := 2000000) (disch := omega) only [hp', hty, Ty.c, h0, go_sem, eq_self, if_true, if_false, reduceCtorEq, Int.reduceToNat, Int.reducePow, Nat.reducePow, Nat.reduceMul, Int.reduceLT, Int.reduceLE, Nat.reduceAdd, Nat.reduceLeDiff, Nat.reduceBEq, Nat.reduceSub, Int.reduceSub, Int.reduceMul, Int.reduceNeg, Int.reduceAdd]
    exact Ret.keep ⟨key (by simp [h0]), rfl⟩
  by_cases h5 : x.form = 5
  · simp (maxSteps := 2000000) (disch := omega) only [hp', hty, Ty.c, h5, go_sem, eq_self, if_true, if_false, reduceCtorEq, Int.reduceToNat, Int.reducePow, Nat.reducePow, Nat.reduceMul, Int.reduceLT, Int.reduceLE, Nat.reduceAdd, Nat.reduceLeDiff, Nat.reduceBEq, Nat.reduceSub, Int.reduceSub, Int.reduceMul, Int.reduceNeg, Int.reduceAdd]
    exact Ret.keep ⟨key (by simp [h5]), rfl⟩
  by_cases h6 : x.form = 6
  · simp (maxSteps := 2000000) (disch := omega) only [hp', hty, Ty.c, h6, go_sem, eq_self, if_true, if_false, reduceCtorEq, Int.reduceToNat, Int.reducePow, Nat.reducePow, Nat.reduceMul, Int.reduceLT, Int.reduceLE, Nat.reduceAdd, Nat.reduceLeDiff, Nat.reduceBEq, Nat.reduceSub, Int.reduceSub, Int.reduceMul, Int.reduceNeg, Int.reduceAdd]
    exact Ret.keep ⟨key (by simp [h6]), rfl⟩
  simp (maxSteps := 2000000) (disch := omega) only [hp', hty, Ty.c, h0, h5, h6, go_sem, eq_self, if_true, if_false, reduceCtorEq, Int.reduceToNat, Int.reducePow, Nat.reducePow, Nat.reduceMul, Int.reduceLT, Int.reduceLE, Nat.reduceAdd, Nat.reduceLeDiff, Nat.reduceBEq, Nat.reduceSub, Int.reduceSub, Int.reduceMul, Int.reduceNeg, Int.reduceAdd]
  exact Ret.keep ⟨key (by simp [h0, h5, h6]), rfl⟩
theorem form_c {t : List Ty} {H : List ABlk} {b : Nat} (n : Int) (ht : t.length ≤ 9000000) (hb : H[b]? = some (.cells [tv t])) : ACalls Try.prog 67 [iv n, .ptr b 0] H fun v H' => v = iv (formA t n) ∧ H' = H := by
  refine ACalls.into Try.func67 cc67 rr67 fun hcl => ?_
  have hsp : n < 0 ∨ (0 ≤ n ∧ n < t.length) ∨ (0 ≤ n ∧ (t.length : Int) ≤ n) := by omega
  rcases hsp with h | ⟨h, h'⟩ | ⟨h, h'⟩
  · simp (maxSteps := 2000000) (disch := omega) only [Try.ntmps67, c67, r67, hb, List.length_map, go_sem, eq_self, if_true, if_false, reduceCtorEq, Int.reduceToNat, Int.reducePow, Nat.reducePow, Nat.reduceMul, Int.reduceLT, Int.reduceLE, Nat.reduceAdd, Nat.reduceLeDiff, Nat.reduceBEq, Nat.reduceSub, Int.reduceSub, Int.reduceMul, Int.reduceNeg, Int.reduceAdd]
    exact Ret.keep ⟨by rw [formA, if_neg (by omega)], rfl⟩
  · have hty := iaA_ty h h'
    simp (maxSteps := 2000000) (disch := omega) only [Try.ntmps67, c67, r67, hb, List.length_map, hty, Ty.c, go_sem, eq_self, if_true, if_false, reduceCtorEq, Int.reduceToNat, Int.reducePow, Nat.reducePow, Nat.reduceMul, Int.reduceLT, Int.reduceLE, Nat.reduceAdd, Nat.reduceLeDiff, Nat.reduceBEq, Nat.reduceSub, Int.reduceSub, Int.reduceMul, Int.reduceNeg, Int.reduceAdd]
    exact Ret.keep ⟨by rw [formA, if_pos ⟨h, h'⟩], rfl⟩
  · simp (maxSteps := 2000000) (disch := omega) only [Try.ntmps67, c67, r67, hb, List.length_map, go_sem, eq_self, if_true, if_false, reduceCtorEq, Int.reduceToNat, Int.reducePow, Nat.reducePow, Nat.reduceMul, Int.reduceLT, Int.reduceLE, Nat.reduceAdd, Nat.reduceLeDiff, Nat.reduceBEq, Nat.reduceSub, Int.reduceSub, Int.reduceMul, Int.reduceNeg, Int.reduceAdd]
    exact Ret.keep ⟨by rw [formA, if_neg (by omega)], rfl⟩
end Go.Proofs.Ytlhpcccffmfopaa
