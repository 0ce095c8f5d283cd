/- tables.Good: its parts. -/
import Derived.Test.YtlhpcccffmfopaaT9
namespace Go.Proofs.Ytlhpcccffmfopaa
set_option linter.unusedSectionVars false
set_option linter.unusedSimpArgs false
set_option linter.unusedVariables false
set_option maxRecDepth 20000
set_option maxHeartbeats 4000000
open Go.RowKit

theorem bare_c {x : Ty} (n : Int) (hf : x.fields.length ≤ 9000000) (hp : x.params.length ≤ 9000000) (H : List ABlk) : ACalls Try.prog 52 [x.av, iv n] H fun v H' => v = bv (decide (x = bt n)) ∧ H' = H := by
  obtain ⟨B, hB⟩ : ∃ B, B = decide (x = bt n) := ⟨_, rfl⟩
  rw [← hB]
  refine ACalls.into Try.func52 cc52 rr52 fun hcl => ?_
  have no : ∀ {p : Prop}, (x = bt n → p) → ¬ p → false = B := fun h hp => by rw [hB]; exact (decide_eq_false fun e => hp (h e)).symm
  have fin : ∀ {v : Bool}, v = B → ∀ l, Ret r52 H.length (fun v H' => v = bv B ∧ H' = H) (some (bv v)) (H ++ l) := fun {v} e l => Ret.drop (bv B) H (Nat.le_refl _) hcl (by rw [e]; exact .rfl _) (by simp [refs]) ⟨rfl, rfl⟩
  simp (maxSteps := 2000000) (disch := omega) only [Try.ntmps52, c52, r52, Ty.cs, List.length_map, go_sem, eq_self, if_true, if_false, reduceCtorEq, Int.reduceToNat, Int.reducePow, Nat.reducePow, Nat.reduceMul, Int.reduceLT, Int.reduceLE, Nat.reduceAdd, Nat.reduceLeDiff, Nat.reduceBEq, Nat.reduceSub, Int.reduceSub, Int.reduceMul, Int.reduceNeg, Int.reduceAdd]
  refine Br.yes (fun h1 => ?_) (fun h1 => ?_) <;> simp (maxSteps := 2000000) (disch := omega) only [h1, Ty.cs, List.length_map, go_sem, eq_self, if_true, if_false, reduceCtorEq, Int.reduceToNat, Int.reducePow, Nat.reducePow, Nat.reduceMul, Int.reduceLT, Int.reduceLE, Nat.reduceAdd, Nat.reduceLeDiff, Nat.reduceBEq, Nat.reduceSub, Int.reduceSub, Int.reduceMul, Int.reduceNeg, Int.reduceAdd]
  rotate_left
  · exact fin (no (fun e => congrArg Ty.form e) (of_decide_eq_false h1)) _
  refine Br.yes (fun h2 => ?_) (fun h2 => ?_) <;> simp (maxSteps := 2000000) (disch := omega) only [h2, Ty.cs, List.length_map, go_sem, eq_self, if_true, if_false, reduceCtorEq, Int.reduceToNat, Int.reducePow, Nat.reducePow, Nat.reduceMul, Int.reduceLT, Int.reduceLE, Nat.reduceAdd, Nat.reduceLeDiff, Nat.reduceBEq, Nat.reduceSub, Int.reduceSub, Int.reduceMul, Int.reduceNeg, Int.reduceAdd]
  rotate_left
  · exact fin (no (fun e => congrArg Ty.mod e) (of_decide_eq_false h2)) _
  refine Br.yes (fun h3 => ?_) (fun h3 => ?_) <;> simp (maxSteps := 2000000) (disch := omega) only [h3, Ty.cs, List.length_map, go_sem, eq_self, if_true, if_false, reduceCtorEq, Int.reduceToNat, Int.reducePow, Nat.reducePow, Nat.reduceMul, Int.reduceLT, Int.reduceLE, Nat.reduceAdd, Nat.reduceLeDiff, Nat.reduceBEq, Nat.reduceSub, Int.reduceSub, Int.reduceMul, Int.reduceNeg, Int.reduceAdd]
  rotate_left
  · exact fin (no (fun e => congrArg Ty.name e) (of_decide_eq_false h3)) _
  refine Br.yes (fun h4 => ?_) (fun h4 => ?_) <;> simp (maxSteps := 2000000) (disch := omega) only [h4, Ty.cs, List.length_map, go_sem, eq_self, if_true, if_false, reduceCtorEq, Int.reduceToNat, Int.reducePow, Nat.reducePow, Nat.reduceMul, Int.reduceLT, Int.reduceLE, Nat.reduceAdd, Nat.reduceLeDiff, Nat.reduceBEq, Nat.reduceSub, Int.reduceSub, Int.reduceMul, Int.reduceNeg, Int.reduceAdd]
  rotate_left
  · exact fin (no (fun e => congrArg Ty.len e) (of_decide_eq_false h4)) _
  refine Br.yes (fun h5 => ?_) (fun h5 => ?_) <;> simp (maxSteps := 2000000) (disch := omega) only [h5, Ty.cs, List.length_map, go_sem, eq_self, if_true, if_false, reduceCtorEq, Int.reduceToNat, Int.reducePow, Nat.reducePow, Nat.reduceMul, Int.reduceLT, Int.reduceLE, Nat.reduceAdd, Nat.reduceLeDiff, Nat.reduceBEq, Nat.reduceSub, Int.reduceSub, Int.reduceMul, Int.reduceNeg, Int.reduceAdd]
  rotate_left
  · exact fin (no (fun e => congrArg Ty.elem e) (of_decide_eq_false h5)) _
  refine Br.yes (fun h6 => ?_) (fun h6 => ?_) <;> simp (maxSteps := 2000000) (disch := omega) only [h6, Ty.cs, List.length_map, go_sem, eq_self, if_true, if_false, reduceCtorEq, Int.reduceToNat, Int.reducePow, Nat.reducePow, Nat.reduceMul, Int.reduceLT, Int.reduceLE, Nat.reduceAdd, Nat.reduceLeDiff, Nat.reduceBEq, Nat.reduceSub, Int.reduceSub, Int.reduceMul, Int.reduceNeg, Int.reduceAdd]
  rotate_left
  · exact fin (no (fun e => congrArg Ty.base e) (of_decide_eq_false h6)) _
  refine Br.yes (fun h7 => ?_) (fun h7 => ?_) <;> simp (maxSteps := 2000000) (disch := omega) only [h7, Ty.cs, List.length_map, go_sem, eq_self, if_true, if_false, reduceCtorEq, Int.reduceToNat, Int.reducePow, Nat.reducePow, Nat.reduceMul, Int.reduceLT, Int.reduceLE, Nat.reduceAdd, Nat.reduceLeDiff, Nat.reduceBEq, Nat.reduceSub, Int.reduceSub, Int.reduceMul, Int.reduceNeg, Int.reduceAdd]
  rotate_left
  · exact fin (no (fun e => congrArg Ty.result e) (of_decide_eq_false h7)) _
  refine Br.yes (fun h8 => ?_) (fun h8 => ?_) <;> simp (maxSteps := 2000000) (disch := omega) only [h8, Ty.cs, List.length_map, go_sem, eq_self, if_true, if_false, reduceCtorEq, Int.reduceToNat, Int.reducePow, Nat.reducePow, Nat.reduceMul, Int.reduceLT, Int.reduceLE, Nat.reduceAdd, Nat.reduceLeDiff, Nat.reduceBEq, Nat.reduceSub, Int.reduceSub, Int.reduceMul, Int.reduceNeg, Int.reduceAdd]
  rotate_left
  · exact fin (no (fun e => congrArg Ty.desc e) (of_decide_eq_false h8)) _
  refine Br.yes (fun h9 => ?_) (fun h9 => ?_) <;> simp (maxSteps := 2000000) (disch := omega) only [h9, Ty.cs, List.length_map, go_sem, eq_self, if_true, if_false, reduceCtorEq, Int.reduceToNat, Int.reducePow, Nat.reducePow, Nat.reduceMul, Int.reduceLT, Int.reduceLE, Nat.reduceAdd, Nat.reduceLeDiff, Nat.reduceBEq, Nat.reduceSub, Int.reduceSub, Int.reduceMul, Int.reduceNeg, Int.reduceAdd]
  rotate_left
  · exact fin (no (fun e => congrArg (fun z : Ty => (z.fields.length : Int)) e) (of_decide_eq_false h9)) _
  refine fin ?_ _
  rw [hB]
  replace h1 := of_decide_eq_true h1
  replace h2 := of_decide_eq_true h2
  replace h3 := of_decide_eq_true h3
  replace h4 := of_decide_eq_true h4
  replace h5 := of_decide_eq_true h5
  replace h6 := of_decide_eq_true h6
  replace h7 := of_decide_eq_true h7
  replace h8 := of_decide_eq_true h8
  replace h9 := of_decide_eq_true h9
  obtain ⟨a1, a2, a3, a4, a5, a6, a7, a8, a9, a10⟩ := x
  simp only at h1 h2 h3 h4 h5 h6 h7 h8 h9
  have e7 : a7 = [] := List.eq_nil_of_length_eq_zero (by omega)
  subst h1 h2 h3 h4 h5 h6 h7 h8 e7
  simp only [bt]
  cases a8 with
  | nil => simp
  | cons p l => simp; omega

theorem findT_c {t : List Ty} (f : FuncId) (caps : List AV) (P : Nat → Prop) (hf : callOk Try.prog f = true) (ht : t.length ≤ 9000000) {H : List ABlk} (hp : ∀ i, i < t.length → ACalls Try.prog f ([(t.getD i default).av] ++ caps) H fun v H' => (∃ B, v = bv B ∧ (B = true ↔ P i)) ∧ H' = H) :
    ACalls Try.prog 71 [tv t, .fn f caps] H fun v H' => (∃ n : Int, v = iv n ∧ (0 ≤ n ↔ ∃ i, i < t.length ∧ P i)) ∧ H' = H := by
  refine ACalls.into Try.func71 cc71 rr71 fun hcl => ?_
  simp (maxSteps := 2000000) (disch := omega) only [Try.ntmps71, c71, r71, List.length_map, go_sem, eq_self, if_true, if_false, reduceCtorEq, Int.reduceToNat, Int.reducePow, Nat.reducePow, Nat.reduceMul, Int.reduceLT, Int.reduceLE, Nat.reduceAdd, Nat.reduceLeDiff, Nat.reduceBEq, Nat.reduceSub, Int.reduceSub, Int.reduceMul, Int.reduceNeg, Int.reduceAdd]
  refine W.loopG (γ := Nat) (fun i => t.length - i) (fun i => [tv t, .fn f caps, .any, .any, .any, .any, .any, iv t.length, iv i] ++ List.replicate 10 .any) (fun _ => H) (fun i => i ≤ t.length ∧ ∀ j, j < i → ¬ P j) 0 (Wk.slots (by (try simp only [List.replicate, List.cons_append, List.nil_append]); repeat' first | exact WkL.nil | refine WkL.cons (Wk1.rfl _) ?_ | refine WkL.cons Wk1.esl ?_ | refine WkL.cons (Wk1.gsl _ _ _) ?_ | refine WkL.cons (Wk1.any _) ?_)) ⟨by omega, fun j hj => by omega⟩ (fun i hi => ?_)
  obtain ⟨q1, q2⟩ := hi
  simp (maxSteps := 2000000) (disch := omega) only [c71l0, go_sem, eq_self, if_true, if_false, reduceCtorEq, Int.reduceToNat, Int.reducePow, Nat.reducePow, Nat.reduceMul, Int.reduceLT, Int.reduceLE, Nat.reduceAdd, Nat.reduceLeDiff, Nat.reduceBEq, Nat.reduceSub, Int.reduceSub, Int.reduceMul, Int.reduceNeg, Int.reduceAdd]
  refine Br.dec (fun hc => ?_) (fun hc => ?_) <;> simp (maxSteps := 2000000) (disch := omega) only [go_sem, eq_self, if_true, if_false, reduceCtorEq, Int.reduceToNat, Int.reducePow, Nat.reducePow, Nat.reduceMul, Int.reduceLT, Int.reduceLE, Nat.reduceAdd, Nat.reduceLeDiff, Nat.reduceBEq, Nat.reduceSub, Int.reduceSub, Int.reduceMul, Int.reduceNeg, Int.reduceAdd]
  · have hia := iaA_ty (t := t) (a := i) (by omega) (by omega)
    have e : tyAt t (i : Int) = t.getD i default := rfl
    rw [e] at hia
    simp (maxSteps := 2000000) (disch := omega) only [hia, Ty.c, go_sem, eq_self, if_true, if_false, reduceCtorEq, Int.reduceToNat, Int.reducePow, Nat.reducePow, Nat.reduceMul, Int.reduceLT, Int.reduceLE, Nat.reduceAdd, Nat.reduceLeDiff, Nat.reduceBEq, Nat.reduceSub, Int.reduceSub, Int.reduceMul, Int.reduceNeg, Int.reduceAdd]
    refine ⟨hf, Cont.rel (hp i (by omega)) ?_⟩
    rintro v H' ⟨⟨B, rfl, hB⟩, rfl⟩
    cases B with
    | true =>
      simp (maxSteps := 2000000) (disch := omega) only [go_sem, eq_self, if_true, if_false, reduceCtorEq, Int.reduceToNat, Int.reducePow, Nat.reducePow, Nat.reduceMul, Int.reduceLT, Int.reduceLE, Nat.reduceAdd, Nat.reduceLeDiff, Nat.reduceBEq, Nat.reduceSub, Int.reduceSub, Int.reduceMul, Int.reduceNeg, Int.reduceAdd]
      exact Ret.keep ⟨⟨i, rfl, fun _ => ⟨i, by omega, hB.1 rfl⟩, fun _ => by omega⟩, rfl⟩
    | false =>
      simp (maxSteps := 2000000) (disch := omega) only [go_sem, eq_self, if_true, if_false, reduceCtorEq, Int.reduceToNat, Int.reducePow, Nat.reducePow, Nat.reduceMul, Int.reduceLT, Int.reduceLE, Nat.reduceAdd, Nat.reduceLeDiff, Nat.reduceBEq, Nat.reduceSub, Int.reduceSub, Int.reduceMul, Int.reduceNeg, Int.reduceAdd]
      refine Nxt.mk (i + 1) (by omega) (Wk.slots (by (try simp only [List.replicate, List.cons_append, List.nil_append]); repeat' first | exact WkL.nil | refine WkL.cons (Wk1.rfl _) ?_ | refine WkL.cons Wk1.esl ?_ | refine WkL.cons (Wk1.gsl _ _ _) ?_ | refine WkL.cons (Wk1.any _) ?_)) ⟨by omega, fun j hj => ?_⟩
      rcases Nat.lt_or_ge j i with h' | h'
      · exact q2 j h'
      · rw [show j = i by omega]; exact fun h => by have := hB.2 h; cases this
  · refine Ret.keep ⟨⟨-1, rfl, fun h => by omega, fun ⟨j, h1, h2⟩ => ?_⟩, rfl⟩
    exact absurd h2 (q2 j (by omega))
theorem hasT_c {t : List Ty} (f : FuncId) (caps : List AV) (P : Nat → Prop) (hf : callOk Try.prog f = true) (ht : t.length ≤ 9000000) {H : List ABlk} (hp : ∀ i, i < t.length → ACalls Try.prog f ([(t.getD i default).av] ++ caps) H fun v H' => (∃ B, v = bv B ∧ (B = true ↔ P i)) ∧ H' = H) :
    ACalls Try.prog 55 [tv t, .fn f caps] H fun v H' => (∃ B, v = bv B ∧ (B = true ↔ ∃ i, i < t.length ∧ P i)) ∧ H' = H := by
  refine ACalls.into Try.func55 cc55 rr55 fun hcl => ?_
  simp (maxSteps := 2000000) (disch := omega) only [Try.ntmps55, c55, r55, go_sem, eq_self, if_true, if_false, reduceCtorEq, Int.reduceToNat, Int.reducePow, Nat.reducePow, Nat.reduceMul, Int.reduceLT, Int.reduceLE, Nat.reduceAdd, Nat.reduceLeDiff, Nat.reduceBEq, Nat.reduceSub, Int.reduceSub, Int.reduceMul, Int.reduceNeg, Int.reduceAdd]
  refine Cont.rel (findT_c f caps P hf ht hp) ?_
  rintro v H' ⟨⟨n, rfl, hn⟩, rfl⟩
  simp (maxSteps := 2000000) (disch := omega) only [go_sem, eq_self, if_true, if_false, reduceCtorEq, Int.reduceToNat, Int.reducePow, Nat.reducePow, Nat.reduceMul, Int.reduceLT, Int.reduceLE, Nat.reduceAdd, Nat.reduceLeDiff, Nat.reduceBEq, Nat.reduceSub, Int.reduceSub, Int.reduceMul, Int.reduceNeg, Int.reduceAdd]
  exact Ret.keep ⟨⟨_, rfl, by rw [decide_eq_true_eq]; exact hn⟩, rfl⟩
def Odd1 (t : List Ty) (i : Nat) : Prop := (t.getD i default).form = 9 ∧ ¬ ChainP t i
/-- The closure of Good: a record with too many bases, or with a field twice. -/
theorem odd1_c {t : List Ty} (ht : TBase t) {H : List ABlk} {b : Nat} (hb : H[b]? = some (.cells [tv t])) (i : Nat) (hi : i < t.length) : ACalls Try.prog 56 ([(t.getD i default).av] ++ [.ptr b 0]) H fun v H' => (∃ B, v = bv B ∧ (B = true ↔ Odd1 t i)) ∧ H' = H := by
  refine ACalls.into Try.func56 cc56 rr56 fun hcl => ?_
  have hbl := (List.getElem?_eq_some_iff.1 hb).1
  have hb' : ∀ l : List ABlk, (H ++ l)[b]? = some (.cells [tv t]) := fun l => by rw [List.getElem?_append_left hbl, hb]
  have fin : ∀ {v : Bool}, (v = true ↔ Odd1 t i) → ∀ l, Ret r56 H.length (fun v H' => (∃ B, v = bv B ∧ (B = true ↔ Odd1 t i)) ∧ H' = H) (some (bv v)) (H ++ l) := fun {v} e l => Ret.drop (bv v) H (Nat.le_refl _) hcl (.rfl _) (by simp [refs]) ⟨⟨v, rfl, e⟩, rfl⟩
  have hft := fielded_c ht (a0 := (i : Int)) (by omega)
  have e : tyAt t (i : Int) = t.getD i default := rfl
  have hO : Odd1 t i ↔ (t.getD i default).form = 9 ∧ ¬ ChainP t i := Iff.rfl
  rw [e] at hft
  generalize t.getD i default = x at *
  by_cases h9 : x.form = 9
  · have k := decide_eq_true h9
    simp (maxSteps := 2000000) (disch := omega) only [Try.ntmps56, c56, r56, Ty.cs, k, hb', List.append_assoc, List.cons_append, List.nil_append, go_sem, eq_self, if_true, if_false, reduceCtorEq, Int.reduceToNat, Int.reducePow, Nat.reducePow, Nat.reduceMul, Int.reduceLT, Int.reduceLE, Nat.reduceAdd, Nat.reduceLeDiff, Nat.reduceBEq, Nat.reduceSub, Int.reduceSub, Int.reduceMul, Int.reduceNeg, Int.reduceAdd]
    refine Cont.rel (hft h9 _) ?_
    rintro v H' ⟨⟨B, rfl, hB⟩, rfl⟩
    simp (maxSteps := 2000000) (disch := omega) only [go_sem, eq_self, if_true, if_false, reduceCtorEq, Int.reduceToNat, Int.reducePow, Nat.reducePow, Nat.reduceMul, Int.reduceLT, Int.reduceLE, Nat.reduceAdd, Nat.reduceLeDiff, Nat.reduceBEq, Nat.reduceSub, Int.reduceSub, Int.reduceMul, Int.reduceNeg, Int.reduceAdd]
    refine fin (v := !B) ?_ _
    rw [hO, ← hB]
    cases B <;> simp [h9]
  · have k := decide_eq_false h9
    simp (maxSteps := 2000000) (disch := omega) only [Try.ntmps56, c56, r56, Ty.cs, k, hb', List.append_assoc, List.cons_append, List.nil_append, go_sem, eq_self, if_true, if_false, reduceCtorEq, Int.reduceToNat, Int.reducePow, Nat.reducePow, Nat.reduceMul, Int.reduceLT, Int.reduceLE, Nat.reduceAdd, Nat.reduceLeDiff, Nat.reduceBEq, Nat.reduceSub, Int.reduceSub, Int.reduceMul, Int.reduceNeg, Int.reduceAdd]
    exact fin (v := false) (by rw [hO]; simp [h9]) _
end Go.Proofs.Ytlhpcccffmfopaa
