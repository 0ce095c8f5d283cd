/- Names: letters and digits. -/
import Derived.Test.YtlhpcccffmfopaaSet
import Derived.Test.YtlhpcccffmfopaaDraw3
import Derived.Test.YtlhpcccffmfopaaCode
namespace Go.Proofs.Ytlhpcccffmfopaa
set_option linter.unusedSectionVars false
set_option linter.unusedSimpArgs false
set_option linter.unusedVariables false
set_option maxRecDepth 20000
set_option maxHeartbeats 2000000
open Go.RowKit

theorem follows : Try.prog.follows .mixedOrders = true := by kernel_rfl
abbrev iv (n : Int) : AV := .d (.v (.int .i64 n))
abbrev cv (n : Int) : AV := .d (.v (.int .u8 n))
abbrev bv (b : Bool) : AV := .d (.v (.bool b))
abbrev sv (s : ByteArray) : AV := .d (.v (.string s))

def letF (n : Int) : Bool := decide (97 ≤ n ∧ n ≤ 122 ∨ 65 ≤ n ∧ n ≤ 90)
def digF (n : Int) : Bool := decide (48 ≤ n ∧ n ≤ 57)
theorem bvx {a b : Bool} (h : (a = true) ↔ (b = true)) : AV.d (.v (.bool a)) = bv b := by rw [Bool.eq_iff_iff.2 h]
theorem digit_c (n : Int) (H : List ABlk) : ACalls Try.prog 79 [cv n] H fun v H' => v = bv (digF n) ∧ H' = H := by
  refine ACalls.into Try.func79 cc79 rr79 fun hcl => ?_
  simp (maxSteps := 2000000) (disch := omega) only [Try.ntmps79, c79, r79, go_sem, eq_self, if_true, if_false, reduceCtorEq, Int.reduceToNat, Int.reducePow, Nat.reducePow, Nat.reduceMul, Int.reduceLT, Int.reduceLE, Nat.reduceAdd, Nat.reduceLeDiff, Nat.reduceBEq, Nat.reduceSub, Int.reduceSub, Int.reduceMul, Int.reduceNeg, Int.reduceAdd]
  refine Br.dec (fun h => ?_) (fun h => ?_) <;> simp (maxSteps := 2000000) (disch := omega) only [go_sem, eq_self, if_true, if_false, reduceCtorEq, Int.reduceToNat, Int.reducePow, Nat.reducePow, Nat.reduceMul, Int.reduceLT, Int.reduceLE, Nat.reduceAdd, Nat.reduceLeDiff, Nat.reduceBEq, Nat.reduceSub, Int.reduceSub, Int.reduceMul, Int.reduceNeg, Int.reduceAdd]
  · exact Ret.keep ⟨bvx (by simp [digF]; omega), rfl⟩
  · exact Ret.keep ⟨bvx (by simp [digF]; omega), rfl⟩
theorem letter_c (n : Int) (H : List ABlk) : ACalls Try.prog 78 [cv n] H fun v H' => v = bv (letF n) ∧ H' = H := by
  refine ACalls.into Try.func78 cc78 rr78 fun hcl => ?_
  by_cases h1 : 97 ≤ n <;> by_cases h2 : n ≤ 122 <;> by_cases h3 : 65 ≤ n <;> by_cases h4 : n ≤ 90 <;> first | (exfalso; omega) | (simp (maxSteps := 2000000) (disch := omega) only [Try.ntmps78, c78, r78, go_sem, eq_self, if_true, if_false, reduceCtorEq, Int.reduceToNat, Int.reducePow, Nat.reducePow, Nat.reduceMul, Int.reduceLT, Int.reduceLE, Nat.reduceAdd, Nat.reduceLeDiff, Nat.reduceBEq, Nat.reduceSub, Int.reduceSub, Int.reduceMul, Int.reduceNeg, Int.reduceAdd]; exact Ret.keep ⟨bvx (by simp [letF]; omega), rfl⟩)

abbrev chr (s : ByteArray) (i : Nat) : Int := ((s.data.toList.getD i 0).toNat : Nat)
theorem chr_rng (s : ByteArray) (i : Nat) : 0 ≤ chr s i ∧ chr s i < 256 := by
  have := (s.data.toList.getD i 0).toNat_lt
  simp only [chr]; omega
def okB (n : Int) : Prop := letF n = true ∨ digF n = true
/-- Is it a name? -/
def Nm (s : ByteArray) : Prop := 1 ≤ s.size ∧ s.size ≤ 24 ∧ letF (chr s 0) = true ∧ ∀ i, i < s.size → okB (chr s i)
noncomputable instance (s : ByteArray) : Decidable (Nm s) := Classical.propDecidable _
noncomputable def nmF (s : ByteArray) : Bool := decide (Nm s)
theorem nm_t {s : ByteArray} (h : Nm s) : nmF s = true := decide_eq_true h
theorem nm_f {s : ByteArray} (h : ¬ Nm s) : nmF s = false := decide_eq_false h

theorem word_c (s : ByteArray) (H : List ABlk) : ACalls Try.prog 72 [sv s] H fun v H' => v = bv (nmF s) ∧ H' = H := by
  refine ACalls.into Try.func72 cc72 rr72 fun hcl => ?_
  by_cases h1 : s.size < 1
  · simp (maxSteps := 2000000) (disch := omega) only [Try.ntmps72, c72, r72, go_sem, eq_self, if_true, if_false, reduceCtorEq, Int.reduceToNat, Int.reducePow, Nat.reducePow, Nat.reduceMul, Int.reduceLT, Int.reduceLE, Nat.reduceAdd, Nat.reduceLeDiff, Nat.reduceBEq, Nat.reduceSub, Int.reduceSub, Int.reduceMul, Int.reduceNeg, Int.reduceAdd]
    exact Ret.keep ⟨by rw [nm_f]; intro h; have := h.1; omega, rfl⟩
  by_cases h2 : 24 < s.size
  · simp (maxSteps := 2000000) (disch := omega) only [Try.ntmps72, c72, r72, go_sem, eq_self, if_true, if_false, reduceCtorEq, Int.reduceToNat, Int.reducePow, Nat.reducePow, Nat.reduceMul, Int.reduceLT, Int.reduceLE, Nat.reduceAdd, Nat.reduceLeDiff, Nat.reduceBEq, Nat.reduceSub, Int.reduceSub, Int.reduceMul, Int.reduceNeg, Int.reduceAdd]
    exact Ret.keep ⟨by rw [nm_f]; intro h; have := h.2.1; omega, rfl⟩
  simp (maxSteps := 2000000) (disch := omega) only [Try.ntmps72, c72, r72, go_sem, eq_self, if_true, if_false, reduceCtorEq, Int.reduceToNat, Int.reducePow, Nat.reducePow, Nat.reduceMul, Int.reduceLT, Int.reduceLE, Nat.reduceAdd, Nat.reduceLeDiff, Nat.reduceBEq, Nat.reduceSub, Int.reduceSub, Int.reduceMul, Int.reduceNeg, Int.reduceAdd]
  refine Cont.mk (letter_c _ _) ?_
  cases h3 : letF (chr s 0) with
  | false =>
    simp only [chr] at h3
    simp (maxSteps := 2000000) (disch := omega) only [h3, go_sem, eq_self, if_true, if_false, reduceCtorEq, Int.reduceToNat, Int.reducePow, Nat.reducePow, Nat.reduceMul, Int.reduceLT, Int.reduceLE, Nat.reduceAdd, Nat.reduceLeDiff, Nat.reduceBEq, Nat.reduceSub, Int.reduceSub, Int.reduceMul, Int.reduceNeg, Int.reduceAdd]
    exact Ret.keep ⟨by rw [nm_f]; intro h; have := h.2.2.1; simp only [chr] at this; rw [h3] at this; exact absurd this (by decide), rfl⟩
  | true =>
    have h3' := h3
    simp only [chr] at h3'
    simp (maxSteps := 2000000) (disch := omega) only [h3', go_sem, eq_self, if_true, if_false, reduceCtorEq, Int.reduceToNat, Int.reducePow, Nat.reducePow, Nat.reduceMul, Int.reduceLT, Int.reduceLE, Nat.reduceAdd, Nat.reduceLeDiff, Nat.reduceBEq, Nat.reduceSub, Int.reduceSub, Int.reduceMul, Int.reduceNeg, Int.reduceAdd]
    refine W.loopG (γ := Nat) (fun i => s.size - i) (fun i => [sv s, .any, .any, iv i] ++ List.replicate 32 .any) (fun _ => H) (fun i => 1 ≤ i ∧ i ≤ s.size ∧ ∀ j, j < i → okB (chr s j)) 1 (Wk.slots (by (try simp only [List.replicate, List.cons_append, List.nil_append]); repeat' first | exact WkL.nil | refine WkL.cons (Wk1.rfl _) ?_ | refine WkL.cons Wk1.esl ?_ | refine WkL.cons (Wk1.gsl _ _ _) ?_ | refine WkL.cons (Wk1.any _) ?_)) ⟨by omega, by omega, fun j hj => Or.inl (by rw [show j = 0 by omega]; exact h3)⟩ (fun i hi => ?_)
    obtain ⟨q1, q2, q3⟩ := hi
    simp (maxSteps := 2000000) (disch := omega) only [c72l0, go_sem, eq_self, if_true, if_false, reduceCtorEq, Int.reduceToNat, Int.reducePow, Nat.reducePow, Nat.reduceMul, Int.reduceLT, Int.reduceLE, Nat.reduceAdd, Nat.reduceLeDiff, Nat.reduceBEq, Nat.reduceSub, Int.reduceSub, Int.reduceMul, Int.reduceNeg, Int.reduceAdd]
    refine Br.dec (fun hc => ?_) (fun hc => ?_) <;> simp (maxSteps := 2000000) (disch := omega) only [go_sem, eq_self, if_true, if_false, reduceCtorEq, Int.reduceToNat, Int.reducePow, Nat.reducePow, Nat.reduceMul, Int.reduceLT, Int.reduceLE, Nat.reduceAdd, Nat.reduceLeDiff, Nat.reduceBEq, Nat.reduceSub, Int.reduceSub, Int.reduceMul, Int.reduceNeg, Int.reduceAdd]
    · refine Cont.mk (letter_c _ _) ?_
      have next : okB (chr s i) → ∀ j, j < i + 1 → okB (chr s j) := fun ho j hj => by
        rcases Nat.lt_or_ge j i with h | h
        · exact q3 j h
        · rw [show j = i by omega]; exact ho
      cases h4 : letF ((s.data.toList.getD i 0).toNat : Nat) with
      | true =>
        simp (maxSteps := 2000000) (disch := omega) only [go_sem, eq_self, if_true, if_false, reduceCtorEq, Int.reduceToNat, Int.reducePow, Nat.reducePow, Nat.reduceMul, Int.reduceLT, Int.reduceLE, Nat.reduceAdd, Nat.reduceLeDiff, Nat.reduceBEq, Nat.reduceSub, Int.reduceSub, Int.reduceMul, Int.reduceNeg, Int.reduceAdd]
        exact Nxt.mk (i + 1) (by omega) (Wk.slots (by (try simp only [List.replicate, List.cons_append, List.nil_append]); repeat' first | exact WkL.nil | refine WkL.cons (Wk1.rfl _) ?_ | refine WkL.cons Wk1.esl ?_ | refine WkL.cons (Wk1.gsl _ _ _) ?_ | refine WkL.cons (Wk1.any _) ?_)) ⟨by omega, by omega, next (.inl h4)⟩
      | false =>
        simp (maxSteps := 2000000) (disch := omega) only [go_sem, eq_self, if_true, if_false, reduceCtorEq, Int.reduceToNat, Int.reducePow, Nat.reducePow, Nat.reduceMul, Int.reduceLT, Int.reduceLE, Nat.reduceAdd, Nat.reduceLeDiff, Nat.reduceBEq, Nat.reduceSub, Int.reduceSub, Int.reduceMul, Int.reduceNeg, Int.reduceAdd]
        refine Cont.mk (digit_c _ _) ?_
        cases h5 : digF ((s.data.toList.getD i 0).toNat : Nat) with
        | true =>
          simp (maxSteps := 2000000) (disch := omega) only [go_sem, eq_self, if_true, if_false, reduceCtorEq, Int.reduceToNat, Int.reducePow, Nat.reducePow, Nat.reduceMul, Int.reduceLT, Int.reduceLE, Nat.reduceAdd, Nat.reduceLeDiff, Nat.reduceBEq, Nat.reduceSub, Int.reduceSub, Int.reduceMul, Int.reduceNeg, Int.reduceAdd]
          exact Nxt.mk (i + 1) (by omega) (Wk.slots (by (try simp only [List.replicate, List.cons_append, List.nil_append]); repeat' first | exact WkL.nil | refine WkL.cons (Wk1.rfl _) ?_ | refine WkL.cons Wk1.esl ?_ | refine WkL.cons (Wk1.gsl _ _ _) ?_ | refine WkL.cons (Wk1.any _) ?_)) ⟨by omega, by omega, next (.inr h5)⟩
        | false =>
          simp (maxSteps := 2000000) (disch := omega) only [go_sem, eq_self, if_true, if_false, reduceCtorEq, Int.reduceToNat, Int.reducePow, Nat.reducePow, Nat.reduceMul, Int.reduceLT, Int.reduceLE, Nat.reduceAdd, Nat.reduceLeDiff, Nat.reduceBEq, Nat.reduceSub, Int.reduceSub, Int.reduceMul, Int.reduceNeg, Int.reduceAdd]
          refine Ret.keep ⟨by rw [nm_f]; intro h; rcases h.2.2.2 i (by omega) with h | h <;> simp only [chr] at h <;> simp_all, rfl⟩
    · exact Ret.keep ⟨by rw [nm_t]; exact ⟨by omega, by omega, h3, fun j hj => q3 j (by omega)⟩, rfl⟩
theorem word13_c (s : ByteArray) (H : List ABlk) : ACalls Try.prog 58 [sv s] H fun v H' => v = bv (nmF s) ∧ H' = H := by
  refine ACalls.into Try.func58 cc58 rr58 fun hcl => ?_
  simp (maxSteps := 2000000) (disch := omega) only [Try.ntmps58, c58, r58, go_sem, eq_self, if_true, if_false, reduceCtorEq, Int.reduceToNat, Int.reducePow, Nat.reducePow, Nat.reduceMul, Int.reduceLT, Int.reduceLE, Nat.reduceAdd, Nat.reduceLeDiff, Nat.reduceBEq, Nat.reduceSub, Int.reduceSub, Int.reduceMul, Int.reduceNeg, Int.reduceAdd]
  refine Cont.mk (word_c s H) ?_
  simp (maxSteps := 2000000) (disch := omega) only [go_sem, eq_self, if_true, if_false, reduceCtorEq, Int.reduceToNat, Int.reducePow, Nat.reducePow, Nat.reduceMul, Int.reduceLT, Int.reduceLE, Nat.reduceAdd, Nat.reduceLeDiff, Nat.reduceBEq, Nat.reduceSub, Int.reduceSub, Int.reduceMul, Int.reduceNeg, Int.reduceAdd]
  exact Ret.keep ⟨rfl, rfl⟩

theorem size_nil : (⟨#[]⟩ : ByteArray).size = 0 := rfl
theorem str_nil {s : ByteArray} (h : s.size = 0) : s = ⟨#[]⟩ := by
  obtain ⟨⟨l⟩⟩ := s
  have : l = [] := List.eq_nil_of_length_eq_zero h
  rw [this]
/-- The closure of 'name': neither a letter nor a digit. -/
theorem odd_c (n : Int) (H : List ABlk) : ACalls Try.prog 77 [cv n] H fun v H' => v = bv (!(letF n || digF n)) ∧ H' = H := by
  refine ACalls.into Try.func77 cc77 rr77 fun hcl => ?_
  have hsp : n < 48 ∨ (48 ≤ n ∧ n ≤ 57) ∨ (57 < n ∧ n < 65) ∨ (65 ≤ n ∧ n ≤ 90) ∨ (90 < n ∧ n < 97) ∨ (97 ≤ n ∧ n ≤ 122) ∨ 122 < n := by omega
  rcases hsp with h | ⟨h, h'⟩ | ⟨h, h'⟩ | ⟨h, h'⟩ | ⟨h, h'⟩ | ⟨h, h'⟩ | h <;> (simp (maxSteps := 2000000) (disch := omega) only [Try.ntmps77, c77, r77, go_sem, eq_self, if_true, if_false, reduceCtorEq, Int.reduceToNat, Int.reducePow, Nat.reducePow, Nat.reduceMul, Int.reduceLT, Int.reduceLE, Nat.reduceAdd, Nat.reduceLeDiff, Nat.reduceBEq, Nat.reduceSub, Int.reduceSub, Int.reduceMul, Int.reduceNeg, Int.reduceAdd]; exact Ret.keep ⟨bvx (by simp [letF, digF]; omega), rfl⟩)
abbrev bd (c : UInt8) : List Dat := [.v (.int .u8 c.toNat)]
theorem iaA_bd {l : List UInt8} {i : Nat} (h : i < l.length) : iaA (.d (.sl (l.map bd))) (i : Int) 1 = some (.ip (bd (l.getD i 0))) := by
  simp only [iaA]
  have e : (l.map bd).getD i [] = bd (l.getD i 0) := by
    rw [List.getD_eq_getElem?_getD, List.getD_eq_getElem?_getD, List.getElem?_map, List.getElem?_eq_getElem h]; rfl
  rw [if_pos ⟨by omega, by simpa using h, by rw [Int.toNat_natCast, e]; rfl⟩, Int.toNat_natCast, e]
theorem findB_c (f : FuncId) (p : Int → Bool) (hf : callOk Try.prog f = true) (hp : ∀ n H, ACalls Try.prog f [cv n] H fun v H' => v = bv (p n) ∧ H' = H) (l : List UInt8) (hl : l.length ≤ 9000000) (H : List ABlk) :
    ACalls Try.prog 80 [.d (.sl (l.map bd)), .fn f []] H fun v H' => (∃ n : Int, v = iv n ∧ (0 ≤ n ↔ ∃ i, i < l.length ∧ p ((l.getD i 0).toNat : Nat) = true)) ∧ H' = H := by
  refine ACalls.into Try.func80 cc80 rr80 fun hcl => ?_
  simp (maxSteps := 2000000) (disch := omega) only [Try.ntmps80, c80, r80, List.length_map, go_sem, eq_self, if_true, if_false, reduceCtorEq, Int.reduceToNat, Int.reducePow, Nat.reducePow, Nat.reduceMul, Int.reduceLT, Int.reduceLE, Nat.reduceAdd, Nat.reduceLeDiff, Nat.reduceBEq, Nat.reduceSub, Int.reduceSub, Int.reduceMul, Int.reduceNeg, Int.reduceAdd]
  refine W.loopG (γ := Nat) (fun i => l.length - i) (fun i => [.d (.sl (l.map bd)), .fn f [], .any, .any, .any, .any, .any, iv l.length, iv i] ++ List.replicate 10 .any) (fun _ => H) (fun i => i ≤ l.length ∧ ∀ j, j < i → p ((l.getD j 0).toNat : Nat) = false) 0 (Wk.slots (by (try simp only [List.replicate, List.cons_append, List.nil_append]); repeat' first | exact WkL.nil | refine WkL.cons (Wk1.rfl _) ?_ | refine WkL.cons Wk1.esl ?_ | refine WkL.cons (Wk1.gsl _ _ _) ?_ | refine WkL.cons (Wk1.any _) ?_)) ⟨by omega, fun j hj => by omega⟩ (fun i hi => ?_)
  obtain ⟨q1, q2⟩ := hi
  simp (maxSteps := 2000000) (disch := omega) only [c80l0, go_sem, eq_self, if_true, if_false, reduceCtorEq, Int.reduceToNat, Int.reducePow, Nat.reducePow, Nat.reduceMul, Int.reduceLT, Int.reduceLE, Nat.reduceAdd, Nat.reduceLeDiff, Nat.reduceBEq, Nat.reduceSub, Int.reduceSub, Int.reduceMul, Int.reduceNeg, Int.reduceAdd]
  refine Br.dec (fun hc => ?_) (fun hc => ?_) <;> simp (maxSteps := 2000000) (disch := omega) only [iaA_bd, go_sem, eq_self, if_true, if_false, reduceCtorEq, Int.reduceToNat, Int.reducePow, Nat.reducePow, Nat.reduceMul, Int.reduceLT, Int.reduceLE, Nat.reduceAdd, Nat.reduceLeDiff, Nat.reduceBEq, Nat.reduceSub, Int.reduceSub, Int.reduceMul, Int.reduceNeg, Int.reduceAdd]
  · refine ⟨hf, Cont.mk (hp _ _) ?_⟩
    cases h : p ((l.getD i 0).toNat : Nat) with
    | true =>
      simp (maxSteps := 2000000) (disch := omega) only [go_sem, eq_self, if_true, if_false, reduceCtorEq, Int.reduceToNat, Int.reducePow, Nat.reducePow, Nat.reduceMul, Int.reduceLT, Int.reduceLE, Nat.reduceAdd, Nat.reduceLeDiff, Nat.reduceBEq, Nat.reduceSub, Int.reduceSub, Int.reduceMul, Int.reduceNeg, Int.reduceAdd]
      exact Ret.keep ⟨⟨i, rfl, fun _ => ⟨i, by omega, h⟩, fun _ => by omega⟩, rfl⟩
    | false =>
      simp (maxSteps := 2000000) (disch := omega) only [go_sem, eq_self, if_true, if_false, reduceCtorEq, Int.reduceToNat, Int.reducePow, Nat.reducePow, Nat.reduceMul, Int.reduceLT, Int.reduceLE, Nat.reduceAdd, Nat.reduceLeDiff, Nat.reduceBEq, Nat.reduceSub, Int.reduceSub, Int.reduceMul, Int.reduceNeg, Int.reduceAdd]
      refine Nxt.mk (i + 1) (by omega) (Wk.slots (by (try simp only [List.replicate, List.cons_append, List.nil_append]); repeat' first | exact WkL.nil | refine WkL.cons (Wk1.rfl _) ?_ | refine WkL.cons Wk1.esl ?_ | refine WkL.cons (Wk1.gsl _ _ _) ?_ | refine WkL.cons (Wk1.any _) ?_)) ⟨by omega, fun j hj => ?_⟩
      rcases Nat.lt_or_ge j i with h' | h'
      · exact q2 j h'
      · rw [show j = i by omega]; exact h
  · refine Ret.keep ⟨⟨-1, rfl, fun h => by omega, fun ⟨j, h1, h2⟩ => ?_⟩, rfl⟩
    rw [q2 j (by omega)] at h2; cases h2
theorem hasB_c (f : FuncId) (p : Int → Bool) (hf : callOk Try.prog f = true) (hp : ∀ n H, ACalls Try.prog f [cv n] H fun v H' => v = bv (p n) ∧ H' = H) (l : List UInt8) (hl : l.length ≤ 9000000) (H : List ABlk) :
    ACalls Try.prog 76 [.d (.sl (l.map bd)), .fn f []] H fun v H' => (∃ b : Bool, v = bv b ∧ (b = true ↔ ∃ i, i < l.length ∧ p ((l.getD i 0).toNat : Nat) = true)) ∧ H' = H := by
  refine ACalls.into Try.func76 cc76 rr76 fun hcl => ?_
  simp (maxSteps := 2000000) (disch := omega) only [Try.ntmps76, c76, r76, go_sem, eq_self, if_true, if_false, reduceCtorEq, Int.reduceToNat, Int.reducePow, Nat.reducePow, Nat.reduceMul, Int.reduceLT, Int.reduceLE, Nat.reduceAdd, Nat.reduceLeDiff, Nat.reduceBEq, Nat.reduceSub, Int.reduceSub, Int.reduceMul, Int.reduceNeg, Int.reduceAdd]
  refine Cont.rel (findB_c f p hf hp l hl H) ?_
  rintro v H' ⟨⟨n, rfl, hn⟩, rfl⟩
  simp (maxSteps := 2000000) (disch := omega) only [go_sem, eq_self, if_true, if_false, reduceCtorEq, Int.reduceToNat, Int.reducePow, Nat.reducePow, Nat.reduceMul, Int.reduceLT, Int.reduceLE, Nat.reduceAdd, Nat.reduceLeDiff, Nat.reduceBEq, Nat.reduceSub, Int.reduceSub, Int.reduceMul, Int.reduceNeg, Int.reduceAdd]
  exact Ret.keep ⟨⟨_, rfl, by rw [decide_eq_true_eq]; exact hn⟩, rfl⟩
theorem name_c (s : ByteArray) (H : List ABlk) : ACalls Try.prog 69 [sv s] H fun v H' => v = bv (nmF s) ∧ H' = H := by
  refine ACalls.into Try.func69 cc69 rr69 fun hcl => ?_
  by_cases h1 : s.size < 1
  · have hs := str_nil (s := s) (by omega)
    simp (maxSteps := 2000000) (disch := omega) only [Try.ntmps69, c69, r69, hs, go_sem, eq_self, if_true, if_false, reduceCtorEq, Int.reduceToNat, Int.reducePow, Nat.reducePow, Nat.reduceMul, Int.reduceLT, Int.reduceLE, Nat.reduceAdd, Nat.reduceLeDiff, Nat.reduceBEq, Nat.reduceSub, Int.reduceSub, Int.reduceMul, Int.reduceNeg, Int.reduceAdd]
    exact Ret.keep ⟨by rw [nm_f]; intro h; have := h.1; rw [size_nil] at this; omega, rfl⟩
  have hne : ¬ s = ⟨#[]⟩ := fun e => by rw [e, size_nil] at h1; omega
  by_cases h2 : 24 < s.size
  · simp (maxSteps := 2000000) (disch := omega) only [Try.ntmps69, c69, r69, hne, go_sem, eq_self, if_true, if_false, reduceCtorEq, Int.reduceToNat, Int.reducePow, Nat.reducePow, Nat.reduceMul, Int.reduceLT, Int.reduceLE, Nat.reduceAdd, Nat.reduceLeDiff, Nat.reduceBEq, Nat.reduceSub, Int.reduceSub, Int.reduceMul, Int.reduceNeg, Int.reduceAdd]
    exact Ret.keep ⟨by rw [nm_f]; intro h; have := h.2.1; omega, rfl⟩
  by_cases h3 : chr s 0 ≤ 57
  · simp only [chr] at h3
    simp (maxSteps := 2000000) (disch := omega) only [Try.ntmps69, c69, r69, hne, go_sem, eq_self, if_true, if_false, reduceCtorEq, Int.reduceToNat, Int.reducePow, Nat.reducePow, Nat.reduceMul, Int.reduceLT, Int.reduceLE, Nat.reduceAdd, Nat.reduceLeDiff, Nat.reduceBEq, Nat.reduceSub, Int.reduceSub, Int.reduceMul, Int.reduceNeg, Int.reduceAdd]
    exact Ret.keep ⟨by rw [nm_f]; intro h; have := h.2.2.1; simp only [letF, decide_eq_true_eq] at this; simp only [chr] at this; omega, rfl⟩
  simp only [chr] at h3
  have hsz : s.data.toList.length = s.size := rfl
  simp (maxSteps := 2000000) (disch := omega) only [Try.ntmps69, c69, r69, hne, go_sem, eq_self, if_true, if_false, reduceCtorEq, Int.reduceToNat, Int.reducePow, Nat.reducePow, Nat.reduceMul, Int.reduceLT, Int.reduceLE, Nat.reduceAdd, Nat.reduceLeDiff, Nat.reduceBEq, Nat.reduceSub, Int.reduceSub, Int.reduceMul, Int.reduceNeg, Int.reduceAdd]
  refine Cont.rel (hasB_c _ _ (by kernel_rfl) odd_c s.data.toList (by omega) H) ?_
  rintro v H' ⟨⟨b, rfl, hb⟩, rfl⟩
  simp (maxSteps := 2000000) (disch := omega) only [go_sem, eq_self, if_true, if_false, reduceCtorEq, Int.reduceToNat, Int.reducePow, Nat.reducePow, Nat.reduceMul, Int.reduceLT, Int.reduceLE, Nat.reduceAdd, Nat.reduceLeDiff, Nat.reduceBEq, Nat.reduceSub, Int.reduceSub, Int.reduceMul, Int.reduceNeg, Int.reduceAdd]
  refine Ret.keep ⟨bvx ?_, rfl⟩
  have hb' : b = false ↔ ∀ i, i < s.size → okB (chr s i) := by
    constructor
    · intro h i hi
      rcases Classical.em (okB (chr s i)) with h' | h'
      · exact h'
      · have := hb.2 ⟨i, by omega, by simp only [okB, not_or, Bool.not_eq_true] at h'; simp only [chr] at h'; rw [h'.1, h'.2]; rfl⟩
        rw [h] at this; cases this
    · intro h
      cases e : b with
      | false => rfl
      | true =>
        obtain ⟨i, h1, h2⟩ := hb.1 e
        have h3 := h i (by omega)
        simp only [okB, chr] at h3
        rcases h3 with h3 | h3 <;> rw [h3] at h2 <;> simp at h2
  rw [Bool.not_eq_true', hb', nmF, decide_eq_true_eq]
  refine ⟨fun h => ⟨by omega, by omega, ?_, h⟩, fun h => h.2.2.2⟩
  rcases h 0 (by omega) with h' | h'
  · exact h'
  · simp only [digF, decide_eq_true_eq, chr] at h'; omega
end Go.Proofs.Ytlhpcccffmfopaa
