/- The walks of the small functions. -/
import Derived.Test.YthgffjaiklmbcaaSet
import Derived.Test.YthgffjaiklmbcaaCode
namespace Go.Proofs.Ythgffjaiklmbcaa
set_option linter.unusedSimpArgs false
set_option linter.unusedVariables false
set_option maxRecDepth 20000
set_option maxHeartbeats 2000000
open Go.RowKit

theorem follows : Try.prog.follows .mixedOrders = true := by kernel_rfl
abbrev iv (n : Int) : AV := .d (.v (.int .i64 n))
abbrev cv (n : Int) : AV := .d (.v (.int .u8 n))
abbrev bv (b : Bool) : AV := .d (.v (.bool b))
abbrev sv (s : ByteArray) : AV := .d (.v (.string s))

def letF (n : Int) : Bool := decide (97 ≤ n ∧ n ≤ 122 ∨ 65 ≤ n ∧ n ≤ 90)
def digF (n : Int) : Bool := decide (48 ≤ n ∧ n ≤ 57)
theorem bvx {a b : Bool} (h : (a = true) ↔ (b = true)) : AV.d (.v (.bool a)) = bv b := by rw [Bool.eq_iff_iff.2 h]
theorem digit_c (n : Int) (H : List ABlk) : ACalls Try.prog 30 [cv n] H fun v H' => v = bv (digF n) ∧ H' = H := by
  refine ACalls.into Try.func30 cc30 rr30 fun hcl => ?_
  simp (disch := omega) only [Try.ntmps30, c30, r30, DC_w, DC_n, kill_0, Nat.sub_zero, ↓rD0, ↓rD1, ↓rD2, ↓rD3, ↓rD4, rU0, rU1, rU2, rU3, rU4, rU5, toNat_n, Int.reduceToNat, slA, ptrsA, boolsA, Int.reducePow, Nat.reducePow, Nat.reduceMul, Int.reduceLT, Int.reduceLE, resA, resL, res1, eq_self, wanted, evK, get, setO, one, faA, loadA, storeA, outA, lenA, isStr, binA, unA, bnd, ints, toDat, toDats, datss, fillA, splice, List.length_nil, List.flatten_nil, Nat.reduceAdd, Nat.reduceLeDiff, Nat.reduceBEq, Nat.reduceSub, if_true, ite_true, cond_true, cond_false, List.replicate, if_false, ite_false, reduceCtorEq]
  refine Br.dec (fun h => ?_) (fun h => ?_) <;> simp (disch := omega) only [DC_w, DC_n, kill_0, Nat.sub_zero, ↓rD0, ↓rD1, ↓rD2, ↓rD3, ↓rD4, rU0, rU1, rU2, rU3, rU4, rU5, toNat_n, Int.reduceToNat, slA, ptrsA, boolsA, Int.reducePow, Nat.reducePow, Nat.reduceMul, Int.reduceLT, Int.reduceLE, resA, resL, res1, eq_self, wanted, evK, get, setO, one, faA, loadA, storeA, outA, lenA, isStr, binA, unA, bnd, ints, toDat, toDats, datss, fillA, splice, List.length_nil, List.flatten_nil, Nat.reduceAdd, Nat.reduceLeDiff, Nat.reduceBEq, Nat.reduceSub, if_true, ite_true, cond_true, cond_false, List.replicate, if_false, ite_false, reduceCtorEq]
  · exact Ret.keep ⟨bvx (by simp [digF]; omega), rfl⟩
  · exact Ret.keep ⟨bvx (by simp [digF]; omega), rfl⟩
theorem letter_c (n : Int) (H : List ABlk) : ACalls Try.prog 29 [cv n] H fun v H' => v = bv (letF n) ∧ H' = H := by
  refine ACalls.into Try.func29 cc29 rr29 fun hcl => ?_
  by_cases h1 : 97 ≤ n <;> by_cases h2 : n ≤ 122 <;> by_cases h3 : 65 ≤ n <;> by_cases h4 : n ≤ 90 <;> first | (exfalso; omega) | (simp (disch := omega) only [Try.ntmps29, c29, r29, DC_w, DC_n, kill_0, Nat.sub_zero, ↓rD0, ↓rD1, ↓rD2, ↓rD3, ↓rD4, rU0, rU1, rU2, rU3, rU4, rU5, toNat_n, Int.reduceToNat, slA, ptrsA, boolsA, Int.reducePow, Nat.reducePow, Nat.reduceMul, Int.reduceLT, Int.reduceLE, resA, resL, res1, eq_self, wanted, evK, get, setO, one, faA, loadA, storeA, outA, lenA, isStr, binA, unA, bnd, ints, toDat, toDats, datss, fillA, splice, List.length_nil, List.flatten_nil, Nat.reduceAdd, Nat.reduceLeDiff, Nat.reduceBEq, Nat.reduceSub, if_true, ite_true, cond_true, cond_false, List.replicate, if_false, ite_false, reduceCtorEq]; exact Ret.keep ⟨bvx (by simp [letF]; omega), rfl⟩)

abbrev chr (s : ByteArray) (i : Nat) : Int := ((s.data.toList.getD i 0).toNat : Nat)
theorem chr_rng (s : ByteArray) (i : Nat) : 0 ≤ chr s i ∧ chr s i < 256 := by
  have := (s.data.toList.getD i 0).toNat_lt
  simp only [chr]; omega
def okC (s : ByteArray) (i : Nat) : Prop := letF (chr s i) = true ∨ digF (chr s i) = true
/-- Is it a name? -/
def Nm (s : ByteArray) : Prop := 1 ≤ s.size ∧ s.size ≤ 24 ∧ letF (chr s 0) = true ∧ ∀ i, i < s.size → okC s i
noncomputable instance (s : ByteArray) : Decidable (Nm s) := Classical.propDecidable _
noncomputable def nmF (s : ByteArray) : Bool := decide (Nm s)
theorem nm_t {s : ByteArray} (h : Nm s) : nmF s = true := decide_eq_true h
theorem nm_f {s : ByteArray} (h : ¬ Nm s) : nmF s = false := decide_eq_false h

theorem word_c (s : ByteArray) (H : List ABlk) : ACalls Try.prog 27 [sv s] H fun v H' => v = bv (nmF s) ∧ H' = H := by
  refine ACalls.into Try.func27 cc27 rr27 fun hcl => ?_
  by_cases h1 : s.size < 1
  · simp (disch := omega) only [Try.ntmps27, c27, r27, DC_w, DC_n, kill_0, Nat.sub_zero, ↓rD0, ↓rD1, ↓rD2, ↓rD3, ↓rD4, rU0, rU1, rU2, rU3, rU4, rU5, toNat_n, Int.reduceToNat, slA, ptrsA, boolsA, Int.reducePow, Nat.reducePow, Nat.reduceMul, Int.reduceLT, Int.reduceLE, resA, resL, res1, eq_self, wanted, evK, get, setO, one, faA, loadA, storeA, outA, lenA, isStr, binA, unA, bnd, ints, toDat, toDats, datss, fillA, splice, List.length_nil, List.flatten_nil, Nat.reduceAdd, Nat.reduceLeDiff, Nat.reduceBEq, Nat.reduceSub, if_true, ite_true, cond_true, cond_false, List.replicate, if_false, ite_false, reduceCtorEq]
    exact Ret.keep ⟨by rw [nm_f]; intro h; have := h.1; omega, rfl⟩
  by_cases h2 : 24 < s.size
  · simp (disch := omega) only [Try.ntmps27, c27, r27, DC_w, DC_n, kill_0, Nat.sub_zero, ↓rD0, ↓rD1, ↓rD2, ↓rD3, ↓rD4, rU0, rU1, rU2, rU3, rU4, rU5, toNat_n, Int.reduceToNat, slA, ptrsA, boolsA, Int.reducePow, Nat.reducePow, Nat.reduceMul, Int.reduceLT, Int.reduceLE, resA, resL, res1, eq_self, wanted, evK, get, setO, one, faA, loadA, storeA, outA, lenA, isStr, binA, unA, bnd, ints, toDat, toDats, datss, fillA, splice, List.length_nil, List.flatten_nil, Nat.reduceAdd, Nat.reduceLeDiff, Nat.reduceBEq, Nat.reduceSub, if_true, ite_true, cond_true, cond_false, List.replicate, if_false, ite_false, reduceCtorEq]
    exact Ret.keep ⟨by rw [nm_f]; intro h; have := h.2.1; omega, rfl⟩
  simp (disch := omega) only [Try.ntmps27, c27, r27, DC_w, DC_n, kill_0, Nat.sub_zero, ↓rD0, ↓rD1, ↓rD2, ↓rD3, ↓rD4, rU0, rU1, rU2, rU3, rU4, rU5, toNat_n, Int.reduceToNat, slA, ptrsA, boolsA, Int.reducePow, Nat.reducePow, Nat.reduceMul, Int.reduceLT, Int.reduceLE, resA, resL, res1, eq_self, wanted, evK, get, setO, one, faA, loadA, storeA, outA, lenA, isStr, binA, unA, bnd, ints, toDat, toDats, datss, fillA, splice, List.length_nil, List.flatten_nil, Nat.reduceAdd, Nat.reduceLeDiff, Nat.reduceBEq, Nat.reduceSub, if_true, ite_true, cond_true, cond_false, List.replicate, if_false, ite_false, reduceCtorEq]
  refine Cont.mk (letter_c _ _) ?_
  cases h3 : letF (chr s 0) with
  | false =>
    simp only [chr] at h3
    simp (disch := omega) only [h3, DC_w, DC_n, kill_0, Nat.sub_zero, ↓rD0, ↓rD1, ↓rD2, ↓rD3, ↓rD4, rU0, rU1, rU2, rU3, rU4, rU5, toNat_n, Int.reduceToNat, slA, ptrsA, boolsA, Int.reducePow, Nat.reducePow, Nat.reduceMul, Int.reduceLT, Int.reduceLE, resA, resL, res1, eq_self, wanted, evK, get, setO, one, faA, loadA, storeA, outA, lenA, isStr, binA, unA, bnd, ints, toDat, toDats, datss, fillA, splice, List.length_nil, List.flatten_nil, Nat.reduceAdd, Nat.reduceLeDiff, Nat.reduceBEq, Nat.reduceSub, if_true, ite_true, cond_true, cond_false, List.replicate, if_false, ite_false, reduceCtorEq]
    exact Ret.keep ⟨by rw [nm_f]; intro h; have := h.2.2.1; simp only [chr] at this; rw [h3] at this; exact absurd this (by decide), rfl⟩
  | true =>
    have h3' := h3
    simp only [chr] at h3'
    simp (disch := omega) only [h3', DC_w, DC_n, kill_0, Nat.sub_zero, ↓rD0, ↓rD1, ↓rD2, ↓rD3, ↓rD4, rU0, rU1, rU2, rU3, rU4, rU5, toNat_n, Int.reduceToNat, slA, ptrsA, boolsA, Int.reducePow, Nat.reducePow, Nat.reduceMul, Int.reduceLT, Int.reduceLE, resA, resL, res1, eq_self, wanted, evK, get, setO, one, faA, loadA, storeA, outA, lenA, isStr, binA, unA, bnd, ints, toDat, toDats, datss, fillA, splice, List.length_nil, List.flatten_nil, Nat.reduceAdd, Nat.reduceLeDiff, Nat.reduceBEq, Nat.reduceSub, if_true, ite_true, cond_true, cond_false, List.replicate, if_false, ite_false, reduceCtorEq]
    refine W.loopG (γ := Nat) (fun i => s.size - i) (fun i => [sv s, .any, .any, iv i] ++ List.replicate 32 .any) (fun _ => H) (fun i => 1 ≤ i ∧ i ≤ s.size ∧ ∀ j, j < i → okC s j) 1 (Wk.slots (by (try simp only [List.replicate, List.cons_append, List.nil_append]); repeat' first | exact WkL.nil | refine WkL.cons (Wk1.rfl _) ?_ | refine WkL.cons Wk1.esl ?_ | refine WkL.cons (Wk1.gsl _ _ _) ?_ | refine WkL.cons (Wk1.any _) ?_)) ⟨by omega, by omega, fun j hj => Or.inl (by rw [show j = 0 by omega]; exact h3)⟩ (fun i hi => ?_)
    obtain ⟨q1, q2, q3⟩ := hi
    simp (disch := omega) only [c27l0, DC_w, DC_n, kill_0, Nat.sub_zero, ↓rD0, ↓rD1, ↓rD2, ↓rD3, ↓rD4, rU0, rU1, rU2, rU3, rU4, rU5, toNat_n, Int.reduceToNat, slA, ptrsA, boolsA, Int.reducePow, Nat.reducePow, Nat.reduceMul, Int.reduceLT, Int.reduceLE, resA, resL, res1, eq_self, wanted, evK, get, setO, one, faA, loadA, storeA, outA, lenA, isStr, binA, unA, bnd, ints, toDat, toDats, datss, fillA, splice, List.length_nil, List.flatten_nil, Nat.reduceAdd, Nat.reduceLeDiff, Nat.reduceBEq, Nat.reduceSub, if_true, ite_true, cond_true, cond_false, List.replicate, if_false, ite_false, reduceCtorEq]
    refine Br.dec (fun hc => ?_) (fun hc => ?_) <;> simp (disch := omega) only [DC_w, DC_n, kill_0, Nat.sub_zero, ↓rD0, ↓rD1, ↓rD2, ↓rD3, ↓rD4, rU0, rU1, rU2, rU3, rU4, rU5, toNat_n, Int.reduceToNat, slA, ptrsA, boolsA, Int.reducePow, Nat.reducePow, Nat.reduceMul, Int.reduceLT, Int.reduceLE, resA, resL, res1, eq_self, wanted, evK, get, setO, one, faA, loadA, storeA, outA, lenA, isStr, binA, unA, bnd, ints, toDat, toDats, datss, fillA, splice, List.length_nil, List.flatten_nil, Nat.reduceAdd, Nat.reduceLeDiff, Nat.reduceBEq, Nat.reduceSub, if_true, ite_true, cond_true, cond_false, List.replicate, if_false, ite_false, reduceCtorEq]
    · refine Cont.mk (letter_c _ _) ?_
      have next : okC s i → ∀ j, j < i + 1 → okC s j := fun ho j hj => by
        rcases Nat.lt_or_ge j i with h | h
        · exact q3 j h
        · rw [show j = i by omega]; exact ho
      cases h4 : letF ((s.data.toList.getD i 0).toNat : Nat) with
      | true =>
        simp (disch := omega) only [DC_w, DC_n, kill_0, Nat.sub_zero, ↓rD0, ↓rD1, ↓rD2, ↓rD3, ↓rD4, rU0, rU1, rU2, rU3, rU4, rU5, toNat_n, Int.reduceToNat, slA, ptrsA, boolsA, Int.reducePow, Nat.reducePow, Nat.reduceMul, Int.reduceLT, Int.reduceLE, resA, resL, res1, eq_self, wanted, evK, get, setO, one, faA, loadA, storeA, outA, lenA, isStr, binA, unA, bnd, ints, toDat, toDats, datss, fillA, splice, List.length_nil, List.flatten_nil, Nat.reduceAdd, Nat.reduceLeDiff, Nat.reduceBEq, Nat.reduceSub, if_true, ite_true, cond_true, cond_false, List.replicate, if_false, ite_false, reduceCtorEq]
        exact Nxt.mk (i + 1) (by omega) (Wk.slots (by (try simp only [List.replicate, List.cons_append, List.nil_append]); repeat' first | exact WkL.nil | refine WkL.cons (Wk1.rfl _) ?_ | refine WkL.cons Wk1.esl ?_ | refine WkL.cons (Wk1.gsl _ _ _) ?_ | refine WkL.cons (Wk1.any _) ?_)) ⟨by omega, by omega, next (.inl h4)⟩
      | false =>
        simp (disch := omega) only [DC_w, DC_n, kill_0, Nat.sub_zero, ↓rD0, ↓rD1, ↓rD2, ↓rD3, ↓rD4, rU0, rU1, rU2, rU3, rU4, rU5, toNat_n, Int.reduceToNat, slA, ptrsA, boolsA, Int.reducePow, Nat.reducePow, Nat.reduceMul, Int.reduceLT, Int.reduceLE, resA, resL, res1, eq_self, wanted, evK, get, setO, one, faA, loadA, storeA, outA, lenA, isStr, binA, unA, bnd, ints, toDat, toDats, datss, fillA, splice, List.length_nil, List.flatten_nil, Nat.reduceAdd, Nat.reduceLeDiff, Nat.reduceBEq, Nat.reduceSub, if_true, ite_true, cond_true, cond_false, List.replicate, if_false, ite_false, reduceCtorEq]
        refine Cont.mk (digit_c _ _) ?_
        cases h5 : digF ((s.data.toList.getD i 0).toNat : Nat) with
        | true =>
          simp (disch := omega) only [DC_w, DC_n, kill_0, Nat.sub_zero, ↓rD0, ↓rD1, ↓rD2, ↓rD3, ↓rD4, rU0, rU1, rU2, rU3, rU4, rU5, toNat_n, Int.reduceToNat, slA, ptrsA, boolsA, Int.reducePow, Nat.reducePow, Nat.reduceMul, Int.reduceLT, Int.reduceLE, resA, resL, res1, eq_self, wanted, evK, get, setO, one, faA, loadA, storeA, outA, lenA, isStr, binA, unA, bnd, ints, toDat, toDats, datss, fillA, splice, List.length_nil, List.flatten_nil, Nat.reduceAdd, Nat.reduceLeDiff, Nat.reduceBEq, Nat.reduceSub, if_true, ite_true, cond_true, cond_false, List.replicate, if_false, ite_false, reduceCtorEq]
          exact Nxt.mk (i + 1) (by omega) (Wk.slots (by (try simp only [List.replicate, List.cons_append, List.nil_append]); repeat' first | exact WkL.nil | refine WkL.cons (Wk1.rfl _) ?_ | refine WkL.cons Wk1.esl ?_ | refine WkL.cons (Wk1.gsl _ _ _) ?_ | refine WkL.cons (Wk1.any _) ?_)) ⟨by omega, by omega, next (.inr h5)⟩
        | false =>
          simp (disch := omega) only [DC_w, DC_n, kill_0, Nat.sub_zero, ↓rD0, ↓rD1, ↓rD2, ↓rD3, ↓rD4, rU0, rU1, rU2, rU3, rU4, rU5, toNat_n, Int.reduceToNat, slA, ptrsA, boolsA, Int.reducePow, Nat.reducePow, Nat.reduceMul, Int.reduceLT, Int.reduceLE, resA, resL, res1, eq_self, wanted, evK, get, setO, one, faA, loadA, storeA, outA, lenA, isStr, binA, unA, bnd, ints, toDat, toDats, datss, fillA, splice, List.length_nil, List.flatten_nil, Nat.reduceAdd, Nat.reduceLeDiff, Nat.reduceBEq, Nat.reduceSub, if_true, ite_true, cond_true, cond_false, List.replicate, if_false, ite_false, reduceCtorEq]
          refine Ret.keep ⟨by rw [nm_f]; intro h; rcases h.2.2.2 i (by omega) with h | h <;> simp only [chr] at h <;> simp_all, rfl⟩
    · exact Ret.keep ⟨by rw [nm_t]; exact ⟨by omega, by omega, h3, fun j hj => q3 j (by omega)⟩, rfl⟩

theorem size_nil : (⟨#[]⟩ : ByteArray).size = 0 := rfl
theorem str_nil {s : ByteArray} (h : s.size = 0) : s = ⟨#[]⟩ := by
  obtain ⟨⟨l⟩⟩ := s
  have : l = [] := List.eq_nil_of_length_eq_zero h
  rw [this]
theorem named_c (s : ByteArray) (H : List ABlk) : ACalls Try.prog 25 [sv s] H fun v H' => v = bv (nmF s) ∧ H' = H := by
  refine ACalls.into Try.func25 cc25 rr25 fun hcl => ?_
  by_cases h1 : s.size < 1
  · have hs := str_nil (s := s) (by omega)
    simp (disch := omega) only [Try.ntmps25, c25, r25, hs, DC_w, DC_n, kill_0, Nat.sub_zero, ↓rD0, ↓rD1, ↓rD2, ↓rD3, ↓rD4, rU0, rU1, rU2, rU3, rU4, rU5, toNat_n, Int.reduceToNat, slA, ptrsA, boolsA, Int.reducePow, Nat.reducePow, Nat.reduceMul, Int.reduceLT, Int.reduceLE, resA, resL, res1, eq_self, wanted, evK, get, setO, one, faA, loadA, storeA, outA, lenA, isStr, binA, unA, bnd, ints, toDat, toDats, datss, fillA, splice, List.length_nil, List.flatten_nil, Nat.reduceAdd, Nat.reduceLeDiff, Nat.reduceBEq, Nat.reduceSub, if_true, ite_true, cond_true, cond_false, List.replicate, if_false, ite_false, reduceCtorEq]
    exact Ret.keep ⟨by rw [nm_f]; intro h; have := h.1; rw [size_nil] at this; omega, rfl⟩
  have hne : ¬ s = ⟨#[]⟩ := fun e => by rw [e, size_nil] at h1; omega
  by_cases h2 : 24 < s.size
  · simp (disch := omega) only [Try.ntmps25, c25, r25, hne, DC_w, DC_n, kill_0, Nat.sub_zero, ↓rD0, ↓rD1, ↓rD2, ↓rD3, ↓rD4, rU0, rU1, rU2, rU3, rU4, rU5, toNat_n, Int.reduceToNat, slA, ptrsA, boolsA, Int.reducePow, Nat.reducePow, Nat.reduceMul, Int.reduceLT, Int.reduceLE, resA, resL, res1, eq_self, wanted, evK, get, setO, one, faA, loadA, storeA, outA, lenA, isStr, binA, unA, bnd, ints, toDat, toDats, datss, fillA, splice, List.length_nil, List.flatten_nil, Nat.reduceAdd, Nat.reduceLeDiff, Nat.reduceBEq, Nat.reduceSub, if_true, ite_true, cond_true, cond_false, List.replicate, if_false, ite_false, reduceCtorEq]
    exact Ret.keep ⟨by rw [nm_f]; intro h; have := h.2.1; omega, rfl⟩
  by_cases h3 : chr s 0 ≤ 57
  · simp only [chr] at h3
    simp (disch := omega) only [Try.ntmps25, c25, r25, hne, DC_w, DC_n, kill_0, Nat.sub_zero, ↓rD0, ↓rD1, ↓rD2, ↓rD3, ↓rD4, rU0, rU1, rU2, rU3, rU4, rU5, toNat_n, Int.reduceToNat, slA, ptrsA, boolsA, Int.reducePow, Nat.reducePow, Nat.reduceMul, Int.reduceLT, Int.reduceLE, resA, resL, res1, eq_self, wanted, evK, get, setO, one, faA, loadA, storeA, outA, lenA, isStr, binA, unA, bnd, ints, toDat, toDats, datss, fillA, splice, List.length_nil, List.flatten_nil, Nat.reduceAdd, Nat.reduceLeDiff, Nat.reduceBEq, Nat.reduceSub, if_true, ite_true, cond_true, cond_false, List.replicate, if_false, ite_false, reduceCtorEq]
    exact Ret.keep ⟨by rw [nm_f]; intro h; have := h.2.2.1; simp only [letF, decide_eq_true_eq] at this; simp only [chr] at this; omega, rfl⟩
  simp only [chr] at h3
  simp (disch := omega) only [Try.ntmps25, c25, r25, hne, DC_w, DC_n, kill_0, Nat.sub_zero, ↓rD0, ↓rD1, ↓rD2, ↓rD3, ↓rD4, rU0, rU1, rU2, rU3, rU4, rU5, toNat_n, Int.reduceToNat, slA, ptrsA, boolsA, Int.reducePow, Nat.reducePow, Nat.reduceMul, Int.reduceLT, Int.reduceLE, resA, resL, res1, eq_self, wanted, evK, get, setO, one, faA, loadA, storeA, outA, lenA, isStr, binA, unA, bnd, ints, toDat, toDats, datss, fillA, splice, List.length_nil, List.flatten_nil, Nat.reduceAdd, Nat.reduceLeDiff, Nat.reduceBEq, Nat.reduceSub, if_true, ite_true, cond_true, cond_false, List.replicate, if_false, ite_false, reduceCtorEq]
  refine W.loopG (γ := Nat) (fun i => s.size - i) (fun i => [sv s, .any, .any, .any, .any, .any, .any, .any, .any, .any, .any, .any, .any, .any, .any, .any, .any, .any, iv s.size, iv i] ++ List.replicate 28 .any) (fun _ => H) (fun i => i ≤ s.size ∧ ∀ j, j < i → okC s j) 0 (Wk.slots (by (try simp only [List.replicate, List.cons_append, List.nil_append]); repeat' first | exact WkL.nil | refine WkL.cons (Wk1.rfl _) ?_ | refine WkL.cons Wk1.esl ?_ | refine WkL.cons (Wk1.gsl _ _ _) ?_ | refine WkL.cons (Wk1.any _) ?_)) ⟨by omega, fun j hj => by omega⟩ (fun i hi => ?_)
  obtain ⟨q2, q3⟩ := hi
  simp (disch := omega) only [c25l0, DC_w, DC_n, kill_0, Nat.sub_zero, ↓rD0, ↓rD1, ↓rD2, ↓rD3, ↓rD4, rU0, rU1, rU2, rU3, rU4, rU5, toNat_n, Int.reduceToNat, slA, ptrsA, boolsA, Int.reducePow, Nat.reducePow, Nat.reduceMul, Int.reduceLT, Int.reduceLE, resA, resL, res1, eq_self, wanted, evK, get, setO, one, faA, loadA, storeA, outA, lenA, isStr, binA, unA, bnd, ints, toDat, toDats, datss, fillA, splice, List.length_nil, List.flatten_nil, Nat.reduceAdd, Nat.reduceLeDiff, Nat.reduceBEq, Nat.reduceSub, if_true, ite_true, cond_true, cond_false, List.replicate, if_false, ite_false, reduceCtorEq]
  refine Br.dec (fun hc => ?_) (fun hc => ?_) <;> simp (disch := omega) only [DC_w, DC_n, kill_0, Nat.sub_zero, ↓rD0, ↓rD1, ↓rD2, ↓rD3, ↓rD4, rU0, rU1, rU2, rU3, rU4, rU5, toNat_n, Int.reduceToNat, slA, ptrsA, boolsA, Int.reducePow, Nat.reducePow, Nat.reduceMul, Int.reduceLT, Int.reduceLE, resA, resL, res1, eq_self, wanted, evK, get, setO, one, faA, loadA, storeA, outA, lenA, isStr, binA, unA, bnd, ints, toDat, toDats, datss, fillA, splice, List.length_nil, List.flatten_nil, Nat.reduceAdd, Nat.reduceLeDiff, Nat.reduceBEq, Nat.reduceSub, if_true, ite_true, cond_true, cond_false, List.replicate, if_false, ite_false, reduceCtorEq]
  · have next : okC s i → ∀ j, j < i + 1 → okC s j := fun ho j hj => by
      rcases Nat.lt_or_ge j i with h | h
      · exact q3 j h
      · rw [show j = i by omega]; exact ho
    have hch : ∀ x, x = chr s i → (decide (97 ≤ x ∧ x ≤ 122 ∨ 65 ≤ x ∧ x ≤ 90) = true ∨ decide (48 ≤ x ∧ x ≤ 57) = true) → okC s i := fun x hx h => by rw [hx] at h; exact h
    have hno : ∀ x, x = chr s i → ¬ (decide (97 ≤ x ∧ x ≤ 122 ∨ 65 ≤ x ∧ x ≤ 90) = true ∨ decide (48 ≤ x ∧ x ≤ 57) = true) → ¬ okC s i := fun x hx h => by rw [hx] at h; exact h
    simp only [chr] at hch hno
    have hlt : ((s.data.toList.getD i 0).toNat : Int) < 256 := (chr_rng s i).2
    generalize ((s.data.toList.getD i 0).toNat : Int) = c at hch hno hlt ⊢
    have hsp : c < 48 ∨ (48 ≤ c ∧ c ≤ 57) ∨ (57 < c ∧ c < 65) ∨ (65 ≤ c ∧ c ≤ 90) ∨ (90 < c ∧ c < 97) ∨ (97 ≤ c ∧ c ≤ 122) ∨ 122 < c := by omega
    rcases hsp with h | ⟨h, h'⟩ | ⟨h, h'⟩ | ⟨h, h'⟩ | ⟨h, h'⟩ | ⟨h, h'⟩ | h <;> simp (disch := omega) only [DC_w, DC_n, kill_0, Nat.sub_zero, ↓rD0, ↓rD1, ↓rD2, ↓rD3, ↓rD4, rU0, rU1, rU2, rU3, rU4, rU5, toNat_n, Int.reduceToNat, slA, ptrsA, boolsA, Int.reducePow, Nat.reducePow, Nat.reduceMul, Int.reduceLT, Int.reduceLE, resA, resL, res1, eq_self, wanted, evK, get, setO, one, faA, loadA, storeA, outA, lenA, isStr, binA, unA, bnd, ints, toDat, toDats, datss, fillA, splice, List.length_nil, List.flatten_nil, Nat.reduceAdd, Nat.reduceLeDiff, Nat.reduceBEq, Nat.reduceSub, if_true, ite_true, cond_true, cond_false, List.replicate, if_false, ite_false, reduceCtorEq]
    · exact Ret.keep ⟨by rw [nm_f]; exact fun h => hno c rfl (by simp; omega) (h.2.2.2 i (by omega)), rfl⟩
    · exact Nxt.mk (i + 1) (by omega) (Wk.slots (by (try simp only [List.replicate, List.cons_append, List.nil_append]); repeat' first | exact WkL.nil | refine WkL.cons (Wk1.rfl _) ?_ | refine WkL.cons Wk1.esl ?_ | refine WkL.cons (Wk1.gsl _ _ _) ?_ | refine WkL.cons (Wk1.any _) ?_)) ⟨by omega, next (hch c rfl (by simp; omega))⟩
    · exact Ret.keep ⟨by rw [nm_f]; exact fun h => hno c rfl (by simp; omega) (h.2.2.2 i (by omega)), rfl⟩
    · exact Nxt.mk (i + 1) (by omega) (Wk.slots (by (try simp only [List.replicate, List.cons_append, List.nil_append]); repeat' first | exact WkL.nil | refine WkL.cons (Wk1.rfl _) ?_ | refine WkL.cons Wk1.esl ?_ | refine WkL.cons (Wk1.gsl _ _ _) ?_ | refine WkL.cons (Wk1.any _) ?_)) ⟨by omega, next (hch c rfl (by simp; omega))⟩
    · exact Ret.keep ⟨by rw [nm_f]; exact fun h => hno c rfl (by simp; omega) (h.2.2.2 i (by omega)), rfl⟩
    · exact Nxt.mk (i + 1) (by omega) (Wk.slots (by (try simp only [List.replicate, List.cons_append, List.nil_append]); repeat' first | exact WkL.nil | refine WkL.cons (Wk1.rfl _) ?_ | refine WkL.cons Wk1.esl ?_ | refine WkL.cons (Wk1.gsl _ _ _) ?_ | refine WkL.cons (Wk1.any _) ?_)) ⟨by omega, next (hch c rfl (by simp; omega))⟩
    · exact Ret.keep ⟨by rw [nm_f]; exact fun h => hno c rfl (by simp; omega) (h.2.2.2 i (by omega)), rfl⟩
  · have h0 : letF (chr s 0) = true := by
      rcases q3 0 (by omega) with h | h
      · exact h
      · simp only [digF, decide_eq_true_eq] at h; simp only [chr] at h; omega
    exact Ret.keep ⟨by rw [nm_t]; exact ⟨by omega, by omega, h0, fun j hj => q3 j (by omega)⟩, rfl⟩

/-! texts -/
abbrev sd (s : ByteArray) : List Dat := [.v (.string s)]
theorem sd_get {l : List ByteArray} {i : Nat} (h : i < l.length) : (l.map sd).getD i [] = sd (l.getD i ⟨#[]⟩) := by
  rw [List.getD_eq_getElem?_getD, List.getD_eq_getElem?_getD, List.getElem?_map, List.getElem?_eq_getElem h]; rfl
abbrev nd (s : Int) : List Dat := [.v (.int .i64 s)]
theorem nd_get {l : List Int} {i : Nat} (h : i < l.length) : (l.map nd).getD i [] = nd (l.getD i 0) := by
  rw [List.getD_eq_getElem?_getD, List.getD_eq_getElem?_getD, List.getElem?_map, List.getElem?_eq_getElem h]; rfl

theorem iaA_sd {l : List ByteArray} {i : Nat} (h : i < l.length) : iaA (.d (.sl (l.map sd))) (i : Int) 1 = some (.ip (sd (l.getD i ⟨#[]⟩))) := by
  simp only [iaA]
  rw [if_pos ⟨by omega, by simpa using h, by rw [Int.toNat_natCast, sd_get h]; rfl⟩, Int.toNat_natCast, sd_get h]
theorem iaA_nd {l : List Int} {i : Nat} (h : i < l.length) : iaA (.d (.sl (l.map nd))) (i : Int) 1 = some (.ip (nd (l.getD i 0))) := by
  simp only [iaA]
  rw [if_pos ⟨by omega, by simpa using h, by rw [Int.toNat_natCast, nd_get h]; rfl⟩, Int.toNat_natCast, nd_get h]
theorem iaA_gs {b : Nat} {l : List ByteArray} {i : Nat} (h : i < l.length) : iaA (.gsl b 1 (l.map sd)) (i : Int) 1 = some (.ip (sd (l.getD i ⟨#[]⟩))) := by
  simp only [iaA]
  rw [if_pos ⟨by omega, by simpa using h, trivial⟩, Int.toNat_natCast, sd_get h]
theorem iaA_gn {b : Nat} {l : List Int} {i : Nat} (h : i < l.length) : iaA (.gsl b 1 (l.map nd)) (i : Int) 1 = some (.ip (nd (l.getD i 0))) := by
  simp only [iaA]
  rw [if_pos ⟨by omega, by simpa using h, trivial⟩, Int.toNat_natCast, nd_get h]
theorem texts_c (l : List ByteArray) (hl : l.length ≤ 9000000) (H : List ABlk) : ACalls Try.prog 22 [.d (.sl (l.map sd)), .d (.sl (l.map sd))] H fun v H' => v = bv true ∧ H' = H := by
  refine ACalls.into Try.func22 cc22 rr22 fun hcl => ?_
  simp (disch := omega) only [Try.ntmps22, c22, r22, List.length_map, DC_w, DC_n, kill_0, Nat.sub_zero, ↓rD0, ↓rD1, ↓rD2, ↓rD3, ↓rD4, rU0, rU1, rU2, rU3, rU4, rU5, toNat_n, Int.reduceToNat, slA, ptrsA, boolsA, Int.reducePow, Nat.reducePow, Nat.reduceMul, Int.reduceLT, Int.reduceLE, resA, resL, res1, eq_self, wanted, evK, get, setO, one, faA, loadA, storeA, outA, lenA, isStr, binA, unA, bnd, ints, toDat, toDats, datss, fillA, splice, List.length_nil, List.flatten_nil, Nat.reduceAdd, Nat.reduceLeDiff, Nat.reduceBEq, Nat.reduceSub, if_true, ite_true, cond_true, cond_false, List.replicate, if_false, ite_false, reduceCtorEq]
  refine W.loopG (γ := Nat) (fun i => l.length - i) (fun i => [.d (.sl (l.map sd)), .d (.sl (l.map sd)), .any, .any, .any, iv i] ++ List.replicate 20 .any) (fun _ => H) (fun i => i ≤ l.length) 0 (Wk.slots (by (try simp only [List.replicate, List.cons_append, List.nil_append]); repeat' first | exact WkL.nil | refine WkL.cons (Wk1.rfl _) ?_ | refine WkL.cons Wk1.esl ?_ | refine WkL.cons (Wk1.gsl _ _ _) ?_ | refine WkL.cons (Wk1.any _) ?_)) (by omega) (fun i hi => ?_)
  simp (disch := omega) only [c22l0, List.length_map, DC_w, DC_n, kill_0, Nat.sub_zero, ↓rD0, ↓rD1, ↓rD2, ↓rD3, ↓rD4, rU0, rU1, rU2, rU3, rU4, rU5, toNat_n, Int.reduceToNat, slA, ptrsA, boolsA, Int.reducePow, Nat.reducePow, Nat.reduceMul, Int.reduceLT, Int.reduceLE, resA, resL, res1, eq_self, wanted, evK, get, setO, one, faA, loadA, storeA, outA, lenA, isStr, binA, unA, bnd, ints, toDat, toDats, datss, fillA, splice, List.length_nil, List.flatten_nil, Nat.reduceAdd, Nat.reduceLeDiff, Nat.reduceBEq, Nat.reduceSub, if_true, ite_true, cond_true, cond_false, List.replicate, if_false, ite_false, reduceCtorEq]
  refine Br.dec (fun hc => ?_) (fun hc => ?_) <;> simp (disch := omega) only [DC_w, DC_n, kill_0, Nat.sub_zero, ↓rD0, ↓rD1, ↓rD2, ↓rD3, ↓rD4, rU0, rU1, rU2, rU3, rU4, rU5, toNat_n, Int.reduceToNat, slA, ptrsA, boolsA, Int.reducePow, Nat.reducePow, Nat.reduceMul, Int.reduceLT, Int.reduceLE, resA, resL, res1, eq_self, wanted, evK, get, setO, one, faA, loadA, storeA, outA, lenA, isStr, binA, unA, bnd, ints, toDat, toDats, datss, fillA, splice, List.length_nil, List.flatten_nil, Nat.reduceAdd, Nat.reduceLeDiff, Nat.reduceBEq, Nat.reduceSub, if_true, ite_true, cond_true, cond_false, List.replicate, if_false, ite_false, reduceCtorEq]
  · refine W.pchain follows (by decide +kernel) ?_
    simp (disch := omega) only [iaA_sd, DC_w, DC_n, kill_0, Nat.sub_zero, ↓rD0, ↓rD1, ↓rD2, ↓rD3, ↓rD4, rU0, rU1, rU2, rU3, rU4, rU5, toNat_n, Int.reduceToNat, slA, ptrsA, boolsA, Int.reducePow, Nat.reducePow, Nat.reduceMul, Int.reduceLT, Int.reduceLE, resA, resL, res1, eq_self, wanted, evK, get, setO, one, faA, loadA, storeA, outA, lenA, isStr, binA, unA, bnd, ints, toDat, toDats, datss, fillA, splice, List.length_nil, List.flatten_nil, Nat.reduceAdd, Nat.reduceLeDiff, Nat.reduceBEq, Nat.reduceSub, if_true, ite_true, cond_true, cond_false, List.replicate, if_false, ite_false, reduceCtorEq]
    exact Nxt.mk (i + 1) (by omega) (Wk.slots (by (try simp only [List.replicate, List.cons_append, List.nil_append]); repeat' first | exact WkL.nil | refine WkL.cons (Wk1.rfl _) ?_ | refine WkL.cons Wk1.esl ?_ | refine WkL.cons (Wk1.gsl _ _ _) ?_ | refine WkL.cons (Wk1.any _) ?_)) (by omega)
  · exact Ret.keep ⟨rfl, rfl⟩

/-- Where a name stands. -/
def idxS : List ByteArray → ByteArray → Option Nat
  | [], _ => none
  | x :: l, s => if x = s then some 0 else (idxS l s).map (· + 1)
def idxI (o : Option Nat) : Int := match o with | some k => k | none => -1
theorem idxS_drop {l : List ByteArray} {s : ByteArray} : ∀ {i : Nat}, (∀ j, j < i → l.getD j ⟨#[]⟩ ≠ s) → i ≤ l.length → idxS l s = (idxS (l.drop i) s).map (· + i) := by
  induction l with
  | nil => intro i _ hi; simp [idxS]
  | cons x l ih =>
    intro i h hi
    cases i with
    | zero => simp
    | succ i =>
      have h0 : x ≠ s := by simpa using h 0 (by omega)
      rw [idxS, if_neg h0, List.drop_succ_cons, ih (i := i) (fun j hj => by simpa using h (j + 1) (by omega)) (by simpa using hi), Option.map_map]
      congr 1
theorem idxS_some {l : List ByteArray} {s : ByteArray} {i : Nat} (h : ∀ j, j < i → l.getD j ⟨#[]⟩ ≠ s) (hi : i < l.length) (e : l.getD i ⟨#[]⟩ = s) : idxS l s = some i := by
  rw [idxS_drop h (by omega), List.drop_eq_getElem_cons hi, idxS, if_pos (by rw [← e, List.getD_eq_getElem?_getD, List.getElem?_eq_getElem hi]; rfl)]
  simp
theorem idxS_none {l : List ByteArray} {s : ByteArray} (h : ∀ j, j < l.length → l.getD j ⟨#[]⟩ ≠ s) : idxS l s = none := by
  rw [idxS_drop h (Nat.le_refl _), List.drop_length]; rfl
theorem index_g (b : Nat) (l : List ByteArray) (s : ByteArray) (hl : l.length ≤ 9000000) (H : List ABlk) : ACalls Try.prog 28 [.gsl b 1 (l.map sd), sv s] H fun v H' => v = iv (idxI (idxS l s)) ∧ H' = H := by
  refine ACalls.into Try.func28 cc28 rr28 fun hcl => ?_
  simp (disch := omega) only [Try.ntmps28, c28, r28, List.length_map, DC_w, DC_n, kill_0, Nat.sub_zero, ↓rD0, ↓rD1, ↓rD2, ↓rD3, ↓rD4, rU0, rU1, rU2, rU3, rU4, rU5, toNat_n, Int.reduceToNat, slA, ptrsA, boolsA, Int.reducePow, Nat.reducePow, Nat.reduceMul, Int.reduceLT, Int.reduceLE, resA, resL, res1, eq_self, wanted, evK, get, setO, one, faA, loadA, storeA, outA, lenA, isStr, binA, unA, bnd, ints, toDat, toDats, datss, fillA, splice, List.length_nil, List.flatten_nil, Nat.reduceAdd, Nat.reduceLeDiff, Nat.reduceBEq, Nat.reduceSub, if_true, ite_true, cond_true, cond_false, List.replicate, if_false, ite_false, reduceCtorEq]
  refine W.loopG (γ := Nat) (fun i => l.length - i) (fun i => [.gsl b 1 (l.map sd), sv s, .any, .any, .any, iv i] ++ List.replicate 13 .any) (fun _ => H) (fun i => i ≤ l.length ∧ ∀ j, j < i → l.getD j ⟨#[]⟩ ≠ s) 0 (Wk.slots (by (try simp only [List.replicate, List.cons_append, List.nil_append]); repeat' first | exact WkL.nil | refine WkL.cons (Wk1.rfl _) ?_ | refine WkL.cons Wk1.esl ?_ | refine WkL.cons (Wk1.gsl _ _ _) ?_ | refine WkL.cons (Wk1.any _) ?_)) ⟨by omega, fun j hj => by omega⟩ (fun i hi => ?_)
  obtain ⟨h1, h2⟩ := hi
  simp (disch := omega) only [c28l0, List.length_map, DC_w, DC_n, kill_0, Nat.sub_zero, ↓rD0, ↓rD1, ↓rD2, ↓rD3, ↓rD4, rU0, rU1, rU2, rU3, rU4, rU5, toNat_n, Int.reduceToNat, slA, ptrsA, boolsA, Int.reducePow, Nat.reducePow, Nat.reduceMul, Int.reduceLT, Int.reduceLE, resA, resL, res1, eq_self, wanted, evK, get, setO, one, faA, loadA, storeA, outA, lenA, isStr, binA, unA, bnd, ints, toDat, toDats, datss, fillA, splice, List.length_nil, List.flatten_nil, Nat.reduceAdd, Nat.reduceLeDiff, Nat.reduceBEq, Nat.reduceSub, if_true, ite_true, cond_true, cond_false, List.replicate, if_false, ite_false, reduceCtorEq]
  refine Br.dec (fun hc => ?_) (fun hc => ?_) <;> simp (disch := omega) only [iaA_gs, DC_w, DC_n, kill_0, Nat.sub_zero, ↓rD0, ↓rD1, ↓rD2, ↓rD3, ↓rD4, rU0, rU1, rU2, rU3, rU4, rU5, toNat_n, Int.reduceToNat, slA, ptrsA, boolsA, Int.reducePow, Nat.reducePow, Nat.reduceMul, Int.reduceLT, Int.reduceLE, resA, resL, res1, eq_self, wanted, evK, get, setO, one, faA, loadA, storeA, outA, lenA, isStr, binA, unA, bnd, ints, toDat, toDats, datss, fillA, splice, List.length_nil, List.flatten_nil, Nat.reduceAdd, Nat.reduceLeDiff, Nat.reduceBEq, Nat.reduceSub, if_true, ite_true, cond_true, cond_false, List.replicate, if_false, ite_false, reduceCtorEq]
  · by_cases he : l.getD i ⟨#[]⟩ = s
    · simp (disch := omega) only [he, DC_w, DC_n, kill_0, Nat.sub_zero, ↓rD0, ↓rD1, ↓rD2, ↓rD3, ↓rD4, rU0, rU1, rU2, rU3, rU4, rU5, toNat_n, Int.reduceToNat, slA, ptrsA, boolsA, Int.reducePow, Nat.reducePow, Nat.reduceMul, Int.reduceLT, Int.reduceLE, resA, resL, res1, eq_self, wanted, evK, get, setO, one, faA, loadA, storeA, outA, lenA, isStr, binA, unA, bnd, ints, toDat, toDats, datss, fillA, splice, List.length_nil, List.flatten_nil, Nat.reduceAdd, Nat.reduceLeDiff, Nat.reduceBEq, Nat.reduceSub, if_true, ite_true, cond_true, cond_false, List.replicate, if_false, ite_false, reduceCtorEq]
      exact Ret.keep ⟨by rw [idxS_some h2 (by omega) he]; rfl, rfl⟩
    · simp (disch := omega) only [he, DC_w, DC_n, kill_0, Nat.sub_zero, ↓rD0, ↓rD1, ↓rD2, ↓rD3, ↓rD4, rU0, rU1, rU2, rU3, rU4, rU5, toNat_n, Int.reduceToNat, slA, ptrsA, boolsA, Int.reducePow, Nat.reducePow, Nat.reduceMul, Int.reduceLT, Int.reduceLE, resA, resL, res1, eq_self, wanted, evK, get, setO, one, faA, loadA, storeA, outA, lenA, isStr, binA, unA, bnd, ints, toDat, toDats, datss, fillA, splice, List.length_nil, List.flatten_nil, Nat.reduceAdd, Nat.reduceLeDiff, Nat.reduceBEq, Nat.reduceSub, if_true, ite_true, cond_true, cond_false, List.replicate, if_false, ite_false, reduceCtorEq]
      exact Nxt.mk (i + 1) (by omega) (Wk.slots (by (try simp only [List.replicate, List.cons_append, List.nil_append]); repeat' first | exact WkL.nil | refine WkL.cons (Wk1.rfl _) ?_ | refine WkL.cons Wk1.esl ?_ | refine WkL.cons (Wk1.gsl _ _ _) ?_ | refine WkL.cons (Wk1.any _) ?_)) ⟨by omega, fun j hj => by
        rcases Nat.lt_or_ge j i with h | h
        · exact h2 j h
        · rw [show j = i by omega]; exact he⟩
  · exact Ret.keep ⟨by rw [idxS_none (fun j hj => h2 j (by omega))]; rfl, rfl⟩
theorem index_e (s : ByteArray) (H : List ABlk) : ACalls Try.prog 28 [.esl, sv s] H fun v H' => v = iv (idxI (idxS [] s)) ∧ H' = H := by
  refine ACalls.into Try.func28 cc28 rr28 fun hcl => ?_
  simp (disch := omega) only [Try.ntmps28, c28, r28, DC_w, DC_n, kill_0, Nat.sub_zero, ↓rD0, ↓rD1, ↓rD2, ↓rD3, ↓rD4, rU0, rU1, rU2, rU3, rU4, rU5, toNat_n, Int.reduceToNat, slA, ptrsA, boolsA, Int.reducePow, Nat.reducePow, Nat.reduceMul, Int.reduceLT, Int.reduceLE, resA, resL, res1, eq_self, wanted, evK, get, setO, one, faA, loadA, storeA, outA, lenA, isStr, binA, unA, bnd, ints, toDat, toDats, datss, fillA, splice, List.length_nil, List.flatten_nil, Nat.reduceAdd, Nat.reduceLeDiff, Nat.reduceBEq, Nat.reduceSub, if_true, ite_true, cond_true, cond_false, List.replicate, if_false, ite_false, reduceCtorEq]
  refine W.loopG (γ := Nat) (fun i => 0) (fun i => [.esl, sv s, .any, .any, .any, iv 0] ++ List.replicate 13 .any) (fun _ => H) (fun i => True) 0 (Wk.slots (by (try simp only [List.replicate, List.cons_append, List.nil_append]); repeat' first | exact WkL.nil | refine WkL.cons (Wk1.rfl _) ?_ | refine WkL.cons Wk1.esl ?_ | refine WkL.cons (Wk1.gsl _ _ _) ?_ | refine WkL.cons (Wk1.any _) ?_)) trivial (fun i hi => ?_)
  simp (disch := omega) only [c28l0, DC_w, DC_n, kill_0, Nat.sub_zero, ↓rD0, ↓rD1, ↓rD2, ↓rD3, ↓rD4, rU0, rU1, rU2, rU3, rU4, rU5, toNat_n, Int.reduceToNat, slA, ptrsA, boolsA, Int.reducePow, Nat.reducePow, Nat.reduceMul, Int.reduceLT, Int.reduceLE, resA, resL, res1, eq_self, wanted, evK, get, setO, one, faA, loadA, storeA, outA, lenA, isStr, binA, unA, bnd, ints, toDat, toDats, datss, fillA, splice, List.length_nil, List.flatten_nil, Nat.reduceAdd, Nat.reduceLeDiff, Nat.reduceBEq, Nat.reduceSub, if_true, ite_true, cond_true, cond_false, List.replicate, if_false, ite_false, reduceCtorEq]
  exact Ret.keep ⟨rfl, rfl⟩
/-- The i-th name made up. -/
def mdS (i : Nat) : ByteArray := ⟨[UInt8.ofNat (109 : Int).toNat, UInt8.ofNat (97 + (i : Int) / 26 % 26).toNat, UInt8.ofNat (97 + (i : Int) % 26).toNat, UInt8.ofNat (97 + (i : Int) / 676).toNat].toArray⟩
theorem made_c (i : Nat) (hi : i < 17576) (H : List ABlk) : ACalls Try.prog 19 [iv i] H fun v H' => v = sv (mdS i) ∧ H' = H := by
  refine ACalls.into Try.func19 cc19 rr19 fun hcl => ?_
  simp (disch := omega) only [Try.ntmps19, c19, r19, bytesOf, DC_w, DC_n, kill_0, Nat.sub_zero, ↓rD0, ↓rD1, ↓rD2, ↓rD3, ↓rD4, rU0, rU1, rU2, rU3, rU4, rU5, toNat_n, Int.reduceToNat, slA, ptrsA, boolsA, Int.reducePow, Nat.reducePow, Nat.reduceMul, Int.reduceLT, Int.reduceLE, resA, resL, res1, eq_self, wanted, evK, get, setO, one, faA, loadA, storeA, outA, lenA, isStr, binA, unA, bnd, ints, toDat, toDats, datss, fillA, splice, List.length_nil, List.flatten_nil, Nat.reduceAdd, Nat.reduceLeDiff, Nat.reduceBEq, Nat.reduceSub, if_true, ite_true, cond_true, cond_false, List.replicate, if_false, ite_false, reduceCtorEq]
  exact Ret.keep ⟨rfl, rfl⟩
theorem u8n {n : Nat} (h : n < 256) : (UInt8.ofNat n).toNat = n := by simp [UInt8.toNat_ofNat]; omega
theorem mdS_nm {i : Nat} (hi : i < 17576) : Nm (mdS i) := by
  refine ⟨by show 1 ≤ 4; omega, by show 4 ≤ 24; omega, by show letF (((UInt8.ofNat (109 : Int).toNat).toNat : Nat) : Int) = true; decide, fun j hj => .inl ?_⟩
  have hj4 : j < 4 := hj
  have h3 : ∀ n : Int, 97 ≤ n → n ≤ 122 → letF (((UInt8.ofNat n.toNat).toNat : Nat) : Int) = true := fun n h1 h2 => by
    rw [u8n (by omega)]; simp only [letF, decide_eq_true_eq]; omega
  match j, hj4 with
  | 0, _ => show letF (((UInt8.ofNat (109 : Int).toNat).toNat : Nat) : Int) = true; decide
  | 1, _ => exact h3 _ (by omega) (by omega)
  | 2, _ => exact h3 _ (by omega) (by omega)
  | 3, _ => exact h3 _ (by omega) (by omega)
theorem mdS_inj {i j : Nat} (hi : i < 17576) (hj : j < 17576) (h : mdS i = mdS j) : i = j := by
  have h' := congrArg (fun s : ByteArray => s.data.toList.map (·.toNat)) h
  simp only [mdS, List.map_cons, List.map_nil, List.cons.injEq, and_true] at h'
  obtain ⟨_, h1, h2, h3⟩ := h'
  rw [u8n (by omega), u8n (by omega)] at h1 h2 h3
  omega
theorem mdS_size (i : Nat) : (mdS i).size = 4 := rfl
end Go.Proofs.Ythgffjaiklmbcaa
