/- The reference's reader. -/
import Derived.Test.YtipjjcaflcpplaaWkc
namespace Go.Proofs.Ytipjjcaflcpplaa
set_option linter.unusedSimpArgs false
set_option linter.unusedVariables false
set_option maxRecDepth 20000
set_option maxHeartbeats 4000000
open Go.RowKit

theorem rawR_c {H : List ABlk} {rb : Nat} {s : ByteArray} {r : Rd} (h : H[rb]? = some (rd s r.a r.bad)) (hs : s.size ≤ 300000) (ha : r.a ≤ s.size) (n : Int) : ACalls Try.prog 39 [.ptr rb 0, iv n] H fun v H' => v = sv (rawF s r n).1 ∧ H' = H.set rb (rd s (rawF s r n).2.a (rawF s r n).2.bad) := by
  refine ACalls.into Try.func39 cc39 rr39 fun hcl => ?_
  have hS : ∀ x, (H.set rb x)[rb]? = some x := fun x => getset_eq h
  obtain ⟨a, bad⟩ := r
  simp only at h ha
  simp (disch := omega) only [Try.ntmps39, c39, r39, DC_w, DC_n, kill_0, Nat.sub_zero, Int.reduceSub, Int.reduceMul, Int.reduceNeg, Int.reduceAdd, ↓rD0, ↓rD1, ↓rD2, ↓rD3, ↓rD4, rU0, rU1, rU2, rU3, rU4, rU5, toNat_n, Int.reduceToNat, slA, ptrsA, boolsA, Int.reducePow, Nat.reducePow, Nat.reduceMul, Int.reduceLT, Int.reduceLE, resA, resL, res1, eq_self, wanted, evK, get, setO, one, faA, loadA, storeA, outA, lenA, isStr, binA, unA, bnd, ints, toDat, toDats, datss, fillA, splice, List.length_nil, List.flatten_nil, Nat.reduceAdd, Nat.reduceLeDiff, Nat.reduceBEq, Nat.reduceSub, if_true, ite_true, cond_true, cond_false, List.replicate, if_false, ite_false, reduceCtorEq]
  refine W.pchain follows (by decide +kernel) ?_
  cases bad with
  | true =>
    simp (disch := omega) only [h, DC_w, DC_n, kill_0, Nat.sub_zero, Int.reduceSub, Int.reduceMul, Int.reduceNeg, Int.reduceAdd, ↓rD0, ↓rD1, ↓rD2, ↓rD3, ↓rD4, rU0, rU1, rU2, rU3, rU4, rU5, toNat_n, Int.reduceToNat, slA, ptrsA, boolsA, Int.reducePow, Nat.reducePow, Nat.reduceMul, Int.reduceLT, Int.reduceLE, resA, resL, res1, eq_self, wanted, evK, get, setO, one, faA, loadA, storeA, outA, lenA, isStr, binA, unA, bnd, ints, toDat, toDats, datss, fillA, splice, List.length_nil, List.flatten_nil, Nat.reduceAdd, Nat.reduceLeDiff, Nat.reduceBEq, Nat.reduceSub, if_true, ite_true, cond_true, cond_false, List.replicate, if_false, ite_false, reduceCtorEq]
    exact Ret.keep ⟨rfl, by simp only [rawF, takeF, if_true]⟩
  | false =>
    by_cases h1 : n < 0
    · simp (disch := omega) only [h, DC_w, DC_n, kill_0, Nat.sub_zero, Int.reduceSub, Int.reduceMul, Int.reduceNeg, Int.reduceAdd, ↓rD0, ↓rD1, ↓rD2, ↓rD3, ↓rD4, rU0, rU1, rU2, rU3, rU4, rU5, toNat_n, Int.reduceToNat, slA, ptrsA, boolsA, Int.reducePow, Nat.reducePow, Nat.reduceMul, Int.reduceLT, Int.reduceLE, resA, resL, res1, eq_self, wanted, evK, get, setO, one, faA, loadA, storeA, outA, lenA, isStr, binA, unA, bnd, ints, toDat, toDats, datss, fillA, splice, List.length_nil, List.flatten_nil, Nat.reduceAdd, Nat.reduceLeDiff, Nat.reduceBEq, Nat.reduceSub, if_true, ite_true, cond_true, cond_false, List.replicate, if_false, ite_false, reduceCtorEq]
      exact Ret.keep ⟨by simp [rawF, takeF, h1], by simp [rawF, takeF, h1]⟩
    by_cases h2 : n > (s.size : Int) - a
    · simp (disch := omega) only [h, DC_w, DC_n, kill_0, Nat.sub_zero, Int.reduceSub, Int.reduceMul, Int.reduceNeg, Int.reduceAdd, ↓rD0, ↓rD1, ↓rD2, ↓rD3, ↓rD4, rU0, rU1, rU2, rU3, rU4, rU5, toNat_n, Int.reduceToNat, slA, ptrsA, boolsA, Int.reducePow, Nat.reducePow, Nat.reduceMul, Int.reduceLT, Int.reduceLE, resA, resL, res1, eq_self, wanted, evK, get, setO, one, faA, loadA, storeA, outA, lenA, isStr, binA, unA, bnd, ints, toDat, toDats, datss, fillA, splice, List.length_nil, List.flatten_nil, Nat.reduceAdd, Nat.reduceLeDiff, Nat.reduceBEq, Nat.reduceSub, if_true, ite_true, cond_true, cond_false, List.replicate, if_false, ite_false, reduceCtorEq]
      exact Ret.keep ⟨by simp [rawF, takeF, h2], by simp [rawF, takeF, h2]⟩
    obtain ⟨m, rfl⟩ := Int.eq_ofNat_of_zero_le (Int.not_lt.1 h1)
    have e0 : rawF s ⟨a, false⟩ (m : Int) = (s.extract a (a + m), ⟨a + m, false⟩) := by
      simp only [rawF, takeF]
      rw [if_neg (by simp), if_neg (by simp; omega)]
      simp
    have e1 : ((a : Int) + (m : Int) - (m : Int)).toNat = a := by omega
    have e2 : ((a : Int) + (m : Int)).toNat = a + m := by omega
    simp (disch := omega) only [h, DC_w, DC_n, kill_0, Nat.sub_zero, Int.reduceSub, Int.reduceMul, Int.reduceNeg, Int.reduceAdd, ↓rD0, ↓rD1, ↓rD2, ↓rD3, ↓rD4, rU0, rU1, rU2, rU3, rU4, rU5, toNat_n, Int.reduceToNat, slA, ptrsA, boolsA, Int.reducePow, Nat.reducePow, Nat.reduceMul, Int.reduceLT, Int.reduceLE, resA, resL, res1, eq_self, wanted, evK, get, setO, one, faA, loadA, storeA, outA, lenA, isStr, binA, unA, bnd, ints, toDat, toDats, datss, fillA, splice, List.length_nil, List.flatten_nil, Nat.reduceAdd, Nat.reduceLeDiff, Nat.reduceBEq, Nat.reduceSub, if_true, ite_true, cond_true, cond_false, List.replicate, if_false, ite_false, reduceCtorEq]
    refine W.pchain follows (by decide +kernel) ?_
    simp (disch := omega) only [hS, e1, e2, DC_w, DC_n, kill_0, Nat.sub_zero, Int.reduceSub, Int.reduceMul, Int.reduceNeg, Int.reduceAdd, ↓rD0, ↓rD1, ↓rD2, ↓rD3, ↓rD4, rU0, rU1, rU2, rU3, rU4, rU5, toNat_n, Int.reduceToNat, slA, ptrsA, boolsA, Int.reducePow, Nat.reducePow, Nat.reduceMul, Int.reduceLT, Int.reduceLE, resA, resL, res1, eq_self, wanted, evK, get, setO, one, faA, loadA, storeA, outA, lenA, isStr, binA, unA, bnd, ints, toDat, toDats, datss, fillA, splice, List.length_nil, List.flatten_nil, Nat.reduceAdd, Nat.reduceLeDiff, Nat.reduceBEq, Nat.reduceSub, if_true, ite_true, cond_true, cond_false, List.replicate, if_false, ite_false, reduceCtorEq]
    exact Ret.keep ⟨by rw [e0], by rw [e0]; rfl⟩
theorem badR_c {H : List ABlk} {rb : Nat} {s : ByteArray} {r : Rd} (h : H[rb]? = some (rd s r.a r.bad)) : ACalls Try.prog 40 [.ptr rb 0] H fun v H' => v = bv r.bad ∧ H' = H := by
  refine ACalls.into Try.func40 cc40 rr40 fun hcl => ?_
  simp (disch := omega) only [Try.ntmps40, c40, r40, h, DC_w, DC_n, kill_0, Nat.sub_zero, Int.reduceSub, Int.reduceMul, Int.reduceNeg, Int.reduceAdd, ↓rD0, ↓rD1, ↓rD2, ↓rD3, ↓rD4, rU0, rU1, rU2, rU3, rU4, rU5, toNat_n, Int.reduceToNat, slA, ptrsA, boolsA, Int.reducePow, Nat.reducePow, Nat.reduceMul, Int.reduceLT, Int.reduceLE, resA, resL, res1, eq_self, wanted, evK, get, setO, one, faA, loadA, storeA, outA, lenA, isStr, binA, unA, bnd, ints, toDat, toDats, datss, fillA, splice, List.length_nil, List.flatten_nil, Nat.reduceAdd, Nat.reduceLeDiff, Nat.reduceBEq, Nat.reduceSub, if_true, ite_true, cond_true, cond_false, List.replicate, if_false, ite_false, reduceCtorEq]
  exact Ret.keep ⟨rfl, rfl⟩
theorem endR_c {H : List ABlk} {rb : Nat} {s : ByteArray} {r : Rd} (h : H[rb]? = some (rd s r.a r.bad)) : ACalls Try.prog 41 [.ptr rb 0] H fun v H' => v = bv (endF s r) ∧ H' = H := by
  refine ACalls.into Try.func41 cc41 rr41 fun hcl => ?_
  simp (disch := omega) only [Try.ntmps41, c41, r41, DC_w, DC_n, kill_0, Nat.sub_zero, Int.reduceSub, Int.reduceMul, Int.reduceNeg, Int.reduceAdd, ↓rD0, ↓rD1, ↓rD2, ↓rD3, ↓rD4, rU0, rU1, rU2, rU3, rU4, rU5, toNat_n, Int.reduceToNat, slA, ptrsA, boolsA, Int.reducePow, Nat.reducePow, Nat.reduceMul, Int.reduceLT, Int.reduceLE, resA, resL, res1, eq_self, wanted, evK, get, setO, one, faA, loadA, storeA, outA, lenA, isStr, binA, unA, bnd, ints, toDat, toDats, datss, fillA, splice, List.length_nil, List.flatten_nil, Nat.reduceAdd, Nat.reduceLeDiff, Nat.reduceBEq, Nat.reduceSub, if_true, ite_true, cond_true, cond_false, List.replicate, if_false, ite_false, reduceCtorEq]
  refine W.pchain follows (by decide +kernel) ?_
  cases e : r.bad with
  | true =>
    rw [e] at h
    simp (disch := omega) only [h, DC_w, DC_n, kill_0, Nat.sub_zero, Int.reduceSub, Int.reduceMul, Int.reduceNeg, Int.reduceAdd, ↓rD0, ↓rD1, ↓rD2, ↓rD3, ↓rD4, rU0, rU1, rU2, rU3, rU4, rU5, toNat_n, Int.reduceToNat, slA, ptrsA, boolsA, Int.reducePow, Nat.reducePow, Nat.reduceMul, Int.reduceLT, Int.reduceLE, resA, resL, res1, eq_self, wanted, evK, get, setO, one, faA, loadA, storeA, outA, lenA, isStr, binA, unA, bnd, ints, toDat, toDats, datss, fillA, splice, List.length_nil, List.flatten_nil, Nat.reduceAdd, Nat.reduceLeDiff, Nat.reduceBEq, Nat.reduceSub, if_true, ite_true, cond_true, cond_false, List.replicate, if_false, ite_false, reduceCtorEq]
    exact Ret.keep ⟨by rw [endF, e]; rfl, rfl⟩
  | false =>
    rw [e] at h
    simp (disch := omega) only [h, DC_w, DC_n, kill_0, Nat.sub_zero, Int.reduceSub, Int.reduceMul, Int.reduceNeg, Int.reduceAdd, ↓rD0, ↓rD1, ↓rD2, ↓rD3, ↓rD4, rU0, rU1, rU2, rU3, rU4, rU5, toNat_n, Int.reduceToNat, slA, ptrsA, boolsA, Int.reducePow, Nat.reducePow, Nat.reduceMul, Int.reduceLT, Int.reduceLE, resA, resL, res1, eq_self, wanted, evK, get, setO, one, faA, loadA, storeA, outA, lenA, isStr, binA, unA, bnd, ints, toDat, toDats, datss, fillA, splice, List.length_nil, List.flatten_nil, Nat.reduceAdd, Nat.reduceLeDiff, Nat.reduceBEq, Nat.reduceSub, if_true, ite_true, cond_true, cond_false, List.replicate, if_false, ite_false, reduceCtorEq]
    refine Ret.keep ⟨?_, rfl⟩
    rw [endF, e]
    simp only [Bool.not_false, Bool.true_and]
    congr 3
    exact decide_eq_decide.2 (by omega)
theorem take_no {s : ByteArray} {r : Rd} {n : Int} (hn : 0 ≤ n) : (takeF s r n).2.1 = !(takeF s r n).2.2.bad := by
  unfold takeF
  split
  · rename_i h; simp [h]
  · split <;> rfl
theorem byteR_c {H : List ABlk} {rb : Nat} {s : ByteArray} {r : Rd} (h : H[rb]? = some (rd s r.a r.bad)) (hs : s.size ≤ 300000) (ha : r.a ≤ s.size) : ACalls Try.prog 35 [.ptr rb 0] H fun v H' => v = iv (byteF s r).1 ∧ H' = H.set rb (rd s (byteF s r).2.a (byteF s r).2.bad) := by
  refine ACalls.into Try.func35 cc35 rr35 fun hcl => ?_
  have hS : ∀ x, (H.set rb x)[rb]? = some x := fun x => getset_eq h
  simp (disch := omega) only [Try.ntmps35, c35, r35, DC_w, DC_n, kill_0, Nat.sub_zero, Int.reduceSub, Int.reduceMul, Int.reduceNeg, Int.reduceAdd, ↓rD0, ↓rD1, ↓rD2, ↓rD3, ↓rD4, rU0, rU1, rU2, rU3, rU4, rU5, toNat_n, Int.reduceToNat, slA, ptrsA, boolsA, Int.reducePow, Nat.reducePow, Nat.reduceMul, Int.reduceLT, Int.reduceLE, resA, resL, res1, eq_self, wanted, evK, get, setO, one, faA, loadA, storeA, outA, lenA, isStr, binA, unA, bnd, ints, toDat, toDats, datss, fillA, splice, List.length_nil, List.flatten_nil, Nat.reduceAdd, Nat.reduceLeDiff, Nat.reduceBEq, Nat.reduceSub, if_true, ite_true, cond_true, cond_false, List.replicate, if_false, ite_false, reduceCtorEq]
  refine Cont.mk (rawR_c h hs ha 1) ?_
  have hb : (byteF s r).2 = (takeF s r 1).2.2 := rfl
  have hr2 : (rawF s r 1).2 = (takeF s r 1).2.2 := rfl
  have hr1 : (rawF s r 1).1 = (takeF s r 1).1 := rfl
  have hno := take_no (s := s) (r := r) (n := 1) (by decide)
  rw [hb, hr2, hr1]
  cases e : (takeF s r 1).2.2.bad with
  | true =>
    rw [e] at hno
    simp (disch := omega) only [hS, DC_w, DC_n, kill_0, Nat.sub_zero, Int.reduceSub, Int.reduceMul, Int.reduceNeg, Int.reduceAdd, ↓rD0, ↓rD1, ↓rD2, ↓rD3, ↓rD4, rU0, rU1, rU2, rU3, rU4, rU5, toNat_n, Int.reduceToNat, slA, ptrsA, boolsA, Int.reducePow, Nat.reducePow, Nat.reduceMul, Int.reduceLT, Int.reduceLE, resA, resL, res1, eq_self, wanted, evK, get, setO, one, faA, loadA, storeA, outA, lenA, isStr, binA, unA, bnd, ints, toDat, toDats, datss, fillA, splice, List.length_nil, List.flatten_nil, Nat.reduceAdd, Nat.reduceLeDiff, Nat.reduceBEq, Nat.reduceSub, if_true, ite_true, cond_true, cond_false, List.replicate, if_false, ite_false, reduceCtorEq]
    exact Ret.keep ⟨by rw [byteF, hno]; rfl, rfl⟩
  | false =>
    rw [e] at hno
    have e2 : r.a + 1 ≤ s.size ∧ (takeF s r 1).1 = s.extract r.a (r.a + 1) := by
      unfold takeF at hno ⊢
      split at hno
      · cases hno
      · split at hno
        · cases hno
        · rename_i q1 q2
          rw [if_neg q1, if_neg q2]
          exact ⟨by omega, rfl⟩
    have e3 : (takeF s r 1).1.size = 1 := by rw [e2.2, ex_size _ _ _ e2.1]; omega
    have e4 : (takeF s r 1).1.data.toList.getD 0 0 = s.data.toList.getD r.a 0 := by rw [e2.2, chr_ex (by omega) e2.1]; rfl
    have hlt := (s.data.toList.getD r.a 0).toNat_lt
    simp (disch := omega) only [hS, e3, e4, DC_w, DC_n, kill_0, Nat.sub_zero, Int.reduceSub, Int.reduceMul, Int.reduceNeg, Int.reduceAdd, ↓rD0, ↓rD1, ↓rD2, ↓rD3, ↓rD4, rU0, rU1, rU2, rU3, rU4, rU5, toNat_n, Int.reduceToNat, slA, ptrsA, boolsA, Int.reducePow, Nat.reducePow, Nat.reduceMul, Int.reduceLT, Int.reduceLE, resA, resL, res1, eq_self, wanted, evK, get, setO, one, faA, loadA, storeA, outA, lenA, isStr, binA, unA, bnd, ints, toDat, toDats, datss, fillA, splice, List.length_nil, List.flatten_nil, Nat.reduceAdd, Nat.reduceLeDiff, Nat.reduceBEq, Nat.reduceSub, if_true, ite_true, cond_true, cond_false, List.replicate, if_false, ite_false, reduceCtorEq]
    exact Ret.keep ⟨by rw [byteF, hno]; rfl, rfl⟩
def wP (c0 c1 c2 c3 : Nat) : Nat → Int
  | 0 => (c0 : Int) + (c1 : Int) * 256 + (c2 : Int) * 65536 + (c3 : Int) * 16777216
  | 1 => (c1 : Int) + (c2 : Int) * 256 + (c3 : Int) * 65536
  | 2 => (c2 : Int) + (c3 : Int) * 256
  | 3 => c3
  | _ => 0
theorem wP0 {c0 c1 c2 c3 : Nat} : wP c0 c1 c2 c3 0 = (c0 : Int) + (c1 : Int) * 256 + (c2 : Int) * 65536 + (c3 : Int) * 16777216 := rfl
theorem wP1 {c0 c1 c2 c3 : Nat} : wP c0 c1 c2 c3 1 = (c1 : Int) + (c2 : Int) * 256 + (c3 : Int) * 65536 := rfl
theorem wP2 {c0 c1 c2 c3 : Nat} : wP c0 c1 c2 c3 2 = (c2 : Int) + (c3 : Int) * 256 := rfl
theorem wP3 {c0 c1 c2 c3 : Nat} : wP c0 c1 c2 c3 3 = (c3 : Int) := rfl
theorem wP4 {c0 c1 c2 c3 : Nat} : wP c0 c1 c2 c3 4 = 0 := rfl
theorem wk2 {x y i j : Int} (h1 : x = y) (h2 : i = j) : WkL [.d (.v (.int .u32 x)), .d (.v (.int .i64 i))] [wv y, iv j] := by
  subst h1; subst h2; exact WkL.cons (Wk1.rfl _) (WkL.cons (Wk1.rfl _) WkL.nil)
theorem wordR_c {H : List ABlk} {rb : Nat} {s : ByteArray} {r : Rd} (h : H[rb]? = some (rd s r.a r.bad)) (hs : s.size ≤ 300000) (ha : r.a ≤ s.size) : ACalls Try.prog 37 [.ptr rb 0] H fun v H' => v = wv (wordF s r).1 ∧ H' = H.set rb (rd s (wordF s r).2.a (wordF s r).2.bad) := by
  refine ACalls.into Try.func37 cc37 rr37 fun hcl => ?_
  have hS : ∀ x, (H.set rb x)[rb]? = some x := fun x => getset_eq h
  simp (disch := omega) only [Try.ntmps37, c37, r37, DC_w, DC_n, kill_0, Nat.sub_zero, Int.reduceSub, Int.reduceMul, Int.reduceNeg, Int.reduceAdd, ↓rD0, ↓rD1, ↓rD2, ↓rD3, ↓rD4, rU0, rU1, rU2, rU3, rU4, rU5, toNat_n, Int.reduceToNat, slA, ptrsA, boolsA, Int.reducePow, Nat.reducePow, Nat.reduceMul, Int.reduceLT, Int.reduceLE, resA, resL, res1, eq_self, wanted, evK, get, setO, one, faA, loadA, storeA, outA, lenA, isStr, binA, unA, bnd, ints, toDat, toDats, datss, fillA, splice, List.length_nil, List.flatten_nil, Nat.reduceAdd, Nat.reduceLeDiff, Nat.reduceBEq, Nat.reduceSub, if_true, ite_true, cond_true, cond_false, List.replicate, if_false, ite_false, reduceCtorEq]
  refine Cont.mk (rawR_c h hs ha 4) ?_
  have hb : (wordF s r).2 = (takeF s r 4).2.2 := rfl
  have hr2 : (rawF s r 4).2 = (takeF s r 4).2.2 := rfl
  have hr1 : (rawF s r 4).1 = (takeF s r 4).1 := rfl
  have hno := take_no (s := s) (r := r) (n := 4) (by decide)
  rw [hb, hr2, hr1]
  cases e : (takeF s r 4).2.2.bad with
  | true =>
    rw [e] at hno
    simp (disch := omega) only [hS, DC_w, DC_n, kill_0, Nat.sub_zero, Int.reduceSub, Int.reduceMul, Int.reduceNeg, Int.reduceAdd, ↓rD0, ↓rD1, ↓rD2, ↓rD3, ↓rD4, rU0, rU1, rU2, rU3, rU4, rU5, toNat_n, Int.reduceToNat, slA, ptrsA, boolsA, Int.reducePow, Nat.reducePow, Nat.reduceMul, Int.reduceLT, Int.reduceLE, resA, resL, res1, eq_self, wanted, evK, get, setO, one, faA, loadA, storeA, outA, lenA, isStr, binA, unA, bnd, ints, toDat, toDats, datss, fillA, splice, List.length_nil, List.flatten_nil, Nat.reduceAdd, Nat.reduceLeDiff, Nat.reduceBEq, Nat.reduceSub, if_true, ite_true, cond_true, cond_false, List.replicate, if_false, ite_false, reduceCtorEq]
    exact Ret.keep ⟨by rw [wordF, hno]; rfl, rfl⟩
  | false =>
    rw [e] at hno
    have e2 : r.a + 4 ≤ s.size ∧ (takeF s r 4).1 = s.extract r.a (r.a + 4) := by
      unfold takeF at hno ⊢
      split at hno
      · cases hno
      · split at hno
        · cases hno
        · rename_i q1 q2
          rw [if_neg q1, if_neg q2]
          exact ⟨by omega, rfl⟩
    have e3 : (takeF s r 4).1.size = 4 := by rw [e2.2, ex_size _ _ _ e2.1]; omega
    have e4 : ∀ i, i < 4 → (takeF s r 4).1.data.toList.getD i 0 = s.data.toList.getD (r.a + i) 0 := fun i hi => by rw [e2.2, chr_ex hi e2.1]
    have f0 := e4 0 (by omega)
    have f1 := e4 1 (by omega)
    have f2 := e4 2 (by omega)
    have f3 := e4 3 (by omega)
    rw [Nat.add_zero] at f0
    have l0 := (s.data.toList.getD r.a 0).toNat_lt
    have l1 := (s.data.toList.getD (r.a + 1) 0).toNat_lt
    have l2 := (s.data.toList.getD (r.a + 2) 0).toNat_lt
    have l3 := (s.data.toList.getD (r.a + 3) 0).toNat_lt
    have w0 : (wordF s r).1 = ((s.data.toList.getD r.a 0).toNat : Int) + ((s.data.toList.getD (r.a + 1) 0).toNat : Int) * 256 + ((s.data.toList.getD (r.a + 2) 0).toNat : Int) * 65536 + ((s.data.toList.getD (r.a + 3) 0).toNat : Int) * 16777216 := by rw [wordF, hno]; rfl
    rw [w0]
    obtain ⟨t, ht⟩ : ∃ t, t = (takeF s r 4).1 := ⟨_, rfl⟩
    rw [← ht] at e3 f0 f1 f2 f3 ⊢
    generalize s.data.toList.getD r.a 0 = d0 at l0 f0 ⊢
    generalize s.data.toList.getD (r.a + 1) 0 = d1 at l1 f1 ⊢
    generalize s.data.toList.getD (r.a + 2) 0 = d2 at l2 f2 ⊢
    generalize s.data.toList.getD (r.a + 3) 0 = d3 at l3 f3 ⊢
    simp (disch := omega) only [hS, DC_w, DC_n, kill_0, Nat.sub_zero, Int.reduceSub, Int.reduceMul, Int.reduceNeg, Int.reduceAdd, ↓rD0, ↓rD1, ↓rD2, ↓rD3, ↓rD4, rU0, rU1, rU2, rU3, rU4, rU5, toNat_n, Int.reduceToNat, slA, ptrsA, boolsA, Int.reducePow, Nat.reducePow, Nat.reduceMul, Int.reduceLT, Int.reduceLE, resA, resL, res1, eq_self, wanted, evK, get, setO, one, faA, loadA, storeA, outA, lenA, isStr, binA, unA, bnd, ints, toDat, toDats, datss, fillA, splice, List.length_nil, List.flatten_nil, Nat.reduceAdd, Nat.reduceLeDiff, Nat.reduceBEq, Nat.reduceSub, if_true, ite_true, cond_true, cond_false, List.replicate, if_false, ite_false, reduceCtorEq]
    obtain ⟨S, hS2⟩ : ∃ S : Nat → List AV, ∀ k, S k = [.ptr rb 0, .any, .any, sv t, wv (wP d0.toNat d1.toNat d2.toNat d3.toNat k), iv ((k : Int) - 1)] ++ List.replicate 18 .any := ⟨_, fun _ => rfl⟩
    refine W.loopG (γ := Nat) (fun k => k) S (fun _ => H.set rb (rd s (takeF s r 4).2.2.a false)) (fun k => k ≤ 4) 4 (Wk.slots (by rw [hS2]; exact WkL.tail 6 _ rfl (by simp only [List.take_succ_cons, List.take_zero]; repeat' first | exact WkL.nil | refine WkL.cons (Wk1.rfl _) ?_ | refine WkL.cons Wk1.esl ?_ | refine WkL.cons (Wk1.gsl _ _ _) ?_ | refine WkL.cons (Wk1.any _) ?_))) (by omega) (fun k hk => ?_)
    have k1 : ((1 : Nat) : Int) - 1 = 0 := rfl
    have k2 : ((2 : Nat) : Int) - 1 = 1 := rfl
    have k3 : ((3 : Nat) : Int) - 1 = 2 := rfl
    have k4 : ((4 : Nat) : Int) - 1 = 3 := rfl
    rcases (by omega : k = 0 ∨ k = 1 ∨ k = 2 ∨ k = 3 ∨ k = 4) with rfl | rfl | rfl | rfl | rfl
    · simp (disch := omega) only [hS2, c37l0, DC_w, DC_n, kill_0, Nat.sub_zero, Int.reduceSub, Int.reduceMul, Int.reduceNeg, Int.reduceAdd, ↓rD0, ↓rD1, ↓rD2, ↓rD3, ↓rD4, rU0, rU1, rU2, rU3, rU4, rU5, toNat_n, Int.reduceToNat, slA, ptrsA, boolsA, Int.reducePow, Nat.reducePow, Nat.reduceMul, Int.reduceLT, Int.reduceLE, resA, resL, res1, eq_self, wanted, evK, get, setO, one, faA, loadA, storeA, outA, lenA, isStr, binA, unA, bnd, ints, toDat, toDats, datss, fillA, splice, List.length_nil, List.flatten_nil, Nat.reduceAdd, Nat.reduceLeDiff, Nat.reduceBEq, Nat.reduceSub, if_true, ite_true, cond_true, cond_false, List.replicate, if_false, ite_false, reduceCtorEq]
      exact Ret.keep ⟨by rw [wP0], rfl⟩
    · simp (disch := omega) only [hS2, c37l0, e3, f0, k1, wP1, DC_w, DC_n, kill_0, Nat.sub_zero, Int.reduceSub, Int.reduceMul, Int.reduceNeg, Int.reduceAdd, ↓rD0, ↓rD1, ↓rD2, ↓rD3, ↓rD4, rU0, rU1, rU2, rU3, rU4, rU5, toNat_n, Int.reduceToNat, slA, ptrsA, boolsA, Int.reducePow, Nat.reducePow, Nat.reduceMul, Int.reduceLT, Int.reduceLE, resA, resL, res1, eq_self, wanted, evK, get, setO, one, faA, loadA, storeA, outA, lenA, isStr, binA, unA, bnd, ints, toDat, toDats, datss, fillA, splice, List.length_nil, List.flatten_nil, Nat.reduceAdd, Nat.reduceLeDiff, Nat.reduceBEq, Nat.reduceSub, if_true, ite_true, cond_true, cond_false, List.replicate, if_false, ite_false, reduceCtorEq]
      refine Nxt.mk 0 (by omega) (Wk.slots ?_) (by omega)
      rw [hS2, wP0]
      exact WkL.tail 6 _ rfl (by simp only [List.take_succ_cons, List.take_zero]; (repeat' first | exact WkL.nil | exact wk2 (by omega) rfl | refine WkL.cons (Wk1.rfl _) ?_ | refine WkL.cons Wk1.esl ?_ | refine WkL.cons (Wk1.gsl _ _ _) ?_ | refine WkL.cons (Wk1.any _) ?_))
    · simp (disch := omega) only [hS2, c37l0, e3, f1, k2, wP2, DC_w, DC_n, kill_0, Nat.sub_zero, Int.reduceSub, Int.reduceMul, Int.reduceNeg, Int.reduceAdd, ↓rD0, ↓rD1, ↓rD2, ↓rD3, ↓rD4, rU0, rU1, rU2, rU3, rU4, rU5, toNat_n, Int.reduceToNat, slA, ptrsA, boolsA, Int.reducePow, Nat.reducePow, Nat.reduceMul, Int.reduceLT, Int.reduceLE, resA, resL, res1, eq_self, wanted, evK, get, setO, one, faA, loadA, storeA, outA, lenA, isStr, binA, unA, bnd, ints, toDat, toDats, datss, fillA, splice, List.length_nil, List.flatten_nil, Nat.reduceAdd, Nat.reduceLeDiff, Nat.reduceBEq, Nat.reduceSub, if_true, ite_true, cond_true, cond_false, List.replicate, if_false, ite_false, reduceCtorEq]
      refine Nxt.mk 1 (by omega) (Wk.slots ?_) (by omega)
      rw [hS2, wP1]
      exact WkL.tail 6 _ rfl (by simp only [List.take_succ_cons, List.take_zero]; (repeat' first | exact WkL.nil | exact wk2 (by omega) rfl | refine WkL.cons (Wk1.rfl _) ?_ | refine WkL.cons Wk1.esl ?_ | refine WkL.cons (Wk1.gsl _ _ _) ?_ | refine WkL.cons (Wk1.any _) ?_))
    · simp (disch := omega) only [hS2, c37l0, e3, f2, k3, wP3, DC_w, DC_n, kill_0, Nat.sub_zero, Int.reduceSub, Int.reduceMul, Int.reduceNeg, Int.reduceAdd, ↓rD0, ↓rD1, ↓rD2, ↓rD3, ↓rD4, rU0, rU1, rU2, rU3, rU4, rU5, toNat_n, Int.reduceToNat, slA, ptrsA, boolsA, Int.reducePow, Nat.reducePow, Nat.reduceMul, Int.reduceLT, Int.reduceLE, resA, resL, res1, eq_self, wanted, evK, get, setO, one, faA, loadA, storeA, outA, lenA, isStr, binA, unA, bnd, ints, toDat, toDats, datss, fillA, splice, List.length_nil, List.flatten_nil, Nat.reduceAdd, Nat.reduceLeDiff, Nat.reduceBEq, Nat.reduceSub, if_true, ite_true, cond_true, cond_false, List.replicate, if_false, ite_false, reduceCtorEq]
      refine Nxt.mk 2 (by omega) (Wk.slots ?_) (by omega)
      rw [hS2, wP2]
      exact WkL.tail 6 _ rfl (by simp only [List.take_succ_cons, List.take_zero]; (repeat' first | exact WkL.nil | exact wk2 (by omega) rfl | refine WkL.cons (Wk1.rfl _) ?_ | refine WkL.cons Wk1.esl ?_ | refine WkL.cons (Wk1.gsl _ _ _) ?_ | refine WkL.cons (Wk1.any _) ?_))
    · simp (disch := omega) only [hS2, c37l0, e3, f3, k4, wP4, DC_w, DC_n, kill_0, Nat.sub_zero, Int.reduceSub, Int.reduceMul, Int.reduceNeg, Int.reduceAdd, ↓rD0, ↓rD1, ↓rD2, ↓rD3, ↓rD4, rU0, rU1, rU2, rU3, rU4, rU5, toNat_n, Int.reduceToNat, slA, ptrsA, boolsA, Int.reducePow, Nat.reducePow, Nat.reduceMul, Int.reduceLT, Int.reduceLE, resA, resL, res1, eq_self, wanted, evK, get, setO, one, faA, loadA, storeA, outA, lenA, isStr, binA, unA, bnd, ints, toDat, toDats, datss, fillA, splice, List.length_nil, List.flatten_nil, Nat.reduceAdd, Nat.reduceLeDiff, Nat.reduceBEq, Nat.reduceSub, if_true, ite_true, cond_true, cond_false, List.replicate, if_false, ite_false, reduceCtorEq]
      refine Nxt.mk 3 (by omega) (Wk.slots ?_) (by omega)
      rw [hS2, wP3]
      exact WkL.tail 6 _ rfl (by simp only [List.take_succ_cons, List.take_zero]; (repeat' first | exact WkL.nil | exact wk2 (by omega) rfl | refine WkL.cons (Wk1.rfl _) ?_ | refine WkL.cons Wk1.esl ?_ | refine WkL.cons (Wk1.gsl _ _ _) ?_ | refine WkL.cons (Wk1.any _) ?_))
theorem idxB_at : ∀ {l : List UInt8} {i : Nat}, i < l.length → l.getD i 0 = 0 → (∀ j, j < i → l.getD j 0 ≠ 0) → idxB l 0 = i
  | [], i, h, _, _ => by simp at h
  | b :: l, 0, _, h, _ => by
    have : b = 0 := by simpa using h
    simp [idxB, this]
  | b :: l, i + 1, h, h2, h3 => by
    have hb : ¬ b = 0 := by simpa using h3 0 (by omega)
    have := idxB_at (l := l) (i := i) (by simpa using h) (by simpa using h2) (fun j hj => by simpa using h3 (j + 1) (by omega))
    rw [idxB, if_neg (by simpa using hb), this, if_neg (by simp <;> omega)]
    omega
theorem idxB_z : ∀ {l : List UInt8}, 0 ≤ idxB l 0 → (idxB l 0).toNat < l.length ∧ l.getD (idxB l 0).toNat 0 = 0
  | [], h => by simp [idxB] at h
  | b :: l, h => by
    unfold idxB at h ⊢
    split at h
    · rename_i hb
      rw [if_pos hb]
      have : b = 0 := by simpa using hb
      simp [this]
    · rename_i hb
      rw [if_neg hb]
      split at h
      · rename_i h2; exact absurd h (by decide)
      · rename_i h2
        rw [if_neg h2]
        have h3 : 0 ≤ idxB l 0 := by
          simp at h2; omega
        obtain ⟨e1, e2⟩ := idxB_z h3
        have e : (idxB l 0 + 1).toNat = (idxB l 0).toNat + 1 := by omega
        rw [e]
        exact ⟨by simp only [List.length_cons]; omega, by simpa using e2⟩
theorem getD_drop (l : List UInt8) (a i : Nat) : (l.drop a).getD i 0 = l.getD (a + i) 0 := by
  rw [List.getD_eq_getElem?_getD, List.getD_eq_getElem?_getD, List.getElem?_drop]
theorem textR_c {H : List ABlk} {rb : Nat} {s : ByteArray} {r : Rd} (h : H[rb]? = some (rd s r.a r.bad)) (hs : s.size ≤ 300000) (ha : r.a ≤ s.size) : ACalls Try.prog 38 [.ptr rb 0] H fun v H' => v = sv (textF s r).1 ∧ H' = H.set rb (rd s (textF s r).2.a (textF s r).2.bad) := by
  refine ACalls.into Try.func38 cc38 rr38 fun hcl => ?_
  have hS : ∀ x, (H.set rb x)[rb]? = some x := fun x => getset_eq h
  obtain ⟨a, bad⟩ := r
  simp only at h ha
  cases bad with
  | true =>
    simp (disch := omega) only [Try.ntmps38, c38, r38, h, DC_w, DC_n, kill_0, Nat.sub_zero, Int.reduceSub, Int.reduceMul, Int.reduceNeg, Int.reduceAdd, ↓rD0, ↓rD1, ↓rD2, ↓rD3, ↓rD4, rU0, rU1, rU2, rU3, rU4, rU5, toNat_n, Int.reduceToNat, slA, ptrsA, boolsA, Int.reducePow, Nat.reducePow, Nat.reduceMul, Int.reduceLT, Int.reduceLE, resA, resL, res1, eq_self, wanted, evK, get, setO, one, faA, loadA, storeA, outA, lenA, isStr, binA, unA, bnd, ints, toDat, toDats, datss, fillA, splice, List.length_nil, List.flatten_nil, Nat.reduceAdd, Nat.reduceLeDiff, Nat.reduceBEq, Nat.reduceSub, if_true, ite_true, cond_true, cond_false, List.replicate, if_false, ite_false, reduceCtorEq]
    exact Ret.keep ⟨rfl, by simp only [textF, if_true]⟩
  | false =>
    have e0 : textF s ⟨a, false⟩ = if idxB (s.data.toList.drop a) 0 < 0 ∨ idxB (s.data.toList.drop a) 0 > 64 then (nl, ⟨a, true⟩) else (s.extract a (a + (idxB (s.data.toList.drop a) 0).toNat), ⟨a + (idxB (s.data.toList.drop a) 0).toNat + 1, false⟩) := by rw [textF, if_neg (by simp)]
    simp (disch := omega) only [Try.ntmps38, c38, r38, h, DC_w, DC_n, kill_0, Nat.sub_zero, Int.reduceSub, Int.reduceMul, Int.reduceNeg, Int.reduceAdd, ↓rD0, ↓rD1, ↓rD2, ↓rD3, ↓rD4, rU0, rU1, rU2, rU3, rU4, rU5, toNat_n, Int.reduceToNat, slA, ptrsA, boolsA, Int.reducePow, Nat.reducePow, Nat.reduceMul, Int.reduceLT, Int.reduceLE, resA, resL, res1, eq_self, wanted, evK, get, setO, one, faA, loadA, storeA, outA, lenA, isStr, binA, unA, bnd, ints, toDat, toDats, datss, fillA, splice, List.length_nil, List.flatten_nil, Nat.reduceAdd, Nat.reduceLeDiff, Nat.reduceBEq, Nat.reduceSub, if_true, ite_true, cond_true, cond_false, List.replicate, if_false, ite_false, reduceCtorEq]
    obtain ⟨S, hS2⟩ : ∃ S : Nat → List AV, ∀ i, S i = [.ptr rb 0, .any, .any, iv i] ++ List.replicate 64 .any := ⟨_, fun _ => rfl⟩
    refine W.loopG (γ := Nat) (fun i => 65 - i) S (fun _ => H) (fun i => i ≤ 65 ∧ a + i ≤ s.size ∧ ∀ j, j < i → s.data.toList.getD (a + j) 0 ≠ 0) 0 (Wk.slots (by rw [hS2]; exact WkL.tail 4 _ rfl (by simp only [List.take_succ_cons, List.take_zero]; repeat' first | exact WkL.nil | refine WkL.cons (Wk1.rfl _) ?_ | refine WkL.cons Wk1.esl ?_ | refine WkL.cons (Wk1.gsl _ _ _) ?_ | refine WkL.cons (Wk1.any _) ?_))) ⟨by omega, by omega, fun j hj => absurd hj (Nat.not_lt_zero _)⟩ (fun i hi => ?_)
    obtain ⟨q1, q2, q3⟩ := hi
    have giveup : (textF s ⟨a, false⟩ = (nl, ⟨a, true⟩)) → Ret [RC.t 2] H.length (fun v H' => v = sv (textF s ⟨a, false⟩).1 ∧ H' = H.set rb (rd s (textF s ⟨a, false⟩).2.a (textF s ⟨a, false⟩).2.bad)) (some (sv nl)) (H.set rb (rd s a true)) := fun e => by
      rw [e]; exact Ret.keep ⟨rfl, rfl⟩
    have hdl : (s.data.toList.drop a).length = s.size - a := by rw [List.length_drop, len_data]
    have none' : (i = 65 ∨ a + i = s.size) → textF s ⟨a, false⟩ = (nl, ⟨a, true⟩) := fun hor => by
      rw [e0, if_pos]
      by_cases hz : 0 ≤ idxB (s.data.toList.drop a) 0
      · obtain ⟨z1, z2⟩ := idxB_z hz
        rw [getD_drop] at z2
        rw [hdl] at z1
        right
        have : ¬ (idxB (s.data.toList.drop a) 0).toNat < i := fun hh => q3 _ hh z2
        rcases hor with hh | hh <;> omega
      · left; omega
    by_cases u1 : i ≤ 64
    · by_cases u2 : a + i < s.size
      · simp (disch := omega) only [hS2, c38l0, DC_w, DC_n, kill_0, Nat.sub_zero, Int.reduceSub, Int.reduceMul, Int.reduceNeg, Int.reduceAdd, ↓rD0, ↓rD1, ↓rD2, ↓rD3, ↓rD4, rU0, rU1, rU2, rU3, rU4, rU5, toNat_n, Int.reduceToNat, slA, ptrsA, boolsA, Int.reducePow, Nat.reducePow, Nat.reduceMul, Int.reduceLT, Int.reduceLE, resA, resL, res1, eq_self, wanted, evK, get, setO, one, faA, loadA, storeA, outA, lenA, isStr, binA, unA, bnd, ints, toDat, toDats, datss, fillA, splice, List.length_nil, List.flatten_nil, Nat.reduceAdd, Nat.reduceLeDiff, Nat.reduceBEq, Nat.reduceSub, if_true, ite_true, cond_true, cond_false, List.replicate, if_false, ite_false, reduceCtorEq]
        refine W.pchain follows (by decide +kernel) ?_
        simp (disch := omega) only [h, DC_w, DC_n, kill_0, Nat.sub_zero, Int.reduceSub, Int.reduceMul, Int.reduceNeg, Int.reduceAdd, ↓rD0, ↓rD1, ↓rD2, ↓rD3, ↓rD4, rU0, rU1, rU2, rU3, rU4, rU5, toNat_n, Int.reduceToNat, slA, ptrsA, boolsA, Int.reducePow, Nat.reducePow, Nat.reduceMul, Int.reduceLT, Int.reduceLE, resA, resL, res1, eq_self, wanted, evK, get, setO, one, faA, loadA, storeA, outA, lenA, isStr, binA, unA, bnd, ints, toDat, toDats, datss, fillA, splice, List.length_nil, List.flatten_nil, Nat.reduceAdd, Nat.reduceLeDiff, Nat.reduceBEq, Nat.reduceSub, if_true, ite_true, cond_true, cond_false, List.replicate, if_false, ite_false, reduceCtorEq]
        refine W.pchain follows (by decide +kernel) ?_
        have e8 : ((a : Int) + (i : Int)).toNat = a + i := by omega
        by_cases hz : s.data.toList.getD (a + i) 0 = 0
        · have hz2 : ((s.data.toList.getD (a + i) 0).toNat : Int) = 0 := by rw [hz]; rfl
          have hidx := idxB_at (l := s.data.toList.drop a) (i := i) (by rw [hdl]; omega) (by rw [getD_drop]; exact hz) (fun j hj => by rw [getD_drop]; exact q3 j hj)
          have e9 : textF s ⟨a, false⟩ = (s.extract a (a + i), ⟨a + i + 1, false⟩) := by
            rw [e0, hidx, if_neg (by omega)]
            rfl
          rw [e9]
          have e1 : ((a : Int) + ((i : Int) + 1) - (i : Int) - 1).toNat = a := by omega
          have e2 : ((a : Int) + ((i : Int) + 1) - 1).toNat = a + i := by omega
          simp (disch := omega) only [h, e8, hz2, DC_w, DC_n, kill_0, Nat.sub_zero, Int.reduceSub, Int.reduceMul, Int.reduceNeg, Int.reduceAdd, ↓rD0, ↓rD1, ↓rD2, ↓rD3, ↓rD4, rU0, rU1, rU2, rU3, rU4, rU5, toNat_n, Int.reduceToNat, slA, ptrsA, boolsA, Int.reducePow, Nat.reducePow, Nat.reduceMul, Int.reduceLT, Int.reduceLE, resA, resL, res1, eq_self, wanted, evK, get, setO, one, faA, loadA, storeA, outA, lenA, isStr, binA, unA, bnd, ints, toDat, toDats, datss, fillA, splice, List.length_nil, List.flatten_nil, Nat.reduceAdd, Nat.reduceLeDiff, Nat.reduceBEq, Nat.reduceSub, if_true, ite_true, cond_true, cond_false, List.replicate, if_false, ite_false, reduceCtorEq]
          refine W.pchain follows (by decide +kernel) ?_
          simp (disch := omega) only [hS, e1, e2, DC_w, DC_n, kill_0, Nat.sub_zero, Int.reduceSub, Int.reduceMul, Int.reduceNeg, Int.reduceAdd, ↓rD0, ↓rD1, ↓rD2, ↓rD3, ↓rD4, rU0, rU1, rU2, rU3, rU4, rU5, toNat_n, Int.reduceToNat, slA, ptrsA, boolsA, Int.reducePow, Nat.reducePow, Nat.reduceMul, Int.reduceLT, Int.reduceLE, resA, resL, res1, eq_self, wanted, evK, get, setO, one, faA, loadA, storeA, outA, lenA, isStr, binA, unA, bnd, ints, toDat, toDats, datss, fillA, splice, List.length_nil, List.flatten_nil, Nat.reduceAdd, Nat.reduceLeDiff, Nat.reduceBEq, Nat.reduceSub, if_true, ite_true, cond_true, cond_false, List.replicate, if_false, ite_false, reduceCtorEq]
          exact Ret.keep ⟨rfl, rfl⟩
        · have hz2 : ¬ ((s.data.toList.getD (a + i) 0).toNat : Int) = 0 := fun e => hz (UInt8.toNat_inj.1 (by show _ = 0; omega))
          simp (disch := omega) only [h, e8, hz2, DC_w, DC_n, kill_0, Nat.sub_zero, Int.reduceSub, Int.reduceMul, Int.reduceNeg, Int.reduceAdd, ↓rD0, ↓rD1, ↓rD2, ↓rD3, ↓rD4, rU0, rU1, rU2, rU3, rU4, rU5, toNat_n, Int.reduceToNat, slA, ptrsA, boolsA, Int.reducePow, Nat.reducePow, Nat.reduceMul, Int.reduceLT, Int.reduceLE, resA, resL, res1, eq_self, wanted, evK, get, setO, one, faA, loadA, storeA, outA, lenA, isStr, binA, unA, bnd, ints, toDat, toDats, datss, fillA, splice, List.length_nil, List.flatten_nil, Nat.reduceAdd, Nat.reduceLeDiff, Nat.reduceBEq, Nat.reduceSub, if_true, ite_true, cond_true, cond_false, List.replicate, if_false, ite_false, reduceCtorEq]
          exact Nxt.mk (i + 1) (by omega) (Wk.slots (by rw [hS2]; exact WkL.tail 4 _ rfl (by simp only [List.take_succ_cons, List.take_zero]; repeat' first | exact WkL.nil | refine WkL.cons (Wk1.rfl _) ?_ | refine WkL.cons Wk1.esl ?_ | refine WkL.cons (Wk1.gsl _ _ _) ?_ | refine WkL.cons (Wk1.any _) ?_))) ⟨by omega, by omega, fun j hj => by
            rcases Nat.lt_or_ge j i with h' | h'
            · exact q3 j h'
            · rw [show j = i by omega]; exact hz⟩
      · simp (disch := omega) only [hS2, c38l0, DC_w, DC_n, kill_0, Nat.sub_zero, Int.reduceSub, Int.reduceMul, Int.reduceNeg, Int.reduceAdd, ↓rD0, ↓rD1, ↓rD2, ↓rD3, ↓rD4, rU0, rU1, rU2, rU3, rU4, rU5, toNat_n, Int.reduceToNat, slA, ptrsA, boolsA, Int.reducePow, Nat.reducePow, Nat.reduceMul, Int.reduceLT, Int.reduceLE, resA, resL, res1, eq_self, wanted, evK, get, setO, one, faA, loadA, storeA, outA, lenA, isStr, binA, unA, bnd, ints, toDat, toDats, datss, fillA, splice, List.length_nil, List.flatten_nil, Nat.reduceAdd, Nat.reduceLeDiff, Nat.reduceBEq, Nat.reduceSub, if_true, ite_true, cond_true, cond_false, List.replicate, if_false, ite_false, reduceCtorEq]
        refine W.pchain follows (by decide +kernel) ?_
        simp (disch := omega) only [h, DC_w, DC_n, kill_0, Nat.sub_zero, Int.reduceSub, Int.reduceMul, Int.reduceNeg, Int.reduceAdd, ↓rD0, ↓rD1, ↓rD2, ↓rD3, ↓rD4, rU0, rU1, rU2, rU3, rU4, rU5, toNat_n, Int.reduceToNat, slA, ptrsA, boolsA, Int.reducePow, Nat.reducePow, Nat.reduceMul, Int.reduceLT, Int.reduceLE, resA, resL, res1, eq_self, wanted, evK, get, setO, one, faA, loadA, storeA, outA, lenA, isStr, binA, unA, bnd, ints, toDat, toDats, datss, fillA, splice, List.length_nil, List.flatten_nil, Nat.reduceAdd, Nat.reduceLeDiff, Nat.reduceBEq, Nat.reduceSub, if_true, ite_true, cond_true, cond_false, List.replicate, if_false, ite_false, reduceCtorEq]
        exact giveup (none' (.inr (by omega)))
    · simp (disch := omega) only [hS2, c38l0, DC_w, DC_n, kill_0, Nat.sub_zero, Int.reduceSub, Int.reduceMul, Int.reduceNeg, Int.reduceAdd, ↓rD0, ↓rD1, ↓rD2, ↓rD3, ↓rD4, rU0, rU1, rU2, rU3, rU4, rU5, toNat_n, Int.reduceToNat, slA, ptrsA, boolsA, Int.reducePow, Nat.reducePow, Nat.reduceMul, Int.reduceLT, Int.reduceLE, resA, resL, res1, eq_self, wanted, evK, get, setO, one, faA, loadA, storeA, outA, lenA, isStr, binA, unA, bnd, ints, toDat, toDats, datss, fillA, splice, List.length_nil, List.flatten_nil, Nat.reduceAdd, Nat.reduceLeDiff, Nat.reduceBEq, Nat.reduceSub, if_true, ite_true, cond_true, cond_false, List.replicate, if_false, ite_false, reduceCtorEq]
      refine W.pchain follows (by decide +kernel) ?_
      simp (disch := omega) only [h, DC_w, DC_n, kill_0, Nat.sub_zero, Int.reduceSub, Int.reduceMul, Int.reduceNeg, Int.reduceAdd, ↓rD0, ↓rD1, ↓rD2, ↓rD3, ↓rD4, rU0, rU1, rU2, rU3, rU4, rU5, toNat_n, Int.reduceToNat, slA, ptrsA, boolsA, Int.reducePow, Nat.reducePow, Nat.reduceMul, Int.reduceLT, Int.reduceLE, resA, resL, res1, eq_self, wanted, evK, get, setO, one, faA, loadA, storeA, outA, lenA, isStr, binA, unA, bnd, ints, toDat, toDats, datss, fillA, splice, List.length_nil, List.flatten_nil, Nat.reduceAdd, Nat.reduceLeDiff, Nat.reduceBEq, Nat.reduceSub, if_true, ite_true, cond_true, cond_false, List.replicate, if_false, ite_false, reduceCtorEq]
      exact giveup (none' (.inl (by omega)))
end Go.Proofs.Ytipjjcaflcpplaa
