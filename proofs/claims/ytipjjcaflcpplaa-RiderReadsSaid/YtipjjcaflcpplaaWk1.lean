/- The reader's functions that take bytes. -/
import Derived.Test.YtipjjcaflcpplaaPl
import Derived.Test.YtipjjcaflcpplaaCode
namespace Go.Proofs.Ytipjjcaflcpplaa
set_option linter.unusedSimpArgs false
set_option linter.unusedVariables false
set_option maxRecDepth 20000
set_option maxHeartbeats 2000000
open Go.RowKit

theorem follows : Try.prog.follows .mixedOrders = true := by kernel_rfl
abbrev iv (n : Int) : AV := .d (.v (.int .i64 n))
abbrev wv (n : Int) : AV := .d (.v (.int .u32 n))
abbrev cv (n : Int) : AV := .d (.v (.int .u8 n))
abbrev bv (b : Bool) : AV := .d (.v (.bool b))
abbrev sv (s : ByteArray) : AV := .d (.v (.string s))
abbrev nl : ByteArray := ⟨#[]⟩
/-- A reader. -/
abbrev rd (s : ByteArray) (a : Nat) (bad : Bool) : ABlk := .cells [sv s, iv a, bv bad]
structure Rd where
  a : Nat
  bad : Bool
def takeF (s : ByteArray) (r : Rd) (n : Int) : ByteArray × Bool × Rd :=
  if r.bad = true then (nl, false, r) else if n < 0 ∨ n > (s.size : Int) - r.a then (nl, false, ⟨r.a, true⟩) else (s.extract r.a (r.a + n.toNat), true, ⟨r.a + n.toNat, false⟩)
theorem takeF_le {s : ByteArray} {r : Rd} (h : r.a ≤ s.size) (n : Int) : (takeF s r n).2.2.a ≤ s.size := by
  unfold takeF; split
  · exact h
  · split
    · exact h
    · rename_i h2; show r.a + n.toNat ≤ s.size; omega
theorem getset_eq {H : List ABlk} {a : Nat} {x k : ABlk} (h : H[a]? = some k) : (H.set a x)[a]? = some x := List.getElem?_set_self (List.getElem?_eq_some_iff.1 h).1
theorem getset_ne {H : List ABlk} {a b : Nat} {x : ABlk} (h : a ≠ b) : (H.set a x)[b]? = H[b]? := List.getElem?_set_ne h
theorem take_c {H : List ABlk} {rb : Nat} {s : ByteArray} {r : Rd} (h : H[rb]? = some (rd s r.a r.bad)) (hs : s.size ≤ 300000) (ha : r.a ≤ s.size) (n : Int) : ACalls Try.prog 42 [.ptr rb 0, iv n] H fun v H' => v = .tup [sv (takeF s r n).1, bv (takeF s r n).2.1] ∧ H' = H.set rb (rd s (takeF s r n).2.2.a (takeF s r n).2.2.bad) := by
  refine ACalls.into Try.func42 cc42 rr42 fun hcl => ?_
  have hS : ∀ x, (H.set rb x)[rb]? = some x := fun x => getset_eq h
  obtain ⟨a, bad⟩ := r
  simp only at h ha
  cases bad with
  | true =>
    simp (disch := omega) only [Try.ntmps42, c42, r42, h, DC_w, DC_n, kill_0, Nat.sub_zero, Int.reduceSub, Int.reduceMul, Int.reduceNeg, Int.reduceAdd, ↓rD0, ↓rD1, ↓rD2, ↓rD3, ↓rD4, rU0, rU1, rU2, rU3, rU4, rU5, toNat_n, Int.reduceToNat, slA, ptrsA, boolsA, Int.reducePow, Nat.reducePow, Nat.reduceMul, Int.reduceLT, Int.reduceLE, resA, resL, res1, eq_self, wanted, evK, get, setO, one, faA, loadA, storeA, outA, lenA, isStr, binA, unA, bnd, ints, toDat, toDats, datss, fillA, splice, List.length_nil, List.flatten_nil, Nat.reduceAdd, Nat.reduceLeDiff, Nat.reduceBEq, Nat.reduceSub, if_true, ite_true, cond_true, cond_false, List.replicate, if_false, ite_false, reduceCtorEq]
    exact Ret.keep ⟨rfl, by simp only [takeF, if_true]; rw [set_self h]⟩
  | false =>
    simp (disch := omega) only [Try.ntmps42, c42, r42, h, DC_w, DC_n, kill_0, Nat.sub_zero, Int.reduceSub, Int.reduceMul, Int.reduceNeg, Int.reduceAdd, ↓rD0, ↓rD1, ↓rD2, ↓rD3, ↓rD4, rU0, rU1, rU2, rU3, rU4, rU5, toNat_n, Int.reduceToNat, slA, ptrsA, boolsA, Int.reducePow, Nat.reducePow, Nat.reduceMul, Int.reduceLT, Int.reduceLE, resA, resL, res1, eq_self, wanted, evK, get, setO, one, faA, loadA, storeA, outA, lenA, isStr, binA, unA, bnd, ints, toDat, toDats, datss, fillA, splice, List.length_nil, List.flatten_nil, Nat.reduceAdd, Nat.reduceLeDiff, Nat.reduceBEq, Nat.reduceSub, if_true, ite_true, cond_true, cond_false, List.replicate, if_false, ite_false, reduceCtorEq]
    refine W.pchain follows (by decide +kernel) ?_
    by_cases h1 : n < 0
    · simp (disch := omega) only [h, DC_w, DC_n, kill_0, Nat.sub_zero, Int.reduceSub, Int.reduceMul, Int.reduceNeg, Int.reduceAdd, ↓rD0, ↓rD1, ↓rD2, ↓rD3, ↓rD4, rU0, rU1, rU2, rU3, rU4, rU5, toNat_n, Int.reduceToNat, slA, ptrsA, boolsA, Int.reducePow, Nat.reducePow, Nat.reduceMul, Int.reduceLT, Int.reduceLE, resA, resL, res1, eq_self, wanted, evK, get, setO, one, faA, loadA, storeA, outA, lenA, isStr, binA, unA, bnd, ints, toDat, toDats, datss, fillA, splice, List.length_nil, List.flatten_nil, Nat.reduceAdd, Nat.reduceLeDiff, Nat.reduceBEq, Nat.reduceSub, if_true, ite_true, cond_true, cond_false, List.replicate, if_false, ite_false, reduceCtorEq]
      exact Ret.keep ⟨by simp [takeF, h1], by simp [takeF, h1]⟩
    by_cases h2 : n > (s.size : Int) - a
    · simp (disch := omega) only [h, DC_w, DC_n, kill_0, Nat.sub_zero, Int.reduceSub, Int.reduceMul, Int.reduceNeg, Int.reduceAdd, ↓rD0, ↓rD1, ↓rD2, ↓rD3, ↓rD4, rU0, rU1, rU2, rU3, rU4, rU5, toNat_n, Int.reduceToNat, slA, ptrsA, boolsA, Int.reducePow, Nat.reducePow, Nat.reduceMul, Int.reduceLT, Int.reduceLE, resA, resL, res1, eq_self, wanted, evK, get, setO, one, faA, loadA, storeA, outA, lenA, isStr, binA, unA, bnd, ints, toDat, toDats, datss, fillA, splice, List.length_nil, List.flatten_nil, Nat.reduceAdd, Nat.reduceLeDiff, Nat.reduceBEq, Nat.reduceSub, if_true, ite_true, cond_true, cond_false, List.replicate, if_false, ite_false, reduceCtorEq]
      exact Ret.keep ⟨by simp [takeF, h2], by simp [takeF, h2]⟩
    obtain ⟨m, rfl⟩ := Int.eq_ofNat_of_zero_le (Int.not_lt.1 h1)
    have e0 : takeF s ⟨a, false⟩ (m : Int) = (s.extract a (a + m), true, ⟨a + m, false⟩) := by
      simp only [takeF]
      rw [if_neg (by simp), if_neg (by simp; omega)]
      simp
    have e1 : ((a : Int) + (m : Int) - (m : Int)).toNat = a := by omega
    have e2 : ((a : Int) + (m : Int)).toNat = a + m := by omega
    simp (disch := omega) only [h, DC_w, DC_n, kill_0, Nat.sub_zero, Int.reduceSub, Int.reduceMul, Int.reduceNeg, Int.reduceAdd, ↓rD0, ↓rD1, ↓rD2, ↓rD3, ↓rD4, rU0, rU1, rU2, rU3, rU4, rU5, toNat_n, Int.reduceToNat, slA, ptrsA, boolsA, Int.reducePow, Nat.reducePow, Nat.reduceMul, Int.reduceLT, Int.reduceLE, resA, resL, res1, eq_self, wanted, evK, get, setO, one, faA, loadA, storeA, outA, lenA, isStr, binA, unA, bnd, ints, toDat, toDats, datss, fillA, splice, List.length_nil, List.flatten_nil, Nat.reduceAdd, Nat.reduceLeDiff, Nat.reduceBEq, Nat.reduceSub, if_true, ite_true, cond_true, cond_false, List.replicate, if_false, ite_false, reduceCtorEq]
    refine W.pchain follows (by decide +kernel) ?_
    simp (disch := omega) only [hS, e1, e2, DC_w, DC_n, kill_0, Nat.sub_zero, Int.reduceSub, Int.reduceMul, Int.reduceNeg, Int.reduceAdd, ↓rD0, ↓rD1, ↓rD2, ↓rD3, ↓rD4, rU0, rU1, rU2, rU3, rU4, rU5, toNat_n, Int.reduceToNat, slA, ptrsA, boolsA, Int.reducePow, Nat.reducePow, Nat.reduceMul, Int.reduceLT, Int.reduceLE, resA, resL, res1, eq_self, wanted, evK, get, setO, one, faA, loadA, storeA, outA, lenA, isStr, binA, unA, bnd, ints, toDat, toDats, datss, fillA, splice, List.length_nil, List.flatten_nil, Nat.reduceAdd, Nat.reduceLeDiff, Nat.reduceBEq, Nat.reduceSub, if_true, ite_true, cond_true, cond_false, List.replicate, if_false, ite_false, reduceCtorEq]
    exact Ret.keep ⟨by rw [e0], by rw [e0]; rfl⟩
def rawF (s : ByteArray) (r : Rd) (n : Int) : ByteArray × Rd := ((takeF s r n).1, (takeF s r n).2.2)
theorem raw_c {H : List ABlk} {rb : Nat} {s : ByteArray} {r : Rd} (h : H[rb]? = some (rd s r.a r.bad)) (hs : s.size ≤ 300000) (ha : r.a ≤ s.size) (n : Int) : ACalls Try.prog 19 [.ptr rb 0, iv n] H fun v H' => v = sv (rawF s r n).1 ∧ H' = H.set rb (rd s (rawF s r n).2.a (rawF s r n).2.bad) := by
  refine ACalls.into Try.func19 cc19 rr19 fun hcl => ?_
  simp (disch := omega) only [Try.ntmps19, c19, r19, DC_w, DC_n, kill_0, Nat.sub_zero, Int.reduceSub, Int.reduceMul, Int.reduceNeg, Int.reduceAdd, ↓rD0, ↓rD1, ↓rD2, ↓rD3, ↓rD4, rU0, rU1, rU2, rU3, rU4, rU5, toNat_n, Int.reduceToNat, slA, ptrsA, boolsA, Int.reducePow, Nat.reducePow, Nat.reduceMul, Int.reduceLT, Int.reduceLE, resA, resL, res1, eq_self, wanted, evK, get, setO, one, faA, loadA, storeA, outA, lenA, isStr, binA, unA, bnd, ints, toDat, toDats, datss, fillA, splice, List.length_nil, List.flatten_nil, Nat.reduceAdd, Nat.reduceLeDiff, Nat.reduceBEq, Nat.reduceSub, if_true, ite_true, cond_true, cond_false, List.replicate, if_false, ite_false, reduceCtorEq]
  refine Cont.mk (take_c h hs ha n) ?_
  simp (disch := omega) only [DC_w, DC_n, kill_0, Nat.sub_zero, Int.reduceSub, Int.reduceMul, Int.reduceNeg, Int.reduceAdd, ↓rD0, ↓rD1, ↓rD2, ↓rD3, ↓rD4, rU0, rU1, rU2, rU3, rU4, rU5, toNat_n, Int.reduceToNat, slA, ptrsA, boolsA, Int.reducePow, Nat.reducePow, Nat.reduceMul, Int.reduceLT, Int.reduceLE, resA, resL, res1, eq_self, wanted, evK, get, setO, one, faA, loadA, storeA, outA, lenA, isStr, binA, unA, bnd, ints, toDat, toDats, datss, fillA, splice, List.length_nil, List.flatten_nil, Nat.reduceAdd, Nat.reduceLeDiff, Nat.reduceBEq, Nat.reduceSub, if_true, ite_true, cond_true, cond_false, List.replicate, if_false, ite_false, reduceCtorEq]
  exact Ret.keep ⟨rfl, rfl⟩
abbrev chr (s : ByteArray) (i : Nat) : Int := ((s.data.toList.getD i 0).toNat : Nat)
theorem chr_ex {s : ByteArray} {a m i : Nat} (hi : i < m) (h : a + m ≤ s.size) : (s.extract a (a + m)).data.toList.getD i 0 = s.data.toList.getD (a + i) 0 := by
  rw [ex_list, List.getD_eq_getElem?_getD, List.getD_eq_getElem?_getD, List.getElem?_take, if_pos (by omega), List.getElem?_drop]
def byteF (s : ByteArray) (r : Rd) : Int × Rd := (if (takeF s r 1).2.1 = true then chr s r.a else 0, (takeF s r 1).2.2)
theorem byte_c {H : List ABlk} {rb : Nat} {s : ByteArray} {r : Rd} (h : H[rb]? = some (rd s r.a r.bad)) (hs : s.size ≤ 300000) (ha : r.a ≤ s.size) : ACalls Try.prog 20 [.ptr rb 0] H fun v H' => v = iv (byteF s r).1 ∧ H' = H.set rb (rd s (byteF s r).2.a (byteF s r).2.bad) := by
  refine ACalls.into Try.func20 cc20 rr20 fun hcl => ?_
  simp (disch := omega) only [Try.ntmps20, c20, r20, DC_w, DC_n, kill_0, Nat.sub_zero, Int.reduceSub, Int.reduceMul, Int.reduceNeg, Int.reduceAdd, ↓rD0, ↓rD1, ↓rD2, ↓rD3, ↓rD4, rU0, rU1, rU2, rU3, rU4, rU5, toNat_n, Int.reduceToNat, slA, ptrsA, boolsA, Int.reducePow, Nat.reducePow, Nat.reduceMul, Int.reduceLT, Int.reduceLE, resA, resL, res1, eq_self, wanted, evK, get, setO, one, faA, loadA, storeA, outA, lenA, isStr, binA, unA, bnd, ints, toDat, toDats, datss, fillA, splice, List.length_nil, List.flatten_nil, Nat.reduceAdd, Nat.reduceLeDiff, Nat.reduceBEq, Nat.reduceSub, if_true, ite_true, cond_true, cond_false, List.replicate, if_false, ite_false, reduceCtorEq]
  refine Cont.mk (take_c h hs ha 1) ?_
  have hb : (byteF s r).2 = (takeF s r 1).2.2 := rfl
  rw [hb]
  cases e : (takeF s r 1).2.1 with
  | false =>
    simp (disch := omega) only [DC_w, DC_n, kill_0, Nat.sub_zero, Int.reduceSub, Int.reduceMul, Int.reduceNeg, Int.reduceAdd, ↓rD0, ↓rD1, ↓rD2, ↓rD3, ↓rD4, rU0, rU1, rU2, rU3, rU4, rU5, toNat_n, Int.reduceToNat, slA, ptrsA, boolsA, Int.reducePow, Nat.reducePow, Nat.reduceMul, Int.reduceLT, Int.reduceLE, resA, resL, res1, eq_self, wanted, evK, get, setO, one, faA, loadA, storeA, outA, lenA, isStr, binA, unA, bnd, ints, toDat, toDats, datss, fillA, splice, List.length_nil, List.flatten_nil, Nat.reduceAdd, Nat.reduceLeDiff, Nat.reduceBEq, Nat.reduceSub, if_true, ite_true, cond_true, cond_false, List.replicate, if_false, ite_false, reduceCtorEq]
    exact Ret.keep ⟨by rw [byteF, e]; rfl, rfl⟩
  | true =>
    have e2 : r.a + 1 ≤ s.size ∧ (takeF s r 1).1 = s.extract r.a (r.a + 1) := by
      unfold takeF at e ⊢
      split at e
      · cases e
      · split at e
        · cases e
        · rename_i q1 q2
          rw [if_neg q1, if_neg q2]
          exact ⟨by omega, rfl⟩
    have e3 : (takeF s r 1).1.size = 1 := by rw [e2.2, ex_size _ _ _ e2.1]; omega
    have e4 : (takeF s r 1).1.data.toList.getD 0 0 = s.data.toList.getD r.a 0 := by rw [e2.2, chr_ex (by omega) e2.1]; rfl
    have hlt := (s.data.toList.getD r.a 0).toNat_lt
    simp (disch := omega) only [e3, e4, DC_w, DC_n, kill_0, Nat.sub_zero, Int.reduceSub, Int.reduceMul, Int.reduceNeg, Int.reduceAdd, ↓rD0, ↓rD1, ↓rD2, ↓rD3, ↓rD4, rU0, rU1, rU2, rU3, rU4, rU5, toNat_n, Int.reduceToNat, slA, ptrsA, boolsA, Int.reducePow, Nat.reducePow, Nat.reduceMul, Int.reduceLT, Int.reduceLE, resA, resL, res1, eq_self, wanted, evK, get, setO, one, faA, loadA, storeA, outA, lenA, isStr, binA, unA, bnd, ints, toDat, toDats, datss, fillA, splice, List.length_nil, List.flatten_nil, Nat.reduceAdd, Nat.reduceLeDiff, Nat.reduceBEq, Nat.reduceSub, if_true, ite_true, cond_true, cond_false, List.replicate, if_false, ite_false, reduceCtorEq]
    exact Ret.keep ⟨by rw [byteF, e]; rfl, rfl⟩
theorem at_c {H : List ABlk} {rb : Nat} {s : ByteArray} {r : Rd} (h : H[rb]? = some (rd s r.a r.bad)) : ACalls Try.prog 14 [.ptr rb 0] H fun v H' => v = iv r.a ∧ H' = H := by
  refine ACalls.into Try.func14 cc14 rr14 fun hcl => ?_
  simp (disch := omega) only [Try.ntmps14, c14, r14, h, DC_w, DC_n, kill_0, Nat.sub_zero, Int.reduceSub, Int.reduceMul, Int.reduceNeg, Int.reduceAdd, ↓rD0, ↓rD1, ↓rD2, ↓rD3, ↓rD4, rU0, rU1, rU2, rU3, rU4, rU5, toNat_n, Int.reduceToNat, slA, ptrsA, boolsA, Int.reducePow, Nat.reducePow, Nat.reduceMul, Int.reduceLT, Int.reduceLE, resA, resL, res1, eq_self, wanted, evK, get, setO, one, faA, loadA, storeA, outA, lenA, isStr, binA, unA, bnd, ints, toDat, toDats, datss, fillA, splice, List.length_nil, List.flatten_nil, Nat.reduceAdd, Nat.reduceLeDiff, Nat.reduceBEq, Nat.reduceSub, if_true, ite_true, cond_true, cond_false, List.replicate, if_false, ite_false, reduceCtorEq]
  exact Ret.keep ⟨rfl, rfl⟩
theorem bad_c {H : List ABlk} {rb : Nat} {s : ByteArray} {r : Rd} (h : H[rb]? = some (rd s r.a r.bad)) : ACalls Try.prog 15 [.ptr rb 0] H fun v H' => v = bv r.bad ∧ H' = H := by
  refine ACalls.into Try.func15 cc15 rr15 fun hcl => ?_
  simp (disch := omega) only [Try.ntmps15, c15, r15, h, DC_w, DC_n, kill_0, Nat.sub_zero, Int.reduceSub, Int.reduceMul, Int.reduceNeg, Int.reduceAdd, ↓rD0, ↓rD1, ↓rD2, ↓rD3, ↓rD4, rU0, rU1, rU2, rU3, rU4, rU5, toNat_n, Int.reduceToNat, slA, ptrsA, boolsA, Int.reducePow, Nat.reducePow, Nat.reduceMul, Int.reduceLT, Int.reduceLE, resA, resL, res1, eq_self, wanted, evK, get, setO, one, faA, loadA, storeA, outA, lenA, isStr, binA, unA, bnd, ints, toDat, toDats, datss, fillA, splice, List.length_nil, List.flatten_nil, Nat.reduceAdd, Nat.reduceLeDiff, Nat.reduceBEq, Nat.reduceSub, if_true, ite_true, cond_true, cond_false, List.replicate, if_false, ite_false, reduceCtorEq]
  exact Ret.keep ⟨rfl, rfl⟩
def endF (s : ByteArray) (r : Rd) : Bool := !r.bad && decide (r.a = s.size)
theorem end_c {H : List ABlk} {rb : Nat} {s : ByteArray} {r : Rd} (h : H[rb]? = some (rd s r.a r.bad)) : ACalls Try.prog 23 [.ptr rb 0] H fun v H' => v = bv (endF s r) ∧ H' = H := by
  refine ACalls.into Try.func23 cc23 rr23 fun hcl => ?_
  simp (disch := omega) only [Try.ntmps23, c23, r23, DC_w, DC_n, kill_0, Nat.sub_zero, Int.reduceSub, Int.reduceMul, Int.reduceNeg, Int.reduceAdd, ↓rD0, ↓rD1, ↓rD2, ↓rD3, ↓rD4, rU0, rU1, rU2, rU3, rU4, rU5, toNat_n, Int.reduceToNat, slA, ptrsA, boolsA, Int.reducePow, Nat.reducePow, Nat.reduceMul, Int.reduceLT, Int.reduceLE, resA, resL, res1, eq_self, wanted, evK, get, setO, one, faA, loadA, storeA, outA, lenA, isStr, binA, unA, bnd, ints, toDat, toDats, datss, fillA, splice, List.length_nil, List.flatten_nil, Nat.reduceAdd, Nat.reduceLeDiff, Nat.reduceBEq, Nat.reduceSub, if_true, ite_true, cond_true, cond_false, List.replicate, if_false, ite_false, reduceCtorEq]
  refine W.pchain follows (by decide +kernel) ?_
  simp (disch := omega) only [DC_w, DC_n, kill_0, Nat.sub_zero, Int.reduceSub, Int.reduceMul, Int.reduceNeg, Int.reduceAdd, ↓rD0, ↓rD1, ↓rD2, ↓rD3, ↓rD4, rU0, rU1, rU2, rU3, rU4, rU5, toNat_n, Int.reduceToNat, slA, ptrsA, boolsA, Int.reducePow, Nat.reducePow, Nat.reduceMul, Int.reduceLT, Int.reduceLE, resA, resL, res1, eq_self, wanted, evK, get, setO, one, faA, loadA, storeA, outA, lenA, isStr, binA, unA, bnd, ints, toDat, toDats, datss, fillA, splice, List.length_nil, List.flatten_nil, Nat.reduceAdd, Nat.reduceLeDiff, Nat.reduceBEq, Nat.reduceSub, if_true, ite_true, cond_true, cond_false, List.replicate, if_false, ite_false, reduceCtorEq]
  refine PCont.mk (bad_c h) ?_
  cases e : r.bad with
  | true =>
    rw [e] at h
    simp (disch := omega) only [DC_w, DC_n, kill_0, Nat.sub_zero, Int.reduceSub, Int.reduceMul, Int.reduceNeg, Int.reduceAdd, ↓rD0, ↓rD1, ↓rD2, ↓rD3, ↓rD4, rU0, rU1, rU2, rU3, rU4, rU5, toNat_n, Int.reduceToNat, slA, ptrsA, boolsA, Int.reducePow, Nat.reducePow, Nat.reduceMul, Int.reduceLT, Int.reduceLE, resA, resL, res1, eq_self, wanted, evK, get, setO, one, faA, loadA, storeA, outA, lenA, isStr, binA, unA, bnd, ints, toDat, toDats, datss, fillA, splice, List.length_nil, List.flatten_nil, Nat.reduceAdd, Nat.reduceLeDiff, Nat.reduceBEq, Nat.reduceSub, if_true, ite_true, cond_true, cond_false, List.replicate, if_false, ite_false, reduceCtorEq]
    exact Ret.keep ⟨by rw [endF, e]; rfl, rfl⟩
  | false =>
    rw [e] at h
    simp (disch := omega) only [h, DC_w, DC_n, kill_0, Nat.sub_zero, Int.reduceSub, Int.reduceMul, Int.reduceNeg, Int.reduceAdd, ↓rD0, ↓rD1, ↓rD2, ↓rD3, ↓rD4, rU0, rU1, rU2, rU3, rU4, rU5, toNat_n, Int.reduceToNat, slA, ptrsA, boolsA, Int.reducePow, Nat.reducePow, Nat.reduceMul, Int.reduceLT, Int.reduceLE, resA, resL, res1, eq_self, wanted, evK, get, setO, one, faA, loadA, storeA, outA, lenA, isStr, binA, unA, bnd, ints, toDat, toDats, datss, fillA, splice, List.length_nil, List.flatten_nil, Nat.reduceAdd, Nat.reduceLeDiff, Nat.reduceBEq, Nat.reduceSub, if_true, ite_true, cond_true, cond_false, List.replicate, if_false, ite_false, reduceCtorEq]
    refine Ret.keep ⟨?_, rfl⟩
    rw [endF, e]
    simp only [Bool.not_false, Bool.true_and]
    congr 3
    exact decide_eq_decide.2 (by omega)
theorem read_c (s : ByteArray) (H : List ABlk) : ACalls Try.prog 12 [sv s] H fun v H' => v = .ptr H.length 0 ∧ H' = H ++ [rd s 0 false] := by
  refine ACalls.into Try.func12 cc12 rr12 fun hcl => ?_
  simp (disch := omega) only [Try.ntmps12, c12, r12, DC_w, DC_n, kill_0, Nat.sub_zero, Int.reduceSub, Int.reduceMul, Int.reduceNeg, Int.reduceAdd, ↓rD0, ↓rD1, ↓rD2, ↓rD3, ↓rD4, rU0, rU1, rU2, rU3, rU4, rU5, toNat_n, Int.reduceToNat, slA, ptrsA, boolsA, Int.reducePow, Nat.reducePow, Nat.reduceMul, Int.reduceLT, Int.reduceLE, resA, resL, res1, eq_self, wanted, evK, get, setO, one, faA, loadA, storeA, outA, lenA, isStr, binA, unA, bnd, ints, toDat, toDats, datss, fillA, splice, List.length_nil, List.flatten_nil, Nat.reduceAdd, Nat.reduceLeDiff, Nat.reduceBEq, Nat.reduceSub, if_true, ite_true, cond_true, cond_false, List.replicate, if_false, ite_false, reduceCtorEq]
  exact Ret.keep ⟨rfl, rfl⟩
theorem indexB_c (s : ByteArray) (c : Int) (H : List ABlk) : ACalls Try.prog 43 [sv s, cv c] H fun v H' => v = iv (idxB s.data.toList (UInt8.ofNat c.toNat)) ∧ H' = H := by
  have h46 : ACalls Try.prog 46 [sv s, cv c] H fun v H' => v = iv (idxB s.data.toList (UInt8.ofNat c.toNat)) ∧ H' = H := by
    refine ACalls.into Try.func46 cc46 rr46 fun hcl => ?_
    simp (disch := omega) only [Try.ntmps46, c46, r46, DC_w, DC_n, kill_0, Nat.sub_zero, Int.reduceSub, Int.reduceMul, Int.reduceNeg, Int.reduceAdd, ↓rD0, ↓rD1, ↓rD2, ↓rD3, ↓rD4, rU0, rU1, rU2, rU3, rU4, rU5, toNat_n, Int.reduceToNat, slA, ptrsA, boolsA, Int.reducePow, Nat.reducePow, Nat.reduceMul, Int.reduceLT, Int.reduceLE, resA, resL, res1, eq_self, wanted, evK, get, setO, one, faA, loadA, storeA, outA, lenA, isStr, binA, unA, bnd, ints, toDat, toDats, datss, fillA, splice, List.length_nil, List.flatten_nil, Nat.reduceAdd, Nat.reduceLeDiff, Nat.reduceBEq, Nat.reduceSub, if_true, ite_true, cond_true, cond_false, List.replicate, if_false, ite_false, reduceCtorEq]
    exact Ret.keep ⟨rfl, rfl⟩
  refine ACalls.into Try.func43 cc43 rr43 fun hcl => ?_
  simp (disch := omega) only [Try.ntmps43, c43, r43, DC_w, DC_n, kill_0, Nat.sub_zero, Int.reduceSub, Int.reduceMul, Int.reduceNeg, Int.reduceAdd, ↓rD0, ↓rD1, ↓rD2, ↓rD3, ↓rD4, rU0, rU1, rU2, rU3, rU4, rU5, toNat_n, Int.reduceToNat, slA, ptrsA, boolsA, Int.reducePow, Nat.reducePow, Nat.reduceMul, Int.reduceLT, Int.reduceLE, resA, resL, res1, eq_self, wanted, evK, get, setO, one, faA, loadA, storeA, outA, lenA, isStr, binA, unA, bnd, ints, toDat, toDats, datss, fillA, splice, List.length_nil, List.flatten_nil, Nat.reduceAdd, Nat.reduceLeDiff, Nat.reduceBEq, Nat.reduceSub, if_true, ite_true, cond_true, cond_false, List.replicate, if_false, ite_false, reduceCtorEq]
  refine Cont.mk h46 ?_
  simp (disch := omega) only [DC_w, DC_n, kill_0, Nat.sub_zero, Int.reduceSub, Int.reduceMul, Int.reduceNeg, Int.reduceAdd, ↓rD0, ↓rD1, ↓rD2, ↓rD3, ↓rD4, rU0, rU1, rU2, rU3, rU4, rU5, toNat_n, Int.reduceToNat, slA, ptrsA, boolsA, Int.reducePow, Nat.reducePow, Nat.reduceMul, Int.reduceLT, Int.reduceLE, resA, resL, res1, eq_self, wanted, evK, get, setO, one, faA, loadA, storeA, outA, lenA, isStr, binA, unA, bnd, ints, toDat, toDats, datss, fillA, splice, List.length_nil, List.flatten_nil, Nat.reduceAdd, Nat.reduceLeDiff, Nat.reduceBEq, Nat.reduceSub, if_true, ite_true, cond_true, cond_false, List.replicate, if_false, ite_false, reduceCtorEq]
  exact Ret.keep ⟨rfl, rfl⟩
end Go.Proofs.Ytipjjcaflcpplaa
