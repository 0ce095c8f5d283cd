/- wakes; the reader's words and texts. -/
import Derived.Test.YtipjjcaflcpplaaWk4
namespace Go.Proofs.Ytipjjcaflcpplaa
set_option linter.unusedSimpArgs false
set_option linter.unusedVariables false
set_option maxRecDepth 20000
set_option maxHeartbeats 2000000
open Go.RowKit

theorem wakes_c (H : List ABlk) : ACalls Try.prog 11 [] H fun v H' => v = bv true ∧ H' = H := by
  refine ACalls.into Try.func11 cc11 rr11 fun hcl => ?_
  simp (disch := omega) only [Try.ntmps11, c11, r11, DC_w, DC_n, kill_0, Nat.sub_zero, Int.reduceSub, Int.reduceMul, Int.reduceNeg, Int.reduceAdd, ↓rD0, ↓rD1, ↓rD2, ↓rD3, ↓rD4, rU0, rU1, rU2, rU3, rU4, rU5, toNat_n, Int.reduceToNat, slA, ptrsA, boolsA, Int.reducePow, Nat.reducePow, Nat.reduceMul, Int.reduceLT, Int.reduceLE, resA, resL, res1, eq_self, wanted, evK, get, setO, one, faA, loadA, storeA, outA, lenA, isStr, binA, unA, bnd, ints, toDat, toDats, datss, fillA, splice, List.length_nil, List.flatten_nil, Nat.reduceAdd, Nat.reduceLeDiff, Nat.reduceBEq, Nat.reduceSub, if_true, ite_true, cond_true, cond_false, List.replicate, if_false, ite_false, reduceCtorEq]
  refine Cont.mk (write_c H) ?_
  simp (disch := omega) only [DC_w, DC_n, kill_0, Nat.sub_zero, Int.reduceSub, Int.reduceMul, Int.reduceNeg, Int.reduceAdd, ↓rD0, ↓rD1, ↓rD2, ↓rD3, ↓rD4, rU0, rU1, rU2, rU3, rU4, rU5, toNat_n, Int.reduceToNat, slA, ptrsA, boolsA, Int.reducePow, Nat.reducePow, Nat.reduceMul, Int.reduceLT, Int.reduceLE, resA, resL, res1, eq_self, wanted, evK, get, setO, one, faA, loadA, storeA, outA, lenA, isStr, binA, unA, bnd, ints, toDat, toDats, datss, fillA, splice, List.length_nil, List.flatten_nil, Nat.reduceAdd, Nat.reduceLeDiff, Nat.reduceBEq, Nat.reduceSub, if_true, ite_true, cond_true, cond_false, List.replicate, if_false, ite_false, reduceCtorEq]
  have o1 : Ow H (WF H.length .esl) (H ++ [.cells [.esl, bv false, bv false]]) := ⟨pre_app _ _, fun b hb => by simp [WF, rowB] at hb; omega⟩
  refine Cont.rel (numW_c (WrAt.new H) 64) ?_
  rintro v H2 ⟨rfl, x2, h2, k2⟩
  have e2 : numW ⟨[], false, false⟩ 64 = ⟨[192, 0], false, false⟩ := rfl
  rw [e2] at h2
  have o2 := o1.chg k2
  simp (disch := omega) only [DC_w, DC_n, kill_0, Nat.sub_zero, Int.reduceSub, Int.reduceMul, Int.reduceNeg, Int.reduceAdd, ↓rD0, ↓rD1, ↓rD2, ↓rD3, ↓rD4, rU0, rU1, rU2, rU3, rU4, rU5, toNat_n, Int.reduceToNat, slA, ptrsA, boolsA, Int.reducePow, Nat.reducePow, Nat.reduceMul, Int.reduceLT, Int.reduceLE, resA, resL, res1, eq_self, wanted, evK, get, setO, one, faA, loadA, storeA, outA, lenA, isStr, binA, unA, bnd, ints, toDat, toDats, datss, fillA, splice, List.length_nil, List.flatten_nil, Nat.reduceAdd, Nat.reduceLeDiff, Nat.reduceBEq, Nat.reduceSub, if_true, ite_true, cond_true, cond_false, List.replicate, if_false, ite_false, reduceCtorEq]
  refine Cont.rel (textW_c h2 ⟨#[97, 98]⟩) ?_
  rintro v H3 ⟨rfl, x3, h3, k3⟩
  have e3 : textW ⟨[192, 0], false, false⟩ ⟨#[97, 98]⟩ = ⟨[192, 0, 97, 98, 0], false, false⟩ := by
    rw [textW, if_pos ⟨by decide, by decide⟩]; rfl
  rw [e3] at h3
  have o3 := o2.chg k3
  simp (disch := omega) only [DC_w, DC_n, kill_0, Nat.sub_zero, Int.reduceSub, Int.reduceMul, Int.reduceNeg, Int.reduceAdd, ↓rD0, ↓rD1, ↓rD2, ↓rD3, ↓rD4, rU0, rU1, rU2, rU3, rU4, rU5, toNat_n, Int.reduceToNat, slA, ptrsA, boolsA, Int.reducePow, Nat.reducePow, Nat.reduceMul, Int.reduceLT, Int.reduceLE, resA, resL, res1, eq_self, wanted, evK, get, setO, one, faA, loadA, storeA, outA, lenA, isStr, binA, unA, bnd, ints, toDat, toDats, datss, fillA, splice, List.length_nil, List.flatten_nil, Nat.reduceAdd, Nat.reduceLeDiff, Nat.reduceBEq, Nat.reduceSub, if_true, ite_true, cond_true, cond_false, List.replicate, if_false, ite_false, reduceCtorEq]
  refine Cont.mk (bytesW_c h3) ?_
  simp (disch := omega) only [DC_w, DC_n, kill_0, Nat.sub_zero, Int.reduceSub, Int.reduceMul, Int.reduceNeg, Int.reduceAdd, ↓rD0, ↓rD1, ↓rD2, ↓rD3, ↓rD4, rU0, rU1, rU2, rU3, rU4, rU5, toNat_n, Int.reduceToNat, slA, ptrsA, boolsA, Int.reducePow, Nat.reducePow, Nat.reduceMul, Int.reduceLT, Int.reduceLE, resA, resL, res1, eq_self, wanted, evK, get, setO, one, faA, loadA, storeA, outA, lenA, isStr, binA, unA, bnd, ints, toDat, toDats, datss, fillA, splice, List.length_nil, List.flatten_nil, Nat.reduceAdd, Nat.reduceLeDiff, Nat.reduceBEq, Nat.reduceSub, if_true, ite_true, cond_true, cond_false, List.replicate, if_false, ite_false, reduceCtorEq]
  refine Cont.mk (read_c _ _) ?_
  simp (disch := omega) only [DC_w, DC_n, kill_0, Nat.sub_zero, Int.reduceSub, Int.reduceMul, Int.reduceNeg, Int.reduceAdd, ↓rD0, ↓rD1, ↓rD2, ↓rD3, ↓rD4, rU0, rU1, rU2, rU3, rU4, rU5, toNat_n, Int.reduceToNat, slA, ptrsA, boolsA, Int.reducePow, Nat.reducePow, Nat.reduceMul, Int.reduceLT, Int.reduceLE, resA, resL, res1, eq_self, wanted, evK, get, setO, one, faA, loadA, storeA, outA, lenA, isStr, binA, unA, bnd, ints, toDat, toDats, datss, fillA, splice, List.length_nil, List.flatten_nil, Nat.reduceAdd, Nat.reduceLeDiff, Nat.reduceBEq, Nat.reduceSub, if_true, ite_true, cond_true, cond_false, List.replicate, if_false, ite_false, reduceCtorEq]
  have hr : (H3 ++ [rd ⟨#[192, 128, 0]⟩ 0 false])[H3.length]? = some (rd ⟨#[192, 128, 0]⟩ (Rd.mk 0 false).a (Rd.mk 0 false).bad) := by rw [hg0]; rfl
  refine Cont.mk (num_c hr (by decide) (by decide)) ?_
  have e4 : numF ⟨#[192, 128, 0]⟩ ⟨0, false⟩ = (0, ⟨0, true⟩) := rfl
  rw [e4]
  simp (disch := omega) only [DC_w, DC_n, kill_0, Nat.sub_zero, Int.reduceSub, Int.reduceMul, Int.reduceNeg, Int.reduceAdd, ↓rD0, ↓rD1, ↓rD2, ↓rD3, ↓rD4, rU0, rU1, rU2, rU3, rU4, rU5, toNat_n, Int.reduceToNat, slA, ptrsA, boolsA, Int.reducePow, Nat.reducePow, Nat.reduceMul, Int.reduceLT, Int.reduceLE, resA, resL, res1, eq_self, wanted, evK, get, setO, one, faA, loadA, storeA, outA, lenA, isStr, binA, unA, bnd, ints, toDat, toDats, datss, fillA, splice, List.length_nil, List.flatten_nil, Nat.reduceAdd, Nat.reduceLeDiff, Nat.reduceBEq, Nat.reduceSub, if_true, ite_true, cond_true, cond_false, List.replicate, if_false, ite_false, reduceCtorEq]
  have hr2 : (H3 ++ [rd ⟨#[192, 128, 0]⟩ 0 true])[H3.length]? = some (rd ⟨#[192, 128, 0]⟩ (Rd.mk 0 true).a (Rd.mk 0 true).bad) := by rw [hg0]; rfl
  refine Cont.mk (bad_c hr2) ?_
  simp (disch := omega) only [DC_w, DC_n, kill_0, Nat.sub_zero, Int.reduceSub, Int.reduceMul, Int.reduceNeg, Int.reduceAdd, ↓rD0, ↓rD1, ↓rD2, ↓rD3, ↓rD4, rU0, rU1, rU2, rU3, rU4, rU5, toNat_n, Int.reduceToNat, slA, ptrsA, boolsA, Int.reducePow, Nat.reducePow, Nat.reduceMul, Int.reduceLT, Int.reduceLE, resA, resL, res1, eq_self, wanted, evK, get, setO, one, faA, loadA, storeA, outA, lenA, isStr, binA, unA, bnd, ints, toDat, toDats, datss, fillA, splice, List.length_nil, List.flatten_nil, Nat.reduceAdd, Nat.reduceLeDiff, Nat.reduceBEq, Nat.reduceSub, if_true, ite_true, cond_true, cond_false, List.replicate, if_false, ite_false, reduceCtorEq]
  refine Cont.mk (at_c hr2) ?_
  simp (disch := omega) only [DC_w, DC_n, kill_0, Nat.sub_zero, Int.reduceSub, Int.reduceMul, Int.reduceNeg, Int.reduceAdd, ↓rD0, ↓rD1, ↓rD2, ↓rD3, ↓rD4, rU0, rU1, rU2, rU3, rU4, rU5, toNat_n, Int.reduceToNat, slA, ptrsA, boolsA, Int.reducePow, Nat.reducePow, Nat.reduceMul, Int.reduceLT, Int.reduceLE, resA, resL, res1, eq_self, wanted, evK, get, setO, one, faA, loadA, storeA, outA, lenA, isStr, binA, unA, bnd, ints, toDat, toDats, datss, fillA, splice, List.length_nil, List.flatten_nil, Nat.reduceAdd, Nat.reduceLeDiff, Nat.reduceBEq, Nat.reduceSub, if_true, ite_true, cond_true, cond_false, List.replicate, if_false, ite_false, reduceCtorEq]
  exact Ret.pre _ H (o3.1.trans (pre_app _ _)) (Nat.le_refl _) hcl (.rfl _) (by simp [refs]) ⟨rfl, rfl⟩

def textF (s : ByteArray) (r : Rd) : ByteArray × Rd :=
  if r.bad = true then (nl, r) else if idxB (s.data.toList.drop r.a) 0 < 0 ∨ idxB (s.data.toList.drop r.a) 0 > 64 then (nl, ⟨r.a, true⟩) else (s.extract r.a (r.a + (idxB (s.data.toList.drop r.a) 0).toNat), ⟨r.a + (idxB (s.data.toList.drop r.a) 0).toNat + 1, false⟩)
theorem idxB_lt {l : List UInt8} {c : UInt8} : idxB l c < l.length := by
  induction l with
  | nil => simp [idxB]
  | cons b l ih =>
    unfold idxB
    split
    · simp only [List.length_cons]; omega
    · split
      · simp only [List.length_cons]; omega
      · simp only [List.length_cons]; omega
theorem textF_le {s : ByteArray} {r : Rd} (h : r.a ≤ s.size) : (textF s r).2.a ≤ s.size := by
  unfold textF
  split
  · exact h
  · split
    · exact h
    · have := idxB_lt (l := s.data.toList.drop r.a) (c := 0)
      rw [List.length_drop, len_data] at this
      show r.a + _ + 1 ≤ s.size
      omega
theorem text_c {H : List ABlk} {rb : Nat} {s : ByteArray} {r : Rd} (h : H[rb]? = some (rd s r.a r.bad)) (hs : s.size ≤ 300000) (ha : r.a ≤ s.size) : ACalls Try.prog 22 [.ptr rb 0] H fun v H' => v = sv (textF s r).1 ∧ H' = H.set rb (rd s (textF s r).2.a (textF s r).2.bad) := by
  refine ACalls.into Try.func22 cc22 rr22 fun hcl => ?_
  have hS : ∀ x, (H.set rb x)[rb]? = some x := fun x => getset_eq h
  obtain ⟨a, bad⟩ := r
  simp only at h ha
  cases bad with
  | true =>
    simp (disch := omega) only [Try.ntmps22, c22, r22, h, DC_w, DC_n, kill_0, Nat.sub_zero, Int.reduceSub, Int.reduceMul, Int.reduceNeg, Int.reduceAdd, ↓rD0, ↓rD1, ↓rD2, ↓rD3, ↓rD4, rU0, rU1, rU2, rU3, rU4, rU5, toNat_n, Int.reduceToNat, slA, ptrsA, boolsA, Int.reducePow, Nat.reducePow, Nat.reduceMul, Int.reduceLT, Int.reduceLE, resA, resL, res1, eq_self, wanted, evK, get, setO, one, faA, loadA, storeA, outA, lenA, isStr, binA, unA, bnd, ints, toDat, toDats, datss, fillA, splice, List.length_nil, List.flatten_nil, Nat.reduceAdd, Nat.reduceLeDiff, Nat.reduceBEq, Nat.reduceSub, if_true, ite_true, cond_true, cond_false, List.replicate, if_false, ite_false, reduceCtorEq]
    exact Ret.keep ⟨rfl, by simp only [textF, if_true]; rw [set_self h]⟩
  | false =>
    have htl : (s.extract a s.size).data.toList = s.data.toList.drop a := by
      rw [ex_list, List.take_of_length_le (by rw [List.length_drop, len_data]; omega)]
    have hlt := idxB_lt (l := s.data.toList.drop a) (c := 0)
    rw [List.length_drop, len_data] at hlt
    simp (disch := omega) only [Try.ntmps22, c22, r22, h, DC_w, DC_n, kill_0, Nat.sub_zero, Int.reduceSub, Int.reduceMul, Int.reduceNeg, Int.reduceAdd, ↓rD0, ↓rD1, ↓rD2, ↓rD3, ↓rD4, rU0, rU1, rU2, rU3, rU4, rU5, toNat_n, Int.reduceToNat, slA, ptrsA, boolsA, Int.reducePow, Nat.reducePow, Nat.reduceMul, Int.reduceLT, Int.reduceLE, resA, resL, res1, eq_self, wanted, evK, get, setO, one, faA, loadA, storeA, outA, lenA, isStr, binA, unA, bnd, ints, toDat, toDats, datss, fillA, splice, List.length_nil, List.flatten_nil, Nat.reduceAdd, Nat.reduceLeDiff, Nat.reduceBEq, Nat.reduceSub, if_true, ite_true, cond_true, cond_false, List.replicate, if_false, ite_false, reduceCtorEq]
    refine W.pchain follows (by decide +kernel) ?_
    simp (disch := omega) only [h, DC_w, DC_n, kill_0, Nat.sub_zero, Int.reduceSub, Int.reduceMul, Int.reduceNeg, Int.reduceAdd, ↓rD0, ↓rD1, ↓rD2, ↓rD3, ↓rD4, rU0, rU1, rU2, rU3, rU4, rU5, toNat_n, Int.reduceToNat, slA, ptrsA, boolsA, Int.reducePow, Nat.reducePow, Nat.reduceMul, Int.reduceLT, Int.reduceLE, resA, resL, res1, eq_self, wanted, evK, get, setO, one, faA, loadA, storeA, outA, lenA, isStr, binA, unA, bnd, ints, toDat, toDats, datss, fillA, splice, List.length_nil, List.flatten_nil, Nat.reduceAdd, Nat.reduceLeDiff, Nat.reduceBEq, Nat.reduceSub, if_true, ite_true, cond_true, cond_false, List.replicate, if_false, ite_false, reduceCtorEq]
    refine PCont.mk (indexB_c _ 0 H) ?_
    rw [htl, show UInt8.ofNat (0 : Int).toNat = 0 from rfl]
    have e0 : textF s ⟨a, false⟩ = if idxB (s.data.toList.drop a) 0 < 0 ∨ idxB (s.data.toList.drop a) 0 > 64 then (nl, ⟨a, true⟩) else (s.extract a (a + (idxB (s.data.toList.drop a) 0).toNat), ⟨a + (idxB (s.data.toList.drop a) 0).toNat + 1, false⟩) := by rw [textF, if_neg (by simp)]
    generalize idxB (s.data.toList.drop a) 0 = n at e0 hlt ⊢
    by_cases h1 : n < 0
    · rw [if_pos (.inl h1)] at e0
      simp (disch := omega) only [h, DC_w, DC_n, kill_0, Nat.sub_zero, Int.reduceSub, Int.reduceMul, Int.reduceNeg, Int.reduceAdd, ↓rD0, ↓rD1, ↓rD2, ↓rD3, ↓rD4, rU0, rU1, rU2, rU3, rU4, rU5, toNat_n, Int.reduceToNat, slA, ptrsA, boolsA, Int.reducePow, Nat.reducePow, Nat.reduceMul, Int.reduceLT, Int.reduceLE, resA, resL, res1, eq_self, wanted, evK, get, setO, one, faA, loadA, storeA, outA, lenA, isStr, binA, unA, bnd, ints, toDat, toDats, datss, fillA, splice, List.length_nil, List.flatten_nil, Nat.reduceAdd, Nat.reduceLeDiff, Nat.reduceBEq, Nat.reduceSub, if_true, ite_true, cond_true, cond_false, List.replicate, if_false, ite_false, reduceCtorEq]
      exact Ret.keep ⟨by rw [e0], by rw [e0]⟩
    by_cases h2 : 64 < n
    · rw [if_pos (.inr h2)] at e0
      simp (disch := omega) only [h, DC_w, DC_n, kill_0, Nat.sub_zero, Int.reduceSub, Int.reduceMul, Int.reduceNeg, Int.reduceAdd, ↓rD0, ↓rD1, ↓rD2, ↓rD3, ↓rD4, rU0, rU1, rU2, rU3, rU4, rU5, toNat_n, Int.reduceToNat, slA, ptrsA, boolsA, Int.reducePow, Nat.reducePow, Nat.reduceMul, Int.reduceLT, Int.reduceLE, resA, resL, res1, eq_self, wanted, evK, get, setO, one, faA, loadA, storeA, outA, lenA, isStr, binA, unA, bnd, ints, toDat, toDats, datss, fillA, splice, List.length_nil, List.flatten_nil, Nat.reduceAdd, Nat.reduceLeDiff, Nat.reduceBEq, Nat.reduceSub, if_true, ite_true, cond_true, cond_false, List.replicate, if_false, ite_false, reduceCtorEq]
      exact Ret.keep ⟨by rw [e0], by rw [e0]⟩
    rw [if_neg (by omega)] at e0
    obtain ⟨m, rfl⟩ := Int.eq_ofNat_of_zero_le (Int.not_lt.1 h1)
    rw [e0]
    have e1 : ((a : Int) + ((m : Int) + 1) - (m : Int) - 1).toNat = a := by omega
    have e2 : ((a : Int) + ((m : Int) + 1) - 1).toNat = a + m := by omega
    simp (disch := omega) only [h, DC_w, DC_n, kill_0, Nat.sub_zero, Int.reduceSub, Int.reduceMul, Int.reduceNeg, Int.reduceAdd, ↓rD0, ↓rD1, ↓rD2, ↓rD3, ↓rD4, rU0, rU1, rU2, rU3, rU4, rU5, toNat_n, Int.reduceToNat, slA, ptrsA, boolsA, Int.reducePow, Nat.reducePow, Nat.reduceMul, Int.reduceLT, Int.reduceLE, resA, resL, res1, eq_self, wanted, evK, get, setO, one, faA, loadA, storeA, outA, lenA, isStr, binA, unA, bnd, ints, toDat, toDats, datss, fillA, splice, List.length_nil, List.flatten_nil, Nat.reduceAdd, Nat.reduceLeDiff, Nat.reduceBEq, Nat.reduceSub, if_true, ite_true, cond_true, cond_false, List.replicate, if_false, ite_false, reduceCtorEq]
    refine W.pchain follows (by decide +kernel) ?_
    simp (disch := omega) only [hS, e1, e2, DC_w, DC_n, kill_0, Nat.sub_zero, Int.reduceSub, Int.reduceMul, Int.reduceNeg, Int.reduceAdd, ↓rD0, ↓rD1, ↓rD2, ↓rD3, ↓rD4, rU0, rU1, rU2, rU3, rU4, rU5, toNat_n, Int.reduceToNat, slA, ptrsA, boolsA, Int.reducePow, Nat.reducePow, Nat.reduceMul, Int.reduceLT, Int.reduceLE, resA, resL, res1, eq_self, wanted, evK, get, setO, one, faA, loadA, storeA, outA, lenA, isStr, binA, unA, bnd, ints, toDat, toDats, datss, fillA, splice, List.length_nil, List.flatten_nil, Nat.reduceAdd, Nat.reduceLeDiff, Nat.reduceBEq, Nat.reduceSub, if_true, ite_true, cond_true, cond_false, List.replicate, if_false, ite_false, reduceCtorEq]
    exact Ret.keep ⟨rfl, rfl⟩
def wordV (s : ByteArray) (a : Nat) : Int := chr s a + chr s (a + 1) * 256 + chr s (a + 2) * 65536 + chr s (a + 3) * 16777216
def wordF (s : ByteArray) (r : Rd) : Int × Rd := (if (takeF s r 4).2.1 = true then wordV s r.a else 0, (takeF s r 4).2.2)
theorem or32 {a x : Int} {k : Nat} (h0 : 0 ≤ a) (h1 : a < 2 ^ k) (hk : k < 32) (h2 : 0 ≤ a + x * 2 ^ k) (h3 : a + x * 2 ^ k < 4294967296) : ((BitVec.ofInt IntKind.u32.bits a ||| BitVec.ofInt IntKind.u32.bits (x * 2 ^ k)).toNat : Int) = a + x * 2 ^ k := by
  show ((BitVec.ofInt 32 a ||| BitVec.ofInt 32 (x * 2 ^ k)).toNat : Int) = _
  rw [or_low h0 h1 hk, BitVec.toNat_ofInt]
  have : ((2 ^ 32 : Nat) : Int) = 4294967296 := by decide
  omega
theorem word_c {H : List ABlk} {rb : Nat} {s : ByteArray} {r : Rd} (h : H[rb]? = some (rd s r.a r.bad)) (hs : s.size ≤ 300000) (ha : r.a ≤ s.size) : ACalls Try.prog 21 [.ptr rb 0] H fun v H' => v = wv (wordF s r).1 ∧ H' = H.set rb (rd s (wordF s r).2.a (wordF s r).2.bad) := by
  refine ACalls.into Try.func21 cc21 rr21 fun hcl => ?_
  simp (disch := omega) only [Try.ntmps21, c21, r21, DC_w, DC_n, kill_0, Nat.sub_zero, Int.reduceSub, Int.reduceMul, Int.reduceNeg, Int.reduceAdd, ↓rD0, ↓rD1, ↓rD2, ↓rD3, ↓rD4, rU0, rU1, rU2, rU3, rU4, rU5, toNat_n, Int.reduceToNat, slA, ptrsA, boolsA, Int.reducePow, Nat.reducePow, Nat.reduceMul, Int.reduceLT, Int.reduceLE, resA, resL, res1, eq_self, wanted, evK, get, setO, one, faA, loadA, storeA, outA, lenA, isStr, binA, unA, bnd, ints, toDat, toDats, datss, fillA, splice, List.length_nil, List.flatten_nil, Nat.reduceAdd, Nat.reduceLeDiff, Nat.reduceBEq, Nat.reduceSub, if_true, ite_true, cond_true, cond_false, List.replicate, if_false, ite_false, reduceCtorEq]
  refine Cont.mk (take_c h hs ha 4) ?_
  have hb : (wordF s r).2 = (takeF s r 4).2.2 := rfl
  rw [hb]
  cases e : (takeF s r 4).2.1 with
  | false =>
    simp (disch := omega) only [DC_w, DC_n, kill_0, Nat.sub_zero, Int.reduceSub, Int.reduceMul, Int.reduceNeg, Int.reduceAdd, ↓rD0, ↓rD1, ↓rD2, ↓rD3, ↓rD4, rU0, rU1, rU2, rU3, rU4, rU5, toNat_n, Int.reduceToNat, slA, ptrsA, boolsA, Int.reducePow, Nat.reducePow, Nat.reduceMul, Int.reduceLT, Int.reduceLE, resA, resL, res1, eq_self, wanted, evK, get, setO, one, faA, loadA, storeA, outA, lenA, isStr, binA, unA, bnd, ints, toDat, toDats, datss, fillA, splice, List.length_nil, List.flatten_nil, Nat.reduceAdd, Nat.reduceLeDiff, Nat.reduceBEq, Nat.reduceSub, if_true, ite_true, cond_true, cond_false, List.replicate, if_false, ite_false, reduceCtorEq]
    exact Ret.keep ⟨by rw [wordF, e]; rfl, rfl⟩
  | true =>
    have e2 : r.a + 4 ≤ s.size ∧ (takeF s r 4).1 = s.extract r.a (r.a + 4) := by
      unfold takeF at e ⊢
      split at e
      · cases e
      · split at e
        · cases e
        · rename_i q1 q2
          rw [if_neg q1, if_neg q2]
          exact ⟨by omega, rfl⟩
    have e3 : (takeF s r 4).1.size = 4 := by rw [e2.2, ex_size _ _ _ e2.1]; omega
    have e4 : ∀ i, i < 4 → (takeF s r 4).1.data.toList.getD i 0 = s.data.toList.getD (r.a + i) 0 := fun i hi => by rw [e2.2, chr_ex hi e2.1]
    have f0 := e4 0 (by omega)
    have f1 := e4 1 (by omega)
    have f2 := e4 2 (by omega)
    have f3 := e4 3 (by omega)
    rw [Nat.add_zero] at f0
    have l0 := (s.data.toList.getD r.a 0).toNat_lt
    have l1 := (s.data.toList.getD (r.a + 1) 0).toNat_lt
    have l2 := (s.data.toList.getD (r.a + 2) 0).toNat_lt
    have l3 := (s.data.toList.getD (r.a + 3) 0).toNat_lt
    simp (disch := omega) only [DC_w, DC_n, kill_0, Nat.sub_zero, Int.reduceSub, Int.reduceMul, Int.reduceNeg, Int.reduceAdd, ↓rD0, ↓rD1, ↓rD2, ↓rD3, ↓rD4, rU0, rU1, rU2, rU3, rU4, rU5, toNat_n, Int.reduceToNat, slA, ptrsA, boolsA, Int.reducePow, Nat.reducePow, Nat.reduceMul, Int.reduceLT, Int.reduceLE, resA, resL, res1, eq_self, wanted, evK, get, setO, one, faA, loadA, storeA, outA, lenA, isStr, binA, unA, bnd, ints, toDat, toDats, datss, fillA, splice, List.length_nil, List.flatten_nil, Nat.reduceAdd, Nat.reduceLeDiff, Nat.reduceBEq, Nat.reduceSub, if_true, ite_true, cond_true, cond_false, List.replicate, if_false, ite_false, reduceCtorEq]
    refine W.pchain follows (by decide +kernel) ?_
    simp (disch := omega) only [e3, f0, f1, f2, f3, DC_w, DC_n, kill_0, Nat.sub_zero, Int.reduceSub, Int.reduceMul, Int.reduceNeg, Int.reduceAdd, ↓rD0, ↓rD1, ↓rD2, ↓rD3, ↓rD4, rU0, rU1, rU2, rU3, rU4, rU5, toNat_n, Int.reduceToNat, slA, ptrsA, boolsA, Int.reducePow, Nat.reducePow, Nat.reduceMul, Int.reduceLT, Int.reduceLE, resA, resL, res1, eq_self, wanted, evK, get, setO, one, faA, loadA, storeA, outA, lenA, isStr, binA, unA, bnd, ints, toDat, toDats, datss, fillA, splice, List.length_nil, List.flatten_nil, Nat.reduceAdd, Nat.reduceLeDiff, Nat.reduceBEq, Nat.reduceSub, if_true, ite_true, cond_true, cond_false, List.replicate, if_false, ite_false, reduceCtorEq]
    have w0 : wordV s r.a = ((s.data.toList.getD r.a 0).toNat : Int) + ((s.data.toList.getD (r.a + 1) 0).toNat : Int) * 256 + ((s.data.toList.getD (r.a + 2) 0).toNat : Int) * 65536 + ((s.data.toList.getD (r.a + 3) 0).toNat : Int) * 16777216 := rfl
    have hf : (wordF s r).1 = wordV s r.a := by rw [wordF, e]; rfl
    rw [hf, w0]
    generalize (s.data.toList.getD r.a 0).toNat = c0 at l0 ⊢
    generalize (s.data.toList.getD (r.a + 1) 0).toNat = c1 at l1 ⊢
    generalize (s.data.toList.getD (r.a + 2) 0).toNat = c2 at l2 ⊢
    generalize (s.data.toList.getD (r.a + 3) 0).toNat = c3 at l3 ⊢
    have o1 := or32 (a := (c0 : Int)) (x := (c1 : Int)) (k := 8) (by omega) (by simp only [Int.reducePow]; omega) (by omega) (by simp only [Int.reducePow]; omega) (by simp only [Int.reducePow]; omega)
    have o2 := or32 (a := (c0 : Int) + (c1 : Int) * 2 ^ 8) (x := (c2 : Int)) (k := 16) (by simp only [Int.reducePow]; omega) (by simp only [Int.reducePow]; omega) (by omega) (by simp only [Int.reducePow]; omega) (by simp only [Int.reducePow]; omega)
    have o3 := or32 (a := (c0 : Int) + (c1 : Int) * 2 ^ 8 + (c2 : Int) * 2 ^ 16) (x := (c3 : Int)) (k := 24) (by simp only [Int.reducePow]; omega) (by simp only [Int.reducePow]; omega) (by omega) (by simp only [Int.reducePow]; omega) (by simp only [Int.reducePow]; omega)
    simp only [Int.reducePow] at o1 o2 o3
    have m1 : ((c0 : Int) + (c1 : Int) * 256) % 4294967296 = (c0 : Int) + (c1 : Int) * 256 := by omega
    have m2 : ((c0 : Int) + (c1 : Int) * 256 + (c2 : Int) * 65536) % 4294967296 = (c0 : Int) + (c1 : Int) * 256 + (c2 : Int) * 65536 := by omega
    have m3 : ((c0 : Int) + (c1 : Int) * 256 + (c2 : Int) * 65536 + (c3 : Int) * 16777216) % 4294967296 = (c0 : Int) + (c1 : Int) * 256 + (c2 : Int) * 65536 + (c3 : Int) * 16777216 := by omega
    rw [o1, m1, o2, m2, o3, m3]
    exact Ret.keep ⟨rfl, rfl⟩
end Go.Proofs.Ytipjjcaflcpplaa
