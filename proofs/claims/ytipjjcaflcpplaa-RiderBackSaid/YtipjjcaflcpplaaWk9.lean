/- RiderBack. -/
import Derived.Test.YtipjjcaflcpplaaPl2
namespace Go.Proofs.Ytipjjcaflcpplaa
set_option linter.unusedSimpArgs false
set_option linter.unusedVariables false
set_option maxRecDepth 20000
set_option maxHeartbeats 4000000
open Go.RowKit

structure BkG where
  i : Nat
  H : List ABlk
  x : AV
theorem itW_ne {w : Wr} {x : It} (k0 : x.kind ≠ 0) (k1 : x.kind ≠ 1) (k2 : x.kind ≠ 2) (k3 : x.kind ≠ 3) : itW w x = w := by rw [itW, if_neg k0, if_neg k1, if_neg k2, if_neg k3]
theorem enc_ne {x : It} (k0 : x.kind ≠ 0) (k1 : x.kind ≠ 1) (k2 : x.kind ≠ 2) (k3 : x.kind ≠ 3) : enc x = [] := by rw [enc, if_neg k0, if_neg k1, if_neg k2, if_neg k3]
theorem fold_take {l : List It} {i : Nat} (hi : i < l.length) (w : Wr) : (l.take (i + 1)).foldl itW w = itW ((l.take i).foldl itW w) (l.getD i default) := by
  rw [List.take_succ_eq_append_getElem hi, List.foldl_append, List.getD_eq_getElem?_getD, List.getElem?_eq_getElem hi]; rfl
theorem RiderBack_c (l : List It) (hl : ∀ s ∈ l, s.Ok) (H : List ABlk) : ACalls Try.prog 7 [.d (.sl (l.map It.c))] H fun v H' => v = bv true ∧ H' = H := by
  refine ACalls.into Try.func7 cc7 rr7 fun hcl => ?_
  by_cases h2 : 200 < l.length
  · simp (disch := omega) only [Try.ntmps7, c7, r7, List.length_map, DC_w, DC_n, kill_0, Nat.sub_zero, Int.reduceSub, Int.reduceMul, Int.reduceNeg, Int.reduceAdd, ↓rD0, ↓rD1, ↓rD2, ↓rD3, ↓rD4, rU0, rU1, rU2, rU3, rU4, rU5, toNat_n, Int.reduceToNat, slA, ptrsA, boolsA, Int.reducePow, Nat.reducePow, Nat.reduceMul, Int.reduceLT, Int.reduceLE, resA, resL, res1, eq_self, wanted, evK, get, setO, one, faA, loadA, storeA, outA, lenA, isStr, binA, unA, bnd, ints, toDat, toDats, datss, fillA, splice, List.length_nil, List.flatten_nil, Nat.reduceAdd, Nat.reduceLeDiff, Nat.reduceBEq, Nat.reduceSub, if_true, ite_true, cond_true, cond_false, List.replicate, if_false, ite_false, reduceCtorEq]
    refine Cont.mk (wakes_c H) ?_
    simp (disch := omega) only [DC_w, DC_n, kill_0, Nat.sub_zero, Int.reduceSub, Int.reduceMul, Int.reduceNeg, Int.reduceAdd, ↓rD0, ↓rD1, ↓rD2, ↓rD3, ↓rD4, rU0, rU1, rU2, rU3, rU4, rU5, toNat_n, Int.reduceToNat, slA, ptrsA, boolsA, Int.reducePow, Nat.reducePow, Nat.reduceMul, Int.reduceLT, Int.reduceLE, resA, resL, res1, eq_self, wanted, evK, get, setO, one, faA, loadA, storeA, outA, lenA, isStr, binA, unA, bnd, ints, toDat, toDats, datss, fillA, splice, List.length_nil, List.flatten_nil, Nat.reduceAdd, Nat.reduceLeDiff, Nat.reduceBEq, Nat.reduceSub, if_true, ite_true, cond_true, cond_false, List.replicate, if_false, ite_false, reduceCtorEq]
    exact Ret.keep ⟨rfl, rfl⟩
  simp (disch := omega) only [Try.ntmps7, c7, r7, List.length_map, DC_w, DC_n, kill_0, Nat.sub_zero, Int.reduceSub, Int.reduceMul, Int.reduceNeg, Int.reduceAdd, ↓rD0, ↓rD1, ↓rD2, ↓rD3, ↓rD4, rU0, rU1, rU2, rU3, rU4, rU5, toNat_n, Int.reduceToNat, slA, ptrsA, boolsA, Int.reducePow, Nat.reducePow, Nat.reduceMul, Int.reduceLT, Int.reduceLE, resA, resL, res1, eq_self, wanted, evK, get, setO, one, faA, loadA, storeA, outA, lenA, isStr, binA, unA, bnd, ints, toDat, toDats, datss, fillA, splice, List.length_nil, List.flatten_nil, Nat.reduceAdd, Nat.reduceLeDiff, Nat.reduceBEq, Nat.reduceSub, if_true, ite_true, cond_true, cond_false, List.replicate, if_false, ite_false, reduceCtorEq]
  refine Cont.mk (write_c H) ?_
  simp (disch := omega) only [DC_w, DC_n, kill_0, Nat.sub_zero, Int.reduceSub, Int.reduceMul, Int.reduceNeg, Int.reduceAdd, ↓rD0, ↓rD1, ↓rD2, ↓rD3, ↓rD4, rU0, rU1, rU2, rU3, rU4, rU5, toNat_n, Int.reduceToNat, slA, ptrsA, boolsA, Int.reducePow, Nat.reducePow, Nat.reduceMul, Int.reduceLT, Int.reduceLE, resA, resL, res1, eq_self, wanted, evK, get, setO, one, faA, loadA, storeA, outA, lenA, isStr, binA, unA, bnd, ints, toDat, toDats, datss, fillA, splice, List.length_nil, List.flatten_nil, Nat.reduceAdd, Nat.reduceLeDiff, Nat.reduceBEq, Nat.reduceSub, if_true, ite_true, cond_true, cond_false, List.replicate, if_false, ite_false, reduceCtorEq]
  have o1 : Ow H (WF H.length .esl) (H ++ [.cells [.esl, bv false, bv false]]) := ⟨pre_app _ _, fun b hb => by simp [WF, rowB] at hb; omega⟩
  obtain ⟨S, hS⟩ : ∃ S : BkG → List AV, ∀ g, S g = [.d (.sl (l.map It.c)), .any, .any, .ptr H.length 0, iv g.i] ++ List.replicate 157 .any := ⟨_, fun _ => rfl⟩
  obtain ⟨wf, hwf⟩ : ∃ wf : Nat → Wr, ∀ i, wf i = (l.take i).foldl itW ⟨[], false, false⟩ := ⟨_, fun _ => rfl⟩
  refine W.loopG (γ := BkG) (fun g => l.length - g.i) S (fun g => g.H) (fun g => g.i ≤ l.length ∧ WrAt g.H H.length g.x (wf g.i) ∧ Ow H (WF H.length g.x) g.H) ⟨0, _, .esl⟩ (Wk.slots (by rw [hS]; exact WkL.tail 5 _ rfl (by simp only [List.take_succ_cons, List.take_zero]; repeat' first | exact WkL.nil | refine WkL.cons (Wk1.rfl _) ?_ | refine WkL.cons Wk1.esl ?_ | refine WkL.cons (Wk1.gsl _ _ _) ?_ | refine WkL.cons (Wk1.any _) ?_))) ⟨Nat.zero_le _, by rw [hwf]; exact WrAt.new H, o1⟩ (fun g hg => ?_)
  obtain ⟨q1, q2, q3⟩ := hg
  by_cases hi : g.i < l.length
  · have hok : (l.getD g.i default).Ok := by
      rw [List.getD_eq_getElem?_getD, List.getElem?_eq_getElem hi]; exact hl _ (List.getElem_mem hi)
    have hst : wf (g.i + 1) = itW (wf g.i) (l.getD g.i default) := by rw [hwf, hwf, fold_take hi]
    have hia := iaA_it hi
    generalize l.getD g.i default = x at hok hst hia
    by_cases ht : 200000 < x.text.size
    · simp (disch := omega) only [hS, c7l1, hia, It.c, List.length_map, DC_w, DC_n, kill_0, Nat.sub_zero, Int.reduceSub, Int.reduceMul, Int.reduceNeg, Int.reduceAdd, ↓rD0, ↓rD1, ↓rD2, ↓rD3, ↓rD4, rU0, rU1, rU2, rU3, rU4, rU5, toNat_n, Int.reduceToNat, slA, ptrsA, boolsA, Int.reducePow, Nat.reducePow, Nat.reduceMul, Int.reduceLT, Int.reduceLE, resA, resL, res1, eq_self, wanted, evK, get, setO, one, faA, loadA, storeA, outA, lenA, isStr, binA, unA, bnd, ints, toDat, toDats, datss, fillA, splice, List.length_nil, List.flatten_nil, Nat.reduceAdd, Nat.reduceLeDiff, Nat.reduceBEq, Nat.reduceSub, if_true, ite_true, cond_true, cond_false, List.replicate, if_false, ite_false, reduceCtorEq]
      refine Cont.mk (wakes_c _) ?_
      simp (disch := omega) only [DC_w, DC_n, kill_0, Nat.sub_zero, Int.reduceSub, Int.reduceMul, Int.reduceNeg, Int.reduceAdd, ↓rD0, ↓rD1, ↓rD2, ↓rD3, ↓rD4, rU0, rU1, rU2, rU3, rU4, rU5, toNat_n, Int.reduceToNat, slA, ptrsA, boolsA, Int.reducePow, Nat.reducePow, Nat.reduceMul, Int.reduceLT, Int.reduceLE, resA, resL, res1, eq_self, wanted, evK, get, setO, one, faA, loadA, storeA, outA, lenA, isStr, binA, unA, bnd, ints, toDat, toDats, datss, fillA, splice, List.length_nil, List.flatten_nil, Nat.reduceAdd, Nat.reduceLeDiff, Nat.reduceBEq, Nat.reduceSub, if_true, ite_true, cond_true, cond_false, List.replicate, if_false, ite_false, reduceCtorEq]
      exact Ret.pre _ H q3.1 (Nat.le_refl _) hcl (.rfl _) (by simp [refs]) ⟨rfl, rfl⟩
    by_cases k0 : x.kind = 0
    · simp (disch := omega) only [hS, c7l1, hia, It.c, List.length_map, k0, DC_w, DC_n, kill_0, Nat.sub_zero, Int.reduceSub, Int.reduceMul, Int.reduceNeg, Int.reduceAdd, ↓rD0, ↓rD1, ↓rD2, ↓rD3, ↓rD4, rU0, rU1, rU2, rU3, rU4, rU5, toNat_n, Int.reduceToNat, slA, ptrsA, boolsA, Int.reducePow, Nat.reducePow, Nat.reduceMul, Int.reduceLT, Int.reduceLE, resA, resL, res1, eq_self, wanted, evK, get, setO, one, faA, loadA, storeA, outA, lenA, isStr, binA, unA, bnd, ints, toDat, toDats, datss, fillA, splice, List.length_nil, List.flatten_nil, Nat.reduceAdd, Nat.reduceLeDiff, Nat.reduceBEq, Nat.reduceSub, if_true, ite_true, cond_true, cond_false, List.replicate, if_false, ite_false, reduceCtorEq]
      refine Cont.rel (byteW_c q2 x.n) ?_
      rintro v H' ⟨rfl, x', h1', h2'⟩
      rw [show putW (wf g.i) (byteW x.n) = wf (g.i + 1) by rw [hst, itW, if_pos k0]] at h1'
      simp (disch := omega) only [DC_w, DC_n, kill_0, Nat.sub_zero, Int.reduceSub, Int.reduceMul, Int.reduceNeg, Int.reduceAdd, ↓rD0, ↓rD1, ↓rD2, ↓rD3, ↓rD4, rU0, rU1, rU2, rU3, rU4, rU5, toNat_n, Int.reduceToNat, slA, ptrsA, boolsA, Int.reducePow, Nat.reducePow, Nat.reduceMul, Int.reduceLT, Int.reduceLE, resA, resL, res1, eq_self, wanted, evK, get, setO, one, faA, loadA, storeA, outA, lenA, isStr, binA, unA, bnd, ints, toDat, toDats, datss, fillA, splice, List.length_nil, List.flatten_nil, Nat.reduceAdd, Nat.reduceLeDiff, Nat.reduceBEq, Nat.reduceSub, if_true, ite_true, cond_true, cond_false, List.replicate, if_false, ite_false, reduceCtorEq]
      exact Nxt.mk ⟨g.i + 1, H', x'⟩ (by show l.length - (g.i + 1) < l.length - g.i; omega) (Wk.slots (by rw [hS]; exact WkL.tail 5 _ rfl (by simp only [List.take_succ_cons, List.take_zero]; repeat' first | exact WkL.nil | refine WkL.cons (Wk1.rfl _) ?_ | refine WkL.cons Wk1.esl ?_ | refine WkL.cons (Wk1.gsl _ _ _) ?_ | refine WkL.cons (Wk1.any _) ?_))) ⟨by show g.i + 1 ≤ l.length; omega, h1', q3.chg h2'⟩
    by_cases k1 : x.kind = 1
    · simp (disch := omega) only [hS, c7l1, hia, It.c, List.length_map, k1, DC_w, DC_n, kill_0, Nat.sub_zero, Int.reduceSub, Int.reduceMul, Int.reduceNeg, Int.reduceAdd, ↓rD0, ↓rD1, ↓rD2, ↓rD3, ↓rD4, rU0, rU1, rU2, rU3, rU4, rU5, toNat_n, Int.reduceToNat, slA, ptrsA, boolsA, Int.reducePow, Nat.reducePow, Nat.reduceMul, Int.reduceLT, Int.reduceLE, resA, resL, res1, eq_self, wanted, evK, get, setO, one, faA, loadA, storeA, outA, lenA, isStr, binA, unA, bnd, ints, toDat, toDats, datss, fillA, splice, List.length_nil, List.flatten_nil, Nat.reduceAdd, Nat.reduceLeDiff, Nat.reduceBEq, Nat.reduceSub, if_true, ite_true, cond_true, cond_false, List.replicate, if_false, ite_false, reduceCtorEq]
      refine Cont.rel (numW_c q2 x.n) ?_
      rintro v H' ⟨rfl, x', h1', h2'⟩
      rw [show numW (wf g.i) x.n = wf (g.i + 1) by rw [hst, itW, if_neg k0, if_pos k1]] at h1'
      simp (disch := omega) only [DC_w, DC_n, kill_0, Nat.sub_zero, Int.reduceSub, Int.reduceMul, Int.reduceNeg, Int.reduceAdd, ↓rD0, ↓rD1, ↓rD2, ↓rD3, ↓rD4, rU0, rU1, rU2, rU3, rU4, rU5, toNat_n, Int.reduceToNat, slA, ptrsA, boolsA, Int.reducePow, Nat.reducePow, Nat.reduceMul, Int.reduceLT, Int.reduceLE, resA, resL, res1, eq_self, wanted, evK, get, setO, one, faA, loadA, storeA, outA, lenA, isStr, binA, unA, bnd, ints, toDat, toDats, datss, fillA, splice, List.length_nil, List.flatten_nil, Nat.reduceAdd, Nat.reduceLeDiff, Nat.reduceBEq, Nat.reduceSub, if_true, ite_true, cond_true, cond_false, List.replicate, if_false, ite_false, reduceCtorEq]
      exact Nxt.mk ⟨g.i + 1, H', x'⟩ (by show l.length - (g.i + 1) < l.length - g.i; omega) (Wk.slots (by rw [hS]; exact WkL.tail 5 _ rfl (by simp only [List.take_succ_cons, List.take_zero]; repeat' first | exact WkL.nil | refine WkL.cons (Wk1.rfl _) ?_ | refine WkL.cons Wk1.esl ?_ | refine WkL.cons (Wk1.gsl _ _ _) ?_ | refine WkL.cons (Wk1.any _) ?_))) ⟨by show g.i + 1 ≤ l.length; omega, h1', q3.chg h2'⟩
    by_cases k2 : x.kind = 2
    · simp (disch := omega) only [hS, c7l1, hia, It.c, List.length_map, k2, DC_w, DC_n, kill_0, Nat.sub_zero, Int.reduceSub, Int.reduceMul, Int.reduceNeg, Int.reduceAdd, ↓rD0, ↓rD1, ↓rD2, ↓rD3, ↓rD4, rU0, rU1, rU2, rU3, rU4, rU5, toNat_n, Int.reduceToNat, slA, ptrsA, boolsA, Int.reducePow, Nat.reducePow, Nat.reduceMul, Int.reduceLT, Int.reduceLE, resA, resL, res1, eq_self, wanted, evK, get, setO, one, faA, loadA, storeA, outA, lenA, isStr, binA, unA, bnd, ints, toDat, toDats, datss, fillA, splice, List.length_nil, List.flatten_nil, Nat.reduceAdd, Nat.reduceLeDiff, Nat.reduceBEq, Nat.reduceSub, if_true, ite_true, cond_true, cond_false, List.replicate, if_false, ite_false, reduceCtorEq]
      refine Cont.rel (wordW_c q2 (x.n % 4294967296) (by omega) (by omega)) ?_
      rintro v H' ⟨rfl, x', h1', h2'⟩
      rw [show putW (wf g.i) (wordB (x.n % 4294967296)) = wf (g.i + 1) by rw [hst, itW, if_neg k0, if_neg k1, if_pos k2]] at h1'
      simp (disch := omega) only [DC_w, DC_n, kill_0, Nat.sub_zero, Int.reduceSub, Int.reduceMul, Int.reduceNeg, Int.reduceAdd, ↓rD0, ↓rD1, ↓rD2, ↓rD3, ↓rD4, rU0, rU1, rU2, rU3, rU4, rU5, toNat_n, Int.reduceToNat, slA, ptrsA, boolsA, Int.reducePow, Nat.reducePow, Nat.reduceMul, Int.reduceLT, Int.reduceLE, resA, resL, res1, eq_self, wanted, evK, get, setO, one, faA, loadA, storeA, outA, lenA, isStr, binA, unA, bnd, ints, toDat, toDats, datss, fillA, splice, List.length_nil, List.flatten_nil, Nat.reduceAdd, Nat.reduceLeDiff, Nat.reduceBEq, Nat.reduceSub, if_true, ite_true, cond_true, cond_false, List.replicate, if_false, ite_false, reduceCtorEq]
      exact Nxt.mk ⟨g.i + 1, H', x'⟩ (by show l.length - (g.i + 1) < l.length - g.i; omega) (Wk.slots (by rw [hS]; exact WkL.tail 5 _ rfl (by simp only [List.take_succ_cons, List.take_zero]; repeat' first | exact WkL.nil | refine WkL.cons (Wk1.rfl _) ?_ | refine WkL.cons Wk1.esl ?_ | refine WkL.cons (Wk1.gsl _ _ _) ?_ | refine WkL.cons (Wk1.any _) ?_))) ⟨by show g.i + 1 ≤ l.length; omega, h1', q3.chg h2'⟩
    by_cases k3 : x.kind = 3
    · simp (disch := omega) only [hS, c7l1, hia, It.c, List.length_map, k3, DC_w, DC_n, kill_0, Nat.sub_zero, Int.reduceSub, Int.reduceMul, Int.reduceNeg, Int.reduceAdd, ↓rD0, ↓rD1, ↓rD2, ↓rD3, ↓rD4, rU0, rU1, rU2, rU3, rU4, rU5, toNat_n, Int.reduceToNat, slA, ptrsA, boolsA, Int.reducePow, Nat.reducePow, Nat.reduceMul, Int.reduceLT, Int.reduceLE, resA, resL, res1, eq_self, wanted, evK, get, setO, one, faA, loadA, storeA, outA, lenA, isStr, binA, unA, bnd, ints, toDat, toDats, datss, fillA, splice, List.length_nil, List.flatten_nil, Nat.reduceAdd, Nat.reduceLeDiff, Nat.reduceBEq, Nat.reduceSub, if_true, ite_true, cond_true, cond_false, List.replicate, if_false, ite_false, reduceCtorEq]
      refine Cont.rel (textW_c q2 x.text) ?_
      rintro v H' ⟨rfl, x', h1', h2'⟩
      rw [show textW (wf g.i) x.text = wf (g.i + 1) by rw [hst, itW, if_neg k0, if_neg k1, if_neg k2, if_pos k3]] at h1'
      simp (disch := omega) only [DC_w, DC_n, kill_0, Nat.sub_zero, Int.reduceSub, Int.reduceMul, Int.reduceNeg, Int.reduceAdd, ↓rD0, ↓rD1, ↓rD2, ↓rD3, ↓rD4, rU0, rU1, rU2, rU3, rU4, rU5, toNat_n, Int.reduceToNat, slA, ptrsA, boolsA, Int.reducePow, Nat.reducePow, Nat.reduceMul, Int.reduceLT, Int.reduceLE, resA, resL, res1, eq_self, wanted, evK, get, setO, one, faA, loadA, storeA, outA, lenA, isStr, binA, unA, bnd, ints, toDat, toDats, datss, fillA, splice, List.length_nil, List.flatten_nil, Nat.reduceAdd, Nat.reduceLeDiff, Nat.reduceBEq, Nat.reduceSub, if_true, ite_true, cond_true, cond_false, List.replicate, if_false, ite_false, reduceCtorEq]
      exact Nxt.mk ⟨g.i + 1, H', x'⟩ (by show l.length - (g.i + 1) < l.length - g.i; omega) (Wk.slots (by rw [hS]; exact WkL.tail 5 _ rfl (by simp only [List.take_succ_cons, List.take_zero]; repeat' first | exact WkL.nil | refine WkL.cons (Wk1.rfl _) ?_ | refine WkL.cons Wk1.esl ?_ | refine WkL.cons (Wk1.gsl _ _ _) ?_ | refine WkL.cons (Wk1.any _) ?_))) ⟨by show g.i + 1 ≤ l.length; omega, h1', q3.chg h2'⟩
    · simp (disch := omega) only [hS, c7l1, hia, It.c, List.length_map, DC_w, DC_n, kill_0, Nat.sub_zero, Int.reduceSub, Int.reduceMul, Int.reduceNeg, Int.reduceAdd, ↓rD0, ↓rD1, ↓rD2, ↓rD3, ↓rD4, rU0, rU1, rU2, rU3, rU4, rU5, toNat_n, Int.reduceToNat, slA, ptrsA, boolsA, Int.reducePow, Nat.reducePow, Nat.reduceMul, Int.reduceLT, Int.reduceLE, resA, resL, res1, eq_self, wanted, evK, get, setO, one, faA, loadA, storeA, outA, lenA, isStr, binA, unA, bnd, ints, toDat, toDats, datss, fillA, splice, List.length_nil, List.flatten_nil, Nat.reduceAdd, Nat.reduceLeDiff, Nat.reduceBEq, Nat.reduceSub, if_true, ite_true, cond_true, cond_false, List.replicate, if_false, ite_false, reduceCtorEq]
      rw [itW_ne k0 k1 k2 k3] at hst
      rw [← hst] at q2
      exact Nxt.mk ⟨g.i + 1, g.H, g.x⟩ (by show l.length - (g.i + 1) < l.length - g.i; omega) (Wk.slots (by rw [hS]; exact WkL.tail 5 _ rfl (by simp only [List.take_succ_cons, List.take_zero]; repeat' first | exact WkL.nil | refine WkL.cons (Wk1.rfl _) ?_ | refine WkL.cons Wk1.esl ?_ | refine WkL.cons (Wk1.gsl _ _ _) ?_ | refine WkL.cons (Wk1.any _) ?_))) ⟨by show g.i + 1 ≤ l.length; omega, q2, q3⟩
  · have hil : g.i = l.length := by omega
    rw [hil] at q2
    simp (disch := omega) only [hS, c7l1, List.length_map, DC_w, DC_n, kill_0, Nat.sub_zero, Int.reduceSub, Int.reduceMul, Int.reduceNeg, Int.reduceAdd, ↓rD0, ↓rD1, ↓rD2, ↓rD3, ↓rD4, rU0, rU1, rU2, rU3, rU4, rU5, toNat_n, Int.reduceToNat, slA, ptrsA, boolsA, Int.reducePow, Nat.reducePow, Nat.reduceMul, Int.reduceLT, Int.reduceLE, resA, resL, res1, eq_self, wanted, evK, get, setO, one, faA, loadA, storeA, outA, lenA, isStr, binA, unA, bnd, ints, toDat, toDats, datss, fillA, splice, List.length_nil, List.flatten_nil, Nat.reduceAdd, Nat.reduceLeDiff, Nat.reduceBEq, Nat.reduceSub, if_true, ite_true, cond_true, cond_false, List.replicate, if_false, ite_false, reduceCtorEq]
    refine Cont.mk (bytesW_c q2) ?_
    have hwl : wf l.length = l.foldl itW ⟨[], false, false⟩ := by rw [hwf, List.take_length]
    by_cases e1 : (wf l.length).sp = true
    · rw [if_pos e1]
      simp (disch := omega) only [DC_w, DC_n, kill_0, Nat.sub_zero, Int.reduceSub, Int.reduceMul, Int.reduceNeg, Int.reduceAdd, ↓rD0, ↓rD1, ↓rD2, ↓rD3, ↓rD4, rU0, rU1, rU2, rU3, rU4, rU5, toNat_n, Int.reduceToNat, slA, ptrsA, boolsA, Int.reducePow, Nat.reducePow, Nat.reduceMul, Int.reduceLT, Int.reduceLE, resA, resL, res1, eq_self, wanted, evK, get, setO, one, faA, loadA, storeA, outA, lenA, isStr, binA, unA, bnd, ints, toDat, toDats, datss, fillA, splice, List.length_nil, List.flatten_nil, Nat.reduceAdd, Nat.reduceLeDiff, Nat.reduceBEq, Nat.reduceSub, if_true, ite_true, cond_true, cond_false, List.replicate, if_false, ite_false, reduceCtorEq]
      refine Cont.mk (wakes_c _) ?_
      simp (disch := omega) only [DC_w, DC_n, kill_0, Nat.sub_zero, Int.reduceSub, Int.reduceMul, Int.reduceNeg, Int.reduceAdd, ↓rD0, ↓rD1, ↓rD2, ↓rD3, ↓rD4, rU0, rU1, rU2, rU3, rU4, rU5, toNat_n, Int.reduceToNat, slA, ptrsA, boolsA, Int.reducePow, Nat.reducePow, Nat.reduceMul, Int.reduceLT, Int.reduceLE, resA, resL, res1, eq_self, wanted, evK, get, setO, one, faA, loadA, storeA, outA, lenA, isStr, binA, unA, bnd, ints, toDat, toDats, datss, fillA, splice, List.length_nil, List.flatten_nil, Nat.reduceAdd, Nat.reduceLeDiff, Nat.reduceBEq, Nat.reduceSub, if_true, ite_true, cond_true, cond_false, List.replicate, if_false, ite_false, reduceCtorEq]
      exact Ret.pre _ H q3.1 (Nat.le_refl _) hcl (.rfl _) (by simp [refs]) ⟨rfl, rfl⟩
    by_cases e2 : (wf l.length).tl = true
    · rw [if_neg e1, if_pos e2]
      simp (disch := omega) only [DC_w, DC_n, kill_0, Nat.sub_zero, Int.reduceSub, Int.reduceMul, Int.reduceNeg, Int.reduceAdd, ↓rD0, ↓rD1, ↓rD2, ↓rD3, ↓rD4, rU0, rU1, rU2, rU3, rU4, rU5, toNat_n, Int.reduceToNat, slA, ptrsA, boolsA, Int.reducePow, Nat.reducePow, Nat.reduceMul, Int.reduceLT, Int.reduceLE, resA, resL, res1, eq_self, wanted, evK, get, setO, one, faA, loadA, storeA, outA, lenA, isStr, binA, unA, bnd, ints, toDat, toDats, datss, fillA, splice, List.length_nil, List.flatten_nil, Nat.reduceAdd, Nat.reduceLeDiff, Nat.reduceBEq, Nat.reduceSub, if_true, ite_true, cond_true, cond_false, List.replicate, if_false, ite_false, reduceCtorEq]
      refine Cont.mk (wakes_c _) ?_
      simp (disch := omega) only [DC_w, DC_n, kill_0, Nat.sub_zero, Int.reduceSub, Int.reduceMul, Int.reduceNeg, Int.reduceAdd, ↓rD0, ↓rD1, ↓rD2, ↓rD3, ↓rD4, rU0, rU1, rU2, rU3, rU4, rU5, toNat_n, Int.reduceToNat, slA, ptrsA, boolsA, Int.reducePow, Nat.reducePow, Nat.reduceMul, Int.reduceLT, Int.reduceLE, resA, resL, res1, eq_self, wanted, evK, get, setO, one, faA, loadA, storeA, outA, lenA, isStr, binA, unA, bnd, ints, toDat, toDats, datss, fillA, splice, List.length_nil, List.flatten_nil, Nat.reduceAdd, Nat.reduceLeDiff, Nat.reduceBEq, Nat.reduceSub, if_true, ite_true, cond_true, cond_false, List.replicate, if_false, ite_false, reduceCtorEq]
      exact Ret.pre _ H q3.1 (Nat.le_refl _) hcl (.rfl _) (by simp [refs]) ⟨rfl, rfl⟩
    rw [if_neg e1, if_neg e2]
    have f1 : (wf l.length).sp = false := by simpa using e1
    have f2 : (wf l.length).tl = false := by simpa using e2
    have hlen := q2.ok
    rw [f2] at hlen
    have hlen2 : (wf l.length).bs.length ≤ 131072 := by have := of_decide_eq_false hlen.symm; omega
    rw [hwl] at f1 f2
    obtain ⟨_, _, hgood, hbs⟩ := fold_ok f1 f2
    rw [← hwl, List.nil_append] at hbs
    obtain ⟨s, hs⟩ : ∃ s : ByteArray, s = ⟨(wf l.length).bs.toArray⟩ := ⟨_, rfl⟩
    have hsl : s.data.toList = l.flatMap enc := by rw [hs, str_of, hbs]
    have hss : s.size ≤ 300000 := by rw [← len_data, hs, str_of]; omega
    rw [← hs]
    simp (disch := omega) only [DC_w, DC_n, kill_0, Nat.sub_zero, Int.reduceSub, Int.reduceMul, Int.reduceNeg, Int.reduceAdd, ↓rD0, ↓rD1, ↓rD2, ↓rD3, ↓rD4, rU0, rU1, rU2, rU3, rU4, rU5, toNat_n, Int.reduceToNat, slA, ptrsA, boolsA, Int.reducePow, Nat.reducePow, Nat.reduceMul, Int.reduceLT, Int.reduceLE, resA, resL, res1, eq_self, wanted, evK, get, setO, one, faA, loadA, storeA, outA, lenA, isStr, binA, unA, bnd, ints, toDat, toDats, datss, fillA, splice, List.length_nil, List.flatten_nil, Nat.reduceAdd, Nat.reduceLeDiff, Nat.reduceBEq, Nat.reduceSub, if_true, ite_true, cond_true, cond_false, List.replicate, if_false, ite_false, reduceCtorEq]
    refine Cont.mk (read_c s _) ?_
    simp (disch := omega) only [DC_w, DC_n, kill_0, Nat.sub_zero, Int.reduceSub, Int.reduceMul, Int.reduceNeg, Int.reduceAdd, ↓rD0, ↓rD1, ↓rD2, ↓rD3, ↓rD4, rU0, rU1, rU2, rU3, rU4, rU5, toNat_n, Int.reduceToNat, slA, ptrsA, boolsA, Int.reducePow, Nat.reducePow, Nat.reduceMul, Int.reduceLT, Int.reduceLE, resA, resL, res1, eq_self, wanted, evK, get, setO, one, faA, loadA, storeA, outA, lenA, isStr, binA, unA, bnd, ints, toDat, toDats, datss, fillA, splice, List.length_nil, List.flatten_nil, Nat.reduceAdd, Nat.reduceLeDiff, Nat.reduceBEq, Nat.reduceSub, if_true, ite_true, cond_true, cond_false, List.replicate, if_false, ite_false, reduceCtorEq]
    have hp := q3.1
    generalize g.H = G at hp ⊢
    clear q2 q3 hS
    have hset : ∀ x y : ABlk, (G ++ [x]).set G.length y = G ++ [y] := fun x y => by rw [hs0]; rfl
    have hA : ∀ a b, (G ++ [rd s a b])[G.length]? = some (rd s (Rd.mk a b).a (Rd.mk a b).bad) := fun a b => by rw [hg0]; rfl
    have hfr : ∀ x y : ABlk, ∀ c, c ∉ [G.length] → (G ++ [y])[c]? = (G ++ [x])[c]? := fun x y c hc => by
      have hcn : c ≠ G.length := fun e => hc (by rw [e]; simp)
      rw [List.getElem?_append, List.getElem?_append]
      split
      · rfl
      · rw [List.getElem?_eq_none (by simp; omega), List.getElem?_eq_none (by simp; omega)]
    obtain ⟨S2, hS2⟩ : ∃ S2 : Nat → List AV, ∀ i, S2 i = [.d (.sl (l.map It.c)), .any, .any, .any, .any, sv s, .any, .ptr G.length 0, iv i] ++ List.replicate 153 .any := ⟨_, fun _ => rfl⟩
    obtain ⟨pos, hpos⟩ : ∃ pos : Nat → Nat, ∀ i, pos i = ((l.take i).flatMap enc).length := ⟨_, fun _ => rfl⟩
    refine W.loopG (γ := Nat) (fun i => l.length - i) S2 (fun i => G ++ [rd s (pos i) false]) (fun i => i ≤ l.length) 0 ?_ (Nat.zero_le _) (fun i hi2 => ?_)
    · rw [show pos 0 = 0 by rw [hpos]; rfl]
      exact Wk.slots (by rw [hS2]; exact WkL.tail 9 _ rfl (by simp only [List.take_succ_cons, List.take_zero]; repeat' first | exact WkL.nil | refine WkL.cons (Wk1.rfl _) ?_ | refine WkL.cons Wk1.esl ?_ | refine WkL.cons (Wk1.gsl _ _ _) ?_ | refine WkL.cons (Wk1.any _) ?_))
    by_cases hi3 : i < l.length
    · have hgd : goodI (l.getD i default) := hgood _ (by rw [List.getD_eq_getElem?_getD, List.getElem?_eq_getElem hi3]; exact List.getElem_mem hi3)
      have hia := iaA_it hi3
      have hdrop : s.data.toList.drop (pos i) = enc (l.getD i default) ++ (l.drop (i + 1)).flatMap enc := by
        have e : l.flatMap enc = (l.take i).flatMap enc ++ (enc (l.getD i default) ++ (l.drop (i + 1)).flatMap enc) := by
          conv => lhs; rw [← List.take_append_drop i l, List.flatMap_append, List.drop_eq_getElem_cons hi3, List.flatMap_cons]
          rw [List.getD_eq_getElem?_getD, List.getElem?_eq_getElem hi3]; rfl
        rw [hsl, e, hpos, List.drop_left]
      have hnext : pos (i + 1) = pos i + (enc (l.getD i default)).length := by
        rw [hpos, hpos, List.take_succ_eq_append_getElem hi3, List.flatMap_append, List.length_append]
        rw [List.getD_eq_getElem?_getD, List.getElem?_eq_getElem hi3]; simp
      have hple : pos i ≤ s.size := by
        have := congrArg List.length hsl
        rw [len_data] at this
        rw [this, hpos]
        conv => rhs; rw [← List.take_append_drop i l, List.flatMap_append, List.length_append]
        omega
      generalize l.getD i default = x at hgd hia hdrop hnext
      generalize pos i = p at hdrop hnext hple ⊢
      by_cases k0 : x.kind = 0
      · have ee : enc x = byteW x.n := by rw [enc, if_pos k0]
        rw [ee] at hdrop hnext
        rw [show (byteW x.n).length = 1 from rfl] at hnext
        simp (disch := omega) only [hS2, c7l0, hia, It.c, List.length_map, k0, DC_w, DC_n, kill_0, Nat.sub_zero, Int.reduceSub, Int.reduceMul, Int.reduceNeg, Int.reduceAdd, ↓rD0, ↓rD1, ↓rD2, ↓rD3, ↓rD4, rU0, rU1, rU2, rU3, rU4, rU5, toNat_n, Int.reduceToNat, slA, ptrsA, boolsA, Int.reducePow, Nat.reducePow, Nat.reduceMul, Int.reduceLT, Int.reduceLE, resA, resL, res1, eq_self, wanted, evK, get, setO, one, faA, loadA, storeA, outA, lenA, isStr, binA, unA, bnd, ints, toDat, toDats, datss, fillA, splice, List.length_nil, List.flatten_nil, Nat.reduceAdd, Nat.reduceLeDiff, Nat.reduceBEq, Nat.reduceSub, if_true, ite_true, cond_true, cond_false, List.replicate, if_false, ite_false, reduceCtorEq]
        refine W.dregD [([], []), ([G.length], []), ([], [G.length]), ([], [G.length]), ([], [G.length]), ([], [G.length]), ([], [G.length]), ([], [G.length]), ([], [])] follows (by decide +kernel) rfl rfl (fun z hz b hb => ?_) ?_
        · have : b = G.length ∧ z.2 = [] := by
            simp only [List.mem_cons, List.not_mem_nil, or_false] at hz
            rcases hz with rfl | rfl | rfl | rfl | rfl | rfl | rfl | rfl | rfl <;> simp at hb ⊢ <;> exact hb
          rw [this.1, this.2, hA]
          simp
        repeat (rw [DC_p]; simp (disch := omega) only [DC_w, DC_n, kill_0, Nat.sub_zero, Int.reduceSub, Int.reduceMul, Int.reduceNeg, Int.reduceAdd, ↓rD0, ↓rD1, ↓rD2, ↓rD3, ↓rD4, rU0, rU1, rU2, rU3, rU4, rU5, toNat_n, Int.reduceToNat, slA, ptrsA, boolsA, Int.reducePow, Nat.reducePow, Nat.reduceMul, Int.reduceLT, Int.reduceLE, resA, resL, res1, eq_self, wanted, evK, get, setO, one, faA, loadA, storeA, outA, lenA, isStr, binA, unA, bnd, ints, toDat, toDats, datss, fillA, splice, List.length_nil, List.flatten_nil, Nat.reduceAdd, Nat.reduceLeDiff, Nat.reduceBEq, Nat.reduceSub, if_true, ite_true, cond_true, cond_false, List.replicate, if_false, ite_false, reduceCtorEq])
        have hb := byte_c (hA p false) hss hple
        rw [byte_back hdrop, hset] at hb
        refine WStep.call (by simp (disch := omega) only [DC_w, DC_n, kill_0, Nat.sub_zero, Int.reduceSub, Int.reduceMul, Int.reduceNeg, Int.reduceAdd, ↓rD0, ↓rD1, ↓rD2, ↓rD3, ↓rD4, rU0, rU1, rU2, rU3, rU4, rU5, toNat_n, Int.reduceToNat, slA, ptrsA, boolsA, Int.reducePow, Nat.reducePow, Nat.reduceMul, Int.reduceLT, Int.reduceLE, resA, resL, res1, eq_self, wanted, evK, get, setO, one, faA, loadA, storeA, outA, lenA, isStr, binA, unA, bnd, ints, toDat, toDats, datss, fillA, splice, List.length_nil, List.flatten_nil, Nat.reduceAdd, Nat.reduceLeDiff, Nat.reduceBEq, Nat.reduceSub, if_true, ite_true, cond_true, cond_false, List.replicate, if_false, ite_false, reduceCtorEq]; exact hb) (hfr _ _) (by simp) ?_
        try simp (disch := omega) only [DC_w, DC_n, kill_0, Nat.sub_zero, Int.reduceSub, Int.reduceMul, Int.reduceNeg, Int.reduceAdd, ↓rD0, ↓rD1, ↓rD2, ↓rD3, ↓rD4, rU0, rU1, rU2, rU3, rU4, rU5, toNat_n, Int.reduceToNat, slA, ptrsA, boolsA, Int.reducePow, Nat.reducePow, Nat.reduceMul, Int.reduceLT, Int.reduceLE, resA, resL, res1, eq_self, wanted, evK, get, setO, one, faA, loadA, storeA, outA, lenA, isStr, binA, unA, bnd, ints, toDat, toDats, datss, fillA, splice, List.length_nil, List.flatten_nil, Nat.reduceAdd, Nat.reduceLeDiff, Nat.reduceBEq, Nat.reduceSub, if_true, ite_true, cond_true, cond_false, List.replicate, if_false, ite_false, reduceCtorEq]
        repeat (rw [DC_p]; simp (disch := omega) only [hia, It.c, and255, DC_w, DC_n, kill_0, Nat.sub_zero, Int.reduceSub, Int.reduceMul, Int.reduceNeg, Int.reduceAdd, ↓rD0, ↓rD1, ↓rD2, ↓rD3, ↓rD4, rU0, rU1, rU2, rU3, rU4, rU5, toNat_n, Int.reduceToNat, slA, ptrsA, boolsA, Int.reducePow, Nat.reducePow, Nat.reduceMul, Int.reduceLT, Int.reduceLE, resA, resL, res1, eq_self, wanted, evK, get, setO, one, faA, loadA, storeA, outA, lenA, isStr, binA, unA, bnd, ints, toDat, toDats, datss, fillA, splice, List.length_nil, List.flatten_nil, Nat.reduceAdd, Nat.reduceLeDiff, Nat.reduceBEq, Nat.reduceSub, if_true, ite_true, cond_true, cond_false, List.replicate, if_false, ite_false, reduceCtorEq])
        rw [← hnext]
        exact Nxt.mk (i + 1) (by omega) (Wk.slots (by rw [hS2]; exact WkL.tail 9 _ rfl (by simp only [List.take_succ_cons, List.take_zero]; repeat' first | exact WkL.nil | refine WkL.cons (Wk1.rfl _) ?_ | refine WkL.cons Wk1.esl ?_ | refine WkL.cons (Wk1.gsl _ _ _) ?_ | refine WkL.cons (Wk1.any _) ?_))) (by omega)
      by_cases k1 : x.kind = 1
      · have ee : enc x = comp7 x.n := by rw [enc, if_neg k0, if_pos k1]
        rw [ee] at hdrop hnext
        have hcl5 := comp7_le x.n
        simp (disch := omega) only [hS2, c7l0, hia, It.c, List.length_map, k1, DC_w, DC_n, kill_0, Nat.sub_zero, Int.reduceSub, Int.reduceMul, Int.reduceNeg, Int.reduceAdd, ↓rD0, ↓rD1, ↓rD2, ↓rD3, ↓rD4, rU0, rU1, rU2, rU3, rU4, rU5, toNat_n, Int.reduceToNat, slA, ptrsA, boolsA, Int.reducePow, Nat.reducePow, Nat.reduceMul, Int.reduceLT, Int.reduceLE, resA, resL, res1, eq_self, wanted, evK, get, setO, one, faA, loadA, storeA, outA, lenA, isStr, binA, unA, bnd, ints, toDat, toDats, datss, fillA, splice, List.length_nil, List.flatten_nil, Nat.reduceAdd, Nat.reduceLeDiff, Nat.reduceBEq, Nat.reduceSub, if_true, ite_true, cond_true, cond_false, List.replicate, if_false, ite_false, reduceCtorEq]
        refine W.dregD [([], []), ([G.length], []), ([], [G.length]), ([], [G.length]), ([], [G.length]), ([], [G.length]), ([], [G.length]), ([], [])] follows (by decide +kernel) rfl rfl (fun z hz b hb => ?_) ?_
        · have : b = G.length ∧ z.2 = [] := by
            simp only [List.mem_cons, List.not_mem_nil, or_false] at hz
            rcases hz with rfl | rfl | rfl | rfl | rfl | rfl | rfl | rfl <;> simp at hb ⊢ <;> exact hb
          rw [this.1, this.2, hA]
          simp
        repeat (rw [DC_p]; simp (disch := omega) only [DC_w, DC_n, kill_0, Nat.sub_zero, Int.reduceSub, Int.reduceMul, Int.reduceNeg, Int.reduceAdd, ↓rD0, ↓rD1, ↓rD2, ↓rD3, ↓rD4, rU0, rU1, rU2, rU3, rU4, rU5, toNat_n, Int.reduceToNat, slA, ptrsA, boolsA, Int.reducePow, Nat.reducePow, Nat.reduceMul, Int.reduceLT, Int.reduceLE, resA, resL, res1, eq_self, wanted, evK, get, setO, one, faA, loadA, storeA, outA, lenA, isStr, binA, unA, bnd, ints, toDat, toDats, datss, fillA, splice, List.length_nil, List.flatten_nil, Nat.reduceAdd, Nat.reduceLeDiff, Nat.reduceBEq, Nat.reduceSub, if_true, ite_true, cond_true, cond_false, List.replicate, if_false, ite_false, reduceCtorEq])
        have hb := num_c (hA p false) hss hple
        rw [num_back (hgd.1 k1) hdrop, hset] at hb
        refine WStep.call (by simp (disch := omega) only [DC_w, DC_n, kill_0, Nat.sub_zero, Int.reduceSub, Int.reduceMul, Int.reduceNeg, Int.reduceAdd, ↓rD0, ↓rD1, ↓rD2, ↓rD3, ↓rD4, rU0, rU1, rU2, rU3, rU4, rU5, toNat_n, Int.reduceToNat, slA, ptrsA, boolsA, Int.reducePow, Nat.reducePow, Nat.reduceMul, Int.reduceLT, Int.reduceLE, resA, resL, res1, eq_self, wanted, evK, get, setO, one, faA, loadA, storeA, outA, lenA, isStr, binA, unA, bnd, ints, toDat, toDats, datss, fillA, splice, List.length_nil, List.flatten_nil, Nat.reduceAdd, Nat.reduceLeDiff, Nat.reduceBEq, Nat.reduceSub, if_true, ite_true, cond_true, cond_false, List.replicate, if_false, ite_false, reduceCtorEq]; exact hb) (hfr _ _) (by simp) ?_
        try simp (disch := omega) only [DC_w, DC_n, kill_0, Nat.sub_zero, Int.reduceSub, Int.reduceMul, Int.reduceNeg, Int.reduceAdd, ↓rD0, ↓rD1, ↓rD2, ↓rD3, ↓rD4, rU0, rU1, rU2, rU3, rU4, rU5, toNat_n, Int.reduceToNat, slA, ptrsA, boolsA, Int.reducePow, Nat.reducePow, Nat.reduceMul, Int.reduceLT, Int.reduceLE, resA, resL, res1, eq_self, wanted, evK, get, setO, one, faA, loadA, storeA, outA, lenA, isStr, binA, unA, bnd, ints, toDat, toDats, datss, fillA, splice, List.length_nil, List.flatten_nil, Nat.reduceAdd, Nat.reduceLeDiff, Nat.reduceBEq, Nat.reduceSub, if_true, ite_true, cond_true, cond_false, List.replicate, if_false, ite_false, reduceCtorEq]
        repeat (rw [DC_p]; simp (disch := omega) only [hia, It.c, DC_w, DC_n, kill_0, Nat.sub_zero, Int.reduceSub, Int.reduceMul, Int.reduceNeg, Int.reduceAdd, ↓rD0, ↓rD1, ↓rD2, ↓rD3, ↓rD4, rU0, rU1, rU2, rU3, rU4, rU5, toNat_n, Int.reduceToNat, slA, ptrsA, boolsA, Int.reducePow, Nat.reducePow, Nat.reduceMul, Int.reduceLT, Int.reduceLE, resA, resL, res1, eq_self, wanted, evK, get, setO, one, faA, loadA, storeA, outA, lenA, isStr, binA, unA, bnd, ints, toDat, toDats, datss, fillA, splice, List.length_nil, List.flatten_nil, Nat.reduceAdd, Nat.reduceLeDiff, Nat.reduceBEq, Nat.reduceSub, if_true, ite_true, cond_true, cond_false, List.replicate, if_false, ite_false, reduceCtorEq])
        rw [← hnext]
        exact Nxt.mk (i + 1) (by omega) (Wk.slots (by rw [hS2]; exact WkL.tail 9 _ rfl (by simp only [List.take_succ_cons, List.take_zero]; repeat' first | exact WkL.nil | refine WkL.cons (Wk1.rfl _) ?_ | refine WkL.cons Wk1.esl ?_ | refine WkL.cons (Wk1.gsl _ _ _) ?_ | refine WkL.cons (Wk1.any _) ?_))) (by omega)
      by_cases k2 : x.kind = 2
      · have ee : enc x = wordB (x.n % 4294967296) := by rw [enc, if_neg k0, if_neg k1, if_pos k2]
        rw [ee] at hdrop hnext
        rw [show (wordB (x.n % 4294967296)).length = 4 from rfl] at hnext
        simp (disch := omega) only [hS2, c7l0, hia, It.c, List.length_map, k2, DC_w, DC_n, kill_0, Nat.sub_zero, Int.reduceSub, Int.reduceMul, Int.reduceNeg, Int.reduceAdd, ↓rD0, ↓rD1, ↓rD2, ↓rD3, ↓rD4, rU0, rU1, rU2, rU3, rU4, rU5, toNat_n, Int.reduceToNat, slA, ptrsA, boolsA, Int.reducePow, Nat.reducePow, Nat.reduceMul, Int.reduceLT, Int.reduceLE, resA, resL, res1, eq_self, wanted, evK, get, setO, one, faA, loadA, storeA, outA, lenA, isStr, binA, unA, bnd, ints, toDat, toDats, datss, fillA, splice, List.length_nil, List.flatten_nil, Nat.reduceAdd, Nat.reduceLeDiff, Nat.reduceBEq, Nat.reduceSub, if_true, ite_true, cond_true, cond_false, List.replicate, if_false, ite_false, reduceCtorEq]
        refine W.dregD [([], []), ([G.length], []), ([], [G.length]), ([], [G.length]), ([], [G.length]), ([], [G.length]), ([], [G.length]), ([], [G.length]), ([], [])] follows (by decide +kernel) rfl rfl (fun z hz b hb => ?_) ?_
        · have : b = G.length ∧ z.2 = [] := by
            simp only [List.mem_cons, List.not_mem_nil, or_false] at hz
            rcases hz with rfl | rfl | rfl | rfl | rfl | rfl | rfl | rfl | rfl <;> simp at hb ⊢ <;> exact hb
          rw [this.1, this.2, hA]
          simp
        repeat (rw [DC_p]; simp (disch := omega) only [DC_w, DC_n, kill_0, Nat.sub_zero, Int.reduceSub, Int.reduceMul, Int.reduceNeg, Int.reduceAdd, ↓rD0, ↓rD1, ↓rD2, ↓rD3, ↓rD4, rU0, rU1, rU2, rU3, rU4, rU5, toNat_n, Int.reduceToNat, slA, ptrsA, boolsA, Int.reducePow, Nat.reducePow, Nat.reduceMul, Int.reduceLT, Int.reduceLE, resA, resL, res1, eq_self, wanted, evK, get, setO, one, faA, loadA, storeA, outA, lenA, isStr, binA, unA, bnd, ints, toDat, toDats, datss, fillA, splice, List.length_nil, List.flatten_nil, Nat.reduceAdd, Nat.reduceLeDiff, Nat.reduceBEq, Nat.reduceSub, if_true, ite_true, cond_true, cond_false, List.replicate, if_false, ite_false, reduceCtorEq])
        have hb := word_c (hA p false) hss hple
        rw [word_back (by omega) (by omega) hdrop, hset] at hb
        refine WStep.call (by simp (disch := omega) only [DC_w, DC_n, kill_0, Nat.sub_zero, Int.reduceSub, Int.reduceMul, Int.reduceNeg, Int.reduceAdd, ↓rD0, ↓rD1, ↓rD2, ↓rD3, ↓rD4, rU0, rU1, rU2, rU3, rU4, rU5, toNat_n, Int.reduceToNat, slA, ptrsA, boolsA, Int.reducePow, Nat.reducePow, Nat.reduceMul, Int.reduceLT, Int.reduceLE, resA, resL, res1, eq_self, wanted, evK, get, setO, one, faA, loadA, storeA, outA, lenA, isStr, binA, unA, bnd, ints, toDat, toDats, datss, fillA, splice, List.length_nil, List.flatten_nil, Nat.reduceAdd, Nat.reduceLeDiff, Nat.reduceBEq, Nat.reduceSub, if_true, ite_true, cond_true, cond_false, List.replicate, if_false, ite_false, reduceCtorEq]; exact hb) (hfr _ _) (by simp) ?_
        try simp (disch := omega) only [DC_w, DC_n, kill_0, Nat.sub_zero, Int.reduceSub, Int.reduceMul, Int.reduceNeg, Int.reduceAdd, ↓rD0, ↓rD1, ↓rD2, ↓rD3, ↓rD4, rU0, rU1, rU2, rU3, rU4, rU5, toNat_n, Int.reduceToNat, slA, ptrsA, boolsA, Int.reducePow, Nat.reducePow, Nat.reduceMul, Int.reduceLT, Int.reduceLE, resA, resL, res1, eq_self, wanted, evK, get, setO, one, faA, loadA, storeA, outA, lenA, isStr, binA, unA, bnd, ints, toDat, toDats, datss, fillA, splice, List.length_nil, List.flatten_nil, Nat.reduceAdd, Nat.reduceLeDiff, Nat.reduceBEq, Nat.reduceSub, if_true, ite_true, cond_true, cond_false, List.replicate, if_false, ite_false, reduceCtorEq]
        repeat (rw [DC_p]; simp (disch := omega) only [hia, It.c, DC_w, DC_n, kill_0, Nat.sub_zero, Int.reduceSub, Int.reduceMul, Int.reduceNeg, Int.reduceAdd, ↓rD0, ↓rD1, ↓rD2, ↓rD3, ↓rD4, rU0, rU1, rU2, rU3, rU4, rU5, toNat_n, Int.reduceToNat, slA, ptrsA, boolsA, Int.reducePow, Nat.reducePow, Nat.reduceMul, Int.reduceLT, Int.reduceLE, resA, resL, res1, eq_self, wanted, evK, get, setO, one, faA, loadA, storeA, outA, lenA, isStr, binA, unA, bnd, ints, toDat, toDats, datss, fillA, splice, List.length_nil, List.flatten_nil, Nat.reduceAdd, Nat.reduceLeDiff, Nat.reduceBEq, Nat.reduceSub, if_true, ite_true, cond_true, cond_false, List.replicate, if_false, ite_false, reduceCtorEq])
        rw [← hnext]
        exact Nxt.mk (i + 1) (by omega) (Wk.slots (by rw [hS2]; exact WkL.tail 9 _ rfl (by simp only [List.take_succ_cons, List.take_zero]; repeat' first | exact WkL.nil | refine WkL.cons (Wk1.rfl _) ?_ | refine WkL.cons Wk1.esl ?_ | refine WkL.cons (Wk1.gsl _ _ _) ?_ | refine WkL.cons (Wk1.any _) ?_))) (by omega)
      by_cases k3 : x.kind = 3
      · have ee : enc x = x.text.data.toList ++ [0] := by rw [enc, if_neg k0, if_neg k1, if_neg k2, if_pos k3]
        rw [ee] at hdrop hnext
        rw [List.length_append, len_data, List.length_singleton] at hnext
        simp (disch := omega) only [hS2, c7l0, hia, It.c, List.length_map, k3, DC_w, DC_n, kill_0, Nat.sub_zero, Int.reduceSub, Int.reduceMul, Int.reduceNeg, Int.reduceAdd, ↓rD0, ↓rD1, ↓rD2, ↓rD3, ↓rD4, rU0, rU1, rU2, rU3, rU4, rU5, toNat_n, Int.reduceToNat, slA, ptrsA, boolsA, Int.reducePow, Nat.reducePow, Nat.reduceMul, Int.reduceLT, Int.reduceLE, resA, resL, res1, eq_self, wanted, evK, get, setO, one, faA, loadA, storeA, outA, lenA, isStr, binA, unA, bnd, ints, toDat, toDats, datss, fillA, splice, List.length_nil, List.flatten_nil, Nat.reduceAdd, Nat.reduceLeDiff, Nat.reduceBEq, Nat.reduceSub, if_true, ite_true, cond_true, cond_false, List.replicate, if_false, ite_false, reduceCtorEq]
        refine W.dregD [([], []), ([G.length], []), ([], [G.length]), ([], [G.length]), ([], [G.length]), ([], [G.length]), ([], [G.length]), ([], [])] follows (by decide +kernel) rfl rfl (fun z hz b hb => ?_) ?_
        · have : b = G.length ∧ z.2 = [] := by
            simp only [List.mem_cons, List.not_mem_nil, or_false] at hz
            rcases hz with rfl | rfl | rfl | rfl | rfl | rfl | rfl | rfl <;> simp at hb ⊢ <;> exact hb
          rw [this.1, this.2, hA]
          simp
        repeat (rw [DC_p]; simp (disch := omega) only [DC_w, DC_n, kill_0, Nat.sub_zero, Int.reduceSub, Int.reduceMul, Int.reduceNeg, Int.reduceAdd, ↓rD0, ↓rD1, ↓rD2, ↓rD3, ↓rD4, rU0, rU1, rU2, rU3, rU4, rU5, toNat_n, Int.reduceToNat, slA, ptrsA, boolsA, Int.reducePow, Nat.reducePow, Nat.reduceMul, Int.reduceLT, Int.reduceLE, resA, resL, res1, eq_self, wanted, evK, get, setO, one, faA, loadA, storeA, outA, lenA, isStr, binA, unA, bnd, ints, toDat, toDats, datss, fillA, splice, List.length_nil, List.flatten_nil, Nat.reduceAdd, Nat.reduceLeDiff, Nat.reduceBEq, Nat.reduceSub, if_true, ite_true, cond_true, cond_false, List.replicate, if_false, ite_false, reduceCtorEq])
        have hb := text_c (hA p false) hss hple
        rw [text_back (hgd.2 k3) hdrop, hset] at hb
        refine WStep.call (by simp (disch := omega) only [DC_w, DC_n, kill_0, Nat.sub_zero, Int.reduceSub, Int.reduceMul, Int.reduceNeg, Int.reduceAdd, ↓rD0, ↓rD1, ↓rD2, ↓rD3, ↓rD4, rU0, rU1, rU2, rU3, rU4, rU5, toNat_n, Int.reduceToNat, slA, ptrsA, boolsA, Int.reducePow, Nat.reducePow, Nat.reduceMul, Int.reduceLT, Int.reduceLE, resA, resL, res1, eq_self, wanted, evK, get, setO, one, faA, loadA, storeA, outA, lenA, isStr, binA, unA, bnd, ints, toDat, toDats, datss, fillA, splice, List.length_nil, List.flatten_nil, Nat.reduceAdd, Nat.reduceLeDiff, Nat.reduceBEq, Nat.reduceSub, if_true, ite_true, cond_true, cond_false, List.replicate, if_false, ite_false, reduceCtorEq]; exact hb) (hfr _ _) (by simp) ?_
        try simp (disch := omega) only [DC_w, DC_n, kill_0, Nat.sub_zero, Int.reduceSub, Int.reduceMul, Int.reduceNeg, Int.reduceAdd, ↓rD0, ↓rD1, ↓rD2, ↓rD3, ↓rD4, rU0, rU1, rU2, rU3, rU4, rU5, toNat_n, Int.reduceToNat, slA, ptrsA, boolsA, Int.reducePow, Nat.reducePow, Nat.reduceMul, Int.reduceLT, Int.reduceLE, resA, resL, res1, eq_self, wanted, evK, get, setO, one, faA, loadA, storeA, outA, lenA, isStr, binA, unA, bnd, ints, toDat, toDats, datss, fillA, splice, List.length_nil, List.flatten_nil, Nat.reduceAdd, Nat.reduceLeDiff, Nat.reduceBEq, Nat.reduceSub, if_true, ite_true, cond_true, cond_false, List.replicate, if_false, ite_false, reduceCtorEq]
        repeat (rw [DC_p]; simp (disch := omega) only [hia, It.c, DC_w, DC_n, kill_0, Nat.sub_zero, Int.reduceSub, Int.reduceMul, Int.reduceNeg, Int.reduceAdd, ↓rD0, ↓rD1, ↓rD2, ↓rD3, ↓rD4, rU0, rU1, rU2, rU3, rU4, rU5, toNat_n, Int.reduceToNat, slA, ptrsA, boolsA, Int.reducePow, Nat.reducePow, Nat.reduceMul, Int.reduceLT, Int.reduceLE, resA, resL, res1, eq_self, wanted, evK, get, setO, one, faA, loadA, storeA, outA, lenA, isStr, binA, unA, bnd, ints, toDat, toDats, datss, fillA, splice, List.length_nil, List.flatten_nil, Nat.reduceAdd, Nat.reduceLeDiff, Nat.reduceBEq, Nat.reduceSub, if_true, ite_true, cond_true, cond_false, List.replicate, if_false, ite_false, reduceCtorEq])
        rw [← hnext]
        exact Nxt.mk (i + 1) (by omega) (Wk.slots (by rw [hS2]; exact WkL.tail 9 _ rfl (by simp only [List.take_succ_cons, List.take_zero]; repeat' first | exact WkL.nil | refine WkL.cons (Wk1.rfl _) ?_ | refine WkL.cons Wk1.esl ?_ | refine WkL.cons (Wk1.gsl _ _ _) ?_ | refine WkL.cons (Wk1.any _) ?_))) (by omega)
      have ee := enc_ne k0 k1 k2 k3
      rw [ee] at hnext
      simp only [List.length_nil, Nat.add_zero] at hnext
      simp (disch := omega) only [hS2, c7l0, hia, It.c, List.length_map, DC_w, DC_n, kill_0, Nat.sub_zero, Int.reduceSub, Int.reduceMul, Int.reduceNeg, Int.reduceAdd, ↓rD0, ↓rD1, ↓rD2, ↓rD3, ↓rD4, rU0, rU1, rU2, rU3, rU4, rU5, toNat_n, Int.reduceToNat, slA, ptrsA, boolsA, Int.reducePow, Nat.reducePow, Nat.reduceMul, Int.reduceLT, Int.reduceLE, resA, resL, res1, eq_self, wanted, evK, get, setO, one, faA, loadA, storeA, outA, lenA, isStr, binA, unA, bnd, ints, toDat, toDats, datss, fillA, splice, List.length_nil, List.flatten_nil, Nat.reduceAdd, Nat.reduceLeDiff, Nat.reduceBEq, Nat.reduceSub, if_true, ite_true, cond_true, cond_false, List.replicate, if_false, ite_false, reduceCtorEq]
      rw [← hnext]
      exact Nxt.mk (i + 1) (by omega) (Wk.slots (by rw [hS2]; exact WkL.tail 9 _ rfl (by simp only [List.take_succ_cons, List.take_zero]; repeat' first | exact WkL.nil | refine WkL.cons (Wk1.rfl _) ?_ | refine WkL.cons Wk1.esl ?_ | refine WkL.cons (Wk1.gsl _ _ _) ?_ | refine WkL.cons (Wk1.any _) ?_))) (by omega)
    · have hie : i = l.length := by omega
      have hpe : pos i = s.size := by rw [hpos, hie, List.take_length, ← hsl, len_data]
      rw [hpe]
      simp (disch := omega) only [hS2, c7l0, List.length_map, DC_w, DC_n, kill_0, Nat.sub_zero, Int.reduceSub, Int.reduceMul, Int.reduceNeg, Int.reduceAdd, ↓rD0, ↓rD1, ↓rD2, ↓rD3, ↓rD4, rU0, rU1, rU2, rU3, rU4, rU5, toNat_n, Int.reduceToNat, slA, ptrsA, boolsA, Int.reducePow, Nat.reducePow, Nat.reduceMul, Int.reduceLT, Int.reduceLE, resA, resL, res1, eq_self, wanted, evK, get, setO, one, faA, loadA, storeA, outA, lenA, isStr, binA, unA, bnd, ints, toDat, toDats, datss, fillA, splice, List.length_nil, List.flatten_nil, Nat.reduceAdd, Nat.reduceLeDiff, Nat.reduceBEq, Nat.reduceSub, if_true, ite_true, cond_true, cond_false, List.replicate, if_false, ite_false, reduceCtorEq]
      refine Cont.mk (end_c (hA s.size false)) ?_
      rw [show endF s ⟨s.size, false⟩ = true by simp [endF]]
      simp (disch := omega) only [DC_w, DC_n, kill_0, Nat.sub_zero, Int.reduceSub, Int.reduceMul, Int.reduceNeg, Int.reduceAdd, ↓rD0, ↓rD1, ↓rD2, ↓rD3, ↓rD4, rU0, rU1, rU2, rU3, rU4, rU5, toNat_n, Int.reduceToNat, slA, ptrsA, boolsA, Int.reducePow, Nat.reducePow, Nat.reduceMul, Int.reduceLT, Int.reduceLE, resA, resL, res1, eq_self, wanted, evK, get, setO, one, faA, loadA, storeA, outA, lenA, isStr, binA, unA, bnd, ints, toDat, toDats, datss, fillA, splice, List.length_nil, List.flatten_nil, Nat.reduceAdd, Nat.reduceLeDiff, Nat.reduceBEq, Nat.reduceSub, if_true, ite_true, cond_true, cond_false, List.replicate, if_false, ite_false, reduceCtorEq]
      refine Cont.mk (bad_c (hA s.size false)) ?_
      simp (disch := omega) only [DC_w, DC_n, kill_0, Nat.sub_zero, Int.reduceSub, Int.reduceMul, Int.reduceNeg, Int.reduceAdd, ↓rD0, ↓rD1, ↓rD2, ↓rD3, ↓rD4, rU0, rU1, rU2, rU3, rU4, rU5, toNat_n, Int.reduceToNat, slA, ptrsA, boolsA, Int.reducePow, Nat.reducePow, Nat.reduceMul, Int.reduceLT, Int.reduceLE, resA, resL, res1, eq_self, wanted, evK, get, setO, one, faA, loadA, storeA, outA, lenA, isStr, binA, unA, bnd, ints, toDat, toDats, datss, fillA, splice, List.length_nil, List.flatten_nil, Nat.reduceAdd, Nat.reduceLeDiff, Nat.reduceBEq, Nat.reduceSub, if_true, ite_true, cond_true, cond_false, List.replicate, if_false, ite_false, reduceCtorEq]
      refine Cont.mk (at_c (hA s.size false)) ?_
      simp (disch := omega) only [DC_w, DC_n, kill_0, Nat.sub_zero, Int.reduceSub, Int.reduceMul, Int.reduceNeg, Int.reduceAdd, ↓rD0, ↓rD1, ↓rD2, ↓rD3, ↓rD4, rU0, rU1, rU2, rU3, rU4, rU5, toNat_n, Int.reduceToNat, slA, ptrsA, boolsA, Int.reducePow, Nat.reducePow, Nat.reduceMul, Int.reduceLT, Int.reduceLE, resA, resL, res1, eq_self, wanted, evK, get, setO, one, faA, loadA, storeA, outA, lenA, isStr, binA, unA, bnd, ints, toDat, toDats, datss, fillA, splice, List.length_nil, List.flatten_nil, Nat.reduceAdd, Nat.reduceLeDiff, Nat.reduceBEq, Nat.reduceSub, if_true, ite_true, cond_true, cond_false, List.replicate, if_false, ite_false, reduceCtorEq]
      refine Cont.mk (wakes_c _) ?_
      simp (disch := omega) only [DC_w, DC_n, kill_0, Nat.sub_zero, Int.reduceSub, Int.reduceMul, Int.reduceNeg, Int.reduceAdd, ↓rD0, ↓rD1, ↓rD2, ↓rD3, ↓rD4, rU0, rU1, rU2, rU3, rU4, rU5, toNat_n, Int.reduceToNat, slA, ptrsA, boolsA, Int.reducePow, Nat.reducePow, Nat.reduceMul, Int.reduceLT, Int.reduceLE, resA, resL, res1, eq_self, wanted, evK, get, setO, one, faA, loadA, storeA, outA, lenA, isStr, binA, unA, bnd, ints, toDat, toDats, datss, fillA, splice, List.length_nil, List.flatten_nil, Nat.reduceAdd, Nat.reduceLeDiff, Nat.reduceBEq, Nat.reduceSub, if_true, ite_true, cond_true, cond_false, List.replicate, if_false, ite_false, reduceCtorEq]
      exact Ret.pre _ H (hp.trans (pre_app _ _)) (Nat.le_refl _) hcl (.rfl _) (by simp [refs]) ⟨rfl, rfl⟩
end Go.Proofs.Ytipjjcaflcpplaa
