/- RiderNums. -/
import Derived.Test.YtipjjcaflcpplaaWk6
namespace Go.Proofs.Ytipjjcaflcpplaa
set_option linter.unusedSimpArgs false
set_option linter.unusedVariables false
set_option maxRecDepth 20000
set_option maxHeartbeats 2000000
open Go.RowKit

theorem RiderNums_c (n : Int) (hn0 : -9223372036854775808 ≤ n) (hn1 : n < 9223372036854775808) (H : List ABlk) : ACalls Try.prog 3 [iv n] H fun v H' => v = bv true ∧ H' = H := by
  refine ACalls.into Try.func3 cc3 rr3 fun hcl => ?_
  simp (disch := omega) only [Try.ntmps3, c3, r3, DC_w, DC_n, kill_0, Nat.sub_zero, Int.reduceSub, Int.reduceMul, Int.reduceNeg, Int.reduceAdd, ↓rD0, ↓rD1, ↓rD2, ↓rD3, ↓rD4, rU0, rU1, rU2, rU3, rU4, rU5, toNat_n, Int.reduceToNat, slA, ptrsA, boolsA, Int.reducePow, Nat.reducePow, Nat.reduceMul, Int.reduceLT, Int.reduceLE, resA, resL, res1, eq_self, wanted, evK, get, setO, one, faA, loadA, storeA, outA, lenA, isStr, binA, unA, bnd, ints, toDat, toDats, datss, fillA, splice, List.length_nil, List.flatten_nil, Nat.reduceAdd, Nat.reduceLeDiff, Nat.reduceBEq, Nat.reduceSub, if_true, ite_true, cond_true, cond_false, List.replicate, if_false, ite_false, reduceCtorEq]
  refine Cont.mk (write_c H) ?_
  simp (disch := omega) only [DC_w, DC_n, kill_0, Nat.sub_zero, Int.reduceSub, Int.reduceMul, Int.reduceNeg, Int.reduceAdd, ↓rD0, ↓rD1, ↓rD2, ↓rD3, ↓rD4, rU0, rU1, rU2, rU3, rU4, rU5, toNat_n, Int.reduceToNat, slA, ptrsA, boolsA, Int.reducePow, Nat.reducePow, Nat.reduceMul, Int.reduceLT, Int.reduceLE, resA, resL, res1, eq_self, wanted, evK, get, setO, one, faA, loadA, storeA, outA, lenA, isStr, binA, unA, bnd, ints, toDat, toDats, datss, fillA, splice, List.length_nil, List.flatten_nil, Nat.reduceAdd, Nat.reduceLeDiff, Nat.reduceBEq, Nat.reduceSub, if_true, ite_true, cond_true, cond_false, List.replicate, if_false, ite_false, reduceCtorEq]
  have o1 : Ow H (WF H.length .esl) (H ++ [.cells [.esl, bv false, bv false]]) := ⟨pre_app _ _, fun b hb => by simp [WF, rowB] at hb; omega⟩
  refine Cont.rel (numW_c (WrAt.new H) n) ?_
  rintro v H2 ⟨rfl, x2, h2, k2⟩
  have o2 := o1.chg k2
  simp (disch := omega) only [DC_w, DC_n, kill_0, Nat.sub_zero, Int.reduceSub, Int.reduceMul, Int.reduceNeg, Int.reduceAdd, ↓rD0, ↓rD1, ↓rD2, ↓rD3, ↓rD4, rU0, rU1, rU2, rU3, rU4, rU5, toNat_n, Int.reduceToNat, slA, ptrsA, boolsA, Int.reducePow, Nat.reducePow, Nat.reduceMul, Int.reduceLT, Int.reduceLE, resA, resL, res1, eq_self, wanted, evK, get, setO, one, faA, loadA, storeA, outA, lenA, isStr, binA, unA, bnd, ints, toDat, toDats, datss, fillA, splice, List.length_nil, List.flatten_nil, Nat.reduceAdd, Nat.reduceLeDiff, Nat.reduceBEq, Nat.reduceSub, if_true, ite_true, cond_true, cond_false, List.replicate, if_false, ite_false, reduceCtorEq]
  refine Cont.mk (bytesW_c h2) ?_
  by_cases hf : fit32 n
  · have e2 : numW ⟨[], false, false⟩ n = ⟨comp7 n, false, false⟩ := by
      rw [numW, if_pos hf, putW, if_neg (by simp), List.nil_append, decide_eq_false (by have := comp7_le n; omega)]
    rw [e2]
    obtain ⟨f1, f2⟩ := hf
    have hcl5 := comp7_len (n := n) ⟨f1, f2⟩
    have hpos := comp7_pos n
    have hle := comp7_le n
    obtain ⟨t, ht⟩ : ∃ t : ByteArray, t = ⟨(comp7 n).toArray⟩ := ⟨_, rfl⟩
    have htl : t.data.toList = comp7 n := by rw [ht]
    have hts : t.size = (comp7 n).length := by rw [← len_data, htl]
    rw [if_neg (by simp), if_neg (by simp), ← ht]
    simp (disch := omega) only [DC_w, DC_n, kill_0, Nat.sub_zero, Int.reduceSub, Int.reduceMul, Int.reduceNeg, Int.reduceAdd, ↓rD0, ↓rD1, ↓rD2, ↓rD3, ↓rD4, rU0, rU1, rU2, rU3, rU4, rU5, toNat_n, Int.reduceToNat, slA, ptrsA, boolsA, Int.reducePow, Nat.reducePow, Nat.reduceMul, Int.reduceLT, Int.reduceLE, resA, resL, res1, eq_self, wanted, evK, get, setO, one, faA, loadA, storeA, outA, lenA, isStr, binA, unA, bnd, ints, toDat, toDats, datss, fillA, splice, List.length_nil, List.flatten_nil, Nat.reduceAdd, Nat.reduceLeDiff, Nat.reduceBEq, Nat.reduceSub, if_true, ite_true, cond_true, cond_false, List.replicate, if_false, ite_false, reduceCtorEq]
    obtain ⟨S, hS⟩ : ∃ S : Nat → List AV, ∀ k, S k = [iv n, .any, .any, .any, sv t, iv 0, iv k] ++ List.replicate 103 .any := ⟨_, fun _ => rfl⟩
    refine W.loopG (γ := Nat) (fun k => 5 - k) S (fun _ => H2) (fun k => 1 ≤ k ∧ k ≤ (comp7 n).length) 1 (Wk.slots (by rw [hS]; exact WkL.tail 7 _ rfl (by simp only [List.take_succ_cons, List.take_zero]; repeat' first | exact WkL.nil | refine WkL.cons (Wk1.rfl _) ?_ | refine WkL.cons Wk1.esl ?_ | refine WkL.cons (Wk1.gsl _ _ _) ?_ | refine WkL.cons (Wk1.any _) ?_))) ⟨Nat.le_refl _, hpos⟩ (fun k hk => ?_)
    obtain ⟨q1, q2⟩ := hk
    have hk5 : k = 1 ∨ k = 2 ∨ k = 3 ∨ k = 4 ∨ k = 5 := by omega
    have next : ∀ (Kk : Prop), (k < (comp7 n).length → (n < -1 * 2 ^ (7 * k - 1) ∨ n ≥ 2 ^ (7 * k - 1)) → k < 5 → Kk) → (k = (comp7 n).length → (k = 5 ∨ (k < 5 ∧ ¬ (n < -1 * 2 ^ (7 * k - 1)) ∧ ¬ (n ≥ 2 ^ (7 * k - 1)))) → Kk) → Kk := by
      intro Kk a b
      by_cases hlt : k < (comp7 n).length
      · refine a hlt ?_ (by omega)
        rw [hcl5] at hlt
        rcases hk5 with rfl | rfl | rfl | rfl | rfl <;> (try simp only [Int.reducePow, Nat.reduceMul, Nat.reduceSub, Int.reduceMul, Int.reduceNeg]) <;> (repeat' split at hlt) <;> omega
      · refine b (by omega) ?_
        have hke : k = (comp7 n).length := by omega
        rw [hcl5] at hke
        rcases hk5 with rfl | rfl | rfl | rfl | rfl <;> (try simp only [Int.reducePow, Nat.reduceMul, Nat.reduceSub, Int.reduceMul, Int.reduceNeg]) <;> (repeat' split at hke) <;> first | omega | simp
    have e7 : ((7 : Int) * (k : Int) - 1).toNat = 7 * k - 1 := by omega
    have hpw : (2 : Int) ^ (7 * k - 1) ≤ 2 ^ 34 ∧ 0 < (2 : Int) ^ (7 * k - 1) := by
      rcases hk5 with rfl | rfl | rfl | rfl | rfl <;> decide
    have hpw34 : (2 : Int) ^ 34 = 17179869184 := by decide
    refine next _ (fun hlt hcond hk5' => ?_) (fun hke hcond => ?_)
    · rcases hcond with hc1 | hc1
      · simp (disch := omega) only [hS, c3l1, e7, DC_w, DC_n, kill_0, Nat.sub_zero, Int.reduceSub, Int.reduceMul, Int.reduceNeg, Int.reduceAdd, ↓rD0, ↓rD1, ↓rD2, ↓rD3, ↓rD4, rU0, rU1, rU2, rU3, rU4, rU5, toNat_n, Int.reduceToNat, slA, ptrsA, boolsA, Int.reducePow, Nat.reducePow, Nat.reduceMul, Int.reduceLT, Int.reduceLE, resA, resL, res1, eq_self, wanted, evK, get, setO, one, faA, loadA, storeA, outA, lenA, isStr, binA, unA, bnd, ints, toDat, toDats, datss, fillA, splice, List.length_nil, List.flatten_nil, Nat.reduceAdd, Nat.reduceLeDiff, Nat.reduceBEq, Nat.reduceSub, if_true, ite_true, cond_true, cond_false, List.replicate, if_false, ite_false, reduceCtorEq]
        exact Nxt.mk (k + 1) (by omega) (Wk.slots (by rw [hS]; exact WkL.tail 7 _ rfl (by simp only [List.take_succ_cons, List.take_zero]; repeat' first | exact WkL.nil | refine WkL.cons (Wk1.rfl _) ?_ | refine WkL.cons Wk1.esl ?_ | refine WkL.cons (Wk1.gsl _ _ _) ?_ | refine WkL.cons (Wk1.any _) ?_))) ⟨by omega, by omega⟩
      · have hc2 : ¬ (n < -1 * 2 ^ (7 * k - 1)) := by omega
        simp (disch := omega) only [hS, c3l1, e7, DC_w, DC_n, kill_0, Nat.sub_zero, Int.reduceSub, Int.reduceMul, Int.reduceNeg, Int.reduceAdd, ↓rD0, ↓rD1, ↓rD2, ↓rD3, ↓rD4, rU0, rU1, rU2, rU3, rU4, rU5, toNat_n, Int.reduceToNat, slA, ptrsA, boolsA, Int.reducePow, Nat.reducePow, Nat.reduceMul, Int.reduceLT, Int.reduceLE, resA, resL, res1, eq_self, wanted, evK, get, setO, one, faA, loadA, storeA, outA, lenA, isStr, binA, unA, bnd, ints, toDat, toDats, datss, fillA, splice, List.length_nil, List.flatten_nil, Nat.reduceAdd, Nat.reduceLeDiff, Nat.reduceBEq, Nat.reduceSub, if_true, ite_true, cond_true, cond_false, List.replicate, if_false, ite_false, reduceCtorEq]
        exact Nxt.mk (k + 1) (by omega) (Wk.slots (by rw [hS]; exact WkL.tail 7 _ rfl (by simp only [List.take_succ_cons, List.take_zero]; repeat' first | exact WkL.nil | refine WkL.cons (Wk1.rfl _) ?_ | refine WkL.cons Wk1.esl ?_ | refine WkL.cons (Wk1.gsl _ _ _) ?_ | refine WkL.cons (Wk1.any _) ?_))) ⟨by omega, by omega⟩
    · have after : ∀ (G : Prop), (k = 5 → G) → (k < 5 → ¬ (n < -1 * 2 ^ (7 * k - 1)) → ¬ (n ≥ 2 ^ (7 * k - 1)) → G) → G := fun G a b => by
        rcases hcond with h | ⟨h, h', h''⟩
        · exact a h
        · exact b h h' h''
      obtain ⟨S3, hS3⟩ : ∃ S3 : Nat → List AV, ∀ i, S3 i = [iv n, .any, .any, .any, sv t, iv 0, iv k, iv i] ++ List.replicate 102 .any := ⟨_, fun _ => rfl⟩
      refine after _ (fun hk5' => ?_) (fun hk5' hc1 hc2 => ?_) <;> (
        simp (disch := omega) only [hS, c3l1, e7, DC_w, DC_n, kill_0, Nat.sub_zero, Int.reduceSub, Int.reduceMul, Int.reduceNeg, Int.reduceAdd, ↓rD0, ↓rD1, ↓rD2, ↓rD3, ↓rD4, rU0, rU1, rU2, rU3, rU4, rU5, toNat_n, Int.reduceToNat, slA, ptrsA, boolsA, Int.reducePow, Nat.reducePow, Nat.reduceMul, Int.reduceLT, Int.reduceLE, resA, resL, res1, eq_self, wanted, evK, get, setO, one, faA, loadA, storeA, outA, lenA, isStr, binA, unA, bnd, ints, toDat, toDats, datss, fillA, splice, List.length_nil, List.flatten_nil, Nat.reduceAdd, Nat.reduceLeDiff, Nat.reduceBEq, Nat.reduceSub, if_true, ite_true, cond_true, cond_false, List.replicate, if_false, ite_false, reduceCtorEq]
        refine W.loopG (γ := Nat) (fun i => t.size - i) S3 (fun _ => H2) (fun i => i ≤ t.size) 0 (Wk.slots (by rw [hS3]; exact WkL.tail 8 _ rfl (by simp only [List.take_succ_cons, List.take_zero]; repeat' first | exact WkL.nil | refine WkL.cons (Wk1.rfl _) ?_ | refine WkL.cons Wk1.esl ?_ | refine WkL.cons (Wk1.gsl _ _ _) ?_ | refine WkL.cons (Wk1.any _) ?_))) (Nat.zero_le _) (fun i hi => ?_)
        by_cases hit : i < t.size
        · have hgi : (comp7 n)[i]? = some (t.data.toList.getD i 0) := by
            rw [htl, List.getD_eq_getElem?_getD, List.getElem?_eq_getElem (by omega)]; rfl
          have hhi := cmp_high 4 n i _ hgi
          have hchr := (t.data.toList.getD i 0).toNat_lt
          by_cases h8 : 128 ≤ (t.data.toList.getD i 0).toNat
          · have hl2 : i + 1 < t.size := by rw [hts]; exact hhi.1 h8
            simp (disch := omega) only [hS3, c3l0, DC_w, DC_n, kill_0, Nat.sub_zero, Int.reduceSub, Int.reduceMul, Int.reduceNeg, Int.reduceAdd, ↓rD0, ↓rD1, ↓rD2, ↓rD3, ↓rD4, rU0, rU1, rU2, rU3, rU4, rU5, toNat_n, Int.reduceToNat, slA, ptrsA, boolsA, Int.reducePow, Nat.reducePow, Nat.reduceMul, Int.reduceLT, Int.reduceLE, resA, resL, res1, eq_self, wanted, evK, get, setO, one, faA, loadA, storeA, outA, lenA, isStr, binA, unA, bnd, ints, toDat, toDats, datss, fillA, splice, List.length_nil, List.flatten_nil, Nat.reduceAdd, Nat.reduceLeDiff, Nat.reduceBEq, Nat.reduceSub, if_true, ite_true, cond_true, cond_false, List.replicate, if_false, ite_false, reduceCtorEq]
            exact Nxt.mk (i + 1) (by omega) (Wk.slots (by rw [hS3]; exact WkL.tail 8 _ rfl (by simp only [List.take_succ_cons, List.take_zero]; repeat' first | exact WkL.nil | refine WkL.cons (Wk1.rfl _) ?_ | refine WkL.cons Wk1.esl ?_ | refine WkL.cons (Wk1.gsl _ _ _) ?_ | refine WkL.cons (Wk1.any _) ?_))) (by omega)
          · have hl2 : ¬ i + 1 < t.size := by rw [hts]; exact fun e => h8 (hhi.2 e)
            simp (disch := omega) only [hS3, c3l0, DC_w, DC_n, kill_0, Nat.sub_zero, Int.reduceSub, Int.reduceMul, Int.reduceNeg, Int.reduceAdd, ↓rD0, ↓rD1, ↓rD2, ↓rD3, ↓rD4, rU0, rU1, rU2, rU3, rU4, rU5, toNat_n, Int.reduceToNat, slA, ptrsA, boolsA, Int.reducePow, Nat.reducePow, Nat.reduceMul, Int.reduceLT, Int.reduceLE, resA, resL, res1, eq_self, wanted, evK, get, setO, one, faA, loadA, storeA, outA, lenA, isStr, binA, unA, bnd, ints, toDat, toDats, datss, fillA, splice, List.length_nil, List.flatten_nil, Nat.reduceAdd, Nat.reduceLeDiff, Nat.reduceBEq, Nat.reduceSub, if_true, ite_true, cond_true, cond_false, List.replicate, if_false, ite_false, reduceCtorEq]
            exact Nxt.mk (i + 1) (by omega) (Wk.slots (by rw [hS3]; exact WkL.tail 8 _ rfl (by simp only [List.take_succ_cons, List.take_zero]; repeat' first | exact WkL.nil | refine WkL.cons (Wk1.rfl _) ?_ | refine WkL.cons Wk1.esl ?_ | refine WkL.cons (Wk1.gsl _ _ _) ?_ | refine WkL.cons (Wk1.any _) ?_))) (by omega)
        · have hz : (⟨#[128]⟩ : ByteArray).size = 1 := rfl
          have hltm : ¬ ((t.size : Int) + 1 > IntKind.i64.max) := by
            have : IntKind.i64.max = 9223372036854775807 := by decide
            omega
          have hus : (t ++ ⟨#[128]⟩).size = t.size + 1 := by rw [app_size, hz]
          have hul : (t ++ ⟨#[128]⟩).data.toList = comp7 n ++ [128] := by rw [app_data, htl]
          simp (disch := omega) only [hS3, c3l0, hz, hltm, DC_w, DC_n, kill_0, Nat.sub_zero, Int.reduceSub, Int.reduceMul, Int.reduceNeg, Int.reduceAdd, ↓rD0, ↓rD1, ↓rD2, ↓rD3, ↓rD4, rU0, rU1, rU2, rU3, rU4, rU5, toNat_n, Int.reduceToNat, slA, ptrsA, boolsA, Int.reducePow, Nat.reducePow, Nat.reduceMul, Int.reduceLT, Int.reduceLE, resA, resL, res1, eq_self, wanted, evK, get, setO, one, faA, loadA, storeA, outA, lenA, isStr, binA, unA, bnd, ints, toDat, toDats, datss, fillA, splice, List.length_nil, List.flatten_nil, Nat.reduceAdd, Nat.reduceLeDiff, Nat.reduceBEq, Nat.reduceSub, if_true, ite_true, cond_true, cond_false, List.replicate, if_false, ite_false, reduceCtorEq]
          refine Cont.mk (read_c _ _) ?_
          generalize t ++ ⟨#[128]⟩ = u at hus hul ⊢
          have hset : ∀ x y : ABlk, (H2 ++ [x]).set H2.length y = H2 ++ [y] := fun x y => by rw [hs0]; rfl
          have hA : ∀ a b, (H2 ++ [rd u a b])[H2.length]? = some (rd u (Rd.mk a b).a (Rd.mk a b).bad) := fun a b => by rw [hg0]; rfl
          have u1 : numF u ⟨0, false⟩ = (n, ⟨(comp7 n).length, false⟩) := by
            rw [numF, if_neg (by simp)]
            show (match decN (u.data.toList.drop 0) with | some p => _ | none => _) = _
            rw [List.drop_zero, hul, decN_comp ⟨f1, f2⟩]
            simp
          have u2 : numF u ⟨(comp7 n).length, false⟩ = (0, ⟨(comp7 n).length, true⟩) := by
            rw [numF, if_neg (by simp)]
            show (match decN (u.data.toList.drop (comp7 n).length) with | some p => _ | none => _) = _
            rw [hul, List.drop_left]
            rfl
          have hkc : t.size = k := by omega
          simp (disch := omega) only [hkc, DC_w, DC_n, kill_0, Nat.sub_zero, Int.reduceSub, Int.reduceMul, Int.reduceNeg, Int.reduceAdd, ↓rD0, ↓rD1, ↓rD2, ↓rD3, ↓rD4, rU0, rU1, rU2, rU3, rU4, rU5, toNat_n, Int.reduceToNat, slA, ptrsA, boolsA, Int.reducePow, Nat.reducePow, Nat.reduceMul, Int.reduceLT, Int.reduceLE, resA, resL, res1, eq_self, wanted, evK, get, setO, one, faA, loadA, storeA, outA, lenA, isStr, binA, unA, bnd, ints, toDat, toDats, datss, fillA, splice, List.length_nil, List.flatten_nil, Nat.reduceAdd, Nat.reduceLeDiff, Nat.reduceBEq, Nat.reduceSub, if_true, ite_true, cond_true, cond_false, List.replicate, if_false, ite_false, reduceCtorEq]
          refine Cont.mk (num_c (hA 0 false) (by omega) (by simp)) ?_
          rw [u1]
          simp (disch := omega) only [hset, DC_w, DC_n, kill_0, Nat.sub_zero, Int.reduceSub, Int.reduceMul, Int.reduceNeg, Int.reduceAdd, ↓rD0, ↓rD1, ↓rD2, ↓rD3, ↓rD4, rU0, rU1, rU2, rU3, rU4, rU5, toNat_n, Int.reduceToNat, slA, ptrsA, boolsA, Int.reducePow, Nat.reducePow, Nat.reduceMul, Int.reduceLT, Int.reduceLE, resA, resL, res1, eq_self, wanted, evK, get, setO, one, faA, loadA, storeA, outA, lenA, isStr, binA, unA, bnd, ints, toDat, toDats, datss, fillA, splice, List.length_nil, List.flatten_nil, Nat.reduceAdd, Nat.reduceLeDiff, Nat.reduceBEq, Nat.reduceSub, if_true, ite_true, cond_true, cond_false, List.replicate, if_false, ite_false, reduceCtorEq]
          refine Cont.mk (at_c (hA _ false)) ?_
          rw [← hke]
          simp (disch := omega) only [DC_w, DC_n, kill_0, Nat.sub_zero, Int.reduceSub, Int.reduceMul, Int.reduceNeg, Int.reduceAdd, ↓rD0, ↓rD1, ↓rD2, ↓rD3, ↓rD4, rU0, rU1, rU2, rU3, rU4, rU5, toNat_n, Int.reduceToNat, slA, ptrsA, boolsA, Int.reducePow, Nat.reducePow, Nat.reduceMul, Int.reduceLT, Int.reduceLE, resA, resL, res1, eq_self, wanted, evK, get, setO, one, faA, loadA, storeA, outA, lenA, isStr, binA, unA, bnd, ints, toDat, toDats, datss, fillA, splice, List.length_nil, List.flatten_nil, Nat.reduceAdd, Nat.reduceLeDiff, Nat.reduceBEq, Nat.reduceSub, if_true, ite_true, cond_true, cond_false, List.replicate, if_false, ite_false, reduceCtorEq]
          refine Cont.mk (num_c (hA k false) (by omega) (by show k ≤ u.size; omega)) ?_
          rw [hke, u2, ← hke]
          simp (disch := omega) only [hset, DC_w, DC_n, kill_0, Nat.sub_zero, Int.reduceSub, Int.reduceMul, Int.reduceNeg, Int.reduceAdd, ↓rD0, ↓rD1, ↓rD2, ↓rD3, ↓rD4, rU0, rU1, rU2, rU3, rU4, rU5, toNat_n, Int.reduceToNat, slA, ptrsA, boolsA, Int.reducePow, Nat.reducePow, Nat.reduceMul, Int.reduceLT, Int.reduceLE, resA, resL, res1, eq_self, wanted, evK, get, setO, one, faA, loadA, storeA, outA, lenA, isStr, binA, unA, bnd, ints, toDat, toDats, datss, fillA, splice, List.length_nil, List.flatten_nil, Nat.reduceAdd, Nat.reduceLeDiff, Nat.reduceBEq, Nat.reduceSub, if_true, ite_true, cond_true, cond_false, List.replicate, if_false, ite_false, reduceCtorEq]
          refine Cont.mk (bad_c (hA k true)) ?_
          simp (disch := omega) only [DC_w, DC_n, kill_0, Nat.sub_zero, Int.reduceSub, Int.reduceMul, Int.reduceNeg, Int.reduceAdd, ↓rD0, ↓rD1, ↓rD2, ↓rD3, ↓rD4, rU0, rU1, rU2, rU3, rU4, rU5, toNat_n, Int.reduceToNat, slA, ptrsA, boolsA, Int.reducePow, Nat.reducePow, Nat.reduceMul, Int.reduceLT, Int.reduceLE, resA, resL, res1, eq_self, wanted, evK, get, setO, one, faA, loadA, storeA, outA, lenA, isStr, binA, unA, bnd, ints, toDat, toDats, datss, fillA, splice, List.length_nil, List.flatten_nil, Nat.reduceAdd, Nat.reduceLeDiff, Nat.reduceBEq, Nat.reduceSub, if_true, ite_true, cond_true, cond_false, List.replicate, if_false, ite_false, reduceCtorEq]
          refine Cont.mk (at_c (hA k true)) ?_
          simp (disch := omega) only [DC_w, DC_n, kill_0, Nat.sub_zero, Int.reduceSub, Int.reduceMul, Int.reduceNeg, Int.reduceAdd, ↓rD0, ↓rD1, ↓rD2, ↓rD3, ↓rD4, rU0, rU1, rU2, rU3, rU4, rU5, toNat_n, Int.reduceToNat, slA, ptrsA, boolsA, Int.reducePow, Nat.reducePow, Nat.reduceMul, Int.reduceLT, Int.reduceLE, resA, resL, res1, eq_self, wanted, evK, get, setO, one, faA, loadA, storeA, outA, lenA, isStr, binA, unA, bnd, ints, toDat, toDats, datss, fillA, splice, List.length_nil, List.flatten_nil, Nat.reduceAdd, Nat.reduceLeDiff, Nat.reduceBEq, Nat.reduceSub, if_true, ite_true, cond_true, cond_false, List.replicate, if_false, ite_false, reduceCtorEq]
          refine Cont.mk (wakes_c _) ?_
          simp (disch := omega) only [DC_w, DC_n, kill_0, Nat.sub_zero, Int.reduceSub, Int.reduceMul, Int.reduceNeg, Int.reduceAdd, ↓rD0, ↓rD1, ↓rD2, ↓rD3, ↓rD4, rU0, rU1, rU2, rU3, rU4, rU5, toNat_n, Int.reduceToNat, slA, ptrsA, boolsA, Int.reducePow, Nat.reducePow, Nat.reduceMul, Int.reduceLT, Int.reduceLE, resA, resL, res1, eq_self, wanted, evK, get, setO, one, faA, loadA, storeA, outA, lenA, isStr, binA, unA, bnd, ints, toDat, toDats, datss, fillA, splice, List.length_nil, List.flatten_nil, Nat.reduceAdd, Nat.reduceLeDiff, Nat.reduceBEq, Nat.reduceSub, if_true, ite_true, cond_true, cond_false, List.replicate, if_false, ite_false, reduceCtorEq]
          exact Ret.pre _ H (o2.1.trans (pre_app _ _)) (Nat.le_refl _) hcl (.rfl _) (by simp [refs]) ⟨rfl, rfl⟩)
  · have e2 : numW ⟨[], false, false⟩ n = ⟨[], true, false⟩ := by rw [numW, if_neg hf]
    rw [e2]
    have hor : n < -2147483648 ∨ n ≥ 2147483648 := by unfold fit32 at hf; omega
    rw [if_pos rfl]
    rcases hor with h | h
    · simp (disch := omega) only [DC_w, DC_n, kill_0, Nat.sub_zero, Int.reduceSub, Int.reduceMul, Int.reduceNeg, Int.reduceAdd, ↓rD0, ↓rD1, ↓rD2, ↓rD3, ↓rD4, rU0, rU1, rU2, rU3, rU4, rU5, toNat_n, Int.reduceToNat, slA, ptrsA, boolsA, Int.reducePow, Nat.reducePow, Nat.reduceMul, Int.reduceLT, Int.reduceLE, resA, resL, res1, eq_self, wanted, evK, get, setO, one, faA, loadA, storeA, outA, lenA, isStr, binA, unA, bnd, ints, toDat, toDats, datss, fillA, splice, List.length_nil, List.flatten_nil, Nat.reduceAdd, Nat.reduceLeDiff, Nat.reduceBEq, Nat.reduceSub, if_true, ite_true, cond_true, cond_false, List.replicate, if_false, ite_false, reduceCtorEq]
      refine Cont.mk (wakes_c _) ?_
      simp (disch := omega) only [DC_w, DC_n, kill_0, Nat.sub_zero, Int.reduceSub, Int.reduceMul, Int.reduceNeg, Int.reduceAdd, ↓rD0, ↓rD1, ↓rD2, ↓rD3, ↓rD4, rU0, rU1, rU2, rU3, rU4, rU5, toNat_n, Int.reduceToNat, slA, ptrsA, boolsA, Int.reducePow, Nat.reducePow, Nat.reduceMul, Int.reduceLT, Int.reduceLE, resA, resL, res1, eq_self, wanted, evK, get, setO, one, faA, loadA, storeA, outA, lenA, isStr, binA, unA, bnd, ints, toDat, toDats, datss, fillA, splice, List.length_nil, List.flatten_nil, Nat.reduceAdd, Nat.reduceLeDiff, Nat.reduceBEq, Nat.reduceSub, if_true, ite_true, cond_true, cond_false, List.replicate, if_false, ite_false, reduceCtorEq]
      exact Ret.pre _ H o2.1 (Nat.le_refl _) hcl (.rfl _) (by simp [refs]) ⟨rfl, rfl⟩
    · have h' : ¬ n < -2147483648 := by omega
      simp (disch := omega) only [DC_w, DC_n, kill_0, Nat.sub_zero, Int.reduceSub, Int.reduceMul, Int.reduceNeg, Int.reduceAdd, ↓rD0, ↓rD1, ↓rD2, ↓rD3, ↓rD4, rU0, rU1, rU2, rU3, rU4, rU5, toNat_n, Int.reduceToNat, slA, ptrsA, boolsA, Int.reducePow, Nat.reducePow, Nat.reduceMul, Int.reduceLT, Int.reduceLE, resA, resL, res1, eq_self, wanted, evK, get, setO, one, faA, loadA, storeA, outA, lenA, isStr, binA, unA, bnd, ints, toDat, toDats, datss, fillA, splice, List.length_nil, List.flatten_nil, Nat.reduceAdd, Nat.reduceLeDiff, Nat.reduceBEq, Nat.reduceSub, if_true, ite_true, cond_true, cond_false, List.replicate, if_false, ite_false, reduceCtorEq]
      refine Cont.mk (wakes_c _) ?_
      simp (disch := omega) only [DC_w, DC_n, kill_0, Nat.sub_zero, Int.reduceSub, Int.reduceMul, Int.reduceNeg, Int.reduceAdd, ↓rD0, ↓rD1, ↓rD2, ↓rD3, ↓rD4, rU0, rU1, rU2, rU3, rU4, rU5, toNat_n, Int.reduceToNat, slA, ptrsA, boolsA, Int.reducePow, Nat.reducePow, Nat.reduceMul, Int.reduceLT, Int.reduceLE, resA, resL, res1, eq_self, wanted, evK, get, setO, one, faA, loadA, storeA, outA, lenA, isStr, binA, unA, bnd, ints, toDat, toDats, datss, fillA, splice, List.length_nil, List.flatten_nil, Nat.reduceAdd, Nat.reduceLeDiff, Nat.reduceBEq, Nat.reduceSub, if_true, ite_true, cond_true, cond_false, List.replicate, if_false, ite_false, reduceCtorEq]
      exact Ret.pre _ H o2.1 (Nat.le_refl _) hcl (.rfl _) (by simp [refs]) ⟨rfl, rfl⟩
end Go.Proofs.Ytipjjcaflcpplaa
