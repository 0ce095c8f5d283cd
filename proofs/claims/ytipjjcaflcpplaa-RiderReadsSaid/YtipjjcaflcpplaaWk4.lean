/- The reader: numbers, words, texts. -/
import Derived.Test.YtipjjcaflcpplaaWk3
namespace Go.Proofs.Ytipjjcaflcpplaa
set_option linter.unusedSimpArgs false
set_option linter.unusedVariables false
set_option maxRecDepth 20000
set_option maxHeartbeats 2000000
open Go.RowKit

def numF (s : ByteArray) (r : Rd) : Int × Rd :=
  if r.bad = true then (0, r) else match decN (s.data.toList.drop r.a) with
    | some p => (p.1, ⟨r.a + p.2, false⟩)
    | none => (0, ⟨r.a, true⟩)
theorem dec_le : ∀ (d : Nat) (l : List UInt8) (k : Nat) (n : Int) (p : Int × Nat), dec d l k n = some p → p.2 ≤ k + l.length
  | 0, l, k, n, p, h => by simp [dec] at h
  | d + 1, [], k, n, p, h => by simp [dec] at h
  | d + 1, c :: r, k, n, p, h => by
    simp only [dec] at h
    split at h
    · have := dec_le d r (k + 1) _ p h
      simp only [List.length_cons]; omega
    · split at h <;> split at h <;> first | (cases h; simp; done) | cases h
theorem numF_le {s : ByteArray} {r : Rd} (h : r.a ≤ s.size) : (numF s r).2.a ≤ s.size := by
  unfold numF
  split
  · exact h
  · split
    · rename_i p hp
      have := dec_le _ _ _ _ _ hp
      rw [List.length_drop, len_data] at this
      show r.a + p.2 ≤ s.size
      omega
    · exact h
theorem and127c {c : Nat} (h : c < 256) : ((BitVec.ofInt IntKind.u8.bits (c : Int) &&& BitVec.ofInt IntKind.u8.bits 127).toNat : Int) % 256 = ((c % 128 : Nat) : Int) := by
  have := and127 (c : Int)
  rw [Int.emod_eq_of_lt (by omega) (by omega)] at this
  show ((BitVec.ofInt 8 (c : Int) &&& BitVec.ofInt 8 127).toNat : Int) % 256 = _
  rw [this]; omega
theorem and64c {c : Nat} (h : c < 128) : decide (((BitVec.ofInt IntKind.u8.bits (c : Int) &&& BitVec.ofInt IntKind.u8.bits 64).toNat : Int) % 256 = 0) = decide (¬ 64 ≤ c) := by
  have : ∀ x : Fin 128, decide (((BitVec.ofNat 8 x.val &&& BitVec.ofInt 8 64).toNat : Int) % 256 = 0) = decide (¬ 64 ≤ x.val) := by decide +kernel
  have := this ⟨c, h⟩
  rw [← BitVec.ofInt_natCast] at this
  exact this
theorem or64 {a x : Int} {k : Nat} (h0 : 0 ≤ a) (h1 : a < 2 ^ k) (hk : k < 64) (h2 : -9223372036854775808 ≤ a + x * 2 ^ k) (h3 : a + x * 2 ^ k < 9223372036854775808) : IntKind.i64.wrap ((BitVec.ofInt IntKind.i64.bits a ||| BitVec.ofInt IntKind.i64.bits (x * 2 ^ k)).toNat : Int) = a + x * 2 ^ k := by
  show IntKind.i64.wrap ((BitVec.ofInt 64 a ||| BitVec.ofInt 64 (x * 2 ^ k)).toNat : Int) = _
  rw [or_low h0 h1 hk, to64 h2 h3]
theorem pow7 (k : Nat) : (2 : Int) ^ (7 * k) = 128 ^ k := by rw [Int.pow_mul]; rfl
structure NmG where
  k : Nat
  n : Int
theorem num_c {H : List ABlk} {rb : Nat} {s : ByteArray} {r : Rd} (h : H[rb]? = some (rd s r.a r.bad)) (hs : s.size ≤ 300000) (ha : r.a ≤ s.size) : ACalls Try.prog 13 [.ptr rb 0] H fun v H' => v = iv (numF s r).1 ∧ H' = H.set rb (rd s (numF s r).2.a (numF s r).2.bad) := by
  refine ACalls.into Try.func13 cc13 rr13 fun hcl => ?_
  have hS : ∀ x, (H.set rb x)[rb]? = some x := fun x => getset_eq h
  obtain ⟨a, bad⟩ := r
  simp only at h ha
  cases bad with
  | true =>
    simp (disch := omega) only [Try.ntmps13, c13, r13, h, DC_w, DC_n, kill_0, Nat.sub_zero, Int.reduceSub, Int.reduceMul, Int.reduceNeg, Int.reduceAdd, ↓rD0, ↓rD1, ↓rD2, ↓rD3, ↓rD4, rU0, rU1, rU2, rU3, rU4, rU5, toNat_n, Int.reduceToNat, slA, ptrsA, boolsA, Int.reducePow, Nat.reducePow, Nat.reduceMul, Int.reduceLT, Int.reduceLE, resA, resL, res1, eq_self, wanted, evK, get, setO, one, faA, loadA, storeA, outA, lenA, isStr, binA, unA, bnd, ints, toDat, toDats, datss, fillA, splice, List.length_nil, List.flatten_nil, Nat.reduceAdd, Nat.reduceLeDiff, Nat.reduceBEq, Nat.reduceSub, if_true, ite_true, cond_true, cond_false, List.replicate, if_false, ite_false, reduceCtorEq]
    exact Ret.keep ⟨rfl, by simp only [numF, if_true]; rw [set_self h]⟩
  | false =>
    simp (disch := omega) only [Try.ntmps13, c13, r13, h, DC_w, DC_n, kill_0, Nat.sub_zero, Int.reduceSub, Int.reduceMul, Int.reduceNeg, Int.reduceAdd, ↓rD0, ↓rD1, ↓rD2, ↓rD3, ↓rD4, rU0, rU1, rU2, rU3, rU4, rU5, toNat_n, Int.reduceToNat, slA, ptrsA, boolsA, Int.reducePow, Nat.reducePow, Nat.reduceMul, Int.reduceLT, Int.reduceLE, resA, resL, res1, eq_self, wanted, evK, get, setO, one, faA, loadA, storeA, outA, lenA, isStr, binA, unA, bnd, ints, toDat, toDats, datss, fillA, splice, List.length_nil, List.flatten_nil, Nat.reduceAdd, Nat.reduceLeDiff, Nat.reduceBEq, Nat.reduceSub, if_true, ite_true, cond_true, cond_false, List.replicate, if_false, ite_false, reduceCtorEq]
    refine W.pchain follows (by decide +kernel) ?_
    simp (disch := omega) only [h, DC_w, DC_n, kill_0, Nat.sub_zero, Int.reduceSub, Int.reduceMul, Int.reduceNeg, Int.reduceAdd, ↓rD0, ↓rD1, ↓rD2, ↓rD3, ↓rD4, rU0, rU1, rU2, rU3, rU4, rU5, toNat_n, Int.reduceToNat, slA, ptrsA, boolsA, Int.reducePow, Nat.reducePow, Nat.reduceMul, Int.reduceLT, Int.reduceLE, resA, resL, res1, eq_self, wanted, evK, get, setO, one, faA, loadA, storeA, outA, lenA, isStr, binA, unA, bnd, ints, toDat, toDats, datss, fillA, splice, List.length_nil, List.flatten_nil, Nat.reduceAdd, Nat.reduceLeDiff, Nat.reduceBEq, Nat.reduceSub, if_true, ite_true, cond_true, cond_false, List.replicate, if_false, ite_false, reduceCtorEq]
    obtain ⟨t, ht⟩ : ∃ t, t = s.extract a s.size := ⟨_, rfl⟩
    have htl : t.data.toList = s.data.toList.drop a := by
      rw [ht, ex_list, List.take_of_length_le (by rw [List.length_drop, len_data]; omega)]
    have hts : t.size = s.size - a := by rw [ht, ex_size _ _ _ (Nat.le_refl _)]
    obtain ⟨S, hS2⟩ : ∃ S : NmG → List AV, ∀ g, S g = [.ptr rb 0, .any, .any, sv t, iv g.n, iv g.k] ++ List.replicate 70 .any := ⟨_, fun _ => rfl⟩
    rw [← ht]
    have fin : ∀ o, decN (s.data.toList.drop a) = o → numF s ⟨a, false⟩ = match o with
        | some p => (p.1, ⟨a + p.2, false⟩)
        | none => (0, ⟨a, true⟩) := fun o ho => by rw [numF, if_neg (by simp), ho]
    refine W.loopG (γ := NmG) (fun g => 5 - g.k) S (fun _ => H) (fun g => g.k ≤ 5 ∧ g.k ≤ t.size ∧ decN t.data.toList = dec (5 - g.k) (t.data.toList.drop g.k) g.k g.n ∧ 0 ≤ g.n ∧ g.n < 128 ^ g.k) ⟨0, 0⟩ (Wk.slots (by rw [hS2]; exact WkL.tail 6 _ rfl (by simp only [List.take_succ_cons, List.take_zero]; repeat' first | exact WkL.nil | refine WkL.cons (Wk1.rfl _) ?_ | refine WkL.cons Wk1.esl ?_ | refine WkL.cons (Wk1.gsl _ _ _) ?_ | refine WkL.cons (Wk1.any _) ?_))) ⟨by show (0 : Nat) ≤ 5; omega, Nat.zero_le _, rfl, by decide, by decide⟩ (fun g hg => ?_)
    obtain ⟨q1, q2, q3, q4, q5⟩ := hg
    have hgiveup : decN t.data.toList = none → Ret r13 H.length (fun v H' => v = iv (numF s ⟨a, false⟩).1 ∧ H' = H.set rb (rd s (numF s ⟨a, false⟩).2.a (numF s ⟨a, false⟩).2.bad)) (some (iv 0)) (H.set rb (rd s a true)) := fun hd => by
      rw [htl] at hd
      rw [fin none hd]
      exact Ret.keep ⟨rfl, rfl⟩
    simp only [r13] at hgiveup
    by_cases u1 : g.k < t.size
    · by_cases u2 : g.k < 5
      · have hdrop : t.data.toList.drop g.k = t.data.toList.getD g.k 0 :: t.data.toList.drop (g.k + 1) := by
          rw [List.drop_eq_getElem_cons (by rw [len_data]; exact u1), List.getD_eq_getElem?_getD, List.getElem?_eq_getElem (by rw [len_data]; exact u1)]; rfl
        obtain ⟨d, hd⟩ : ∃ d, 5 - g.k = d + 1 := ⟨4 - g.k, by omega⟩
        rw [hd, hdrop] at q3
        have hd2 : 5 - (g.k + 1) = d := by omega
        have hclt := (t.data.toList.getD g.k 0).toNat_lt
        obtain ⟨c, hcc⟩ : ∃ c, t.data.toList.getD g.k 0 = c := ⟨_, rfl⟩
        rw [hcc] at q3 hclt
        have hpk : (128 : Int) ^ g.k ≤ 268435456 := by
          rcases (by omega : g.k = 0 ∨ g.k = 1 ∨ g.k = 2 ∨ g.k = 3 ∨ g.k = 4) with e | e | e | e | e <;> rw [e] <;> decide
        have hp1 : (0 : Int) < 128 ^ g.k := Int.pow_pos (by decide)
        have hc2 : (((c.toNat % 128 : Nat) : Int)) * 128 ^ g.k ≤ 127 * 128 ^ g.k := Int.mul_le_mul_of_nonneg_right (by omega) (by omega)
        have hc3 : 0 ≤ (((c.toNat % 128 : Nat) : Int)) * 128 ^ g.k := Int.mul_nonneg (by omega) (by omega)
        have e7 : (7 * (g.k : Int)).toNat = 7 * g.k := by omega
        have eor : IntKind.i64.wrap ((BitVec.ofInt IntKind.i64.bits g.n ||| BitVec.ofInt IntKind.i64.bits (((c.toNat % 128 : Nat) : Int) * 128 ^ g.k)).toNat : Int) = g.n + ((c.toNat % 128 : Nat) : Int) * 128 ^ g.k := by
          have := or64 (a := g.n) (x := ((c.toNat % 128 : Nat) : Int)) (k := 7 * g.k) q4 (by rw [pow7]; exact q5) (by omega) (by rw [pow7]; omega) (by rw [pow7]; omega)
          rwa [pow7] at this
        have hq5 : g.n + ((c.toNat % 128 : Nat) : Int) * 128 ^ g.k < 128 ^ (g.k + 1) := by rw [Int.pow_succ]; omega
        by_cases u3 : 128 ≤ c.toNat
        · rw [dec, if_pos u3, ← hd2] at q3
          simp (disch := omega) only [hS2, c13l0, hcc, and127c hclt, e7, pow7, eor, DC_w, DC_n, kill_0, Nat.sub_zero, Int.reduceSub, Int.reduceMul, Int.reduceNeg, Int.reduceAdd, ↓rD0, ↓rD1, ↓rD2, ↓rD3, ↓rD4, rU0, rU1, rU2, rU3, rU4, rU5, toNat_n, Int.reduceToNat, slA, ptrsA, boolsA, Int.reducePow, Nat.reducePow, Nat.reduceMul, Int.reduceLT, Int.reduceLE, resA, resL, res1, eq_self, wanted, evK, get, setO, one, faA, loadA, storeA, outA, lenA, isStr, binA, unA, bnd, ints, toDat, toDats, datss, fillA, splice, List.length_nil, List.flatten_nil, Nat.reduceAdd, Nat.reduceLeDiff, Nat.reduceBEq, Nat.reduceSub, if_true, ite_true, cond_true, cond_false, List.replicate, if_false, ite_false, reduceCtorEq]
          exact Nxt.mk ⟨g.k + 1, g.n + ((c.toNat % 128 : Nat) : Int) * 128 ^ g.k⟩ (by show 5 - (g.k + 1) < 5 - g.k; omega) (Wk.slots (by rw [hS2]; exact WkL.tail 6 _ rfl (by simp only [List.take_succ_cons, List.take_zero]; repeat' first | exact WkL.nil | refine WkL.cons (Wk1.rfl _) ?_ | refine WkL.cons Wk1.esl ?_ | refine WkL.cons (Wk1.gsl _ _ _) ?_ | refine WkL.cons (Wk1.any _) ?_))) ⟨by show g.k + 1 ≤ 5; omega, by show g.k + 1 ≤ t.size; omega, q3, by show 0 ≤ g.n + _; omega, hq5⟩
        · have hand := and64c (c := c.toNat) (by omega)
          rw [dec, if_neg u3] at q3
          have e8 : (7 * ((g.k : Int) + 1)).toNat = 7 * (g.k + 1) := by omega
          by_cases u4 : 64 ≤ c.toNat
          · rw [decide_eq_false (p := ¬ 64 ≤ c.toNat) (by simpa using u4)] at hand
            rw [if_pos u4] at q3
            have ham : g.n + ((c.toNat % 128 : Nat) : Int) * 128 ^ g.k - 128 ^ (g.k + 1) = g.n + ((c.toNat % 128 : Nat) : Int) * 128 ^ g.k + -1 * 128 ^ (g.k + 1) := by omega
            have hpk2 : (128 : Int) ^ (g.k + 1) ≤ 34359738368 := by rw [Int.pow_succ]; omega
            have eor2 : IntKind.i64.wrap ((BitVec.ofInt IntKind.i64.bits (g.n + ((c.toNat % 128 : Nat) : Int) * 128 ^ g.k) ||| BitVec.ofInt IntKind.i64.bits (-1 * 128 ^ (g.k + 1))).toNat : Int) = g.n + ((c.toNat % 128 : Nat) : Int) * 128 ^ g.k + -1 * 128 ^ (g.k + 1) := by
              have := or64 (a := g.n + ((c.toNat % 128 : Nat) : Int) * 128 ^ g.k) (x := -1) (k := 7 * (g.k + 1)) (by omega) (by rw [pow7]; exact hq5) (by omega) (by rw [pow7]; omega) (by rw [pow7]; omega)
              rwa [pow7] at this
            simp (disch := omega) only [hS2, c13l0, hcc, and127c hclt, e7, e8, pow7, eor, hand, eor2, DC_w, DC_n, kill_0, Nat.sub_zero, Int.reduceSub, Int.reduceMul, Int.reduceNeg, Int.reduceAdd, ↓rD0, ↓rD1, ↓rD2, ↓rD3, ↓rD4, rU0, rU1, rU2, rU3, rU4, rU5, toNat_n, Int.reduceToNat, slA, ptrsA, boolsA, Int.reducePow, Nat.reducePow, Nat.reduceMul, Int.reduceLT, Int.reduceLE, resA, resL, res1, eq_self, wanted, evK, get, setO, one, faA, loadA, storeA, outA, lenA, isStr, binA, unA, bnd, ints, toDat, toDats, datss, fillA, splice, List.length_nil, List.flatten_nil, Nat.reduceAdd, Nat.reduceLeDiff, Nat.reduceBEq, Nat.reduceSub, if_true, ite_true, cond_true, cond_false, List.replicate, if_false, ite_false, reduceCtorEq]
            rw [ham] at q3
            generalize g.n + ((c.toNat % 128 : Nat) : Int) * 128 ^ g.k + -1 * 128 ^ (g.k + 1) = m at q3 ⊢
            refine Cont.mk (fits32_c m H) ?_
            by_cases f32 : fit32 m
            · simp (disch := omega) only [decide_eq_true f32, DC_w, DC_n, kill_0, Nat.sub_zero, Int.reduceSub, Int.reduceMul, Int.reduceNeg, Int.reduceAdd, ↓rD0, ↓rD1, ↓rD2, ↓rD3, ↓rD4, rU0, rU1, rU2, rU3, rU4, rU5, toNat_n, Int.reduceToNat, slA, ptrsA, boolsA, Int.reducePow, Nat.reducePow, Nat.reduceMul, Int.reduceLT, Int.reduceLE, resA, resL, res1, eq_self, wanted, evK, get, setO, one, faA, loadA, storeA, outA, lenA, isStr, binA, unA, bnd, ints, toDat, toDats, datss, fillA, splice, List.length_nil, List.flatten_nil, Nat.reduceAdd, Nat.reduceLeDiff, Nat.reduceBEq, Nat.reduceSub, if_true, ite_true, cond_true, cond_false, List.replicate, if_false, ite_false, reduceCtorEq]
              refine Cont.mk (compact_c m f32 H) ?_
              have hcs : (⟨(comp7 m).toArray⟩ : ByteArray).size = (comp7 m).length := by show (comp7 m).toArray.size = _; simp
              by_cases fl : (comp7 m).length = g.k + 1
              · rw [if_pos ⟨f32, fl⟩, htl] at q3
                have hcast : (a : Int) + ((g.k : Int) + 1) = ((a + (g.k + 1) : Nat) : Int) := by omega
                have hfi : ((g.k + 1 : Nat) : Int) = (g.k : Int) + 1 := by omega
                simp (disch := omega) only [hcs, fl, h, hS, DC_w, DC_n, kill_0, Nat.sub_zero, Int.reduceSub, Int.reduceMul, Int.reduceNeg, Int.reduceAdd, ↓rD0, ↓rD1, ↓rD2, ↓rD3, ↓rD4, rU0, rU1, rU2, rU3, rU4, rU5, toNat_n, Int.reduceToNat, slA, ptrsA, boolsA, Int.reducePow, Nat.reducePow, Nat.reduceMul, Int.reduceLT, Int.reduceLE, resA, resL, res1, eq_self, wanted, evK, get, setO, one, faA, loadA, storeA, outA, lenA, isStr, binA, unA, bnd, ints, toDat, toDats, datss, fillA, splice, List.length_nil, List.flatten_nil, Nat.reduceAdd, Nat.reduceLeDiff, Nat.reduceBEq, Nat.reduceSub, if_true, ite_true, cond_true, cond_false, List.replicate, if_false, ite_false, reduceCtorEq]
                rw [hcast]
                exact Ret.keep ⟨by rw [fin _ q3], by rw [fin _ q3]⟩
              · rw [if_neg (fun e => fl e.2)] at q3
                have fl2 : ¬ ((comp7 m).length : Int) = (g.k : Int) + 1 := by omega
                simp (disch := omega) only [hcs, fl2, h, hS, inB_o (id := 1) (id' := 0) (by decide), DC_w, DC_n, kill_0, Nat.sub_zero, Int.reduceSub, Int.reduceMul, Int.reduceNeg, Int.reduceAdd, ↓rD0, ↓rD1, ↓rD2, ↓rD3, ↓rD4, rU0, rU1, rU2, rU3, rU4, rU5, toNat_n, Int.reduceToNat, slA, ptrsA, boolsA, Int.reducePow, Nat.reducePow, Nat.reduceMul, Int.reduceLT, Int.reduceLE, resA, resL, res1, eq_self, wanted, evK, get, setO, one, faA, loadA, storeA, outA, lenA, isStr, binA, unA, bnd, ints, toDat, toDats, datss, fillA, splice, List.length_nil, List.flatten_nil, Nat.reduceAdd, Nat.reduceLeDiff, Nat.reduceBEq, Nat.reduceSub, if_true, ite_true, cond_true, cond_false, List.replicate, if_false, ite_false, reduceCtorEq]
                exact hgiveup q3
            · rw [if_neg (fun e => f32 e.1)] at q3
              simp (disch := omega) only [decide_eq_false f32, h, hS, inB_o (id := 1) (id' := 0) (by decide), DC_w, DC_n, kill_0, Nat.sub_zero, Int.reduceSub, Int.reduceMul, Int.reduceNeg, Int.reduceAdd, ↓rD0, ↓rD1, ↓rD2, ↓rD3, ↓rD4, rU0, rU1, rU2, rU3, rU4, rU5, toNat_n, Int.reduceToNat, slA, ptrsA, boolsA, Int.reducePow, Nat.reducePow, Nat.reduceMul, Int.reduceLT, Int.reduceLE, resA, resL, res1, eq_self, wanted, evK, get, setO, one, faA, loadA, storeA, outA, lenA, isStr, binA, unA, bnd, ints, toDat, toDats, datss, fillA, splice, List.length_nil, List.flatten_nil, Nat.reduceAdd, Nat.reduceLeDiff, Nat.reduceBEq, Nat.reduceSub, if_true, ite_true, cond_true, cond_false, List.replicate, if_false, ite_false, reduceCtorEq]
              exact hgiveup q3
          · rw [decide_eq_true (p := ¬ 64 ≤ c.toNat) u4] at hand
            rw [if_neg u4] at q3
            simp (disch := omega) only [hS2, c13l0, hcc, and127c hclt, e7, e8, pow7, eor, hand, DC_w, DC_n, kill_0, Nat.sub_zero, Int.reduceSub, Int.reduceMul, Int.reduceNeg, Int.reduceAdd, ↓rD0, ↓rD1, ↓rD2, ↓rD3, ↓rD4, rU0, rU1, rU2, rU3, rU4, rU5, toNat_n, Int.reduceToNat, slA, ptrsA, boolsA, Int.reducePow, Nat.reducePow, Nat.reduceMul, Int.reduceLT, Int.reduceLE, resA, resL, res1, eq_self, wanted, evK, get, setO, one, faA, loadA, storeA, outA, lenA, isStr, binA, unA, bnd, ints, toDat, toDats, datss, fillA, splice, List.length_nil, List.flatten_nil, Nat.reduceAdd, Nat.reduceLeDiff, Nat.reduceBEq, Nat.reduceSub, if_true, ite_true, cond_true, cond_false, List.replicate, if_false, ite_false, reduceCtorEq]
            generalize g.n + ((c.toNat % 128 : Nat) : Int) * 128 ^ g.k = m at q3 ⊢
            refine Cont.mk (fits32_c m H) ?_
            by_cases f32 : fit32 m
            · simp (disch := omega) only [decide_eq_true f32, DC_w, DC_n, kill_0, Nat.sub_zero, Int.reduceSub, Int.reduceMul, Int.reduceNeg, Int.reduceAdd, ↓rD0, ↓rD1, ↓rD2, ↓rD3, ↓rD4, rU0, rU1, rU2, rU3, rU4, rU5, toNat_n, Int.reduceToNat, slA, ptrsA, boolsA, Int.reducePow, Nat.reducePow, Nat.reduceMul, Int.reduceLT, Int.reduceLE, resA, resL, res1, eq_self, wanted, evK, get, setO, one, faA, loadA, storeA, outA, lenA, isStr, binA, unA, bnd, ints, toDat, toDats, datss, fillA, splice, List.length_nil, List.flatten_nil, Nat.reduceAdd, Nat.reduceLeDiff, Nat.reduceBEq, Nat.reduceSub, if_true, ite_true, cond_true, cond_false, List.replicate, if_false, ite_false, reduceCtorEq]
              refine Cont.mk (compact_c m f32 H) ?_
              have hcs : (⟨(comp7 m).toArray⟩ : ByteArray).size = (comp7 m).length := by show (comp7 m).toArray.size = _; simp
              by_cases fl : (comp7 m).length = g.k + 1
              · rw [if_pos ⟨f32, fl⟩, htl] at q3
                have hcast : (a : Int) + ((g.k : Int) + 1) = ((a + (g.k + 1) : Nat) : Int) := by omega
                have hfi : ((g.k + 1 : Nat) : Int) = (g.k : Int) + 1 := by omega
                simp (disch := omega) only [hcs, fl, h, hS, DC_w, DC_n, kill_0, Nat.sub_zero, Int.reduceSub, Int.reduceMul, Int.reduceNeg, Int.reduceAdd, ↓rD0, ↓rD1, ↓rD2, ↓rD3, ↓rD4, rU0, rU1, rU2, rU3, rU4, rU5, toNat_n, Int.reduceToNat, slA, ptrsA, boolsA, Int.reducePow, Nat.reducePow, Nat.reduceMul, Int.reduceLT, Int.reduceLE, resA, resL, res1, eq_self, wanted, evK, get, setO, one, faA, loadA, storeA, outA, lenA, isStr, binA, unA, bnd, ints, toDat, toDats, datss, fillA, splice, List.length_nil, List.flatten_nil, Nat.reduceAdd, Nat.reduceLeDiff, Nat.reduceBEq, Nat.reduceSub, if_true, ite_true, cond_true, cond_false, List.replicate, if_false, ite_false, reduceCtorEq]
                rw [hcast]
                exact Ret.keep ⟨by rw [fin _ q3], by rw [fin _ q3]⟩
              · rw [if_neg (fun e => fl e.2)] at q3
                have fl2 : ¬ ((comp7 m).length : Int) = (g.k : Int) + 1 := by omega
                simp (disch := omega) only [hcs, fl2, h, hS, inB_o (id := 1) (id' := 0) (by decide), DC_w, DC_n, kill_0, Nat.sub_zero, Int.reduceSub, Int.reduceMul, Int.reduceNeg, Int.reduceAdd, ↓rD0, ↓rD1, ↓rD2, ↓rD3, ↓rD4, rU0, rU1, rU2, rU3, rU4, rU5, toNat_n, Int.reduceToNat, slA, ptrsA, boolsA, Int.reducePow, Nat.reducePow, Nat.reduceMul, Int.reduceLT, Int.reduceLE, resA, resL, res1, eq_self, wanted, evK, get, setO, one, faA, loadA, storeA, outA, lenA, isStr, binA, unA, bnd, ints, toDat, toDats, datss, fillA, splice, List.length_nil, List.flatten_nil, Nat.reduceAdd, Nat.reduceLeDiff, Nat.reduceBEq, Nat.reduceSub, if_true, ite_true, cond_true, cond_false, List.replicate, if_false, ite_false, reduceCtorEq]
                exact hgiveup q3
            · rw [if_neg (fun e => f32 e.1)] at q3
              simp (disch := omega) only [decide_eq_false f32, h, hS, inB_o (id := 1) (id' := 0) (by decide), DC_w, DC_n, kill_0, Nat.sub_zero, Int.reduceSub, Int.reduceMul, Int.reduceNeg, Int.reduceAdd, ↓rD0, ↓rD1, ↓rD2, ↓rD3, ↓rD4, rU0, rU1, rU2, rU3, rU4, rU5, toNat_n, Int.reduceToNat, slA, ptrsA, boolsA, Int.reducePow, Nat.reducePow, Nat.reduceMul, Int.reduceLT, Int.reduceLE, resA, resL, res1, eq_self, wanted, evK, get, setO, one, faA, loadA, storeA, outA, lenA, isStr, binA, unA, bnd, ints, toDat, toDats, datss, fillA, splice, List.length_nil, List.flatten_nil, Nat.reduceAdd, Nat.reduceLeDiff, Nat.reduceBEq, Nat.reduceSub, if_true, ite_true, cond_true, cond_false, List.replicate, if_false, ite_false, reduceCtorEq]
              exact hgiveup q3
      · have hk5 : g.k = 5 := by omega
        have hno : decN t.data.toList = none := by rw [q3, hk5]; rfl
        simp (disch := omega) only [hS2, c13l0, h, DC_w, DC_n, kill_0, Nat.sub_zero, Int.reduceSub, Int.reduceMul, Int.reduceNeg, Int.reduceAdd, ↓rD0, ↓rD1, ↓rD2, ↓rD3, ↓rD4, rU0, rU1, rU2, rU3, rU4, rU5, toNat_n, Int.reduceToNat, slA, ptrsA, boolsA, Int.reducePow, Nat.reducePow, Nat.reduceMul, Int.reduceLT, Int.reduceLE, resA, resL, res1, eq_self, wanted, evK, get, setO, one, faA, loadA, storeA, outA, lenA, isStr, binA, unA, bnd, ints, toDat, toDats, datss, fillA, splice, List.length_nil, List.flatten_nil, Nat.reduceAdd, Nat.reduceLeDiff, Nat.reduceBEq, Nat.reduceSub, if_true, ite_true, cond_true, cond_false, List.replicate, if_false, ite_false, reduceCtorEq]
        exact hgiveup hno
    · have hke : g.k = t.size := by omega
      have hno : decN t.data.toList = none := by
        rw [q3, hke, List.drop_eq_nil_of_le (by rw [len_data]; exact Nat.le_refl _)]
        cases 5 - t.size <;> rfl
      simp (disch := omega) only [hS2, c13l0, h, DC_w, DC_n, kill_0, Nat.sub_zero, Int.reduceSub, Int.reduceMul, Int.reduceNeg, Int.reduceAdd, ↓rD0, ↓rD1, ↓rD2, ↓rD3, ↓rD4, rU0, rU1, rU2, rU3, rU4, rU5, toNat_n, Int.reduceToNat, slA, ptrsA, boolsA, Int.reducePow, Nat.reducePow, Nat.reduceMul, Int.reduceLT, Int.reduceLE, resA, resL, res1, eq_self, wanted, evK, get, setO, one, faA, loadA, storeA, outA, lenA, isStr, binA, unA, bnd, ints, toDat, toDats, datss, fillA, splice, List.length_nil, List.flatten_nil, Nat.reduceAdd, Nat.reduceLeDiff, Nat.reduceBEq, Nat.reduceSub, if_true, ite_true, cond_true, cond_false, List.replicate, if_false, ite_false, reduceCtorEq]
      exact hgiveup hno
end Go.Proofs.Ytipjjcaflcpplaa
