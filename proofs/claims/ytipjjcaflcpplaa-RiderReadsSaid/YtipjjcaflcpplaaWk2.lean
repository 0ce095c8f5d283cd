/- Compact numbers; the writer's functions. -/
import Derived.Test.YtipjjcaflcpplaaWk1
namespace Go.Proofs.Ytipjjcaflcpplaa
set_option linter.unusedSimpArgs false
set_option linter.unusedVariables false
set_option maxRecDepth 20000
set_option maxHeartbeats 2000000
open Go.RowKit

theorem fits7_c (v : Int) (H : List ABlk) : ACalls Try.prog 27 [iv v, iv 7] H fun v' H' => v' = bv (decide (-64 ≤ v ∧ v ≤ 63)) ∧ H' = H := by
  obtain ⟨b, hb⟩ : ∃ b, b = decide (-64 ≤ v ∧ v ≤ 63) := ⟨_, rfl⟩
  rw [← hb]
  refine ACalls.into Try.func27 cc27 rr27 fun hcl => ?_
  simp (disch := omega) only [Try.ntmps27, c27, r27, DC_w, DC_n, kill_0, Nat.sub_zero, Int.reduceSub, Int.reduceMul, Int.reduceNeg, Int.reduceAdd, ↓rD0, ↓rD1, ↓rD2, ↓rD3, ↓rD4, rU0, rU1, rU2, rU3, rU4, rU5, toNat_n, Int.reduceToNat, slA, ptrsA, boolsA, Int.reducePow, Nat.reducePow, Nat.reduceMul, Int.reduceLT, Int.reduceLE, resA, resL, res1, eq_self, wanted, evK, get, setO, one, faA, loadA, storeA, outA, lenA, isStr, binA, unA, bnd, ints, toDat, toDats, datss, fillA, splice, List.length_nil, List.flatten_nil, Nat.reduceAdd, Nat.reduceLeDiff, Nat.reduceBEq, Nat.reduceSub, if_true, ite_true, cond_true, cond_false, List.replicate, if_false, ite_false, reduceCtorEq]
  refine Br.dec (fun h => ?_) (fun h => ?_) <;> simp (disch := omega) only [DC_w, DC_n, kill_0, Nat.sub_zero, Int.reduceSub, Int.reduceMul, Int.reduceNeg, Int.reduceAdd, ↓rD0, ↓rD1, ↓rD2, ↓rD3, ↓rD4, rU0, rU1, rU2, rU3, rU4, rU5, toNat_n, Int.reduceToNat, slA, ptrsA, boolsA, Int.reducePow, Nat.reducePow, Nat.reduceMul, Int.reduceLT, Int.reduceLE, resA, resL, res1, eq_self, wanted, evK, get, setO, one, faA, loadA, storeA, outA, lenA, isStr, binA, unA, bnd, ints, toDat, toDats, datss, fillA, splice, List.length_nil, List.flatten_nil, Nat.reduceAdd, Nat.reduceLeDiff, Nat.reduceBEq, Nat.reduceSub, if_true, ite_true, cond_true, cond_false, List.replicate, if_false, ite_false, reduceCtorEq]
  · exact Ret.keep ⟨by rw [hb]; congr 3; exact decide_eq_decide.2 (by omega), rfl⟩
  · exact Ret.keep ⟨by rw [hb, decide_eq_false (by omega)], rfl⟩
theorem fits32_c (v : Int) (H : List ABlk) : ACalls Try.prog 27 [iv v, iv 32] H fun v' H' => v' = bv (decide (fit32 v)) ∧ H' = H := by
  obtain ⟨b, hb⟩ : ∃ b, b = decide (fit32 v) := ⟨_, rfl⟩
  rw [← hb]
  refine ACalls.into Try.func27 cc27 rr27 fun hcl => ?_
  simp (disch := omega) only [Try.ntmps27, c27, r27, DC_w, DC_n, kill_0, Nat.sub_zero, Int.reduceSub, Int.reduceMul, Int.reduceNeg, Int.reduceAdd, ↓rD0, ↓rD1, ↓rD2, ↓rD3, ↓rD4, rU0, rU1, rU2, rU3, rU4, rU5, toNat_n, Int.reduceToNat, slA, ptrsA, boolsA, Int.reducePow, Nat.reducePow, Nat.reduceMul, Int.reduceLT, Int.reduceLE, resA, resL, res1, eq_self, wanted, evK, get, setO, one, faA, loadA, storeA, outA, lenA, isStr, binA, unA, bnd, ints, toDat, toDats, datss, fillA, splice, List.length_nil, List.flatten_nil, Nat.reduceAdd, Nat.reduceLeDiff, Nat.reduceBEq, Nat.reduceSub, if_true, ite_true, cond_true, cond_false, List.replicate, if_false, ite_false, reduceCtorEq]
  refine Br.dec (fun h => ?_) (fun h => ?_) <;> simp (disch := omega) only [DC_w, DC_n, kill_0, Nat.sub_zero, Int.reduceSub, Int.reduceMul, Int.reduceNeg, Int.reduceAdd, ↓rD0, ↓rD1, ↓rD2, ↓rD3, ↓rD4, rU0, rU1, rU2, rU3, rU4, rU5, toNat_n, Int.reduceToNat, slA, ptrsA, boolsA, Int.reducePow, Nat.reducePow, Nat.reduceMul, Int.reduceLT, Int.reduceLE, resA, resL, res1, eq_self, wanted, evK, get, setO, one, faA, loadA, storeA, outA, lenA, isStr, binA, unA, bnd, ints, toDat, toDats, datss, fillA, splice, List.length_nil, List.flatten_nil, Nat.reduceAdd, Nat.reduceLeDiff, Nat.reduceBEq, Nat.reduceSub, if_true, ite_true, cond_true, cond_false, List.replicate, if_false, ite_false, reduceCtorEq]
  · exact Ret.keep ⟨by rw [hb]; congr 3; exact decide_eq_decide.2 (by unfold fit32; omega), rfl⟩
  · exact Ret.keep ⟨by rw [hb, decide_eq_false (p := fit32 v) (by unfold fit32; omega)], rfl⟩

abbrev bd (b : UInt8) : List Dat := [.v (.int .u8 b.toNat)]
theorem bytesOf_bd (bs : List UInt8) : bytesOf ((bs.map bd).map (·.map AV.d)) = some bs := by
  induction bs with
  | nil => rfl
  | cons b bs ih =>
    simp only [List.map_cons, List.map_nil, bytesOf] at ih ⊢
    rw [ih]
    simp
theorem or128 (m : Int) : ((BitVec.ofInt 8 (m % 256) ||| BitVec.ofInt 8 128).toNat : Int) = m % 128 + 128 := by
  obtain ⟨n, hn⟩ := Int.eq_ofNat_of_zero_le (Int.emod_nonneg m (by decide : (256 : Int) ≠ 0))
  have h256 : n < 256 := by have := Int.emod_lt_of_pos m (by decide : (0 : Int) < 256); omega
  have e : m % 128 = ((n % 128 : Nat) : Int) := by omega
  rw [hn, e, BitVec.ofInt_natCast]
  have : ∀ x : Fin 256, (BitVec.ofNat 8 x.val ||| BitVec.ofInt 8 128).toNat = x.val % 128 + 128 := by decide +kernel
  have := this ⟨n, h256⟩
  simp only at this
  rw [this]; rfl
theorem and127 (m : Int) : ((BitVec.ofInt 8 (m % 256) &&& BitVec.ofInt 8 127).toNat : Int) = m % 128 := by
  obtain ⟨n, hn⟩ := Int.eq_ofNat_of_zero_le (Int.emod_nonneg m (by decide : (256 : Int) ≠ 0))
  have h256 : n < 256 := by have := Int.emod_lt_of_pos m (by decide : (0 : Int) < 256); omega
  have e : m % 128 = ((n % 128 : Nat) : Int) := by omega
  rw [hn, e, BitVec.ofInt_natCast]
  have : ∀ x : Fin 256, (BitVec.ofNat 8 x.val &&& BitVec.ofInt 8 127).toNat = x.val % 128 := by decide +kernel
  have := this ⟨n, h256⟩
  simp only at this
  rw [this]
theorem and127b (m : Int) : ((BitVec.ofInt IntKind.u8.bits (m % 256) &&& BitVec.ofInt IntKind.u8.bits 127).toNat : Int) % 256 = ((g7 m).toNat : Nat) := by
  have := and127 m
  have h2 := g7n m
  show ((BitVec.ofInt 8 (m % 256) &&& BitVec.ofInt 8 127).toNat : Int) % 256 = _
  rw [this, h2]; omega
theorem or128b (m : Int) : ((BitVec.ofInt IntKind.u8.bits (m % 256) ||| BitVec.ofInt IntKind.u8.bits 128).toNat : Int) % 256 = ((h7 m).toNat : Nat) := by
  have := or128 m
  have h2 := h7n m
  show ((BitVec.ofInt 8 (m % 256) ||| BitVec.ofInt 8 128).toNat : Int) % 256 = _
  rw [this, h2]; omega
theorem flat_bd (l : List UInt8) (b : UInt8) : l.map bd ++ [[Dat.v (.int .u8 (b.toNat : Nat))]] = (l ++ [b]).map bd := by simp

structure CpG where
  acc : List UInt8
  m : Int
  f : Nat
theorem compact_c (n : Int) (hn : fit32 n) (H : List ABlk) : ACalls Try.prog 30 [iv n] H fun v H' => v = sv ⟨(comp7 n).toArray⟩ ∧ H' = H := by
  refine ACalls.into Try.func30 cc30 rr30 fun hcl => ?_
  obtain ⟨hn1, hn2⟩ := hn
  simp (disch := omega) only [Try.ntmps30, c30, r30, DC_w, DC_n, kill_0, Nat.sub_zero, Int.reduceSub, Int.reduceMul, Int.reduceNeg, Int.reduceAdd, ↓rD0, ↓rD1, ↓rD2, ↓rD3, ↓rD4, rU0, rU1, rU2, rU3, rU4, rU5, toNat_n, Int.reduceToNat, slA, ptrsA, boolsA, Int.reducePow, Nat.reducePow, Nat.reduceMul, Int.reduceLT, Int.reduceLE, resA, resL, res1, eq_self, wanted, evK, get, setO, one, faA, loadA, storeA, outA, lenA, isStr, binA, unA, bnd, ints, toDat, toDats, datss, fillA, splice, List.length_nil, List.flatten_nil, Nat.reduceAdd, Nat.reduceLeDiff, Nat.reduceBEq, Nat.reduceSub, if_true, ite_true, cond_true, cond_false, List.replicate, if_false, ite_false, reduceCtorEq]
  obtain ⟨S, hS⟩ : ∃ S : CpG → List AV, ∀ g, S g = [iv g.m, .any, .any, .gsl H.length 1 (g.acc.map bd)] ++ List.replicate 18 .any := ⟨_, fun _ => rfl⟩
  refine W.loopG (γ := CpG) (fun g => g.f + (if -64 ≤ g.m ∧ g.m ≤ 63 then 0 else 1)) S (fun g => H ++ [.row 5 1 g.acc.length]) (fun g => comp7 n = g.acc ++ cmp g.f g.m ∧ -64 * 128 ^ g.f ≤ g.m ∧ g.m < 64 * 128 ^ g.f ∧ g.acc.length + g.f ≤ 4) ⟨[], n, 4⟩ (Wk.slots (by rw [hS]; exact WkL.tail 4 _ rfl (by simp only [List.take_succ_cons, List.take_zero]; repeat' first | exact WkL.nil | refine WkL.cons (Wk1.rfl _) ?_ | refine WkL.cons Wk1.esl ?_ | refine WkL.cons (Wk1.gsl _ _ _) ?_ | refine WkL.cons (Wk1.any _) ?_))) ⟨rfl, by show -64 * 128 ^ 4 ≤ n; simp only [Int.reducePow]; omega, by show n < 64 * 128 ^ 4; simp only [Int.reducePow]; omega, by simp⟩ (fun g hg => ?_)
  obtain ⟨q1, q2, q3, q4⟩ := hg
  have hp4 : (128 : Int) ^ g.f ≤ 128 ^ 4 := by
    rcases (by omega : g.f = 0 ∨ g.f = 1 ∨ g.f = 2 ∨ g.f = 3 ∨ g.f = 4) with e | e | e | e | e <;> rw [e] <;> decide
  have hp5 : (128 : Int) ^ 4 = 268435456 := by decide
  have hl : (g.acc.map bd).length = g.acc.length := List.length_map ..
  simp (disch := omega) only [hS, c30l0, DC_w, DC_n, kill_0, Nat.sub_zero, Int.reduceSub, Int.reduceMul, Int.reduceNeg, Int.reduceAdd, ↓rD0, ↓rD1, ↓rD2, ↓rD3, ↓rD4, rU0, rU1, rU2, rU3, rU4, rU5, toNat_n, Int.reduceToNat, slA, ptrsA, boolsA, Int.reducePow, Nat.reducePow, Nat.reduceMul, Int.reduceLT, Int.reduceLE, resA, resL, res1, eq_self, wanted, evK, get, setO, one, faA, loadA, storeA, outA, lenA, isStr, binA, unA, bnd, ints, toDat, toDats, datss, fillA, splice, List.length_nil, List.flatten_nil, Nat.reduceAdd, Nat.reduceLeDiff, Nat.reduceBEq, Nat.reduceSub, if_true, ite_true, cond_true, cond_false, List.replicate, if_false, ite_false, reduceCtorEq]
  refine Cont.mk (fits7_c g.m _) ?_
  by_cases hr7 : -64 ≤ g.m ∧ g.m ≤ 63
  · have ec : cmp g.f g.m = [g7 g.m] := by
      cases hf : g.f with
      | zero => rfl
      | succ f => rw [cmp, if_pos hr7]
    rw [ec] at q1
    simp (disch := omega) only [decide_eq_true hr7, datss, elems_d, hl, and127b, flat_bd, bytesOf_bd, DC_w, DC_n, kill_0, Nat.sub_zero, Int.reduceSub, Int.reduceMul, Int.reduceNeg, Int.reduceAdd, ↓rD0, ↓rD1, ↓rD2, ↓rD3, ↓rD4, rU0, rU1, rU2, rU3, rU4, rU5, toNat_n, Int.reduceToNat, slA, ptrsA, boolsA, Int.reducePow, Nat.reducePow, Nat.reduceMul, Int.reduceLT, Int.reduceLE, resA, resL, res1, eq_self, wanted, evK, get, setO, one, faA, loadA, storeA, outA, lenA, isStr, binA, unA, bnd, ints, toDat, toDats, datss, fillA, splice, List.length_nil, List.flatten_nil, Nat.reduceAdd, Nat.reduceLeDiff, Nat.reduceBEq, Nat.reduceSub, if_true, ite_true, cond_true, cond_false, List.replicate, if_false, ite_false, reduceCtorEq]
    exact Ret.pre _ H (pre_app _ _) (Nat.le_refl _) hcl (.rfl _) (by simp [refs]) ⟨by rw [q1], rfl⟩
  · obtain ⟨f', hf⟩ : ∃ f', g.f = f' + 1 := by
      cases hf : g.f with
      | zero => rw [hf] at q2 q3; simp at q2 q3; exact absurd ⟨q2, by omega⟩ hr7
      | succ f => exact ⟨f, rfl⟩
    rw [hf] at q1 q2 q3 q4
    rw [cmp, if_neg hr7] at q1
    have hp : (0 : Int) < 128 ^ f' := Int.pow_pos (by decide)
    rw [Int.pow_succ] at q2 q3
    simp (disch := omega) only [decide_eq_false hr7, datss, elems_d, hl, or128b, flat_bd, bytesOf_bd, DC_w, DC_n, kill_0, Nat.sub_zero, Int.reduceSub, Int.reduceMul, Int.reduceNeg, Int.reduceAdd, ↓rD0, ↓rD1, ↓rD2, ↓rD3, ↓rD4, rU0, rU1, rU2, rU3, rU4, rU5, toNat_n, Int.reduceToNat, slA, ptrsA, boolsA, Int.reducePow, Nat.reducePow, Nat.reduceMul, Int.reduceLT, Int.reduceLE, resA, resL, res1, eq_self, wanted, evK, get, setO, one, faA, loadA, storeA, outA, lenA, isStr, binA, unA, bnd, ints, toDat, toDats, datss, fillA, splice, List.length_nil, List.flatten_nil, Nat.reduceAdd, Nat.reduceLeDiff, Nat.reduceBEq, Nat.reduceSub, if_true, ite_true, cond_true, cond_false, List.replicate, if_false, ite_false, reduceCtorEq]
    have hl3 : (g.acc ++ [h7 g.m]).length = g.acc.length + 1 := by simp
    rw [← hl3]
    exact Nxt.mk ⟨g.acc ++ [h7 g.m], g.m / 128, f'⟩ (by show f' + _ < g.f + _; rw [hf, if_neg hr7]; split <;> omega) (Wk.slots (by rw [hS]; exact WkL.tail 4 _ rfl (by simp only [List.take_succ_cons, List.take_zero]; repeat' first | exact WkL.nil | refine WkL.cons (Wk1.rfl _) ?_ | refine WkL.cons Wk1.esl ?_ | refine WkL.cons (Wk1.gsl _ _ _) ?_ | refine WkL.cons (Wk1.any _) ?_))) ⟨by rw [q1]; simp, by show -64 * 128 ^ f' ≤ g.m / 128; omega, by show g.m / 128 < 64 * 128 ^ f'; omega, by show (g.acc ++ [h7 g.m]).length + f' ≤ 4; rw [hl3]; omega⟩
end Go.Proofs.Ytipjjcaflcpplaa
