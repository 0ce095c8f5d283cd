/- The reference's writer: words, texts, all. -/
import Derived.Test.YtipjjcaflcpplaaWka
namespace Go.Proofs.Ytipjjcaflcpplaa
set_option linter.unusedSimpArgs false
set_option linter.unusedVariables false
set_option maxRecDepth 20000
set_option maxHeartbeats 2000000
open Go.RowKit

theorem may_c (lo : Nat) (hlo : lo ≤ 24) (H : List ABlk) : ACalls Try.prog 48 [iv lo, iv 8] H fun v H' => v = bv true ∧ H' = H := by
  refine ACalls.into Try.func48 cc48 rr48 fun hcl => ?_
  simp (disch := omega) only [Try.ntmps48, c48, r48, DC_w, DC_n, kill_0, Nat.sub_zero, Int.reduceSub, Int.reduceMul, Int.reduceNeg, Int.reduceAdd, ↓rD0, ↓rD1, ↓rD2, ↓rD3, ↓rD4, rU0, rU1, rU2, rU3, rU4, rU5, toNat_n, Int.reduceToNat, slA, ptrsA, boolsA, Int.reducePow, Nat.reducePow, Nat.reduceMul, Int.reduceLT, Int.reduceLE, resA, resL, res1, eq_self, wanted, evK, get, setO, one, faA, loadA, storeA, outA, lenA, isStr, binA, unA, bnd, ints, toDat, toDats, datss, fillA, splice, List.length_nil, List.flatten_nil, Nat.reduceAdd, Nat.reduceLeDiff, Nat.reduceBEq, Nat.reduceSub, if_true, ite_true, cond_true, cond_false, List.replicate, if_false, ite_false, reduceCtorEq]
  exact Ret.keep ⟨rfl, rfl⟩
theorem get_c (x : Int) (h0 : 0 ≤ x) (h1 : x < 4294967296) (lo : Nat) (hlo : lo ≤ 24) (H : List ABlk) : ACalls Try.prog 45 [wv x, iv lo, iv 8] H fun v H' => v = wv (x / 2 ^ lo % 256) ∧ H' = H := by
  refine ACalls.into Try.func45 cc45 rr45 fun hcl => ?_
  have hp0 : (0 : Int) < 2 ^ lo := Int.pow_pos (by decide)
  have hpn : ¬ (2 : Int) ^ lo = 0 := by omega
  have hd0 : 0 ≤ x / 2 ^ lo := Int.ediv_nonneg h0 (by omega)
  have hd1 : x / 2 ^ lo ≤ x := Int.ediv_le_self _ h0
  have hp8 := pow_c 8 (by omega) H
  rw [show (2 : Int) ^ 8 = 256 by decide] at hp8
  simp (disch := omega) only [Try.ntmps45, c45, r45, DC_w, DC_n, kill_0, Nat.sub_zero, Int.reduceSub, Int.reduceMul, Int.reduceNeg, Int.reduceAdd, ↓rD0, ↓rD1, ↓rD2, ↓rD3, ↓rD4, rU0, rU1, rU2, rU3, rU4, rU5, toNat_n, Int.reduceToNat, slA, ptrsA, boolsA, Int.reducePow, Nat.reducePow, Nat.reduceMul, Int.reduceLT, Int.reduceLE, resA, resL, res1, eq_self, wanted, evK, get, setO, one, faA, loadA, storeA, outA, lenA, isStr, binA, unA, bnd, ints, toDat, toDats, datss, fillA, splice, List.length_nil, List.flatten_nil, Nat.reduceAdd, Nat.reduceLeDiff, Nat.reduceBEq, Nat.reduceSub, if_true, ite_true, cond_true, cond_false, List.replicate, if_false, ite_false, reduceCtorEq]
  refine Cont.mk (may_c lo hlo H) ?_
  simp (disch := omega) only [DC_w, DC_n, kill_0, Nat.sub_zero, Int.reduceSub, Int.reduceMul, Int.reduceNeg, Int.reduceAdd, ↓rD0, ↓rD1, ↓rD2, ↓rD3, ↓rD4, rU0, rU1, rU2, rU3, rU4, rU5, toNat_n, Int.reduceToNat, slA, ptrsA, boolsA, Int.reducePow, Nat.reducePow, Nat.reduceMul, Int.reduceLT, Int.reduceLE, resA, resL, res1, eq_self, wanted, evK, get, setO, one, faA, loadA, storeA, outA, lenA, isStr, binA, unA, bnd, ints, toDat, toDats, datss, fillA, splice, List.length_nil, List.flatten_nil, Nat.reduceAdd, Nat.reduceLeDiff, Nat.reduceBEq, Nat.reduceSub, if_true, ite_true, cond_true, cond_false, List.replicate, if_false, ite_false, reduceCtorEq]
  refine W.pchain follows (by decide +kernel) ?_
  simp (disch := omega) only [DC_w, DC_n, kill_0, Nat.sub_zero, Int.reduceSub, Int.reduceMul, Int.reduceNeg, Int.reduceAdd, ↓rD0, ↓rD1, ↓rD2, ↓rD3, ↓rD4, rU0, rU1, rU2, rU3, rU4, rU5, toNat_n, Int.reduceToNat, slA, ptrsA, boolsA, Int.reducePow, Nat.reducePow, Nat.reduceMul, Int.reduceLT, Int.reduceLE, resA, resL, res1, eq_self, wanted, evK, get, setO, one, faA, loadA, storeA, outA, lenA, isStr, binA, unA, bnd, ints, toDat, toDats, datss, fillA, splice, List.length_nil, List.flatten_nil, Nat.reduceAdd, Nat.reduceLeDiff, Nat.reduceBEq, Nat.reduceSub, if_true, ite_true, cond_true, cond_false, List.replicate, if_false, ite_false, reduceCtorEq]
  refine PCont.mk (pow_c lo (by omega) H) ?_
  simp (disch := omega) only [hpn, DC_w, DC_n, kill_0, Nat.sub_zero, Int.reduceSub, Int.reduceMul, Int.reduceNeg, Int.reduceAdd, ↓rD0, ↓rD1, ↓rD2, ↓rD3, ↓rD4, rU0, rU1, rU2, rU3, rU4, rU5, toNat_n, Int.reduceToNat, slA, ptrsA, boolsA, Int.reducePow, Nat.reducePow, Nat.reduceMul, Int.reduceLT, Int.reduceLE, resA, resL, res1, eq_self, wanted, evK, get, setO, one, faA, loadA, storeA, outA, lenA, isStr, binA, unA, bnd, ints, toDat, toDats, datss, fillA, splice, List.length_nil, List.flatten_nil, Nat.reduceAdd, Nat.reduceLeDiff, Nat.reduceBEq, Nat.reduceSub, if_true, ite_true, cond_true, cond_false, List.replicate, if_false, ite_false, reduceCtorEq]
  refine PCont.mk hp8 ?_
  simp (disch := omega) only [DC_w, DC_n, kill_0, Nat.sub_zero, Int.reduceSub, Int.reduceMul, Int.reduceNeg, Int.reduceAdd, ↓rD0, ↓rD1, ↓rD2, ↓rD3, ↓rD4, rU0, rU1, rU2, rU3, rU4, rU5, toNat_n, Int.reduceToNat, slA, ptrsA, boolsA, Int.reducePow, Nat.reducePow, Nat.reduceMul, Int.reduceLT, Int.reduceLE, resA, resL, res1, eq_self, wanted, evK, get, setO, one, faA, loadA, storeA, outA, lenA, isStr, binA, unA, bnd, ints, toDat, toDats, datss, fillA, splice, List.length_nil, List.flatten_nil, Nat.reduceAdd, Nat.reduceLeDiff, Nat.reduceBEq, Nat.reduceSub, if_true, ite_true, cond_true, cond_false, List.replicate, if_false, ite_false, reduceCtorEq]
  exact Ret.keep ⟨rfl, rfl⟩
structure QwG where
  i : Nat
  H : List ABlk
  x : AV
theorem wordQ_c {H : List ABlk} {qb : Nat} {x : AV} {bs : List UInt8} {sp : Bool} (h : QrAt H qb x bs sp) (hl : bs.length ≤ 8000000) (n : Int) (h0 : 0 ≤ n) (h1 : n < 4294967296) : ACalls Try.prog 33 [.ptr qb 0, wv n] H (QOp H qb x (bs ++ wordB n) sp) := by
  refine ACalls.into Try.func33 cc33 rr33 fun hcl => ?_
  simp (disch := omega) only [Try.ntmps33, c33, r33, DC_w, DC_n, kill_0, Nat.sub_zero, Int.reduceSub, Int.reduceMul, Int.reduceNeg, Int.reduceAdd, ↓rD0, ↓rD1, ↓rD2, ↓rD3, ↓rD4, rU0, rU1, rU2, rU3, rU4, rU5, toNat_n, Int.reduceToNat, slA, ptrsA, boolsA, Int.reducePow, Nat.reducePow, Nat.reduceMul, Int.reduceLT, Int.reduceLE, resA, resL, res1, eq_self, wanted, evK, get, setO, one, faA, loadA, storeA, outA, lenA, isStr, binA, unA, bnd, ints, toDat, toDats, datss, fillA, splice, List.length_nil, List.flatten_nil, Nat.reduceAdd, Nat.reduceLeDiff, Nat.reduceBEq, Nat.reduceSub, if_true, ite_true, cond_true, cond_false, List.replicate, if_false, ite_false, reduceCtorEq]
  obtain ⟨S, hS⟩ : ∃ S : QwG → List AV, ∀ g, S g = [.ptr qb 0, wv n, .any, .any, iv g.i] ++ List.replicate 11 .any := ⟨_, fun _ => rfl⟩
  refine W.loopG (γ := QwG) (fun g => 4 - g.i) S (fun g => g.H) (fun g => g.i ≤ 4 ∧ QrAt g.H qb g.x (bs ++ (wordB n).take g.i) sp ∧ Chg H (WF qb x) g.H (WF qb g.x)) ⟨0, H, x⟩ (Wk.slots (by rw [hS]; exact WkL.tail 5 _ rfl (by simp only [List.take_succ_cons, List.take_zero]; repeat' first | exact WkL.nil | refine WkL.cons (Wk1.rfl _) ?_ | refine WkL.cons Wk1.esl ?_ | refine WkL.cons (Wk1.gsl _ _ _) ?_ | refine WkL.cons (Wk1.any _) ?_))) ⟨by show 0 ≤ 4; omega, by simpa using h, .rfl'⟩ (fun g hg => ?_)
  obtain ⟨q1, q2, q3⟩ := hg
  by_cases hi : g.i < 4
  · have hgc := get_c n h0 h1 (8 * g.i) (by omega) g.H
    have hlen : (bs ++ (wordB n).take g.i).length ≤ 9000000 := by
      rw [List.length_append, List.length_take]; omega
    have hbq := byteQ_c q2 hlen (n / 2 ^ (8 * g.i) % 256)
    have hbw : byteW (n / 2 ^ (8 * g.i) % 256) = [wB n g.i] := by
      rw [byteW, wB, show (2 : Int) ^ (8 * g.i) = 256 ^ g.i by rw [Int.pow_mul]; rfl]; congr 2; omega
    have htk : (wordB n).take g.i ++ [wB n g.i] = (wordB n).take (g.i + 1) := by
      rcases (by omega : g.i = 0 ∨ g.i = 1 ∨ g.i = 2 ∨ g.i = 3) with e | e | e | e <;> rw [e] <;> rfl
    rw [hbw, List.append_assoc, htk] at hbq
    have e8 : ((8 * g.i : Nat) : Int) = 8 * (g.i : Int) := by omega
    rw [e8] at hgc
    have hr0 : 0 ≤ n / 2 ^ (8 * g.i) % 256 ∧ n / 2 ^ (8 * g.i) % 256 < 256 := by omega
    simp (disch := omega) only [hS, c33l0, DC_w, DC_n, kill_0, Nat.sub_zero, Int.reduceSub, Int.reduceMul, Int.reduceNeg, Int.reduceAdd, ↓rD0, ↓rD1, ↓rD2, ↓rD3, ↓rD4, rU0, rU1, rU2, rU3, rU4, rU5, toNat_n, Int.reduceToNat, slA, ptrsA, boolsA, Int.reducePow, Nat.reducePow, Nat.reduceMul, Int.reduceLT, Int.reduceLE, resA, resL, res1, eq_self, wanted, evK, get, setO, one, faA, loadA, storeA, outA, lenA, isStr, binA, unA, bnd, ints, toDat, toDats, datss, fillA, splice, List.length_nil, List.flatten_nil, Nat.reduceAdd, Nat.reduceLeDiff, Nat.reduceBEq, Nat.reduceSub, if_true, ite_true, cond_true, cond_false, List.replicate, if_false, ite_false, reduceCtorEq]
    refine Cont.mk hgc ?_
    simp (disch := omega) only [DC_w, DC_n, kill_0, Nat.sub_zero, Int.reduceSub, Int.reduceMul, Int.reduceNeg, Int.reduceAdd, ↓rD0, ↓rD1, ↓rD2, ↓rD3, ↓rD4, rU0, rU1, rU2, rU3, rU4, rU5, toNat_n, Int.reduceToNat, slA, ptrsA, boolsA, Int.reducePow, Nat.reducePow, Nat.reduceMul, Int.reduceLT, Int.reduceLE, resA, resL, res1, eq_self, wanted, evK, get, setO, one, faA, loadA, storeA, outA, lenA, isStr, binA, unA, bnd, ints, toDat, toDats, datss, fillA, splice, List.length_nil, List.flatten_nil, Nat.reduceAdd, Nat.reduceLeDiff, Nat.reduceBEq, Nat.reduceSub, if_true, ite_true, cond_true, cond_false, List.replicate, if_false, ite_false, reduceCtorEq]
    refine Cont.rel hbq ?_
    rintro v H' ⟨rfl, x', h1', h2'⟩
    simp (disch := omega) only [DC_w, DC_n, kill_0, Nat.sub_zero, Int.reduceSub, Int.reduceMul, Int.reduceNeg, Int.reduceAdd, ↓rD0, ↓rD1, ↓rD2, ↓rD3, ↓rD4, rU0, rU1, rU2, rU3, rU4, rU5, toNat_n, Int.reduceToNat, slA, ptrsA, boolsA, Int.reducePow, Nat.reducePow, Nat.reduceMul, Int.reduceLT, Int.reduceLE, resA, resL, res1, eq_self, wanted, evK, get, setO, one, faA, loadA, storeA, outA, lenA, isStr, binA, unA, bnd, ints, toDat, toDats, datss, fillA, splice, List.length_nil, List.flatten_nil, Nat.reduceAdd, Nat.reduceLeDiff, Nat.reduceBEq, Nat.reduceSub, if_true, ite_true, cond_true, cond_false, List.replicate, if_false, ite_false, reduceCtorEq]
    exact Nxt.mk ⟨g.i + 1, H', x'⟩ (by show 4 - (g.i + 1) < 4 - g.i; omega) (Wk.slots (by rw [hS]; exact WkL.tail 5 _ rfl (by simp only [List.take_succ_cons, List.take_zero]; repeat' first | exact WkL.nil | refine WkL.cons (Wk1.rfl _) ?_ | refine WkL.cons Wk1.esl ?_ | refine WkL.cons (Wk1.gsl _ _ _) ?_ | refine WkL.cons (Wk1.any _) ?_))) ⟨by show g.i + 1 ≤ 4; omega, h1', q3.trans h2'⟩
  · have hi4 : g.i = 4 := by omega
    rw [hi4, show (wordB n).take 4 = wordB n from rfl] at q2
    simp (disch := omega) only [hS, c33l0, DC_w, DC_n, kill_0, Nat.sub_zero, Int.reduceSub, Int.reduceMul, Int.reduceNeg, Int.reduceAdd, ↓rD0, ↓rD1, ↓rD2, ↓rD3, ↓rD4, rU0, rU1, rU2, rU3, rU4, rU5, toNat_n, Int.reduceToNat, slA, ptrsA, boolsA, Int.reducePow, Nat.reducePow, Nat.reduceMul, Int.reduceLT, Int.reduceLE, resA, resL, res1, eq_self, wanted, evK, get, setO, one, faA, loadA, storeA, outA, lenA, isStr, binA, unA, bnd, ints, toDat, toDats, datss, fillA, splice, List.length_nil, List.flatten_nil, Nat.reduceAdd, Nat.reduceLeDiff, Nat.reduceBEq, Nat.reduceSub, if_true, ite_true, cond_true, cond_false, List.replicate, if_false, ite_false, reduceCtorEq]
    exact Ret.keep ⟨rfl, g.x, q2, q3⟩
theorem bytesQ_c {H : List ABlk} {qb : Nat} {x : AV} {bs : List UInt8} {sp : Bool} (h : QrAt H qb x bs sp) : ACalls Try.prog 17 [.ptr qb 0] H fun v H' => v = .tup (if sp = true then [sv nl, iv 1] else if 131072 < bs.length then [sv nl, iv 2] else [sv ⟨bs.toArray⟩, iv 0]) ∧ H' = H := by
  refine ACalls.into Try.func17 cc17 rr17 fun hcl => ?_
  have hw := h.c
  cases sp with
  | true =>
    simp (disch := omega) only [Try.ntmps17, c17, r17, hw, DC_w, DC_n, kill_0, Nat.sub_zero, Int.reduceSub, Int.reduceMul, Int.reduceNeg, Int.reduceAdd, ↓rD0, ↓rD1, ↓rD2, ↓rD3, ↓rD4, rU0, rU1, rU2, rU3, rU4, rU5, toNat_n, Int.reduceToNat, slA, ptrsA, boolsA, Int.reducePow, Nat.reducePow, Nat.reduceMul, Int.reduceLT, Int.reduceLE, resA, resL, res1, eq_self, wanted, evK, get, setO, one, faA, loadA, storeA, outA, lenA, isStr, binA, unA, bnd, ints, toDat, toDats, datss, fillA, splice, List.length_nil, List.flatten_nil, Nat.reduceAdd, Nat.reduceLeDiff, Nat.reduceBEq, Nat.reduceSub, if_true, ite_true, cond_true, cond_false, List.replicate, if_false, ite_false, reduceCtorEq]
    exact Ret.keep ⟨rfl, rfl⟩
  | false =>
    rcases h.r with ⟨rfl, rfl⟩ | ⟨b, rfl, hb⟩
    · simp (disch := omega) only [Try.ntmps17, c17, r17, hw, elems_e, bytesOf, DC_w, DC_n, kill_0, Nat.sub_zero, Int.reduceSub, Int.reduceMul, Int.reduceNeg, Int.reduceAdd, ↓rD0, ↓rD1, ↓rD2, ↓rD3, ↓rD4, rU0, rU1, rU2, rU3, rU4, rU5, toNat_n, Int.reduceToNat, slA, ptrsA, boolsA, Int.reducePow, Nat.reducePow, Nat.reduceMul, Int.reduceLT, Int.reduceLE, resA, resL, res1, eq_self, wanted, evK, get, setO, one, faA, loadA, storeA, outA, lenA, isStr, binA, unA, bnd, ints, toDat, toDats, datss, fillA, splice, List.length_nil, List.flatten_nil, Nat.reduceAdd, Nat.reduceLeDiff, Nat.reduceBEq, Nat.reduceSub, if_true, ite_true, cond_true, cond_false, List.replicate, if_false, ite_false, reduceCtorEq]
      exact Ret.keep ⟨rfl, rfl⟩
    · have hlb : (bs.map bd).length = bs.length := List.length_map ..
      by_cases hlen : 131072 < bs.length
      · rw [if_neg (by simp), if_pos hlen]
        simp (disch := omega) only [Try.ntmps17, c17, r17, hw, hlb, DC_w, DC_n, kill_0, Nat.sub_zero, Int.reduceSub, Int.reduceMul, Int.reduceNeg, Int.reduceAdd, ↓rD0, ↓rD1, ↓rD2, ↓rD3, ↓rD4, rU0, rU1, rU2, rU3, rU4, rU5, toNat_n, Int.reduceToNat, slA, ptrsA, boolsA, Int.reducePow, Nat.reducePow, Nat.reduceMul, Int.reduceLT, Int.reduceLE, resA, resL, res1, eq_self, wanted, evK, get, setO, one, faA, loadA, storeA, outA, lenA, isStr, binA, unA, bnd, ints, toDat, toDats, datss, fillA, splice, List.length_nil, List.flatten_nil, Nat.reduceAdd, Nat.reduceLeDiff, Nat.reduceBEq, Nat.reduceSub, if_true, ite_true, cond_true, cond_false, List.replicate, if_false, ite_false, reduceCtorEq]
        exact Ret.keep ⟨rfl, rfl⟩
      · rw [if_neg (by simp), if_neg hlen]
        simp (disch := omega) only [Try.ntmps17, c17, r17, hw, hlb, elems_g, bytesOf_bd, DC_w, DC_n, kill_0, Nat.sub_zero, Int.reduceSub, Int.reduceMul, Int.reduceNeg, Int.reduceAdd, ↓rD0, ↓rD1, ↓rD2, ↓rD3, ↓rD4, rU0, rU1, rU2, rU3, rU4, rU5, toNat_n, Int.reduceToNat, slA, ptrsA, boolsA, Int.reducePow, Nat.reducePow, Nat.reduceMul, Int.reduceLT, Int.reduceLE, resA, resL, res1, eq_self, wanted, evK, get, setO, one, faA, loadA, storeA, outA, lenA, isStr, binA, unA, bnd, ints, toDat, toDats, datss, fillA, splice, List.length_nil, List.flatten_nil, Nat.reduceAdd, Nat.reduceLeDiff, Nat.reduceBEq, Nat.reduceSub, if_true, ite_true, cond_true, cond_false, List.replicate, if_false, ite_false, reduceCtorEq]
        exact Ret.keep ⟨rfl, rfl⟩
open Classical in
theorem textQ_c {H : List ABlk} {qb : Nat} {x : AV} {bs : List UInt8} {sp : Bool} (h : QrAt H qb x bs sp) (hl : bs.length ≤ 8000000) (s : ByteArray) : ACalls Try.prog 34 [.ptr qb 0, sv s] H (QOp H qb x (if textOk s then bs ++ (s.data.toList ++ [0]) else bs) (if textOk s then sp else true)) := by
  refine ACalls.into Try.func34 cc34 rr34 fun hcl => ?_
  have hc := h.c
  have hwl := (List.getElem?_eq_some_iff.1 hc).1
  have hsp : QOp H qb x bs true (.tup []) (H.set qb (.cells [x, bv true])) := by
    refine ⟨rfl, x, ⟨List.getElem?_set_self hwl, ?_, h.ne⟩, by simp, fun b hb hF => getset_ne (fun e => hF (by rw [← e]; simp [WF])), fun b hb => .inl hb⟩
    rcases h.r with h1 | ⟨b, rfl, h2⟩
    · exact .inl h1
    · exact .inr ⟨b, rfl, by rw [getset_ne (fun e => h.ne (by rw [e]; simp [rowB])), h2]⟩
  by_cases h64 : 64 < s.size
  · have hno : ¬ textOk s := fun e => by have := e.1; omega
    rw [if_neg hno, if_neg hno]
    simp (disch := omega) only [Try.ntmps34, c34, r34, hc, DC_w, DC_n, kill_0, Nat.sub_zero, Int.reduceSub, Int.reduceMul, Int.reduceNeg, Int.reduceAdd, ↓rD0, ↓rD1, ↓rD2, ↓rD3, ↓rD4, rU0, rU1, rU2, rU3, rU4, rU5, toNat_n, Int.reduceToNat, slA, ptrsA, boolsA, Int.reducePow, Nat.reducePow, Nat.reduceMul, Int.reduceLT, Int.reduceLE, resA, resL, res1, eq_self, wanted, evK, get, setO, one, faA, loadA, storeA, outA, lenA, isStr, binA, unA, bnd, ints, toDat, toDats, datss, fillA, splice, List.length_nil, List.flatten_nil, Nat.reduceAdd, Nat.reduceLeDiff, Nat.reduceBEq, Nat.reduceSub, if_true, ite_true, cond_true, cond_false, List.replicate, if_false, ite_false, reduceCtorEq]
    exact Ret.keep hsp
  simp (disch := omega) only [Try.ntmps34, c34, r34, DC_w, DC_n, kill_0, Nat.sub_zero, Int.reduceSub, Int.reduceMul, Int.reduceNeg, Int.reduceAdd, ↓rD0, ↓rD1, ↓rD2, ↓rD3, ↓rD4, rU0, rU1, rU2, rU3, rU4, rU5, toNat_n, Int.reduceToNat, slA, ptrsA, boolsA, Int.reducePow, Nat.reducePow, Nat.reduceMul, Int.reduceLT, Int.reduceLE, resA, resL, res1, eq_self, wanted, evK, get, setO, one, faA, loadA, storeA, outA, lenA, isStr, binA, unA, bnd, ints, toDat, toDats, datss, fillA, splice, List.length_nil, List.flatten_nil, Nat.reduceAdd, Nat.reduceLeDiff, Nat.reduceBEq, Nat.reduceSub, if_true, ite_true, cond_true, cond_false, List.replicate, if_false, ite_false, reduceCtorEq]
  obtain ⟨S, hS⟩ : ∃ S : Nat → List AV, ∀ i, S i = [.ptr qb 0, sv s, .any, .any, iv i] ++ List.replicate 30 .any := ⟨_, fun _ => rfl⟩
  refine W.loopG (γ := Nat) (fun i => s.size - i) S (fun _ => H) (fun i => i ≤ s.size ∧ ∀ j, j < i → s.data.toList.getD j 0 ≠ 0) 0 (Wk.slots (by rw [hS]; exact WkL.tail 5 _ rfl (by simp only [List.take_succ_cons, List.take_zero]; repeat' first | exact WkL.nil | refine WkL.cons (Wk1.rfl _) ?_ | refine WkL.cons Wk1.esl ?_ | refine WkL.cons (Wk1.gsl _ _ _) ?_ | refine WkL.cons (Wk1.any _) ?_))) ⟨Nat.zero_le _, fun j hj => absurd hj (Nat.not_lt_zero _)⟩ (fun i hi => ?_)
  obtain ⟨q1, q2⟩ := hi
  by_cases hi2 : i < s.size
  · by_cases hz : s.data.toList.getD i 0 = 0
    · have hno : ¬ textOk s := fun e => e.2 (by
        rw [← hz, List.getD_eq_getElem?_getD, List.getElem?_eq_getElem (by rw [len_data]; exact hi2)]; exact List.getElem_mem _)
      rw [if_neg hno, if_neg hno]
      have hz2 : ((s.data.toList.getD i 0).toNat : Int) = 0 := by rw [hz]; rfl
      simp (disch := omega) only [hS, c34l0, hz2, hc, DC_w, DC_n, kill_0, Nat.sub_zero, Int.reduceSub, Int.reduceMul, Int.reduceNeg, Int.reduceAdd, ↓rD0, ↓rD1, ↓rD2, ↓rD3, ↓rD4, rU0, rU1, rU2, rU3, rU4, rU5, toNat_n, Int.reduceToNat, slA, ptrsA, boolsA, Int.reducePow, Nat.reducePow, Nat.reduceMul, Int.reduceLT, Int.reduceLE, resA, resL, res1, eq_self, wanted, evK, get, setO, one, faA, loadA, storeA, outA, lenA, isStr, binA, unA, bnd, ints, toDat, toDats, datss, fillA, splice, List.length_nil, List.flatten_nil, Nat.reduceAdd, Nat.reduceLeDiff, Nat.reduceBEq, Nat.reduceSub, if_true, ite_true, cond_true, cond_false, List.replicate, if_false, ite_false, reduceCtorEq]
      exact Ret.keep hsp
    · have hz2 : ¬ ((s.data.toList.getD i 0).toNat : Int) = 0 := fun e => hz (UInt8.toNat_inj.1 (by show _ = 0; omega))
      simp (disch := omega) only [hS, c34l0, hz2, DC_w, DC_n, kill_0, Nat.sub_zero, Int.reduceSub, Int.reduceMul, Int.reduceNeg, Int.reduceAdd, ↓rD0, ↓rD1, ↓rD2, ↓rD3, ↓rD4, rU0, rU1, rU2, rU3, rU4, rU5, toNat_n, Int.reduceToNat, slA, ptrsA, boolsA, Int.reducePow, Nat.reducePow, Nat.reduceMul, Int.reduceLT, Int.reduceLE, resA, resL, res1, eq_self, wanted, evK, get, setO, one, faA, loadA, storeA, outA, lenA, isStr, binA, unA, bnd, ints, toDat, toDats, datss, fillA, splice, List.length_nil, List.flatten_nil, Nat.reduceAdd, Nat.reduceLeDiff, Nat.reduceBEq, Nat.reduceSub, if_true, ite_true, cond_true, cond_false, List.replicate, if_false, ite_false, reduceCtorEq]
      exact Nxt.mk (i + 1) (by omega) (Wk.slots (by rw [hS]; exact WkL.tail 5 _ rfl (by simp only [List.take_succ_cons, List.take_zero]; repeat' first | exact WkL.nil | refine WkL.cons (Wk1.rfl _) ?_ | refine WkL.cons Wk1.esl ?_ | refine WkL.cons (Wk1.gsl _ _ _) ?_ | refine WkL.cons (Wk1.any _) ?_))) ⟨by omega, fun j hj => by
        rcases Nat.lt_or_ge j i with h' | h'
        · exact q2 j h'
        · rw [show j = i by omega]; exact hz⟩
  · have hok : textOk s := ⟨by omega, fun e => by
      obtain ⟨j, hj, he⟩ := List.mem_iff_getElem.1 e
      rw [len_data] at hj
      refine q2 j (by omega) ?_
      rw [List.getD_eq_getElem?_getD, List.getElem?_eq_getElem (by rw [len_data]; exact hj)]; exact he⟩
    rw [if_pos hok, if_pos hok]
    have hda : datss ((s.data.toList.map bd).map (·.map AV.d)) = some (s.data.toList.map bd) := datss_map_d _
    have hlm : (s.data.toList.map bd).length = s.size := by rw [List.length_map, len_data]
    have hlz : (s.data.toList ++ [0]).length = s.size + 1 := by rw [List.length_append, len_data]; rfl
    have hmz : (s.data.toList ++ [0]).map bd = s.data.toList.map bd ++ [[Dat.v (.int .u8 0)]] := by rw [List.map_append]; rfl
    rcases h.r with ⟨rfl, rfl⟩ | ⟨b, rfl, hb⟩
    · have hW : ∀ l, (H ++ l)[qb]? = some (.cells [.esl, bv sp]) := fun l => hold hc l
      simp (disch := omega) only [hS, c34l0, hc, elems_s, str_d, hda, hlm, datss, elems_d, hW, DC_w, DC_n, kill_0, Nat.sub_zero, Int.reduceSub, Int.reduceMul, Int.reduceNeg, Int.reduceAdd, ↓rD0, ↓rD1, ↓rD2, ↓rD3, ↓rD4, rU0, rU1, rU2, rU3, rU4, rU5, toNat_n, Int.reduceToNat, slA, ptrsA, boolsA, Int.reducePow, Nat.reducePow, Nat.reduceMul, Int.reduceLT, Int.reduceLE, resA, resL, res1, eq_self, wanted, evK, get, setO, one, faA, loadA, storeA, outA, lenA, isStr, binA, unA, bnd, ints, toDat, toDats, datss, fillA, splice, List.length_nil, List.flatten_nil, Nat.reduceAdd, Nat.reduceLeDiff, Nat.reduceBEq, Nat.reduceSub, if_true, ite_true, cond_true, cond_false, List.replicate, if_false, ite_false, reduceCtorEq]
      have := QOp.new (l := s.data.toList ++ [0]) h
      rw [hlz, hmz] at this
      exact Ret.keep this
    · have hne : b ≠ qb := fun e => h.ne (by rw [← e]; simp [rowB])
      have hW : ∀ y, (H.set b y)[qb]? = some (.cells [.gsl b 1 (bs.map bd), bv sp]) := fun y => by rw [getset_ne hne, hc]
      have hlb : (bs.map bd).length = bs.length := List.length_map ..
      have hbl := (List.getElem?_eq_some_iff.1 hb).1
      have hS2 : ∀ y, (H.set b y)[b]? = some y := fun y => List.getElem?_set_self hbl
      have h1 : (bs.length + s.size) * 1 ≤ 140737488355328 := by omega
      simp (disch := omega) only [hS, c34l0, hc, elems_s, str_d, hda, hlm, hlb, datss, elems_d, hW, hb, hS2, List.set_set, DC_w, DC_n, kill_0, Nat.sub_zero, Int.reduceSub, Int.reduceMul, Int.reduceNeg, Int.reduceAdd, ↓rD0, ↓rD1, ↓rD2, ↓rD3, ↓rD4, rU0, rU1, rU2, rU3, rU4, rU5, toNat_n, Int.reduceToNat, slA, ptrsA, boolsA, Int.reducePow, Nat.reducePow, Nat.reduceMul, Int.reduceLT, Int.reduceLE, resA, resL, res1, eq_self, wanted, evK, get, setO, one, faA, loadA, storeA, outA, lenA, isStr, binA, unA, bnd, ints, toDat, toDats, datss, fillA, splice, List.length_nil, List.flatten_nil, Nat.reduceAdd, Nat.reduceLeDiff, Nat.reduceBEq, Nat.reduceSub, if_true, ite_true, cond_true, cond_false, List.replicate, if_false, ite_false, reduceCtorEq]
      have := QOp.old (l := s.data.toList ++ [0]) h
      rw [show (bs ++ (s.data.toList ++ [(0 : UInt8)])).length = bs.length + s.size + 1 by rw [List.length_append, hlz]; omega, List.map_append, hmz] at this
      exact Ret.keep this
end Go.Proofs.Ytipjjcaflcpplaa
