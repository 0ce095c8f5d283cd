/- A scope of the program: Declare. -/
import Derived.Test.YthgffjaiklmbcaaWk5
namespace Go.Proofs.Ythgffjaiklmbcaa
set_option linter.unusedSimpArgs false
set_option linter.unusedVariables false
set_option maxRecDepth 20000
set_option maxHeartbeats 2000000
open Go.RowKit

theorem ImAt.at {H : List ABlk} {sb : Nat} {r : Im} {st : St} (h : ImAt H sb r st) : ∃ init x, r.f :: r.rs = init ++ [x] ∧ RowA 9 sd H x ((lastL st).map (·.1)) ∧
    ((r.at' sb = (sb, 2) ∧ init = [] ∧ x = r.f ∧ r.rs = []) ∨ ∃ lb cap j i', r.l = some (lb, cap, j) ∧ init = r.f :: i' ∧ r.rs = i' ++ [x] ∧ r.at' sb = (lb, i'.length) ∧ H[lb]? = some (.cells (i' ++ x :: j))) := by
  have hne : r.f :: r.rs ≠ [] := by simp
  have hr := (List.dropLast_concat_getLast hne).symm
  have hrows := h.rows
  rw [hr] at hrows
  obtain ⟨g1, g2, l, g3, g4⟩ := rows_last hrows
  have hd := h.dl
  have hll : l = (lastL st).map (·.1) := by
    have h1 : (st.map (·.map (·.1)))[st.length - 1]? = some l := by
      rw [g3, List.getElem?_append_right (by rw [List.length_map] at g1; simp; omega)]
      have : st.length - 1 - (List.take (r.f :: r.rs).dropLast.length (st.map (·.map (·.1)))).length = 0 := by rw [List.length_map] at g1; simp; omega
      rw [this]; rfl
    rw [List.getElem?_map, last_get (by omega)] at h1
    exact (Option.some.inj h1).symm
  subst hll
  refine ⟨_, _, hr, g4, ?_⟩
  by_cases h0 : r.rs = []
  · left
    refine ⟨?_, by simp [h0], by simp [h0], h0⟩
    unfold Im.at'
    split
    · rfl
    · rw [if_pos (by simp [h0])]
  · right
    cases e : r.l with
    | none => exact absurd (h.l0 e) h0
    | some y =>
      obtain ⟨lb, cap, j⟩ := y
      obtain ⟨q1, q2⟩ := h.l _ e
      have e2 := (List.dropLast_concat_getLast h0).symm
      refine ⟨lb, cap, j, r.rs.dropLast, rfl, ?_, ?_, ?_, ?_⟩
      · rw [List.dropLast_cons_of_ne_nil h0]
      · rw [List.getLast_cons h0]; exact e2
      · unfold Im.at'
        rw [e]
        simp only
        have : r.rs.length ≠ 0 := fun e => h0 (List.eq_nil_of_length_eq_zero e)
        rw [if_neg this, List.length_dropLast]
      · simp only at q1
        rw [q1, List.getLast_cons h0]
        congr 2
        conv => lhs; rw [e2]
        simp

theorem declare_no {H : List ABlk} {sb : Nat} {r : Im} {st : St} (h : ImAt H sb r st) (s : ByteArray) (hs : s.size ≤ 5000) (n : Int) (hv : declV st s ≠ 0) : ACalls Try.prog 9 [.ptr sb 0, sv s, iv n] H fun v H' => v = iv (declV st s) ∧ H' = H := by
  refine ACalls.into Try.func9 cc9 rr9 fun hcl => ?_
  have hd := h.dl
  have hlen := h.len
  have hsb := h.lt sb (by simp [Im.F])
  have hsp := h.s
  simp (disch := omega) only [Try.ntmps9, c9, r9, DC_w, DC_n, kill_0, Nat.sub_zero, ↓rD0, ↓rD1, ↓rD2, ↓rD3, ↓rD4, rU0, rU1, rU2, rU3, rU4, rU5, toNat_n, Int.reduceToNat, slA, ptrsA, boolsA, Int.reducePow, Nat.reducePow, Nat.reduceMul, Int.reduceLT, Int.reduceLE, resA, resL, res1, eq_self, wanted, evK, get, setO, one, faA, loadA, storeA, outA, lenA, isStr, binA, unA, bnd, ints, toDat, toDats, datss, fillA, splice, List.length_nil, List.flatten_nil, Nat.reduceAdd, Nat.reduceLeDiff, Nat.reduceBEq, Nat.reduceSub, if_true, ite_true, cond_true, cond_false, List.replicate, if_false, ite_false, reduceCtorEq]
  refine Cont.mk (named_c s _) ?_
  by_cases h1 : Nm s
  · simp (disch := omega) only [nm_t h1, DC_w, DC_n, kill_0, Nat.sub_zero, ↓rD0, ↓rD1, ↓rD2, ↓rD3, ↓rD4, rU0, rU1, rU2, rU3, rU4, rU5, toNat_n, Int.reduceToNat, slA, ptrsA, boolsA, Int.reducePow, Nat.reducePow, Nat.reduceMul, Int.reduceLT, Int.reduceLE, resA, resL, res1, eq_self, wanted, evK, get, setO, one, faA, loadA, storeA, outA, lenA, isStr, binA, unA, bnd, ints, toDat, toDats, datss, fillA, splice, List.length_nil, List.flatten_nil, Nat.reduceAdd, Nat.reduceLeDiff, Nat.reduceBEq, Nat.reduceSub, if_true, ite_true, cond_true, cond_false, List.replicate, if_false, ite_false, reduceCtorEq]
    refine Cont.mk (depth_c h) ?_
    simp (disch := omega) only [DC_w, DC_n, kill_0, Nat.sub_zero, ↓rD0, ↓rD1, ↓rD2, ↓rD3, ↓rD4, rU0, rU1, rU2, rU3, rU4, rU5, toNat_n, Int.reduceToNat, slA, ptrsA, boolsA, Int.reducePow, Nat.reducePow, Nat.reduceMul, Int.reduceLT, Int.reduceLE, resA, resL, res1, eq_self, wanted, evK, get, setO, one, faA, loadA, storeA, outA, lenA, isStr, binA, unA, bnd, ints, toDat, toDats, datss, fillA, splice, List.length_nil, List.flatten_nil, Nat.reduceAdd, Nat.reduceLeDiff, Nat.reduceBEq, Nat.reduceSub, if_true, ite_true, cond_true, cond_false, List.replicate, if_false, ite_false, reduceCtorEq]
    refine W.pchain follows (by decide +kernel) ?_
    have hp : ∀ l, (H ++ l)[sb]? = some (.cells [r.mA, r.lA, r.f]) := fun l => hold hsp l
    have hf := fits_k (k := (st.length : Int) - 1) (s := s) (by omega) (by omega) hs
    have hg := mapGet_r h (st.length - 1) (by omega) s
    have hm0 := mapOf_r h
    have hmo : ∀ l, mapOf (H ++ l) kt r.mA = some (r.E.map En.e) := fun l => by
      rw [← hm0]
      unfold Im.mA
      cases e : r.m with
      | none => rfl
      | some y => simp only [mapOf, h.m y e, hold (h.m y e) l]
    rw [show ((st.length - 1 : Nat) : Int) = (st.length : Int) - 1 by omega, show st.getD (st.length - 1) [] = lastL st from rfl] at hg
    cases h2 : lvGet (lastL st) s with
    | some m =>
      rw [h2] at hg
      obtain ⟨p, hp0, hp2⟩ := Option.map_eq_some_iff.1 hg
      obtain ⟨p1, p2⟩ := p
      simp only at hp2
      subst hp2
      simp (disch := omega) only [hp, hmo, keyOf_k, hf, hp0, DC_w, DC_n, kill_0, Nat.sub_zero, ↓rD0, ↓rD1, ↓rD2, ↓rD3, ↓rD4, rU0, rU1, rU2, rU3, rU4, rU5, toNat_n, Int.reduceToNat, slA, ptrsA, boolsA, Int.reducePow, Nat.reducePow, Nat.reduceMul, Int.reduceLT, Int.reduceLE, resA, resL, res1, eq_self, wanted, evK, get, setO, one, faA, loadA, storeA, outA, lenA, isStr, binA, unA, bnd, ints, toDat, toDats, datss, fillA, splice, List.length_nil, List.flatten_nil, Nat.reduceAdd, Nat.reduceLeDiff, Nat.reduceBEq, Nat.reduceSub, if_true, ite_true, cond_true, cond_false, List.replicate, if_false, ite_false, reduceCtorEq]
      exact Ret.drop _ H (Nat.le_refl _) hcl (Wk1.rfl _) (by simp [refs]) ⟨by rw [declV, if_neg (by simpa using h1), h2]; rfl, rfl⟩
    | none =>
      rw [h2] at hg
      have hg' : mapGet (r.E.map En.e) (key ((st.length : Int) - 1) s) = none := by simpa using hg
      have h3 : (lastL st).length = 256 := by
        apply Classical.byContradiction
        intro h3
        exact hv (by rw [declV, if_neg (by simpa using h1), h2, if_neg (by simp), if_neg h3])
      simp (disch := omega) only [hp, hmo, keyOf_k, hf, hg', DC_w, DC_n, kill_0, Nat.sub_zero, ↓rD0, ↓rD1, ↓rD2, ↓rD3, ↓rD4, rU0, rU1, rU2, rU3, rU4, rU5, toNat_n, Int.reduceToNat, slA, ptrsA, boolsA, Int.reducePow, Nat.reducePow, Nat.reduceMul, Int.reduceLT, Int.reduceLE, resA, resL, res1, eq_self, wanted, evK, get, setO, one, faA, loadA, storeA, outA, lenA, isStr, binA, unA, bnd, ints, toDat, toDats, datss, fillA, splice, List.length_nil, List.flatten_nil, Nat.reduceAdd, Nat.reduceLeDiff, Nat.reduceBEq, Nat.reduceSub, if_true, ite_true, cond_true, cond_false, List.replicate, if_false, ite_false, reduceCtorEq]
      have hx := h.ext h.lt [.cells [iv ((st.length : Int) - 1), sv s]]
      refine Cont.mk (here_c hx) ?_
      obtain ⟨init, x, hr, hrow, hat⟩ := hx.at
      have hlx : lenA x = some 256 := by
        rcases hrow with ⟨rfl, e⟩ | ⟨b, rfl, _⟩
        · have := congrArg List.length e; simp [h3] at this
        · simp [lenA, h3]
      have hxs : isStr x = false := by
        rcases hrow with ⟨rfl, e⟩ | ⟨b, rfl, _⟩ <;> rfl
      simp only [lenA, isStr] at hlx hxs
      rcases hat with ⟨a1, a2, rfl, a4⟩ | ⟨lb, cap, j, i', a1, a2, a3, a4, a5⟩
      · simp (disch := omega) only [a1, hp, hlx, hxs, DC_w, DC_n, kill_0, Nat.sub_zero, ↓rD0, ↓rD1, ↓rD2, ↓rD3, ↓rD4, rU0, rU1, rU2, rU3, rU4, rU5, toNat_n, Int.reduceToNat, slA, ptrsA, boolsA, Int.reducePow, Nat.reducePow, Nat.reduceMul, Int.reduceLT, Int.reduceLE, resA, resL, res1, eq_self, wanted, evK, get, setO, one, faA, loadA, storeA, outA, lenA, isStr, binA, unA, bnd, ints, toDat, toDats, datss, fillA, splice, List.length_nil, List.flatten_nil, Nat.reduceAdd, Nat.reduceLeDiff, Nat.reduceBEq, Nat.reduceSub, if_true, ite_true, cond_true, cond_false, List.replicate, if_false, ite_false, reduceCtorEq]
        exact Ret.drop _ H (Nat.le_refl _) hcl (Wk1.rfl _) (by simp [refs]) ⟨by rw [declV, if_neg (by simpa using h1), h2, if_neg (by simp), if_pos h3], rfl⟩
      · have d1 : ((i' ++ x :: j).drop i'.length).take 1 = [x] := by simp
        have d2 : i'.length + 1 ≤ (i' ++ x :: j).length := by simp
        simp (disch := omega) only [a4, a5, d1, d2, hlx, hxs, DC_w, DC_n, kill_0, Nat.sub_zero, ↓rD0, ↓rD1, ↓rD2, ↓rD3, ↓rD4, rU0, rU1, rU2, rU3, rU4, rU5, toNat_n, Int.reduceToNat, slA, ptrsA, boolsA, Int.reducePow, Nat.reducePow, Nat.reduceMul, Int.reduceLT, Int.reduceLE, resA, resL, res1, eq_self, wanted, evK, get, setO, one, faA, loadA, storeA, outA, lenA, isStr, binA, unA, bnd, ints, toDat, toDats, datss, fillA, splice, List.length_nil, List.flatten_nil, Nat.reduceAdd, Nat.reduceLeDiff, Nat.reduceBEq, Nat.reduceSub, if_true, ite_true, cond_true, cond_false, List.replicate, if_false, ite_false, reduceCtorEq]
        exact Ret.drop _ H (Nat.le_refl _) hcl (Wk1.rfl _) (by simp [refs]) ⟨by rw [declV, if_neg (by simpa using h1), h2, if_neg (by simp), if_pos h3], rfl⟩
  · simp (disch := omega) only [nm_f h1, DC_w, DC_n, kill_0, Nat.sub_zero, ↓rD0, ↓rD1, ↓rD2, ↓rD3, ↓rD4, rU0, rU1, rU2, rU3, rU4, rU5, toNat_n, Int.reduceToNat, slA, ptrsA, boolsA, Int.reducePow, Nat.reducePow, Nat.reduceMul, Int.reduceLT, Int.reduceLE, resA, resL, res1, eq_self, wanted, evK, get, setO, one, faA, loadA, storeA, outA, lenA, isStr, binA, unA, bnd, ints, toDat, toDats, datss, fillA, splice, List.length_nil, List.flatten_nil, Nat.reduceAdd, Nat.reduceLeDiff, Nat.reduceBEq, Nat.reduceSub, if_true, ite_true, cond_true, cond_false, List.replicate, if_false, ite_false, reduceCtorEq]
    exact Ret.keep ⟨by rw [declV, if_pos h1], rfl⟩
end Go.Proofs.Ythgffjaiklmbcaa
