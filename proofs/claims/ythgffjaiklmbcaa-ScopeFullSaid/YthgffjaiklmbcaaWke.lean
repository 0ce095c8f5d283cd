/- ScopeDeep. -/
import Derived.Test.YthgffjaiklmbcaaWkd
namespace Go.Proofs.Ythgffjaiklmbcaa
set_option linter.unusedSimpArgs false
set_option linter.unusedVariables false
set_option maxRecDepth 20000
set_option maxHeartbeats 2000000
open Go.RowKit

def deepL (i : Nat) : St := (List.range i).map fun (j : Nat) => [(xS, (j : Int))]
theorem deepL_len (i : Nat) : (deepL i).length = i := by simp [deepL]
theorem deepL_succ (i : Nat) : deepL (i + 1) = deepL i ++ [[(xS, (i : Int))]] := by simp [deepL, List.range_succ]
def deepS (i : Nat) : St := if i ≤ 63 then deepL i ++ [[]] else deepL 64
theorem lastL_app (l : St) (x : Lv) : lastL (l ++ [x]) = x := by
  simp [lastL, List.getD_eq_getElem?_getD]
theorem set_app (l : St) (x y : Lv) : (l ++ [x]).set ((l ++ [x]).length - 1) y = l ++ [y] := by
  simp [List.set_append_right]
theorem getD_app_last (l : St) (x : Lv) : (l ++ [x]).getD l.length [] = x := by simp [List.getD_eq_getElem?_getD]
theorem getD_app_lt (l m : St) {i : Nat} (h : i < l.length) : (l ++ m).getD i [] = l.getD i [] := by
  simp [List.getD_eq_getElem?_getD, List.getElem?_append_left h]
theorem findD_hit {st : St} {s : ByteArray} {k : Nat} {n : Int} (h : lvGet (st.getD k []) s = some n) : findD st s (k + 1) = some (n, k) := by rw [findD, h]
theorem findD_miss {st : St} {s : ByteArray} {k : Nat} (h : lvGet (st.getD k []) s = none) : findD st s (k + 1) = findD st s k := by rw [findD, h]
theorem lv_x (n : Int) : lvGet [(xS, n)] xS = some n := by rw [lvGet_cons, if_pos rfl]

structure DpG where
  i : Nat
  H : List ABlk
  r : Im
theorem ScopeDeep_c (n : Int) (h0 : 0 ≤ n) (h1 : n < 256) (H : List ABlk) : ACalls Try.prog 3 [.d (.v (.int .u8 n))] H fun v H' => v = bv true ∧ H' = H := by
  refine ACalls.into Try.func3 cc3 rr3 fun hcl => ?_
  simp (disch := omega) only [Try.ntmps3, c3, r3, DC_w, DC_n, kill_0, Nat.sub_zero, ↓rD0, ↓rD1, ↓rD2, ↓rD3, ↓rD4, rU0, rU1, rU2, rU3, rU4, rU5, toNat_n, Int.reduceToNat, slA, ptrsA, boolsA, Int.reducePow, Nat.reducePow, Nat.reduceMul, Int.reduceLT, Int.reduceLE, resA, resL, res1, eq_self, wanted, evK, get, setO, one, faA, loadA, storeA, outA, lenA, isStr, binA, unA, bnd, ints, toDat, toDats, datss, fillA, splice, List.length_nil, List.flatten_nil, Nat.reduceAdd, Nat.reduceLeDiff, Nat.reduceBEq, Nat.reduceSub, if_true, ite_true, cond_true, cond_false, List.replicate, if_false, ite_false, reduceCtorEq]
  refine Cont.mk (new_c H) ?_
  have hk0 : 0 ≤ n % 70 ∧ n % 70 < 70 := by omega
  simp (disch := omega) only [DC_w, DC_n, kill_0, Nat.sub_zero, ↓rD0, ↓rD1, ↓rD2, ↓rD3, ↓rD4, rU0, rU1, rU2, rU3, rU4, rU5, toNat_n, Int.reduceToNat, slA, ptrsA, boolsA, Int.reducePow, Nat.reducePow, Nat.reduceMul, Int.reduceLT, Int.reduceLE, resA, resL, res1, eq_self, wanted, evK, get, setO, one, faA, loadA, storeA, outA, lenA, isStr, binA, unA, bnd, ints, toDat, toDats, datss, fillA, splice, List.length_nil, List.flatten_nil, Nat.reduceAdd, Nat.reduceLeDiff, Nat.reduceBEq, Nat.reduceSub, if_true, ite_true, cond_true, cond_false, List.replicate, if_false, ite_false, reduceCtorEq]
  obtain ⟨k, hk⟩ : ∃ k : Nat, n % 70 = (k : Int) := ⟨(n % 70).toNat, by omega⟩
  have hk70 : k < 70 := by omega
  simp only [hk]
  obtain ⟨S, hS⟩ : ∃ S : DpG → List AV, ∀ g, S g = [.any, .any, .any, .ptr H.length 0, iv k, iv g.i] ++ List.replicate 70 .any := ⟨_, fun _ => rfl⟩
  refine W.loopG (γ := DpG) (fun g => 64 - g.i) S (fun g => g.H) (fun g => g.i ≤ 64 ∧ g.i ≤ k ∧ ImAt g.H H.length g.r (deepS g.i) ∧ Ow H (g.r.F H.length) g.H) ⟨0, _, im0⟩ (Wk.slots (by rw [hS]; exact WkL.tail 6 _ rfl (by simp only [List.take_succ_cons, List.take_zero]; repeat' first | exact WkL.nil | refine WkL.cons (Wk1.rfl _) ?_ | refine WkL.cons Wk1.esl ?_ | refine WkL.cons (Wk1.gsl _ _ _) ?_ | refine WkL.cons (Wk1.any _) ?_))) ⟨by show (0 : Nat) ≤ 64; omega, by show 0 ≤ k; omega, ImAt.new H, Ow.new H⟩ (fun g hg => ?_)
  obtain ⟨q1, q2, q3, q4⟩ := hg
  simp (disch := omega) only [hS, c3l0, DC_w, DC_n, kill_0, Nat.sub_zero, ↓rD0, ↓rD1, ↓rD2, ↓rD3, ↓rD4, rU0, rU1, rU2, rU3, rU4, rU5, toNat_n, Int.reduceToNat, slA, ptrsA, boolsA, Int.reducePow, Nat.reducePow, Nat.reduceMul, Int.reduceLT, Int.reduceLE, resA, resL, res1, eq_self, wanted, evK, get, setO, one, faA, loadA, storeA, outA, lenA, isStr, binA, unA, bnd, ints, toDat, toDats, datss, fillA, splice, List.length_nil, List.flatten_nil, Nat.reduceAdd, Nat.reduceLeDiff, Nat.reduceBEq, Nat.reduceSub, if_true, ite_true, cond_true, cond_false, List.replicate, if_false, ite_false, reduceCtorEq]
  refine Br.dec (fun hc => ?_) (fun hc => ?_) <;> simp (disch := omega) only [DC_w, DC_n, kill_0, Nat.sub_zero, ↓rD0, ↓rD1, ↓rD2, ↓rD3, ↓rD4, rU0, rU1, rU2, rU3, rU4, rU5, toNat_n, Int.reduceToNat, slA, ptrsA, boolsA, Int.reducePow, Nat.reducePow, Nat.reduceMul, Int.reduceLT, Int.reduceLE, resA, resL, res1, eq_self, wanted, evK, get, setO, one, faA, loadA, storeA, outA, lenA, isStr, binA, unA, bnd, ints, toDat, toDats, datss, fillA, splice, List.length_nil, List.flatten_nil, Nat.reduceAdd, Nat.reduceLeDiff, Nat.reduceBEq, Nat.reduceSub, if_true, ite_true, cond_true, cond_false, List.replicate, if_false, ite_false, reduceCtorEq]
  · by_cases hi : g.i = 64
    · have e1 : deepS g.i = deepL 64 := by rw [deepS, if_neg (by omega)]
      have e2 : deepL 64 = deepL 63 ++ [[(xS, ((63 : Nat) : Int))]] := deepL_succ 63
      have hv : declV (deepS g.i) xS = 151 := by
        rw [declV, if_neg (by simpa using nm_x), if_pos]
        rw [e1, e2, lastL_app, lv_x]; rfl
      have hno := declare_no q3 xS size_x g.i (by rw [hv]; decide)
      rw [hv] at hno
      refine Cont.mk hno ?_
      have e3 : (deepS g.i).length = 64 := by rw [e1, deepL_len]
      simp (disch := omega) only [DC_w, DC_n, kill_0, Nat.sub_zero, ↓rD0, ↓rD1, ↓rD2, ↓rD3, ↓rD4, rU0, rU1, rU2, rU3, rU4, rU5, toNat_n, Int.reduceToNat, slA, ptrsA, boolsA, Int.reducePow, Nat.reducePow, Nat.reduceMul, Int.reduceLT, Int.reduceLE, resA, resL, res1, eq_self, wanted, evK, get, setO, one, faA, loadA, storeA, outA, lenA, isStr, binA, unA, bnd, ints, toDat, toDats, datss, fillA, splice, List.length_nil, List.flatten_nil, Nat.reduceAdd, Nat.reduceLeDiff, Nat.reduceBEq, Nat.reduceSub, if_true, ite_true, cond_true, cond_false, List.replicate, if_false, ite_false, reduceCtorEq]
      refine Cont.mk (depth_c q3) ?_
      simp (disch := omega) only [e3, DC_w, DC_n, kill_0, Nat.sub_zero, ↓rD0, ↓rD1, ↓rD2, ↓rD3, ↓rD4, rU0, rU1, rU2, rU3, rU4, rU5, toNat_n, Int.reduceToNat, slA, ptrsA, boolsA, Int.reducePow, Nat.reducePow, Nat.reduceMul, Int.reduceLT, Int.reduceLE, resA, resL, res1, eq_self, wanted, evK, get, setO, one, faA, loadA, storeA, outA, lenA, isStr, binA, unA, bnd, ints, toDat, toDats, datss, fillA, splice, List.length_nil, List.flatten_nil, Nat.reduceAdd, Nat.reduceLeDiff, Nat.reduceBEq, Nat.reduceSub, if_true, ite_true, cond_true, cond_false, List.replicate, if_false, ite_false, reduceCtorEq]
      refine Cont.mk (wakes_c _) ?_
      simp (disch := omega) only [DC_w, DC_n, kill_0, Nat.sub_zero, ↓rD0, ↓rD1, ↓rD2, ↓rD3, ↓rD4, rU0, rU1, rU2, rU3, rU4, rU5, toNat_n, Int.reduceToNat, slA, ptrsA, boolsA, Int.reducePow, Nat.reducePow, Nat.reduceMul, Int.reduceLT, Int.reduceLE, resA, resL, res1, eq_self, wanted, evK, get, setO, one, faA, loadA, storeA, outA, lenA, isStr, binA, unA, bnd, ints, toDat, toDats, datss, fillA, splice, List.length_nil, List.flatten_nil, Nat.reduceAdd, Nat.reduceLeDiff, Nat.reduceBEq, Nat.reduceSub, if_true, ite_true, cond_true, cond_false, List.replicate, if_false, ite_false, reduceCtorEq]
      exact Ret.pre _ H q4.1 (Nat.le_refl _) hcl (.rfl _) (by simp [refs]) ⟨rfl, rfl⟩
    · have e1 : deepS g.i = deepL g.i ++ [[]] := by rw [deepS, if_pos (by omega)]
      have g1 : lvGet (lastL (deepS g.i)) xS = none := by rw [e1, lastL_app]; rfl
      have g2 : (lastL (deepS g.i)).length ≠ 256 := by rw [e1, lastL_app]; decide
      obtain ⟨H2, r2, a2, i2, k2⟩ := declare_c q3 xS size_x g.i
      rw [declV_yes nm_x g1 g2] at a2
      have e2 : declS (deepS g.i) xS g.i = deepL (g.i + 1) := by
        rw [declS_yes _ nm_x g1 g2, e1, lastL_app, set_app, deepL_succ]; rfl
      rw [e2] at i2
      have o2 := q4.chg k2
      refine Cont.mk a2 ?_
      simp (disch := omega) only [DC_w, DC_n, kill_0, Nat.sub_zero, ↓rD0, ↓rD1, ↓rD2, ↓rD3, ↓rD4, rU0, rU1, rU2, rU3, rU4, rU5, toNat_n, Int.reduceToNat, slA, ptrsA, boolsA, Int.reducePow, Nat.reducePow, Nat.reduceMul, Int.reduceLT, Int.reduceLE, resA, resL, res1, eq_self, wanted, evK, get, setO, one, faA, loadA, storeA, outA, lenA, isStr, binA, unA, bnd, ints, toDat, toDats, datss, fillA, splice, List.length_nil, List.flatten_nil, Nat.reduceAdd, Nat.reduceLeDiff, Nat.reduceBEq, Nat.reduceSub, if_true, ite_true, cond_true, cond_false, List.replicate, if_false, ite_false, reduceCtorEq]
      refine Cont.rel (open_c i2) ?_
      rintro v H3 ⟨rfl, r3, i3, k3⟩
      have o3 := o2.chg k3
      by_cases h63 : g.i = 63
      · have e3 : openV (deepL (g.i + 1)) = 4 := by rw [openV, deepL_len, if_pos (by omega)]
        have e4 : openS (deepL (g.i + 1)) = deepS (g.i + 1) := by rw [openS, deepL_len, if_pos (by omega), deepS, if_neg (by omega), h63]
        rw [e4] at i3
        have e5 : findD (deepS (g.i + 1)) xS (deepS (g.i + 1)).length = some ((g.i : Int), g.i) := by
          rw [deepS, if_neg (by omega), deepL_len, h63]
          refine findD_hit ?_
          rw [show deepL 64 = deepL 63 ++ [[(xS, ((63 : Nat) : Int))]] from deepL_succ 63]
          have := getD_app_last (deepL 63) [(xS, ((63 : Nat) : Int))]
          rw [deepL_len] at this
          rw [this, lv_x]
        simp (disch := omega) only [e3, DC_w, DC_n, kill_0, Nat.sub_zero, ↓rD0, ↓rD1, ↓rD2, ↓rD3, ↓rD4, rU0, rU1, rU2, rU3, rU4, rU5, toNat_n, Int.reduceToNat, slA, ptrsA, boolsA, Int.reducePow, Nat.reducePow, Nat.reduceMul, Int.reduceLT, Int.reduceLE, resA, resL, res1, eq_self, wanted, evK, get, setO, one, faA, loadA, storeA, outA, lenA, isStr, binA, unA, bnd, ints, toDat, toDats, datss, fillA, splice, List.length_nil, List.flatten_nil, Nat.reduceAdd, Nat.reduceLeDiff, Nat.reduceBEq, Nat.reduceSub, if_true, ite_true, cond_true, cond_false, List.replicate, if_false, ite_false, reduceCtorEq]
        refine Cont.mk (find_c i3 xS size_x) ?_
        rw [e5]
        simp (disch := omega) only [findV, DC_w, DC_n, kill_0, Nat.sub_zero, ↓rD0, ↓rD1, ↓rD2, ↓rD3, ↓rD4, rU0, rU1, rU2, rU3, rU4, rU5, toNat_n, Int.reduceToNat, slA, ptrsA, boolsA, Int.reducePow, Nat.reducePow, Nat.reduceMul, Int.reduceLT, Int.reduceLE, resA, resL, res1, eq_self, wanted, evK, get, setO, one, faA, loadA, storeA, outA, lenA, isStr, binA, unA, bnd, ints, toDat, toDats, datss, fillA, splice, List.length_nil, List.flatten_nil, Nat.reduceAdd, Nat.reduceLeDiff, Nat.reduceBEq, Nat.reduceSub, if_true, ite_true, cond_true, cond_false, List.replicate, if_false, ite_false, reduceCtorEq]
        exact Nxt.mk ⟨g.i + 1, _, r3⟩ (by show 64 - (g.i + 1) < 64 - g.i; omega) (Wk.slots (by rw [hS]; exact WkL.tail 6 _ rfl (by simp only [List.take_succ_cons, List.take_zero]; repeat' first | exact WkL.nil | refine WkL.cons (Wk1.rfl _) ?_ | refine WkL.cons Wk1.esl ?_ | refine WkL.cons (Wk1.gsl _ _ _) ?_ | refine WkL.cons (Wk1.any _) ?_))) ⟨by show g.i + 1 ≤ 64; omega, by show g.i + 1 ≤ k; omega, i3, o3⟩
      · have e3 : openV (deepL (g.i + 1)) = 0 := by rw [openV, deepL_len, if_neg (by omega)]
        have e4 : openS (deepL (g.i + 1)) = deepS (g.i + 1) := by rw [openS, deepL_len, if_neg (by omega), deepS, if_pos (by omega)]
        rw [e4] at i3
        have e5 : findD (deepS (g.i + 1)) xS (deepS (g.i + 1)).length = some ((g.i : Int), g.i) := by
          rw [deepS, if_pos (by omega), List.length_append, deepL_len]
          rw [show g.i + 1 + [([] : Lv)].length = (g.i + 1) + 1 from rfl]
          rw [findD_miss (by have := getD_app_last (deepL (g.i + 1)) []; rw [deepL_len] at this; rw [this]; rfl)]
          refine findD_hit ?_
          rw [getD_app_lt _ _ (by rw [deepL_len]; omega), deepL_succ]
          have := getD_app_last (deepL g.i) [(xS, (g.i : Int))]
          rw [deepL_len] at this
          rw [this, lv_x]
        simp (disch := omega) only [e3, DC_w, DC_n, kill_0, Nat.sub_zero, ↓rD0, ↓rD1, ↓rD2, ↓rD3, ↓rD4, rU0, rU1, rU2, rU3, rU4, rU5, toNat_n, Int.reduceToNat, slA, ptrsA, boolsA, Int.reducePow, Nat.reducePow, Nat.reduceMul, Int.reduceLT, Int.reduceLE, resA, resL, res1, eq_self, wanted, evK, get, setO, one, faA, loadA, storeA, outA, lenA, isStr, binA, unA, bnd, ints, toDat, toDats, datss, fillA, splice, List.length_nil, List.flatten_nil, Nat.reduceAdd, Nat.reduceLeDiff, Nat.reduceBEq, Nat.reduceSub, if_true, ite_true, cond_true, cond_false, List.replicate, if_false, ite_false, reduceCtorEq]
        refine Cont.mk (find_c i3 xS size_x) ?_
        rw [e5]
        simp (disch := omega) only [findV, DC_w, DC_n, kill_0, Nat.sub_zero, ↓rD0, ↓rD1, ↓rD2, ↓rD3, ↓rD4, rU0, rU1, rU2, rU3, rU4, rU5, toNat_n, Int.reduceToNat, slA, ptrsA, boolsA, Int.reducePow, Nat.reducePow, Nat.reduceMul, Int.reduceLT, Int.reduceLE, resA, resL, res1, eq_self, wanted, evK, get, setO, one, faA, loadA, storeA, outA, lenA, isStr, binA, unA, bnd, ints, toDat, toDats, datss, fillA, splice, List.length_nil, List.flatten_nil, Nat.reduceAdd, Nat.reduceLeDiff, Nat.reduceBEq, Nat.reduceSub, if_true, ite_true, cond_true, cond_false, List.replicate, if_false, ite_false, reduceCtorEq]
        exact Nxt.mk ⟨g.i + 1, _, r3⟩ (by show 64 - (g.i + 1) < 64 - g.i; omega) (Wk.slots (by rw [hS]; exact WkL.tail 6 _ rfl (by simp only [List.take_succ_cons, List.take_zero]; repeat' first | exact WkL.nil | refine WkL.cons (Wk1.rfl _) ?_ | refine WkL.cons Wk1.esl ?_ | refine WkL.cons (Wk1.gsl _ _ _) ?_ | refine WkL.cons (Wk1.any _) ?_))) ⟨by show g.i + 1 ≤ 64; omega, by show g.i + 1 ≤ k; omega, i3, o3⟩
  · have hik : g.i = k := by omega
    have e3 : ((deepS g.i).length : Int) - 1 = min (k : Int) 63 := by
      rw [deepS]; split
      · rw [List.length_append, deepL_len]; simp; omega
      · rw [deepL_len]; omega
    refine Cont.mk (depth_c q3) ?_
    rw [e3]
    simp (disch := omega) only [DC_w, DC_n, kill_0, Nat.sub_zero, ↓rD0, ↓rD1, ↓rD2, ↓rD3, ↓rD4, rU0, rU1, rU2, rU3, rU4, rU5, toNat_n, Int.reduceToNat, slA, ptrsA, boolsA, Int.reducePow, Nat.reducePow, Nat.reduceMul, Int.reduceLT, Int.reduceLE, resA, resL, res1, eq_self, wanted, evK, get, setO, one, faA, loadA, storeA, outA, lenA, isStr, binA, unA, bnd, ints, toDat, toDats, datss, fillA, splice, List.length_nil, List.flatten_nil, Nat.reduceAdd, Nat.reduceLeDiff, Nat.reduceBEq, Nat.reduceSub, if_true, ite_true, cond_true, cond_false, List.replicate, if_false, ite_false, reduceCtorEq]
    refine Cont.mk (wakes_c _) ?_
    simp (disch := omega) only [DC_w, DC_n, kill_0, Nat.sub_zero, ↓rD0, ↓rD1, ↓rD2, ↓rD3, ↓rD4, rU0, rU1, rU2, rU3, rU4, rU5, toNat_n, Int.reduceToNat, slA, ptrsA, boolsA, Int.reducePow, Nat.reducePow, Nat.reduceMul, Int.reduceLT, Int.reduceLE, resA, resL, res1, eq_self, wanted, evK, get, setO, one, faA, loadA, storeA, outA, lenA, isStr, binA, unA, bnd, ints, toDat, toDats, datss, fillA, splice, List.length_nil, List.flatten_nil, Nat.reduceAdd, Nat.reduceLeDiff, Nat.reduceBEq, Nat.reduceSub, if_true, ite_true, cond_true, cond_false, List.replicate, if_false, ite_false, reduceCtorEq]
    exact Ret.pre _ H q4.1 (Nat.le_refl _) hcl (.rfl _) (by simp [refs]) ⟨rfl, rfl⟩
end Go.Proofs.Ythgffjaiklmbcaa
