/- ScopeBack. -/
import Derived.Test.YthgffjaiklmbcaaWkf
namespace Go.Proofs.Ythgffjaiklmbcaa
set_option linter.unusedSimpArgs false
set_option linter.unusedVariables false
set_option maxRecDepth 20000
set_option maxHeartbeats 2000000
open Go.RowKit

def fN : Option (Int × Nat) → Int
  | some p => p.1
  | none => 0
def fK : Option (Int × Nat) → Int
  | some p => p.2
  | none => 0
theorem findV_eq (o : Option (Int × Nat)) : findV o = .tup [iv (fN o), iv (fK o), bv o.isSome] := by cases o <;> rfl
theorem declS_app (st : St) (lv : Lv) (s : ByteArray) (n : Int) : ∃ lv', declS (st ++ [lv]) s n = st ++ [lv'] := by
  unfold declS
  split
  · exact ⟨_, set_app st lv _⟩
  · exact ⟨lv, rfl⟩
structure BkG where
  i : Nat
  H : List ABlk
  r : Im
  lv : Lv
theorem ScopeBack_c (la lw : List ByteArray) (H : List ABlk) : ACalls Try.prog 5 [.d (.sl (la.map sd)), .d (.sl (lw.map sd))] H fun v H' => v = bv true ∧ H' = H := by
  refine ACalls.into Try.func5 cc5 rr5 fun hcl => ?_
  simp (disch := omega) only [Try.ntmps5, c5, r5, DC_w, DC_n, kill_0, Nat.sub_zero, ↓rD0, ↓rD1, ↓rD2, ↓rD3, ↓rD4, rU0, rU1, rU2, rU3, rU4, rU5, toNat_n, Int.reduceToNat, slA, ptrsA, boolsA, Int.reducePow, Nat.reducePow, Nat.reduceMul, Int.reduceLT, Int.reduceLE, resA, resL, res1, eq_self, wanted, evK, get, setO, one, faA, loadA, storeA, outA, lenA, isStr, binA, unA, bnd, ints, toDat, toDats, datss, fillA, splice, List.length_nil, List.flatten_nil, Nat.reduceAdd, Nat.reduceLeDiff, Nat.reduceBEq, Nat.reduceSub, if_true, ite_true, cond_true, cond_false, List.replicate, if_false, ite_false, reduceCtorEq]
  refine Cont.mk (new_c H) ?_
  by_cases ha : 100 < la.length
  · simp (disch := omega) only [List.length_map, DC_w, DC_n, kill_0, Nat.sub_zero, ↓rD0, ↓rD1, ↓rD2, ↓rD3, ↓rD4, rU0, rU1, rU2, rU3, rU4, rU5, toNat_n, Int.reduceToNat, slA, ptrsA, boolsA, Int.reducePow, Nat.reducePow, Nat.reduceMul, Int.reduceLT, Int.reduceLE, resA, resL, res1, eq_self, wanted, evK, get, setO, one, faA, loadA, storeA, outA, lenA, isStr, binA, unA, bnd, ints, toDat, toDats, datss, fillA, splice, List.length_nil, List.flatten_nil, Nat.reduceAdd, Nat.reduceLeDiff, Nat.reduceBEq, Nat.reduceSub, if_true, ite_true, cond_true, cond_false, List.replicate, if_false, ite_false, reduceCtorEq]
    refine Cont.mk (wakes_c _) ?_
    simp (disch := omega) only [DC_w, DC_n, kill_0, Nat.sub_zero, ↓rD0, ↓rD1, ↓rD2, ↓rD3, ↓rD4, rU0, rU1, rU2, rU3, rU4, rU5, toNat_n, Int.reduceToNat, slA, ptrsA, boolsA, Int.reducePow, Nat.reducePow, Nat.reduceMul, Int.reduceLT, Int.reduceLE, resA, resL, res1, eq_self, wanted, evK, get, setO, one, faA, loadA, storeA, outA, lenA, isStr, binA, unA, bnd, ints, toDat, toDats, datss, fillA, splice, List.length_nil, List.flatten_nil, Nat.reduceAdd, Nat.reduceLeDiff, Nat.reduceBEq, Nat.reduceSub, if_true, ite_true, cond_true, cond_false, List.replicate, if_false, ite_false, reduceCtorEq]
    exact Ret.pre _ H (pre_app _ _) (Nat.le_refl _) hcl (.rfl _) (by simp [refs]) ⟨rfl, rfl⟩
  by_cases hw : 100 < lw.length
  · simp (disch := omega) only [List.length_map, DC_w, DC_n, kill_0, Nat.sub_zero, ↓rD0, ↓rD1, ↓rD2, ↓rD3, ↓rD4, rU0, rU1, rU2, rU3, rU4, rU5, toNat_n, Int.reduceToNat, slA, ptrsA, boolsA, Int.reducePow, Nat.reducePow, Nat.reduceMul, Int.reduceLT, Int.reduceLE, resA, resL, res1, eq_self, wanted, evK, get, setO, one, faA, loadA, storeA, outA, lenA, isStr, binA, unA, bnd, ints, toDat, toDats, datss, fillA, splice, List.length_nil, List.flatten_nil, Nat.reduceAdd, Nat.reduceLeDiff, Nat.reduceBEq, Nat.reduceSub, if_true, ite_true, cond_true, cond_false, List.replicate, if_false, ite_false, reduceCtorEq]
    refine Cont.mk (wakes_c _) ?_
    simp (disch := omega) only [DC_w, DC_n, kill_0, Nat.sub_zero, ↓rD0, ↓rD1, ↓rD2, ↓rD3, ↓rD4, rU0, rU1, rU2, rU3, rU4, rU5, toNat_n, Int.reduceToNat, slA, ptrsA, boolsA, Int.reducePow, Nat.reducePow, Nat.reduceMul, Int.reduceLT, Int.reduceLE, resA, resL, res1, eq_self, wanted, evK, get, setO, one, faA, loadA, storeA, outA, lenA, isStr, binA, unA, bnd, ints, toDat, toDats, datss, fillA, splice, List.length_nil, List.flatten_nil, Nat.reduceAdd, Nat.reduceLeDiff, Nat.reduceBEq, Nat.reduceSub, if_true, ite_true, cond_true, cond_false, List.replicate, if_false, ite_false, reduceCtorEq]
    exact Ret.pre _ H (pre_app _ _) (Nat.le_refl _) hcl (.rfl _) (by simp [refs]) ⟨rfl, rfl⟩
  simp (disch := omega) only [List.length_map, DC_w, DC_n, kill_0, Nat.sub_zero, ↓rD0, ↓rD1, ↓rD2, ↓rD3, ↓rD4, rU0, rU1, rU2, rU3, rU4, rU5, toNat_n, Int.reduceToNat, slA, ptrsA, boolsA, Int.reducePow, Nat.reducePow, Nat.reduceMul, Int.reduceLT, Int.reduceLE, resA, resL, res1, eq_self, wanted, evK, get, setO, one, faA, loadA, storeA, outA, lenA, isStr, binA, unA, bnd, ints, toDat, toDats, datss, fillA, splice, List.length_nil, List.flatten_nil, Nat.reduceAdd, Nat.reduceLeDiff, Nat.reduceBEq, Nat.reduceSub, if_true, ite_true, cond_true, cond_false, List.replicate, if_false, ite_false, reduceCtorEq]
  obtain ⟨S, hS⟩ : ∃ S : BkG → List AV, ∀ g, S g = [.d (.sl (la.map sd)), .d (.sl (lw.map sd)), .any, .any, .any, .ptr H.length 0, .gsl (H.length + 1) 1 [], .gsl (H.length + 2) 1 [], iv g.i] ++ List.replicate 144 .any := ⟨_, fun _ => rfl⟩
  refine W.loopG (γ := BkG) (fun g => la.length - g.i) S (fun g => g.H) (fun g => g.i ≤ la.length ∧ ImAt g.H H.length g.r [g.lv] ∧ Ow H (g.r.F H.length) g.H ∧ g.H[H.length + 1]? = some (.row 3 1 0) ∧ g.H[H.length + 2]? = some (.row 3 1 0) ∧ H.length + 1 ∉ g.r.F H.length ∧ H.length + 2 ∉ g.r.F H.length ∧ ∀ j, j < g.i → (la.getD j ⟨#[]⟩).size ≤ 5000) ⟨0, _, im0, []⟩ (Wk.slots (by rw [hS]; exact WkL.tail 9 _ rfl (by simp only [List.take_succ_cons, List.take_zero]; repeat' first | exact WkL.nil | refine WkL.cons (Wk1.rfl _) ?_ | refine WkL.cons Wk1.esl ?_ | refine WkL.cons (Wk1.gsl _ _ _) ?_ | refine WkL.cons (Wk1.any _) ?_)))
    ⟨Nat.zero_le _, by
      have := (ImAt.new H).ext (ImAt.new H).lt [.row 3 1 0, .row 3 1 0]
      rwa [List.append_assoc] at this, ⟨pre_app _ _, (Ow.new H).2⟩, by rw [hgk]; rfl, by rw [hgk]; rfl, by simp [Im.F, im0, Im.mB, Im.lB, rowB], by simp [Im.F, im0, Im.mB, Im.lB, rowB], fun j hj => absurd hj (Nat.not_lt_zero _)⟩ (fun g hg => ?_)
  obtain ⟨q1, q2, q3, q4, q5, q6, q7, q8⟩ := hg
  simp (disch := omega) only [hS, c5l3, List.length_map, DC_w, DC_n, kill_0, Nat.sub_zero, ↓rD0, ↓rD1, ↓rD2, ↓rD3, ↓rD4, rU0, rU1, rU2, rU3, rU4, rU5, toNat_n, Int.reduceToNat, slA, ptrsA, boolsA, Int.reducePow, Nat.reducePow, Nat.reduceMul, Int.reduceLT, Int.reduceLE, resA, resL, res1, eq_self, wanted, evK, get, setO, one, faA, loadA, storeA, outA, lenA, isStr, binA, unA, bnd, ints, toDat, toDats, datss, fillA, splice, List.length_nil, List.flatten_nil, Nat.reduceAdd, Nat.reduceLeDiff, Nat.reduceBEq, Nat.reduceSub, if_true, ite_true, cond_true, cond_false, List.replicate, if_false, ite_false, reduceCtorEq]
  refine Br.dec (fun hc => ?_) (fun hc => ?_) <;> simp (disch := omega) only [iaA_sd, DC_w, DC_n, kill_0, Nat.sub_zero, ↓rD0, ↓rD1, ↓rD2, ↓rD3, ↓rD4, rU0, rU1, rU2, rU3, rU4, rU5, toNat_n, Int.reduceToNat, slA, ptrsA, boolsA, Int.reducePow, Nat.reducePow, Nat.reduceMul, Int.reduceLT, Int.reduceLE, resA, resL, res1, eq_self, wanted, evK, get, setO, one, faA, loadA, storeA, outA, lenA, isStr, binA, unA, bnd, ints, toDat, toDats, datss, fillA, splice, List.length_nil, List.flatten_nil, Nat.reduceAdd, Nat.reduceLeDiff, Nat.reduceBEq, Nat.reduceSub, if_true, ite_true, cond_true, cond_false, List.replicate, if_false, ite_false, reduceCtorEq]
  · by_cases h5 : 5000 < (la.getD g.i ⟨#[]⟩).size
    · simp (disch := omega) only [DC_w, DC_n, kill_0, Nat.sub_zero, ↓rD0, ↓rD1, ↓rD2, ↓rD3, ↓rD4, rU0, rU1, rU2, rU3, rU4, rU5, toNat_n, Int.reduceToNat, slA, ptrsA, boolsA, Int.reducePow, Nat.reducePow, Nat.reduceMul, Int.reduceLT, Int.reduceLE, resA, resL, res1, eq_self, wanted, evK, get, setO, one, faA, loadA, storeA, outA, lenA, isStr, binA, unA, bnd, ints, toDat, toDats, datss, fillA, splice, List.length_nil, List.flatten_nil, Nat.reduceAdd, Nat.reduceLeDiff, Nat.reduceBEq, Nat.reduceSub, if_true, ite_true, cond_true, cond_false, List.replicate, if_false, ite_false, reduceCtorEq]
      refine Cont.mk (wakes_c _) ?_
      simp (disch := omega) only [DC_w, DC_n, kill_0, Nat.sub_zero, ↓rD0, ↓rD1, ↓rD2, ↓rD3, ↓rD4, rU0, rU1, rU2, rU3, rU4, rU5, toNat_n, Int.reduceToNat, slA, ptrsA, boolsA, Int.reducePow, Nat.reducePow, Nat.reduceMul, Int.reduceLT, Int.reduceLE, resA, resL, res1, eq_self, wanted, evK, get, setO, one, faA, loadA, storeA, outA, lenA, isStr, binA, unA, bnd, ints, toDat, toDats, datss, fillA, splice, List.length_nil, List.flatten_nil, Nat.reduceAdd, Nat.reduceLeDiff, Nat.reduceBEq, Nat.reduceSub, if_true, ite_true, cond_true, cond_false, List.replicate, if_false, ite_false, reduceCtorEq]
      exact Ret.pre _ H q3.1 (Nat.le_refl _) hcl (.rfl _) (by simp [refs]) ⟨rfl, rfl⟩
    · simp (disch := omega) only [iaA_sd, DC_w, DC_n, kill_0, Nat.sub_zero, ↓rD0, ↓rD1, ↓rD2, ↓rD3, ↓rD4, rU0, rU1, rU2, rU3, rU4, rU5, toNat_n, Int.reduceToNat, slA, ptrsA, boolsA, Int.reducePow, Nat.reducePow, Nat.reduceMul, Int.reduceLT, Int.reduceLE, resA, resL, res1, eq_self, wanted, evK, get, setO, one, faA, loadA, storeA, outA, lenA, isStr, binA, unA, bnd, ints, toDat, toDats, datss, fillA, splice, List.length_nil, List.flatten_nil, Nat.reduceAdd, Nat.reduceLeDiff, Nat.reduceBEq, Nat.reduceSub, if_true, ite_true, cond_true, cond_false, List.replicate, if_false, ite_false, reduceCtorEq]
      obtain ⟨H4, r4, a4, i4, k4⟩ := declare_c q2 (la.getD g.i ⟨#[]⟩) (by omega) g.i
      obtain ⟨lv', e4⟩ := declS_app [] g.lv (la.getD g.i ⟨#[]⟩) g.i
      rw [List.nil_append] at e4
      rw [e4] at i4
      have o4 := q3.chg k4
      have l1 := (List.getElem?_eq_some_iff.1 q4).1
      have l2 := (List.getElem?_eq_some_iff.1 q5).1
      refine Cont.mk a4 ?_
      simp (disch := omega) only [DC_w, DC_n, kill_0, Nat.sub_zero, ↓rD0, ↓rD1, ↓rD2, ↓rD3, ↓rD4, rU0, rU1, rU2, rU3, rU4, rU5, toNat_n, Int.reduceToNat, slA, ptrsA, boolsA, Int.reducePow, Nat.reducePow, Nat.reduceMul, Int.reduceLT, Int.reduceLE, resA, resL, res1, eq_self, wanted, evK, get, setO, one, faA, loadA, storeA, outA, lenA, isStr, binA, unA, bnd, ints, toDat, toDats, datss, fillA, splice, List.length_nil, List.flatten_nil, Nat.reduceAdd, Nat.reduceLeDiff, Nat.reduceBEq, Nat.reduceSub, if_true, ite_true, cond_true, cond_false, List.replicate, if_false, ite_false, reduceCtorEq]
      exact Nxt.mk ⟨g.i + 1, _, r4, lv'⟩ (by show la.length - (g.i + 1) < la.length - g.i; omega) (Wk.slots (by rw [hS]; exact WkL.tail 9 _ rfl (by simp only [List.take_succ_cons, List.take_zero]; repeat' first | exact WkL.nil | refine WkL.cons (Wk1.rfl _) ?_ | refine WkL.cons Wk1.esl ?_ | refine WkL.cons (Wk1.gsl _ _ _) ?_ | refine WkL.cons (Wk1.any _) ?_))) ⟨by show g.i + 1 ≤ la.length; omega, i4, o4, by rw [k4.out _ l1 q6]; exact q4, by rw [k4.out _ l2 q7]; exact q5,
        fun hb => by rcases k4.sub _ hb with h' | h'; exact q6 h'; omega, fun hb => by rcases k4.sub _ hb with h' | h'; exact q7 h'; omega, fun j hj => by
        rcases Nat.lt_or_ge j g.i with h' | h'
        · exact q8 j h'
        · have hj' : j < g.i + 1 := hj
          rw [show j = g.i by omega]; omega⟩
  · clear hS
    obtain ⟨i0, H1, r, lv⟩ := g
    simp only at q1 q2 q3 q4 q5 q6 q7 q8 hc ⊢
    have b1 := (List.getElem?_eq_some_iff.1 q4).1
    have b2 := (List.getElem?_eq_some_iff.1 q5).1
    have hI : ∀ a b, ImAt ((H1.set (H.length + 1) a).set (H.length + 2) b) H.length r [lv] := fun a b => q2.frame fun c hc => by
      rw [getset_ne (fun e => q7 (by rw [e]; exact hc)), getset_ne (fun e => q6 (by rw [e]; exact hc))]
    have hO : ∀ a b, Ow H (r.F H.length) ((H1.set (H.length + 1) a).set (H.length + 2) b) := fun a b => ⟨pre_set (pre_set q3.1 (by omega) _) (by omega) _, q3.2⟩
    have hA : ∀ a b, ((H1.set (H.length + 1) a).set (H.length + 2) b)[H.length + 1]? = some a := fun a b => by rw [getset_ne (by omega), getset_eq b1]
    have hB : ∀ a b, ((H1.set (H.length + 1) a).set (H.length + 2) b)[H.length + 2]? = some b := fun a b => getset_eq (by simpa using b2)
    have hC : ∀ a b a', ((H1.set (H.length + 1) a).set (H.length + 2) b).set (H.length + 1) a' = (H1.set (H.length + 1) a').set (H.length + 2) b := fun a b a' => by
      rw [List.set_comm _ _ (by omega), List.set_set]
    have hD : ∀ a b b', ((H1.set (H.length + 1) a).set (H.length + 2) b).set (H.length + 2) b' = (H1.set (H.length + 1) a).set (H.length + 2) b' := fun a b b' => by rw [List.set_set]
    obtain ⟨nF, hnF⟩ : ∃ nF : ByteArray → Int, ∀ s, nF s = fN (findD [lv] s 1) := ⟨_, fun _ => rfl⟩
    obtain ⟨kF, hkF⟩ : ∃ kF : ByteArray → Int, ∀ s, kF s = fK (findD [lv] s 1) := ⟨_, fun _ => rfl⟩
    have hfind : ∀ s : ByteArray, s.size ≤ 5000 → ∀ G r, ImAt G H.length r [lv] → ACalls Try.prog 13 [.ptr H.length 0, sv s] G fun v H' => v = .tup [iv (nF s), iv (kF s), bv (findD [lv] s 1).isSome] ∧ H' = G := fun s hs G r hG => by
      have := find_c hG s hs
      rw [findV_eq] at this
      rw [hnF, hkF]; exact this
    have hsz : ∀ i, i < la.length → (la.getD i ⟨#[]⟩).size ≤ 5000 := fun i hi => q8 i (by omega)
    obtain ⟨S, hS⟩ : ∃ S : Nat → List AV, ∀ i, S i = [.d (.sl (la.map sd)), .d (.sl (lw.map sd)), .any, .any, .any, .ptr H.length 0, .gsl (H.length + 1) 1 (((la.take i).map nF).map nd), .gsl (H.length + 2) 1 (((la.take i).map kF).map nd), .any, iv i] ++ List.replicate 143 .any := ⟨_, fun _ => rfl⟩
    refine W.loopG (γ := Nat) (fun i => la.length - i) S (fun i => (H1.set (H.length + 1) (.row 3 1 i)).set (H.length + 2) (.row 3 1 i)) (fun i => i ≤ la.length) 0 ?_ (Nat.zero_le _) (fun i hi => ?_)
    · rw [set_self q4, set_self q5]
      exact Wk.slots (by rw [hS]; exact WkL.tail 10 _ rfl (by simp only [List.take_succ_cons, List.take_zero]; repeat' first | exact WkL.nil | refine WkL.cons (Wk1.rfl _) ?_ | refine WkL.cons Wk1.esl ?_ | refine WkL.cons (Wk1.gsl _ _ _) ?_ | refine WkL.cons (Wk1.any _) ?_))
    have hl1 : (((la.take i).map nF).map nd).length = i := by simp; omega
    have hl2 : (((la.take i).map kF).map nd).length = i := by simp; omega
    simp (disch := omega) only [hS, c5l2, List.length_map, DC_w, DC_n, kill_0, Nat.sub_zero, ↓rD0, ↓rD1, ↓rD2, ↓rD3, ↓rD4, rU0, rU1, rU2, rU3, rU4, rU5, toNat_n, Int.reduceToNat, slA, ptrsA, boolsA, Int.reducePow, Nat.reducePow, Nat.reduceMul, Int.reduceLT, Int.reduceLE, resA, resL, res1, eq_self, wanted, evK, get, setO, one, faA, loadA, storeA, outA, lenA, isStr, binA, unA, bnd, ints, toDat, toDats, datss, fillA, splice, List.length_nil, List.flatten_nil, Nat.reduceAdd, Nat.reduceLeDiff, Nat.reduceBEq, Nat.reduceSub, if_true, ite_true, cond_true, cond_false, List.replicate, if_false, ite_false, reduceCtorEq]
    refine Br.dec (fun hc2 => ?_) (fun hc2 => ?_) <;> simp (disch := omega) only [iaA_sd, DC_w, DC_n, kill_0, Nat.sub_zero, ↓rD0, ↓rD1, ↓rD2, ↓rD3, ↓rD4, rU0, rU1, rU2, rU3, rU4, rU5, toNat_n, Int.reduceToNat, slA, ptrsA, boolsA, Int.reducePow, Nat.reducePow, Nat.reduceMul, Int.reduceLT, Int.reduceLE, resA, resL, res1, eq_self, wanted, evK, get, setO, one, faA, loadA, storeA, outA, lenA, isStr, binA, unA, bnd, ints, toDat, toDats, datss, fillA, splice, List.length_nil, List.flatten_nil, Nat.reduceAdd, Nat.reduceLeDiff, Nat.reduceBEq, Nat.reduceSub, if_true, ite_true, cond_true, cond_false, List.replicate, if_false, ite_false, reduceCtorEq]
    · refine Cont.mk (hfind _ (hsz i (by omega)) _ _ (hI _ _)) ?_
      have h8 : (i + 1) * 8 ≤ 140737488355328 := by omega
      simp (disch := omega) only [datss, elems_d, hA, hB, hC, hD, hl1, hl2, h8, List.length_map, DC_w, DC_n, kill_0, Nat.sub_zero, ↓rD0, ↓rD1, ↓rD2, ↓rD3, ↓rD4, rU0, rU1, rU2, rU3, rU4, rU5, toNat_n, Int.reduceToNat, slA, ptrsA, boolsA, Int.reducePow, Nat.reducePow, Nat.reduceMul, Int.reduceLT, Int.reduceLE, resA, resL, res1, eq_self, wanted, evK, get, setO, one, faA, loadA, storeA, outA, lenA, isStr, binA, unA, bnd, ints, toDat, toDats, datss, fillA, splice, List.length_nil, List.flatten_nil, Nat.reduceAdd, Nat.reduceLeDiff, Nat.reduceBEq, Nat.reduceSub, if_true, ite_true, cond_true, cond_false, List.replicate, if_false, ite_false, reduceCtorEq]
      refine Nxt.mk (i + 1) (by omega) (Wk.slots ?_) (by omega)
      have et : ∀ f : ByteArray → Int, ((la.take (i + 1)).map f).map nd = ((la.take i).map f).map nd ++ [[Dat.v (.int .i64 (f (la.getD i ⟨#[]⟩)))]] := fun f => by
        rw [List.take_succ_eq_append_getElem (by omega), List.map_append, List.map_append]
        rw [List.getD_eq_getElem?_getD, List.getElem?_eq_getElem (by omega)]; rfl
      rw [hS, et, et]
      exact WkL.tail 10 _ rfl (by simp only [List.take_succ_cons, List.take_zero]; repeat' first | exact WkL.nil | refine WkL.cons (Wk1.rfl _) ?_ | refine WkL.cons Wk1.esl ?_ | refine WkL.cons (Wk1.gsl _ _ _) ?_ | refine WkL.cons (Wk1.any _) ?_)
    · have hil : i = la.length := by omega
      subst hil
      rw [List.take_length]
      clear hS
      have hI2 := hI (.row 3 1 la.length) (.row 3 1 la.length)
      have hO2 := hO (.row 3 1 la.length) (.row 3 1 la.length)
      clear hI hO hA hB hC hD
      generalize (H1.set (H.length + 1) (ABlk.row 3 1 la.length)).set (H.length + 2) (ABlk.row 3 1 la.length) = H2 at hI2 hO2 ⊢
      refine Cont.mk (here_l hI2) ?_
      have hll : lastL [lv] = lv := rfl
      rw [hll]
      simp (disch := omega) only [DC_w, DC_n, kill_0, Nat.sub_zero, ↓rD0, ↓rD1, ↓rD2, ↓rD3, ↓rD4, rU0, rU1, rU2, rU3, rU4, rU5, toNat_n, Int.reduceToNat, slA, ptrsA, boolsA, Int.reducePow, Nat.reducePow, Nat.reduceMul, Int.reduceLT, Int.reduceLE, resA, resL, res1, eq_self, wanted, evK, get, setO, one, faA, loadA, storeA, outA, lenA, isStr, binA, unA, bnd, ints, toDat, toDats, datss, fillA, splice, List.length_nil, List.flatten_nil, Nat.reduceAdd, Nat.reduceLeDiff, Nat.reduceBEq, Nat.reduceSub, if_true, ite_true, cond_true, cond_false, List.replicate, if_false, ite_false, reduceCtorEq]
      refine Cont.rel (open_c hI2) ?_
      rintro v H3 ⟨rfl, r3, i3, k3⟩
      have e3 : openV [lv] = 0 := rfl
      replace i3 : ImAt H3 H.length r3 [lv, []] := i3
      have o3 := hO2.chg k3
      simp (disch := omega) only [e3, DC_w, DC_n, kill_0, Nat.sub_zero, ↓rD0, ↓rD1, ↓rD2, ↓rD3, ↓rD4, rU0, rU1, rU2, rU3, rU4, rU5, toNat_n, Int.reduceToNat, slA, ptrsA, boolsA, Int.reducePow, Nat.reducePow, Nat.reduceMul, Int.reduceLT, Int.reduceLE, resA, resL, res1, eq_self, wanted, evK, get, setO, one, faA, loadA, storeA, outA, lenA, isStr, binA, unA, bnd, ints, toDat, toDats, datss, fillA, splice, List.length_nil, List.flatten_nil, Nat.reduceAdd, Nat.reduceLeDiff, Nat.reduceBEq, Nat.reduceSub, if_true, ite_true, cond_true, cond_false, List.replicate, if_false, ite_false, reduceCtorEq]
      obtain ⟨S3, hS3⟩ : ∃ S3 : BkG → List AV, ∀ g, S3 g = [.d (.sl (la.map sd)), .d (.sl (lw.map sd)), .any, .any, .any, .ptr H.length 0, .gsl (H.length + 1) 1 ((la.map nF).map nd), .gsl (H.length + 2) 1 ((la.map kF).map nd), .any, .any, .any, .any, .any, .d (.sl ((lv.map (·.1)).map sd)), iv g.i] ++ List.replicate 138 .any := ⟨_, fun _ => rfl⟩
      refine W.loopG (γ := BkG) (fun g => lw.length - g.i) S3 (fun g => g.H) (fun g => g.i ≤ lw.length ∧ ImAt g.H H.length g.r [lv, g.lv] ∧ Ow H (g.r.F H.length) g.H) ⟨0, _, r3, []⟩ (Wk.slots (by rw [hS3]; exact WkL.tail 15 _ rfl (by simp only [List.take_succ_cons, List.take_zero]; repeat' first | exact WkL.nil | refine WkL.cons (Wk1.rfl _) ?_ | refine WkL.cons Wk1.esl ?_ | refine WkL.cons (Wk1.gsl _ _ _) ?_ | refine WkL.cons (Wk1.any _) ?_))) ⟨Nat.zero_le _, i3, o3⟩ (fun g hg => ?_)
      obtain ⟨p1, p2, p3⟩ := hg
      simp (disch := omega) only [hS3, c5l1, List.length_map, DC_w, DC_n, kill_0, Nat.sub_zero, ↓rD0, ↓rD1, ↓rD2, ↓rD3, ↓rD4, rU0, rU1, rU2, rU3, rU4, rU5, toNat_n, Int.reduceToNat, slA, ptrsA, boolsA, Int.reducePow, Nat.reducePow, Nat.reduceMul, Int.reduceLT, Int.reduceLE, resA, resL, res1, eq_self, wanted, evK, get, setO, one, faA, loadA, storeA, outA, lenA, isStr, binA, unA, bnd, ints, toDat, toDats, datss, fillA, splice, List.length_nil, List.flatten_nil, Nat.reduceAdd, Nat.reduceLeDiff, Nat.reduceBEq, Nat.reduceSub, if_true, ite_true, cond_true, cond_false, List.replicate, if_false, ite_false, reduceCtorEq]
      refine Br.dec (fun hc3 => ?_) (fun hc3 => ?_) <;> simp (disch := omega) only [iaA_sd, DC_w, DC_n, kill_0, Nat.sub_zero, ↓rD0, ↓rD1, ↓rD2, ↓rD3, ↓rD4, rU0, rU1, rU2, rU3, rU4, rU5, toNat_n, Int.reduceToNat, slA, ptrsA, boolsA, Int.reducePow, Nat.reducePow, Nat.reduceMul, Int.reduceLT, Int.reduceLE, resA, resL, res1, eq_self, wanted, evK, get, setO, one, faA, loadA, storeA, outA, lenA, isStr, binA, unA, bnd, ints, toDat, toDats, datss, fillA, splice, List.length_nil, List.flatten_nil, Nat.reduceAdd, Nat.reduceLeDiff, Nat.reduceBEq, Nat.reduceSub, if_true, ite_true, cond_true, cond_false, List.replicate, if_false, ite_false, reduceCtorEq]
      · by_cases h5 : 5000 < (lw.getD g.i ⟨#[]⟩).size
        · simp (disch := omega) only [DC_w, DC_n, kill_0, Nat.sub_zero, ↓rD0, ↓rD1, ↓rD2, ↓rD3, ↓rD4, rU0, rU1, rU2, rU3, rU4, rU5, toNat_n, Int.reduceToNat, slA, ptrsA, boolsA, Int.reducePow, Nat.reducePow, Nat.reduceMul, Int.reduceLT, Int.reduceLE, resA, resL, res1, eq_self, wanted, evK, get, setO, one, faA, loadA, storeA, outA, lenA, isStr, binA, unA, bnd, ints, toDat, toDats, datss, fillA, splice, List.length_nil, List.flatten_nil, Nat.reduceAdd, Nat.reduceLeDiff, Nat.reduceBEq, Nat.reduceSub, if_true, ite_true, cond_true, cond_false, List.replicate, if_false, ite_false, reduceCtorEq]
          refine Cont.mk (wakes_c _) ?_
          simp (disch := omega) only [DC_w, DC_n, kill_0, Nat.sub_zero, ↓rD0, ↓rD1, ↓rD2, ↓rD3, ↓rD4, rU0, rU1, rU2, rU3, rU4, rU5, toNat_n, Int.reduceToNat, slA, ptrsA, boolsA, Int.reducePow, Nat.reducePow, Nat.reduceMul, Int.reduceLT, Int.reduceLE, resA, resL, res1, eq_self, wanted, evK, get, setO, one, faA, loadA, storeA, outA, lenA, isStr, binA, unA, bnd, ints, toDat, toDats, datss, fillA, splice, List.length_nil, List.flatten_nil, Nat.reduceAdd, Nat.reduceLeDiff, Nat.reduceBEq, Nat.reduceSub, if_true, ite_true, cond_true, cond_false, List.replicate, if_false, ite_false, reduceCtorEq]
          exact Ret.pre _ H p3.1 (Nat.le_refl _) hcl (.rfl _) (by simp [refs]) ⟨rfl, rfl⟩
        · simp (disch := omega) only [iaA_sd, DC_w, DC_n, kill_0, Nat.sub_zero, ↓rD0, ↓rD1, ↓rD2, ↓rD3, ↓rD4, rU0, rU1, rU2, rU3, rU4, rU5, toNat_n, Int.reduceToNat, slA, ptrsA, boolsA, Int.reducePow, Nat.reducePow, Nat.reduceMul, Int.reduceLT, Int.reduceLE, resA, resL, res1, eq_self, wanted, evK, get, setO, one, faA, loadA, storeA, outA, lenA, isStr, binA, unA, bnd, ints, toDat, toDats, datss, fillA, splice, List.length_nil, List.flatten_nil, Nat.reduceAdd, Nat.reduceLeDiff, Nat.reduceBEq, Nat.reduceSub, if_true, ite_true, cond_true, cond_false, List.replicate, if_false, ite_false, reduceCtorEq]
          obtain ⟨H4, r4, a4, i4, k4⟩ := declare_c p2 (lw.getD g.i ⟨#[]⟩) (by omega) (0 - (g.i : Int))
          obtain ⟨lv', e4⟩ := declS_app [lv] g.lv (lw.getD g.i ⟨#[]⟩) (0 - (g.i : Int))
          replace e4 : declS [lv, g.lv] (lw.getD g.i ⟨#[]⟩) (0 - (g.i : Int)) = [lv, lv'] := e4
          rw [e4] at i4
          refine Cont.mk a4 ?_
          simp (disch := omega) only [DC_w, DC_n, kill_0, Nat.sub_zero, ↓rD0, ↓rD1, ↓rD2, ↓rD3, ↓rD4, rU0, rU1, rU2, rU3, rU4, rU5, toNat_n, Int.reduceToNat, slA, ptrsA, boolsA, Int.reducePow, Nat.reducePow, Nat.reduceMul, Int.reduceLT, Int.reduceLE, resA, resL, res1, eq_self, wanted, evK, get, setO, one, faA, loadA, storeA, outA, lenA, isStr, binA, unA, bnd, ints, toDat, toDats, datss, fillA, splice, List.length_nil, List.flatten_nil, Nat.reduceAdd, Nat.reduceLeDiff, Nat.reduceBEq, Nat.reduceSub, if_true, ite_true, cond_true, cond_false, List.replicate, if_false, ite_false, reduceCtorEq]
          exact Nxt.mk ⟨g.i + 1, _, r4, lv'⟩ (by show lw.length - (g.i + 1) < lw.length - g.i; omega) (Wk.slots (by rw [hS3]; exact WkL.tail 15 _ rfl (by simp only [List.take_succ_cons, List.take_zero]; repeat' first | exact WkL.nil | refine WkL.cons (Wk1.rfl _) ?_ | refine WkL.cons Wk1.esl ?_ | refine WkL.cons (Wk1.gsl _ _ _) ?_ | refine WkL.cons (Wk1.any _) ?_))) ⟨by show g.i + 1 ≤ lw.length; omega, i4, p3.chg k4⟩
      · refine Cont.rel (close_c p2) ?_
        rintro v H5 ⟨rfl, r5, i5, k5⟩
        have e5 : closeV [lv, g.lv] = true := rfl
        replace i5 : ImAt H5 H.length r5 [lv] := i5
        have o5 := p3.chg k5
        simp (disch := omega) only [e5, DC_w, DC_n, kill_0, Nat.sub_zero, ↓rD0, ↓rD1, ↓rD2, ↓rD3, ↓rD4, rU0, rU1, rU2, rU3, rU4, rU5, toNat_n, Int.reduceToNat, slA, ptrsA, boolsA, Int.reducePow, Nat.reducePow, Nat.reduceMul, Int.reduceLT, Int.reduceLE, resA, resL, res1, eq_self, wanted, evK, get, setO, one, faA, loadA, storeA, outA, lenA, isStr, binA, unA, bnd, ints, toDat, toDats, datss, fillA, splice, List.length_nil, List.flatten_nil, Nat.reduceAdd, Nat.reduceLeDiff, Nat.reduceBEq, Nat.reduceSub, if_true, ite_true, cond_true, cond_false, List.replicate, if_false, ite_false, reduceCtorEq]
        refine Cont.mk (depth_c i5) ?_
        have e6 : (List.length [lv] : Int) - 1 = 0 := rfl
        rw [e6]
        simp (disch := omega) only [DC_w, DC_n, kill_0, Nat.sub_zero, ↓rD0, ↓rD1, ↓rD2, ↓rD3, ↓rD4, rU0, rU1, rU2, rU3, rU4, rU5, toNat_n, Int.reduceToNat, slA, ptrsA, boolsA, Int.reducePow, Nat.reducePow, Nat.reduceMul, Int.reduceLT, Int.reduceLE, resA, resL, res1, eq_self, wanted, evK, get, setO, one, faA, loadA, storeA, outA, lenA, isStr, binA, unA, bnd, ints, toDat, toDats, datss, fillA, splice, List.length_nil, List.flatten_nil, Nat.reduceAdd, Nat.reduceLeDiff, Nat.reduceBEq, Nat.reduceSub, if_true, ite_true, cond_true, cond_false, List.replicate, if_false, ite_false, reduceCtorEq]
        refine Cont.mk (here_l i5) ?_
        rw [hll]
        simp (disch := omega) only [DC_w, DC_n, kill_0, Nat.sub_zero, ↓rD0, ↓rD1, ↓rD2, ↓rD3, ↓rD4, rU0, rU1, rU2, rU3, rU4, rU5, toNat_n, Int.reduceToNat, slA, ptrsA, boolsA, Int.reducePow, Nat.reducePow, Nat.reduceMul, Int.reduceLT, Int.reduceLE, resA, resL, res1, eq_self, wanted, evK, get, setO, one, faA, loadA, storeA, outA, lenA, isStr, binA, unA, bnd, ints, toDat, toDats, datss, fillA, splice, List.length_nil, List.flatten_nil, Nat.reduceAdd, Nat.reduceLeDiff, Nat.reduceBEq, Nat.reduceSub, if_true, ite_true, cond_true, cond_false, List.replicate, if_false, ite_false, reduceCtorEq]
        have hnl : (lv.map (·.1)).length ≤ 9000000 := by
          have := (i5.lvs lv (by simp)).1
          rw [List.length_map]; omega
        refine Cont.mk (texts_c _ hnl _) ?_
        simp (disch := omega) only [DC_w, DC_n, kill_0, Nat.sub_zero, ↓rD0, ↓rD1, ↓rD2, ↓rD3, ↓rD4, rU0, rU1, rU2, rU3, rU4, rU5, toNat_n, Int.reduceToNat, slA, ptrsA, boolsA, Int.reducePow, Nat.reducePow, Nat.reduceMul, Int.reduceLT, Int.reduceLE, resA, resL, res1, eq_self, wanted, evK, get, setO, one, faA, loadA, storeA, outA, lenA, isStr, binA, unA, bnd, ints, toDat, toDats, datss, fillA, splice, List.length_nil, List.flatten_nil, Nat.reduceAdd, Nat.reduceLeDiff, Nat.reduceBEq, Nat.reduceSub, if_true, ite_true, cond_true, cond_false, List.replicate, if_false, ite_false, reduceCtorEq]
        obtain ⟨S4, hS4⟩ : ∃ S4 : Nat → List AV, ∀ i, S4 i = [.d (.sl (la.map sd)), .any, .any, .any, .any, .ptr H.length 0, .gsl (H.length + 1) 1 ((la.map nF).map nd), .gsl (H.length + 2) 1 ((la.map kF).map nd), .any, .any, .any, .any, .any, .any, .any, iv i] ++ List.replicate 137 .any := ⟨_, fun _ => rfl⟩
        refine W.loopG (γ := Nat) (fun i => la.length - i) S4 (fun _ => H5) (fun i => i ≤ la.length) 0 (Wk.slots (by rw [hS4]; exact WkL.tail 16 _ rfl (by simp only [List.take_succ_cons, List.take_zero]; repeat' first | exact WkL.nil | refine WkL.cons (Wk1.rfl _) ?_ | refine WkL.cons Wk1.esl ?_ | refine WkL.cons (Wk1.gsl _ _ _) ?_ | refine WkL.cons (Wk1.any _) ?_))) (Nat.zero_le _) (fun i hi2 => ?_)
        have gn : ∀ f : ByteArray → Int, i < la.length → (la.map f).getD i 0 = f (la.getD i ⟨#[]⟩) := fun f hi3 => by
          rw [List.getD_eq_getElem?_getD, List.getD_eq_getElem?_getD, List.getElem?_map, List.getElem?_eq_getElem hi3]; rfl
        simp (disch := omega) only [hS4, c5l0, List.length_map, DC_w, DC_n, kill_0, Nat.sub_zero, ↓rD0, ↓rD1, ↓rD2, ↓rD3, ↓rD4, rU0, rU1, rU2, rU3, rU4, rU5, toNat_n, Int.reduceToNat, slA, ptrsA, boolsA, Int.reducePow, Nat.reducePow, Nat.reduceMul, Int.reduceLT, Int.reduceLE, resA, resL, res1, eq_self, wanted, evK, get, setO, one, faA, loadA, storeA, outA, lenA, isStr, binA, unA, bnd, ints, toDat, toDats, datss, fillA, splice, List.length_nil, List.flatten_nil, Nat.reduceAdd, Nat.reduceLeDiff, Nat.reduceBEq, Nat.reduceSub, if_true, ite_true, cond_true, cond_false, List.replicate, if_false, ite_false, reduceCtorEq]
        refine Br.dec (fun hc4 => ?_) (fun hc4 => ?_) <;> simp (disch := omega) only [iaA_sd, DC_w, DC_n, kill_0, Nat.sub_zero, ↓rD0, ↓rD1, ↓rD2, ↓rD3, ↓rD4, rU0, rU1, rU2, rU3, rU4, rU5, toNat_n, Int.reduceToNat, slA, ptrsA, boolsA, Int.reducePow, Nat.reducePow, Nat.reduceMul, Int.reduceLT, Int.reduceLE, resA, resL, res1, eq_self, wanted, evK, get, setO, one, faA, loadA, storeA, outA, lenA, isStr, binA, unA, bnd, ints, toDat, toDats, datss, fillA, splice, List.length_nil, List.flatten_nil, Nat.reduceAdd, Nat.reduceLeDiff, Nat.reduceBEq, Nat.reduceSub, if_true, ite_true, cond_true, cond_false, List.replicate, if_false, ite_false, reduceCtorEq]
        · refine Cont.mk (hfind _ (hsz i (by omega)) _ _ i5) ?_
          have hlm : ∀ f : ByteArray → Int, i < la.length → i < (la.map f).length := fun f h => by simpa using h
          simp (disch := omega) only [iaA_gn (hlm nF (by omega)), iaA_gn (hlm kF (by omega)), gn nF (by omega), gn kF (by omega), DC_w, DC_n, kill_0, Nat.sub_zero, ↓rD0, ↓rD1, ↓rD2, ↓rD3, ↓rD4, rU0, rU1, rU2, rU3, rU4, rU5, toNat_n, Int.reduceToNat, slA, ptrsA, boolsA, Int.reducePow, Nat.reducePow, Nat.reduceMul, Int.reduceLT, Int.reduceLE, resA, resL, res1, eq_self, wanted, evK, get, setO, one, faA, loadA, storeA, outA, lenA, isStr, binA, unA, bnd, ints, toDat, toDats, datss, fillA, splice, List.length_nil, List.flatten_nil, Nat.reduceAdd, Nat.reduceLeDiff, Nat.reduceBEq, Nat.reduceSub, if_true, ite_true, cond_true, cond_false, List.replicate, if_false, ite_false, reduceCtorEq]
          exact Nxt.mk (i + 1) (by omega) (Wk.slots (by rw [hS4]; exact WkL.tail 16 _ rfl (by simp only [List.take_succ_cons, List.take_zero]; repeat' first | exact WkL.nil | refine WkL.cons (Wk1.rfl _) ?_ | refine WkL.cons Wk1.esl ?_ | refine WkL.cons (Wk1.gsl _ _ _) ?_ | refine WkL.cons (Wk1.any _) ?_))) (by omega)
        · refine Cont.mk (wakes_c _) ?_
          simp (disch := omega) only [DC_w, DC_n, kill_0, Nat.sub_zero, ↓rD0, ↓rD1, ↓rD2, ↓rD3, ↓rD4, rU0, rU1, rU2, rU3, rU4, rU5, toNat_n, Int.reduceToNat, slA, ptrsA, boolsA, Int.reducePow, Nat.reducePow, Nat.reduceMul, Int.reduceLT, Int.reduceLE, resA, resL, res1, eq_self, wanted, evK, get, setO, one, faA, loadA, storeA, outA, lenA, isStr, binA, unA, bnd, ints, toDat, toDats, datss, fillA, splice, List.length_nil, List.flatten_nil, Nat.reduceAdd, Nat.reduceLeDiff, Nat.reduceBEq, Nat.reduceSub, if_true, ite_true, cond_true, cond_false, List.replicate, if_false, ite_false, reduceCtorEq]
          exact Ret.pre _ H o5.1 (Nat.le_refl _) hcl (.rfl _) (by simp [refs]) ⟨rfl, rfl⟩
end Go.Proofs.Ythgffjaiklmbcaa
