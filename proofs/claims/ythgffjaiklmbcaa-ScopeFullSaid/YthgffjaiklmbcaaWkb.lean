/- A scope of the reference: Open, Here. -/
import Derived.Test.YthgffjaiklmbcaaWka
namespace Go.Proofs.Ythgffjaiklmbcaa
set_option linter.unusedSimpArgs false
set_option linter.unusedVariables false
set_option maxRecDepth 20000
set_option maxHeartbeats 2000000
open Go.RowKit

theorem RfAt.ext {H : List ABlk} {qb : Nat} {r : Rf} {st : St} (h : RfAt H qb r st) (l : List ABlk) : RfAt (H ++ l) qb r st := h.frame fun b hb => List.getElem?_append_left (h.lt b hb)
theorem here_r {H : List ABlk} {qb : Nat} {r : Rf} {st : St} (h : RfAt H qb r st) : ACalls Try.prog 24 [.ptr qb 0] H fun v H' => v = .d (.sl (((lastL st).map (·.1)).map sd)) ∧ H' = H := by
  refine ACalls.into Try.func24 cc24 rr24 fun hcl => ?_
  have hl := h.len
  have hq := h.q
  have hlt := h.lt
  obtain ⟨x, x1, x2, x3, x4⟩ := h.names (k := st.length - 1) (by omega)
  have hsm := h.small (k := st.length - 1) (by omega)
  rw [show st.getD (st.length - 1) [] = lastL st from rfl] at x4 hsm
  have hqn : qb ≠ H.length := by have := (List.getElem?_eq_some_iff.1 hq).1; omega
  have hnn : r.nb ≠ H.length := by have := (List.getElem?_eq_some_iff.1 h.n).1; omega
  have hQ : ∀ l, (H ++ l)[qb]? = some (.cells [.hsl r.nb 0 st.length r.nc 1, .hsl r.fb 0 st.length r.fc 1]) := fun l => hold hq l
  have hN : ∀ l, (H ++ l)[r.nb]? = some (.cells (r.ns ++ r.nj)) := fun l => hold h.n l
  have hi : ((st.length : Int) - 1).toNat = st.length - 1 := by omega
  simp (disch := omega) only [Try.ntmps24, c24, r24, DC_w, DC_n, kill_0, Nat.sub_zero, ↓rD0, ↓rD1, ↓rD2, ↓rD3, ↓rD4, rU0, rU1, rU2, rU3, rU4, rU5, toNat_n, Int.reduceToNat, slA, ptrsA, boolsA, Int.reducePow, Nat.reducePow, Nat.reduceMul, Int.reduceLT, Int.reduceLE, resA, resL, res1, eq_self, wanted, evK, get, setO, one, faA, loadA, storeA, outA, lenA, isStr, binA, unA, bnd, ints, toDat, toDats, datss, fillA, splice, List.length_nil, List.flatten_nil, Nat.reduceAdd, Nat.reduceLeDiff, Nat.reduceBEq, Nat.reduceSub, if_true, ite_true, cond_true, cond_false, List.replicate, if_false, ite_false, reduceCtorEq]
  refine W.dregD [([H.length], []), ([], [H.length]), ([], [H.length]), ([], [H.length]), ([], [H.length]), ([], [H.length]), ([], [H.length]), ([], [H.length]), ([], [H.length]), ([H.length], []), ([], [])] follows (by decide +kernel) rfl rfl (fun z hz b hb => ?_) ?_
  · have : b = H.length ∧ z.2 = [] := by
      simp only [List.mem_cons, List.not_mem_nil, or_false] at hz
      rcases hz with rfl | rfl | rfl | rfl | rfl | rfl | rfl | rfl | rfl | rfl | rfl <;> simp at hb ⊢ <;> exact hb
    rw [this.1, this.2]
    simp
  simp (disch := omega) only [DC_w, DC_n, kill_0, Nat.sub_zero, ↓rD0, ↓rD1, ↓rD2, ↓rD3, ↓rD4, rU0, rU1, rU2, rU3, rU4, rU5, toNat_n, Int.reduceToNat, slA, ptrsA, boolsA, Int.reducePow, Nat.reducePow, Nat.reduceMul, Int.reduceLT, Int.reduceLE, resA, resL, res1, eq_self, wanted, evK, get, setO, one, faA, loadA, storeA, outA, lenA, isStr, binA, unA, bnd, ints, toDat, toDats, datss, fillA, splice, List.length_nil, List.flatten_nil, Nat.reduceAdd, Nat.reduceLeDiff, Nat.reduceBEq, Nat.reduceSub, if_true, ite_true, cond_true, cond_false, List.replicate, if_false, ite_false, reduceCtorEq]
  refine WStep.ev (fun _ _ e => by cases e) (fun _ _ e => by cases e) ?_
  simp (disch := omega) only [datss, DC_w, DC_n, kill_0, Nat.sub_zero, ↓rD0, ↓rD1, ↓rD2, ↓rD3, ↓rD4, rU0, rU1, rU2, rU3, rU4, rU5, toNat_n, Int.reduceToNat, slA, ptrsA, boolsA, Int.reducePow, Nat.reducePow, Nat.reduceMul, Int.reduceLT, Int.reduceLE, resA, resL, res1, eq_self, wanted, evK, get, setO, one, faA, loadA, storeA, outA, lenA, isStr, binA, unA, bnd, ints, toDat, toDats, datss, fillA, splice, List.length_nil, List.flatten_nil, Nat.reduceAdd, Nat.reduceLeDiff, Nat.reduceBEq, Nat.reduceSub, if_true, ite_true, cond_true, cond_false, List.replicate, if_false, ite_false, reduceCtorEq]
  refine ⟨FrOk.app (u := []) (fun k hk => by simp at hk; simp [hk]) (by simp), ?_⟩
  repeat (rw [DC_p]; simp (disch := omega) only [kill_c, kill_0, hQ, hN, x2, x3, hi, DC_w, DC_n, kill_0, Nat.sub_zero, ↓rD0, ↓rD1, ↓rD2, ↓rD3, ↓rD4, rU0, rU1, rU2, rU3, rU4, rU5, toNat_n, Int.reduceToNat, slA, ptrsA, boolsA, Int.reducePow, Nat.reducePow, Nat.reduceMul, Int.reduceLT, Int.reduceLE, resA, resL, res1, eq_self, wanted, evK, get, setO, one, faA, loadA, storeA, outA, lenA, isStr, binA, unA, bnd, ints, toDat, toDats, datss, fillA, splice, List.length_nil, List.flatten_nil, Nat.reduceAdd, Nat.reduceLeDiff, Nat.reduceBEq, Nat.reduceSub, if_true, ite_true, cond_true, cond_false, List.replicate, if_false, ite_false, reduceCtorEq])
  refine PCont.mk (depth_r (h.ext [.dead])) ?_
  simp (disch := omega) only [DC_w, DC_n, kill_0, Nat.sub_zero, ↓rD0, ↓rD1, ↓rD2, ↓rD3, ↓rD4, rU0, rU1, rU2, rU3, rU4, rU5, toNat_n, Int.reduceToNat, slA, ptrsA, boolsA, Int.reducePow, Nat.reducePow, Nat.reduceMul, Int.reduceLT, Int.reduceLE, resA, resL, res1, eq_self, wanted, evK, get, setO, one, faA, loadA, storeA, outA, lenA, isStr, binA, unA, bnd, ints, toDat, toDats, datss, fillA, splice, List.length_nil, List.flatten_nil, Nat.reduceAdd, Nat.reduceLeDiff, Nat.reduceBEq, Nat.reduceSub, if_true, ite_true, cond_true, cond_false, List.replicate, if_false, ite_false, reduceCtorEq]
  repeat (rw [DC_p]; simp (disch := omega) only [kill_c, kill_0, hQ, hN, x2, x3, hi, DC_w, DC_n, kill_0, Nat.sub_zero, ↓rD0, ↓rD1, ↓rD2, ↓rD3, ↓rD4, rU0, rU1, rU2, rU3, rU4, rU5, toNat_n, Int.reduceToNat, slA, ptrsA, boolsA, Int.reducePow, Nat.reducePow, Nat.reduceMul, Int.reduceLT, Int.reduceLE, resA, resL, res1, eq_self, wanted, evK, get, setO, one, faA, loadA, storeA, outA, lenA, isStr, binA, unA, bnd, ints, toDat, toDats, datss, fillA, splice, List.length_nil, List.flatten_nil, Nat.reduceAdd, Nat.reduceLeDiff, Nat.reduceBEq, Nat.reduceSub, if_true, ite_true, cond_true, cond_false, List.replicate, if_false, ite_false, reduceCtorEq])
  have hF : ∀ y, FrOk [H.length] [] (H ++ [ABlk.row 9 1 0]) (H ++ [y]) (H ++ [y]) := fun y => by
    have := FrOk.set (w := [H.length]) (H := H ++ [ABlk.row 9 1 0]) (b := H.length) (x := y) (by simp)
    rwa [hs0] at this
  rcases x4 with ⟨rfl, hn0⟩ | ⟨b, rfl, hb⟩
  · have hl0 : (lastL st).length = 0 := by have := congrArg List.length hn0; simpa using this
    rw [hn0]
    simp (disch := omega) only [DC_w, DC_n, kill_0, Nat.sub_zero, ↓rD0, ↓rD1, ↓rD2, ↓rD3, ↓rD4, rU0, rU1, rU2, rU3, rU4, rU5, toNat_n, Int.reduceToNat, slA, ptrsA, boolsA, Int.reducePow, Nat.reducePow, Nat.reduceMul, Int.reduceLT, Int.reduceLE, resA, resL, res1, eq_self, wanted, evK, get, setO, one, faA, loadA, storeA, outA, lenA, isStr, binA, unA, bnd, ints, toDat, toDats, datss, fillA, splice, List.length_nil, List.flatten_nil, Nat.reduceAdd, Nat.reduceLeDiff, Nat.reduceBEq, Nat.reduceSub, if_true, ite_true, cond_true, cond_false, List.replicate, if_false, ite_false, reduceCtorEq]
    refine WStep.ev (fun _ _ e => by cases e) (fun _ _ e => by cases e) ?_
    simp (disch := omega) only [elems_e, datss, DC_w, DC_n, kill_0, Nat.sub_zero, ↓rD0, ↓rD1, ↓rD2, ↓rD3, ↓rD4, rU0, rU1, rU2, rU3, rU4, rU5, toNat_n, Int.reduceToNat, slA, ptrsA, boolsA, Int.reducePow, Nat.reducePow, Nat.reduceMul, Int.reduceLT, Int.reduceLE, resA, resL, res1, eq_self, wanted, evK, get, setO, one, faA, loadA, storeA, outA, lenA, isStr, binA, unA, bnd, ints, toDat, toDats, datss, fillA, splice, List.length_nil, List.flatten_nil, Nat.reduceAdd, Nat.reduceLeDiff, Nat.reduceBEq, Nat.reduceSub, if_true, ite_true, cond_true, cond_false, List.replicate, if_false, ite_false, reduceCtorEq]
    refine ⟨hF _, ?_⟩
    repeat (rw [DC_p]; simp (disch := omega) only [DC_w, DC_n, kill_0, Nat.sub_zero, ↓rD0, ↓rD1, ↓rD2, ↓rD3, ↓rD4, rU0, rU1, rU2, rU3, rU4, rU5, toNat_n, Int.reduceToNat, slA, ptrsA, boolsA, Int.reducePow, Nat.reducePow, Nat.reduceMul, Int.reduceLT, Int.reduceLE, resA, resL, res1, eq_self, wanted, evK, get, setO, one, faA, loadA, storeA, outA, lenA, isStr, binA, unA, bnd, ints, toDat, toDats, datss, fillA, splice, List.length_nil, List.flatten_nil, Nat.reduceAdd, Nat.reduceLeDiff, Nat.reduceBEq, Nat.reduceSub, if_true, ite_true, cond_true, cond_false, List.replicate, if_false, ite_false, reduceCtorEq])
    exact Ret.pre _ H (pre_app _ _) (Nat.le_refl _) hcl (Wk1.gsl _ _ _) (by simp [refs]) ⟨rfl, rfl⟩
  · have hda : datss ((((lastL st).map (·.1)).map sd).map (·.map AV.d)) = some (((lastL st).map (·.1)).map sd) := datss_map_d _
    have hl2 : (((lastL st).map (·.1)).map sd).length = (lastL st).length := by simp
    have hl3 : (lastL st).length * 16 ≤ 140737488355328 := by omega
    try simp (disch := omega) only [DC_w, DC_n, kill_0, Nat.sub_zero, ↓rD0, ↓rD1, ↓rD2, ↓rD3, ↓rD4, rU0, rU1, rU2, rU3, rU4, rU5, toNat_n, Int.reduceToNat, slA, ptrsA, boolsA, Int.reducePow, Nat.reducePow, Nat.reduceMul, Int.reduceLT, Int.reduceLE, resA, resL, res1, eq_self, wanted, evK, get, setO, one, faA, loadA, storeA, outA, lenA, isStr, binA, unA, bnd, ints, toDat, toDats, datss, fillA, splice, List.length_nil, List.flatten_nil, Nat.reduceAdd, Nat.reduceLeDiff, Nat.reduceBEq, Nat.reduceSub, if_true, ite_true, cond_true, cond_false, List.replicate, if_false, ite_false, reduceCtorEq]
    refine WStep.ev (fun _ _ e => by cases e) (fun _ _ e => by cases e) ?_
    simp (disch := omega) only [elems_g, hda, hl2, hl3, DC_w, DC_n, kill_0, Nat.sub_zero, ↓rD0, ↓rD1, ↓rD2, ↓rD3, ↓rD4, rU0, rU1, rU2, rU3, rU4, rU5, toNat_n, Int.reduceToNat, slA, ptrsA, boolsA, Int.reducePow, Nat.reducePow, Nat.reduceMul, Int.reduceLT, Int.reduceLE, resA, resL, res1, eq_self, wanted, evK, get, setO, one, faA, loadA, storeA, outA, lenA, isStr, binA, unA, bnd, ints, toDat, toDats, datss, fillA, splice, List.length_nil, List.flatten_nil, Nat.reduceAdd, Nat.reduceLeDiff, Nat.reduceBEq, Nat.reduceSub, if_true, ite_true, cond_true, cond_false, List.replicate, if_false, ite_false, reduceCtorEq]
    refine ⟨hF _, ?_⟩
    repeat (rw [DC_p]; simp (disch := omega) only [DC_w, DC_n, kill_0, Nat.sub_zero, ↓rD0, ↓rD1, ↓rD2, ↓rD3, ↓rD4, rU0, rU1, rU2, rU3, rU4, rU5, toNat_n, Int.reduceToNat, slA, ptrsA, boolsA, Int.reducePow, Nat.reducePow, Nat.reduceMul, Int.reduceLT, Int.reduceLE, resA, resL, res1, eq_self, wanted, evK, get, setO, one, faA, loadA, storeA, outA, lenA, isStr, binA, unA, bnd, ints, toDat, toDats, datss, fillA, splice, List.length_nil, List.flatten_nil, Nat.reduceAdd, Nat.reduceLeDiff, Nat.reduceBEq, Nat.reduceSub, if_true, ite_true, cond_true, cond_false, List.replicate, if_false, ite_false, reduceCtorEq])
    exact Ret.pre _ H (pre_app _ _) (Nat.le_refl _) hcl (Wk1.gsl _ _ _) (by simp [refs]) ⟨rfl, rfl⟩

theorem RfAt.openR {H H' : List ABlk} {qb nb fb : Nat} {r : Rf} {st : St} (h : RfAt H qb r st) (hlt : st.length < 64) (h1 : H'[qb]? = some (.cells [.hsl nb 0 (st.length + 1) (st.length + 1) 1, .hsl fb 0 (st.length + 1) (st.length + 1) 1]))
    (h2 : H'[nb]? = some (.cells (r.ns ++ [.esl]))) (h3 : H'[fb]? = some (.cells (r.fs ++ [.esl]))) (hn : nb ∉ r.F qb ∧ fb ∉ r.F qb ∧ nb ≠ fb) (h4 : ∀ b ∈ r.ns.flatMap rowB ++ r.fs.flatMap rowB, H'[b]? = H[b]?) :
    RfAt H' qb ⟨nb, st.length + 1, [], r.ns ++ [.esl], fb, st.length + 1, [], r.fs ++ [.esl]⟩ (st ++ [[]]) := by
  have hnd := h.ndp
  have hl := h.len
  constructor
  · rw [h1, List.length_append]; rfl
  · rw [h2, List.append_nil]
  · rw [h3, List.append_nil]
  · rw [List.length_append]; exact ⟨Nat.le_refl _, Nat.le_refl _⟩
  · rw [List.map_append]
    exact (h.rn.frame fun b hb => h4 b (List.mem_append.2 (.inl hb))).app .one
  · rw [List.map_append]
    exact (h.rf.frame fun b hb => h4 b (List.mem_append.2 (.inr hb))).app .one
  · simp only [Rf.F, List.nodup_cons, List.mem_cons, List.mem_append, not_or, List.flatMap_append, List.flatMap_cons, List.flatMap_nil, rowB, List.append_nil] at hnd hn ⊢
    exact ⟨⟨Ne.symm hn.1.1, Ne.symm hn.2.1.1, hnd.1.2.2⟩, ⟨hn.2.2, hn.1.2.2.2⟩, hn.2.1.2.2.2, hnd.2.2.2⟩
  · rw [List.length_append]; simp; omega
  · intro l hl
    rcases List.mem_append.1 hl with hl | hl
    · exact h.lvs l hl
    · simp at hl; subst hl; simp
theorem open_r {H : List ABlk} {qb : Nat} {r : Rf} {st : St} (h : RfAt H qb r st) : ACalls Try.prog 15 [.ptr qb 0] H fun v H' => v = iv (openV st) ∧ ∃ r', RfAt H' qb r' (openS st) ∧ Chg H (r.F qb) H' (r'.F qb) := by
  refine ACalls.into Try.func15 cc15 rr15 fun hcl => ?_
  have hl := h.len
  have hq := h.q
  have hnm := h.n
  have hfm := h.f
  have hlt := h.lt
  have hnd := h.ndp
  have b1 : r.nb < H.length := hlt _ (by simp [Rf.F])
  have b2 : r.fb < H.length := hlt _ (by simp [Rf.F])
  have b3 : qb < H.length := hlt _ (by simp [Rf.F])
  have n1 : qb ≠ r.nb := fun e => by simp [Rf.F, e] at hnd
  have n2 : qb ≠ r.fb := fun e => by simp [Rf.F, e] at hnd
  have n3 : r.nb ≠ r.fb := fun e => by simp [Rf.F, e] at hnd
  have e1 : (r.ns ++ r.nj).take st.length = r.ns := by
    have := h.rn.1; rw [List.length_map] at this
    rw [← this]; simp
  have e2 : (r.fs ++ r.fj).take st.length = r.fs := by
    have := h.rf.1; rw [List.length_map] at this
    rw [← this]; simp
  have l1 : st.length ≤ r.ns.length + r.nj.length := by
    have := h.rn.1; rw [List.length_map] at this; omega
  have l2 : st.length ≤ r.fs.length + r.fj.length := by
    have := h.rf.1; rw [List.length_map] at this; omega
  by_cases hf : st.length = 64
  · simp (disch := omega) only [Try.ntmps15, c15, r15, hq, DC_w, DC_n, kill_0, Nat.sub_zero, ↓rD0, ↓rD1, ↓rD2, ↓rD3, ↓rD4, rU0, rU1, rU2, rU3, rU4, rU5, toNat_n, Int.reduceToNat, slA, ptrsA, boolsA, Int.reducePow, Nat.reducePow, Nat.reduceMul, Int.reduceLT, Int.reduceLE, resA, resL, res1, eq_self, wanted, evK, get, setO, one, faA, loadA, storeA, outA, lenA, isStr, binA, unA, bnd, ints, toDat, toDats, datss, fillA, splice, List.length_nil, List.flatten_nil, Nat.reduceAdd, Nat.reduceLeDiff, Nat.reduceBEq, Nat.reduceSub, if_true, ite_true, cond_true, cond_false, List.replicate, if_false, ite_false, reduceCtorEq]
    exact Ret.keep ⟨by rw [openV, if_pos hf], r, by rw [openS, if_pos hf]; exact h, .rfl'⟩
  · have hf' : ¬ (st.length : Int) = 64 := by omega
    have hQ : ∀ l, (H ++ l)[qb]? = some (.cells [.hsl r.nb 0 st.length r.nc 1, .hsl r.fb 0 st.length r.fc 1]) := fun l => hold hq l
    have hQ2 : ∀ l x l', ((H ++ l).set r.nb x ++ l')[qb]? = some (.cells [.hsl r.nb 0 st.length r.nc 1, .hsl r.fb 0 st.length r.fc 1]) := fun l x l' => hold (by rw [getset_ne (Ne.symm n1)]; exact hQ l) l'
    simp (disch := omega) only [Try.ntmps15, c15, r15, hq, hf', DC_w, DC_n, kill_0, Nat.sub_zero, ↓rD0, ↓rD1, ↓rD2, ↓rD3, ↓rD4, rU0, rU1, rU2, rU3, rU4, rU5, toNat_n, Int.reduceToNat, slA, ptrsA, boolsA, Int.reducePow, Nat.reducePow, Nat.reduceMul, Int.reduceLT, Int.reduceLE, resA, resL, res1, eq_self, wanted, evK, get, setO, one, faA, loadA, storeA, outA, lenA, isStr, binA, unA, bnd, ints, toDat, toDats, datss, fillA, splice, List.length_nil, List.flatten_nil, Nat.reduceAdd, Nat.reduceLeDiff, Nat.reduceBEq, Nat.reduceSub, if_true, ite_true, cond_true, cond_false, List.replicate, if_false, ite_false, reduceCtorEq]
    refine W.dregD [([], [H.length, r.nb, H.length + 1, H.length + 2, r.fb, H.length + 3]), ([], [H.length, r.nb, H.length + 1, H.length + 2, r.fb, H.length + 3, qb]), ([], [H.length, H.length + 2]), ([], [H.length, H.length + 2]), ([], [H.length, H.length + 2]), ([], [H.length, H.length + 2]), ([H.length], [H.length + 2]), ([r.nb, H.length + 1], [H.length + 2]), ([], [H.length, r.nb, H.length + 1, H.length + 2]), ([], [H.length, r.nb, H.length + 1, H.length + 2]), ([], [H.length, r.nb, H.length + 1, H.length + 2]), ([], [H.length, r.nb, H.length + 1, H.length + 2]), ([H.length + 2], [H.length, r.nb, H.length + 1]), ([r.fb, H.length + 3], []), ([], []), ([], []), ([qb], []), ([], []), ([], []), ([qb], [])] follows (by decide +kernel) rfl rfl (fun z hz b hb => ?_) ?_
    · simp only [List.mem_cons, List.not_mem_nil, or_false] at hz
      have hH : ∀ k, H[H.length + k]? = none := fun k => List.getElem?_eq_none (by omega)
      have hH0 : H[H.length]? = none := List.getElem?_eq_none (Nat.le_refl _)
      rcases hz with rfl | rfl | rfl | rfl | rfl | rfl | rfl | rfl | rfl | rfl | rfl | rfl | rfl | rfl | rfl | rfl | rfl | rfl | rfl | rfl <;> simp only [List.mem_cons, List.not_mem_nil, or_false] at hb <;> first
        | exact hb.elim
        | (rcases hb with rfl | rfl <;> exact ⟨by simp <;> omega, by simp [hH, hH0, hq, hnm, hfm]⟩)
        | (subst hb; exact ⟨by simp <;> omega, by simp [hH, hH0, hq, hnm, hfm]⟩)
    repeat (rw [DC_p]; simp (disch := ((try simp only [List.mem_cons, List.not_mem_nil, or_false]); omega)) only [kill_out, hq, DC_w, DC_n, kill_0, Nat.sub_zero, ↓rD0, ↓rD1, ↓rD2, ↓rD3, ↓rD4, rU0, rU1, rU2, rU3, rU4, rU5, toNat_n, Int.reduceToNat, slA, ptrsA, boolsA, Int.reducePow, Nat.reducePow, Nat.reduceMul, Int.reduceLT, Int.reduceLE, resA, resL, res1, eq_self, wanted, evK, get, setO, one, faA, loadA, storeA, outA, lenA, isStr, binA, unA, bnd, ints, toDat, toDats, datss, fillA, splice, List.length_nil, List.flatten_nil, Nat.reduceAdd, Nat.reduceLeDiff, Nat.reduceBEq, Nat.reduceSub, if_true, ite_true, cond_true, cond_false, List.replicate, if_false, ite_false, reduceCtorEq])
    refine WStep.evU (H ++ [.cells [.esl]]) (fun _ _ e => by cases e) (fun _ _ e => by cases e) ?_
    simp (disch := ((try simp only [List.mem_cons, List.not_mem_nil, or_false]); omega)) only [kill_length, DC_w, DC_n, kill_0, Nat.sub_zero, ↓rD0, ↓rD1, ↓rD2, ↓rD3, ↓rD4, rU0, rU1, rU2, rU3, rU4, rU5, toNat_n, Int.reduceToNat, slA, ptrsA, boolsA, Int.reducePow, Nat.reducePow, Nat.reduceMul, Int.reduceLT, Int.reduceLE, resA, resL, res1, eq_self, wanted, evK, get, setO, one, faA, loadA, storeA, outA, lenA, isStr, binA, unA, bnd, ints, toDat, toDats, datss, fillA, splice, List.length_nil, List.flatten_nil, Nat.reduceAdd, Nat.reduceLeDiff, Nat.reduceBEq, Nat.reduceSub, if_true, ite_true, cond_true, cond_false, List.replicate, if_false, ite_false, reduceCtorEq]
    refine ⟨FrOk.app (fun k hk => by simp at hk; simp [hk]) (by simp), ?_⟩
    have k1 : kill [H.length + 2] (H ++ [ABlk.cells [.esl]]) = H ++ [ABlk.cells [.esl]] := by
      rw [kill_app (by simp)]
      show (H.set (H.length + 2) .dead) ++ _ = _
      rw [List.set_eq_of_length_le (by omega)]
    try simp (disch := omega) only [DC_w, DC_n, kill_0, Nat.sub_zero, ↓rD0, ↓rD1, ↓rD2, ↓rD3, ↓rD4, rU0, rU1, rU2, rU3, rU4, rU5, toNat_n, Int.reduceToNat, slA, ptrsA, boolsA, Int.reducePow, Nat.reducePow, Nat.reduceMul, Int.reduceLT, Int.reduceLE, resA, resL, res1, eq_self, wanted, evK, get, setO, one, faA, loadA, storeA, outA, lenA, isStr, binA, unA, bnd, ints, toDat, toDats, datss, fillA, splice, List.length_nil, List.flatten_nil, Nat.reduceAdd, Nat.reduceLeDiff, Nat.reduceBEq, Nat.reduceSub, if_true, ite_true, cond_true, cond_false, List.replicate, if_false, ite_false, reduceCtorEq]
    refine WStep.evU ((H ++ [ABlk.cells [.esl]]).set r.nb .dead ++ [.cells (r.ns ++ [.esl])]) (fun _ _ e => by cases e) (fun _ _ e => by cases e) ?_
    rw [k1]
    simp (disch := ((try simp only [List.mem_cons, List.not_mem_nil, or_false]); omega)) only [kill_length, hold hnm, elems1n, e1, l1, DC_w, DC_n, kill_0, Nat.sub_zero, ↓rD0, ↓rD1, ↓rD2, ↓rD3, ↓rD4, rU0, rU1, rU2, rU3, rU4, rU5, toNat_n, Int.reduceToNat, slA, ptrsA, boolsA, Int.reducePow, Nat.reducePow, Nat.reduceMul, Int.reduceLT, Int.reduceLE, resA, resL, res1, eq_self, wanted, evK, get, setO, one, faA, loadA, storeA, outA, lenA, isStr, binA, unA, bnd, ints, toDat, toDats, datss, fillA, splice, List.length_nil, List.flatten_nil, Nat.reduceAdd, Nat.reduceLeDiff, Nat.reduceBEq, Nat.reduceSub, if_true, ite_true, cond_true, cond_false, List.replicate, if_false, ite_false, reduceCtorEq]
    obtain ⟨G1, hG1⟩ := eq_of_ex ((H ++ [ABlk.cells [.esl]]).set r.nb .dead ++ [.cells (r.ns ++ [.esl])])
    have g1l : G1.length = H.length + 2 := by rw [hG1]; simp
    have g1o : ∀ b, b < H.length → b ≠ r.nb → G1[b]? = H[b]? := fun b hb h1 => by
      rw [hG1, List.getElem?_append_left (by simp; omega), getset_ne (Ne.symm h1), List.getElem?_append_left hb]
    have g1n : G1[H.length + 1]? = some (.cells (r.ns ++ [.esl])) := by
      rw [hG1, List.getElem?_append_right (by simp)]; simp
    rw [← hG1]
    refine ⟨⟨(List.set_eq_of_length_le (by omega)).symm, fun c hc => ?_, by rw [g1l]; simp⟩, ?_⟩
    · have hcn : c ≠ r.nb := fun e => hc (by rw [e]; simp)
      have hcm : c ≠ H.length + 1 := fun e => hc (by rw [e]; simp)
      rcases Nat.lt_or_ge c (H.length + 1) with h' | h'
      · rw [hG1, List.getElem?_append_left (by simp; omega), getset_ne (Ne.symm hcn)]
      · rw [List.getElem?_eq_none (by omega), List.getElem?_eq_none (by simp; omega)]
    have g1q : G1[qb]? = some (.cells [.hsl r.nb 0 st.length r.nc 1, .hsl r.fb 0 st.length r.fc 1]) := by rw [g1o qb b3 n1, hq]
    have g1f : G1[r.fb]? = some (.cells (r.fs ++ r.fj)) := by rw [g1o r.fb b2 (Ne.symm n3), hfm]
    repeat (rw [DC_p]; simp (disch := ((try simp only [List.mem_cons, List.not_mem_nil, or_false]); omega)) only [kill_out, g1q, DC_w, DC_n, kill_0, Nat.sub_zero, ↓rD0, ↓rD1, ↓rD2, ↓rD3, ↓rD4, rU0, rU1, rU2, rU3, rU4, rU5, toNat_n, Int.reduceToNat, slA, ptrsA, boolsA, Int.reducePow, Nat.reducePow, Nat.reduceMul, Int.reduceLT, Int.reduceLE, resA, resL, res1, eq_self, wanted, evK, get, setO, one, faA, loadA, storeA, outA, lenA, isStr, binA, unA, bnd, ints, toDat, toDats, datss, fillA, splice, List.length_nil, List.flatten_nil, Nat.reduceAdd, Nat.reduceLeDiff, Nat.reduceBEq, Nat.reduceSub, if_true, ite_true, cond_true, cond_false, List.replicate, if_false, ite_false, reduceCtorEq])
    refine WStep.evU (G1 ++ [.cells [.esl]]) (fun _ _ e => by cases e) (fun _ _ e => by cases e) ?_
    simp (disch := ((try simp only [List.mem_cons, List.not_mem_nil, or_false]); omega)) only [kill_length, g1l, DC_w, DC_n, kill_0, Nat.sub_zero, ↓rD0, ↓rD1, ↓rD2, ↓rD3, ↓rD4, rU0, rU1, rU2, rU3, rU4, rU5, toNat_n, Int.reduceToNat, slA, ptrsA, boolsA, Int.reducePow, Nat.reducePow, Nat.reduceMul, Int.reduceLT, Int.reduceLE, resA, resL, res1, eq_self, wanted, evK, get, setO, one, faA, loadA, storeA, outA, lenA, isStr, binA, unA, bnd, ints, toDat, toDats, datss, fillA, splice, List.length_nil, List.flatten_nil, Nat.reduceAdd, Nat.reduceLeDiff, Nat.reduceBEq, Nat.reduceSub, if_true, ite_true, cond_true, cond_false, List.replicate, if_false, ite_false, reduceCtorEq]
    refine ⟨FrOk.app (fun k hk => by simp at hk; simp [hk, g1l]) (fun b hb => by simp at hb; omega), ?_⟩
    have he : elemsA (G1 ++ [ABlk.cells [.esl]]) 1 (.hsl (H.length + 2) 0 1 1 1) = some [[AV.esl]] := elems1 (by rw [← g1l, hg0]; rfl)
    try simp (disch := omega) only [DC_w, DC_n, kill_0, Nat.sub_zero, ↓rD0, ↓rD1, ↓rD2, ↓rD3, ↓rD4, rU0, rU1, rU2, rU3, rU4, rU5, toNat_n, Int.reduceToNat, slA, ptrsA, boolsA, Int.reducePow, Nat.reducePow, Nat.reduceMul, Int.reduceLT, Int.reduceLE, resA, resL, res1, eq_self, wanted, evK, get, setO, one, faA, loadA, storeA, outA, lenA, isStr, binA, unA, bnd, ints, toDat, toDats, datss, fillA, splice, List.length_nil, List.flatten_nil, Nat.reduceAdd, Nat.reduceLeDiff, Nat.reduceBEq, Nat.reduceSub, if_true, ite_true, cond_true, cond_false, List.replicate, if_false, ite_false, reduceCtorEq]
    refine WStep.ev (fun _ _ e => by cases e) (fun _ _ e => by cases e) ?_
    simp (disch := omega) only [hold g1f, he, e2, l2, g1l, DC_w, DC_n, kill_0, Nat.sub_zero, ↓rD0, ↓rD1, ↓rD2, ↓rD3, ↓rD4, rU0, rU1, rU2, rU3, rU4, rU5, toNat_n, Int.reduceToNat, slA, ptrsA, boolsA, Int.reducePow, Nat.reducePow, Nat.reduceMul, Int.reduceLT, Int.reduceLE, resA, resL, res1, eq_self, wanted, evK, get, setO, one, faA, loadA, storeA, outA, lenA, isStr, binA, unA, bnd, ints, toDat, toDats, datss, fillA, splice, List.length_nil, List.flatten_nil, Nat.reduceAdd, Nat.reduceLeDiff, Nat.reduceBEq, Nat.reduceSub, if_true, ite_true, cond_true, cond_false, List.replicate, if_false, ite_false, reduceCtorEq]
    obtain ⟨G3, hG3⟩ := eq_of_ex ((G1 ++ [ABlk.cells [.esl]]).set r.fb .dead ++ [.cells (r.fs ++ [.esl])])
    have g3l : G3.length = H.length + 4 := by rw [hG3]; simp; omega
    have g3o : ∀ b, b < H.length + 2 → b ≠ r.fb → G3[b]? = G1[b]? := fun b hb h1 => by
      rw [hG3, List.getElem?_append_left (by simp; omega), getset_ne (Ne.symm h1), List.getElem?_append_left (by omega)]
    have g3n : G3[H.length + 3]? = some (.cells (r.fs ++ [.esl])) := by
      rw [hG3, List.getElem?_append_right (by simp; omega)]; simp [g1l]
    rw [← hG3]
    refine ⟨⟨rfl, fun c hc => ?_, by rw [g3l]; simp; omega⟩, ?_⟩
    · have hcn : c ≠ r.fb := fun e => hc (by rw [e]; simp)
      have hcm : c ≠ H.length + 3 := fun e => hc (by rw [e]; simp)
      rcases Nat.lt_or_ge c (H.length + 3) with h' | h'
      · rw [hG3, List.getElem?_append_left (by simp; omega), getset_ne (Ne.symm hcn)]
      · rw [List.getElem?_eq_none (by omega), List.getElem?_eq_none (by simp; omega)]
    have g3q : G3[qb]? = some (.cells [.hsl r.nb 0 st.length r.nc 1, .hsl r.fb 0 st.length r.fc 1]) := by rw [g3o qb (by omega) n2, g1q]
    have hS : ∀ x, (G3.set qb x)[qb]? = some x := fun x => List.getElem?_set_self (by omega)
    repeat (rw [DC_p]; simp (disch := omega) only [g3q, DC_w, DC_n, kill_0, Nat.sub_zero, ↓rD0, ↓rD1, ↓rD2, ↓rD3, ↓rD4, rU0, rU1, rU2, rU3, rU4, rU5, toNat_n, Int.reduceToNat, slA, ptrsA, boolsA, Int.reducePow, Nat.reducePow, Nat.reduceMul, Int.reduceLT, Int.reduceLE, resA, resL, res1, eq_self, wanted, evK, get, setO, one, faA, loadA, storeA, outA, lenA, isStr, binA, unA, bnd, ints, toDat, toDats, datss, fillA, splice, List.length_nil, List.flatten_nil, Nat.reduceAdd, Nat.reduceLeDiff, Nat.reduceBEq, Nat.reduceSub, if_true, ite_true, cond_true, cond_false, List.replicate, if_false, ite_false, reduceCtorEq])
    refine WStep.ev (fun _ _ e => by cases e) (fun _ _ e => by cases e) ?_
    simp (disch := omega) only [g3q, DC_w, DC_n, kill_0, Nat.sub_zero, ↓rD0, ↓rD1, ↓rD2, ↓rD3, ↓rD4, rU0, rU1, rU2, rU3, rU4, rU5, toNat_n, Int.reduceToNat, slA, ptrsA, boolsA, Int.reducePow, Nat.reducePow, Nat.reduceMul, Int.reduceLT, Int.reduceLE, resA, resL, res1, eq_self, wanted, evK, get, setO, one, faA, loadA, storeA, outA, lenA, isStr, binA, unA, bnd, ints, toDat, toDats, datss, fillA, splice, List.length_nil, List.flatten_nil, Nat.reduceAdd, Nat.reduceLeDiff, Nat.reduceBEq, Nat.reduceSub, if_true, ite_true, cond_true, cond_false, List.replicate, if_false, ite_false, reduceCtorEq]
    refine ⟨FrOk.set (by simp), ?_⟩
    repeat (rw [DC_p]; simp (disch := omega) only [hS, DC_w, DC_n, kill_0, Nat.sub_zero, ↓rD0, ↓rD1, ↓rD2, ↓rD3, ↓rD4, rU0, rU1, rU2, rU3, rU4, rU5, toNat_n, Int.reduceToNat, slA, ptrsA, boolsA, Int.reducePow, Nat.reducePow, Nat.reduceMul, Int.reduceLT, Int.reduceLE, resA, resL, res1, eq_self, wanted, evK, get, setO, one, faA, loadA, storeA, outA, lenA, isStr, binA, unA, bnd, ints, toDat, toDats, datss, fillA, splice, List.length_nil, List.flatten_nil, Nat.reduceAdd, Nat.reduceLeDiff, Nat.reduceBEq, Nat.reduceSub, if_true, ite_true, cond_true, cond_false, List.replicate, if_false, ite_false, reduceCtorEq])
    refine WStep.ev (fun _ _ e => by cases e) (fun _ _ e => by cases e) ?_
    simp (disch := omega) only [hS, DC_w, DC_n, kill_0, Nat.sub_zero, ↓rD0, ↓rD1, ↓rD2, ↓rD3, ↓rD4, rU0, rU1, rU2, rU3, rU4, rU5, toNat_n, Int.reduceToNat, slA, ptrsA, boolsA, Int.reducePow, Nat.reducePow, Nat.reduceMul, Int.reduceLT, Int.reduceLE, resA, resL, res1, eq_self, wanted, evK, get, setO, one, faA, loadA, storeA, outA, lenA, isStr, binA, unA, bnd, ints, toDat, toDats, datss, fillA, splice, List.length_nil, List.flatten_nil, Nat.reduceAdd, Nat.reduceLeDiff, Nat.reduceBEq, Nat.reduceSub, if_true, ite_true, cond_true, cond_false, List.replicate, if_false, ite_false, reduceCtorEq]
    refine ⟨FrOk.set (by simp), ?_⟩
    try simp (disch := omega) only [List.set_set, DC_w, DC_n, kill_0, Nat.sub_zero, ↓rD0, ↓rD1, ↓rD2, ↓rD3, ↓rD4, rU0, rU1, rU2, rU3, rU4, rU5, toNat_n, Int.reduceToNat, slA, ptrsA, boolsA, Int.reducePow, Nat.reducePow, Nat.reduceMul, Int.reduceLT, Int.reduceLE, resA, resL, res1, eq_self, wanted, evK, get, setO, one, faA, loadA, storeA, outA, lenA, isStr, binA, unA, bnd, ints, toDat, toDats, datss, fillA, splice, List.length_nil, List.flatten_nil, Nat.reduceAdd, Nat.reduceLeDiff, Nat.reduceBEq, Nat.reduceSub, if_true, ite_true, cond_true, cond_false, List.replicate, if_false, ite_false, reduceCtorEq]
    refine Ret.keep ⟨by rw [openV, if_neg hf], ⟨H.length + 1, st.length + 1, [], r.ns ++ [.esl], H.length + 3, st.length + 1, [], r.fs ++ [.esl]⟩, ?_, ?_⟩
    · rw [openS, if_neg hf]
      have big : ∀ b ∈ r.F qb, b ≠ qb → b ≠ r.nb → b ≠ r.fb → (G3.set qb (ABlk.cells [.hsl (H.length + 1) 0 (st.length + 1) (st.length + 1) 1, .hsl (H.length + 3) 0 (st.length + 1) (st.length + 1) 1]))[b]? = H[b]? := fun b hb h1 h2 h3 => by
        have := hlt b hb
        rw [getset_ne (Ne.symm h1), g3o b (by omega) h3, g1o b this h2]
      refine h.openR (by omega) (hS _) (by rw [getset_ne (by omega), g3o _ (by omega) (by omega), g1n]) (by rw [getset_ne (by omega), g3n]) ⟨fun hb => by have := hlt _ hb; omega, fun hb => by have := hlt _ hb; omega, by omega⟩ (fun b hb => ?_)
      have hnd2 := hnd
      simp only [Rf.F, List.nodup_cons, List.mem_cons, not_or] at hnd2
      exact big b (List.mem_cons_of_mem _ (List.mem_cons_of_mem _ (List.mem_cons_of_mem _ hb))) (fun e => hnd2.1.2.2 (by rw [← e]; exact hb)) (fun e => hnd2.2.1.2 (by rw [← e]; exact hb)) (fun e => hnd2.2.2.1 (by rw [← e]; exact hb))
    · refine ⟨by simp; omega, fun b hb hF => ?_, fun b hb => ?_⟩
      · simp only [Rf.F, List.mem_cons, not_or] at hF
        rw [getset_ne (Ne.symm hF.1), g3o b (by omega) hF.2.2.1, g1o b hb hF.2.1]
      · simp only [Rf.F, List.mem_cons, List.mem_append, List.flatMap_append, List.flatMap_cons, List.flatMap_nil, rowB, List.append_nil] at hb ⊢
        rcases hb with hb | hb | hb | hb | hb
        · exact .inl (.inl hb)
        · exact .inr (by omega)
        · exact .inr (by omega)
        · exact .inl (.inr (.inr (.inr (.inl hb))))
        · exact .inl (.inr (.inr (.inr (.inr hb))))
end Go.Proofs.Ythgffjaiklmbcaa
