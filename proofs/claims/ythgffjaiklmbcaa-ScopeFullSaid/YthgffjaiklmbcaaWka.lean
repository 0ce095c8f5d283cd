/- A scope of the reference: Find, Here, Close. -/
import Derived.Test.YthgffjaiklmbcaaWk9
namespace Go.Proofs.Ythgffjaiklmbcaa
set_option linter.unusedSimpArgs false
set_option linter.unusedVariables false
set_option maxRecDepth 20000
set_option maxHeartbeats 2000000
open Go.RowKit

theorem RowsA.at {α : Type} {e : Nat} {c : α → List Dat} {H : List ABlk} {xs j : List AV} {ls : List (List α)} (h : RowsA e c H xs ls) {k : Nat} (hk : k < ls.length) : ∃ x, xs[k]? = some x ∧ ((xs ++ j).drop k).take 1 = [x] ∧ k + 1 ≤ xs.length + j.length ∧ RowA e c H x (ls.getD k []) := by
  have hl := h.1
  refine ⟨xs[k]'(by omega), List.getElem?_eq_getElem _, ?_, by omega, h.2 k _ _ (List.getElem?_eq_getElem _) ?_⟩
  · rw [List.drop_append_of_le_length (by omega), List.drop_eq_getElem_cons (by omega)]; rfl
  · rw [List.getD_eq_getElem?_getD, List.getElem?_eq_getElem hk]; rfl
theorem getD_map {α β : Type} (f : List α → List β) (hf : f [] = []) (l : List (List α)) (k : Nat) : (l.map f).getD k [] = f (l.getD k []) := by
  rw [List.getD_eq_getElem?_getD, List.getD_eq_getElem?_getD, List.getElem?_map]
  cases l[k]? with
  | none => exact hf.symm
  | some x => rfl
theorem RfAt.names {H : List ABlk} {qb : Nat} {r : Rf} {st : St} (h : RfAt H qb r st) {k : Nat} (hk : k < st.length) : ∃ x, r.ns[k]? = some x ∧ ((r.ns ++ r.nj).drop k).take 1 = [x] ∧ k + 1 ≤ r.ns.length + r.nj.length ∧ RowA 9 sd H x ((st.getD k []).map (·.1)) := by
  have := h.rn.at (j := r.nj) (k := k) (by simpa using hk)
  rwa [getD_map (fun l : Lv => l.map (·.1)) rfl] at this
theorem RfAt.vals {H : List ABlk} {qb : Nat} {r : Rf} {st : St} (h : RfAt H qb r st) {k : Nat} (hk : k < st.length) : ∃ x, r.fs[k]? = some x ∧ ((r.fs ++ r.fj).drop k).take 1 = [x] ∧ k + 1 ≤ r.fs.length + r.fj.length ∧ RowA 3 nd H x ((st.getD k []).map (·.2)) := by
  have := h.rf.at (j := r.fj) (k := k) (by simpa using hk)
  rwa [getD_map (fun l : Lv => l.map (·.2)) rfl] at this
theorem index_a {H0 : List ABlk} {x : AV} {l : List ByteArray} (hx : RowA 9 sd H0 x l) (hl : l.length ≤ 256) (s : ByteArray) (H : List ABlk) : ACalls Try.prog 28 [x, sv s] H fun v H' => v = iv (idxI (idxS l s)) ∧ H' = H := by
  rcases hx with ⟨rfl, rfl⟩ | ⟨b, rfl, _⟩
  · exact index_e s H
  · exact index_g b l s (by omega) H
theorem RfAt.small {H : List ABlk} {qb : Nat} {r : Rf} {st : St} (h : RfAt H qb r st) {k : Nat} (hk : k < st.length) : (st.getD k []).length ≤ 256 :=
  (h.lvs _ (by rw [List.getD_eq_getElem?_getD, List.getElem?_eq_getElem hk]; exact List.getElem_mem hk)).1
theorem idxS_lt {l : List ByteArray} {s : ByteArray} {i : Nat} (h : idxS l s = some i) : i < l.length := by
  induction l generalizing i with
  | nil => cases h
  | cons x l ih =>
    rw [idxS] at h
    split at h
    · cases h; simp
    · obtain ⟨j, hj, rfl⟩ := Option.map_eq_some_iff.1 h
      have := ih hj
      simp; omega
theorem find_r {H : List ABlk} {qb : Nat} {r : Rf} {st : St} (h : RfAt H qb r st) (s : ByteArray) : ACalls Try.prog 20 [.ptr qb 0, sv s] H fun v H' => v = findV (findD st s st.length) ∧ H' = H := by
  refine ACalls.into Try.func20 cc20 rr20 fun hcl => ?_
  have hl := h.len
  simp (disch := omega) only [Try.ntmps20, c20, r20, DC_w, DC_n, kill_0, Nat.sub_zero, ↓rD0, ↓rD1, ↓rD2, ↓rD3, ↓rD4, rU0, rU1, rU2, rU3, rU4, rU5, toNat_n, Int.reduceToNat, slA, ptrsA, boolsA, Int.reducePow, Nat.reducePow, Nat.reduceMul, Int.reduceLT, Int.reduceLE, resA, resL, res1, eq_self, wanted, evK, get, setO, one, faA, loadA, storeA, outA, lenA, isStr, binA, unA, bnd, ints, toDat, toDats, datss, fillA, splice, List.length_nil, List.flatten_nil, Nat.reduceAdd, Nat.reduceLeDiff, Nat.reduceBEq, Nat.reduceSub, if_true, ite_true, cond_true, cond_false, List.replicate, if_false, ite_false, reduceCtorEq]
  refine Cont.mk (depth_r h) ?_
  simp (disch := omega) only [DC_w, DC_n, kill_0, Nat.sub_zero, ↓rD0, ↓rD1, ↓rD2, ↓rD3, ↓rD4, rU0, rU1, rU2, rU3, rU4, rU5, toNat_n, Int.reduceToNat, slA, ptrsA, boolsA, Int.reducePow, Nat.reducePow, Nat.reduceMul, Int.reduceLT, Int.reduceLE, resA, resL, res1, eq_self, wanted, evK, get, setO, one, faA, loadA, storeA, outA, lenA, isStr, binA, unA, bnd, ints, toDat, toDats, datss, fillA, splice, List.length_nil, List.flatten_nil, Nat.reduceAdd, Nat.reduceLeDiff, Nat.reduceBEq, Nat.reduceSub, if_true, ite_true, cond_true, cond_false, List.replicate, if_false, ite_false, reduceCtorEq]
  refine W.loopG (γ := Nat) (fun i => i) (fun i => [.ptr qb 0, sv s, .any, .any, .any, .any, .any, iv ((i : Int) - 1)] ++ List.replicate 29 .any) (fun _ => H) (fun i => i ≤ st.length ∧ findD st s st.length = findD st s i) st.length (Wk.slots (by (try simp only [List.replicate, List.cons_append, List.nil_append]); repeat' first | exact WkL.nil | refine WkL.cons (Wk1.rfl _) ?_ | refine WkL.cons Wk1.esl ?_ | refine WkL.cons (Wk1.gsl _ _ _) ?_ | refine WkL.cons (Wk1.any _) ?_)) ⟨Nat.le_refl _, rfl⟩ (fun i hi => ?_)
  obtain ⟨q1, q2⟩ := hi
  simp (disch := omega) only [c20l0, DC_w, DC_n, kill_0, Nat.sub_zero, ↓rD0, ↓rD1, ↓rD2, ↓rD3, ↓rD4, rU0, rU1, rU2, rU3, rU4, rU5, toNat_n, Int.reduceToNat, slA, ptrsA, boolsA, Int.reducePow, Nat.reducePow, Nat.reduceMul, Int.reduceLT, Int.reduceLE, resA, resL, res1, eq_self, wanted, evK, get, setO, one, faA, loadA, storeA, outA, lenA, isStr, binA, unA, bnd, ints, toDat, toDats, datss, fillA, splice, List.length_nil, List.flatten_nil, Nat.reduceAdd, Nat.reduceLeDiff, Nat.reduceBEq, Nat.reduceSub, if_true, ite_true, cond_true, cond_false, List.replicate, if_false, ite_false, reduceCtorEq]
  cases i with
  | zero =>
    simp (disch := omega) only [DC_w, DC_n, kill_0, Nat.sub_zero, ↓rD0, ↓rD1, ↓rD2, ↓rD3, ↓rD4, rU0, rU1, rU2, rU3, rU4, rU5, toNat_n, Int.reduceToNat, slA, ptrsA, boolsA, Int.reducePow, Nat.reducePow, Nat.reduceMul, Int.reduceLT, Int.reduceLE, resA, resL, res1, eq_self, wanted, evK, get, setO, one, faA, loadA, storeA, outA, lenA, isStr, binA, unA, bnd, ints, toDat, toDats, datss, fillA, splice, List.length_nil, List.flatten_nil, Nat.reduceAdd, Nat.reduceLeDiff, Nat.reduceBEq, Nat.reduceSub, if_true, ite_true, cond_true, cond_false, List.replicate, if_false, ite_false, reduceCtorEq]
    exact Ret.keep ⟨by rw [q2]; rfl, rfl⟩
  | succ i =>
    have e1 : ((i + 1 : Nat) : Int) - 1 = (i : Int) := by omega
    obtain ⟨x, x1, x2, x3, x4⟩ := h.names (k := i) (by omega)
    obtain ⟨y, y1, y2, y3, y4⟩ := h.vals (k := i) (by omega)
    have hsm := h.small (k := i) (by omega)
    simp (disch := omega) only [e1, h.q, h.n, x2, x3, DC_w, DC_n, kill_0, Nat.sub_zero, ↓rD0, ↓rD1, ↓rD2, ↓rD3, ↓rD4, rU0, rU1, rU2, rU3, rU4, rU5, toNat_n, Int.reduceToNat, slA, ptrsA, boolsA, Int.reducePow, Nat.reducePow, Nat.reduceMul, Int.reduceLT, Int.reduceLE, resA, resL, res1, eq_self, wanted, evK, get, setO, one, faA, loadA, storeA, outA, lenA, isStr, binA, unA, bnd, ints, toDat, toDats, datss, fillA, splice, List.length_nil, List.flatten_nil, Nat.reduceAdd, Nat.reduceLeDiff, Nat.reduceBEq, Nat.reduceSub, if_true, ite_true, cond_true, cond_false, List.replicate, if_false, ite_false, reduceCtorEq]
    refine Cont.mk (index_a x4 (by simpa using hsm) s _) ?_
    have hlv : lvGet (st.getD i []) s = (idxS ((st.getD i []).map (·.1)) s).map fun k => ((st.getD i []).map (·.2)).getD k 0 := rfl
    cases e : idxS ((st.getD i []).map (·.1)) s with
    | none =>
      rw [e] at hlv
      simp (disch := omega) only [idxI, DC_w, DC_n, kill_0, Nat.sub_zero, ↓rD0, ↓rD1, ↓rD2, ↓rD3, ↓rD4, rU0, rU1, rU2, rU3, rU4, rU5, toNat_n, Int.reduceToNat, slA, ptrsA, boolsA, Int.reducePow, Nat.reducePow, Nat.reduceMul, Int.reduceLT, Int.reduceLE, resA, resL, res1, eq_self, wanted, evK, get, setO, one, faA, loadA, storeA, outA, lenA, isStr, binA, unA, bnd, ints, toDat, toDats, datss, fillA, splice, List.length_nil, List.flatten_nil, Nat.reduceAdd, Nat.reduceLeDiff, Nat.reduceBEq, Nat.reduceSub, if_true, ite_true, cond_true, cond_false, List.replicate, if_false, ite_false, reduceCtorEq]
      exact Nxt.mk i (by omega) (Wk.slots (by (try simp only [List.replicate, List.cons_append, List.nil_append]); repeat' first | exact WkL.nil | refine WkL.cons (Wk1.rfl _) ?_ | refine WkL.cons Wk1.esl ?_ | refine WkL.cons (Wk1.gsl _ _ _) ?_ | refine WkL.cons (Wk1.any _) ?_)) ⟨by omega, by rw [q2, findD, hlv]; rfl⟩
    | some k =>
      rw [e] at hlv
      have hk := idxS_lt e
      rw [List.length_map] at hk
      rcases y4 with ⟨_, y5⟩ | ⟨b, rfl, y5⟩
      · have := congrArg List.length y5; simp at this; rw [List.getD_eq_getElem?_getD] at hk; simp [this] at hk
      · have hk2 : k < ((st.getD i []).map (·.2)).length := by simpa using hk
        simp (disch := omega) only [idxI, h.q, h.f, y2, y3, iaA_gn hk2, DC_w, DC_n, kill_0, Nat.sub_zero, ↓rD0, ↓rD1, ↓rD2, ↓rD3, ↓rD4, rU0, rU1, rU2, rU3, rU4, rU5, toNat_n, Int.reduceToNat, slA, ptrsA, boolsA, Int.reducePow, Nat.reducePow, Nat.reduceMul, Int.reduceLT, Int.reduceLE, resA, resL, res1, eq_self, wanted, evK, get, setO, one, faA, loadA, storeA, outA, lenA, isStr, binA, unA, bnd, ints, toDat, toDats, datss, fillA, splice, List.length_nil, List.flatten_nil, Nat.reduceAdd, Nat.reduceLeDiff, Nat.reduceBEq, Nat.reduceSub, if_true, ite_true, cond_true, cond_false, List.replicate, if_false, ite_false, reduceCtorEq]
        exact Ret.keep ⟨by rw [q2, findD, hlv]; rfl, rfl⟩

theorem flat_take {xs : List AV} (k : Nat) : List.Sublist ((xs.take k).flatMap rowB) (xs.flatMap rowB) := by
  conv => rhs; rw [← List.take_append_drop k xs, List.flatMap_append]
  exact List.sublist_append_left _ _
theorem RfAt.closeR {H : List ABlk} {qb : Nat} {r : Rf} {st : St} (h : RfAt H qb r st) (hf : 1 < st.length) :
    RfAt (H.set qb (.cells [.hsl r.nb 0 (st.length - 1) r.nc 1, .hsl r.fb 0 (st.length - 1) r.fc 1])) qb ⟨r.nb, r.nc, r.ns.drop (st.length - 1) ++ r.nj, r.ns.take (st.length - 1), r.fb, r.fc, r.fs.drop (st.length - 1) ++ r.fj, r.fs.take (st.length - 1)⟩ (closeS st) := by
  have hql := (List.getElem?_eq_some_iff.1 h.q).1
  have hnd := h.ndp
  have hn : qb ∉ r.nb :: r.fb :: (r.ns.flatMap rowB ++ r.fs.flatMap rowB) := (List.nodup_cons.1 hnd).1
  have hc := h.c
  have hl := h.len
  have hne : ∀ b ∈ r.nb :: r.fb :: (r.ns.flatMap rowB ++ r.fs.flatMap rowB), (H.set qb (ABlk.cells [.hsl r.nb 0 (st.length - 1) r.nc 1, .hsl r.fb 0 (st.length - 1) r.fc 1]))[b]? = H[b]? := fun b hb => getset_ne (fun e => hn (by rw [e]; exact hb))
  have hcl : (closeS st) = st.take (st.length - 1) := by rw [closeS, if_pos hf]
  have hsub : ∀ b ∈ (r.ns.take (st.length - 1)).flatMap rowB ++ (r.fs.take (st.length - 1)).flatMap rowB, b ∈ r.nb :: r.fb :: (r.ns.flatMap rowB ++ r.fs.flatMap rowB) := fun b hb =>
    List.mem_cons_of_mem _ (List.mem_cons_of_mem _ (((flat_take (xs := r.ns) (st.length - 1)).append (flat_take (xs := r.fs) (st.length - 1))).subset hb))
  rw [hcl]
  constructor
  · rw [getset_eq hql, List.length_take, Nat.min_eq_left (by omega)]
  · show _ = some (ABlk.cells (r.ns.take (st.length - 1) ++ (r.ns.drop (st.length - 1) ++ r.nj)))
    rw [hne r.nb (by simp), h.n, ← List.append_assoc, List.take_append_drop]
  · show _ = some (ABlk.cells (r.fs.take (st.length - 1) ++ (r.fs.drop (st.length - 1) ++ r.fj)))
    rw [hne r.fb (by simp), h.f, ← List.append_assoc, List.take_append_drop]
  · rw [List.length_take]; exact ⟨by show _ ≤ r.nc; omega, by show _ ≤ r.fc; omega⟩
  · rw [List.map_take]
    exact (h.rn.take _).frame fun b hb => hne b (hsub b (List.mem_append.2 (.inl hb)))
  · rw [List.map_take]
    exact (h.rf.take _).frame fun b hb => hne b (hsub b (List.mem_append.2 (.inr hb)))
  · exact hnd.sublist (((((flat_take (xs := r.ns) (st.length - 1)).append (flat_take (xs := r.fs) (st.length - 1))).cons_cons _).cons_cons _).cons_cons _)
  · rw [List.length_take]; omega
  · intro l hl; exact h.lvs l (List.mem_of_mem_take hl)
theorem close_r {H : List ABlk} {qb : Nat} {r : Rf} {st : St} (h : RfAt H qb r st) : ACalls Try.prog 17 [.ptr qb 0] H fun v H' => v = bv (closeV st) ∧ ∃ r', RfAt H' qb r' (closeS st) ∧ Chg H (r.F qb) H' (r'.F qb) := by
  refine ACalls.into Try.func17 cc17 rr17 fun hcl => ?_
  have hl := h.len
  have hq := h.q
  simp (disch := omega) only [Try.ntmps17, c17, r17, DC_w, DC_n, kill_0, Nat.sub_zero, ↓rD0, ↓rD1, ↓rD2, ↓rD3, ↓rD4, rU0, rU1, rU2, rU3, rU4, rU5, toNat_n, Int.reduceToNat, slA, ptrsA, boolsA, Int.reducePow, Nat.reducePow, Nat.reduceMul, Int.reduceLT, Int.reduceLE, resA, resL, res1, eq_self, wanted, evK, get, setO, one, faA, loadA, storeA, outA, lenA, isStr, binA, unA, bnd, ints, toDat, toDats, datss, fillA, splice, List.length_nil, List.flatten_nil, Nat.reduceAdd, Nat.reduceLeDiff, Nat.reduceBEq, Nat.reduceSub, if_true, ite_true, cond_true, cond_false, List.replicate, if_false, ite_false, reduceCtorEq]
  refine Cont.mk (depth_r h) ?_
  simp (disch := omega) only [DC_w, DC_n, kill_0, Nat.sub_zero, ↓rD0, ↓rD1, ↓rD2, ↓rD3, ↓rD4, rU0, rU1, rU2, rU3, rU4, rU5, toNat_n, Int.reduceToNat, slA, ptrsA, boolsA, Int.reducePow, Nat.reducePow, Nat.reduceMul, Int.reduceLT, Int.reduceLE, resA, resL, res1, eq_self, wanted, evK, get, setO, one, faA, loadA, storeA, outA, lenA, isStr, binA, unA, bnd, ints, toDat, toDats, datss, fillA, splice, List.length_nil, List.flatten_nil, Nat.reduceAdd, Nat.reduceLeDiff, Nat.reduceBEq, Nat.reduceSub, if_true, ite_true, cond_true, cond_false, List.replicate, if_false, ite_false, reduceCtorEq]
  by_cases hf : 1 < st.length
  · simp (disch := omega) only [DC_w, DC_n, kill_0, Nat.sub_zero, ↓rD0, ↓rD1, ↓rD2, ↓rD3, ↓rD4, rU0, rU1, rU2, rU3, rU4, rU5, toNat_n, Int.reduceToNat, slA, ptrsA, boolsA, Int.reducePow, Nat.reducePow, Nat.reduceMul, Int.reduceLT, Int.reduceLE, resA, resL, res1, eq_self, wanted, evK, get, setO, one, faA, loadA, storeA, outA, lenA, isStr, binA, unA, bnd, ints, toDat, toDats, datss, fillA, splice, List.length_nil, List.flatten_nil, Nat.reduceAdd, Nat.reduceLeDiff, Nat.reduceBEq, Nat.reduceSub, if_true, ite_true, cond_true, cond_false, List.replicate, if_false, ite_false, reduceCtorEq]
    refine Cont.mk (depth_r h) ?_
    simp (disch := omega) only [DC_w, DC_n, kill_0, Nat.sub_zero, ↓rD0, ↓rD1, ↓rD2, ↓rD3, ↓rD4, rU0, rU1, rU2, rU3, rU4, rU5, toNat_n, Int.reduceToNat, slA, ptrsA, boolsA, Int.reducePow, Nat.reducePow, Nat.reduceMul, Int.reduceLT, Int.reduceLE, resA, resL, res1, eq_self, wanted, evK, get, setO, one, faA, loadA, storeA, outA, lenA, isStr, binA, unA, bnd, ints, toDat, toDats, datss, fillA, splice, List.length_nil, List.flatten_nil, Nat.reduceAdd, Nat.reduceLeDiff, Nat.reduceBEq, Nat.reduceSub, if_true, ite_true, cond_true, cond_false, List.replicate, if_false, ite_false, reduceCtorEq]
    have hc := h.c
    have hc1 : ¬ (0 : Int) = (r.nc : Int) := by omega
    have hc2 : ¬ (0 : Int) = (r.fc : Int) := by omega
    have hql := (List.getElem?_eq_some_iff.1 hq).1
    have hS : ∀ x, (H.set qb x)[qb]? = some x := fun x => List.getElem?_set_self hql
    have ht : ((st.length : Int) - 1).toNat = st.length - 1 := by omega
    refine W.dregD [([], []), ([], [qb]), ([], []), ([], []), ([], []), ([], []), ([], []), ([], []), ([], []), ([], []), ([], []), ([], []), ([], [qb]), ([], [qb]), ([], []), ([], []), ([qb], []), ([], []), ([], []), ([qb], [])] follows (by decide +kernel) rfl rfl (fun z hz b hb => ?_) ?_
    · have : b = qb ∧ z.2 = [] := by
        simp only [List.mem_cons, List.not_mem_nil, or_false] at hz
        rcases hz with rfl | rfl | rfl | rfl | rfl | rfl | rfl | rfl | rfl | rfl | rfl | rfl | rfl | rfl | rfl | rfl | rfl | rfl | rfl | rfl <;> simp at hb ⊢ <;> exact hb
      rw [this.1, this.2, hq]
      simp
    repeat (rw [DC_p]; simp (disch := omega) only [hq, hc1, hc2, ht, DC_w, DC_n, kill_0, Nat.sub_zero, ↓rD0, ↓rD1, ↓rD2, ↓rD3, ↓rD4, rU0, rU1, rU2, rU3, rU4, rU5, toNat_n, Int.reduceToNat, slA, ptrsA, boolsA, Int.reducePow, Nat.reducePow, Nat.reduceMul, Int.reduceLT, Int.reduceLE, resA, resL, res1, eq_self, wanted, evK, get, setO, one, faA, loadA, storeA, outA, lenA, isStr, binA, unA, bnd, ints, toDat, toDats, datss, fillA, splice, List.length_nil, List.flatten_nil, Nat.reduceAdd, Nat.reduceLeDiff, Nat.reduceBEq, Nat.reduceSub, if_true, ite_true, cond_true, cond_false, List.replicate, if_false, ite_false, reduceCtorEq])
    refine WStep.ev (fun _ _ e => by cases e) (fun _ _ e => by cases e) ?_
    simp (disch := omega) only [hq, DC_w, DC_n, kill_0, Nat.sub_zero, ↓rD0, ↓rD1, ↓rD2, ↓rD3, ↓rD4, rU0, rU1, rU2, rU3, rU4, rU5, toNat_n, Int.reduceToNat, slA, ptrsA, boolsA, Int.reducePow, Nat.reducePow, Nat.reduceMul, Int.reduceLT, Int.reduceLE, resA, resL, res1, eq_self, wanted, evK, get, setO, one, faA, loadA, storeA, outA, lenA, isStr, binA, unA, bnd, ints, toDat, toDats, datss, fillA, splice, List.length_nil, List.flatten_nil, Nat.reduceAdd, Nat.reduceLeDiff, Nat.reduceBEq, Nat.reduceSub, if_true, ite_true, cond_true, cond_false, List.replicate, if_false, ite_false, reduceCtorEq]
    refine ⟨FrOk.set (by simp), ?_⟩
    repeat (rw [DC_p]; simp (disch := omega) only [hS, DC_w, DC_n, kill_0, Nat.sub_zero, ↓rD0, ↓rD1, ↓rD2, ↓rD3, ↓rD4, rU0, rU1, rU2, rU3, rU4, rU5, toNat_n, Int.reduceToNat, slA, ptrsA, boolsA, Int.reducePow, Nat.reducePow, Nat.reduceMul, Int.reduceLT, Int.reduceLE, resA, resL, res1, eq_self, wanted, evK, get, setO, one, faA, loadA, storeA, outA, lenA, isStr, binA, unA, bnd, ints, toDat, toDats, datss, fillA, splice, List.length_nil, List.flatten_nil, Nat.reduceAdd, Nat.reduceLeDiff, Nat.reduceBEq, Nat.reduceSub, if_true, ite_true, cond_true, cond_false, List.replicate, if_false, ite_false, reduceCtorEq])
    refine WStep.ev (fun _ _ e => by cases e) (fun _ _ e => by cases e) ?_
    simp (disch := omega) only [hS, List.set_set, DC_w, DC_n, kill_0, Nat.sub_zero, ↓rD0, ↓rD1, ↓rD2, ↓rD3, ↓rD4, rU0, rU1, rU2, rU3, rU4, rU5, toNat_n, Int.reduceToNat, slA, ptrsA, boolsA, Int.reducePow, Nat.reducePow, Nat.reduceMul, Int.reduceLT, Int.reduceLE, resA, resL, res1, eq_self, wanted, evK, get, setO, one, faA, loadA, storeA, outA, lenA, isStr, binA, unA, bnd, ints, toDat, toDats, datss, fillA, splice, List.length_nil, List.flatten_nil, Nat.reduceAdd, Nat.reduceLeDiff, Nat.reduceBEq, Nat.reduceSub, if_true, ite_true, cond_true, cond_false, List.replicate, if_false, ite_false, reduceCtorEq]
    refine ⟨by have := FrOk.set (w := [qb]) (H := H.set qb (ABlk.cells [.hsl r.nb 0 (st.length - 1) r.nc 1, .hsl r.fb 0 st.length r.fc 1])) (b := qb) (x := ABlk.cells [.hsl r.nb 0 (st.length - 1) r.nc 1, .hsl r.fb 0 (st.length - 1) r.fc 1]) (by simp); rwa [List.set_set] at this, ?_⟩
    refine Ret.keep ⟨by rw [closeV, decide_eq_true hf], _, h.closeR hf, ?_⟩
    refine ⟨by simp, fun b hb hF => getset_ne (fun e => hF (by rw [← e]; simp [Rf.F])), fun b hb => .inl ?_⟩
    exact (((((flat_take (xs := r.ns) (st.length - 1)).append (flat_take (xs := r.fs) (st.length - 1))).cons_cons _).cons_cons _).cons_cons _).subset hb
  · simp (disch := omega) only [DC_w, DC_n, kill_0, Nat.sub_zero, ↓rD0, ↓rD1, ↓rD2, ↓rD3, ↓rD4, rU0, rU1, rU2, rU3, rU4, rU5, toNat_n, Int.reduceToNat, slA, ptrsA, boolsA, Int.reducePow, Nat.reducePow, Nat.reduceMul, Int.reduceLT, Int.reduceLE, resA, resL, res1, eq_self, wanted, evK, get, setO, one, faA, loadA, storeA, outA, lenA, isStr, binA, unA, bnd, ints, toDat, toDats, datss, fillA, splice, List.length_nil, List.flatten_nil, Nat.reduceAdd, Nat.reduceLeDiff, Nat.reduceBEq, Nat.reduceSub, if_true, ite_true, cond_true, cond_false, List.replicate, if_false, ite_false, reduceCtorEq]
    exact Ret.keep ⟨by rw [closeV, decide_eq_false hf], r, by rw [closeS, if_neg hf]; exact h, .rfl'⟩
end Go.Proofs.Ythgffjaiklmbcaa
