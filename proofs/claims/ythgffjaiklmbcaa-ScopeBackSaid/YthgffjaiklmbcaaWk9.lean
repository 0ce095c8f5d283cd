/- A scope of the program: all calls; a scope of the reference: where it lies. -/
import Derived.Test.YthgffjaiklmbcaaWk8
namespace Go.Proofs.Ythgffjaiklmbcaa
set_option linter.unusedSimpArgs false
set_option linter.unusedVariables false
set_option maxRecDepth 20000
set_option maxHeartbeats 2000000
open Go.RowKit

theorem declare_c {H : List ABlk} {sb : Nat} {r : Im} {st : St} (h : ImAt H sb r st) (s : ByteArray) (hs : s.size ≤ 5000) (n : Int) :
    ∃ H' r', ACalls Try.prog 9 [.ptr sb 0, sv s, iv n] H (fun v H'' => v = iv (declV st s) ∧ H'' = H') ∧ ImAt H' sb r' (declS st s n) ∧ Chg H (r.F sb) H' (r'.F sb) := by
  by_cases hv : declV st s = 0
  · have h1 : Nm s := Classical.byContradiction fun h => by rw [declV, if_pos h] at hv; cases hv
    have h2 : lvGet (lastL st) s = none := by
      cases e : lvGet (lastL st) s with
      | none => rfl
      | some m => rw [declV, if_neg (by simpa using h1), e, if_pos (by rfl)] at hv; cases hv
    have h3 : (lastL st).length ≠ 256 := fun e => by rw [declV, if_neg (by simpa using h1), h2, if_neg (by simp), if_pos e] at hv; cases hv
    rw [hv]
    exact declare_yes h s n h1 h2 h3
  · exact ⟨H, r, declare_no h s hs n hv, by rw [declS, if_neg hv]; exact h, .rfl'⟩
theorem here_l {H : List ABlk} {sb : Nat} {r : Im} {st : St} (h : ImAt H sb r st) : ACalls Try.prog 23 [.ptr sb 0] H fun v H' => v = .d (.sl (((lastL st).map (·.1)).map sd)) ∧ H' = H := by
  refine ACalls.into Try.func23 cc23 rr23 fun hcl => ?_
  have hsp := h.s
  have hd := h.dl
  have hll := (h.lvs (lastL st) (List.mem_of_getElem? (last_get (by omega)))).1
  obtain ⟨init, x, hr, hrow, hat⟩ := h.at
  simp (disch := omega) only [Try.ntmps23, c23, r23, DC_w, DC_n, kill_0, Nat.sub_zero, ↓rD0, ↓rD1, ↓rD2, ↓rD3, ↓rD4, rU0, rU1, rU2, rU3, rU4, rU5, toNat_n, Int.reduceToNat, slA, ptrsA, boolsA, Int.reducePow, Nat.reducePow, Nat.reduceMul, Int.reduceLT, Int.reduceLE, resA, resL, res1, eq_self, wanted, evK, get, setO, one, faA, loadA, storeA, outA, lenA, isStr, binA, unA, bnd, ints, toDat, toDats, datss, fillA, splice, List.length_nil, List.flatten_nil, Nat.reduceAdd, Nat.reduceLeDiff, Nat.reduceBEq, Nat.reduceSub, if_true, ite_true, cond_true, cond_false, List.replicate, if_false, ite_false, reduceCtorEq]
  refine Cont.mk (here_c h) ?_
  have hl2 : (((lastL st).map (·.1)).map sd).length = (lastL st).length := by simp
  rcases hrow with ⟨rfl, hn0⟩ | ⟨b, rfl, hb⟩
  · rw [hn0]
    rcases hat with ⟨a1, a2, a3, a4⟩ | ⟨lb, cap, j, i', a1, a2, a3, a4, a5⟩
    · rw [← a3] at hsp
      simp (disch := omega) only [a1, hsp, elems_e, DC_w, DC_n, kill_0, Nat.sub_zero, ↓rD0, ↓rD1, ↓rD2, ↓rD3, ↓rD4, rU0, rU1, rU2, rU3, rU4, rU5, toNat_n, Int.reduceToNat, slA, ptrsA, boolsA, Int.reducePow, Nat.reducePow, Nat.reduceMul, Int.reduceLT, Int.reduceLE, resA, resL, res1, eq_self, wanted, evK, get, setO, one, faA, loadA, storeA, outA, lenA, isStr, binA, unA, bnd, ints, toDat, toDats, datss, fillA, splice, List.length_nil, List.flatten_nil, Nat.reduceAdd, Nat.reduceLeDiff, Nat.reduceBEq, Nat.reduceSub, if_true, ite_true, cond_true, cond_false, List.replicate, if_false, ite_false, reduceCtorEq]
      exact Ret.keep ⟨rfl, rfl⟩
    · have d1 : ((i' ++ AV.esl :: j).drop i'.length).take 1 = [AV.esl] := by simp
      have d2 : i'.length + 1 ≤ (i' ++ AV.esl :: j).length := by simp
      simp (disch := omega) only [a4, a5, d1, d2, elems_e, DC_w, DC_n, kill_0, Nat.sub_zero, ↓rD0, ↓rD1, ↓rD2, ↓rD3, ↓rD4, rU0, rU1, rU2, rU3, rU4, rU5, toNat_n, Int.reduceToNat, slA, ptrsA, boolsA, Int.reducePow, Nat.reducePow, Nat.reduceMul, Int.reduceLT, Int.reduceLE, resA, resL, res1, eq_self, wanted, evK, get, setO, one, faA, loadA, storeA, outA, lenA, isStr, binA, unA, bnd, ints, toDat, toDats, datss, fillA, splice, List.length_nil, List.flatten_nil, Nat.reduceAdd, Nat.reduceLeDiff, Nat.reduceBEq, Nat.reduceSub, if_true, ite_true, cond_true, cond_false, List.replicate, if_false, ite_false, reduceCtorEq]
      exact Ret.keep ⟨rfl, rfl⟩
  · have hda : datss ((((lastL st).map (·.1)).map sd).map (·.map AV.d)) = some (((lastL st).map (·.1)).map sd) := datss_map_d _
    rcases hat with ⟨a1, a2, a3, a4⟩ | ⟨lb, cap, j, i', a1, a2, a3, a4, a5⟩
    · rw [← a3] at hsp
      simp (disch := omega) only [a1, hsp, elems_g, hda, hl2, DC_w, DC_n, kill_0, Nat.sub_zero, ↓rD0, ↓rD1, ↓rD2, ↓rD3, ↓rD4, rU0, rU1, rU2, rU3, rU4, rU5, toNat_n, Int.reduceToNat, slA, ptrsA, boolsA, Int.reducePow, Nat.reducePow, Nat.reduceMul, Int.reduceLT, Int.reduceLE, resA, resL, res1, eq_self, wanted, evK, get, setO, one, faA, loadA, storeA, outA, lenA, isStr, binA, unA, bnd, ints, toDat, toDats, datss, fillA, splice, List.length_nil, List.flatten_nil, Nat.reduceAdd, Nat.reduceLeDiff, Nat.reduceBEq, Nat.reduceSub, if_true, ite_true, cond_true, cond_false, List.replicate, if_false, ite_false, reduceCtorEq]
      exact Ret.keep ⟨rfl, rfl⟩
    · have d1 : ((i' ++ AV.gsl b 1 (((lastL st).map (·.1)).map sd) :: j).drop i'.length).take 1 = [AV.gsl b 1 (((lastL st).map (·.1)).map sd)] := by simp
      have d2 : i'.length + 1 ≤ (i' ++ AV.gsl b 1 (((lastL st).map (·.1)).map sd) :: j).length := by simp
      simp (disch := omega) only [a4, a5, d1, d2, elems_g, hda, hl2, DC_w, DC_n, kill_0, Nat.sub_zero, ↓rD0, ↓rD1, ↓rD2, ↓rD3, ↓rD4, rU0, rU1, rU2, rU3, rU4, rU5, toNat_n, Int.reduceToNat, slA, ptrsA, boolsA, Int.reducePow, Nat.reducePow, Nat.reduceMul, Int.reduceLT, Int.reduceLE, resA, resL, res1, eq_self, wanted, evK, get, setO, one, faA, loadA, storeA, outA, lenA, isStr, binA, unA, bnd, ints, toDat, toDats, datss, fillA, splice, List.length_nil, List.flatten_nil, Nat.reduceAdd, Nat.reduceLeDiff, Nat.reduceBEq, Nat.reduceSub, if_true, ite_true, cond_true, cond_false, List.replicate, if_false, ite_false, reduceCtorEq]
      exact Ret.keep ⟨rfl, rfl⟩
/-! nil -/
theorem find_n (s : ByteArray) (H : List ABlk) : ACalls Try.prog 13 [.nilp, sv s] H fun v H' => v = .tup [iv 0, iv 0, bv false] ∧ H' = H := by
  refine ACalls.into Try.func13 cc13 rr13 fun hcl => ?_
  simp (disch := omega) only [Try.ntmps13, c13, r13, DC_w, DC_n, kill_0, Nat.sub_zero, ↓rD0, ↓rD1, ↓rD2, ↓rD3, ↓rD4, rU0, rU1, rU2, rU3, rU4, rU5, toNat_n, Int.reduceToNat, slA, ptrsA, boolsA, Int.reducePow, Nat.reducePow, Nat.reduceMul, Int.reduceLT, Int.reduceLE, resA, resL, res1, eq_self, wanted, evK, get, setO, one, faA, loadA, storeA, outA, lenA, isStr, binA, unA, bnd, ints, toDat, toDats, datss, fillA, splice, List.length_nil, List.flatten_nil, Nat.reduceAdd, Nat.reduceLeDiff, Nat.reduceBEq, Nat.reduceSub, if_true, ite_true, cond_true, cond_false, List.replicate, if_false, ite_false, reduceCtorEq]
  refine Cont.mk depth_n ?_
  simp (disch := omega) only [DC_w, DC_n, kill_0, Nat.sub_zero, ↓rD0, ↓rD1, ↓rD2, ↓rD3, ↓rD4, rU0, rU1, rU2, rU3, rU4, rU5, toNat_n, Int.reduceToNat, slA, ptrsA, boolsA, Int.reducePow, Nat.reducePow, Nat.reduceMul, Int.reduceLT, Int.reduceLE, resA, resL, res1, eq_self, wanted, evK, get, setO, one, faA, loadA, storeA, outA, lenA, isStr, binA, unA, bnd, ints, toDat, toDats, datss, fillA, splice, List.length_nil, List.flatten_nil, Nat.reduceAdd, Nat.reduceLeDiff, Nat.reduceBEq, Nat.reduceSub, if_true, ite_true, cond_true, cond_false, List.replicate, if_false, ite_false, reduceCtorEq]
  refine W.loopG (γ := Unit) (fun _ => 0) (fun _ => [.nilp, sv s, .any, .any, .any, .any, .any, iv (-1)] ++ List.replicate 22 .any) (fun _ => H) (fun _ => True) () (Wk.slots (by (try simp only [List.replicate, List.cons_append, List.nil_append]); repeat' first | exact WkL.nil | refine WkL.cons (Wk1.rfl _) ?_ | refine WkL.cons Wk1.esl ?_ | refine WkL.cons (Wk1.gsl _ _ _) ?_ | refine WkL.cons (Wk1.any _) ?_)) trivial (fun _ _ => ?_)
  simp (disch := omega) only [c13l0, DC_w, DC_n, kill_0, Nat.sub_zero, ↓rD0, ↓rD1, ↓rD2, ↓rD3, ↓rD4, rU0, rU1, rU2, rU3, rU4, rU5, toNat_n, Int.reduceToNat, slA, ptrsA, boolsA, Int.reducePow, Nat.reducePow, Nat.reduceMul, Int.reduceLT, Int.reduceLE, resA, resL, res1, eq_self, wanted, evK, get, setO, one, faA, loadA, storeA, outA, lenA, isStr, binA, unA, bnd, ints, toDat, toDats, datss, fillA, splice, List.length_nil, List.flatten_nil, Nat.reduceAdd, Nat.reduceLeDiff, Nat.reduceBEq, Nat.reduceSub, if_true, ite_true, cond_true, cond_false, List.replicate, if_false, ite_false, reduceCtorEq]
  exact Ret.keep ⟨rfl, rfl⟩
theorem open_n (H : List ABlk) : ACalls Try.prog 12 [.nilp] H fun v H' => v = iv 1 ∧ H' = H := by
  refine ACalls.into Try.func12 cc12 rr12 fun hcl => ?_
  simp (disch := omega) only [Try.ntmps12, c12, r12, DC_w, DC_n, kill_0, Nat.sub_zero, ↓rD0, ↓rD1, ↓rD2, ↓rD3, ↓rD4, rU0, rU1, rU2, rU3, rU4, rU5, toNat_n, Int.reduceToNat, slA, ptrsA, boolsA, Int.reducePow, Nat.reducePow, Nat.reduceMul, Int.reduceLT, Int.reduceLE, resA, resL, res1, eq_self, wanted, evK, get, setO, one, faA, loadA, storeA, outA, lenA, isStr, binA, unA, bnd, ints, toDat, toDats, datss, fillA, splice, List.length_nil, List.flatten_nil, Nat.reduceAdd, Nat.reduceLeDiff, Nat.reduceBEq, Nat.reduceSub, if_true, ite_true, cond_true, cond_false, List.replicate, if_false, ite_false, reduceCtorEq]
  exact Ret.keep ⟨rfl, rfl⟩
theorem close_n (H : List ABlk) : ACalls Try.prog 16 [.nilp] H fun v H' => v = bv false ∧ H' = H := by
  refine ACalls.into Try.func16 cc16 rr16 fun hcl => ?_
  simp (disch := omega) only [Try.ntmps16, c16, r16, DC_w, DC_n, kill_0, Nat.sub_zero, ↓rD0, ↓rD1, ↓rD2, ↓rD3, ↓rD4, rU0, rU1, rU2, rU3, rU4, rU5, toNat_n, Int.reduceToNat, slA, ptrsA, boolsA, Int.reducePow, Nat.reducePow, Nat.reduceMul, Int.reduceLT, Int.reduceLE, resA, resL, res1, eq_self, wanted, evK, get, setO, one, faA, loadA, storeA, outA, lenA, isStr, binA, unA, bnd, ints, toDat, toDats, datss, fillA, splice, List.length_nil, List.flatten_nil, Nat.reduceAdd, Nat.reduceLeDiff, Nat.reduceBEq, Nat.reduceSub, if_true, ite_true, cond_true, cond_false, List.replicate, if_false, ite_false, reduceCtorEq]
  exact Ret.keep ⟨rfl, rfl⟩
theorem declare_n (s : ByteArray) (n : Int) (H : List ABlk) : ACalls Try.prog 9 [.nilp, sv s, iv n] H fun v H' => v = iv 1 ∧ H' = H := by
  refine ACalls.into Try.func9 cc9 rr9 fun hcl => ?_
  simp (disch := omega) only [Try.ntmps9, c9, r9, DC_w, DC_n, kill_0, Nat.sub_zero, ↓rD0, ↓rD1, ↓rD2, ↓rD3, ↓rD4, rU0, rU1, rU2, rU3, rU4, rU5, toNat_n, Int.reduceToNat, slA, ptrsA, boolsA, Int.reducePow, Nat.reducePow, Nat.reduceMul, Int.reduceLT, Int.reduceLE, resA, resL, res1, eq_self, wanted, evK, get, setO, one, faA, loadA, storeA, outA, lenA, isStr, binA, unA, bnd, ints, toDat, toDats, datss, fillA, splice, List.length_nil, List.flatten_nil, Nat.reduceAdd, Nat.reduceLeDiff, Nat.reduceBEq, Nat.reduceSub, if_true, ite_true, cond_true, cond_false, List.replicate, if_false, ite_false, reduceCtorEq]
  exact Ret.keep ⟨rfl, rfl⟩
theorem here_n (H : List ABlk) : ACalls Try.prog 23 [.nilp] H fun v H' => v = .d (.sl []) ∧ H' = H := by
  refine ACalls.into Try.func23 cc23 rr23 fun hcl => ?_
  simp (disch := omega) only [Try.ntmps23, c23, r23, DC_w, DC_n, kill_0, Nat.sub_zero, ↓rD0, ↓rD1, ↓rD2, ↓rD3, ↓rD4, rU0, rU1, rU2, rU3, rU4, rU5, toNat_n, Int.reduceToNat, slA, ptrsA, boolsA, Int.reducePow, Nat.reducePow, Nat.reduceMul, Int.reduceLT, Int.reduceLE, resA, resL, res1, eq_self, wanted, evK, get, setO, one, faA, loadA, storeA, outA, lenA, isStr, binA, unA, bnd, ints, toDat, toDats, datss, fillA, splice, List.length_nil, List.flatten_nil, Nat.reduceAdd, Nat.reduceLeDiff, Nat.reduceBEq, Nat.reduceSub, if_true, ite_true, cond_true, cond_false, List.replicate, if_false, ite_false, reduceCtorEq]
  exact Ret.weak _ Wk1.esl ⟨rfl, rfl⟩

/-! the reference -/
structure Rf where
  nb : Nat
  nc : Nat
  nj : List AV
  ns : List AV
  fb : Nat
  fc : Nat
  fj : List AV
  fs : List AV
def Rf.F (r : Rf) (qb : Nat) : List Nat := qb :: r.nb :: r.fb :: (r.ns.flatMap rowB ++ r.fs.flatMap rowB)
structure RfAt (H : List ABlk) (qb : Nat) (r : Rf) (st : St) : Prop where
  q : H[qb]? = some (.cells [.hsl r.nb 0 st.length r.nc 1, .hsl r.fb 0 st.length r.fc 1])
  n : H[r.nb]? = some (.cells (r.ns ++ r.nj))
  f : H[r.fb]? = some (.cells (r.fs ++ r.fj))
  c : st.length ≤ r.nc ∧ st.length ≤ r.fc
  rn : RowsA 9 sd H r.ns (st.map (·.map (·.1)))
  rf : RowsA 3 nd H r.fs (st.map (·.map (·.2)))
  ndp : (r.F qb).Nodup
  len : 0 < st.length ∧ st.length ≤ 64
  lvs : ∀ l ∈ st, l.length ≤ 256 ∧ ∀ x ∈ l, x.1.size ≤ 24
theorem RfAt.lt {H : List ABlk} {qb : Nat} {r : Rf} {st : St} (h : RfAt H qb r st) : ∀ b ∈ r.F qb, b < H.length := by
  have g : ∀ {b : Nat} {k : ABlk}, H[b]? = some k → b < H.length := fun h => (List.getElem?_eq_some_iff.1 h).1
  have row : ∀ {α : Type} {e : Nat} {c : α → List Dat} {xs : List AV} {ls : List (List α)}, RowsA e c H xs ls → ∀ b ∈ xs.flatMap rowB, b < H.length := fun {α e c xs ls} hr b hb => by
    obtain ⟨x, hx, hb⟩ := List.mem_flatMap.1 hb
    obtain ⟨i, hi, rfl⟩ := List.mem_iff_getElem.1 hx
    have hl := hr.1
    rcases hr.2 i _ _ (List.getElem?_eq_getElem hi) (List.getElem?_eq_getElem (by rw [← hl]; exact hi)) with ⟨e, _⟩ | ⟨b', e, hb'⟩
    · rw [e] at hb; simp [rowB] at hb
    · rw [e] at hb; simp [rowB] at hb; subst hb; exact g hb'
  intro b hb
  simp only [Rf.F, List.mem_cons, List.mem_append] at hb
  rcases hb with rfl | rfl | rfl | hb | hb
  · exact g h.q
  · exact g h.n
  · exact g h.f
  · exact row h.rn b hb
  · exact row h.rf b hb
theorem RfAt.frame {H H' : List ABlk} {qb : Nat} {r : Rf} {st : St} (h : RfAt H qb r st) (hH : ∀ b ∈ r.F qb, H'[b]? = H[b]?) : RfAt H' qb r st where
  q := by rw [hH qb (by simp [Rf.F]), h.q]
  n := by rw [hH r.nb (by simp [Rf.F]), h.n]
  f := by rw [hH r.fb (by simp [Rf.F]), h.f]
  c := h.c
  rn := h.rn.frame fun b hb => hH b (by simp only [Rf.F, List.mem_cons, List.mem_append]; exact .inr (.inr (.inr (.inl hb))))
  rf := h.rf.frame fun b hb => hH b (by simp only [Rf.F, List.mem_cons, List.mem_append]; exact .inr (.inr (.inr (.inr hb))))
  ndp := h.ndp
  len := h.len
  lvs := h.lvs
def rf0 (n : Nat) : Rf := ⟨n, 1, [], [.esl], n + 1, 1, [], [.esl]⟩
theorem RowsA.one {α : Type} {e : Nat} {c : α → List Dat} {H : List ABlk} : RowsA e c H [.esl] [([] : List α)] := ⟨rfl, fun i x l hx hl => by
  match i, hx, hl with
  | 0, hx, hl => cases hx; cases hl; exact .inl ⟨rfl, rfl⟩⟩
theorem RfAt.new (H : List ABlk) : RfAt (H ++ [.cells [.esl], .cells [.esl], .cells [.hsl H.length 0 1 1 1, .hsl (H.length + 1) 0 1 1 1]]) (H.length + 2) (rf0 H.length) [[]] where
  q := by rw [hgk]; rfl
  n := by show (H ++ _)[H.length]? = _; rw [hg0]; rfl
  f := by show (H ++ _)[H.length + 1]? = _; rw [hgk]; rfl
  c := ⟨Nat.le_refl _, Nat.le_refl _⟩
  rn := .one
  rf := .one
  ndp := by simp [Rf.F, rf0, rowB]
  len := by simp
  lvs := by simp
theorem new_r (H : List ABlk) : ACalls Try.prog 14 [] H fun v H' => v = .ptr (H.length + 2) 0 ∧ H' = H ++ [.cells [.esl], .cells [.esl], .cells [.hsl H.length 0 1 1 1, .hsl (H.length + 1) 0 1 1 1]] := by
  refine ACalls.into Try.func14 cc14 rr14 fun hcl => ?_
  simp (disch := omega) only [Try.ntmps14, c14, r14, DC_w, DC_n, kill_0, Nat.sub_zero, ↓rD0, ↓rD1, ↓rD2, ↓rD3, ↓rD4, rU0, rU1, rU2, rU3, rU4, rU5, toNat_n, Int.reduceToNat, slA, ptrsA, boolsA, Int.reducePow, Nat.reducePow, Nat.reduceMul, Int.reduceLT, Int.reduceLE, resA, resL, res1, eq_self, wanted, evK, get, setO, one, faA, loadA, storeA, outA, lenA, isStr, binA, unA, bnd, ints, toDat, toDats, datss, fillA, splice, List.length_nil, List.flatten_nil, Nat.reduceAdd, Nat.reduceLeDiff, Nat.reduceBEq, Nat.reduceSub, if_true, ite_true, cond_true, cond_false, List.replicate, if_false, ite_false, reduceCtorEq]
  exact Ret.keep ⟨rfl, rfl⟩
theorem depth_r {H : List ABlk} {qb : Nat} {r : Rf} {st : St} (h : RfAt H qb r st) : ACalls Try.prog 21 [.ptr qb 0] H fun v H' => v = iv ((st.length : Int) - 1) ∧ H' = H := by
  refine ACalls.into Try.func21 cc21 rr21 fun hcl => ?_
  have hl := h.len
  simp (disch := omega) only [Try.ntmps21, c21, r21, h.q, DC_w, DC_n, kill_0, Nat.sub_zero, ↓rD0, ↓rD1, ↓rD2, ↓rD3, ↓rD4, rU0, rU1, rU2, rU3, rU4, rU5, toNat_n, Int.reduceToNat, slA, ptrsA, boolsA, Int.reducePow, Nat.reducePow, Nat.reduceMul, Int.reduceLT, Int.reduceLE, resA, resL, res1, eq_self, wanted, evK, get, setO, one, faA, loadA, storeA, outA, lenA, isStr, binA, unA, bnd, ints, toDat, toDats, datss, fillA, splice, List.length_nil, List.flatten_nil, Nat.reduceAdd, Nat.reduceLeDiff, Nat.reduceBEq, Nat.reduceSub, if_true, ite_true, cond_true, cond_false, List.replicate, if_false, ite_false, reduceCtorEq]
  exact Ret.keep ⟨rfl, rfl⟩
end Go.Proofs.Ythgffjaiklmbcaa
