/- A scope of the program: Declare, where it says yes: the walk. Printed by gen8.py. -/
import Derived.Test.YthgffjaiklmbcaaWk7
namespace Go.Proofs.Ythgffjaiklmbcaa
set_option linter.unusedSimpArgs false
set_option linter.unusedVariables false
set_option maxRecDepth 20000
set_option maxHeartbeats 4000000
open Go.RowKit

theorem put_new {es : List (Value × AV × Nat)} {k : Value} {v : AV} {ck : Nat} (h : mapGet es k = none) : mapPut ck es k v = (ck + 1, es ++ [(k, v, ck)]) := by simp only [mapPut, h]
theorem ent_app (E : List En) (d : Int) (s : ByteArray) (n : Int) (ck : Nat) : E.map En.e ++ [(key d s, iv n, ck)] = (E ++ [En.mk d s n ck]).map En.e := by simp [En.e]
theorem declare_yes {H : List ABlk} {sb : Nat} {r : Im} {st : St} (h : ImAt H sb r st) (s : ByteArray) (n : Int) (h1 : Nm s) (h2 : lvGet (lastL st) s = none) (h3 : (lastL st).length ≠ 256) :
    ∃ H' r', ACalls Try.prog 9 [.ptr sb 0, sv s, iv n] H (fun v H'' => v = iv 0 ∧ H'' = H') ∧ ImAt H' sb r' (declS st s n) ∧ Chg H (r.F sb) H' (r'.F sb) := by
  have hd := h.dl
  have hlen := h.len
  have hlt := h.lt
  have hsb := hlt sb (by simp [Im.F])
  have hsp := h.s
  have hs : s.size ≤ 5000 := by have := h1.2.1; omega
  have hp : ∀ l, (H ++ l)[sb]? = some (.cells [r.mA, r.lA, r.f]) := fun l => hold hsp l
  have hf := fits_k (k := (st.length : Int) - 1) (s := s) (by omega) (by omega) hs
  have hg := mapGet_r h (st.length - 1) (by omega) s
  have hm0 := mapOf_r h
  have hmo : ∀ l, mapOf (H ++ l) kt r.mA = some (r.E.map En.e) := fun l => by
    rw [← hm0]
    unfold Im.mA
    cases e : r.m with
    | none => rfl
    | some y => simp only [mapOf, h.m y e, hold (h.m y e) l]
  rw [show ((st.length - 1 : Nat) : Int) = (st.length : Int) - 1 by omega, show st.getD (st.length - 1) [] = lastL st from rfl, h2] at hg
  have hgN : mapGet (r.E.map En.e) (key ((st.length : Int) - 1) s) = none := by simpa using hg
  have hx := h.ext hlt [.cells [iv ((st.length : Int) - 1), sv s]]
  have hll := (h.lvs (lastL st) (List.mem_of_getElem? (last_get (by omega)))).1
  have hnl : ((lastL st).map (·.1)).length = (lastL st).length := List.length_map ..
  have h3' : ¬ ((lastL st).length : Int) = 256 := by omega
  obtain ⟨init, x, hr, hrow, hat⟩ := h.at
  obtain ⟨⟨a1, a2, a3, a4⟩, a5, a6, a7, a8⟩ := nd_facts h.nd hr
  have hF := F_eq (sb := sb) hr
  cases hm : r.m with
  | none =>
    have e3 : r.mA = .mnil := by simp only [Im.mA, hm]
    have hE : r.E = [] := by simp only [Im.E, hm]
    have hmB : r.mB = [] := by simp only [Im.mB, hm]
    obtain ⟨mb, hmb⟩ := eq_of_ex (H.length + 1)
    obtain ⟨ck, hck⟩ := eq_of_ex (0 : Nat)
    obtain ⟨K, hK⟩ := eq_of_ex ((H ++ [ABlk.cells [iv ((st.length : Int) - 1), sv s], .map kt 0 []]).set sb (.cells [.mp (H.length + 1), r.lA, r.f]))
    have hpm : ∀ l, (H ++ l)[sb]? = some (.cells [.mnil, r.lA, r.f]) := fun l => by rw [← e3]; exact hp l
    have hM : Mid H K sb H.length mb ck r ((st.length : Int) - 1) s := by
      rw [hK, hmb, hck]
      refine ⟨getset_eq (by simp; omega), by rw [getset_ne (by omega), hgk, hE]; rfl, by rw [getset_ne (by omega), hg0]; rfl, fun b hb h1 _ => by rw [getset_ne (Ne.symm h1), List.getElem?_append_left (hlt b hb)], by simp, ⟨by omega, .inr (by omega)⟩, ⟨by omega, by omega⟩, fun b hb h1 => by rw [getset_ne (fun e => h1 (by rw [← e]; simp [Im.F])), List.getElem?_append_left hb]⟩
    have hml := (List.getElem?_eq_some_iff.1 hM.fm).1
    obtain ⟨K2, hK2⟩ := eq_of_ex (K.set mb (.map kt (ck + 1) ((r.E ++ [En.mk ((st.length : Int) - 1) s n ck]).map En.e)))
    have k2l : K2.length = K.length := by rw [hK2]; simp
    have k2m : K2[mb]? = some (.map kt (ck + 1) ((r.E ++ [En.mk ((st.length : Int) - 1) s n ck]).map En.e)) := by rw [hK2]; exact getset_eq hml
    have k2o : ∀ c, c ≠ mb → K2[c]? = K[c]? := fun c hc => by rw [hK2]; exact getset_ne (Ne.symm hc)
    have k2s : K2[sb]? = some (.cells [.mp mb, r.lA, r.f]) := by rw [k2o sb (Ne.symm hM.fmb.1), hM.fs]
    have hKl := hM.len
    have hLA := Mid.lA h hM
    rcases hrow with ⟨hxe, hn0⟩ | ⟨b, hxe, hb⟩
    · have hne0 : (lastL st).map (·.1) ++ [s] = [s] := by rw [hn0]; rfl
      have hl0 : (lastL st).length = 0 := by rw [← hnl, hn0]; rfl
      obtain ⟨K3, hK3⟩ := eq_of_ex (K2 ++ [ABlk.row 9 1 1])
      obtain ⟨b, hbe⟩ := eq_of_ex K2.length
      have k3b : K3[b]? = some (.row 9 1 ((lastL st).length + 1)) := by rw [hK3, hbe, hg0, hl0]; rfl
      have k3o : ∀ c, c < K.length → c ≠ b → K3[c]? = K2[c]? := fun c hc _ => by rw [hK3, List.getElem?_append_left (by omega)]
      have k3l : K.length ≤ K3.length := by rw [hK3]; simp; omega
      have hb' : b ∈ rowB x ∨ K.length ≤ b := .inr (by omega)
      have hLX : lenA AV.esl = some 0 := rfl
      have hbsb : b ≠ sb := fun e => by
        rcases hb' with h' | h'
        · exact a4 (by rw [← e]; exact h')
        · omega
      have hbmb : b ≠ mb := fun e => by
        rcases hb' with h' | h'
        · rcases hM.fmb.2 with h'' | h''
          · exact (a5 mb h'').2.2 (by rw [← e]; exact h')
          · have := hlt b (by rw [hF]; simp only [List.mem_append, List.mem_cons]; exact .inr (.inr (.inr (.inr h')))); omega
        · omega
      rcases hat with ⟨q1, q2, q3, q4⟩ | ⟨lb, cap, j, i', q1, q2, q3, q4, q5⟩
      · obtain ⟨K4, hK4⟩ := eq_of_ex (K3.set sb (ABlk.cells [.mp mb, r.lA, .gsl b 1 (((lastL st).map (·.1) ++ [s]).map sd)]))
        have hfin : ∃ r', ImAt K4 sb r' (declS st s n) ∧ Chg H (r.F sb) K4 (r'.F sb) := by
          refine Mid.fin h hM h1 h2 h3 hr (f' := .gsl b 1 (((lastL st).map (·.1) ++ [s]).map sd)) (rs' := []) (by rw [q2]; rfl) hb' (by rw [hK4]; simpa using k3l) (by rw [hK4]; exact getset_eq (by omega)) ?_ ?_ (fun y hy => ?_) (fun c hc1 hc2 hc3 hc4 hc5 => ?_)
          · rw [hK4, getset_ne (Ne.symm hM.fmb.1), k3o mb hml (Ne.symm hbmb), k2m]
          · rw [hK4, getset_ne (Ne.symm hbsb), k3b]
          · have hyl : y.1 ∈ r.lB := by simp [Im.lB, hy]
            have hyF : y.1 ∈ r.F sb := by rw [hF]; simp only [List.mem_append, List.mem_cons]; exact .inr (.inr (.inl hyl))
            rw [hK4, getset_ne (a := sb) (b := y.1) (fun e => a2 (by rw [e]; exact hyl)), k3o y.1 (by have := hlt y.1 hyF; omega) (fun e => ?_), k2o y.1 (fun e => ?_), hLA y hy, q4]
            · rcases hM.fmb.2 with h' | h'
              · exact (a5 mb h').1 (by rw [← e]; exact hyl)
              · have := hlt y.1 hyF; omega
            · rcases hb' with h' | h'
              · exact (a6 y.1 hyl).2 (by rw [e]; exact h')
              · have := hlt y.1 hyF; omega
          · rw [hK4, getset_ne (Ne.symm hc2), k3o c hc1 hc5, k2o c hc3]
        have k3s : K3[sb]? = some (.cells [.mp mb, r.lA, r.f]) := by rw [k3o sb (by omega) (Ne.symm hbsb), k2s]
        have hxs := q3.symm.trans hxe
        rw [hxs] at hp hpm k2s k3s
        try rw [hxs] at hK
        have k3x := k3s
        rw [hK3] at k3x
        obtain ⟨r', f1, f2⟩ := hfin
        refine ⟨_, r', ?_, f1, f2⟩
        refine ACalls.into Try.func9 cc9 rr9 fun hcl => ?_
        simp (disch := omega) only [Try.ntmps9, c9, r9, DC_w, DC_n, kill_0, Nat.sub_zero, ↓rD0, ↓rD1, ↓rD2, ↓rD3, ↓rD4, rU0, rU1, rU2, rU3, rU4, rU5, toNat_n, Int.reduceToNat, slA, ptrsA, boolsA, Int.reducePow, Nat.reducePow, Nat.reduceMul, Int.reduceLT, Int.reduceLE, resA, resL, res1, eq_self, wanted, evK, get, setO, one, faA, loadA, storeA, outA, lenA, isStr, binA, unA, bnd, ints, toDat, toDats, datss, fillA, splice, List.length_nil, List.flatten_nil, Nat.reduceAdd, Nat.reduceLeDiff, Nat.reduceBEq, Nat.reduceSub, if_true, ite_true, cond_true, cond_false, List.replicate, if_false, ite_false, reduceCtorEq]
        refine Cont.mk (named_c s _) ?_
        simp (disch := omega) only [nm_t h1, DC_w, DC_n, kill_0, Nat.sub_zero, ↓rD0, ↓rD1, ↓rD2, ↓rD3, ↓rD4, rU0, rU1, rU2, rU3, rU4, rU5, toNat_n, Int.reduceToNat, slA, ptrsA, boolsA, Int.reducePow, Nat.reducePow, Nat.reduceMul, Int.reduceLT, Int.reduceLE, resA, resL, res1, eq_self, wanted, evK, get, setO, one, faA, loadA, storeA, outA, lenA, isStr, binA, unA, bnd, ints, toDat, toDats, datss, fillA, splice, List.length_nil, List.flatten_nil, Nat.reduceAdd, Nat.reduceLeDiff, Nat.reduceBEq, Nat.reduceSub, if_true, ite_true, cond_true, cond_false, List.replicate, if_false, ite_false, reduceCtorEq]
        refine Cont.mk (depth_c h) ?_
        simp (disch := omega) only [DC_w, DC_n, kill_0, Nat.sub_zero, ↓rD0, ↓rD1, ↓rD2, ↓rD3, ↓rD4, rU0, rU1, rU2, rU3, rU4, rU5, toNat_n, Int.reduceToNat, slA, ptrsA, boolsA, Int.reducePow, Nat.reducePow, Nat.reduceMul, Int.reduceLT, Int.reduceLE, resA, resL, res1, eq_self, wanted, evK, get, setO, one, faA, loadA, storeA, outA, lenA, isStr, binA, unA, bnd, ints, toDat, toDats, datss, fillA, splice, List.length_nil, List.flatten_nil, Nat.reduceAdd, Nat.reduceLeDiff, Nat.reduceBEq, Nat.reduceSub, if_true, ite_true, cond_true, cond_false, List.replicate, if_false, ite_false, reduceCtorEq]
        refine W.pchain follows (by decide +kernel) ?_
        simp (disch := omega) only [hp, hmo, keyOf_k, hf, hgN, DC_w, DC_n, kill_0, Nat.sub_zero, ↓rD0, ↓rD1, ↓rD2, ↓rD3, ↓rD4, rU0, rU1, rU2, rU3, rU4, rU5, toNat_n, Int.reduceToNat, slA, ptrsA, boolsA, Int.reducePow, Nat.reducePow, Nat.reduceMul, Int.reduceLT, Int.reduceLE, resA, resL, res1, eq_self, wanted, evK, get, setO, one, faA, loadA, storeA, outA, lenA, isStr, binA, unA, bnd, ints, toDat, toDats, datss, fillA, splice, List.length_nil, List.flatten_nil, Nat.reduceAdd, Nat.reduceLeDiff, Nat.reduceBEq, Nat.reduceSub, if_true, ite_true, cond_true, cond_false, List.replicate, if_false, ite_false, reduceCtorEq]
        refine Cont.mk (here_c hx) ?_
        simp (disch := omega) only [q1, hp, List.length_map, h3', e3, hpm, hLX, DC_w, DC_n, kill_0, Nat.sub_zero, ↓rD0, ↓rD1, ↓rD2, ↓rD3, ↓rD4, rU0, rU1, rU2, rU3, rU4, rU5, toNat_n, Int.reduceToNat, slA, ptrsA, boolsA, Int.reducePow, Nat.reducePow, Nat.reduceMul, Int.reduceLT, Int.reduceLE, resA, resL, res1, eq_self, wanted, evK, get, setO, one, faA, loadA, storeA, outA, lenA, isStr, binA, unA, bnd, ints, toDat, toDats, datss, fillA, splice, List.length_nil, List.flatten_nil, Nat.reduceAdd, Nat.reduceLeDiff, Nat.reduceBEq, Nat.reduceSub, if_true, ite_true, cond_true, cond_false, List.replicate, if_false, ite_false, reduceCtorEq]
        rw [← hK]
        refine W.dregD [([], []), ([], []), ([], []), ([], []), ([], []), ([], []), ([mb], [])] follows (by decide +kernel) rfl rfl (fun z hz => ?_) ?_
        · simp only [List.mem_cons, List.not_mem_nil, or_false] at hz
          rcases hz with rfl | rfl | rfl | rfl | rfl | rfl | rfl
          · exact fun b hb => by simp at hb
          · exact fun b hb => by simp at hb
          · exact fun b hb => by simp at hb
          · exact fun b hb => by simp at hb
          · exact fun b hb => by simp at hb
          · exact fun b hb => by simp at hb
          · exact fun b hb => by simp only [List.mem_singleton] at hb; subst hb; exact ⟨by simp, by rw [hM.fm]; simp⟩
        repeat (rw [DC_p]; simp (disch := omega) only [hM.fs, hM.fk, DC_w, DC_n, kill_0, Nat.sub_zero, ↓rD0, ↓rD1, ↓rD2, ↓rD3, ↓rD4, rU0, rU1, rU2, rU3, rU4, rU5, toNat_n, Int.reduceToNat, slA, ptrsA, boolsA, Int.reducePow, Nat.reducePow, Nat.reduceMul, Int.reduceLT, Int.reduceLE, resA, resL, res1, eq_self, wanted, evK, get, setO, one, faA, loadA, storeA, outA, lenA, isStr, binA, unA, bnd, ints, toDat, toDats, datss, fillA, splice, List.length_nil, List.flatten_nil, Nat.reduceAdd, Nat.reduceLeDiff, Nat.reduceBEq, Nat.reduceSub, if_true, ite_true, cond_true, cond_false, List.replicate, if_false, ite_false, reduceCtorEq])
        refine WStep.ev (fun _ _ e => by cases e) (fun _ _ e => by cases e) ?_
        simp (disch := omega) only [hM.fs, hM.fk, hM.fm, keyOf_k, hf, put_new hgN, ent_app, DC_w, DC_n, kill_0, Nat.sub_zero, ↓rD0, ↓rD1, ↓rD2, ↓rD3, ↓rD4, rU0, rU1, rU2, rU3, rU4, rU5, toNat_n, Int.reduceToNat, slA, ptrsA, boolsA, Int.reducePow, Nat.reducePow, Nat.reduceMul, Int.reduceLT, Int.reduceLE, resA, resL, res1, eq_self, wanted, evK, get, setO, one, faA, loadA, storeA, outA, lenA, isStr, binA, unA, bnd, ints, toDat, toDats, datss, fillA, splice, List.length_nil, List.flatten_nil, Nat.reduceAdd, Nat.reduceLeDiff, Nat.reduceBEq, Nat.reduceSub, if_true, ite_true, cond_true, cond_false, List.replicate, if_false, ite_false, reduceCtorEq]
        rw [← hK2]
        refine ⟨by rw [hK2]; exact FrOk.set (by simp), ?_⟩
        simp (disch := omega) only [k2s, k3x, hne0, DC_w, DC_n, kill_0, Nat.sub_zero, ↓rD0, ↓rD1, ↓rD2, ↓rD3, ↓rD4, rU0, rU1, rU2, rU3, rU4, rU5, toNat_n, Int.reduceToNat, slA, ptrsA, boolsA, Int.reducePow, Nat.reducePow, Nat.reduceMul, Int.reduceLT, Int.reduceLE, resA, resL, res1, eq_self, wanted, evK, get, setO, one, faA, loadA, storeA, outA, lenA, isStr, binA, unA, bnd, ints, toDat, toDats, datss, fillA, splice, List.length_nil, List.flatten_nil, Nat.reduceAdd, Nat.reduceLeDiff, Nat.reduceBEq, Nat.reduceSub, if_true, ite_true, cond_true, cond_false, List.replicate, if_false, ite_false, reduceCtorEq]
        exact Ret.keep ⟨rfl, by rw [hK4, hK3, hbe, hne0]; rfl⟩
      · obtain ⟨K4, hK4⟩ := eq_of_ex (K3.set lb (ABlk.cells (i' ++ .gsl b 1 (((lastL st).map (·.1) ++ [s]).map sd) :: j)))
        have hll2 : lb ∈ r.lB := by simp [Im.lB, q1]
        have hlF : lb ∈ r.F sb := by rw [hF]; simp only [List.mem_append, List.mem_cons]; exact .inr (.inr (.inl hll2))
        have hlsb : lb ≠ sb := fun e => a2 (by rw [← e]; exact hll2)
        have hlmb : lb ≠ mb := fun e => by
          rcases hM.fmb.2 with h' | h'
          · exact (a5 mb h').1 (by rw [← e]; exact hll2)
          · have := hlt lb hlF; omega
        have hlb : lb ≠ b := fun e => by
          rcases hb' with h' | h'
          · exact (a6 lb hll2).2 (by rw [e]; exact h')
          · have := hlt lb hlF; omega
        have hlK : K[lb]? = some (.cells (i' ++ x :: j)) := by rw [hLA _ q1, q3]; simp
        have k2lb : K2[lb]? = some (.cells (i' ++ x :: j)) := by rw [k2o lb hlmb, hlK]
        have k3lb : K3[lb]? = some (.cells (i' ++ x :: j)) := by rw [k3o lb (by have := hlt lb hlF; omega) hlb, k2lb]
        have hfin : ∃ r', ImAt K4 sb r' (declS st s n) ∧ Chg H (r.F sb) K4 (r'.F sb) := by
          refine Mid.fin h hM h1 h2 h3 hr (f' := r.f) (rs' := i' ++ [.gsl b 1 (((lastL st).map (·.1) ++ [s]).map sd)]) (by rw [q2]; rfl) hb' (by rw [hK4]; simpa using k3l) (by rw [hK4, getset_ne hlsb, k3o sb (by omega) (Ne.symm hbsb), k2s]) ?_ ?_ (fun y hy => ?_) (fun c hc1 hc2 hc3 hc4 hc5 => ?_)
          · rw [hK4, getset_ne hlmb, k3o mb hml (Ne.symm hbmb), k2m]
          · rw [hK4, getset_ne hlb, k3b]
          · rw [q1] at hy; cases hy
            rw [hK4, getset_eq (by have := hlt lb hlF; omega)]; simp
          · rw [hK4, getset_ne (a := lb) (b := c) (fun e => hc4 (by rw [← e]; exact hll2)), k3o c hc1 hc5, k2o c hc3]
        have hq5 : ∀ l, (H ++ l)[lb]? = some (.cells (i' ++ x :: j)) := fun l => hold q5 l
        have d1 : ((i' ++ x :: j).drop i'.length).take 1 = [x] := by simp
        have d2 : i'.length + 1 ≤ (i' ++ x :: j).length := by simp
        have d3 : (i' ++ x :: j).take i'.length = i' := by simp
        have d4 : (i' ++ x :: j).drop (i'.length + 1) = j := by simp
        rw [hxe] at hq5 d1 d2 d3 d4 k2lb k3lb
        have k3x := k3lb
        rw [hK3] at k3x
        obtain ⟨r', f1, f2⟩ := hfin
        refine ⟨_, r', ?_, f1, f2⟩
        refine ACalls.into Try.func9 cc9 rr9 fun hcl => ?_
        simp (disch := omega) only [Try.ntmps9, c9, r9, DC_w, DC_n, kill_0, Nat.sub_zero, ↓rD0, ↓rD1, ↓rD2, ↓rD3, ↓rD4, rU0, rU1, rU2, rU3, rU4, rU5, toNat_n, Int.reduceToNat, slA, ptrsA, boolsA, Int.reducePow, Nat.reducePow, Nat.reduceMul, Int.reduceLT, Int.reduceLE, resA, resL, res1, eq_self, wanted, evK, get, setO, one, faA, loadA, storeA, outA, lenA, isStr, binA, unA, bnd, ints, toDat, toDats, datss, fillA, splice, List.length_nil, List.flatten_nil, Nat.reduceAdd, Nat.reduceLeDiff, Nat.reduceBEq, Nat.reduceSub, if_true, ite_true, cond_true, cond_false, List.replicate, if_false, ite_false, reduceCtorEq]
        refine Cont.mk (named_c s _) ?_
        simp (disch := omega) only [nm_t h1, DC_w, DC_n, kill_0, Nat.sub_zero, ↓rD0, ↓rD1, ↓rD2, ↓rD3, ↓rD4, rU0, rU1, rU2, rU3, rU4, rU5, toNat_n, Int.reduceToNat, slA, ptrsA, boolsA, Int.reducePow, Nat.reducePow, Nat.reduceMul, Int.reduceLT, Int.reduceLE, resA, resL, res1, eq_self, wanted, evK, get, setO, one, faA, loadA, storeA, outA, lenA, isStr, binA, unA, bnd, ints, toDat, toDats, datss, fillA, splice, List.length_nil, List.flatten_nil, Nat.reduceAdd, Nat.reduceLeDiff, Nat.reduceBEq, Nat.reduceSub, if_true, ite_true, cond_true, cond_false, List.replicate, if_false, ite_false, reduceCtorEq]
        refine Cont.mk (depth_c h) ?_
        simp (disch := omega) only [DC_w, DC_n, kill_0, Nat.sub_zero, ↓rD0, ↓rD1, ↓rD2, ↓rD3, ↓rD4, rU0, rU1, rU2, rU3, rU4, rU5, toNat_n, Int.reduceToNat, slA, ptrsA, boolsA, Int.reducePow, Nat.reducePow, Nat.reduceMul, Int.reduceLT, Int.reduceLE, resA, resL, res1, eq_self, wanted, evK, get, setO, one, faA, loadA, storeA, outA, lenA, isStr, binA, unA, bnd, ints, toDat, toDats, datss, fillA, splice, List.length_nil, List.flatten_nil, Nat.reduceAdd, Nat.reduceLeDiff, Nat.reduceBEq, Nat.reduceSub, if_true, ite_true, cond_true, cond_false, List.replicate, if_false, ite_false, reduceCtorEq]
        refine W.pchain follows (by decide +kernel) ?_
        simp (disch := omega) only [hp, hmo, keyOf_k, hf, hgN, DC_w, DC_n, kill_0, Nat.sub_zero, ↓rD0, ↓rD1, ↓rD2, ↓rD3, ↓rD4, rU0, rU1, rU2, rU3, rU4, rU5, toNat_n, Int.reduceToNat, slA, ptrsA, boolsA, Int.reducePow, Nat.reducePow, Nat.reduceMul, Int.reduceLT, Int.reduceLE, resA, resL, res1, eq_self, wanted, evK, get, setO, one, faA, loadA, storeA, outA, lenA, isStr, binA, unA, bnd, ints, toDat, toDats, datss, fillA, splice, List.length_nil, List.flatten_nil, Nat.reduceAdd, Nat.reduceLeDiff, Nat.reduceBEq, Nat.reduceSub, if_true, ite_true, cond_true, cond_false, List.replicate, if_false, ite_false, reduceCtorEq]
        refine Cont.mk (here_c hx) ?_
        simp (disch := omega) only [q4, hq5, d1, d2, List.length_map, h3', e3, hpm, hLX, DC_w, DC_n, kill_0, Nat.sub_zero, ↓rD0, ↓rD1, ↓rD2, ↓rD3, ↓rD4, rU0, rU1, rU2, rU3, rU4, rU5, toNat_n, Int.reduceToNat, slA, ptrsA, boolsA, Int.reducePow, Nat.reducePow, Nat.reduceMul, Int.reduceLT, Int.reduceLE, resA, resL, res1, eq_self, wanted, evK, get, setO, one, faA, loadA, storeA, outA, lenA, isStr, binA, unA, bnd, ints, toDat, toDats, datss, fillA, splice, List.length_nil, List.flatten_nil, Nat.reduceAdd, Nat.reduceLeDiff, Nat.reduceBEq, Nat.reduceSub, if_true, ite_true, cond_true, cond_false, List.replicate, if_false, ite_false, reduceCtorEq]
        rw [← hK]
        refine W.dregD [([], []), ([], []), ([], []), ([], []), ([], []), ([], []), ([mb], [])] follows (by decide +kernel) rfl rfl (fun z hz => ?_) ?_
        · simp only [List.mem_cons, List.not_mem_nil, or_false] at hz
          rcases hz with rfl | rfl | rfl | rfl | rfl | rfl | rfl
          · exact fun b hb => by simp at hb
          · exact fun b hb => by simp at hb
          · exact fun b hb => by simp at hb
          · exact fun b hb => by simp at hb
          · exact fun b hb => by simp at hb
          · exact fun b hb => by simp at hb
          · exact fun b hb => by simp only [List.mem_singleton] at hb; subst hb; exact ⟨by simp, by rw [hM.fm]; simp⟩
        repeat (rw [DC_p]; simp (disch := omega) only [hM.fs, hM.fk, DC_w, DC_n, kill_0, Nat.sub_zero, ↓rD0, ↓rD1, ↓rD2, ↓rD3, ↓rD4, rU0, rU1, rU2, rU3, rU4, rU5, toNat_n, Int.reduceToNat, slA, ptrsA, boolsA, Int.reducePow, Nat.reducePow, Nat.reduceMul, Int.reduceLT, Int.reduceLE, resA, resL, res1, eq_self, wanted, evK, get, setO, one, faA, loadA, storeA, outA, lenA, isStr, binA, unA, bnd, ints, toDat, toDats, datss, fillA, splice, List.length_nil, List.flatten_nil, Nat.reduceAdd, Nat.reduceLeDiff, Nat.reduceBEq, Nat.reduceSub, if_true, ite_true, cond_true, cond_false, List.replicate, if_false, ite_false, reduceCtorEq])
        refine WStep.ev (fun _ _ e => by cases e) (fun _ _ e => by cases e) ?_
        simp (disch := omega) only [hM.fs, hM.fk, hM.fm, keyOf_k, hf, put_new hgN, ent_app, DC_w, DC_n, kill_0, Nat.sub_zero, ↓rD0, ↓rD1, ↓rD2, ↓rD3, ↓rD4, rU0, rU1, rU2, rU3, rU4, rU5, toNat_n, Int.reduceToNat, slA, ptrsA, boolsA, Int.reducePow, Nat.reducePow, Nat.reduceMul, Int.reduceLT, Int.reduceLE, resA, resL, res1, eq_self, wanted, evK, get, setO, one, faA, loadA, storeA, outA, lenA, isStr, binA, unA, bnd, ints, toDat, toDats, datss, fillA, splice, List.length_nil, List.flatten_nil, Nat.reduceAdd, Nat.reduceLeDiff, Nat.reduceBEq, Nat.reduceSub, if_true, ite_true, cond_true, cond_false, List.replicate, if_false, ite_false, reduceCtorEq]
        rw [← hK2]
        refine ⟨by rw [hK2]; exact FrOk.set (by simp), ?_⟩
        simp (disch := omega) only [k2lb, d1, d2, d3, d4, k3x, hne0, DC_w, DC_n, kill_0, Nat.sub_zero, ↓rD0, ↓rD1, ↓rD2, ↓rD3, ↓rD4, rU0, rU1, rU2, rU3, rU4, rU5, toNat_n, Int.reduceToNat, slA, ptrsA, boolsA, Int.reducePow, Nat.reducePow, Nat.reduceMul, Int.reduceLT, Int.reduceLE, resA, resL, res1, eq_self, wanted, evK, get, setO, one, faA, loadA, storeA, outA, lenA, isStr, binA, unA, bnd, ints, toDat, toDats, datss, fillA, splice, List.length_nil, List.flatten_nil, Nat.reduceAdd, Nat.reduceLeDiff, Nat.reduceBEq, Nat.reduceSub, if_true, ite_true, cond_true, cond_false, List.replicate, if_false, ite_false, reduceCtorEq]
        exact Ret.keep ⟨rfl, by rw [hK4, hK3, hbe, hne0]; rfl⟩
    · have hLX : lenA AV.esl = some 0 := rfl
      have hbx : b ∈ rowB x := by rw [hxe]; simp [rowB]
      have hbF : b ∈ r.F sb := by rw [hF]; simp only [List.mem_append, List.mem_cons]; exact .inr (.inr (.inr (.inr hbx)))
      have hbl := hlt b hbF
      have hbs : b ≠ sb := fun e => a4 (by rw [← e]; exact hbx)
      have hbm : b ≠ mb := fun e => by
        rcases hM.fmb.2 with h' | h'
        · exact (a5 mb h').2.2 (by rw [← e]; exact hbx)
        · omega
      have hbmB : b ∉ r.mB := fun e => (a5 b e).2.2 hbx
      have hb2 : K2[b]? = some (.row 9 1 (lastL st).length) := by rw [k2o b hbm, hM.fo b hbF hbs hbmB, hb, hnl]
      obtain ⟨K3, hK3⟩ := eq_of_ex (K2.set b (ABlk.row 9 1 ((lastL st).length + 1)))
      have k3b : K3[b]? = some (.row 9 1 ((lastL st).length + 1)) := by rw [hK3]; exact getset_eq (by omega)
      have k3o : ∀ c, c < K.length → c ≠ b → K3[c]? = K2[c]? := fun c hc hb => by rw [hK3]; exact getset_ne (Ne.symm hb)
      have k3l : K.length ≤ K3.length := by rw [hK3]; simp; omega
      have hb' : b ∈ rowB x ∨ K.length ≤ b := .inl hbx
      have h3s : ((lastL st).length + 1) * 16 ≤ 140737488355328 := by omega
      have hbsb : b ≠ sb := fun e => by
        rcases hb' with h' | h'
        · exact a4 (by rw [← e]; exact h')
        · omega
      have hbmb : b ≠ mb := fun e => by
        rcases hb' with h' | h'
        · rcases hM.fmb.2 with h'' | h''
          · exact (a5 mb h'').2.2 (by rw [← e]; exact h')
          · have := hlt b (by rw [hF]; simp only [List.mem_append, List.mem_cons]; exact .inr (.inr (.inr (.inr h')))); omega
        · omega
      rcases hat with ⟨q1, q2, q3, q4⟩ | ⟨lb, cap, j, i', q1, q2, q3, q4, q5⟩
      · obtain ⟨K4, hK4⟩ := eq_of_ex (K3.set sb (ABlk.cells [.mp mb, r.lA, .gsl b 1 (((lastL st).map (·.1) ++ [s]).map sd)]))
        have hfin : ∃ r', ImAt K4 sb r' (declS st s n) ∧ Chg H (r.F sb) K4 (r'.F sb) := by
          refine Mid.fin h hM h1 h2 h3 hr (f' := .gsl b 1 (((lastL st).map (·.1) ++ [s]).map sd)) (rs' := []) (by rw [q2]; rfl) hb' (by rw [hK4]; simpa using k3l) (by rw [hK4]; exact getset_eq (by omega)) ?_ ?_ (fun y hy => ?_) (fun c hc1 hc2 hc3 hc4 hc5 => ?_)
          · rw [hK4, getset_ne (Ne.symm hM.fmb.1), k3o mb hml (Ne.symm hbmb), k2m]
          · rw [hK4, getset_ne (Ne.symm hbsb), k3b]
          · have hyl : y.1 ∈ r.lB := by simp [Im.lB, hy]
            have hyF : y.1 ∈ r.F sb := by rw [hF]; simp only [List.mem_append, List.mem_cons]; exact .inr (.inr (.inl hyl))
            rw [hK4, getset_ne (a := sb) (b := y.1) (fun e => a2 (by rw [e]; exact hyl)), k3o y.1 (by have := hlt y.1 hyF; omega) (fun e => ?_), k2o y.1 (fun e => ?_), hLA y hy, q4]
            · rcases hM.fmb.2 with h' | h'
              · exact (a5 mb h').1 (by rw [← e]; exact hyl)
              · have := hlt y.1 hyF; omega
            · rcases hb' with h' | h'
              · exact (a6 y.1 hyl).2 (by rw [e]; exact h')
              · have := hlt y.1 hyF; omega
          · rw [hK4, getset_ne (Ne.symm hc2), k3o c hc1 hc5, k2o c hc3]
        have k3s : K3[sb]? = some (.cells [.mp mb, r.lA, r.f]) := by rw [k3o sb (by omega) (Ne.symm hbsb), k2s]
        have hxs := q3.symm.trans hxe
        rw [hxs] at hp hpm k2s k3s
        try rw [hxs] at hK
        have k3x := k3s
        rw [hK3] at k3x
        obtain ⟨r', f1, f2⟩ := hfin
        refine ⟨_, r', ?_, f1, f2⟩
        refine ACalls.into Try.func9 cc9 rr9 fun hcl => ?_
        simp (disch := omega) only [Try.ntmps9, c9, r9, DC_w, DC_n, kill_0, Nat.sub_zero, ↓rD0, ↓rD1, ↓rD2, ↓rD3, ↓rD4, rU0, rU1, rU2, rU3, rU4, rU5, toNat_n, Int.reduceToNat, slA, ptrsA, boolsA, Int.reducePow, Nat.reducePow, Nat.reduceMul, Int.reduceLT, Int.reduceLE, resA, resL, res1, eq_self, wanted, evK, get, setO, one, faA, loadA, storeA, outA, lenA, isStr, binA, unA, bnd, ints, toDat, toDats, datss, fillA, splice, List.length_nil, List.flatten_nil, Nat.reduceAdd, Nat.reduceLeDiff, Nat.reduceBEq, Nat.reduceSub, if_true, ite_true, cond_true, cond_false, List.replicate, if_false, ite_false, reduceCtorEq]
        refine Cont.mk (named_c s _) ?_
        simp (disch := omega) only [nm_t h1, DC_w, DC_n, kill_0, Nat.sub_zero, ↓rD0, ↓rD1, ↓rD2, ↓rD3, ↓rD4, rU0, rU1, rU2, rU3, rU4, rU5, toNat_n, Int.reduceToNat, slA, ptrsA, boolsA, Int.reducePow, Nat.reducePow, Nat.reduceMul, Int.reduceLT, Int.reduceLE, resA, resL, res1, eq_self, wanted, evK, get, setO, one, faA, loadA, storeA, outA, lenA, isStr, binA, unA, bnd, ints, toDat, toDats, datss, fillA, splice, List.length_nil, List.flatten_nil, Nat.reduceAdd, Nat.reduceLeDiff, Nat.reduceBEq, Nat.reduceSub, if_true, ite_true, cond_true, cond_false, List.replicate, if_false, ite_false, reduceCtorEq]
        refine Cont.mk (depth_c h) ?_
        simp (disch := omega) only [DC_w, DC_n, kill_0, Nat.sub_zero, ↓rD0, ↓rD1, ↓rD2, ↓rD3, ↓rD4, rU0, rU1, rU2, rU3, rU4, rU5, toNat_n, Int.reduceToNat, slA, ptrsA, boolsA, Int.reducePow, Nat.reducePow, Nat.reduceMul, Int.reduceLT, Int.reduceLE, resA, resL, res1, eq_self, wanted, evK, get, setO, one, faA, loadA, storeA, outA, lenA, isStr, binA, unA, bnd, ints, toDat, toDats, datss, fillA, splice, List.length_nil, List.flatten_nil, Nat.reduceAdd, Nat.reduceLeDiff, Nat.reduceBEq, Nat.reduceSub, if_true, ite_true, cond_true, cond_false, List.replicate, if_false, ite_false, reduceCtorEq]
        refine W.pchain follows (by decide +kernel) ?_
        simp (disch := omega) only [hp, hmo, keyOf_k, hf, hgN, DC_w, DC_n, kill_0, Nat.sub_zero, ↓rD0, ↓rD1, ↓rD2, ↓rD3, ↓rD4, rU0, rU1, rU2, rU3, rU4, rU5, toNat_n, Int.reduceToNat, slA, ptrsA, boolsA, Int.reducePow, Nat.reducePow, Nat.reduceMul, Int.reduceLT, Int.reduceLE, resA, resL, res1, eq_self, wanted, evK, get, setO, one, faA, loadA, storeA, outA, lenA, isStr, binA, unA, bnd, ints, toDat, toDats, datss, fillA, splice, List.length_nil, List.flatten_nil, Nat.reduceAdd, Nat.reduceLeDiff, Nat.reduceBEq, Nat.reduceSub, if_true, ite_true, cond_true, cond_false, List.replicate, if_false, ite_false, reduceCtorEq]
        refine Cont.mk (here_c hx) ?_
        simp (disch := omega) only [q1, hp, List.length_map, h3', e3, hpm, hLX, DC_w, DC_n, kill_0, Nat.sub_zero, ↓rD0, ↓rD1, ↓rD2, ↓rD3, ↓rD4, rU0, rU1, rU2, rU3, rU4, rU5, toNat_n, Int.reduceToNat, slA, ptrsA, boolsA, Int.reducePow, Nat.reducePow, Nat.reduceMul, Int.reduceLT, Int.reduceLE, resA, resL, res1, eq_self, wanted, evK, get, setO, one, faA, loadA, storeA, outA, lenA, isStr, binA, unA, bnd, ints, toDat, toDats, datss, fillA, splice, List.length_nil, List.flatten_nil, Nat.reduceAdd, Nat.reduceLeDiff, Nat.reduceBEq, Nat.reduceSub, if_true, ite_true, cond_true, cond_false, List.replicate, if_false, ite_false, reduceCtorEq]
        rw [← hK]
        refine W.dregD [([], []), ([], []), ([], []), ([], []), ([], []), ([], []), ([mb], [])] follows (by decide +kernel) rfl rfl (fun z hz => ?_) ?_
        · simp only [List.mem_cons, List.not_mem_nil, or_false] at hz
          rcases hz with rfl | rfl | rfl | rfl | rfl | rfl | rfl
          · exact fun b hb => by simp at hb
          · exact fun b hb => by simp at hb
          · exact fun b hb => by simp at hb
          · exact fun b hb => by simp at hb
          · exact fun b hb => by simp at hb
          · exact fun b hb => by simp at hb
          · exact fun b hb => by simp only [List.mem_singleton] at hb; subst hb; exact ⟨by simp, by rw [hM.fm]; simp⟩
        repeat (rw [DC_p]; simp (disch := omega) only [hM.fs, hM.fk, DC_w, DC_n, kill_0, Nat.sub_zero, ↓rD0, ↓rD1, ↓rD2, ↓rD3, ↓rD4, rU0, rU1, rU2, rU3, rU4, rU5, toNat_n, Int.reduceToNat, slA, ptrsA, boolsA, Int.reducePow, Nat.reducePow, Nat.reduceMul, Int.reduceLT, Int.reduceLE, resA, resL, res1, eq_self, wanted, evK, get, setO, one, faA, loadA, storeA, outA, lenA, isStr, binA, unA, bnd, ints, toDat, toDats, datss, fillA, splice, List.length_nil, List.flatten_nil, Nat.reduceAdd, Nat.reduceLeDiff, Nat.reduceBEq, Nat.reduceSub, if_true, ite_true, cond_true, cond_false, List.replicate, if_false, ite_false, reduceCtorEq])
        refine WStep.ev (fun _ _ e => by cases e) (fun _ _ e => by cases e) ?_
        simp (disch := omega) only [hM.fs, hM.fk, hM.fm, keyOf_k, hf, put_new hgN, ent_app, DC_w, DC_n, kill_0, Nat.sub_zero, ↓rD0, ↓rD1, ↓rD2, ↓rD3, ↓rD4, rU0, rU1, rU2, rU3, rU4, rU5, toNat_n, Int.reduceToNat, slA, ptrsA, boolsA, Int.reducePow, Nat.reducePow, Nat.reduceMul, Int.reduceLT, Int.reduceLE, resA, resL, res1, eq_self, wanted, evK, get, setO, one, faA, loadA, storeA, outA, lenA, isStr, binA, unA, bnd, ints, toDat, toDats, datss, fillA, splice, List.length_nil, List.flatten_nil, Nat.reduceAdd, Nat.reduceLeDiff, Nat.reduceBEq, Nat.reduceSub, if_true, ite_true, cond_true, cond_false, List.replicate, if_false, ite_false, reduceCtorEq]
        rw [← hK2]
        refine ⟨by rw [hK2]; exact FrOk.set (by simp), ?_⟩
        simp (disch := omega) only [k2s, k3x, hb2, List.length_map, h3s, DC_w, DC_n, kill_0, Nat.sub_zero, ↓rD0, ↓rD1, ↓rD2, ↓rD3, ↓rD4, rU0, rU1, rU2, rU3, rU4, rU5, toNat_n, Int.reduceToNat, slA, ptrsA, boolsA, Int.reducePow, Nat.reducePow, Nat.reduceMul, Int.reduceLT, Int.reduceLE, resA, resL, res1, eq_self, wanted, evK, get, setO, one, faA, loadA, storeA, outA, lenA, isStr, binA, unA, bnd, ints, toDat, toDats, datss, fillA, splice, List.length_nil, List.flatten_nil, Nat.reduceAdd, Nat.reduceLeDiff, Nat.reduceBEq, Nat.reduceSub, if_true, ite_true, cond_true, cond_false, List.replicate, if_false, ite_false, reduceCtorEq]
        exact Ret.keep ⟨rfl, by rw [hK4, hK3, ← flat_sd]⟩
      · obtain ⟨K4, hK4⟩ := eq_of_ex (K3.set lb (ABlk.cells (i' ++ .gsl b 1 (((lastL st).map (·.1) ++ [s]).map sd) :: j)))
        have hll2 : lb ∈ r.lB := by simp [Im.lB, q1]
        have hlF : lb ∈ r.F sb := by rw [hF]; simp only [List.mem_append, List.mem_cons]; exact .inr (.inr (.inl hll2))
        have hlsb : lb ≠ sb := fun e => a2 (by rw [← e]; exact hll2)
        have hlmb : lb ≠ mb := fun e => by
          rcases hM.fmb.2 with h' | h'
          · exact (a5 mb h').1 (by rw [← e]; exact hll2)
          · have := hlt lb hlF; omega
        have hlb : lb ≠ b := fun e => by
          rcases hb' with h' | h'
          · exact (a6 lb hll2).2 (by rw [e]; exact h')
          · have := hlt lb hlF; omega
        have hlK : K[lb]? = some (.cells (i' ++ x :: j)) := by rw [hLA _ q1, q3]; simp
        have k2lb : K2[lb]? = some (.cells (i' ++ x :: j)) := by rw [k2o lb hlmb, hlK]
        have k3lb : K3[lb]? = some (.cells (i' ++ x :: j)) := by rw [k3o lb (by have := hlt lb hlF; omega) hlb, k2lb]
        have hfin : ∃ r', ImAt K4 sb r' (declS st s n) ∧ Chg H (r.F sb) K4 (r'.F sb) := by
          refine Mid.fin h hM h1 h2 h3 hr (f' := r.f) (rs' := i' ++ [.gsl b 1 (((lastL st).map (·.1) ++ [s]).map sd)]) (by rw [q2]; rfl) hb' (by rw [hK4]; simpa using k3l) (by rw [hK4, getset_ne hlsb, k3o sb (by omega) (Ne.symm hbsb), k2s]) ?_ ?_ (fun y hy => ?_) (fun c hc1 hc2 hc3 hc4 hc5 => ?_)
          · rw [hK4, getset_ne hlmb, k3o mb hml (Ne.symm hbmb), k2m]
          · rw [hK4, getset_ne hlb, k3b]
          · rw [q1] at hy; cases hy
            rw [hK4, getset_eq (by have := hlt lb hlF; omega)]; simp
          · rw [hK4, getset_ne (a := lb) (b := c) (fun e => hc4 (by rw [← e]; exact hll2)), k3o c hc1 hc5, k2o c hc3]
        have hq5 : ∀ l, (H ++ l)[lb]? = some (.cells (i' ++ x :: j)) := fun l => hold q5 l
        have d1 : ((i' ++ x :: j).drop i'.length).take 1 = [x] := by simp
        have d2 : i'.length + 1 ≤ (i' ++ x :: j).length := by simp
        have d3 : (i' ++ x :: j).take i'.length = i' := by simp
        have d4 : (i' ++ x :: j).drop (i'.length + 1) = j := by simp
        rw [hxe] at hq5 d1 d2 d3 d4 k2lb k3lb
        have k3x := k3lb
        rw [hK3] at k3x
        obtain ⟨r', f1, f2⟩ := hfin
        refine ⟨_, r', ?_, f1, f2⟩
        refine ACalls.into Try.func9 cc9 rr9 fun hcl => ?_
        simp (disch := omega) only [Try.ntmps9, c9, r9, DC_w, DC_n, kill_0, Nat.sub_zero, ↓rD0, ↓rD1, ↓rD2, ↓rD3, ↓rD4, rU0, rU1, rU2, rU3, rU4, rU5, toNat_n, Int.reduceToNat, slA, ptrsA, boolsA, Int.reducePow, Nat.reducePow, Nat.reduceMul, Int.reduceLT, Int.reduceLE, resA, resL, res1, eq_self, wanted, evK, get, setO, one, faA, loadA, storeA, outA, lenA, isStr, binA, unA, bnd, ints, toDat, toDats, datss, fillA, splice, List.length_nil, List.flatten_nil, Nat.reduceAdd, Nat.reduceLeDiff, Nat.reduceBEq, Nat.reduceSub, if_true, ite_true, cond_true, cond_false, List.replicate, if_false, ite_false, reduceCtorEq]
        refine Cont.mk (named_c s _) ?_
        simp (disch := omega) only [nm_t h1, DC_w, DC_n, kill_0, Nat.sub_zero, ↓rD0, ↓rD1, ↓rD2, ↓rD3, ↓rD4, rU0, rU1, rU2, rU3, rU4, rU5, toNat_n, Int.reduceToNat, slA, ptrsA, boolsA, Int.reducePow, Nat.reducePow, Nat.reduceMul, Int.reduceLT, Int.reduceLE, resA, resL, res1, eq_self, wanted, evK, get, setO, one, faA, loadA, storeA, outA, lenA, isStr, binA, unA, bnd, ints, toDat, toDats, datss, fillA, splice, List.length_nil, List.flatten_nil, Nat.reduceAdd, Nat.reduceLeDiff, Nat.reduceBEq, Nat.reduceSub, if_true, ite_true, cond_true, cond_false, List.replicate, if_false, ite_false, reduceCtorEq]
        refine Cont.mk (depth_c h) ?_
        simp (disch := omega) only [DC_w, DC_n, kill_0, Nat.sub_zero, ↓rD0, ↓rD1, ↓rD2, ↓rD3, ↓rD4, rU0, rU1, rU2, rU3, rU4, rU5, toNat_n, Int.reduceToNat, slA, ptrsA, boolsA, Int.reducePow, Nat.reducePow, Nat.reduceMul, Int.reduceLT, Int.reduceLE, resA, resL, res1, eq_self, wanted, evK, get, setO, one, faA, loadA, storeA, outA, lenA, isStr, binA, unA, bnd, ints, toDat, toDats, datss, fillA, splice, List.length_nil, List.flatten_nil, Nat.reduceAdd, Nat.reduceLeDiff, Nat.reduceBEq, Nat.reduceSub, if_true, ite_true, cond_true, cond_false, List.replicate, if_false, ite_false, reduceCtorEq]
        refine W.pchain follows (by decide +kernel) ?_
        simp (disch := omega) only [hp, hmo, keyOf_k, hf, hgN, DC_w, DC_n, kill_0, Nat.sub_zero, ↓rD0, ↓rD1, ↓rD2, ↓rD3, ↓rD4, rU0, rU1, rU2, rU3, rU4, rU5, toNat_n, Int.reduceToNat, slA, ptrsA, boolsA, Int.reducePow, Nat.reducePow, Nat.reduceMul, Int.reduceLT, Int.reduceLE, resA, resL, res1, eq_self, wanted, evK, get, setO, one, faA, loadA, storeA, outA, lenA, isStr, binA, unA, bnd, ints, toDat, toDats, datss, fillA, splice, List.length_nil, List.flatten_nil, Nat.reduceAdd, Nat.reduceLeDiff, Nat.reduceBEq, Nat.reduceSub, if_true, ite_true, cond_true, cond_false, List.replicate, if_false, ite_false, reduceCtorEq]
        refine Cont.mk (here_c hx) ?_
        simp (disch := omega) only [q4, hq5, d1, d2, List.length_map, h3', e3, hpm, hLX, DC_w, DC_n, kill_0, Nat.sub_zero, ↓rD0, ↓rD1, ↓rD2, ↓rD3, ↓rD4, rU0, rU1, rU2, rU3, rU4, rU5, toNat_n, Int.reduceToNat, slA, ptrsA, boolsA, Int.reducePow, Nat.reducePow, Nat.reduceMul, Int.reduceLT, Int.reduceLE, resA, resL, res1, eq_self, wanted, evK, get, setO, one, faA, loadA, storeA, outA, lenA, isStr, binA, unA, bnd, ints, toDat, toDats, datss, fillA, splice, List.length_nil, List.flatten_nil, Nat.reduceAdd, Nat.reduceLeDiff, Nat.reduceBEq, Nat.reduceSub, if_true, ite_true, cond_true, cond_false, List.replicate, if_false, ite_false, reduceCtorEq]
        rw [← hK]
        refine W.dregD [([], []), ([], []), ([], []), ([], []), ([], []), ([], []), ([mb], [])] follows (by decide +kernel) rfl rfl (fun z hz => ?_) ?_
        · simp only [List.mem_cons, List.not_mem_nil, or_false] at hz
          rcases hz with rfl | rfl | rfl | rfl | rfl | rfl | rfl
          · exact fun b hb => by simp at hb
          · exact fun b hb => by simp at hb
          · exact fun b hb => by simp at hb
          · exact fun b hb => by simp at hb
          · exact fun b hb => by simp at hb
          · exact fun b hb => by simp at hb
          · exact fun b hb => by simp only [List.mem_singleton] at hb; subst hb; exact ⟨by simp, by rw [hM.fm]; simp⟩
        repeat (rw [DC_p]; simp (disch := omega) only [hM.fs, hM.fk, DC_w, DC_n, kill_0, Nat.sub_zero, ↓rD0, ↓rD1, ↓rD2, ↓rD3, ↓rD4, rU0, rU1, rU2, rU3, rU4, rU5, toNat_n, Int.reduceToNat, slA, ptrsA, boolsA, Int.reducePow, Nat.reducePow, Nat.reduceMul, Int.reduceLT, Int.reduceLE, resA, resL, res1, eq_self, wanted, evK, get, setO, one, faA, loadA, storeA, outA, lenA, isStr, binA, unA, bnd, ints, toDat, toDats, datss, fillA, splice, List.length_nil, List.flatten_nil, Nat.reduceAdd, Nat.reduceLeDiff, Nat.reduceBEq, Nat.reduceSub, if_true, ite_true, cond_true, cond_false, List.replicate, if_false, ite_false, reduceCtorEq])
        refine WStep.ev (fun _ _ e => by cases e) (fun _ _ e => by cases e) ?_
        simp (disch := omega) only [hM.fs, hM.fk, hM.fm, keyOf_k, hf, put_new hgN, ent_app, DC_w, DC_n, kill_0, Nat.sub_zero, ↓rD0, ↓rD1, ↓rD2, ↓rD3, ↓rD4, rU0, rU1, rU2, rU3, rU4, rU5, toNat_n, Int.reduceToNat, slA, ptrsA, boolsA, Int.reducePow, Nat.reducePow, Nat.reduceMul, Int.reduceLT, Int.reduceLE, resA, resL, res1, eq_self, wanted, evK, get, setO, one, faA, loadA, storeA, outA, lenA, isStr, binA, unA, bnd, ints, toDat, toDats, datss, fillA, splice, List.length_nil, List.flatten_nil, Nat.reduceAdd, Nat.reduceLeDiff, Nat.reduceBEq, Nat.reduceSub, if_true, ite_true, cond_true, cond_false, List.replicate, if_false, ite_false, reduceCtorEq]
        rw [← hK2]
        refine ⟨by rw [hK2]; exact FrOk.set (by simp), ?_⟩
        simp (disch := omega) only [k2lb, d1, d2, d3, d4, k3x, hb2, List.length_map, h3s, DC_w, DC_n, kill_0, Nat.sub_zero, ↓rD0, ↓rD1, ↓rD2, ↓rD3, ↓rD4, rU0, rU1, rU2, rU3, rU4, rU5, toNat_n, Int.reduceToNat, slA, ptrsA, boolsA, Int.reducePow, Nat.reducePow, Nat.reduceMul, Int.reduceLT, Int.reduceLE, resA, resL, res1, eq_self, wanted, evK, get, setO, one, faA, loadA, storeA, outA, lenA, isStr, binA, unA, bnd, ints, toDat, toDats, datss, fillA, splice, List.length_nil, List.flatten_nil, Nat.reduceAdd, Nat.reduceLeDiff, Nat.reduceBEq, Nat.reduceSub, if_true, ite_true, cond_true, cond_false, List.replicate, if_false, ite_false, reduceCtorEq]
        exact Ret.keep ⟨rfl, by rw [hK4, hK3, ← flat_sd]⟩
  | some y =>
    obtain ⟨mb, ck, E⟩ := y
    have e3 : r.mA = .mp mb := by simp only [Im.mA, hm]
    have hmB : r.mB = [mb] := by simp only [Im.mB, hm]
    have hE : r.E = E := by simp only [Im.E, hm]
    have hmb := h.m _ hm
    simp only at hmb
    obtain ⟨K, hK⟩ := eq_of_ex (H ++ [ABlk.cells [iv ((st.length : Int) - 1), sv s]])
    have hpm : ∀ l, (H ++ l)[sb]? = some (.cells [.mp mb, r.lA, r.f]) := fun l => by rw [← e3]; exact hp l
    have hmF : mb ∈ r.F sb := by simp [Im.F, hmB]
    have hM : Mid H K sb H.length mb ck r ((st.length : Int) - 1) s := by
      rw [hK]
      refine ⟨hpm _, by rw [hE]; exact hold hmb _, by rw [hg0]; rfl, fun b hb h1 _ => by rw [List.getElem?_append_left (hlt b hb)], by simp, ⟨fun e => a1 (by rw [hmB, e]; simp), .inl (by rw [hmB]; simp)⟩, ⟨Nat.le_refl _, fun e => by have := hlt mb hmF; omega⟩, fun b hb h1 => by rw [List.getElem?_append_left hb]⟩
    have hml := (List.getElem?_eq_some_iff.1 hM.fm).1
    obtain ⟨K2, hK2⟩ := eq_of_ex (K.set mb (.map kt (ck + 1) ((r.E ++ [En.mk ((st.length : Int) - 1) s n ck]).map En.e)))
    have k2l : K2.length = K.length := by rw [hK2]; simp
    have k2m : K2[mb]? = some (.map kt (ck + 1) ((r.E ++ [En.mk ((st.length : Int) - 1) s n ck]).map En.e)) := by rw [hK2]; exact getset_eq hml
    have k2o : ∀ c, c ≠ mb → K2[c]? = K[c]? := fun c hc => by rw [hK2]; exact getset_ne (Ne.symm hc)
    have k2s : K2[sb]? = some (.cells [.mp mb, r.lA, r.f]) := by rw [k2o sb (Ne.symm hM.fmb.1), hM.fs]
    have hKl := hM.len
    have hLA := Mid.lA h hM
    rcases hrow with ⟨hxe, hn0⟩ | ⟨b, hxe, hb⟩
    · have hne0 : (lastL st).map (·.1) ++ [s] = [s] := by rw [hn0]; rfl
      have hl0 : (lastL st).length = 0 := by rw [← hnl, hn0]; rfl
      obtain ⟨K3, hK3⟩ := eq_of_ex (K2 ++ [ABlk.row 9 1 1])
      obtain ⟨b, hbe⟩ := eq_of_ex K2.length
      have k3b : K3[b]? = some (.row 9 1 ((lastL st).length + 1)) := by rw [hK3, hbe, hg0, hl0]; rfl
      have k3o : ∀ c, c < K.length → c ≠ b → K3[c]? = K2[c]? := fun c hc _ => by rw [hK3, List.getElem?_append_left (by omega)]
      have k3l : K.length ≤ K3.length := by rw [hK3]; simp; omega
      have hb' : b ∈ rowB x ∨ K.length ≤ b := .inr (by omega)
      have hLX : lenA AV.esl = some 0 := rfl
      have hbsb : b ≠ sb := fun e => by
        rcases hb' with h' | h'
        · exact a4 (by rw [← e]; exact h')
        · omega
      have hbmb : b ≠ mb := fun e => by
        rcases hb' with h' | h'
        · rcases hM.fmb.2 with h'' | h''
          · exact (a5 mb h'').2.2 (by rw [← e]; exact h')
          · have := hlt b (by rw [hF]; simp only [List.mem_append, List.mem_cons]; exact .inr (.inr (.inr (.inr h')))); omega
        · omega
      rcases hat with ⟨q1, q2, q3, q4⟩ | ⟨lb, cap, j, i', q1, q2, q3, q4, q5⟩
      · obtain ⟨K4, hK4⟩ := eq_of_ex (K3.set sb (ABlk.cells [.mp mb, r.lA, .gsl b 1 (((lastL st).map (·.1) ++ [s]).map sd)]))
        have hfin : ∃ r', ImAt K4 sb r' (declS st s n) ∧ Chg H (r.F sb) K4 (r'.F sb) := by
          refine Mid.fin h hM h1 h2 h3 hr (f' := .gsl b 1 (((lastL st).map (·.1) ++ [s]).map sd)) (rs' := []) (by rw [q2]; rfl) hb' (by rw [hK4]; simpa using k3l) (by rw [hK4]; exact getset_eq (by omega)) ?_ ?_ (fun y hy => ?_) (fun c hc1 hc2 hc3 hc4 hc5 => ?_)
          · rw [hK4, getset_ne (Ne.symm hM.fmb.1), k3o mb hml (Ne.symm hbmb), k2m]
          · rw [hK4, getset_ne (Ne.symm hbsb), k3b]
          · have hyl : y.1 ∈ r.lB := by simp [Im.lB, hy]
            have hyF : y.1 ∈ r.F sb := by rw [hF]; simp only [List.mem_append, List.mem_cons]; exact .inr (.inr (.inl hyl))
            rw [hK4, getset_ne (a := sb) (b := y.1) (fun e => a2 (by rw [e]; exact hyl)), k3o y.1 (by have := hlt y.1 hyF; omega) (fun e => ?_), k2o y.1 (fun e => ?_), hLA y hy, q4]
            · rcases hM.fmb.2 with h' | h'
              · exact (a5 mb h').1 (by rw [← e]; exact hyl)
              · have := hlt y.1 hyF; omega
            · rcases hb' with h' | h'
              · exact (a6 y.1 hyl).2 (by rw [e]; exact h')
              · have := hlt y.1 hyF; omega
          · rw [hK4, getset_ne (Ne.symm hc2), k3o c hc1 hc5, k2o c hc3]
        have k3s : K3[sb]? = some (.cells [.mp mb, r.lA, r.f]) := by rw [k3o sb (by omega) (Ne.symm hbsb), k2s]
        have hxs := q3.symm.trans hxe
        rw [hxs] at hp hpm k2s k3s
        try rw [hxs] at hK
        have k3x := k3s
        rw [hK3] at k3x
        obtain ⟨r', f1, f2⟩ := hfin
        refine ⟨_, r', ?_, f1, f2⟩
        refine ACalls.into Try.func9 cc9 rr9 fun hcl => ?_
        simp (disch := omega) only [Try.ntmps9, c9, r9, DC_w, DC_n, kill_0, Nat.sub_zero, ↓rD0, ↓rD1, ↓rD2, ↓rD3, ↓rD4, rU0, rU1, rU2, rU3, rU4, rU5, toNat_n, Int.reduceToNat, slA, ptrsA, boolsA, Int.reducePow, Nat.reducePow, Nat.reduceMul, Int.reduceLT, Int.reduceLE, resA, resL, res1, eq_self, wanted, evK, get, setO, one, faA, loadA, storeA, outA, lenA, isStr, binA, unA, bnd, ints, toDat, toDats, datss, fillA, splice, List.length_nil, List.flatten_nil, Nat.reduceAdd, Nat.reduceLeDiff, Nat.reduceBEq, Nat.reduceSub, if_true, ite_true, cond_true, cond_false, List.replicate, if_false, ite_false, reduceCtorEq]
        refine Cont.mk (named_c s _) ?_
        simp (disch := omega) only [nm_t h1, DC_w, DC_n, kill_0, Nat.sub_zero, ↓rD0, ↓rD1, ↓rD2, ↓rD3, ↓rD4, rU0, rU1, rU2, rU3, rU4, rU5, toNat_n, Int.reduceToNat, slA, ptrsA, boolsA, Int.reducePow, Nat.reducePow, Nat.reduceMul, Int.reduceLT, Int.reduceLE, resA, resL, res1, eq_self, wanted, evK, get, setO, one, faA, loadA, storeA, outA, lenA, isStr, binA, unA, bnd, ints, toDat, toDats, datss, fillA, splice, List.length_nil, List.flatten_nil, Nat.reduceAdd, Nat.reduceLeDiff, Nat.reduceBEq, Nat.reduceSub, if_true, ite_true, cond_true, cond_false, List.replicate, if_false, ite_false, reduceCtorEq]
        refine Cont.mk (depth_c h) ?_
        simp (disch := omega) only [DC_w, DC_n, kill_0, Nat.sub_zero, ↓rD0, ↓rD1, ↓rD2, ↓rD3, ↓rD4, rU0, rU1, rU2, rU3, rU4, rU5, toNat_n, Int.reduceToNat, slA, ptrsA, boolsA, Int.reducePow, Nat.reducePow, Nat.reduceMul, Int.reduceLT, Int.reduceLE, resA, resL, res1, eq_self, wanted, evK, get, setO, one, faA, loadA, storeA, outA, lenA, isStr, binA, unA, bnd, ints, toDat, toDats, datss, fillA, splice, List.length_nil, List.flatten_nil, Nat.reduceAdd, Nat.reduceLeDiff, Nat.reduceBEq, Nat.reduceSub, if_true, ite_true, cond_true, cond_false, List.replicate, if_false, ite_false, reduceCtorEq]
        refine W.pchain follows (by decide +kernel) ?_
        simp (disch := omega) only [hp, hmo, keyOf_k, hf, hgN, DC_w, DC_n, kill_0, Nat.sub_zero, ↓rD0, ↓rD1, ↓rD2, ↓rD3, ↓rD4, rU0, rU1, rU2, rU3, rU4, rU5, toNat_n, Int.reduceToNat, slA, ptrsA, boolsA, Int.reducePow, Nat.reducePow, Nat.reduceMul, Int.reduceLT, Int.reduceLE, resA, resL, res1, eq_self, wanted, evK, get, setO, one, faA, loadA, storeA, outA, lenA, isStr, binA, unA, bnd, ints, toDat, toDats, datss, fillA, splice, List.length_nil, List.flatten_nil, Nat.reduceAdd, Nat.reduceLeDiff, Nat.reduceBEq, Nat.reduceSub, if_true, ite_true, cond_true, cond_false, List.replicate, if_false, ite_false, reduceCtorEq]
        refine Cont.mk (here_c hx) ?_
        simp (disch := omega) only [q1, hp, List.length_map, h3', e3, hpm, hLX, DC_w, DC_n, kill_0, Nat.sub_zero, ↓rD0, ↓rD1, ↓rD2, ↓rD3, ↓rD4, rU0, rU1, rU2, rU3, rU4, rU5, toNat_n, Int.reduceToNat, slA, ptrsA, boolsA, Int.reducePow, Nat.reducePow, Nat.reduceMul, Int.reduceLT, Int.reduceLE, resA, resL, res1, eq_self, wanted, evK, get, setO, one, faA, loadA, storeA, outA, lenA, isStr, binA, unA, bnd, ints, toDat, toDats, datss, fillA, splice, List.length_nil, List.flatten_nil, Nat.reduceAdd, Nat.reduceLeDiff, Nat.reduceBEq, Nat.reduceSub, if_true, ite_true, cond_true, cond_false, List.replicate, if_false, ite_false, reduceCtorEq]
        rw [← hK]
        refine W.dregD [([], []), ([], []), ([], []), ([], []), ([], []), ([], []), ([mb], [])] follows (by decide +kernel) rfl rfl (fun z hz => ?_) ?_
        · simp only [List.mem_cons, List.not_mem_nil, or_false] at hz
          rcases hz with rfl | rfl | rfl | rfl | rfl | rfl | rfl
          · exact fun b hb => by simp at hb
          · exact fun b hb => by simp at hb
          · exact fun b hb => by simp at hb
          · exact fun b hb => by simp at hb
          · exact fun b hb => by simp at hb
          · exact fun b hb => by simp at hb
          · exact fun b hb => by simp only [List.mem_singleton] at hb; subst hb; exact ⟨by simp, by rw [hM.fm]; simp⟩
        repeat (rw [DC_p]; simp (disch := omega) only [hM.fs, hM.fk, DC_w, DC_n, kill_0, Nat.sub_zero, ↓rD0, ↓rD1, ↓rD2, ↓rD3, ↓rD4, rU0, rU1, rU2, rU3, rU4, rU5, toNat_n, Int.reduceToNat, slA, ptrsA, boolsA, Int.reducePow, Nat.reducePow, Nat.reduceMul, Int.reduceLT, Int.reduceLE, resA, resL, res1, eq_self, wanted, evK, get, setO, one, faA, loadA, storeA, outA, lenA, isStr, binA, unA, bnd, ints, toDat, toDats, datss, fillA, splice, List.length_nil, List.flatten_nil, Nat.reduceAdd, Nat.reduceLeDiff, Nat.reduceBEq, Nat.reduceSub, if_true, ite_true, cond_true, cond_false, List.replicate, if_false, ite_false, reduceCtorEq])
        refine WStep.ev (fun _ _ e => by cases e) (fun _ _ e => by cases e) ?_
        simp (disch := omega) only [hM.fs, hM.fk, hM.fm, keyOf_k, hf, put_new hgN, ent_app, DC_w, DC_n, kill_0, Nat.sub_zero, ↓rD0, ↓rD1, ↓rD2, ↓rD3, ↓rD4, rU0, rU1, rU2, rU3, rU4, rU5, toNat_n, Int.reduceToNat, slA, ptrsA, boolsA, Int.reducePow, Nat.reducePow, Nat.reduceMul, Int.reduceLT, Int.reduceLE, resA, resL, res1, eq_self, wanted, evK, get, setO, one, faA, loadA, storeA, outA, lenA, isStr, binA, unA, bnd, ints, toDat, toDats, datss, fillA, splice, List.length_nil, List.flatten_nil, Nat.reduceAdd, Nat.reduceLeDiff, Nat.reduceBEq, Nat.reduceSub, if_true, ite_true, cond_true, cond_false, List.replicate, if_false, ite_false, reduceCtorEq]
        rw [← hK2]
        refine ⟨by rw [hK2]; exact FrOk.set (by simp), ?_⟩
        simp (disch := omega) only [k2s, k3x, hne0, DC_w, DC_n, kill_0, Nat.sub_zero, ↓rD0, ↓rD1, ↓rD2, ↓rD3, ↓rD4, rU0, rU1, rU2, rU3, rU4, rU5, toNat_n, Int.reduceToNat, slA, ptrsA, boolsA, Int.reducePow, Nat.reducePow, Nat.reduceMul, Int.reduceLT, Int.reduceLE, resA, resL, res1, eq_self, wanted, evK, get, setO, one, faA, loadA, storeA, outA, lenA, isStr, binA, unA, bnd, ints, toDat, toDats, datss, fillA, splice, List.length_nil, List.flatten_nil, Nat.reduceAdd, Nat.reduceLeDiff, Nat.reduceBEq, Nat.reduceSub, if_true, ite_true, cond_true, cond_false, List.replicate, if_false, ite_false, reduceCtorEq]
        exact Ret.keep ⟨rfl, by rw [hK4, hK3, hbe, hne0]; rfl⟩
      · obtain ⟨K4, hK4⟩ := eq_of_ex (K3.set lb (ABlk.cells (i' ++ .gsl b 1 (((lastL st).map (·.1) ++ [s]).map sd) :: j)))
        have hll2 : lb ∈ r.lB := by simp [Im.lB, q1]
        have hlF : lb ∈ r.F sb := by rw [hF]; simp only [List.mem_append, List.mem_cons]; exact .inr (.inr (.inl hll2))
        have hlsb : lb ≠ sb := fun e => a2 (by rw [← e]; exact hll2)
        have hlmb : lb ≠ mb := fun e => by
          rcases hM.fmb.2 with h' | h'
          · exact (a5 mb h').1 (by rw [← e]; exact hll2)
          · have := hlt lb hlF; omega
        have hlb : lb ≠ b := fun e => by
          rcases hb' with h' | h'
          · exact (a6 lb hll2).2 (by rw [e]; exact h')
          · have := hlt lb hlF; omega
        have hlK : K[lb]? = some (.cells (i' ++ x :: j)) := by rw [hLA _ q1, q3]; simp
        have k2lb : K2[lb]? = some (.cells (i' ++ x :: j)) := by rw [k2o lb hlmb, hlK]
        have k3lb : K3[lb]? = some (.cells (i' ++ x :: j)) := by rw [k3o lb (by have := hlt lb hlF; omega) hlb, k2lb]
        have hfin : ∃ r', ImAt K4 sb r' (declS st s n) ∧ Chg H (r.F sb) K4 (r'.F sb) := by
          refine Mid.fin h hM h1 h2 h3 hr (f' := r.f) (rs' := i' ++ [.gsl b 1 (((lastL st).map (·.1) ++ [s]).map sd)]) (by rw [q2]; rfl) hb' (by rw [hK4]; simpa using k3l) (by rw [hK4, getset_ne hlsb, k3o sb (by omega) (Ne.symm hbsb), k2s]) ?_ ?_ (fun y hy => ?_) (fun c hc1 hc2 hc3 hc4 hc5 => ?_)
          · rw [hK4, getset_ne hlmb, k3o mb hml (Ne.symm hbmb), k2m]
          · rw [hK4, getset_ne hlb, k3b]
          · rw [q1] at hy; cases hy
            rw [hK4, getset_eq (by have := hlt lb hlF; omega)]; simp
          · rw [hK4, getset_ne (a := lb) (b := c) (fun e => hc4 (by rw [← e]; exact hll2)), k3o c hc1 hc5, k2o c hc3]
        have hq5 : ∀ l, (H ++ l)[lb]? = some (.cells (i' ++ x :: j)) := fun l => hold q5 l
        have d1 : ((i' ++ x :: j).drop i'.length).take 1 = [x] := by simp
        have d2 : i'.length + 1 ≤ (i' ++ x :: j).length := by simp
        have d3 : (i' ++ x :: j).take i'.length = i' := by simp
        have d4 : (i' ++ x :: j).drop (i'.length + 1) = j := by simp
        rw [hxe] at hq5 d1 d2 d3 d4 k2lb k3lb
        have k3x := k3lb
        rw [hK3] at k3x
        obtain ⟨r', f1, f2⟩ := hfin
        refine ⟨_, r', ?_, f1, f2⟩
        refine ACalls.into Try.func9 cc9 rr9 fun hcl => ?_
        simp (disch := omega) only [Try.ntmps9, c9, r9, DC_w, DC_n, kill_0, Nat.sub_zero, ↓rD0, ↓rD1, ↓rD2, ↓rD3, ↓rD4, rU0, rU1, rU2, rU3, rU4, rU5, toNat_n, Int.reduceToNat, slA, ptrsA, boolsA, Int.reducePow, Nat.reducePow, Nat.reduceMul, Int.reduceLT, Int.reduceLE, resA, resL, res1, eq_self, wanted, evK, get, setO, one, faA, loadA, storeA, outA, lenA, isStr, binA, unA, bnd, ints, toDat, toDats, datss, fillA, splice, List.length_nil, List.flatten_nil, Nat.reduceAdd, Nat.reduceLeDiff, Nat.reduceBEq, Nat.reduceSub, if_true, ite_true, cond_true, cond_false, List.replicate, if_false, ite_false, reduceCtorEq]
        refine Cont.mk (named_c s _) ?_
        simp (disch := omega) only [nm_t h1, DC_w, DC_n, kill_0, Nat.sub_zero, ↓rD0, ↓rD1, ↓rD2, ↓rD3, ↓rD4, rU0, rU1, rU2, rU3, rU4, rU5, toNat_n, Int.reduceToNat, slA, ptrsA, boolsA, Int.reducePow, Nat.reducePow, Nat.reduceMul, Int.reduceLT, Int.reduceLE, resA, resL, res1, eq_self, wanted, evK, get, setO, one, faA, loadA, storeA, outA, lenA, isStr, binA, unA, bnd, ints, toDat, toDats, datss, fillA, splice, List.length_nil, List.flatten_nil, Nat.reduceAdd, Nat.reduceLeDiff, Nat.reduceBEq, Nat.reduceSub, if_true, ite_true, cond_true, cond_false, List.replicate, if_false, ite_false, reduceCtorEq]
        refine Cont.mk (depth_c h) ?_
        simp (disch := omega) only [DC_w, DC_n, kill_0, Nat.sub_zero, ↓rD0, ↓rD1, ↓rD2, ↓rD3, ↓rD4, rU0, rU1, rU2, rU3, rU4, rU5, toNat_n, Int.reduceToNat, slA, ptrsA, boolsA, Int.reducePow, Nat.reducePow, Nat.reduceMul, Int.reduceLT, Int.reduceLE, resA, resL, res1, eq_self, wanted, evK, get, setO, one, faA, loadA, storeA, outA, lenA, isStr, binA, unA, bnd, ints, toDat, toDats, datss, fillA, splice, List.length_nil, List.flatten_nil, Nat.reduceAdd, Nat.reduceLeDiff, Nat.reduceBEq, Nat.reduceSub, if_true, ite_true, cond_true, cond_false, List.replicate, if_false, ite_false, reduceCtorEq]
        refine W.pchain follows (by decide +kernel) ?_
        simp (disch := omega) only [hp, hmo, keyOf_k, hf, hgN, DC_w, DC_n, kill_0, Nat.sub_zero, ↓rD0, ↓rD1, ↓rD2, ↓rD3, ↓rD4, rU0, rU1, rU2, rU3, rU4, rU5, toNat_n, Int.reduceToNat, slA, ptrsA, boolsA, Int.reducePow, Nat.reducePow, Nat.reduceMul, Int.reduceLT, Int.reduceLE, resA, resL, res1, eq_self, wanted, evK, get, setO, one, faA, loadA, storeA, outA, lenA, isStr, binA, unA, bnd, ints, toDat, toDats, datss, fillA, splice, List.length_nil, List.flatten_nil, Nat.reduceAdd, Nat.reduceLeDiff, Nat.reduceBEq, Nat.reduceSub, if_true, ite_true, cond_true, cond_false, List.replicate, if_false, ite_false, reduceCtorEq]
        refine Cont.mk (here_c hx) ?_
        simp (disch := omega) only [q4, hq5, d1, d2, List.length_map, h3', e3, hpm, hLX, DC_w, DC_n, kill_0, Nat.sub_zero, ↓rD0, ↓rD1, ↓rD2, ↓rD3, ↓rD4, rU0, rU1, rU2, rU3, rU4, rU5, toNat_n, Int.reduceToNat, slA, ptrsA, boolsA, Int.reducePow, Nat.reducePow, Nat.reduceMul, Int.reduceLT, Int.reduceLE, resA, resL, res1, eq_self, wanted, evK, get, setO, one, faA, loadA, storeA, outA, lenA, isStr, binA, unA, bnd, ints, toDat, toDats, datss, fillA, splice, List.length_nil, List.flatten_nil, Nat.reduceAdd, Nat.reduceLeDiff, Nat.reduceBEq, Nat.reduceSub, if_true, ite_true, cond_true, cond_false, List.replicate, if_false, ite_false, reduceCtorEq]
        rw [← hK]
        refine W.dregD [([], []), ([], []), ([], []), ([], []), ([], []), ([], []), ([mb], [])] follows (by decide +kernel) rfl rfl (fun z hz => ?_) ?_
        · simp only [List.mem_cons, List.not_mem_nil, or_false] at hz
          rcases hz with rfl | rfl | rfl | rfl | rfl | rfl | rfl
          · exact fun b hb => by simp at hb
          · exact fun b hb => by simp at hb
          · exact fun b hb => by simp at hb
          · exact fun b hb => by simp at hb
          · exact fun b hb => by simp at hb
          · exact fun b hb => by simp at hb
          · exact fun b hb => by simp only [List.mem_singleton] at hb; subst hb; exact ⟨by simp, by rw [hM.fm]; simp⟩
        repeat (rw [DC_p]; simp (disch := omega) only [hM.fs, hM.fk, DC_w, DC_n, kill_0, Nat.sub_zero, ↓rD0, ↓rD1, ↓rD2, ↓rD3, ↓rD4, rU0, rU1, rU2, rU3, rU4, rU5, toNat_n, Int.reduceToNat, slA, ptrsA, boolsA, Int.reducePow, Nat.reducePow, Nat.reduceMul, Int.reduceLT, Int.reduceLE, resA, resL, res1, eq_self, wanted, evK, get, setO, one, faA, loadA, storeA, outA, lenA, isStr, binA, unA, bnd, ints, toDat, toDats, datss, fillA, splice, List.length_nil, List.flatten_nil, Nat.reduceAdd, Nat.reduceLeDiff, Nat.reduceBEq, Nat.reduceSub, if_true, ite_true, cond_true, cond_false, List.replicate, if_false, ite_false, reduceCtorEq])
        refine WStep.ev (fun _ _ e => by cases e) (fun _ _ e => by cases e) ?_
        simp (disch := omega) only [hM.fs, hM.fk, hM.fm, keyOf_k, hf, put_new hgN, ent_app, DC_w, DC_n, kill_0, Nat.sub_zero, ↓rD0, ↓rD1, ↓rD2, ↓rD3, ↓rD4, rU0, rU1, rU2, rU3, rU4, rU5, toNat_n, Int.reduceToNat, slA, ptrsA, boolsA, Int.reducePow, Nat.reducePow, Nat.reduceMul, Int.reduceLT, Int.reduceLE, resA, resL, res1, eq_self, wanted, evK, get, setO, one, faA, loadA, storeA, outA, lenA, isStr, binA, unA, bnd, ints, toDat, toDats, datss, fillA, splice, List.length_nil, List.flatten_nil, Nat.reduceAdd, Nat.reduceLeDiff, Nat.reduceBEq, Nat.reduceSub, if_true, ite_true, cond_true, cond_false, List.replicate, if_false, ite_false, reduceCtorEq]
        rw [← hK2]
        refine ⟨by rw [hK2]; exact FrOk.set (by simp), ?_⟩
        simp (disch := omega) only [k2lb, d1, d2, d3, d4, k3x, hne0, DC_w, DC_n, kill_0, Nat.sub_zero, ↓rD0, ↓rD1, ↓rD2, ↓rD3, ↓rD4, rU0, rU1, rU2, rU3, rU4, rU5, toNat_n, Int.reduceToNat, slA, ptrsA, boolsA, Int.reducePow, Nat.reducePow, Nat.reduceMul, Int.reduceLT, Int.reduceLE, resA, resL, res1, eq_self, wanted, evK, get, setO, one, faA, loadA, storeA, outA, lenA, isStr, binA, unA, bnd, ints, toDat, toDats, datss, fillA, splice, List.length_nil, List.flatten_nil, Nat.reduceAdd, Nat.reduceLeDiff, Nat.reduceBEq, Nat.reduceSub, if_true, ite_true, cond_true, cond_false, List.replicate, if_false, ite_false, reduceCtorEq]
        exact Ret.keep ⟨rfl, by rw [hK4, hK3, hbe, hne0]; rfl⟩
    · have hLX : lenA AV.esl = some 0 := rfl
      have hbx : b ∈ rowB x := by rw [hxe]; simp [rowB]
      have hbF : b ∈ r.F sb := by rw [hF]; simp only [List.mem_append, List.mem_cons]; exact .inr (.inr (.inr (.inr hbx)))
      have hbl := hlt b hbF
      have hbs : b ≠ sb := fun e => a4 (by rw [← e]; exact hbx)
      have hbm : b ≠ mb := fun e => by
        rcases hM.fmb.2 with h' | h'
        · exact (a5 mb h').2.2 (by rw [← e]; exact hbx)
        · omega
      have hbmB : b ∉ r.mB := fun e => (a5 b e).2.2 hbx
      have hb2 : K2[b]? = some (.row 9 1 (lastL st).length) := by rw [k2o b hbm, hM.fo b hbF hbs hbmB, hb, hnl]
      obtain ⟨K3, hK3⟩ := eq_of_ex (K2.set b (ABlk.row 9 1 ((lastL st).length + 1)))
      have k3b : K3[b]? = some (.row 9 1 ((lastL st).length + 1)) := by rw [hK3]; exact getset_eq (by omega)
      have k3o : ∀ c, c < K.length → c ≠ b → K3[c]? = K2[c]? := fun c hc hb => by rw [hK3]; exact getset_ne (Ne.symm hb)
      have k3l : K.length ≤ K3.length := by rw [hK3]; simp; omega
      have hb' : b ∈ rowB x ∨ K.length ≤ b := .inl hbx
      have h3s : ((lastL st).length + 1) * 16 ≤ 140737488355328 := by omega
      have hbsb : b ≠ sb := fun e => by
        rcases hb' with h' | h'
        · exact a4 (by rw [← e]; exact h')
        · omega
      have hbmb : b ≠ mb := fun e => by
        rcases hb' with h' | h'
        · rcases hM.fmb.2 with h'' | h''
          · exact (a5 mb h'').2.2 (by rw [← e]; exact h')
          · have := hlt b (by rw [hF]; simp only [List.mem_append, List.mem_cons]; exact .inr (.inr (.inr (.inr h')))); omega
        · omega
      rcases hat with ⟨q1, q2, q3, q4⟩ | ⟨lb, cap, j, i', q1, q2, q3, q4, q5⟩
      · obtain ⟨K4, hK4⟩ := eq_of_ex (K3.set sb (ABlk.cells [.mp mb, r.lA, .gsl b 1 (((lastL st).map (·.1) ++ [s]).map sd)]))
        have hfin : ∃ r', ImAt K4 sb r' (declS st s n) ∧ Chg H (r.F sb) K4 (r'.F sb) := by
          refine Mid.fin h hM h1 h2 h3 hr (f' := .gsl b 1 (((lastL st).map (·.1) ++ [s]).map sd)) (rs' := []) (by rw [q2]; rfl) hb' (by rw [hK4]; simpa using k3l) (by rw [hK4]; exact getset_eq (by omega)) ?_ ?_ (fun y hy => ?_) (fun c hc1 hc2 hc3 hc4 hc5 => ?_)
          · rw [hK4, getset_ne (Ne.symm hM.fmb.1), k3o mb hml (Ne.symm hbmb), k2m]
          · rw [hK4, getset_ne (Ne.symm hbsb), k3b]
          · have hyl : y.1 ∈ r.lB := by simp [Im.lB, hy]
            have hyF : y.1 ∈ r.F sb := by rw [hF]; simp only [List.mem_append, List.mem_cons]; exact .inr (.inr (.inl hyl))
            rw [hK4, getset_ne (a := sb) (b := y.1) (fun e => a2 (by rw [e]; exact hyl)), k3o y.1 (by have := hlt y.1 hyF; omega) (fun e => ?_), k2o y.1 (fun e => ?_), hLA y hy, q4]
            · rcases hM.fmb.2 with h' | h'
              · exact (a5 mb h').1 (by rw [← e]; exact hyl)
              · have := hlt y.1 hyF; omega
            · rcases hb' with h' | h'
              · exact (a6 y.1 hyl).2 (by rw [e]; exact h')
              · have := hlt y.1 hyF; omega
          · rw [hK4, getset_ne (Ne.symm hc2), k3o c hc1 hc5, k2o c hc3]
        have k3s : K3[sb]? = some (.cells [.mp mb, r.lA, r.f]) := by rw [k3o sb (by omega) (Ne.symm hbsb), k2s]
        have hxs := q3.symm.trans hxe
        rw [hxs] at hp hpm k2s k3s
        try rw [hxs] at hK
        have k3x := k3s
        rw [hK3] at k3x
        obtain ⟨r', f1, f2⟩ := hfin
        refine ⟨_, r', ?_, f1, f2⟩
        refine ACalls.into Try.func9 cc9 rr9 fun hcl => ?_
        simp (disch := omega) only [Try.ntmps9, c9, r9, DC_w, DC_n, kill_0, Nat.sub_zero, ↓rD0, ↓rD1, ↓rD2, ↓rD3, ↓rD4, rU0, rU1, rU2, rU3, rU4, rU5, toNat_n, Int.reduceToNat, slA, ptrsA, boolsA, Int.reducePow, Nat.reducePow, Nat.reduceMul, Int.reduceLT, Int.reduceLE, resA, resL, res1, eq_self, wanted, evK, get, setO, one, faA, loadA, storeA, outA, lenA, isStr, binA, unA, bnd, ints, toDat, toDats, datss, fillA, splice, List.length_nil, List.flatten_nil, Nat.reduceAdd, Nat.reduceLeDiff, Nat.reduceBEq, Nat.reduceSub, if_true, ite_true, cond_true, cond_false, List.replicate, if_false, ite_false, reduceCtorEq]
        refine Cont.mk (named_c s _) ?_
        simp (disch := omega) only [nm_t h1, DC_w, DC_n, kill_0, Nat.sub_zero, ↓rD0, ↓rD1, ↓rD2, ↓rD3, ↓rD4, rU0, rU1, rU2, rU3, rU4, rU5, toNat_n, Int.reduceToNat, slA, ptrsA, boolsA, Int.reducePow, Nat.reducePow, Nat.reduceMul, Int.reduceLT, Int.reduceLE, resA, resL, res1, eq_self, wanted, evK, get, setO, one, faA, loadA, storeA, outA, lenA, isStr, binA, unA, bnd, ints, toDat, toDats, datss, fillA, splice, List.length_nil, List.flatten_nil, Nat.reduceAdd, Nat.reduceLeDiff, Nat.reduceBEq, Nat.reduceSub, if_true, ite_true, cond_true, cond_false, List.replicate, if_false, ite_false, reduceCtorEq]
        refine Cont.mk (depth_c h) ?_
        simp (disch := omega) only [DC_w, DC_n, kill_0, Nat.sub_zero, ↓rD0, ↓rD1, ↓rD2, ↓rD3, ↓rD4, rU0, rU1, rU2, rU3, rU4, rU5, toNat_n, Int.reduceToNat, slA, ptrsA, boolsA, Int.reducePow, Nat.reducePow, Nat.reduceMul, Int.reduceLT, Int.reduceLE, resA, resL, res1, eq_self, wanted, evK, get, setO, one, faA, loadA, storeA, outA, lenA, isStr, binA, unA, bnd, ints, toDat, toDats, datss, fillA, splice, List.length_nil, List.flatten_nil, Nat.reduceAdd, Nat.reduceLeDiff, Nat.reduceBEq, Nat.reduceSub, if_true, ite_true, cond_true, cond_false, List.replicate, if_false, ite_false, reduceCtorEq]
        refine W.pchain follows (by decide +kernel) ?_
        simp (disch := omega) only [hp, hmo, keyOf_k, hf, hgN, DC_w, DC_n, kill_0, Nat.sub_zero, ↓rD0, ↓rD1, ↓rD2, ↓rD3, ↓rD4, rU0, rU1, rU2, rU3, rU4, rU5, toNat_n, Int.reduceToNat, slA, ptrsA, boolsA, Int.reducePow, Nat.reducePow, Nat.reduceMul, Int.reduceLT, Int.reduceLE, resA, resL, res1, eq_self, wanted, evK, get, setO, one, faA, loadA, storeA, outA, lenA, isStr, binA, unA, bnd, ints, toDat, toDats, datss, fillA, splice, List.length_nil, List.flatten_nil, Nat.reduceAdd, Nat.reduceLeDiff, Nat.reduceBEq, Nat.reduceSub, if_true, ite_true, cond_true, cond_false, List.replicate, if_false, ite_false, reduceCtorEq]
        refine Cont.mk (here_c hx) ?_
        simp (disch := omega) only [q1, hp, List.length_map, h3', e3, hpm, hLX, DC_w, DC_n, kill_0, Nat.sub_zero, ↓rD0, ↓rD1, ↓rD2, ↓rD3, ↓rD4, rU0, rU1, rU2, rU3, rU4, rU5, toNat_n, Int.reduceToNat, slA, ptrsA, boolsA, Int.reducePow, Nat.reducePow, Nat.reduceMul, Int.reduceLT, Int.reduceLE, resA, resL, res1, eq_self, wanted, evK, get, setO, one, faA, loadA, storeA, outA, lenA, isStr, binA, unA, bnd, ints, toDat, toDats, datss, fillA, splice, List.length_nil, List.flatten_nil, Nat.reduceAdd, Nat.reduceLeDiff, Nat.reduceBEq, Nat.reduceSub, if_true, ite_true, cond_true, cond_false, List.replicate, if_false, ite_false, reduceCtorEq]
        rw [← hK]
        refine W.dregD [([], []), ([], []), ([], []), ([], []), ([], []), ([], []), ([mb], [])] follows (by decide +kernel) rfl rfl (fun z hz => ?_) ?_
        · simp only [List.mem_cons, List.not_mem_nil, or_false] at hz
          rcases hz with rfl | rfl | rfl | rfl | rfl | rfl | rfl
          · exact fun b hb => by simp at hb
          · exact fun b hb => by simp at hb
          · exact fun b hb => by simp at hb
          · exact fun b hb => by simp at hb
          · exact fun b hb => by simp at hb
          · exact fun b hb => by simp at hb
          · exact fun b hb => by simp only [List.mem_singleton] at hb; subst hb; exact ⟨by simp, by rw [hM.fm]; simp⟩
        repeat (rw [DC_p]; simp (disch := omega) only [hM.fs, hM.fk, DC_w, DC_n, kill_0, Nat.sub_zero, ↓rD0, ↓rD1, ↓rD2, ↓rD3, ↓rD4, rU0, rU1, rU2, rU3, rU4, rU5, toNat_n, Int.reduceToNat, slA, ptrsA, boolsA, Int.reducePow, Nat.reducePow, Nat.reduceMul, Int.reduceLT, Int.reduceLE, resA, resL, res1, eq_self, wanted, evK, get, setO, one, faA, loadA, storeA, outA, lenA, isStr, binA, unA, bnd, ints, toDat, toDats, datss, fillA, splice, List.length_nil, List.flatten_nil, Nat.reduceAdd, Nat.reduceLeDiff, Nat.reduceBEq, Nat.reduceSub, if_true, ite_true, cond_true, cond_false, List.replicate, if_false, ite_false, reduceCtorEq])
        refine WStep.ev (fun _ _ e => by cases e) (fun _ _ e => by cases e) ?_
        simp (disch := omega) only [hM.fs, hM.fk, hM.fm, keyOf_k, hf, put_new hgN, ent_app, DC_w, DC_n, kill_0, Nat.sub_zero, ↓rD0, ↓rD1, ↓rD2, ↓rD3, ↓rD4, rU0, rU1, rU2, rU3, rU4, rU5, toNat_n, Int.reduceToNat, slA, ptrsA, boolsA, Int.reducePow, Nat.reducePow, Nat.reduceMul, Int.reduceLT, Int.reduceLE, resA, resL, res1, eq_self, wanted, evK, get, setO, one, faA, loadA, storeA, outA, lenA, isStr, binA, unA, bnd, ints, toDat, toDats, datss, fillA, splice, List.length_nil, List.flatten_nil, Nat.reduceAdd, Nat.reduceLeDiff, Nat.reduceBEq, Nat.reduceSub, if_true, ite_true, cond_true, cond_false, List.replicate, if_false, ite_false, reduceCtorEq]
        rw [← hK2]
        refine ⟨by rw [hK2]; exact FrOk.set (by simp), ?_⟩
        simp (disch := omega) only [k2s, k3x, hb2, List.length_map, h3s, DC_w, DC_n, kill_0, Nat.sub_zero, ↓rD0, ↓rD1, ↓rD2, ↓rD3, ↓rD4, rU0, rU1, rU2, rU3, rU4, rU5, toNat_n, Int.reduceToNat, slA, ptrsA, boolsA, Int.reducePow, Nat.reducePow, Nat.reduceMul, Int.reduceLT, Int.reduceLE, resA, resL, res1, eq_self, wanted, evK, get, setO, one, faA, loadA, storeA, outA, lenA, isStr, binA, unA, bnd, ints, toDat, toDats, datss, fillA, splice, List.length_nil, List.flatten_nil, Nat.reduceAdd, Nat.reduceLeDiff, Nat.reduceBEq, Nat.reduceSub, if_true, ite_true, cond_true, cond_false, List.replicate, if_false, ite_false, reduceCtorEq]
        exact Ret.keep ⟨rfl, by rw [hK4, hK3, ← flat_sd]⟩
      · obtain ⟨K4, hK4⟩ := eq_of_ex (K3.set lb (ABlk.cells (i' ++ .gsl b 1 (((lastL st).map (·.1) ++ [s]).map sd) :: j)))
        have hll2 : lb ∈ r.lB := by simp [Im.lB, q1]
        have hlF : lb ∈ r.F sb := by rw [hF]; simp only [List.mem_append, List.mem_cons]; exact .inr (.inr (.inl hll2))
        have hlsb : lb ≠ sb := fun e => a2 (by rw [← e]; exact hll2)
        have hlmb : lb ≠ mb := fun e => by
          rcases hM.fmb.2 with h' | h'
          · exact (a5 mb h').1 (by rw [← e]; exact hll2)
          · have := hlt lb hlF; omega
        have hlb : lb ≠ b := fun e => by
          rcases hb' with h' | h'
          · exact (a6 lb hll2).2 (by rw [e]; exact h')
          · have := hlt lb hlF; omega
        have hlK : K[lb]? = some (.cells (i' ++ x :: j)) := by rw [hLA _ q1, q3]; simp
        have k2lb : K2[lb]? = some (.cells (i' ++ x :: j)) := by rw [k2o lb hlmb, hlK]
        have k3lb : K3[lb]? = some (.cells (i' ++ x :: j)) := by rw [k3o lb (by have := hlt lb hlF; omega) hlb, k2lb]
        have hfin : ∃ r', ImAt K4 sb r' (declS st s n) ∧ Chg H (r.F sb) K4 (r'.F sb) := by
          refine Mid.fin h hM h1 h2 h3 hr (f' := r.f) (rs' := i' ++ [.gsl b 1 (((lastL st).map (·.1) ++ [s]).map sd)]) (by rw [q2]; rfl) hb' (by rw [hK4]; simpa using k3l) (by rw [hK4, getset_ne hlsb, k3o sb (by omega) (Ne.symm hbsb), k2s]) ?_ ?_ (fun y hy => ?_) (fun c hc1 hc2 hc3 hc4 hc5 => ?_)
          · rw [hK4, getset_ne hlmb, k3o mb hml (Ne.symm hbmb), k2m]
          · rw [hK4, getset_ne hlb, k3b]
          · rw [q1] at hy; cases hy
            rw [hK4, getset_eq (by have := hlt lb hlF; omega)]; simp
          · rw [hK4, getset_ne (a := lb) (b := c) (fun e => hc4 (by rw [← e]; exact hll2)), k3o c hc1 hc5, k2o c hc3]
        have hq5 : ∀ l, (H ++ l)[lb]? = some (.cells (i' ++ x :: j)) := fun l => hold q5 l
        have d1 : ((i' ++ x :: j).drop i'.length).take 1 = [x] := by simp
        have d2 : i'.length + 1 ≤ (i' ++ x :: j).length := by simp
        have d3 : (i' ++ x :: j).take i'.length = i' := by simp
        have d4 : (i' ++ x :: j).drop (i'.length + 1) = j := by simp
        rw [hxe] at hq5 d1 d2 d3 d4 k2lb k3lb
        have k3x := k3lb
        rw [hK3] at k3x
        obtain ⟨r', f1, f2⟩ := hfin
        refine ⟨_, r', ?_, f1, f2⟩
        refine ACalls.into Try.func9 cc9 rr9 fun hcl => ?_
        simp (disch := omega) only [Try.ntmps9, c9, r9, DC_w, DC_n, kill_0, Nat.sub_zero, ↓rD0, ↓rD1, ↓rD2, ↓rD3, ↓rD4, rU0, rU1, rU2, rU3, rU4, rU5, toNat_n, Int.reduceToNat, slA, ptrsA, boolsA, Int.reducePow, Nat.reducePow, Nat.reduceMul, Int.reduceLT, Int.reduceLE, resA, resL, res1, eq_self, wanted, evK, get, setO, one, faA, loadA, storeA, outA, lenA, isStr, binA, unA, bnd, ints, toDat, toDats, datss, fillA, splice, List.length_nil, List.flatten_nil, Nat.reduceAdd, Nat.reduceLeDiff, Nat.reduceBEq, Nat.reduceSub, if_true, ite_true, cond_true, cond_false, List.replicate, if_false, ite_false, reduceCtorEq]
        refine Cont.mk (named_c s _) ?_
        simp (disch := omega) only [nm_t h1, DC_w, DC_n, kill_0, Nat.sub_zero, ↓rD0, ↓rD1, ↓rD2, ↓rD3, ↓rD4, rU0, rU1, rU2, rU3, rU4, rU5, toNat_n, Int.reduceToNat, slA, ptrsA, boolsA, Int.reducePow, Nat.reducePow, Nat.reduceMul, Int.reduceLT, Int.reduceLE, resA, resL, res1, eq_self, wanted, evK, get, setO, one, faA, loadA, storeA, outA, lenA, isStr, binA, unA, bnd, ints, toDat, toDats, datss, fillA, splice, List.length_nil, List.flatten_nil, Nat.reduceAdd, Nat.reduceLeDiff, Nat.reduceBEq, Nat.reduceSub, if_true, ite_true, cond_true, cond_false, List.replicate, if_false, ite_false, reduceCtorEq]
        refine Cont.mk (depth_c h) ?_
        simp (disch := omega) only [DC_w, DC_n, kill_0, Nat.sub_zero, ↓rD0, ↓rD1, ↓rD2, ↓rD3, ↓rD4, rU0, rU1, rU2, rU3, rU4, rU5, toNat_n, Int.reduceToNat, slA, ptrsA, boolsA, Int.reducePow, Nat.reducePow, Nat.reduceMul, Int.reduceLT, Int.reduceLE, resA, resL, res1, eq_self, wanted, evK, get, setO, one, faA, loadA, storeA, outA, lenA, isStr, binA, unA, bnd, ints, toDat, toDats, datss, fillA, splice, List.length_nil, List.flatten_nil, Nat.reduceAdd, Nat.reduceLeDiff, Nat.reduceBEq, Nat.reduceSub, if_true, ite_true, cond_true, cond_false, List.replicate, if_false, ite_false, reduceCtorEq]
        refine W.pchain follows (by decide +kernel) ?_
        simp (disch := omega) only [hp, hmo, keyOf_k, hf, hgN, DC_w, DC_n, kill_0, Nat.sub_zero, ↓rD0, ↓rD1, ↓rD2, ↓rD3, ↓rD4, rU0, rU1, rU2, rU3, rU4, rU5, toNat_n, Int.reduceToNat, slA, ptrsA, boolsA, Int.reducePow, Nat.reducePow, Nat.reduceMul, Int.reduceLT, Int.reduceLE, resA, resL, res1, eq_self, wanted, evK, get, setO, one, faA, loadA, storeA, outA, lenA, isStr, binA, unA, bnd, ints, toDat, toDats, datss, fillA, splice, List.length_nil, List.flatten_nil, Nat.reduceAdd, Nat.reduceLeDiff, Nat.reduceBEq, Nat.reduceSub, if_true, ite_true, cond_true, cond_false, List.replicate, if_false, ite_false, reduceCtorEq]
        refine Cont.mk (here_c hx) ?_
        simp (disch := omega) only [q4, hq5, d1, d2, List.length_map, h3', e3, hpm, hLX, DC_w, DC_n, kill_0, Nat.sub_zero, ↓rD0, ↓rD1, ↓rD2, ↓rD3, ↓rD4, rU0, rU1, rU2, rU3, rU4, rU5, toNat_n, Int.reduceToNat, slA, ptrsA, boolsA, Int.reducePow, Nat.reducePow, Nat.reduceMul, Int.reduceLT, Int.reduceLE, resA, resL, res1, eq_self, wanted, evK, get, setO, one, faA, loadA, storeA, outA, lenA, isStr, binA, unA, bnd, ints, toDat, toDats, datss, fillA, splice, List.length_nil, List.flatten_nil, Nat.reduceAdd, Nat.reduceLeDiff, Nat.reduceBEq, Nat.reduceSub, if_true, ite_true, cond_true, cond_false, List.replicate, if_false, ite_false, reduceCtorEq]
        rw [← hK]
        refine W.dregD [([], []), ([], []), ([], []), ([], []), ([], []), ([], []), ([mb], [])] follows (by decide +kernel) rfl rfl (fun z hz => ?_) ?_
        · simp only [List.mem_cons, List.not_mem_nil, or_false] at hz
          rcases hz with rfl | rfl | rfl | rfl | rfl | rfl | rfl
          · exact fun b hb => by simp at hb
          · exact fun b hb => by simp at hb
          · exact fun b hb => by simp at hb
          · exact fun b hb => by simp at hb
          · exact fun b hb => by simp at hb
          · exact fun b hb => by simp at hb
          · exact fun b hb => by simp only [List.mem_singleton] at hb; subst hb; exact ⟨by simp, by rw [hM.fm]; simp⟩
        repeat (rw [DC_p]; simp (disch := omega) only [hM.fs, hM.fk, DC_w, DC_n, kill_0, Nat.sub_zero, ↓rD0, ↓rD1, ↓rD2, ↓rD3, ↓rD4, rU0, rU1, rU2, rU3, rU4, rU5, toNat_n, Int.reduceToNat, slA, ptrsA, boolsA, Int.reducePow, Nat.reducePow, Nat.reduceMul, Int.reduceLT, Int.reduceLE, resA, resL, res1, eq_self, wanted, evK, get, setO, one, faA, loadA, storeA, outA, lenA, isStr, binA, unA, bnd, ints, toDat, toDats, datss, fillA, splice, List.length_nil, List.flatten_nil, Nat.reduceAdd, Nat.reduceLeDiff, Nat.reduceBEq, Nat.reduceSub, if_true, ite_true, cond_true, cond_false, List.replicate, if_false, ite_false, reduceCtorEq])
        refine WStep.ev (fun _ _ e => by cases e) (fun _ _ e => by cases e) ?_
        simp (disch := omega) only [hM.fs, hM.fk, hM.fm, keyOf_k, hf, put_new hgN, ent_app, DC_w, DC_n, kill_0, Nat.sub_zero, ↓rD0, ↓rD1, ↓rD2, ↓rD3, ↓rD4, rU0, rU1, rU2, rU3, rU4, rU5, toNat_n, Int.reduceToNat, slA, ptrsA, boolsA, Int.reducePow, Nat.reducePow, Nat.reduceMul, Int.reduceLT, Int.reduceLE, resA, resL, res1, eq_self, wanted, evK, get, setO, one, faA, loadA, storeA, outA, lenA, isStr, binA, unA, bnd, ints, toDat, toDats, datss, fillA, splice, List.length_nil, List.flatten_nil, Nat.reduceAdd, Nat.reduceLeDiff, Nat.reduceBEq, Nat.reduceSub, if_true, ite_true, cond_true, cond_false, List.replicate, if_false, ite_false, reduceCtorEq]
        rw [← hK2]
        refine ⟨by rw [hK2]; exact FrOk.set (by simp), ?_⟩
        simp (disch := omega) only [k2lb, d1, d2, d3, d4, k3x, hb2, List.length_map, h3s, DC_w, DC_n, kill_0, Nat.sub_zero, ↓rD0, ↓rD1, ↓rD2, ↓rD3, ↓rD4, rU0, rU1, rU2, rU3, rU4, rU5, toNat_n, Int.reduceToNat, slA, ptrsA, boolsA, Int.reducePow, Nat.reducePow, Nat.reduceMul, Int.reduceLT, Int.reduceLE, resA, resL, res1, eq_self, wanted, evK, get, setO, one, faA, loadA, storeA, outA, lenA, isStr, binA, unA, bnd, ints, toDat, toDats, datss, fillA, splice, List.length_nil, List.flatten_nil, Nat.reduceAdd, Nat.reduceLeDiff, Nat.reduceBEq, Nat.reduceSub, if_true, ite_true, cond_true, cond_false, List.replicate, if_false, ite_false, reduceCtorEq]
        exact Ret.keep ⟨rfl, by rw [hK4, hK3, ← flat_sd]⟩
end Go.Proofs.Ythgffjaiklmbcaa
