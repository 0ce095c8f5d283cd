/- A scope of the program: Close. -/
import Derived.Test.YthgffjaiklmbcaaWk4
namespace Go.Proofs.Ythgffjaiklmbcaa
set_option linter.unusedSimpArgs false
set_option linter.unusedVariables false
set_option maxRecDepth 20000
set_option maxHeartbeats 2000000
open Go.RowKit

theorem delL_nil (k : Int) : ∀ l : List ByteArray, delL [] k l = []
  | [] => rfl
  | s :: l => delL_nil k l
theorem ImAt.closeR {H H' : List ABlk} {sb lb cap : Nat} {r : Im} {st : St} {j init : List AV} {x : AV} (h : ImAt H sb r st) (hst : 1 < st.length) (e : r.l = some (lb, cap, j)) (hr : r.rs = init ++ [x])
    (h1 : H'[sb]? = some (.cells [r.mA, .hsl lb 0 init.length cap 1, r.f])) (h2 : ∀ y, r.m = some y → H'[y.1]? = some (.map kt y.2.1 ((delL y.2.2 ((st.length : Int) - 1) ((lastL st).map (·.1))).map En.e)))
    (h5 : ∀ c ∈ r.F sb, c ≠ sb → c ∉ r.mB → H'[c]? = H[c]?) : ImAt H' sb ⟨r.m.map fun y => (y.1, y.2.1, delL y.2.2 ((st.length : Int) - 1) ((lastL st).map (·.1))), some (lb, cap, x :: j), r.f, init⟩ (st.take (st.length - 1)) := by
  have hr2 : r.f :: r.rs = (r.f :: init) ++ [x] := by rw [hr]; rfl
  obtain ⟨⟨a1, a2, a3, a4⟩, a5, a6, a7, a8⟩ := nd_facts h.nd hr2
  have hF := F_eq (sb := sb) hr2
  have hrows := h.rows
  rw [hr2] at hrows
  obtain ⟨g1, g2, l, g3, g4⟩ := rows_last hrows
  rw [List.length_map] at g1
  have hil : (r.f :: init).length = st.length - 1 := by omega
  have hE : (Im.E ⟨r.m.map fun y => (y.1, y.2.1, delL y.2.2 ((st.length : Int) - 1) ((lastL st).map (·.1))), some (lb, cap, x :: j), r.f, init⟩) = delL r.E ((st.length : Int) - 1) ((lastL st).map (·.1)) := by
    unfold Im.E
    cases r.m with
    | none => exact (delL_nil _ _).symm
    | some y => rfl
  have hlb : r.lB = [lb] := by simp [Im.lB, e]
  constructor
  · rw [h1]
    simp only [Im.mA, Im.lA]
    cases r.m <;> rfl
  · intro y hy
    obtain ⟨z, hz, rfl⟩ := Option.map_eq_some_iff.1 hy
    exact h2 z hz
  · intro y hy
    cases hy
    obtain ⟨q1, q2⟩ := h.l _ e
    simp only at q1 q2
    refine ⟨?_, ?_⟩
    · show H'[lb]? = _
      rw [h5 lb (by rw [hF, hlb]; simp) (fun e' => a2 (by rw [hlb, e']; simp)) (fun e' => (a5 lb e').1 (by rw [hlb]; simp)), q1, hr]
      simp
    · show init.length ≤ cap
      rw [hr] at q2; simp at q2; omega
  · intro hy; cases hy
  · show RowsA 9 sd H' (r.f :: init) _
    rw [List.map_take, show st.length - 1 = (r.f :: init).length from hil.symm]
    refine g2.frame fun b hb => h5 b ?_ ?_ ?_
    · rw [hF]; simp only [List.mem_cons, List.mem_append]; exact .inr (.inr (.inr (.inl hb)))
    · rintro rfl; exact a3 hb
    · intro hm; exact (a5 b hm).2.1 hb
  · have hsub : List.Sublist (Im.F ⟨r.m.map fun y => (y.1, y.2.1, delL y.2.2 ((st.length : Int) - 1) ((lastL st).map (·.1))), some (lb, cap, x :: j), r.f, init⟩ sb) (r.F sb) := by
      rw [hF, hlb]
      unfold Im.F Im.mB Im.lB
      simp only [List.flatMap_cons]
      refine List.Sublist.cons_cons _ (List.Sublist.append ?_ (List.Sublist.append (List.Sublist.refl _) (List.sublist_append_left _ _)))
      cases r.m <;> exact List.Sublist.refl _
    exact h.nd.sublist hsub
  · rw [hE]; exact delL_nd h.en
  · intro k s
    rw [hE, delL_get h.en, List.length_take, Nat.min_eq_left (by omega)]
    have hg := h.get k s
    by_cases hk : 0 ≤ k ∧ k < ((st.length - 1 : Nat) : Int)
    · rw [if_neg (fun e => by omega), hg, if_pos (by omega), if_pos hk, List.getD_eq_getElem?_getD, List.getD_eq_getElem?_getD, List.getElem?_take, if_pos (by omega)]
    · rw [if_neg hk]
      by_cases hkd : k = (st.length : Int) - 1
      · rw [if_pos (by omega), show k.toNat = st.length - 1 by omega, show st.getD (st.length - 1) [] = lastL st from rfl] at hg
        by_cases hs : s ∈ (lastL st).map (·.1)
        · rw [if_pos ⟨hkd.symm, hs⟩]; rfl
        · rw [if_neg (fun e => hs e.2), hg, lvGet_mem.2 hs]
      · rw [if_neg (fun e => hkd e.1.symm), hg, if_neg (fun e => by omega)]
  · have := h.len; simp; omega
  · intro l hl; exact h.lvs l (List.mem_of_mem_take hl)

theorem sd_getB {b : Nat} {l : List ByteArray} {i : Nat} (h : i < l.length) : iaA (.gsl b 1 (l.map sd)) (i : Int) 1 = some (.ip (sd (l.getD i ⟨#[]⟩))) := iaA_gs h
theorem close_c {H : List ABlk} {sb : Nat} {r : Im} {st : St} (h : ImAt H sb r st) : ACalls Try.prog 16 [.ptr sb 0] H fun v H' => v = bv (closeV st) ∧ ∃ r', ImAt H' sb r' (closeS st) ∧ Chg H (r.F sb) H' (r'.F sb) := by
  refine ACalls.into Try.func16 cc16 rr16 fun hcl => ?_
  have hl := lenA_l r h.l0
  have hs := isStr_l r
  simp only [lenA, isStr] at hl hs
  have hd := h.dl
  have hlen := h.len
  by_cases hf : 1 < st.length
  · have hlt := h.lt
    cases e : r.l with
    | none => have := h.l0 e; rw [this] at hd; simp at hd; omega
    | some y =>
      obtain ⟨lb, cap, j⟩ := y
      obtain ⟨hl1, hl2⟩ := h.l _ e
      simp only at hl1 hl2
      have e2 : r.lA = .hsl lb 0 r.rs.length cap 1 := by simp only [Im.lA, e]
      have hsp := h.s
      rw [e2] at hsp
      have hrs : r.rs ≠ [] := fun e' => by rw [e'] at hd; simp at hd; omega
      obtain ⟨init, x, hr⟩ : ∃ init x, r.rs = init ++ [x] := ⟨_, _, (List.dropLast_concat_getLast hrs).symm⟩
      have hil : r.rs.length = init.length + 1 := by rw [hr]; simp
      have hcell : ((r.rs ++ j).drop init.length).take 1 = [x] := by rw [hr]; simp
      have hrows := h.rows
      rw [hr, show r.f :: (init ++ [x]) = (r.f :: init) ++ [x] from rfl] at hrows
      obtain ⟨g1, g2, l, g3, g4⟩ := rows_last hrows
      rw [List.length_map] at g1
      have hll : l = (lastL st).map (·.1) := by
        have h1 : (st.map (·.map (·.1)))[st.length - 1]? = some l := by
          rw [g3, List.getElem?_append_right (by simp; omega)]
          have : st.length - 1 - (List.take (r.f :: init).length (st.map (·.map (·.1)))).length = 0 := by simp; omega
          rw [this]; rfl
        rw [List.getElem?_map, last_get (by omega)] at h1
        exact (Option.some.inj h1).symm
      subst hll
      rw [hil] at hsp hl2 hd
      clear hl hs
      have hlen3 : (r.rs ++ j).length = init.length + 1 + j.length := by simp [hil]
      have hwr : Int.toNat ((init.length + 1 : Nat) - 1 : Int) = init.length := by omega
      have hsz : ∀ i, i < ((lastL st).map (·.1)).length → (List.getD ((lastL st).map (·.1)) i (⟨#[]⟩ : ByteArray)).size ≤ 5000 := fun i hi => by
        have hm := h.lvs (lastL st) (List.mem_of_getElem? (last_get (by omega)))
        have : List.getD ((lastL st).map (·.1)) i (⟨#[]⟩ : ByteArray) ∈ (lastL st).map (·.1) := by
          rw [List.getD_eq_getElem?_getD, List.getElem?_eq_getElem hi]; exact List.getElem_mem hi
        obtain ⟨p, hp, hp2⟩ := List.mem_map.1 this
        have := hm.2 p hp
        rw [hp2] at this
        omega
      have hnlen : ((lastL st).map (·.1)).length ≤ 256 := by
        rw [List.length_map]; exact (h.lvs (lastL st) (List.mem_of_getElem? (last_get (by omega)))).1
      have hdd : ((init.length + 1 : Nat) : Int) = (st.length : Int) - 1 := by omega
      have hsb : sb < H.length := hlt sb (by simp [Im.F])
      have hcap : ¬ (0 : Int) = (cap : Int) := by omega
      have fin : ∀ G : List ABlk, G[sb]? = some (.cells [r.mA, .hsl lb 0 (init.length + 1) cap 1, r.f]) → G.length = H.length → (∀ y, r.m = some y → G[y.1]? = some (.map kt y.2.1 ((delL y.2.2 ((st.length : Int) - 1) ((lastL st).map (·.1))).map En.e))) → (∀ c, c ∉ r.mB → G[c]? = H[c]?) →
          ∃ r', ImAt (G.set sb (.cells [r.mA, .hsl lb 0 init.length cap 1, r.f])) sb r' (closeS st) ∧ Chg H (r.F sb) (G.set sb (.cells [r.mA, .hsl lb 0 init.length cap 1, r.f])) (r'.F sb) := by
        intro G q1 q2 q3 q4
        have hne : ∀ y, r.m = some y → y.1 ≠ sb := fun y hy e' => by have := h.nd; simp [Im.F, Im.mB, hy, e'] at this
        refine ⟨_, by rw [closeS, if_pos hf]; exact h.closeR hf e hr (getset_eq (by omega)) (fun y hy => by rw [getset_ne (Ne.symm (hne y hy))]; exact q3 y hy) (fun c hc h1 h2 => by rw [getset_ne (Ne.symm h1)]; exact q4 c h2), ?_⟩
        refine ⟨by simp [q2], fun b hb hF => ?_, fun b hb => .inl ?_⟩
        · rw [getset_ne (by rintro rfl; exact hF (by simp [Im.F]))]
          exact q4 b (fun hm => hF (by simp [Im.F, hm]))
        · have hF := F_eq (sb := sb) (r := r) (init := r.f :: init) (x := x) (by rw [hr]; rfl)
          rw [hF]
          have hlb : r.lB = [lb] := by simp [Im.lB, e]
          rw [hlb]
          simp only [Im.F, Im.mB, Im.lB, List.mem_cons, List.mem_append, List.flatMap_cons, List.not_mem_nil, or_false] at hb ⊢
          rcases hb with hb | hb | hb | hb | hb
          · exact .inl hb
          · refine .inr (.inl ?_)
            cases hm : r.m with
            | none => rw [hm] at hb; simp at hb
            | some y => rw [hm] at hb; simpa [Im.mB, hm] using hb
          · exact .inr (.inr (.inl hb))
          · exact .inr (.inr (.inr (.inl (.inl hb))))
          · exact .inr (.inr (.inr (.inl (.inr hb))))
      rcases g4 with ⟨rfl, hn0⟩ | ⟨b, rfl, hb⟩
      · simp (disch := omega) only [Try.ntmps16, c16, r16, hsp, hl1, hcell, hlen3, hwr, DC_w, DC_n, kill_0, Nat.sub_zero, ↓rD0, ↓rD1, ↓rD2, ↓rD3, ↓rD4, rU0, rU1, rU2, rU3, rU4, rU5, toNat_n, Int.reduceToNat, slA, ptrsA, boolsA, Int.reducePow, Nat.reducePow, Nat.reduceMul, Int.reduceLT, Int.reduceLE, resA, resL, res1, eq_self, wanted, evK, get, setO, one, faA, loadA, storeA, outA, lenA, isStr, binA, unA, bnd, ints, toDat, toDats, datss, fillA, splice, List.length_nil, List.flatten_nil, Nat.reduceAdd, Nat.reduceLeDiff, Nat.reduceBEq, Nat.reduceSub, if_true, ite_true, cond_true, cond_false, List.replicate, if_false, ite_false, reduceCtorEq]
        refine W.loopG (γ := Unit) (fun _ => 0) (fun _ => [.ptr sb 0, .any, .any, iv ((init.length + 1 : Nat) : Int), .any, .any, .any, .any, .any, .any, .any, .any, .any, .any, .any, .any, .any, .any, .any, .any, .any, .any, .any, .any, .any, .any, .any, .any, .esl, iv 0, iv 0] ++ List.replicate 21 .any) (fun _ => H) (fun _ => True) () (Wk.slots (by (try simp only [List.replicate, List.cons_append, List.nil_append]); repeat' first | exact WkL.nil | refine WkL.cons (Wk1.rfl _) ?_ | refine WkL.cons Wk1.esl ?_ | refine WkL.cons (Wk1.gsl _ _ _) ?_ | refine WkL.cons (Wk1.any _) ?_)) trivial (fun _ _ => ?_)
        simp (disch := omega) only [c16l0, hsp, hwr, hcap, DC_w, DC_n, kill_0, Nat.sub_zero, ↓rD0, ↓rD1, ↓rD2, ↓rD3, ↓rD4, rU0, rU1, rU2, rU3, rU4, rU5, toNat_n, Int.reduceToNat, slA, ptrsA, boolsA, Int.reducePow, Nat.reducePow, Nat.reduceMul, Int.reduceLT, Int.reduceLE, resA, resL, res1, eq_self, wanted, evK, get, setO, one, faA, loadA, storeA, outA, lenA, isStr, binA, unA, bnd, ints, toDat, toDats, datss, fillA, splice, List.length_nil, List.flatten_nil, Nat.reduceAdd, Nat.reduceLeDiff, Nat.reduceBEq, Nat.reduceSub, if_true, ite_true, cond_true, cond_false, List.replicate, if_false, ite_false, reduceCtorEq]
        refine Ret.keep ⟨by rw [closeV, decide_eq_true hf], ?_⟩
        exact fin H hsp rfl (fun y hy => by rw [hn0]; exact h.m y hy) (fun _ _ => rfl)
      · cases hm : r.m with
        | none =>
          have e3 : r.mA = .mnil := by simp only [Im.mA, hm]
          rw [e3] at hsp
          have fin2 := fin H (by rw [e3]; exact hsp) rfl (fun y hy => by rw [hm] at hy; cases hy) (fun _ _ => rfl)
          rw [e3] at fin2
          clear fin
          generalize (lastL st).map (·.1) = ns at *
          simp (disch := omega) only [Try.ntmps16, c16, r16, hsp, hl1, hcell, hlen3, hwr, List.length_map, DC_w, DC_n, kill_0, Nat.sub_zero, ↓rD0, ↓rD1, ↓rD2, ↓rD3, ↓rD4, rU0, rU1, rU2, rU3, rU4, rU5, toNat_n, Int.reduceToNat, slA, ptrsA, boolsA, Int.reducePow, Nat.reducePow, Nat.reduceMul, Int.reduceLT, Int.reduceLE, resA, resL, res1, eq_self, wanted, evK, get, setO, one, faA, loadA, storeA, outA, lenA, isStr, binA, unA, bnd, ints, toDat, toDats, datss, fillA, splice, List.length_nil, List.flatten_nil, Nat.reduceAdd, Nat.reduceLeDiff, Nat.reduceBEq, Nat.reduceSub, if_true, ite_true, cond_true, cond_false, List.replicate, if_false, ite_false, reduceCtorEq]
          refine W.loopG (γ := Nat) (fun i => ns.length - i) (fun i => [.ptr sb 0, .any, .any, iv ((init.length + 1 : Nat) : Int), .any, .any, .any, .any, .any, .any, .any, .any, .any, .any, .any, .any, .any, .any, .any, .any, .any, .any, .any, .any, .any, .any, .any, .any, .gsl b 1 (ns.map sd), iv ns.length, iv i] ++ List.replicate 21 .any) (fun _ => H) (fun i => i ≤ ns.length) 0 (Wk.slots (by (try simp only [List.replicate, List.cons_append, List.nil_append]); repeat' first | exact WkL.nil | refine WkL.cons (Wk1.rfl _) ?_ | refine WkL.cons Wk1.esl ?_ | refine WkL.cons (Wk1.gsl _ _ _) ?_ | refine WkL.cons (Wk1.any _) ?_)) (Nat.zero_le _) (fun i hi => ?_)
          simp (disch := omega) only [c16l0, hsp, DC_w, DC_n, kill_0, Nat.sub_zero, ↓rD0, ↓rD1, ↓rD2, ↓rD3, ↓rD4, rU0, rU1, rU2, rU3, rU4, rU5, toNat_n, Int.reduceToNat, slA, ptrsA, boolsA, Int.reducePow, Nat.reducePow, Nat.reduceMul, Int.reduceLT, Int.reduceLE, resA, resL, res1, eq_self, wanted, evK, get, setO, one, faA, loadA, storeA, outA, lenA, isStr, binA, unA, bnd, ints, toDat, toDats, datss, fillA, splice, List.length_nil, List.flatten_nil, Nat.reduceAdd, Nat.reduceLeDiff, Nat.reduceBEq, Nat.reduceSub, if_true, ite_true, cond_true, cond_false, List.replicate, if_false, ite_false, reduceCtorEq]
          refine Br.dec (fun hc => ?_) (fun hc => ?_) <;> simp (disch := omega) only [iaA_gs, DC_w, DC_n, kill_0, Nat.sub_zero, ↓rD0, ↓rD1, ↓rD2, ↓rD3, ↓rD4, rU0, rU1, rU2, rU3, rU4, rU5, toNat_n, Int.reduceToNat, slA, ptrsA, boolsA, Int.reducePow, Nat.reducePow, Nat.reduceMul, Int.reduceLT, Int.reduceLE, resA, resL, res1, eq_self, wanted, evK, get, setO, one, faA, loadA, storeA, outA, lenA, isStr, binA, unA, bnd, ints, toDat, toDats, datss, fillA, splice, List.length_nil, List.flatten_nil, Nat.reduceAdd, Nat.reduceLeDiff, Nat.reduceBEq, Nat.reduceSub, if_true, ite_true, cond_true, cond_false, List.replicate, if_false, ite_false, reduceCtorEq]
          · have hk := fits_k (k := ((init.length + 1 : Nat) : Int)) (s := ns.getD i ⟨#[]⟩) (by omega) (by omega) (hsz i (by omega))
            simp (disch := omega) only [hsp, keyOf_k, hk, DC_w, DC_n, kill_0, Nat.sub_zero, ↓rD0, ↓rD1, ↓rD2, ↓rD3, ↓rD4, rU0, rU1, rU2, rU3, rU4, rU5, toNat_n, Int.reduceToNat, slA, ptrsA, boolsA, Int.reducePow, Nat.reducePow, Nat.reduceMul, Int.reduceLT, Int.reduceLE, resA, resL, res1, eq_self, wanted, evK, get, setO, one, faA, loadA, storeA, outA, lenA, isStr, binA, unA, bnd, ints, toDat, toDats, datss, fillA, splice, List.length_nil, List.flatten_nil, Nat.reduceAdd, Nat.reduceLeDiff, Nat.reduceBEq, Nat.reduceSub, if_true, ite_true, cond_true, cond_false, List.replicate, if_false, ite_false, reduceCtorEq]
            exact Nxt.mk (i + 1) (by omega) (Wk.slots (by (try simp only [List.replicate, List.cons_append, List.nil_append]); repeat' first | exact WkL.nil | refine WkL.cons (Wk1.rfl _) ?_ | refine WkL.cons Wk1.esl ?_ | refine WkL.cons (Wk1.gsl _ _ _) ?_ | refine WkL.cons (Wk1.any _) ?_)) (by omega)
          · simp (disch := omega) only [hsp, hwr, hcap, DC_w, DC_n, kill_0, Nat.sub_zero, ↓rD0, ↓rD1, ↓rD2, ↓rD3, ↓rD4, rU0, rU1, rU2, rU3, rU4, rU5, toNat_n, Int.reduceToNat, slA, ptrsA, boolsA, Int.reducePow, Nat.reducePow, Nat.reduceMul, Int.reduceLT, Int.reduceLE, resA, resL, res1, eq_self, wanted, evK, get, setO, one, faA, loadA, storeA, outA, lenA, isStr, binA, unA, bnd, ints, toDat, toDats, datss, fillA, splice, List.length_nil, List.flatten_nil, Nat.reduceAdd, Nat.reduceLeDiff, Nat.reduceBEq, Nat.reduceSub, if_true, ite_true, cond_true, cond_false, List.replicate, if_false, ite_false, reduceCtorEq]
            exact Ret.keep ⟨by rw [closeV, decide_eq_true hf], fin2⟩
        | some y =>
          obtain ⟨mb, ck, E⟩ := y
          have hmb := h.m _ hm
          simp only at hmb
          have e3 : r.mA = .mp mb := by simp only [Im.mA, hm]
          rw [e3] at hsp
          have hne : mb ≠ sb := fun e' => by have := h.nd; simp [Im.F, Im.mB, hm, e'] at this
          have hmlt := (List.getElem?_eq_some_iff.1 hmb).1
          have hlb : lb ≠ mb := fun e' => by have := h.nd; simp [Im.F, Im.mB, Im.lB, hm, e, e'] at this
          have fin2 := fin (H.set mb (.map kt ck ((delL E ((st.length : Int) - 1) ((lastL st).map (·.1))).map En.e))) (by rw [getset_ne hne, e3]; exact hsp) (by simp) (fun y hy => by rw [hm] at hy; cases hy; exact getset_eq hmlt) (fun c hc => getset_ne (fun e' => hc (by simp [Im.mB, hm, e'])))
          rw [e3, ← hdd] at fin2
          clear fin
          generalize (lastL st).map (·.1) = ns at *
          have hS : ∀ x, (H.set mb x)[sb]? = some (.cells [.mp mb, .hsl lb 0 (init.length + 1) cap 1, r.f]) := fun x => by rw [getset_ne hne, hsp]
          have hM : ∀ x, (H.set mb x)[mb]? = some x := fun x => getset_eq hmlt
          simp (disch := omega) only [Try.ntmps16, c16, r16, hsp, hl1, hcell, hlen3, hwr, List.length_map, DC_w, DC_n, kill_0, Nat.sub_zero, ↓rD0, ↓rD1, ↓rD2, ↓rD3, ↓rD4, rU0, rU1, rU2, rU3, rU4, rU5, toNat_n, Int.reduceToNat, slA, ptrsA, boolsA, Int.reducePow, Nat.reducePow, Nat.reduceMul, Int.reduceLT, Int.reduceLE, resA, resL, res1, eq_self, wanted, evK, get, setO, one, faA, loadA, storeA, outA, lenA, isStr, binA, unA, bnd, ints, toDat, toDats, datss, fillA, splice, List.length_nil, List.flatten_nil, Nat.reduceAdd, Nat.reduceLeDiff, Nat.reduceBEq, Nat.reduceSub, if_true, ite_true, cond_true, cond_false, List.replicate, if_false, ite_false, reduceCtorEq]
          refine W.loopG (γ := Nat) (fun i => ns.length - i) (fun i => [.ptr sb 0, .any, .any, iv ((init.length + 1 : Nat) : Int), .any, .any, .any, .any, .any, .any, .any, .any, .any, .any, .any, .any, .any, .any, .any, .any, .any, .any, .any, .any, .any, .any, .any, .any, .gsl b 1 (ns.map sd), iv ns.length, iv i] ++ List.replicate 21 .any) (fun i => H.set mb (.map kt ck ((delL E ((init.length + 1 : Nat) : Int) (ns.take i)).map En.e))) (fun i => i ≤ ns.length) 0 ?_ (Nat.zero_le _) (fun i hi => ?_)
          · simp only [List.take_zero, delL, List.foldl_nil]
            rw [set_self hmb]
            exact Wk.slots (by (try simp only [List.replicate, List.cons_append, List.nil_append]); repeat' first | exact WkL.nil | refine WkL.cons (Wk1.rfl _) ?_ | refine WkL.cons Wk1.esl ?_ | refine WkL.cons (Wk1.gsl _ _ _) ?_ | refine WkL.cons (Wk1.any _) ?_)
          simp (disch := omega) only [c16l0, hS, DC_w, DC_n, kill_0, Nat.sub_zero, ↓rD0, ↓rD1, ↓rD2, ↓rD3, ↓rD4, rU0, rU1, rU2, rU3, rU4, rU5, toNat_n, Int.reduceToNat, slA, ptrsA, boolsA, Int.reducePow, Nat.reducePow, Nat.reduceMul, Int.reduceLT, Int.reduceLE, resA, resL, res1, eq_self, wanted, evK, get, setO, one, faA, loadA, storeA, outA, lenA, isStr, binA, unA, bnd, ints, toDat, toDats, datss, fillA, splice, List.length_nil, List.flatten_nil, Nat.reduceAdd, Nat.reduceLeDiff, Nat.reduceBEq, Nat.reduceSub, if_true, ite_true, cond_true, cond_false, List.replicate, if_false, ite_false, reduceCtorEq]
          refine Br.dec (fun hc => ?_) (fun hc => ?_) <;> simp (disch := omega) only [iaA_gs, DC_w, DC_n, kill_0, Nat.sub_zero, ↓rD0, ↓rD1, ↓rD2, ↓rD3, ↓rD4, rU0, rU1, rU2, rU3, rU4, rU5, toNat_n, Int.reduceToNat, slA, ptrsA, boolsA, Int.reducePow, Nat.reducePow, Nat.reduceMul, Int.reduceLT, Int.reduceLE, resA, resL, res1, eq_self, wanted, evK, get, setO, one, faA, loadA, storeA, outA, lenA, isStr, binA, unA, bnd, ints, toDat, toDats, datss, fillA, splice, List.length_nil, List.flatten_nil, Nat.reduceAdd, Nat.reduceLeDiff, Nat.reduceBEq, Nat.reduceSub, if_true, ite_true, cond_true, cond_false, List.replicate, if_false, ite_false, reduceCtorEq]
          · have hk := fits_k (k := ((init.length + 1 : Nat) : Int)) (s := ns.getD i ⟨#[]⟩) (by omega) (by omega) (hsz i (by omega))
            simp (disch := omega) only [hS, hM, keyOf_k, hk, mapDel_E, List.set_set, DC_w, DC_n, kill_0, Nat.sub_zero, ↓rD0, ↓rD1, ↓rD2, ↓rD3, ↓rD4, rU0, rU1, rU2, rU3, rU4, rU5, toNat_n, Int.reduceToNat, slA, ptrsA, boolsA, Int.reducePow, Nat.reducePow, Nat.reduceMul, Int.reduceLT, Int.reduceLE, resA, resL, res1, eq_self, wanted, evK, get, setO, one, faA, loadA, storeA, outA, lenA, isStr, binA, unA, bnd, ints, toDat, toDats, datss, fillA, splice, List.length_nil, List.flatten_nil, Nat.reduceAdd, Nat.reduceLeDiff, Nat.reduceBEq, Nat.reduceSub, if_true, ite_true, cond_true, cond_false, List.replicate, if_false, ite_false, reduceCtorEq]
            refine Nxt.mk (i + 1) (by omega) ?_ (by omega)
            have et : delE (delL E ((init.length + 1 : Nat) : Int) (ns.take i)) ((init.length + 1 : Nat) : Int) (ns.getD i ⟨#[]⟩) = delL E ((init.length + 1 : Nat) : Int) (ns.take (i + 1)) := by
              have eg : ns.getD i ⟨#[]⟩ = ns[i]'(by omega) := by rw [List.getD_eq_getElem?_getD, List.getElem?_eq_getElem (by omega)]; rfl
              rw [delL_snoc, eg, ← List.take_succ_eq_append_getElem (by omega)]
            rw [et]
            exact Wk.slots (by (try simp only [List.replicate, List.cons_append, List.nil_append]); repeat' first | exact WkL.nil | refine WkL.cons (Wk1.rfl _) ?_ | refine WkL.cons Wk1.esl ?_ | refine WkL.cons (Wk1.gsl _ _ _) ?_ | refine WkL.cons (Wk1.any _) ?_)
          · simp (disch := omega) only [hS, hwr, hcap, DC_w, DC_n, kill_0, Nat.sub_zero, ↓rD0, ↓rD1, ↓rD2, ↓rD3, ↓rD4, rU0, rU1, rU2, rU3, rU4, rU5, toNat_n, Int.reduceToNat, slA, ptrsA, boolsA, Int.reducePow, Nat.reducePow, Nat.reduceMul, Int.reduceLT, Int.reduceLE, resA, resL, res1, eq_self, wanted, evK, get, setO, one, faA, loadA, storeA, outA, lenA, isStr, binA, unA, bnd, ints, toDat, toDats, datss, fillA, splice, List.length_nil, List.flatten_nil, Nat.reduceAdd, Nat.reduceLeDiff, Nat.reduceBEq, Nat.reduceSub, if_true, ite_true, cond_true, cond_false, List.replicate, if_false, ite_false, reduceCtorEq]
            rw [List.take_of_length_le (by omega)]
            exact Ret.keep ⟨by rw [closeV, decide_eq_true hf], fin2⟩
  · have hl0 : r.rs.length = 0 := by omega
    rw [hl0] at hl
    simp (disch := omega) only [Try.ntmps16, c16, r16, h.s, hl, hs, DC_w, DC_n, kill_0, Nat.sub_zero, ↓rD0, ↓rD1, ↓rD2, ↓rD3, ↓rD4, rU0, rU1, rU2, rU3, rU4, rU5, toNat_n, Int.reduceToNat, slA, ptrsA, boolsA, Int.reducePow, Nat.reducePow, Nat.reduceMul, Int.reduceLT, Int.reduceLE, resA, resL, res1, eq_self, wanted, evK, get, setO, one, faA, loadA, storeA, outA, lenA, isStr, binA, unA, bnd, ints, toDat, toDats, datss, fillA, splice, List.length_nil, List.flatten_nil, Nat.reduceAdd, Nat.reduceLeDiff, Nat.reduceBEq, Nat.reduceSub, if_true, ite_true, cond_true, cond_false, List.replicate, if_false, ite_false, reduceCtorEq]
    exact Ret.keep ⟨by rw [closeV, decide_eq_false hf], r, by rw [closeS, if_neg hf]; exact h, .rfl'⟩
end Go.Proofs.Ythgffjaiklmbcaa
