/- layout.Vars; lists alike. -/
import Derived.Test.YtlhpcccffmfopaaLyA
namespace Go.Proofs.Ytlhpcccffmfopaa
set_option linter.unusedSectionVars false
set_option linter.unusedSimpArgs false
set_option linter.unusedVariables false
set_option maxRecDepth 20000
set_option maxHeartbeats 4000000
open Go.RowKit

theorem ksame_c {a b : List Int} (la : a.length ≤ 9000000) (lb : b.length ≤ 9000000) (H : List ABlk) : ACalls Try.prog 32 [.d (.sl (a.map kd)), .d (.sl (b.map kd))] H fun v H' => v = bv (decide (a = b)) ∧ H' = H := by
  refine ACalls.into Try.func32 cc32 rr32 fun hcl => ?_
  by_cases hl : a.length = b.length
  rotate_left
  · simp (maxSteps := 2000000) (disch := omega) only [Try.ntmps32, c32, r32, List.length_map, go_sem, eq_self, if_true, if_false, reduceCtorEq, Int.reduceToNat, Int.reducePow, Nat.reducePow, Nat.reduceMul, Int.reduceLT, Int.reduceLE, Nat.reduceAdd, Nat.reduceLeDiff, Nat.reduceBEq, Nat.reduceSub, Int.reduceSub, Int.reduceMul, Int.reduceNeg, Int.reduceAdd]
    exact Ret.keep ⟨congrArg bv (decf fun e => hl (congrArg List.length e)).symm, rfl⟩
  simp (maxSteps := 2000000) (disch := omega) only [Try.ntmps32, c32, r32, List.length_map, hl, go_sem, eq_self, if_true, if_false, reduceCtorEq, Int.reduceToNat, Int.reducePow, Nat.reducePow, Nat.reduceMul, Int.reduceLT, Int.reduceLE, Nat.reduceAdd, Nat.reduceLeDiff, Nat.reduceBEq, Nat.reduceSub, Int.reduceSub, Int.reduceMul, Int.reduceNeg, Int.reduceAdd]
  refine W.loopG (γ := Nat) (fun i => a.length - i) (fun i => [.d (.sl (a.map kd)), .d (.sl (b.map kd)), .any, .any, bv false, iv i] ++ List.replicate 20 .any) (fun _ => H) (fun i => i ≤ a.length ∧ ∀ j, j < i → a.getD j 0 = b.getD j 0) 0 (Wk.slots (by (try simp only [List.replicate, List.cons_append, List.nil_append]); repeat' first | exact WkL.nil | refine WkL.cons (Wk1.rfl _) ?_ | refine WkL.cons Wk1.esl ?_ | refine WkL.cons (Wk1.gsl _ _ _) ?_ | refine WkL.cons (Wk1.any _) ?_)) ⟨by omega, fun j hj => by omega⟩ (fun i hi => ?_)
  obtain ⟨q1, q2⟩ := hi
  simp (maxSteps := 2000000) (disch := omega) only [c32l0, List.length_map, go_sem, eq_self, if_true, if_false, reduceCtorEq, Int.reduceToNat, Int.reducePow, Nat.reducePow, Nat.reduceMul, Int.reduceLT, Int.reduceLE, Nat.reduceAdd, Nat.reduceLeDiff, Nat.reduceBEq, Nat.reduceSub, Int.reduceSub, Int.reduceMul, Int.reduceNeg, Int.reduceAdd]
  refine Br.dec (fun hc => ?_) (fun hc => ?_) <;> simp (maxSteps := 2000000) (disch := omega) only [go_sem, eq_self, if_true, if_false, reduceCtorEq, Int.reduceToNat, Int.reducePow, Nat.reducePow, Nat.reduceMul, Int.reduceLT, Int.reduceLE, Nat.reduceAdd, Nat.reduceLeDiff, Nat.reduceBEq, Nat.reduceSub, Int.reduceSub, Int.reduceMul, Int.reduceNeg, Int.reduceAdd]
  · have hia := iaA_map (n := 1) kd 0 (l := a) (a := (i : Int)) (by omega) (by omega) rfl
    have hib := iaA_map (n := 1) kd 0 (l := b) (a := (i : Int)) (by omega) (by omega) rfl
    rw [Int.toNat_natCast] at hia hib
    have hno : a.getD i 0 ≠ b.getD i 0 → false = decide (a = b) := fun h => (decf fun e => h (by rw [e])).symm
    have hyes : a.getD i 0 = b.getD i 0 → ∀ j, j < i + 1 → a.getD j 0 = b.getD j 0 := fun h j hj => by
      rcases Nat.lt_or_ge j i with h' | h'
      · exact q2 j h'
      · rw [show j = i by omega]; exact h
    generalize a.getD i 0 = x at *
    generalize b.getD i 0 = y at *
    refine W.pchain follows (by decide +kernel) ?_
    by_cases e : x = y
    · simp (maxSteps := 2000000) (disch := omega) only [hia, hib, go_sem, eq_self, if_true, if_false, reduceCtorEq, Int.reduceToNat, Int.reducePow, Nat.reducePow, Nat.reduceMul, Int.reduceLT, Int.reduceLE, Nat.reduceAdd, Nat.reduceLeDiff, Nat.reduceBEq, Nat.reduceSub, Int.reduceSub, Int.reduceMul, Int.reduceNeg, Int.reduceAdd]
      exact Nxt.mk (i + 1) (by omega) (Wk.slots (by (try simp only [List.replicate, List.cons_append, List.nil_append]); repeat' first | exact WkL.nil | refine WkL.cons (Wk1.rfl _) ?_ | refine WkL.cons Wk1.esl ?_ | refine WkL.cons (Wk1.gsl _ _ _) ?_ | refine WkL.cons (Wk1.any _) ?_)) ⟨by omega, hyes e⟩
    · simp (maxSteps := 2000000) (disch := omega) only [hia, hib, go_sem, eq_self, if_true, if_false, reduceCtorEq, Int.reduceToNat, Int.reducePow, Nat.reducePow, Nat.reduceMul, Int.reduceLT, Int.reduceLE, Nat.reduceAdd, Nat.reduceLeDiff, Nat.reduceBEq, Nat.reduceSub, Int.reduceSub, Int.reduceMul, Int.reduceNeg, Int.reduceAdd]
      exact Ret.keep ⟨congrArg bv (hno e), rfl⟩
  · exact Ret.keep ⟨congrArg bv (dect (ext_at hl fun j hj => q2 j (by omega))).symm, rfl⟩
theorem lvars_c {t : List Ty} (ht : TT t) {l : List Int} (hl : l.length ≤ 3000) (H : List ABlk) : ACalls Try.prog 30 [tv t, .d (.sl (l.map kd))] H (VarsR t l H) := by
  refine ACalls.into Try.func30 cc30 rr30 fun hcl => ?_
  have htl := ht.s.1
  have no : ¬ VarsP t l → ∀ tl, Ret r30 H.length (VarsR t l H) (some (.tup [.esl, iv 0])) (H ++ tl) := fun h tl => vars_no hcl h _ tl
  have no0 : ¬ VarsP t l → Ret r30 H.length (VarsR t l H) (some (.tup [.esl, iv 0])) H := fun h => by
    have := no h []
    rwa [List.append_nil] at this
  by_cases hg : GoodP t
  rotate_left
  · simp (maxSteps := 2000000) (disch := omega) only [Try.ntmps30, c30, r30, go_sem, eq_self, if_true, if_false, reduceCtorEq, Int.reduceToNat, Int.reducePow, Nat.reducePow, Nat.reduceMul, Int.reduceLT, Int.reduceLE, Nat.reduceAdd, Nat.reduceLeDiff, Nat.reduceBEq, Nat.reduceSub, Int.reduceSub, Int.reduceMul, Int.reduceNeg, Int.reduceAdd]
    refine Cont.mk (sizer_f ht hg _) ?_
    simp (maxSteps := 2000000) (disch := omega) only [go_sem, eq_self, if_true, if_false, reduceCtorEq, Int.reduceToNat, Int.reducePow, Nat.reducePow, Nat.reduceMul, Int.reduceLT, Int.reduceLE, Nat.reduceAdd, Nat.reduceLeDiff, Nat.reduceBEq, Nat.reduceSub, Int.reduceSub, Int.reduceMul, Int.reduceNeg, Int.reduceAdd]
    exact no0 fun h => hg h.1
  simp (maxSteps := 2000000) (disch := omega) only [Try.ntmps30, c30, r30, go_sem, eq_self, if_true, if_false, reduceCtorEq, Int.reduceToNat, Int.reducePow, Nat.reducePow, Nat.reduceMul, Int.reduceLT, Int.reduceLE, Nat.reduceAdd, Nat.reduceLeDiff, Nat.reduceBEq, Nat.reduceSub, Int.reduceSub, Int.reduceMul, Int.reduceNeg, Int.reduceAdd]
  refine Cont.mk (sizer_t ht hg _) ?_
  simp (maxSteps := 2000000) (disch := omega) only [List.length_map, go_sem, eq_self, if_true, if_false, reduceCtorEq, Int.reduceToNat, Int.reducePow, Nat.reducePow, Nat.reduceMul, Int.reduceLT, Int.reduceLE, Nat.reduceAdd, Nat.reduceLeDiff, Nat.reduceBEq, Nat.reduceSub, Int.reduceSub, Int.reduceMul, Int.reduceNeg, Int.reduceAdd]
  have htl2 := hg.len.2
  have hKin : InK (KZ t) t.length := fun a h0 h1 y hy => hg.kidZ ⟨h0, h1⟩ hy
  obtain ⟨M, hM⟩ : ∃ M : Nat → List Int, ∀ i, M i = (l.take i).foldl (updM t (KZ t)) sz0 := ⟨_, fun _ => rfl⟩
  obtain ⟨N, hN⟩ : ∃ N : Nat → Int, ∀ i, N i = endR t (szF t) 0 (l.take i) := ⟨_, fun _ => rfl⟩
  obtain ⟨A, hA⟩ : ∃ A : Nat → List Int, ∀ i, A i = atsR t (szF t) 0 (l.take i) := ⟨_, fun _ => rfl⟩
  have hMl : ∀ i, (M i).length = 256 := fun i => by rw [hM, fold_len]; simp
  have hAl : ∀ i, i ≤ l.length → (A i).length = i := fun i hi => by rw [hA, atsR_len, List.length_take]; omega
  have hNs : ∀ i, i < l.length → N (i + 1) = stepR t (szF t) (N i) (l.getD i 0) := fun i hi => by
    rw [hN, hN, getD_take (d := 0) hi, endR_app]
  have hMs : ∀ i, i < l.length → M (i + 1) = updM t (KZ t) (M i) (l.getD i 0) := fun i hi => by
    rw [hM, hM, getD_take (d := 0) hi, List.foldl_append]; rfl
  have hAs : ∀ i, i < l.length → A (i + 1) = A i ++ [atI t (N i) (l.getD i 0)] := fun i hi => by
    rw [hA, hA, hN, getD_take (d := 0) hi, atsR_app]
  have hN0 : N 0 = 0 := by rw [hN]; rfl
  have hA0 : A 0 = [] := by rw [hA]; rfl
  have hM0 : M 0 = sz0 := by rw [hM]; rfl
  have hNl : N l.length = endR t (szF t) 0 l := by rw [hN, List.take_length]
  have hAL : A l.length = atsR t (szF t) 0 l := by rw [hA, List.take_length]
  have hmem : ∀ i, i < l.length → l.getD i 0 ∈ l := fun i hi => by rw [List.getD_eq_getElem?_getD, List.getElem?_eq_getElem hi]; exact List.getElem_mem _
  -- what comes behind is no less
  have hgrow : (∀ y ∈ l, placeP t y) → ∀ i, i ≤ l.length → N i ≤ endR t (szF t) 0 l := fun hp i hi => by
    have e : endR t (szF t) 0 l = endR t (szF t) (N i) (l.drop i) := by
      rw [hN, endR, endR, endR, ← List.foldl_append, List.take_append_drop]
    have h0 := endR_rng (t := t) (g := szF t) (l := l.take i) (n := 0) (fun y hy => (hg.sz (hp y (List.mem_of_mem_take hy))).1) ⟨by omega, by omega⟩
    rw [← hN] at h0
    rw [e]
    exact (endR_rng (fun y hy => (hg.sz (hp y (List.mem_of_mem_drop hy))).1) ⟨by omega, h0.2⟩).1
  have hb0 : ∀ x l, (H ++ (x :: l))[H.length]? = some x := fun x l => by rw [List.getElem?_append_right (Nat.le_refl _)]; simp
  have hs0 : ∀ x y l, (H ++ (x :: l)).set H.length y = H ++ (y :: l) := fun x y l => by rw [List.set_append_right _ _ (Nat.le_refl _)]; simp
  refine W.loopG (γ := Nat) (fun i => l.length - i) (fun i => [tv t, .any, .any, .any, .esl, iv 0, .ptr H.length 0, .gsl (H.length + 1) 1 ((A i).map kd), iv (N i)] ++ List.replicate 7 .any ++ [.d (.sl (l.map kd)), iv l.length, iv i] ++ List.replicate 30 .any) (fun i => H ++ [szB t (M i), .row 3 1 i]) (fun i => i ≤ l.length ∧ (∀ j, j < i → placeP t (l.getD j 0)) ∧ 0 ≤ N i ∧ N i ≤ 32768 ∧ MOk t (KZ t) (M i)) 0 (by simp only [hN0, hA0, hM0]; exact Wk.slots (by (try simp only [List.replicate, List.cons_append, List.nil_append]); repeat' first | exact WkL.nil | refine WkL.cons (Wk1.rfl _) ?_ | refine WkL.cons Wk1.esl ?_ | refine WkL.cons (Wk1.gsl _ _ _) ?_ | refine WkL.cons (Wk1.any _) ?_)) ⟨by omega, fun j hj => by omega, by rw [hN0]; omega, by rw [hN0]; omega, by rw [hM0]; exact .zero _⟩ (fun i hi => ?_)
  obtain ⟨q1, q2, q3, q4, q5⟩ := hi
  have hal := hAl i q1
  simp (maxSteps := 2000000) (disch := omega) only [c30l0, List.length_map, go_sem, eq_self, if_true, if_false, reduceCtorEq, Int.reduceToNat, Int.reducePow, Nat.reducePow, Nat.reduceMul, Int.reduceLT, Int.reduceLE, Nat.reduceAdd, Nat.reduceLeDiff, Nat.reduceBEq, Nat.reduceSub, Int.reduceSub, Int.reduceMul, Int.reduceNeg, Int.reduceAdd]
  refine Br.dec (fun hc => ?_) (fun hc => ?_) <;> simp (maxSteps := 2000000) (disch := omega) only [go_sem, eq_self, if_true, if_false, reduceCtorEq, Int.reduceToNat, Int.reducePow, Nat.reducePow, Nat.reduceMul, Int.reduceLT, Int.reduceLE, Nat.reduceAdd, Nat.reduceLeDiff, Nat.reduceBEq, Nat.reduceSub, Int.reduceSub, Int.reduceMul, Int.reduceNeg, Int.reduceAdd]
  · have hia := iaA_map (n := 1) kd 0 (l := l) (a := (i : Int)) (by omega) (by omega) rfl
    rw [Int.toNat_natCast] at hia
    have hm := hmem i (by omega)
    have hns := hNs i (by omega)
    have hms := hMs i (by omega)
    have has := hAs i (by omega)
    have hkm : (A i).map kd ++ [kd (atI t (N i) (l.getD i 0))] = (A (i + 1)).map kd := by rw [has]; simp
    have hlk : ((A i).map kd).length = i := by rw [List.length_map]; exact hal
    generalize hx : l.getD i 0 = x at *
    by_cases p1 : x < 0
    · simp (maxSteps := 2000000) (disch := omega) only [hia, List.length_map, go_sem, eq_self, if_true, if_false, reduceCtorEq, Int.reduceToNat, Int.reducePow, Nat.reducePow, Nat.reduceMul, Int.reduceLT, Int.reduceLE, Nat.reduceAdd, Nat.reduceLeDiff, Nat.reduceBEq, Nat.reduceSub, Int.reduceSub, Int.reduceMul, Int.reduceNeg, Int.reduceAdd]
      exact no (fun h => by have := (h.2.1 x hm).1; omega) _
    by_cases p2 : x < t.length
    rotate_left
    · simp (maxSteps := 2000000) (disch := omega) only [hia, List.length_map, go_sem, eq_self, if_true, if_false, reduceCtorEq, Int.reduceToNat, Int.reducePow, Nat.reducePow, Nat.reduceMul, Int.reduceLT, Int.reduceLE, Nat.reduceAdd, Nat.reduceLeDiff, Nat.reduceBEq, Nat.reduceSub, Int.reduceSub, Int.reduceMul, Int.reduceNeg, Int.reduceAdd]
      exact no (fun h => p2 (h.2.1 x hm).2) _
    have px : placeP t x := ⟨by omega, p2⟩
    have hzx := hg.sz px
    have hat := at_ge t (n := N i) x q3
    simp (maxSteps := 2000000) (disch := omega) only [hia, List.length_map, go_sem, eq_self, if_true, if_false, reduceCtorEq, Int.reduceToNat, Int.reducePow, Nat.reducePow, Nat.reduceMul, Int.reduceLT, Int.reduceLE, Nat.reduceAdd, Nat.reduceLeDiff, Nat.reduceBEq, Nat.reduceSub, Int.reduceSub, Int.reduceMul, Int.reduceNeg, Int.reduceAdd]
    refine Cont.mk (place_s ht hg px (hg.sizeK ht px) q3 (by omega) (hMl i) q5 (hb0 _ _)) ?_
    rw [hs0, ← hms]
    have hcc : cutI (atI t (N i) x + szF t x) = cutI (N (i + 1)) := by
      rw [hns]
      unfold stepR cutI; omega
    rw [hcc]
    have hn0 : 0 ≤ N (i + 1) := by rw [hns]; unfold stepR; omega
    have hrow : ∀ x y l, (H ++ (x :: y :: l))[H.length + 1]? = some y := fun x y l => by rw [List.getElem?_append_right (by omega)]; simp
    have hrs : ∀ x y z l, (H ++ (x :: y :: l)).set (H.length + 1) z = H ++ (x :: z :: l) := fun x y z l => by rw [List.set_append_right _ _ (by omega)]; simp
    by_cases hb : N (i + 1) ≤ 32768
    · rw [show cutI (N (i + 1)) = N (i + 1) by unfold cutI; omega]
      simp (maxSteps := 2000000) (disch := omega) only [hlk, hkm, hrow, hrs, go_sem, eq_self, if_true, if_false, reduceCtorEq, Int.reduceToNat, Int.reducePow, Nat.reducePow, Nat.reduceMul, Int.reduceLT, Int.reduceLE, Nat.reduceAdd, Nat.reduceLeDiff, Nat.reduceBEq, Nat.reduceSub, Int.reduceSub, Int.reduceMul, Int.reduceNeg, Int.reduceAdd]
      refine Nxt.mk (i + 1) (by omega) (Wk.slots (by (try simp only [List.replicate, List.cons_append, List.nil_append]); repeat' first | exact WkL.nil | refine WkL.cons (Wk1.rfl _) ?_ | refine WkL.cons Wk1.esl ?_ | refine WkL.cons (Wk1.gsl _ _ _) ?_ | refine WkL.cons (Wk1.any _) ?_)) ⟨by omega, fun j hj => ?_, hn0, hb, ?_⟩
      · rcases Nat.lt_or_ge j i with h | h
        · exact q2 j h
        · rw [show j = i by omega, hx]; exact px
      · rw [hms]
        exact q5.upd hKin (by rw [hMl]; omega) px.1 px.2 fun c hc => hg.sz0 c (hc.rng hKin px.1 px.2).1 (hc.rng hKin px.1 px.2).2
    · rw [show cutI (N (i + 1)) = 32769 by unfold cutI; omega]
      simp (maxSteps := 2000000) (disch := omega) only [hlk, hkm, hrow, hrs, go_sem, eq_self, if_true, if_false, reduceCtorEq, Int.reduceToNat, Int.reducePow, Nat.reducePow, Nat.reduceMul, Int.reduceLT, Int.reduceLE, Nat.reduceAdd, Nat.reduceLeDiff, Nat.reduceBEq, Nat.reduceSub, Int.reduceSub, Int.reduceMul, Int.reduceNeg, Int.reduceAdd]
      refine no (fun h => ?_) _
      have h1 := hgrow h.2.1 (i + 1) (by omega)
      have h2 := h.2.2
      unfold upI at h2
      omega
  · have ei : i = l.length := by omega
    subst ei
    have hpl : ∀ y ∈ l, placeP t y := fun y hy => by
      obtain ⟨j, hj, rfl⟩ := List.getElem_of_mem hy
      have := q2 j (by omega)
      rwa [List.getD_eq_getElem?_getD, List.getElem?_eq_getElem hj] at this
    have hup : upI (N l.length) ≤ 32768 := by unfold upI; omega
    have hV : VarsP t l := ⟨hg, hpl, by rw [← hNl]; exact hup⟩
    exact Ret.drop (.tup [.d (.sl ((varsL t l).map kd)), iv (varsN t l)]) H (Nat.le_refl _) hcl (by rw [varsL, varsN, if_pos hV, if_pos hV, ← hAL, ← hNl]; exact tup2 (.gsl _ _ _)) (by simp [refs, refs.refsL]) ⟨rfl, rfl⟩
end Go.Proofs.Ytlhpcccffmfopaa

/- tables.Sizer.Offset. -/
namespace Go.Proofs.Ytlhpcccffmfopaa
set_option linter.unusedSimpArgs false
set_option linter.unusedVariables false
set_option maxRecDepth 20000
set_option maxHeartbeats 4000000
open Go.RowKit

abbrev offV (p : Int × Int × Bool) : AV := .tup [iv p.1, iv p.2.1, bv p.2.2]
structure MG (t : List Ty) (m : List Int) : Prop where
  len : m.length = 256
  ok : MOk t (KZ t) m
theorem MG.upd {t : List Ty} (hg : GoodP t) {m : List Int} (h : MG t m) {a : Int} (ha : placeP t a) : MG t (updM t (KZ t) m a) := by
  have hKin : InK (KZ t) t.length := fun a h0 h1 y hy => hg.kidZ ⟨h0, h1⟩ hy
  have htl := hg.len.2
  have hl := h.len
  exact ⟨by rw [updM_len]; exact hl, h.ok.upd hKin (by omega) ha.1 ha.2 fun c hc => (hg.sz ⟨(hc.rng hKin ha.1 ha.2).1, (hc.rng hKin ha.1 ha.2).2⟩).1⟩
theorem soff_c {t : List Ty} (ht : TT t) (hg : GoodP t) {a : Int} (ha : RecIn t a) (hsm : szF t a ≤ 32768) (s : ByteArray) {m : List Int} {H : List ABlk} {b : Nat} (hm : MG t m) (hb : H[b]? = some (szB t m)) :
    ACalls Try.prog 47 [.ptr b 0, iv a, sv s] H fun v H' => v = offV (offL t s (chain t 5 a)) ∧ ∃ m', MG t m' ∧ H' = H.set b (szB t m') := by
  refine ACalls.into Try.func47 cc47 rr47 fun hcl => ?_
  have htl := ht.s.1
  have hlen := hg.len
  have hbl := lt_of_at hb
  obtain ⟨l, hl⟩ : ∃ l, l = chain t 5 a := ⟨_, rfl⟩
  have l5 : l.length ≤ 5 := by rw [hl]; exact hg.chain5 ha
  have hst : ∀ i, i < l.length → (tyAt t (l.getD i 0)).base = l.getD (i + 1) 0 := by rw [hl]; exact chain_step (hg.chain5 ha)
  have hrc : ∀ c ∈ l, RecIn t c := by rw [hl]; exact hg.chain_rec ha
  have hsc : ∀ c ∈ l, szF t c ≤ 32768 := by rw [hl]; exact fun c hc => Int.le_trans (chain_small hg ha c hc) hsm
  have h0 : l.getD 0 0 = a := by obtain ⟨r, hr⟩ := chain_ne t 5 a; rw [hl, hr]; rfl
  rw [← hl]
  clear hl
  obtain ⟨G, hG⟩ : ∃ G : List Int → List ABlk, ∀ m, G m = H.set b (szB t m) := ⟨_, fun _ => rfl⟩
  have hGl : ∀ m, (G m).length = H.length := fun m => by rw [hG, List.length_set]
  have hGb : ∀ m l, (G m ++ l)[b]? = some (szB t m) := fun m l => at_app (by rw [hG, List.getElem?_set_self hbl]) l
  have hGb0 : ∀ m, (G m)[b]? = some (szB t m) := fun m => by rw [hG, List.getElem?_set_self hbl]
  have hGs : ∀ m l y, (G m ++ l).set b (szB t y) = G y ++ l := fun m l y => by
    rw [List.set_append_left _ _ (by rw [hGl]; exact hbl), hG, hG, List.set_set]
  have hGs0 : ∀ m y, (G m).set b (szB t y) = G y := fun m y => by rw [hG, hG, List.set_set]
  have hGc : ∀ m, cl (G m) := fun m => by rw [hG]; exact hcl.put (szB_refs t m)
  have hG0 : H = G m := by rw [hG]; exact (put_self hb).symm
  have hq : ∀ m c l, (G m ++ (c :: l))[H.length]? = some c := fun m c l => by rw [List.getElem?_append_right (by rw [hGl]; exact Nat.le_refl _), hGl]; simp
  simp (maxSteps := 2000000) (disch := omega) only [Try.ntmps47, c47, r47, go_sem, eq_self, if_true, if_false, reduceCtorEq, Int.reduceToNat, Int.reducePow, Nat.reducePow, Nat.reduceMul, Int.reduceLT, Int.reduceLE, Nat.reduceAdd, Nat.reduceLeDiff, Nat.reduceBEq, Nat.reduceSub, Int.reduceSub, Int.reduceMul, Int.reduceNeg, Int.reduceAdd]
  obtain ⟨S, hS⟩ : ∃ S : Nat → List AV, ∀ i, S i = [.ptr b 0, iv (l.getD i 0), sv s] ++ List.replicate 65 .any := ⟨_, fun _ => rfl⟩
  refine W.loopG (γ := List Int × Nat) (fun g => l.length - g.2) (fun g => S g.2) (fun g => G g.1) (fun g => MG t g.1 ∧ g.2 ≤ l.length ∧ offL t s l = offL t s (l.drop g.2)) (m, 0) (by simp only [hS, h0, ← hG0]; exact Wk.slots (by (try simp only [List.replicate, List.cons_append, List.nil_append]); repeat' first | exact WkL.nil | refine WkL.cons (Wk1.rfl _) ?_ | refine WkL.cons Wk1.esl ?_ | refine WkL.cons (Wk1.gsl _ _ _) ?_ | refine WkL.cons (Wk1.any _) ?_)) ⟨hm, by omega, rfl⟩ (fun g hI => ?_)
  obtain ⟨m1, i⟩ := g
  obtain ⟨q1, q2, q3⟩ := hI
  simp only at q1 q2 q3
  simp only [hS]
  rcases Nat.lt_or_ge i l.length with hi | hi
  rotate_left
  · have e : l.getD i 0 = 0 := by rw [List.getD_eq_getElem?_getD, List.getElem?_eq_none hi]; rfl
    have iax := iaA_ty (t := t) (a := 0) (by omega) (by omega)
    have e0 : tyAt t 0 = bt 0 := tyAt_lt hg.toFrmP (by decide) (by decide)
    have ed : l.drop i = [] := List.drop_eq_nil_of_le hi
    rw [e0] at iax
    simp (maxSteps := 2000000) (disch := omega) only [c47l1, e, iax, Ty.c, hGb0, bt, go_sem, eq_self, if_true, if_false, reduceCtorEq, Int.reduceToNat, Int.reducePow, Nat.reducePow, Nat.reduceMul, Int.reduceLT, Int.reduceLE, Nat.reduceAdd, Nat.reduceLeDiff, Nat.reduceBEq, Nat.reduceSub, Int.reduceSub, Int.reduceMul, Int.reduceNeg, Int.reduceAdd]
    exact Ret.keep ⟨by rw [q3, ed]; rfl, m1, q1, hG m1⟩
  have hmem : l.getD i 0 ∈ l := by
    rw [List.getD_eq_getElem?_getD, List.getElem?_eq_getElem hi]; exact List.getElem_mem _
  have hdr : l.drop i = l.getD i 0 :: l.drop (i + 1) := by
    rw [List.drop_eq_getElem_cons hi, List.getD_eq_getElem?_getD, List.getElem?_eq_getElem hi]; rfl
  have hc := hrc _ hmem
  have hs := hst i hi
  have hcs := hsc _ hmem
  rw [hdr] at q3
  have hyes := fun j => offL_yes (t := t) (s := s) (a := l.getD i 0) (l := l.drop (i + 1)) (i := j)
  have hno := offL_no (t := t) (s := s) (a := l.getD i 0) (l := l.drop (i + 1))
  rw [← q3] at hno
  rw [← q3] at hyes
  clear q3 hdr
  generalize hcc : l.getD i 0 = c at *
  have hpb := rec_base hg hc
  have hzb := hg.sz hpb
  have hkb := hg.sizeK ht hpb
  have hpt : ∀ y ∈ typsL t c, placeP t y := fun y hy => rec_typ hg hc hy
  have hfl := (ht.s.2 _ (tyAt_mem hc.1 hc.2.1)).1
  have f9 := hc.2.2
  have iac := iaA_ty hc.1 hc.2.1
  obtain ⟨N, hN⟩ : ∃ N : Nat → Int, ∀ j, N j = RR t c j := ⟨_, fun _ => rfl⟩
  have hN0 : szF t (tyAt t c).base = N 0 := by rw [hN]; rfl
  have hNr : ∀ j, j ≤ (tyAt t c).fields.length → 0 ≤ N j ∧ N j ≤ 32768 := fun j hj => by
    have h1 := RR_rng hg hc j
    have h2 := RR_le hg hc hcs hj
    rw [hN]; omega
  have hNs : ∀ j, j < (tyAt t c).fields.length → cutI (atI t (N j) ((typsL t c).getD j 0) + szF t ((typsL t c).getD j 0)) = N (j + 1) := fun j hj => by
    have h1 := RR_step hg hc hcs hj
    have h2 := (hNr (j + 1) (by omega)).2
    have h3 : N (j + 1) = atI t (N j) ((typsL t c).getD j 0) + szF t ((typsL t c).getD j 0) := by rw [hN, hN, h1]; rfl
    rw [← h3]; unfold cutI; omega
  have hfa : ∀ j, fAt t c j = atI t (N j) ((typsL t c).getD j 0) := fun j => by rw [hN]; rfl
  have hty : ∀ j, j < (tyAt t c).fields.length → ((tyAt t c).fields.getD j default).typ = (typsL t c).getD j 0 := fun j hj => (typsL_at hj).symm
  have hmm : ∀ j, j < (tyAt t c).fields.length → (typsL t c).getD j 0 ∈ typsL t c := fun j hj => typ_at_mem hg hc hj
  clear hN
  generalize typsL t c = fs at *
  generalize tyAt t c = x at *
  have q1' := q1.upd hg hpb
  simp (maxSteps := 2000000) (disch := omega) only [c47l1, iac, Ty.c, hGb0, f9, go_sem, eq_self, if_true, if_false, reduceCtorEq, Int.reduceToNat, Int.reducePow, Nat.reducePow, Nat.reduceMul, Int.reduceLT, Int.reduceLE, Nat.reduceAdd, Nat.reduceLeDiff, Nat.reduceBEq, Nat.reduceSub, Int.reduceSub, Int.reduceMul, Int.reduceNeg, Int.reduceAdd]
  refine Cont.mk (hkb m1 _ b q1.len q1.ok (hGb0 _)) ?_
  rw [hGs0, hN0]
  simp (maxSteps := 2000000) (disch := omega) only [hGb0, iac, Ty.c, f9, List.length_map, go_sem, eq_self, if_true, if_false, reduceCtorEq, Int.reduceToNat, Int.reducePow, Nat.reducePow, Nat.reduceMul, Int.reduceLT, Int.reduceLE, Nat.reduceAdd, Nat.reduceLeDiff, Nat.reduceBEq, Nat.reduceSub, Int.reduceSub, Int.reduceMul, Int.reduceNeg, Int.reduceAdd]
  obtain ⟨S2, hS2⟩ : ∃ S2 : Nat → List AV, ∀ j, S2 j = [.ptr b 0, iv c, sv s] ++ List.replicate 6 .any ++ [iv (N j)] ++ List.replicate 36 .any ++ [fdv x.fields, iv x.fields.length, iv j] ++ List.replicate 19 .any := ⟨_, fun _ => rfl⟩
  refine W.loopG (γ := List Int × Nat) (fun g => x.fields.length - g.2) (fun g => S2 g.2) (fun g => G g.1) (fun g => MG t g.1 ∧ g.2 ≤ x.fields.length ∧ ∀ j, j < g.2 → (x.fields.getD j default).name ≠ s) (_, 0) (by rw [hS2]; exact Wk.slots (by (try simp only [List.replicate, List.cons_append, List.nil_append]); repeat' first | exact WkL.nil | refine WkL.cons (Wk1.rfl _) ?_ | refine WkL.cons Wk1.esl ?_ | refine WkL.cons (Wk1.gsl _ _ _) ?_ | refine WkL.cons (Wk1.any _) ?_)) ⟨q1', by omega, fun j hj => by omega⟩ (fun g hI => ?_)
  obtain ⟨m2, j⟩ := g
  obtain ⟨p1, p2, p3⟩ := hI
  simp only at p1 p2 p3
  simp only [hS2]
  simp (maxSteps := 2000000) (disch := omega) only [c47l0, List.length_map, go_sem, eq_self, if_true, if_false, reduceCtorEq, Int.reduceToNat, Int.reducePow, Nat.reducePow, Nat.reduceMul, Int.reduceLT, Int.reduceLE, Nat.reduceAdd, Nat.reduceLeDiff, Nat.reduceBEq, Nat.reduceSub, Int.reduceSub, Int.reduceMul, Int.reduceNeg, Int.reduceAdd]
  refine Br.dec (fun hcj => ?_) (fun hcj => ?_) <;> simp (maxSteps := 2000000) (disch := omega) only [go_sem, eq_self, if_true, if_false, reduceCtorEq, Int.reduceToNat, Int.reducePow, Nat.reducePow, Nat.reduceMul, Int.reduceLT, Int.reduceLE, Nat.reduceAdd, Nat.reduceLeDiff, Nat.reduceBEq, Nat.reduceSub, Int.reduceSub, Int.reduceMul, Int.reduceNeg, Int.reduceAdd]
  · have hia := iaA_fd (t := x.fields) (a := (j : Int)) (by omega) (by omega)
    rw [fdAt, Int.toNat_natCast] at hia
    have hyj := hyes j (by omega)
    have htj := hty j (by omega)
    have hnj := hNs j (by omega)
    have hmj := hmm j (by omega)
    have hfj := hfa j
    obtain ⟨n1, n2⟩ := hNr j (by omega)
    have hlast : (x.fields.getD j default).name ≠ s → ∀ k, k < j + 1 → (x.fields.getD k default).name ≠ s := fun h k hk => by
      rcases Nat.lt_or_ge k j with h' | h'
      · exact p3 k h'
      · rw [show k = j by omega]; exact h
    generalize x.fields.getD j default = f at *
    generalize fs.getD j 0 = y at *
    have hpy := hpt y hmj
    simp (maxSteps := 2000000) (disch := omega) only [hia, Fd.c, go_sem, eq_self, if_true, if_false, reduceCtorEq, Int.reduceToNat, Int.reducePow, Nat.reducePow, Nat.reduceMul, Int.reduceLT, Int.reduceLE, Nat.reduceAdd, Nat.reduceLeDiff, Nat.reduceBEq, Nat.reduceSub, Int.reduceSub, Int.reduceMul, Int.reduceNeg, Int.reduceAdd]
    rw [htj]
    refine Cont.mk (place_s ht hg hpy (hg.sizeK ht hpy) n1 (by omega) p1.len p1.ok (hGb m2 _)) ?_
    rw [hnj, hGs]
    simp (maxSteps := 2000000) (disch := omega) only [hq, hGl, go_sem, eq_self, if_true, if_false, reduceCtorEq, Int.reduceToNat, Int.reducePow, Nat.reducePow, Nat.reduceMul, Int.reduceLT, Int.reduceLE, Nat.reduceAdd, Nat.reduceLeDiff, Nat.reduceBEq, Nat.reduceSub, Int.reduceSub, Int.reduceMul, Int.reduceNeg, Int.reduceAdd]
    refine Br.dec (fun hnm => ?_) (fun hnm => ?_) <;> simp (maxSteps := 2000000) (disch := omega) only [hq, hGl, go_sem, eq_self, if_true, if_false, reduceCtorEq, Int.reduceToNat, Int.reducePow, Nat.reducePow, Nat.reduceMul, Int.reduceLT, Int.reduceLE, Nat.reduceAdd, Nat.reduceLeDiff, Nat.reduceBEq, Nat.reduceSub, Int.reduceSub, Int.reduceMul, Int.reduceNeg, Int.reduceAdd]
    · refine W.pchain follows (by decide +kernel) ?_
      simp (maxSteps := 2000000) (disch := omega) only [hq, hGl, go_sem, eq_self, if_true, if_false, reduceCtorEq, Int.reduceToNat, Int.reducePow, Nat.reducePow, Nat.reduceMul, Int.reduceLT, Int.reduceLE, Nat.reduceAdd, Nat.reduceLeDiff, Nat.reduceBEq, Nat.reduceSub, Int.reduceSub, Int.reduceMul, Int.reduceNeg, Int.reduceAdd]
      refine Ret.drop (offV (offL t s l)) (G _) (by rw [hGl]; exact Nat.le_refl _) (hGc _) ?_ (by simp [refs, refs.refsL]) ⟨rfl, _, p1.upd hg hpy, hG _⟩
      rw [hyj hnm p3, hfj, ← htj]
      exact .rfl _
    · refine Nxt.mk (updM t (KZ t) m2 y, j + 1) (by simp only; omega) (Wk.drop (by (try simp only [List.replicate, List.cons_append, List.nil_append]); repeat' first | exact WkL.nil | refine WkL.cons (Wk1.rfl _) ?_ | refine WkL.cons Wk1.esl ?_ | refine WkL.cons (Wk1.gsl _ _ _) ?_ | refine WkL.cons (Wk1.any _) ?_) (by simp [hGl]) (hGc _) (fun r hr => ?_)) ⟨p1.upd hg hpy, by simp only; omega, hlast hnm⟩
      simp only [hS2, refs, refs.refsL, List.replicate, List.cons_append, List.nil_append, List.append_nil, List.mem_cons, List.not_mem_nil, or_false, List.append_assoc] at hr
      rcases hr with rfl
      rw [hGl]; exact hbl
  · have ej : j = x.fields.length := by omega
    subst ej
    simp (maxSteps := 2000000) (disch := omega) only [hGb0, iac, Ty.c, f9, go_sem, eq_self, if_true, if_false, reduceCtorEq, Int.reduceToNat, Int.reducePow, Nat.reducePow, Nat.reduceMul, Int.reduceLT, Int.reduceLE, Nat.reduceAdd, Nat.reduceLeDiff, Nat.reduceBEq, Nat.reduceSub, Int.reduceSub, Int.reduceMul, Int.reduceNeg, Int.reduceAdd]
    rw [hs]
    exact Nxt.mk (m2, i + 1) (by simp only; omega) (Wk.slots (by (try simp only [List.replicate, List.cons_append, List.nil_append]); repeat' first | exact WkL.nil | refine WkL.cons (Wk1.rfl _) ?_ | refine WkL.cons Wk1.esl ?_ | refine WkL.cons (Wk1.gsl _ _ _) ?_ | refine WkL.cons (Wk1.any _) ?_)) ⟨p1, by simp only; omega, hno p3⟩
end Go.Proofs.Ytlhpcccffmfopaa

/- layout.Offset. -/
namespace Go.Proofs.Ytlhpcccffmfopaa
set_option linter.unusedSimpArgs false
set_option linter.unusedVariables false
set_option maxRecDepth 20000
set_option maxHeartbeats 4000000
open Go.RowKit

theorem offF_no {t : List Ty} {a : Int} {s : ByteArray} (h : ¬ (GoodP t ∧ RecIn t a ∧ szF t a ≤ 32768)) : offF t a s = (0, 0, false) := if_neg h
theorem tup3 {x y z : AV} : Wk1 (.tup [x, y, z]) (.tup [x, y, z]) := .rfl _
theorem soff_no {t : List Ty} (ht : TT t) (hg : GoodP t) {a : Int} (ha : placeP t a) (f9 : (tyAt t a).form ≠ 9) (s : ByteArray) {m : List Int} {H : List ABlk} {b : Nat} (hb : H[b]? = some (szB t m)) :
    ACalls Try.prog 47 [.ptr b 0, iv a, sv s] H fun v H' => v = offV (0, 0, false) ∧ H' = H := by
  refine ACalls.into Try.func47 cc47 rr47 fun hcl => ?_
  have iax := iaA_ty ha.1 ha.2
  generalize tyAt t a = x at *
  simp (maxSteps := 2000000) (disch := omega) only [Try.ntmps47, c47, r47, go_sem, eq_self, if_true, if_false, reduceCtorEq, Int.reduceToNat, Int.reducePow, Nat.reducePow, Nat.reduceMul, Int.reduceLT, Int.reduceLE, Nat.reduceAdd, Nat.reduceLeDiff, Nat.reduceBEq, Nat.reduceSub, Int.reduceSub, Int.reduceMul, Int.reduceNeg, Int.reduceAdd]
  refine W.loopG (γ := Unit) (fun _ => 0) (fun _ => [.ptr b 0, iv a, sv s] ++ List.replicate 65 .any) (fun _ => H) (fun _ => True) () (Wk.slots (by (try simp only [List.replicate, List.cons_append, List.nil_append]); repeat' first | exact WkL.nil | refine WkL.cons (Wk1.rfl _) ?_ | refine WkL.cons Wk1.esl ?_ | refine WkL.cons (Wk1.gsl _ _ _) ?_ | refine WkL.cons (Wk1.any _) ?_)) trivial (fun _ _ => ?_)
  simp (maxSteps := 2000000) (disch := omega) only [c47l1, iax, Ty.c, hb, go_sem, eq_self, if_true, if_false, reduceCtorEq, Int.reduceToNat, Int.reducePow, Nat.reducePow, Nat.reduceMul, Int.reduceLT, Int.reduceLE, Nat.reduceAdd, Nat.reduceLeDiff, Nat.reduceBEq, Nat.reduceSub, Int.reduceSub, Int.reduceMul, Int.reduceNeg, Int.reduceAdd]
  exact Ret.keep ⟨rfl, rfl⟩
theorem loff_c {t : List Ty} (ht : TT t) (a : Int) (s : ByteArray) (H : List ABlk) : ACalls Try.prog 28 [tv t, iv a, sv s] H fun v H' => v = offV (offF t a s) ∧ H' = H := by
  refine ACalls.into Try.func28 cc28 rr28 fun hcl => ?_
  have fin : ∀ p, p = offF t a s → ∀ l, Ret r28 H.length (fun v H' => v = offV (offF t a s) ∧ H' = H) (some (offV p)) (H ++ l) := fun n e l => by
    rw [e]; exact Ret.drop _ H (Nat.le_refl _) hcl (.rfl _) (by simp [refs, refs.refsL]) ⟨rfl, rfl⟩
  have fin0 : ∀ p, p = offF t a s → Ret r28 H.length (fun v H' => v = offV (offF t a s) ∧ H' = H) (some (offV p)) H := fun n e => by
    rw [e]; exact Ret.keep ⟨rfl, rfl⟩
  have htl := ht.s.1
  by_cases hg : GoodP t
  rotate_left
  · simp (maxSteps := 2000000) (disch := omega) only [Try.ntmps28, c28, r28, go_sem, eq_self, if_true, if_false, reduceCtorEq, Int.reduceToNat, Int.reducePow, Nat.reducePow, Nat.reduceMul, Int.reduceLT, Int.reduceLE, Nat.reduceAdd, Nat.reduceLeDiff, Nat.reduceBEq, Nat.reduceSub, Int.reduceSub, Int.reduceMul, Int.reduceNeg, Int.reduceAdd]
    refine Cont.mk (sizer_f ht hg _) ?_
    simp (maxSteps := 2000000) (disch := omega) only [go_sem, eq_self, if_true, if_false, reduceCtorEq, Int.reduceToNat, Int.reducePow, Nat.reducePow, Nat.reduceMul, Int.reduceLT, Int.reduceLE, Nat.reduceAdd, Nat.reduceLeDiff, Nat.reduceBEq, Nat.reduceSub, Int.reduceSub, Int.reduceMul, Int.reduceNeg, Int.reduceAdd]
    exact fin0 (0, 0, false) (offF_no fun h => hg h.1).symm
  simp (maxSteps := 2000000) (disch := omega) only [Try.ntmps28, c28, r28, go_sem, eq_self, if_true, if_false, reduceCtorEq, Int.reduceToNat, Int.reducePow, Nat.reducePow, Nat.reduceMul, Int.reduceLT, Int.reduceLE, Nat.reduceAdd, Nat.reduceLeDiff, Nat.reduceBEq, Nat.reduceSub, Int.reduceSub, Int.reduceMul, Int.reduceNeg, Int.reduceAdd]
  refine Cont.mk (sizer_t ht hg _) ?_
  have no : ¬ placeP t a → (0, 0, false) = offF t a s := fun h => (offF_no fun k => h ⟨k.2.1.1, k.2.1.2.1⟩).symm
  by_cases a0 : a < 0
  · simp (maxSteps := 2000000) (disch := omega) only [go_sem, eq_self, if_true, if_false, reduceCtorEq, Int.reduceToNat, Int.reducePow, Nat.reducePow, Nat.reduceMul, Int.reduceLT, Int.reduceLE, Nat.reduceAdd, Nat.reduceLeDiff, Nat.reduceBEq, Nat.reduceSub, Int.reduceSub, Int.reduceMul, Int.reduceNeg, Int.reduceAdd]
    exact fin (0, 0, false) (no fun h => by have := h.1; omega) _
  by_cases a1 : a < t.length
  rotate_left
  · simp (maxSteps := 2000000) (disch := omega) only [List.length_map, go_sem, eq_self, if_true, if_false, reduceCtorEq, Int.reduceToNat, Int.reducePow, Nat.reducePow, Nat.reduceMul, Int.reduceLT, Int.reduceLE, Nat.reduceAdd, Nat.reduceLeDiff, Nat.reduceBEq, Nat.reduceSub, Int.reduceSub, Int.reduceMul, Int.reduceNeg, Int.reduceAdd]
    exact fin (0, 0, false) (no fun h => a1 h.2) _
  have ha : placeP t a := ⟨by omega, a1⟩
  have hb0 : ∀ x, (H ++ [x])[H.length]? = some x := fun x => by rw [List.getElem?_append_right (Nat.le_refl _)]; simp
  have hs0 : ∀ x y, (H ++ [x]).set H.length y = H ++ [y] := fun x y => by rw [List.set_append_right _ _ (Nat.le_refl _)]; simp
  have hk := hg.sizeK ht ha sz0 (H ++ [szB t sz0]) H.length (by simp) (.zero _) (hb0 _)
  have hm0 : MG t sz0 := ⟨by simp, .zero _⟩
  have hm1 := hm0.upd hg ha
  simp (maxSteps := 2000000) (disch := omega) only [List.length_map, go_sem, eq_self, if_true, if_false, reduceCtorEq, Int.reduceToNat, Int.reducePow, Nat.reducePow, Nat.reduceMul, Int.reduceLT, Int.reduceLE, Nat.reduceAdd, Nat.reduceLeDiff, Nat.reduceBEq, Nat.reduceSub, Int.reduceSub, Int.reduceMul, Int.reduceNeg, Int.reduceAdd]
  refine Cont.mk hk ?_
  rw [hs0]
  by_cases hz : szF t a ≤ 32768
  rotate_left
  · simp (maxSteps := 2000000) (disch := omega) only [go_sem, eq_self, if_true, if_false, reduceCtorEq, Int.reduceToNat, Int.reducePow, Nat.reducePow, Nat.reduceMul, Int.reduceLT, Int.reduceLE, Nat.reduceAdd, Nat.reduceLeDiff, Nat.reduceBEq, Nat.reduceSub, Int.reduceSub, Int.reduceMul, Int.reduceNeg, Int.reduceAdd]
    exact fin (0, 0, false) (offF_no fun h => hz h.2.2).symm _
  simp (maxSteps := 2000000) (disch := omega) only [go_sem, eq_self, if_true, if_false, reduceCtorEq, Int.reduceToNat, Int.reducePow, Nat.reducePow, Nat.reduceMul, Int.reduceLT, Int.reduceLE, Nat.reduceAdd, Nat.reduceLeDiff, Nat.reduceBEq, Nat.reduceSub, Int.reduceSub, Int.reduceMul, Int.reduceNeg, Int.reduceAdd]
  by_cases f9 : (tyAt t a).form = 9
  · refine Cont.rel (soff_c ht hg ⟨ha.1, ha.2, f9⟩ hz s hm1 (hb0 _)) ?_
    rintro v H' ⟨rfl, m', _, rfl⟩
    rw [hs0]
    have e : offL t s (chain t 5 a) = offF t a s := (if_pos ⟨hg, ⟨ha.1, ha.2, f9⟩, hz⟩).symm
    rw [e]
    obtain ⟨x, y, z⟩ := offF t a s
    simp (maxSteps := 2000000) (disch := omega) only [go_sem, eq_self, if_true, if_false, reduceCtorEq, Int.reduceToNat, Int.reducePow, Nat.reducePow, Nat.reduceMul, Int.reduceLT, Int.reduceLE, Nat.reduceAdd, Nat.reduceLeDiff, Nat.reduceBEq, Nat.reduceSub, Int.reduceSub, Int.reduceMul, Int.reduceNeg, Int.reduceAdd]
    exact Ret.drop (offV (x, y, z)) H (Nat.le_refl _) hcl (.rfl _) (by simp [refs, refs.refsL]) ⟨rfl, rfl⟩
  · refine Cont.mk (soff_no ht hg ha f9 s (hb0 _)) ?_
    simp (maxSteps := 2000000) (disch := omega) only [go_sem, eq_self, if_true, if_false, reduceCtorEq, Int.reduceToNat, Int.reducePow, Nat.reducePow, Nat.reduceMul, Int.reduceLT, Int.reduceLE, Nat.reduceAdd, Nat.reduceLeDiff, Nat.reduceBEq, Nat.reduceSub, Int.reduceSub, Int.reduceMul, Int.reduceNeg, Int.reduceAdd]
    exact fin (0, 0, false) (offF_no fun h => f9 h.2.1.2.2).symm _
end Go.Proofs.Ytlhpcccffmfopaa

/- The reference's Offset. -/
namespace Go.Proofs.Ytlhpcccffmfopaa
set_option linter.unusedSimpArgs false
set_option linter.unusedVariables false
set_option maxRecDepth 20000
set_option maxHeartbeats 4000000
open Go.RowKit

structure MRz (t : List Ty) (m : List Int) : Prop where
  len : m.length = t.length
  ok : MOk t (KR t) m
theorem MRz.upd {t : List Ty} (hg : GoodP t) {m : List Int} (h : MRz t m) {a : Int} (ha : placeP t a) : MRz t (updM t (KR t) m a) := by
  have hl := h.len
  exact ⟨by rw [updM_len]; exact hl, h.ok.upd hg.inR (by omega) ha.1 ha.2 fun c hc => hg.sz0 c (hc.rng hg.inR ha.1 ha.2).1 (hc.rng hg.inR ha.1 ha.2).2⟩
theorem MRz.fold {t : List Ty} (hg : GoodP t) {m : List Int} (h : MRz t m) {l : List Int} (hl : ∀ y ∈ l, placeP t y) : MRz t (l.foldl (updM t (KR t)) m) :=
  ⟨by rw [fold_len]; exact h.len, h.ok.fold hg.inR hg.sz0 (by rw [h.len]; exact Nat.le_refl _) fun y hy => hl y hy⟩
theorem atsR_at {t : List Ty} {g : Int → Int} : ∀ {l : List Int} {n : Int} {i : Nat}, i < l.length → (atsR t g n l).getD i 0 = atI t (endR t g n (l.take i)) (l.getD i 0)
  | [], n, i, h => absurd h (by simp)
  | a :: l, n, 0, h => rfl
  | a :: l, n, i + 1, h => by
    have ih := atsR_at (t := t) (g := g) (l := l) (n := stepR t g n a) (i := i) (by simpa using h)
    exact ih
theorem roff_c {t : List Ty} (ht : TT t) (a : Int) (s : ByteArray) (H : List ABlk) : ACalls Try.prog 29 [tv t, iv a, sv s] H fun v H' => v = offV (offF t a s) ∧ H' = H := by
  refine ACalls.into Try.func29 cc29 rr29 fun hcl => ?_
  have fin : ∀ p, p = offF t a s → ∀ l, Ret r29 H.length (fun v H' => v = offV (offF t a s) ∧ H' = H) (some (offV p)) (H ++ l) := fun n e l => by
    rw [e]; exact Ret.drop _ H (Nat.le_refl _) hcl (.rfl _) (by simp [refs, refs.refsL]) ⟨rfl, rfl⟩
  have fin0 : ∀ p, p = offF t a s → Ret r29 H.length (fun v H' => v = offV (offF t a s) ∧ H' = H) (some (offV p)) H := fun n e => by
    rw [e]; exact Ret.keep ⟨rfl, rfl⟩
  have htl := ht.s.1
  have no : ¬ (GoodP t ∧ RecIn t a ∧ szF t a ≤ 32768) → (0, 0, false) = offF t a s := fun h => (offF_no h).symm
  simp (maxSteps := 2000000) (disch := omega) only [Try.ntmps29, c29, r29, go_sem, eq_self, if_true, if_false, reduceCtorEq, Int.reduceToNat, Int.reducePow, Nat.reducePow, Nat.reduceMul, Int.reduceLT, Int.reduceLE, Nat.reduceAdd, Nat.reduceLeDiff, Nat.reduceBEq, Nat.reduceSub, Int.reduceSub, Int.reduceMul, Int.reduceNeg, Int.reduceAdd]
  refine Cont.mk (rsz_c ht a H) ?_
  by_cases hz : szL t a ≤ 32768
  rotate_left
  · simp (maxSteps := 2000000) (disch := omega) only [go_sem, eq_self, if_true, if_false, reduceCtorEq, Int.reduceToNat, Int.reducePow, Nat.reducePow, Nat.reduceMul, Int.reduceLT, Int.reduceLE, Nat.reduceAdd, Nat.reduceLeDiff, Nat.reduceBEq, Nat.reduceSub, Int.reduceSub, Int.reduceMul, Int.reduceNeg, Int.reduceAdd]
    refine fin0 (0, 0, false) (no fun h => hz ?_)
    rw [szL, if_pos ⟨h.1, h.2.1.1, h.2.1.2.1⟩]; exact h.2.2
  by_cases a0 : a < 0
  · simp (maxSteps := 2000000) (disch := omega) only [go_sem, eq_self, if_true, if_false, reduceCtorEq, Int.reduceToNat, Int.reducePow, Nat.reducePow, Nat.reduceMul, Int.reduceLT, Int.reduceLE, Nat.reduceAdd, Nat.reduceLeDiff, Nat.reduceBEq, Nat.reduceSub, Int.reduceSub, Int.reduceMul, Int.reduceNeg, Int.reduceAdd]
    exact fin0 (0, 0, false) (no fun h => by have := h.2.1.1; omega)
  by_cases a1 : a < t.length
  rotate_left
  · simp (maxSteps := 2000000) (disch := omega) only [List.length_map, go_sem, eq_self, if_true, if_false, reduceCtorEq, Int.reduceToNat, Int.reducePow, Nat.reducePow, Nat.reduceMul, Int.reduceLT, Int.reduceLE, Nat.reduceAdd, Nat.reduceLeDiff, Nat.reduceBEq, Nat.reduceSub, Int.reduceSub, Int.reduceMul, Int.reduceNeg, Int.reduceAdd]
    exact fin0 (0, 0, false) (no fun h => a1 h.2.1.2.1)
  have ha : placeP t a := ⟨by omega, a1⟩
  simp (maxSteps := 2000000) (disch := omega) only [List.length_map, go_sem, eq_self, if_true, if_false, reduceCtorEq, Int.reduceToNat, Int.reducePow, Nat.reducePow, Nat.reduceMul, Int.reduceLT, Int.reduceLE, Nat.reduceAdd, Nat.reduceLeDiff, Nat.reduceBEq, Nat.reduceSub, Int.reduceSub, Int.reduceMul, Int.reduceNeg, Int.reduceAdd]
  refine Cont.mk (rgood_c ht.s ht.n ht.k _) ?_
  by_cases hg : GoodP t
  rotate_left
  · rw [good_f hg]
    simp (maxSteps := 2000000) (disch := omega) only [go_sem, eq_self, if_true, if_false, reduceCtorEq, Int.reduceToNat, Int.reducePow, Nat.reducePow, Nat.reduceMul, Int.reduceLT, Int.reduceLE, Nat.reduceAdd, Nat.reduceLeDiff, Nat.reduceBEq, Nat.reduceSub, Int.reduceSub, Int.reduceMul, Int.reduceNeg, Int.reduceAdd]
    exact fin0 (0, 0, false) (no fun h => hg h.1)
  rw [good_t hg]
  rw [szL, if_pos ⟨hg, ha⟩] at hz
  have iax := iaA_ty ha.1 ha.2
  have hrec : (tyAt t a).form = 9 → RecIn t a := fun f => ⟨ha.1, ha.2, f⟩
  have hnr : (tyAt t a).form ≠ 9 → ¬ RecIn t a := fun f h => f h.2.2
  generalize tyAt t a = x0 at *
  by_cases f9 : x0.form = 9
  rotate_left
  · simp (maxSteps := 2000000) (disch := omega) only [iax, Ty.c, go_sem, eq_self, if_true, if_false, reduceCtorEq, Int.reduceToNat, Int.reducePow, Nat.reducePow, Nat.reduceMul, Int.reduceLT, Int.reduceLE, Nat.reduceAdd, Nat.reduceLeDiff, Nat.reduceBEq, Nat.reduceSub, Int.reduceSub, Int.reduceMul, Int.reduceNeg, Int.reduceAdd]
    exact fin0 (0, 0, false) (no fun h => hnr f9 h.2.1)
  have hr := hrec f9
  simp (maxSteps := 2000000) (disch := omega) only [iax, Ty.c, go_sem, eq_self, if_true, if_false, reduceCtorEq, Int.reduceToNat, Int.reducePow, Nat.reducePow, Nat.reduceMul, Int.reduceLT, Int.reduceLE, Nat.reduceAdd, Nat.reduceLeDiff, Nat.reduceBEq, Nat.reduceSub, Int.reduceSub, Int.reduceMul, Int.reduceNeg, Int.reduceAdd]
  refine Cont.mk (newsizer_c htl _) ?_
  simp (maxSteps := 2000000) (disch := omega) only [go_sem, eq_self, if_true, if_false, reduceCtorEq, Int.reduceToNat, Int.reducePow, Nat.reducePow, Nat.reduceMul, Int.reduceLT, Int.reduceLE, Nat.reduceAdd, Nat.reduceLeDiff, Nat.reduceBEq, Nat.reduceSub, Int.reduceSub, Int.reduceMul, Int.reduceNeg, Int.reduceAdd]
  have hoF : offF t a s = offL t s (chain t 5 a) := if_pos ⟨hg, hr, hz⟩
  rw [hoF] at fin ⊢
  clear fin0 no iax hrec hnr hoF
  obtain ⟨l, hl⟩ : ∃ l, l = chain t 5 a := ⟨_, rfl⟩
  have l5 : l.length ≤ 5 := by rw [hl]; exact hg.chain5 hr
  have hst : ∀ i, i < l.length → (tyAt t (l.getD i 0)).base = l.getD (i + 1) 0 := by rw [hl]; exact chain_step (hg.chain5 hr)
  have hrc : ∀ c ∈ l, RecIn t c := by rw [hl]; exact hg.chain_rec hr
  have hsc : ∀ c ∈ l, szF t c ≤ 32768 := by rw [hl]; exact fun c hc => Int.le_trans (chain_small hg hr c hc) hz
  have h0 : l.getD 0 0 = a := by obtain ⟨r, hr⟩ := chain_ne t 5 a; rw [hl, hr]; rfl
  have hl0 : 0 < l.length := by obtain ⟨r, hr⟩ := chain_ne t 5 a; rw [hl, hr]; simp
  rw [← hl] at fin ⊢
  clear hl
  obtain ⟨G, hG⟩ : ∃ G : List Int → List ABlk, ∀ m, G m = H ++ [kbB m, sbB t H.length] := ⟨_, fun _ => rfl⟩
  have hGl : ∀ m, (G m).length = H.length + 2 := fun m => by rw [hG]; simp
  have hGk : ∀ m l, (G m ++ l)[H.length]? = some (kbB m) := fun m l => by rw [hG, List.append_assoc, List.getElem?_append_right (Nat.le_refl _)]; simp
  have hGb : ∀ m l, (G m ++ l)[H.length + 1]? = some (sbB t H.length) := fun m l => by rw [hG, List.append_assoc, List.getElem?_append_right (by omega)]; simp
  have hGs : ∀ m l y, (G m ++ l).set H.length (kbB y) = G y ++ l := fun m l y => by rw [hG, hG, List.append_assoc, List.set_append_right _ _ (Nat.le_refl _)]; simp
  have hGc : ∀ m, cl (G m) := fun m => by
    rw [hG]
    refine hcl.append fun k hk r hr => ?_
    simp only [List.mem_cons, List.not_mem_nil, or_false] at hk
    rcases hk with rfl | rfl
    · rw [kbB_refs] at hr; cases hr
    · simp [ABlk.refs, refs.refsL, refs] at hr
      rw [hr]; simp
  have hq : ∀ m c l, (G m ++ (c :: l))[H.length + 2]? = some c := fun m c l => by rw [List.getElem?_append_right (by rw [hGl]; exact Nat.le_refl _), hGl]; simp
  have hqs : ∀ m c l x, (G m ++ (c :: l)).set (H.length + 2) x = G m ++ (x :: l) := fun m c l x => by rw [List.set_append_right _ _ (by rw [hGl]; exact Nat.le_refl _), hGl]; simp
  obtain ⟨S, hS⟩ : ∃ S : Nat → List AV, ∀ i, S i = [tv t, iv (l.getD i 0), sv s, .any, .any, .any, .any, .any, .any, .any, .ptr (H.length + 1) 0] ++ List.replicate 84 .any := ⟨_, fun _ => rfl⟩
  have hG0 : H ++ [kbB (rz0 t), sbB t H.length] = G (rz0 t) := (hG _).symm
  rw [hG0]
  refine W.loopG (γ := List Int × Nat) (fun g => l.length - g.2) (fun g => S g.2) (fun g => G g.1) (fun g => MRz t g.1 ∧ g.2 < l.length ∧ offL t s l = offL t s (l.drop g.2)) (rz0 t, 0) (by simp only [hS, h0]; exact Wk.slots (by (try simp only [List.replicate, List.cons_append, List.nil_append]); repeat' first | exact WkL.nil | refine WkL.cons (Wk1.rfl _) ?_ | refine WkL.cons Wk1.esl ?_ | refine WkL.cons (Wk1.gsl _ _ _) ?_ | refine WkL.cons (Wk1.any _) ?_)) ⟨⟨by simp, .zero _⟩, hl0, rfl⟩ (fun g hI => ?_)
  obtain ⟨m1, i⟩ := g
  obtain ⟨q1, hi, q3⟩ := hI
  simp only at q1 hi q3
  simp only [hS]
  have hmem : l.getD i 0 ∈ l := by
    rw [List.getD_eq_getElem?_getD, List.getElem?_eq_getElem hi]; exact List.getElem_mem _
  have hdr : l.drop i = l.getD i 0 :: l.drop (i + 1) := by
    rw [List.drop_eq_getElem_cons hi, List.getD_eq_getElem?_getD, List.getElem?_eq_getElem hi]; rfl
  have hc := hrc _ hmem
  have hs := hst i hi
  have hcs := hsc _ hmem
  rw [hdr] at q3
  have hyes := fun j => offL_yes (t := t) (s := s) (a := l.getD i 0) (l := l.drop (i + 1)) (i := j)
  have hno := offL_no (t := t) (s := s) (a := l.getD i 0) (l := l.drop (i + 1))
  rw [← q3] at hno
  rw [← q3] at hyes
  clear q3 hdr
  have hlast : (tyAt t (l.getD i 0)).base = 0 → l.drop (i + 1) = [] := fun e => by
    rcases Nat.lt_or_ge (i + 1) l.length with h | h
    · have h1 := hrc (l.getD (i + 1) 0) (by rw [List.getD_eq_getElem?_getD, List.getElem?_eq_getElem h]; exact List.getElem_mem _)
      have h2 := (hg.rec_ h1).1
      rw [hs] at e; omega
    · exact List.drop_eq_nil_of_le h
  have hmore : (tyAt t (l.getD i 0)).base ≠ 0 → i + 1 < l.length := fun e => by
    rcases Nat.lt_or_ge (i + 1) l.length with h | h
    · exact h
    · exact absurd (by rw [hs, List.getD_eq_getElem?_getD, List.getElem?_eq_none h]; rfl) e
  generalize hcc : l.getD i 0 = c at *
  have hpb := rec_base hg hc
  have hzb := hg.sz hpb
  have hkb := hg.rsizeK ht hpb
  have hpt : ∀ y ∈ typsL t c, placeP t y := fun y hy => rec_typ hg hc hy
  have hfl := (ht.s.2 _ (tyAt_mem hc.1 hc.2.1)).1
  have f9 := hc.2.2
  have iac := iaA_ty hc.1 hc.2.1
  have hfL : typsL t c = (tyAt t c).fields.map Fd.typ := rfl
  have hfa : ∀ j, j < (tyAt t c).fields.length → (atsR t (szF t) (szF t (tyAt t c).base) (typsL t c)).getD j 0 = fAt t c j := fun j hj => atsR_at (by rw [typsL_len]; exact hj)
  have hal : (atsR t (szF t) (szF t (tyAt t c).base) (typsL t c)).length = (tyAt t c).fields.length := by rw [atsR_len, typsL_len]
  have hty : ∀ j, j < (tyAt t c).fields.length → ((tyAt t c).fields.getD j default).typ = (typsL t c).getD j 0 := fun j hj => (typsL_at hj).symm
  have hfsl : (typsL t c).length ≤ 3000 := by rw [typsL_len]; exact hfl
  have hfc := fields_c (x := tyAt t c) hfl
  rw [← hfL] at hfc
  have z0 := hg.sz_0
  clear hfL
  generalize typsL t c = fs at *
  generalize tyAt t c = x at *
  have hts : ∀ z, z = 0 ∨ z = szF t x.base → 0 ≤ z ∧ z ≤ 32769 := fun z h => by omega
  have q1' := q1.upd hg hpb
  have hrange : szF t x.base = 0 ∨ True := .inr trivial
  by_cases e : x.base = 0
  · have ez : szF t x.base = 0 := by rw [e]; exact z0
    have hl1 := hlast e
    have ke := feq e
    rw [ez] at hfa hal
    simp (maxSteps := 2000000) (disch := omega) only [c29l1, iac, Ty.c, hq, hqs, hGl, go_sem, eq_self, if_true, if_false, reduceCtorEq, Int.reduceToNat, Int.reducePow, Nat.reducePow, Nat.reduceMul, Int.reduceLT, Int.reduceLE, Nat.reduceAdd, Nat.reduceLeDiff, Nat.reduceBEq, Nat.reduceSub, Int.reduceSub, Int.reduceMul, Int.reduceNeg, Int.reduceAdd]
    refine Cont.mk (hfc _) ?_
    simp (maxSteps := 2000000) (disch := omega) only [go_sem, eq_self, if_true, if_false, reduceCtorEq, Int.reduceToNat, Int.reducePow, Nat.reducePow, Nat.reduceMul, Int.reduceLT, Int.reduceLE, Nat.reduceAdd, Nat.reduceLeDiff, Nat.reduceBEq, Nat.reduceSub, Int.reduceSub, Int.reduceMul, Int.reduceNeg, Int.reduceAdd]
    refine Cont.mk (laid_c ht hg hfsl hpt (fun y hy => hg.rsizeK ht (hpt y hy)) (Int.le_refl 0) (by omega) q1.len q1.ok (hGb _ _) (hGk _ _) (by omega)) ?_
    rw [hGs]
    simp (maxSteps := 2000000) (disch := omega) only [hq, go_sem, eq_self, if_true, if_false, reduceCtorEq, Int.reduceToNat, Int.reducePow, Nat.reducePow, Nat.reduceMul, Int.reduceLT, Int.reduceLE, Nat.reduceAdd, Nat.reduceLeDiff, Nat.reduceBEq, Nat.reduceSub, Int.reduceSub, Int.reduceMul, Int.reduceNeg, Int.reduceAdd]
    have q3 := q1.fold hg hpt
    generalize List.foldl (updM t (KR t)) m1 fs = m3 at *
    generalize atsR t (szF t) 0 fs = A at *
    refine W.loopG (γ := Nat) (fun j => x.fields.length - j) (fun j => [tv t, iv c, sv s, .any, .any, .any, .any, .any, .any, .any, .ptr (H.length + 1) 0, .ptr (H.length + 2) 0, .any, .d (.sl (A.map kd)), .any, iv j] ++ List.replicate 79 .any) (fun _ => G m3 ++ [.cells x.cs]) (fun j => j ≤ x.fields.length ∧ ∀ k, k < j → (x.fields.getD k default).name ≠ s) 0 (Wk.slots (by (try simp only [List.replicate, List.cons_append, List.nil_append]); repeat' first | exact WkL.nil | refine WkL.cons (Wk1.rfl _) ?_ | refine WkL.cons Wk1.esl ?_ | refine WkL.cons (Wk1.gsl _ _ _) ?_ | refine WkL.cons (Wk1.any _) ?_)) ⟨by omega, fun j hj => by omega⟩ (fun j hI => ?_)
    obtain ⟨p2, p3⟩ := hI
    simp (maxSteps := 2000000) (disch := omega) only [c29l0, List.length_map, hq, Ty.cs, go_sem, eq_self, if_true, if_false, reduceCtorEq, Int.reduceToNat, Int.reducePow, Nat.reducePow, Nat.reduceMul, Int.reduceLT, Int.reduceLE, Nat.reduceAdd, Nat.reduceLeDiff, Nat.reduceBEq, Nat.reduceSub, Int.reduceSub, Int.reduceMul, Int.reduceNeg, Int.reduceAdd]
    refine Br.dec (fun hcj => ?_) (fun hcj => ?_) <;> simp (maxSteps := 2000000) (disch := omega) only [go_sem, eq_self, if_true, if_false, reduceCtorEq, Int.reduceToNat, Int.reducePow, Nat.reducePow, Nat.reduceMul, Int.reduceLT, Int.reduceLE, Nat.reduceAdd, Nat.reduceLeDiff, Nat.reduceBEq, Nat.reduceSub, Int.reduceSub, Int.reduceMul, Int.reduceNeg, Int.reduceAdd]
    · have hia := iaA_fd (t := x.fields) (a := (j : Int)) (by omega) (by omega)
      rw [fdAt, Int.toNat_natCast] at hia
      have hib := iaA_map (n := 1) kd 0 (l := A) (a := (j : Int)) (by omega) (by omega) rfl
      rw [Int.toNat_natCast] at hib
      have hyj := hyes j (by omega)
      have htj := hty j (by omega)
      have hfj := hfa j (by omega)
      have hlst : (x.fields.getD j default).name ≠ s → ∀ k, k < j + 1 → (x.fields.getD k default).name ≠ s := fun h k hk => by
        rcases Nat.lt_or_ge k j with h' | h'
        · exact p3 k h'
        · rw [show k = j by omega]; exact h
      generalize x.fields.getD j default = f at *
      generalize fs.getD j 0 = y at *
      generalize A.getD j 0 = z at *
      simp (maxSteps := 2000000) (disch := omega) only [hia, Fd.c, hq, go_sem, eq_self, if_true, if_false, reduceCtorEq, Int.reduceToNat, Int.reducePow, Nat.reducePow, Nat.reduceMul, Int.reduceLT, Int.reduceLE, Nat.reduceAdd, Nat.reduceLeDiff, Nat.reduceBEq, Nat.reduceSub, Int.reduceSub, Int.reduceMul, Int.reduceNeg, Int.reduceAdd]
      refine Br.dec (fun hnm => ?_) (fun hnm => ?_) <;> simp (maxSteps := 2000000) (disch := omega) only [hia, Fd.c, hq, go_sem, eq_self, if_true, if_false, reduceCtorEq, Int.reduceToNat, Int.reducePow, Nat.reducePow, Nat.reduceMul, Int.reduceLT, Int.reduceLE, Nat.reduceAdd, Nat.reduceLeDiff, Nat.reduceBEq, Nat.reduceSub, Int.reduceSub, Int.reduceMul, Int.reduceNeg, Int.reduceAdd]
      · refine W.pchain follows (by decide +kernel) ?_
        simp (maxSteps := 2000000) (disch := omega) only [hia, hib, Fd.c, hq, go_sem, eq_self, if_true, if_false, reduceCtorEq, Int.reduceToNat, Int.reducePow, Nat.reducePow, Nat.reduceMul, Int.reduceLT, Int.reduceLE, Nat.reduceAdd, Nat.reduceLeDiff, Nat.reduceBEq, Nat.reduceSub, Int.reduceSub, Int.reduceMul, Int.reduceNeg, Int.reduceAdd]
        rw [hyj hnm p3, ← hfj, ← htj] at fin ⊢
        rw [hG, List.append_assoc]
        exact fin (z, f.typ, true) rfl _
      · try simp (maxSteps := 2000000) (disch := omega) only [go_sem, eq_self, if_true, if_false, reduceCtorEq, Int.reduceToNat, Int.reducePow, Nat.reducePow, Nat.reduceMul, Int.reduceLT, Int.reduceLE, Nat.reduceAdd, Nat.reduceLeDiff, Nat.reduceBEq, Nat.reduceSub, Int.reduceSub, Int.reduceMul, Int.reduceNeg, Int.reduceAdd]
        exact Nxt.mk (j + 1) (by omega) (Wk.slots (by (try simp only [List.replicate, List.cons_append, List.nil_append]); repeat' first | exact WkL.nil | refine WkL.cons (Wk1.rfl _) ?_ | refine WkL.cons Wk1.esl ?_ | refine WkL.cons (Wk1.gsl _ _ _) ?_ | refine WkL.cons (Wk1.any _) ?_)) ⟨by omega, hlst hnm⟩
    · have ej : j = x.fields.length := by omega
      subst ej
      simp (maxSteps := 2000000) (disch := omega) only [hq, e, hGl, go_sem, eq_self, if_true, if_false, reduceCtorEq, Int.reduceToNat, Int.reducePow, Nat.reducePow, Nat.reduceMul, Int.reduceLT, Int.reduceLE, Nat.reduceAdd, Nat.reduceLeDiff, Nat.reduceBEq, Nat.reduceSub, Int.reduceSub, Int.reduceMul, Int.reduceNeg, Int.reduceAdd]
      rw [hno p3, hl1] at fin ⊢
      rw [hG, List.append_assoc]
      exact fin (0, 0, false) rfl _
  · have hl1 := hmore e
    simp (maxSteps := 2000000) (disch := omega) only [c29l1, iac, Ty.c, hq, hqs, hGl, go_sem, eq_self, if_true, if_false, reduceCtorEq, Int.reduceToNat, Int.reducePow, Nat.reducePow, Nat.reduceMul, Int.reduceLT, Int.reduceLE, Nat.reduceAdd, Nat.reduceLeDiff, Nat.reduceBEq, Nat.reduceSub, Int.reduceSub, Int.reduceMul, Int.reduceNeg, Int.reduceAdd]
    refine Cont.mk (hkb m1 _ _ _ q1.len q1.ok (hGb _ _) (hGk _ _) (by omega)) ?_
    rw [hGs]
    simp (maxSteps := 2000000) (disch := omega) only [hq, go_sem, eq_self, if_true, if_false, reduceCtorEq, Int.reduceToNat, Int.reducePow, Nat.reducePow, Nat.reduceMul, Int.reduceLT, Int.reduceLE, Nat.reduceAdd, Nat.reduceLeDiff, Nat.reduceBEq, Nat.reduceSub, Int.reduceSub, Int.reduceMul, Int.reduceNeg, Int.reduceAdd]
    refine Cont.mk (hfc _) ?_
    simp (maxSteps := 2000000) (disch := omega) only [go_sem, eq_self, if_true, if_false, reduceCtorEq, Int.reduceToNat, Int.reducePow, Nat.reducePow, Nat.reduceMul, Int.reduceLT, Int.reduceLE, Nat.reduceAdd, Nat.reduceLeDiff, Nat.reduceBEq, Nat.reduceSub, Int.reduceSub, Int.reduceMul, Int.reduceNeg, Int.reduceAdd]
    refine Cont.mk (laid_c ht hg hfsl hpt (fun y hy => hg.rsizeK ht (hpt y hy)) hzb.1 (by omega) q1'.len q1'.ok (hGb _ _) (hGk _ _) (by omega)) ?_
    rw [hGs]
    simp (maxSteps := 2000000) (disch := omega) only [hq, go_sem, eq_self, if_true, if_false, reduceCtorEq, Int.reduceToNat, Int.reducePow, Nat.reducePow, Nat.reduceMul, Int.reduceLT, Int.reduceLE, Nat.reduceAdd, Nat.reduceLeDiff, Nat.reduceBEq, Nat.reduceSub, Int.reduceSub, Int.reduceMul, Int.reduceNeg, Int.reduceAdd]
    have q3 := q1'.fold hg hpt
    generalize List.foldl (updM t (KR t)) (updM t (KR t) m1 x.base) fs = m3 at *
    generalize atsR t (szF t) (szF t x.base) fs = A at *
    refine W.loopG (γ := Nat) (fun j => x.fields.length - j) (fun j => [tv t, iv c, sv s, .any, .any, .any, .any, .any, .any, .any, .ptr (H.length + 1) 0, .ptr (H.length + 2) 0, .any, .d (.sl (A.map kd)), .any, iv j] ++ List.replicate 79 .any) (fun _ => G m3 ++ [.cells x.cs]) (fun j => j ≤ x.fields.length ∧ ∀ k, k < j → (x.fields.getD k default).name ≠ s) 0 (Wk.slots (by (try simp only [List.replicate, List.cons_append, List.nil_append]); repeat' first | exact WkL.nil | refine WkL.cons (Wk1.rfl _) ?_ | refine WkL.cons Wk1.esl ?_ | refine WkL.cons (Wk1.gsl _ _ _) ?_ | refine WkL.cons (Wk1.any _) ?_)) ⟨by omega, fun j hj => by omega⟩ (fun j hI => ?_)
    obtain ⟨p2, p3⟩ := hI
    simp (maxSteps := 2000000) (disch := omega) only [c29l0, List.length_map, hq, Ty.cs, go_sem, eq_self, if_true, if_false, reduceCtorEq, Int.reduceToNat, Int.reducePow, Nat.reducePow, Nat.reduceMul, Int.reduceLT, Int.reduceLE, Nat.reduceAdd, Nat.reduceLeDiff, Nat.reduceBEq, Nat.reduceSub, Int.reduceSub, Int.reduceMul, Int.reduceNeg, Int.reduceAdd]
    refine Br.dec (fun hcj => ?_) (fun hcj => ?_) <;> simp (maxSteps := 2000000) (disch := omega) only [go_sem, eq_self, if_true, if_false, reduceCtorEq, Int.reduceToNat, Int.reducePow, Nat.reducePow, Nat.reduceMul, Int.reduceLT, Int.reduceLE, Nat.reduceAdd, Nat.reduceLeDiff, Nat.reduceBEq, Nat.reduceSub, Int.reduceSub, Int.reduceMul, Int.reduceNeg, Int.reduceAdd]
    · have hia := iaA_fd (t := x.fields) (a := (j : Int)) (by omega) (by omega)
      rw [fdAt, Int.toNat_natCast] at hia
      have hib := iaA_map (n := 1) kd 0 (l := A) (a := (j : Int)) (by omega) (by omega) rfl
      rw [Int.toNat_natCast] at hib
      have hyj := hyes j (by omega)
      have htj := hty j (by omega)
      have hfj := hfa j (by omega)
      have hlst : (x.fields.getD j default).name ≠ s → ∀ k, k < j + 1 → (x.fields.getD k default).name ≠ s := fun h k hk => by
        rcases Nat.lt_or_ge k j with h' | h'
        · exact p3 k h'
        · rw [show k = j by omega]; exact h
      generalize x.fields.getD j default = f at *
      generalize fs.getD j 0 = y at *
      generalize A.getD j 0 = z at *
      simp (maxSteps := 2000000) (disch := omega) only [hia, Fd.c, hq, go_sem, eq_self, if_true, if_false, reduceCtorEq, Int.reduceToNat, Int.reducePow, Nat.reducePow, Nat.reduceMul, Int.reduceLT, Int.reduceLE, Nat.reduceAdd, Nat.reduceLeDiff, Nat.reduceBEq, Nat.reduceSub, Int.reduceSub, Int.reduceMul, Int.reduceNeg, Int.reduceAdd]
      refine Br.dec (fun hnm => ?_) (fun hnm => ?_) <;> simp (maxSteps := 2000000) (disch := omega) only [hia, Fd.c, hq, go_sem, eq_self, if_true, if_false, reduceCtorEq, Int.reduceToNat, Int.reducePow, Nat.reducePow, Nat.reduceMul, Int.reduceLT, Int.reduceLE, Nat.reduceAdd, Nat.reduceLeDiff, Nat.reduceBEq, Nat.reduceSub, Int.reduceSub, Int.reduceMul, Int.reduceNeg, Int.reduceAdd]
      · refine W.pchain follows (by decide +kernel) ?_
        simp (maxSteps := 2000000) (disch := omega) only [hia, hib, Fd.c, hq, go_sem, eq_self, if_true, if_false, reduceCtorEq, Int.reduceToNat, Int.reducePow, Nat.reducePow, Nat.reduceMul, Int.reduceLT, Int.reduceLE, Nat.reduceAdd, Nat.reduceLeDiff, Nat.reduceBEq, Nat.reduceSub, Int.reduceSub, Int.reduceMul, Int.reduceNeg, Int.reduceAdd]
        rw [hyj hnm p3, ← hfj, ← htj] at fin ⊢
        rw [hG, List.append_assoc]
        exact fin (z, f.typ, true) rfl _
      · try simp (maxSteps := 2000000) (disch := omega) only [go_sem, eq_self, if_true, if_false, reduceCtorEq, Int.reduceToNat, Int.reducePow, Nat.reducePow, Nat.reduceMul, Int.reduceLT, Int.reduceLE, Nat.reduceAdd, Nat.reduceLeDiff, Nat.reduceBEq, Nat.reduceSub, Int.reduceSub, Int.reduceMul, Int.reduceNeg, Int.reduceAdd]
        exact Nxt.mk (j + 1) (by omega) (Wk.slots (by (try simp only [List.replicate, List.cons_append, List.nil_append]); repeat' first | exact WkL.nil | refine WkL.cons (Wk1.rfl _) ?_ | refine WkL.cons Wk1.esl ?_ | refine WkL.cons (Wk1.gsl _ _ _) ?_ | refine WkL.cons (Wk1.any _) ?_)) ⟨by omega, hlst hnm⟩
    · have ej : j = x.fields.length := by omega
      subst ej
      simp (maxSteps := 2000000) (disch := omega) only [hq, e, hGl, go_sem, eq_self, if_true, if_false, reduceCtorEq, Int.reduceToNat, Int.reducePow, Nat.reducePow, Nat.reduceMul, Int.reduceLT, Int.reduceLE, Nat.reduceAdd, Nat.reduceLeDiff, Nat.reduceBEq, Nat.reduceSub, Int.reduceSub, Int.reduceMul, Int.reduceNeg, Int.reduceAdd]
      rw [hs]
      exact Nxt.mk (m3, i + 1) (by simp only; omega) (Wk.drop (by (try simp only [List.replicate, List.cons_append, List.nil_append]); repeat' first | exact WkL.nil | refine WkL.cons (Wk1.rfl _) ?_ | refine WkL.cons Wk1.esl ?_ | refine WkL.cons (Wk1.gsl _ _ _) ?_ | refine WkL.cons (Wk1.any _) ?_) (by simp [hGl]) (hGc _) (fun r hr => by
        simp only [refs, refs.refsL, List.replicate, List.cons_append, List.nil_append, List.append_nil, List.mem_cons, List.not_mem_nil, or_false, List.append_assoc] at hr
        rcases hr with rfl
        rw [hGl]; omega)) ⟨q3, hl1, hno p3⟩
end Go.Proofs.Ytlhpcccffmfopaa

/- l14.wakes. -/
namespace Go.Proofs.Ytlhpcccffmfopaa
set_option linter.unusedSimpArgs false
set_option linter.unusedVariables false
set_option maxRecDepth 20000
set_option maxHeartbeats 4000000
open Go.RowKit

def lwF : List Fd := [⟨⟨#[97]⟩, false, 3⟩, ⟨⟨#[98]⟩, false, 2⟩, ⟨⟨#[99]⟩, false, 1⟩, ⟨⟨#[100]⟩, false, 3⟩]
def lwT : List Ty := basicL ++ [⟨9, ⟨#[65]⟩, se, 0, 0, 0, lwF, [], 0, 0⟩]
theorem lwT_at (i : Nat) (h : i < 7) : lwT.getD i default = bt i := by
  match i, h with
  | 0, _ => rfl
  | 1, _ => rfl
  | 2, _ => rfl
  | 3, _ => rfl
  | 4, _ => rfl
  | 5, _ => rfl
  | 6, _ => rfl
theorem lwT_mem : ∀ x ∈ lwT, (x.fields = [] ∨ x.fields = lwF) ∧ x.params = [] ∧ x.mod.size ≤ 1 ∧ x.name.size ≤ 1 := by
  intro x hx
  simp only [lwT, basicL, bt, List.cons_append, List.nil_append, List.mem_cons, List.not_mem_nil, or_false] at hx
  rcases hx with rfl | rfl | rfl | rfl | rfl | rfl | rfl | rfl <;> first | exact ⟨.inl rfl, rfl, by decide, by decide⟩ | exact ⟨.inr rfl, rfl, by decide, by decide⟩
theorem lwT_tt : TT lwT := by
  have hn : lwF.length = 4 := rfl
  refine ⟨⟨by decide, fun x hx => ?_⟩, fun x hx f hf => ?_, ⟨by decide, fun x hx => ?_⟩⟩
  · obtain ⟨h1, h2, h3, h4⟩ := lwT_mem x hx
    rw [h2]
    exact ⟨by rcases h1 with h1 | h1 <;> rw [h1] <;> decide, by decide, by omega, by omega⟩
  · rcases (lwT_mem x hx).1 with h | h
    · rw [h] at hf; cases hf
    · rw [h] at hf
      simp only [lwF, List.mem_cons, List.not_mem_nil, or_false] at hf
      rcases hf with rfl | rfl | rfl | rfl <;> decide
  · obtain ⟨h1, h2, h3, h4⟩ := lwT_mem x hx
    refine ⟨by rcases h1 with h1 | h1 <;> rw [h1] <;> decide, by rw [h2]; decide, by omega, by omega⟩
theorem lwT_frm (i : Nat) (h7 : 7 ≤ i) (h : i < lwT.length) : FormedP lwT (lwT.getD i default) := by
  have hA : Nm ⟨#[65]⟩ := Nm_1 65 (by decide)
  have hl : lwT.length = 8 := rfl
  have e : i = 7 := by omega
  subst e
  refine ⟨.inr (.inr (.inl ⟨rfl, .inl rfl, by decide, by decide, by decide, fun f hf => ?_⟩)), .inr ⟨hA, .inr ⟨rfl, rfl⟩⟩, ⟨rfl, rfl, rfl, rfl, rfl, rfl, rfl⟩⟩
  have hf : f ∈ lwF := hf
  simp only [lwF, List.mem_cons, List.not_mem_nil, or_false] at hf
  rcases hf with rfl | rfl | rfl | rfl
  · exact ⟨Nm_1 97 (by decide), by decide⟩
  · exact ⟨Nm_1 98 (by decide), by decide⟩
  · exact ⟨Nm_1 99 (by decide), by decide⟩
  · exact ⟨Nm_1 100 (by decide), by decide⟩
theorem lwT_kid : ∀ n, n < 8 → ∀ y ∈ kidsC lwT (n : Nat), 0 ≤ y ∧ y < (n : Nat) := by decide
theorem lwT_acc (a : Int) (h0 : 0 ≤ a) (h : a < lwT.length) : Acc (KdC lwT) a := by
  have hl : lwT.length = 8 := rfl
  have : ∀ n : Nat, ∀ k, k ≤ n → k < 8 → Acc (KdC lwT) (k : Nat) := by
    intro n
    induction n with
    | zero => exact fun k hk hk2 => ⟨_, fun y hy => by have := lwT_kid k hk2 y hy; omega⟩
    | succ n ih => exact fun k hk hk2 => ⟨_, fun y hy => by
        have := lwT_kid k hk2 y hy
        have e : ((y.toNat : Nat) : Int) = y := by omega
        have := ih y.toNat (by omega) (by omega)
        rwa [e] at this⟩
  have h2 := this a.toNat a.toNat (Nat.le_refl _) (by omega)
  rwa [show ((a.toNat : Nat) : Int) = a by omega] at h2
theorem lwT_good : GoodP lwT := by
  have hl : lwT.length = 8 := rfl
  refine ⟨⟨by decide, lwT_at, lwT_frm⟩, lwT_acc, fun i j hij hj => ?_, fun i hi => ?_⟩
  · have : ∀ j, j < 8 → ∀ i, i < j → ¬ ((lwT.getD i default).form = 9 ∧ (lwT.getD j default).form = 9 ∧ (lwT.getD i default).desc = (lwT.getD j default).desc) := by decide
    exact fun h => this j (by omega) i hij ⟨h.1, h.2.1, h.2.2.2.2⟩
  · have : ∀ i, i < 8 → (lwT.getD i default).form = 9 → (chain lwT 5 i).length ≤ 5 ∧ (namesL lwT (chain lwT 5 i)).Nodup := by decide +kernel
    rintro ⟨h1, h2⟩
    have := this i (by omega) h1
    exact h2 ⟨this.1, this.2⟩
theorem lw_pl (a : Int) (h0 : 0 ≤ a) (h1 : a < 8) : placeP lwT a := by
  have hl : lwT.length = 8 := rfl
  exact ⟨h0, by rw [hl]; exact h1⟩
theorem lw1 : szF lwT 1 = 4 := lwT_good.sz_4 (lw_pl 1 (by decide) (by decide)) (by decide)
theorem lw2 : szF lwT 2 = 1 := lwT_good.sz_1 (lw_pl 2 (by decide) (by decide)) (by decide)
theorem lw3 : szF lwT 3 = 1 := lwT_good.sz_1 (lw_pl 3 (by decide) (by decide)) (by decide)
theorem lw_at1 (n : Int) : atI lwT n 1 = upI n := if_neg (by decide)
theorem lw_at2 (n : Int) : atI lwT n 2 = n := if_pos (by decide)
theorem lw_at3 (n : Int) : atI lwT n 3 = n := if_pos (by decide)
theorem lw_rec : RecIn lwT 7 := ⟨by decide, by decide, by decide⟩
theorem lw_ty : typsL lwT 7 = [3, 2, 1, 3] := by decide
theorem lw7 : szF lwT 7 = 12 := by
  have z0 := lwT_good.sz_0
  rw [sz_RR lwT_good lw_rec, RR, lw_ty, show (tyAt lwT 7).fields.length = 4 by decide, show (tyAt lwT 7).base = 0 by decide, z0]
  simp only [List.take, endR, List.foldl_cons, List.foldl_nil, stepR, lw_at1, lw_at2, lw_at3, lw1, lw2, lw3]
  decide
theorem lw_off : offF lwT 7 ⟨#[99]⟩ = (4, 1, true) := by
  have z0 := lwT_good.sz_0
  rw [offF, if_pos ⟨lwT_good, lw_rec, by rw [lw7]; decide⟩, show chain lwT 5 7 = [7] by decide, offL_yes (i := 2) (by decide) (by decide) (by decide), lw_ty, fAt, lw_ty, RR, lw_ty, show (tyAt lwT 7).base = 0 by decide, z0]
  simp only [List.take, endR, List.foldl_cons, List.foldl_nil, stepR, List.getD_cons_succ, List.getD_cons_zero, lw_at1, lw_at2, lw_at3, lw1, lw2, lw3]
  decide
theorem lw_varsP : VarsP lwT [3, 3, 1] := by
  refine ⟨lwT_good, fun y hy => ?_, ?_⟩
  · simp only [List.mem_cons, List.not_mem_nil, or_false] at hy
    rcases hy with rfl | rfl | rfl <;> exact lw_pl _ (by decide) (by decide)
  · simp only [endR, List.foldl_cons, List.foldl_nil, stepR, lw_at1, lw_at2, lw_at3, lw1, lw2, lw3]
    decide
theorem lw_varsL : varsL lwT [3, 3, 1] = [0, 1, 4] := by
  rw [varsL, if_pos lw_varsP]
  simp only [atsR, stepR, lw_at1, lw_at2, lw_at3, lw1, lw2, lw3]
  decide
theorem lw_varsN : varsN lwT [3, 3, 1] = 8 := by
  rw [varsN, if_pos lw_varsP]
  simp only [endR, List.foldl_cons, List.foldl_nil, stepR, lw_at1, lw_at2, lw_at3, lw1, lw2, lw3]
  decide
theorem lwakes_c (H : List ABlk) : ACalls Try.prog 25 [] H fun v H' => v = bv true ∧ H' = H := by
  have g1 : ∀ H, ACalls Try.prog 28 [tv lwT, iv 7, sv ⟨#[99]⟩] H fun v H' => v = offV (4, 1, true) ∧ H' = H := fun H => by
    have := loff_c lwT_tt 7 ⟨#[99]⟩ H
    rwa [lw_off] at this
  have g2 : ∀ H, ACalls Try.prog 30 [tv lwT, .d (.sl ([3, 3, 1].map kd))] H fun v H' => v = .tup [.d (.sl ([0, 1, 4].map kd)), iv 8] ∧ H' = H := fun H => by
    have := lvars_c lwT_tt (l := [3, 3, 1]) (by decide) H
    unfold VarsR at this
    rwa [lw_varsL, lw_varsN] at this
  have g3 : ∀ H, ACalls Try.prog 26 [tv lwT, iv 7] H fun v H' => v = iv 12 ∧ H' = H := fun H => by
    have := lsize_c lwT_tt 7 H
    rwa [show szL lwT 7 = 12 by rw [szL, if_pos ⟨lwT_good, lw_pl 7 (by decide) (by decide)⟩, lw7]] at this
  have g4 : ∀ H, ACalls Try.prog 32 [.d (.sl ([0, 1, 4].map kd)), .d (.sl ([0, 1, 4].map kd))] H fun v H' => v = bv true ∧ H' = H := fun H => by
    have := ksame_c (a := [0, 1, 4]) (b := [0, 1, 4]) (by decide) (by decide) H
    rwa [dect rfl] at this
  refine ACalls.into Try.func25 cc25 rr25 fun hcl => ?_
  simp (maxSteps := 2000000) (disch := omega) only [Try.ntmps25, c25, r25, go_sem, eq_self, if_true, if_false, reduceCtorEq, Int.reduceToNat, Int.reducePow, Nat.reducePow, Nat.reduceMul, Int.reduceLT, Int.reduceLE, Nat.reduceAdd, Nat.reduceLeDiff, Nat.reduceBEq, Nat.reduceSub, Int.reduceSub, Int.reduceMul, Int.reduceNeg, Int.reduceAdd]
  refine Cont.mk (rbasic_c _) ?_
  simp (maxSteps := 2000000) (disch := omega) only [basicL, bt, go_sem, eq_self, if_true, if_false, reduceCtorEq, Int.reduceToNat, Int.reducePow, Nat.reducePow, Nat.reduceMul, Int.reduceLT, Int.reduceLE, Nat.reduceAdd, Nat.reduceLeDiff, Nat.reduceBEq, Nat.reduceSub, Int.reduceSub, Int.reduceMul, Int.reduceNeg, Int.reduceAdd]
  have w1 : ∀ (H : List ABlk) (b : Nat), ACalls Try.prog 28 [.gsl b 10 (lwT.map Ty.c), iv 7, sv ⟨#[99]⟩] H fun v H' => v = offV (4, 1, true) ∧ H' = H := fun H b => (g1 H).weak (.cons (.gsl _ _ _) (.cons (.rfl _) (.cons (.rfl _) .nil)))
  have w2 : ∀ (H : List ABlk) (b : Nat), ACalls Try.prog 30 [.gsl b 10 (lwT.map Ty.c), .d (.sl ([3, 3, 1].map kd))] H fun v H' => v = .tup [.d (.sl ([0, 1, 4].map kd)), iv 8] ∧ H' = H := fun H b => (g2 H).weak (.cons (.gsl _ _ _) (.cons (.rfl _) .nil))
  have w3 : ∀ (H : List ABlk) (b : Nat), ACalls Try.prog 26 [.gsl b 10 (lwT.map Ty.c), iv 7] H fun v H' => v = iv 12 ∧ H' = H := fun H b => (g3 H).weak (.cons (.gsl _ _ _) (.cons (.rfl _) .nil))
  refine Cont.mk (w1 _ _) ?_
  simp (maxSteps := 2000000) (disch := omega) only [go_sem, eq_self, if_true, if_false, reduceCtorEq, Int.reduceToNat, Int.reducePow, Nat.reducePow, Nat.reduceMul, Int.reduceLT, Int.reduceLE, Nat.reduceAdd, Nat.reduceLeDiff, Nat.reduceBEq, Nat.reduceSub, Int.reduceSub, Int.reduceMul, Int.reduceNeg, Int.reduceAdd]
  refine Cont.mk (w2 _ _) ?_
  simp (maxSteps := 2000000) (disch := omega) only [go_sem, eq_self, if_true, if_false, reduceCtorEq, Int.reduceToNat, Int.reducePow, Nat.reducePow, Nat.reduceMul, Int.reduceLT, Int.reduceLE, Nat.reduceAdd, Nat.reduceLeDiff, Nat.reduceBEq, Nat.reduceSub, Int.reduceSub, Int.reduceMul, Int.reduceNeg, Int.reduceAdd]
  refine Cont.mk (w3 _ _) ?_
  simp (maxSteps := 2000000) (disch := omega) only [go_sem, eq_self, if_true, if_false, reduceCtorEq, Int.reduceToNat, Int.reducePow, Nat.reducePow, Nat.reduceMul, Int.reduceLT, Int.reduceLE, Nat.reduceAdd, Nat.reduceLeDiff, Nat.reduceBEq, Nat.reduceSub, Int.reduceSub, Int.reduceMul, Int.reduceNeg, Int.reduceAdd]
  refine Cont.mk (g4 _) ?_
  simp (maxSteps := 2000000) (disch := omega) only [go_sem, eq_self, if_true, if_false, reduceCtorEq, Int.reduceToNat, Int.reducePow, Nat.reducePow, Nat.reduceMul, Int.reduceLT, Int.reduceLE, Nat.reduceAdd, Nat.reduceLeDiff, Nat.reduceBEq, Nat.reduceSub, Int.reduceSub, Int.reduceMul, Int.reduceNeg, Int.reduceAdd]
  exact Ret.drop _ H (Nat.le_refl _) hcl (.rfl _) (by simp [refs]) ⟨rfl, rfl⟩
end Go.Proofs.Ytlhpcccffmfopaa

/- LayoutSizes, LayoutFields, LayoutVars. -/
namespace Go.Proofs.Ytlhpcccffmfopaa
set_option linter.unusedSimpArgs false
set_option linter.unusedVariables false
set_option maxRecDepth 20000
set_option maxHeartbeats 4000000
open Go.RowKit

theorem LayoutSizes_c {t : List Ty} (hk : TOk t) (hn : FNames t) (a : Int) (H : List ABlk) : ACalls Try.prog 7 [tv t, iv a] H fun v H' => v = bv true ∧ H' = H := by
  refine ACalls.into Try.func7 cc7 rr7 fun hcl => ?_
  have fin : ∀ l, Ret r7 H.length (fun v H' => v = bv true ∧ H' = H) (some (bv true)) (H ++ l) := fun l => Ret.drop (bv true) H (Nat.le_refl _) hcl (.rfl _) (by simp [refs]) ⟨rfl, rfl⟩
  simp (maxSteps := 2000000) (disch := omega) only [Try.ntmps7, c7, r7, go_sem, eq_self, if_true, if_false, reduceCtorEq, Int.reduceToNat, Int.reducePow, Nat.reducePow, Nat.reduceMul, Int.reduceLT, Int.reduceLE, Nat.reduceAdd, Nat.reduceLeDiff, Nat.reduceBEq, Nat.reduceSub, Int.reduceSub, Int.reduceMul, Int.reduceNeg, Int.reduceAdd]
  refine Cont.rel (large_c hk _) ?_
  rintro v H' ⟨⟨B, rfl, hB⟩, rfl⟩
  cases B
  rotate_left
  · simp (maxSteps := 2000000) (disch := omega) only [go_sem, eq_self, if_true, if_false, reduceCtorEq, Int.reduceToNat, Int.reducePow, Nat.reducePow, Nat.reduceMul, Int.reduceLT, Int.reduceLE, Nat.reduceAdd, Nat.reduceLeDiff, Nat.reduceBEq, Nat.reduceSub, Int.reduceSub, Int.reduceMul, Int.reduceNeg, Int.reduceAdd]
    refine Cont.mk (lwakes_c _) ?_
    simp (maxSteps := 2000000) (disch := omega) only [go_sem, eq_self, if_true, if_false, reduceCtorEq, Int.reduceToNat, Int.reducePow, Nat.reducePow, Nat.reduceMul, Int.reduceLT, Int.reduceLE, Nat.reduceAdd, Nat.reduceLeDiff, Nat.reduceBEq, Nat.reduceSub, Int.reduceSub, Int.reduceMul, Int.reduceNeg, Int.reduceAdd]
    exact Ret.keep ⟨rfl, rfl⟩
  have hs := hB rfl
  have htt : TT t := ⟨hs, hn, hk⟩
  simp (maxSteps := 2000000) (disch := omega) only [go_sem, eq_self, if_true, if_false, reduceCtorEq, Int.reduceToNat, Int.reducePow, Nat.reducePow, Nat.reduceMul, Int.reduceLT, Int.reduceLE, Nat.reduceAdd, Nat.reduceLeDiff, Nat.reduceBEq, Nat.reduceSub, Int.reduceSub, Int.reduceMul, Int.reduceNeg, Int.reduceAdd]
  refine Cont.mk (copy_c hs _) ?_
  simp (maxSteps := 2000000) (disch := omega) only [go_sem, eq_self, if_true, if_false, reduceCtorEq, Int.reduceToNat, Int.reducePow, Nat.reducePow, Nat.reduceMul, Int.reduceLT, Int.reduceLE, Nat.reduceAdd, Nat.reduceLeDiff, Nat.reduceBEq, Nat.reduceSub, Int.reduceSub, Int.reduceMul, Int.reduceNeg, Int.reduceAdd]
  refine Cont.mk ((lsize_c htt a _).weak (.cons (.gsl _ _ _) (.cons (.rfl _) .nil))) ?_
  simp (maxSteps := 2000000) (disch := omega) only [go_sem, eq_self, if_true, if_false, reduceCtorEq, Int.reduceToNat, Int.reducePow, Nat.reducePow, Nat.reduceMul, Int.reduceLT, Int.reduceLE, Nat.reduceAdd, Nat.reduceLeDiff, Nat.reduceBEq, Nat.reduceSub, Int.reduceSub, Int.reduceMul, Int.reduceNeg, Int.reduceAdd]
  refine Cont.mk (rsz_c htt a _) ?_
  have ht := (tables_c hk hk)
  rw [dect (rfl : t = t)] at ht
  have e : decide (szL t a = szL t a) = true := dect rfl
  simp (maxSteps := 2000000) (disch := omega) only [e, go_sem, eq_self, if_true, if_false, reduceCtorEq, Int.reduceToNat, Int.reducePow, Nat.reducePow, Nat.reduceMul, Int.reduceLT, Int.reduceLE, Nat.reduceAdd, Nat.reduceLeDiff, Nat.reduceBEq, Nat.reduceSub, Int.reduceSub, Int.reduceMul, Int.reduceNeg, Int.reduceAdd]
  refine Cont.mk ((ht _).weak (.cons (.gsl _ _ _) (.cons (.rfl _) .nil))) ?_
  simp (maxSteps := 2000000) (disch := omega) only [go_sem, eq_self, if_true, if_false, reduceCtorEq, Int.reduceToNat, Int.reducePow, Nat.reducePow, Nat.reduceMul, Int.reduceLT, Int.reduceLE, Nat.reduceAdd, Nat.reduceLeDiff, Nat.reduceBEq, Nat.reduceSub, Int.reduceSub, Int.reduceMul, Int.reduceNeg, Int.reduceAdd]
  refine Cont.mk (lwakes_c _) ?_
  simp (maxSteps := 2000000) (disch := omega) only [go_sem, eq_self, if_true, if_false, reduceCtorEq, Int.reduceToNat, Int.reducePow, Nat.reducePow, Nat.reduceMul, Int.reduceLT, Int.reduceLE, Nat.reduceAdd, Nat.reduceLeDiff, Nat.reduceBEq, Nat.reduceSub, Int.reduceSub, Int.reduceMul, Int.reduceNeg, Int.reduceAdd]
  exact fin _
theorem LayoutFields_c {t : List Ty} (hk : TOk t) (hn : FNames t) (a : Int) (s : ByteArray) (H : List ABlk) : ACalls Try.prog 8 [tv t, iv a, sv s] H fun v H' => v = bv true ∧ H' = H := by
  refine ACalls.into Try.func8 cc8 rr8 fun hcl => ?_
  have fin : ∀ l, Ret r8 H.length (fun v H' => v = bv true ∧ H' = H) (some (bv true)) (H ++ l) := fun l => Ret.drop (bv true) H (Nat.le_refl _) hcl (.rfl _) (by simp [refs]) ⟨rfl, rfl⟩
  simp (maxSteps := 2000000) (disch := omega) only [Try.ntmps8, c8, r8, go_sem, eq_self, if_true, if_false, reduceCtorEq, Int.reduceToNat, Int.reducePow, Nat.reducePow, Nat.reduceMul, Int.reduceLT, Int.reduceLE, Nat.reduceAdd, Nat.reduceLeDiff, Nat.reduceBEq, Nat.reduceSub, Int.reduceSub, Int.reduceMul, Int.reduceNeg, Int.reduceAdd]
  refine Cont.rel (large_c hk _) ?_
  rintro v H' ⟨⟨B, rfl, hB⟩, rfl⟩
  cases B
  rotate_left
  · simp (maxSteps := 2000000) (disch := omega) only [go_sem, eq_self, if_true, if_false, reduceCtorEq, Int.reduceToNat, Int.reducePow, Nat.reducePow, Nat.reduceMul, Int.reduceLT, Int.reduceLE, Nat.reduceAdd, Nat.reduceLeDiff, Nat.reduceBEq, Nat.reduceSub, Int.reduceSub, Int.reduceMul, Int.reduceNeg, Int.reduceAdd]
    refine Cont.mk (lwakes_c _) ?_
    simp (maxSteps := 2000000) (disch := omega) only [go_sem, eq_self, if_true, if_false, reduceCtorEq, Int.reduceToNat, Int.reducePow, Nat.reducePow, Nat.reduceMul, Int.reduceLT, Int.reduceLE, Nat.reduceAdd, Nat.reduceLeDiff, Nat.reduceBEq, Nat.reduceSub, Int.reduceSub, Int.reduceMul, Int.reduceNeg, Int.reduceAdd]
    exact Ret.keep ⟨rfl, rfl⟩
  have hs := hB rfl
  have htt : TT t := ⟨hs, hn, hk⟩
  simp (maxSteps := 2000000) (disch := omega) only [go_sem, eq_self, if_true, if_false, reduceCtorEq, Int.reduceToNat, Int.reducePow, Nat.reducePow, Nat.reduceMul, Int.reduceLT, Int.reduceLE, Nat.reduceAdd, Nat.reduceLeDiff, Nat.reduceBEq, Nat.reduceSub, Int.reduceSub, Int.reduceMul, Int.reduceNeg, Int.reduceAdd]
  refine Br.dec (fun hl => ?_) (fun hl => ?_) <;> simp (maxSteps := 2000000) (disch := omega) only [go_sem, eq_self, if_true, if_false, reduceCtorEq, Int.reduceToNat, Int.reducePow, Nat.reducePow, Nat.reduceMul, Int.reduceLT, Int.reduceLE, Nat.reduceAdd, Nat.reduceLeDiff, Nat.reduceBEq, Nat.reduceSub, Int.reduceSub, Int.reduceMul, Int.reduceNeg, Int.reduceAdd]
  · refine Cont.mk (lwakes_c _) ?_
    simp (maxSteps := 2000000) (disch := omega) only [go_sem, eq_self, if_true, if_false, reduceCtorEq, Int.reduceToNat, Int.reducePow, Nat.reducePow, Nat.reduceMul, Int.reduceLT, Int.reduceLE, Nat.reduceAdd, Nat.reduceLeDiff, Nat.reduceBEq, Nat.reduceSub, Int.reduceSub, Int.reduceMul, Int.reduceNeg, Int.reduceAdd]
    exact Ret.keep ⟨rfl, rfl⟩
  refine Cont.mk (copy_c hs _) ?_
  simp (maxSteps := 2000000) (disch := omega) only [go_sem, eq_self, if_true, if_false, reduceCtorEq, Int.reduceToNat, Int.reducePow, Nat.reducePow, Nat.reduceMul, Int.reduceLT, Int.reduceLE, Nat.reduceAdd, Nat.reduceLeDiff, Nat.reduceBEq, Nat.reduceSub, Int.reduceSub, Int.reduceMul, Int.reduceNeg, Int.reduceAdd]
  refine Cont.mk ((loff_c htt a s _).weak (.cons (.gsl _ _ _) (.cons (.rfl _) (.cons (.rfl _) .nil)))) ?_
  have hr := roff_c htt a s
  generalize offF t a s = p at hr ⊢
  obtain ⟨x, y, z⟩ := p
  simp (maxSteps := 2000000) (disch := omega) only [go_sem, eq_self, if_true, if_false, reduceCtorEq, Int.reduceToNat, Int.reducePow, Nat.reducePow, Nat.reduceMul, Int.reduceLT, Int.reduceLE, Nat.reduceAdd, Nat.reduceLeDiff, Nat.reduceBEq, Nat.reduceSub, Int.reduceSub, Int.reduceMul, Int.reduceNeg, Int.reduceAdd]
  refine Cont.mk (hr _) ?_
  have e1 : decide (x = x) = true := dect rfl
  have e2 : decide (y = y) = true := dect rfl
  have e3 : (z == z) = true := by cases z <;> rfl
  simp (maxSteps := 2000000) (disch := omega) only [e1, e2, e3, go_sem, eq_self, if_true, if_false, reduceCtorEq, Int.reduceToNat, Int.reducePow, Nat.reducePow, Nat.reduceMul, Int.reduceLT, Int.reduceLE, Nat.reduceAdd, Nat.reduceLeDiff, Nat.reduceBEq, Nat.reduceSub, Int.reduceSub, Int.reduceMul, Int.reduceNeg, Int.reduceAdd]
  refine Cont.mk (lwakes_c _) ?_
  simp (maxSteps := 2000000) (disch := omega) only [go_sem, eq_self, if_true, if_false, reduceCtorEq, Int.reduceToNat, Int.reducePow, Nat.reducePow, Nat.reduceMul, Int.reduceLT, Int.reduceLE, Nat.reduceAdd, Nat.reduceLeDiff, Nat.reduceBEq, Nat.reduceSub, Int.reduceSub, Int.reduceMul, Int.reduceNeg, Int.reduceAdd]
  exact fin _
theorem varsL_len (t : List Ty) (l : List Int) : (varsL t l).length ≤ l.length := by
  unfold varsL
  split
  · rw [atsR_len]; exact Nat.le_refl _
  · exact Nat.zero_le _
theorem LayoutVars_c {t : List Ty} (hk : TOk t) (hn : FNames t) {l : List Int} (hl : l.length ≤ 140737488355328) (H : List ABlk) : ACalls Try.prog 9 [tv t, .d (.sl (l.map kd))] H fun v H' => v = bv true ∧ H' = H := by
  refine ACalls.into Try.func9 cc9 rr9 fun hcl => ?_
  have fin : ∀ l, Ret r9 H.length (fun v H' => v = bv true ∧ H' = H) (some (bv true)) (H ++ l) := fun l => Ret.drop (bv true) H (Nat.le_refl _) hcl (.rfl _) (by simp [refs]) ⟨rfl, rfl⟩
  simp (maxSteps := 2000000) (disch := omega) only [Try.ntmps9, c9, r9, go_sem, eq_self, if_true, if_false, reduceCtorEq, Int.reduceToNat, Int.reducePow, Nat.reducePow, Nat.reduceMul, Int.reduceLT, Int.reduceLE, Nat.reduceAdd, Nat.reduceLeDiff, Nat.reduceBEq, Nat.reduceSub, Int.reduceSub, Int.reduceMul, Int.reduceNeg, Int.reduceAdd]
  refine Cont.rel (large_c hk _) ?_
  rintro v H' ⟨⟨B, rfl, hB⟩, rfl⟩
  cases B
  rotate_left
  · simp (maxSteps := 2000000) (disch := omega) only [go_sem, eq_self, if_true, if_false, reduceCtorEq, Int.reduceToNat, Int.reducePow, Nat.reducePow, Nat.reduceMul, Int.reduceLT, Int.reduceLE, Nat.reduceAdd, Nat.reduceLeDiff, Nat.reduceBEq, Nat.reduceSub, Int.reduceSub, Int.reduceMul, Int.reduceNeg, Int.reduceAdd]
    refine Cont.mk (lwakes_c _) ?_
    simp (maxSteps := 2000000) (disch := omega) only [go_sem, eq_self, if_true, if_false, reduceCtorEq, Int.reduceToNat, Int.reducePow, Nat.reducePow, Nat.reduceMul, Int.reduceLT, Int.reduceLE, Nat.reduceAdd, Nat.reduceLeDiff, Nat.reduceBEq, Nat.reduceSub, Int.reduceSub, Int.reduceMul, Int.reduceNeg, Int.reduceAdd]
    exact Ret.keep ⟨rfl, rfl⟩
  have hs := hB rfl
  have htt : TT t := ⟨hs, hn, hk⟩
  simp (maxSteps := 2000000) (disch := omega) only [List.length_map, go_sem, eq_self, if_true, if_false, reduceCtorEq, Int.reduceToNat, Int.reducePow, Nat.reducePow, Nat.reduceMul, Int.reduceLT, Int.reduceLE, Nat.reduceAdd, Nat.reduceLeDiff, Nat.reduceBEq, Nat.reduceSub, Int.reduceSub, Int.reduceMul, Int.reduceNeg, Int.reduceAdd]
  refine Br.dec (fun hl3 => ?_) (fun hl3 => ?_) <;> simp (maxSteps := 2000000) (disch := omega) only [go_sem, eq_self, if_true, if_false, reduceCtorEq, Int.reduceToNat, Int.reducePow, Nat.reducePow, Nat.reduceMul, Int.reduceLT, Int.reduceLE, Nat.reduceAdd, Nat.reduceLeDiff, Nat.reduceBEq, Nat.reduceSub, Int.reduceSub, Int.reduceMul, Int.reduceNeg, Int.reduceAdd]
  · refine Cont.mk (lwakes_c _) ?_
    simp (maxSteps := 2000000) (disch := omega) only [go_sem, eq_self, if_true, if_false, reduceCtorEq, Int.reduceToNat, Int.reducePow, Nat.reducePow, Nat.reduceMul, Int.reduceLT, Int.reduceLE, Nat.reduceAdd, Nat.reduceLeDiff, Nat.reduceBEq, Nat.reduceSub, Int.reduceSub, Int.reduceMul, Int.reduceNeg, Int.reduceAdd]
    exact Ret.keep ⟨rfl, rfl⟩
  have hl4 : l.length ≤ 3000 := by omega
  have hall : ((l.map kd).all fun e => e.length == 1) = true := by simp
  have hdd := datss_map_d (l.map kd)
  simp (maxSteps := 2000000) (disch := omega) only [hall, hdd, List.length_map, go_sem, eq_self, if_true, if_false, reduceCtorEq, Int.reduceToNat, Int.reducePow, Nat.reducePow, Nat.reduceMul, Int.reduceLT, Int.reduceLE, Nat.reduceAdd, Nat.reduceLeDiff, Nat.reduceBEq, Nat.reduceSub, Int.reduceSub, Int.reduceMul, Int.reduceNeg, Int.reduceAdd]
  refine Cont.mk (copy_c hs _) ?_
  simp (maxSteps := 2000000) (disch := omega) only [go_sem, eq_self, if_true, if_false, reduceCtorEq, Int.reduceToNat, Int.reducePow, Nat.reducePow, Nat.reduceMul, Int.reduceLT, Int.reduceLE, Nat.reduceAdd, Nat.reduceLeDiff, Nat.reduceBEq, Nat.reduceSub, Int.reduceSub, Int.reduceMul, Int.reduceNeg, Int.reduceAdd]
  have hv := lvars_c htt hl4
  have hr := rvars_c htt hl4
  unfold VarsR at hv hr
  have hsm := ksame_c (a := varsL t l) (b := varsL t l) (by have := varsL_len t l; omega) (by have := varsL_len t l; omega)
  have hsl := ksame_c (a := l) (b := l) (by omega) (by omega)
  rw [dect rfl] at hsm hsl
  generalize varsL t l = k at *
  generalize varsN t l = n at *
  refine Cont.mk ((hv _).weak (.cons (.gsl _ _ _) (.cons (.rfl _) .nil))) ?_
  simp (maxSteps := 2000000) (disch := omega) only [go_sem, eq_self, if_true, if_false, reduceCtorEq, Int.reduceToNat, Int.reducePow, Nat.reducePow, Nat.reduceMul, Int.reduceLT, Int.reduceLE, Nat.reduceAdd, Nat.reduceLeDiff, Nat.reduceBEq, Nat.reduceSub, Int.reduceSub, Int.reduceMul, Int.reduceNeg, Int.reduceAdd]
  refine Cont.mk (hr _) ?_
  have e1 : decide (n = n) = true := dect rfl
  simp (maxSteps := 2000000) (disch := omega) only [e1, go_sem, eq_self, if_true, if_false, reduceCtorEq, Int.reduceToNat, Int.reducePow, Nat.reducePow, Nat.reduceMul, Int.reduceLT, Int.reduceLE, Nat.reduceAdd, Nat.reduceLeDiff, Nat.reduceBEq, Nat.reduceSub, Int.reduceSub, Int.reduceMul, Int.reduceNeg, Int.reduceAdd]
  refine Cont.mk (hsm _) ?_
  simp (maxSteps := 2000000) (disch := omega) only [go_sem, eq_self, if_true, if_false, reduceCtorEq, Int.reduceToNat, Int.reducePow, Nat.reducePow, Nat.reduceMul, Int.reduceLT, Int.reduceLE, Nat.reduceAdd, Nat.reduceLeDiff, Nat.reduceBEq, Nat.reduceSub, Int.reduceSub, Int.reduceMul, Int.reduceNeg, Int.reduceAdd]
  refine Cont.mk (hsl _) ?_
  simp (maxSteps := 2000000) (disch := omega) only [go_sem, eq_self, if_true, if_false, reduceCtorEq, Int.reduceToNat, Int.reducePow, Nat.reducePow, Nat.reduceMul, Int.reduceLT, Int.reduceLE, Nat.reduceAdd, Nat.reduceLeDiff, Nat.reduceBEq, Nat.reduceSub, Int.reduceSub, Int.reduceMul, Int.reduceNeg, Int.reduceAdd]
  refine Cont.mk (lwakes_c _) ?_
  simp (maxSteps := 2000000) (disch := omega) only [go_sem, eq_self, if_true, if_false, reduceCtorEq, Int.reduceToNat, Int.reducePow, Nat.reducePow, Nat.reduceMul, Int.reduceLT, Int.reduceLE, Nat.reduceAdd, Nat.reduceLeDiff, Nat.reduceBEq, Nat.reduceSub, Int.reduceSub, Int.reduceMul, Int.reduceNeg, Int.reduceAdd]
  exact fin _
end Go.Proofs.Ytlhpcccffmfopaa
