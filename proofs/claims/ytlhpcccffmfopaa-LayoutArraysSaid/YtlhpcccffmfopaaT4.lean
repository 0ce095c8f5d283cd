/- tables.ends: what does not stand in itself. -/
import Derived.Test.YtlhpcccffmfopaaP1
import Derived.Test.YtlhpcccffmfopaaDraw3
namespace Go.Proofs.Ytlhpcccffmfopaa
set_option linter.unusedSectionVars false
set_option linter.unusedSimpArgs false
set_option linter.unusedVariables false
set_option maxRecDepth 20000
set_option maxHeartbeats 4000000
open Go.RowKit Relation

theorem cell_map {α : Type} (f : α → AV) (d : α) {m : List α} {i : Nat} (h : i < m.length) : ((m.map f).drop i).take 1 = [f (m.getD i d)] := by
  rw [List.drop_eq_getElem_cons (by simpa using h), List.take_succ_cons, List.take_zero, List.getElem_map, List.getD_eq_getElem?_getD, List.getElem?_eq_getElem h]; rfl
theorem mt_cell {m : List Int} {x : Int} {n : Nat} (hl : m.length = n) (hx : 0 ≤ x ∧ x < n) : ((m.map iv).drop x.toNat).take 1 = [iv (mt m x)] := cell_map iv 0 (by omega)
theorem mt_st {m : List Int} {x v : Int} {n : Nat} (hl : m.length = n) (hx : 0 ≤ x ∧ x < n) : (m.map iv).take x.toNat ++ iv v :: (m.map iv).drop (x.toNat + 1) = (setM m x v).map iv := by
  simp only [setM, List.map_set]
  rw [List.set_eq_take_append_cons_drop, if_pos (by rw [List.length_map]; omega)]
theorem iaA_hsl {b n : Nat} {x : Int} (hx : 0 ≤ x ∧ x < n) : iaA (.hsl b 0 n n 1) x 1 = some (.ptr b x.toNat) := by
  simp [iaA, hx]

def EndsR (t : List Ty) (m : List Int) (a : Int) (b : Nat) (H : List ABlk) (v : AV) (H' : List ABlk) : Prop :=
  ∃ B m', v = bv B ∧ H' = H.set b (.cells (m'.map iv)) ∧ m'.length = t.length ∧ (B = true → Acc (KdC t) a ∧ Met (KdC t) t.length m' ∧ Left t.length m m') ∧ (B = false → ¬ Acc (KdC t) a)
theorem set_same {H : List ABlk} {b : Nat} {k : ABlk} (h : H[b]? = some k) : H.set b k = H := by
  refine List.ext_getElem? fun i => ?_
  by_cases e : b = i
  · subst e; rw [List.getElem?_set_self (List.getElem?_eq_some_iff.1 h).1, h]
  · rw [List.getElem?_set_ne e]
theorem refs_iv : ∀ m : List Int, refs.refsL (m.map iv) = []
  | [] => rfl
  | x :: m => by simp only [List.map_cons, refs.refsL, refs_iv m]; rfl
theorem cl.setC {H : List ABlk} (h : cl H) {b : Nat} (m : List Int) : cl (H.set b (.cells (m.map iv))) := by
  intro c k hc r hr
  rw [List.length_set]
  by_cases e : b = c
  · subst e
    rcases Nat.lt_or_ge b H.length with hl | hl
    · rw [List.getElem?_set_self hl] at hc
      cases hc
      simp [ABlk.refs, refs_iv] at hr
    · rw [List.getElem?_eq_none (by rw [List.length_set]; exact hl)] at hc; cases hc
  · rw [List.getElem?_set_ne e] at hc
    exact h c k hc r hr
structure TKids (t : List Ty) : Prop where
  len : t.length ≤ 256
  kid : ∀ x : Int, 0 ≤ x → x < t.length → ∀ y ∈ kidsC t x, 0 ≤ y ∧ y < t.length
  fd : ∀ x ∈ t, x.fields.length ≤ 3000


abbrev SE (t : List Ty) (a : Int) (b : Nat) (X : AV) (n i : Nat) : List AV := [tv t, iv a, .hsl b 0 t.length t.length 1, .any, .any, .any, bv false] ++ List.replicate 61 .any ++ [X, iv n, iv i]
def LoopR (t : List Ty) (m : List Int) (a : Int) (b : Nat) (H tl : List ABlk) (X : AV) (ks : List Int) (e : Exit) (s : List AV) (H' : List ABlk) : Prop :=
  (e = .exit 3 ∧ s = SE t a b X ks.length ks.length ++ bv false :: List.replicate 11 .any ∧ ∃ m' : List Int, H' = H.set b (.cells (m'.map iv)) ++ tl ∧ Met (KdC t) t.length m' ∧ Left t.length (setM m a 1) m' ∧ ∀ k ∈ ks, Acc (KdC t) k) ∨
  (e = .ret ∧ resA [RC.t 6] s H' = some (bv false) ∧ ∃ m' : List Int, m'.length = t.length ∧ H' = H.set b (.cells (m'.map iv)) ++ tl ∧ ¬ ∀ k ∈ ks, Acc (KdC t) k)
theorem ends_loop {t : List Ty} (ht : TKids t) {n : Nat} (ih : ∀ {m : List Int} {a : Int} {H : List ABlk} {b : Nat}, zc m < n → Met (KdC t) t.length m → Way (KdC t) t.length m a → 0 ≤ a ∧ a < t.length → H[b]? = some (.cells (m.map iv)) →
    ACalls Try.prog 54 [tv t, iv a, .hsl b 0 t.length t.length 1] H (EndsR t m a b H)) {m : List Int} {a : Int} {H tl : List ABlk} {b nb : Nat} {X : AV} {ks : List Int} (hz : zc m < n + 1) (hm : Met (KdC t) t.length m) (hw : Way (KdC t) t.length m a) (ha : 0 ≤ a ∧ a < t.length) (h0 : mt m a = 0)
    (hb : b < H.length) (hX : ∀ i, i < ks.length → iaA X (i : Int) 1 = some (.ip [.v (.int .i64 (ks.getD i 0))])) (hks : ∀ k ∈ ks, KdC t k a) (hkl : ks.length ≤ 4000) :
    W Try.prog (hh 54) nb (.loop c54l0) (SE t a b X ks.length 0 ++ List.replicate 12 .any) (H.set b (.cells ((setM m a 1).map iv)) ++ tl) (LoopR t m a b H tl X ks) := by
  have hml := hm.len
  have htl := ht.len
  obtain ⟨S, hS⟩ : ∃ S : Nat × List Int → List AV, ∀ g, S g = SE t a b X ks.length g.1 ++ List.replicate 12 .any := ⟨_, fun _ => rfl⟩
  refine W.loopG (γ := Nat × List Int) (fun g => ks.length - g.1) S (fun g => H.set b (.cells (g.2.map iv)) ++ tl) (fun g => g.1 ≤ ks.length ∧ Met (KdC t) t.length g.2 ∧ Left t.length (setM m a 1) g.2 ∧ ∀ j, j < g.1 → Acc (KdC t) (ks.getD j 0)) (0, setM m a 1) (by rw [hS]; exact Wk.refl) ⟨Nat.zero_le _, hm.go ha h0, Left.rfl, fun j hj => by omega⟩ (fun g hg => ?_)
  obtain ⟨i, m1⟩ := g
  obtain ⟨q1, q2, q3, q4⟩ := hg
  simp only at q1 q2 q3 q4
  simp (maxSteps := 2000000) (disch := omega) only [c54l0, hS, List.append_assoc, List.cons_append, List.nil_append, go_sem, eq_self, if_true, if_false, reduceCtorEq, Int.reduceToNat, Int.reducePow, Nat.reducePow, Nat.reduceMul, Int.reduceLT, Int.reduceLE, Nat.reduceAdd, Nat.reduceLeDiff, Nat.reduceBEq, Nat.reduceSub, Int.reduceSub, Int.reduceMul, Int.reduceNeg, Int.reduceAdd]
  refine Br.dec (fun hc => ?_) (fun hc => ?_) <;> simp (maxSteps := 2000000) (disch := omega) only [go_sem, eq_self, if_true, if_false, reduceCtorEq, Int.reduceToNat, Int.reducePow, Nat.reducePow, Nat.reduceMul, Int.reduceLT, Int.reduceLE, Nat.reduceAdd, Nat.reduceLeDiff, Nat.reduceBEq, Nat.reduceSub, Int.reduceSub, Int.reduceMul, Int.reduceNeg, Int.reduceAdd]
  · have hxi := hX i (by omega)
    have hmem : ks.getD i 0 ∈ ks := by rw [List.getD_eq_getElem?_getD, List.getElem?_eq_getElem (by omega)]; exact List.getElem_mem _
    have hzz : zc m1 < n := by
      have := q3.zc (by rw [setM_len, hml]) q2.len
      have h2 := zc_set (m := m) (i := a.toNat) (v := 1) (by omega) h0 (by omega)
      simp only [setM] at this
      omega
    simp (maxSteps := 2000000) (disch := omega) only [hxi, go_sem, eq_self, if_true, if_false, reduceCtorEq, Int.reduceToNat, Int.reducePow, Nat.reducePow, Nat.reduceMul, Int.reduceLT, Int.reduceLE, Nat.reduceAdd, Nat.reduceLeDiff, Nat.reduceBEq, Nat.reduceSub, Int.reduceSub, Int.reduceMul, Int.reduceNeg, Int.reduceAdd]
    refine Cont.rel (ih hzz q2 (Way.kid hml ha hw q3 (hks _ hmem)) (ht.kid a ha.1 ha.2 _ (hks _ hmem)) (by rw [List.getElem?_append_left (by simpa using hb), List.getElem?_set_self hb])) ?_
    rintro v H' ⟨B, m2, rfl, rfl, e1, e2, e3⟩
    rw [List.set_append_left _ _ (by simpa using hb), List.set_set]
    cases B with
    | true =>
      obtain ⟨f1, f2, f3⟩ := e2 rfl
      simp (maxSteps := 2000000) (disch := omega) only [go_sem, eq_self, if_true, if_false, reduceCtorEq, Int.reduceToNat, Int.reducePow, Nat.reducePow, Nat.reduceMul, Int.reduceLT, Int.reduceLE, Nat.reduceAdd, Nat.reduceLeDiff, Nat.reduceBEq, Nat.reduceSub, Int.reduceSub, Int.reduceMul, Int.reduceNeg, Int.reduceAdd]
      refine Nxt.mk (i + 1, m2) (by simp only; omega) (Wk.slots (by rw [hS]; exact WkL.tail 71 _ rfl (by simp only [List.take_succ_cons, List.take_zero]; repeat' first | exact WkL.nil | refine WkL.cons (Wk1.rfl _) ?_ | refine WkL.cons Wk1.esl ?_ | refine WkL.cons (Wk1.gsl _ _ _) ?_ | refine WkL.cons (Wk1.any _) ?_))) ⟨by simp only; omega, f2, q3.trans f3, fun j hj => ?_⟩
      rcases Nat.lt_or_ge j i with h' | h'
      · exact q4 j h'
      · rw [show j = i by simp only at hj; omega]; exact f1
    | false =>
      simp (maxSteps := 2000000) (disch := omega) only [go_sem, eq_self, if_true, if_false, reduceCtorEq, Int.reduceToNat, Int.reducePow, Nat.reducePow, Nat.reduceMul, Int.reduceLT, Int.reduceLE, Nat.reduceAdd, Nat.reduceLeDiff, Nat.reduceBEq, Nat.reduceSub, Int.reduceSub, Int.reduceMul, Int.reduceNeg, Int.reduceAdd]
      exact .inr ⟨rfl, rfl, m2, e1, rfl, fun hA => e3 rfl (hA _ hmem)⟩
  · have hi : i = ks.length := by omega
    subst hi
    refine .inl ⟨rfl, rfl, m1, rfl, q2, q3, fun k hk => ?_⟩
    obtain ⟨j, hj, rfl⟩ := List.getElem_of_mem hk
    have := q4 j hj
    rwa [List.getD_eq_getElem?_getD, List.getElem?_eq_getElem hj] at this

theorem kids_arr {t : List Ty} {a : Int} (h : (tyAt t a).form = 7 ∨ (tyAt t a).form = 8) : kidsC t a = [(tyAt t a).elem] := if_pos h
theorem kids_rec {t : List Ty} {a : Int} (h : (tyAt t a).form = 9) : kidsC t a = (tyAt t a).base :: (tyAt t a).fields.map Fd.typ := by
  rw [kidsC, if_neg (by omega), if_pos h]
theorem kids_no {t : List Ty} {a : Int} (h1 : (tyAt t a).form ≠ 7) (h2 : (tyAt t a).form ≠ 8) (h3 : (tyAt t a).form ≠ 9) : kidsC t a = [] := by
  rw [kidsC, if_neg (by omega), if_neg h3]
theorem gsl_at {b : Nat} {ks : List Int} {i : Nat} (h : i < ks.length) : iaA (.gsl b 1 (ks.map fun k => [.v (.int .i64 k)])) (i : Int) 1 = some (.ip [.v (.int .i64 (ks.getD i 0))]) := by
  have := iaA_gmap (fun k : Int => [Dat.v (.int .i64 k)]) 0 (b := b) (n := 1) (l := ks) (a := i) (by omega) (by omega)
  rwa [Int.toNat_natCast] at this

theorem ends_c {t : List Ty} (ht : TKids t) (n : Nat) : ∀ {m : List Int} {a : Int} {H : List ABlk} {b : Nat}, zc m < n → Met (KdC t) t.length m → Way (KdC t) t.length m a → 0 ≤ a ∧ a < t.length → H[b]? = some (.cells (m.map iv)) →
    ACalls Try.prog 54 [tv t, iv a, .hsl b 0 t.length t.length 1] H (EndsR t m a b H) := by
  induction n with
  | zero => intro m a H b hz; omega
  | succ n ih =>
  intro m a H b hz hm hw ha hb
  refine ACalls.into Try.func54 cc54 rr54 fun hcl => ?_
  have hml := hm.len
  have htl := ht.len
  have hbl := (List.getElem?_eq_some_iff.1 hb).1
  have hia := iaA_hsl (b := b) ha
  have hcell := mt_cell hml ha
  have hsm := set_same hb
  simp (maxSteps := 2000000) (disch := omega) only [Try.ntmps54, c54, r54, hia, hb, hcell, List.length_map, hml, go_sem, eq_self, if_true, if_false, reduceCtorEq, Int.reduceToNat, Int.reducePow, Nat.reducePow, Nat.reduceMul, Int.reduceLT, Int.reduceLE, Nat.reduceAdd, Nat.reduceLeDiff, Nat.reduceBEq, Nat.reduceSub, Int.reduceSub, Int.reduceMul, Int.reduceNeg, Int.reduceAdd]
  rcases hm.st a ha.1 ha.2 with h0 | h0 | h0
  · have hstx := mt_st (v := 1) hml ha
    have hm1 := hm.go ha h0
    have hty := iaA_ty ha.1 ha.2
    have hmem := tyAt_mem ha.1 ha.2
    have hfl := ht.fd _ hmem
    have h7 := kids_arr (t := t) (a := a)
    have h9 := kids_rec (t := t) (a := a)
    have hn := kids_no (t := t) (a := a)
    generalize hx : tyAt t a = x at *
    have fin : ∀ {X : AV} {ks : List Int} {tl : List ABlk} {e : Exit} {s : List AV} {H' : List ABlk} {Q : APost}, LoopR t m a b H tl X ks e s H' → kidsC t a = ks →
        (∀ m', Met (KdC t) t.length (setM m' a 2) → Left t.length m (setM m' a 2) → Acc (KdC t) a → m'.length = t.length → Q (.exit 3) (SE t a b X ks.length ks.length ++ bv false :: List.replicate 11 .any) (H.set b (.cells (m'.map iv)) ++ tl)) →
        (∀ s H', Ret [RC.t 6] H.length (EndsR t m a b H) (resA [RC.t 6] s H') H' → Q .ret s H') → Q e s H' := by
      intro X ks tl e s H' Q h hks h1 h2
      rcases h with ⟨rfl, rfl, m', rfl, g1, g2, g3⟩ | ⟨rfl, g0, m', g1, rfl, g3⟩
      · have hA : Acc (KdC t) a := .intro a fun y hy => g3 y (by rw [← hks]; exact hy)
        obtain ⟨k1, k2⟩ := g1.done hml ha h0 g2 hA
        exact h1 m' k1 k2 hA g1.len
      · refine h2 _ _ ?_
        rw [g0]
        exact Ret.drop (bv false) (H.set b (.cells (m'.map iv))) (by simp) (hcl.setC _) (.rfl _) (by simp [refs]) ⟨false, m', rfl, rfl, g1, fun h => by simp at h, fun _ hA => g3 fun k hk => hA.inv (by show k ∈ kidsC t a; rw [hks]; exact hk)⟩
    by_cases f7 : x.form = 7
    · have hk := h7 (.inl f7)
      simp (maxSteps := 2000000) (disch := omega) only [h0, hia, hb, List.length_map, hml, hstx, hty, Ty.c, f7, List.length_cons, go_sem, eq_self, if_true, if_false, reduceCtorEq, Int.reduceToNat, Int.reducePow, Nat.reducePow, Nat.reduceMul, Int.reduceLT, Int.reduceLE, Nat.reduceAdd, Nat.reduceLeDiff, Nat.reduceBEq, Nat.reduceSub, Int.reduceSub, Int.reduceMul, Int.reduceNeg, Int.reduceAdd]
      refine W.weak (Wk.slots (by (try simp only [List.replicate, List.cons_append, List.nil_append]); repeat' first | exact WkL.nil | refine WkL.cons (Wk1.rfl _) ?_ | refine WkL.cons Wk1.esl ?_ | refine WkL.cons (Wk1.gsl _ _ _) ?_ | refine WkL.cons (Wk1.any _) ?_)) (W.mono (ends_loop ht ih hz hm hw ha h0 hbl (X := .gsl H.length 1 ([x.elem].map fun k => [.v (.int .i64 k)])) (tl := [.row 3 1 1]) (fun i hi => gsl_at hi) (fun k hk' => by show k ∈ kidsC t a; rw [hk]; exact hk') (by simp)) fun e s H' h => fin h hk (fun m' g1 g2 g3 g4 => ?_) fun s H' h => h)
      have hst2 := mt_st (v := 2) g4 ha
      have hb2 : (H.set b (ABlk.cells (m'.map iv)))[b]? = some (.cells (m'.map iv)) := List.getElem?_set_self hbl
      have hb3 : (H.set b (ABlk.cells (m'.map iv)) ++ [.row 3 1 1])[b]? = some (.cells (m'.map iv)) := by rw [List.getElem?_append_left (by simpa using hbl), hb2]
      simp (maxSteps := 2000000) (disch := omega) only [hia, hb2, hb3, List.length_map, g4, hst2, List.append_assoc, List.cons_append, List.nil_append, List.append_nil, go_sem, eq_self, if_true, if_false, reduceCtorEq, Int.reduceToNat, Int.reducePow, Nat.reducePow, Nat.reduceMul, Int.reduceLT, Int.reduceLE, Nat.reduceAdd, Nat.reduceLeDiff, Nat.reduceBEq, Nat.reduceSub, Int.reduceSub, Int.reduceMul, Int.reduceNeg, Int.reduceAdd]
      rw [List.set_append_left _ _ (by simpa using hbl), List.set_set]
      exact Ret.drop (bv true) (H.set b (.cells ((setM m' a 2).map iv))) (by simp) (hcl.setC _) (.rfl _) (by simp [refs]) ⟨true, _, rfl, rfl, by rw [setM_len, g4], fun _ => ⟨g3, g1, g2⟩, fun h => by simp at h⟩
    by_cases f8 : x.form = 8
    · have hk := h7 (.inr f8)
      simp (maxSteps := 2000000) (disch := omega) only [h0, hia, hb, List.length_map, hml, hstx, hty, Ty.c, f8, List.length_cons, go_sem, eq_self, if_true, if_false, reduceCtorEq, Int.reduceToNat, Int.reducePow, Nat.reducePow, Nat.reduceMul, Int.reduceLT, Int.reduceLE, Nat.reduceAdd, Nat.reduceLeDiff, Nat.reduceBEq, Nat.reduceSub, Int.reduceSub, Int.reduceMul, Int.reduceNeg, Int.reduceAdd]
      refine W.weak (Wk.slots (by (try simp only [List.replicate, List.cons_append, List.nil_append]); repeat' first | exact WkL.nil | refine WkL.cons (Wk1.rfl _) ?_ | refine WkL.cons Wk1.esl ?_ | refine WkL.cons (Wk1.gsl _ _ _) ?_ | refine WkL.cons (Wk1.any _) ?_)) (W.mono (ends_loop ht ih hz hm hw ha h0 hbl (X := .gsl H.length 1 ([x.elem].map fun k => [.v (.int .i64 k)])) (tl := [.row 3 1 1]) (fun i hi => gsl_at hi) (fun k hk' => by show k ∈ kidsC t a; rw [hk]; exact hk') (by simp)) fun e s H' h => fin h hk (fun m' g1 g2 g3 g4 => ?_) fun s H' h => h)
      have hst2 := mt_st (v := 2) g4 ha
      have hb2 : (H.set b (ABlk.cells (m'.map iv)))[b]? = some (.cells (m'.map iv)) := List.getElem?_set_self hbl
      have hb3 : (H.set b (ABlk.cells (m'.map iv)) ++ [.row 3 1 1])[b]? = some (.cells (m'.map iv)) := by rw [List.getElem?_append_left (by simpa using hbl), hb2]
      simp (maxSteps := 2000000) (disch := omega) only [hia, hb2, hb3, List.length_map, g4, hst2, List.append_assoc, List.cons_append, List.nil_append, List.append_nil, go_sem, eq_self, if_true, if_false, reduceCtorEq, Int.reduceToNat, Int.reducePow, Nat.reducePow, Nat.reduceMul, Int.reduceLT, Int.reduceLE, Nat.reduceAdd, Nat.reduceLeDiff, Nat.reduceBEq, Nat.reduceSub, Int.reduceSub, Int.reduceMul, Int.reduceNeg, Int.reduceAdd]
      rw [List.set_append_left _ _ (by simpa using hbl), List.set_set]
      exact Ret.drop (bv true) (H.set b (.cells ((setM m' a 2).map iv))) (by simp) (hcl.setC _) (.rfl _) (by simp [refs]) ⟨true, _, rfl, rfl, by rw [setM_len, g4], fun _ => ⟨g3, g1, g2⟩, fun h => by simp at h⟩
    by_cases f9 : x.form = 9
    · have hk := h9 f9
      simp (maxSteps := 2000000) (disch := omega) only [h0, hia, hb, List.length_map, hml, hstx, hty, Ty.c, f9, List.length_cons, go_sem, eq_self, if_true, if_false, reduceCtorEq, Int.reduceToNat, Int.reducePow, Nat.reducePow, Nat.reduceMul, Int.reduceLT, Int.reduceLE, Nat.reduceAdd, Nat.reduceLeDiff, Nat.reduceBEq, Nat.reduceSub, Int.reduceSub, Int.reduceMul, Int.reduceNeg, Int.reduceAdd]
      have hbl2 : ∀ r : ABlk, (H.set b (.cells ((setM m a 1).map iv)) ++ [r])[H.length]? = some r := fun r => by rw [List.getElem?_append_right (by simp)]; simp
      have hset2 : ∀ r q y : ABlk, (H.set b (.cells ((setM m a 1).map iv)) ++ [r, q]).set H.length y = H.set b (.cells ((setM m a 1).map iv)) ++ [y, q] := fun r q y => by rw [List.set_append_right _ _ (by simp)]; simp
      have hbl3 : ∀ r q : ABlk, (H.set b (.cells ((setM m a 1).map iv)) ++ [r, q])[H.length]? = some r := fun r q => by rw [List.getElem?_append_right (by simp)]; simp
      have hbl4 : ∀ r q : ABlk, (H.set b (.cells ((setM m a 1).map iv)) ++ [r, q])[H.length + 1]? = some q := fun r q => by rw [List.getElem?_append_right (by simp)]; simp
      have hset4 : ∀ r q y : ABlk, (H.set b (.cells ((setM m a 1).map iv)) ++ [r, q]).set (H.length + 1) y = H.set b (.cells ((setM m a 1).map iv)) ++ [r, y] := fun r q y => by rw [List.set_append_right _ _ (by simp)]; simp
      obtain ⟨ksf, hksf⟩ : ∃ ksf : Nat → List (List Dat), ∀ i, ksf i = (x.base :: (x.fields.take i).map Fd.typ).map fun k => [Dat.v (.int .i64 k)] := ⟨_, fun _ => rfl⟩
      have hk0 : ksf 0 = [[Dat.v (.int .i64 x.base)]] := hksf 0
      have hkn : ∀ i, i < x.fields.length → ksf i ++ [[Dat.v (.int .i64 (fdAt x.fields i).typ)]] = ksf (i + 1) := fun i hi => by
        rw [hksf, hksf, getD_take (d := default) hi]
        simp [fdAt]
      have hkl : ∀ i, i ≤ x.fields.length → (ksf i).length = i + 1 := fun i hi => by rw [hksf]; simp; omega
      refine W.loopG (γ := Nat) (fun i => x.fields.length - i) (fun i => [tv t, iv a, .hsl b 0 t.length t.length 1, .any, .any, .any, bv false, .gsl H.length 1 (ksf i)] ++ List.replicate 48 .any ++ [fdv x.fields, iv x.fields.length, iv i] ++ List.replicate 24 .any)
        (fun i => H.set b (.cells ((setM m a 1).map iv)) ++ [.row 3 1 (i + 1)]) (fun i => i ≤ x.fields.length) 0 (by rw [hk0]; exact Wk.slots (by (try simp only [List.replicate, List.cons_append, List.nil_append]); repeat' first | exact WkL.nil | refine WkL.cons (Wk1.rfl _) ?_ | refine WkL.cons Wk1.esl ?_ | refine WkL.cons (Wk1.gsl _ _ _) ?_ | refine WkL.cons (Wk1.any _) ?_)) (Nat.zero_le _) (fun i hi => ?_)
      simp (maxSteps := 2000000) (disch := omega) only [c54l1, List.append_assoc, List.cons_append, List.nil_append, go_sem, eq_self, if_true, if_false, reduceCtorEq, Int.reduceToNat, Int.reducePow, Nat.reducePow, Nat.reduceMul, Int.reduceLT, Int.reduceLE, Nat.reduceAdd, Nat.reduceLeDiff, Nat.reduceBEq, Nat.reduceSub, Int.reduceSub, Int.reduceMul, Int.reduceNeg, Int.reduceAdd]
      refine Br.dec (fun hc => ?_) (fun hc => ?_) <;> simp (maxSteps := 2000000) (disch := omega) only [go_sem, eq_self, if_true, if_false, reduceCtorEq, Int.reduceToNat, Int.reducePow, Nat.reducePow, Nat.reduceMul, Int.reduceLT, Int.reduceLE, Nat.reduceAdd, Nat.reduceLeDiff, Nat.reduceBEq, Nat.reduceSub, Int.reduceSub, Int.reduceMul, Int.reduceNeg, Int.reduceAdd]
      · have hfa := iaA_fd (t := x.fields) (a := i) (by omega) (by omega)
        have hkl' := hkl i hi
        simp (maxSteps := 2000000) (disch := omega) only [hfa, Fd.c, hbl2, hbl3, hbl4, hset2, hset4, List.length_append, List.length_set, hkl', List.append_assoc, List.cons_append, List.nil_append, hkn i (by omega), go_sem, eq_self, if_true, if_false, reduceCtorEq, Int.reduceToNat, Int.reducePow, Nat.reducePow, Nat.reduceMul, Int.reduceLT, Int.reduceLE, Nat.reduceAdd, Nat.reduceLeDiff, Nat.reduceBEq, Nat.reduceSub, Int.reduceSub, Int.reduceMul, Int.reduceNeg, Int.reduceAdd]
        rw [show ∀ (A : List ABlk) (p q : ABlk), A ++ [p, q] = (A ++ [p]) ++ [q] from fun A p q => by simp]
        refine Nxt.mk (i + 1) (by omega) (Wk.drop (by (try simp only [List.replicate, List.cons_append, List.nil_append]); repeat' first | exact WkL.nil | refine WkL.cons (Wk1.rfl _) ?_ | refine WkL.cons Wk1.esl ?_ | refine WkL.cons (Wk1.gsl _ _ _) ?_ | refine WkL.cons (Wk1.any _) ?_) (by simp) ((hcl.setC _).row _ _ _) ?_) (by omega)
        simp [refs, refs.refsL]
        omega
      · have hie : i = x.fields.length := by omega
        subst hie
        have hkF : ksf x.fields.length = (x.base :: x.fields.map Fd.typ).map fun k => [Dat.v (.int .i64 k)] := by rw [hksf, List.take_length]
        obtain ⟨ks, hks⟩ : ∃ ks, ks = x.base :: x.fields.map Fd.typ := ⟨_, rfl⟩
        have hkn' : ks.length = x.fields.length + 1 := by rw [hks]; simp
        rw [← hks] at hkF hk
        rw [hkF]
        simp (maxSteps := 2000000) (disch := omega) only [List.length_map, go_sem, eq_self, if_true, if_false, reduceCtorEq, Int.reduceToNat, Int.reducePow, Nat.reducePow, Nat.reduceMul, Int.reduceLT, Int.reduceLE, Nat.reduceAdd, Nat.reduceLeDiff, Nat.reduceBEq, Nat.reduceSub, Int.reduceSub, Int.reduceMul, Int.reduceNeg, Int.reduceAdd]
        refine W.weak (Wk.slots (by (try simp only [List.replicate, List.cons_append, List.nil_append]); repeat' first | exact WkL.nil | refine WkL.cons (Wk1.rfl _) ?_ | refine WkL.cons Wk1.esl ?_ | refine WkL.cons (Wk1.gsl _ _ _) ?_ | refine WkL.cons (Wk1.any _) ?_)) (W.mono (ends_loop ht ih hz hm hw ha h0 hbl (X := .gsl H.length 1 (ks.map fun k => [.v (.int .i64 k)])) (tl := [.row 3 1 (x.fields.length + 1)]) (fun i hi => gsl_at hi) (fun k hk' => by show k ∈ kidsC t a; rw [hk]; exact hk') (by omega)) fun e s H' h => fin h hk (fun m' g1 g2 g3 g4 => ?_) fun s H' h => h)
        have hst2 := mt_st (v := 2) g4 ha
        have hb2 : (H.set b (ABlk.cells (m'.map iv)))[b]? = some (.cells (m'.map iv)) := List.getElem?_set_self hbl
        have hb3 : (H.set b (ABlk.cells (m'.map iv)) ++ [.row 3 1 (x.fields.length + 1)])[b]? = some (.cells (m'.map iv)) := by rw [List.getElem?_append_left (by simpa using hbl), hb2]
        simp (maxSteps := 2000000) (disch := omega) only [hia, hb2, hb3, List.length_map, g4, hst2, List.append_assoc, List.cons_append, List.nil_append, List.append_nil, go_sem, eq_self, if_true, if_false, reduceCtorEq, Int.reduceToNat, Int.reducePow, Nat.reducePow, Nat.reduceMul, Int.reduceLT, Int.reduceLE, Nat.reduceAdd, Nat.reduceLeDiff, Nat.reduceBEq, Nat.reduceSub, Int.reduceSub, Int.reduceMul, Int.reduceNeg, Int.reduceAdd]
        rw [List.set_append_left _ _ (by simpa using hbl), List.set_set]
        exact Ret.drop (bv true) (H.set b (.cells ((setM m' a 2).map iv))) (by simp) (hcl.setC _) (.rfl _) (by simp [refs]) ⟨true, _, rfl, rfl, by rw [setM_len, g4], fun _ => ⟨g3, g1, g2⟩, fun h => by simp at h⟩
    · have hk := hn f7 f8 f9
      simp (maxSteps := 2000000) (disch := omega) only [h0, hia, hb, List.length_map, hml, hstx, hty, Ty.c, f7, f8, f9, List.length_cons, go_sem, eq_self, if_true, if_false, reduceCtorEq, Int.reduceToNat, Int.reducePow, Nat.reducePow, Nat.reduceMul, Int.reduceLT, Int.reduceLE, Nat.reduceAdd, Nat.reduceLeDiff, Nat.reduceBEq, Nat.reduceSub, Int.reduceSub, Int.reduceMul, Int.reduceNeg, Int.reduceAdd]
      have hH : H.set b (.cells ((setM m a 1).map iv)) = H.set b (.cells ((setM m a 1).map iv)) ++ [] := by simp
      rw [hH]
      refine W.weak (Wk.slots (by (try simp only [List.replicate, List.cons_append, List.nil_append]); repeat' first | exact WkL.nil | refine WkL.cons (Wk1.rfl _) ?_ | refine WkL.cons Wk1.esl ?_ | refine WkL.cons (Wk1.gsl _ _ _) ?_ | refine WkL.cons (Wk1.any _) ?_)) (W.mono (ends_loop ht ih hz hm hw ha h0 hbl (X := .esl) (ks := []) (tl := []) (fun i hi => by simp at hi) (fun k hk' => by simp at hk') (by simp)) fun e s H' h => fin h hk (fun m' g1 g2 g3 g4 => ?_) fun s H' h => h)
      have hst2 := mt_st (v := 2) g4 ha
      have hb2 : (H.set b (ABlk.cells (m'.map iv)))[b]? = some (.cells (m'.map iv)) := List.getElem?_set_self hbl
      have hb3 : (H.set b (ABlk.cells (m'.map iv)) ++ [])[b]? = some (.cells (m'.map iv)) := by rw [List.getElem?_append_left (by simpa using hbl), hb2]
      simp (maxSteps := 2000000) (disch := omega) only [hia, hb2, hb3, List.length_map, g4, hst2, List.append_assoc, List.cons_append, List.nil_append, List.append_nil, go_sem, eq_self, if_true, if_false, reduceCtorEq, Int.reduceToNat, Int.reducePow, Nat.reducePow, Nat.reduceMul, Int.reduceLT, Int.reduceLE, Nat.reduceAdd, Nat.reduceLeDiff, Nat.reduceBEq, Nat.reduceSub, Int.reduceSub, Int.reduceMul, Int.reduceNeg, Int.reduceAdd]
      rw [List.set_set]
      have hp : ∀ G : List ABlk, G = G ++ [] := fun G => by simp
      rw [hp (H.set _ _)]
      exact Ret.drop (bv true) (H.set b (.cells ((setM m' a 2).map iv))) (by simp) (hcl.setC _) (.rfl _) (by simp [refs]) ⟨true, _, rfl, rfl, by rw [setM_len, g4], fun _ => ⟨g3, g1, g2⟩, fun h => by simp at h⟩
  · simp (maxSteps := 2000000) (disch := omega) only [h0, hia, hb, hcell, List.length_map, hml, go_sem, eq_self, if_true, if_false, reduceCtorEq, Int.reduceToNat, Int.reducePow, Nat.reducePow, Nat.reduceMul, Int.reduceLT, Int.reduceLE, Nat.reduceAdd, Nat.reduceLeDiff, Nat.reduceBEq, Nat.reduceSub, Int.reduceSub, Int.reduceMul, Int.reduceNeg, Int.reduceAdd]
    exact Ret.keep ⟨_, m, rfl, hsm.symm, hml, fun h => by simp at h, fun _ => hm.one ha hw h0⟩
  · simp (maxSteps := 2000000) (disch := omega) only [h0, hia, hb, hcell, List.length_map, hml, go_sem, eq_self, if_true, if_false, reduceCtorEq, Int.reduceToNat, Int.reducePow, Nat.reducePow, Nat.reduceMul, Int.reduceLT, Int.reduceLE, Nat.reduceAdd, Nat.reduceLeDiff, Nat.reduceBEq, Nat.reduceSub, Int.reduceSub, Int.reduceMul, Int.reduceNeg, Int.reduceAdd]
    exact Ret.keep ⟨_, m, rfl, hsm.symm, hml, fun _ => ⟨hm.fin a ha.1 ha.2 h0, hm, Left.rfl⟩, fun h => by simp at h⟩
end Go.Proofs.Ytlhpcccffmfopaa
