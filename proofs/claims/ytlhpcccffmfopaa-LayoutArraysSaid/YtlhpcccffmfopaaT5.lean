/- The reference: does a type stand in itself? -/
import Derived.Test.YtlhpcccffmfopaaT4
namespace Go.Proofs.Ytlhpcccffmfopaa
set_option linter.unusedSectionVars false
set_option linter.unusedSimpArgs false
set_option linter.unusedVariables false
set_option maxRecDepth 20000
set_option maxHeartbeats 4000000
open Go.RowKit Relation

abbrev kd (k : Int) : List Dat := [.v (.int .i64 k)]
structure TKidsR (t : List Ty) : Prop where
  len : t.length ≤ 256
  kid : ∀ x : Int, 0 ≤ x → x < t.length → ∀ y ∈ kidsR t x, 0 ≤ y ∧ y < t.length
  fd : ∀ x ∈ t, x.fields.length ≤ 3000
def RoundR (t : List Ty) (m : List Int) (a : Int) (b : Nat) (H : List ABlk) (v : AV) (H' : List ABlk) : Prop :=
  ∃ B m', v = bv B ∧ H' = H.set b (.cells (m'.map iv)) ∧ m'.length = t.length ∧ (B = false → Acc (KdR t) a ∧ Met (KdR t) t.length m' ∧ Left t.length m m') ∧ (B = true → ¬ Acc (KdR t) a)
abbrev SR (t : List Ty) (a : Int) (b : Nat) (X : AV) (i : Nat) : List AV := [tv t, iv a, .hsl b 0 t.length t.length 1, .any, .any, .any, bv false, X, .any, iv i]
def LoopQ (t : List Ty) (m : List Int) (a : Int) (b : Nat) (H tl : List ABlk) (X : AV) (ks : List Int) (e : Exit) (s : List AV) (H' : List ABlk) : Prop :=
  (e = .exit 3 ∧ s = SR t a b X ks.length ++ List.replicate 63 .any ++ [iv ks.length, X, iv ks.length, bv false] ++ List.replicate 12 .any ∧ ∃ m' : List Int, H' = H.set b (.cells (m'.map iv)) ++ tl ∧ Met (KdR t) t.length m' ∧ Left t.length (setM m a 1) m' ∧ ∀ k ∈ ks, Acc (KdR t) k) ∨
  (e = .ret ∧ resA [RC.t 6] s H' = some (bv true) ∧ ∃ m' : List Int, m'.length = t.length ∧ H' = H.set b (.cells (m'.map iv)) ++ tl ∧ ¬ ∀ k ∈ ks, Acc (KdR t) k)
theorem round_loop {t : List Ty} (ht : TKidsR t) {n : Nat} (ih : ∀ {m : List Int} {a : Int} {H : List ABlk} {b : Nat}, zc m < n → Met (KdR t) t.length m → Way (KdR t) t.length m a → 0 ≤ a ∧ a < t.length → H[b]? = some (.cells (m.map iv)) →
    ACalls Try.prog 36 [tv t, iv a, .hsl b 0 t.length t.length 1] H (RoundR t m a b H)) {m : List Int} {a : Int} {H tl : List ABlk} {b bb nb : Nat} {ks : List Int} (hz : zc m < n + 1) (hm : Met (KdR t) t.length m) (hw : Way (KdR t) t.length m a) (ha : 0 ≤ a ∧ a < t.length) (h0 : mt m a = 0)
    (hb : b < H.length) (hks : ∀ k ∈ ks, KdR t k a) (hkl : ks.length ≤ 4000) :
    W Try.prog (hh 36) nb (.loop c36l0) (SR t a b (.gsl bb 1 (ks.map kd)) 0 ++ List.replicate 79 .any) (H.set b (.cells ((setM m a 1).map iv)) ++ tl) (LoopQ t m a b H tl (.gsl bb 1 (ks.map kd)) ks) := by
  have hml := hm.len
  have htl := ht.len
  obtain ⟨S, hS⟩ : ∃ S : Nat × List Int → List AV, ∀ g, S g = SR t a b (.gsl bb 1 (ks.map kd)) g.1 ++ List.replicate 79 .any := ⟨_, fun _ => rfl⟩
  refine W.loopG (γ := Nat × List Int) (fun g => ks.length - g.1) S (fun g => H.set b (.cells (g.2.map iv)) ++ tl) (fun g => g.1 ≤ ks.length ∧ Met (KdR t) t.length g.2 ∧ Left t.length (setM m a 1) g.2 ∧ ∀ j, j < g.1 → Acc (KdR t) (ks.getD j 0)) (0, setM m a 1) (by rw [hS]; exact Wk.refl) ⟨Nat.zero_le _, hm.go ha h0, Left.rfl, fun j hj => by omega⟩ (fun g hg => ?_)
  obtain ⟨i, m1⟩ := g
  obtain ⟨q1, q2, q3, q4⟩ := hg
  simp only at q1 q2 q3 q4
  simp (maxSteps := 2000000) (disch := omega) only [c36l0, hS, List.append_assoc, List.cons_append, List.nil_append, List.length_map, go_sem, eq_self, if_true, if_false, reduceCtorEq, Int.reduceToNat, Int.reducePow, Nat.reducePow, Nat.reduceMul, Int.reduceLT, Int.reduceLE, Nat.reduceAdd, Nat.reduceLeDiff, Nat.reduceBEq, Nat.reduceSub, Int.reduceSub, Int.reduceMul, Int.reduceNeg, Int.reduceAdd]
  refine Br.dec (fun hc => ?_) (fun hc => ?_) <;> simp (maxSteps := 2000000) (disch := omega) only [go_sem, eq_self, if_true, if_false, reduceCtorEq, Int.reduceToNat, Int.reducePow, Nat.reducePow, Nat.reduceMul, Int.reduceLT, Int.reduceLE, Nat.reduceAdd, Nat.reduceLeDiff, Nat.reduceBEq, Nat.reduceSub, Int.reduceSub, Int.reduceMul, Int.reduceNeg, Int.reduceAdd]
  · have hxi := gsl_at (b := bb) (ks := ks) (i := i) (by omega)
    have hmem : ks.getD i 0 ∈ ks := by rw [List.getD_eq_getElem?_getD, List.getElem?_eq_getElem (by omega)]; exact List.getElem_mem _
    have hzz : zc m1 < n := by
      have := q3.zc (by rw [setM_len, hml]) q2.len
      have h2 := zc_set (m := m) (i := a.toNat) (v := 1) (by omega) h0 (by omega)
      simp only [setM] at this
      omega
    simp (maxSteps := 2000000) (disch := omega) only [hxi, go_sem, eq_self, if_true, if_false, reduceCtorEq, Int.reduceToNat, Int.reducePow, Nat.reducePow, Nat.reduceMul, Int.reduceLT, Int.reduceLE, Nat.reduceAdd, Nat.reduceLeDiff, Nat.reduceBEq, Nat.reduceSub, Int.reduceSub, Int.reduceMul, Int.reduceNeg, Int.reduceAdd]
    refine Cont.rel (ih hzz q2 (Way.kid hml ha hw q3 (hks _ hmem)) (ht.kid a ha.1 ha.2 _ (hks _ hmem)) (by rw [List.getElem?_append_left (by simpa using hb), List.getElem?_set_self hb])) ?_
    rintro v H' ⟨B, m2, rfl, rfl, e1, e2, e3⟩
    rw [List.set_append_left _ _ (by simpa using hb), List.set_set]
    cases B with
    | false =>
      obtain ⟨f1, f2, f3⟩ := e2 rfl
      simp (maxSteps := 2000000) (disch := omega) only [go_sem, eq_self, if_true, if_false, reduceCtorEq, Int.reduceToNat, Int.reducePow, Nat.reducePow, Nat.reduceMul, Int.reduceLT, Int.reduceLE, Nat.reduceAdd, Nat.reduceLeDiff, Nat.reduceBEq, Nat.reduceSub, Int.reduceSub, Int.reduceMul, Int.reduceNeg, Int.reduceAdd]
      refine Nxt.mk (i + 1, m2) (by simp only; omega) (Wk.slots (by rw [hS]; exact WkL.tail 10 _ rfl (by simp only [List.take_succ_cons, List.take_zero]; repeat' first | exact WkL.nil | refine WkL.cons (Wk1.rfl _) ?_ | refine WkL.cons Wk1.esl ?_ | refine WkL.cons (Wk1.gsl _ _ _) ?_ | refine WkL.cons (Wk1.any _) ?_))) ⟨by simp only; omega, f2, q3.trans f3, fun j hj => ?_⟩
      rcases Nat.lt_or_ge j i with h' | h'
      · exact q4 j h'
      · rw [show j = i by simp only at hj; omega]; exact f1
    | true =>
      simp (maxSteps := 2000000) (disch := omega) only [go_sem, eq_self, if_true, if_false, reduceCtorEq, Int.reduceToNat, Int.reducePow, Nat.reducePow, Nat.reduceMul, Int.reduceLT, Int.reduceLE, Nat.reduceAdd, Nat.reduceLeDiff, Nat.reduceBEq, Nat.reduceSub, Int.reduceSub, Int.reduceMul, Int.reduceNeg, Int.reduceAdd]
      exact .inr ⟨rfl, rfl, m2, e1, rfl, fun hA => e3 rfl (hA _ hmem)⟩
  · have hi : i = ks.length := by omega
    subst hi
    refine .inl ⟨rfl, rfl, m1, rfl, q2, q3, fun k hk => ?_⟩
    obtain ⟨j, hj, rfl⟩ := List.getElem_of_mem hk
    have := q4 j hj
    rwa [List.getD_eq_getElem?_getD, List.getElem?_eq_getElem hj] at this
theorem kidr_arr {t : List Ty} {a : Int} (h : (tyAt t a).form = 7 ∨ (tyAt t a).form = 8) : kidsR t a = [(tyAt t a).elem] := if_pos h
theorem kidr_rec {t : List Ty} {a : Int} (h : (tyAt t a).form = 9) : kidsR t a = (if (tyAt t a).base = 0 then [] else [(tyAt t a).base]) ++ (tyAt t a).fields.map Fd.typ := by
  rw [kidsR, if_neg (by omega), if_pos h]
theorem kidr_no {t : List Ty} {a : Int} (h1 : (tyAt t a).form ≠ 7) (h2 : (tyAt t a).form ≠ 8) (h3 : (tyAt t a).form ≠ 9) : kidsR t a = [] := by
  rw [kidsR, if_neg (by omega), if_neg h3]

abbrev S1 (t : List Ty) (a : Int) (b bb : Nat) (ks : List Int) (i : Nat) : List AV := [tv t, iv a, .hsl b 0 t.length t.length 1, .any, .any, .any, bv false, .gsl bb 1 (ks.map kd), iv i]
theorem round_l1 {t : List Ty} {a : Int} {b bb nb : Nat} {G : List ABlk} (hbb : bb = G.length) (hcl : cl G) (hnb : nb ≤ G.length) (hb : b < G.length) (ha : 0 ≤ a ∧ a < t.length) (f9 : (tyAt t a).form = 9) (hfl : (tyAt t a).fields.length ≤ 3000) (k0 : List Int) (hk0 : k0.length ≤ 1) :
    W Try.prog (hh 36) nb (.loop c36l1) (S1 t a b bb k0 0 ++ List.replicate 80 .any) (G ++ [.row 3 1 k0.length])
      (fun e s H' => e = .exit 1 ∧ (∃ x0 x1 x2 x3 x4 x5 x6 x7 x8, s = [tv t, iv a, .hsl b 0 t.length t.length 1, .any, .any, .any, bv false, .gsl bb 1 ((k0 ++ (tyAt t a).fields.map Fd.typ).map kd), x8] ++ List.replicate 42 .any ++ [x0, x1, x2, x3, x4, x5, x6, x7] ++ List.replicate 30 .any) ∧ H' = G ++ [.row 3 1 (k0.length + (tyAt t a).fields.length)]) := by
  subst hbb
  have hty := iaA_ty ha.1 ha.2
  generalize hx : tyAt t a = x at *
  obtain ⟨kf, hkf⟩ : ∃ kf : Nat → List (List Dat), ∀ i, kf i = (k0 ++ (x.fields.take i).map Fd.typ).map kd := ⟨_, fun _ => rfl⟩
  have hk00 : k0.map kd = kf 0 := by rw [hkf]; simp
  have hkn : ∀ i, i < x.fields.length → kf i ++ [[Dat.v (.int .i64 (fdAt x.fields i).typ)]] = kf (i + 1) := fun i hi => by
    rw [hkf, hkf, getD_take (d := default) hi]
    simp [fdAt, kd]
  have hkl : ∀ i, i ≤ x.fields.length → (kf i).length = k0.length + i := fun i hi => by rw [hkf]; simp; omega
  unfold S1
  rw [hk00]
  obtain ⟨S, hS⟩ : ∃ S : Nat → List AV, ∀ i, S i = [tv t, iv a, .hsl b 0 t.length t.length 1, .any, .any, .any, bv false, .gsl G.length 1 (kf i), iv i] ++ List.replicate 80 .any := ⟨_, fun _ => rfl⟩
  have hbl : ∀ r : ABlk, (G ++ [r])[G.length]? = some r := fun r => by rw [List.getElem?_append_right (Nat.le_refl _)]; simp
  have hset : ∀ r y : ABlk, (G ++ [r]).set G.length y = G ++ [y] := fun r y => by rw [List.set_append_right _ _ (Nat.le_refl _)]; simp
  refine W.loopG (γ := Nat) (fun i => x.fields.length - i) S (fun i => G ++ [.row 3 1 (k0.length + i)]) (fun i => i ≤ x.fields.length) 0 (by rw [hS]; exact Wk.refl) (Nat.zero_le _) (fun i hi => ?_)
  simp (maxSteps := 2000000) (disch := omega) only [c36l1, hS, hty, Ty.c, List.length_map, List.append_assoc, List.cons_append, List.nil_append, go_sem, eq_self, if_true, if_false, reduceCtorEq, Int.reduceToNat, Int.reducePow, Nat.reducePow, Nat.reduceMul, Int.reduceLT, Int.reduceLE, Nat.reduceAdd, Nat.reduceLeDiff, Nat.reduceBEq, Nat.reduceSub, Int.reduceSub, Int.reduceMul, Int.reduceNeg, Int.reduceAdd]
  refine Br.dec (fun hc => ?_) (fun hc => ?_) <;> simp (maxSteps := 2000000) (disch := omega) only [go_sem, eq_self, if_true, if_false, reduceCtorEq, Int.reduceToNat, Int.reducePow, Nat.reducePow, Nat.reduceMul, Int.reduceLT, Int.reduceLE, Nat.reduceAdd, Nat.reduceLeDiff, Nat.reduceBEq, Nat.reduceSub, Int.reduceSub, Int.reduceMul, Int.reduceNeg, Int.reduceAdd]
  · have hfa := iaA_fd (t := x.fields) (a := i) (by omega) (by omega)
    have hkl' := hkl i hi
    simp (maxSteps := 2000000) (disch := omega) only [hty, Ty.c, hfa, Fd.c, hbl, hset, hkl', hkn i (by omega), go_sem, eq_self, if_true, if_false, reduceCtorEq, Int.reduceToNat, Int.reducePow, Nat.reducePow, Nat.reduceMul, Int.reduceLT, Int.reduceLE, Nat.reduceAdd, Nat.reduceLeDiff, Nat.reduceBEq, Nat.reduceSub, Int.reduceSub, Int.reduceMul, Int.reduceNeg, Int.reduceAdd]
    exact Nxt.mk (i + 1) (by omega) (Wk.slots (by rw [hS]; exact WkL.tail 9 _ rfl (by simp only [List.take_succ_cons, List.take_zero]; repeat' first | exact WkL.nil | refine WkL.cons (Wk1.rfl _) ?_ | refine WkL.cons Wk1.esl ?_ | refine WkL.cons (Wk1.gsl _ _ _) ?_ | refine WkL.cons (Wk1.any _) ?_))) (by omega)
  · have hie : i = x.fields.length := by omega
    subst hie
    have : kf x.fields.length = (k0 ++ x.fields.map Fd.typ).map kd := by rw [hkf, List.take_length]
    rw [← this]
    exact ⟨⟨_, _, _, _, _, _, _, _, _, rfl⟩, rfl⟩

theorem round_c {t : List Ty} (ht : TKidsR t) (n : Nat) : ∀ {m : List Int} {a : Int} {H : List ABlk} {b : Nat}, zc m < n → Met (KdR t) t.length m → Way (KdR t) t.length m a → 0 ≤ a ∧ a < t.length → H[b]? = some (.cells (m.map iv)) →
    ACalls Try.prog 36 [tv t, iv a, .hsl b 0 t.length t.length 1] H (RoundR t m a b H) := by
  induction n with
  | zero => intro m a H b hz; omega
  | succ n ih =>
  intro m a H b hz hm hw ha hb
  refine ACalls.into Try.func36 cc36 rr36 fun hcl => ?_
  have hml := hm.len
  have htl := ht.len
  have hbl := (List.getElem?_eq_some_iff.1 hb).1
  have hia := iaA_hsl (b := b) ha
  have hcell := mt_cell hml ha
  have hsm := set_same hb
  simp (maxSteps := 2000000) (disch := omega) only [Try.ntmps36, c36, r36, hia, hb, hcell, List.length_map, hml, go_sem, eq_self, if_true, if_false, reduceCtorEq, Int.reduceToNat, Int.reducePow, Nat.reducePow, Nat.reduceMul, Int.reduceLT, Int.reduceLE, Nat.reduceAdd, Nat.reduceLeDiff, Nat.reduceBEq, Nat.reduceSub, Int.reduceSub, Int.reduceMul, Int.reduceNeg, Int.reduceAdd]
  rcases hm.st a ha.1 ha.2 with h0 | h0 | h0
  · have hstx := mt_st (v := 1) hml ha
    have hm1 := hm.go ha h0
    have hty := iaA_ty ha.1 ha.2
    have hmem := tyAt_mem ha.1 ha.2
    have hfl := ht.fd _ hmem
    have h7 := kidr_arr (t := t) (a := a)
    have h9 := kidr_rec (t := t) (a := a)
    have hn := kidr_no (t := t) (a := a)
    have fin : ∀ {X : AV} {ks : List Int} {tl : List ABlk} {e : Exit} {s : List AV} {H' : List ABlk} {Q : APost}, LoopQ t m a b H tl X ks e s H' → kidsR t a = ks →
        (∀ m', Met (KdR t) t.length (setM m' a 2) → Left t.length m (setM m' a 2) → Acc (KdR t) a → m'.length = t.length → Q (.exit 3) (SR t a b X ks.length ++ List.replicate 63 .any ++ [iv ks.length, X, iv ks.length, bv false] ++ List.replicate 12 .any) (H.set b (.cells (m'.map iv)) ++ tl)) →
        (∀ s H', Ret [RC.t 6] H.length (RoundR t m a b H) (resA [RC.t 6] s H') H' → Q .ret s H') → Q e s H' := by
      intro X ks tl e s H' Q h hks h1 h2
      rcases h with ⟨rfl, rfl, m', rfl, g1, g2, g3⟩ | ⟨rfl, g0, m', g1, rfl, g3⟩
      · have hA : Acc (KdR t) a := .intro a fun y hy => g3 y (by rw [← hks]; exact hy)
        obtain ⟨k1, k2⟩ := g1.done hml ha h0 g2 hA
        exact h1 m' k1 k2 hA g1.len
      · refine h2 _ _ ?_
        rw [g0]
        exact Ret.drop (bv true) (H.set b (.cells (m'.map iv))) (by simp) (hcl.setC _) (.rfl _) (by simp [refs]) ⟨true, m', rfl, rfl, g1, fun h => by simp at h, fun _ hA => g3 fun k hk => hA.inv (by show k ∈ kidsR t a; rw [hks]; exact hk)⟩
    have fin2 : ∀ {m' : List Int} {tl : List ABlk}, Met (KdR t) t.length (setM m' a 2) → Left t.length m (setM m' a 2) → Acc (KdR t) a → m'.length = t.length → Ret [RC.t 6] H.length (RoundR t m a b H) (some (bv false)) ((H.set b (.cells (m'.map iv)) ++ tl).set b (.cells ((setM m' a 2).map iv))) := by
      intro m' tl g1 g2 g3 g4
      rw [List.set_append_left _ _ (by simpa using hbl), List.set_set]
      exact Ret.drop (bv false) (H.set b (.cells ((setM m' a 2).map iv))) (by simp) (hcl.setC _) (.rfl _) (by simp [refs]) ⟨false, _, rfl, rfl, by rw [setM_len, g4], fun _ => ⟨g3, g1, g2⟩, fun h => by simp at h⟩
    have hb3 : ∀ (m' : List Int) (tl : List ABlk), (H.set b (ABlk.cells (m'.map iv)) ++ tl)[b]? = some (.cells (m'.map iv)) := fun m' tl => by rw [List.getElem?_append_left (by simpa using hbl), List.getElem?_set_self hbl]
    have hset : ∀ r y : ABlk, (H.set b (.cells ((setM m a 1).map iv)) ++ [r]).length = H.length + 1 := fun r y => by simp
    by_cases f7 : (tyAt t a).form = 7
    · have hk := h7 (.inl f7)
      simp (maxSteps := 2000000) (disch := omega) only [h0, hia, hb, hcell, List.length_map, hml, hstx, hty, Ty.c, f7, List.length_cons, go_sem, eq_self, if_true, if_false, reduceCtorEq, Int.reduceToNat, Int.reducePow, Nat.reducePow, Nat.reduceMul, Int.reduceLT, Int.reduceLE, Nat.reduceAdd, Nat.reduceLeDiff, Nat.reduceBEq, Nat.reduceSub, Int.reduceSub, Int.reduceMul, Int.reduceNeg, Int.reduceAdd]
      refine W.weak (Wk.slots (by (try simp only [List.replicate, List.cons_append, List.nil_append]); repeat' first | exact WkL.nil | refine WkL.cons (Wk1.rfl _) ?_ | refine WkL.cons Wk1.esl ?_ | refine WkL.cons (Wk1.gsl _ _ _) ?_ | refine WkL.cons (Wk1.any _) ?_)) (W.mono (round_loop ht ih hz hm hw ha h0 hbl (ks := [(tyAt t a).elem]) (fun k hk' => by show k ∈ kidsR t a; rw [hk]; exact hk') (by simp)) fun e s H' h => fin h hk (fun m' g1 g2 g3 g4 => ?_) fun s H' h => h)
      have hst2 := mt_st (v := 2) g4 ha
      have hb4 := hb3 m'
      simp (maxSteps := 2000000) (disch := omega) only [hia, hb4, List.length_map, g4, hst2, List.append_assoc, List.cons_append, List.nil_append, go_sem, eq_self, if_true, if_false, reduceCtorEq, Int.reduceToNat, Int.reducePow, Nat.reducePow, Nat.reduceMul, Int.reduceLT, Int.reduceLE, Nat.reduceAdd, Nat.reduceLeDiff, Nat.reduceBEq, Nat.reduceSub, Int.reduceSub, Int.reduceMul, Int.reduceNeg, Int.reduceAdd]
      exact fin2 g1 g2 g3 g4
    by_cases f8 : (tyAt t a).form = 8
    · have hk := h7 (.inr f8)
      simp (maxSteps := 2000000) (disch := omega) only [h0, hia, hb, hcell, List.length_map, hml, hstx, hty, Ty.c, f7, f8, List.length_cons, go_sem, eq_self, if_true, if_false, reduceCtorEq, Int.reduceToNat, Int.reducePow, Nat.reducePow, Nat.reduceMul, Int.reduceLT, Int.reduceLE, Nat.reduceAdd, Nat.reduceLeDiff, Nat.reduceBEq, Nat.reduceSub, Int.reduceSub, Int.reduceMul, Int.reduceNeg, Int.reduceAdd]
      refine W.weak (Wk.slots (by (try simp only [List.replicate, List.cons_append, List.nil_append]); repeat' first | exact WkL.nil | refine WkL.cons (Wk1.rfl _) ?_ | refine WkL.cons Wk1.esl ?_ | refine WkL.cons (Wk1.gsl _ _ _) ?_ | refine WkL.cons (Wk1.any _) ?_)) (W.mono (round_loop ht ih hz hm hw ha h0 hbl (ks := [(tyAt t a).elem]) (fun k hk' => by show k ∈ kidsR t a; rw [hk]; exact hk') (by simp)) fun e s H' h => fin h hk (fun m' g1 g2 g3 g4 => ?_) fun s H' h => h)
      have hst2 := mt_st (v := 2) g4 ha
      have hb4 := hb3 m'
      simp (maxSteps := 2000000) (disch := omega) only [hia, hb4, List.length_map, g4, hst2, List.append_assoc, List.cons_append, List.nil_append, go_sem, eq_self, if_true, if_false, reduceCtorEq, Int.reduceToNat, Int.reducePow, Nat.reducePow, Nat.reduceMul, Int.reduceLT, Int.reduceLE, Nat.reduceAdd, Nat.reduceLeDiff, Nat.reduceBEq, Nat.reduceSub, Int.reduceSub, Int.reduceMul, Int.reduceNeg, Int.reduceAdd]
      exact fin2 g1 g2 g3 g4
    by_cases f9 : (tyAt t a).form = 9
    · by_cases fb : (tyAt t a).base = 0
      · have hk := h9 f9
        rw [if_pos fb] at hk
        simp (maxSteps := 2000000) (disch := omega) only [h0, hia, hb, hcell, List.length_map, hml, hstx, hty, Ty.c, f7, f8, f9, fb, List.length_cons, go_sem, eq_self, if_true, if_false, reduceCtorEq, Int.reduceToNat, Int.reducePow, Nat.reducePow, Nat.reduceMul, Int.reduceLT, Int.reduceLE, Nat.reduceAdd, Nat.reduceLeDiff, Nat.reduceBEq, Nat.reduceSub, Int.reduceSub, Int.reduceMul, Int.reduceNeg, Int.reduceAdd]
        refine W.weak (Wk.slots (by (try simp only [List.replicate, List.cons_append, List.nil_append]); repeat' first | exact WkL.nil | refine WkL.cons (Wk1.rfl _) ?_ | refine WkL.cons Wk1.esl ?_ | refine WkL.cons (Wk1.gsl _ _ _) ?_ | refine WkL.cons (Wk1.any _) ?_)) (W.mono (round_l1 (bb := H.length) (G := H.set b (.cells ((setM m a 1).map iv))) (by simp) (hcl.setC _) (by simp) (by simpa using hbl) ha f9 hfl [] (by simp)) ?_)
        rintro e s H' ⟨rfl, ⟨x0, x1, x2, x3, x4, x5, x6, x7, x8, rfl⟩, rfl⟩
        simp (maxSteps := 2000000) (disch := omega) only [List.append_assoc, List.cons_append, List.nil_append, go_sem, eq_self, if_true, if_false, reduceCtorEq, Int.reduceToNat, Int.reducePow, Nat.reducePow, Nat.reduceMul, Int.reduceLT, Int.reduceLE, Nat.reduceAdd, Nat.reduceLeDiff, Nat.reduceBEq, Nat.reduceSub, Int.reduceSub, Int.reduceMul, Int.reduceNeg, Int.reduceAdd]
        refine W.weak (Wk.slots (by (try simp only [List.replicate, List.cons_append, List.nil_append]); repeat' first | exact WkL.nil | refine WkL.cons (Wk1.rfl _) ?_ | refine WkL.cons Wk1.esl ?_ | refine WkL.cons (Wk1.gsl _ _ _) ?_ | refine WkL.cons (Wk1.any _) ?_)) (W.mono (round_loop ht ih hz hm hw ha h0 hbl (ks := (tyAt t a).fields.map Fd.typ) (fun k hk' => by show k ∈ kidsR t a; rw [hk]; exact hk') (by simp; omega)) fun e s H' h => fin h hk (fun m' g1 g2 g3 g4 => ?_) fun s H' h => h)
        have hst2 := mt_st (v := 2) g4 ha
        have hb4 := hb3 m'
        simp (maxSteps := 2000000) (disch := omega) only [hia, hb4, List.length_map, g4, hst2, List.append_assoc, List.cons_append, List.nil_append, go_sem, eq_self, if_true, if_false, reduceCtorEq, Int.reduceToNat, Int.reducePow, Nat.reducePow, Nat.reduceMul, Int.reduceLT, Int.reduceLE, Nat.reduceAdd, Nat.reduceLeDiff, Nat.reduceBEq, Nat.reduceSub, Int.reduceSub, Int.reduceMul, Int.reduceNeg, Int.reduceAdd]
        exact fin2 g1 g2 g3 g4
      · have hk := h9 f9
        rw [if_neg fb] at hk
        simp (maxSteps := 2000000) (disch := omega) only [h0, hia, hb, hcell, List.length_map, hml, hstx, hty, Ty.c, f7, f8, f9, fb, List.length_cons, go_sem, eq_self, if_true, if_false, reduceCtorEq, Int.reduceToNat, Int.reducePow, Nat.reducePow, Nat.reduceMul, Int.reduceLT, Int.reduceLE, Nat.reduceAdd, Nat.reduceLeDiff, Nat.reduceBEq, Nat.reduceSub, Int.reduceSub, Int.reduceMul, Int.reduceNeg, Int.reduceAdd]
        rw [show ∀ (A : List ABlk) (p q : ABlk), A ++ [p, q] = (A ++ [p]) ++ [q] from fun A p q => by simp]
        refine W.weak (Wk.slots (by (try simp only [List.replicate, List.cons_append, List.nil_append]); repeat' first | exact WkL.nil | refine WkL.cons (Wk1.rfl _) ?_ | refine WkL.cons Wk1.esl ?_ | refine WkL.cons (Wk1.gsl _ _ _) ?_ | refine WkL.cons (Wk1.any _) ?_)) (W.mono (round_l1 (bb := H.length + 1) (G := H.set b (.cells ((setM m a 1).map iv)) ++ [.row 3 1 0]) (by simp) ((hcl.setC _).row _ _ _) (by simp) (by simp; omega) ha f9 hfl [(tyAt t a).base] (by simp)) ?_)
        rintro e s H' ⟨rfl, ⟨x0, x1, x2, x3, x4, x5, x6, x7, x8, rfl⟩, rfl⟩
        simp (maxSteps := 2000000) (disch := omega) only [List.append_assoc, List.cons_append, List.nil_append, go_sem, eq_self, if_true, if_false, reduceCtorEq, Int.reduceToNat, Int.reducePow, Nat.reducePow, Nat.reduceMul, Int.reduceLT, Int.reduceLE, Nat.reduceAdd, Nat.reduceLeDiff, Nat.reduceBEq, Nat.reduceSub, Int.reduceSub, Int.reduceMul, Int.reduceNeg, Int.reduceAdd]
        refine W.weak (Wk.slots (by (try simp only [List.replicate, List.cons_append, List.nil_append]); repeat' first | exact WkL.nil | refine WkL.cons (Wk1.rfl _) ?_ | refine WkL.cons Wk1.esl ?_ | refine WkL.cons (Wk1.gsl _ _ _) ?_ | refine WkL.cons (Wk1.any _) ?_)) (W.mono (round_loop ht ih hz hm hw ha h0 hbl (ks := [(tyAt t a).base] ++ (tyAt t a).fields.map Fd.typ) (fun k hk' => by show k ∈ kidsR t a; rw [hk]; exact hk') (by simp; omega)) fun e s H' h => fin h hk (fun m' g1 g2 g3 g4 => ?_) fun s H' h => h)
        have hst2 := mt_st (v := 2) g4 ha
        have hb4 := hb3 m'
        simp (maxSteps := 2000000) (disch := omega) only [hia, hb4, List.length_map, g4, hst2, List.append_assoc, List.cons_append, List.nil_append, go_sem, eq_self, if_true, if_false, reduceCtorEq, Int.reduceToNat, Int.reducePow, Nat.reducePow, Nat.reduceMul, Int.reduceLT, Int.reduceLE, Nat.reduceAdd, Nat.reduceLeDiff, Nat.reduceBEq, Nat.reduceSub, Int.reduceSub, Int.reduceMul, Int.reduceNeg, Int.reduceAdd]
        exact fin2 g1 g2 g3 g4
    · have hk := hn f7 f8 f9
      simp (maxSteps := 2000000) (disch := omega) only [h0, hia, hb, hcell, List.length_map, hml, hstx, hty, Ty.c, f7, f8, f9, List.length_cons, go_sem, eq_self, if_true, if_false, reduceCtorEq, Int.reduceToNat, Int.reducePow, Nat.reducePow, Nat.reduceMul, Int.reduceLT, Int.reduceLE, Nat.reduceAdd, Nat.reduceLeDiff, Nat.reduceBEq, Nat.reduceSub, Int.reduceSub, Int.reduceMul, Int.reduceNeg, Int.reduceAdd]
      refine W.weak (Wk.slots (by (try simp only [List.replicate, List.cons_append, List.nil_append]); repeat' first | exact WkL.nil | refine WkL.cons (Wk1.rfl _) ?_ | refine WkL.cons Wk1.esl ?_ | refine WkL.cons (Wk1.gsl _ _ _) ?_ | refine WkL.cons (Wk1.any _) ?_)) (W.mono (round_loop ht ih hz hm hw ha h0 hbl (ks := []) (fun k hk' => by show k ∈ kidsR t a; rw [hk]; exact hk') (by simp)) fun e s H' h => fin h hk (fun m' g1 g2 g3 g4 => ?_) fun s H' h => h)
      have hst2 := mt_st (v := 2) g4 ha
      have hb4 := hb3 m'
      simp (maxSteps := 2000000) (disch := omega) only [hia, hb4, List.length_map, g4, hst2, List.append_assoc, List.cons_append, List.nil_append, go_sem, eq_self, if_true, if_false, reduceCtorEq, Int.reduceToNat, Int.reducePow, Nat.reducePow, Nat.reduceMul, Int.reduceLT, Int.reduceLE, Nat.reduceAdd, Nat.reduceLeDiff, Nat.reduceBEq, Nat.reduceSub, Int.reduceSub, Int.reduceMul, Int.reduceNeg, Int.reduceAdd]
      exact fin2 g1 g2 g3 g4
  · simp (maxSteps := 2000000) (disch := omega) only [h0, hia, hb, hcell, List.length_map, hml, go_sem, eq_self, if_true, if_false, reduceCtorEq, Int.reduceToNat, Int.reducePow, Nat.reducePow, Nat.reduceMul, Int.reduceLT, Int.reduceLE, Nat.reduceAdd, Nat.reduceLeDiff, Nat.reduceBEq, Nat.reduceSub, Int.reduceSub, Int.reduceMul, Int.reduceNeg, Int.reduceAdd]
    exact Ret.keep ⟨true, m, rfl, hsm.symm, hml, fun h => by simp at h, fun _ => hm.one ha hw h0⟩
  · simp (maxSteps := 2000000) (disch := omega) only [h0, hia, hb, hcell, List.length_map, hml, go_sem, eq_self, if_true, if_false, reduceCtorEq, Int.reduceToNat, Int.reducePow, Nat.reducePow, Nat.reduceMul, Int.reduceLT, Int.reduceLE, Nat.reduceAdd, Nat.reduceLeDiff, Nat.reduceBEq, Nat.reduceSub, Int.reduceSub, Int.reduceMul, Int.reduceNeg, Int.reduceAdd]
    exact Ret.keep ⟨false, m, rfl, hsm.symm, hml, fun _ => ⟨hm.fin a ha.1 ha.2 h0, hm, Left.rfl⟩, fun h => by simp at h⟩
end Go.Proofs.Ytlhpcccffmfopaa
