/- The reference: Good. -/
import Derived.Test.YtlhpcccffmfopaaP4
import Derived.Test.YtlhpcccffmfopaaT14
namespace Go.Proofs.Ytlhpcccffmfopaa
set_option linter.unusedSectionVars false
set_option linter.unusedSimpArgs false
set_option linter.unusedVariables false
set_option maxRecDepth 20000
set_option maxHeartbeats 4000000
open Go.RowKit

def ClashP (t : List Ty) (i k : Nat) : Prop := (t.getD i default).form = 9 ∧ (t.getD k default).form = 9 ∧ (t.getD i default).mod = (t.getD k default).mod ∧ (t.getD i default).desc = (t.getD k default).desc ∧ (t.getD i default).desc ≠ -1
theorem kidsR_ok {t : List Ty} (hs : Small t) (h1 : ¬ t.length < 7) (h2 : t.length ≤ 256) (hbas : ∀ j, j < 7 → t.getD j default = bt j) (hone : ∀ j : Nat, 7 ≤ j → j < t.length → OneP t j) : TKidsR t := by
  refine ⟨h2, fun a h0 ha y hy => ?_, fun x hx => (hs.2 x hx).1⟩
  rcases Int.lt_or_le a 7 with h7 | h7
  · have e : tyAt t a = bt a := by
      have := hbas a.toNat (by omega)
      rw [tyAt, this, show ((a.toNat : Nat) : Int) = a by omega]
    rw [kidr_no (by rw [e]; simp only [bt]; omega) (by rw [e]; simp only [bt]; omega) (by rw [e]; simp only [bt]; omega)] at hy
    simp at hy
  · have ho := hone a.toNat (by omega) (by omega)
    rw [show ((a.toNat : Nat) : Int) = a by omega] at ho
    by_cases f9 : (tyAt t a).form = 9
    · obtain ⟨_, l, g5, g6, g7, _⟩ := (one_rec f9).1 ho
      rw [kidr_rec f9] at hy
      rcases List.mem_append.1 hy with hy | hy
      · split at hy
        · simp at hy
        · rename_i hz
          rw [List.mem_singleton.1 hy]
          exact ((bas_step (n := 4) g5).resolve_left hz).1
      · obtain ⟨f, hf, rfl⟩ := List.mem_map.1 hy
        exact ((g7 a List.mem_cons_self).2 f hf).2.1
    have hsw := ho.2.2.2
    by_cases f7 : (tyAt t a).form = 7
    · rw [kidr_arr (.inl f7)] at hy
      rw [List.mem_singleton.1 hy]
      rcases hsw with h | h | h | h | h
      · exact h.2.2.2.1
      all_goals omega
    by_cases f8 : (tyAt t a).form = 8
    · rw [kidr_arr (.inr f8)] at hy
      rw [List.mem_singleton.1 hy]
      rcases hsw with h | h | h | h | h
      · omega
      · exact h.2.elim (fun h => h.1) (fun h => h.1)
      all_goals omega
    · rw [kidr_no f7 f8 f9] at hy; simp at hy
theorem rgood_c {t : List Ty} (hs : Small t) (hn : FNames t) (hok : TOk t) (H : List ABlk) : ACalls Try.prog 16 [tv t] H fun v H' => v = bv (goodF t) ∧ H' = H := by
  refine ACalls.into Try.func16 cc16 rr16 fun hcl => ?_
  have htl := hs.1
  have fin : ∀ {v : Bool}, v = goodF t → ∀ l, Ret r16 H.length (fun v H' => v = bv (goodF t) ∧ H' = H) (some (bv v)) (H ++ l) := fun {v} e l => Ret.drop (bv v) H (Nat.le_refl _) hcl (.rfl _) (by simp [refs]) ⟨by rw [e], rfl⟩
  have fin0 : ∀ {v : Bool}, v = goodF t → Ret r16 H.length (fun v H' => v = bv (goodF t) ∧ H' = H) (some (bv v)) H := fun {v} e => Ret.keep ⟨by rw [e], rfl⟩
  have nf : ¬ GoodR t → false = goodF t := fun h => (good_f fun k => h k.ref).symm
  by_cases h1 : t.length < 7
  · simp (maxSteps := 2000000) (disch := omega) only [Try.ntmps16, c16, r16, List.length_map, go_sem, eq_self, if_true, if_false, reduceCtorEq, Int.reduceToNat, Int.reducePow, Nat.reducePow, Nat.reduceMul, Int.reduceLT, Int.reduceLE, Nat.reduceAdd, Nat.reduceLeDiff, Nat.reduceBEq, Nat.reduceSub, Int.reduceSub, Int.reduceMul, Int.reduceNeg, Int.reduceAdd]
    exact fin0 (nf fun h => by have := h.len; omega)
  by_cases h2 : 256 < t.length
  · simp (maxSteps := 2000000) (disch := omega) only [Try.ntmps16, c16, r16, List.length_map, go_sem, eq_self, if_true, if_false, reduceCtorEq, Int.reduceToNat, Int.reducePow, Nat.reducePow, Nat.reduceMul, Int.reduceLT, Int.reduceLE, Nat.reduceAdd, Nat.reduceLeDiff, Nat.reduceBEq, Nat.reduceSub, Int.reduceSub, Int.reduceMul, Int.reduceNeg, Int.reduceAdd]
    exact fin0 (nf fun h => by have := h.len; omega)
  simp (maxSteps := 2000000) (disch := omega) only [Try.ntmps16, c16, r16, List.length_map, go_sem, eq_self, if_true, if_false, reduceCtorEq, Int.reduceToNat, Int.reducePow, Nat.reducePow, Nat.reduceMul, Int.reduceLT, Int.reduceLE, Nat.reduceAdd, Nat.reduceLeDiff, Nat.reduceBEq, Nat.reduceSub, Int.reduceSub, Int.reduceMul, Int.reduceNeg, Int.reduceAdd]
  refine Cont.rel (rbasic_c H) ?_
  rintro v H' ⟨rfl, rfl⟩
  simp (maxSteps := 2000000) (disch := omega) only [go_sem, eq_self, if_true, if_false, reduceCtorEq, Int.reduceToNat, Int.reducePow, Nat.reducePow, Nat.reduceMul, Int.reduceLT, Int.reduceLE, Nat.reduceAdd, Nat.reduceLeDiff, Nat.reduceBEq, Nat.reduceSub, Int.reduceSub, Int.reduceMul, Int.reduceNeg, Int.reduceAdd]
  have hcr : cl (H ++ [.row 32 10 7]) := hcl.row _ _ _
  refine W.loopG (γ := Nat) (fun i => 7 - i) (fun i => [tv t, .any, bv false, .d (.sl (basicL.map Ty.c)), iv i] ++ List.replicate 103 .any) (fun _ => H ++ [.row 32 10 7]) (fun i => i ≤ 7 ∧ ∀ j, j < i → t.getD j default = bt j) 0 (Wk.slots (by (try simp only [List.replicate, List.cons_append, List.nil_append]); repeat' first | exact WkL.nil | refine WkL.cons (Wk1.rfl _) ?_ | refine WkL.cons Wk1.esl ?_ | refine WkL.cons (Wk1.gsl _ _ _) ?_ | refine WkL.cons (Wk1.any _) ?_)) ⟨by omega, fun j hj => by omega⟩ (fun i hi => ?_)
  obtain ⟨q1, q2⟩ := hi
  simp (maxSteps := 2000000) (disch := omega) only [c16l3, go_sem, eq_self, if_true, if_false, reduceCtorEq, Int.reduceToNat, Int.reducePow, Nat.reducePow, Nat.reduceMul, Int.reduceLT, Int.reduceLE, Nat.reduceAdd, Nat.reduceLeDiff, Nat.reduceBEq, Nat.reduceSub, Int.reduceSub, Int.reduceMul, Int.reduceNeg, Int.reduceAdd]
  refine Br.dec (fun hc => ?_) (fun hc => ?_) <;> simp (maxSteps := 2000000) (disch := omega) only [go_sem, eq_self, if_true, if_false, reduceCtorEq, Int.reduceToNat, Int.reducePow, Nat.reducePow, Nat.reduceMul, Int.reduceLT, Int.reduceLE, Nat.reduceAdd, Nat.reduceLeDiff, Nat.reduceBEq, Nat.reduceSub, Int.reduceSub, Int.reduceMul, Int.reduceNeg, Int.reduceAdd]
  · have hia := iaA_ty (t := t) (a := i) (by omega) (by omega)
    have hib := iaA_ty (t := basicL) (a := i) (by omega) (by show (i : Int) < (7 : Nat); omega)
    have e1 : tyAt t (i : Int) = t.getD i default := rfl
    have e2 : tyAt basicL (i : Int) = bt i := basic_at (by omega)
    have al := alike_c (x := tyAt t i) (y := tyAt basicL i) (hok.at_ (by omega) (by omega)) (H ++ [.row 32 10 7])
    refine W.pchain follows (by decide +kernel) ?_
    rw [Ty.av, Ty.av, Ty.cs, Ty.cs] at al
    simp (maxSteps := 2000000) (disch := omega) only [hia, hib, Ty.c, go_sem, eq_self, if_true, if_false, reduceCtorEq, Int.reduceToNat, Int.reducePow, Nat.reducePow, Nat.reduceMul, Int.reduceLT, Int.reduceLE, Nat.reduceAdd, Nat.reduceLeDiff, Nat.reduceBEq, Nat.reduceSub, Int.reduceSub, Int.reduceMul, Int.reduceNeg, Int.reduceAdd]
    refine PCont.mk al ?_
    cases hd : decide (tyAt t i = tyAt basicL i) with
    | true =>
      simp (maxSteps := 2000000) (disch := omega) only [go_sem, eq_self, if_true, if_false, reduceCtorEq, Int.reduceToNat, Int.reducePow, Nat.reducePow, Nat.reduceMul, Int.reduceLT, Int.reduceLE, Nat.reduceAdd, Nat.reduceLeDiff, Nat.reduceBEq, Nat.reduceSub, Int.reduceSub, Int.reduceMul, Int.reduceNeg, Int.reduceAdd]
      refine Nxt.mk (i + 1) (by omega) (Wk.slots (by (try simp only [List.replicate, List.cons_append, List.nil_append]); repeat' first | exact WkL.nil | refine WkL.cons (Wk1.rfl _) ?_ | refine WkL.cons Wk1.esl ?_ | refine WkL.cons (Wk1.gsl _ _ _) ?_ | refine WkL.cons (Wk1.any _) ?_)) ⟨by omega, fun j hj => ?_⟩
      rcases Nat.lt_or_ge j i with h' | h'
      · exact q2 j h'
      · rw [show j = i by omega, ← e1, of_decide_eq_true hd, e2]
    | false =>
      simp (maxSteps := 2000000) (disch := omega) only [go_sem, eq_self, if_true, if_false, reduceCtorEq, Int.reduceToNat, Int.reducePow, Nat.reducePow, Nat.reduceMul, Int.reduceLT, Int.reduceLE, Nat.reduceAdd, Nat.reduceLeDiff, Nat.reduceBEq, Nat.reduceSub, Int.reduceSub, Int.reduceMul, Int.reduceNeg, Int.reduceAdd]
      refine fin (nf fun h => of_decide_eq_false hd ?_) _
      rw [e1, e2, h.bas i (by omega)]
  have hbas : ∀ j, j < 7 → t.getD j default = bt j := fun j hj => q2 j (by omega)
  clear q1 q2 hc
  refine W.loopG (γ := Nat) (fun i => t.length - i) (fun i => [tv t, .any, bv false, .any, .any, iv i] ++ List.replicate 102 .any) (fun _ => H ++ [.row 32 10 7]) (fun i => 7 ≤ i ∧ i ≤ t.length ∧ ∀ j : Nat, 7 ≤ j → j < i → OneP t j) 7 (Wk.slots (by (try simp only [List.replicate, List.cons_append, List.nil_append]); repeat' first | exact WkL.nil | refine WkL.cons (Wk1.rfl _) ?_ | refine WkL.cons Wk1.esl ?_ | refine WkL.cons (Wk1.gsl _ _ _) ?_ | refine WkL.cons (Wk1.any _) ?_)) ⟨by omega, by omega, fun j hj => by omega⟩ (fun i hi => ?_)
  obtain ⟨q0, q1, q2⟩ := hi
  simp (maxSteps := 2000000) (disch := omega) only [c16l2, List.length_map, go_sem, eq_self, if_true, if_false, reduceCtorEq, Int.reduceToNat, Int.reducePow, Nat.reducePow, Nat.reduceMul, Int.reduceLT, Int.reduceLE, Nat.reduceAdd, Nat.reduceLeDiff, Nat.reduceBEq, Nat.reduceSub, Int.reduceSub, Int.reduceMul, Int.reduceNeg, Int.reduceAdd]
  refine Br.dec (fun hc => ?_) (fun hc => ?_) <;> simp (maxSteps := 2000000) (disch := omega) only [go_sem, eq_self, if_true, if_false, reduceCtorEq, Int.reduceToNat, Int.reducePow, Nat.reducePow, Nat.reduceMul, Int.reduceLT, Int.reduceLE, Nat.reduceAdd, Nat.reduceLeDiff, Nat.reduceBEq, Nat.reduceSub, Int.reduceSub, Int.reduceMul, Int.reduceNeg, Int.reduceAdd]
  · refine Cont.rel (one_c hs hn (a := (i : Int)) ⟨by omega, by omega⟩ _) ?_
    rintro v H' ⟨⟨B, rfl, hB⟩, rfl⟩
    cases B with
    | true =>
      simp (maxSteps := 2000000) (disch := omega) only [go_sem, eq_self, if_true, if_false, reduceCtorEq, Int.reduceToNat, Int.reducePow, Nat.reducePow, Nat.reduceMul, Int.reduceLT, Int.reduceLE, Nat.reduceAdd, Nat.reduceLeDiff, Nat.reduceBEq, Nat.reduceSub, Int.reduceSub, Int.reduceMul, Int.reduceNeg, Int.reduceAdd]
      refine Nxt.mk (i + 1) (by omega) (Wk.slots (by (try simp only [List.replicate, List.cons_append, List.nil_append]); repeat' first | exact WkL.nil | refine WkL.cons (Wk1.rfl _) ?_ | refine WkL.cons Wk1.esl ?_ | refine WkL.cons (Wk1.gsl _ _ _) ?_ | refine WkL.cons (Wk1.any _) ?_)) ⟨by omega, by omega, fun j hj7 hj => ?_⟩
      rcases Nat.lt_or_ge j i with h' | h'
      · exact q2 j hj7 h'
      · rw [show j = i by omega]; exact hB.1 rfl
    | false =>
      simp (maxSteps := 2000000) (disch := omega) only [go_sem, eq_self, if_true, if_false, reduceCtorEq, Int.reduceToNat, Int.reducePow, Nat.reducePow, Nat.reduceMul, Int.reduceLT, Int.reduceLE, Nat.reduceAdd, Nat.reduceLeDiff, Nat.reduceBEq, Nat.reduceSub, Int.reduceSub, Int.reduceMul, Int.reduceNeg, Int.reduceAdd]
      exact fin (nf fun h => by have := hB.2 (h.one i q0 (by omega)); cases this) _
  have hone : ∀ j : Nat, 7 ≤ j → j < t.length → OneP t j := fun j h7 hj => q2 j h7 (by omega)
  clear q0 q1 q2
  have hz0 : (List.replicate t.length [iv 0]).flatten = (List.replicate t.length 0).map iv := rep_flat _
  rw [hz0]
  have hk := kidsR_ok hs h1 (by omega) hbas hone
  obtain ⟨S, hS⟩ : ∃ S : Nat × List Int → List AV, ∀ g, S g = [tv t, .any, bv false, .any, .any, .any, .hsl (H.length + 1) 0 t.length t.length 1, iv g.1] ++ List.replicate 100 .any := ⟨_, fun _ => rfl⟩
  refine W.loopG (γ := Nat × List Int) (fun g => t.length - g.1) S (fun g => H ++ [.row 32 10 7, .cells (g.2.map iv)])
    (fun g => 7 ≤ g.1 ∧ g.1 ≤ t.length ∧ Met (KdR t) t.length g.2 ∧ (∀ x : Int, 0 ≤ x → x < t.length → mt g.2 x ≠ 1) ∧ (∀ j : Nat, 7 ≤ j → j < g.1 → Acc (KdR t) j) ∧ (∀ i k : Nat, 7 ≤ k → k < i → i < g.1 → ¬ ClashP t i k))
    (7, List.replicate t.length 0) (by rw [hS]; exact Wk.slots (by (try simp only [List.replicate, List.cons_append, List.nil_append]); repeat' first | exact WkL.nil | refine WkL.cons (Wk1.rfl _) ?_ | refine WkL.cons Wk1.esl ?_ | refine WkL.cons (Wk1.gsl _ _ _) ?_ | refine WkL.cons (Wk1.any _) ?_)) ⟨by omega, by omega, Met.zero, fun x h0 h1 => by rw [mt_rep]; omega, fun j hj => by omega, fun i k _ _ hk => by simp only at hk; omega⟩ (fun g hg => ?_)
  obtain ⟨i, met⟩ := g
  obtain ⟨w0, w1, w2, w3, w4, w5⟩ := hg
  simp only at w0 w1 w2 w3 w4 w5
  simp (maxSteps := 2000000) (disch := omega) only [c16l1, hS, List.length_map, List.append_assoc, List.cons_append, List.nil_append, go_sem, eq_self, if_true, if_false, reduceCtorEq, Int.reduceToNat, Int.reducePow, Nat.reducePow, Nat.reduceMul, Int.reduceLT, Int.reduceLE, Nat.reduceAdd, Nat.reduceLeDiff, Nat.reduceBEq, Nat.reduceSub, Int.reduceSub, Int.reduceMul, Int.reduceNeg, Int.reduceAdd]
  refine Br.dec (fun hc2 => ?_) (fun hc2 => ?_) <;> simp (maxSteps := 2000000) (disch := omega) only [go_sem, eq_self, if_true, if_false, reduceCtorEq, Int.reduceToNat, Int.reducePow, Nat.reducePow, Nat.reduceMul, Int.reduceLT, Int.reduceLE, Nat.reduceAdd, Nat.reduceLeDiff, Nat.reduceBEq, Nat.reduceSub, Int.reduceSub, Int.reduceMul, Int.reduceNeg, Int.reduceAdd]
  · refine Cont.rel (round_c hk (zc met + 1) (by omega) w2 (Way.none w3) (a := (i : Int)) (b := H.length + 1) (by omega) (hb_1' _ _ _)) ?_
    rintro v H' ⟨B, m', rfl, rfl, e1, e2, e3⟩
    have hst : (H ++ [ABlk.row 32 10 7, .cells (met.map iv)]).set (H.length + 1) (.cells (m'.map iv)) = H ++ [.row 32 10 7, .cells (m'.map iv)] := by rw [List.set_append_right _ _ (by omega)]; simp
    rw [hst]
    cases B with
    | true =>
      simp (maxSteps := 2000000) (disch := omega) only [go_sem, eq_self, if_true, if_false, reduceCtorEq, Int.reduceToNat, Int.reducePow, Nat.reducePow, Nat.reduceMul, Int.reduceLT, Int.reduceLE, Nat.reduceAdd, Nat.reduceLeDiff, Nat.reduceBEq, Nat.reduceSub, Int.reduceSub, Int.reduceMul, Int.reduceNeg, Int.reduceAdd]
      exact fin (nf fun h => e3 rfl (h.acc i w0 (by omega))) _
    | false =>
      obtain ⟨f1, f2, f3⟩ := e2 rfl
      simp (maxSteps := 2000000) (disch := omega) only [go_sem, eq_self, if_true, if_false, reduceCtorEq, Int.reduceToNat, Int.reducePow, Nat.reducePow, Nat.reduceMul, Int.reduceLT, Int.reduceLE, Nat.reduceAdd, Nat.reduceLeDiff, Nat.reduceBEq, Nat.reduceSub, Int.reduceSub, Int.reduceMul, Int.reduceNeg, Int.reduceAdd]
      obtain ⟨S2, hS2⟩ : ∃ S2 : Nat → List AV, ∀ k, S2 k = [tv t, .any, bv false, .any, .any, .any, .hsl (H.length + 1) 0 t.length t.length 1, iv i, iv k] ++ List.replicate 99 .any := ⟨_, fun _ => rfl⟩
      refine W.loopG (γ := Nat) (fun k => i - k) S2 (fun _ => H ++ [.row 32 10 7, .cells (m'.map iv)]) (fun k => 7 ≤ k ∧ k ≤ i ∧ ∀ j : Nat, 7 ≤ j → j < k → ¬ ClashP t i j) 7 (by rw [hS2]; exact Wk.slots (by (try simp only [List.replicate, List.cons_append, List.nil_append]); repeat' first | exact WkL.nil | refine WkL.cons (Wk1.rfl _) ?_ | refine WkL.cons Wk1.esl ?_ | refine WkL.cons (Wk1.gsl _ _ _) ?_ | refine WkL.cons (Wk1.any _) ?_)) ⟨by omega, w0, fun j h7 hj => by omega⟩ (fun k hk' => ?_)
      obtain ⟨y0, y1, y2⟩ := hk'
      simp (maxSteps := 2000000) (disch := omega) only [c16l0, hS2, List.append_assoc, List.cons_append, List.nil_append, go_sem, eq_self, if_true, if_false, reduceCtorEq, Int.reduceToNat, Int.reducePow, Nat.reducePow, Nat.reduceMul, Int.reduceLT, Int.reduceLE, Nat.reduceAdd, Nat.reduceLeDiff, Nat.reduceBEq, Nat.reduceSub, Int.reduceSub, Int.reduceMul, Int.reduceNeg, Int.reduceAdd]
      refine Br.dec (fun hc3 => ?_) (fun hc3 => ?_) <;> simp (maxSteps := 2000000) (disch := omega) only [go_sem, eq_self, if_true, if_false, reduceCtorEq, Int.reduceToNat, Int.reducePow, Nat.reducePow, Nat.reduceMul, Int.reduceLT, Int.reduceLE, Nat.reduceAdd, Nat.reduceLeDiff, Nat.reduceBEq, Nat.reduceSub, Int.reduceSub, Int.reduceMul, Int.reduceNeg, Int.reduceAdd]
      · have hia := iaA_ty (t := t) (a := i) (by omega) (by omega)
        have hib := iaA_ty (t := t) (a := k) (by omega) (by omega)
        have e1 : tyAt t (i : Int) = t.getD i default := rfl
        have e2 : tyAt t (k : Int) = t.getD k default := rfl
        rw [e1] at hia
        rw [e2] at hib
        have hC : ClashP t i k ↔ (t.getD i default).form = 9 ∧ (t.getD k default).form = 9 ∧ (t.getD i default).mod = (t.getD k default).mod ∧ (t.getD i default).desc = (t.getD k default).desc ∧ (t.getD i default).desc ≠ -1 := Iff.rfl
        have nxt : ∀ {s' : List AV}, ¬ ClashP t i k → WkL s' (S2 (k + 1)) → Nxt H.length (fun k => i - k) S2 (fun _ => H ++ [.row 32 10 7, .cells (m'.map iv)]) (fun k => 7 ≤ k ∧ k ≤ i ∧ ∀ j : Nat, 7 ≤ j → j < k → ¬ ClashP t i j) (i - k) s' (H ++ [.row 32 10 7, .cells (m'.map iv)]) := fun {s'} h hk => by
          refine Nxt.mk (k + 1) (by omega) (Wk.slots hk) ⟨by omega, by omega, fun j h7 hj => ?_⟩
          rcases Nat.lt_or_ge j k with h' | h'
          · exact y2 j h7 h'
          · rw [show j = k by omega]; exact h
        generalize t.getD i default = x at *
        generalize t.getD k default = y at *
        refine W.pchain follows (by decide +kernel) ?_
        by_cases b1 : x.form = 9
        rotate_left
        · simp (maxSteps := 2000000) (disch := omega) only [hia, hib, Ty.c, go_sem, eq_self, if_true, if_false, reduceCtorEq, Int.reduceToNat, Int.reducePow, Nat.reducePow, Nat.reduceMul, Int.reduceLT, Int.reduceLE, Nat.reduceAdd, Nat.reduceLeDiff, Nat.reduceBEq, Nat.reduceSub, Int.reduceSub, Int.reduceMul, Int.reduceNeg, Int.reduceAdd]
          exact nxt (fun h => b1 (hC.1 h).1) (by rw [hS2]; exact WkL.tail 9 _ rfl (by simp only [List.take_succ_cons, List.take_zero]; repeat' first | exact WkL.nil | refine WkL.cons (Wk1.rfl _) ?_ | refine WkL.cons Wk1.esl ?_ | refine WkL.cons (Wk1.gsl _ _ _) ?_ | refine WkL.cons (Wk1.any _) ?_))
        by_cases b2 : y.form = 9
        rotate_left
        · simp (maxSteps := 2000000) (disch := omega) only [hia, hib, Ty.c, go_sem, eq_self, if_true, if_false, reduceCtorEq, Int.reduceToNat, Int.reducePow, Nat.reducePow, Nat.reduceMul, Int.reduceLT, Int.reduceLE, Nat.reduceAdd, Nat.reduceLeDiff, Nat.reduceBEq, Nat.reduceSub, Int.reduceSub, Int.reduceMul, Int.reduceNeg, Int.reduceAdd]
          exact nxt (fun h => b2 (hC.1 h).2.1) (by rw [hS2]; exact WkL.tail 9 _ rfl (by simp only [List.take_succ_cons, List.take_zero]; repeat' first | exact WkL.nil | refine WkL.cons (Wk1.rfl _) ?_ | refine WkL.cons Wk1.esl ?_ | refine WkL.cons (Wk1.gsl _ _ _) ?_ | refine WkL.cons (Wk1.any _) ?_))
        by_cases b3 : x.mod = y.mod
        rotate_left
        · have k3 := decide_eq_false b3
          simp (maxSteps := 2000000) (disch := omega) only [hia, hib, Ty.c, k3, go_sem, eq_self, if_true, if_false, reduceCtorEq, Int.reduceToNat, Int.reducePow, Nat.reducePow, Nat.reduceMul, Int.reduceLT, Int.reduceLE, Nat.reduceAdd, Nat.reduceLeDiff, Nat.reduceBEq, Nat.reduceSub, Int.reduceSub, Int.reduceMul, Int.reduceNeg, Int.reduceAdd]
          exact nxt (fun h => b3 (hC.1 h).2.2.1) (by rw [hS2]; exact WkL.tail 9 _ rfl (by simp only [List.take_succ_cons, List.take_zero]; repeat' first | exact WkL.nil | refine WkL.cons (Wk1.rfl _) ?_ | refine WkL.cons Wk1.esl ?_ | refine WkL.cons (Wk1.gsl _ _ _) ?_ | refine WkL.cons (Wk1.any _) ?_))
        have k3 := decide_eq_true b3
        by_cases b4 : x.desc = y.desc
        rotate_left
        · simp (maxSteps := 2000000) (disch := omega) only [hia, hib, Ty.c, k3, go_sem, eq_self, if_true, if_false, reduceCtorEq, Int.reduceToNat, Int.reducePow, Nat.reducePow, Nat.reduceMul, Int.reduceLT, Int.reduceLE, Nat.reduceAdd, Nat.reduceLeDiff, Nat.reduceBEq, Nat.reduceSub, Int.reduceSub, Int.reduceMul, Int.reduceNeg, Int.reduceAdd]
          exact nxt (fun h => b4 (hC.1 h).2.2.2.1) (by rw [hS2]; exact WkL.tail 9 _ rfl (by simp only [List.take_succ_cons, List.take_zero]; repeat' first | exact WkL.nil | refine WkL.cons (Wk1.rfl _) ?_ | refine WkL.cons Wk1.esl ?_ | refine WkL.cons (Wk1.gsl _ _ _) ?_ | refine WkL.cons (Wk1.any _) ?_))
        by_cases b5 : x.desc = -1
        · simp (maxSteps := 2000000) (disch := omega) only [hia, hib, Ty.c, k3, go_sem, eq_self, if_true, if_false, reduceCtorEq, Int.reduceToNat, Int.reducePow, Nat.reducePow, Nat.reduceMul, Int.reduceLT, Int.reduceLE, Nat.reduceAdd, Nat.reduceLeDiff, Nat.reduceBEq, Nat.reduceSub, Int.reduceSub, Int.reduceMul, Int.reduceNeg, Int.reduceAdd]
          exact nxt (fun h => (hC.1 h).2.2.2.2 b5) (by rw [hS2]; exact WkL.tail 9 _ rfl (by simp only [List.take_succ_cons, List.take_zero]; repeat' first | exact WkL.nil | refine WkL.cons (Wk1.rfl _) ?_ | refine WkL.cons Wk1.esl ?_ | refine WkL.cons (Wk1.gsl _ _ _) ?_ | refine WkL.cons (Wk1.any _) ?_))
        · simp (maxSteps := 2000000) (disch := omega) only [hia, hib, Ty.c, k3, go_sem, eq_self, if_true, if_false, reduceCtorEq, Int.reduceToNat, Int.reducePow, Nat.reducePow, Nat.reduceMul, Int.reduceLT, Int.reduceLE, Nat.reduceAdd, Nat.reduceLeDiff, Nat.reduceBEq, Nat.reduceSub, Int.reduceSub, Int.reduceMul, Int.reduceNeg, Int.reduceAdd]
          exact fin (nf fun h => h.uni i k y0 (by omega) (by omega) (show ClashP t i k from hC.2 ⟨b1, b2, b3, b4, b5⟩)) _
      · refine Nxt.mk (i + 1, m') (by simp only; omega) (Wk.slots (by rw [hS]; exact WkL.tail 8 _ rfl (by simp only [List.take_succ_cons, List.take_zero]; repeat' first | exact WkL.nil | refine WkL.cons (Wk1.rfl _) ?_ | refine WkL.cons Wk1.esl ?_ | refine WkL.cons (Wk1.gsl _ _ _) ?_ | refine WkL.cons (Wk1.any _) ?_))) ⟨by simp only; omega, by simp only; omega, f2, f3.none w3, fun j h7 hj => ?_, fun a k h7 hk ha => ?_⟩
        · rcases Nat.lt_or_ge j i with h' | h'
          · exact w4 j h7 h'
          · rw [show j = i by simp only at hj; omega]; exact f1
        · rcases Nat.lt_or_ge a i with h' | h'
          · exact w5 a k h7 hk h'
          · rw [show a = i by simp only at ha; omega]; exact y2 k h7 (by omega)
  · refine fin (v := true) (good_t (GoodR.good ⟨⟨by omega, by omega⟩, hbas, hone, fun i h7 hi => w4 i h7 (by omega), fun i k h7 hk hi => w5 i k h7 hk (by omega)⟩)).symm _
end Go.Proofs.Ytlhpcccffmfopaa
