/- TypesOrder. -/
import Derived.Test.YtlhpcccffmfopaaGdC
import Derived.Test.YtlhpcccffmfopaaGdA
import Derived.Test.YtlhpcccffmfopaaT15
import Derived.Test.YtlhpcccffmfopaaRd
import Derived.Test.YtlhpcccffmfopaaRows
import Derived.Test.YtlhpcccffmfopaaRead
namespace Go.Proofs.Ytlhpcccffmfopaa
set_option linter.unusedSectionVars false
set_option linter.unusedSimpArgs false
set_option linter.unusedVariables false
set_option maxRecDepth 20000
set_option maxHeartbeats 4000000
open Go.RowKit

theorem chain_fuel {t : List Ty} : ∀ {n : Nat} {a : Int}, (chain t n a).length ≤ n → chain t (n + 1) a = chain t n a
  | 0, a, h => by simp [chain] at h
  | n + 1, a, h => by
    by_cases hb : (tyAt t a).base = 0
    · simp only [chain, if_pos hb]
    · have h' : (chain t n (tyAt t a).base).length ≤ n := by
        simp only [chain, if_neg hb, List.length_cons] at h; omega
      have := chain_fuel h'
      show a :: (if (tyAt t a).base = 0 then [] else chain t (n + 1) (tyAt t a).base) = a :: (if (tyAt t a).base = 0 then [] else chain t n (tyAt t a).base)
      rw [if_neg hb, if_neg hb, this]
theorem chain_suf {t : List Ty} : ∀ {n : Nat} {a b : Int}, (chain t n a).length ≤ n → b ∈ chain t n a → ∃ pre, chain t n a = pre ++ chain t n b
  | 0, a, b, h, _ => by simp [chain] at h
  | n + 1, a, b, h, hm => by
    by_cases e : b = a
    · subst e; exact ⟨[], rfl⟩
    by_cases hb : (tyAt t a).base = 0
    · simp only [chain, if_pos hb, List.mem_singleton] at hm; exact absurd hm e
    · simp only [chain, if_neg hb, List.length_cons] at h
      have hm' : b ∈ chain t n (tyAt t a).base := by
        simp only [chain, if_neg hb] at hm
        exact (List.mem_cons.1 hm).resolve_left e
      obtain ⟨pre, hp⟩ := chain_suf (by omega) hm'
      have hl : (chain t n b).length ≤ n := by
        have := congrArg List.length hp
        rw [List.length_append] at this; omega
      refine ⟨a :: pre, ?_⟩
      rw [chain_fuel hl]
      show a :: (if (tyAt t a).base = 0 then [] else chain t n (tyAt t a).base) = _
      rw [if_neg hb, hp]; rfl
theorem GoodP.suf {t : List Ty} (h : GoodP t) {a b : Int} (ha : RecIn t a) (hE : ExtR t a b) : ∃ pre, chain t 5 a = pre ++ chain t 5 b := chain_suf (h.chain5 ha) hE
theorem GoodP.lev {t : List Ty} (h : GoodP t) {a b : Int} (ha : RecIn t a) (hE : ExtR t a b) : (chain t 5 b).length ≤ (chain t 5 a).length := by
  obtain ⟨p, hp⟩ := h.suf ha hE
  rw [hp, List.length_append]; omega
theorem GoodP.anti {t : List Ty} (h : GoodP t) {a b : Int} (ha : RecIn t a) (hb : RecIn t b) (h1 : ExtR t a b) (h2 : ExtR t b a) : a = b := by
  obtain ⟨p, hp⟩ := h.suf ha h1
  obtain ⟨q, hq⟩ := h.suf hb h2
  have e1 := congrArg List.length hp
  have e2 := congrArg List.length hq
  rw [List.length_append] at e1 e2
  have : p = [] := List.eq_nil_of_length_eq_zero (by omega)
  subst this
  obtain ⟨r, hr⟩ := chain_ne t 5 a
  obtain ⟨s, hs⟩ := chain_ne t 5 b
  rw [hr, hs] at hp
  exact (List.cons.inj hp).1
theorem GoodP.nxt {t : List Ty} (h : GoodP t) {a b : Int} (ha : RecIn t a) (h1 : ExtR t a b) (hb : (tyAt t b).base ≠ 0) : ExtR t a (tyAt t b).base := by
  obtain ⟨p, hp⟩ := h.suf ha h1
  show _ ∈ chain t 5 a
  rw [hp]
  refine List.mem_append_right _ ?_
  show _ ∈ b :: (if (tyAt t b).base = 0 then [] else chain t 4 (tyAt t b).base)
  rw [if_neg hb]
  obtain ⟨r, hr⟩ := chain_ne t 4 (tyAt t b).base
  rw [hr]; simp
theorem simF_symm (t : List Ty) (a b : Int) : simF t a b = simF t b a := by
  unfold simF
  by_cases h : Sim t a b
  · rw [dect h, dect h.symm]
  · rw [decf h, decf fun k => h k.symm]
theorem simF_refl (t : List Ty) (a : Int) : simF t a a = true := dect (Sim.refl t a)
theorem simF_easy {t : List Ty} {a b : Int} {r : Bool} (h : easyF t a b = some r) : simF t a b = r := by
  cases r
  · exact decf (sim_no h)
  · exact dect (Sim.easy h)
/-- What extends, in a good table. -/
theorem ord {t : List Ty} (hg : GoodP t) {a b : Int} (ha : placeP t a) (hb : placeP t b) (hE : ExtP t a b) (S1 S2 : Bool) :
    asgF t a b S1 S2 = true ∧ ((tyAt t a).form = 9 → decide (ExtP t b a) = simF t a b) ∧ LevF t b ≤ LevF t a ∧ ((tyAt t b).form = 9 → (tyAt t b).base ≠ 0 → placeP t (tyAt t b).base ∧ ExtP t a (tyAt t b).base) := by
  obtain ⟨hf, hc⟩ := hE
  refine ⟨?_, fun f9 => ?_, ?_, fun f9 hbs => ?_⟩
  · unfold asgF asgV
    rw [if_neg (by omega), if_pos (.inr (dect ⟨hf, hc⟩))]
  · have ra : RecIn t a := ⟨ha.1, ha.2, f9⟩
    have rb : RecIn t b := ⟨hb.1, hb.2, by omega⟩
    have h1 : ExtR t a b := by
      rcases hc with h | h
      · exact h.2
      · omega
    rw [simF_easy (easy_rec hg ra rb)]
    by_cases e : a = b
    · subst e
      rw [dect (rfl : a = a), dect]
      exact ⟨rfl, .inl ⟨f9, h1⟩⟩
    · rw [decf e, decf]
      rintro ⟨_, h | h⟩
      · exact e (hg.anti ra rb h1 h.2)
      · have := rb.2.2; omega
  · unfold LevF
    rcases hc with ⟨f, h⟩ | ⟨f, h⟩
    · rw [if_neg (by omega), if_pos (by omega), if_neg (by omega), if_pos f]
      have := hg.lev ⟨ha.1, ha.2, f⟩ h; omega
    · rw [if_pos (by omega), if_pos f]
      have := hg.lev (hg.ptr ha.1 ha.2 f) h; omega
  · have ra : RecIn t a := ⟨ha.1, ha.2, by omega⟩
    have rb : RecIn t b := ⟨hb.1, hb.2, f9⟩
    have h1 : ExtR t a b := by
      rcases hc with h | h
      · exact h.2
      · omega
    have hn := hg.nxt ra h1 hbs
    have rn := hg.chain_rec ra _ hn
    exact ⟨⟨rn.1, rn.2.1⟩, by rw [ra.2.2, rn.2.2], .inl ⟨ra.2.2, hn⟩⟩
abbrev gv (t : List Ty) (B : Nat) : AV := .gsl B 10 (t.map Ty.c)
theorem TypesOrder_c {t : List Ty} (hk : TOk t) (hn : FNames t) (a b : Int) (H : List ABlk) : ACalls Try.prog 4 [tv t, iv a, iv b] H fun v H' => v = bv true ∧ H' = H := by
  refine ACalls.into Try.func4 cc4 rr4 fun hcl => ?_
  have fin : ∀ l, Ret r4 H.length (fun v H' => v = bv true ∧ H' = H) (some (bv true)) (H ++ l) := fun l => Ret.drop (bv true) H (Nat.le_refl _) hcl (.rfl _) (by simp [refs]) ⟨rfl, rfl⟩
  have fin0 : Ret r4 H.length (fun v H' => v = bv true ∧ H' = H) (some (bv true)) H := Ret.keep ⟨rfl, rfl⟩
  simp (maxSteps := 2000000) (disch := omega) only [Try.ntmps4, c4, r4, go_sem, eq_self, if_true, if_false, reduceCtorEq, Int.reduceToNat, Int.reducePow, Nat.reducePow, Nat.reduceMul, Int.reduceLT, Int.reduceLE, Nat.reduceAdd, Nat.reduceLeDiff, Nat.reduceBEq, Nat.reduceSub, Int.reduceSub, Int.reduceMul, Int.reduceNeg, Int.reduceAdd]
  refine Cont.rel (large_c hk _) ?_
  rintro v H' ⟨⟨B, rfl, hB⟩, rfl⟩
  cases B
  rotate_left
  · simp (maxSteps := 2000000) (disch := omega) only [go_sem, eq_self, if_true, if_false, reduceCtorEq, Int.reduceToNat, Int.reducePow, Nat.reducePow, Nat.reduceMul, Int.reduceLT, Int.reduceLE, Nat.reduceAdd, Nat.reduceLeDiff, Nat.reduceBEq, Nat.reduceSub, Int.reduceSub, Int.reduceMul, Int.reduceNeg, Int.reduceAdd]
    refine Cont.mk (wakes_c _) ?_
    simp (maxSteps := 2000000) (disch := omega) only [go_sem, eq_self, if_true, if_false, reduceCtorEq, Int.reduceToNat, Int.reducePow, Nat.reducePow, Nat.reduceMul, Int.reduceLT, Int.reduceLE, Nat.reduceAdd, Nat.reduceLeDiff, Nat.reduceBEq, Nat.reduceSub, Int.reduceSub, Int.reduceMul, Int.reduceNeg, Int.reduceAdd]
    exact fin0
  have hs := hB rfl
  have htt : TT t := ⟨hs, hn, hk⟩
  have hlen := hs.1
  simp (maxSteps := 2000000) (disch := omega) only [go_sem, eq_self, if_true, if_false, reduceCtorEq, Int.reduceToNat, Int.reducePow, Nat.reducePow, Nat.reduceMul, Int.reduceLT, Int.reduceLE, Nat.reduceAdd, Nat.reduceLeDiff, Nat.reduceBEq, Nat.reduceSub, Int.reduceSub, Int.reduceMul, Int.reduceNeg, Int.reduceAdd]
  refine Cont.mk (rgood_c hs hn hk _) ?_
  by_cases hg : GoodP t
  rotate_left
  · rw [good_f hg]
    simp (maxSteps := 2000000) (disch := omega) only [go_sem, eq_self, if_true, if_false, reduceCtorEq, Int.reduceToNat, Int.reducePow, Nat.reducePow, Nat.reduceMul, Int.reduceLT, Int.reduceLE, Nat.reduceAdd, Nat.reduceLeDiff, Nat.reduceBEq, Nat.reduceSub, Int.reduceSub, Int.reduceMul, Int.reduceNeg, Int.reduceAdd]
    refine Cont.mk (wakes_c _) ?_
    simp (maxSteps := 2000000) (disch := omega) only [go_sem, eq_self, if_true, if_false, reduceCtorEq, Int.reduceToNat, Int.reducePow, Nat.reducePow, Nat.reduceMul, Int.reduceLT, Int.reduceLE, Nat.reduceAdd, Nat.reduceLeDiff, Nat.reduceBEq, Nat.reduceSub, Int.reduceSub, Int.reduceMul, Int.reduceNeg, Int.reduceAdd]
    exact fin0
  rw [good_t hg]
  by_cases a0 : a < 0
  · simp (maxSteps := 2000000) (disch := omega) only [go_sem, eq_self, if_true, if_false, reduceCtorEq, Int.reduceToNat, Int.reducePow, Nat.reducePow, Nat.reduceMul, Int.reduceLT, Int.reduceLE, Nat.reduceAdd, Nat.reduceLeDiff, Nat.reduceBEq, Nat.reduceSub, Int.reduceSub, Int.reduceMul, Int.reduceNeg, Int.reduceAdd]
    refine Cont.mk (wakes_c _) ?_
    simp (maxSteps := 2000000) (disch := omega) only [go_sem, eq_self, if_true, if_false, reduceCtorEq, Int.reduceToNat, Int.reducePow, Nat.reducePow, Nat.reduceMul, Int.reduceLT, Int.reduceLE, Nat.reduceAdd, Nat.reduceLeDiff, Nat.reduceBEq, Nat.reduceSub, Int.reduceSub, Int.reduceMul, Int.reduceNeg, Int.reduceAdd]
    exact fin0
  by_cases b0 : b < 0
  · simp (maxSteps := 2000000) (disch := omega) only [go_sem, eq_self, if_true, if_false, reduceCtorEq, Int.reduceToNat, Int.reducePow, Nat.reducePow, Nat.reduceMul, Int.reduceLT, Int.reduceLE, Nat.reduceAdd, Nat.reduceLeDiff, Nat.reduceBEq, Nat.reduceSub, Int.reduceSub, Int.reduceMul, Int.reduceNeg, Int.reduceAdd]
    refine Cont.mk (wakes_c _) ?_
    simp (maxSteps := 2000000) (disch := omega) only [go_sem, eq_self, if_true, if_false, reduceCtorEq, Int.reduceToNat, Int.reducePow, Nat.reducePow, Nat.reduceMul, Int.reduceLT, Int.reduceLE, Nat.reduceAdd, Nat.reduceLeDiff, Nat.reduceBEq, Nat.reduceSub, Int.reduceSub, Int.reduceMul, Int.reduceNeg, Int.reduceAdd]
    exact fin0
  by_cases a1 : a < t.length
  rotate_left
  · simp (maxSteps := 2000000) (disch := omega) only [List.length_map, go_sem, eq_self, if_true, if_false, reduceCtorEq, Int.reduceToNat, Int.reducePow, Nat.reducePow, Nat.reduceMul, Int.reduceLT, Int.reduceLE, Nat.reduceAdd, Nat.reduceLeDiff, Nat.reduceBEq, Nat.reduceSub, Int.reduceSub, Int.reduceMul, Int.reduceNeg, Int.reduceAdd]
    refine Cont.mk (wakes_c _) ?_
    simp (maxSteps := 2000000) (disch := omega) only [go_sem, eq_self, if_true, if_false, reduceCtorEq, Int.reduceToNat, Int.reducePow, Nat.reducePow, Nat.reduceMul, Int.reduceLT, Int.reduceLE, Nat.reduceAdd, Nat.reduceLeDiff, Nat.reduceBEq, Nat.reduceSub, Int.reduceSub, Int.reduceMul, Int.reduceNeg, Int.reduceAdd]
    exact fin0
  by_cases b1 : b < t.length
  rotate_left
  · simp (maxSteps := 2000000) (disch := omega) only [List.length_map, go_sem, eq_self, if_true, if_false, reduceCtorEq, Int.reduceToNat, Int.reducePow, Nat.reducePow, Nat.reduceMul, Int.reduceLT, Int.reduceLE, Nat.reduceAdd, Nat.reduceLeDiff, Nat.reduceBEq, Nat.reduceSub, Int.reduceSub, Int.reduceMul, Int.reduceNeg, Int.reduceAdd]
    refine Cont.mk (wakes_c _) ?_
    simp (maxSteps := 2000000) (disch := omega) only [go_sem, eq_self, if_true, if_false, reduceCtorEq, Int.reduceToNat, Int.reducePow, Nat.reducePow, Nat.reduceMul, Int.reduceLT, Int.reduceLE, Nat.reduceAdd, Nat.reduceLeDiff, Nat.reduceBEq, Nat.reduceSub, Int.reduceSub, Int.reduceMul, Int.reduceNeg, Int.reduceAdd]
    exact fin0
  have ha : placeP t a := ⟨by omega, a1⟩
  have hb : placeP t b := ⟨by omega, b1⟩
  have iax := iaA_ty (t := t) ha.1 ha.2
  have iay := iaA_ty (t := t) hb.1 hb.2
  have sm : ∀ a b, placeP t a → placeP t b → ∀ B H, ACalls Try.prog 20 [gv t B, iv a, iv b] H fun v H' => v = bv (simF t a b) ∧ H' = H := fun a b ha hb B H => by
    have := tysame_c htt a b (fun _ => tsame_c htt hg ha hb) H
    rw [dect (pl2 hg ha hb), Bool.true_and] at this
    exact this.weak (.cons (.gsl _ _ _) (.cons (.rfl _) (.cons (.rfl _) .nil)))
  have ex : ∀ a b, placeP t a → placeP t b → ∀ B H, ACalls Try.prog 21 [gv t B, iv a, iv b] H fun v H' => v = bv (decide (ExtP t a b)) ∧ H' = H := fun a b ha hb B H => by
    have := tyext_c htt a b (fun _ => ext_c htt.k hg ha.1 ha.2 hb.1 hb.2) H
    rw [dect (pl2 hg ha hb), Bool.true_and] at this
    exact this.weak (.cons (.gsl _ _ _) (.cons (.rfl _) (.cons (.rfl _) .nil)))
  have asn : ∀ a b, placeP t a → placeP t b → ∀ B H, ACalls Try.prog 22 [gv t B, iv a, iv b] H fun v H' => v = bv (asgF t a b (simF t a b) (simF t (tyAt t a).elem (tyAt t b).elem)) ∧ H' = H := fun a b ha hb B H => by
    have := tyasg_c htt a b (fun _ => asg_c htt.k hg ha.1 ha.2 hb.1 hb.2 (tsame_c htt hg ha hb) fun f8 f7 => tsame_c htt hg (hg.opn ha.1 ha.2 f8) (hg.arr hb.1 hb.2 f7)) H
    rw [dect (pl2 hg ha hb), Bool.true_and] at this
    exact this.weak (.cons (.gsl _ _ _) (.cons (.rfl _) (.cons (.rfl _) .nil)))
  have lv : ∀ a, placeP t a → ∀ B H, ACalls Try.prog 23 [gv t B, iv a] H fun v H' => v = iv (LevF t a) ∧ H' = H := fun a ha B H => by
    have := tylev_c htt a (fun _ => lev_c htt.k hg ha.1 ha.2) H
    rw [if_pos (pl1 hg ha)] at this
    exact this.weak (.cons (.gsl _ _ _) (.cons (.rfl _) .nil))
  simp (maxSteps := 2000000) (disch := omega) only [List.length_map, go_sem, eq_self, if_true, if_false, reduceCtorEq, Int.reduceToNat, Int.reducePow, Nat.reducePow, Nat.reduceMul, Int.reduceLT, Int.reduceLE, Nat.reduceAdd, Nat.reduceLeDiff, Nat.reduceBEq, Nat.reduceSub, Int.reduceSub, Int.reduceMul, Int.reduceNeg, Int.reduceAdd]
  refine Cont.mk (copy_c hs _) ?_
  simp (maxSteps := 2000000) (disch := omega) only [go_sem, eq_self, if_true, if_false, reduceCtorEq, Int.reduceToNat, Int.reducePow, Nat.reducePow, Nat.reduceMul, Int.reduceLT, Int.reduceLE, Nat.reduceAdd, Nat.reduceLeDiff, Nat.reduceBEq, Nat.reduceSub, Int.reduceSub, Int.reduceMul, Int.reduceNeg, Int.reduceAdd]
  refine Cont.mk (sm a b ha hb _ _) ?_
  simp (maxSteps := 2000000) (disch := omega) only [go_sem, eq_self, if_true, if_false, reduceCtorEq, Int.reduceToNat, Int.reducePow, Nat.reducePow, Nat.reduceMul, Int.reduceLT, Int.reduceLE, Nat.reduceAdd, Nat.reduceLeDiff, Nat.reduceBEq, Nat.reduceSub, Int.reduceSub, Int.reduceMul, Int.reduceNeg, Int.reduceAdd]
  refine Cont.mk (sm b a hb ha _ _) ?_
  have hsy : (simF t a b == simF t b a) = true := by rw [simF_symm t a b]; cases simF t b a <;> rfl
  simp (maxSteps := 2000000) (disch := omega) only [hsy, go_sem, eq_self, if_true, if_false, reduceCtorEq, Int.reduceToNat, Int.reducePow, Nat.reducePow, Nat.reduceMul, Int.reduceLT, Int.reduceLE, Nat.reduceAdd, Nat.reduceLeDiff, Nat.reduceBEq, Nat.reduceSub, Int.reduceSub, Int.reduceMul, Int.reduceNeg, Int.reduceAdd]
  refine Cont.mk (sm a a ha ha _ _) ?_
  rw [simF_refl]
  simp (maxSteps := 2000000) (disch := omega) only [go_sem, eq_self, if_true, if_false, reduceCtorEq, Int.reduceToNat, Int.reducePow, Nat.reducePow, Nat.reduceMul, Int.reduceLT, Int.reduceLE, Nat.reduceAdd, Nat.reduceLeDiff, Nat.reduceBEq, Nat.reduceSub, Int.reduceSub, Int.reduceMul, Int.reduceNeg, Int.reduceAdd]
  refine Cont.mk (ex a b ha hb _ _) ?_
  by_cases hE : ExtP t a b
  rotate_left
  · rw [decf hE]
    simp (maxSteps := 2000000) (disch := omega) only [go_sem, eq_self, if_true, if_false, reduceCtorEq, Int.reduceToNat, Int.reducePow, Nat.reducePow, Nat.reduceMul, Int.reduceLT, Int.reduceLE, Nat.reduceAdd, Nat.reduceLeDiff, Nat.reduceBEq, Nat.reduceSub, Int.reduceSub, Int.reduceMul, Int.reduceNeg, Int.reduceAdd]
    refine Cont.mk (wakes_c _) ?_
    simp (maxSteps := 2000000) (disch := omega) only [go_sem, eq_self, if_true, if_false, reduceCtorEq, Int.reduceToNat, Int.reducePow, Nat.reducePow, Nat.reduceMul, Int.reduceLT, Int.reduceLE, Nat.reduceAdd, Nat.reduceLeDiff, Nat.reduceBEq, Nat.reduceSub, Int.reduceSub, Int.reduceMul, Int.reduceNeg, Int.reduceAdd]
    exact fin _
  obtain ⟨o1, o2, o3, o4⟩ := ord hg ha hb hE (simF t a b) (simF t (tyAt t a).elem (tyAt t b).elem)
  rw [dect hE]
  simp (maxSteps := 2000000) (disch := omega) only [go_sem, eq_self, if_true, if_false, reduceCtorEq, Int.reduceToNat, Int.reducePow, Nat.reducePow, Nat.reduceMul, Int.reduceLT, Int.reduceLE, Nat.reduceAdd, Nat.reduceLeDiff, Nat.reduceBEq, Nat.reduceSub, Int.reduceSub, Int.reduceMul, Int.reduceNeg, Int.reduceAdd]
  refine Cont.mk (asn a b ha hb _ _) ?_
  rw [o1]
  simp (maxSteps := 2000000) (disch := omega) only [go_sem, eq_self, if_true, if_false, reduceCtorEq, Int.reduceToNat, Int.reducePow, Nat.reducePow, Nat.reduceMul, Int.reduceLT, Int.reduceLE, Nat.reduceAdd, Nat.reduceLeDiff, Nat.reduceBEq, Nat.reduceSub, Int.reduceSub, Int.reduceMul, Int.reduceNeg, Int.reduceAdd]
  refine Cont.mk (ex b a hb ha _ _) ?_
  simp (maxSteps := 2000000) (disch := omega) only [go_sem, eq_self, if_true, if_false, reduceCtorEq, Int.reduceToNat, Int.reducePow, Nat.reducePow, Nat.reduceMul, Int.reduceLT, Int.reduceLE, Nat.reduceAdd, Nat.reduceLeDiff, Nat.reduceBEq, Nat.reduceSub, Int.reduceSub, Int.reduceMul, Int.reduceNeg, Int.reduceAdd]
  refine Cont.mk (sm a b ha hb _ _) ?_
  have key : (decide (ExtP t b a) == simF t a b) = true ∨ ((decide (ExtP t b a) == simF t a b) = false ∧ (tyAt t a).form ≠ 9) := by
    by_cases f : (tyAt t a).form = 9
    · exact .inl (by rw [o2 f]; cases simF t a b <;> rfl)
    · cases decide (ExtP t b a) == simF t a b
      · exact .inr ⟨rfl, f⟩
      · exact .inl rfl
  clear o1 o2 hsy
  generalize decide (ExtP t b a) = X at *
  generalize simF t a b = Y at *
  have p4 : (tyAt t b).form = 9 → (tyAt t b).base ≠ 0 → ∀ B H, ACalls Try.prog 21 [gv t B, iv a, iv (tyAt t b).base] H fun v H' => v = bv true ∧ H' = H := fun f h B H => by
    obtain ⟨p1, p2⟩ := o4 f h
    have := ex a _ ha p1 B H
    rwa [dect p2] at this
  generalize tyAt t a = x at *
  generalize tyAt t b = y at *
  rcases key with k | ⟨k, f9⟩ <;> (
    simp (maxSteps := 2000000) (disch := omega) only [k, iax, Ty.c, go_sem, eq_self, if_true, if_false, reduceCtorEq, Int.reduceToNat, Int.reducePow, Nat.reducePow, Nat.reduceMul, Int.reduceLT, Int.reduceLE, Nat.reduceAdd, Nat.reduceLeDiff, Nat.reduceBEq, Nat.reduceSub, Int.reduceSub, Int.reduceMul, Int.reduceNeg, Int.reduceAdd]
    refine Cont.mk (lv a ha _ _) ?_
    simp (maxSteps := 2000000) (disch := omega) only [go_sem, eq_self, if_true, if_false, reduceCtorEq, Int.reduceToNat, Int.reducePow, Nat.reducePow, Nat.reduceMul, Int.reduceLT, Int.reduceLE, Nat.reduceAdd, Nat.reduceLeDiff, Nat.reduceBEq, Nat.reduceSub, Int.reduceSub, Int.reduceMul, Int.reduceNeg, Int.reduceAdd]
    refine Cont.mk (lv b hb _ _) ?_
    by_cases f : y.form = 9
    · by_cases hz : y.base = 0
      · simp (maxSteps := 2000000) (disch := omega) only [iay, Ty.c, go_sem, eq_self, if_true, if_false, reduceCtorEq, Int.reduceToNat, Int.reducePow, Nat.reducePow, Nat.reduceMul, Int.reduceLT, Int.reduceLE, Nat.reduceAdd, Nat.reduceLeDiff, Nat.reduceBEq, Nat.reduceSub, Int.reduceSub, Int.reduceMul, Int.reduceNeg, Int.reduceAdd]
        refine Cont.mk (wakes_c _) ?_
        simp (maxSteps := 2000000) (disch := omega) only [go_sem, eq_self, if_true, if_false, reduceCtorEq, Int.reduceToNat, Int.reducePow, Nat.reducePow, Nat.reduceMul, Int.reduceLT, Int.reduceLE, Nat.reduceAdd, Nat.reduceLeDiff, Nat.reduceBEq, Nat.reduceSub, Int.reduceSub, Int.reduceMul, Int.reduceNeg, Int.reduceAdd]
        exact fin _
      · simp (maxSteps := 2000000) (disch := omega) only [iay, Ty.c, go_sem, eq_self, if_true, if_false, reduceCtorEq, Int.reduceToNat, Int.reducePow, Nat.reducePow, Nat.reduceMul, Int.reduceLT, Int.reduceLE, Nat.reduceAdd, Nat.reduceLeDiff, Nat.reduceBEq, Nat.reduceSub, Int.reduceSub, Int.reduceMul, Int.reduceNeg, Int.reduceAdd]
        refine Cont.mk (p4 f hz _ _) ?_
        simp (maxSteps := 2000000) (disch := omega) only [go_sem, eq_self, if_true, if_false, reduceCtorEq, Int.reduceToNat, Int.reducePow, Nat.reducePow, Nat.reduceMul, Int.reduceLT, Int.reduceLE, Nat.reduceAdd, Nat.reduceLeDiff, Nat.reduceBEq, Nat.reduceSub, Int.reduceSub, Int.reduceMul, Int.reduceNeg, Int.reduceAdd]
        refine Cont.mk (wakes_c _) ?_
        simp (maxSteps := 2000000) (disch := omega) only [go_sem, eq_self, if_true, if_false, reduceCtorEq, Int.reduceToNat, Int.reducePow, Nat.reducePow, Nat.reduceMul, Int.reduceLT, Int.reduceLE, Nat.reduceAdd, Nat.reduceLeDiff, Nat.reduceBEq, Nat.reduceSub, Int.reduceSub, Int.reduceMul, Int.reduceNeg, Int.reduceAdd]
        exact fin _
    · simp (maxSteps := 2000000) (disch := omega) only [iay, Ty.c, go_sem, eq_self, if_true, if_false, reduceCtorEq, Int.reduceToNat, Int.reducePow, Nat.reducePow, Nat.reduceMul, Int.reduceLT, Int.reduceLE, Nat.reduceAdd, Nat.reduceLeDiff, Nat.reduceBEq, Nat.reduceSub, Int.reduceSub, Int.reduceMul, Int.reduceNeg, Int.reduceAdd]
      refine Cont.mk (wakes_c _) ?_
      simp (maxSteps := 2000000) (disch := omega) only [go_sem, eq_self, if_true, if_false, reduceCtorEq, Int.reduceToNat, Int.reducePow, Nat.reducePow, Nat.reduceMul, Int.reduceLT, Int.reduceLE, Nat.reduceAdd, Nat.reduceLeDiff, Nat.reduceBEq, Nat.reduceSub, Int.reduceSub, Int.reduceMul, Int.reduceNeg, Int.reduceAdd]
      exact fin _)
end Go.Proofs.Ytlhpcccffmfopaa

/- TypesOrder, of any argument. -/
namespace Go.Proofs.Ytlhpcccffmfopaa
open Go.ChangeShapes Go.WideShapes Go.ChangeAt Go.RowKit
theorem typesOrder_any {a0 a1 a2 : AV} (h0 : ArgD Try.prog 22 a0) (h1 : ArgD Try.prog 3 a1) (h2 : ArgD Try.prog 3 a2) (v0 v1 v2 : Value) (W : World) (hv : VRs ⟨W.cell?, fun _ _ => none⟩ [a0, a1, a2] [v0, v1, v2]) :
    Calls Try.prog 4 #[v0, v1, v2] W fun e w' => e = .returned (.bool true) ∧ Below W.heap.size W w' := by
  obtain ⟨t, rfl, g1, g2, _⟩ := read_tab h0
  obtain ⟨x, rfl, _⟩ := h1.int Try.underlying3
  obtain ⟨y, rfl, _⟩ := h2.int Try.underlying3
  exact (TypesOrder_c g1 g2 x y []).law (fun a v h => h) hv
end Go.Proofs.Ytlhpcccffmfopaa

/- The row TypesOrder, proved. -/
namespace Go.Proofs.Ytlhpcccffmfopaa
open Go.ChangeShapes Go.WideShapes Go.ChangeAt Go.RowKit

set_option maxRecDepth 100000 in
theorem typesOrder_lifted (os : Os) (started : os.Started) (H : Type) (enc : TypeId × Value → H) :
    ReturnsInHanded {} Try.checked os 4 .any (Rows.typesOrderSpec.pre6 enc Try.prog Try.f4 Rows.typesOrderRow.domain false) (Rows.typesOrderSpec.post enc Try.prog Try.f4 false true false false) := by
  refine returnsInHanded_of_change_sized (C := Try.checked) Try.own started (by kernel_rfl) Try.func4
    (ChangeSpec.witness6 (enc := enc) (C := Try.checked) false ⟨#[], #[.slice none 0 0, .int .i64 0, .int .i64 0], []⟩ 8 (by kernel_rfl) (by kernel_rfl) (by kernel_rfl) (by kernel_rfl)) ?_
  intro W base args ds gs before hval0 hW hcnd hsz _
  have hval : ∀ (j : Nat) t v, Try.f4.params[j]? = some t → args[j]? = some v → Value.okWide Try.prog W .any base t v := hval0
  have hW' := hW
  obtain ⟨p, q, hA0, hV, rfl, hfz, hnd⟩ := hW
  have hA : DataW.TrodAll enc Try.prog W 0 (fun _ => true) true Try.f4.params.toList args.toList ds p := hA0
  rw [Try.params4] at hA hval hsz
  obtain ⟨v0, v1, v2, d0, d1, d2, p0, p1, p2, rfl, rfl, rfl, h0, h1, h2⟩ := trodAll_three hA
  obtain ⟨rfl, rfl⟩ := trodVars_none hV
  obtain ⟨a0, ha0, hr0⟩ := read_val argL_ok (by decide) (hval 0 22 v0 rfl rfl) h0 (fun n hn => of_decide_eq_true (List.all_eq_true.1 hsz n (DataW.weights_mem_each (j := 0) rfl rfl n hn)))
  obtain ⟨a1, ha1, hr1⟩ := read_val argL_ok (by decide) (hval 1 3 v1 rfl rfl) h1 (fun n hn => of_decide_eq_true (List.all_eq_true.1 hsz n (DataW.weights_mem_each (j := 1) rfl rfl n hn)))
  obtain ⟨a2, ha2, hr2⟩ := read_val argL_ok (by decide) (hval 2 3 v2 rfl rfl) h2 (fun n hn => of_decide_eq_true (List.all_eq_true.1 hsz n (DataW.weights_mem_each (j := 2) rfl rfl n hn)))
  clear hA0 hval0
  simp only [List.append_nil] at hW'
  have hlt := hW'.lt
  refine (typesOrder_any ha0 ha1 ha2 v0 v1 v2 W (.cons hr0 (.cons hr1 (.cons hr2 .nil)))).mono fun e W' ⟨he, hw⟩ => ?_
  subst he
  exact ⟨_, rfl, post_of_below (pa := p0 ++ (p1 ++ p2)) (pv := []) hW' (fun _ _ _ => trodAll_mk1 (shut_bool Try.underlying4 _)) (fun sp hsp => trodAll_mk3 (WideElems.Trod_stays Try.laidOut (by kernel_rfl) (of_decide_eq_true (by kernel_rfl)) h0 (fun x hx => hw.same (hlt x (by simp [hx]))) (fun x hx => hsp x (by simp [hx]))) (WideElems.Trod_stays Try.laidOut (by kernel_rfl) (of_decide_eq_true (by kernel_rfl)) h1 (fun x hx => hw.same (hlt x (by simp [hx]))) (fun x hx => hsp x (by simp [hx]))) (WideElems.Trod_stays Try.laidOut (by kernel_rfl) (of_decide_eq_true (by kernel_rfl)) h2 (fun x hx => hw.same (hlt x (by simp [hx]))) (fun x hx => hsp x (by simp [hx])))) (fun _ _ => rfl) (by simp)
    hw (ok_one (by kernel_rfl) rfl (okWide_bool_mk Try.underlying4 _))⟩

theorem typesOrder_holds : Rows.TypesOrderSaid :=
  OpenClaim.holds_of_wide 4 Try.f4 rfl rfl rfl rfl rfl rfl rfl ⟨rfl, rfl, rfl, rfl, rfl⟩ rfl rfl rfl rfl rfl (by kernel_rfl) Try.func4 (by kernel_rfl)
    (of_decide_eq_true (by kernel_rfl)) (by unfold Func.isWrapper; first | (rw [if_pos (by decide +kernel)]; kernel_rfl) | (rw [if_neg (by decide +kernel)]; exact ⟨rfl, rfl⟩))
    (fun os started H enc _ => typesOrder_lifted os started H enc)
end Go.Proofs.Ytlhpcccffmfopaa
