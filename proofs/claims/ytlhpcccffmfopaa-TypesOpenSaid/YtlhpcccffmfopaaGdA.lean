/- tables.pairs.same where it ends at once. -/
import Derived.Test.YtlhpcccffmfopaaT3
import Derived.Test.YtlhpcccffmfopaaCodeS
import Derived.Test.YtlhpcccffmfopaaP3
import Derived.Test.YtlhpcccffmfopaaT12
import Derived.Test.YtlhpcccffmfopaaT11
namespace Go.Proofs.Ytlhpcccffmfopaa
set_option linter.unusedSectionVars false
set_option linter.unusedSimpArgs false
set_option linter.unusedVariables false
set_option maxRecDepth 20000
set_option maxHeartbeats 4000000
open Go.RowKit

def NamedF (x y : Ty) : Prop := x.name ≠ se ∧ x.name = y.name ∧ x.mod = y.mod ∧ x.form ≠ 11 ∧ y.form ≠ 11
instance (x y : Ty) : Decidable (NamedF x y) := inferInstanceAs (Decidable (_ ∧ _))
def RecF (x y : Ty) : Prop := x.form = y.form ∧ x.mod = y.mod ∧ x.desc = y.desc ∧ x.desc ≠ -1
instance (x y : Ty) : Decidable (RecF x y) := inferInstanceAs (Decidable (_ ∧ _))
/-- The answer, if it is there at once. -/
def easyF (t : List Ty) (a b : Int) : Option Bool :=
  if a = b then some true
  else if (tyAt t a).form = 9 ∨ (tyAt t b).form = 9 then some (decide (RecF (tyAt t a) (tyAt t b)))
  else if NamedF (tyAt t a) (tyAt t b) then some true
  else if (tyAt t a).form ≠ (tyAt t b).form then some false
  else none

theorem kill2 (H : List ABlk) (n : Nat) (h : n = H.length) (l : List ABlk) : ((H ++ l).set n .dead) = H ++ l.set 0 .dead := by
  subst h
  rw [List.set_append_right _ _ (Nat.le_refl _), Nat.sub_self]
theorem WStep.al {P : Program} {w u : List Nat} {d : Option Nat} {l : List AV} {s : List AV} {H : List ABlk} {Kk : List AV → List ABlk → Prop} (hw : H.length ∈ w) (hu : ∀ b ∈ u, b < H.length ∨ H.length + 1 ≤ b) (h : Kk (setO s d (.ptr H.length 0)) (H ++ [.cells l])) :
    WStep P w u ⟨d, .al l, none⟩ s H Kk := by
  refine WStep.evU (H ++ [.cells l]) (by simp) (by simp) ?_
  simp only [evK, EvK, kill_length]
  refine ⟨?_, h⟩
  rw [show kill u H ++ [ABlk.cells l] = kill u (H ++ [.cells l]) from (kill_app hu).symm]
  exact ⟨rfl, fun c hc => by
    rcases Nat.lt_or_ge c H.length with h1 | h1
    · rw [List.getElem?_append_left h1]
    · have : c ≠ H.length := fun e => hc (e ▸ hw)
      rw [List.getElem?_eq_none (by simp; omega), List.getElem?_eq_none h1], by simp⟩
theorem FrOk.put {w : List Nat} {H l l' : List ABlk} (k : Nat) (x : ABlk) (hw : H.length + k ∈ w) (h : l' = l.set k x) : FrOk w [] (H ++ l) (H ++ l') (H ++ l') := by
  subst h
  have := FrOk.set (w := w) (H := H ++ l) (b := H.length + k) (x := x) hw
  rwa [List.set_append_right _ _ (by omega), Nat.add_sub_cancel_left] at this
/-- The boxes of pairs.same. -/
abbrev bxs (mb : Nat) (t : List Ty) (x y : Ty) : List ABlk := [.cells [.mp mb], .cells [tv t], .cells x.cs, .cells y.cs]
abbrev SS1 (mb : Nat) (t : List Ty) (a b : Int) (H : List ABlk) : List AV := [.mp mb, tv t, iv a, iv b, .ptr H.length 0, .ptr (H.length + 1) 0, .any, .any, bv false, .ptr (H.length + 2) 0, .ptr (H.length + 3) 0] ++ List.replicate 143 .any
def JS (mb : Nat) (t : List Ty) (a b : Int) (H : List ABlk) (s : List AV) (H' : List ABlk) : Prop := s = SS1 mb t a b H ∧ H' = H ++ bxs mb t (tyAt t a) (tyAt t b)
def tl62 : AC := match c62 with | .seq _ (.seq _ (.seq _ (.seq _ (.seq _ z)))) => z | _ => .skip
theorem decf {p : Prop} {i : Decidable p} (h : ¬ p) : decide p = false := decide_eq_false h
theorem dect {p : Prop} {i : Decidable p} (h : p) : decide p = true := decide_eq_true h
theorem same_w {t : List Ty} {a b : Int} (ht : TOk t) (a0 : 0 ≤ a) (a1 : a < t.length) (b0 : 0 ≤ b) (b1 : b < t.length) (mb : Nat) (H : List ABlk) {R : AV → List ABlk → Prop}
    (hR : cl H → ∀ r, easyF t a b = some r → ∀ l, Ret r62 H.length R (some (bv r)) (H ++ l))
    (hD : cl H → easyF t a b = none → ∀ s H', JS mb t a b H s H' → W Try.prog (hhS 62) H.length tl62 s H' (retW r62 H.length R)) :
    ACalls Try.prog 62 [.mp mb, tv t, iv a, iv b] H R := by
  refine ACalls.enter Try.func62 cc62 rr62 fun hcl => ?_
  have iax := iaA_ty a0 a1
  have iay := iaA_ty b0 b1
  have fin := hR hcl
  replace hD := hD hcl
  have hJ : ∀ (s : List AV) (H' : List ABlk), JS mb t a b H s H' ↔ s = SS1 mb t a b H ∧ H' = H ++ bxs mb t (tyAt t a) (tyAt t b) := fun _ _ => .rfl
  unfold easyF at fin hD
  generalize hx : tyAt t a = x at *
  generalize hy : tyAt t b = y at *
  unfold tl62 at hD
  simp only [Try.ntmps62, c62, r62] at hD ⊢
  refine W.seq_reg ?_
  simp (maxSteps := 2000000) (disch := omega) only [go_sem, eq_self, if_true, if_false, reduceCtorEq, Int.reduceToNat, Int.reducePow, Nat.reducePow, Nat.reduceMul, Int.reduceLT, Int.reduceLE, Nat.reduceAdd, Nat.reduceLeDiff, Nat.reduceBEq, Nat.reduceSub, Int.reduceSub, Int.reduceMul, Int.reduceNeg, Int.reduceAdd]
  refine W.cut (JS mb t a b H) ?_ ?_
  · refine W.dregD [([], [H.length + 2, H.length + 3]), ([], [H.length + 2, H.length + 3]), ([], [H.length + 2, H.length + 3]), ([], [H.length + 2, H.length + 3]), ([], [H.length + 2, H.length + 3, H.length + 2]), ([], [H.length + 2, H.length + 3, H.length + 2]), ([], [H.length + 2, H.length + 3, H.length + 2]), ([], [H.length + 2, H.length + 3, H.length + 2]), ([H.length + 2], [H.length + 3]), ([H.length + 3], [H.length + 2]), ([H.length + 2], []), ([H.length + 3], [])] follows (by decide +kernel) rfl rfl (fun z hz b hb => ?_) ?_
    · simp only [List.mem_cons, List.not_mem_nil, or_false] at hz
      rcases hz with rfl | rfl | rfl | rfl | rfl | rfl | rfl | rfl | rfl | rfl | rfl | rfl <;> simp at hb <;> subst hb <;> exact ⟨by simp, by rw [List.getElem?_eq_none (by simp)]; exact fun h => by cases h⟩
    repeat (rw [DC_p]; simp (maxSteps := 2000000) (disch := omega) only [kill_c, iax, iay, Ty.c, List.set_nil, go_sem, eq_self, if_true, if_false, reduceCtorEq, Int.reduceToNat, Int.reducePow, Nat.reducePow, Nat.reduceMul, Int.reduceLT, Int.reduceLE, Nat.reduceAdd, Nat.reduceLeDiff, Nat.reduceBEq, Nat.reduceSub, Int.reduceSub, Int.reduceMul, Int.reduceNeg, Int.reduceAdd])
    refine WStep.al (by simp) (by simp) ?_
    simp (maxSteps := 2000000) (disch := omega) only [go_sem, eq_self, if_true, if_false, reduceCtorEq, Int.reduceToNat, Int.reducePow, Nat.reducePow, Nat.reduceMul, Int.reduceLT, Int.reduceLE, Nat.reduceAdd, Nat.reduceLeDiff, Nat.reduceBEq, Nat.reduceSub, Int.reduceSub, Int.reduceMul, Int.reduceNeg, Int.reduceAdd]
    refine WStep.al (by simp) (by simp) ?_
    simp (maxSteps := 2000000) (disch := omega) only [go_sem, eq_self, if_true, if_false, reduceCtorEq, Int.reduceToNat, Int.reducePow, Nat.reducePow, Nat.reduceMul, Int.reduceLT, Int.reduceLE, Nat.reduceAdd, Nat.reduceLeDiff, Nat.reduceBEq, Nat.reduceSub, Int.reduceSub, Int.reduceMul, Int.reduceNeg, Int.reduceAdd]
    refine WStep.ev (by simp) (by simp) ?_
    simp (maxSteps := 2000000) (disch := omega) only [go_sem, eq_self, if_true, if_false, reduceCtorEq, Int.reduceToNat, Int.reducePow, Nat.reducePow, Nat.reduceMul, Int.reduceLT, Int.reduceLE, Nat.reduceAdd, Nat.reduceLeDiff, Nat.reduceBEq, Nat.reduceSub, Int.reduceSub, Int.reduceMul, Int.reduceNeg, Int.reduceAdd]
    refine ⟨FrOk.put 2 _ (by simp) rfl, ?_⟩
    refine WStep.ev (by simp) (by simp) ?_
    simp (maxSteps := 2000000) (disch := omega) only [go_sem, eq_self, if_true, if_false, reduceCtorEq, Int.reduceToNat, Int.reducePow, Nat.reducePow, Nat.reduceMul, Int.reduceLT, Int.reduceLE, Nat.reduceAdd, Nat.reduceLeDiff, Nat.reduceBEq, Nat.reduceSub, Int.reduceSub, Int.reduceMul, Int.reduceNeg, Int.reduceAdd]
    refine ⟨FrOk.put 3 _ (by simp) rfl, ?_⟩
    exact ⟨_, _, Wk.slots (by (try simp only [List.replicate, List.cons_append, List.nil_append]); repeat' first | exact WkL.nil | refine WkL.cons (Wk1.rfl _) ?_ | refine WkL.cons Wk1.esl ?_ | refine WkL.cons (Wk1.gsl _ _ _) ?_ | refine WkL.cons (Wk1.any _) ?_), (hJ _ _).2 ⟨rfl, rfl⟩⟩
  rintro s H' hj
  obtain ⟨rfl, rfl⟩ := (hJ _ _).1 hj
  refine W.cut (fun s H' => JS mb t a b H s H' ∧ a ≠ b) (wpA.W ?_) ?_
  · simp (maxSteps := 2000000) (disch := omega) only [Ty.cs, List.append_assoc, List.cons_append, List.nil_append, go_sem, eq_self, if_true, if_false, reduceCtorEq, Int.reduceToNat, Int.reducePow, Nat.reducePow, Nat.reduceMul, Int.reduceLT, Int.reduceLE, Nat.reduceAdd, Nat.reduceLeDiff, Nat.reduceBEq, Nat.reduceSub, Int.reduceSub, Int.reduceMul, Int.reduceNeg, Int.reduceAdd]
    refine Br.dec (fun h1 => ?_) (fun h1 => ?_) <;> simp (maxSteps := 2000000) (disch := omega) only [go_sem, eq_self, if_true, if_false, reduceCtorEq, Int.reduceToNat, Int.reducePow, Nat.reducePow, Nat.reduceMul, Int.reduceLT, Int.reduceLE, Nat.reduceAdd, Nat.reduceLeDiff, Nat.reduceBEq, Nat.reduceSub, Int.reduceSub, Int.reduceMul, Int.reduceNeg, Int.reduceAdd]
    · exact fin true (by rw [if_pos h1]) _
    · exact ⟨_, _, Wk.slots (by (try simp only [List.replicate, List.cons_append, List.nil_append]); repeat' first | exact WkL.nil | refine WkL.cons (Wk1.rfl _) ?_ | refine WkL.cons Wk1.esl ?_ | refine WkL.cons (Wk1.gsl _ _ _) ?_ | refine WkL.cons (Wk1.any _) ?_), (hJ _ _).2 ⟨rfl, rfl⟩, h1⟩
  rintro s H' ⟨hj, h1⟩
  obtain ⟨rfl, rfl⟩ := (hJ _ _).1 hj
  rw [if_neg h1] at fin hD
  refine W.cut (fun s H' => JS mb t a b H s H' ∧ ¬ (x.form = 9 ∨ y.form = 9)) (wpA.W ?_) ?_
  · simp (maxSteps := 2000000) (disch := omega) only [Ty.cs, List.append_assoc, List.cons_append, List.nil_append, go_sem, eq_self, if_true, if_false, reduceCtorEq, Int.reduceToNat, Int.reducePow, Nat.reducePow, Nat.reduceMul, Int.reduceLT, Int.reduceLE, Nat.reduceAdd, Nat.reduceLeDiff, Nat.reduceBEq, Nat.reduceSub, Int.reduceSub, Int.reduceMul, Int.reduceNeg, Int.reduceAdd]
    by_cases f1 : x.form = 9 ∨ y.form = 9
    · rw [if_pos f1] at fin
      by_cases f2 : x.form = y.form
      · by_cases f5 : x.mod = y.mod
        · have k5 := decide_eq_true f5
          by_cases f6 : x.desc = y.desc
          · by_cases f7 : x.desc = -1
            · simp (maxSteps := 2000000) (disch := omega) only [k5, Ty.cs, go_sem, eq_self, if_true, if_false, reduceCtorEq, Int.reduceToNat, Int.reducePow, Nat.reducePow, Nat.reduceMul, Int.reduceLT, Int.reduceLE, Nat.reduceAdd, Nat.reduceLeDiff, Nat.reduceBEq, Nat.reduceSub, Int.reduceSub, Int.reduceMul, Int.reduceNeg, Int.reduceAdd]
              exact fin false (congrArg some (decf fun h => h.2.2.2 f7)) _
            · simp (maxSteps := 2000000) (disch := omega) only [k5, Ty.cs, go_sem, eq_self, if_true, if_false, reduceCtorEq, Int.reduceToNat, Int.reducePow, Nat.reducePow, Nat.reduceMul, Int.reduceLT, Int.reduceLE, Nat.reduceAdd, Nat.reduceLeDiff, Nat.reduceBEq, Nat.reduceSub, Int.reduceSub, Int.reduceMul, Int.reduceNeg, Int.reduceAdd]
              exact fin true (congrArg some (dect ⟨f2, f5, f6, f7⟩)) _
          · simp (maxSteps := 2000000) (disch := omega) only [k5, Ty.cs, go_sem, eq_self, if_true, if_false, reduceCtorEq, Int.reduceToNat, Int.reducePow, Nat.reducePow, Nat.reduceMul, Int.reduceLT, Int.reduceLE, Nat.reduceAdd, Nat.reduceLeDiff, Nat.reduceBEq, Nat.reduceSub, Int.reduceSub, Int.reduceMul, Int.reduceNeg, Int.reduceAdd]
            exact fin false (congrArg some (decf fun h => f6 h.2.2.1)) _
        · have k5 := decide_eq_false f5
          simp (maxSteps := 2000000) (disch := omega) only [k5, Ty.cs, go_sem, eq_self, if_true, if_false, reduceCtorEq, Int.reduceToNat, Int.reducePow, Nat.reducePow, Nat.reduceMul, Int.reduceLT, Int.reduceLE, Nat.reduceAdd, Nat.reduceLeDiff, Nat.reduceBEq, Nat.reduceSub, Int.reduceSub, Int.reduceMul, Int.reduceNeg, Int.reduceAdd]
          exact fin false (congrArg some (decf fun h => f5 h.2.1)) _
      · by_cases f3 : x.form = 9
        · simp (maxSteps := 2000000) (disch := omega) only [Ty.cs, go_sem, eq_self, if_true, if_false, reduceCtorEq, Int.reduceToNat, Int.reducePow, Nat.reducePow, Nat.reduceMul, Int.reduceLT, Int.reduceLE, Nat.reduceAdd, Nat.reduceLeDiff, Nat.reduceBEq, Nat.reduceSub, Int.reduceSub, Int.reduceMul, Int.reduceNeg, Int.reduceAdd]
          exact fin false (congrArg some (decf fun h => f2 h.1)) _
        · have f4 : y.form = 9 := by omega
          simp (maxSteps := 2000000) (disch := omega) only [Ty.cs, go_sem, eq_self, if_true, if_false, reduceCtorEq, Int.reduceToNat, Int.reducePow, Nat.reducePow, Nat.reduceMul, Int.reduceLT, Int.reduceLE, Nat.reduceAdd, Nat.reduceLeDiff, Nat.reduceBEq, Nat.reduceSub, Int.reduceSub, Int.reduceMul, Int.reduceNeg, Int.reduceAdd]
          exact fin false (congrArg some (decf fun h => f2 h.1)) _
    · have f3 : x.form ≠ 9 := fun h => f1 (.inl h)
      have f4 : y.form ≠ 9 := fun h => f1 (.inr h)
      simp (maxSteps := 2000000) (disch := omega) only [Ty.cs, go_sem, eq_self, if_true, if_false, reduceCtorEq, Int.reduceToNat, Int.reducePow, Nat.reducePow, Nat.reduceMul, Int.reduceLT, Int.reduceLE, Nat.reduceAdd, Nat.reduceLeDiff, Nat.reduceBEq, Nat.reduceSub, Int.reduceSub, Int.reduceMul, Int.reduceNeg, Int.reduceAdd]
      exact ⟨_, _, Wk.slots (by (try simp only [List.replicate, List.cons_append, List.nil_append]); repeat' first | exact WkL.nil | refine WkL.cons (Wk1.rfl _) ?_ | refine WkL.cons Wk1.esl ?_ | refine WkL.cons (Wk1.gsl _ _ _) ?_ | refine WkL.cons (Wk1.any _) ?_), (hJ _ _).2 ⟨rfl, rfl⟩, fun h => h.elim id id⟩
  rintro s H' ⟨hj, h2⟩
  obtain ⟨rfl, rfl⟩ := (hJ _ _).1 hj
  rw [if_neg h2] at fin hD
  refine W.cut (fun s H' => JS mb t a b H s H' ∧ ¬ NamedF x y) (wpA.W ?_) ?_
  · simp (maxSteps := 2000000) (disch := omega) only [Ty.cs, List.append_assoc, List.cons_append, List.nil_append, go_sem, eq_self, if_true, if_false, reduceCtorEq, Int.reduceToNat, Int.reducePow, Nat.reducePow, Nat.reduceMul, Int.reduceLT, Int.reduceLE, Nat.reduceAdd, Nat.reduceLeDiff, Nat.reduceBEq, Nat.reduceSub, Int.reduceSub, Int.reduceMul, Int.reduceNeg, Int.reduceAdd]
    have ex : ¬ NamedF x y → ∃ s0 H0, Wk H.length (SS1 mb t a b H) (H ++ bxs mb t x y) s0 H0 ∧ JS mb t a b H s0 H0 ∧ ¬ NamedF x y := fun h => ⟨_, _, Wk.refl, (hJ _ _).2 ⟨rfl, rfl⟩, h⟩
    by_cases f1 : x.name = se
    · simp (maxSteps := 2000000) (disch := omega) only [f1, Ty.cs, go_sem, eq_self, if_true, if_false, reduceCtorEq, Int.reduceToNat, Int.reducePow, Nat.reducePow, Nat.reduceMul, Int.reduceLT, Int.reduceLE, Nat.reduceAdd, Nat.reduceLeDiff, Nat.reduceBEq, Nat.reduceSub, Int.reduceSub, Int.reduceMul, Int.reduceNeg, Int.reduceAdd]
      exact ⟨_, _, Wk.slots (by (try simp only [List.replicate, List.cons_append, List.nil_append]); repeat' first | exact WkL.nil | refine WkL.cons (Wk1.rfl _) ?_ | refine WkL.cons Wk1.esl ?_ | refine WkL.cons (Wk1.gsl _ _ _) ?_ | refine WkL.cons (Wk1.any _) ?_), (hJ _ _).2 ⟨rfl, rfl⟩, fun h => h.1 f1⟩
    have k1 := decide_eq_false f1
    by_cases f2 : x.name = y.name
    rotate_left
    · have k2 := decide_eq_false f2
      simp (maxSteps := 2000000) (disch := omega) only [k1, k2, Ty.cs, go_sem, eq_self, if_true, if_false, reduceCtorEq, Int.reduceToNat, Int.reducePow, Nat.reducePow, Nat.reduceMul, Int.reduceLT, Int.reduceLE, Nat.reduceAdd, Nat.reduceLeDiff, Nat.reduceBEq, Nat.reduceSub, Int.reduceSub, Int.reduceMul, Int.reduceNeg, Int.reduceAdd]
      exact ⟨_, _, Wk.slots (by (try simp only [List.replicate, List.cons_append, List.nil_append]); repeat' first | exact WkL.nil | refine WkL.cons (Wk1.rfl _) ?_ | refine WkL.cons Wk1.esl ?_ | refine WkL.cons (Wk1.gsl _ _ _) ?_ | refine WkL.cons (Wk1.any _) ?_), (hJ _ _).2 ⟨rfl, rfl⟩, fun h => f2 h.2.1⟩
    have k2 := decide_eq_true f2
    by_cases f3 : x.mod = y.mod
    rotate_left
    · have k3 := decide_eq_false f3
      simp (maxSteps := 2000000) (disch := omega) only [k1, k2, k3, Ty.cs, go_sem, eq_self, if_true, if_false, reduceCtorEq, Int.reduceToNat, Int.reducePow, Nat.reducePow, Nat.reduceMul, Int.reduceLT, Int.reduceLE, Nat.reduceAdd, Nat.reduceLeDiff, Nat.reduceBEq, Nat.reduceSub, Int.reduceSub, Int.reduceMul, Int.reduceNeg, Int.reduceAdd]
      exact ⟨_, _, Wk.slots (by (try simp only [List.replicate, List.cons_append, List.nil_append]); repeat' first | exact WkL.nil | refine WkL.cons (Wk1.rfl _) ?_ | refine WkL.cons Wk1.esl ?_ | refine WkL.cons (Wk1.gsl _ _ _) ?_ | refine WkL.cons (Wk1.any _) ?_), (hJ _ _).2 ⟨rfl, rfl⟩, fun h => f3 h.2.2.1⟩
    have k3 := decide_eq_true f3
    by_cases f4 : x.form = 11
    · simp (maxSteps := 2000000) (disch := omega) only [k1, k2, k3, Ty.cs, go_sem, eq_self, if_true, if_false, reduceCtorEq, Int.reduceToNat, Int.reducePow, Nat.reducePow, Nat.reduceMul, Int.reduceLT, Int.reduceLE, Nat.reduceAdd, Nat.reduceLeDiff, Nat.reduceBEq, Nat.reduceSub, Int.reduceSub, Int.reduceMul, Int.reduceNeg, Int.reduceAdd]
      exact ⟨_, _, Wk.slots (by (try simp only [List.replicate, List.cons_append, List.nil_append]); repeat' first | exact WkL.nil | refine WkL.cons (Wk1.rfl _) ?_ | refine WkL.cons Wk1.esl ?_ | refine WkL.cons (Wk1.gsl _ _ _) ?_ | refine WkL.cons (Wk1.any _) ?_), (hJ _ _).2 ⟨rfl, rfl⟩, fun h => h.2.2.2.1 f4⟩
    by_cases f5 : y.form = 11
    · simp (maxSteps := 2000000) (disch := omega) only [k1, k2, k3, Ty.cs, go_sem, eq_self, if_true, if_false, reduceCtorEq, Int.reduceToNat, Int.reducePow, Nat.reducePow, Nat.reduceMul, Int.reduceLT, Int.reduceLE, Nat.reduceAdd, Nat.reduceLeDiff, Nat.reduceBEq, Nat.reduceSub, Int.reduceSub, Int.reduceMul, Int.reduceNeg, Int.reduceAdd]
      exact ⟨_, _, Wk.slots (by (try simp only [List.replicate, List.cons_append, List.nil_append]); repeat' first | exact WkL.nil | refine WkL.cons (Wk1.rfl _) ?_ | refine WkL.cons Wk1.esl ?_ | refine WkL.cons (Wk1.gsl _ _ _) ?_ | refine WkL.cons (Wk1.any _) ?_), (hJ _ _).2 ⟨rfl, rfl⟩, fun h => h.2.2.2.2 f5⟩
    simp (maxSteps := 2000000) (disch := omega) only [k1, k2, k3, Ty.cs, go_sem, eq_self, if_true, if_false, reduceCtorEq, Int.reduceToNat, Int.reducePow, Nat.reducePow, Nat.reduceMul, Int.reduceLT, Int.reduceLE, Nat.reduceAdd, Nat.reduceLeDiff, Nat.reduceBEq, Nat.reduceSub, Int.reduceSub, Int.reduceMul, Int.reduceNeg, Int.reduceAdd]
    exact fin true (by rw [if_pos ⟨f1, f2, f3, f4, f5⟩]) _
  rintro s H' ⟨hj, h3⟩
  obtain ⟨rfl, rfl⟩ := (hJ _ _).1 hj
  rw [if_neg h3] at fin hD
  by_cases h4 : x.form = y.form
  · rw [if_neg (fun h => h h4)] at hD
    exact hD rfl _ _ ((hJ _ _).2 ⟨rfl, rfl⟩)
  rw [if_pos h4] at fin
  refine wpA.W ?_
  have k4 := decide_eq_false h4
  simp (maxSteps := 2000000) (disch := omega) only [Ty.cs, List.append_assoc, List.cons_append, List.nil_append, go_sem, eq_self, if_true, if_false, reduceCtorEq, Int.reduceToNat, Int.reducePow, Nat.reducePow, Nat.reduceMul, Int.reduceLT, Int.reduceLE, Nat.reduceAdd, Nat.reduceLeDiff, Nat.reduceBEq, Nat.reduceSub, Int.reduceSub, Int.reduceMul, Int.reduceNeg, Int.reduceAdd]
  exact fin false rfl _
theorem same_easy {t : List Ty} {a b : Int} (ht : TOk t) (a0 : 0 ≤ a) (a1 : a < t.length) (b0 : 0 ≤ b) (b1 : b < t.length) {r : Bool} (he : easyF t a b = some r) (mb : Nat) (H : List ABlk) :
    ACalls Try.prog 62 [.mp mb, tv t, iv a, iv b] H fun v H' => v = bv r ∧ H' = H :=
  same_w ht a0 a1 b0 b1 mb H (fun hcl r' h l => by
    rw [h] at he; cases he
    exact Ret.drop _ H (Nat.le_refl _) hcl (.rfl _) (by simp [refs]) ⟨rfl, rfl⟩) (fun _ h => by rw [h] at he; cases he)
end Go.Proofs.Ytlhpcccffmfopaa

/- Plain law: the bases of a record. -/
namespace Go.Proofs.Ytlhpcccffmfopaa
set_option linter.unusedSimpArgs false
set_option linter.unusedVariables false

def RecIn (t : List Ty) (c : Int) : Prop := 0 ≤ c ∧ c < t.length ∧ (tyAt t c).form = 9
theorem chain_ne (t : List Ty) : ∀ n a, ∃ r, chain t n a = a :: r
  | 0, a => ⟨[], rfl⟩
  | n + 1, a => ⟨_, rfl⟩
theorem chain_step {t : List Ty} : ∀ {n : Nat} {a : Int}, (chain t n a).length ≤ n → ∀ i, i < (chain t n a).length → (tyAt t ((chain t n a).getD i 0)).base = (chain t n a).getD (i + 1) 0
  | 0, a, h, i, _ => by simp [chain] at h
  | n + 1, a, h, i, hi => by
    by_cases hb : (tyAt t a).base = 0
    · simp only [chain, if_pos hb, List.length_cons, List.length_nil] at hi ⊢
      have : i = 0 := by omega
      subst this
      simpa using hb
    · simp only [chain, if_neg hb, List.length_cons] at h hi ⊢
      cases i with
      | zero =>
        obtain ⟨r, hr⟩ := chain_ne t n (tyAt t a).base
        rw [hr]; rfl
      | succ i => exact chain_step (n := n) (by omega) i (by omega)
theorem GoodP.at_ {t : List Ty} (h : GoodP t) {a : Int} (h0 : 0 ≤ a) (h1 : a < t.length) : (a < 7 ∧ tyAt t a = bt a) ∨ (7 ≤ a ∧ FormedP t (tyAt t a)) := h.toFrmP.at_ h0 h1
theorem GoodP.rec_ {t : List Ty} (h : GoodP t) {a : Int} (ha : RecIn t a) : 7 ≤ a ∧ FormedP t (tyAt t a) := by
  rcases h.at_ ha.1 ha.2.1 with ⟨h7, e⟩ | h7
  · have := ha.2.2
    rw [e] at this
    simp [bt] at this
    omega
  · exact h7
theorem GoodP.base {t : List Ty} (h : GoodP t) {a : Int} (ha : RecIn t a) : (tyAt t a).base = 0 ∨ RecIn t (tyAt t a).base := by
  obtain ⟨_, hf⟩ := h.rec_ ha
  rcases (FrmP.f9 hf ha.2.2).1.1 with h1 | h1
  · exact .inl h1
  · exact .inr (form_in h1 (by decide))
theorem GoodP.chain_rec {t : List Ty} (h : GoodP t) : ∀ {n : Nat} {a : Int}, RecIn t a → ∀ c ∈ chain t n a, RecIn t c
  | 0, a, ha, c, hc => by simp [chain] at hc; subst hc; exact ha
  | n + 1, a, ha, c, hc => by
    simp only [chain, List.mem_cons] at hc
    rcases hc with rfl | hc
    · exact ha
    · rcases h.base ha with h1 | h1
      · rw [if_pos h1] at hc; simp at hc
      · split at hc
        · simp at hc
        · exact chain_rec h h1 c hc
theorem GoodP.uni' {t : List Ty} (h : GoodP t) {a b : Int} (ha : RecIn t a) (hb : RecIn t b) (hm : (tyAt t a).mod = (tyAt t b).mod) (hd : (tyAt t a).desc = (tyAt t b).desc) (h1 : (tyAt t a).desc ≠ -1) : a = b := by
  obtain ⟨a7, fa⟩ := h.rec_ ha
  have ga := (FrmP.f9 fa ha.2.2).1
  have hge : 0 ≤ (tyAt t a).desc := by have := ga.2.2.1; omega
  rcases Int.lt_trichotomy a b with hl | rfl | hl
  · exact absurd ⟨ha.2.2, hb.2.2, hge, hm, hd⟩ (h.uni a.toNat b.toNat (by have := ha.1; omega) (by have := hb.2.1; omega))
  · rfl
  · have e : 0 ≤ (tyAt t b).desc := by omega
    exact absurd ⟨hb.2.2, ha.2.2, e, hm.symm, hd.symm⟩ (h.uni b.toNat a.toNat (by have := hb.1; omega) (by have := ha.2.1; omega))
theorem GoodP.chain5 {t : List Ty} (h : GoodP t) {a : Int} (ha : RecIn t a) : (chain t 5 a).length ≤ 5 := by
  have := h.chn a.toNat (by have := ha.2.1; have := ha.1; omega)
  rw [Odd1] at this
  have e : (a.toNat : Int) = a := by have := ha.1; omega
  have f : t.getD a.toNat default = tyAt t a := rfl
  by_cases hc : ChainP t a
  · exact hc.1
  · exact absurd (by first | exact ⟨ha.2.2, by rw [e]; exact hc⟩ | simp_all [RecIn]) this
end Go.Proofs.Ytlhpcccffmfopaa

/- tables.Same where it ends at once; tables.Extends. -/
namespace Go.Proofs.Ytlhpcccffmfopaa
set_option linter.unusedSimpArgs false
set_option linter.unusedVariables false
set_option maxRecDepth 20000
set_option maxHeartbeats 4000000
open Go.RowKit

theorem tsame_easy {t : List Ty} {a b : Int} (ht : TOk t) (a0 : 0 ≤ a) (a1 : a < t.length) (b0 : 0 ≤ b) (b1 : b < t.length) {r : Bool} (he : easyF t a b = some r) (H : List ABlk) :
    ACalls Try.prog 38 [tv t, iv a, iv b] H fun v H' => v = bv r ∧ H' = H := by
  refine ACalls.into Try.func38 cc38 rr38 fun hcl => ?_
  simp (maxSteps := 2000000) (disch := omega) only [Try.ntmps38, c38, r38, go_sem, eq_self, if_true, if_false, reduceCtorEq, Int.reduceToNat, Int.reducePow, Nat.reducePow, Nat.reduceMul, Int.reduceLT, Int.reduceLE, Nat.reduceAdd, Nat.reduceLeDiff, Nat.reduceBEq, Nat.reduceSub, Int.reduceSub, Int.reduceMul, Int.reduceNeg, Int.reduceAdd]
  refine Cont.mk (same_easy ht a0 a1 b0 b1 he _ _) ?_
  simp (maxSteps := 2000000) (disch := omega) only [go_sem, eq_self, if_true, if_false, reduceCtorEq, Int.reduceToNat, Int.reducePow, Nat.reducePow, Nat.reduceMul, Int.reduceLT, Int.reduceLE, Nat.reduceAdd, Nat.reduceLeDiff, Nat.reduceBEq, Nat.reduceSub, Int.reduceSub, Int.reduceMul, Int.reduceNeg, Int.reduceAdd]
  exact Ret.drop _ H (Nat.le_refl _) hcl (.rfl _) (by simp [refs]) ⟨rfl, rfl⟩
theorem easy_rec {t : List Ty} (h : GoodP t) {a b : Int} (ha : RecIn t a) (hb : RecIn t b) : easyF t a b = some (decide (a = b)) := by
  unfold easyF
  by_cases e : a = b
  · rw [if_pos e, dect e]
  · rw [if_neg e, if_pos (.inl ha.2.2), decf e, decf]
    exact fun k => e (h.uni' ha hb k.2.1 k.2.2.1 k.2.2.2)
def ExtR (t : List Ty) (a b : Int) : Prop := b ∈ chain t 5 a
instance (t : List Ty) (a b : Int) : Decidable (ExtR t a b) := inferInstanceAs (Decidable (_ ∈ _))
theorem ext9_c {t : List Ty} (ht : TOk t) (hg : GoodP t) {a b : Int} (ha : RecIn t a) (hb : RecIn t b) (H : List ABlk) :
    ACalls Try.prog 39 [tv t, iv a, iv b] H fun v H' => v = bv (decide (ExtR t a b)) ∧ H' = H := by
  refine ACalls.into Try.func39 cc39 rr39 fun hcl => ?_
  have iax := iaA_ty ha.1 ha.2.1
  have iay := iaA_ty hb.1 hb.2.1
  have fx := ha.2.2
  have fy := hb.2.2
  simp (maxSteps := 2000000) (disch := omega) only [Try.ntmps39, c39, r39, go_sem, eq_self, if_true, if_false, reduceCtorEq, Int.reduceToNat, Int.reducePow, Nat.reducePow, Nat.reduceMul, Int.reduceLT, Int.reduceLE, Nat.reduceAdd, Nat.reduceLeDiff, Nat.reduceBEq, Nat.reduceSub, Int.reduceSub, Int.reduceMul, Int.reduceNeg, Int.reduceAdd]
  refine W.pchain follows (by decide +kernel) ?_
  simp (maxSteps := 2000000) (disch := omega) only [iax, iay, Ty.c, fx, fy, go_sem, eq_self, if_true, if_false, reduceCtorEq, Int.reduceToNat, Int.reducePow, Nat.reducePow, Nat.reduceMul, Int.reduceLT, Int.reduceLE, Nat.reduceAdd, Nat.reduceLeDiff, Nat.reduceBEq, Nat.reduceSub, Int.reduceSub, Int.reduceMul, Int.reduceNeg, Int.reduceAdd]
  obtain ⟨l, hl⟩ : ∃ l, l = chain t 5 a := ⟨_, rfl⟩
  have l5 : l.length ≤ 5 := by rw [hl]; exact hg.chain5 ha
  have hst : ∀ i, i < l.length → (tyAt t (l.getD i 0)).base = l.getD (i + 1) 0 := by rw [hl]; exact chain_step (hg.chain5 ha)
  have hrc : ∀ c ∈ l, RecIn t c := by rw [hl]; exact hg.chain_rec ha
  have h0 : l.getD 0 0 = a := by obtain ⟨r, hr⟩ := chain_ne t 5 a; rw [hl, hr]; rfl
  have hE : ExtR t a b ↔ b ∈ l := by rw [hl]; rfl
  rw [show decide (ExtR t a b) = decide (b ∈ l) by simp only [hE]]
  clear hl hE
  refine W.loopG (γ := Nat) (fun i => l.length - i) (fun i => [tv t, iv (l.getD i 0), iv b, .any, .any, .any, bv false] ++ List.replicate 43 .any) (fun _ => H) (fun i => i ≤ l.length ∧ ∀ j, j < i → l.getD j 0 ≠ b) 0 (by rw [h0]; exact Wk.slots (by (try simp only [List.replicate, List.cons_append, List.nil_append]); repeat' first | exact WkL.nil | refine WkL.cons (Wk1.rfl _) ?_ | refine WkL.cons Wk1.esl ?_ | refine WkL.cons (Wk1.gsl _ _ _) ?_ | refine WkL.cons (Wk1.any _) ?_)) ⟨by omega, fun j hj => by omega⟩ (fun i hi => ?_)
  obtain ⟨q1, q2⟩ := hi
  rcases Nat.lt_or_ge i l.length with hi | hi
  rotate_left
  · have e : l.getD i 0 = 0 := by rw [List.getD_eq_getElem?_getD, List.getElem?_eq_none hi]; rfl
    simp (maxSteps := 2000000) (disch := omega) only [c39l0, e, go_sem, eq_self, if_true, if_false, reduceCtorEq, Int.reduceToNat, Int.reducePow, Nat.reducePow, Nat.reduceMul, Int.reduceLT, Int.reduceLE, Nat.reduceAdd, Nat.reduceLeDiff, Nat.reduceBEq, Nat.reduceSub, Int.reduceSub, Int.reduceMul, Int.reduceNeg, Int.reduceAdd]
    refine Ret.keep ⟨?_, rfl⟩
    rw [decf]
    intro hm
    obtain ⟨j, hj, rfl⟩ := List.getElem_of_mem hm
    refine q2 j (by omega) ?_
    rw [List.getD_eq_getElem?_getD, List.getElem?_eq_getElem hj]; rfl
  have hmem : l.getD i 0 ∈ l := by
    rw [List.getD_eq_getElem?_getD, List.getElem?_eq_getElem hi]; exact List.getElem_mem _
  have hc := hrc _ hmem
  have hc7 := (hg.rec_ hc).1
  have hs := hst i hi
  generalize hcc : l.getD i 0 = c at *
  have iac := iaA_ty hc.1 hc.2.1
  have hnz : ¬ c = 0 := by omega
  simp (maxSteps := 2000000) (disch := omega) only [c39l0, go_sem, eq_self, if_true, if_false, reduceCtorEq, Int.reduceToNat, Int.reducePow, Nat.reducePow, Nat.reduceMul, Int.reduceLT, Int.reduceLE, Nat.reduceAdd, Nat.reduceLeDiff, Nat.reduceBEq, Nat.reduceSub, Int.reduceSub, Int.reduceMul, Int.reduceNeg, Int.reduceAdd]
  refine Cont.mk (tsame_easy ht hc.1 hc.2.1 hb.1 hb.2.1 (easy_rec hg hc hb) _) ?_
  simp (maxSteps := 2000000) (disch := omega) only [go_sem, eq_self, if_true, if_false, reduceCtorEq, Int.reduceToNat, Int.reducePow, Nat.reducePow, Nat.reduceMul, Int.reduceLT, Int.reduceLE, Nat.reduceAdd, Nat.reduceLeDiff, Nat.reduceBEq, Nat.reduceSub, Int.reduceSub, Int.reduceMul, Int.reduceNeg, Int.reduceAdd]
  refine Br.dec (fun h1 => ?_) (fun h1 => ?_) <;> simp (maxSteps := 2000000) (disch := omega) only [go_sem, eq_self, if_true, if_false, reduceCtorEq, Int.reduceToNat, Int.reducePow, Nat.reducePow, Nat.reduceMul, Int.reduceLT, Int.reduceLE, Nat.reduceAdd, Nat.reduceLeDiff, Nat.reduceBEq, Nat.reduceSub, Int.reduceSub, Int.reduceMul, Int.reduceNeg, Int.reduceAdd]
  · refine Ret.keep ⟨?_, rfl⟩
    rw [dect]
    exact h1 ▸ hmem
  · simp (maxSteps := 2000000) (disch := omega) only [iac, Ty.c, hs, go_sem, eq_self, if_true, if_false, reduceCtorEq, Int.reduceToNat, Int.reducePow, Nat.reducePow, Nat.reduceMul, Int.reduceLT, Int.reduceLE, Nat.reduceAdd, Nat.reduceLeDiff, Nat.reduceBEq, Nat.reduceSub, Int.reduceSub, Int.reduceMul, Int.reduceNeg, Int.reduceAdd]
    refine Nxt.mk (i + 1) (by omega) (Wk.slots (by (try simp only [List.replicate, List.cons_append, List.nil_append]); repeat' first | exact WkL.nil | refine WkL.cons (Wk1.rfl _) ?_ | refine WkL.cons Wk1.esl ?_ | refine WkL.cons (Wk1.gsl _ _ _) ?_ | refine WkL.cons (Wk1.any _) ?_)) ⟨by omega, fun j hj => ?_⟩
    rcases Nat.lt_or_ge j i with h | h
    · exact q2 j h
    · rw [show j = i by omega, hcc]; exact h1
def ExtP (t : List Ty) (a b : Int) : Prop := (tyAt t a).form = (tyAt t b).form ∧ ((tyAt t a).form = 9 ∧ ExtR t a b ∨ (tyAt t a).form = 10 ∧ ExtR t (tyAt t a).elem (tyAt t b).elem)
instance (t : List Ty) (a b : Int) : Decidable (ExtP t a b) := inferInstanceAs (Decidable (_ ∧ _))
theorem GoodP.ptr {t : List Ty} (h : GoodP t) {a : Int} (h0 : 0 ≤ a) (h1 : a < t.length) (f : (tyAt t a).form = 10) : RecIn t (tyAt t a).elem := by
  rcases h.at_ h0 h1 with ⟨h7, e⟩ | ⟨h7, hf⟩
  · rw [e] at f; simp [bt] at f; omega
  · exact form_in (FrmP.f10 hf f) (by decide)
theorem ext_c {t : List Ty} (ht : TOk t) (hg : GoodP t) {a b : Int} (a0 : 0 ≤ a) (a1 : a < t.length) (b0 : 0 ≤ b) (b1 : b < t.length) (H : List ABlk) :
    ACalls Try.prog 39 [tv t, iv a, iv b] H fun v H' => v = bv (decide (ExtP t a b)) ∧ H' = H := by
  by_cases f9 : (tyAt t a).form = 9 ∧ (tyAt t b).form = 9
  · have e : ExtP t a b ↔ ExtR t a b := by simp [ExtP, f9.1, f9.2]
    rw [show decide (ExtP t a b) = decide (ExtR t a b) by simp only [e]]
    exact ext9_c ht hg ⟨a0, a1, f9.1⟩ ⟨b0, b1, f9.2⟩ H
  have hE : ExtP t a b ↔ (tyAt t a).form = (tyAt t b).form ∧ ((tyAt t a).form = 9 ∧ ExtR t a b ∨ (tyAt t a).form = 10 ∧ ExtR t (tyAt t a).elem (tyAt t b).elem) := .rfl
  generalize hB : decide (ExtP t a b) = B
  have no : ¬ ExtP t a b → false = B := fun h => by rw [← hB, decf h]
  refine ACalls.into Try.func39 cc39 rr39 fun hcl => ?_
  have iax := iaA_ty a0 a1
  have iay := iaA_ty b0 b1
  have ha10 := hg.ptr a0 a1
  have hb10 := hg.ptr b0 b1
  generalize hx : tyAt t a = x at *
  generalize hy : tyAt t b = y at *
  simp (maxSteps := 2000000) (disch := omega) only [Try.ntmps39, c39, r39, go_sem, eq_self, if_true, if_false, reduceCtorEq, Int.reduceToNat, Int.reducePow, Nat.reducePow, Nat.reduceMul, Int.reduceLT, Int.reduceLE, Nat.reduceAdd, Nat.reduceLeDiff, Nat.reduceBEq, Nat.reduceSub, Int.reduceSub, Int.reduceMul, Int.reduceNeg, Int.reduceAdd]
  refine W.pchain follows (by decide +kernel) ?_
  by_cases f1 : x.form = y.form
  rotate_left
  · have k1 := decide_eq_false f1
    simp (maxSteps := 2000000) (disch := omega) only [iax, iay, Ty.c, go_sem, eq_self, if_true, if_false, reduceCtorEq, Int.reduceToNat, Int.reducePow, Nat.reducePow, Nat.reduceMul, Int.reduceLT, Int.reduceLE, Nat.reduceAdd, Nat.reduceLeDiff, Nat.reduceBEq, Nat.reduceSub, Int.reduceSub, Int.reduceMul, Int.reduceNeg, Int.reduceAdd]
    exact Ret.keep ⟨congrArg bv (no fun h => f1 (hE.1 h).1), rfl⟩
  by_cases f10 : x.form = 10
  rotate_left
  · simp (maxSteps := 2000000) (disch := omega) only [iax, iay, Ty.c, go_sem, eq_self, if_true, if_false, reduceCtorEq, Int.reduceToNat, Int.reducePow, Nat.reducePow, Nat.reduceMul, Int.reduceLT, Int.reduceLE, Nat.reduceAdd, Nat.reduceLeDiff, Nat.reduceBEq, Nat.reduceSub, Int.reduceSub, Int.reduceMul, Int.reduceNeg, Int.reduceAdd]
    refine Ret.keep ⟨congrArg bv (no fun h => ?_), rfl⟩
    have := hE.1 h
    omega
  have ra := ha10 f10
  have rb := hb10 (by omega)
  simp (maxSteps := 2000000) (disch := omega) only [iax, iay, Ty.c, go_sem, eq_self, if_true, if_false, reduceCtorEq, Int.reduceToNat, Int.reducePow, Nat.reducePow, Nat.reduceMul, Int.reduceLT, Int.reduceLE, Nat.reduceAdd, Nat.reduceLeDiff, Nat.reduceBEq, Nat.reduceSub, Int.reduceSub, Int.reduceMul, Int.reduceNeg, Int.reduceAdd]
  refine W.pchain follows (by decide +kernel) ?_
  simp (maxSteps := 2000000) (disch := omega) only [iax, iay, Ty.c, go_sem, eq_self, if_true, if_false, reduceCtorEq, Int.reduceToNat, Int.reducePow, Nat.reducePow, Nat.reduceMul, Int.reduceLT, Int.reduceLE, Nat.reduceAdd, Nat.reduceLeDiff, Nat.reduceBEq, Nat.reduceSub, Int.reduceSub, Int.reduceMul, Int.reduceNeg, Int.reduceAdd]
  refine PCont.mk (ext9_c ht hg ra rb H) ?_
  simp (maxSteps := 2000000) (disch := omega) only [go_sem, eq_self, if_true, if_false, reduceCtorEq, Int.reduceToNat, Int.reducePow, Nat.reducePow, Nat.reduceMul, Int.reduceLT, Int.reduceLE, Nat.reduceAdd, Nat.reduceLeDiff, Nat.reduceBEq, Nat.reduceSub, Int.reduceSub, Int.reduceMul, Int.reduceNeg, Int.reduceAdd]
  refine Ret.keep ⟨congrArg bv ?_, rfl⟩
  rw [← hB]
  have e : ExtP t a b ↔ ExtR t x.elem y.elem := ⟨fun h => by
    rcases (hE.1 h).2 with h' | h'
    · omega
    · exact h'.2, fun h => hE.2 ⟨f1, .inr ⟨f10, h⟩⟩⟩
  simp only [e]
end Go.Proofs.Ytlhpcccffmfopaa

/- Places; types.Good, Same, Extends, Assign, Level. -/
namespace Go.Proofs.Ytlhpcccffmfopaa
set_option linter.unusedSimpArgs false
set_option linter.unusedVariables false
set_option maxRecDepth 20000
set_option maxHeartbeats 4000000
open Go.RowKit

structure TT (t : List Ty) : Prop where
  s : Small t
  n : FNames t
  k : TOk t
def PlP (t : List Ty) (l : List Int) : Prop := (∀ n ∈ l, placeP t n) ∧ GoodP t
noncomputable instance (t : List Ty) (l : List Int) : Decidable (PlP t l) := Classical.propDecidable _
theorem places_c {t : List Ty} (ht : TT t) (l : List Int) (hl : l.length ≤ 5) (H : List ABlk) : ACalls Try.prog 37 [tv t, .d (.sl (l.map kd))] H fun v H' => v = bv (decide (PlP t l)) ∧ H' = H := by
  have htl := ht.s.1
  refine ACalls.into Try.func37 cc37 rr37 fun hcl => ?_
  simp (maxSteps := 2000000) (disch := omega) only [Try.ntmps37, c37, r37, List.length_map, go_sem, eq_self, if_true, if_false, reduceCtorEq, Int.reduceToNat, Int.reducePow, Nat.reducePow, Nat.reduceMul, Int.reduceLT, Int.reduceLE, Nat.reduceAdd, Nat.reduceLeDiff, Nat.reduceBEq, Nat.reduceSub, Int.reduceSub, Int.reduceMul, Int.reduceNeg, Int.reduceAdd]
  refine W.loopG (γ := Nat) (fun i => l.length - i) (fun i => [tv t, .any, .any, .any, bv false, .any, .any, .d (.sl (l.map kd)), iv l.length, iv i] ++ List.replicate 14 .any) (fun _ => H) (fun i => i ≤ l.length ∧ ∀ j, j < i → placeP t (l.getD j 0)) 0 (Wk.slots (by (try simp only [List.replicate, List.cons_append, List.nil_append]); repeat' first | exact WkL.nil | refine WkL.cons (Wk1.rfl _) ?_ | refine WkL.cons Wk1.esl ?_ | refine WkL.cons (Wk1.gsl _ _ _) ?_ | refine WkL.cons (Wk1.any _) ?_)) ⟨by omega, fun j hj => by omega⟩ (fun i hi => ?_)
  obtain ⟨q1, q2⟩ := hi
  simp (maxSteps := 2000000) (disch := omega) only [c37l0, List.length_map, go_sem, eq_self, if_true, if_false, reduceCtorEq, Int.reduceToNat, Int.reducePow, Nat.reducePow, Nat.reduceMul, Int.reduceLT, Int.reduceLE, Nat.reduceAdd, Nat.reduceLeDiff, Nat.reduceBEq, Nat.reduceSub, Int.reduceSub, Int.reduceMul, Int.reduceNeg, Int.reduceAdd]
  refine Br.dec (fun hc => ?_) (fun hc => ?_) <;> simp (maxSteps := 2000000) (disch := omega) only [go_sem, eq_self, if_true, if_false, reduceCtorEq, Int.reduceToNat, Int.reducePow, Nat.reducePow, Nat.reduceMul, Int.reduceLT, Int.reduceLE, Nat.reduceAdd, Nat.reduceLeDiff, Nat.reduceBEq, Nat.reduceSub, Int.reduceSub, Int.reduceMul, Int.reduceNeg, Int.reduceAdd]
  · have hia := iaA_map (n := 1) kd 0 (l := l) (a := (i : Int)) (by omega) (by omega) rfl
    rw [Int.toNat_natCast] at hia
    generalize hx : l.getD i 0 = x at *
    have hm : x ∈ l := by rw [← hx, List.getD_eq_getElem?_getD, List.getElem?_eq_getElem (by omega)]; exact List.getElem_mem _
    simp (maxSteps := 2000000) (disch := omega) only [hia, List.length_map, go_sem, eq_self, if_true, if_false, reduceCtorEq, Int.reduceToNat, Int.reducePow, Nat.reducePow, Nat.reduceMul, Int.reduceLT, Int.reduceLE, Nat.reduceAdd, Nat.reduceLeDiff, Nat.reduceBEq, Nat.reduceSub, Int.reduceSub, Int.reduceMul, Int.reduceNeg, Int.reduceAdd]
    by_cases p1 : x < 0
    · simp (maxSteps := 2000000) (disch := omega) only [go_sem, eq_self, if_true, if_false, reduceCtorEq, Int.reduceToNat, Int.reducePow, Nat.reducePow, Nat.reduceMul, Int.reduceLT, Int.reduceLE, Nat.reduceAdd, Nat.reduceLeDiff, Nat.reduceBEq, Nat.reduceSub, Int.reduceSub, Int.reduceMul, Int.reduceNeg, Int.reduceAdd]
      exact Ret.keep ⟨congrArg bv (decf fun h => by have := (h.1 x hm).1; omega).symm, rfl⟩
    by_cases p2 : x < t.length
    · simp (maxSteps := 2000000) (disch := omega) only [List.length_map, go_sem, eq_self, if_true, if_false, reduceCtorEq, Int.reduceToNat, Int.reducePow, Nat.reducePow, Nat.reduceMul, Int.reduceLT, Int.reduceLE, Nat.reduceAdd, Nat.reduceLeDiff, Nat.reduceBEq, Nat.reduceSub, Int.reduceSub, Int.reduceMul, Int.reduceNeg, Int.reduceAdd]
      refine Nxt.mk (i + 1) (by omega) (Wk.slots (by (try simp only [List.replicate, List.cons_append, List.nil_append]); repeat' first | exact WkL.nil | refine WkL.cons (Wk1.rfl _) ?_ | refine WkL.cons Wk1.esl ?_ | refine WkL.cons (Wk1.gsl _ _ _) ?_ | refine WkL.cons (Wk1.any _) ?_)) ⟨by omega, fun j hj => ?_⟩
      rcases Nat.lt_or_ge j i with h | h
      · exact q2 j h
      · rw [show j = i by omega, hx]; exact ⟨by omega, p2⟩
    · simp (maxSteps := 2000000) (disch := omega) only [List.length_map, go_sem, eq_self, if_true, if_false, reduceCtorEq, Int.reduceToNat, Int.reducePow, Nat.reducePow, Nat.reduceMul, Int.reduceLT, Int.reduceLE, Nat.reduceAdd, Nat.reduceLeDiff, Nat.reduceBEq, Nat.reduceSub, Int.reduceSub, Int.reduceMul, Int.reduceNeg, Int.reduceAdd]
      exact Ret.keep ⟨congrArg bv (decf fun h => by have := (h.1 x hm).2; omega).symm, rfl⟩
  · refine Cont.mk (good_c ht.s ht.n _) ?_
    simp (maxSteps := 2000000) (disch := omega) only [go_sem, eq_self, if_true, if_false, reduceCtorEq, Int.reduceToNat, Int.reducePow, Nat.reducePow, Nat.reduceMul, Int.reduceLT, Int.reduceLE, Nat.reduceAdd, Nat.reduceLeDiff, Nat.reduceBEq, Nat.reduceSub, Int.reduceSub, Int.reduceMul, Int.reduceNeg, Int.reduceAdd]
    refine Ret.keep ⟨congrArg bv ?_, rfl⟩
    have : PlP t l ↔ GoodP t := ⟨fun h => h.2, fun h => ⟨fun n hn => by
      obtain ⟨j, hj, rfl⟩ := List.getElem_of_mem hn
      have := q2 j (by omega)
      rwa [List.getD_eq_getElem?_getD, List.getElem?_eq_getElem hj] at this, h⟩⟩
    rw [goodF]
    by_cases h : GoodP t
    · rw [dect h, dect (this.2 h)]
    · rw [decf h, decf fun k => h (this.1 k)]
theorem tgood_c {t : List Ty} (ht : TT t) (H : List ABlk) : ACalls Try.prog 15 [tv t] H fun v H' => v = bv (goodF t) ∧ H' = H := by
  refine ACalls.into Try.func15 cc15 rr15 fun hcl => ?_
  simp (maxSteps := 2000000) (disch := omega) only [Try.ntmps15, c15, r15, go_sem, eq_self, if_true, if_false, reduceCtorEq, Int.reduceToNat, Int.reducePow, Nat.reducePow, Nat.reduceMul, Int.reduceLT, Int.reduceLE, Nat.reduceAdd, Nat.reduceLeDiff, Nat.reduceBEq, Nat.reduceSub, Int.reduceSub, Int.reduceMul, Int.reduceNeg, Int.reduceAdd]
  refine Cont.mk (good_c ht.s ht.n _) ?_
  simp (maxSteps := 2000000) (disch := omega) only [go_sem, eq_self, if_true, if_false, reduceCtorEq, Int.reduceToNat, Int.reducePow, Nat.reducePow, Nat.reduceMul, Int.reduceLT, Int.reduceLE, Nat.reduceAdd, Nat.reduceLeDiff, Nat.reduceBEq, Nat.reduceSub, Int.reduceSub, Int.reduceMul, Int.reduceNeg, Int.reduceAdd]
  exact Ret.keep ⟨rfl, rfl⟩
/-- A function of a table's places. -/
theorem pl2 {t : List Ty} {a b : Int} (h : GoodP t) (ha : placeP t a) (hb : placeP t b) : PlP t [a, b] := ⟨fun n hn => by
  simp only [List.mem_cons, List.not_mem_nil, or_false] at hn
  rcases hn with rfl | rfl
  · exact ha
  · exact hb, h⟩
theorem pl1 {t : List Ty} {a : Int} (h : GoodP t) (ha : placeP t a) : PlP t [a] := ⟨fun n hn => by
  simp only [List.mem_cons, List.not_mem_nil, or_false] at hn
  rw [hn]; exact ha, h⟩
theorem tysame_c {t : List Ty} (ht : TT t) (a b : Int) {S : Bool} (hS : PlP t [a, b] → ∀ H, ACalls Try.prog 38 [tv t, iv a, iv b] H fun v H' => v = bv S ∧ H' = H) (H : List ABlk) :
    ACalls Try.prog 20 [tv t, iv a, iv b] H fun v H' => v = bv (decide (PlP t [a, b]) && S) ∧ H' = H := by
  refine ACalls.into Try.func20 cc20 rr20 fun hcl => ?_
  simp (maxSteps := 2000000) (disch := omega) only [Try.ntmps20, c20, r20, go_sem, eq_self, if_true, if_false, reduceCtorEq, Int.reduceToNat, Int.reducePow, Nat.reducePow, Nat.reduceMul, Int.reduceLT, Int.reduceLE, Nat.reduceAdd, Nat.reduceLeDiff, Nat.reduceBEq, Nat.reduceSub, Int.reduceSub, Int.reduceMul, Int.reduceNeg, Int.reduceAdd]
  refine Cont.mk (places_c ht [a, b] (by simp) _) ?_
  by_cases hp : PlP t [a, b]
  · have kp := decide_eq_true hp
    rw [kp]
    simp (maxSteps := 2000000) (disch := omega) only [go_sem, eq_self, if_true, if_false, reduceCtorEq, Int.reduceToNat, Int.reducePow, Nat.reducePow, Nat.reduceMul, Int.reduceLT, Int.reduceLE, Nat.reduceAdd, Nat.reduceLeDiff, Nat.reduceBEq, Nat.reduceSub, Int.reduceSub, Int.reduceMul, Int.reduceNeg, Int.reduceAdd]
    refine Cont.mk (hS hp _) ?_
    simp (maxSteps := 2000000) (disch := omega) only [go_sem, eq_self, if_true, if_false, reduceCtorEq, Int.reduceToNat, Int.reducePow, Nat.reducePow, Nat.reduceMul, Int.reduceLT, Int.reduceLE, Nat.reduceAdd, Nat.reduceLeDiff, Nat.reduceBEq, Nat.reduceSub, Int.reduceSub, Int.reduceMul, Int.reduceNeg, Int.reduceAdd]
    exact Ret.keep ⟨rfl, rfl⟩
  · have kp := decide_eq_false hp
    rw [kp]
    simp (maxSteps := 2000000) (disch := omega) only [go_sem, eq_self, if_true, if_false, reduceCtorEq, Int.reduceToNat, Int.reducePow, Nat.reducePow, Nat.reduceMul, Int.reduceLT, Int.reduceLE, Nat.reduceAdd, Nat.reduceLeDiff, Nat.reduceBEq, Nat.reduceSub, Int.reduceSub, Int.reduceMul, Int.reduceNeg, Int.reduceAdd]
    exact Ret.keep ⟨rfl, rfl⟩
theorem tyext_c {t : List Ty} (ht : TT t) (a b : Int) {S : Bool} (hS : PlP t [a, b] → ∀ H, ACalls Try.prog 39 [tv t, iv a, iv b] H fun v H' => v = bv S ∧ H' = H) (H : List ABlk) :
    ACalls Try.prog 21 [tv t, iv a, iv b] H fun v H' => v = bv (decide (PlP t [a, b]) && S) ∧ H' = H := by
  refine ACalls.into Try.func21 cc21 rr21 fun hcl => ?_
  simp (maxSteps := 2000000) (disch := omega) only [Try.ntmps21, c21, r21, go_sem, eq_self, if_true, if_false, reduceCtorEq, Int.reduceToNat, Int.reducePow, Nat.reducePow, Nat.reduceMul, Int.reduceLT, Int.reduceLE, Nat.reduceAdd, Nat.reduceLeDiff, Nat.reduceBEq, Nat.reduceSub, Int.reduceSub, Int.reduceMul, Int.reduceNeg, Int.reduceAdd]
  refine Cont.mk (places_c ht [a, b] (by simp) _) ?_
  by_cases hp : PlP t [a, b]
  · have kp := decide_eq_true hp
    rw [kp]
    simp (maxSteps := 2000000) (disch := omega) only [go_sem, eq_self, if_true, if_false, reduceCtorEq, Int.reduceToNat, Int.reducePow, Nat.reducePow, Nat.reduceMul, Int.reduceLT, Int.reduceLE, Nat.reduceAdd, Nat.reduceLeDiff, Nat.reduceBEq, Nat.reduceSub, Int.reduceSub, Int.reduceMul, Int.reduceNeg, Int.reduceAdd]
    refine Cont.mk (hS hp _) ?_
    simp (maxSteps := 2000000) (disch := omega) only [go_sem, eq_self, if_true, if_false, reduceCtorEq, Int.reduceToNat, Int.reducePow, Nat.reducePow, Nat.reduceMul, Int.reduceLT, Int.reduceLE, Nat.reduceAdd, Nat.reduceLeDiff, Nat.reduceBEq, Nat.reduceSub, Int.reduceSub, Int.reduceMul, Int.reduceNeg, Int.reduceAdd]
    exact Ret.keep ⟨rfl, rfl⟩
  · have kp := decide_eq_false hp
    rw [kp]
    simp (maxSteps := 2000000) (disch := omega) only [go_sem, eq_self, if_true, if_false, reduceCtorEq, Int.reduceToNat, Int.reducePow, Nat.reducePow, Nat.reduceMul, Int.reduceLT, Int.reduceLE, Nat.reduceAdd, Nat.reduceLeDiff, Nat.reduceBEq, Nat.reduceSub, Int.reduceSub, Int.reduceMul, Int.reduceNeg, Int.reduceAdd]
    exact Ret.keep ⟨rfl, rfl⟩
theorem tyasg_c {t : List Ty} (ht : TT t) (a b : Int) {S : Bool} (hS : PlP t [a, b] → ∀ H, ACalls Try.prog 40 [tv t, iv a, iv b] H fun v H' => v = bv S ∧ H' = H) (H : List ABlk) :
    ACalls Try.prog 22 [tv t, iv a, iv b] H fun v H' => v = bv (decide (PlP t [a, b]) && S) ∧ H' = H := by
  refine ACalls.into Try.func22 cc22 rr22 fun hcl => ?_
  simp (maxSteps := 2000000) (disch := omega) only [Try.ntmps22, c22, r22, go_sem, eq_self, if_true, if_false, reduceCtorEq, Int.reduceToNat, Int.reducePow, Nat.reducePow, Nat.reduceMul, Int.reduceLT, Int.reduceLE, Nat.reduceAdd, Nat.reduceLeDiff, Nat.reduceBEq, Nat.reduceSub, Int.reduceSub, Int.reduceMul, Int.reduceNeg, Int.reduceAdd]
  refine Cont.mk (places_c ht [a, b] (by simp) _) ?_
  by_cases hp : PlP t [a, b]
  · have kp := decide_eq_true hp
    rw [kp]
    simp (maxSteps := 2000000) (disch := omega) only [go_sem, eq_self, if_true, if_false, reduceCtorEq, Int.reduceToNat, Int.reducePow, Nat.reducePow, Nat.reduceMul, Int.reduceLT, Int.reduceLE, Nat.reduceAdd, Nat.reduceLeDiff, Nat.reduceBEq, Nat.reduceSub, Int.reduceSub, Int.reduceMul, Int.reduceNeg, Int.reduceAdd]
    refine Cont.mk (hS hp _) ?_
    simp (maxSteps := 2000000) (disch := omega) only [go_sem, eq_self, if_true, if_false, reduceCtorEq, Int.reduceToNat, Int.reducePow, Nat.reducePow, Nat.reduceMul, Int.reduceLT, Int.reduceLE, Nat.reduceAdd, Nat.reduceLeDiff, Nat.reduceBEq, Nat.reduceSub, Int.reduceSub, Int.reduceMul, Int.reduceNeg, Int.reduceAdd]
    exact Ret.keep ⟨rfl, rfl⟩
  · have kp := decide_eq_false hp
    rw [kp]
    simp (maxSteps := 2000000) (disch := omega) only [go_sem, eq_self, if_true, if_false, reduceCtorEq, Int.reduceToNat, Int.reducePow, Nat.reducePow, Nat.reduceMul, Int.reduceLT, Int.reduceLE, Nat.reduceAdd, Nat.reduceLeDiff, Nat.reduceBEq, Nat.reduceSub, Int.reduceSub, Int.reduceMul, Int.reduceNeg, Int.reduceAdd]
    exact Ret.keep ⟨rfl, rfl⟩
theorem tylev_c {t : List Ty} (ht : TT t) (a : Int) {S : Int} (hS : PlP t [a] → ∀ H, ACalls Try.prog 41 [tv t, iv a] H fun v H' => v = iv S ∧ H' = H) (H : List ABlk) :
    ACalls Try.prog 23 [tv t, iv a] H fun v H' => v = iv (if PlP t [a] then S else 0) ∧ H' = H := by
  refine ACalls.into Try.func23 cc23 rr23 fun hcl => ?_
  simp (maxSteps := 2000000) (disch := omega) only [Try.ntmps23, c23, r23, go_sem, eq_self, if_true, if_false, reduceCtorEq, Int.reduceToNat, Int.reducePow, Nat.reducePow, Nat.reduceMul, Int.reduceLT, Int.reduceLE, Nat.reduceAdd, Nat.reduceLeDiff, Nat.reduceBEq, Nat.reduceSub, Int.reduceSub, Int.reduceMul, Int.reduceNeg, Int.reduceAdd]
  refine Cont.mk (places_c ht [a] (by simp) _) ?_
  by_cases hp : PlP t [a]
  · have kp := decide_eq_true hp
    rw [kp, if_pos hp]
    simp (maxSteps := 2000000) (disch := omega) only [go_sem, eq_self, if_true, if_false, reduceCtorEq, Int.reduceToNat, Int.reducePow, Nat.reducePow, Nat.reduceMul, Int.reduceLT, Int.reduceLE, Nat.reduceAdd, Nat.reduceLeDiff, Nat.reduceBEq, Nat.reduceSub, Int.reduceSub, Int.reduceMul, Int.reduceNeg, Int.reduceAdd]
    refine Cont.mk (hS hp _) ?_
    simp (maxSteps := 2000000) (disch := omega) only [go_sem, eq_self, if_true, if_false, reduceCtorEq, Int.reduceToNat, Int.reducePow, Nat.reducePow, Nat.reduceMul, Int.reduceLT, Int.reduceLE, Nat.reduceAdd, Nat.reduceLeDiff, Nat.reduceBEq, Nat.reduceSub, Int.reduceSub, Int.reduceMul, Int.reduceNeg, Int.reduceAdd]
    exact Ret.keep ⟨rfl, rfl⟩
  · have kp := decide_eq_false hp
    rw [kp, if_neg hp]
    simp (maxSteps := 2000000) (disch := omega) only [go_sem, eq_self, if_true, if_false, reduceCtorEq, Int.reduceToNat, Int.reducePow, Nat.reducePow, Nat.reduceMul, Int.reduceLT, Int.reduceLE, Nat.reduceAdd, Nat.reduceLeDiff, Nat.reduceBEq, Nat.reduceSub, Int.reduceSub, Int.reduceMul, Int.reduceNeg, Int.reduceAdd]
    exact Ret.keep ⟨rfl, rfl⟩
/-- tables.Level. -/
def LevF (t : List Ty) (a : Int) : Int := if (tyAt t a).form = 10 then ((chain t 5 (tyAt t a).elem).length : Int) - 1 else if (tyAt t a).form = 9 then ((chain t 5 a).length : Int) - 1 else 0
theorem lev_c {t : List Ty} (ht : TOk t) (hg : GoodP t) {a : Int} (a0 : 0 ≤ a) (a1 : a < t.length) (H : List ABlk) :
    ACalls Try.prog 41 [tv t, iv a] H fun v H' => v = iv (LevF t a) ∧ H' = H := by
  have ht0 : (tyAt t 0).base = 0 := by
    have := hg.bas 0 (by omega)
    rw [show tyAt t 0 = t.getD 0 default from rfl, this]; rfl
  refine ACalls.enter Try.func41 cc41 rr41 fun hcl => ?_
  have iax := iaA_ty a0 a1
  have main : ∀ c : Int, 0 ≤ c → c < t.length → ∀ n : Int, n = (if (tyAt t c).form = 9 then ((chain t 5 c).length : Int) - 1 else 0) →
      W Try.prog (hhS 41) H.length (.loop c41l0) ([tv t, iv c, .any, .any, iv 0, iv 0] ++ List.replicate 33 .any) H (fun e s H' => e = .exit 0 ∧ Wk H.length s H' ([tv t, .any, .any, .any, iv 0, iv n] ++ List.replicate 33 .any) H) := by
    intro c c0 c1 n hn
    by_cases f9 : (tyAt t c).form = 9
    rotate_left
    · rw [if_neg f9] at hn
      subst hn
      have iac := iaA_ty c0 c1
      refine W.loopG (γ := Unit) (fun _ => 0) (fun _ => [tv t, iv c, .any, .any, iv 0, iv 0] ++ List.replicate 33 .any) (fun _ => H) (fun _ => True) () (Wk.slots (by (try simp only [List.replicate, List.cons_append, List.nil_append]); repeat' first | exact WkL.nil | refine WkL.cons (Wk1.rfl _) ?_ | refine WkL.cons Wk1.esl ?_ | refine WkL.cons (Wk1.gsl _ _ _) ?_ | refine WkL.cons (Wk1.any _) ?_)) trivial (fun i hi => ?_)
      simp (maxSteps := 2000000) (disch := omega) only [c41l0, iac, Ty.c, go_sem, eq_self, if_true, if_false, reduceCtorEq, Int.reduceToNat, Int.reducePow, Nat.reducePow, Nat.reduceMul, Int.reduceLT, Int.reduceLE, Nat.reduceAdd, Nat.reduceLeDiff, Nat.reduceBEq, Nat.reduceSub, Int.reduceSub, Int.reduceMul, Int.reduceNeg, Int.reduceAdd]
      exact Wk.slots (by (try simp only [List.replicate, List.cons_append, List.nil_append]); repeat' first | exact WkL.nil | refine WkL.cons (Wk1.rfl _) ?_ | refine WkL.cons Wk1.esl ?_ | refine WkL.cons (Wk1.gsl _ _ _) ?_ | refine WkL.cons (Wk1.any _) ?_)
    have hc : RecIn t c := ⟨c0, c1, f9⟩
    rw [if_pos f9] at hn
    obtain ⟨l, hl⟩ : ∃ l, l = chain t 5 c := ⟨_, rfl⟩
    have l5 : l.length ≤ 5 := by rw [hl]; exact hg.chain5 hc
    have hst : ∀ i, i < l.length → (tyAt t (l.getD i 0)).base = l.getD (i + 1) 0 := by rw [hl]; exact chain_step (hg.chain5 hc)
    have hrc : ∀ c ∈ l, RecIn t c := by rw [hl]; exact hg.chain_rec hc
    have h0 : l.getD 0 0 = c := by obtain ⟨r, hr⟩ := chain_ne t 5 c; rw [hl, hr]; rfl
    have hne : 0 < l.length := by obtain ⟨r, hr⟩ := chain_ne t 5 c; rw [hl, hr]; simp
    rw [← hl] at hn
    clear hl
    refine W.loopG (γ := Nat) (fun i => l.length - i) (fun i => [tv t, iv (l.getD i 0), .any, .any, iv 0, iv i] ++ List.replicate 33 .any) (fun _ => H) (fun i => i < l.length) 0 (by rw [h0]; exact Wk.slots (by (try simp only [List.replicate, List.cons_append, List.nil_append]); repeat' first | exact WkL.nil | refine WkL.cons (Wk1.rfl _) ?_ | refine WkL.cons Wk1.esl ?_ | refine WkL.cons (Wk1.gsl _ _ _) ?_ | refine WkL.cons (Wk1.any _) ?_)) hne (fun i hi => ?_)
    have hm : ∀ j, j < l.length → l.getD j 0 ∈ l := fun j hj => by rw [List.getD_eq_getElem?_getD, List.getElem?_eq_getElem hj]; exact List.getElem_mem _
    have hci := hrc _ (hm i hi)
    have hs := hst i hi
    have iac := iaA_ty hci.1 hci.2.1
    have ff := hci.2.2
    rcases Nat.lt_or_ge (i + 1) l.length with h2 | h2
    · have hcj := hg.rec_ (hrc _ (hm (i + 1) h2))
      generalize l.getD i 0 = ci at *
      generalize hcjj : l.getD (i + 1) 0 = cj at *
      simp (maxSteps := 2000000) (disch := omega) only [c41l0, iac, Ty.c, hs, ff, go_sem, eq_self, if_true, if_false, reduceCtorEq, Int.reduceToNat, Int.reducePow, Nat.reducePow, Nat.reduceMul, Int.reduceLT, Int.reduceLE, Nat.reduceAdd, Nat.reduceLeDiff, Nat.reduceBEq, Nat.reduceSub, Int.reduceSub, Int.reduceMul, Int.reduceNeg, Int.reduceAdd]
      refine Nxt.mk (i + 1) (by omega) (Wk.slots ?_) h2
      rw [hcjj]
      exact (by (try simp only [List.replicate, List.cons_append, List.nil_append]); repeat' first | exact WkL.nil | refine WkL.cons (Wk1.rfl _) ?_ | refine WkL.cons Wk1.esl ?_ | refine WkL.cons (Wk1.gsl _ _ _) ?_ | refine WkL.cons (Wk1.any _) ?_)
    · have e0 : l.getD (i + 1) 0 = 0 := by rw [List.getD_eq_getElem?_getD, List.getElem?_eq_none h2]; rfl
      rw [e0] at hs
      generalize l.getD i 0 = ci at *
      simp (maxSteps := 2000000) (disch := omega) only [c41l0, iac, Ty.c, hs, ff, go_sem, eq_self, if_true, if_false, reduceCtorEq, Int.reduceToNat, Int.reducePow, Nat.reducePow, Nat.reduceMul, Int.reduceLT, Int.reduceLE, Nat.reduceAdd, Nat.reduceLeDiff, Nat.reduceBEq, Nat.reduceSub, Int.reduceSub, Int.reduceMul, Int.reduceNeg, Int.reduceAdd]
      have : n = i := by omega
      subst this
      exact Wk.slots (by (try simp only [List.replicate, List.cons_append, List.nil_append]); repeat' first | exact WkL.nil | refine WkL.cons (Wk1.rfl _) ?_ | refine WkL.cons Wk1.esl ?_ | refine WkL.cons (Wk1.gsl _ _ _) ?_ | refine WkL.cons (Wk1.any _) ?_)
  have hb10 := hg.ptr a0 a1
  obtain ⟨c, hc, c0, c1⟩ : ∃ c : Int, ((tyAt t a).form = 10 → c = (tyAt t a).elem) ∧ 0 ≤ c ∧ c < t.length ∧ ((tyAt t a).form ≠ 10 → c = a) := by
    by_cases f : (tyAt t a).form = 10
    · exact ⟨_, fun _ => rfl, (hb10 f).1, (hb10 f).2.1, fun h => absurd f h⟩
    · exact ⟨a, fun h => absurd h f, a0, a1, fun _ => rfl⟩
  obtain ⟨c1, hc'⟩ := c1
  have hL : LevF t a = (if (tyAt t c).form = 9 then ((chain t 5 c).length : Int) - 1 else 0) := by
    by_cases f : (tyAt t a).form = 10
    · rw [LevF, if_pos f, hc f, if_pos (hb10 f).2.2]
    · rw [LevF, if_neg f, hc' f]
  simp only [Try.ntmps41, c41, r41]
  refine W.seq_reg ?_
  simp (maxSteps := 2000000) (disch := omega) only [go_sem, eq_self, if_true, if_false, reduceCtorEq, Int.reduceToNat, Int.reducePow, Nat.reducePow, Nat.reduceMul, Int.reduceLT, Int.reduceLE, Nat.reduceAdd, Nat.reduceLeDiff, Nat.reduceBEq, Nat.reduceSub, Int.reduceSub, Int.reduceMul, Int.reduceNeg, Int.reduceAdd]
  refine W.cut (fun s H' => s = [tv t, iv c, .any, .any, iv 0] ++ List.replicate 34 .any ∧ H' = H) (wpA.W ?_) ?_
  · simp (maxSteps := 2000000) (disch := omega) only [iax, Ty.c, go_sem, eq_self, if_true, if_false, reduceCtorEq, Int.reduceToNat, Int.reducePow, Nat.reducePow, Nat.reduceMul, Int.reduceLT, Int.reduceLE, Nat.reduceAdd, Nat.reduceLeDiff, Nat.reduceBEq, Nat.reduceSub, Int.reduceSub, Int.reduceMul, Int.reduceNeg, Int.reduceAdd]
    refine Br.dec (fun f => ?_) (fun f => ?_) <;> simp (maxSteps := 2000000) (disch := omega) only [go_sem, eq_self, if_true, if_false, reduceCtorEq, Int.reduceToNat, Int.reducePow, Nat.reducePow, Nat.reduceMul, Int.reduceLT, Int.reduceLE, Nat.reduceAdd, Nat.reduceLeDiff, Nat.reduceBEq, Nat.reduceSub, Int.reduceSub, Int.reduceMul, Int.reduceNeg, Int.reduceAdd]
    · simp (maxSteps := 2000000) (disch := omega) only [iax, Ty.c, go_sem, eq_self, if_true, if_false, reduceCtorEq, Int.reduceToNat, Int.reducePow, Nat.reducePow, Nat.reduceMul, Int.reduceLT, Int.reduceLE, Nat.reduceAdd, Nat.reduceLeDiff, Nat.reduceBEq, Nat.reduceSub, Int.reduceSub, Int.reduceMul, Int.reduceNeg, Int.reduceAdd]
      rw [← hc f]
      exact ⟨_, _, Wk.slots (by (try simp only [List.replicate, List.cons_append, List.nil_append]); repeat' first | exact WkL.nil | refine WkL.cons (Wk1.rfl _) ?_ | refine WkL.cons Wk1.esl ?_ | refine WkL.cons (Wk1.gsl _ _ _) ?_ | refine WkL.cons (Wk1.any _) ?_), rfl, rfl⟩
    · rw [← hc' f]
      exact ⟨_, _, Wk.slots (by (try simp only [List.replicate, List.cons_append, List.nil_append]); repeat' first | exact WkL.nil | refine WkL.cons (Wk1.rfl _) ?_ | refine WkL.cons Wk1.esl ?_ | refine WkL.cons (Wk1.gsl _ _ _) ?_ | refine WkL.cons (Wk1.any _) ?_), rfl, rfl⟩
  rintro s H' ⟨rfl, rfl⟩
  refine W.seq_reg ?_
  simp (maxSteps := 2000000) (disch := omega) only [go_sem, eq_self, if_true, if_false, reduceCtorEq, Int.reduceToNat, Int.reducePow, Nat.reducePow, Nat.reduceMul, Int.reduceLT, Int.reduceLE, Nat.reduceAdd, Nat.reduceLeDiff, Nat.reduceBEq, Nat.reduceSub, Int.reduceSub, Int.reduceMul, Int.reduceNeg, Int.reduceAdd]
  refine W.cut (fun s H'' => s = [tv t, .any, .any, .any, iv 0, iv (LevF t a)] ++ List.replicate 33 .any ∧ H'' = H') (wpA.W ?_) ?_
  · simp (maxSteps := 2000000) (disch := omega) only [go_sem, eq_self, if_true, if_false, reduceCtorEq, Int.reduceToNat, Int.reducePow, Nat.reducePow, Nat.reduceMul, Int.reduceLT, Int.reduceLE, Nat.reduceAdd, Nat.reduceLeDiff, Nat.reduceBEq, Nat.reduceSub, Int.reduceSub, Int.reduceMul, Int.reduceNeg, Int.reduceAdd]
    refine W.mono (main c c0 c1 _ hL) ?_
    rintro e s H'' ⟨rfl, hk⟩
    simp (maxSteps := 2000000) (disch := omega) only [go_sem, eq_self, if_true, if_false, reduceCtorEq, Int.reduceToNat, Int.reducePow, Nat.reducePow, Nat.reduceMul, Int.reduceLT, Int.reduceLE, Nat.reduceAdd, Nat.reduceLeDiff, Nat.reduceBEq, Nat.reduceSub, Int.reduceSub, Int.reduceMul, Int.reduceNeg, Int.reduceAdd]
    exact ⟨_, _, hk, rfl, rfl⟩
  · rintro s H'' ⟨rfl, rfl⟩
    refine wpA.W ?_
    simp (maxSteps := 2000000) (disch := omega) only [go_sem, eq_self, if_true, if_false, reduceCtorEq, Int.reduceToNat, Int.reducePow, Nat.reducePow, Nat.reduceMul, Int.reduceLT, Int.reduceLE, Nat.reduceAdd, Nat.reduceLeDiff, Nat.reduceBEq, Nat.reduceSub, Int.reduceSub, Int.reduceMul, Int.reduceNeg, Int.reduceAdd]
    exact Ret.keep ⟨rfl, rfl⟩
end Go.Proofs.Ytlhpcccffmfopaa

/- tables.Assign. -/
namespace Go.Proofs.Ytlhpcccffmfopaa
set_option linter.unusedSimpArgs false
set_option linter.unusedVariables false
set_option maxRecDepth 20000
set_option maxHeartbeats 4000000
open Go.RowKit

def asgV (x y z : Int) (S1 E S2 : Bool) : Bool :=
  if y = 0 ∨ y = 5 ∨ y = 6 ∨ y = 8 then false
  else if S1 = true ∨ E = true then true
  else if x = 5 then decide (y = 10 ∨ y = 11)
  else if x = 6 then decide (y = 7 ∧ z = 3)
  else if x = 8 then (decide (y = 7) && S2)
  else false
def asgF (t : List Ty) (a b : Int) (S1 S2 : Bool) : Bool := asgV (tyAt t a).form (tyAt t b).form (tyAt t (tyAt t b).elem).form S1 (decide (ExtP t a b)) S2
theorem GoodP.arr {t : List Ty} (h : GoodP t) {a : Int} (h0 : 0 ≤ a) (h1 : a < t.length) (f : (tyAt t a).form = 7) : placeP t (tyAt t a).elem := by
  rcases h.at_ h0 h1 with ⟨h7, e⟩ | ⟨h7, hf⟩
  · rw [e] at f; simp [bt] at f; omega
  · exact part_in (FrmP.f7 hf f).2.2
theorem GoodP.opn {t : List Ty} (h : GoodP t) {a : Int} (h0 : 0 ≤ a) (h1 : a < t.length) (f : (tyAt t a).form = 8) : placeP t (tyAt t a).elem := by
  rcases h.at_ h0 h1 with ⟨h7, e⟩ | ⟨h7, hf⟩
  · rw [e] at f; simp [bt] at f; omega
  · rcases FrmP.f8 hf f with h | h
    · exact part_in h
    · have := form_in h (by decide); exact ⟨this.1, this.2.1⟩
abbrev axs (x y : Ty) : List ABlk := [.cells x.cs, .cells y.cs]
theorem asg_c {t : List Ty} (ht : TOk t) (hg : GoodP t) {a b : Int} (a0 : 0 ≤ a) (a1 : a < t.length) (b0 : 0 ≤ b) (b1 : b < t.length) {S1 S2 : Bool}
    (hS1 : ∀ H, ACalls Try.prog 38 [tv t, iv a, iv b] H fun v H' => v = bv S1 ∧ H' = H)
    (hS2 : (tyAt t a).form = 8 → (tyAt t b).form = 7 → ∀ H, ACalls Try.prog 38 [tv t, iv (tyAt t a).elem, iv (tyAt t b).elem] H fun v H' => v = bv S2 ∧ H' = H) (H : List ABlk) :
    ACalls Try.prog 40 [tv t, iv a, iv b] H fun v H' => v = bv (asgF t a b S1 S2) ∧ H' = H := by
  generalize hB : asgF t a b S1 S2 = B
  have hext : ∀ H, ACalls Try.prog 39 [tv t, iv a, iv b] H fun v H' => v = bv (decide (ExtP t a b)) ∧ H' = H := ext_c ht hg a0 a1 b0 b1
  refine ACalls.enter Try.func40 cc40 rr40 fun hcl => ?_
  have iax := iaA_ty a0 a1
  have iay := iaA_ty b0 b1
  have hel := hg.arr b0 b1
  have fin : ∀ {v : Bool}, v = B → ∀ l, Ret r40 H.length (fun v H' => v = bv B ∧ H' = H) (some (bv v)) (H ++ l) := fun {v} e l => Ret.drop (bv B) H (Nat.le_refl _) hcl (by rw [e]; exact .rfl _) (by simp [refs]) ⟨rfl, rfl⟩
  unfold asgF at hB
  generalize decide (ExtP t a b) = E at *
  generalize hx : tyAt t a = x at *
  generalize hy : tyAt t b = y at *
  simp only [Try.ntmps40, c40, r40]
  refine W.seq_reg ?_
  simp (maxSteps := 2000000) (disch := omega) only [go_sem, eq_self, if_true, if_false, reduceCtorEq, Int.reduceToNat, Int.reducePow, Nat.reducePow, Nat.reduceMul, Int.reduceLT, Int.reduceLE, Nat.reduceAdd, Nat.reduceLeDiff, Nat.reduceBEq, Nat.reduceSub, Int.reduceSub, Int.reduceMul, Int.reduceNeg, Int.reduceAdd]
  refine W.cut (fun s H' => s = [tv t, iv a, iv b, .any, .any, .any, bv false, .ptr H.length 0, .ptr (H.length + 1) 0] ++ List.replicate 75 .any ∧ H' = H ++ axs x y) ?_ ?_
  · refine W.dregD [([], [H.length, H.length + 1]), ([], [H.length, H.length + 1]), ([], [H.length, H.length + 1]), ([], [H.length, H.length + 1]), ([], [H.length, H.length + 1, H.length]), ([], [H.length, H.length + 1, H.length]), ([], [H.length, H.length + 1, H.length]), ([], [H.length, H.length + 1, H.length]), ([H.length], [H.length + 1]), ([H.length + 1], [H.length]), ([H.length], []), ([H.length + 1], [])] follows (by decide +kernel) rfl rfl (fun z hz b hb => ?_) ?_
    · simp only [List.mem_cons, List.not_mem_nil, or_false] at hz
      rcases hz with rfl | rfl | rfl | rfl | rfl | rfl | rfl | rfl | rfl | rfl | rfl | rfl <;> simp at hb <;> subst hb <;> exact ⟨by simp, by rw [List.getElem?_eq_none (by simp)]; exact fun h => by cases h⟩
    have hk0 : H.set H.length .dead = H := List.set_eq_of_length_le (Nat.le_refl _)
    have hk1 : H.set (H.length + 1) .dead = H := List.set_eq_of_length_le (by omega)
    repeat (rw [DC_p]; simp (maxSteps := 2000000) (disch := omega) only [kill_c, hk0, hk1, iax, iay, Ty.c, List.set_nil, go_sem, eq_self, if_true, if_false, reduceCtorEq, Int.reduceToNat, Int.reducePow, Nat.reducePow, Nat.reduceMul, Int.reduceLT, Int.reduceLE, Nat.reduceAdd, Nat.reduceLeDiff, Nat.reduceBEq, Nat.reduceSub, Int.reduceSub, Int.reduceMul, Int.reduceNeg, Int.reduceAdd])
    refine WStep.al (by simp) (by simp) ?_
    simp (maxSteps := 2000000) (disch := omega) only [go_sem, eq_self, if_true, if_false, reduceCtorEq, Int.reduceToNat, Int.reducePow, Nat.reducePow, Nat.reduceMul, Int.reduceLT, Int.reduceLE, Nat.reduceAdd, Nat.reduceLeDiff, Nat.reduceBEq, Nat.reduceSub, Int.reduceSub, Int.reduceMul, Int.reduceNeg, Int.reduceAdd]
    refine WStep.al (by simp) (by simp) ?_
    simp (maxSteps := 2000000) (disch := omega) only [go_sem, eq_self, if_true, if_false, reduceCtorEq, Int.reduceToNat, Int.reducePow, Nat.reducePow, Nat.reduceMul, Int.reduceLT, Int.reduceLE, Nat.reduceAdd, Nat.reduceLeDiff, Nat.reduceBEq, Nat.reduceSub, Int.reduceSub, Int.reduceMul, Int.reduceNeg, Int.reduceAdd]
    refine WStep.ev (by simp) (by simp) ?_
    simp (maxSteps := 2000000) (disch := omega) only [go_sem, eq_self, if_true, if_false, reduceCtorEq, Int.reduceToNat, Int.reducePow, Nat.reducePow, Nat.reduceMul, Int.reduceLT, Int.reduceLE, Nat.reduceAdd, Nat.reduceLeDiff, Nat.reduceBEq, Nat.reduceSub, Int.reduceSub, Int.reduceMul, Int.reduceNeg, Int.reduceAdd]
    refine ⟨FrOk.put 0 _ (by simp) rfl, ?_⟩
    refine WStep.ev (by simp) (by simp) ?_
    simp (maxSteps := 2000000) (disch := omega) only [go_sem, eq_self, if_true, if_false, reduceCtorEq, Int.reduceToNat, Int.reducePow, Nat.reducePow, Nat.reduceMul, Int.reduceLT, Int.reduceLE, Nat.reduceAdd, Nat.reduceLeDiff, Nat.reduceBEq, Nat.reduceSub, Int.reduceSub, Int.reduceMul, Int.reduceNeg, Int.reduceAdd]
    refine ⟨FrOk.put 1 _ (by simp) rfl, ?_⟩
    exact ⟨_, _, Wk.slots (by (try simp only [List.replicate, List.cons_append, List.nil_append]); repeat' first | exact WkL.nil | refine WkL.cons (Wk1.rfl _) ?_ | refine WkL.cons Wk1.esl ?_ | refine WkL.cons (Wk1.gsl _ _ _) ?_ | refine WkL.cons (Wk1.any _) ?_), rfl, rfl⟩
  rintro s H' ⟨rfl, rfl⟩
  refine wpA.W ?_
  unfold asgV at hB
  simp (maxSteps := 2000000) (disch := omega) only [Ty.cs, List.append_assoc, List.cons_append, List.nil_append, go_sem, eq_self, if_true, if_false, reduceCtorEq, Int.reduceToNat, Int.reducePow, Nat.reducePow, Nat.reduceMul, Int.reduceLT, Int.reduceLE, Nat.reduceAdd, Nat.reduceLeDiff, Nat.reduceBEq, Nat.reduceSub, Int.reduceSub, Int.reduceMul, Int.reduceNeg, Int.reduceAdd]
  by_cases f1 : y.form = 0 ∨ y.form = 5 ∨ y.form = 6 ∨ y.form = 8
  · rw [if_pos f1] at hB
    rcases f1 with f1 | f1 | f1 | f1 <;> (simp (maxSteps := 2000000) (disch := omega) only [Ty.cs, go_sem, eq_self, if_true, if_false, reduceCtorEq, Int.reduceToNat, Int.reducePow, Nat.reducePow, Nat.reduceMul, Int.reduceLT, Int.reduceLE, Nat.reduceAdd, Nat.reduceLeDiff, Nat.reduceBEq, Nat.reduceSub, Int.reduceSub, Int.reduceMul, Int.reduceNeg, Int.reduceAdd]; exact fin hB _)
  rw [if_neg f1] at hB
  have f0 : y.form ≠ 0 ∧ y.form ≠ 5 ∧ y.form ≠ 6 ∧ y.form ≠ 8 := by omega
  simp (maxSteps := 2000000) (disch := omega) only [Ty.cs, go_sem, eq_self, if_true, if_false, reduceCtorEq, Int.reduceToNat, Int.reducePow, Nat.reducePow, Nat.reduceMul, Int.reduceLT, Int.reduceLE, Nat.reduceAdd, Nat.reduceLeDiff, Nat.reduceBEq, Nat.reduceSub, Int.reduceSub, Int.reduceMul, Int.reduceNeg, Int.reduceAdd]
  refine Cont.mk (hS1 _) ?_
  cases S1
  rotate_left
  · simp (maxSteps := 2000000) (disch := omega) only [Ty.cs, go_sem, eq_self, if_true, if_false, reduceCtorEq, Int.reduceToNat, Int.reducePow, Nat.reducePow, Nat.reduceMul, Int.reduceLT, Int.reduceLE, Nat.reduceAdd, Nat.reduceLeDiff, Nat.reduceBEq, Nat.reduceSub, Int.reduceSub, Int.reduceMul, Int.reduceNeg, Int.reduceAdd]
    exact fin hB _
  simp (maxSteps := 2000000) (disch := omega) only [Ty.cs, go_sem, eq_self, if_true, if_false, reduceCtorEq, Int.reduceToNat, Int.reducePow, Nat.reducePow, Nat.reduceMul, Int.reduceLT, Int.reduceLE, Nat.reduceAdd, Nat.reduceLeDiff, Nat.reduceBEq, Nat.reduceSub, Int.reduceSub, Int.reduceMul, Int.reduceNeg, Int.reduceAdd]
  refine Cont.mk (hext _) ?_
  cases E
  rotate_left
  · simp (maxSteps := 2000000) (disch := omega) only [Ty.cs, go_sem, eq_self, if_true, if_false, reduceCtorEq, Int.reduceToNat, Int.reducePow, Nat.reducePow, Nat.reduceMul, Int.reduceLT, Int.reduceLE, Nat.reduceAdd, Nat.reduceLeDiff, Nat.reduceBEq, Nat.reduceSub, Int.reduceSub, Int.reduceMul, Int.reduceNeg, Int.reduceAdd]
    exact fin hB _
  simp only [Bool.false_eq_true, or_self, if_false] at hB
  simp (maxSteps := 2000000) (disch := omega) only [Ty.cs, go_sem, eq_self, if_true, if_false, reduceCtorEq, Int.reduceToNat, Int.reducePow, Nat.reducePow, Nat.reduceMul, Int.reduceLT, Int.reduceLE, Nat.reduceAdd, Nat.reduceLeDiff, Nat.reduceBEq, Nat.reduceSub, Int.reduceSub, Int.reduceMul, Int.reduceNeg, Int.reduceAdd]
  by_cases x5 : x.form = 5
  · rw [if_pos x5] at hB
    by_cases y10 : y.form = 10
    · simp (maxSteps := 2000000) (disch := omega) only [Ty.cs, go_sem, eq_self, if_true, if_false, reduceCtorEq, Int.reduceToNat, Int.reducePow, Nat.reducePow, Nat.reduceMul, Int.reduceLT, Int.reduceLE, Nat.reduceAdd, Nat.reduceLeDiff, Nat.reduceBEq, Nat.reduceSub, Int.reduceSub, Int.reduceMul, Int.reduceNeg, Int.reduceAdd]
      exact fin (by rw [← hB, dect (.inl y10)]) _
    · simp (maxSteps := 2000000) (disch := omega) only [Ty.cs, go_sem, eq_self, if_true, if_false, reduceCtorEq, Int.reduceToNat, Int.reducePow, Nat.reducePow, Nat.reduceMul, Int.reduceLT, Int.reduceLE, Nat.reduceAdd, Nat.reduceLeDiff, Nat.reduceBEq, Nat.reduceSub, Int.reduceSub, Int.reduceMul, Int.reduceNeg, Int.reduceAdd]
      refine fin ?_ _
      rw [← hB]; simp [y10]
  rw [if_neg x5] at hB
  by_cases x6 : x.form = 6
  · rw [if_pos x6] at hB
    by_cases y7 : y.form = 7
    · have hel' := hel y7
      have ial := iaA_ty hel'.1 hel'.2
      simp (maxSteps := 2000000) (disch := omega) only [Ty.cs, Ty.c, ial, go_sem, eq_self, if_true, if_false, reduceCtorEq, Int.reduceToNat, Int.reducePow, Nat.reducePow, Nat.reduceMul, Int.reduceLT, Int.reduceLE, Nat.reduceAdd, Nat.reduceLeDiff, Nat.reduceBEq, Nat.reduceSub, Int.reduceSub, Int.reduceMul, Int.reduceNeg, Int.reduceAdd]
      refine fin ?_ _
      rw [← hB]; simp [y7]
    · simp (maxSteps := 2000000) (disch := omega) only [Ty.cs, go_sem, eq_self, if_true, if_false, reduceCtorEq, Int.reduceToNat, Int.reducePow, Nat.reducePow, Nat.reduceMul, Int.reduceLT, Int.reduceLE, Nat.reduceAdd, Nat.reduceLeDiff, Nat.reduceBEq, Nat.reduceSub, Int.reduceSub, Int.reduceMul, Int.reduceNeg, Int.reduceAdd]
      exact fin (by rw [← hB, decf fun h => y7 h.1]) _
  rw [if_neg x6] at hB
  by_cases x8 : x.form = 8
  · rw [if_pos x8] at hB
    by_cases y7 : y.form = 7
    · simp (maxSteps := 2000000) (disch := omega) only [Ty.cs, go_sem, eq_self, if_true, if_false, reduceCtorEq, Int.reduceToNat, Int.reducePow, Nat.reducePow, Nat.reduceMul, Int.reduceLT, Int.reduceLE, Nat.reduceAdd, Nat.reduceLeDiff, Nat.reduceBEq, Nat.reduceSub, Int.reduceSub, Int.reduceMul, Int.reduceNeg, Int.reduceAdd]
      refine Cont.mk (hS2 x8 y7 _) ?_
      simp (maxSteps := 2000000) (disch := omega) only [Ty.cs, go_sem, eq_self, if_true, if_false, reduceCtorEq, Int.reduceToNat, Int.reducePow, Nat.reducePow, Nat.reduceMul, Int.reduceLT, Int.reduceLE, Nat.reduceAdd, Nat.reduceLeDiff, Nat.reduceBEq, Nat.reduceSub, Int.reduceSub, Int.reduceMul, Int.reduceNeg, Int.reduceAdd]
      exact fin (by rw [← hB, dect y7, Bool.true_and]) _
    · simp (maxSteps := 2000000) (disch := omega) only [Ty.cs, go_sem, eq_self, if_true, if_false, reduceCtorEq, Int.reduceToNat, Int.reducePow, Nat.reducePow, Nat.reduceMul, Int.reduceLT, Int.reduceLE, Nat.reduceAdd, Nat.reduceLeDiff, Nat.reduceBEq, Nat.reduceSub, Int.reduceSub, Int.reduceMul, Int.reduceNeg, Int.reduceAdd]
      exact fin (by rw [← hB, decf y7, Bool.false_and]) _
  rw [if_neg x8] at hB
  simp (maxSteps := 2000000) (disch := omega) only [Ty.cs, go_sem, eq_self, if_true, if_false, reduceCtorEq, Int.reduceToNat, Int.reducePow, Nat.reducePow, Nat.reduceMul, Int.reduceLT, Int.reduceLE, Nat.reduceAdd, Nat.reduceLeDiff, Nat.reduceBEq, Nat.reduceSub, Int.reduceSub, Int.reduceMul, Int.reduceNeg, Int.reduceAdd]
  exact fin hB _
end Go.Proofs.Ytlhpcccffmfopaa

/- l13.wakes. -/
namespace Go.Proofs.Ytlhpcccffmfopaa
set_option linter.unusedSimpArgs false
set_option linter.unusedVariables false
set_option maxRecDepth 20000
set_option maxHeartbeats 4000000
open Go.RowKit

def wkT : List Ty := basicL ++ [⟨9, ⟨#[65]⟩, ⟨#[82]⟩, 0, 0, 0, [], [], 0, 0⟩, ⟨9, ⟨#[65]⟩, se, 0, 0, 7, [], [], 0, 1⟩, ⟨10, se, se, 0, 7, 0, [], [], 0, 0⟩, ⟨10, se, se, 0, 8, 0, [], [], 0, 0⟩]
theorem wkT_at (i : Nat) (h : i < 7) : wkT.getD i default = bt i := by
  match i, h with
  | 0, _ => rfl
  | 1, _ => rfl
  | 2, _ => rfl
  | 3, _ => rfl
  | 4, _ => rfl
  | 5, _ => rfl
  | 6, _ => rfl
theorem Nm_1 (c : UInt8) (h : letF (c.toNat : Nat) = true) : Nm ⟨#[c]⟩ := ⟨(by show 1 ≤ 1; omega), (by show 1 ≤ 24; omega), h, fun i hi => by
  have : i = 0 := by have h1 : (⟨#[c]⟩ : ByteArray).size = 1 := rfl
                     omega
  subst this
  exact .inl h⟩
theorem wkT_mem : ∀ x ∈ wkT, x.fields = [] ∧ x.params = [] ∧ x.mod.size ≤ 1 ∧ x.name.size ≤ 1 := by
  intro x hx
  simp only [wkT, basicL, bt, List.cons_append, List.nil_append, List.mem_cons, List.not_mem_nil, or_false] at hx
  rcases hx with rfl | rfl | rfl | rfl | rfl | rfl | rfl | rfl | rfl | rfl | rfl <;> exact ⟨rfl, rfl, by decide, by decide⟩
theorem wkT_tt : TT wkT := by
  refine ⟨⟨by decide, fun x hx => ?_⟩, fun x hx f hf => ?_, ⟨by decide, fun x hx => ?_⟩⟩
  · obtain ⟨h1, h2, h3, h4⟩ := wkT_mem x hx
    rw [h1, h2]
    exact ⟨by decide, by decide, by omega, by omega⟩
  · rw [(wkT_mem x hx).1] at hf; cases hf
  · obtain ⟨h1, h2, h3, h4⟩ := wkT_mem x hx
    refine ⟨by rw [h1]; decide, by rw [h2]; decide, by omega, by omega⟩
theorem wkT_frm (i : Nat) (h7 : 7 ≤ i) (h : i < wkT.length) : FormedP wkT (wkT.getD i default) := by
  have hA : Nm ⟨#[65]⟩ := Nm_1 65 (by decide)
  have hR : Nm ⟨#[82]⟩ := Nm_1 82 (by decide)
  have hl : wkT.length = 11 := rfl
  have : i = 7 ∨ i = 8 ∨ i = 9 ∨ i = 10 := by omega
  rcases this with rfl | rfl | rfl | rfl
  · refine ⟨.inr (.inr (.inl ⟨rfl, .inl rfl, by decide, by decide, by decide, fun f hf => by cases hf⟩)), .inr ⟨hA, .inl hR⟩, ⟨rfl, rfl, rfl, rfl, rfl, rfl, rfl⟩⟩
  · refine ⟨.inr (.inr (.inl ⟨rfl, .inr rfl, by decide, by decide, by decide, fun f hf => by cases hf⟩)), .inr ⟨hA, .inr ⟨rfl, rfl⟩⟩, ⟨rfl, rfl, rfl, rfl, rfl, rfl, rfl⟩⟩
  · refine ⟨.inr (.inr (.inr (.inl ⟨rfl, rfl⟩))), .inl ⟨rfl, rfl, by decide⟩, ⟨rfl, rfl, rfl, rfl, rfl, rfl, rfl⟩⟩
  · refine ⟨.inr (.inr (.inr (.inl ⟨rfl, rfl⟩))), .inl ⟨rfl, rfl, by decide⟩, ⟨rfl, rfl, rfl, rfl, rfl, rfl, rfl⟩⟩
theorem wkT_kid : ∀ n, n < 11 → ∀ y ∈ kidsC wkT (n : Nat), 0 ≤ y ∧ y < (n : Nat) := by decide
theorem wkT_acc (a : Int) (h0 : 0 ≤ a) (h : a < wkT.length) : Acc (KdC wkT) a := by
  have hl : wkT.length = 11 := rfl
  have : ∀ n : Nat, ∀ k, k ≤ n → k < 11 → Acc (KdC wkT) (k : Nat) := by
    intro n
    induction n with
    | zero => exact fun k hk hk2 => ⟨_, fun y hy => by have := wkT_kid k hk2 y hy; omega⟩
    | succ n ih => exact fun k hk hk2 => ⟨_, fun y hy => by
        have := wkT_kid k hk2 y hy
        have e : ((y.toNat : Nat) : Int) = y := by omega
        have := ih y.toNat (by omega) (by omega)
        rwa [e] at this⟩
  have h2 := this a.toNat a.toNat (Nat.le_refl _) (by omega)
  rwa [show ((a.toNat : Nat) : Int) = a by omega] at h2
theorem wkT_good : GoodP wkT := by
  have hl : wkT.length = 11 := rfl
  refine ⟨⟨by decide, wkT_at, wkT_frm⟩, wkT_acc, fun i j hij hj => ?_, fun i hi => ?_⟩
  · have : ∀ j, j < 11 → ∀ i, i < j → ¬ ((wkT.getD i default).form = 9 ∧ (wkT.getD j default).form = 9 ∧ (wkT.getD i default).desc = (wkT.getD j default).desc) := by decide
    exact fun h => this j (by omega) i hij ⟨h.1, h.2.1, h.2.2.2.2⟩
  · have : ∀ i, i < 11 → (wkT.getD i default).form = 9 → (chain wkT 5 i).length ≤ 5 ∧ namesL wkT (chain wkT 5 i) = [] := by decide +kernel
    rintro ⟨h1, h2⟩
    have := this i (by omega) h1
    exact h2 ⟨this.1, by rw [this.2]; exact List.nodup_nil⟩
theorem wakes_c (H : List ABlk) : ACalls Try.prog 13 [] H fun v H' => v = bv true ∧ H' = H := by
  have hl : wkT.length = 11 := rfl
  have pl : ∀ a : Int, 0 ≤ a → a < 11 → placeP wkT a := fun a h0 h1 => ⟨h0, by rw [hl]; exact h1⟩
  have hgood := wkT_good
  have htt := wkT_tt
  have p2 : ∀ a b : Int, 0 ≤ a → a < 11 → 0 ≤ b → b < 11 → decide (PlP wkT [a, b]) = true := fun a b h0 h1 h2 h3 => dect (pl2 hgood (pl a h0 h1) (pl b h2 h3))
  have g1 : ∀ H, ACalls Try.prog 15 [tv wkT] H fun v H' => v = bv true ∧ H' = H := fun H => by
    have := tgood_c htt H
    rwa [good_t hgood] at this
  have g2 : ∀ H, ACalls Try.prog 21 [tv wkT, iv 10, iv 9] H fun v H' => v = bv true ∧ H' = H := fun H => by
    have := tyext_c htt 10 9 (fun _ => ext_c htt.k hgood (a := 10) (b := 9) (by decide) (by decide) (by decide) (by decide)) H
    rwa [p2 10 9 (by decide) (by decide) (by decide) (by decide), dect (show ExtP wkT 10 9 by decide +kernel)] at this
  have g3 : ∀ H, ACalls Try.prog 21 [tv wkT, iv 9, iv 10] H fun v H' => v = bv false ∧ H' = H := fun H => by
    have := tyext_c htt 9 10 (fun _ => ext_c htt.k hgood (a := 9) (b := 10) (by decide) (by decide) (by decide) (by decide)) H
    rwa [decf (show ¬ ExtP wkT 9 10 by decide +kernel), Bool.and_false] at this
  have g4 : ∀ H, ACalls Try.prog 22 [tv wkT, iv 5, iv 9] H fun v H' => v = bv true ∧ H' = H := fun H => by
    have := tyasg_c htt 5 9 (S := asgF wkT 5 9 false true) (fun _ => asg_c htt.k hgood (a := 5) (b := 9) (by decide) (by decide) (by decide) (by decide) (tsame_easy htt.k (by decide) (by decide) (by decide) (by decide) (by decide +kernel)) (fun h => absurd h (by decide))) H
    rwa [p2 5 9 (by decide) (by decide) (by decide) (by decide), show asgF wkT 5 9 false true = true by decide +kernel] at this
  have g5 : ∀ H, ACalls Try.prog 23 [tv wkT, iv 10] H fun v H' => v = iv 1 ∧ H' = H := fun H => by
    have := tylev_c htt 10 (fun _ => lev_c htt.k hgood (a := 10) (by decide) (by decide)) H
    rwa [if_pos (pl1 hgood (pl 10 (by decide) (by decide))), show LevF wkT 10 = 1 by decide +kernel] at this
  refine ACalls.into Try.func13 cc13 rr13 fun hcl => ?_
  simp (maxSteps := 2000000) (disch := omega) only [Try.ntmps13, c13, r13, go_sem, eq_self, if_true, if_false, reduceCtorEq, Int.reduceToNat, Int.reducePow, Nat.reducePow, Nat.reduceMul, Int.reduceLT, Int.reduceLE, Nat.reduceAdd, Nat.reduceLeDiff, Nat.reduceBEq, Nat.reduceSub, Int.reduceSub, Int.reduceMul, Int.reduceNeg, Int.reduceAdd]
  refine Cont.mk (tbasic_c _) ?_
  simp (maxSteps := 2000000) (disch := omega) only [basicL, bt, go_sem, eq_self, if_true, if_false, reduceCtorEq, Int.reduceToNat, Int.reducePow, Nat.reducePow, Nat.reduceMul, Int.reduceLT, Int.reduceLE, Nat.reduceAdd, Nat.reduceLeDiff, Nat.reduceBEq, Nat.reduceSub, Int.reduceSub, Int.reduceMul, Int.reduceNeg, Int.reduceAdd]
  have w1 : ∀ (H : List ABlk) (b : Nat), ACalls Try.prog 15 [.gsl b 10 (wkT.map Ty.c)] H fun v H' => v = bv true ∧ H' = H := fun H b => (g1 H).weak (.cons (.gsl _ _ _) .nil)
  have w2 : ∀ (H : List ABlk) (b : Nat), ACalls Try.prog 21 [.gsl b 10 (wkT.map Ty.c), iv 10, iv 9] H fun v H' => v = bv true ∧ H' = H := fun H b => (g2 H).weak (.cons (.gsl _ _ _) (.cons (.rfl _) (.cons (.rfl _) .nil)))
  have w3 : ∀ (H : List ABlk) (b : Nat), ACalls Try.prog 21 [.gsl b 10 (wkT.map Ty.c), iv 9, iv 10] H fun v H' => v = bv false ∧ H' = H := fun H b => (g3 H).weak (.cons (.gsl _ _ _) (.cons (.rfl _) (.cons (.rfl _) .nil)))
  have w4 : ∀ (H : List ABlk) (b : Nat), ACalls Try.prog 22 [.gsl b 10 (wkT.map Ty.c), iv 5, iv 9] H fun v H' => v = bv true ∧ H' = H := fun H b => (g4 H).weak (.cons (.gsl _ _ _) (.cons (.rfl _) (.cons (.rfl _) .nil)))
  have w5 : ∀ (H : List ABlk) (b : Nat), ACalls Try.prog 23 [.gsl b 10 (wkT.map Ty.c), iv 10] H fun v H' => v = iv 1 ∧ H' = H := fun H b => (g5 H).weak (.cons (.gsl _ _ _) (.cons (.rfl _) .nil))
  refine Cont.mk (w1 _ _) ?_
  simp (maxSteps := 2000000) (disch := omega) only [go_sem, eq_self, if_true, if_false, reduceCtorEq, Int.reduceToNat, Int.reducePow, Nat.reducePow, Nat.reduceMul, Int.reduceLT, Int.reduceLE, Nat.reduceAdd, Nat.reduceLeDiff, Nat.reduceBEq, Nat.reduceSub, Int.reduceSub, Int.reduceMul, Int.reduceNeg, Int.reduceAdd]
  refine Cont.mk (w2 _ _) ?_
  simp (maxSteps := 2000000) (disch := omega) only [go_sem, eq_self, if_true, if_false, reduceCtorEq, Int.reduceToNat, Int.reducePow, Nat.reducePow, Nat.reduceMul, Int.reduceLT, Int.reduceLE, Nat.reduceAdd, Nat.reduceLeDiff, Nat.reduceBEq, Nat.reduceSub, Int.reduceSub, Int.reduceMul, Int.reduceNeg, Int.reduceAdd]
  refine Cont.mk (w3 _ _) ?_
  simp (maxSteps := 2000000) (disch := omega) only [go_sem, eq_self, if_true, if_false, reduceCtorEq, Int.reduceToNat, Int.reducePow, Nat.reducePow, Nat.reduceMul, Int.reduceLT, Int.reduceLE, Nat.reduceAdd, Nat.reduceLeDiff, Nat.reduceBEq, Nat.reduceSub, Int.reduceSub, Int.reduceMul, Int.reduceNeg, Int.reduceAdd]
  refine Cont.mk (w4 _ _) ?_
  simp (maxSteps := 2000000) (disch := omega) only [go_sem, eq_self, if_true, if_false, reduceCtorEq, Int.reduceToNat, Int.reducePow, Nat.reducePow, Nat.reduceMul, Int.reduceLT, Int.reduceLE, Nat.reduceAdd, Nat.reduceLeDiff, Nat.reduceBEq, Nat.reduceSub, Int.reduceSub, Int.reduceMul, Int.reduceNeg, Int.reduceAdd]
  refine Cont.mk (w5 _ _) ?_
  simp (maxSteps := 2000000) (disch := omega) only [go_sem, eq_self, if_true, if_false, reduceCtorEq, Int.reduceToNat, Int.reducePow, Nat.reducePow, Nat.reduceMul, Int.reduceLT, Int.reduceLE, Nat.reduceAdd, Nat.reduceLeDiff, Nat.reduceBEq, Nat.reduceSub, Int.reduceSub, Int.reduceMul, Int.reduceNeg, Int.reduceAdd]
  exact Ret.drop _ H (Nat.le_refl _) hcl (.rfl _) (by simp [refs]) ⟨rfl, rfl⟩
end Go.Proofs.Ytlhpcccffmfopaa
