/- The reference: one type by itself. -/
import Derived.Test.YtlhpcccffmfopaaT7b
import Derived.Test.YtlhpcccffmfopaaT12
namespace Go.Proofs.Ytlhpcccffmfopaa
set_option linter.unusedSectionVars false
set_option linter.unusedSimpArgs false
set_option linter.unusedVariables false
set_option maxRecDepth 20000
set_option maxHeartbeats 4000000
open Go.RowKit

def ok1 (x : Ty) : Prop := (x.form ≠ 9 → x.desc = 0 ∧ (x.mod = se ↔ x.name = se)) ∧ (x.form = 9 → x.mod ≠ se ∧ -1 ≤ x.desc ∧ x.desc ≤ 63)
def ok2 (x : Ty) : Prop := (x.mod = se ∨ Nm x.mod) ∧ (x.name = se ∨ Nm x.name)
def ok3 (x : Ty) : Prop := (x.form ≠ 7 → x.len = 0) ∧ (x.form ≠ 7 ∧ x.form ≠ 8 ∧ x.form ≠ 10 → x.elem = 0) ∧ (x.form ≠ 9 → x.base = 0 ∧ x.fields.length = 0) ∧ (x.form ≠ 11 → x.params.length = 0 ∧ x.result = 0)
def hopenP (t : List Ty) (n : Int) : Prop := placeP t n ∧ (tyAt t n).form = 8
def swP (t : List Ty) (a : Int) (x : Ty) : Prop :=
  (x.form = 7 ∧ 1 ≤ x.len ∧ x.len ≤ 4096 ∧ holdsP t x.elem) ∨ (x.form = 8 ∧ (holdsP t x.elem ∨ hopenP t x.elem)) ∨ (x.form = 10 ∧ placeP t x.elem ∧ (tyAt t x.elem).form = 9) ∨ (x.form = 9 ∧ RecP t a) ∨
  (x.form = 11 ∧ (∀ p ∈ x.params, holdsP t p.typ ∨ hopenP t p.typ) ∧ x.params.length ≤ 64 ∧ (x.result = 0 ∨ (holdsP t x.result ∧ (tyAt t x.result).form ≠ 7 ∧ (tyAt t x.result).form ≠ 9)))
def OneP (t : List Ty) (a : Int) : Prop := ok1 (tyAt t a) ∧ ok2 (tyAt t a) ∧ ok3 (tyAt t a) ∧ swP t a (tyAt t a)
def OneR (t : List Ty) (a : Int) (H : List ABlk) (v : AV) (H' : List ABlk) : Prop := (∃ B, v = bv B ∧ (B = true ↔ OneP t a)) ∧ H' = H
theorem word_t {s : ByteArray} (h : Nm s) (H : List ABlk) : ACalls Try.prog 58 [sv s] H fun v H' => v = bv true ∧ H' = H := (word13_c s H).mono fun v H' e => by rw [nm_t h] at e; exact e
theorem word_f {s : ByteArray} (h : ¬ Nm s) (H : List ABlk) : ACalls Try.prog 58 [sv s] H fun v H' => v = bv false ∧ H' = H := (word13_c s H).mono fun v H' e => by rw [nm_f h] at e; exact e
abbrev S5 (t : List Ty) (a : Int) (H : List ABlk) : List AV := [tv t, iv a, .any, .any, bv false, .ptr H.length 0] ++ List.replicate 248 .any
def J5 (t : List Ty) (a : Int) (x : Ty) (H : List ABlk) (P : Prop) (s : List AV) (H' : List ABlk) : Prop := P ∧ s = S5 t a H ∧ H' = H ++ [.cells x.cs]
theorem J5.mk {t : List Ty} {a : Int} {x : Ty} {H : List ABlk} {P : Prop} {s : List AV} (hk : WkL s (S5 t a H)) (h : P) : ∃ s0 H0, Wk H.length s (H ++ [.cells x.cs]) s0 H0 ∧ J5 t a x H P s0 H0 := ⟨_, _, Wk.slots hk, h, rfl, rfl⟩
/-- The parameters of a procedure. -/
theorem one_l0 {t : List Ty} (ht : t.length ≤ 9000000) {a : Int} {x : Ty} {H G : List ABlk} {nb : Nat} (hfl : x.params.length ≤ 9000000) (hG : G[H.length]? = some (.cells x.cs)) :
    W Try.prog (hh 35) nb (.loop c35l0) ([tv t, iv a, .any, .any, bv false, .ptr H.length 0, iv (0 : Nat)] ++ List.replicate 247 .any) G
      (fun e s H' => (e = .exit 1 ∧ (∃ y0 y1 y2 y3 y4 y5, s = [tv t, iv a, .any, .any, bv false, .ptr H.length 0, y0] ++ List.replicate 183 .any ++ [y1, y2, y3, y4, y5] ++ List.replicate 59 .any) ∧ H' = G ∧ ∀ p ∈ x.params, holdsP t p.typ ∨ hopenP t p.typ) ∨
        (e = .ret ∧ resA [RC.t 4] s H' = some (bv false) ∧ H' = G ∧ ¬ ∀ p ∈ x.params, holdsP t p.typ ∨ hopenP t p.typ)) := by
  obtain ⟨S, hS⟩ : ∃ S : Nat → List AV, ∀ i, S i = [tv t, iv a, .any, .any, bv false, .ptr H.length 0, iv i] ++ List.replicate 247 .any := ⟨_, fun _ => rfl⟩
  refine W.loopG (γ := Nat) (fun i => x.params.length - i) S (fun i => G) (fun i => i ≤ x.params.length ∧ ∀ j, j < i → holdsP t (x.params.getD j default).typ ∨ hopenP t (x.params.getD j default).typ) 0 (by rw [hS]; exact Wk.refl) ⟨Nat.zero_le _, fun j hj => by omega⟩ (fun i hi => ?_)
  obtain ⟨q1, q4⟩ := hi
  simp (maxSteps := 2000000) (disch := omega) only [c35l0, hS, hG, Ty.cs, List.length_map, List.append_assoc, List.cons_append, List.nil_append, go_sem, eq_self, if_true, if_false, reduceCtorEq, Int.reduceToNat, Int.reducePow, Nat.reducePow, Nat.reduceMul, Int.reduceLT, Int.reduceLE, Nat.reduceAdd, Nat.reduceLeDiff, Nat.reduceBEq, Nat.reduceSub, Int.reduceSub, Int.reduceMul, Int.reduceNeg, Int.reduceAdd]
  refine Br.dec (fun hc => ?_) (fun hc => ?_) <;> simp (maxSteps := 2000000) (disch := omega) only [go_sem, eq_self, if_true, if_false, reduceCtorEq, Int.reduceToNat, Int.reducePow, Nat.reducePow, Nat.reduceMul, Int.reduceLT, Int.reduceLE, Nat.reduceAdd, Nat.reduceLeDiff, Nat.reduceBEq, Nat.reduceSub, Int.reduceSub, Int.reduceMul, Int.reduceNeg, Int.reduceAdd]
  · have hfa := iaA_pm (t := x.params) (a := i) (by omega) (by omega)
    have e1 : pmAt x.params (i : Int) = x.params.getD i default := rfl
    rw [e1] at hfa
    have hmf : x.params.getD i default ∈ x.params := by rw [List.getD_eq_getElem?_getD, List.getElem?_eq_getElem (by omega)]; exact List.getElem_mem _
    have nx : (holdsP t (x.params.getD i default).typ ∨ hopenP t (x.params.getD i default).typ) → Nxt nb (fun i => x.params.length - i) S (fun i => G) (fun i => i ≤ x.params.length ∧ ∀ j, j < i → holdsP t (x.params.getD j default).typ ∨ hopenP t (x.params.getD j default).typ) (x.params.length - i) (S (i + 1)) G := fun h => by
      refine Nxt.mk (i + 1) (by omega) Wk.refl ⟨by omega, fun j hj => ?_⟩
      rcases Nat.lt_or_ge j i with h' | h'
      · exact q4 j h'
      · rw [show j = i by omega]; exact h
    have nx2 : ∀ {s' : List AV}, (holdsP t (x.params.getD i default).typ ∨ hopenP t (x.params.getD i default).typ) → WkL s' (S (i + 1)) → Nxt nb (fun i => x.params.length - i) S (fun i => G) (fun i => i ≤ x.params.length ∧ ∀ j, j < i → holdsP t (x.params.getD j default).typ ∨ hopenP t (x.params.getD j default).typ) (x.params.length - i) s' G := fun {s'} h hk => by
      obtain ⟨g, h1, h2, h3⟩ := nx h
      refine Nxt.mk (i + 1) (by omega) (Wk.slots hk) ⟨by omega, fun j hj => ?_⟩
      rcases Nat.lt_or_ge j i with h' | h'
      · exact q4 j h'
      · rw [show j = i by omega]; exact h
    generalize x.params.getD i default = p at *
    simp (maxSteps := 2000000) (disch := omega) only [hfa, Pm.c, hG, Ty.cs, go_sem, eq_self, if_true, if_false, reduceCtorEq, Int.reduceToNat, Int.reducePow, Nat.reducePow, Nat.reduceMul, Int.reduceLT, Int.reduceLE, Nat.reduceAdd, Nat.reduceLeDiff, Nat.reduceBEq, Nat.reduceSub, Int.reduceSub, Int.reduceMul, Int.reduceNeg, Int.reduceAdd]
    refine Cont.mk (holds_c _ ht _) ?_
    by_cases hh : holdsP t p.typ
    · have kh := decide_eq_true hh
      simp (maxSteps := 2000000) (disch := omega) only [kh, go_sem, eq_self, if_true, if_false, reduceCtorEq, Int.reduceToNat, Int.reducePow, Nat.reducePow, Nat.reduceMul, Int.reduceLT, Int.reduceLE, Nat.reduceAdd, Nat.reduceLeDiff, Nat.reduceBEq, Nat.reduceSub, Int.reduceSub, Int.reduceMul, Int.reduceNeg, Int.reduceAdd]
      exact nx2 (.inl hh) (by rw [hS]; exact WkL.tail 7 _ rfl (by simp only [List.take_succ_cons, List.take_zero]; repeat' first | exact WkL.nil | refine WkL.cons (Wk1.rfl _) ?_ | refine WkL.cons Wk1.esl ?_ | refine WkL.cons (Wk1.gsl _ _ _) ?_ | refine WkL.cons (Wk1.any _) ?_))
    · have kh := decide_eq_false hh
      simp (maxSteps := 2000000) (disch := omega) only [kh, go_sem, eq_self, if_true, if_false, reduceCtorEq, Int.reduceToNat, Int.reducePow, Nat.reducePow, Nat.reduceMul, Int.reduceLT, Int.reduceLE, Nat.reduceAdd, Nat.reduceLeDiff, Nat.reduceBEq, Nat.reduceSub, Int.reduceSub, Int.reduceMul, Int.reduceNeg, Int.reduceAdd]
      refine Cont.mk (place_c _ ht _) ?_
      by_cases hp : placeP t p.typ
      · have kp := decide_eq_true hp
        have hty := iaA_ty hp.1 hp.2
        by_cases h8 : (tyAt t p.typ).form = 8
        · simp (maxSteps := 2000000) (disch := omega) only [kp, hty, Ty.c, h8, go_sem, eq_self, if_true, if_false, reduceCtorEq, Int.reduceToNat, Int.reducePow, Nat.reducePow, Nat.reduceMul, Int.reduceLT, Int.reduceLE, Nat.reduceAdd, Nat.reduceLeDiff, Nat.reduceBEq, Nat.reduceSub, Int.reduceSub, Int.reduceMul, Int.reduceNeg, Int.reduceAdd]
          exact nx2 (.inr ⟨hp, h8⟩) (by rw [hS]; exact WkL.tail 7 _ rfl (by simp only [List.take_succ_cons, List.take_zero]; repeat' first | exact WkL.nil | refine WkL.cons (Wk1.rfl _) ?_ | refine WkL.cons Wk1.esl ?_ | refine WkL.cons (Wk1.gsl _ _ _) ?_ | refine WkL.cons (Wk1.any _) ?_))
        · simp (maxSteps := 2000000) (disch := omega) only [kp, hty, Ty.c, go_sem, eq_self, if_true, if_false, reduceCtorEq, Int.reduceToNat, Int.reducePow, Nat.reducePow, Nat.reduceMul, Int.reduceLT, Int.reduceLE, Nat.reduceAdd, Nat.reduceLeDiff, Nat.reduceBEq, Nat.reduceSub, Int.reduceSub, Int.reduceMul, Int.reduceNeg, Int.reduceAdd]
          exact .inr fun h => (h p hmf).elim hh fun h => h8 h.2
      · have kp := decide_eq_false hp
        simp (maxSteps := 2000000) (disch := omega) only [kp, go_sem, eq_self, if_true, if_false, reduceCtorEq, Int.reduceToNat, Int.reducePow, Nat.reducePow, Nat.reduceMul, Int.reduceLT, Int.reduceLE, Nat.reduceAdd, Nat.reduceLeDiff, Nat.reduceBEq, Nat.reduceSub, Int.reduceSub, Int.reduceMul, Int.reduceNeg, Int.reduceAdd]
        exact .inr fun h => (h p hmf).elim hh fun h => hp h.1
  · have hie : i = x.params.length := by omega
    subst hie
    refine .inl ⟨⟨_, _, _, _, _, _, rfl⟩, fun f hf => ?_⟩
    obtain ⟨j, hj, rfl⟩ := List.getElem_of_mem hf
    have := q4 j hj
    rwa [List.getD_eq_getElem?_getD, List.getElem?_eq_getElem hj] at this
end Go.Proofs.Ytlhpcccffmfopaa
