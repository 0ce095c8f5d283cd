/- The reference: names of types. -/
import Derived.Test.YthifjndenhjobaaXIA
namespace Go.Proofs.Ythifjndenhjobaa
set_option linter.unusedSimpArgs false
set_option linter.unusedVariables false
set_option maxRecDepth 20000
set_option maxHeartbeats 4000000
open Go.RowKit

end Go.Proofs.Ythifjndenhjobaa

/- Records' numbers. -/
namespace Go.Proofs.Ythifjndenhjobaa
set_option linter.unusedSimpArgs false
set_option linter.unusedVariables false
set_option maxRecDepth 20000
set_option maxHeartbeats 4000000
open Go.RowKit

def c19l0 : AC :=
 .seq (.reg [kn 10 (.bin .lss (.t 9) (.t 8))])
 (.seq (.cond (.t 10) (.skip) (.exit 0))
 (.seq (.block 1 (.seq (.reg [kn 11 (.ia (.t 7) (.t 9) 10), kn 12 (.ld (.t 11) 10 true), kn 5 (.al [kz, (.d (.v (.string ⟨#[]⟩))), (.d (.v (.string ⟨#[]⟩))), kz, kz, kz, .esl, .esl, kz, kz]), ke (.st (.t 5) (.t 12) 10)])
 (.seq (.seq (.reg [kn 13 (.fa (.t 5) 0), kn 14 (.ld (.t 13) 1 false), kn 15 (.bin .neq (.t 14) (kc 9))])
 (.cond (.t 15) (.exit 1) (.skip)))
 (.seq (.seq (.reg [kn 16 (.fa (.t 5) 9), kn 17 (.ld (.t 16) 1 false), kn 18 (.bin .lss (.t 17) (kc 0)), kn 19 (.mv (.t 18)), ko 20 19 (.fa (.t 5) 1), ko 21 19 (.ld (.t 20) 1 false), ko 22 19 (.fa (.t 1) 0), ko 23 19 (.ld (.t 22) 1 false), ko 24 19 (.bin .eql (.t 21) (.t 23)), ko 25 19 (.mv (.t 24)), ky 26 25 (.fa (.t 5) 9), ky 27 25 (.ld (.t 26) 1 false), ky 28 25 (.mv (.t 3)), ky 29 25 (.bin .neq (.t 27) (.t 28)), ko 30 19 (.pick (.t 25) (.t 29) (.c (.d (.v (.bool false))))), kn 31 (.pick (.t 19) (.c (.d (.v (.bool true)))) (.t 30))])
 (.cond (.t 31) (.seq (.reg [kn 2 (.mv (.c (.d (.v (.bool false)))))])
 (.ret)) (.skip)))
 (.seq (.reg [kn 32 (.fa (.t 5) 1), kn 33 (.ld (.t 32) 1 false), kn 34 (.fa (.t 1) 0), kn 35 (.ld (.t 34) 1 false), kn 36 (.bin .eql (.t 33) (.t 35))])
 (.cond (.t 36) (.reg [kn 37 (.mv (.t 3)), kn 38 (.bin .add (.t 37) (kc 1)), kn 3 (.mv (.t 38))]) (.skip)))))))
 (.reg [kn 39 (.bin .add (.t 9) (kc 1)), kn 9 (.mv (.t 39))])))

def c19 : AC :=
 .seq (.reg [kn 1 (.bx (.t 0)), kn 2 (.mv (.c (.d (.v (.bool false)))))])
 (.seq (.reg [kn 3 (.mv (kc 0))])
 (.seq (.seq (.reg [kn 6 (.fa (.t 1) 3), kn 7 (.ld (.t 6) 1 false), kn 8 (.len false (.t 7)), kn 9 (.mv (kc 0))])
 (.block 0 (.loop c19l0)))
 (.seq (.reg [kn 40 (.ld (.t 1) 5 true), kn 41 (.call 35 [(.t 40)]), kn 2 (.mv (.t 41))])
 (.ret))))
def r19 : List RC := [.t 2]

theorem cc19 : Try.f19.body.bind (comp Try.prog (hhI 19)) = some c19 := by kernel_rfl
theorem rr19 : resC Try.prog Try.f19 = some r19 := by kernel_rfl
abbrev cntN (f : Fc) (i : Nat) : Nat := (f.types.take i).countP (ownX f.name)
theorem cntN_succ {f : Fc} {i : Nat} (h : i < f.types.length) : cntN f (i + 1) = cntN f i + (if ownX f.name (f.types.getD i default) = true then 1 else 0) := by
 rw [cntN, getD_take (d := default) h, List.countP_append, List.countP_singleton]
theorem cntN_le (f : Fc) (i : Nat) : cntN f i ≤ i := Nat.le_trans List.countP_le_length (by rw [List.length_take]; omega)
def NumTo (f : Fc) (n : Nat) : Prop := ∀ i, i < n → i < f.types.length → (f.types.getD i default).form = 9 → 0 ≤ (f.types.getD i default).desc ∧ ((f.types.getD i default).mod = f.name → (f.types.getD i default).desc = (cntN f i : Nat))
theorem NumTo.all {f : Fc} {n : Nat} (h : NumTo f n) (hn : f.types.length ≤ n) : NumP f := fun i hi => h i (by omega) hi
theorem NumTo.succ {f : Fc} {n : Nat} (h : NumTo f n) (k : (f.types.getD n default).form = 9 → 0 ≤ (f.types.getD n default).desc ∧ ((f.types.getD n default).mod = f.name → (f.types.getD n default).desc = (cntN f n : Nat))) : NumTo f (n + 1) := fun i hi hl => by
 rcases Nat.lt_or_ge i n with h' | h'
 ·exact h i h' hl
 ·rw [show i = n by omega]; exact k
theorem igood_of {f : Fc} (hf : FIn f) {R : Prop} (hfr : ∀ H, ACalls Try.prog 35 [f.av] H fun v H' => (∃ B, v = bv B ∧ (B = true ↔ R)) ∧ H' = H) (H : List ABlk) : ACalls Try.prog 19 [f.av] H fun v H' => (∃ B, v = bv B ∧ (B = true ↔ R ∧ NumP f)) ∧ H' = H := by
 refine ACalls.into Try.func19 cc19 rr19 fun hcl => ?_
 have htl := hf.ty.1
 have fin : ∀ {B : Bool} {l : List ABlk}, (B = true ↔ R ∧ NumP f) → Ret [RC.t 2] H.length (fun v H' => (∃ B, v = bv B ∧ (B = true ↔ R ∧ NumP f)) ∧ H' = H) (some (bv B)) (H ++ l) := fun {B l} h =>
  Ret.drop _ H (Nat.le_refl _) hcl (.rfl _) (by simp [refs]) ⟨⟨B, rfl, h⟩, rfl⟩
 have no : ∀ {l : List ABlk}, ¬ NumP f → Ret [RC.t 2] H.length (fun v H' => (∃ B, v = bv B ∧ (B = true ↔ R ∧ NumP f)) ∧ H' = H) (some (bv false)) (H ++ l) := fun h => fin ⟨fun h' => (by cases h'), fun h' => absurd h'.2 h⟩
 have hF : cl (H ++ [.cells f.cs]) := hcl.append (by simp [ABlk.refs, refs.refsL, refs, Fc.cs])
 simp (maxSteps := 2000000) (disch := omega) only [Try.ntmps19, c19, r19, Fc.cs, List.length_map, go_sem, seval, reduceCtorEq]
 obtain ⟨S, hS⟩ : ∃ S : Nat × Nat → List AV, ∀ g, S g = [.any, .ptr H.length 0, bv false, iv g.2, .any, .any, .any, tv f.types, iv f.types.length, iv g.1] ++ List.replicate 32 .any := ⟨_, fun _ => rfl⟩
 refine W.loopG (γ := Nat × Nat) (fun g => f.types.length - g.1) S (fun _ => H ++ [.cells f.cs]) (fun g => g.1 ≤ f.types.length ∧ g.2 = cntN f g.1 ∧ NumTo f g.1) (0, 0) (Wk.slots (by rw [hS]; exact WkL.tail 10 _ rfl (by simp only [List.take_succ_cons, List.take_zero]; repeat' first | exact WkL.nil | refine WkL.cons (Wk1.rfl _) ?_ | refine WkL.cons Wk1.esl ?_ | refine WkL.cons (Wk1.gsl _ _ _) ?_ | refine WkL.cons (Wk1.any _) ?_))) ⟨by simp only; omega, rfl, fun i hi _ h => absurd hi (by omega)⟩ (fun g hg2 => ?_)
 obtain ⟨i, n⟩ := g
 obtain ⟨q1, q2, q3⟩ := hg2
 simp only at q1 q2 q3
 have hn := cntN_le f i
 simp (maxSteps := 2000000) (disch := omega) only [c19l0, hS, Fc.cs, List.length_map, go_sem, seval, reduceCtorEq]
 refine Br.dec (fun hc => ?_) (fun hc => ?_) <;> simp (maxSteps := 2000000) (disch := omega) only [go_sem, seval, reduceCtorEq]
 ·have hia := iaA_ty (t := f.types) (a := i) (by omega) (by omega)
  have e : tyAt f.types (i : Int) = f.types.getD i default := rfl
  have hsu := cntN_succ (f := f) (i := i) (by omega)
  have hto := NumTo.succ q3
  rw [e] at hia
  have hbad : ∀ {l : List ABlk}, (f.types.getD i default).form = 9 → ¬ (0 ≤ (f.types.getD i default).desc ∧ ((f.types.getD i default).mod = f.name → (f.types.getD i default).desc = (n : Int))) → Ret [RC.t 2] H.length (fun v H' => (∃ B, v = bv B ∧ (B = true ↔ R ∧ NumP f)) ∧ H' = H) (some (bv false)) (H ++ l) := fun k1 k2 => no fun h => k2 (by rw [q2]; exact h i (by omega) k1)
  rw [← q2] at hto hsu
  generalize f.types.getD i default = x at *
  have nxt : ∀ {s' : List AV} {z : ABlk} {m : Nat}, cntN f (i + 1) = m → NumTo f (i + 1) → WkL s' (S (i + 1, m)) → Nxt H.length (fun g => f.types.length - g.1) S (fun _ => H ++ [.cells f.cs]) (fun g => g.1 ≤ f.types.length ∧ g.2 = cntN f g.1 ∧ NumTo f g.1) (f.types.length - i) s' (H ++ [.cells f.cs, z]) := fun {s' z m} h1 h2 hk => by
   rw [show ∀ (A : List ABlk) (p q : ABlk), A ++ [p, q] = (A ++ [p]) ++ [q] from fun A p q => by simp]
   exact Nxt.mk (i + 1, m) (by simp only; omega) (Wk.drop hk (by simp) hF (by rw [hS]; simp [refs.refsL, refs])) ⟨by simp only; omega, h1.symm, h2⟩
  by_cases b1 : x.form = 9
  rotate_left
  ·simp (maxSteps := 2000000) (disch := omega) only [hia, Ty.c, Ty.cs, go_sem, seval, reduceCtorEq]
   refine nxt (m := n) (by rw [hsu, if_neg (by simp [ownX, b1])]; rfl) (hto fun h => absurd h b1) ?_
   exact (by rw [hS]; exact WkL.tail 10 _ rfl (by simp only [List.take_succ_cons, List.take_zero]; repeat' first | exact WkL.nil | refine WkL.cons (Wk1.rfl _) ?_ | refine WkL.cons Wk1.esl ?_ | refine WkL.cons (Wk1.gsl _ _ _) ?_ | refine WkL.cons (Wk1.any _) ?_))
  by_cases b2 : x.desc < 0
  ·simp (maxSteps := 2000000) (disch := omega) only [hia, Ty.c, Ty.cs, go_sem, seval, reduceCtorEq]
   exact hbad b1 fun h => by have := h.1; omega
  cases b3 : decide (x.mod = f.name) with
  | false =>
   simp (maxSteps := 2000000) (disch := omega) only [hia, Ty.c, Ty.cs, b3, go_sem, seval, reduceCtorEq]
   refine nxt (m := n) (by rw [hsu, if_neg (by simp only [ownX, decide_eq_true_eq]; exact fun h => of_decide_eq_false b3 h.2)]; rfl) (hto fun _ => ⟨by omega, fun h => absurd h (of_decide_eq_false b3)⟩) ?_
   exact (by rw [hS]; exact WkL.tail 10 _ rfl (by simp only [List.take_succ_cons, List.take_zero]; repeat' first | exact WkL.nil | refine WkL.cons (Wk1.rfl _) ?_ | refine WkL.cons Wk1.esl ?_ | refine WkL.cons (Wk1.gsl _ _ _) ?_ | refine WkL.cons (Wk1.any _) ?_))
  | true =>
   by_cases b4 : x.desc = n
   ·simp (maxSteps := 2000000) (disch := omega) only [hia, Ty.c, Ty.cs, b3, go_sem, seval, reduceCtorEq]
    refine nxt (m := n + 1) (by rw [hsu, if_pos (by simp only [ownX, decide_eq_true_eq]; exact ⟨b1, of_decide_eq_true b3⟩)]) (hto fun _ => ⟨by omega, fun _ => b4⟩) ?_
    exact (by rw [hS]; exact WkL.tail 10 _ rfl (by simp only [List.take_succ_cons, List.take_zero]; repeat' first | exact WkL.nil | refine WkL.cons (Wk1.rfl _) ?_ | refine WkL.cons Wk1.esl ?_ | refine WkL.cons (Wk1.gsl _ _ _) ?_ | refine WkL.cons (Wk1.any _) ?_))
   ·simp (maxSteps := 2000000) (disch := omega) only [hia, Ty.c, Ty.cs, b3, go_sem, seval, reduceCtorEq]
    exact hbad b1 fun h => b4 (h.2 (of_decide_eq_true b3))
 ·refine Cont.rel (hfr _) ?_
  rintro v H' ⟨⟨B, rfl, hB⟩, rfl⟩
  simp (maxSteps := 2000000) (disch := omega) only [go_sem, seval, reduceCtorEq]
  exact fin (hB.trans ⟨fun h => ⟨h, q3.all (by omega)⟩, fun h => h.1⟩)
end Go.Proofs.Ythifjndenhjobaa
