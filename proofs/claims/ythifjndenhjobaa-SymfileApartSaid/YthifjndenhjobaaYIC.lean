/- The reference: names of types. -/
import Derived.Test.YthifjndenhjobaaYIA
namespace Go.Proofs.Ythifjndenhjobaa
set_option linter.unusedSimpArgs false
set_option linter.unusedVariables false
set_option maxRecDepth 20000
set_option maxHeartbeats 4000000
open Go.RowKit

def c84l0 : AC :=
 .seq (.seq (.reg [kn 29 (.mv (.t 5)), kn 30 (.mv (.t 3)), kn 31 (.bin .lss (.t 29) (.t 30))])
 (.cond (.t 31) (.skip) (.exit 2)))
 (.seq (.block 3 (.seq (.reg [kn 34 (.fa (.t 1) 3), kn 35 (.ld (.t 34) 1 false), kn 36 (.mv (.t 5)), kn 37 (.ia (.t 35) (.t 36) 10), kn 38 (.ld (.t 37) 10 true), kn 6 (.al [kz, (.d (.v (.string ⟨#[]⟩))), (.d (.v (.string ⟨#[]⟩))), kz, kz, kz, .esl, .esl, kz, kz]), ke (.st (.t 6) (.t 38) 10)])
 (.seq (.reg [kn 39 (.fa (.t 4) 2), kn 40 (.ld (.t 39) 1 false), kn 41 (.bin .neq (.t 40) (.c (.d (.v (.string ⟨#[]⟩))))), kn 42 (.mv (.t 41)), ky 43 42 (.fa (.t 4) 1), ky 44 42 (.ld (.t 43) 1 false), ky 45 42 (.fa (.t 6) 1), ky 46 42 (.ld (.t 45) 1 false), ky 47 42 (.bin .eql (.t 44) (.t 46)), kn 48 (.pick (.t 42) (.t 47) (.c (.d (.v (.bool false))))), kn 49 (.mv (.t 48)), ky 50 49 (.fa (.t 4) 2), ky 51 49 (.ld (.t 50) 1 false), ky 52 49 (.fa (.t 6) 2), ky 53 49 (.ld (.t 52) 1 false), ky 54 49 (.bin .eql (.t 51) (.t 53)), kn 55 (.pick (.t 49) (.t 54) (.c (.d (.v (.bool false))))), kn 56 (.mv (.t 55)), ky 57 56 (.fa (.t 4) 0), ky 58 56 (.ld (.t 57) 1 false), ky 59 56 (.bin .eql (.t 58) (kc 9)), ky 60 56 (.fa (.t 6) 0), ky 61 56 (.ld (.t 60) 1 false), ky 62 56 (.bin .eql (.t 61) (kc 9)), ky 63 56 (.eqs false (.t 59) (.t 62)), kn 64 (.pick (.t 56) (.t 63) (.c (.d (.v (.bool false)))))])
 (.cond (.t 64) (.seq (.reg [kn 2 (.mv (.c (.d (.v (.bool false)))))])
 (.ret)) (.skip)))))
 (.reg [kn 32 (.mv (.t 5)), kn 33 (.bin .add (.t 32) (kc 1)), kn 5 (.mv (.t 33))]))

def c84l1 : AC :=
 .seq (.seq (.reg [kn 7 (.mv (.t 3)), kn 8 (.fa (.t 1) 3), kn 9 (.ld (.t 8) 1 false), kn 10 (.len false (.t 9)), kn 11 (.bin .lss (.t 7) (.t 10))])
 (.cond (.t 11) (.skip) (.exit 0)))
 (.seq (.block 1 (.seq (.reg [kn 14 (.fa (.t 1) 3), kn 15 (.ld (.t 14) 1 false), kn 16 (.mv (.t 3)), kn 17 (.ia (.t 15) (.t 16) 10), kn 18 (.ld (.t 17) 10 true), kn 4 (.al [kz, (.d (.v (.string ⟨#[]⟩))), (.d (.v (.string ⟨#[]⟩))), kz, kz, kz, .esl, .esl, kz, kz]), ke (.st (.t 4) (.t 18) 10)])
 (.seq (.seq (.reg [kn 19 (.fa (.t 4) 1), kn 20 (.ld (.t 19) 1 false), kn 21 (.bin .neq (.t 20) (.c (.d (.v (.string ⟨#[]⟩))))), kn 22 (.mv (.t 21)), ky 23 22 (.ld (.t 1) 5 true), ky 24 22 (.fa (.t 4) 1), ky 25 22 (.ld (.t 24) 1 false), ky 26 22 (.call 111 [(.t 23), (.t 25)]), ky 27 22 (.un .not (.t 26)), kn 28 (.pick (.t 22) (.t 27) (.c (.d (.v (.bool false)))))])
 (.cond (.t 28) (.seq (.reg [kn 2 (.mv (.c (.d (.v (.bool false)))))])
 (.ret)) (.skip)))
 (.seq (.reg [kn 5 (.mv (kc 7))])
 (.block 2 (.loop c84l0))))))
 (.reg [kn 12 (.mv (.t 3)), kn 13 (.bin .add (.t 12) (kc 1)), kn 3 (.mv (.t 13))]))

def c84 : AC :=
 .seq (.reg [kn 1 (.bx (.t 0)), kn 2 (.mv (.c (.d (.v (.bool false)))))])
 (.seq (.seq (.reg [kn 3 (.mv (kc 7))])
 (.block 0 (.loop c84l1)))
 (.seq (.reg [kn 2 (.mv (.c (.d (.v (.bool true)))))])
 (.ret)))
def r84 : List RC := [.t 2]

def c111l0 : AC :=
 .seq (.seq (.reg [kn 6 (.mv (.t 5)), kn 7 (.fa (.t 2) 2), kn 8 (.ld (.t 7) 1 false), kn 9 (.len false (.t 8)), kn 10 (.bin .lss (.t 6) (.t 9))])
 (.cond (.t 10) (.skip) (.exit 0)))
 (.seq (.block 1 (.seq (.reg [kn 13 (.fa (.t 2) 2), kn 14 (.ld (.t 13) 1 false), kn 15 (.mv (.t 5)), kn 16 (.ia (.t 14) (.t 15) 2), kn 17 (.fa (.t 16) 0), kn 18 (.ld (.t 17) 1 false), kn 19 (.mv (.t 1)), kn 20 (.bin .eql (.t 18) (.t 19))])
 (.cond (.t 20) (.seq (.reg [kn 4 (.mv (.c (.d (.v (.bool true)))))])
 (.ret)) (.skip))))
 (.reg [kn 11 (.mv (.t 5)), kn 12 (.bin .add (.t 11) (kc 1)), kn 5 (.mv (.t 12))]))

def c111 : AC :=
 .seq (.reg [kn 2 (.bx (.t 0)), kn 4 (.mv (.c (.d (.v (.bool false)))))])
 (.seq (.seq (.reg [kn 5 (.mv (kc 0))])
 (.block 0 (.loop c111l0)))
 (.seq (.reg [kn 21 (.fa (.t 2) 0), kn 22 (.ld (.t 21) 1 false), kn 23 (.mv (.t 1)), kn 24 (.bin .eql (.t 22) (.t 23)), kn 4 (.mv (.t 24))])
 (.ret)))
def r111 : List RC := [.t 4]

theorem cc84 : Try.f84.body.bind (comp Try.prog (hhI 84)) = some c84 := by kernel_rfl
theorem rr84 : resC Try.prog Try.f84 = some r84 := by kernel_rfl
theorem cc111 : Try.f111.body.bind (comp Try.prog (hhI 111)) = some c111 := by kernel_rfl
theorem rr111 : resC Try.prog Try.f111 = some r111 := by kernel_rfl
theorem used_c {f : Fc} (hf : FIn f) (m : ByteArray) (H : List ABlk) : ACalls Try.prog 111 [f.av, sv m] H fun v H' => (∃ B, v = bv B ∧ (B = true ↔ f.name = m ∨ ∃ u ∈ f.uses, u.name = m)) ∧ H' = H := by
 refine ACalls.into Try.func111 cc111 rr111 fun hcl => ?_
 have hus := hf.us
 have fin : ∀ {B : Bool} {l : List ABlk}, (B = true ↔ f.name = m ∨ ∃ u ∈ f.uses, u.name = m) → Ret [RC.t 4] H.length (fun v H' => (∃ B, v = bv B ∧ (B = true ↔ f.name = m ∨ ∃ u ∈ f.uses, u.name = m)) ∧ H' = H) (some (bv B)) (H ++ l) := fun {B l} h =>
  Ret.drop _ H (Nat.le_refl _) hcl (.rfl _) (by simp [refs]) ⟨⟨B, rfl, h⟩, rfl⟩
 simp (maxSteps := 2000000) (disch := omega) only [Try.ntmps111, c111, r111, Fc.cs, go_sem, seval, reduceCtorEq]
 obtain ⟨S, hS⟩ : ∃ S : Nat → List AV, ∀ i, S i = [.any, sv m, .ptr H.length 0, .any, bv false, iv i] ++ List.replicate 19 .any := ⟨_, fun _ => rfl⟩
 refine W.loopG (γ := Nat) (fun i => f.uses.length - i) S (fun _ => H ++ [.cells f.cs]) (fun i => i ≤ f.uses.length ∧ ∀ j, j < i → (f.uses.getD j default).name ≠ m) 0 (Wk.slots (by rw [hS]; exact WkL.tail 6 _ rfl (by simp only [List.take_succ_cons, List.take_zero]; repeat' first | exact WkL.nil | refine WkL.cons (Wk1.rfl _) ?_ | refine WkL.cons Wk1.esl ?_ | refine WkL.cons (Wk1.gsl _ _ _) ?_ | refine WkL.cons (Wk1.any _) ?_))) ⟨by omega, fun j hj => by omega⟩ (fun i hi => ?_)
 obtain ⟨q1, q2⟩ := hi
 simp (maxSteps := 2000000) (disch := omega) only [c111l0, hS, Fc.cs, List.length_map, go_sem, seval, reduceCtorEq]
 refine Br.dec (fun hc => ?_) (fun hc => ?_) <;> simp (maxSteps := 2000000) (disch := omega) only [go_sem, seval, reduceCtorEq]
 ·have hia := iaA_us (t := f.uses) (a := i) (by omega) (by omega)
  have e : usAt f.uses (i : Int) = f.uses.getD i default := rfl
  have hmem := usAt_mem (l := f.uses) (i := i) (by omega)
  rw [e] at hia
  generalize hx : f.uses.getD i default = x at *
  cases hd : decide (x.name = m) with
  | true =>
   simp (maxSteps := 2000000) (disch := omega) only [hia, Us.c, hd, go_sem, seval, reduceCtorEq]
   exact fin ⟨fun _ => .inr ⟨x, hmem, of_decide_eq_true hd⟩, fun _ => rfl⟩
  | false =>
   simp (maxSteps := 2000000) (disch := omega) only [hia, Us.c, hd, go_sem, seval, reduceCtorEq]
   refine Nxt.mk (i + 1) (by omega) (Wk.slots (by rw [hS]; exact WkL.tail 6 _ rfl (by simp only [List.take_succ_cons, List.take_zero]; repeat' first | exact WkL.nil | refine WkL.cons (Wk1.rfl _) ?_ | refine WkL.cons Wk1.esl ?_ | refine WkL.cons (Wk1.gsl _ _ _) ?_ | refine WkL.cons (Wk1.any _) ?_))) ⟨by omega, fun j hj => ?_⟩
   rcases Nat.lt_or_ge j i with h' | h'
   ·exact q2 j h'
   ·rw [show j = i by omega, hx]; exact of_decide_eq_false hd
 ·have hno : ¬ ∃ u ∈ f.uses, u.name = m := fun ⟨u, hu, he⟩ => by
   obtain ⟨j, hj, rfl⟩ := List.getElem_of_mem hu
   have := q2 j (by omega)
   rw [List.getD_eq_getElem?_getD, List.getElem?_eq_getElem hj] at this
   exact this he
  refine fin (B := decide (f.name = m)) ?_
  rw [decide_eq_true_eq]
  exact ⟨.inl, fun h => h.resolve_right hno⟩
def NamP (f : Fc) : Prop := (∀ i : Nat, 7 ≤ i → i < f.types.length → ModP f (f.types.getD i default).mod) ∧ ∀ i k : Nat, 7 ≤ k → k < i → i < f.types.length → ¬ SameN (f.types.getD i default) (f.types.getD k default)
theorem named16_c {f : Fc} (hf : FIn f) (H : List ABlk) : ACalls Try.prog 84 [f.av] H fun v H' => (∃ B, v = bv B ∧ (B = true ↔ NamP f)) ∧ H' = H := by
 refine ACalls.into Try.func84 cc84 rr84 fun hcl => ?_
 have htl := hf.ty.1
 have fin : ∀ {B : Bool} {l : List ABlk}, (B = true ↔ NamP f) → Ret [RC.t 2] H.length (fun v H' => (∃ B, v = bv B ∧ (B = true ↔ NamP f)) ∧ H' = H) (some (bv B)) (H ++ l) := fun {B l} h =>
  Ret.drop _ H (Nat.le_refl _) hcl (.rfl _) (by simp [refs]) ⟨⟨B, rfl, h⟩, rfl⟩
 have no : ∀ {l : List ABlk}, ¬ NamP f → Ret [RC.t 2] H.length (fun v H' => (∃ B, v = bv B ∧ (B = true ↔ NamP f)) ∧ H' = H) (some (bv false)) (H ++ l) := fun h => fin ⟨fun h' => (by cases h'), fun h' => absurd h' h⟩
 have hF : cl (H ++ [.cells f.cs]) := hcl.append (by simp [ABlk.refs, refs.refsL, refs, Fc.cs])
 simp (maxSteps := 2000000) (disch := omega) only [Try.ntmps84, c84, r84, Fc.cs, go_sem, seval, reduceCtorEq]
 obtain ⟨S, hS⟩ : ∃ S : Nat → List AV, ∀ i, S i = [.any, .ptr H.length 0, bv false, iv i] ++ List.replicate 61 .any := ⟨_, fun _ => rfl⟩
 refine W.loopG (γ := Nat) (fun i => f.types.length - i) S (fun _ => H ++ [.cells f.cs]) (fun i => 7 ≤ i ∧ (∀ j : Nat, 7 ≤ j → j < i → j < f.types.length → ModP f (f.types.getD j default).mod) ∧ ∀ j k : Nat, 7 ≤ k → k < j → j < i → j < f.types.length → ¬ SameN (f.types.getD j default) (f.types.getD k default)) 7 (Wk.slots (by rw [hS]; exact WkL.tail 4 _ rfl (by simp only [List.take_succ_cons, List.take_zero]; repeat' first | exact WkL.nil | refine WkL.cons (Wk1.rfl _) ?_ | refine WkL.cons Wk1.esl ?_ | refine WkL.cons (Wk1.gsl _ _ _) ?_ | refine WkL.cons (Wk1.any _) ?_))) ⟨by omega, fun j h7 hj => by omega, fun j k h7 hk hj => by omega⟩ (fun i hi => ?_)
 obtain ⟨q1, q2, q3⟩ := hi
 simp (maxSteps := 2000000) (disch := omega) only [c84l1, hS, Fc.cs, List.length_map, go_sem, seval, reduceCtorEq]
 refine Br.dec (fun hc => ?_) (fun hc => ?_) <;> simp (maxSteps := 2000000) (disch := omega) only [go_sem, seval, reduceCtorEq]
 ·have hia := iaA_ty (t := f.types) (a := i) (by omega) (by omega)
  have e : tyAt f.types (i : Int) = f.types.getD i default := rfl
  rw [e] at hia
  generalize hx : f.types.getD i default = x at *
  cases hm : decide (x.mod = se)
  case' false =>
   simp (maxSteps := 2000000) (disch := omega) only [hia, Ty.c, hm, go_sem, seval, reduceCtorEq]
   refine Cont.rel (used_c hf x.mod _) ?_
   rintro v H' ⟨⟨B, rfl, hB⟩, rfl⟩
   cases hBv : B
   case' false =>
    simp (maxSteps := 2000000) (disch := omega) only [go_sem, seval, reduceCtorEq]
    exact no fun h => by
     have := h.1 i (by omega) (by omega)
     rw [hx] at this
     rcases this with h1 | h1 | h1
     ·exact of_decide_eq_false hm h1
     ·have := hB.2 (.inl h1.symm); rw [hBv] at this; cases this
     ·have := hB.2 (.inr h1); rw [hBv] at this; cases this
   have hM : ModP f x.mod := .inr ((hB.1 hBv).imp (fun h => h.symm) id)
   simp (maxSteps := 2000000) (disch := omega) only [go_sem, seval, reduceCtorEq]
  case' true =>
   have hM : ModP f x.mod := .inl (of_decide_eq_true hm)
   simp (maxSteps := 2000000) (disch := omega) only [hia, Ty.c, hm, go_sem, seval, reduceCtorEq]
  all_goals (
   obtain ⟨S2, hS2⟩ : ∃ S : Nat → List AV, ∀ k, S k = [.any, .ptr H.length 0, bv false, iv i, .ptr (H.length + 1) 0, iv k] ++ List.replicate 59 .any := ⟨_, fun _ => rfl⟩
   refine W.loopG (γ := Nat) (fun k => i - k) S2 (fun _ => H ++ [.cells f.cs, .cells x.cs]) (fun k => 7 ≤ k ∧ ∀ j : Nat, 7 ≤ j → j < k → j < i → ¬ SameN x (f.types.getD j default)) 7 (Wk.slots (by rw [hS2]; exact WkL.tail 6 _ rfl (by simp only [List.take_succ_cons, List.take_zero]; repeat' first | exact WkL.nil | refine WkL.cons (Wk1.rfl _) ?_ | refine WkL.cons Wk1.esl ?_ | refine WkL.cons (Wk1.gsl _ _ _) ?_ | refine WkL.cons (Wk1.any _) ?_))) ⟨by omega, fun j h7 hj => by omega⟩ (fun k hk => ?_)
   obtain ⟨y1, y2⟩ := hk
   have hF2 : cl (H ++ [.cells f.cs, .cells x.cs]) := hcl.append (by simp [ABlk.refs, refs.refsL, refs, Fc.cs, Ty.cs])
   simp (maxSteps := 2000000) (disch := omega) only [c84l0, hS2, Fc.cs, List.length_map, go_sem, seval, reduceCtorEq]
   refine Br.dec (fun hc2 => ?_) (fun hc2 => ?_) <;> simp (maxSteps := 2000000) (disch := omega) only [go_sem, seval, reduceCtorEq]
   ·have hib := iaA_ty (t := f.types) (a := k) (by omega) (by omega)
    have e2 : tyAt f.types (k : Int) = f.types.getD k default := rfl
    rw [e2] at hib
    generalize hy : f.types.getD k default = y at *
    have nxt : ∀ {s' : List AV} {z : ABlk}, ¬ SameN x y → WkL s' (S2 (k + 1)) → Nxt H.length (fun k => i - k) S2 (fun _ => H ++ [.cells f.cs, .cells x.cs]) (fun k => 7 ≤ k ∧ ∀ j : Nat, 7 ≤ j → j < k → j < i → ¬ SameN x (f.types.getD j default)) (i - k) s' (H ++ [.cells f.cs, .cells x.cs, z]) := fun {s' z} h hk => by
     rw [show ∀ (A : List ABlk) (p q r : ABlk), A ++ [p, q, r] = (A ++ [p, q]) ++ [r] from fun A p q r => by simp]
     refine Nxt.mk (k + 1) (by omega) (Wk.drop hk (by simp) hF2 (by rw [hS2]; simp [refs.refsL, refs])) ⟨by omega, fun j h7 hj hj2 => ?_⟩
     rcases Nat.lt_or_ge j k with h' | h'
     ·exact y2 j h7 h' hj2
     ·rw [show j = k by omega, hy]; exact h
    have out : ∀ {l : List ABlk}, SameN x y → Ret [RC.t 2] H.length (fun v H' => (∃ B, v = bv B ∧ (B = true ↔ NamP f)) ∧ H' = H) (some (bv false)) (H ++ l) := fun h => no fun hN => hN.2 i k y1 (by omega) (by omega) (by rw [hx, hy]; exact h)
    cases b1 : decide (x.name = se) with
    | true =>
     simp (maxSteps := 2000000) (disch := omega) only [hib, Ty.c, Ty.cs, b1, go_sem, seval, reduceCtorEq]
     refine nxt (fun h => h.1 (of_decide_eq_true b1)) ?_
     exact (by rw [hS2]; exact WkL.tail 6 _ rfl (by simp only [List.take_succ_cons, List.take_zero]; repeat' first | exact WkL.nil | refine WkL.cons (Wk1.rfl _) ?_ | refine WkL.cons Wk1.esl ?_ | refine WkL.cons (Wk1.gsl _ _ _) ?_ | refine WkL.cons (Wk1.any _) ?_))
    | false =>
     cases b2 : decide (x.mod = y.mod) with
     | false =>
      simp (maxSteps := 2000000) (disch := omega) only [hib, Ty.c, Ty.cs, b1, b2, go_sem, seval, reduceCtorEq]
      refine nxt (fun h => of_decide_eq_false b2 h.2.1) ?_
      exact (by rw [hS2]; exact WkL.tail 6 _ rfl (by simp only [List.take_succ_cons, List.take_zero]; repeat' first | exact WkL.nil | refine WkL.cons (Wk1.rfl _) ?_ | refine WkL.cons Wk1.esl ?_ | refine WkL.cons (Wk1.gsl _ _ _) ?_ | refine WkL.cons (Wk1.any _) ?_))
     | true =>
      cases b3 : decide (x.name = y.name) with
      | false =>
       simp (maxSteps := 2000000) (disch := omega) only [hib, Ty.c, Ty.cs, b1, b2, b3, go_sem, seval, reduceCtorEq]
       refine nxt (fun h => of_decide_eq_false b3 h.2.2.1) ?_
       exact (by rw [hS2]; exact WkL.tail 6 _ rfl (by simp only [List.take_succ_cons, List.take_zero]; repeat' first | exact WkL.nil | refine WkL.cons (Wk1.rfl _) ?_ | refine WkL.cons Wk1.esl ?_ | refine WkL.cons (Wk1.gsl _ _ _) ?_ | refine WkL.cons (Wk1.any _) ?_))
      | true =>
       by_cases b4 : x.form = 9
       ·by_cases b5 : y.form = 9
        ·simp (maxSteps := 2000000) (disch := omega) only [hib, Ty.c, Ty.cs, b1, b2, b3, go_sem, seval, reduceCtorEq]
         exact out ⟨of_decide_eq_false b1, of_decide_eq_true b2, of_decide_eq_true b3, fun _ => b5, fun _ => b4⟩
        ·simp (maxSteps := 2000000) (disch := omega) only [hib, Ty.c, Ty.cs, b1, b2, b3, go_sem, seval, reduceCtorEq]
         refine nxt (fun h => b5 (h.2.2.2.1 b4)) ?_
         exact (by rw [hS2]; exact WkL.tail 6 _ rfl (by simp only [List.take_succ_cons, List.take_zero]; repeat' first | exact WkL.nil | refine WkL.cons (Wk1.rfl _) ?_ | refine WkL.cons Wk1.esl ?_ | refine WkL.cons (Wk1.gsl _ _ _) ?_ | refine WkL.cons (Wk1.any _) ?_))
       ·by_cases b5 : y.form = 9
        ·simp (maxSteps := 2000000) (disch := omega) only [hib, Ty.c, Ty.cs, b1, b2, b3, go_sem, seval, reduceCtorEq]
         refine nxt (fun h => b4 (h.2.2.2.2 b5)) ?_
         exact (by rw [hS2]; exact WkL.tail 6 _ rfl (by simp only [List.take_succ_cons, List.take_zero]; repeat' first | exact WkL.nil | refine WkL.cons (Wk1.rfl _) ?_ | refine WkL.cons Wk1.esl ?_ | refine WkL.cons (Wk1.gsl _ _ _) ?_ | refine WkL.cons (Wk1.any _) ?_))
        ·simp (maxSteps := 2000000) (disch := omega) only [hib, Ty.c, Ty.cs, b1, b2, b3, go_sem, seval, reduceCtorEq]
         exact out ⟨of_decide_eq_false b1, of_decide_eq_true b2, of_decide_eq_true b3, fun h => absurd h b4, fun h => absurd h b5⟩
   ·rw [show ∀ (A : List ABlk) (p q : ABlk), A ++ [p, q] = (A ++ [p]) ++ [q] from fun A p q => by simp]
    refine Nxt.mk (i + 1) (by omega) (Wk.drop (by rw [hS]; exact WkL.tail 4 _ rfl (by simp only [List.take_succ_cons, List.take_zero]; repeat' first | exact WkL.nil | refine WkL.cons (Wk1.rfl _) ?_ | refine WkL.cons Wk1.esl ?_ | refine WkL.cons (Wk1.gsl _ _ _) ?_ | refine WkL.cons (Wk1.any _) ?_)) (by simp) hF (by rw [hS]; simp [refs.refsL, refs])) ⟨by omega, fun j h7 hj hl => ?_, fun j k2 h7 hk2 hj hl => ?_⟩
    ·rcases Nat.lt_or_ge j i with h' | h'
     ·exact q2 j h7 h' hl
     ·rw [show j = i by omega, hx]; exact hM
    ·rcases Nat.lt_or_ge j i with h' | h'
     ·exact q3 j k2 h7 hk2 h' hl
     ·rw [show j = i by omega, hx]; exact y2 k2 h7 (by omega) (by omega))
 ·exact fin ⟨fun _ => ⟨fun j h7 hj => q2 j h7 (by omega) hj, fun j k h7 hk hj => q3 j k h7 hk (by omega) hj⟩, fun _ => rfl⟩
end Go.Proofs.Ythifjndenhjobaa

/- Records' numbers. -/
namespace Go.Proofs.Ythifjndenhjobaa
set_option linter.unusedSimpArgs false
set_option linter.unusedVariables false
set_option maxRecDepth 20000
set_option maxHeartbeats 4000000
open Go.RowKit

def c19l0 : AC :=
 .seq (.reg [kn 10 (.bin .lss (.t 9) (.t 8))])
 (.seq (.cond (.t 10) (.skip) (.exit 0))
 (.seq (.block 1 (.seq (.reg [kn 11 (.ia (.t 7) (.t 9) 10), kn 12 (.ld (.t 11) 10 true), kn 5 (.al [kz, (.d (.v (.string ⟨#[]⟩))), (.d (.v (.string ⟨#[]⟩))), kz, kz, kz, .esl, .esl, kz, kz]), ke (.st (.t 5) (.t 12) 10)])
 (.seq (.seq (.reg [kn 13 (.fa (.t 5) 0), kn 14 (.ld (.t 13) 1 false), kn 15 (.bin .neq (.t 14) (kc 9))])
 (.cond (.t 15) (.exit 1) (.skip)))
 (.seq (.seq (.reg [kn 16 (.fa (.t 5) 9), kn 17 (.ld (.t 16) 1 false), kn 18 (.bin .lss (.t 17) (kc 0)), kn 19 (.mv (.t 18)), ko 20 19 (.fa (.t 5) 1), ko 21 19 (.ld (.t 20) 1 false), ko 22 19 (.fa (.t 1) 0), ko 23 19 (.ld (.t 22) 1 false), ko 24 19 (.bin .eql (.t 21) (.t 23)), ko 25 19 (.mv (.t 24)), ky 26 25 (.fa (.t 5) 9), ky 27 25 (.ld (.t 26) 1 false), ky 28 25 (.mv (.t 3)), ky 29 25 (.bin .neq (.t 27) (.t 28)), ko 30 19 (.pick (.t 25) (.t 29) (.c (.d (.v (.bool false))))), kn 31 (.pick (.t 19) (.c (.d (.v (.bool true)))) (.t 30))])
 (.cond (.t 31) (.seq (.reg [kn 2 (.mv (.c (.d (.v (.bool false)))))])
 (.ret)) (.skip)))
 (.seq (.reg [kn 32 (.fa (.t 5) 1), kn 33 (.ld (.t 32) 1 false), kn 34 (.fa (.t 1) 0), kn 35 (.ld (.t 34) 1 false), kn 36 (.bin .eql (.t 33) (.t 35))])
 (.cond (.t 36) (.reg [kn 37 (.mv (.t 3)), kn 38 (.bin .add (.t 37) (kc 1)), kn 3 (.mv (.t 38))]) (.skip)))))))
 (.reg [kn 39 (.bin .add (.t 9) (kc 1)), kn 9 (.mv (.t 39))])))

def c19 : AC :=
 .seq (.reg [kn 1 (.bx (.t 0)), kn 2 (.mv (.c (.d (.v (.bool false)))))])
 (.seq (.reg [kn 3 (.mv (kc 0))])
 (.seq (.seq (.reg [kn 6 (.fa (.t 1) 3), kn 7 (.ld (.t 6) 1 false), kn 8 (.len false (.t 7)), kn 9 (.mv (kc 0))])
 (.block 0 (.loop c19l0)))
 (.seq (.reg [kn 40 (.ld (.t 1) 5 true), kn 41 (.call 35 [(.t 40)]), kn 2 (.mv (.t 41))])
 (.ret))))
def r19 : List RC := [.t 2]

def c37l0 : AC :=
 .seq (.seq (.reg [kn 6 (.mv (.t 4)), kn 7 (.fa (.t 1) 3), kn 8 (.ld (.t 7) 1 false), kn 9 (.len false (.t 8)), kn 10 (.bin .lss (.t 6) (.t 9))])
 (.cond (.t 10) (.skip) (.exit 0)))
 (.seq (.block 1 (.seq (.reg [kn 13 (.fa (.t 1) 3), kn 14 (.ld (.t 13) 1 false), kn 15 (.mv (.t 4)), kn 16 (.ia (.t 14) (.t 15) 10), kn 17 (.ld (.t 16) 10 true), kn 5 (.al [kz, (.d (.v (.string ⟨#[]⟩))), (.d (.v (.string ⟨#[]⟩))), kz, kz, kz, .esl, .esl, kz, kz]), ke (.st (.t 5) (.t 17) 10)])
 (.seq (.seq (.reg [kn 18 (.fa (.t 5) 0), kn 19 (.ld (.t 18) 1 false), kn 20 (.bin .neq (.t 19) (kc 9))])
 (.cond (.t 20) (.exit 1) (.skip)))
 (.seq (.seq (.reg [kn 21 (.fa (.t 5) 9), kn 22 (.ld (.t 21) 1 false), kn 23 (.bin .lss (.t 22) (kc 0)), kn 24 (.mv (.t 23)), ko 25 24 (.fa (.t 5) 1), ko 26 24 (.ld (.t 25) 1 false), ko 27 24 (.fa (.t 1) 0), ko 28 24 (.ld (.t 27) 1 false), ko 29 24 (.bin .eql (.t 26) (.t 28)), ko 30 24 (.mv (.t 29)), ky 31 30 (.fa (.t 5) 9), ky 32 30 (.ld (.t 31) 1 false), ky 33 30 (.mv (.t 3)), ky 34 30 (.bin .neq (.t 32) (.t 33)), ko 35 24 (.pick (.t 30) (.t 34) (.c (.d (.v (.bool false))))), kn 36 (.pick (.t 24) (.c (.d (.v (.bool true)))) (.t 35))])
 (.cond (.t 36) (.seq (.reg [kn 2 (.mv (.c (.d (.v (.bool false)))))])
 (.ret)) (.skip)))
 (.seq (.reg [kn 37 (.fa (.t 5) 1), kn 38 (.ld (.t 37) 1 false), kn 39 (.fa (.t 1) 0), kn 40 (.ld (.t 39) 1 false), kn 41 (.bin .eql (.t 38) (.t 40))])
 (.cond (.t 41) (.reg [kn 42 (.mv (.t 3)), kn 43 (.bin .add (.t 42) (kc 1)), kn 3 (.mv (.t 43))]) (.skip)))))))
 (.reg [kn 11 (.mv (.t 4)), kn 12 (.bin .add (.t 11) (kc 1)), kn 4 (.mv (.t 12))]))

def c37 : AC :=
 .seq (.reg [kn 1 (.bx (.t 0)), kn 2 (.mv (.c (.d (.v (.bool false)))))])
 (.seq (.reg [kn 3 (.mv (kc 0))])
 (.seq (.seq (.reg [kn 4 (.mv (kc 7))])
 (.block 0 (.loop c37l0)))
 (.seq (.reg [kn 2 (.mv (.c (.d (.v (.bool true)))))])
 (.ret))))
def r37 : List RC := [.t 2]

theorem cc19 : Try.f19.body.bind (comp Try.prog (hhI 19)) = some c19 := by kernel_rfl
theorem rr19 : resC Try.prog Try.f19 = some r19 := by kernel_rfl
theorem cc37 : Try.f37.body.bind (comp Try.prog (hhI 37)) = some c37 := by kernel_rfl
theorem rr37 : resC Try.prog Try.f37 = some r37 := by kernel_rfl
abbrev cntN (f : Fc) (i : Nat) : Nat := (f.types.take i).countP (ownX f.name)
theorem cntN_succ {f : Fc} {i : Nat} (h : i < f.types.length) : cntN f (i + 1) = cntN f i + (if ownX f.name (f.types.getD i default) = true then 1 else 0) := by
 rw [cntN, getD_take (d := default) h, List.countP_append, List.countP_singleton]
theorem cntN_le (f : Fc) (i : Nat) : cntN f i ≤ i := Nat.le_trans List.countP_le_length (by rw [List.length_take]; omega)
def NumTo (f : Fc) (n : Nat) : Prop := ∀ i, i < n → i < f.types.length → (f.types.getD i default).form = 9 → 0 ≤ (f.types.getD i default).desc ∧ ((f.types.getD i default).mod = f.name → (f.types.getD i default).desc = (cntN f i : Nat))
theorem NumTo.all {f : Fc} {n : Nat} (h : NumTo f n) (hn : f.types.length ≤ n) : NumP f := fun i hi => h i (by omega) hi
theorem NumTo.succ {f : Fc} {n : Nat} (h : NumTo f n) (k : (f.types.getD n default).form = 9 → 0 ≤ (f.types.getD n default).desc ∧ ((f.types.getD n default).mod = f.name → (f.types.getD n default).desc = (cntN f n : Nat))) : NumTo f (n + 1) := fun i hi hl => by
 rcases Nat.lt_or_ge i n with h' | h'
 ·exact h i h' hl
 ·rw [show i = n by omega]; exact k
theorem numbered_c {f : Fc} (hf : FIn f) (hg : GoodP f.types) (H : List ABlk) : ACalls Try.prog 37 [f.av] H fun v H' => (∃ B, v = bv B ∧ (B = true ↔ NumP f)) ∧ H' = H := by
 refine ACalls.into Try.func37 cc37 rr37 fun hcl => ?_
 have htl := hg.len
 have fin : ∀ {B : Bool} {l : List ABlk}, (B = true ↔ NumP f) → Ret [RC.t 2] H.length (fun v H' => (∃ B, v = bv B ∧ (B = true ↔ NumP f)) ∧ H' = H) (some (bv B)) (H ++ l) := fun {B l} h =>
  Ret.drop _ H (Nat.le_refl _) hcl (.rfl _) (by simp [refs]) ⟨⟨B, rfl, h⟩, rfl⟩
 have no : ∀ {l : List ABlk}, ¬ NumP f → Ret [RC.t 2] H.length (fun v H' => (∃ B, v = bv B ∧ (B = true ↔ NumP f)) ∧ H' = H) (some (bv false)) (H ++ l) := fun h => fin ⟨fun h' => (by cases h'), fun h' => absurd h' h⟩
 have hF : cl (H ++ [.cells f.cs]) := hcl.append (by simp [ABlk.refs, refs.refsL, refs, Fc.cs])
 have h9 : ∀ i, i < 7 → (f.types.getD i default).form ≠ 9 := fun i hi => by rw [hg.bas i hi]; simp [bt]; omega
 have c7 : ∀ i, i ≤ 7 → cntN f i = 0 := fun i => by
  induction i with
  | zero => exact fun _ => rfl
  | succ i ih => exact fun hi => by rw [cntN_succ (by omega), ih (by omega), if_neg (by simp only [ownX, decide_eq_true_eq]; exact fun h => h9 i (by omega) h.1)]
 simp (maxSteps := 2000000) (disch := omega) only [Try.ntmps37, c37, r37, Fc.cs, go_sem, seval, reduceCtorEq]
 obtain ⟨S, hS⟩ : ∃ S : Nat × Nat → List AV, ∀ g, S g = [.any, .ptr H.length 0, bv false, iv g.2, iv g.1] ++ List.replicate 39 .any := ⟨_, fun _ => rfl⟩
 refine W.loopG (γ := Nat × Nat) (fun g => f.types.length - g.1) S (fun _ => H ++ [.cells f.cs]) (fun g => g.1 ≤ f.types.length ∧ g.2 = cntN f g.1 ∧ NumTo f g.1) (7, 0) (Wk.slots (by rw [hS]; exact WkL.tail 5 _ rfl (by simp only [List.take_succ_cons, List.take_zero]; repeat' first | exact WkL.nil | refine WkL.cons (Wk1.rfl _) ?_ | refine WkL.cons Wk1.esl ?_ | refine WkL.cons (Wk1.gsl _ _ _) ?_ | refine WkL.cons (Wk1.any _) ?_))) ⟨by simp only; omega, (c7 7 (by omega)).symm, fun i hi _ h => absurd h (h9 i hi)⟩ (fun g hg2 => ?_)
 obtain ⟨i, n⟩ := g
 obtain ⟨q1, q2, q3⟩ := hg2
 simp only at q1 q2 q3
 have hn := cntN_le f i
 simp (maxSteps := 2000000) (disch := omega) only [c37l0, hS, Fc.cs, List.length_map, go_sem, seval, reduceCtorEq]
 refine Br.dec (fun hc => ?_) (fun hc => ?_) <;> simp (maxSteps := 2000000) (disch := omega) only [go_sem, seval, reduceCtorEq]
 ·have hia := iaA_ty (t := f.types) (a := i) (by omega) (by omega)
  have e : tyAt f.types (i : Int) = f.types.getD i default := rfl
  have hsu := cntN_succ (f := f) (i := i) (by omega)
  have hto := NumTo.succ q3
  rw [e] at hia
  have hbad : ∀ {l : List ABlk}, (f.types.getD i default).form = 9 → ¬ (0 ≤ (f.types.getD i default).desc ∧ ((f.types.getD i default).mod = f.name → (f.types.getD i default).desc = (n : Int))) → Ret [RC.t 2] H.length (fun v H' => (∃ B, v = bv B ∧ (B = true ↔ NumP f)) ∧ H' = H) (some (bv false)) (H ++ l) := fun k1 k2 => no fun h => k2 (by rw [q2]; exact h i (by omega) k1)
  rw [← q2] at hto hsu
  generalize f.types.getD i default = x at *
  have nxt : ∀ {s' : List AV} {z : ABlk} {m : Nat}, cntN f (i + 1) = m → NumTo f (i + 1) → WkL s' (S (i + 1, m)) → Nxt H.length (fun g => f.types.length - g.1) S (fun _ => H ++ [.cells f.cs]) (fun g => g.1 ≤ f.types.length ∧ g.2 = cntN f g.1 ∧ NumTo f g.1) (f.types.length - i) s' (H ++ [.cells f.cs, z]) := fun {s' z m} h1 h2 hk => by
   rw [show ∀ (A : List ABlk) (p q : ABlk), A ++ [p, q] = (A ++ [p]) ++ [q] from fun A p q => by simp]
   exact Nxt.mk (i + 1, m) (by simp only; omega) (Wk.drop hk (by simp) hF (by rw [hS]; simp [refs.refsL, refs])) ⟨by simp only; omega, h1.symm, h2⟩
  by_cases b1 : x.form = 9
  rotate_left
  ·simp (maxSteps := 2000000) (disch := omega) only [hia, Ty.c, Ty.cs, go_sem, seval, reduceCtorEq]
   refine nxt (m := n) (by rw [hsu, if_neg (by simp [ownX, b1])]; rfl) (hto fun h => absurd h b1) ?_
   exact (by rw [hS]; exact WkL.tail 5 _ rfl (by simp only [List.take_succ_cons, List.take_zero]; repeat' first | exact WkL.nil | refine WkL.cons (Wk1.rfl _) ?_ | refine WkL.cons Wk1.esl ?_ | refine WkL.cons (Wk1.gsl _ _ _) ?_ | refine WkL.cons (Wk1.any _) ?_))
  by_cases b2 : x.desc < 0
  ·simp (maxSteps := 2000000) (disch := omega) only [hia, Ty.c, Ty.cs, go_sem, seval, reduceCtorEq]
   exact hbad b1 fun h => by have := h.1; omega
  cases b3 : decide (x.mod = f.name) with
  | false =>
   simp (maxSteps := 2000000) (disch := omega) only [hia, Ty.c, Ty.cs, b3, go_sem, seval, reduceCtorEq]
   refine nxt (m := n) (by rw [hsu, if_neg (by simp only [ownX, decide_eq_true_eq]; exact fun h => of_decide_eq_false b3 h.2)]; rfl) (hto fun _ => ⟨by omega, fun h => absurd h (of_decide_eq_false b3)⟩) ?_
   exact (by rw [hS]; exact WkL.tail 5 _ rfl (by simp only [List.take_succ_cons, List.take_zero]; repeat' first | exact WkL.nil | refine WkL.cons (Wk1.rfl _) ?_ | refine WkL.cons Wk1.esl ?_ | refine WkL.cons (Wk1.gsl _ _ _) ?_ | refine WkL.cons (Wk1.any _) ?_))
  | true =>
   by_cases b4 : x.desc = n
   ·simp (maxSteps := 2000000) (disch := omega) only [hia, Ty.c, Ty.cs, b3, go_sem, seval, reduceCtorEq]
    refine nxt (m := n + 1) (by rw [hsu, if_pos (by simp only [ownX, decide_eq_true_eq]; exact ⟨b1, of_decide_eq_true b3⟩)]) (hto fun _ => ⟨by omega, fun _ => b4⟩) ?_
    exact (by rw [hS]; exact WkL.tail 5 _ rfl (by simp only [List.take_succ_cons, List.take_zero]; repeat' first | exact WkL.nil | refine WkL.cons (Wk1.rfl _) ?_ | refine WkL.cons Wk1.esl ?_ | refine WkL.cons (Wk1.gsl _ _ _) ?_ | refine WkL.cons (Wk1.any _) ?_))
   ·simp (maxSteps := 2000000) (disch := omega) only [hia, Ty.c, Ty.cs, b3, go_sem, seval, reduceCtorEq]
    exact hbad b1 fun h => b4 (h.2 (of_decide_eq_true b3))
 ·exact fin ⟨fun _ => q3.all (by omega), fun _ => rfl⟩
theorem igood_of {f : Fc} (hf : FIn f) {R : Prop} (hfr : ∀ H, ACalls Try.prog 35 [f.av] H fun v H' => (∃ B, v = bv B ∧ (B = true ↔ R)) ∧ H' = H) (H : List ABlk) : ACalls Try.prog 19 [f.av] H fun v H' => (∃ B, v = bv B ∧ (B = true ↔ R ∧ NumP f)) ∧ H' = H := by
 refine ACalls.into Try.func19 cc19 rr19 fun hcl => ?_
 have htl := hf.ty.1
 have fin : ∀ {B : Bool} {l : List ABlk}, (B = true ↔ R ∧ NumP f) → Ret [RC.t 2] H.length (fun v H' => (∃ B, v = bv B ∧ (B = true ↔ R ∧ NumP f)) ∧ H' = H) (some (bv B)) (H ++ l) := fun {B l} h =>
  Ret.drop _ H (Nat.le_refl _) hcl (.rfl _) (by simp [refs]) ⟨⟨B, rfl, h⟩, rfl⟩
 have no : ∀ {l : List ABlk}, ¬ NumP f → Ret [RC.t 2] H.length (fun v H' => (∃ B, v = bv B ∧ (B = true ↔ R ∧ NumP f)) ∧ H' = H) (some (bv false)) (H ++ l) := fun h => fin ⟨fun h' => (by cases h'), fun h' => absurd h'.2 h⟩
 have hF : cl (H ++ [.cells f.cs]) := hcl.append (by simp [ABlk.refs, refs.refsL, refs, Fc.cs])
 simp (maxSteps := 2000000) (disch := omega) only [Try.ntmps19, c19, r19, Fc.cs, List.length_map, go_sem, seval, reduceCtorEq]
 obtain ⟨S, hS⟩ : ∃ S : Nat × Nat → List AV, ∀ g, S g = [.any, .ptr H.length 0, bv false, iv g.2, .any, .any, .any, tv f.types, iv f.types.length, iv g.1] ++ List.replicate 32 .any := ⟨_, fun _ => rfl⟩
 refine W.loopG (γ := Nat × Nat) (fun g => f.types.length - g.1) S (fun _ => H ++ [.cells f.cs]) (fun g => g.1 ≤ f.types.length ∧ g.2 = cntN f g.1 ∧ NumTo f g.1) (0, 0) (Wk.slots (by rw [hS]; exact WkL.tail 10 _ rfl (by simp only [List.take_succ_cons, List.take_zero]; repeat' first | exact WkL.nil | refine WkL.cons (Wk1.rfl _) ?_ | refine WkL.cons Wk1.esl ?_ | refine WkL.cons (Wk1.gsl _ _ _) ?_ | refine WkL.cons (Wk1.any _) ?_))) ⟨by simp only; omega, rfl, fun i hi _ h => absurd hi (by omega)⟩ (fun g hg2 => ?_)
 obtain ⟨i, n⟩ := g
 obtain ⟨q1, q2, q3⟩ := hg2
 simp only at q1 q2 q3
 have hn := cntN_le f i
 simp (maxSteps := 2000000) (disch := omega) only [c19l0, hS, Fc.cs, List.length_map, go_sem, seval, reduceCtorEq]
 refine Br.dec (fun hc => ?_) (fun hc => ?_) <;> simp (maxSteps := 2000000) (disch := omega) only [go_sem, seval, reduceCtorEq]
 ·have hia := iaA_ty (t := f.types) (a := i) (by omega) (by omega)
  have e : tyAt f.types (i : Int) = f.types.getD i default := rfl
  have hsu := cntN_succ (f := f) (i := i) (by omega)
  have hto := NumTo.succ q3
  rw [e] at hia
  have hbad : ∀ {l : List ABlk}, (f.types.getD i default).form = 9 → ¬ (0 ≤ (f.types.getD i default).desc ∧ ((f.types.getD i default).mod = f.name → (f.types.getD i default).desc = (n : Int))) → Ret [RC.t 2] H.length (fun v H' => (∃ B, v = bv B ∧ (B = true ↔ R ∧ NumP f)) ∧ H' = H) (some (bv false)) (H ++ l) := fun k1 k2 => no fun h => k2 (by rw [q2]; exact h i (by omega) k1)
  rw [← q2] at hto hsu
  generalize f.types.getD i default = x at *
  have nxt : ∀ {s' : List AV} {z : ABlk} {m : Nat}, cntN f (i + 1) = m → NumTo f (i + 1) → WkL s' (S (i + 1, m)) → Nxt H.length (fun g => f.types.length - g.1) S (fun _ => H ++ [.cells f.cs]) (fun g => g.1 ≤ f.types.length ∧ g.2 = cntN f g.1 ∧ NumTo f g.1) (f.types.length - i) s' (H ++ [.cells f.cs, z]) := fun {s' z m} h1 h2 hk => by
   rw [show ∀ (A : List ABlk) (p q : ABlk), A ++ [p, q] = (A ++ [p]) ++ [q] from fun A p q => by simp]
   exact Nxt.mk (i + 1, m) (by simp only; omega) (Wk.drop hk (by simp) hF (by rw [hS]; simp [refs.refsL, refs])) ⟨by simp only; omega, h1.symm, h2⟩
  by_cases b1 : x.form = 9
  rotate_left
  ·simp (maxSteps := 2000000) (disch := omega) only [hia, Ty.c, Ty.cs, go_sem, seval, reduceCtorEq]
   refine nxt (m := n) (by rw [hsu, if_neg (by simp [ownX, b1])]; rfl) (hto fun h => absurd h b1) ?_
   exact (by rw [hS]; exact WkL.tail 10 _ rfl (by simp only [List.take_succ_cons, List.take_zero]; repeat' first | exact WkL.nil | refine WkL.cons (Wk1.rfl _) ?_ | refine WkL.cons Wk1.esl ?_ | refine WkL.cons (Wk1.gsl _ _ _) ?_ | refine WkL.cons (Wk1.any _) ?_))
  by_cases b2 : x.desc < 0
  ·simp (maxSteps := 2000000) (disch := omega) only [hia, Ty.c, Ty.cs, go_sem, seval, reduceCtorEq]
   exact hbad b1 fun h => by have := h.1; omega
  cases b3 : decide (x.mod = f.name) with
  | false =>
   simp (maxSteps := 2000000) (disch := omega) only [hia, Ty.c, Ty.cs, b3, go_sem, seval, reduceCtorEq]
   refine nxt (m := n) (by rw [hsu, if_neg (by simp only [ownX, decide_eq_true_eq]; exact fun h => of_decide_eq_false b3 h.2)]; rfl) (hto fun _ => ⟨by omega, fun h => absurd h (of_decide_eq_false b3)⟩) ?_
   exact (by rw [hS]; exact WkL.tail 10 _ rfl (by simp only [List.take_succ_cons, List.take_zero]; repeat' first | exact WkL.nil | refine WkL.cons (Wk1.rfl _) ?_ | refine WkL.cons Wk1.esl ?_ | refine WkL.cons (Wk1.gsl _ _ _) ?_ | refine WkL.cons (Wk1.any _) ?_))
  | true =>
   by_cases b4 : x.desc = n
   ·simp (maxSteps := 2000000) (disch := omega) only [hia, Ty.c, Ty.cs, b3, go_sem, seval, reduceCtorEq]
    refine nxt (m := n + 1) (by rw [hsu, if_pos (by simp only [ownX, decide_eq_true_eq]; exact ⟨b1, of_decide_eq_true b3⟩)]) (hto fun _ => ⟨by omega, fun _ => b4⟩) ?_
    exact (by rw [hS]; exact WkL.tail 10 _ rfl (by simp only [List.take_succ_cons, List.take_zero]; repeat' first | exact WkL.nil | refine WkL.cons (Wk1.rfl _) ?_ | refine WkL.cons Wk1.esl ?_ | refine WkL.cons (Wk1.gsl _ _ _) ?_ | refine WkL.cons (Wk1.any _) ?_))
   ·simp (maxSteps := 2000000) (disch := omega) only [hia, Ty.c, Ty.cs, b3, go_sem, seval, reduceCtorEq]
    exact hbad b1 fun h => b4 (h.2 (of_decide_eq_true b3))
 ·refine Cont.rel (hfr _) ?_
  rintro v H' ⟨⟨B, rfl, hB⟩, rfl⟩
  simp (maxSteps := 2000000) (disch := omega) only [go_sem, seval, reduceCtorEq]
  exact fin (hB.trans ⟨fun h => ⟨h, q3.all (by omega)⟩, fun h => h.1⟩)
end Go.Proofs.Ythifjndenhjobaa
