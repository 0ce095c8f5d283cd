/- IfaceSames. -/
import Derived.Test.YthifjndenhjobaaZII
import Derived.Test.YthifjndenhjobaaZIG
namespace Go.Proofs.Ythifjndenhjobaa
set_option linter.unusedSimpArgs false
set_option linter.unusedVariables false
set_option maxRecDepth 20000
set_option maxHeartbeats 4000000
open Go.RowKit

def c7 : AC :=
 .seq (.reg [kn 2 (.bx (.t 0)), kn 3 (.bx (.t 1)), kn 4 (.mv (.c (.d (.v (.bool false)))))])
 (.seq (.seq (.reg [kn 5 (.ld (.t 2) 5 true), kn 6 (.call 14 [(.t 5)]), kn 7 (.mv (.t 6)), ko 8 7 (.ld (.t 3) 5 true), ko 9 7 (.call 14 [(.t 8)]), kn 10 (.pick (.t 7) (.c (.d (.v (.bool true)))) (.t 9))])
 (.cond (.t 10) (.seq (.reg [kn 11 (.call 15 []), kn 4 (.mv (.t 11))])
 (.ret)) (.skip)))
 (.seq (.dreg [[], [0], [], [2, 1], [1, 3, 3], [], [], [5, 6, 4], [4, 7], [8, 7], [9], [10, 9, 9], [9], [12, 11, 9], [11, 13, 13, 9], [9, 14], [15, 14], [16, 16], [16, 17], [18, 17, 0, 1, 2, 3, 4, 5, 6, 7, 8, 9, 10, 11, 12, 13, 14, 15, 16, 17, 18]] [kn 12 (.ld (.t 2) 5 true), kn 13 (.call 16 [(.t 12)]), kn 14 (.ld (.t 3) 5 true), kn 15 (.call 16 [(.t 14)]), kn 16 (.call 25 [(.t 13), (.t 15)]), kn 17 (.ld (.t 2) 5 true), kn 18 (.ld (.t 3) 5 true), kn 19 (.call 22 [(.t 17), (.t 18)]), kn 20 (.eqs false (.t 16) (.t 19)), kn 21 (.mv (.t 20)), ky 22 21 (.ld (.t 2) 5 true), ky 23 21 (.call 16 [(.t 22)]), ky 24 21 (.ld (.t 2) 5 true), ky 25 21 (.call 16 [(.t 24)]), ky 26 21 (.call 25 [(.t 23), (.t 25)]), kn 27 (.pick (.t 21) (.t 26) (.c (.d (.v (.bool false))))), kn 28 (.mv (.t 27)), ky 29 28 (.call 15 []), kn 30 (.pick (.t 28) (.t 29) (.c (.d (.v (.bool false))))), kn 4 (.mv (.t 30))])
 (.ret)))
def r7 : List RC := [.t 4]

theorem cc7 : Try.f7.body.bind (comp Try.prog (hhI 7)) = some c7 := by kernel_rfl
theorem rr7 : resC Try.prog Try.f7 = some r7 := by kernel_rfl
theorem IfaceSames_c {a b : Fc} (ha : FIn a) (hb : FIn b) (ga : FFit a) (gb : FFit b) (H : List ABlk) : ACalls Try.prog 7 [a.av, b.av] H fun v H' => v = bv true ∧ H' = H := by
 refine ACalls.into Try.func7 cc7 rr7 fun hcl => ?_
 have out : ∀ {b : Bool} {l : List ABlk}, b = true → Ret r7 H.length (fun v H' => v = bv true ∧ H' = H) (some (bv b)) (H ++ l) := fun {b l} h =>
  Ret.drop _ H (Nat.le_refl _) hcl (.rfl _) (by simp [refs]) ⟨by rw [h], rfl⟩
 simp (maxSteps := 2000000) (disch := omega) only [Try.ntmps7, c7, r7, Fc.cs, go_sem, seval, reduceCtorEq]
 refine Cont.rel (large16_c ha _) ?_
 rintro v H' ⟨⟨B, rfl, hB⟩, rfl⟩
 cases hBv : B with
 | true =>
  simp (maxSteps := 2000000) (disch := omega) only [go_sem, seval, reduceCtorEq]
  refine Cont.mk (wakes16_c _) ?_
  simp (maxSteps := 2000000) (disch := omega) only [go_sem, seval, reduceCtorEq]
  exact out rfl
 | false =>
  obtain ⟨hs, hu, ho⟩ := (hB.1 hBv).sm
  simp (maxSteps := 2000000) (disch := omega) only [Fc.cs, go_sem, seval, reduceCtorEq]
  refine Cont.rel (large16_c hb _) ?_
  rintro v H' ⟨⟨B2, rfl, hB2⟩, rfl⟩
  cases hBv2 : B2 with
  | true =>
   simp (maxSteps := 2000000) (disch := omega) only [go_sem, seval, reduceCtorEq]
   refine Cont.mk (wakes16_c _) ?_
   simp (maxSteps := 2000000) (disch := omega) only [go_sem, seval, reduceCtorEq]
   exact out rfl
  | false =>
   obtain ⟨hs2, hu2, ho2⟩ := (hB2.1 hBv2).sm
   have hsa : ∀ H, ACalls Try.prog 25 [a.av, a.av] H fun v H' => v = bv true ∧ H' = H := fun H => (same_c ha ha ga ga H).mono fun v H' e => by rw [cdec_t rfl] at e; exact e
   have hc1 := fun H => copy16_c hs hu ho H
   have hc2 := fun H => copy16_c hs2 hu2 ho2 H
   have h1 := fun H => same_c ha hb ga gb H
   have h2 := fun H => rsame_d ha hb H
   generalize cdec (a = b) = E at *
   simp (maxSteps := 2000000) (disch := omega) only [Fc.cs, go_sem, seval, reduceCtorEq]
   refine W.pchain follows (by decide +kernel) ?_
   cases E <;> (
    simp (maxSteps := 2000000) (disch := omega) only [Fc.cs, go_sem, seval, reduceCtorEq]
    refine PCont.mk (hc1 _) ?_
    simp (maxSteps := 2000000) (disch := omega) only [Fc.cs, go_sem, seval, reduceCtorEq]
    refine PCont.mk (hc2 _) ?_
    simp (maxSteps := 2000000) (disch := omega) only [Fc.cs, go_sem, seval, reduceCtorEq]
    refine PCont.mk (h1 _) ?_
    simp (maxSteps := 2000000) (disch := omega) only [Fc.cs, go_sem, seval, reduceCtorEq]
    refine PCont.mk (h2 _) ?_
    simp (maxSteps := 2000000) (disch := omega) only [Fc.cs, go_sem, seval, reduceCtorEq]
    refine PCont.mk (hc1 _) ?_
    simp (maxSteps := 2000000) (disch := omega) only [Fc.cs, go_sem, seval, reduceCtorEq]
    refine PCont.mk (hc1 _) ?_
    simp (maxSteps := 2000000) (disch := omega) only [Fc.cs, go_sem, seval, reduceCtorEq]
    refine PCont.mk (hsa _) ?_
    simp (maxSteps := 2000000) (disch := omega) only [go_sem, seval, reduceCtorEq]
    refine PCont.mk (wakes16_c _) ?_
    simp (maxSteps := 2000000) (disch := omega) only [go_sem, seval, reduceCtorEq]
    exact out rfl)
end Go.Proofs.Ythifjndenhjobaa
