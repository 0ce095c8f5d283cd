/- IfaceGoods. -/
import Derived.Test.YthifjndenhjobaaZIF
import Derived.Test.YthifjndenhjobaaZID
import Derived.Test.YthifjndenhjobaaZEvW
namespace Go.Proofs.Ythifjndenhjobaa
set_option linter.unusedSimpArgs false
set_option linter.unusedVariables false
set_option maxRecDepth 20000
set_option maxHeartbeats 4000000
open Go.RowKit

def c3 : AC :=
 .seq (.reg [kn 2 (.bx (.t 0)), kn 4 (.mv (.c (.d (.v (.bool false)))))])
 (.seq (.seq (.reg [kn 10 (.ld (.t 2) 5 true), kn 11 (.call 14 [(.t 10)]), kn 12 (.mv (.t 11)), ko 13 12 (.mv (.t 1)), ko 14 12 (.len true (.t 13)), ko 15 12 (.bin .gtr (.t 14) (kc 500)), kn 16 (.pick (.t 12) (.c (.d (.v (.bool true)))) (.t 15))])
 (.cond (.t 16) (.seq (.reg [kn 17 (.call 15 []), kn 4 (.mv (.t 17))])
 (.ret)) (.skip)))
 (.seq (.reg [kn 18 (.ld (.t 2) 5 true), kn 19 (.call 16 [(.t 18)]), kn 5 (.al [(.d (.v (.string ⟨#[]⟩))), (.d (.v (.int .u32 0))), .esl, .esl, .esl]), ke (.st (.t 5) (.t 19) 5)])
 (.seq (.reg [kn 21 (.ld (.t 2) 5 true), kn 22 (.call 16 [(.t 21)]), kn 23 (.mv (.t 1)), kn 24 (.call 17 [(.t 22), (.t 23)]), kn 20 (.mv (.t 24)), kn 25 (.ext (.t 20) 0), kn 26 (.ext (.t 20) 1), kn 6 (.al [kz, (.d (.v (.string ⟨#[]⟩))), kz, kz, kz, (.d (.v (.string ⟨#[]⟩))), kz]), ke (.st (.t 6) (.t 25) 7), kn 7 (.mv (.t 26))])
 (.seq (.reg [kn 28 (.ld (.t 2) 5 true), kn 29 (.mv (.t 1)), kn 30 (.call 18 [(.t 28), (.t 29)]), kn 27 (.mv (.t 30)), kn 31 (.ext (.t 27) 0), kn 32 (.ext (.t 27) 1), kn 8 (.al [kz, (.d (.v (.string ⟨#[]⟩))), kz, kz, kz, (.d (.v (.string ⟨#[]⟩))), kz]), ke (.st (.t 8) (.t 31) 7), kn 9 (.mv (.t 32))])
 (.seq (.dreg [[], [0], [], [2, 1], [1, 3], [4, 3], [5], [5], [6, 7, 5], [5, 8], [9, 5], [10], [10], [11, 12, 10, 10], [10, 13], [14, 13], [15], [15], [16, 17, 15, 15], [15, 18], [19, 18], [20, 20], [20, 21], [22, 21, 0, 1, 2, 3, 4, 5, 6, 7, 8, 9, 10, 11, 12, 13, 14, 15, 16, 17, 18, 19, 20, 21, 22]] [kn 33 (.ld (.t 5) 5 true), kn 34 (.call 19 [(.t 33)]), kn 35 (.ld (.t 2) 5 true), kn 36 (.call 20 [(.t 35)]), kn 37 (.eqs false (.t 34) (.t 36)), kn 38 (.mv (.t 37)), ky 39 38 (.mv (.t 7)), ky 40 38 (.mv (.t 9)), ky 41 38 (.eqs false (.t 39) (.t 40)), kn 42 (.pick (.t 38) (.t 41) (.c (.d (.v (.bool false))))), kn 43 (.mv (.t 42)), ky 44 43 (.ld (.t 6) 7 true), ky 45 43 (.ld (.t 8) 7 true), ky 46 43 (.call 21 [(.t 44), (.t 45)]), kn 47 (.pick (.t 43) (.t 46) (.c (.d (.v (.bool false))))), kn 48 (.mv (.t 47)), ky 49 48 (.ld (.t 5) 5 true), ky 50 48 (.ld (.t 2) 5 true), ky 51 48 (.call 22 [(.t 49), (.t 50)]), kn 52 (.pick (.t 48) (.t 51) (.c (.d (.v (.bool false))))), kn 53 (.mv (.t 52)), ky 54 53 (.call 15 []), kn 55 (.pick (.t 53) (.t 54) (.c (.d (.v (.bool false))))), kn 4 (.mv (.t 55))])
 (.ret))))))
def r3 : List RC := [.t 4]

theorem cc3 : Try.f3.body.bind (comp Try.prog (hhI 3)) = some c3 := by kernel_rfl
theorem rr3 : resC Try.prog Try.f3 = some r3 := by kernel_rfl
theorem rsame_d {a b : Fc} (ha : FIn a) (hb : FIn b) (H : List ABlk) : ACalls Try.prog 22 [a.av, b.av] H fun v H' => v = bv (cdec (a = b)) ∧ H' = H := (rsame_c ha hb H).mono fun v H' h => ⟨cdec_of h.1, h.2⟩
theorem IfaceGoods_c {f : Fc} (hf : FIn f) (s : ByteArray) (hn : s.size ≤ 140737488355328) (H : List ABlk) : ACalls Try.prog 3 [f.av, sv s] H fun v H' => v = bv true ∧ H' = H := by
 refine ACalls.into Try.func3 cc3 rr3 fun hcl => ?_
 have out : ∀ {b : Bool} {l : List ABlk}, b = true → Ret r3 H.length (fun v H' => v = bv true ∧ H' = H) (some (bv b)) (H ++ l) := fun {b l} h =>
  Ret.drop _ H (Nat.le_refl _) hcl (.rfl _) (by simp [refs]) ⟨by rw [h], rfl⟩
 simp (maxSteps := 2000000) (disch := omega) only [Try.ntmps3, c3, r3, Fc.cs, go_sem, seval, reduceCtorEq]
 refine Cont.rel (large16_c hf _) ?_
 rintro v H' ⟨⟨B, rfl, hB⟩, rfl⟩
 cases hBv : B with
 | true =>
  simp (maxSteps := 2000000) (disch := omega) only [go_sem, seval, reduceCtorEq]
  refine Cont.mk (wakes16_c _) ?_
  simp (maxSteps := 2000000) (disch := omega) only [go_sem, seval, reduceCtorEq]
  exact out rfl
 | false =>
  have hL := hB.1 hBv
  obtain ⟨hs, hu, ho⟩ := hL.sm
  by_cases h2 : 500 < s.size
  ·simp (maxSteps := 2000000) (disch := omega) only [go_sem, seval, reduceCtorEq]
   refine Cont.mk (wakes16_c _) ?_
   simp (maxSteps := 2000000) (disch := omega) only [go_sem, seval, reduceCtorEq]
   exact out rfl
  simp (maxSteps := 2000000) (disch := omega) only [go_sem, seval, reduceCtorEq]
  refine Cont.mk (copy16_c hs hu ho _) ?_
  simp (maxSteps := 2000000) (disch := omega) only [Fc.cs, go_sem, seval, reduceCtorEq]
  refine Cont.mk (copy16_c hs hu ho _) ?_
  simp (maxSteps := 2000000) (disch := omega) only [Fc.cs, go_sem, seval, reduceCtorEq]
  refine Cont.rel (find_c ho s _) ?_
  rintro v H' ⟨⟨x, b, rfl, hx⟩, rfl⟩
  simp (maxSteps := 2000000) (disch := omega) only [Ob.cs, go_sem, seval, reduceCtorEq]
  refine Cont.rel (rfind_c ho s _) ?_
  rintro v H' ⟨⟨y, c, rfl, hy⟩, rfl⟩
  obtain ⟨rfl, rfl⟩ := hx.det hy
  simp (maxSteps := 2000000) (disch := omega) only [Ob.cs, go_sem, seval, reduceCtorEq]
  refine W.pchain follows (by decide +kernel) ?_
  simp (maxSteps := 2000000) (disch := omega) only [Ob.cs, Fc.cs, go_sem, seval, reduceCtorEq]
  refine PCont.mk (igood16_c hf hs _) ?_
  simp (maxSteps := 2000000) (disch := omega) only [Ob.cs, Fc.cs, go_sem, seval, reduceCtorEq]
  refine PCont.mk (rgood16_c hf hs _) ?_
  have hso := fun H => rsobj_c x x H
  have hsa : ∀ H, ACalls Try.prog 22 [f.av, f.av] H fun v H' => v = bv true ∧ H' = H := fun H => (rsame_d hf hf H).mono fun v H' e => by rw [cdec_t rfl] at e; exact e
  simp only [dcT (rfl : x = x)] at hso
  clear hx hy hB hBv
  generalize cdec (FaceP f) = B
  cases B <;> cases b <;> (
   simp (maxSteps := 2000000) (disch := omega) only [Ob.cs, Fc.cs, go_sem, seval, reduceCtorEq]
   refine PCont.mk (hso _) ?_
   simp (maxSteps := 2000000) (disch := omega) only [Ob.cs, Fc.cs, go_sem, seval, reduceCtorEq]
   refine PCont.mk (hsa _) ?_
   simp (maxSteps := 2000000) (disch := omega) only [Ob.cs, Fc.cs, go_sem, seval, reduceCtorEq]
   refine PCont.mk (wakes16_c _) ?_
   simp (maxSteps := 2000000) (disch := omega) only [go_sem, seval, reduceCtorEq]
   exact out rfl)
end Go.Proofs.Ythifjndenhjobaa
