/- IfaceTrims. -/
import Derived.Test.YthifjndenhjobaaZR5
import Derived.Test.YthifjndenhjobaaZIA
import Derived.Test.YthifjndenhjobaaZKW
namespace Go.Proofs.Ythifjndenhjobaa
set_option linter.unusedSimpArgs false
set_option linter.unusedVariables false
set_option maxRecDepth 20000
set_option maxHeartbeats 4000000
open Go.RowKit

def c4 : AC :=
 .seq (.reg [kn 1 (.bx (.t 0)), kn 2 (.mv (.c (.d (.v (.bool false)))))])
 (.seq (.seq (.reg [kn 8 (.ld (.t 1) 5 true), kn 9 (.call 14 [(.t 8)])])
 (.cond (.t 9) (.seq (.reg [kn 10 (.call 15 []), kn 2 (.mv (.t 10))])
 (.ret)) (.skip)))
 (.seq (.reg [kn 11 (.ld (.t 1) 5 true), kn 12 (.call 16 [(.t 11)]), kn 3 (.al [(.d (.v (.string ⟨#[]⟩))), (.d (.v (.int .u32 0))), .esl, .esl, .esl]), ke (.st (.t 3) (.t 12) 5)])
 (.seq (.reg [kn 14 (.ld (.t 3) 5 true), kn 15 (.call 23 [(.t 14)]), kn 13 (.mv (.t 15)), kn 16 (.ext (.t 13) 0), kn 17 (.ext (.t 13) 1), kn 4 (.al [(.d (.v (.string ⟨#[]⟩))), (.d (.v (.int .u32 0))), .esl, .esl, .esl]), ke (.st (.t 4) (.t 16) 5), kn 5 (.mv (.t 17))])
 (.seq (.reg [kn 19 (.ld (.t 1) 5 true), kn 20 (.call 24 [(.t 19)]), kn 18 (.mv (.t 20)), kn 21 (.ext (.t 18) 0), kn 22 (.ext (.t 18) 1), kn 6 (.al [(.d (.v (.string ⟨#[]⟩))), (.d (.v (.int .u32 0))), .esl, .esl, .esl]), ke (.st (.t 6) (.t 21) 5), kn 7 (.mv (.t 22))])
 (.seq (.reg [kn 23 (.mv (.t 5)), kn 24 (.mv (.t 7)), kn 25 (.bin .eql (.t 23) (.t 24)), kn 26 (.mv (.t 25)), ky 27 26 (.ld (.t 4) 5 true), ky 28 26 (.ld (.t 6) 5 true), ky 29 26 (.call 22 [(.t 27), (.t 28)]), kn 30 (.pick (.t 26) (.t 29) (.c (.d (.v (.bool false))))), kn 31 (.mv (.t 30)), ky 32 31 (.ld (.t 3) 5 true), ky 33 31 (.ld (.t 1) 5 true), ky 34 31 (.call 22 [(.t 32), (.t 33)]), kn 35 (.pick (.t 31) (.t 34) (.c (.d (.v (.bool false))))), kn 36 (.mv (.t 35)), ky 37 36 (.call 15 []), kn 38 (.pick (.t 36) (.t 37) (.c (.d (.v (.bool false))))), kn 2 (.mv (.t 38))])
 (.ret))))))
def r4 : List RC := [.t 2]

theorem cc4 : Try.f4.body.bind (comp Try.prog (hhI 4)) = some c4 := by kernel_rfl
theorem rr4 : resC Try.prog Try.f4 = some r4 := by kernel_rfl
theorem rsame_t (T : Fc) (hT : FIn T) (H : List ABlk) : ACalls Try.prog 22 [T.av, T.av] H fun v H' => v = bv true ∧ H' = H :=
 (rsame_c hT hT H).mono fun v H' h => ⟨by rw [cdec_of h.1, cdec_t rfl], h.2⟩
theorem ze_in : FIn zeF := ⟨by decide, by decide, by decide, ⟨by decide, (fun x hx => by cases hx)⟩, (fun x hx => by cases hx), (fun x hx => by cases hx), (fun x hx => by cases hx)⟩
theorem trimV_in {f : Fc} (hf : FIn f) (hs : Small f.types) : FIn (trimV f).1 := by
 rcases trimV_cases f with ⟨hF, _, h3⟩ | h3
 ·rw [h3]; exact fin_trim (hF.ord (ordF_vis hF)) hF.ty.len.2 hs hf
 ·rw [h3]; exact ze_in
theorem IfaceTrims_c {f : Fc} (hf : FIn f) (H : List ABlk) : ACalls Try.prog 4 [f.av] H fun v H' => v = bv true ∧ H' = H := by
 refine ACalls.into Try.func4 cc4 rr4 fun hcl => ?_
 have out : ∀ {b : Bool} {G : List ABlk}, H <+: G → b = true → Ret r4 H.length (fun v H' => v = bv true ∧ H' = H) (some (bv b)) G := fun {b G} hG h =>
  Ret.pre _ H hG (Nat.le_refl _) hcl (.rfl _) (by simp [refs]) ⟨by rw [h], rfl⟩
 simp (maxSteps := 2000000) (disch := omega) only [Try.ntmps4, c4, r4, Fc.cs, go_sem, seval, reduceCtorEq]
 refine Cont.rel (large16_c hf _) ?_
 rintro v H' ⟨⟨B, rfl, hB⟩, rfl⟩
 cases hBv : B with
 | true =>
  simp (maxSteps := 2000000) (disch := omega) only [go_sem, seval, reduceCtorEq]
  refine Cont.mk (wakesW_c _) ?_
  simp (maxSteps := 2000000) (disch := omega) only [go_sem, seval, reduceCtorEq]
  exact out (List.prefix_append _ _) rfl
 | false =>
  have hL := hB.1 hBv
  obtain ⟨hs, hu, ho⟩ := hL.sm
  simp (maxSteps := 2000000) (disch := omega) only [go_sem, seval, reduceCtorEq]
  refine Cont.mk (copy16_c hs hu ho _) ?_
  simp (maxSteps := 2000000) (disch := omega) only [Fc.cs, go_sem, seval, reduceCtorEq]
  refine Cont.mk (iTrim_c hf hs _) ?_
  have hin := trimV_in hf hs
  have hr := fun H => rTrim_c hf hs hu ho H
  have hr : ∀ H, ACalls Try.prog 24 [f.av] H fun v H' => v = .tup [(trimV f).1.av, iv (trimV f).2] ∧ H' = H := hr
  obtain ⟨T, e, hT, he⟩ : ∃ T e, trimV f = (T, e) ∧ (e = 0 ∨ e = 160) := by
   rcases trimV_cases f with ⟨_, _, h3⟩ | h3
   ·exact ⟨_, _, h3, .inl rfl⟩
   ·exact ⟨_, _, h3, .inr rfl⟩
  rw [hT] at hr hin ⊢
  simp (maxSteps := 2000000) (disch := omega) only [Fc.cs, go_sem, seval, reduceCtorEq]
  refine Cont.mk (hr _) ?_
  simp (maxSteps := 2000000) (disch := omega) only [Fc.cs, go_sem, seval, reduceCtorEq]
  refine Cont.mk (rsame_t T hin _) ?_
  simp (maxSteps := 2000000) (disch := omega) only [Fc.cs, go_sem, seval, reduceCtorEq]
  refine Cont.mk (rsame_t f hf _) ?_
  simp (maxSteps := 2000000) (disch := omega) only [go_sem, seval, reduceCtorEq]
  refine Cont.mk (wakesW_c _) ?_
  simp (maxSteps := 2000000) (disch := omega) only [go_sem, seval, reduceCtorEq]
  exact out (List.prefix_append _ _) rfl
end Go.Proofs.Ythifjndenhjobaa
