/- Copies; Good; IfaceGoods. -/
import Derived.Test.YthifjndenhjobaaXIE
namespace Go.Proofs.Ythifjndenhjobaa
set_option linter.unusedSimpArgs false
set_option linter.unusedVariables false
set_option maxRecDepth 20000
set_option maxHeartbeats 4000000
open Go.RowKit

def c16 : AC :=
 .seq (.reg [kn 1 (.bx (.t 0)), kn 2 (.al [(.d (.v (.string ⟨#[]⟩))), (.d (.v (.int .u32 0))), .esl, .esl, .esl])])
 (.seq (.reg [kn 3 (.bs .im 65 2 []), kn 4 (.fa (.t 1) 2), kn 5 (.ld (.t 4) 1 false), kn 6 (.app .im 65 2 24 (.t 3) (.t 5)), kn 7 (.fa (.t 1) 2), ke (.st (.t 7) (.t 6) 1)])
 (.seq (.reg [kn 8 (.fa (.t 1) 3), kn 9 (.ld (.t 8) 1 false), kn 10 (.call 34 [(.t 9)]), kn 11 (.fa (.t 1) 3), ke (.st (.t 11) (.t 10) 1)])
 (.seq (.reg [kn 12 (.bs .im 34 7 []), kn 13 (.fa (.t 1) 4), kn 14 (.ld (.t 13) 1 false), kn 15 (.app .im 34 7 72 (.t 12) (.t 14)), kn 16 (.fa (.t 1) 4), ke (.st (.t 16) (.t 15) 1)])
 (.seq (.reg [kn 17 (.ld (.t 1) 5 true), ke (.st (.t 2) (.t 17) 5)])
 (.ret)))))
def r16 : List RC := [.c 2 5 true]

theorem cc16 : Try.f16.body.bind (comp Try.prog (hhI 16)) = some c16 := by kernel_rfl
theorem rr16 : resC Try.prog Try.f16 = some r16 := by kernel_rfl
theorem copy16_c {f : Fc} (hs : Small f.types) (hu : f.uses.length ≤ 9000000) (ho : f.objs.length ≤ 9000000) (H : List ABlk) : ACalls Try.prog 16 [f.av] H fun v H' => v = f.av ∧ H' = H := by
 refine ACalls.into Try.func16 cc16 rr16 fun hcl => ?_
 have e1 : ∀ H, elemsA H 2 (usv f.uses) = some ((f.uses.map Us.c).map (·.map .d)) := fun H => by simp only [usv, elems_d, all_us, if_true]
 have e2 : ∀ H, elemsA H 7 (obv f.objs) = some ((f.objs.map Ob.c).map (·.map .d)) := fun H => by simp only [obv, elems_d, all_ob, if_true]
 have d1 := datss_map_d (f.uses.map Us.c)
 have d2 := datss_map_d (f.objs.map Ob.c)
 have mx : maxLen = 9223372036854775807 := mx_eq
 simp (maxSteps := 2000000) (disch := omega) only [Try.ntmps16, c16, r16, Fc.cs, e1, d1, List.length_map, go_sem, seval, reduceCtorEq]
 refine Cont.mk (copy_c hs _) ?_
 simp (maxSteps := 2000000) (disch := omega) only [e2, d2, List.length_map, go_sem, seval, reduceCtorEq]
 refine Ret.drop f.av H (Nat.le_refl _) hcl ?_ (by simp [refs, refs.refsL, Fc.cs]) ⟨rfl, rfl⟩
 exact .agg rfl fun i c c' h1 h2 => by
  rcases i with _ | _ | _ | _ | _ | i <;> simp [Fc.cs] at h1 h2
  ·subst h1 h2; exact .rfl _
  ·subst h1 h2; exact .rfl _
  ·subst h1 h2; exact .rfl _
  ·subst h1 h2; exact .gsl _ _ _
  ·subst h1 h2; exact .rfl _
theorem igood16_c {f : Fc} (hf : FIn f) (hs : Small f.types) (H : List ABlk) : ACalls Try.prog 19 [f.av] H fun v H' => v = bv (cdec (FaceP f)) ∧ H' = H :=
 (igood_of hf (R := FrameP f) (fun H => framed_c hf hs H) H).mono fun v H' h => by
   obtain ⟨⟨B, h1, h2⟩, h3⟩ := h
   exact ⟨cdec_of ⟨B, h1, h2.trans ⟨fun k => ⟨k.1.toShapeP, k.2⟩, fun k => ⟨k.frame, k.num⟩⟩⟩, h3⟩
theorem Less.sm {f : Fc} (h : Less f) : Small f.types ∧ f.uses.length ≤ 9000000 ∧ f.objs.length ≤ 9000000 := ⟨h.ty.small, by have := h.us; omega, by have := h.os; omega⟩
end Go.Proofs.Ythifjndenhjobaa
