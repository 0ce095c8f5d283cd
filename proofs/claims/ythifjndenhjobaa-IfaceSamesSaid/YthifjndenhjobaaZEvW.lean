/- What is known of the functions, for calls of known values. -/
import Derived.Test.YthifjndenhjobaaZCode
import Derived.Test.YthifjndenhjobaaZCodeI
import Derived.Test.YthifjndenhjobaaZCodeH
import Derived.Test.YthifjndenhjobaaZEval
import Derived.Test.YthifjndenhjobaaZT6
namespace Go.Proofs.Ythifjndenhjobaa
set_option linter.unusedSimpArgs false
set_option linter.unusedVariables false
set_option maxRecDepth 20000
open Go.RowKit

def env : Env := fun f =>
 match f with
 | 15 => some (c15, r15, 51)
 | 17 => some (c17, r17, 22)
 | 19 => some (c19, r19, 42)
 | 23 => some (c23, r23, 56)
 | 33 => some (c33, r33, 11)
 | 35 => some (c35, r35, 156)
 | 40 => some (c40h, r40h, 13)
 | 41 => some (c41, r41, 8)
 | 42 => some (c42, r42, 148)
 | 51 => some (c51, r51, 13)
 | 79 => some (c79, r79, 19)
 | 80 => some (c80, r80, 5)
 | 81 => some (c81, r81, 121)
 | 87 => some (c87, r87, 8)
 | 88 => some (c88, r88, 8)
 | 92 => some (c92, r92, 25)
 | 104 => some (c104, r104, 9)
 | 105 => some (c105, r105, 25)
 | 106 => some (c106, r106, 92)
 | 107 => some (c107, r107, 81)
 | 116 => some (c116, r116, 19)
 | 117 => some (c117, r117, 56)
 | 118 => some (c118, r118, 264)
 | 119 => some (c119, r119, 83)
 | 120 => some (c120, r120, 9)
 | 121 => some (c121, r121, 13)
 | 122 => some (c122, r122, 40)
 | 131 => some (c131, r131, 17)
 | 132 => some (c132, r132, 21)
 | 133 => some (c133, r133, 19)
 | 134 => some (c134, r134, 17)
 | 135 => some (c135, r135, 19)
 | 137 => some (c137, r137, 25)
 | _ => none
theorem env_ok : EnvOk Try.prog env := by
 refine ⟨by kernel_rfl, fun f ac rs nt h => ?_⟩
 unfold env at h
 split at h
 ·cases h; exact ⟨by kernel_rfl, _, _, Try.func15, cc15, rr15, Try.ntmps15⟩
 ·cases h; exact ⟨by kernel_rfl, _, _, Try.func17, cc17, rr17, Try.ntmps17⟩
 ·cases h; exact ⟨by kernel_rfl, _, _, Try.func19, cc19, rr19, Try.ntmps19⟩
 ·cases h; exact ⟨by kernel_rfl, _, _, Try.func23, cc23, rr23, Try.ntmps23⟩
 ·cases h; exact ⟨by kernel_rfl, _, _, Try.func33, cc33, rr33, Try.ntmps33⟩
 ·cases h; exact ⟨by kernel_rfl, _, _, Try.func35, cc35, rr35, Try.ntmps35⟩
 ·cases h; exact ⟨by kernel_rfl, _, _, Try.func40, cc40h, rr40h, Try.ntmps40⟩
 ·cases h; exact ⟨by kernel_rfl, _, _, Try.func41, cc41, rr41, Try.ntmps41⟩
 ·cases h; exact ⟨by kernel_rfl, _, _, Try.func42, cc42, rr42, Try.ntmps42⟩
 ·cases h; exact ⟨by kernel_rfl, _, _, Try.func51, cc51, rr51, Try.ntmps51⟩
 ·cases h; exact ⟨by kernel_rfl, _, _, Try.func79, cc79, rr79, Try.ntmps79⟩
 ·cases h; exact ⟨by kernel_rfl, _, _, Try.func80, cc80, rr80, Try.ntmps80⟩
 ·cases h; exact ⟨by kernel_rfl, _, _, Try.func81, cc81, rr81, Try.ntmps81⟩
 ·cases h; exact ⟨by kernel_rfl, _, _, Try.func87, cc87, rr87, Try.ntmps87⟩
 ·cases h; exact ⟨by kernel_rfl, _, _, Try.func88, cc88, rr88, Try.ntmps88⟩
 ·cases h; exact ⟨by kernel_rfl, _, _, Try.func92, cc92, rr92, Try.ntmps92⟩
 ·cases h; exact ⟨by kernel_rfl, _, _, Try.func104, cc104, rr104, Try.ntmps104⟩
 ·cases h; exact ⟨by kernel_rfl, _, _, Try.func105, cc105, rr105, Try.ntmps105⟩
 ·cases h; exact ⟨by kernel_rfl, _, _, Try.func106, cc106, rr106, Try.ntmps106⟩
 ·cases h; exact ⟨by kernel_rfl, _, _, Try.func107, cc107, rr107, Try.ntmps107⟩
 ·cases h; exact ⟨by kernel_rfl, _, _, Try.func116, cc116, rr116, Try.ntmps116⟩
 ·cases h; exact ⟨by kernel_rfl, _, _, Try.func117, cc117, rr117, Try.ntmps117⟩
 ·cases h; exact ⟨by kernel_rfl, _, _, Try.func118, cc118, rr118, Try.ntmps118⟩
 ·cases h; exact ⟨by kernel_rfl, _, _, Try.func119, cc119, rr119, Try.ntmps119⟩
 ·cases h; exact ⟨by kernel_rfl, _, _, Try.func120, cc120, rr120, Try.ntmps120⟩
 ·cases h; exact ⟨by kernel_rfl, _, _, Try.func121, cc121, rr121, Try.ntmps121⟩
 ·cases h; exact ⟨by kernel_rfl, _, _, Try.func122, cc122, rr122, Try.ntmps122⟩
 ·cases h; exact ⟨by kernel_rfl, _, _, Try.func131, cc131, rr131, Try.ntmps131⟩
 ·cases h; exact ⟨by kernel_rfl, _, _, Try.func132, cc132, rr132, Try.ntmps132⟩
 ·cases h; exact ⟨by kernel_rfl, _, _, Try.func133, cc133, rr133, Try.ntmps133⟩
 ·cases h; exact ⟨by kernel_rfl, _, _, Try.func134, cc134, rr134, Try.ntmps134⟩
 ·cases h; exact ⟨by kernel_rfl, _, _, Try.func135, cc135, rr135, Try.ntmps135⟩
 ·cases h; exact ⟨by kernel_rfl, _, _, Try.func137, cc137, rr137, Try.ntmps137⟩
 ·cases h
end Go.Proofs.Ythifjndenhjobaa

/- l16.wakes, by evaluation. -/
namespace Go.Proofs.Ythifjndenhjobaa
set_option linter.unusedSimpArgs false
set_option linter.unusedVariables false
set_option maxRecDepth 100000
open Go.RowKit

theorem clone0_u {x : AV} (hx : x = .esl ∨ x = .d (.sl [])) (H : List ABlk) : ACalls Try.prog 41 [x] H fun v H' => v = .d (.sl []) ∧ H' = H := by
 rcases hx with rfl | rfl <;> (
  refine ACalls.into Try.func41 cc41 rr41 fun hcl => ?_
  simp (maxSteps := 2000000) (disch := omega) only [Try.ntmps41, c41, r41, nilA, go_sem, seval, reduceCtorEq]
  refine CBr.ub ?_ ?_
  ·simp (maxSteps := 2000000) (disch := omega) only [go_sem, seval, reduceCtorEq]
   exact Ret.pre (.d (.sl [])) H ⟨[], by simp⟩ (Nat.le_refl _) hcl .esl (by simp [refs]) ⟨rfl, rfl⟩
  ·simp (maxSteps := 2000000) (disch := omega) only [go_sem, seval, reduceCtorEq]
   exact Ret.drop (.d (.sl [])) H (Nat.le_refl _) hcl (.gsl _ _ _) (by simp [refs]) ⟨rfl, rfl⟩)
theorem clone0_f {x : AV} (hx : x = .esl ∨ x = .d (.sl [])) (H : List ABlk) : ACalls Try.prog 87 [x] H fun v H' => v = .d (.sl []) ∧ H' = H := by
 rcases hx with rfl | rfl <;> (
  refine ACalls.into Try.func87 cc87 rr87 fun hcl => ?_
  simp (maxSteps := 2000000) (disch := omega) only [Try.ntmps87, c87, r87, nilA, go_sem, seval, reduceCtorEq]
  refine CBr.ub ?_ ?_
  ·simp (maxSteps := 2000000) (disch := omega) only [go_sem, seval, reduceCtorEq]
   exact Ret.pre (.d (.sl [])) H ⟨[], by simp⟩ (Nat.le_refl _) hcl .esl (by simp [refs]) ⟨rfl, rfl⟩
  ·simp (maxSteps := 2000000) (disch := omega) only [go_sem, seval, reduceCtorEq]
   exact Ret.drop (.d (.sl [])) H (Nat.le_refl _) hcl (.gsl _ _ _) (by simp [refs]) ⟨rfl, rfl⟩)
theorem clone0_p {x : AV} (hx : x = .esl ∨ x = .d (.sl [])) (H : List ABlk) : ACalls Try.prog 88 [x] H fun v H' => v = .d (.sl []) ∧ H' = H := by
 rcases hx with rfl | rfl <;> (
  refine ACalls.into Try.func88 cc88 rr88 fun hcl => ?_
  simp (maxSteps := 2000000) (disch := omega) only [Try.ntmps88, c88, r88, nilA, go_sem, seval, reduceCtorEq]
  refine CBr.ub ?_ ?_
  ·simp (maxSteps := 2000000) (disch := omega) only [go_sem, seval, reduceCtorEq]
   exact Ret.pre (.d (.sl [])) H ⟨[], by simp⟩ (Nat.le_refl _) hcl .esl (by simp [refs]) ⟨rfl, rfl⟩
  ·simp (maxSteps := 2000000) (disch := omega) only [go_sem, seval, reduceCtorEq]
   exact Ret.drop (.d (.sl [])) H (Nat.le_refl _) hcl (.gsl _ _ _) (by simp [refs]) ⟨rfl, rfl⟩)
def cloneX : CF := fun _ f args H =>
 if f = 41 ∨ f = 87 ∨ f = 88 then match args with
  | [.esl] => some (.d (.sl []), H)
  | [.d (.sl [])] => some (.d (.sl []), H)
  | _ => none
 else none
theorem cloneX_ok : FOk Try.prog cloneX := fun nb f args H v H' hn h => by
 unfold cloneX at h
 split at h
 ·rename_i hf
  have go : ∀ x : AV, (x = .esl ∨ x = .d (.sl [])) → ACalls Try.prog f [x] H fun v H' => v = .d (.sl []) ∧ H' = H := fun x hx => by
   rcases hf with rfl | rfl | rfl
   ·exact clone0_u hx H
   ·exact clone0_f hx H
   ·exact clone0_p hx H
  split at h
  ·cases h; exact ⟨go _ (.inl rfl), .refl hn⟩
  ·cases h; exact ⟨go _ (.inr rfl), .refl hn⟩
  ·cases h
 ·cases h
theorem wakes16_c (H : List ABlk) : ACalls Try.prog 15 [] H fun v H' => v = .d (.v (.bool true)) ∧ H' = H := EnvOk.tellsX cloneX_ok env_ok 14 (by kernel_rfl) H
end Go.Proofs.Ythifjndenhjobaa
