/- What is known of the functions, for calls of known values. -/
import Derived.Test.YtalhmnijkkihgaaCode
import Derived.Test.YtalhmnijkkihgaaEval
namespace Go.Proofs.Ytalhmnijkkihgaa
set_option linter.unusedSectionVars false
set_option linter.unusedSimpArgs false
set_option linter.unusedVariables false
set_option maxRecDepth 20000
open Go.RowKit

def env : Env := fun f =>
  match f with
  | 4 => some (c4, r4, 31)
  | 5 => some (c5, r5, 34)
  | 6 => some (c6, r6, 59)
  | 7 => some (c7, r7, 9)
  | 8 => some (c8, r8, 20)
  | 9 => some (c9, r9, 9)
  | 10 => some (c10, r10, 79)
  | 11 => some (c11, r11, 34)
  | 12 => some (c12, r12, 20)
  | 13 => some (c13, r13, 67)
  | 14 => some (c14, r14, 18)
  | 15 => some (c15, r15, 17)
  | 16 => some (c16, r16, 20)
  | 17 => some (c17, r17, 67)
  | 18 => some (c18, r18, 81)
  | 19 => some (c19, r19, 10)
  | 20 => some (c20, r20, 106)
  | 21 => some (c21, r21, 48)
  | 22 => some (c22, r22, 99)
  | 23 => some (c23, r23, 21)
  | 24 => some (c24, r24, 7)
  | 25 => some (c25, r25, 146)
  | 26 => some (c26, r26, 8)
  | 27 => some (c27, r27, 135)
  | 28 => some (c28, r28, 40)
  | 29 => some (c29, r29, 4)
  | 30 => some (c30, r30, 11)
  | 31 => some (c31, r31, 70)
  | 32 => some (c32, r32, 21)
  | 33 => some (c33, r33, 25)
  | 34 => some (c34, r34, 60)
  | 35 => some (c35, r35, 26)
  | 36 => some (c36, r36, 170)
  | 37 => some (c37, r37, 13)
  | 38 => some (c38, r38, 25)
  | 39 => some (c39, r39, 15)
  | 40 => some (c40, r40, 26)
  | 41 => some (c41, r41, 21)
  | 42 => some (c42, r42, 22)
  | 43 => some (c43, r43, 13)
  | 44 => some (c44, r44, 6)
  | 45 => some (c45, r45, 31)
  | 46 => some (c46, r46, 21)
  | 47 => some (c47, r47, 28)
  | 48 => some (c48, r48, 9)
  | 49 => some (c49, r49, 11)
  | 50 => some (c50, r50, 11)
  | 51 => some (c51, r51, 8)
  | 52 => some (c52, r52, 29)
  | 53 => some (c53, r53, 36)
  | 54 => some (c54, r54, 17)
  | _ => none
theorem env_ok : EnvOk Try.prog env := by
  refine ⟨by kernel_rfl, fun f ac rs nt h => ?_⟩
  unfold env at h
  split at h
  · cases h; exact ⟨by kernel_rfl, _, _, Try.func4, cc4, rr4, Try.ntmps4⟩
  · cases h; exact ⟨by kernel_rfl, _, _, Try.func5, cc5, rr5, Try.ntmps5⟩
  · cases h; exact ⟨by kernel_rfl, _, _, Try.func6, cc6, rr6, Try.ntmps6⟩
  · cases h; exact ⟨by kernel_rfl, _, _, Try.func7, cc7, rr7, Try.ntmps7⟩
  · cases h; exact ⟨by kernel_rfl, _, _, Try.func8, cc8, rr8, Try.ntmps8⟩
  · cases h; exact ⟨by kernel_rfl, _, _, Try.func9, cc9, rr9, Try.ntmps9⟩
  · cases h; exact ⟨by kernel_rfl, _, _, Try.func10, cc10, rr10, Try.ntmps10⟩
  · cases h; exact ⟨by kernel_rfl, _, _, Try.func11, cc11, rr11, Try.ntmps11⟩
  · cases h; exact ⟨by kernel_rfl, _, _, Try.func12, cc12, rr12, Try.ntmps12⟩
  · cases h; exact ⟨by kernel_rfl, _, _, Try.func13, cc13, rr13, Try.ntmps13⟩
  · cases h; exact ⟨by kernel_rfl, _, _, Try.func14, cc14, rr14, Try.ntmps14⟩
  · cases h; exact ⟨by kernel_rfl, _, _, Try.func15, cc15, rr15, Try.ntmps15⟩
  · cases h; exact ⟨by kernel_rfl, _, _, Try.func16, cc16, rr16, Try.ntmps16⟩
  · cases h; exact ⟨by kernel_rfl, _, _, Try.func17, cc17, rr17, Try.ntmps17⟩
  · cases h; exact ⟨by kernel_rfl, _, _, Try.func18, cc18, rr18, Try.ntmps18⟩
  · cases h; exact ⟨by kernel_rfl, _, _, Try.func19, cc19, rr19, Try.ntmps19⟩
  · cases h; exact ⟨by kernel_rfl, _, _, Try.func20, cc20, rr20, Try.ntmps20⟩
  · cases h; exact ⟨by kernel_rfl, _, _, Try.func21, cc21, rr21, Try.ntmps21⟩
  · cases h; exact ⟨by kernel_rfl, _, _, Try.func22, cc22, rr22, Try.ntmps22⟩
  · cases h; exact ⟨by kernel_rfl, _, _, Try.func23, cc23, rr23, Try.ntmps23⟩
  · cases h; exact ⟨by kernel_rfl, _, _, Try.func24, cc24, rr24, Try.ntmps24⟩
  · cases h; exact ⟨by kernel_rfl, _, _, Try.func25, cc25, rr25, Try.ntmps25⟩
  · cases h; exact ⟨by kernel_rfl, _, _, Try.func26, cc26, rr26, Try.ntmps26⟩
  · cases h; exact ⟨by kernel_rfl, _, _, Try.func27, cc27, rr27, Try.ntmps27⟩
  · cases h; exact ⟨by kernel_rfl, _, _, Try.func28, cc28, rr28, Try.ntmps28⟩
  · cases h; exact ⟨by kernel_rfl, _, _, Try.func29, cc29, rr29, Try.ntmps29⟩
  · cases h; exact ⟨by kernel_rfl, _, _, Try.func30, cc30, rr30, Try.ntmps30⟩
  · cases h; exact ⟨by kernel_rfl, _, _, Try.func31, cc31, rr31, Try.ntmps31⟩
  · cases h; exact ⟨by kernel_rfl, _, _, Try.func32, cc32, rr32, Try.ntmps32⟩
  · cases h; exact ⟨by kernel_rfl, _, _, Try.func33, cc33, rr33, Try.ntmps33⟩
  · cases h; exact ⟨by kernel_rfl, _, _, Try.func34, cc34, rr34, Try.ntmps34⟩
  · cases h; exact ⟨by kernel_rfl, _, _, Try.func35, cc35, rr35, Try.ntmps35⟩
  · cases h; exact ⟨by kernel_rfl, _, _, Try.func36, cc36, rr36, Try.ntmps36⟩
  · cases h; exact ⟨by kernel_rfl, _, _, Try.func37, cc37, rr37, Try.ntmps37⟩
  · cases h; exact ⟨by kernel_rfl, _, _, Try.func38, cc38, rr38, Try.ntmps38⟩
  · cases h; exact ⟨by kernel_rfl, _, _, Try.func39, cc39, rr39, Try.ntmps39⟩
  · cases h; exact ⟨by kernel_rfl, _, _, Try.func40, cc40, rr40, Try.ntmps40⟩
  · cases h; exact ⟨by kernel_rfl, _, _, Try.func41, cc41, rr41, Try.ntmps41⟩
  · cases h; exact ⟨by kernel_rfl, _, _, Try.func42, cc42, rr42, Try.ntmps42⟩
  · cases h; exact ⟨by kernel_rfl, _, _, Try.func43, cc43, rr43, Try.ntmps43⟩
  · cases h; exact ⟨by kernel_rfl, _, _, Try.func44, cc44, rr44, Try.ntmps44⟩
  · cases h; exact ⟨by kernel_rfl, _, _, Try.func45, cc45, rr45, Try.ntmps45⟩
  · cases h; exact ⟨by kernel_rfl, _, _, Try.func46, cc46, rr46, Try.ntmps46⟩
  · cases h; exact ⟨by kernel_rfl, _, _, Try.func47, cc47, rr47, Try.ntmps47⟩
  · cases h; exact ⟨by kernel_rfl, _, _, Try.func48, cc48, rr48, Try.ntmps48⟩
  · cases h; exact ⟨by kernel_rfl, _, _, Try.func49, cc49, rr49, Try.ntmps49⟩
  · cases h; exact ⟨by kernel_rfl, _, _, Try.func50, cc50, rr50, Try.ntmps50⟩
  · cases h; exact ⟨by kernel_rfl, _, _, Try.func51, cc51, rr51, Try.ntmps51⟩
  · cases h; exact ⟨by kernel_rfl, _, _, Try.func52, cc52, rr52, Try.ntmps52⟩
  · cases h; exact ⟨by kernel_rfl, _, _, Try.func53, cc53, rr53, Try.ntmps53⟩
  · cases h; exact ⟨by kernel_rfl, _, _, Try.func54, cc54, rr54, Try.ntmps54⟩
  · cases h
end Go.Proofs.Ytalhmnijkkihgaa
