/- What is known of the functions, for calls of known values. -/
import Derived.Test.YtmgmoamcbnkbfaaGreatDoorYCode
import Derived.Test.YtmgmoamcbnkbfaaGreatDoorYEval
set_option linter.unusedVariables false
set_option linter.unusedSimpArgs false
set_option linter.unusedSectionVars false
namespace Go.Proofs.YtmgmoamcbnkbfaaGreatDoor
set_option linter.unusedSimpArgs false
set_option linter.unusedVariables false
set_option maxRecDepth 20000
open Go.RowKit

def env : Env := fun f =>
  match f with
  | 4 => some (c4, r4, 31)
  | 7 => some (c7, r7, 34)
  | 9 => some (c9, r9, 59)
  | 11 => some (c11, r11, 34)
  | 21 => some (c21, r21, 20)
  | 22 => some (c22, r22, 67)
  | 23 => some (c23, r23, 81)
  | 33 => some (c33, r33, 79)
  | 40 => some (c40, r40, 10)
  | 41 => some (c41, r41, 20)
  | 42 => some (c42, r42, 106)
  | 43 => some (c43, r43, 48)
  | 44 => some (c44, r44, 99)
  | 45 => some (c45, r45, 135)
  | 46 => some (c46, r46, 40)
  | 47 => some (c47, r47, 4)
  | 48 => some (c48, r48, 11)
  | 55 => some (c55, r55, 67)
  | 58 => some (c58, r58, 17)
  | 59 => some (c59, r59, 20)
  | 66 => some (c66, r66, 18)
  | 67 => some (c67, r67, 70)
  | 68 => some (c68, r68, 21)
  | 69 => some (c69, r69, 25)
  | 70 => some (c70, r70, 60)
  | 71 => some (c71, r71, 26)
  | 72 => some (c72, r72, 170)
  | 73 => some (c73, r73, 15)
  | 74 => some (c74, r74, 26)
  | 75 => some (c75, r75, 21)
  | 76 => some (c76, r76, 22)
  | 77 => some (c77, r77, 13)
  | 86 => some (c86, r86, 146)
  | 87 => some (c87, r87, 8)
  | 94 => some (c94, r94, 21)
  | 95 => some (c95, r95, 7)
  | 104 => some (c104, r104, 6)
  | 105 => some (c105, r105, 31)
  | 106 => some (c106, r106, 21)
  | 107 => some (c107, r107, 28)
  | 108 => some (c108, r108, 9)
  | 109 => some (c109, r109, 11)
  | 110 => some (c110, r110, 11)
  | 111 => some (c111, r111, 8)
  | 112 => some (c112, r112, 29)
  | 113 => some (c113, r113, 36)
  | 121 => some (c121, r121, 13)
  | 122 => some (c122, r122, 25)
  | 131 => some (c131, r131, 17)
  | _ => none
theorem env_ok : EnvOk Tryz.prog env := by
  refine ⟨by kernel_rfl, fun f ac rs nt h => ?_⟩
  unfold env at h
  split at h
  · cases h; exact ⟨by kernel_rfl, _, _, Tryz.func4, cc4, rr4, Tryz.ntmps4⟩
  · cases h; exact ⟨by kernel_rfl, _, _, Tryz.func7, cc7, rr7, Tryz.ntmps7⟩
  · cases h; exact ⟨by kernel_rfl, _, _, Tryz.func9, cc9, rr9, Tryz.ntmps9⟩
  · cases h; exact ⟨by kernel_rfl, _, _, Tryz.func11, cc11, rr11, Tryz.ntmps11⟩
  · cases h; exact ⟨by kernel_rfl, _, _, Tryz.func21, cc21, rr21, Tryz.ntmps21⟩
  · cases h; exact ⟨by kernel_rfl, _, _, Tryz.func22, cc22, rr22, Tryz.ntmps22⟩
  · cases h; exact ⟨by kernel_rfl, _, _, Tryz.func23, cc23, rr23, Tryz.ntmps23⟩
  · cases h; exact ⟨by kernel_rfl, _, _, Tryz.func33, cc33, rr33, Tryz.ntmps33⟩
  · cases h; exact ⟨by kernel_rfl, _, _, Tryz.func40, cc40, rr40, Tryz.ntmps40⟩
  · cases h; exact ⟨by kernel_rfl, _, _, Tryz.func41, cc41, rr41, Tryz.ntmps41⟩
  · cases h; exact ⟨by kernel_rfl, _, _, Tryz.func42, cc42, rr42, Tryz.ntmps42⟩
  · cases h; exact ⟨by kernel_rfl, _, _, Tryz.func43, cc43, rr43, Tryz.ntmps43⟩
  · cases h; exact ⟨by kernel_rfl, _, _, Tryz.func44, cc44, rr44, Tryz.ntmps44⟩
  · cases h; exact ⟨by kernel_rfl, _, _, Tryz.func45, cc45, rr45, Tryz.ntmps45⟩
  · cases h; exact ⟨by kernel_rfl, _, _, Tryz.func46, cc46, rr46, Tryz.ntmps46⟩
  · cases h; exact ⟨by kernel_rfl, _, _, Tryz.func47, cc47, rr47, Tryz.ntmps47⟩
  · cases h; exact ⟨by kernel_rfl, _, _, Tryz.func48, cc48, rr48, Tryz.ntmps48⟩
  · cases h; exact ⟨by kernel_rfl, _, _, Tryz.func55, cc55, rr55, Tryz.ntmps55⟩
  · cases h; exact ⟨by kernel_rfl, _, _, Tryz.func58, cc58, rr58, Tryz.ntmps58⟩
  · cases h; exact ⟨by kernel_rfl, _, _, Tryz.func59, cc59, rr59, Tryz.ntmps59⟩
  · cases h; exact ⟨by kernel_rfl, _, _, Tryz.func66, cc66, rr66, Tryz.ntmps66⟩
  · cases h; exact ⟨by kernel_rfl, _, _, Tryz.func67, cc67, rr67, Tryz.ntmps67⟩
  · cases h; exact ⟨by kernel_rfl, _, _, Tryz.func68, cc68, rr68, Tryz.ntmps68⟩
  · cases h; exact ⟨by kernel_rfl, _, _, Tryz.func69, cc69, rr69, Tryz.ntmps69⟩
  · cases h; exact ⟨by kernel_rfl, _, _, Tryz.func70, cc70, rr70, Tryz.ntmps70⟩
  · cases h; exact ⟨by kernel_rfl, _, _, Tryz.func71, cc71, rr71, Tryz.ntmps71⟩
  · cases h; exact ⟨by kernel_rfl, _, _, Tryz.func72, cc72, rr72, Tryz.ntmps72⟩
  · cases h; exact ⟨by kernel_rfl, _, _, Tryz.func73, cc73, rr73, Tryz.ntmps73⟩
  · cases h; exact ⟨by kernel_rfl, _, _, Tryz.func74, cc74, rr74, Tryz.ntmps74⟩
  · cases h; exact ⟨by kernel_rfl, _, _, Tryz.func75, cc75, rr75, Tryz.ntmps75⟩
  · cases h; exact ⟨by kernel_rfl, _, _, Tryz.func76, cc76, rr76, Tryz.ntmps76⟩
  · cases h; exact ⟨by kernel_rfl, _, _, Tryz.func77, cc77, rr77, Tryz.ntmps77⟩
  · cases h; exact ⟨by kernel_rfl, _, _, Tryz.func86, cc86, rr86, Tryz.ntmps86⟩
  · cases h; exact ⟨by kernel_rfl, _, _, Tryz.func87, cc87, rr87, Tryz.ntmps87⟩
  · cases h; exact ⟨by kernel_rfl, _, _, Tryz.func94, cc94, rr94, Tryz.ntmps94⟩
  · cases h; exact ⟨by kernel_rfl, _, _, Tryz.func95, cc95, rr95, Tryz.ntmps95⟩
  · cases h; exact ⟨by kernel_rfl, _, _, Tryz.func104, cc104, rr104, Tryz.ntmps104⟩
  · cases h; exact ⟨by kernel_rfl, _, _, Tryz.func105, cc105, rr105, Tryz.ntmps105⟩
  · cases h; exact ⟨by kernel_rfl, _, _, Tryz.func106, cc106, rr106, Tryz.ntmps106⟩
  · cases h; exact ⟨by kernel_rfl, _, _, Tryz.func107, cc107, rr107, Tryz.ntmps107⟩
  · cases h; exact ⟨by kernel_rfl, _, _, Tryz.func108, cc108, rr108, Tryz.ntmps108⟩
  · cases h; exact ⟨by kernel_rfl, _, _, Tryz.func109, cc109, rr109, Tryz.ntmps109⟩
  · cases h; exact ⟨by kernel_rfl, _, _, Tryz.func110, cc110, rr110, Tryz.ntmps110⟩
  · cases h; exact ⟨by kernel_rfl, _, _, Tryz.func111, cc111, rr111, Tryz.ntmps111⟩
  · cases h; exact ⟨by kernel_rfl, _, _, Tryz.func112, cc112, rr112, Tryz.ntmps112⟩
  · cases h; exact ⟨by kernel_rfl, _, _, Tryz.func113, cc113, rr113, Tryz.ntmps113⟩
  · cases h; exact ⟨by kernel_rfl, _, _, Tryz.func121, cc121, rr121, Tryz.ntmps121⟩
  · cases h; exact ⟨by kernel_rfl, _, _, Tryz.func122, cc122, rr122, Tryz.ntmps122⟩
  · cases h; exact ⟨by kernel_rfl, _, _, Tryz.func131, cc131, rr131, Tryz.ntmps131⟩
  · cases h
end Go.Proofs.YtmgmoamcbnkbfaaGreatDoor

/- wakesCpu, by evaluation. -/
namespace Go.Proofs.YtmgmoamcbnkbfaaGreatDoor
set_option linter.unusedSimpArgs false
set_option linter.unusedVariables false
set_option maxRecDepth 100000
open Go.RowKit

theorem wakes_c (H : List ABlk) : ACalls Tryz.prog 4 [] H fun v H' => v = .d (.v (.bool true)) ∧ H' = H := env_ok.tells 20 (by kernel_rfl) H
end Go.Proofs.YtmgmoamcbnkbfaaGreatDoor
