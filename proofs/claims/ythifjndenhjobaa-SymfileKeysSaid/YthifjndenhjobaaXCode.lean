/- The functions' code in the small language. Printed by program (wip/tools). -/
import Derived.Test.YthifjndenhjobaaXRead
import Derived.Test.YthifjndenhjobaaProg
import Derived.KernelRfl
namespace Go.Proofs.Ythifjndenhjobaa
set_option linter.unusedVariables false
set_option linter.unusedSimpArgs false
open Go.RowKit
def hh : Nat → Nat → Option Md := fun fn slot => if (fn, slot) ∈ [(110, 7), (110, 36), (110, 50), (136, 8), (34, 3), (40, 1), (51, 1)] then some .gr else if (fn, slot) ∈ [(34, 19), (34, 23), (16, 6), (16, 15)] then some .im else none
abbrev kn (d : Nat) (k : K) : Ins := ⟨some d, k, none⟩
abbrev ky (d g : Nat) (k : K) : Ins := ⟨some d, k, some (g, true)⟩
abbrev ko (d g : Nat) (k : K) : Ins := ⟨some d, k, some (g, false)⟩
abbrev ke (k : K) : Ins := ⟨none, k, none⟩
abbrev kc (n : Int) : Opd := .c (.d (.v (.int .i64 n)))
abbrev kz : AV := .d (.v (.int .i64 0))

end Go.Proofs.Ythifjndenhjobaa
