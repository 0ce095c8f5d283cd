/- The functions' code in the small language. Printed by program (wip/tools). -/
import Derived.Test.YthifjndenhjobaaGreatVRead
import Derived.Test.YthifjndenhjobaaGreatVCode
import Derived.Test.YthifjndenhjobaaGreatProg
import Derived.KernelRfl
set_option linter.unusedSectionVars false
set_option linter.unusedSimpArgs false
set_option linter.unusedVariables false
namespace Go.Proofs.YthifjndenhjobaaGreat
open Go.RowKit
def hhY : Nat -> Nat -> Option Md := fun fn slot => if (fn, slot) ∈ [] then some .gr else none
end Go.Proofs.YthifjndenhjobaaGreat
