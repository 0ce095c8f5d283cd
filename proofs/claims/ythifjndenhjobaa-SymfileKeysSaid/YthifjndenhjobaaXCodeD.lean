/- The functions' code in the small language. Printed by program (wip/tools). -/
import Derived.Test.YthifjndenhjobaaXRead
import Derived.Test.YthifjndenhjobaaXCode
import Derived.Test.YthifjndenhjobaaProg
import Derived.KernelRfl
namespace Go.Proofs.Ythifjndenhjobaa
set_option linter.unusedVariables false
set_option linter.unusedSimpArgs false
open Go.RowKit
def hhD : Nat → Nat → Option Md := fun fn slot => if (fn, slot) ∈ [] then some .gr else none

end Go.Proofs.Ythifjndenhjobaa
