/- The functions' code in the small language. Printed by program (wip/tools). -/
import Derived.Test.YthifjndenhjobaaZRead
import Derived.Test.YthifjndenhjobaaZCode
import Derived.Test.YthifjndenhjobaaProg
import Derived.KernelRfl
namespace Go.Proofs.Ythifjndenhjobaa
set_option linter.unusedVariables false
set_option linter.unusedSimpArgs false
open Go.RowKit
def hht : Nat → Nat → Option Md := fun fn slot => if (fn, slot) ∈ [(42, 43), (87, 5), (87, 7), (88, 5), (88, 7)] then some .hp else if (fn, slot) ∈ [(42, 42)] then some .im else none

end Go.Proofs.Ythifjndenhjobaa
