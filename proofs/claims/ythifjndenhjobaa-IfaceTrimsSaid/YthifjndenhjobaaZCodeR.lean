/- The functions' code in the small language. Printed by program (wip/tools). -/
import Derived.Test.YthifjndenhjobaaZRead
import Derived.Test.YthifjndenhjobaaZCode
import Derived.Test.YthifjndenhjobaaProg
import Derived.KernelRfl
namespace Go.Proofs.Ythifjndenhjobaa
set_option linter.unusedVariables false
set_option linter.unusedSimpArgs false
open Go.RowKit
def hhr : Nat → Nat → Option Md := fun fn slot => if (fn, slot) ∈ [(34, 19), (34, 23), (34, 28), (34, 29), (16, 15), (24, 88), (24, 180), (24, 181)] then some .hp else if (fn, slot) ∈ [(34, 16), (34, 20), (16, 3), (16, 6), (16, 12), (24, 84)] then some .im else none

end Go.Proofs.Ythifjndenhjobaa
