/- RiderBack, of any argument. -/
import Derived.Test.YtipjjcaflcpplaaRd
import Derived.Test.YtipjjcaflcpplaaWk9
namespace Go.Proofs.Ytipjjcaflcpplaa
open Go.ChangeShapes Go.WideShapes Go.ChangeAt Go.RowKit
theorem riderBack_any {a0 : AV} (h0 : ArgD Try.prog 33 a0) (v0 : Value) (W : World) (hv : VRs ⟨W.cell?, fun _ _ => none⟩ [a0] [v0]) :
    Calls Try.prog 7 #[v0] W fun e w' => e = .returned (.bool true) ∧ Below W.heap.size W w' := by
  obtain ⟨l, rfl, hl⟩ := read_its h0
  exact (RiderBack_c l hl []).law (fun a v h => h) hv
end Go.Proofs.Ytipjjcaflcpplaa
