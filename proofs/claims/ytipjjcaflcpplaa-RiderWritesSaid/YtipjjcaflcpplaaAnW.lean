/- RiderWrites, of any argument. -/
import Derived.Test.YtipjjcaflcpplaaRd
import Derived.Test.YtipjjcaflcpplaaWkc
namespace Go.Proofs.Ytipjjcaflcpplaa
open Go.ChangeShapes Go.WideShapes Go.ChangeAt Go.RowKit
theorem riderWrites_any {a0 : AV} (h0 : ArgD Try.prog 33 a0) (v0 : Value) (W : World) (hv : VRs ⟨W.cell?, fun _ _ => none⟩ [a0] [v0]) :
    Calls Try.prog 4 #[v0] W fun e w' => e = .returned (.bool true) ∧ Below W.heap.size W w' := by
  obtain ⟨l, rfl, _⟩ := read_its h0
  exact (RiderWrites_c l []).law (fun a v h => h) hv
end Go.Proofs.Ytipjjcaflcpplaa
