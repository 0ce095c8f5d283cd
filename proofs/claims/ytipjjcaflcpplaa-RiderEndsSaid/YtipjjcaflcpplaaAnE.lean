/- RiderEnds, of any argument. -/
import Derived.Test.YtipjjcaflcpplaaRd
import Derived.Test.YtipjjcaflcpplaaWk6
namespace Go.Proofs.Ytipjjcaflcpplaa
open Go.ChangeShapes Go.WideShapes Go.ChangeAt Go.RowKit
theorem riderEnds_any {a0 a1 : AV} (h0 : ArgD Try.prog 9 a0) (h1 : ArgD Try.prog 3 a1) (v0 v1 : Value) (W : World) (hv : VRs ⟨W.cell?, fun _ _ => none⟩ [a0, a1] [v0, v1]) :
    Calls Try.prog 6 #[v0, v1] W fun e w' => e = .returned (.bool true) ∧ Below W.heap.size W w' := by
  obtain ⟨s, rfl, _⟩ := h0.str Try.underlying9
  obtain ⟨x, rfl, _⟩ := h1.int Try.underlying3
  exact (RiderEnds_c s x []).law (fun a v h => h) hv
end Go.Proofs.Ytipjjcaflcpplaa
