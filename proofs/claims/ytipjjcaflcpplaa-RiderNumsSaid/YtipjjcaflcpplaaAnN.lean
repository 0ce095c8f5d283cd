/- RiderNums, of any argument. -/
import Derived.Test.YtipjjcaflcpplaaRd
import Derived.Test.YtipjjcaflcpplaaWk7
namespace Go.Proofs.Ytipjjcaflcpplaa
open Go.ChangeShapes Go.WideShapes Go.ChangeAt Go.RowKit
theorem riderNums_any {a0 : AV} (h0 : ArgD Try.prog 3 a0) (v0 : Value) (W : World) (hv : VRs ⟨W.cell?, fun _ _ => none⟩ [a0] [v0]) :
    Calls Try.prog 3 #[v0] W fun e w' => e = .returned (.bool true) ∧ Below W.heap.size W w' := by
  obtain ⟨x, rfl, hx⟩ := h0.int Try.underlying3
  obtain ⟨x0, x1⟩ := wf_i64 hx
  exact (RiderNums_c x x0 x1 []).law (fun a v h => h) hv
end Go.Proofs.Ytipjjcaflcpplaa
