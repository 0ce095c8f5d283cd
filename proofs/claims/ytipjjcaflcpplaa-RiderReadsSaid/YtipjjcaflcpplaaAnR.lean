/- RiderReads, of any argument. -/
import Derived.Test.YtipjjcaflcpplaaRd
import Derived.Test.YtipjjcaflcpplaaWkf
namespace Go.Proofs.Ytipjjcaflcpplaa
open Go.ChangeShapes Go.WideShapes Go.ChangeAt Go.RowKit
theorem riderReads_any {a0 a1 : AV} (h0 : ArgD Try.prog 9 a0) (h1 : ArgD Try.prog 33 a1) (v0 v1 : Value) (W : World) (hv : VRs ⟨W.cell?, fun _ _ => none⟩ [a0, a1] [v0, v1]) :
    Calls Try.prog 5 #[v0, v1] W fun e w' => e = .returned (.bool true) ∧ Below W.heap.size W w' := by
  obtain ⟨s, rfl, _⟩ := h0.str Try.underlying9
  obtain ⟨l, rfl, _⟩ := read_its h1
  exact (RiderReads_c s l []).law (fun a v h => h) hv
end Go.Proofs.Ytipjjcaflcpplaa
