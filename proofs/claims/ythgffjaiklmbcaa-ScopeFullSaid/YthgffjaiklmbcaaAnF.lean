/- ScopeFull, of any argument. -/
import Derived.Test.YthgffjaiklmbcaaRd
import Derived.Test.YthgffjaiklmbcaaWkf
namespace Go.Proofs.Ythgffjaiklmbcaa
open Go.ChangeShapes Go.WideShapes Go.ChangeAt Go.RowKit
theorem scopeFull_any {a0 a1 : AV} (h0 : ArgD Try.prog 45 a0) (h1 : ArgD Try.prog 4 a1) (v0 v1 : Value) (W : World) (hv : VRs ⟨W.cell?, fun _ _ => none⟩ [a0, a1] [v0, v1]) :
    Calls Try.prog 7 #[v0, v1] W fun e w' => e = .returned (.bool true) ∧ Below W.heap.size W w' := by
  obtain ⟨x, rfl, hx⟩ := h0.int Try.underlying45
  obtain ⟨x0, x1⟩ := wf_u16 hx
  obtain ⟨b, rfl⟩ := h1.bool Try.underlying4
  exact (ScopeFull_c x x0 x1 b []).law (fun a v h => h) hv
end Go.Proofs.Ythgffjaiklmbcaa
