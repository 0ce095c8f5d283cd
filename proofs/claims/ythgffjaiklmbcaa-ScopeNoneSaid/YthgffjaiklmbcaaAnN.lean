/- ScopeNone, of any argument. -/
import Derived.Test.YthgffjaiklmbcaaRd
import Derived.Test.YthgffjaiklmbcaaWkd
namespace Go.Proofs.Ythgffjaiklmbcaa
open Go.ChangeShapes Go.WideShapes Go.ChangeAt Go.RowKit
theorem scopeNone_any {a0 a1 : AV} (h0 : ArgD Try.prog 9 a0) (h1 : ArgD Try.prog 3 a1) (v0 v1 : Value) (W : World) (hv : VRs ⟨W.cell?, fun _ _ => none⟩ [a0, a1] [v0, v1]) :
    Calls Try.prog 6 #[v0, v1] W fun e w' => e = .returned (.bool true) ∧ Below W.heap.size W w' := by
  obtain ⟨s, rfl, _⟩ := h0.str Try.underlying9
  obtain ⟨x, rfl, _⟩ := h1.int Try.underlying3
  exact (ScopeNone_c s x []).law (fun a v h => h) hv
end Go.Proofs.Ythgffjaiklmbcaa
