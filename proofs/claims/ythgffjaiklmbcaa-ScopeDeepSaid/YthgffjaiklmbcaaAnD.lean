/- ScopeDeep, of any argument. -/
import Derived.Test.YthgffjaiklmbcaaRd
import Derived.Test.YthgffjaiklmbcaaWke
namespace Go.Proofs.Ythgffjaiklmbcaa
open Go.ChangeShapes Go.WideShapes Go.ChangeAt Go.RowKit
theorem scopeDeep_any {a0 : AV} (h0 : ArgD Try.prog 5 a0) (v0 : Value) (W : World) (hv : VRs ⟨W.cell?, fun _ _ => none⟩ [a0] [v0]) :
    Calls Try.prog 3 #[v0] W fun e w' => e = .returned (.bool true) ∧ Below W.heap.size W w' := by
  obtain ⟨x, rfl, hx⟩ := h0.int Try.underlying5
  obtain ⟨x0, x1⟩ := wf_u8 hx
  exact (ScopeDeep_c x x0 x1 []).law (fun a v h => h) hv
end Go.Proofs.Ythgffjaiklmbcaa
