/- ScopeBack, of any argument. -/
import Derived.Test.YthgffjaiklmbcaaRd
import Derived.Test.YthgffjaiklmbcaaWkg
namespace Go.Proofs.Ythgffjaiklmbcaa
open Go.ChangeShapes Go.WideShapes Go.ChangeAt Go.RowKit
theorem scopeBack_any {a0 a1 : AV} (h0 : ArgD Try.prog 40 a0) (h1 : ArgD Try.prog 40 a1) (v0 v1 : Value) (W : World) (hv : VRs ⟨W.cell?, fun _ _ => none⟩ [a0, a1] [v0, v1]) :
    Calls Try.prog 5 #[v0, v1] W fun e w' => e = .returned (.bool true) ∧ Below W.heap.size W w' := by
  obtain ⟨la, rfl⟩ := read_texts h0
  obtain ⟨lw, rfl⟩ := read_texts h1
  exact (ScopeBack_c la lw []).law (fun a v h => h) hv
end Go.Proofs.Ythgffjaiklmbcaa
