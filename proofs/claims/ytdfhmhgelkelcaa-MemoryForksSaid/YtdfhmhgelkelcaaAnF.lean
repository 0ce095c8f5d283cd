/- MemoryForks, of any argument. -/
import Derived.Test.YtdfhmhgelkelcaaRd
import Derived.Test.YtdfhmhgelkelcaaWk7
namespace Go.Proofs.Ytdfhmhgelkelcaa
open Go.ChangeShapes Go.WideShapes Go.ChangeAt Go.RowKit
theorem memoryForks_any {a0 a1 a2 : AV} (h0 : ArgD Try.prog 22 a0) (h1 : ArgD Try.prog 23 a1) (h2 : ArgD Try.prog 23 a2) (v0 v1 v2 : Value) (W : World) (hv : VRs ⟨W.cell?, fun _ _ => none⟩ [a0, a1, a2] [v0, v1, v2]) :
    Calls Try.prog 4 #[v0, v1, v2] W fun e w' => e = .returned (.bool true) ∧ Below W.heap.size W w' := by
  obtain ⟨ws, rfl, _, hr⟩ := read_words h0
  obtain ⟨x, rfl, hx⟩ := h1.int Try.underlying23
  obtain ⟨y, rfl, hy⟩ := h2.int Try.underlying23
  obtain ⟨x0, x1⟩ := wf_u32 hx
  obtain ⟨y0, y1⟩ := wf_u32 hy
  exact (MemoryForks_c ws hr x y x0 x1 y0 y1 []).law (fun a v h => h) hv
end Go.Proofs.Ytdfhmhgelkelcaa
