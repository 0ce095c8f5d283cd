/- MemoryEnds, of any argument. -/
import Derived.Test.YtdfhmhgelkelcaaRd
import Derived.Test.YtdfhmhgelkelcaaWk6
namespace Go.Proofs.Ytdfhmhgelkelcaa
open Go.ChangeShapes Go.WideShapes Go.ChangeAt Go.RowKit
theorem memoryEnds_any {a0 a1 : AV} (h0 : ArgD Try.prog 46 a0) (h1 : ArgD Try.prog 23 a1) (v0 v1 : Value) (W : World) (hv : VRs ⟨W.cell?, fun _ _ => none⟩ [a0, a1] [v0, v1]) :
    Calls Try.prog 6 #[v0, v1] W fun e w' => e = .returned (.bool true) ∧ Below W.heap.size W w' := by
  obtain ⟨x, rfl, hx⟩ := h0.int Try.underlying46
  obtain ⟨y, rfl, hy⟩ := h1.int Try.underlying23
  obtain ⟨x0, x1⟩ := wf_u16 hx
  obtain ⟨y0, y1⟩ := wf_u32 hy
  exact (MemoryEnds_c x y x0 x1 y0 y1 []).law (fun a v h => h) hv
end Go.Proofs.Ytdfhmhgelkelcaa
