/- MemoryPlays, of any argument. -/
import Derived.Test.YtdfhmhgelkelcaaRd
import Derived.Test.YtdfhmhgelkelcaaWka
import Derived.Test.YtdfhmhgelkelcaaWkb
namespace Go.Proofs.Ytdfhmhgelkelcaa
open Go.ChangeShapes Go.WideShapes Go.ChangeAt Go.RowKit
theorem read_step {c : List Dat} (h : TyD Try.prog 43 c) : ∃ s : Stp1, c = s.c ∧ s.Ok := by
  obtain ⟨parts, rfl, hl, hp⟩ := h.st_inv Try.underlying43
  match parts, hl with
  | [p0, p1, p2, p3, p4], _ =>
    obtain ⟨n0, rfl, _⟩ := (hp 0 _ _ rfl rfl).int_inv Try.underlying3
    obtain ⟨n1, rfl, h1⟩ := (hp 1 _ _ rfl rfl).int_inv Try.underlying23
    obtain ⟨n2, rfl, h2⟩ := (hp 2 _ _ rfl rfl).int_inv Try.underlying23
    obtain ⟨n3, rfl, _⟩ := (hp 3 _ _ rfl rfl).int_inv Try.underlying3
    obtain ⟨n4, rfl, _⟩ := (hp 4 _ _ rfl rfl).int_inv Try.underlying3
    exact ⟨⟨n0, n1, n2, n3, n4⟩, rfl, (wf_u32 h1).1, (wf_u32 h1).2, (wf_u32 h2).1, (wf_u32 h2).2⟩
theorem read_steps {a : AV} (h : ArgD Try.prog 36 a) : ∃ st : List Stp1, a = .d (.sl (st.map Stp1.c)) ∧ ∀ s ∈ st, s.Ok := by
  obtain ⟨es, rfl, hl, he⟩ := h.sl Try.underlying36
  have key : ∀ c : List Dat, ∃ s : Stp1, c ∈ es → c = s.c ∧ s.Ok := fun c => by
    by_cases hc : c ∈ es
    · obtain ⟨s, e, hs⟩ := read_step (he c hc)
      exact ⟨s, fun _ => ⟨e, hs⟩⟩
    · exact ⟨default, fun h => absurd h hc⟩
  obtain ⟨F, hF⟩ := Classical.axiomOfChoice key
  refine ⟨es.map F, ?_, fun x hx => ?_⟩
  · congr 2
    rw [List.map_map]
    symm
    conv => rhs; rw [← List.map_id es]
    exact List.map_congr_left fun c hc => ((hF c hc).1).symm
  · obtain ⟨c, hc, rfl⟩ := List.mem_map.1 hx
    exact (hF c hc).2
theorem memoryPlays_any {a0 a1 : AV} (h0 : ArgD Try.prog 22 a0) (h1 : ArgD Try.prog 36 a1) (v0 v1 : Value) (W : World) (hv : VRs ⟨W.cell?, fun _ _ => none⟩ [a0, a1] [v0, v1]) :
    Calls Try.prog 5 #[v0, v1] W fun e w' => e = .returned (.bool true) ∧ Below W.heap.size W w' := by
  obtain ⟨ws, rfl, _, hr⟩ := read_words h0
  obtain ⟨st, rfl, hs⟩ := read_steps h1
  by_cases hn : ws.length ≤ 65536 ∨ 70000 < ws.length
  · exact (MemoryPlays_c ws hr st hs hn []).law (fun a v h => h) hv
  · exact (MemoryPlays_n ws hr st hs (by omega) (by omega) []).law (fun a v h => h) hv
end Go.Proofs.Ytdfhmhgelkelcaa
