/- The arguments of the rows. -/
import Derived.Test.YtdfhmhgelkelcaaRead
import Derived.Test.YtdfhmhgelkelcaaWk1
import Derived.Test.YtdfhmhgelkelcaaWk3
namespace Go.Proofs.Ytdfhmhgelkelcaa
open Go.ChangeShapes Go.WideShapes Go.ChangeAt Go.RowKit
theorem Try.laidOut : laidOutB Try.prog = true := by kernel_rfl
theorem Try.own : ownKnob Try.prog.godebug = none := by kernel_rfl
def argL : List TypeId := [22, 23, 46, 36, 42, 43, 3]
theorem argL_ok : dataB Try.prog argL = true := by kernel_rfl
theorem read_words {a : AV} (h : ArgD Try.prog 22 a) : ∃ ws : List Int, a = .d (.sl (ws.map ud)) ∧ ws.length ≤ maxLen ∧ ∀ x ∈ ws, 0 ≤ x ∧ x < 4294967296 := by
  obtain ⟨es, rfl, hl, he⟩ := h.sl Try.underlying22
  have key : ∀ c : List Dat, ∃ n : Int, c ∈ es → c = ud n ∧ 0 ≤ n ∧ n < 4294967296 := fun c => by
    by_cases hc : c ∈ es
    · obtain ⟨n, e, hn⟩ := (he c hc).int_inv Try.underlying23
      exact ⟨n, fun _ => ⟨e, wf_u32 hn⟩⟩
    · exact ⟨0, fun h => absurd h hc⟩
  obtain ⟨F, hF⟩ := Classical.axiomOfChoice key
  refine ⟨es.map F, ?_, by simpa using hl, fun x hx => ?_⟩
  · congr 2
    rw [List.map_map]
    symm
    conv => rhs; rw [← List.map_id es]
    exact List.map_congr_left fun c hc => ((hF c hc).1).symm
  · obtain ⟨c, hc, rfl⟩ := List.mem_map.1 hx
    exact (hF c hc).2
end Go.Proofs.Ytdfhmhgelkelcaa
