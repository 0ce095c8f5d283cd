/- The arguments of the rows. -/
import Derived.Test.YthgffjaiklmbcaaRead
import Derived.Test.YthgffjaiklmbcaaWk1
namespace Go.Proofs.Ythgffjaiklmbcaa
open Go.ChangeShapes Go.WideShapes Go.ChangeAt Go.RowKit
theorem Try.laidOut : laidOutB Try.prog = true := by kernel_rfl
theorem Try.own : ownKnob Try.prog.godebug = none := by kernel_rfl
def argL : List TypeId := [32, 36, 3, 4, 5, 9, 40, 45]
theorem argL_ok : dataB Try.prog argL = true := by kernel_rfl
theorem read_texts {a : AV} (h : ArgD Try.prog 40 a) : ∃ ws : List ByteArray, a = .d (.sl (ws.map sd)) := by
  obtain ⟨es, rfl, hl, he⟩ := h.sl Try.underlying40
  have key : ∀ c : List Dat, ∃ n : ByteArray, c ∈ es → c = sd n := fun c => by
    by_cases hc : c ∈ es
    · obtain ⟨n, e, hn⟩ := (he c hc).str_inv Try.underlying9
      exact ⟨n, fun _ => e⟩
    · exact ⟨⟨#[]⟩, fun h => absurd h hc⟩
  obtain ⟨F, hF⟩ := Classical.axiomOfChoice key
  refine ⟨es.map F, ?_⟩
  congr 2
  rw [List.map_map]
  symm
  conv => rhs; rw [← List.map_id es]
  exact List.map_congr_left fun c hc => (hF c hc).symm
end Go.Proofs.Ythgffjaiklmbcaa
