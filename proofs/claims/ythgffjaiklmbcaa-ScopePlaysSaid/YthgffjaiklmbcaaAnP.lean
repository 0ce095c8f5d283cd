/- ScopePlays, of any argument. -/
import Derived.Test.YthgffjaiklmbcaaRd
import Derived.Test.YthgffjaiklmbcaaWkh
namespace Go.Proofs.Ythgffjaiklmbcaa
open Go.ChangeShapes Go.WideShapes Go.ChangeAt Go.RowKit
theorem read_sq {c : List Dat} (h : TyD Try.prog 36 c) : ∃ s : Sq, c = s.c := by
  obtain ⟨parts, rfl, hl, hp⟩ := h.st_inv Try.underlying36
  match parts, hl with
  | [p0, p1, p2], _ =>
    obtain ⟨n0, rfl, _⟩ := (hp 0 _ _ rfl rfl).int_inv Try.underlying3
    obtain ⟨n1, rfl, _⟩ := (hp 1 _ _ rfl rfl).str_inv Try.underlying9
    obtain ⟨n2, rfl, _⟩ := (hp 2 _ _ rfl rfl).int_inv Try.underlying3
    exact ⟨⟨n0, n1, n2⟩, rfl⟩
theorem read_sqs {a : AV} (h : ArgD Try.prog 32 a) : ∃ st : List Sq, a = .d (.sl (st.map Sq.c)) := by
  obtain ⟨es, rfl, hl, he⟩ := h.sl Try.underlying32
  have key : ∀ c : List Dat, ∃ s : Sq, c ∈ es → c = s.c := fun c => by
    by_cases hc : c ∈ es
    · obtain ⟨s, e⟩ := read_sq (he c hc)
      exact ⟨s, fun _ => e⟩
    · exact ⟨default, fun h => absurd h hc⟩
  obtain ⟨F, hF⟩ := Classical.axiomOfChoice key
  refine ⟨es.map F, ?_⟩
  congr 2
  rw [List.map_map]
  symm
  conv => rhs; rw [← List.map_id es]
  exact List.map_congr_left fun c hc => (hF c hc).symm
theorem scopePlays_any {a0 : AV} (h0 : ArgD Try.prog 32 a0) (v0 : Value) (W : World) (hv : VRs ⟨W.cell?, fun _ _ => none⟩ [a0] [v0]) :
    Calls Try.prog 4 #[v0] W fun e w' => e = .returned (.bool true) ∧ Below W.heap.size W w' := by
  obtain ⟨l, rfl⟩ := read_sqs h0
  exact (ScopePlays_c l []).law (fun a v h => h) hv
end Go.Proofs.Ythgffjaiklmbcaa
