/- The arguments of the rows. -/
import Derived.Test.YtipjjcaflcpplaaRead
import Derived.Test.YtipjjcaflcpplaaWk1
namespace Go.Proofs.Ytipjjcaflcpplaa
open Go.ChangeShapes Go.WideShapes Go.ChangeAt Go.RowKit
theorem Try.laidOut : laidOutB Try.prog = true := by kernel_rfl
theorem Try.own : ownKnob Try.prog.godebug = none := by kernel_rfl
def argL : List TypeId := [33, 39, 3, 9]
theorem argL_ok : dataB Try.prog argL = true := by kernel_rfl
/-- What is written or read. -/
structure It where
  kind : Int
  n : Int
  text : ByteArray
instance : Inhabited It := ⟨⟨0, 0, ⟨#[]⟩⟩⟩
def It.c (s : It) : List Dat := [.v (.int .i64 s.kind), .v (.int .i64 s.n), .v (.string s.text)]
def It.Ok (s : It) : Prop := -9223372036854775808 ≤ s.n ∧ s.n < 9223372036854775808
theorem read_it {c : List Dat} (h : TyD Try.prog 39 c) : ∃ s : It, c = s.c ∧ s.Ok := by
  obtain ⟨parts, rfl, hl, hp⟩ := h.st_inv Try.underlying39
  match parts, hl with
  | [p0, p1, p2], _ =>
    obtain ⟨n0, rfl, _⟩ := (hp 0 _ _ rfl rfl).int_inv Try.underlying3
    obtain ⟨n1, rfl, h1⟩ := (hp 1 _ _ rfl rfl).int_inv Try.underlying3
    obtain ⟨n2, rfl, _⟩ := (hp 2 _ _ rfl rfl).str_inv Try.underlying9
    exact ⟨⟨n0, n1, n2⟩, rfl, wf_i64 h1⟩
theorem read_its {a : AV} (h : ArgD Try.prog 33 a) : ∃ st : List It, a = .d (.sl (st.map It.c)) ∧ ∀ s ∈ st, s.Ok := by
  obtain ⟨es, rfl, hl, he⟩ := h.sl Try.underlying33
  have key : ∀ c : List Dat, ∃ s : It, c ∈ es → c = s.c ∧ s.Ok := fun c => by
    by_cases hc : c ∈ es
    · obtain ⟨s, e, hs⟩ := read_it (he c hc)
      exact ⟨s, fun _ => ⟨e, hs⟩⟩
    · exact ⟨default, fun h => absurd h hc⟩
  obtain ⟨F, hF⟩ := Classical.axiomOfChoice key
  refine ⟨es.map F, ?_, fun x hx => ?_⟩
  · congr 2
    rw [List.map_map]
    symm
    conv => rhs; rw [← List.map_id es]
    exact List.map_congr_left fun c hc => ((hF c hc).1).symm
  · obtain ⟨c, hc, rfl⟩ := List.mem_map.1 hx
    exact (hF c hc).2
theorem iaA_it {l : List It} {i : Nat} (h : i < l.length) : iaA (.d (.sl (l.map It.c))) (i : Int) 3 = some (.ip (l.getD i default).c) := by
  simp only [iaA]
  have e : (l.map It.c).getD i [] = (l.getD i default).c := by
    rw [List.getD_eq_getElem?_getD, List.getD_eq_getElem?_getD, List.getElem?_map, List.getElem?_eq_getElem h]; rfl
  rw [if_pos ⟨by omega, by simpa using h, by rw [Int.toNat_natCast, e]; rfl⟩, Int.toNat_natCast, e]
end Go.Proofs.Ytipjjcaflcpplaa
