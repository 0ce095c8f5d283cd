/- An expression that came in, as an abstract value. -/
import Derived.Test.YtpajelfgipdmhaaLaw
import Derived.Test.YtpajelfgipdmhaaTop
import Derived.Deep.Slices
namespace Go.Proofs.Ytpajelfgipdmhaa
open Go.ChangeShapes Go.WideShapes Go.ChangeAt Go.RowKit

section
variable {H : Type} {enc : TypeId × Value → H} {w : World} {base : Nat} {spare : Nat → Bool} {held : Bool}
theorem read_expr (N : Nat) : ∀ (fuel : Nat) (cs : List Value) (x : DataW H × List MemPlace), fuel < N → DataW.trod enc Try.prog w base spare held fuel 24 cs = some x → ∃ e : Ex, VDs w.cell? e.cells cs ∧ Ex.Ok maxLen e := by
  induction N with
  | zero => intro f cs x h; omega
  | succ N ih =>
  intro fuel cs x hN h
  obtain ⟨xs, n, hn, hx, hl, hxl, hf⟩ := DataW.trod_struct Try.underlying24 h
  have c24 : Try.prog.cellsOf 24 = 6 := by kernel_rfl
  have c3 : Try.prog.cellsOf 3 = 1 := by kernel_rfl
  have c9 : Try.prog.cellsOf 9 = 1 := by kernel_rfl
  have c22 : Try.prog.cellsOf 22 = 1 := by kernel_rfl
  rw [c24] at hl
  match cs, hl, xs, hxl with
  | [v0, v1, v2, v3, v4, v5], _, [y0, y1, y2, y3, y4, y5], _ =>
    have h0 : DataW.trod enc Try.prog w base spare held n 3 [v0] = some y0 := by simpa [c3] using hf 0 _ rfl
    have h1 : DataW.trod enc Try.prog w base spare held n 3 [v1] = some y1 := by simpa [c3] using hf 1 _ rfl
    have h2 : DataW.trod enc Try.prog w base spare held n 9 [v2] = some y2 := by simpa [c9] using hf 2 _ rfl
    have h3 : DataW.trod enc Try.prog w base spare held n 9 [v3] = some y3 := by simpa [c9] using hf 3 _ rfl
    have h4 : DataW.trod enc Try.prog w base spare held n 22 [v4] = some y4 := by simpa [c22] using hf 4 _ rfl
    have h5 : DataW.trod enc Try.prog w base spare held n 3 [v5] = some y5 := by simpa [c3] using hf 5 _ rfl
    obtain ⟨a0, e0, _, _⟩ := DataW.trod_int Try.underlying3 h0
    obtain ⟨a1, e1, _, _⟩ := DataW.trod_int Try.underlying3 h1
    obtain ⟨s2, e2, _, _⟩ := DataW.trod_string Try.underlying9 h2
    obtain ⟨s3, e3, _, _⟩ := DataW.trod_string Try.underlying9 h3
    obtain ⟨a5, e5, _, _⟩ := DataW.trod_int Try.underlying3 h5
    cases e0; cases e1; cases e2; cases e3; cases e5
    have fin : ∀ args : List Ex, VD w.cell? (.sl (Ex.cellsL args)) v4 → Ex.OkL maxLen args → ∃ e : Ex, VDs w.cell? e.cells [.int .i64 a0, .int .i64 a1, .string s2, .string s3, v4, .int .i64 a5] ∧ Ex.Ok maxLen e := fun args hv ho =>
      ⟨.mk a0 a1 s2 s3 args a5, by
        refine ⟨rfl, fun i d u hd hu => ?_⟩
        simp only [Ex.cells] at hd
        match i, hd, hu with
        | 0, hd, hu => simp at hd hu; subst hd; subst hu; exact .v rfl
        | 1, hd, hu => simp at hd hu; subst hd; subst hu; exact .v rfl
        | 2, hd, hu => simp at hd hu; subst hd; subst hu; exact .v rfl
        | 3, hd, hu => simp at hd hu; subst hd; subst hu; exact .v rfl
        | 4, hd, hu => simp at hd hu; subst hd; subst hu; exact hv
        | 5, hd, hu => simp at hd hu; subst hd; subst hu; exact .v rfl
        | i + 6, hd, hu => simp at hd, .mk ho.1 ho.2⟩
    rcases DataW.trod_slice Try.underlying22 h4 with hnil | ⟨a, len, cap, elems, rest, n', hn', hcs, hxx, hb, hle, hmx, hlen, hel, hsp, hns⟩
    · obtain ⟨e4, _⟩ := hnil
      cases e4
      exact fin [] .nil ⟨Nat.zero_le _, by simp⟩
    · cases hcs
      have key : ∀ i, ∃ ec : Ex × List Value, i < len → (VDs w.cell? ec.1.cells ec.2 ∧ Ex.Ok maxLen ec.1 ∧ ∀ (j : Nat) (v : Value), ec.2[j]? = some v → w.cell? (a.add (i * 6 + j)) = some v) := by
        intro i
        by_cases hi : i < len
        · have h1 := hel i hi
          rw [List.getElem?_eq_getElem (show i < elems.length by omega), c24] at h1
          obtain ⟨cs', hc', ht'⟩ := Option.bind_eq_some_iff.1 h1
          obtain ⟨e, hv, ho⟩ := ih n' cs' _ (by omega) ht'
          obtain ⟨_, hcl, hat⟩ := World.cells?_some hc'
          refine ⟨(e, cs'), fun _ => ⟨hv, ho, fun j v hj => ?_⟩⟩
          have hj6 : j < 6 := by have h6 : j < cs'.length := (List.getElem?_eq_some_iff.1 hj).1; omega
          rw [← Go.Deep.add_add, hat j hj6]
          exact hj
        · exact ⟨(.mk 0 0 ⟨#[]⟩ ⟨#[]⟩ [] 0, []), fun h => absurd h hi⟩
      obtain ⟨F, hF⟩ := Classical.axiomOfChoice key
      have hget : ∀ (i : Nat) (e : List Dat), (Ex.cellsL ((List.range len).map fun i => (F i).1))[i]? = some e → i < len ∧ e = (F i).1.cells := by
        intro i e he
        rw [Ex.cellsL_eq, List.map_map, List.getElem?_map] at he
        by_cases hi : i < len
        · rw [List.getElem?_range hi] at he
          simp at he
          exact ⟨hi, he.symm⟩
        · rw [List.getElem?_eq_none (by simp; omega)] at he; simp at he
      refine fin ((List.range len).map fun i => (F i).1) ?_ ⟨by simp; omega, fun e he => ?_⟩
      · have hlen' : (Ex.cellsL ((List.range len).map fun i => (F i).1)).length = len := by rw [Ex.cellsL_len]; simp
        rcases Nat.eq_zero_or_pos len with h0 | hpos
        · subst h0; exact .nil
        · have := VD.sl (M := w.cell?) (es := Ex.cellsL ((List.range len).map fun i => (F i).1)) (a := a) (cap := cap) (sz := 6) (fun i j => (F i).2.getD j undef) (by intro hc; rw [hc] at hlen'; simp at hlen'; omega) (by omega) hmx ?_ ?_ ?_
          · rw [hlen'] at this; exact this
          · intro e he
            rw [Ex.cellsL_eq] at he
            obtain ⟨y, _, rfl⟩ := List.mem_map.1 he
            exact y.cells_len
          · intro i e j d he hd
            obtain ⟨hi, rfl⟩ := hget i e he
            have hj : j < (F i).2.length := by rw [← (hF i hi).1.1]; exact (List.getElem?_eq_some_iff.1 hd).1
            have hjv := List.getElem?_eq_getElem hj
            rw [show (F i).2.getD j undef = (F i).2[j] by simp [hj]]
            exact (hF i hi).2.2 j _ hjv
          · intro i e j d he hd
            obtain ⟨hi, rfl⟩ := hget i e he
            have hj : j < (F i).2.length := by rw [← (hF i hi).1.1]; exact (List.getElem?_eq_some_iff.1 hd).1
            have hjv := List.getElem?_eq_getElem hj
            rw [show (F i).2.getD j undef = (F i).2[j] by simp [hj]]
            exact (hF i hi).1.2 j d _ hd hjv
      · obtain ⟨i, hi, rfl⟩ := List.mem_map.1 he
        exact (hF i (List.mem_range.1 hi)).2.1
/-- The argument. -/
theorem read_arg {r : Go.Reach} {b0 : Nat} {v : Value} {d : DataW H} {p : List MemPlace} (hv : Value.okWide Try.prog w r b0 24 v) (h : DataW.Trod enc Try.prog w base spare held 24 v d p) :
    ∃ e : Ex, VR ⟨w.cell?, fun _ _ => none⟩ e.av v ∧ Ex.Ok maxLen e := by
  obtain ⟨cs, rfl, hsz⟩ := okWide_struct Try.underlying24 hv
  obtain ⟨fuel, hf⟩ := h
  obtain ⟨e, h1, h2⟩ := read_expr _ fuel _ _ (Nat.lt_succ_self _) hf
  have h1' : VDs w.cell? e.cells cs.toList := h1
  refine ⟨e, ?_, h2⟩
  have := VR.agg (σ := ⟨w.cell?, fun _ _ => none⟩) (cs := e.cells.map .d) (us := cs.toList) (by rw [List.length_map]; exact h1'.1) (fun i c u hc hu => by
    rw [List.getElem?_map] at hc
    cases hd : e.cells[i]? with
    | none => rw [hd] at hc; simp at hc
    | some d => rw [hd] at hc; simp at hc; subst hc; exact .d (h1'.2 i d u hd hu))
  rw [show cs.toList.toArray = cs by simp] at this
  exact this
end
end Go.Proofs.Ytpajelfgipdmhaa
