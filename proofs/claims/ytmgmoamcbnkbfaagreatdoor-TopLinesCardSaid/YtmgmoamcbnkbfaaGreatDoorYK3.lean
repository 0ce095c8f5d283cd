/- strings.Builder: the check that it was not copied; what it tells. -/
import Derived.Test.YtmgmoamcbnkbfaaGreatDoorYK1
import Derived.Test.YtmgmoamcbnkbfaaGreatDoorYCodeA
import Derived.Laws.Externs
set_option linter.unusedVariables false
set_option linter.unusedSimpArgs false
set_option linter.unusedSectionVars false
namespace Go.Proofs.YtmgmoamcbnkbfaaGreatDoor
set_option linter.unusedSimpArgs false
set_option linter.unusedVariables false
set_option maxRecDepth 100000
set_option maxHeartbeats 1000000
open Go.RowKit Go.Shelf

theorem x72 : (Tryz.prog.info? 50).map (·.size) = some 2 := by kernel_rfl
theorem lies72 : liesAt Tryz.prog Tryz.prog.depth 50 (2 / Tryz.prog.cellsOf 50) 0 50 1 = true := by kernel_rfl
/-- At a new builder it stores its own address. -/
theorem ccF_w (g : Nat) (w : World) (h0 : w.cell? ⟨g, 0, none⟩ = some (.pointer none)) (hsh : w.shape? g = some (50, 2)) (hfz : w.frozen? ⟨g, 0, none⟩ = false) :
    Calls Tryz.prog 39 #[.pointer (some ⟨g, 0, none⟩)] w fun e w' => e = .returned (.tuple #[]) ∧ w' = w.setCell ⟨g, 0, none⟩ (.pointer (some ⟨g, 0, none⟩)) := by
  obtain ⟨j, hj, hjs⟩ := Option.map_eq_some_iff.1 x72
  go_enter Tryz.func39, Tryz.ntmps39
  go_wp2
  rw [Lib.run_to_unsafe w ⟨g, 0, none⟩ Tryz.underlying47 Tryz.underlying123 hj (by rw [hjs]; decide) hsh (Nat.zero_lt_succ 1)]
  simp only [Result.andThen]
  rw [Oper.upon_value]
  go_wp2
  rw [run_callFunc_extern Tryz.func65 (by kernel_rfl) (by kernel_rfl) (by kernel_rfl) (e := Extern.AbiNoEscape.same) (by kernel_rfl)]
  rw [Lib.run_noEscape]
  simp only [Result.andThen]
  rw [Oper.upon_value]
  go_wp2
  rw [Lib.run_from_unsafe w ⟨g, 0, none⟩ Tryz.underlying123 Tryz.underlying47 hj hsh lies72]
  simp only [Result.andThen]
  rw [Oper.upon_value]
  go_wp2
  go_end0
  exact ⟨rfl, rfl⟩
theorem ccU_w (g : Nat) (w : World) (h0 : w.cell? ⟨g, 0, none⟩ = some (.pointer (some ⟨g, 0, none⟩))) :
    Calls Tryz.prog 39 #[.pointer (some ⟨g, 0, none⟩)] w fun e w' => e = .returned (.tuple #[]) ∧ w' = w := by
  obtain ⟨j, hj, _⟩ := Option.map_eq_some_iff.1 x72
  go_enter Tryz.func39, Tryz.ntmps39
  go_wp2
  rw [Lib.run_neq_ptr_same w _ Tryz.underlying47 hj]
  go_wp2
  go_end0
  exact ⟨rfl, rfl⟩
end Go.Proofs.YtmgmoamcbnkbfaaGreatDoor

/- strings.Builder over abstract values. -/
namespace Go.Proofs.YtmgmoamcbnkbfaaGreatDoor
set_option linter.unusedSimpArgs false
set_option linter.unusedVariables false
set_option maxRecDepth 100000
set_option maxHeartbeats 1000000
open Go.RowKit Go.Shelf

theorem setCell_row {w : World} {g off : Nat} {cur : Array Value} {t : TypeId} {fr : Nat × Nat} (hg : w.heap[g]? = some (.cells cur t fr)) (v : Value) : w.setCell ⟨g, off, none⟩ v = w.setRow g (cur.setIfInBounds off v) := by
  have hlt : g < w.heap.size := (Array.getElem?_eq_some_iff.1 hg).1
  have hv : w.heap[g] = .cells cur t fr := (Array.getElem?_eq_some_iff.1 hg).2
  have e : (w.setCell ⟨g, off, none⟩ v).heap = (w.setRow g (cur.setIfInBounds off v)).heap := by
    apply Array.ext_getElem?
    intro i
    unfold World.setCell World.setRow
    simp only [Array.getElem?_modify]
    by_cases h : g = i
    · subst h
      simp only [if_true, Array.getElem?_eq_getElem hlt, hv, Option.map_some, Option.isSome_none, Bool.false_eq_true, if_false]
    · simp only [h, if_false]
  unfold World.setCell World.setRow at e ⊢
  simp only [World.mk.injEq, and_true]
  exact e
/-- A new builder is two cells. -/
theorem HR.untag {σ : Sg} {H : List ABlk} {w : World} (h : HR σ H w) {b : Nat} {t : TypeId} (hb : H[b]? = some (.bld t)) : HR σ (H.set b (.cells [.nilp, .esl])) w := by
  have hl0 : b < H.length := (List.getElem?_eq_some_iff.1 hb).1
  obtain ⟨g, h1, h2, h3, h4⟩ := h.blk b _ hb
  refine h.turn (.refl σ) b _ (fun b' hne => by rw [List.getElem?_set_ne (Ne.symm hne)]) (List.getElem?_set_self hl0) (by simp) (fun _ _ _ => rfl) h.mem (.inl ⟨g, #[.pointer none, .slice none 0 0], t, h1, h2, h3, ⟨rfl, fun i c u e1 e2 => ?_⟩, h4⟩) fun b' k v g' hb' hk hl hv hc => ⟨rfl, fun _ _ => rfl, fun v0 _ hv0 hc0 => hb' (h.inj b' b k _ v v0 g' hk hb hl rfl hv hv0 hc hc0)⟩
  match i, e1, e2 with
  | 0, e1, e2 => simp at e1 e2; subst e1; subst e2; exact .nilp
  | 1, e1, e2 => simp at e1 e2; subst e1; subst e2; exact .esl
theorem foot_untag {σ : Sg} {H : List ABlk} {b : Nat} {cs : List AV} {t : TypeId} (hb : H[b]? = some (.bld t)) {k : Nat} : foot σ (H.set b (.cells cs)) k → foot σ H k := by
  have hl0 : b < H.length := (List.getElem?_eq_some_iff.1 hb).1
  rintro ⟨b', blk, v, h1, hl, hφ, hc⟩
  by_cases e : b' = b
  · subst e
    rw [List.getElem?_set_self hl0] at h1
    cases h1
    exact ⟨b', _, v, hb, rfl, hφ, hc⟩
  · rw [List.getElem?_set_ne (Ne.symm e)] at h1
    exact ⟨b', blk, v, h1, hl, hφ, hc⟩
theorem foot_untag2 {σ : Sg} {H : List ABlk} {b : Nat} {cs : List AV} {t : TypeId} (hb : H[b]? = some (.bld t)) {k : Nat} : foot σ H k → foot σ (H.set b (.cells cs)) k := by
  have hl0 : b < H.length := (List.getElem?_eq_some_iff.1 hb).1
  rintro ⟨b', blk, v, h1, hl, hφ, hc⟩
  by_cases e : b' = b
  · subst e
    rw [hb] at h1
    cases h1
    exact ⟨b', .cells cs, v, List.getElem?_set_self hl0, rfl, hφ, hc⟩
  · exact ⟨b', blk, v, by rw [List.getElem?_set_ne (Ne.symm e)]; exact h1, hl, hφ, hc⟩
theorem copy0_c {H : List ABlk} {b : Nat} (hb : H[b]? = some (.bld 50)) : ACalls Tryz.prog 39 [.ptr b 0] H fun v H' => v = .tup [] ∧ H' = H.set b (.cells [.ptr b 0, .esl]) := fun σ w vs h1 h2 => by
  obtain ⟨u, rfl, e1⟩ := h2.one_inv
  cases e1 with
  | ptr hφ =>
    rename_i g
    have hu := h1.untag hb
    have hl0 : b < H.length := (List.getElem?_eq_some_iff.1 hb).1
    obtain ⟨g', k1, k2, k3, k4⟩ := h1.blk b _ hb
    rw [hφ] at k1
    cases k1
    have c0 : w.cell? ⟨g, 0, none⟩ = some (.pointer none) := by simp [World.cell?, k3]
    have sh : w.shape? g = some (50, 2) := by simp [World.shape?, k3]
    have fz : w.frozen? ⟨g, 0, none⟩ = false := by simp [World.frozen?, k3]
    refine (ccF_w g w c0 sh fz).mono fun e w' he => ?_
    obtain ⟨rfl, rfl⟩ := he
    obtain ⟨vs, t, q1, q2, q3, q4⟩ := hu.setCells (cs' := [.ptr b 0, .esl]) (List.getElem?_set_self hl0) hφ
    rw [k3] at q2
    cases q2
    rw [setCell_row k3]
    have q5 := q4 #[.pointer (some ⟨g, 0, none⟩), .slice none 0 0] rfl ⟨rfl, fun i c u e1 e2 => by
      match i, e1, e2 with
      | 0, e1, e2 => simp at e1 e2; subst e1; subst e2; exact .ptr hφ
      | 1, e1, e2 => simp at e1 e2; subst e1; subst e2; exact .esl⟩
    obtain ⟨x, y⟩ := q5
    rw [List.set_set] at x y
    refine ⟨σ, _, _, _, rfl, ⟨x.le, x.os, x.tape, x.output, x.size, fun k hk hf => x.frame k hk fun h => hf (foot_untag hb h), fun k hk => (x.foot k hk).imp (foot_untag hb) id, fun a ha => absurd rfl ha, fun b' hd => ?_⟩, y, VR.tupL .nil, rfl, rfl⟩
    have hne : b ≠ b' := fun e => by rw [← e, hb] at hd; cases hd
    exact ⟨by rw [List.getElem?_set_ne hne]; exact hd, fun _ => rfl⟩
theorem copy1_c {H : List ABlk} {b : Nat} {x : AV} (hb : H[b]? = some (.cells [.ptr b 0, x])) : ACalls Tryz.prog 39 [.ptr b 0] H fun v H' => v = .tup [] ∧ H' = H :=
  ACalls.ofCalls fun σ w vs h1 h2 => by
    obtain ⟨u, rfl, e1⟩ := h2.one_inv
    cases e1 with
    | ptr hφ =>
      rename_i g
      obtain ⟨vs, t, q1, q2, q3, q4⟩ := h1.cellsAt hb hφ
      have c0 : w.cell? ⟨g, 0, none⟩ = some (.pointer (some ⟨g, 0, none⟩)) := by
        have h0 := q3.1
        obtain ⟨u0, us, e0⟩ : ∃ u0 us, vs.toList.take [AV.ptr b 0, x].length = u0 :: us := by
          cases hq : vs.toList.take [AV.ptr b 0, x].length with
          | nil => rw [hq] at h0; cases h0
          | cons u0 us => exact ⟨u0, us, rfl⟩
        have hr := q3.2 0 _ u0 rfl (by rw [e0]; rfl)
        have hv0 : vs[0]? = some u0 := by
          have : (vs.toList.take [AV.ptr b 0, x].length)[0]? = some u0 := by rw [e0]; rfl
          simpa [List.getElem?_take] using this
        cases hr with
        | ptr hφ2 =>
          rw [hφ] at hφ2
          cases hφ2
          simp [World.cell?, q2, hv0]
      refine (ccU_w g w c0).mono fun e w' he => ?_
      obtain ⟨rfl, rfl⟩ := he
      exact ⟨_, rfl, VR.tupL .nil, .refl _ _⟩
end Go.Proofs.YtmgmoamcbnkbfaaGreatDoor
