/-
  One's own library, part 10: out of the small language back into the model.
-/
import Derived.Test.YtalhmnijkkihgaaWalk2
import Derived.ProofKit
import Derived.Below
import Derived.ChangeSame
namespace Go.Proofs.Ytalhmnijkkihgaa
set_option linter.unusedVariables false
set_option linter.unusedSimpArgs false
set_option linter.unusedSectionVars false
open Go.ChangeShapes Go.WideShapes Go.ChangeAt Go.RowKit

section
variable {H : Type} {enc : TypeId × Value → H} {P : Program}
/-- The row's last step where what was there is known to stand as it stood (turned from the kit's page on it). -/
theorem post_of_below {f : Func} {s : ChangeSpec} {apart fresh handsOn again : Bool} {W W' : World} {args : Array Value} {v : Value} {ds gs : List (DataW H)} {before pa pv : List MemPlace}
    (hW : DataW.Whole enc P f.params.toList s.vars apart W args.toList ds gs before)
    (hres : ∀ (b : Nat) (sp : Nat → Bool) (hd : Bool), DataW.TrodAll enc P W' b sp hd f.resultTypes.toList (v.resultList f.resultTypes.size) (s.fn H (ds ++ gs)).results [])
    (hargs : ∀ sp : Nat → Bool, (∀ p ∈ before, sp p.block = true) → DataW.TrodAll enc P W' 0 sp true f.params.toList args.toList (s.fn H (ds ++ gs)).args pa)
    (hvars : ∀ sp : Nat → Bool, (∀ p ∈ before, sp p.block = true) → DataW.TrodVars enc P W' sp s.vars (s.fn H (ds ++ gs)).vars pv)
    (hps : before = pa ++ pv) (hb : Below W.heap.size W W')
    (hok : ∀ (j : Nat) (t : TypeId) (r : Value), f.resultTypes[j]? = some t → (v.resultList f.resultTypes.size)[j]? = some r → Value.okWide P W' .any 0 t r) :
    s.post enc P f apart fresh handsOn again W args v W' := by
  have hlt : ∀ p ∈ before, p.block < W.heap.size := fun p hp => hW.lt p hp
  have hold : ∀ p ∈ before, (fun b => decide (b < W.heap.size)) p.block = true := fun p hp => by simpa using hlt p hp
  refine ⟨ds, gs, before, [], pa, pv, hW, hres _ _ _, hargs _ hold, hvars _ hold, World.keptBut_mono (fun p hp => ⟨hp, ?_⟩) (hb.frame (· ∈ before)), fun _ => ?_⟩
  · rw [hps, List.mem_append] at hp
    exact Or.inr hp
  · obtain ⟨_, _, _, _, _, hz, hn⟩ := hW
    refine ⟨hok, _, _, ([] ++ pa) ++ pv, ⟨[] ++ pa, pv, trodAll_append (hargs _ (fun _ _ => rfl)) (hres _ _ _), hvars _ (fun _ _ => rfl), rfl, ?_, ?_⟩, ?_⟩
    · intro b off hp
      have hin : MemPlace.cell b off ∈ before := by rw [hps]; simpa using hp
      rw [hb.frozen (hlt _ hin)]
      exact hz b off hin
    · intro ha
      have := hn ha
      rw [hps] at this
      simpa using this
    · intro p hp _
      rw [hps]
      simpa using hp
end

/-- A contract that begins with no block at hand. -/
theorem ACalls.top {P : Program} {f : FuncId} {args : List AV} {vs : List Value} {w : World} {M : Mem} {R : AV → List ABlk → Prop} (h : ACalls P f args [] R) (hM : ∀ a v, M a = some v → w.cell? a = some v)
    (hv : VRs ⟨M, fun _ _ => none⟩ args vs) : Calls P f vs.toArray w fun e w' => ∃ u σ' H' v, e = .returned u ∧ Below w.heap.size w w' ∧ VR σ' v u ∧ R v H' := by
  refine (h ⟨M, fun _ _ => none⟩ w vs ⟨hM, fun b k hb => by simp at hb, fun _ _ _ => rfl, fun b b' k k' u u' g hb => by simp at hb⟩ hv).mono fun e w' he => ?_
  obtain ⟨σ', H', v, u, e1, x1, x2, x3, x4⟩ := he
  refine ⟨u, σ', H', v, e1, ⟨x1.os, x1.tape, x1.output, x1.size, fun k hk => x1.frame k hk ?_⟩, x3, x4⟩
  rintro ⟨b, blk, v', hb, _⟩
  simp at hb
/-- A law that tells true. -/
theorem ACalls.law {P : Program} {f : FuncId} {args : List AV} {vs : List Value} {w : World} {M : Mem} (h : ACalls P f args [] fun v H' => v = .d (.v (.bool true)) ∧ H' = []) (hM : ∀ a v, M a = some v → w.cell? a = some v)
    (hv : VRs ⟨M, fun _ _ => none⟩ args vs) : Calls P f vs.toArray w fun e w' => e = .returned (.bool true) ∧ Below w.heap.size w w' := by
  refine (h.top hM hv).mono fun e w' he => ?_
  obtain ⟨u, σ', H', v, rfl, x1, x2, rfl, _⟩ := he
  cases x2 with | d hd => cases hd with | v hp => exact ⟨rfl, x1⟩
end Go.Proofs.Ytalhmnijkkihgaa
