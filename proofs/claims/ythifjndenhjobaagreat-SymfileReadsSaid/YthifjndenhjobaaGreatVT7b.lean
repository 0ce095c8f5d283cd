/- tables.formed: its end. -/
import Derived.Test.YthifjndenhjobaaGreatVT7
set_option linter.unusedSectionVars false
set_option linter.unusedSimpArgs false
set_option linter.unusedVariables false
set_option maxHeartbeats 4000000
set_option maxRecDepth 20000
namespace Go.Proofs.YthifjndenhjobaaGreat
open Go.RowKit
theorem feq {a b : Int} (h : a = b) : (a == b) = true /\ decide (a = b) = true := ⟨beq_iff_eq.2 h, decide_eq_true h⟩
theorem fne {a b : Int} (h : ¬ a = b) : (a == b) = false /\ decide (a = b) = false := ⟨beq_eq_false_iff_ne.2 h, decide_eq_false h⟩
theorem name_t {s : ByteArray} (h : Nm s) (H : List ABlk) : ACalls Tryz.prog 104 [sv s] H fun v H' => v = bv true /\ H' = H := (name_c s H).mono fun v H' e => by rw [nm_t h] at e; exact e
theorem name_f {s : ByteArray} (h : ¬ Nm s) (H : List ABlk) : ACalls Tryz.prog 104 [sv s] H fun v H' => v = bv false /\ H' = H := (name_c s H).mono fun v H' e => by rw [nm_f h] at e; exact e
def tl53 : AC := match c96 with | .seq _ (.seq _ (.seq _ (.seq _ (.seq _ z)))) => z | _ => .skip
abbrev SN (H : List ABlk) (B N : Bool) : List AV := SF H B ++ [.any, .any, .any, .any, bv N]
theorem formed_tail {t : List Ty} {x : Ty} {H : List ABlk} (hcl : cl H) (hfl : x.fields.length <= 9000000) (hpl : x.params.length <= 9000000) {s : List AV} {H' : List ABlk} (h : JF t x H s H') : W Tryz.prog (hh 96) H.length tl53 s H' (retW [RC.t 4] H.length (FormedR t x H)) := by
 obtain ⟨B, wf, wp, hB, ⟨hwf, hwf'⟩, ⟨hwp, hwp'⟩, rfl, rfl⟩ := h; simp only [tl53, c96]; simp only [lenA, isStr] at hwf hwf' hwp hwp'; refine W.cut (fun s H' => ∃ N : Bool, (N = true ↔ namedP x) /\ s = SN H B N ++ List.replicate 251 .any /\ H' = H ++ hbx t x (want x).len (want x).elem (want x).base wf wp (want x).result (want x).desc) (wpA.W ?_) ?_
 ·by_cases hm : x.mod = se
  ·by_cases hn : x.name = se
   ·by_cases h9 : x.form = 9
    ·have k9 := feq h9
     simp (maxSteps := 2000000) (disch := omega) only [Ty.cs, hm, hn, k9, hb_1, hb_2, apS, go_sem, seval, reduceCtorEq]; refine Cont.mk (name_f not_Nm_se _) ?_; simp (maxSteps := 2000000) (disch := omega) only [Ty.cs, hm, hn, k9, hb_1, hb_2, go_sem, seval, reduceCtorEq]; exact ⟨_, _, Wk.slots WkL.wk, false, by simp [namedP, hm, hn, h9, not_Nm_se], rfl, rfl⟩
    ·have k9 := fne h9
     simp (maxSteps := 2000000) (disch := omega) only [Ty.cs, hm, hn, k9, hb_1, hb_2, apS, go_sem, seval, reduceCtorEq]; exact ⟨_, _, Wk.slots WkL.wk, true, by simp [namedP, hm, hn, h9], rfl, rfl⟩
   ·have kn := decide_eq_false hn
    simp (maxSteps := 2000000) (disch := omega) only [Ty.cs, hm, kn, hb_1, hb_2, apS, go_sem, seval, reduceCtorEq]; refine Cont.mk (name_f not_Nm_se _) ?_; simp (maxSteps := 2000000) (disch := omega) only [Ty.cs, hm, kn, hb_1, hb_2, go_sem, seval, reduceCtorEq]; exact ⟨_, _, Wk.slots WkL.wk, false, by simp [namedP, hm, hn, not_Nm_se], rfl, rfl⟩
  ·have km := decide_eq_false hm
   simp (maxSteps := 2000000) (disch := omega) only [Ty.cs, km, hb_1, hb_2, apS, go_sem, seval, reduceCtorEq]
   by_cases hnm : Nm x.mod
   ·refine Cont.mk (name_t hnm _) ?_
    simp (maxSteps := 2000000) (disch := omega) only [Ty.cs, hb_1, hb_2, go_sem, seval, reduceCtorEq]
    by_cases hnn : Nm x.name
    ·refine Cont.mk (name_t hnn _) ?_
     simp (maxSteps := 2000000) (disch := omega) only [Ty.cs, hb_1, hb_2, go_sem, seval, reduceCtorEq]; exact ⟨_, _, Wk.slots WkL.wk, true, by simp [namedP, hnm, hnn], rfl, rfl⟩
    ·refine Cont.mk (name_f hnn _) ?_
     by_cases hn : x.name = se
     ·have kn := decide_eq_true hn
      simp (maxSteps := 2000000) (disch := omega) only [Ty.cs, kn, hb_1, hb_2, go_sem, seval, reduceCtorEq]; exact ⟨_, _, Wk.slots WkL.wk, decide (x.form = 9), by simp [namedP, hnm, hn, not_Nm_se, hm], rfl, rfl⟩
     ·have kn := decide_eq_false hn
      simp (maxSteps := 2000000) (disch := omega) only [Ty.cs, kn, hb_1, hb_2, go_sem, seval, reduceCtorEq]; exact ⟨_, _, Wk.slots WkL.wk, false, by simp [namedP, hnn, hn], rfl, rfl⟩
   ·refine Cont.mk (name_f hnm _) ?_
    simp (maxSteps := 2000000) (disch := omega) only [Ty.cs, hb_1, hb_2, go_sem, seval, reduceCtorEq]; exact ⟨_, _, Wk.slots WkL.wk, false, by simp [namedP, hnm, hm], rfl, rfl⟩
 ·rintro s H' ⟨N, hN, rfl, rfl⟩
  refine wpA.W ?_; have fin : ∀ {v : Bool}, (v = true ↔ FormedP t x) -> ∀ l, Ret [RC.t 4] H.length (FormedR t x H) (some (bv v)) (H ++ l) := fun {v} e l => Ret.drop (bv v) H (Nat.le_refl _) hcl (.rfl _) (by simp [refs]) ⟨⟨v, rfl, e⟩, rfl⟩
  have no : ∀ {p : Prop}, (FormedP t x -> p) -> ¬ p -> (false = true ↔ FormedP t x) := fun h hp => ⟨fun h => by simp at h, fun k => absurd (h k) hp⟩
  cases hBv : B with
  | false =>
   simp (maxSteps := 2000000) (disch := omega) only [Ty.cs, hb_1, hb_2, apS, go_sem, seval, reduceCtorEq]; exact fin (no (fun k => hB.2 k.1) (by simp [hBv])) _
  | true =>
  cases hNv : N with
  | false =>
   simp (maxSteps := 2000000) (disch := omega) only [Ty.cs, hb_1, hb_2, apS, go_sem, seval, reduceCtorEq]; exact fin (no (fun k => hN.2 k.2.1) (by simp [hNv])) _
  | true =>
  have k1 := hB.1 hBv; have k2 := hN.1 hNv; simp (maxSteps := 2000000) (disch := omega) only [Ty.cs, hb_1, hb_2, apS, go_sem, seval, reduceCtorEq]; refine Br.dec (fun c1 => ?_) (fun c1 => ?_)
  rotate_left
  ·simp (maxSteps := 2000000) (disch := omega) only [Ty.cs, hb_1, hb_2, go_sem, seval, reduceCtorEq]
   exact fin (no (fun k => k.2.2.1) c1) _
  simp (maxSteps := 2000000) (disch := omega) only [Ty.cs, hb_1, hb_2, go_sem, seval, reduceCtorEq]; refine Br.dec (fun c2 => ?_) (fun c2 => ?_)
  rotate_left
  ·simp (maxSteps := 2000000) (disch := omega) only [Ty.cs, hb_1, hb_2, go_sem, seval, reduceCtorEq]
   exact fin (no (fun k => k.2.2.2.1) c2) _
  simp (maxSteps := 2000000) (disch := omega) only [Ty.cs, hb_1, hb_2, go_sem, seval, reduceCtorEq]; refine Br.dec (fun c3 => ?_) (fun c3 => ?_)
  rotate_left
  ·simp (maxSteps := 2000000) (disch := omega) only [Ty.cs, hb_1, hb_2, go_sem, seval, reduceCtorEq]
   exact fin (no (fun k => k.2.2.2.2.1) c3) _
  simp (maxSteps := 2000000) (disch := omega) only [Ty.cs, hb_1, hb_2, go_sem, seval, reduceCtorEq]; refine Br.dec (fun c4 => ?_) (fun c4 => ?_)
  rotate_left
  ·simp (maxSteps := 2000000) (disch := omega) only [Ty.cs, hb_1, hb_2, go_sem, seval, reduceCtorEq]
   exact fin (no (fun k => k.2.2.2.2.2.1) c4) _
  simp (maxSteps := 2000000) (disch := omega) only [Ty.cs, hb_1, hb_2, go_sem, seval, reduceCtorEq]; refine Br.dec (fun c5 => ?_) (fun c5 => ?_)
  rotate_left
  ·simp (maxSteps := 2000000) (disch := omega) only [Ty.cs, hb_1, hb_2, go_sem, seval, reduceCtorEq]
   exact fin (no (fun k => k.2.2.2.2.2.2.1) c5) _
  simp (maxSteps := 2000000) (disch := omega) only [Ty.cs, hb_1, hb_2, hwf, hwf', lnm, go_sem, seval, reduceCtorEq]; refine Br.dec (fun c6 => ?_) (fun c6 => ?_)
  rotate_left
  ·simp (maxSteps := 2000000) (disch := omega) only [Ty.cs, hb_1, hb_2, go_sem, seval, reduceCtorEq]
   exact fin (no (fun k => by have := k.2.2.2.2.2.2.2.1; omega) c6) _
  simp (maxSteps := 2000000) (disch := omega) only [Ty.cs, hb_1, hb_2, hwp, hwp', lnm, go_sem, seval, reduceCtorEq]; exact fin ⟨fun h => ⟨k1, k2, c1, c2, c3, c4, c5, by omega, by have := of_decide_eq_true h; omega⟩, fun h => decide_eq_true (by have := h.2.2.2.2.2.2.2.2; omega)⟩ _
end Go.Proofs.YthifjndenhjobaaGreat
