/- tables.formed, put together. -/
import Derived.Test.YthifjndenhjobaaGreatVT7b
set_option linter.unusedSectionVars false
set_option linter.unusedSimpArgs false
set_option linter.unusedVariables false
set_option maxHeartbeats 4000000
set_option maxRecDepth 20000
namespace Go.Proofs.YthifjndenhjobaaGreat
open Go.RowKit
def conds9 (t : List Ty) (x : Ty) : Prop := (x.base = 0 \/ formA t x.base = 9) /\ x.fields.length <= 64 /\ -1 <= x.desc /\ x.desc < 64
theorem ok9 {t : List Ty} {x : Ty} (f9 : x.form = 9) : okP t x ↔ conds9 t x /\ ∀ f ∈ x.fields, Nm f.name /\ partP (formA t f.typ) := by
 simp [okP, f9, conds9, and_assoc]
def conds11 (t : List Ty) (x : Ty) : Prop := x.params.length <= 64 /\ (x.result = 0 \/ plainP (formA t x.result))
theorem ok11 {t : List Ty} {x : Ty} (f11 : x.form = 11) : okP t x ↔ conds11 t x /\ ∀ p ∈ x.params, partP (formA t p.typ) \/ formA t p.typ = 8 := by
 simp [okP, f11, conds11, and_assoc]
theorem formed_c {t : List Ty} {x : Ty} (ht : t.length <= 9000000) (hfl : x.fields.length <= 9000000) (hpl : x.params.length <= 9000000) (H : List ABlk) : ACalls Tryz.prog 96 [tv t, x.av] H (FormedR t x H) := by
 refine ACalls.enter Tryz.func96 cc96 rr96 fun hcl => ?_
 simp only [Tryz.ntmps96, c96, r96]; refine W.seq_reg ?_; simp (disch := omega) only [go_sem, seval, reduceCtorEq]; refine W.seq_reg ?_; simp (disch := omega) only [go_sem, seval, reduceCtorEq]; refine W.seq_reg ?_; simp (disch := omega) only [Ty.cs, hb_0', hb_1', apS, go_sem, seval, reduceCtorEq]; refine W.seq_reg ?_; simp (disch := omega) only [go_sem, seval, reduceCtorEq]; refine W.cut (JF t x H) (wpA.W ?_) ?_
 ·have hfm : ∀ n : Int, ∀ tl : List ABlk, ACalls Tryz.prog 102 [iv n, .ptr H.length 0] (H ++ (.cells [tv t] :: tl)) fun v H' => v = iv (formA t n) /\ H' = H ++ (.cells [tv t] :: tl) := fun n tl => form_c n ht (by rw [List.getElem?_append_right (Nat.le_refl _)]; simp)
  have hck : callOk Tryz.prog 102 = true := by kernel_rfl
  by_cases f7 : x.form = 7
  ·have k7 := feq f7
   have ew : x.len = (want x).len /\ x.elem = (want x).elem /\ 0 = (want x).base /\ 0 = (want x).result /\ 0 = (want x).desc := by simp [want, f7]
   have ef : lenA .esl = some (want x).fields.length /\ isStr .esl = false := by simp [want, f7, lenA, isStr]
   have ep : lenA .esl = some (want x).params.length /\ isStr .esl = false := by simp [want, f7, lenA, isStr]
   simp (disch := omega) only [Ty.cs, k7, hb_1, hb_2, apS, go_sem, seval, reduceCtorEq]; refine W.dregD [([], []), ([], []), ([], [H.length + 2]), ([], [H.length + 2]), ([], []), ([H.length + 2], []), ([], []), ([H.length + 2], [])] follows (by decide +kernel) rfl rfl (fun z hz b hb => ?_) ?_
   ·simp only [List.mem_cons, List.not_mem_nil, or_false] at hz
    rcases hz with rfl | rfl | rfl | rfl | rfl | rfl | rfl | rfl <;> simp at hb <;> subst hb <;> exact ⟨by simp, by rw [hb_2]; simp⟩
   repeat (rw [DC_p]; simp (disch := omega) only [kill_c, hs_2, hb_1, hb_2, go_sem, seval, reduceCtorEq])
   refine WStep.ev (by simp) (by simp) ?_; simp (disch := omega) only [hb_2, hs_2, go_sem, seval, reduceCtorEq]; refine ⟨FrOk.at_ (H.length + 2) _ (by simp) (by rw [hs_2]), ?_⟩
   repeat (rw [DC_p]; simp (disch := omega) only [kill_c, hs_2, hb_1, hb_2, go_sem, seval, reduceCtorEq])
   refine WStep.ev (by simp) (by simp) ?_; simp (disch := omega) only [hb_1, hb_2, hs_2, go_sem, seval, reduceCtorEq]; refine ⟨FrOk.at_ (H.length + 2) _ (by simp) (by rw [hs_2]), ?_⟩; refine Br.dec (fun a1 => ?_) (fun a1 => ?_) <;> simp (disch := omega) only [hb_1, hb_2, go_sem, seval, reduceCtorEq]
   ·refine Br.dec (fun a2 => ?_) (fun a2 => ?_) <;> simp (disch := omega) only [hb_1, hb_2, go_sem, seval, reduceCtorEq]
    ·refine ⟨hck, Cont.mk (hfm _ _) ?_⟩
     simp (disch := omega) only [go_sem, seval, reduceCtorEq]; refine Cont.mk (part_c _ _) ?_; simp (disch := omega) only [go_sem, seval, reduceCtorEq]; exact JF.fin hcl (B := decide (partP (formA t x.elem))) WkL.wk (by simp [okP, f7, a1, a2]) ew ef ep rfl rfl
    ·exact JF.fin hcl (B := false) WkL.wk (by simp [okP, f7]; intros; omega) ew ef ep rfl rfl
   ·exact JF.fin hcl (B := false) WkL.wk (by simp [okP, f7]; intros; omega) ew ef ep rfl rfl
  have k7 := fne f7
  by_cases f8 : x.form = 8
  ·have k8 := feq f8
   have ew : 0 = (want x).len /\ x.elem = (want x).elem /\ 0 = (want x).base /\ 0 = (want x).result /\ 0 = (want x).desc := by simp [want, f8]
   have ef : lenA .esl = some (want x).fields.length /\ isStr .esl = false := by simp [want, f8, lenA, isStr]
   have ep : lenA .esl = some (want x).params.length /\ isStr .esl = false := by simp [want, f8, lenA, isStr]
   simp (disch := omega) only [Ty.cs, k7, k8, hb_1, hb_2, hs_2, apS, go_sem, seval, reduceCtorEq]; refine ⟨hck, Cont.mk (hfm _ _) ?_⟩; simp (disch := omega) only [go_sem, seval, reduceCtorEq]; refine Cont.mk (part_c _ _) ?_
   by_cases hp : partP (formA t x.elem)
   ·have hp' := decide_eq_true hp
    simp (disch := omega) only [hp', go_sem, seval, reduceCtorEq]; exact JF.fin hcl (B := true) WkL.wk (by simp [okP, f8, hp]) ew ef ep rfl rfl
   ·have hp' := decide_eq_false hp
    simp (disch := omega) only [hp', hb_1, hb_2, go_sem, seval, reduceCtorEq]; refine ⟨hck, Cont.mk (hfm _ _) ?_⟩; simp (disch := omega) only [go_sem, seval, reduceCtorEq]; exact JF.fin hcl (B := decide (formA t x.elem = 8)) WkL.wk (by simp [okP, f8, hp]) ew ef ep rfl rfl
  have k8 := fne f8
  by_cases f9 : x.form = 9
  ·have k9 := feq f9
   have ew : 0 = (want x).len /\ 0 = (want x).elem /\ x.base = (want x).base /\ 0 = (want x).result /\ x.desc = (want x).desc := by simp [want, f9]
   have ef : lenA (fdv x.fields) = some (want x).fields.length /\ isStr (fdv x.fields) = false := by simp [want, f9, lenA, isStr]
   have ep : lenA .esl = some (want x).params.length /\ isStr .esl = false := by simp [want, f9, lenA, isStr]
   simp (disch := omega) only [Ty.cs, k7, k8, k9, hb_1, hb_2, apS, go_sem, seval, reduceCtorEq]; refine W.dregD [([], []), ([], []), ([], [H.length + 2]), ([], [H.length + 2]), ([], [H.length + 2, H.length + 2]), ([], [H.length + 2, H.length + 2]), ([], []), ([H.length + 2], []), ([], []), ([H.length + 2], []), ([], []), ([H.length + 2], [])] follows (by decide +kernel) rfl rfl (fun z hz b hb => ?_) ?_
   ·simp only [List.mem_cons, List.not_mem_nil, or_false] at hz
    rcases hz with rfl | rfl | rfl | rfl | rfl | rfl | rfl | rfl | rfl | rfl | rfl | rfl <;> simp at hb <;> subst hb <;> exact ⟨by simp, by rw [hb_2]; simp⟩
   repeat (rw [DC_p]; simp (disch := omega) only [kill_c, hs_2, hb_1, hb_2, go_sem, seval, reduceCtorEq])
   refine WStep.ev (by simp) (by simp) ?_; simp (disch := omega) only [hb_2, hs_2, go_sem, seval, reduceCtorEq]; refine ⟨FrOk.at_ (H.length + 2) _ (by simp) (by rw [hs_2]), ?_⟩
   repeat (rw [DC_p]; simp (disch := omega) only [kill_c, hs_2, hb_1, hb_2, go_sem, seval, reduceCtorEq])
   refine WStep.ev (by simp) (by simp) ?_; simp (disch := omega) only [hb_1, hb_2, hs_2, go_sem, seval, reduceCtorEq]; refine ⟨FrOk.at_ (H.length + 2) _ (by simp) (by rw [hs_2]), ?_⟩
   repeat (rw [DC_p]; simp (disch := omega) only [kill_c, hs_2, hb_1, hb_2, go_sem, seval, reduceCtorEq])
   refine WStep.ev (by simp) (by simp) ?_; simp (disch := omega) only [hb_1, hb_2, hs_2, go_sem, seval, reduceCtorEq]; refine ⟨FrOk.at_ (H.length + 2) _ (by simp) (by rw [hs_2]), ?_⟩; refine Br.dec (fun c1 => ?_) (fun c1 => ?_) <;> simp (disch := omega) only [hb_1, hb_2, lnm, go_sem, seval, reduceCtorEq]
   ·refine Br.dec (fun c2 => ?_) (fun c2 => ?_) <;> simp (disch := omega) only [hb_1, hb_2, go_sem, seval, reduceCtorEq]
    ·refine Br.dec (fun c3 => ?_) (fun c3 => ?_) <;> simp (disch := omega) only [hb_1, hb_2, go_sem, seval, reduceCtorEq]
     ·refine W.weak (Wk.slots WkL.wk) (W.mono (formed_l1 (x := x) ht hfl (hb_0 _ _ _ _) (by simp) (cl3 hcl rfl rfl) (by simp) (decide (x.desc < 64))) ?_)
      rintro e s H' ⟨rfl, B, hB, rfl, rfl⟩; simp (disch := omega) only [apS, go_sem, seval, reduceCtorEq]; exact JF.fin hcl (B := B) WkL.wk (by rw [hB, ok9 f9]; exact ⟨fun h => ⟨⟨.inl c1, by omega, c3, of_decide_eq_true h.1⟩, h.2⟩, fun h => ⟨decide_eq_true h.1.2.2.2, h.2⟩⟩) ew ef ep rfl rfl
     ·refine W.weak (Wk.slots WkL.wk) (W.mono (formed_l1 (x := x) ht hfl (hb_0 _ _ _ _) (by simp) (cl3 hcl rfl rfl) (by simp) false) ?_)
      rintro e s H' ⟨rfl, B, hB, rfl, rfl⟩; simp (disch := omega) only [apS, go_sem, seval, reduceCtorEq]; exact JF.fin hcl (B := B) WkL.wk (by rw [hB, ok9 f9]; exact ⟨fun h => by simp at h, fun h => absurd h.1 fun hc => by obtain ⟨e1, e2, e3, e4⟩ := hc; omega⟩) ew ef ep rfl rfl
    ·refine W.weak (Wk.slots WkL.wk) (W.mono (formed_l1 (x := x) ht hfl (hb_0 _ _ _ _) (by simp) (cl3 hcl rfl rfl) (by simp) false) ?_)
     rintro e s H' ⟨rfl, B, hB, rfl, rfl⟩; simp (disch := omega) only [apS, go_sem, seval, reduceCtorEq]; exact JF.fin hcl (B := B) WkL.wk (by rw [hB, ok9 f9]; exact ⟨fun h => by simp at h, fun h => absurd h.1 fun hc => by obtain ⟨e1, e2, e3, e4⟩ := hc; omega⟩) ew ef ep rfl rfl
   ·refine ⟨hck, Cont.mk (hfm _ _) ?_⟩
    by_cases c1b : formA t x.base = 9
    ·have k1b := feq c1b
     simp (disch := omega) only [k1b, hb_1, hb_2, lnm, go_sem, seval, reduceCtorEq]; refine Br.dec (fun c2 => ?_) (fun c2 => ?_) <;> simp (disch := omega) only [hb_1, hb_2, go_sem, seval, reduceCtorEq]
     ·refine Br.dec (fun c3 => ?_) (fun c3 => ?_) <;> simp (disch := omega) only [hb_1, hb_2, go_sem, seval, reduceCtorEq]
      ·refine W.weak (Wk.slots WkL.wk) (W.mono (formed_l1 (x := x) ht hfl (hb_0 _ _ _ _) (by simp) (cl3 hcl rfl rfl) (by simp) (decide (x.desc < 64))) ?_)
       rintro e s H' ⟨rfl, B, hB, rfl, rfl⟩; simp (disch := omega) only [apS, go_sem, seval, reduceCtorEq]; exact JF.fin hcl (B := B) WkL.wk (by rw [hB, ok9 f9]; exact ⟨fun h => ⟨⟨.inr c1b, by omega, c3, of_decide_eq_true h.1⟩, h.2⟩, fun h => ⟨decide_eq_true h.1.2.2.2, h.2⟩⟩) ew ef ep rfl rfl
      ·refine W.weak (Wk.slots WkL.wk) (W.mono (formed_l1 (x := x) ht hfl (hb_0 _ _ _ _) (by simp) (cl3 hcl rfl rfl) (by simp) false) ?_)
       rintro e s H' ⟨rfl, B, hB, rfl, rfl⟩; simp (disch := omega) only [apS, go_sem, seval, reduceCtorEq]; exact JF.fin hcl (B := B) WkL.wk (by rw [hB, ok9 f9]; exact ⟨fun h => by simp at h, fun h => absurd h.1 fun hc => by obtain ⟨e1, e2, e3, e4⟩ := hc; omega⟩) ew ef ep rfl rfl
     ·refine W.weak (Wk.slots WkL.wk) (W.mono (formed_l1 (x := x) ht hfl (hb_0 _ _ _ _) (by simp) (cl3 hcl rfl rfl) (by simp) false) ?_)
      rintro e s H' ⟨rfl, B, hB, rfl, rfl⟩; simp (disch := omega) only [apS, go_sem, seval, reduceCtorEq]; exact JF.fin hcl (B := B) WkL.wk (by rw [hB, ok9 f9]; exact ⟨fun h => by simp at h, fun h => absurd h.1 fun hc => by obtain ⟨e1, e2, e3, e4⟩ := hc; omega⟩) ew ef ep rfl rfl
    ·have k1b := fne c1b
     simp (disch := omega) only [k1b, hb_1, hb_2, lnm, go_sem, seval, reduceCtorEq]; refine W.weak (Wk.slots WkL.wk) (W.mono (formed_l1 (x := x) ht hfl (hb_0 _ _ _ _) (by simp) (cl3 hcl rfl rfl) (by simp) false) ?_); rintro e s H' ⟨rfl, B, hB, rfl, rfl⟩; simp (disch := omega) only [apS, go_sem, seval, reduceCtorEq]; exact JF.fin hcl (B := B) WkL.wk (by rw [hB, ok9 f9]; exact ⟨fun h => by simp at h, fun h => absurd h.1 fun hc => by rcases hc.1 with h | h; exact c1 h; exact c1b h⟩) ew ef ep rfl rfl
  have k9 := fne f9
  by_cases f10 : x.form = 10
  ·have k10 := feq f10
   have ew : 0 = (want x).len /\ x.elem = (want x).elem /\ 0 = (want x).base /\ 0 = (want x).result /\ 0 = (want x).desc := by simp [want, f10]
   have ef : lenA .esl = some (want x).fields.length /\ isStr .esl = false := by simp [want, f10, lenA, isStr]
   have ep : lenA .esl = some (want x).params.length /\ isStr .esl = false := by simp [want, f10, lenA, isStr]
   simp (disch := omega) only [Ty.cs, k7, k8, k9, k10, hb_1, hb_2, hs_2, apS, go_sem, seval, reduceCtorEq]; refine ⟨hck, Cont.mk (hfm _ _) ?_⟩; simp (disch := omega) only [go_sem, seval, reduceCtorEq]; exact JF.fin hcl (B := decide (formA t x.elem = 9)) WkL.wk (by simp [okP, f10]) ew ef ep rfl rfl
  have k10 := fne f10
  by_cases f11 : x.form = 11
  ·have k11 := feq f11
   have ew : 0 = (want x).len /\ 0 = (want x).elem /\ 0 = (want x).base /\ x.result = (want x).result /\ 0 = (want x).desc := by simp [want, f11]
   have ef : lenA .esl = some (want x).fields.length /\ isStr .esl = false := by simp [want, f11, lenA, isStr]
   have ep : lenA (pmv x.params) = some (want x).params.length /\ isStr (pmv x.params) = false := by simp [want, f11, lenA, isStr]
   simp (disch := omega) only [Ty.cs, k7, k8, k9, k10, k11, hb_1, hb_2, apS, go_sem, seval, reduceCtorEq]; refine W.dregD [([], []), ([], []), ([], [H.length + 2]), ([], [H.length + 2]), ([], []), ([H.length + 2], []), ([], []), ([H.length + 2], [])] follows (by decide +kernel) rfl rfl (fun z hz b hb => ?_) ?_
   ·simp only [List.mem_cons, List.not_mem_nil, or_false] at hz
    rcases hz with rfl | rfl | rfl | rfl | rfl | rfl | rfl | rfl <;> simp at hb <;> subst hb <;> exact ⟨by simp, by rw [hb_2]; simp⟩
   repeat (rw [DC_p]; simp (disch := omega) only [kill_c, hs_2, hb_1, hb_2, go_sem, seval, reduceCtorEq])
   refine WStep.ev (by simp) (by simp) ?_; simp (disch := omega) only [hb_2, hs_2, go_sem, seval, reduceCtorEq]; refine ⟨FrOk.at_ (H.length + 2) _ (by simp) (by rw [hs_2]), ?_⟩
   repeat (rw [DC_p]; simp (disch := omega) only [kill_c, hs_2, hb_1, hb_2, go_sem, seval, reduceCtorEq])
   refine WStep.ev (by simp) (by simp) ?_; simp (disch := omega) only [hb_1, hb_2, hs_2, lnm, go_sem, seval, reduceCtorEq]; refine ⟨FrOk.at_ (H.length + 2) _ (by simp) (by rw [hs_2]), ?_⟩; refine Br.dec (fun c1 => ?_) (fun c1 => ?_) <;> simp (disch := omega) only [hb_1, hb_2, go_sem, seval, reduceCtorEq]
   ·refine Br.dec (fun c2 => ?_) (fun c2 => ?_) <;> simp (disch := omega) only [hb_1, hb_2, go_sem, seval, reduceCtorEq]
    ·refine W.weak (Wk.slots WkL.wk) (W.mono (formed_l0 (x := x) ht hpl (hb_0 _ _ _ _) (by simp) (cl3 hcl rfl rfl) (by simp) true) ?_)
     rintro e s H' ⟨rfl, B, hB, rfl, rfl⟩; simp (disch := omega) only [apS, go_sem, seval, reduceCtorEq]; exact JF.fin hcl (B := B) WkL.wk (by rw [hB, ok11 f11]; exact ⟨fun h => ⟨⟨by omega, .inl c2⟩, h.2⟩, fun h => ⟨rfl, h.2⟩⟩) ew ef ep rfl rfl
    ·refine ⟨hck, Cont.mk (hfm _ _) ?_⟩
     simp (disch := omega) only [go_sem, seval, reduceCtorEq]; refine Cont.mk (plain_c _ _) ?_
     by_cases hp : plainP (formA t x.result)
     ·have hp' := decide_eq_true hp
      simp (disch := omega) only [hp', hb_1, hb_2, go_sem, seval, reduceCtorEq]; refine W.weak (Wk.slots WkL.wk) (W.mono (formed_l0 (x := x) ht hpl (hb_0 _ _ _ _) (by simp) (cl3 hcl rfl rfl) (by simp) true) ?_); rintro e s H' ⟨rfl, B, hB, rfl, rfl⟩; simp (disch := omega) only [apS, go_sem, seval, reduceCtorEq]; exact JF.fin hcl (B := B) WkL.wk (by rw [hB, ok11 f11]; exact ⟨fun h => ⟨⟨by omega, .inr hp⟩, h.2⟩, fun h => ⟨rfl, h.2⟩⟩) ew ef ep rfl rfl
     ·have hp' := decide_eq_false hp
      simp (disch := omega) only [hp', hb_1, hb_2, go_sem, seval, reduceCtorEq]; refine W.weak (Wk.slots WkL.wk) (W.mono (formed_l0 (x := x) ht hpl (hb_0 _ _ _ _) (by simp) (cl3 hcl rfl rfl) (by simp) false) ?_); rintro e s H' ⟨rfl, B, hB, rfl, rfl⟩; simp (disch := omega) only [apS, go_sem, seval, reduceCtorEq]; exact JF.fin hcl (B := B) WkL.wk (by rw [hB, ok11 f11]; exact ⟨fun h => by simp at h, fun h => absurd h.1 fun hc => by rcases hc.2 with h | h; exact c2 h; exact hp h⟩) ew ef ep rfl rfl
   ·refine W.weak (Wk.slots WkL.wk) (W.mono (formed_l0 (x := x) ht hpl (hb_0 _ _ _ _) (by simp) (cl3 hcl rfl rfl) (by simp) false) ?_)
    rintro e s H' ⟨rfl, B, hB, rfl, rfl⟩; simp (disch := omega) only [apS, go_sem, seval, reduceCtorEq]; exact JF.fin hcl (B := B) WkL.wk (by rw [hB, ok11 f11]; exact ⟨fun h => by simp at h, fun h => absurd h.1 fun hc => by obtain ⟨e1, e2⟩ := hc; omega⟩) ew ef ep rfl rfl
  have k11 := fne f11; have ew : 0 = (want x).len /\ 0 = (want x).elem /\ 0 = (want x).base /\ 0 = (want x).result /\ 0 = (want x).desc := by simp [want, f7, f8, f9, f10, f11]
  have ef : lenA .esl = some (want x).fields.length /\ isStr .esl = false := by simp [want, f9, lenA, isStr]
  have ep : lenA .esl = some (want x).params.length /\ isStr .esl = false := by simp [want, f11, lenA, isStr]
  simp (disch := omega) only [Ty.cs, k7, k8, k9, k10, k11, hb_1, hb_2, hs_2, apS, go_sem, seval, reduceCtorEq]; exact JF.fin hcl (B := false) WkL.wk (by simp [okP, f7, f8, f9, f10, f11]) ew ef ep rfl rfl
 ·exact fun s H' h => formed_tail hcl hfl hpl h
end Go.Proofs.YthifjndenhjobaaGreat
