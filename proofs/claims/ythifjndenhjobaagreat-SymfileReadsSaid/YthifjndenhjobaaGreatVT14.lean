/- The reference: one type by itself, put together. -/
import Derived.Test.YthifjndenhjobaaGreatVP4
set_option linter.unusedSectionVars false
set_option linter.unusedSimpArgs false
set_option linter.unusedVariables false
set_option maxHeartbeats 8000000
set_option maxRecDepth 20000
namespace Go.Proofs.YthifjndenhjobaaGreat
open Go.RowKit
theorem hz_0 (H : List ABlk) (a : ABlk) : (H ++ [a])[H.length]? = some a := by rw [List.getElem?_append_right (Nat.le_refl _)]; simp
theorem one_c {t : List Ty} (hs : Small t) (hn : FNames t) {a : Int} (ha : placeP t a) (H : List ABlk) : ACalls Tryz.prog 79 [tv t, iv a] H (OneR t a H) := by
 refine ACalls.enter Tryz.func79 cc79 rr79 fun hcl => ?_
 have htl := hs.1; have hty := iaA_ty ha.1 ha.2; obtain ⟨x1, x2, x3, x4⟩ := hs.2 _ (tyAt_mem ha.1 ha.2); have hrc := record_c hs hn ha; obtain ⟨R, hR⟩ : ∃ R, R = OneR t a H := ⟨_, rfl⟩; have hO : OneP t a ↔ ok1 (tyAt t a) /\ ok2 (tyAt t a) /\ ok3 (tyAt t a) /\ swP t a (tyAt t a) := Iff.rfl; have fin : ∀ {v : Bool}, (v = true ↔ OneP t a) -> ∀ l, Ret r79 H.length R (some (bv v)) (H ++ l) := fun {v} e l => Ret.drop (bv v) H (Nat.le_refl _) hcl (.rfl _) (by simp [refs]) (by rw [hR]; exact ⟨⟨v, rfl, e⟩, rfl⟩)
 have no : ∀ {p : Prop}, (OneP t a -> p) -> ¬ p -> ∀ l, Ret r79 H.length R (some (bv false)) (H ++ l) := fun h hp l => fin ⟨fun h => by simp at h, fun k => absurd (h k) hp⟩ l
 rw [<- hR]; clear hR
 generalize hx : tyAt t a = x at *
 simp only [Tryz.ntmps79, c79, r79]; refine W.seq_reg ?_; simp (maxSteps := 2000000) (disch := omega) only [go_sem, seval, reduceCtorEq]; refine W.seq_reg ?_; simp (maxSteps := 2000000) (disch := omega) only [hty, Ty.c, hz_0, apS, go_sem, seval, reduceCtorEq]; refine W.cut (J5 t a x H (ok1 x)) (wpA.W ?_) ?_
 ·skip
  by_cases k9 : x.form = 9
  ·by_cases hm : x.mod = se
   ·have km := decide_eq_true hm
    simp (maxSteps := 2000000) (disch := omega) only [Ty.cs, hz_0, apS, lnm, km, go_sem, seval, reduceCtorEq]; exact no (fun h => (hO.1 h).1) (fun h => (h.2 k9).1 hm) _
   ·have km := decide_eq_false hm
    by_cases d1 : x.desc < -1
    ·simp (maxSteps := 2000000) (disch := omega) only [Ty.cs, hz_0, apS, lnm, km, go_sem, seval, reduceCtorEq]
     exact no (fun h => (hO.1 h).1) (fun h => by have := h.2 k9; omega) _
    ·by_cases d2 : 63 < x.desc
     ·simp (maxSteps := 2000000) (disch := omega) only [Ty.cs, hz_0, apS, lnm, km, go_sem, seval, reduceCtorEq]
      exact no (fun h => (hO.1 h).1) (fun h => by have := h.2 k9; omega) _
     ·simp (maxSteps := 2000000) (disch := omega) only [Ty.cs, hz_0, apS, lnm, km, go_sem, seval, reduceCtorEq]
      exact J5.mk WkL.wk (⟨fun h => absurd k9 h, fun _ => ⟨hm, by omega, by omega⟩⟩)
  ·by_cases hd : x.desc = 0
   ·by_cases hm : x.mod = se
    ·have km := decide_eq_true hm
     by_cases hnn : x.name = se
     ·have kn := decide_eq_true hnn
      simp (maxSteps := 2000000) (disch := omega) only [Ty.cs, hz_0, apS, lnm, km, kn, go_sem, seval, reduceCtorEq]; exact J5.mk WkL.wk (⟨fun _ => ⟨hd, fun _ => hnn, fun _ => hm⟩, fun h => absurd h k9⟩)
     ·have kn := decide_eq_false hnn
      simp (maxSteps := 2000000) (disch := omega) only [Ty.cs, hz_0, apS, lnm, km, kn, go_sem, seval, reduceCtorEq]; exact no (fun h => (hO.1 h).1) (fun h => hnn ((h.1 k9).2.1 hm)) _
    ·have km := decide_eq_false hm
     by_cases hnn : x.name = se
     ·have kn := decide_eq_true hnn
      simp (maxSteps := 2000000) (disch := omega) only [Ty.cs, hz_0, apS, lnm, km, kn, go_sem, seval, reduceCtorEq]; exact no (fun h => (hO.1 h).1) (fun h => hm ((h.1 k9).2.2 hnn)) _
     ·have kn := decide_eq_false hnn
      simp (maxSteps := 2000000) (disch := omega) only [Ty.cs, hz_0, apS, lnm, km, kn, go_sem, seval, reduceCtorEq]; exact J5.mk WkL.wk (⟨fun _ => ⟨hd, fun h => absurd h hm, fun h => absurd h hnn⟩, fun h => absurd h k9⟩)
   ·simp (maxSteps := 2000000) (disch := omega) only [Ty.cs, hz_0, apS, lnm, go_sem, seval, reduceCtorEq]
    exact no (fun h => (hO.1 h).1) (fun h => hd (h.1 k9).1) _
 ·rintro s H' ⟨o1, rfl, rfl⟩
  refine W.cut (J5 t a x H (ok2 x)) (wpA.W ?_) ?_
  ·skip
   by_cases hm : x.mod = se
   ·have km := decide_eq_true hm
    by_cases hnn : x.name = se
    ·have kn := decide_eq_true hnn
     simp (maxSteps := 2000000) (disch := omega) only [Ty.cs, hz_0, apS, lnm, kn, km, go_sem, seval, reduceCtorEq]; exact J5.mk WkL.wk (⟨.inl hm, .inl hnn⟩)
    ·have kn := decide_eq_false hnn
     simp (maxSteps := 2000000) (disch := omega) only [Ty.cs, hz_0, apS, lnm, kn, km, go_sem, seval, reduceCtorEq]
     by_cases wn : Nm x.name
     ·refine Cont.mk (word_t wn _) ?_
      simp (maxSteps := 2000000) (disch := omega) only [Ty.cs, hz_0, apS, lnm, kn, go_sem, seval, reduceCtorEq]; exact J5.mk WkL.wk (⟨.inl hm, .inr wn⟩)
     ·refine Cont.mk (word_f wn _) ?_
      simp (maxSteps := 2000000) (disch := omega) only [Ty.cs, hz_0, apS, lnm, kn, go_sem, seval, reduceCtorEq]; exact no (fun h => (hO.1 h).2.1) (fun h => h.2.elim hnn wn) _
   ·have km := decide_eq_false hm
    simp (maxSteps := 2000000) (disch := omega) only [Ty.cs, hz_0, apS, lnm, km, go_sem, seval, reduceCtorEq]
    by_cases wm : Nm x.mod
    ·refine Cont.mk (word_t wm _) ?_
     by_cases hnn : x.name = se
     ·have kn := decide_eq_true hnn
      simp (maxSteps := 2000000) (disch := omega) only [Ty.cs, hz_0, apS, lnm, kn, go_sem, seval, reduceCtorEq]; exact J5.mk WkL.wk (⟨.inr wm, .inl hnn⟩)
     ·have kn := decide_eq_false hnn
      simp (maxSteps := 2000000) (disch := omega) only [Ty.cs, hz_0, apS, lnm, kn, go_sem, seval, reduceCtorEq]
      by_cases wn : Nm x.name
      ·refine Cont.mk (word_t wn _) ?_
       simp (maxSteps := 2000000) (disch := omega) only [Ty.cs, hz_0, apS, lnm, kn, go_sem, seval, reduceCtorEq]; exact J5.mk WkL.wk (⟨.inr wm, .inr wn⟩)
      ·refine Cont.mk (word_f wn _) ?_
       simp (maxSteps := 2000000) (disch := omega) only [Ty.cs, hz_0, apS, lnm, kn, go_sem, seval, reduceCtorEq]; exact no (fun h => (hO.1 h).2.1) (fun h => h.2.elim hnn wn) _
    ·refine Cont.mk (word_f wm _) ?_
     simp (maxSteps := 2000000) (disch := omega) only [Ty.cs, hz_0, apS, lnm, go_sem, seval, reduceCtorEq]; exact no (fun h => (hO.1 h).2.1) (fun h => h.1.elim hm wm) _
  ·rintro s H' ⟨o2, rfl, rfl⟩
   refine W.cut (J5 t a x H (ok3 x)) (wpA.W ?_) ?_
   ·skip
    by_cases k7 : x.form = 7
    ·by_cases q3 : x.base = 0
     ·by_cases q4 : x.fields.length = 0
      ·by_cases q5 : x.params.length = 0
       ·by_cases q6 : x.result = 0
        ·simp (maxSteps := 2000000) (disch := omega) only [Ty.cs, hz_0, apS, lnm, go_sem, seval, reduceCtorEq]
         exact J5.mk WkL.wk (by simp only [ok3]; omega)
        ·simp (maxSteps := 2000000) (disch := omega) only [Ty.cs, hz_0, apS, lnm, go_sem, seval, reduceCtorEq]
         exact no (fun h => (hO.1 h).2.2.1) (by simp only [ok3]; omega) _
       ·simp (maxSteps := 2000000) (disch := omega) only [Ty.cs, hz_0, apS, lnm, go_sem, seval, reduceCtorEq]
        exact no (fun h => (hO.1 h).2.2.1) (by simp only [ok3]; omega) _
      ·simp (maxSteps := 2000000) (disch := omega) only [Ty.cs, hz_0, apS, lnm, go_sem, seval, reduceCtorEq]
       exact no (fun h => (hO.1 h).2.2.1) (by simp only [ok3]; omega) _
     ·simp (maxSteps := 2000000) (disch := omega) only [Ty.cs, hz_0, apS, lnm, go_sem, seval, reduceCtorEq]
      exact no (fun h => (hO.1 h).2.2.1) (by simp only [ok3]; omega) _
    ·by_cases k8 : x.form = 8
     ·by_cases q1 : x.len = 0
      ·by_cases q3 : x.base = 0
       ·by_cases q4 : x.fields.length = 0
        ·by_cases q5 : x.params.length = 0
         ·by_cases q6 : x.result = 0
          ·simp (maxSteps := 2000000) (disch := omega) only [Ty.cs, hz_0, apS, lnm, go_sem, seval, reduceCtorEq]
           exact J5.mk WkL.wk (by simp only [ok3]; omega)
          ·simp (maxSteps := 2000000) (disch := omega) only [Ty.cs, hz_0, apS, lnm, go_sem, seval, reduceCtorEq]
           exact no (fun h => (hO.1 h).2.2.1) (by simp only [ok3]; omega) _
         ·simp (maxSteps := 2000000) (disch := omega) only [Ty.cs, hz_0, apS, lnm, go_sem, seval, reduceCtorEq]
          exact no (fun h => (hO.1 h).2.2.1) (by simp only [ok3]; omega) _
        ·simp (maxSteps := 2000000) (disch := omega) only [Ty.cs, hz_0, apS, lnm, go_sem, seval, reduceCtorEq]
         exact no (fun h => (hO.1 h).2.2.1) (by simp only [ok3]; omega) _
       ·simp (maxSteps := 2000000) (disch := omega) only [Ty.cs, hz_0, apS, lnm, go_sem, seval, reduceCtorEq]
        exact no (fun h => (hO.1 h).2.2.1) (by simp only [ok3]; omega) _
      ·simp (maxSteps := 2000000) (disch := omega) only [Ty.cs, hz_0, apS, lnm, go_sem, seval, reduceCtorEq]
       exact no (fun h => (hO.1 h).2.2.1) (by simp only [ok3]; omega) _
     ·by_cases k10 : x.form = 10
      ·by_cases q1 : x.len = 0
       ·by_cases q3 : x.base = 0
        ·by_cases q4 : x.fields.length = 0
         ·by_cases q5 : x.params.length = 0
          ·by_cases q6 : x.result = 0
           ·simp (maxSteps := 2000000) (disch := omega) only [Ty.cs, hz_0, apS, lnm, go_sem, seval, reduceCtorEq]
            exact J5.mk WkL.wk (by simp only [ok3]; omega)
           ·simp (maxSteps := 2000000) (disch := omega) only [Ty.cs, hz_0, apS, lnm, go_sem, seval, reduceCtorEq]
            exact no (fun h => (hO.1 h).2.2.1) (by simp only [ok3]; omega) _
          ·simp (maxSteps := 2000000) (disch := omega) only [Ty.cs, hz_0, apS, lnm, go_sem, seval, reduceCtorEq]
           exact no (fun h => (hO.1 h).2.2.1) (by simp only [ok3]; omega) _
         ·simp (maxSteps := 2000000) (disch := omega) only [Ty.cs, hz_0, apS, lnm, go_sem, seval, reduceCtorEq]
          exact no (fun h => (hO.1 h).2.2.1) (by simp only [ok3]; omega) _
        ·simp (maxSteps := 2000000) (disch := omega) only [Ty.cs, hz_0, apS, lnm, go_sem, seval, reduceCtorEq]
         exact no (fun h => (hO.1 h).2.2.1) (by simp only [ok3]; omega) _
       ·simp (maxSteps := 2000000) (disch := omega) only [Ty.cs, hz_0, apS, lnm, go_sem, seval, reduceCtorEq]
        exact no (fun h => (hO.1 h).2.2.1) (by simp only [ok3]; omega) _
      ·by_cases k9 : x.form = 9
       ·by_cases q1 : x.len = 0
        ·by_cases q2 : x.elem = 0
         ·by_cases q5 : x.params.length = 0
          ·by_cases q6 : x.result = 0
           ·simp (maxSteps := 2000000) (disch := omega) only [Ty.cs, hz_0, apS, lnm, go_sem, seval, reduceCtorEq]
            exact J5.mk WkL.wk (by simp only [ok3]; omega)
           ·simp (maxSteps := 2000000) (disch := omega) only [Ty.cs, hz_0, apS, lnm, go_sem, seval, reduceCtorEq]
            exact no (fun h => (hO.1 h).2.2.1) (by simp only [ok3]; omega) _
          ·simp (maxSteps := 2000000) (disch := omega) only [Ty.cs, hz_0, apS, lnm, go_sem, seval, reduceCtorEq]
           exact no (fun h => (hO.1 h).2.2.1) (by simp only [ok3]; omega) _
         ·simp (maxSteps := 2000000) (disch := omega) only [Ty.cs, hz_0, apS, lnm, go_sem, seval, reduceCtorEq]
          exact no (fun h => (hO.1 h).2.2.1) (by simp only [ok3]; omega) _
        ·simp (maxSteps := 2000000) (disch := omega) only [Ty.cs, hz_0, apS, lnm, go_sem, seval, reduceCtorEq]
         exact no (fun h => (hO.1 h).2.2.1) (by simp only [ok3]; omega) _
       ·by_cases k11 : x.form = 11
        ·by_cases q1 : x.len = 0
         ·by_cases q2 : x.elem = 0
          ·by_cases q3 : x.base = 0
           ·by_cases q4 : x.fields.length = 0
            ·simp (maxSteps := 2000000) (disch := omega) only [Ty.cs, hz_0, apS, lnm, go_sem, seval, reduceCtorEq]
             exact J5.mk WkL.wk (by simp only [ok3]; omega)
            ·simp (maxSteps := 2000000) (disch := omega) only [Ty.cs, hz_0, apS, lnm, go_sem, seval, reduceCtorEq]
             exact no (fun h => (hO.1 h).2.2.1) (by simp only [ok3]; omega) _
           ·simp (maxSteps := 2000000) (disch := omega) only [Ty.cs, hz_0, apS, lnm, go_sem, seval, reduceCtorEq]
            exact no (fun h => (hO.1 h).2.2.1) (by simp only [ok3]; omega) _
          ·simp (maxSteps := 2000000) (disch := omega) only [Ty.cs, hz_0, apS, lnm, go_sem, seval, reduceCtorEq]
           exact no (fun h => (hO.1 h).2.2.1) (by simp only [ok3]; omega) _
         ·simp (maxSteps := 2000000) (disch := omega) only [Ty.cs, hz_0, apS, lnm, go_sem, seval, reduceCtorEq]
          exact no (fun h => (hO.1 h).2.2.1) (by simp only [ok3]; omega) _
        ·by_cases q1 : x.len = 0
         ·by_cases q2 : x.elem = 0
          ·by_cases q3 : x.base = 0
           ·by_cases q4 : x.fields.length = 0
            ·by_cases q5 : x.params.length = 0
             ·by_cases q6 : x.result = 0
              ·simp (maxSteps := 2000000) (disch := omega) only [Ty.cs, hz_0, apS, lnm, go_sem, seval, reduceCtorEq]
               exact J5.mk WkL.wk (by simp only [ok3]; omega)
              ·simp (maxSteps := 2000000) (disch := omega) only [Ty.cs, hz_0, apS, lnm, go_sem, seval, reduceCtorEq]
               exact no (fun h => (hO.1 h).2.2.1) (by simp only [ok3]; omega) _
             ·simp (maxSteps := 2000000) (disch := omega) only [Ty.cs, hz_0, apS, lnm, go_sem, seval, reduceCtorEq]
              exact no (fun h => (hO.1 h).2.2.1) (by simp only [ok3]; omega) _
            ·simp (maxSteps := 2000000) (disch := omega) only [Ty.cs, hz_0, apS, lnm, go_sem, seval, reduceCtorEq]
             exact no (fun h => (hO.1 h).2.2.1) (by simp only [ok3]; omega) _
           ·simp (maxSteps := 2000000) (disch := omega) only [Ty.cs, hz_0, apS, lnm, go_sem, seval, reduceCtorEq]
            exact no (fun h => (hO.1 h).2.2.1) (by simp only [ok3]; omega) _
          ·simp (maxSteps := 2000000) (disch := omega) only [Ty.cs, hz_0, apS, lnm, go_sem, seval, reduceCtorEq]
           exact no (fun h => (hO.1 h).2.2.1) (by simp only [ok3]; omega) _
         ·simp (maxSteps := 2000000) (disch := omega) only [Ty.cs, hz_0, apS, lnm, go_sem, seval, reduceCtorEq]
          exact no (fun h => (hO.1 h).2.2.1) (by simp only [ok3]; omega) _
   ·rintro s H' ⟨o3, rfl, rfl⟩
    refine wpA.W ?_
    by_cases k7 : x.form = 7
    ·by_cases a1 : 1 <= x.len
     ·by_cases a2 : x.len <= 4096
      ·simp (maxSteps := 2000000) (disch := omega) only [Ty.cs, hz_0, apS, lnm, go_sem, seval, reduceCtorEq]
       refine Cont.mk (holds_c _ (by omega) _) ?_; simp (maxSteps := 2000000) (disch := omega) only [Ty.cs, hz_0, apS, lnm, go_sem, seval, reduceCtorEq]; exact fin (by rw [hO, decide_eq_true_eq]; simp [o1, o2, o3, swP, k7, a1, a2]) _
      ·simp (maxSteps := 2000000) (disch := omega) only [Ty.cs, hz_0, apS, lnm, go_sem, seval, reduceCtorEq]
       exact no (fun h => (hO.1 h).2.2.2) (by simp [swP, k7]; omega) _
     ·simp (maxSteps := 2000000) (disch := omega) only [Ty.cs, hz_0, apS, lnm, go_sem, seval, reduceCtorEq]
      exact no (fun h => (hO.1 h).2.2.2) (by simp [swP, k7]; omega) _
    ·by_cases k8 : x.form = 8
     ·simp (maxSteps := 2000000) (disch := omega) only [Ty.cs, hz_0, apS, lnm, go_sem, seval, reduceCtorEq]
      refine Cont.mk (holds_c _ (by omega) _) ?_
      by_cases hh : holdsP t x.elem
      ·have kh := decide_eq_true hh
       simp (maxSteps := 2000000) (disch := omega) only [Ty.cs, hz_0, apS, lnm, kh, go_sem, seval, reduceCtorEq]; exact fin (by rw [hO]; simp [o1, o2, o3, swP, k8, hh]) _
      ·have kh := decide_eq_false hh
       simp (maxSteps := 2000000) (disch := omega) only [Ty.cs, hz_0, apS, lnm, kh, go_sem, seval, reduceCtorEq]; refine Cont.mk (place_c _ (by omega) _) ?_
       by_cases hp : placeP t x.elem
       ·have kp := decide_eq_true hp
        have hty2 := iaA_ty hp.1 hp.2; simp (maxSteps := 2000000) (disch := omega) only [Ty.cs, hz_0, apS, lnm, kp, hty2, Ty.c, go_sem, seval, reduceCtorEq]; exact fin (by rw [hO, decide_eq_true_eq]; simp [o1, o2, o3, swP, k8, hh, hopenP, hp]) _
       ·have kp := decide_eq_false hp
        simp (maxSteps := 2000000) (disch := omega) only [Ty.cs, hz_0, apS, lnm, kp, go_sem, seval, reduceCtorEq]; exact no (fun h => (hO.1 h).2.2.2) (by simp [swP, k8, hh, hopenP, hp]) _
     ·by_cases k10 : x.form = 10
      ·simp (maxSteps := 2000000) (disch := omega) only [Ty.cs, hz_0, apS, lnm, go_sem, seval, reduceCtorEq]
       refine Cont.mk (place_c _ (by omega) _) ?_
       by_cases hp : placeP t x.elem
       ·have kp := decide_eq_true hp
        have hty2 := iaA_ty hp.1 hp.2; simp (maxSteps := 2000000) (disch := omega) only [Ty.cs, hz_0, apS, lnm, kp, hty2, Ty.c, go_sem, seval, reduceCtorEq]; exact fin (by rw [hO, decide_eq_true_eq]; simp [o1, o2, o3, swP, k10, hp]) _
       ·have kp := decide_eq_false hp
        simp (maxSteps := 2000000) (disch := omega) only [Ty.cs, hz_0, apS, lnm, kp, go_sem, seval, reduceCtorEq]; exact no (fun h => (hO.1 h).2.2.2) (by simp [swP, k10, hp]) _
      ·by_cases k9 : x.form = 9
       ·simp (maxSteps := 2000000) (disch := omega) only [Ty.cs, hz_0, apS, lnm, go_sem, seval, reduceCtorEq]
        refine Cont.rel (hrc _) ?_; rintro v H' ⟨⟨B, rfl, hB⟩, rfl⟩; simp (maxSteps := 2000000) (disch := omega) only [Ty.cs, hz_0, apS, lnm, go_sem, seval, reduceCtorEq]; exact fin (by rw [hO, hB]; simp [o1, o2, o3, swP, k9]) _
       ·by_cases k11 : x.form = 11
        ·simp (maxSteps := 2000000) (disch := omega) only [Ty.cs, hz_0, apS, lnm, go_sem, seval, reduceCtorEq]
         refine W.weak (Wk.slots WkL.wk) (W.mono (one_l0 (x := x) (by omega) (by omega) (hz_0 _ _)) ?_); rintro e s H' (⟨rfl, ⟨y0, y1, y2, y3, y4, y5, rfl⟩, rfl, hps⟩ | ⟨rfl, hr, rfl, hps⟩)
         ·by_cases p64 : x.params.length <= 64
          ·by_cases r0 : x.result = 0
           ·simp (maxSteps := 2000000) (disch := omega) only [Ty.cs, hz_0, apS, lnm, go_sem, seval, reduceCtorEq]
            exact fin (by rw [hO]; simp [o1, o2, o3, swP, k11, r0]; exact ⟨hps, by omega⟩) _
           ·simp (maxSteps := 2000000) (disch := omega) only [Ty.cs, hz_0, apS, lnm, go_sem, seval, reduceCtorEq]
            refine Cont.mk (holds_c _ (by omega) _) ?_
            by_cases hh : holdsP t x.result
            ·have kh := decide_eq_true hh
             have hty2 := iaA_ty hh.1.1 hh.1.2
             by_cases r7 : (tyAt t x.result).form = 7
             ·simp (maxSteps := 2000000) (disch := omega) only [Ty.cs, hz_0, apS, lnm, kh, hty2, Ty.c, go_sem, seval, reduceCtorEq]
              exact no (fun h => (hO.1 h).2.2.2) (by simp [swP, k11, r7, r0]) _
             ·simp (maxSteps := 2000000) (disch := omega) only [Ty.cs, hz_0, apS, lnm, kh, hty2, Ty.c, go_sem, seval, reduceCtorEq]
              exact fin (by rw [hO]; simp [o1, o2, o3, swP, k11, r0, r7, hh]; exact ⟨fun h => ⟨hps, by omega, h⟩, fun h => h.2.2⟩) _
            ·have kh := decide_eq_false hh
             simp (maxSteps := 2000000) (disch := omega) only [Ty.cs, hz_0, apS, lnm, kh, go_sem, seval, reduceCtorEq]; exact no (fun h => (hO.1 h).2.2.2) (by simp [swP, k11, hh, r0]) _
          ·simp (maxSteps := 2000000) (disch := omega) only [Ty.cs, hz_0, apS, lnm, go_sem, seval, reduceCtorEq]
           exact no (fun h => (hO.1 h).2.2.2) (by simp [swP, k11]; intros; omega) _
         ·refine (?_ : Ret _ _ _ (resA [RC.t 4] s _) _)
          rw [hr]; exact no (fun h => (hO.1 h).2.2.2) (by simp [swP, k11]; intro h; exact absurd h hps) _
        ·simp (maxSteps := 2000000) (disch := omega) only [Ty.cs, hz_0, apS, lnm, go_sem, seval, reduceCtorEq]
         exact no (fun h => (hO.1 h).2.2.2) (by simp [swP, k7, k8, k9, k10, k11]) _
end Go.Proofs.YthifjndenhjobaaGreat
