/- Objects: may they be? Printed by genI6.py. -/
import Derived.Test.YthifjndenhjobaaXI4
namespace Go.Proofs.Ythifjndenhjobaa
set_option linter.unusedSimpArgs false
set_option linter.unusedVariables false
set_option maxRecDepth 20000
set_option maxHeartbeats 4000000
open Go.RowKit

def c81 : AC :=
 .seq (.reg [kn 2 (.bx (.t 0)), kn 3 (.bx (.t 1)), kn 4 (.mv (.c (.d (.v (.bool false)))))])
 (.seq (.seq (.reg [kn 6 (.fa (.t 3) 1), kn 7 (.ld (.t 6) 1 false), kn 8 (.call 79 [(.t 7)]), kn 9 (.un .not (.t 8)), kn 10 (.mv (.t 9)), ko 11 10 (.fa (.t 3) 2), ko 12 10 (.ld (.t 11) 1 false), ko 13 10 (.bin .lss (.t 12) (kc 0)), kn 14 (.pick (.t 10) (.c (.d (.v (.bool true)))) (.t 13)), kn 15 (.mv (.t 14)), ko 16 15 (.fa (.t 3) 2), ko 17 15 (.ld (.t 16) 1 false), ko 18 15 (.fa (.t 2) 3), ko 19 15 (.ld (.t 18) 1 false), ko 20 15 (.len false (.t 19)), ko 21 15 (.bin .geq (.t 17) (.t 20)), kn 22 (.pick (.t 15) (.c (.d (.v (.bool true)))) (.t 21)), kn 23 (.mv (.t 22)), ko 24 23 (.fa (.t 3) 0), ko 25 23 (.ld (.t 24) 1 false), ko 26 23 (.bin .neq (.t 25) (kc 1)), ko 27 23 (.mv (.t 26)), ky 28 27 (.fa (.t 3) 3), ky 29 27 (.ld (.t 28) 3 true), ky 30 27 (.bd [kz, kz, (.d (.v (.string ⟨#[]⟩)))] []), ky 31 27 (.eqg ⟨true, [.i .i64, .i .i64, .s]⟩ true (.t 29) (.t 30)), ko 32 23 (.pick (.t 27) (.t 31) (.c (.d (.v (.bool false))))), kn 33 (.pick (.t 23) (.c (.d (.v (.bool true)))) (.t 32))])
 (.cond (.t 33) (.seq (.reg [kn 4 (.mv (.c (.d (.v (.bool false)))))])
 (.ret)) (.skip)))
 (.seq (.reg [kn 34 (.fa (.t 2) 3), kn 35 (.ld (.t 34) 1 false), kn 36 (.fa (.t 3) 2), kn 37 (.ld (.t 36) 1 false), kn 38 (.ia (.t 35) (.t 37) 10), kn 39 (.fa (.t 38) 0), kn 40 (.ld (.t 39) 1 false), kn 5 (.mv (.t 40))])
 (.seq (.seq (.reg [kn 41 (.fa (.t 3) 0), kn 42 (.ld (.t 41) 1 false)])
 (.block 0 (.seq (.reg [kn 44 (.bin .eql (.t 42) (kc 1)), kn 43 (.mv (.t 44))])
 (.cond (.t 43) (.seq (.reg [kn 45 (.fa (.t 3) 3), kn 46 (.ld (.t 45) 3 true), kn 47 (.call 107 [(.t 46)]), kn 48 (.mv (.t 47)), ky 49 48 (.fa (.t 3) 2), ky 50 48 (.ld (.t 49) 1 false), ky 51 48 (.fa (.t 3) 3), ky 52 48 (.fa (.t 51) 0), ky 53 48 (.ld (.t 52) 1 false), ky 54 48 (.bin .eql (.t 50) (.t 53)), kn 55 (.pick (.t 48) (.t 54) (.c (.d (.v (.bool false))))), kn 56 (.mv (.t 55)), ky 57 56 (.fa (.t 3) 6), ky 58 56 (.ld (.t 57) 1 false), ky 59 56 (.bin .eql (.t 58) (kc 0)), kn 60 (.pick (.t 56) (.t 59) (.c (.d (.v (.bool false))))), kn 4 (.mv (.t 60))])
 (.ret)) (.seq (.reg [kn 62 (.bin .eql (.t 42) (kc 2)), kn 61 (.mv (.t 62))])
 (.cond (.t 61) (.seq (.reg [kn 63 (.fa (.t 3) 6), kn 64 (.ld (.t 63) 1 false), kn 65 (.bin .eql (.t 64) (kc 0)), kn 66 (.mv (.t 65)), ky 67 66 (.fa (.t 3) 2), ky 68 66 (.ld (.t 67) 1 false), ky 69 66 (.bin .leq (kc 1) (.t 68)), ky 70 66 (.mv (.t 69)), ky 71 70 (.fa (.t 3) 2), ky 72 70 (.ld (.t 71) 1 false), ky 73 70 (.bin .leq (.t 72) (kc 4)), ky 74 66 (.pick (.t 70) (.t 73) (.c (.d (.v (.bool false))))), ky 75 66 (.mv (.t 74)), ko 76 75 (.fa (.t 3) 2), ko 77 75 (.ld (.t 76) 1 false), ko 78 75 (.bin .gtr (.t 77) (kc 6)), ky 79 66 (.pick (.t 75) (.c (.d (.v (.bool true)))) (.t 78)), kn 80 (.pick (.t 66) (.t 79) (.c (.d (.v (.bool false))))), kn 4 (.mv (.t 80))])
 (.ret)) (.seq (.reg [kn 82 (.bin .eql (.t 42) (kc 3)), kn 81 (.mv (.t 82))])
 (.cond (.t 81) (.seq (.reg [kn 83 (.mv (.t 5)), kn 84 (.bin .neq (.t 83) (kc 0)), kn 85 (.mv (.t 84)), ky 86 85 (.mv (.t 5)), ky 87 85 (.bin .neq (.t 86) (kc 5)), kn 88 (.pick (.t 85) (.t 87) (.c (.d (.v (.bool false))))), kn 89 (.mv (.t 88)), ky 90 89 (.mv (.t 5)), ky 91 89 (.bin .neq (.t 90) (kc 6)), kn 92 (.pick (.t 89) (.t 91) (.c (.d (.v (.bool false))))), kn 93 (.mv (.t 92)), ky 94 93 (.mv (.t 5)), ky 95 93 (.bin .neq (.t 94) (kc 8)), kn 96 (.pick (.t 93) (.t 95) (.c (.d (.v (.bool false))))), kn 97 (.mv (.t 96)), ky 98 97 (.fa (.t 3) 6), ky 99 97 (.ld (.t 98) 1 false), ky 100 97 (.bin .leq (kc 0) (.t 99)), kn 101 (.pick (.t 97) (.t 100) (.c (.d (.v (.bool false))))), kn 102 (.mv (.t 101)), ky 103 102 (.fa (.t 3) 6), ky 104 102 (.ld (.t 103) 1 false), ky 105 102 (.bin .lss (.t 104) (kc 64)), kn 106 (.pick (.t 102) (.t 105) (.c (.d (.v (.bool false))))), kn 4 (.mv (.t 106))])
 (.ret)) (.seq (.reg [kn 108 (.bin .eql (.t 42) (kc 4)), kn 107 (.mv (.t 108))])
 (.cond (.t 107) (.seq (.reg [kn 109 (.mv (.t 5)), kn 110 (.bin .eql (.t 109) (kc 11)), kn 111 (.mv (.t 110)), ky 112 111 (.fa (.t 3) 6), ky 113 111 (.ld (.t 112) 1 false), ky 114 111 (.bin .leq (kc 1) (.t 113)), kn 115 (.pick (.t 111) (.t 114) (.c (.d (.v (.bool false))))), kn 116 (.mv (.t 115)), ky 117 116 (.fa (.t 3) 6), ky 118 116 (.ld (.t 117) 1 false), ky 119 116 (.bin .lss (.t 118) (kc 64)), kn 120 (.pick (.t 116) (.t 119) (.c (.d (.v (.bool false))))), kn 4 (.mv (.t 120))])
 (.ret)) (.skip)))))))))))
 (.seq (.reg [kn 4 (.mv (.c (.d (.v (.bool false)))))])
 (.ret)))))
def r81 : List RC := [.t 4]

theorem cc81 : Try.f81.body.bind (comp Try.prog (hhI 81)) = some c81 := by kernel_rfl
theorem rr81 : resC Try.prog Try.f81 = some r81 := by kernel_rfl
abbrev ObQ (t : List Ty) (cls : Int) (name : ByteArray) (typ : Int) (val : Vl) (n : Int) : Prop :=
 Nm name ∧ placeP t typ ∧
 ((cls = 1 ∧ VlP val ∧ typ = val.form ∧ n = 0) ∨
  (cls = 2 ∧ val = ⟨0, 0, se⟩ ∧ n = 0 ∧ ((1 ≤ typ ∧ typ ≤ 4) ∨ 7 ≤ typ)) ∨
  (cls = 3 ∧ val = ⟨0, 0, se⟩ ∧ (tyAt t typ).form ≠ 0 ∧ (tyAt t typ).form ≠ 5 ∧ (tyAt t typ).form ≠ 6 ∧ (tyAt t typ).form ≠ 8 ∧ 0 ≤ n ∧ n < 64) ∨
  (cls = 4 ∧ val = ⟨0, 0, se⟩ ∧ (tyAt t typ).form = 11 ∧ 1 ≤ n ∧ n < 64))
theorem zeV_in : zeV.In := ⟨by decide, by decide, by decide⟩
theorem iobject_c {f : Fc} (hl : f.types.length ≤ 9000000) {o : Ob} (hv : o.val.In) (H : List ABlk) : ACalls Try.prog 81 [f.av, o.av] H (ObR f o H) := by
 refine ACalls.into Try.func81 cc81 rr81 fun hcl => ?_
 have fin : ∀ {B : Bool} {l : List ABlk}, (B = true ↔ ObP f.types o) → Ret [RC.t 4] H.length (ObR f o H) (some (bv B)) (H ++ l) := fun {B l} h =>
  Ret.drop _ H (Nat.le_refl _) hcl (.rfl _) (by simp [refs]) ⟨⟨B, rfl, h⟩, rfl⟩
 have nof : ¬ ObP f.types o → (false = true ↔ ObP f.types o) := fun h => ⟨fun h' => (by cases h'), fun h' => absurd h' h⟩
 have hP : ObP f.types o ↔ ObQ f.types o.cls o.name o.typ o.val o.n := Iff.rfl
 obtain ⟨cls, name, typ, val, n⟩ := o
 simp only at hv hP
 have hkf := vl_fits hv
 have hkz := vl_fits zeV_in
 have hz0 : decide (val = zeV) = (decide (val.form = 0) && decide (val.n = 0) && decide (val.text = se)) := (Vl.eq_iff (w := zeV)).symm
 by_cases h1 : Nm name
 rotate_left
 ·simp (maxSteps := 2000000) (disch := omega) only [Try.ntmps81, c81, r81, Fc.cs, Ob.cs, go_sem, seval, reduceCtorEq]
  refine Cont.mk (named_c _ _) ?_
  rw [nm_f h1]
  simp (maxSteps := 2000000) (disch := omega) only [go_sem, seval, reduceCtorEq]
  exact fin (nof fun h => h1 (hP.1 h).1)
 have h1' := nm_t h1
 by_cases h2 : typ < 0
 ·simp (maxSteps := 2000000) (disch := omega) only [Try.ntmps81, c81, r81, Fc.cs, Ob.cs, go_sem, seval, reduceCtorEq]
  refine Cont.mk (named_c _ _) ?_
  rw [h1']
  simp (maxSteps := 2000000) (disch := omega) only [go_sem, seval, reduceCtorEq]
  exact fin (nof fun h => by have := (hP.1 h).2.1.1; omega)
 by_cases h3 : (f.types.length : Int) ≤ typ
 ·simp (maxSteps := 2000000) (disch := omega) only [Try.ntmps81, c81, r81, Fc.cs, Ob.cs, go_sem, seval, reduceCtorEq]
  refine Cont.mk (named_c _ _) ?_
  rw [h1']
  simp (maxSteps := 2000000) (disch := omega) only [List.length_map, go_sem, seval, reduceCtorEq]
  exact fin (nof fun h => by have := (hP.1 h).2.1.2; omega)
 have hpl : placeP f.types typ := ⟨by omega, by omega⟩
 have hia := iaA_ty (t := f.types) (a := typ) (by omega) (by omega)
 by_cases c1 : cls = 1
 ·simp (maxSteps := 2000000) (disch := omega) only [Try.ntmps81, c81, r81, Fc.cs, Ob.cs, go_sem, seval, reduceCtorEq]
  refine Cont.mk (named_c _ _) ?_
  rw [h1']
  simp (maxSteps := 2000000) (disch := omega) only [List.length_map, hia, Ty.c, go_sem, seval, reduceCtorEq]
  refine Cont.rel (cgood_c hv _) ?_
  rintro v H' ⟨⟨B, rfl, hB⟩, rfl⟩
  cases hBv : B with
  | false =>
   simp (maxSteps := 2000000) (disch := omega) only [go_sem, seval, reduceCtorEq]
   exact fin (nof fun h => by
    rcases (hP.1 h).2.2 with h | h | h | h
    ·have := hB.2 h.2.1; rw [hBv] at this; cases this
    all_goals (have := h.1; omega))
  | true =>
   have hV := hB.1 hBv
   by_cases k1 : typ = val.form
   ·by_cases k2 : n = 0
    ·simp (maxSteps := 2000000) (disch := omega) only [go_sem, seval, reduceCtorEq]
     exact fin ⟨fun _ => hP.2 ⟨h1, hpl, .inl ⟨c1, hV, k1, k2⟩⟩, fun _ => rfl⟩
    ·simp (maxSteps := 2000000) (disch := omega) only [go_sem, seval, reduceCtorEq]
     exact fin (nof fun h => by rcases (hP.1 h).2.2 with h | h | h | h <;> first | exact k2 h.2.2.2 | (have := h.1; omega))
   ·simp (maxSteps := 2000000) (disch := omega) only [go_sem, seval, reduceCtorEq]
    exact fin (nof fun h => by rcases (hP.1 h).2.2 with h | h | h | h <;> first | exact k1 h.2.2.1 | (have := h.1; omega))
 cases hz : decide (val = zeV) with
 | false =>
  have hz2 := hz
  rw [hz0] at hz2
  have hno : ¬ ObP f.types ⟨cls, name, typ, val, n⟩ := fun h => by
   have hv0 : val ≠ zeV := of_decide_eq_false hz
   rcases (hP.1 h).2.2 with h | h | h | h
   ·exact c1 h.1
   all_goals exact hv0 h.2.1
  simp (maxSteps := 2000000) (disch := omega) only [Try.ntmps81, c81, r81, Fc.cs, Ob.cs, go_sem, seval, reduceCtorEq]
  refine Cont.mk (named_c _ _) ?_
  rw [h1']
  simp (maxSteps := 2000000) (disch := omega) only [List.length_map, vl_key, hkf, hkz, vl_keq, hz2, go_sem, seval, reduceCtorEq]
  exact fin (nof hno)
 | true =>
  have hze : val = zeV := of_decide_eq_true hz
  rw [hz0] at hz
  simp (maxSteps := 2000000) (disch := omega) only [Try.ntmps81, c81, r81, Fc.cs, Ob.cs, go_sem, seval, reduceCtorEq]
  refine Cont.mk (named_c _ _) ?_
  rw [h1']
  simp (maxSteps := 2000000) (disch := omega) only [List.length_map, vl_key, hkf, hkz, vl_keq, hz, hia, Ty.c, go_sem, seval, reduceCtorEq]
  by_cases c2 : cls = 2
  ·by_cases k1 : n = 0
   ·by_cases k2 : 1 ≤ typ
    ·by_cases k3 : typ ≤ 4
     ·simp (maxSteps := 2000000) (disch := omega) only [go_sem, seval, reduceCtorEq]
      exact fin ⟨fun _ => hP.2 ⟨h1, hpl, .inr (.inl ⟨c2, hze, k1, .inl ⟨k2, k3⟩⟩)⟩, fun _ => rfl⟩
     ·by_cases k4 : 7 ≤ typ
      ·simp (maxSteps := 2000000) (disch := omega) only [go_sem, seval, reduceCtorEq]
       exact fin ⟨fun _ => hP.2 ⟨h1, hpl, .inr (.inl ⟨c2, hze, k1, .inr k4⟩)⟩, fun _ => rfl⟩
      ·simp (maxSteps := 2000000) (disch := omega) only [go_sem, seval, reduceCtorEq]
       exact fin (nof fun h => by rcases (hP.1 h).2.2 with h | h | h | h <;> first | (have := h.2.2.2; omega) | (have := h.1; omega))
    ·simp (maxSteps := 2000000) (disch := omega) only [go_sem, seval, reduceCtorEq]
     exact fin (nof fun h => by rcases (hP.1 h).2.2 with h | h | h | h <;> first | (have := h.2.2.2; omega) | (have := h.1; omega))
   ·simp (maxSteps := 2000000) (disch := omega) only [go_sem, seval, reduceCtorEq]
    exact fin (nof fun h => by rcases (hP.1 h).2.2 with h | h | h | h <;> first | exact k1 h.2.2.1 | (have := h.1; omega))
  by_cases c3 : cls = 3
  ·by_cases k : (tyAt f.types typ).form ≠ 0 ∧ (tyAt f.types typ).form ≠ 5 ∧ (tyAt f.types typ).form ≠ 6 ∧ (tyAt f.types typ).form ≠ 8
   ·obtain ⟨k1, k2, k3, k4⟩ := k
    by_cases k5 : 0 ≤ n
    ·by_cases k6 : n < 64
     ·simp (maxSteps := 2000000) (disch := omega) only [go_sem, seval, reduceCtorEq]
      exact fin ⟨fun _ => hP.2 ⟨h1, hpl, .inr (.inr (.inl ⟨c3, hze, k1, k2, k3, k4, k5, k6⟩))⟩, fun _ => rfl⟩
     ·simp (maxSteps := 2000000) (disch := omega) only [go_sem, seval, reduceCtorEq]
      exact fin (nof fun h => by rcases (hP.1 h).2.2 with h | h | h | h <;> first | exact k6 h.2.2.2.2.2.2.2 | (have := h.1; omega))
    ·simp (maxSteps := 2000000) (disch := omega) only [go_sem, seval, reduceCtorEq]
     exact fin (nof fun h => by rcases (hP.1 h).2.2 with h | h | h | h <;> first | exact k5 h.2.2.2.2.2.2.1 | (have := h.1; omega))
   ·have hno : ¬ ObP f.types ⟨cls, name, typ, val, n⟩ := fun h => by rcases (hP.1 h).2.2 with h | h | h | h <;> first | exact k ⟨h.2.2.1, h.2.2.2.1, h.2.2.2.2.1, h.2.2.2.2.2.1⟩ | (have := h.1; omega)
    have k' : (tyAt f.types typ).form = 0 ∨ (tyAt f.types typ).form = 5 ∨ (tyAt f.types typ).form = 6 ∨ (tyAt f.types typ).form = 8 := by omega
    clear k
    generalize (tyAt f.types typ).form = fm at *
    rcases k' with rfl | rfl | rfl | rfl <;> (simp (maxSteps := 2000000) (disch := omega) only [go_sem, seval, reduceCtorEq]; exact fin (nof hno))
  by_cases c4 : cls = 4
  ·by_cases k : (tyAt f.types typ).form = 11
   ·by_cases k5 : 1 ≤ n
    ·by_cases k6 : n < 64
     ·simp (maxSteps := 2000000) (disch := omega) only [go_sem, seval, reduceCtorEq]
      exact fin ⟨fun _ => hP.2 ⟨h1, hpl, .inr (.inr (.inr ⟨c4, hze, k, k5, k6⟩))⟩, fun _ => rfl⟩
     ·simp (maxSteps := 2000000) (disch := omega) only [go_sem, seval, reduceCtorEq]
      exact fin (nof fun h => by rcases (hP.1 h).2.2 with h | h | h | h <;> first | exact k6 h.2.2.2.2 | (have := h.1; omega))
    ·simp (maxSteps := 2000000) (disch := omega) only [go_sem, seval, reduceCtorEq]
     exact fin (nof fun h => by rcases (hP.1 h).2.2 with h | h | h | h <;> first | exact k5 h.2.2.2.1 | (have := h.1; omega))
   ·simp (maxSteps := 2000000) (disch := omega) only [go_sem, seval, reduceCtorEq]
    exact fin (nof fun h => by rcases (hP.1 h).2.2 with h | h | h | h <;> first | exact k h.2.2.1 | (have := h.1; omega))
  ·simp (maxSteps := 2000000) (disch := omega) only [go_sem, seval, reduceCtorEq]
   exact fin (nof fun h => by rcases (hP.1 h).2.2 with h | h | h | h <;> (have := h.1; omega))
end Go.Proofs.Ythifjndenhjobaa

/- The reference's constants: are they good? -/
namespace Go.Proofs.Ythifjndenhjobaa
set_option linter.unusedSimpArgs false
set_option linter.unusedVariables false
set_option maxRecDepth 20000
set_option maxHeartbeats 4000000
open Go.RowKit

end Go.Proofs.Ythifjndenhjobaa

/- Objects: may they be? Printed by genI6.py. -/
namespace Go.Proofs.Ythifjndenhjobaa
set_option linter.unusedSimpArgs false
set_option linter.unusedVariables false
set_option maxRecDepth 20000
set_option maxHeartbeats 4000000
open Go.RowKit

end Go.Proofs.Ythifjndenhjobaa
