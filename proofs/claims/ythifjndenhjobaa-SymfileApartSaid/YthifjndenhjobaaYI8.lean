/- Objects: may they be? Printed by genI6.py. -/
import Derived.Test.YthifjndenhjobaaYI4
namespace Go.Proofs.Ythifjndenhjobaa
set_option linter.unusedSimpArgs false
set_option linter.unusedVariables false
set_option maxRecDepth 20000
set_option maxHeartbeats 4000000
open Go.RowKit

def c81 : AC :=
 .seq (.reg [kn 2 (.bx (.t 0)), kn 3 (.bx (.t 1)), kn 4 (.mv (.c (.d (.v (.bool false)))))])
 (.seq (.seq (.reg [kn 6 (.fa (.t 3) 1), kn 7 (.ld (.t 6) 1 false), kn 8 (.call 79 [(.t 7)]), kn 9 (.un .not (.t 8)), kn 10 (.mv (.t 9)), ko 11 10 (.fa (.t 3) 2), ko 12 10 (.ld (.t 11) 1 false), ko 13 10 (.bin .lss (.t 12) (kc 0)), kn 14 (.pick (.t 10) (.c (.d (.v (.bool true)))) (.t 13)), kn 15 (.mv (.t 14)), ko 16 15 (.fa (.t 3) 2), ko 17 15 (.ld (.t 16) 1 false), ko 18 15 (.fa (.t 2) 3), ko 19 15 (.ld (.t 18) 1 false), ko 20 15 (.len false (.t 19)), ko 21 15 (.bin .geq (.t 17) (.t 20)), kn 22 (.pick (.t 15) (.c (.d (.v (.bool true)))) (.t 21)), kn 23 (.mv (.t 22)), ko 24 23 (.fa (.t 3) 0), ko 25 23 (.ld (.t 24) 1 false), ko 26 23 (.bin .neq (.t 25) (kc 1)), ko 27 23 (.mv (.t 26)), ky 28 27 (.fa (.t 3) 3), ky 29 27 (.ld (.t 28) 3 true), ky 30 27 (.bd [kz, kz, (.d (.v (.string ⟨#[]⟩)))] []), ky 31 27 (.eqg ⟨true, [.i .i64, .i .i64, .s]⟩ true (.t 29) (.t 30)), ko 32 23 (.pick (.t 27) (.t 31) (.c (.d (.v (.bool false))))), kn 33 (.pick (.t 23) (.c (.d (.v (.bool true)))) (.t 32))])
 (.cond (.t 33) (.seq (.reg [kn 4 (.mv (.c (.d (.v (.bool false)))))])
 (.ret)) (.skip)))
 (.seq (.reg [kn 34 (.fa (.t 2) 3), kn 35 (.ld (.t 34) 1 false), kn 36 (.fa (.t 3) 2), kn 37 (.ld (.t 36) 1 false), kn 38 (.ia (.t 35) (.t 37) 10), kn 39 (.fa (.t 38) 0), kn 40 (.ld (.t 39) 1 false), kn 5 (.mv (.t 40))])
 (.seq (.seq (.reg [kn 41 (.fa (.t 3) 0), kn 42 (.ld (.t 41) 1 false)])
 (.block 0 (.seq (.reg [kn 44 (.bin .eql (.t 42) (kc 1)), kn 43 (.mv (.t 44))])
 (.cond (.t 43) (.seq (.reg [kn 45 (.fa (.t 3) 3), kn 46 (.ld (.t 45) 3 true), kn 47 (.call 107 [(.t 46)]), kn 48 (.mv (.t 47)), ky 49 48 (.fa (.t 3) 2), ky 50 48 (.ld (.t 49) 1 false), ky 51 48 (.fa (.t 3) 3), ky 52 48 (.fa (.t 51) 0), ky 53 48 (.ld (.t 52) 1 false), ky 54 48 (.bin .eql (.t 50) (.t 53)), kn 55 (.pick (.t 48) (.t 54) (.c (.d (.v (.bool false))))), kn 56 (.mv (.t 55)), ky 57 56 (.fa (.t 3) 6), ky 58 56 (.ld (.t 57) 1 false), ky 59 56 (.bin .eql (.t 58) (kc 0)), kn 60 (.pick (.t 56) (.t 59) (.c (.d (.v (.bool false))))), kn 4 (.mv (.t 60))])
 (.ret)) (.seq (.reg [kn 62 (.bin .eql (.t 42) (kc 2)), kn 61 (.mv (.t 62))])
 (.cond (.t 61) (.seq (.reg [kn 63 (.fa (.t 3) 6), kn 64 (.ld (.t 63) 1 false), kn 65 (.bin .eql (.t 64) (kc 0)), kn 66 (.mv (.t 65)), ky 67 66 (.fa (.t 3) 2), ky 68 66 (.ld (.t 67) 1 false), ky 69 66 (.bin .leq (kc 1) (.t 68)), ky 70 66 (.mv (.t 69)), ky 71 70 (.fa (.t 3) 2), ky 72 70 (.ld (.t 71) 1 false), ky 73 70 (.bin .leq (.t 72) (kc 4)), ky 74 66 (.pick (.t 70) (.t 73) (.c (.d (.v (.bool false))))), ky 75 66 (.mv (.t 74)), ko 76 75 (.fa (.t 3) 2), ko 77 75 (.ld (.t 76) 1 false), ko 78 75 (.bin .gtr (.t 77) (kc 6)), ky 79 66 (.pick (.t 75) (.c (.d (.v (.bool true)))) (.t 78)), kn 80 (.pick (.t 66) (.t 79) (.c (.d (.v (.bool false))))), kn 4 (.mv (.t 80))])
 (.ret)) (.seq (.reg [kn 82 (.bin .eql (.t 42) (kc 3)), kn 81 (.mv (.t 82))])
 (.cond (.t 81) (.seq (.reg [kn 83 (.mv (.t 5)), kn 84 (.bin .neq (.t 83) (kc 0)), kn 85 (.mv (.t 84)), ky 86 85 (.mv (.t 5)), ky 87 85 (.bin .neq (.t 86) (kc 5)), kn 88 (.pick (.t 85) (.t 87) (.c (.d (.v (.bool false))))), kn 89 (.mv (.t 88)), ky 90 89 (.mv (.t 5)), ky 91 89 (.bin .neq (.t 90) (kc 6)), kn 92 (.pick (.t 89) (.t 91) (.c (.d (.v (.bool false))))), kn 93 (.mv (.t 92)), ky 94 93 (.mv (.t 5)), ky 95 93 (.bin .neq (.t 94) (kc 8)), kn 96 (.pick (.t 93) (.t 95) (.c (.d (.v (.bool false))))), kn 97 (.mv (.t 96)), ky 98 97 (.fa (.t 3) 6), ky 99 97 (.ld (.t 98) 1 false), ky 100 97 (.bin .leq (kc 0) (.t 99)), kn 101 (.pick (.t 97) (.t 100) (.c (.d (.v (.bool false))))), kn 102 (.mv (.t 101)), ky 103 102 (.fa (.t 3) 6), ky 104 102 (.ld (.t 103) 1 false), ky 105 102 (.bin .lss (.t 104) (kc 64)), kn 106 (.pick (.t 102) (.t 105) (.c (.d (.v (.bool false))))), kn 4 (.mv (.t 106))])
 (.ret)) (.seq (.reg [kn 108 (.bin .eql (.t 42) (kc 4)), kn 107 (.mv (.t 108))])
 (.cond (.t 107) (.seq (.reg [kn 109 (.mv (.t 5)), kn 110 (.bin .eql (.t 109) (kc 11)), kn 111 (.mv (.t 110)), ky 112 111 (.fa (.t 3) 6), ky 113 111 (.ld (.t 112) 1 false), ky 114 111 (.bin .leq (kc 1) (.t 113)), kn 115 (.pick (.t 111) (.t 114) (.c (.d (.v (.bool false))))), kn 116 (.mv (.t 115)), ky 117 116 (.fa (.t 3) 6), ky 118 116 (.ld (.t 117) 1 false), ky 119 116 (.bin .lss (.t 118) (kc 64)), kn 120 (.pick (.t 116) (.t 119) (.c (.d (.v (.bool false))))), kn 4 (.mv (.t 120))])
 (.ret)) (.skip)))))))))))
 (.seq (.reg [kn 4 (.mv (.c (.d (.v (.bool false)))))])
 (.ret)))))
def r81 : List RC := [.t 4]

theorem cc81 : Try.f81.body.bind (comp Try.prog (hhI 81)) = some c81 := by kernel_rfl
theorem rr81 : resC Try.prog Try.f81 = some r81 := by kernel_rfl
abbrev ObQ (t : List Ty) (cls : Int) (name : ByteArray) (typ : Int) (val : Vl) (n : Int) : Prop :=
 Nm name ∧ placeP t typ ∧
 ((cls = 1 ∧ VlP val ∧ typ = val.form ∧ n = 0) ∨
  (cls = 2 ∧ val = ⟨0, 0, se⟩ ∧ n = 0 ∧ ((1 ≤ typ ∧ typ ≤ 4) ∨ 7 ≤ typ)) ∨
  (cls = 3 ∧ val = ⟨0, 0, se⟩ ∧ (tyAt t typ).form ≠ 0 ∧ (tyAt t typ).form ≠ 5 ∧ (tyAt t typ).form ≠ 6 ∧ (tyAt t typ).form ≠ 8 ∧ 0 ≤ n ∧ n < 64) ∨
  (cls = 4 ∧ val = ⟨0, 0, se⟩ ∧ (tyAt t typ).form = 11 ∧ 1 ≤ n ∧ n < 64))
theorem zeV_in : zeV.In := ⟨by decide, by decide, by decide⟩
theorem iobject_c {f : Fc} (hl : f.types.length ≤ 9000000) {o : Ob} (hv : o.val.In) (H : List ABlk) : ACalls Try.prog 81 [f.av, o.av] H (ObR f o H) := by
 refine ACalls.into Try.func81 cc81 rr81 fun hcl => ?_
 have fin : ∀ {B : Bool} {l : List ABlk}, (B = true ↔ ObP f.types o) → Ret [RC.t 4] H.length (ObR f o H) (some (bv B)) (H ++ l) := fun {B l} h =>
  Ret.drop _ H (Nat.le_refl _) hcl (.rfl _) (by simp [refs]) ⟨⟨B, rfl, h⟩, rfl⟩
 have nof : ¬ ObP f.types o → (false = true ↔ ObP f.types o) := fun h => ⟨fun h' => (by cases h'), fun h' => absurd h' h⟩
 have hP : ObP f.types o ↔ ObQ f.types o.cls o.name o.typ o.val o.n := Iff.rfl
 obtain ⟨cls, name, typ, val, n⟩ := o
 simp only at hv hP
 have hkf := vl_fits hv
 have hkz := vl_fits zeV_in
 have hz0 : decide (val = zeV) = (decide (val.form = 0) && decide (val.n = 0) && decide (val.text = se)) := (Vl.eq_iff (w := zeV)).symm
 by_cases h1 : Nm name
 rotate_left
 ·simp (maxSteps := 2000000) (disch := omega) only [Try.ntmps81, c81, r81, Fc.cs, Ob.cs, go_sem, seval, reduceCtorEq]
  refine Cont.mk (named_c _ _) ?_
  rw [nm_f h1]
  simp (maxSteps := 2000000) (disch := omega) only [go_sem, seval, reduceCtorEq]
  exact fin (nof fun h => h1 (hP.1 h).1)
 have h1' := nm_t h1
 by_cases h2 : typ < 0
 ·simp (maxSteps := 2000000) (disch := omega) only [Try.ntmps81, c81, r81, Fc.cs, Ob.cs, go_sem, seval, reduceCtorEq]
  refine Cont.mk (named_c _ _) ?_
  rw [h1']
  simp (maxSteps := 2000000) (disch := omega) only [go_sem, seval, reduceCtorEq]
  exact fin (nof fun h => by have := (hP.1 h).2.1.1; omega)
 by_cases h3 : (f.types.length : Int) ≤ typ
 ·simp (maxSteps := 2000000) (disch := omega) only [Try.ntmps81, c81, r81, Fc.cs, Ob.cs, go_sem, seval, reduceCtorEq]
  refine Cont.mk (named_c _ _) ?_
  rw [h1']
  simp (maxSteps := 2000000) (disch := omega) only [List.length_map, go_sem, seval, reduceCtorEq]
  exact fin (nof fun h => by have := (hP.1 h).2.1.2; omega)
 have hpl : placeP f.types typ := ⟨by omega, by omega⟩
 have hia := iaA_ty (t := f.types) (a := typ) (by omega) (by omega)
 by_cases c1 : cls = 1
 ·simp (maxSteps := 2000000) (disch := omega) only [Try.ntmps81, c81, r81, Fc.cs, Ob.cs, go_sem, seval, reduceCtorEq]
  refine Cont.mk (named_c _ _) ?_
  rw [h1']
  simp (maxSteps := 2000000) (disch := omega) only [List.length_map, hia, Ty.c, go_sem, seval, reduceCtorEq]
  refine Cont.rel (cgood_c hv _) ?_
  rintro v H' ⟨⟨B, rfl, hB⟩, rfl⟩
  cases hBv : B with
  | false =>
   simp (maxSteps := 2000000) (disch := omega) only [go_sem, seval, reduceCtorEq]
   exact fin (nof fun h => by
    rcases (hP.1 h).2.2 with h | h | h | h
    ·have := hB.2 h.2.1; rw [hBv] at this; cases this
    all_goals (have := h.1; omega))
  | true =>
   have hV := hB.1 hBv
   by_cases k1 : typ = val.form
   ·by_cases k2 : n = 0
    ·simp (maxSteps := 2000000) (disch := omega) only [go_sem, seval, reduceCtorEq]
     exact fin ⟨fun _ => hP.2 ⟨h1, hpl, .inl ⟨c1, hV, k1, k2⟩⟩, fun _ => rfl⟩
    ·simp (maxSteps := 2000000) (disch := omega) only [go_sem, seval, reduceCtorEq]
     exact fin (nof fun h => by rcases (hP.1 h).2.2 with h | h | h | h <;> first | exact k2 h.2.2.2 | (have := h.1; omega))
   ·simp (maxSteps := 2000000) (disch := omega) only [go_sem, seval, reduceCtorEq]
    exact fin (nof fun h => by rcases (hP.1 h).2.2 with h | h | h | h <;> first | exact k1 h.2.2.1 | (have := h.1; omega))
 cases hz : decide (val = zeV) with
 | false =>
  have hz2 := hz
  rw [hz0] at hz2
  have hno : ¬ ObP f.types ⟨cls, name, typ, val, n⟩ := fun h => by
   have hv0 : val ≠ zeV := of_decide_eq_false hz
   rcases (hP.1 h).2.2 with h | h | h | h
   ·exact c1 h.1
   all_goals exact hv0 h.2.1
  simp (maxSteps := 2000000) (disch := omega) only [Try.ntmps81, c81, r81, Fc.cs, Ob.cs, go_sem, seval, reduceCtorEq]
  refine Cont.mk (named_c _ _) ?_
  rw [h1']
  simp (maxSteps := 2000000) (disch := omega) only [List.length_map, vl_key, hkf, hkz, vl_keq, hz2, go_sem, seval, reduceCtorEq]
  exact fin (nof hno)
 | true =>
  have hze : val = zeV := of_decide_eq_true hz
  rw [hz0] at hz
  simp (maxSteps := 2000000) (disch := omega) only [Try.ntmps81, c81, r81, Fc.cs, Ob.cs, go_sem, seval, reduceCtorEq]
  refine Cont.mk (named_c _ _) ?_
  rw [h1']
  simp (maxSteps := 2000000) (disch := omega) only [List.length_map, vl_key, hkf, hkz, vl_keq, hz, hia, Ty.c, go_sem, seval, reduceCtorEq]
  by_cases c2 : cls = 2
  ·by_cases k1 : n = 0
   ·by_cases k2 : 1 ≤ typ
    ·by_cases k3 : typ ≤ 4
     ·simp (maxSteps := 2000000) (disch := omega) only [go_sem, seval, reduceCtorEq]
      exact fin ⟨fun _ => hP.2 ⟨h1, hpl, .inr (.inl ⟨c2, hze, k1, .inl ⟨k2, k3⟩⟩)⟩, fun _ => rfl⟩
     ·by_cases k4 : 7 ≤ typ
      ·simp (maxSteps := 2000000) (disch := omega) only [go_sem, seval, reduceCtorEq]
       exact fin ⟨fun _ => hP.2 ⟨h1, hpl, .inr (.inl ⟨c2, hze, k1, .inr k4⟩)⟩, fun _ => rfl⟩
      ·simp (maxSteps := 2000000) (disch := omega) only [go_sem, seval, reduceCtorEq]
       exact fin (nof fun h => by rcases (hP.1 h).2.2 with h | h | h | h <;> first | (have := h.2.2.2; omega) | (have := h.1; omega))
    ·simp (maxSteps := 2000000) (disch := omega) only [go_sem, seval, reduceCtorEq]
     exact fin (nof fun h => by rcases (hP.1 h).2.2 with h | h | h | h <;> first | (have := h.2.2.2; omega) | (have := h.1; omega))
   ·simp (maxSteps := 2000000) (disch := omega) only [go_sem, seval, reduceCtorEq]
    exact fin (nof fun h => by rcases (hP.1 h).2.2 with h | h | h | h <;> first | exact k1 h.2.2.1 | (have := h.1; omega))
  by_cases c3 : cls = 3
  ·by_cases k : (tyAt f.types typ).form ≠ 0 ∧ (tyAt f.types typ).form ≠ 5 ∧ (tyAt f.types typ).form ≠ 6 ∧ (tyAt f.types typ).form ≠ 8
   ·obtain ⟨k1, k2, k3, k4⟩ := k
    by_cases k5 : 0 ≤ n
    ·by_cases k6 : n < 64
     ·simp (maxSteps := 2000000) (disch := omega) only [go_sem, seval, reduceCtorEq]
      exact fin ⟨fun _ => hP.2 ⟨h1, hpl, .inr (.inr (.inl ⟨c3, hze, k1, k2, k3, k4, k5, k6⟩))⟩, fun _ => rfl⟩
     ·simp (maxSteps := 2000000) (disch := omega) only [go_sem, seval, reduceCtorEq]
      exact fin (nof fun h => by rcases (hP.1 h).2.2 with h | h | h | h <;> first | exact k6 h.2.2.2.2.2.2.2 | (have := h.1; omega))
    ·simp (maxSteps := 2000000) (disch := omega) only [go_sem, seval, reduceCtorEq]
     exact fin (nof fun h => by rcases (hP.1 h).2.2 with h | h | h | h <;> first | exact k5 h.2.2.2.2.2.2.1 | (have := h.1; omega))
   ·have hno : ¬ ObP f.types ⟨cls, name, typ, val, n⟩ := fun h => by rcases (hP.1 h).2.2 with h | h | h | h <;> first | exact k ⟨h.2.2.1, h.2.2.2.1, h.2.2.2.2.1, h.2.2.2.2.2.1⟩ | (have := h.1; omega)
    have k' : (tyAt f.types typ).form = 0 ∨ (tyAt f.types typ).form = 5 ∨ (tyAt f.types typ).form = 6 ∨ (tyAt f.types typ).form = 8 := by omega
    clear k
    generalize (tyAt f.types typ).form = fm at *
    rcases k' with rfl | rfl | rfl | rfl <;> (simp (maxSteps := 2000000) (disch := omega) only [go_sem, seval, reduceCtorEq]; exact fin (nof hno))
  by_cases c4 : cls = 4
  ·by_cases k : (tyAt f.types typ).form = 11
   ·by_cases k5 : 1 ≤ n
    ·by_cases k6 : n < 64
     ·simp (maxSteps := 2000000) (disch := omega) only [go_sem, seval, reduceCtorEq]
      exact fin ⟨fun _ => hP.2 ⟨h1, hpl, .inr (.inr (.inr ⟨c4, hze, k, k5, k6⟩))⟩, fun _ => rfl⟩
     ·simp (maxSteps := 2000000) (disch := omega) only [go_sem, seval, reduceCtorEq]
      exact fin (nof fun h => by rcases (hP.1 h).2.2 with h | h | h | h <;> first | exact k6 h.2.2.2.2 | (have := h.1; omega))
    ·simp (maxSteps := 2000000) (disch := omega) only [go_sem, seval, reduceCtorEq]
     exact fin (nof fun h => by rcases (hP.1 h).2.2 with h | h | h | h <;> first | exact k5 h.2.2.2.1 | (have := h.1; omega))
   ·simp (maxSteps := 2000000) (disch := omega) only [go_sem, seval, reduceCtorEq]
    exact fin (nof fun h => by rcases (hP.1 h).2.2 with h | h | h | h <;> first | exact k h.2.2.1 | (have := h.1; omega))
  ·simp (maxSteps := 2000000) (disch := omega) only [go_sem, seval, reduceCtorEq]
   exact fin (nof fun h => by rcases (hP.1 h).2.2 with h | h | h | h <;> (have := h.1; omega))
end Go.Proofs.Ythifjndenhjobaa

/- The reference's constants: are they good? -/
namespace Go.Proofs.Ythifjndenhjobaa
set_option linter.unusedSimpArgs false
set_option linter.unusedVariables false
set_option maxRecDepth 20000
set_option maxHeartbeats 4000000
open Go.RowKit

def c112 : AC :=
 .seq (.reg [kn 1 (.bx (.t 0)), kn 2 (.mv (.c (.d (.v (.bool false)))))])
 (.seq (.seq (.reg [kn 3 (.fa (.t 1) 0), kn 4 (.ld (.t 3) 1 false), kn 5 (.bin .neq (.t 4) (kc 6)), kn 6 (.mv (.t 5)), ky 7 6 (.fa (.t 1) 2), ky 8 6 (.ld (.t 7) 1 false), ky 9 6 (.bin .neq (.t 8) (.c (.d (.v (.string ⟨#[]⟩))))), kn 10 (.pick (.t 6) (.t 9) (.c (.d (.v (.bool false)))))])
 (.cond (.t 10) (.seq (.reg [kn 2 (.mv (.c (.d (.v (.bool false)))))])
 (.ret)) (.skip)))
 (.seq (.seq (.reg [kn 11 (.fa (.t 1) 0), kn 12 (.ld (.t 11) 1 false)])
 (.block 0 (.seq (.reg [kn 14 (.bin .eql (.t 12) (kc 1)), kn 13 (.mv (.t 14))])
 (.cond (.t 13) (.seq (.reg [kn 15 (.fa (.t 1) 1), kn 16 (.ld (.t 15) 1 false), kn 17 (.call 97 [(.t 16), (kc 32)]), kn 2 (.mv (.t 17))])
 (.ret)) (.seq (.reg [kn 19 (.bin .eql (.t 12) (kc 2)), kn 18 (.mv (.t 19))])
 (.cond (.t 18) (.seq (.reg [kn 20 (.fa (.t 1) 1), kn 21 (.ld (.t 20) 1 false), kn 22 (.bin .eql (.t 21) (kc 0)), kn 23 (.mv (.t 22)), ko 24 23 (.fa (.t 1) 1), ko 25 23 (.ld (.t 24) 1 false), ko 26 23 (.bin .eql (.t 25) (kc 1)), kn 27 (.pick (.t 23) (.c (.d (.v (.bool true)))) (.t 26)), kn 2 (.mv (.t 27))])
 (.ret)) (.seq (.reg [kn 29 (.bin .eql (.t 12) (kc 3)), kn 28 (.mv (.t 29))])
 (.cond (.t 28) (.seq (.reg [kn 30 (.fa (.t 1) 1), kn 31 (.ld (.t 30) 1 false), kn 32 (.bin .geq (.t 31) (kc 0)), kn 33 (.mv (.t 32)), ky 34 33 (.fa (.t 1) 1), ky 35 33 (.ld (.t 34) 1 false), ky 36 33 (.bin .lss (.t 35) (kc 256)), kn 37 (.pick (.t 33) (.t 36) (.c (.d (.v (.bool false))))), kn 2 (.mv (.t 37))])
 (.ret)) (.seq (.reg [kn 39 (.bin .eql (.t 12) (kc 4)), kn 38 (.mv (.t 39))])
 (.cond (.t 38) (.seq (.reg [kn 40 (.fa (.t 1) 1), kn 41 (.ld (.t 40) 1 false), kn 42 (.bin .geq (.t 41) (kc 0)), kn 43 (.mv (.t 42)), ky 44 43 (.fa (.t 1) 1), ky 45 43 (.ld (.t 44) 1 false), ky 46 43 (.bin .lss (.t 45) (kc 4294967296)), kn 47 (.pick (.t 43) (.t 46) (.c (.d (.v (.bool false))))), kn 2 (.mv (.t 47))])
 (.ret)) (.seq (.reg [kn 49 (.bin .eql (.t 12) (kc 5)), kn 48 (.mv (.t 49))])
 (.cond (.t 48) (.seq (.reg [kn 50 (.fa (.t 1) 1), kn 51 (.ld (.t 50) 1 false), kn 52 (.bin .eql (.t 51) (kc 0)), kn 2 (.mv (.t 52))])
 (.ret)) (.seq (.reg [kn 54 (.bin .eql (.t 12) (kc 6)), kn 53 (.mv (.t 54))])
 (.cond (.t 53) (.seq (.reg [kn 55 (.fa (.t 1) 1), kn 56 (.ld (.t 55) 1 false), kn 57 (.bin .eql (.t 56) (kc 0)), kn 58 (.mv (.t 57)), ky 59 58 (.fa (.t 1) 2), ky 60 58 (.ld (.t 59) 1 false), ky 61 58 (.call 129 [(.t 60)]), kn 62 (.pick (.t 58) (.t 61) (.c (.d (.v (.bool false))))), kn 2 (.mv (.t 62))])
 (.ret)) (.skip)))))))))))))))
 (.seq (.reg [kn 2 (.mv (.c (.d (.v (.bool false)))))])
 (.ret))))
def r112 : List RC := [.t 2]

def c129l0 : AC :=
 .seq (.seq (.reg [kn 7 (.mv (.t 3)), kn 8 (.mv (.t 0)), kn 9 (.len true (.t 8)), kn 10 (.bin .lss (.t 7) (.t 9))])
 (.cond (.t 10) (.skip) (.exit 0)))
 (.seq (.block 1 (.seq (.reg [kn 13 (.mv (.t 0)), kn 14 (.mv (.t 3)), kn 15 (.ix (.t 13) (.t 14)), kn 16 (.bin .lss (.t 15) (.c (.d (.v (.int .u8 32))))), kn 17 (.mv (.t 16)), ko 18 17 (.mv (.t 0)), ko 19 17 (.mv (.t 3)), ko 20 17 (.ix (.t 18) (.t 19)), ko 21 17 (.bin .eql (.t 20) (.c (.d (.v (.int .u8 34))))), kn 22 (.pick (.t 17) (.c (.d (.v (.bool true)))) (.t 21))])
 (.cond (.t 22) (.seq (.reg [kn 2 (.mv (.c (.d (.v (.bool false)))))])
 (.ret)) (.skip))))
 (.reg [kn 11 (.mv (.t 3)), kn 12 (.bin .add (.t 11) (kc 1)), kn 3 (.mv (.t 12))]))

def c129 : AC :=
 .seq (.reg [kn 2 (.mv (.c (.d (.v (.bool false)))))])
 (.seq (.seq (.reg [kn 4 (.mv (.t 0)), kn 5 (.len true (.t 4)), kn 6 (.bin .gtr (.t 5) (kc 64))])
 (.cond (.t 6) (.seq (.reg [kn 2 (.mv (.c (.d (.v (.bool false)))))])
 (.ret)) (.skip)))
 (.seq (.seq (.reg [kn 3 (.mv (kc 0))])
 (.block 0 (.loop c129l0)))
 (.seq (.reg [kn 2 (.mv (.c (.d (.v (.bool true)))))])
 (.ret))))
def r129 : List RC := [.t 2]

theorem cc112 : Try.f112.body.bind (comp Try.prog (hhI 112)) = some c112 := by kernel_rfl
theorem rr112 : resC Try.prog Try.f112 = some r112 := by kernel_rfl
theorem cc129 : Try.f129.body.bind (comp Try.prog (hhI 129)) = some c129 := by kernel_rfl
theorem rr129 : resC Try.prog Try.f129 = some r129 := by kernel_rfl
def StrP (s : ByteArray) : Prop := s.size ≤ 64 ∧ plainB s
theorem rstring_c {s : ByteArray} (ht : s.size ≤ 140737488355328) (H : List ABlk) : ACalls Try.prog 129 [sv s] H fun u H' => (∃ B, u = bv B ∧ (B = true ↔ StrP s)) ∧ H' = H := by
 refine ACalls.into Try.func129 cc129 rr129 fun hcl => ?_
 have nof : ∀ {p : Prop}, ¬ p → (false = true ↔ p) := fun h => ⟨fun h' => (by cases h'), fun h' => absurd h' h⟩
 have fin : ∀ {B : Bool}, (B = true ↔ StrP s) → Ret [RC.t 2] H.length (fun u H' => (∃ B, u = bv B ∧ (B = true ↔ StrP s)) ∧ H' = H) (some (bv B)) H := fun {B} h => Ret.keep ⟨⟨B, rfl, h⟩, rfl⟩
 by_cases hs : 64 < s.size
 ·simp (maxSteps := 2000000) (disch := omega) only [Try.ntmps129, c129, r129, go_sem, seval, reduceCtorEq]
  exact fin (nof fun h => by have := h.1; omega)
 simp (maxSteps := 2000000) (disch := omega) only [Try.ntmps129, c129, r129, go_sem, seval, reduceCtorEq]
 obtain ⟨S, hS⟩ : ∃ S : Nat → List AV, ∀ i, S i = [sv s, .any, bv false, iv i] ++ List.replicate 19 .any := ⟨_, fun _ => rfl⟩
 refine W.loopG (γ := Nat) (fun i => s.size - i) S (fun _ => H) (fun i => i ≤ s.size ∧ ∀ j, j < i → 32 ≤ chr s j ∧ chr s j ≠ 34) 0 (Wk.slots (by rw [hS]; exact WkL.tail 4 _ rfl (by simp only [List.take_succ_cons, List.take_zero]; repeat' first | exact WkL.nil | refine WkL.cons (Wk1.rfl _) ?_ | refine WkL.cons Wk1.esl ?_ | refine WkL.cons (Wk1.gsl _ _ _) ?_ | refine WkL.cons (Wk1.any _) ?_))) ⟨by omega, fun j hj => by omega⟩ (fun i hi => ?_)
 obtain ⟨q1, q2⟩ := hi
 simp (maxSteps := 2000000) (disch := omega) only [c129l0, hS, go_sem, seval, reduceCtorEq]
 refine Br.dec (fun hc => ?_) (fun hc => ?_) <;> simp (maxSteps := 2000000) (disch := omega) only [go_sem, seval, reduceCtorEq]
 ·by_cases k1 : chr s i < 32
  ·have k1' := k1
   simp only [chr] at k1'
   simp (maxSteps := 2000000) (disch := omega) only [go_sem, seval, reduceCtorEq]
   exact fin (nof fun h => by have := (h.2 i (by omega)).1; omega)
  ·by_cases k2 : chr s i = 34
   ·simp only [chr] at k1 k2
    simp (maxSteps := 2000000) (disch := omega) only [go_sem, seval, reduceCtorEq]
    exact fin (nof fun h => by have := (h.2 i (by omega)).2; simp only [chr] at this; omega)
   ·have k1' := k1
    have k2' := k2
    simp only [chr] at k1' k2'
    simp (maxSteps := 2000000) (disch := omega) only [go_sem, seval, reduceCtorEq]
    refine Nxt.mk (i + 1) (by omega) (Wk.slots (by rw [hS]; exact WkL.tail 4 _ rfl (by simp only [List.take_succ_cons, List.take_zero]; repeat' first | exact WkL.nil | refine WkL.cons (Wk1.rfl _) ?_ | refine WkL.cons Wk1.esl ?_ | refine WkL.cons (Wk1.gsl _ _ _) ?_ | refine WkL.cons (Wk1.any _) ?_))) ⟨by omega, fun j hj => ?_⟩
    rcases Nat.lt_or_ge j i with h' | h'
    ·exact q2 j h'
    ·rw [show j = i by omega]; exact ⟨by omega, k2⟩
 ·exact fin ⟨fun _ => ⟨by omega, fun j hj => q2 j (by omega)⟩, fun _ => rfl⟩
theorem rcgood_c {v : Vl} (hv : v.In) (H : List ABlk) : ACalls Try.prog 112 [v.av] H fun u H' => (∃ B, u = bv B ∧ (B = true ↔ VlP v)) ∧ H' = H := by
 refine ACalls.into Try.func112 cc112 rr112 fun hcl => ?_
 obtain ⟨⟨f0, f1⟩, ⟨n0, n1⟩, ht⟩ := hv
 obtain ⟨a, n, s⟩ := v
 simp only at f0 f1 n0 n1 ht
 have fin : ∀ {B : Bool} {l : List ABlk}, (B = true ↔ VlP ⟨a, n, s⟩) → Ret [RC.t 2] H.length (fun u H' => (∃ B, u = bv B ∧ (B = true ↔ VlP ⟨a, n, s⟩)) ∧ H' = H) (some (bv B)) (H ++ l) := fun {B l} h =>
  Ret.drop _ H (Nat.le_refl _) hcl (.rfl _) (by simp [refs]) ⟨⟨B, rfl, h⟩, rfl⟩
 have hP : VlP ⟨a, n, s⟩ ↔ (a = 6 ∧ n = 0 ∧ s.size ≤ 64 ∧ plainB s) ∨ (s = se ∧ ((a = 1 ∧ -2147483648 ≤ n ∧ n ≤ 2147483647) ∨ (a = 2 ∧ (n = 0 ∨ n = 1)) ∨ (a = 3 ∧ 0 ≤ n ∧ n < 256) ∨ (a = 4 ∧ 0 ≤ n ∧ n < 4294967296) ∨ (a = 5 ∧ n = 0))) := Iff.rfl
 have nof : ∀ {p : Prop}, ¬ p → (false = true ↔ p) := fun h => ⟨fun h' => (by cases h'), fun h' => absurd h' h⟩
 by_cases a6 : a = 6
 ·subst a6
  by_cases hn : n = 0
  ·simp (maxSteps := 2000000) (disch := omega) only [Try.ntmps112, c112, r112, go_sem, seval, reduceCtorEq]
   refine Cont.rel (rstring_c ht _) ?_
   rintro v H' ⟨⟨B, rfl, hB⟩, rfl⟩
   simp (maxSteps := 2000000) (disch := omega) only [go_sem, seval, reduceCtorEq]
   exact fin (hB.trans ⟨fun h => hP.2 (.inl ⟨rfl, hn, h⟩), fun h => by rcases hP.1 h with h | ⟨_, h | h | h | h | h⟩ <;> first | exact h.2.2 | omega⟩)
  ·simp (maxSteps := 2000000) (disch := omega) only [Try.ntmps112, c112, r112, go_sem, seval, reduceCtorEq]
   exact fin (nof fun h => by rcases hP.1 h with h | ⟨_, h | h | h | h | h⟩ <;> omega)
 cases hse : decide (s = se) with
 | false =>
  simp (maxSteps := 2000000) (disch := omega) only [Try.ntmps112, c112, r112, hse, go_sem, seval, reduceCtorEq]
  exact fin (nof fun h => by
   rcases hP.1 h with h | ⟨h, _⟩
   ·omega
   ·simp [h] at hse)
 | true =>
  have hse' := of_decide_eq_true hse
  by_cases a1 : a = 1
  ·simp (maxSteps := 2000000) (disch := omega) only [Try.ntmps112, c112, r112, hse, go_sem, seval, reduceCtorEq]
   refine Cont.rel (rfits_c _ _) ?_
   rintro v H' ⟨⟨B, rfl, hB⟩, rfl⟩
   simp (maxSteps := 2000000) (disch := omega) only [go_sem, seval, reduceCtorEq]
   exact fin (hB.trans ⟨fun h => hP.2 (.inr ⟨hse', .inl ⟨a1, h⟩⟩), fun h => by rcases hP.1 h with h | ⟨_, h | h | h | h | h⟩ <;> first | omega | exact h.2⟩)
  by_cases a2 : a = 2
  ·by_cases n0' : n = 0
   ·simp (maxSteps := 2000000) (disch := omega) only [Try.ntmps112, c112, r112, hse, go_sem, seval, reduceCtorEq]
    exact fin ⟨fun _ => hP.2 (.inr ⟨hse', .inr (.inl ⟨a2, .inl n0'⟩)⟩), fun _ => rfl⟩
   by_cases n1' : n = 1
   ·simp (maxSteps := 2000000) (disch := omega) only [Try.ntmps112, c112, r112, hse, go_sem, seval, reduceCtorEq]
    exact fin ⟨fun _ => hP.2 (.inr ⟨hse', .inr (.inl ⟨a2, .inr n1'⟩)⟩), fun _ => rfl⟩
   ·simp (maxSteps := 2000000) (disch := omega) only [Try.ntmps112, c112, r112, hse, go_sem, seval, reduceCtorEq]
    exact fin (nof fun h => by rcases hP.1 h with h | ⟨_, h | h | h | h | h⟩ <;> omega)
  by_cases a3 : a = 3
  ·by_cases k0 : 0 ≤ n
   ·by_cases k1 : n < 256
    ·simp (maxSteps := 2000000) (disch := omega) only [Try.ntmps112, c112, r112, hse, go_sem, seval, reduceCtorEq]
     exact fin ⟨fun _ => hP.2 (.inr ⟨hse', .inr (.inr (.inl ⟨a3, by omega, by omega⟩))⟩), fun _ => rfl⟩
    ·simp (maxSteps := 2000000) (disch := omega) only [Try.ntmps112, c112, r112, hse, go_sem, seval, reduceCtorEq]
     exact fin (nof fun h => by rcases hP.1 h with h | ⟨_, h | h | h | h | h⟩ <;> omega)
   ·simp (maxSteps := 2000000) (disch := omega) only [Try.ntmps112, c112, r112, hse, go_sem, seval, reduceCtorEq]
    exact fin (nof fun h => by rcases hP.1 h with h | ⟨_, h | h | h | h | h⟩ <;> omega)
  by_cases a4 : a = 4
  ·by_cases k0 : 0 ≤ n
   ·by_cases k1 : n < 4294967296
    ·simp (maxSteps := 2000000) (disch := omega) only [Try.ntmps112, c112, r112, hse, go_sem, seval, reduceCtorEq]
     exact fin ⟨fun _ => hP.2 (.inr ⟨hse', .inr (.inr (.inr (.inl ⟨a4, by omega, by omega⟩)))⟩), fun _ => rfl⟩
    ·simp (maxSteps := 2000000) (disch := omega) only [Try.ntmps112, c112, r112, hse, go_sem, seval, reduceCtorEq]
     exact fin (nof fun h => by rcases hP.1 h with h | ⟨_, h | h | h | h | h⟩ <;> omega)
   ·simp (maxSteps := 2000000) (disch := omega) only [Try.ntmps112, c112, r112, hse, go_sem, seval, reduceCtorEq]
    exact fin (nof fun h => by rcases hP.1 h with h | ⟨_, h | h | h | h | h⟩ <;> omega)
  by_cases a5 : a = 5
  ·by_cases hr : n = 0
   ·simp (maxSteps := 2000000) (disch := omega) only [Try.ntmps112, c112, r112, hse, go_sem, seval, reduceCtorEq]
    exact fin ⟨fun _ => hP.2 (.inr ⟨hse', .inr (.inr (.inr (.inr ⟨a5, hr⟩)))⟩), fun _ => rfl⟩
   ·simp (maxSteps := 2000000) (disch := omega) only [Try.ntmps112, c112, r112, hse, go_sem, seval, reduceCtorEq]
    exact fin (nof fun h => by rcases hP.1 h with h | ⟨_, h | h | h | h | h⟩ <;> omega)
  ·simp (maxSteps := 2000000) (disch := omega) only [Try.ntmps112, c112, r112, hse, go_sem, seval, reduceCtorEq]
   exact fin (nof fun h => by rcases hP.1 h with h | ⟨_, h | h | h | h | h⟩ <;> omega)
end Go.Proofs.Ythifjndenhjobaa

/- Objects: may they be? Printed by genI6.py. -/
namespace Go.Proofs.Ythifjndenhjobaa
set_option linter.unusedSimpArgs false
set_option linter.unusedVariables false
set_option maxRecDepth 20000
set_option maxHeartbeats 4000000
open Go.RowKit

def c85 : AC :=
 .seq (.reg [kn 2 (.bx (.t 0)), kn 3 (.bx (.t 1)), kn 4 (.mv (.c (.d (.v (.bool false)))))])
 (.seq (.seq (.reg [kn 6 (.fa (.t 3) 1), kn 7 (.ld (.t 6) 1 false), kn 8 (.call 82 [(.t 7)]), kn 9 (.un .not (.t 8)), kn 10 (.mv (.t 9)), ko 11 10 (.fa (.t 3) 2), ko 12 10 (.ld (.t 11) 1 false), ko 13 10 (.bin .lss (.t 12) (kc 0)), kn 14 (.pick (.t 10) (.c (.d (.v (.bool true)))) (.t 13)), kn 15 (.mv (.t 14)), ko 16 15 (.fa (.t 3) 2), ko 17 15 (.ld (.t 16) 1 false), ko 18 15 (.fa (.t 2) 3), ko 19 15 (.ld (.t 18) 1 false), ko 20 15 (.len false (.t 19)), ko 21 15 (.bin .geq (.t 17) (.t 20)), kn 22 (.pick (.t 15) (.c (.d (.v (.bool true)))) (.t 21)), kn 23 (.mv (.t 22)), ko 24 23 (.fa (.t 3) 0), ko 25 23 (.ld (.t 24) 1 false), ko 26 23 (.bin .neq (.t 25) (kc 1)), ko 27 23 (.mv (.t 26)), ky 28 27 (.fa (.t 3) 3), ky 29 27 (.ld (.t 28) 3 true), ky 30 27 (.bd [kz, kz, (.d (.v (.string ⟨#[]⟩)))] []), ky 31 27 (.call 38 [(.t 29), (.t 30)]), ky 32 27 (.un .not (.t 31)), ko 33 23 (.pick (.t 27) (.t 32) (.c (.d (.v (.bool false))))), kn 34 (.pick (.t 23) (.c (.d (.v (.bool true)))) (.t 33))])
 (.cond (.t 34) (.seq (.reg [kn 4 (.mv (.c (.d (.v (.bool false)))))])
 (.ret)) (.skip)))
 (.seq (.reg [kn 35 (.fa (.t 2) 3), kn 36 (.ld (.t 35) 1 false), kn 37 (.fa (.t 3) 2), kn 38 (.ld (.t 37) 1 false), kn 39 (.ia (.t 36) (.t 38) 10), kn 40 (.fa (.t 39) 0), kn 41 (.ld (.t 40) 1 false), kn 5 (.mv (.t 41))])
 (.seq (.seq (.reg [kn 42 (.fa (.t 3) 0), kn 43 (.ld (.t 42) 1 false)])
 (.block 0 (.seq (.reg [kn 45 (.bin .eql (.t 43) (kc 1)), kn 44 (.mv (.t 45))])
 (.cond (.t 44) (.seq (.reg [kn 46 (.fa (.t 3) 3), kn 47 (.ld (.t 46) 3 true), kn 48 (.call 112 [(.t 47)]), kn 49 (.mv (.t 48)), ky 50 49 (.fa (.t 3) 2), ky 51 49 (.ld (.t 50) 1 false), ky 52 49 (.fa (.t 3) 3), ky 53 49 (.fa (.t 52) 0), ky 54 49 (.ld (.t 53) 1 false), ky 55 49 (.bin .eql (.t 51) (.t 54)), kn 56 (.pick (.t 49) (.t 55) (.c (.d (.v (.bool false))))), kn 57 (.mv (.t 56)), ky 58 57 (.fa (.t 3) 6), ky 59 57 (.ld (.t 58) 1 false), ky 60 57 (.bin .eql (.t 59) (kc 0)), kn 61 (.pick (.t 57) (.t 60) (.c (.d (.v (.bool false))))), kn 4 (.mv (.t 61))])
 (.ret)) (.seq (.reg [kn 63 (.bin .eql (.t 43) (kc 2)), kn 62 (.mv (.t 63))])
 (.cond (.t 62) (.seq (.reg [kn 64 (.fa (.t 3) 2), kn 65 (.ld (.t 64) 1 false), kn 66 (.bin .geq (.t 65) (kc 1)), kn 67 (.mv (.t 66)), ky 68 67 (.fa (.t 3) 2), ky 69 67 (.ld (.t 68) 1 false), ky 70 67 (.bin .leq (.t 69) (kc 4)), kn 71 (.pick (.t 67) (.t 70) (.c (.d (.v (.bool false))))), kn 72 (.mv (.t 71)), ko 73 72 (.fa (.t 3) 2), ko 74 72 (.ld (.t 73) 1 false), ko 75 72 (.bin .geq (.t 74) (kc 7)), kn 76 (.pick (.t 72) (.c (.d (.v (.bool true)))) (.t 75)), kn 77 (.mv (.t 76)), ky 78 77 (.fa (.t 3) 6), ky 79 77 (.ld (.t 78) 1 false), ky 80 77 (.bin .eql (.t 79) (kc 0)), kn 81 (.pick (.t 77) (.t 80) (.c (.d (.v (.bool false))))), kn 4 (.mv (.t 81))])
 (.ret)) (.seq (.reg [kn 83 (.bin .eql (.t 43) (kc 3)), kn 82 (.mv (.t 83))])
 (.cond (.t 82) (.seq (.reg [kn 84 (.mv (.t 5)), kn 85 (.bin .neq (.t 84) (kc 0)), kn 86 (.mv (.t 85)), ky 87 86 (.mv (.t 5)), ky 88 86 (.bin .neq (.t 87) (kc 5)), kn 89 (.pick (.t 86) (.t 88) (.c (.d (.v (.bool false))))), kn 90 (.mv (.t 89)), ky 91 90 (.mv (.t 5)), ky 92 90 (.bin .neq (.t 91) (kc 6)), kn 93 (.pick (.t 90) (.t 92) (.c (.d (.v (.bool false))))), kn 94 (.mv (.t 93)), ky 95 94 (.mv (.t 5)), ky 96 94 (.bin .neq (.t 95) (kc 8)), kn 97 (.pick (.t 94) (.t 96) (.c (.d (.v (.bool false))))), kn 98 (.mv (.t 97)), ky 99 98 (.fa (.t 3) 6), ky 100 98 (.ld (.t 99) 1 false), ky 101 98 (.bin .geq (.t 100) (kc 0)), kn 102 (.pick (.t 98) (.t 101) (.c (.d (.v (.bool false))))), kn 103 (.mv (.t 102)), ky 104 103 (.fa (.t 3) 6), ky 105 103 (.ld (.t 104) 1 false), ky 106 103 (.bin .lss (.t 105) (kc 64)), kn 107 (.pick (.t 103) (.t 106) (.c (.d (.v (.bool false))))), kn 4 (.mv (.t 107))])
 (.ret)) (.seq (.reg [kn 109 (.bin .eql (.t 43) (kc 4)), kn 108 (.mv (.t 109))])
 (.cond (.t 108) (.seq (.reg [kn 110 (.mv (.t 5)), kn 111 (.bin .eql (.t 110) (kc 11)), kn 112 (.mv (.t 111)), ky 113 112 (.fa (.t 3) 6), ky 114 112 (.ld (.t 113) 1 false), ky 115 112 (.bin .geq (.t 114) (kc 1)), kn 116 (.pick (.t 112) (.t 115) (.c (.d (.v (.bool false))))), kn 117 (.mv (.t 116)), ky 118 117 (.fa (.t 3) 6), ky 119 117 (.ld (.t 118) 1 false), ky 120 117 (.bin .lss (.t 119) (kc 64)), kn 121 (.pick (.t 117) (.t 120) (.c (.d (.v (.bool false))))), kn 4 (.mv (.t 121))])
 (.ret)) (.skip)))))))))))
 (.seq (.reg [kn 4 (.mv (.c (.d (.v (.bool false)))))])
 (.ret)))))
def r85 : List RC := [.t 4]

theorem cc85 : Try.f85.body.bind (comp Try.prog (hhI 85)) = some c85 := by kernel_rfl
theorem rr85 : resC Try.prog Try.f85 = some r85 := by kernel_rfl
theorem robject_c {f : Fc} (hl : f.types.length ≤ 9000000) {o : Ob} (hv : o.val.In) (H : List ABlk) : ACalls Try.prog 85 [f.av, o.av] H (ObR f o H) := by
 refine ACalls.into Try.func85 cc85 rr85 fun hcl => ?_
 have fin : ∀ {B : Bool} {l : List ABlk}, (B = true ↔ ObP f.types o) → Ret [RC.t 4] H.length (ObR f o H) (some (bv B)) (H ++ l) := fun {B l} h =>
  Ret.drop _ H (Nat.le_refl _) hcl (.rfl _) (by simp [refs]) ⟨⟨B, rfl, h⟩, rfl⟩
 have nof : ¬ ObP f.types o → (false = true ↔ ObP f.types o) := fun h => ⟨fun h' => (by cases h'), fun h' => absurd h' h⟩
 have hP : ObP f.types o ↔ ObQ f.types o.cls o.name o.typ o.val o.n := Iff.rfl
 obtain ⟨cls, name, typ, val, n⟩ := o
 simp only at hv hP
 have hkf := vl_fits hv
 have hkz := vl_fits zeV_in
 have hz0 : decide (val = zeV) = (decide (val.form = 0) && decide (val.n = 0) && decide (val.text = se)) := (Vl.eq_iff (w := zeV)).symm
 by_cases h1 : Nm name
 rotate_left
 ·simp (maxSteps := 2000000) (disch := omega) only [Try.ntmps85, c85, r85, Fc.cs, Ob.cs, go_sem, seval, reduceCtorEq]
  refine Cont.mk (iword_c _ _) ?_
  rw [nm_f h1]
  simp (maxSteps := 2000000) (disch := omega) only [go_sem, seval, reduceCtorEq]
  exact fin (nof fun h => h1 (hP.1 h).1)
 have h1' := nm_t h1
 by_cases h2 : typ < 0
 ·simp (maxSteps := 2000000) (disch := omega) only [Try.ntmps85, c85, r85, Fc.cs, Ob.cs, go_sem, seval, reduceCtorEq]
  refine Cont.mk (iword_c _ _) ?_
  rw [h1']
  simp (maxSteps := 2000000) (disch := omega) only [go_sem, seval, reduceCtorEq]
  exact fin (nof fun h => by have := (hP.1 h).2.1.1; omega)
 by_cases h3 : (f.types.length : Int) ≤ typ
 ·simp (maxSteps := 2000000) (disch := omega) only [Try.ntmps85, c85, r85, Fc.cs, Ob.cs, go_sem, seval, reduceCtorEq]
  refine Cont.mk (iword_c _ _) ?_
  rw [h1']
  simp (maxSteps := 2000000) (disch := omega) only [List.length_map, go_sem, seval, reduceCtorEq]
  exact fin (nof fun h => by have := (hP.1 h).2.1.2; omega)
 have hpl : placeP f.types typ := ⟨by omega, by omega⟩
 have hia := iaA_ty (t := f.types) (a := typ) (by omega) (by omega)
 by_cases c1 : cls = 1
 ·simp (maxSteps := 2000000) (disch := omega) only [Try.ntmps85, c85, r85, Fc.cs, Ob.cs, go_sem, seval, reduceCtorEq]
  refine Cont.mk (iword_c _ _) ?_
  rw [h1']
  simp (maxSteps := 2000000) (disch := omega) only [List.length_map, hia, Ty.c, go_sem, seval, reduceCtorEq]
  refine Cont.rel (rcgood_c hv _) ?_
  rintro v H' ⟨⟨B, rfl, hB⟩, rfl⟩
  cases hBv : B with
  | false =>
   simp (maxSteps := 2000000) (disch := omega) only [go_sem, seval, reduceCtorEq]
   exact fin (nof fun h => by
    rcases (hP.1 h).2.2 with h | h | h | h
    ·have := hB.2 h.2.1; rw [hBv] at this; cases this
    all_goals (have := h.1; omega))
  | true =>
   have hV := hB.1 hBv
   by_cases k1 : typ = val.form
   ·by_cases k2 : n = 0
    ·simp (maxSteps := 2000000) (disch := omega) only [go_sem, seval, reduceCtorEq]
     exact fin ⟨fun _ => hP.2 ⟨h1, hpl, .inl ⟨c1, hV, k1, k2⟩⟩, fun _ => rfl⟩
    ·simp (maxSteps := 2000000) (disch := omega) only [go_sem, seval, reduceCtorEq]
     exact fin (nof fun h => by rcases (hP.1 h).2.2 with h | h | h | h <;> first | exact k2 h.2.2.2 | (have := h.1; omega))
   ·simp (maxSteps := 2000000) (disch := omega) only [go_sem, seval, reduceCtorEq]
    exact fin (nof fun h => by rcases (hP.1 h).2.2 with h | h | h | h <;> first | exact k1 h.2.2.1 | (have := h.1; omega))
 cases hz : decide (val = zeV) with
 | false =>
  have hz2 := hz
  rw [hz0] at hz2
  have hno : ¬ ObP f.types ⟨cls, name, typ, val, n⟩ := fun h => by
   have hv0 : val ≠ zeV := of_decide_eq_false hz
   rcases (hP.1 h).2.2 with h | h | h | h
   ·exact c1 h.1
   all_goals exact hv0 h.2.1
  simp (maxSteps := 2000000) (disch := omega) only [Try.ntmps85, c85, r85, Fc.cs, Ob.cs, go_sem, seval, reduceCtorEq]
  refine Cont.mk (iword_c _ _) ?_
  rw [h1']
  simp (maxSteps := 2000000) (disch := omega) only [List.length_map, go_sem, seval, reduceCtorEq]
  refine Cont.mk (rsameV_c val zeV _) ?_
  rw [hz]
  simp (maxSteps := 2000000) (disch := omega) only [go_sem, seval, reduceCtorEq]
  exact fin (nof hno)
 | true =>
  have hze : val = zeV := of_decide_eq_true hz
  simp (maxSteps := 2000000) (disch := omega) only [Try.ntmps85, c85, r85, Fc.cs, Ob.cs, go_sem, seval, reduceCtorEq]
  refine Cont.mk (iword_c _ _) ?_
  rw [h1']
  simp (maxSteps := 2000000) (disch := omega) only [List.length_map, go_sem, seval, reduceCtorEq]
  refine Cont.mk (rsameV_c val zeV _) ?_
  rw [hz]
  simp (maxSteps := 2000000) (disch := omega) only [hia, Ty.c, go_sem, seval, reduceCtorEq]
  by_cases c2 : cls = 2
  ·by_cases k1 : n = 0
   ·by_cases k2 : 1 ≤ typ
    ·by_cases k3 : typ ≤ 4
     ·simp (maxSteps := 2000000) (disch := omega) only [go_sem, seval, reduceCtorEq]
      exact fin ⟨fun _ => hP.2 ⟨h1, hpl, .inr (.inl ⟨c2, hze, k1, .inl ⟨k2, k3⟩⟩)⟩, fun _ => rfl⟩
     ·by_cases k4 : 7 ≤ typ
      ·simp (maxSteps := 2000000) (disch := omega) only [go_sem, seval, reduceCtorEq]
       exact fin ⟨fun _ => hP.2 ⟨h1, hpl, .inr (.inl ⟨c2, hze, k1, .inr k4⟩)⟩, fun _ => rfl⟩
      ·simp (maxSteps := 2000000) (disch := omega) only [go_sem, seval, reduceCtorEq]
       exact fin (nof fun h => by rcases (hP.1 h).2.2 with h | h | h | h <;> first | (have := h.2.2.2; omega) | (have := h.1; omega))
    ·simp (maxSteps := 2000000) (disch := omega) only [go_sem, seval, reduceCtorEq]
     exact fin (nof fun h => by rcases (hP.1 h).2.2 with h | h | h | h <;> first | (have := h.2.2.2; omega) | (have := h.1; omega))
   ·by_cases k2 : 1 ≤ typ
    ·by_cases k3 : typ ≤ 4
     ·simp (maxSteps := 2000000) (disch := omega) only [go_sem, seval, reduceCtorEq]
      exact fin (nof fun h => by rcases (hP.1 h).2.2 with h | h | h | h <;> first | exact k1 h.2.2.1 | (have := h.1; omega))
     ·by_cases k4 : 7 ≤ typ
      ·simp (maxSteps := 2000000) (disch := omega) only [go_sem, seval, reduceCtorEq]
       exact fin (nof fun h => by rcases (hP.1 h).2.2 with h | h | h | h <;> first | exact k1 h.2.2.1 | (have := h.1; omega))
      ·simp (maxSteps := 2000000) (disch := omega) only [go_sem, seval, reduceCtorEq]
       exact fin (nof fun h => by rcases (hP.1 h).2.2 with h | h | h | h <;> first | exact k1 h.2.2.1 | (have := h.1; omega))
    ·simp (maxSteps := 2000000) (disch := omega) only [go_sem, seval, reduceCtorEq]
     exact fin (nof fun h => by rcases (hP.1 h).2.2 with h | h | h | h <;> first | exact k1 h.2.2.1 | (have := h.1; omega))
  by_cases c3 : cls = 3
  ·by_cases k : (tyAt f.types typ).form ≠ 0 ∧ (tyAt f.types typ).form ≠ 5 ∧ (tyAt f.types typ).form ≠ 6 ∧ (tyAt f.types typ).form ≠ 8
   ·obtain ⟨k1, k2, k3, k4⟩ := k
    by_cases k5 : 0 ≤ n
    ·by_cases k6 : n < 64
     ·simp (maxSteps := 2000000) (disch := omega) only [go_sem, seval, reduceCtorEq]
      exact fin ⟨fun _ => hP.2 ⟨h1, hpl, .inr (.inr (.inl ⟨c3, hze, k1, k2, k3, k4, k5, k6⟩))⟩, fun _ => rfl⟩
     ·simp (maxSteps := 2000000) (disch := omega) only [go_sem, seval, reduceCtorEq]
      exact fin (nof fun h => by rcases (hP.1 h).2.2 with h | h | h | h <;> first | exact k6 h.2.2.2.2.2.2.2 | (have := h.1; omega))
    ·simp (maxSteps := 2000000) (disch := omega) only [go_sem, seval, reduceCtorEq]
     exact fin (nof fun h => by rcases (hP.1 h).2.2 with h | h | h | h <;> first | exact k5 h.2.2.2.2.2.2.1 | (have := h.1; omega))
   ·have hno : ¬ ObP f.types ⟨cls, name, typ, val, n⟩ := fun h => by rcases (hP.1 h).2.2 with h | h | h | h <;> first | exact k ⟨h.2.2.1, h.2.2.2.1, h.2.2.2.2.1, h.2.2.2.2.2.1⟩ | (have := h.1; omega)
    have k' : (tyAt f.types typ).form = 0 ∨ (tyAt f.types typ).form = 5 ∨ (tyAt f.types typ).form = 6 ∨ (tyAt f.types typ).form = 8 := by omega
    clear k
    generalize (tyAt f.types typ).form = fm at *
    rcases k' with rfl | rfl | rfl | rfl <;> (simp (maxSteps := 2000000) (disch := omega) only [go_sem, seval, reduceCtorEq]; exact fin (nof hno))
  by_cases c4 : cls = 4
  ·by_cases k : (tyAt f.types typ).form = 11
   ·by_cases k5 : 1 ≤ n
    ·by_cases k6 : n < 64
     ·simp (maxSteps := 2000000) (disch := omega) only [go_sem, seval, reduceCtorEq]
      exact fin ⟨fun _ => hP.2 ⟨h1, hpl, .inr (.inr (.inr ⟨c4, hze, k, k5, k6⟩))⟩, fun _ => rfl⟩
     ·simp (maxSteps := 2000000) (disch := omega) only [go_sem, seval, reduceCtorEq]
      exact fin (nof fun h => by rcases (hP.1 h).2.2 with h | h | h | h <;> first | exact k6 h.2.2.2.2 | (have := h.1; omega))
    ·simp (maxSteps := 2000000) (disch := omega) only [go_sem, seval, reduceCtorEq]
     exact fin (nof fun h => by rcases (hP.1 h).2.2 with h | h | h | h <;> first | exact k5 h.2.2.2.1 | (have := h.1; omega))
   ·simp (maxSteps := 2000000) (disch := omega) only [go_sem, seval, reduceCtorEq]
    exact fin (nof fun h => by rcases (hP.1 h).2.2 with h | h | h | h <;> first | exact k h.2.2.1 | (have := h.1; omega))
  ·simp (maxSteps := 2000000) (disch := omega) only [go_sem, seval, reduceCtorEq]
   exact fin (nof fun h => by rcases (hP.1 h).2.2 with h | h | h | h <;> (have := h.1; omega))
end Go.Proofs.Ythifjndenhjobaa
