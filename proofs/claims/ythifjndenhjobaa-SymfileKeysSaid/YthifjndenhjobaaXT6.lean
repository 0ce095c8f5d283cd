/- The reference: does a type stand in itself? -/
import Derived.Test.YthifjndenhjobaaXT4
namespace Go.Proofs.Ythifjndenhjobaa
set_option linter.unusedSimpArgs false
set_option linter.unusedVariables false
set_option maxRecDepth 20000
set_option maxHeartbeats 4000000
open Go.RowKit Relation

abbrev kd (k : Int) : List Dat := [.v (.int .i64 k)]
abbrev S1 (t : List Ty) (a : Int) (b bb : Nat) (ks : List Int) (i : Nat) : List AV := [tv t, iv a, .hsl b 0 t.length t.length 1, .any, .any, .any, bv false, .gsl bb 1 (ks.map kd), iv i]
end Go.Proofs.Ythifjndenhjobaa

/- Tables: the small questions. -/
namespace Go.Proofs.Ythifjndenhjobaa
set_option linter.unusedSimpArgs false
set_option linter.unusedVariables false
set_option maxRecDepth 20000
set_option maxHeartbeats 4000000
open Go.RowKit

def c131 : AC :=
 .seq (.reg [kn 3 (.mv (kc 0))])
 (.seq (.seq (.reg [kn 4 (.mv (.t 0)), kn 5 (.bin .lss (.t 4) (kc 0)), kn 6 (.mv (.t 5)), ko 7 6 (.mv (.t 0)), ko 8 6 (.ld (.t 1) 1 false), ko 9 6 (.len false (.t 8)), ko 10 6 (.bin .geq (.t 7) (.t 9)), kn 11 (.pick (.t 6) (.c (.d (.v (.bool true)))) (.t 10))])
 (.cond (.t 11) (.seq (.reg [kn 3 (.mv (kc (-1)))])
 (.ret)) (.skip)))
 (.seq (.reg [kn 12 (.ld (.t 1) 1 false), kn 13 (.mv (.t 0)), kn 14 (.ia (.t 12) (.t 13) 10), kn 15 (.fa (.t 14) 0), kn 16 (.ld (.t 15) 1 false), kn 3 (.mv (.t 16))])
 (.ret)))
def r131 : List RC := [.t 3]

def c132 : AC :=
 .seq (.reg [kn 2 (.mv (.c (.d (.v (.bool false)))))])
 (.seq (.reg [kn 3 (.mv (.t 0)), kn 4 (.bin .geq (.t 3) (kc 1)), kn 5 (.mv (.t 4)), ky 6 5 (.mv (.t 0)), ky 7 5 (.bin .leq (.t 6) (kc 4)), kn 8 (.pick (.t 5) (.t 7) (.c (.d (.v (.bool false))))), kn 9 (.mv (.t 8)), ko 10 9 (.mv (.t 0)), ko 11 9 (.bin .eql (.t 10) (kc 7)), kn 12 (.pick (.t 9) (.c (.d (.v (.bool true)))) (.t 11)), kn 13 (.mv (.t 12)), ko 14 13 (.mv (.t 0)), ko 15 13 (.bin .geq (.t 14) (kc 9)), ko 16 13 (.mv (.t 15)), ky 17 16 (.mv (.t 0)), ky 18 16 (.bin .leq (.t 17) (kc 11)), ko 19 13 (.pick (.t 16) (.t 18) (.c (.d (.v (.bool false))))), kn 20 (.pick (.t 13) (.c (.d (.v (.bool true)))) (.t 19)), kn 2 (.mv (.t 20))])
 (.ret))
def r132 : List RC := [.t 2]

def c134 : AC :=
 .seq (.reg [kn 2 (.mv (.c (.d (.v (.bool false)))))])
 (.seq (.reg [kn 3 (.mv (.t 0)), kn 4 (.bin .geq (.t 3) (kc 1)), kn 5 (.mv (.t 4)), ky 6 5 (.mv (.t 0)), ky 7 5 (.bin .leq (.t 6) (kc 4)), kn 8 (.pick (.t 5) (.t 7) (.c (.d (.v (.bool false))))), kn 9 (.mv (.t 8)), ko 10 9 (.mv (.t 0)), ko 11 9 (.bin .eql (.t 10) (kc 10)), kn 12 (.pick (.t 9) (.c (.d (.v (.bool true)))) (.t 11)), kn 13 (.mv (.t 12)), ko 14 13 (.mv (.t 0)), ko 15 13 (.bin .eql (.t 14) (kc 11)), kn 16 (.pick (.t 13) (.c (.d (.v (.bool true)))) (.t 15)), kn 2 (.mv (.t 16))])
 (.ret))
def r134 : List RC := [.t 2]

theorem cc131 : Try.f131.body.bind (comp Try.prog (hh 131)) = some c131 := by kernel_rfl
theorem rr131 : resC Try.prog Try.f131 = some r131 := by kernel_rfl
theorem cc132 : Try.f132.body.bind (comp Try.prog (hh 132)) = some c132 := by kernel_rfl
theorem rr132 : resC Try.prog Try.f132 = some r132 := by kernel_rfl
theorem cc134 : Try.f134.body.bind (comp Try.prog (hh 134)) = some c134 := by kernel_rfl
theorem rr134 : resC Try.prog Try.f134 = some r134 := by kernel_rfl
def partP (n : Int) : Prop := (1 ≤ n ∧ n ≤ 4) ∨ n = 7 ∨ (9 ≤ n ∧ n ≤ 11)
def plainP (n : Int) : Prop := (1 ≤ n ∧ n ≤ 4) ∨ n = 10 ∨ n = 11
instance (n : Int) : Decidable (partP n) := by unfold partP; infer_instance
instance (n : Int) : Decidable (plainP n) := by unfold plainP; infer_instance
def formA (t : List Ty) (n : Int) : Int := if 0 ≤ n ∧ n < t.length then (tyAt t n).form else -1
def placeP (t : List Ty) (n : Int) : Prop := 0 ≤ n ∧ n < t.length
def holdsP (t : List Ty) (n : Int) : Prop := placeP t n ∧ (tyAt t n).form ≠ 0 ∧ (tyAt t n).form ≠ 5 ∧ (tyAt t n).form ≠ 6 ∧ (tyAt t n).form ≠ 8
instance (t : List Ty) (n : Int) : Decidable (placeP t n) := by unfold placeP; infer_instance
instance (t : List Ty) (n : Int) : Decidable (holdsP t n) := by unfold holdsP; infer_instance

theorem bvt {c : Prop} [Decidable c] (h : c) : bv true = bv (decide c) := by rw [decide_eq_true h]
theorem bvf {c : Prop} [Decidable c] (h : ¬ c) : bv false = bv (decide c) := by rw [decide_eq_false h]
theorem part_c (n : Int) (H : List ABlk) : ACalls Try.prog 132 [iv n] H fun v H' => v = bv (decide (partP n)) ∧ H' = H := by
 refine ACalls.into Try.func132 cc132 rr132 fun hcl => ?_
 have hsp : n < 1 ∨ (1 ≤ n ∧ n ≤ 4) ∨ (4 < n ∧ n < 7) ∨ n = 7 ∨ (7 < n ∧ n < 9) ∨ (9 ≤ n ∧ n ≤ 11) ∨ 11 < n := by omega
 rcases hsp with h | ⟨h, h'⟩ | ⟨h, h'⟩ | h | ⟨h, h'⟩ | ⟨h, h'⟩ | h <;> (simp (maxSteps := 2000000) (disch := omega) only [Try.ntmps132, c132, r132, go_sem, seval, reduceCtorEq]; first | exact Ret.keep ⟨bvt (by simp only [partP]; omega), rfl⟩ | exact Ret.keep ⟨bvf (by simp only [partP]; omega), rfl⟩)
theorem plain_c (n : Int) (H : List ABlk) : ACalls Try.prog 134 [iv n] H fun v H' => v = bv (decide (plainP n)) ∧ H' = H := by
 refine ACalls.into Try.func134 cc134 rr134 fun hcl => ?_
 have hsp : n < 1 ∨ (1 ≤ n ∧ n ≤ 4) ∨ (4 < n ∧ n < 10) ∨ n = 10 ∨ n = 11 ∨ 11 < n := by omega
 rcases hsp with h | ⟨h, h'⟩ | ⟨h, h'⟩ | h | h | h <;> (simp (maxSteps := 2000000) (disch := omega) only [Try.ntmps134, c134, r134, go_sem, seval, reduceCtorEq]; first | exact Ret.keep ⟨bvt (by simp only [plainP]; omega), rfl⟩ | exact Ret.keep ⟨bvf (by simp only [plainP]; omega), rfl⟩)
theorem form_c {t : List Ty} {H : List ABlk} {b : Nat} (n : Int) (ht : t.length ≤ 9000000) (hb : H[b]? = some (.cells [tv t])) : ACalls Try.prog 131 [iv n, .ptr b 0] H fun v H' => v = iv (formA t n) ∧ H' = H := by
 refine ACalls.into Try.func131 cc131 rr131 fun hcl => ?_
 have hsp : n < 0 ∨ (0 ≤ n ∧ n < t.length) ∨ (0 ≤ n ∧ (t.length : Int) ≤ n) := by omega
 rcases hsp with h | ⟨h, h'⟩ | ⟨h, h'⟩
 ·simp (maxSteps := 2000000) (disch := omega) only [Try.ntmps131, c131, r131, hb, List.length_map, go_sem, seval, reduceCtorEq]
  exact Ret.keep ⟨by rw [formA, if_neg (by omega)], rfl⟩
 ·have hty := iaA_ty h h'
  simp (maxSteps := 2000000) (disch := omega) only [Try.ntmps131, c131, r131, hb, List.length_map, hty, Ty.c, go_sem, seval, reduceCtorEq]
  exact Ret.keep ⟨by rw [formA, if_pos ⟨h, h'⟩], rfl⟩
 ·simp (maxSteps := 2000000) (disch := omega) only [Try.ntmps131, c131, r131, hb, List.length_map, go_sem, seval, reduceCtorEq]
  exact Ret.keep ⟨by rw [formA, if_neg (by omega)], rfl⟩
end Go.Proofs.Ythifjndenhjobaa
