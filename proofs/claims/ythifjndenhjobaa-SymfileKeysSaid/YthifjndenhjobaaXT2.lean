/- Names: letters and digits. -/
import Derived.Test.YthifjndenhjobaaXSet
import Derived.Test.YthifjndenhjobaaXDraw3
import Derived.Test.YthifjndenhjobaaXCode
namespace Go.Proofs.Ythifjndenhjobaa
set_option linter.unusedSimpArgs false
set_option linter.unusedVariables false
set_option maxRecDepth 20000
set_option maxHeartbeats 2000000
open Go.RowKit

def c104 : AC :=
 .seq (.reg [kn 4 (.mv (.c (.d (.v (.bool false)))))])
 (.seq (.reg [kn 5 (.mv (.t 0)), kn 6 (.mv (.t 1)), kn 7 (.call 116 [(.t 5), (.t 6)]), kn 8 (.bin .geq (.t 7) (kc 0)), kn 4 (.mv (.t 8))])
 (.ret))
def r104 : List RC := [.t 4]

def c108l0 : AC :=
 .seq (.seq (.reg [kn 18 (.mv (.t 3)), kn 19 (.mv (.t 0)), kn 20 (.len true (.t 19)), kn 21 (.bin .lss (.t 18) (.t 20))])
 (.cond (.t 21) (.skip) (.exit 0)))
 (.seq (.block 1 (.seq (.reg [kn 24 (.mv (.t 0)), kn 25 (.mv (.t 3)), kn 26 (.ix (.t 24) (.t 25)), kn 27 (.call 123 [(.t 26)]), kn 28 (.un .not (.t 27)), kn 29 (.mv (.t 28)), ky 30 29 (.mv (.t 0)), ky 31 29 (.mv (.t 3)), ky 32 29 (.ix (.t 30) (.t 31)), ky 33 29 (.call 124 [(.t 32)]), ky 34 29 (.un .not (.t 33)), kn 35 (.pick (.t 29) (.t 34) (.c (.d (.v (.bool false)))))])
 (.cond (.t 35) (.seq (.reg [kn 2 (.mv (.c (.d (.v (.bool false)))))])
 (.ret)) (.skip))))
 (.reg [kn 22 (.mv (.t 3)), kn 23 (.bin .add (.t 22) (kc 1)), kn 3 (.mv (.t 23))]))

def c108 : AC :=
 .seq (.reg [kn 2 (.mv (.c (.d (.v (.bool false)))))])
 (.seq (.seq (.reg [kn 4 (.mv (.t 0)), kn 5 (.len true (.t 4)), kn 6 (.bin .lss (.t 5) (kc 1)), kn 7 (.mv (.t 6)), ko 8 7 (.mv (.t 0)), ko 9 7 (.len true (.t 8)), ko 10 7 (.bin .gtr (.t 9) (kc 24)), kn 11 (.pick (.t 7) (.c (.d (.v (.bool true)))) (.t 10)), kn 12 (.mv (.t 11)), ko 13 12 (.mv (.t 0)), ko 14 12 (.ix (.t 13) (kc 0)), ko 15 12 (.call 123 [(.t 14)]), ko 16 12 (.un .not (.t 15)), kn 17 (.pick (.t 12) (.c (.d (.v (.bool true)))) (.t 16))])
 (.cond (.t 17) (.seq (.reg [kn 2 (.mv (.c (.d (.v (.bool false)))))])
 (.ret)) (.skip)))
 (.seq (.seq (.reg [kn 3 (.mv (kc 1))])
 (.block 0 (.loop c108l0)))
 (.seq (.reg [kn 2 (.mv (.c (.d (.v (.bool true)))))])
 (.ret))))
def r108 : List RC := [.t 2]

def c116l0 : AC :=
 .seq (.reg [kn 9 (.bin .lss (.t 8) (.t 7))])
 (.seq (.cond (.t 9) (.skip) (.exit 0))
 (.seq (.block 1 (.seq (.reg [kn 10 (.mv (.t 8)), kn 5 (.mv (.t 10))])
 (.seq (.reg [kn 11 (.mv (.t 1)), kn 12 (.mv (.t 0)), kn 13 (.mv (.t 5)), kn 14 (.ia (.t 12) (.t 13) 1), kn 15 (.ld (.t 14) 1 false), kn 16 (.callv (.t 11) [(.t 15)])])
 (.cond (.t 16) (.seq (.reg [kn 17 (.mv (.t 5)), kn 4 (.mv (.t 17))])
 (.ret)) (.skip)))))
 (.reg [kn 18 (.bin .add (.t 8) (kc 1)), kn 8 (.mv (.t 18))])))

def c116 : AC :=
 .seq (.reg [kn 4 (.mv (kc 0))])
 (.seq (.seq (.reg [kn 6 (.mv (.t 0)), kn 7 (.len false (.t 6)), kn 8 (.mv (kc 0))])
 (.block 0 (.loop c116l0)))
 (.seq (.reg [kn 4 (.mv (kc (-1)))])
 (.ret)))
def r116 : List RC := [.t 4]

def c123 : AC :=
 .seq (.reg [kn 2 (.mv (.c (.d (.v (.bool false)))))])
 (.seq (.reg [kn 3 (.mv (.t 0)), kn 4 (.bin .geq (.t 3) (.c (.d (.v (.int .u8 97))))), kn 5 (.mv (.t 4)), ky 6 5 (.mv (.t 0)), ky 7 5 (.bin .leq (.t 6) (.c (.d (.v (.int .u8 122))))), kn 8 (.pick (.t 5) (.t 7) (.c (.d (.v (.bool false))))), kn 9 (.mv (.t 8)), ko 10 9 (.mv (.t 0)), ko 11 9 (.bin .geq (.t 10) (.c (.d (.v (.int .u8 65))))), ko 12 9 (.mv (.t 11)), ky 13 12 (.mv (.t 0)), ky 14 12 (.bin .leq (.t 13) (.c (.d (.v (.int .u8 90))))), ko 15 9 (.pick (.t 12) (.t 14) (.c (.d (.v (.bool false))))), kn 16 (.pick (.t 9) (.c (.d (.v (.bool true)))) (.t 15)), kn 2 (.mv (.t 16))])
 (.ret))
def r123 : List RC := [.t 2]

def c124 : AC :=
 .seq (.reg [kn 2 (.mv (.c (.d (.v (.bool false)))))])
 (.seq (.reg [kn 3 (.mv (.t 0)), kn 4 (.bin .geq (.t 3) (.c (.d (.v (.int .u8 48))))), kn 5 (.mv (.t 4)), ky 6 5 (.mv (.t 0)), ky 7 5 (.bin .leq (.t 6) (.c (.d (.v (.int .u8 57))))), kn 8 (.pick (.t 5) (.t 7) (.c (.d (.v (.bool false))))), kn 2 (.mv (.t 8))])
 (.ret))
def r124 : List RC := [.t 2]

def c133 : AC :=
 .seq (.reg [kn 2 (.mv (.c (.d (.v (.bool false)))))])
 (.seq (.seq (.reg [kn 3 (.mv (.t 0)), kn 4 (.bin .eql (.t 3) (.c (.d (.v (.string ⟨#[]⟩))))), kn 5 (.mv (.t 4)), ko 6 5 (.mv (.t 0)), ko 7 5 (.len true (.t 6)), ko 8 5 (.bin .gtr (.t 7) (kc 24)), kn 9 (.pick (.t 5) (.c (.d (.v (.bool true)))) (.t 8)), kn 10 (.mv (.t 9)), ko 11 10 (.mv (.t 0)), ko 12 10 (.ix (.t 11) (kc 0)), ko 13 10 (.bin .leq (.t 12) (.c (.d (.v (.int .u8 57))))), kn 14 (.pick (.t 10) (.c (.d (.v (.bool true)))) (.t 13))])
 (.cond (.t 14) (.seq (.reg [kn 2 (.mv (.c (.d (.v (.bool false)))))])
 (.ret)) (.skip)))
 (.seq (.reg [kn 15 (.mv (.t 0)), kn 16 (.s2b .im 0 (.t 15)), kn 17 (.call 104 [(.t 16), (.c (.fn 137 []))]), kn 18 (.un .not (.t 17)), kn 2 (.mv (.t 18))])
 (.ret)))
def r133 : List RC := [.t 2]

def c137 : AC :=
 .seq (.reg [kn 2 (.mv (.c (.d (.v (.bool false)))))])
 (.seq (.reg [kn 3 (.mv (.t 0)), kn 4 (.bin .lss (.t 3) (.c (.d (.v (.int .u8 97))))), kn 5 (.mv (.t 4)), ko 6 5 (.mv (.t 0)), ko 7 5 (.bin .gtr (.t 6) (.c (.d (.v (.int .u8 122))))), kn 8 (.pick (.t 5) (.c (.d (.v (.bool true)))) (.t 7)), kn 9 (.mv (.t 8)), ky 10 9 (.mv (.t 0)), ky 11 9 (.bin .lss (.t 10) (.c (.d (.v (.int .u8 65))))), ky 12 9 (.mv (.t 11)), ko 13 12 (.mv (.t 0)), ko 14 12 (.bin .gtr (.t 13) (.c (.d (.v (.int .u8 90))))), ky 15 9 (.pick (.t 12) (.c (.d (.v (.bool true)))) (.t 14)), kn 16 (.pick (.t 9) (.t 15) (.c (.d (.v (.bool false))))), kn 17 (.mv (.t 16)), ky 18 17 (.mv (.t 0)), ky 19 17 (.bin .lss (.t 18) (.c (.d (.v (.int .u8 48))))), ky 20 17 (.mv (.t 19)), ko 21 20 (.mv (.t 0)), ko 22 20 (.bin .gtr (.t 21) (.c (.d (.v (.int .u8 57))))), ky 23 17 (.pick (.t 20) (.c (.d (.v (.bool true)))) (.t 22)), kn 24 (.pick (.t 17) (.t 23) (.c (.d (.v (.bool false))))), kn 2 (.mv (.t 24))])
 (.ret))
def r137 : List RC := [.t 2]

theorem cc104 : Try.f104.body.bind (comp Try.prog (hh 104)) = some c104 := by kernel_rfl
theorem rr104 : resC Try.prog Try.f104 = some r104 := by kernel_rfl
theorem cc108 : Try.f108.body.bind (comp Try.prog (hh 108)) = some c108 := by kernel_rfl
theorem rr108 : resC Try.prog Try.f108 = some r108 := by kernel_rfl
theorem cc116 : Try.f116.body.bind (comp Try.prog (hh 116)) = some c116 := by kernel_rfl
theorem rr116 : resC Try.prog Try.f116 = some r116 := by kernel_rfl
theorem cc123 : Try.f123.body.bind (comp Try.prog (hh 123)) = some c123 := by kernel_rfl
theorem rr123 : resC Try.prog Try.f123 = some r123 := by kernel_rfl
theorem cc124 : Try.f124.body.bind (comp Try.prog (hh 124)) = some c124 := by kernel_rfl
theorem rr124 : resC Try.prog Try.f124 = some r124 := by kernel_rfl
theorem cc133 : Try.f133.body.bind (comp Try.prog (hh 133)) = some c133 := by kernel_rfl
theorem rr133 : resC Try.prog Try.f133 = some r133 := by kernel_rfl
theorem cc137 : Try.f137.body.bind (comp Try.prog (hh 137)) = some c137 := by kernel_rfl
theorem rr137 : resC Try.prog Try.f137 = some r137 := by kernel_rfl
theorem follows : Try.prog.follows .mixedOrders = true := by kernel_rfl
abbrev iv (n : Int) : AV := .d (.v (.int .i64 n))
abbrev cv (n : Int) : AV := .d (.v (.int .u8 n))
abbrev bv (b : Bool) : AV := .d (.v (.bool b))
abbrev sv (s : ByteArray) : AV := .d (.v (.string s))

def letF (n : Int) : Bool := decide (97 ≤ n ∧ n ≤ 122 ∨ 65 ≤ n ∧ n ≤ 90)
def digF (n : Int) : Bool := decide (48 ≤ n ∧ n ≤ 57)
theorem bvx {a b : Bool} (h : (a = true) ↔ (b = true)) : AV.d (.v (.bool a)) = bv b := by rw [Bool.eq_iff_iff.2 h]
theorem digit_c (n : Int) (H : List ABlk) : ACalls Try.prog 124 [cv n] H fun v H' => v = bv (digF n) ∧ H' = H := by
 refine ACalls.into Try.func124 cc124 rr124 fun hcl => ?_
 simp (maxSteps := 2000000) (disch := omega) only [Try.ntmps124, c124, r124, go_sem, seval, reduceCtorEq]
 refine Br.dec (fun h => ?_) (fun h => ?_) <;> simp (maxSteps := 2000000) (disch := omega) only [go_sem, seval, reduceCtorEq]
 ·exact Ret.keep ⟨bvx (by simp [digF]; omega), rfl⟩
 ·exact Ret.keep ⟨bvx (by simp [digF]; omega), rfl⟩
theorem letter_c (n : Int) (H : List ABlk) : ACalls Try.prog 123 [cv n] H fun v H' => v = bv (letF n) ∧ H' = H := by
 refine ACalls.into Try.func123 cc123 rr123 fun hcl => ?_
 by_cases h1 : 97 ≤ n <;> by_cases h2 : n ≤ 122 <;> by_cases h3 : 65 ≤ n <;> by_cases h4 : n ≤ 90 <;> first | (exfalso; omega) | (simp (maxSteps := 2000000) (disch := omega) only [Try.ntmps123, c123, r123, go_sem, seval, reduceCtorEq]; exact Ret.keep ⟨bvx (by simp [letF]; omega), rfl⟩)

abbrev chr (s : ByteArray) (i : Nat) : Int := ((s.data.toList.getD i 0).toNat : Nat)
def okB (n : Int) : Prop := letF n = true ∨ digF n = true
def Nm (s : ByteArray) : Prop := 1 ≤ s.size ∧ s.size ≤ 24 ∧ letF (chr s 0) = true ∧ ∀ i, i < s.size → okB (chr s i)
noncomputable instance (s : ByteArray) : Decidable (Nm s) := Classical.propDecidable _
noncomputable def nmF (s : ByteArray) : Bool := decide (Nm s)
theorem nm_t {s : ByteArray} (h : Nm s) : nmF s = true := decide_eq_true h
theorem nm_f {s : ByteArray} (h : ¬ Nm s) : nmF s = false := decide_eq_false h

theorem word_c (s : ByteArray) (H : List ABlk) : ACalls Try.prog 108 [sv s] H fun v H' => v = bv (nmF s) ∧ H' = H := by
 refine ACalls.into Try.func108 cc108 rr108 fun hcl => ?_
 by_cases h1 : s.size < 1
 ·simp (maxSteps := 2000000) (disch := omega) only [Try.ntmps108, c108, r108, go_sem, seval, reduceCtorEq]
  exact Ret.keep ⟨by rw [nm_f]; intro h; have := h.1; omega, rfl⟩
 by_cases h2 : 24 < s.size
 ·simp (maxSteps := 2000000) (disch := omega) only [Try.ntmps108, c108, r108, go_sem, seval, reduceCtorEq]
  exact Ret.keep ⟨by rw [nm_f]; intro h; have := h.2.1; omega, rfl⟩
 simp (maxSteps := 2000000) (disch := omega) only [Try.ntmps108, c108, r108, go_sem, seval, reduceCtorEq]
 refine Cont.mk (letter_c _ _) ?_
 cases h3 : letF (chr s 0) with
 | false =>
  simp only [chr] at h3
  simp (maxSteps := 2000000) (disch := omega) only [h3, go_sem, seval, reduceCtorEq]
  exact Ret.keep ⟨by rw [nm_f]; intro h; have := h.2.2.1; simp only [chr] at this; rw [h3] at this; exact absurd this (by decide), rfl⟩
 | true =>
  have h3' := h3
  simp only [chr] at h3'
  simp (maxSteps := 2000000) (disch := omega) only [h3', go_sem, seval, reduceCtorEq]
  refine W.loopG (γ := Nat) (fun i => s.size - i) (fun i => [sv s, .any, .any, iv i] ++ List.replicate 32 .any) (fun _ => H) (fun i => 1 ≤ i ∧ i ≤ s.size ∧ ∀ j, j < i → okB (chr s j)) 1 (Wk.slots (by (try simp only [List.replicate, List.cons_append, List.nil_append]); repeat' first | exact WkL.nil | refine WkL.cons (Wk1.rfl _) ?_ | refine WkL.cons Wk1.esl ?_ | refine WkL.cons (Wk1.gsl _ _ _) ?_ | refine WkL.cons (Wk1.any _) ?_)) ⟨by omega, by omega, fun j hj => Or.inl (by rw [show j = 0 by omega]; exact h3)⟩ (fun i hi => ?_)
  obtain ⟨q1, q2, q3⟩ := hi
  simp (maxSteps := 2000000) (disch := omega) only [c108l0, go_sem, seval, reduceCtorEq]
  refine Br.dec (fun hc => ?_) (fun hc => ?_) <;> simp (maxSteps := 2000000) (disch := omega) only [go_sem, seval, reduceCtorEq]
  ·refine Cont.mk (letter_c _ _) ?_
   have next : okB (chr s i) → ∀ j, j < i + 1 → okB (chr s j) := fun ho j hj => by
    rcases Nat.lt_or_ge j i with h | h
    ·exact q3 j h
    ·rw [show j = i by omega]; exact ho
   cases h4 : letF ((s.data.toList.getD i 0).toNat : Nat) with
   | true =>
    simp (maxSteps := 2000000) (disch := omega) only [go_sem, seval, reduceCtorEq]
    exact Nxt.mk (i + 1) (by omega) (Wk.slots (by (try simp only [List.replicate, List.cons_append, List.nil_append]); repeat' first | exact WkL.nil | refine WkL.cons (Wk1.rfl _) ?_ | refine WkL.cons Wk1.esl ?_ | refine WkL.cons (Wk1.gsl _ _ _) ?_ | refine WkL.cons (Wk1.any _) ?_)) ⟨by omega, by omega, next (.inl h4)⟩
   | false =>
    simp (maxSteps := 2000000) (disch := omega) only [go_sem, seval, reduceCtorEq]
    refine Cont.mk (digit_c _ _) ?_
    cases h5 : digF ((s.data.toList.getD i 0).toNat : Nat) with
    | true =>
     simp (maxSteps := 2000000) (disch := omega) only [go_sem, seval, reduceCtorEq]
     exact Nxt.mk (i + 1) (by omega) (Wk.slots (by (try simp only [List.replicate, List.cons_append, List.nil_append]); repeat' first | exact WkL.nil | refine WkL.cons (Wk1.rfl _) ?_ | refine WkL.cons Wk1.esl ?_ | refine WkL.cons (Wk1.gsl _ _ _) ?_ | refine WkL.cons (Wk1.any _) ?_)) ⟨by omega, by omega, next (.inr h5)⟩
    | false =>
     simp (maxSteps := 2000000) (disch := omega) only [go_sem, seval, reduceCtorEq]
     refine Ret.keep ⟨by rw [nm_f]; intro h; rcases h.2.2.2 i (by omega) with h | h <;> simp only [chr] at h <;> simp_all, rfl⟩
  ·exact Ret.keep ⟨by rw [nm_t]; exact ⟨by omega, by omega, h3, fun j hj => q3 j (by omega)⟩, rfl⟩
theorem size_nil : (⟨#[]⟩ : ByteArray).size = 0 := rfl
theorem str_nil {s : ByteArray} (h : s.size = 0) : s = ⟨#[]⟩ := by
 obtain ⟨⟨l⟩⟩ := s
 have : l = [] := List.eq_nil_of_length_eq_zero h
 rw [this]
theorem odd_c (n : Int) (H : List ABlk) : ACalls Try.prog 137 [cv n] H fun v H' => v = bv (!(letF n || digF n)) ∧ H' = H := by
 refine ACalls.into Try.func137 cc137 rr137 fun hcl => ?_
 have hsp : n < 48 ∨ (48 ≤ n ∧ n ≤ 57) ∨ (57 < n ∧ n < 65) ∨ (65 ≤ n ∧ n ≤ 90) ∨ (90 < n ∧ n < 97) ∨ (97 ≤ n ∧ n ≤ 122) ∨ 122 < n := by omega
 rcases hsp with h | ⟨h, h'⟩ | ⟨h, h'⟩ | ⟨h, h'⟩ | ⟨h, h'⟩ | ⟨h, h'⟩ | h <;> (simp (maxSteps := 2000000) (disch := omega) only [Try.ntmps137, c137, r137, go_sem, seval, reduceCtorEq]; exact Ret.keep ⟨bvx (by simp [letF, digF]; omega), rfl⟩)
abbrev bd (c : UInt8) : List Dat := [.v (.int .u8 c.toNat)]
theorem iaA_bd {l : List UInt8} {i : Nat} (h : i < l.length) : iaA (.d (.sl (l.map bd))) (i : Int) 1 = some (.ip (bd (l.getD i 0))) := by
 simp only [iaA]
 have e : (l.map bd).getD i [] = bd (l.getD i 0) := by
  rw [List.getD_eq_getElem?_getD, List.getD_eq_getElem?_getD, List.getElem?_map, List.getElem?_eq_getElem h]; rfl
 rw [if_pos ⟨by omega, by simpa using h, by rw [Int.toNat_natCast, e]; rfl⟩, Int.toNat_natCast, e]
theorem findB_c (f : FuncId) (p : Int → Bool) (hf : callOk Try.prog f = true) (hp : ∀ n H, ACalls Try.prog f [cv n] H fun v H' => v = bv (p n) ∧ H' = H) (l : List UInt8) (hl : l.length ≤ 9000000) (H : List ABlk) :
 ACalls Try.prog 116 [.d (.sl (l.map bd)), .fn f []] H fun v H' => (∃ n : Int, v = iv n ∧ (0 ≤ n ↔ ∃ i, i < l.length ∧ p ((l.getD i 0).toNat : Nat) = true)) ∧ H' = H := by
 refine ACalls.into Try.func116 cc116 rr116 fun hcl => ?_
 simp (maxSteps := 2000000) (disch := omega) only [Try.ntmps116, c116, r116, List.length_map, go_sem, seval, reduceCtorEq]
 refine W.loopG (γ := Nat) (fun i => l.length - i) (fun i => [.d (.sl (l.map bd)), .fn f [], .any, .any, .any, .any, .any, iv l.length, iv i] ++ List.replicate 10 .any) (fun _ => H) (fun i => i ≤ l.length ∧ ∀ j, j < i → p ((l.getD j 0).toNat : Nat) = false) 0 (Wk.slots (by (try simp only [List.replicate, List.cons_append, List.nil_append]); repeat' first | exact WkL.nil | refine WkL.cons (Wk1.rfl _) ?_ | refine WkL.cons Wk1.esl ?_ | refine WkL.cons (Wk1.gsl _ _ _) ?_ | refine WkL.cons (Wk1.any _) ?_)) ⟨by omega, fun j hj => by omega⟩ (fun i hi => ?_)
 obtain ⟨q1, q2⟩ := hi
 simp (maxSteps := 2000000) (disch := omega) only [c116l0, go_sem, seval, reduceCtorEq]
 refine Br.dec (fun hc => ?_) (fun hc => ?_) <;> simp (maxSteps := 2000000) (disch := omega) only [iaA_bd, go_sem, seval, reduceCtorEq]
 ·refine ⟨hf, Cont.mk (hp _ _) ?_⟩
  cases h : p ((l.getD i 0).toNat : Nat) with
  | true =>
   simp (maxSteps := 2000000) (disch := omega) only [go_sem, seval, reduceCtorEq]
   exact Ret.keep ⟨⟨i, rfl, fun _ => ⟨i, by omega, h⟩, fun _ => by omega⟩, rfl⟩
  | false =>
   simp (maxSteps := 2000000) (disch := omega) only [go_sem, seval, reduceCtorEq]
   refine Nxt.mk (i + 1) (by omega) (Wk.slots (by (try simp only [List.replicate, List.cons_append, List.nil_append]); repeat' first | exact WkL.nil | refine WkL.cons (Wk1.rfl _) ?_ | refine WkL.cons Wk1.esl ?_ | refine WkL.cons (Wk1.gsl _ _ _) ?_ | refine WkL.cons (Wk1.any _) ?_)) ⟨by omega, fun j hj => ?_⟩
   rcases Nat.lt_or_ge j i with h' | h'
   ·exact q2 j h'
   ·rw [show j = i by omega]; exact h
 ·refine Ret.keep ⟨⟨-1, rfl, fun h => by omega, fun ⟨j, h1, h2⟩ => ?_⟩, rfl⟩
  rw [q2 j (by omega)] at h2; cases h2
theorem hasB_c (f : FuncId) (p : Int → Bool) (hf : callOk Try.prog f = true) (hp : ∀ n H, ACalls Try.prog f [cv n] H fun v H' => v = bv (p n) ∧ H' = H) (l : List UInt8) (hl : l.length ≤ 9000000) (H : List ABlk) :
 ACalls Try.prog 104 [.d (.sl (l.map bd)), .fn f []] H fun v H' => (∃ b : Bool, v = bv b ∧ (b = true ↔ ∃ i, i < l.length ∧ p ((l.getD i 0).toNat : Nat) = true)) ∧ H' = H := by
 refine ACalls.into Try.func104 cc104 rr104 fun hcl => ?_
 simp (maxSteps := 2000000) (disch := omega) only [Try.ntmps104, c104, r104, go_sem, seval, reduceCtorEq]
 refine Cont.rel (findB_c f p hf hp l hl H) ?_
 rintro v H' ⟨⟨n, rfl, hn⟩, rfl⟩
 simp (maxSteps := 2000000) (disch := omega) only [go_sem, seval, reduceCtorEq]
 exact Ret.keep ⟨⟨_, rfl, by rw [decide_eq_true_eq]; exact hn⟩, rfl⟩
theorem name_c (s : ByteArray) (H : List ABlk) : ACalls Try.prog 133 [sv s] H fun v H' => v = bv (nmF s) ∧ H' = H := by
 refine ACalls.into Try.func133 cc133 rr133 fun hcl => ?_
 by_cases h1 : s.size < 1
 ·have hs := str_nil (s := s) (by omega)
  simp (maxSteps := 2000000) (disch := omega) only [Try.ntmps133, c133, r133, hs, go_sem, seval, reduceCtorEq]
  exact Ret.keep ⟨by rw [nm_f]; intro h; have := h.1; rw [size_nil] at this; omega, rfl⟩
 have hne : ¬ s = ⟨#[]⟩ := fun e => by rw [e, size_nil] at h1; omega
 by_cases h2 : 24 < s.size
 ·simp (maxSteps := 2000000) (disch := omega) only [Try.ntmps133, c133, r133, hne, go_sem, seval, reduceCtorEq]
  exact Ret.keep ⟨by rw [nm_f]; intro h; have := h.2.1; omega, rfl⟩
 by_cases h3 : chr s 0 ≤ 57
 ·simp only [chr] at h3
  simp (maxSteps := 2000000) (disch := omega) only [Try.ntmps133, c133, r133, hne, go_sem, seval, reduceCtorEq]
  exact Ret.keep ⟨by rw [nm_f]; intro h; have := h.2.2.1; simp only [letF, decide_eq_true_eq] at this; simp only [chr] at this; omega, rfl⟩
 simp only [chr] at h3
 have hsz : s.data.toList.length = s.size := rfl
 simp (maxSteps := 2000000) (disch := omega) only [Try.ntmps133, c133, r133, hne, go_sem, seval, reduceCtorEq]
 refine Cont.rel (hasB_c _ _ (by kernel_rfl) odd_c s.data.toList (by omega) H) ?_
 rintro v H' ⟨⟨b, rfl, hb⟩, rfl⟩
 simp (maxSteps := 2000000) (disch := omega) only [go_sem, seval, reduceCtorEq]
 refine Ret.keep ⟨bvx ?_, rfl⟩
 have hb' : b = false ↔ ∀ i, i < s.size → okB (chr s i) := by
  constructor
  ·intro h i hi
   rcases Classical.em (okB (chr s i)) with h' | h'
   ·exact h'
   ·have := hb.2 ⟨i, by omega, by simp only [okB, not_or, Bool.not_eq_true] at h'; simp only [chr] at h'; rw [h'.1, h'.2]; rfl⟩
    rw [h] at this; cases this
  ·intro h
   cases e : b with
   | false => rfl
   | true =>
    obtain ⟨i, h1, h2⟩ := hb.1 e
    have h3 := h i (by omega)
    simp only [okB, chr] at h3
    rcases h3 with h3 | h3 <;> rw [h3] at h2 <;> simp at h2
 rw [Bool.not_eq_true', hb', nmF, decide_eq_true_eq]
 refine ⟨fun h => ⟨by omega, by omega, ?_, h⟩, fun h => h.2.2.2⟩
 rcases h 0 (by omega) with h' | h'
 ·exact h'
 ·simp only [digF, decide_eq_true_eq, chr] at h'; omega
end Go.Proofs.Ythifjndenhjobaa

/- Tables of types: what they are made of; alike, copied. -/
namespace Go.Proofs.Ythifjndenhjobaa
set_option linter.unusedSimpArgs false
set_option linter.unusedVariables false
set_option maxRecDepth 20000
set_option maxHeartbeats 4000000
open Go.RowKit

structure Fd where
 name : ByteArray
 exp : Bool
 typ : Int
 deriving DecidableEq
structure Pm where
 var : Bool
 typ : Int
 deriving DecidableEq
structure Ty where
 form : Int
 mod : ByteArray
 name : ByteArray
 len : Int
 elem : Int
 base : Int
 fields : List Fd
 params : List Pm
 result : Int
 desc : Int
 deriving DecidableEq
instance : Inhabited Fd := ⟨⟨⟨#[]⟩, false, 0⟩⟩
instance : Inhabited Pm := ⟨⟨false, 0⟩⟩
instance : Inhabited Ty := ⟨⟨0, ⟨#[]⟩, ⟨#[]⟩, 0, 0, 0, [], [], 0, 0⟩⟩
abbrev se : ByteArray := ⟨#[]⟩
def Fd.c (f : Fd) : List Dat := [.v (.string f.name), .v (.bool f.exp), .v (.int .i64 f.typ)]
def Pm.c (p : Pm) : List Dat := [.v (.bool p.var), .v (.int .i64 p.typ)]
def Ty.c (x : Ty) : List Dat := [.v (.int .i64 x.form), .v (.string x.mod), .v (.string x.name), .v (.int .i64 x.len), .v (.int .i64 x.elem), .v (.int .i64 x.base), .sl (x.fields.map Fd.c), .sl (x.params.map Pm.c), .v (.int .i64 x.result), .v (.int .i64 x.desc)]
abbrev fdv (l : List Fd) : AV := .d (.sl (l.map Fd.c))
abbrev pmv (l : List Pm) : AV := .d (.sl (l.map Pm.c))
abbrev tv (t : List Ty) : AV := .d (.sl (t.map Ty.c))
def Ty.cs (x : Ty) : List AV := [iv x.form, sv x.mod, sv x.name, iv x.len, iv x.elem, iv x.base, fdv x.fields, pmv x.params, iv x.result, iv x.desc]
abbrev Ty.av (x : Ty) : AV := .agg x.cs
structure Ty.Ok (x : Ty) : Prop where
 f : x.fields.length ≤ 140737488355328
 p : x.params.length ≤ 140737488355328
 m : x.mod.size ≤ 140737488355328
 n : x.name.size ≤ 140737488355328
def TOk (t : List Ty) : Prop := t.length ≤ 140737488355328 ∧ ∀ x ∈ t, x.Ok
def tyAt (t : List Ty) (a : Int) : Ty := t.getD a.toNat default
def fdAt (l : List Fd) (a : Int) : Fd := l.getD a.toNat default
def pmAt (l : List Pm) (a : Int) : Pm := l.getD a.toNat default
theorem tyAt_mem {t : List Ty} {a : Int} (h0 : 0 ≤ a) (h : a < t.length) : tyAt t a ∈ t := by
 rw [tyAt, List.getD_eq_getElem?_getD, List.getElem?_eq_getElem (by omega)]
 exact List.getElem_mem _
theorem TOk.at_ {t : List Ty} (h : TOk t) {a : Int} (h0 : 0 ≤ a) (h1 : a < t.length) : (tyAt t a).Ok := h.2 _ (tyAt_mem h0 h1)
theorem iaA_map {α : Type} (f : α → List Dat) (d : α) {l : List α} {a : Int} {n : Nat} (h0 : 0 ≤ a) (h : a < l.length) (hn : (f (l.getD a.toNat d)).length = n) : iaA (.d (.sl (l.map f))) a n = some (.ip (f (l.getD a.toNat d))) := by
 simp only [iaA]
 have e : (l.map f).getD a.toNat [] = f (l.getD a.toNat d) := by
  rw [List.getD_eq_getElem?_getD, List.getD_eq_getElem?_getD, List.getElem?_map, List.getElem?_eq_getElem (by omega)]; rfl
 rw [if_pos ⟨by omega, by simpa using h, by rw [e]; exact hn⟩, e]
theorem iaA_ty {t : List Ty} {a : Int} (h0 : 0 ≤ a) (h : a < t.length) : iaA (.d (.sl (t.map Ty.c))) a 10 = some (.ip (tyAt t a).c) := iaA_map Ty.c default h0 h rfl
theorem iaA_fd {t : List Fd} {a : Int} (h0 : 0 ≤ a) (h : a < t.length) : iaA (.d (.sl (t.map Fd.c))) a 3 = some (.ip (fdAt t a).c) := iaA_map Fd.c default h0 h rfl
theorem iaA_pm {t : List Pm} {a : Int} (h0 : 0 ≤ a) (h : a < t.length) : iaA (.d (.sl (t.map Pm.c))) a 2 = some (.ip (pmAt t a).c) := iaA_map Pm.c default h0 h rfl
theorem iaA_gmap {α : Type} (f : α → List Dat) (d : α) {b n : Nat} {l : List α} {a : Int} (h0 : 0 ≤ a) (h : a < l.length) : iaA (.gsl b n (l.map f)) a n = some (.ip (f (l.getD a.toNat d))) := by
 simp only [iaA]
 have e : (l.map f).getD a.toNat [] = f (l.getD a.toNat d) := by
  rw [List.getD_eq_getElem?_getD, List.getD_eq_getElem?_getD, List.getElem?_map, List.getElem?_eq_getElem (by omega)]; rfl
 rw [if_pos ⟨by omega, by simpa using h, trivial⟩, e]

theorem FrOk.at_ {w : List Nat} {H G : List ABlk} (b : Nat) (x : ABlk) (hb : b ∈ w) (hG : G = H.set b x) : FrOk w [] H G G := hG ▸ .set hb
theorem all_map {α : Type} (f : α → List Dat) (n : Nat) (hf : ∀ a, (f a).length = n) (l : List α) : ((l.map f).all fun e => e.length == n) = true := by
 rw [List.all_eq_true]
 intro e he
 obtain ⟨a, _, rfl⟩ := List.mem_map.1 he
 rw [hf]; exact beq_self_eq_true _
theorem all_fd (l : List Fd) : ((l.map Fd.c).all fun e => e.length == 3) = true := all_map Fd.c 3 (fun _ => rfl) l
theorem all_pm (l : List Pm) : ((l.map Pm.c).all fun e => e.length == 2) = true := all_map Pm.c 2 (fun _ => rfl) l
theorem refsL_app : ∀ (a b : List AV), refs.refsL (a ++ b) = refs.refsL a ++ refs.refsL b
 | [], b => rfl
 | x :: a, b => by simp only [List.cons_append, refs.refsL, refsL_app a b, List.append_assoc]
theorem refsL_any : ∀ (n : Nat), refs.refsL (List.replicate n .any) = []
 | 0 => rfl
 | n + 1 => by simp only [List.replicate_succ, refs.refsL, refsL_any n]; rfl
theorem getD_take {α : Type} {d : α} {l : List α} {i : Nat} (h : i < l.length) : l.take (i + 1) = l.take i ++ [l.getD i d] := by
 rw [List.take_add_one, List.getElem?_eq_getElem h, List.getD_eq_getElem?_getD, List.getElem?_eq_getElem h]; rfl
theorem ext_at {α : Type} {d : α} {a b : List α} (hl : a.length = b.length) (h : ∀ i, i < a.length → a.getD i d = b.getD i d) : a = b := by
 refine List.ext_getElem hl fun i h1 h2 => ?_
 have := h i h1
 rwa [List.getD_eq_getElem?_getD, List.getD_eq_getElem?_getD, List.getElem?_eq_getElem h1, List.getElem?_eq_getElem h2] at this

def Small (t : List Ty) : Prop := t.length ≤ 400000 ∧ ∀ x ∈ t, x.fields.length ≤ 400000 ∧ x.params.length ≤ 400000 ∧ x.name.size ≤ 150049 ∧ x.mod.size ≤ 150049
end Go.Proofs.Ythifjndenhjobaa
