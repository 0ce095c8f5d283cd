/- The reference: Good. -/
import Derived.Test.YthifjndenhjobaaYP4
import Derived.Test.YthifjndenhjobaaYT14
import Derived.Test.YthifjndenhjobaaYI0
namespace Go.Proofs.Ythifjndenhjobaa
set_option linter.unusedSimpArgs false
set_option linter.unusedVariables false
set_option maxRecDepth 20000
set_option maxHeartbeats 4000000
open Go.RowKit

def c83l0 : AC :=
 .seq (.seq (.reg [kn 55 (.mv (.t 8)), kn 56 (.mv (.t 7)), kn 57 (.bin .lss (.t 55) (.t 56))])
 (.cond (.t 57) (.skip) (.exit 6)))
 (.seq (.block 7 (.seq (.dreg [[], [], [0, 1], [2], [3], [4], [5], [6], [6], [7, 8, 6], [9, 6], [10, 6], [11, 6], [6, 12], [13, 6], [14], [14], [15, 16, 14], [17, 14], [18, 14], [14], [14], [20, 21, 14], [22, 14], [23, 14], [19, 24, 14], [14, 25], [26, 14], [27], [27], [28, 29, 27], [30, 27], [31, 27], [27], [27], [33, 34, 27], [35, 27], [36, 27], [32, 37, 27], [27, 38], [39, 27], [40], [40], [41, 42, 40], [43, 40], [44, 40], [45, 40], [40, 46]] [kn 60 (.mv (.t 0)), kn 61 (.mv (.t 7)), kn 62 (.ia (.t 60) (.t 61) 10), kn 63 (.fa (.t 62) 0), kn 64 (.ld (.t 63) 1 false), kn 65 (.bin .eql (.t 64) (kc 9)), kn 66 (.mv (.t 65)), ky 67 66 (.mv (.t 0)), ky 68 66 (.mv (.t 8)), ky 69 66 (.ia (.t 67) (.t 68) 10), ky 70 66 (.fa (.t 69) 0), ky 71 66 (.ld (.t 70) 1 false), ky 72 66 (.bin .eql (.t 71) (kc 9)), kn 73 (.pick (.t 66) (.t 72) (.c (.d (.v (.bool false))))), kn 74 (.mv (.t 73)), ky 75 74 (.mv (.t 0)), ky 76 74 (.mv (.t 7)), ky 77 74 (.ia (.t 75) (.t 76) 10), ky 78 74 (.fa (.t 77) 1), ky 79 74 (.ld (.t 78) 1 false), ky 80 74 (.mv (.t 0)), ky 81 74 (.mv (.t 8)), ky 82 74 (.ia (.t 80) (.t 81) 10), ky 83 74 (.fa (.t 82) 1), ky 84 74 (.ld (.t 83) 1 false), ky 85 74 (.bin .eql (.t 79) (.t 84)), kn 86 (.pick (.t 74) (.t 85) (.c (.d (.v (.bool false))))), kn 87 (.mv (.t 86)), ky 88 87 (.mv (.t 0)), ky 89 87 (.mv (.t 7)), ky 90 87 (.ia (.t 88) (.t 89) 10), ky 91 87 (.fa (.t 90) 9), ky 92 87 (.ld (.t 91) 1 false), ky 93 87 (.mv (.t 0)), ky 94 87 (.mv (.t 8)), ky 95 87 (.ia (.t 93) (.t 94) 10), ky 96 87 (.fa (.t 95) 9), ky 97 87 (.ld (.t 96) 1 false), ky 98 87 (.bin .eql (.t 92) (.t 97)), kn 99 (.pick (.t 87) (.t 98) (.c (.d (.v (.bool false))))), kn 100 (.mv (.t 99)), ky 101 100 (.mv (.t 0)), ky 102 100 (.mv (.t 7)), ky 103 100 (.ia (.t 101) (.t 102) 10), ky 104 100 (.fa (.t 103) 9), ky 105 100 (.ld (.t 104) 1 false), ky 106 100 (.bin .neq (.t 105) (kc (-1))), kn 107 (.pick (.t 100) (.t 106) (.c (.d (.v (.bool false)))))])
 (.cond (.t 107) (.seq (.reg [kn 2 (.mv (.c (.d (.v (.bool false)))))])
 (.ret)) (.skip))))
 (.reg [kn 58 (.mv (.t 8)), kn 59 (.bin .add (.t 58) (kc 1)), kn 8 (.mv (.t 59))]))

def c83l1 : AC :=
 .seq (.seq (.reg [kn 45 (.mv (.t 7)), kn 46 (.mv (.t 0)), kn 47 (.len false (.t 46)), kn 48 (.bin .lss (.t 45) (.t 47))])
 (.cond (.t 48) (.skip) (.exit 4)))
 (.seq (.block 5 (.seq (.seq (.reg [kn 51 (.mv (.t 0)), kn 52 (.mv (.t 7)), kn 53 (.mv (.t 6)), kn 54 (.call 110 [(.t 51), (.t 52), (.t 53)])])
 (.cond (.t 54) (.seq (.reg [kn 2 (.mv (.c (.d (.v (.bool false)))))])
 (.ret)) (.skip)))
 (.seq (.reg [kn 8 (.mv (kc 7))])
 (.block 6 (.loop c83l0)))))
 (.reg [kn 49 (.mv (.t 7)), kn 50 (.bin .add (.t 49) (kc 1)), kn 7 (.mv (.t 50))]))

def c83l2 : AC :=
 .seq (.seq (.reg [kn 32 (.mv (.t 5)), kn 33 (.mv (.t 0)), kn 34 (.len false (.t 33)), kn 35 (.bin .lss (.t 32) (.t 34))])
 (.cond (.t 35) (.skip) (.exit 2)))
 (.seq (.block 3 (.seq (.reg [kn 38 (.mv (.t 0)), kn 39 (.mv (.t 5)), kn 40 (.call 109 [(.t 38), (.t 39)]), kn 41 (.un .not (.t 40))])
 (.cond (.t 41) (.seq (.reg [kn 2 (.mv (.c (.d (.v (.bool false)))))])
 (.ret)) (.skip))))
 (.reg [kn 36 (.mv (.t 5)), kn 37 (.bin .add (.t 36) (kc 1)), kn 5 (.mv (.t 37))]))

def c83l3 : AC :=
 .seq (.seq (.reg [kn 18 (.mv (.t 4)), kn 19 (.bin .lss (.t 18) (kc 7))])
 (.cond (.t 19) (.skip) (.exit 0)))
 (.seq (.block 1 (.seq (.dreg [[], [], [0, 1], [2], [], [], [4, 5], [6], [3, 7], [8]] [kn 22 (.mv (.t 0)), kn 23 (.mv (.t 4)), kn 24 (.ia (.t 22) (.t 23) 10), kn 25 (.ld (.t 24) 10 true), kn 26 (.mv (.t 3)), kn 27 (.mv (.t 4)), kn 28 (.ia (.t 26) (.t 27) 10), kn 29 (.ld (.t 28) 10 true), kn 30 (.call 86 [(.t 25), (.t 29)]), kn 31 (.un .not (.t 30))])
 (.cond (.t 31) (.seq (.reg [kn 2 (.mv (.c (.d (.v (.bool false)))))])
 (.ret)) (.skip))))
 (.reg [kn 20 (.mv (.t 4)), kn 21 (.bin .add (.t 20) (kc 1)), kn 4 (.mv (.t 21))]))

def c83 : AC :=
 .seq (.reg [kn 2 (.mv (.c (.d (.v (.bool false)))))])
 (.seq (.seq (.reg [kn 9 (.mv (.t 0)), kn 10 (.len false (.t 9)), kn 11 (.bin .lss (.t 10) (kc 7)), kn 12 (.mv (.t 11)), ko 13 12 (.mv (.t 0)), ko 14 12 (.len false (.t 13)), ko 15 12 (.bin .gtr (.t 14) (kc 256)), kn 16 (.pick (.t 12) (.c (.d (.v (.bool true)))) (.t 15))])
 (.cond (.t 16) (.seq (.reg [kn 2 (.mv (.c (.d (.v (.bool false)))))])
 (.ret)) (.skip)))
 (.seq (.reg [kn 17 (.call 51 []), kn 3 (.mv (.t 17))])
 (.seq (.seq (.reg [kn 4 (.mv (kc 0))])
 (.block 0 (.loop c83l3)))
 (.seq (.seq (.reg [kn 5 (.mv (kc 7))])
 (.block 2 (.loop c83l2)))
 (.seq (.reg [kn 42 (.mv (.t 0)), kn 43 (.len false (.t 42)), kn 44 (.mks .hp 3 1 8 [kz] (.t 43) (.t 43)), kn 6 (.mv (.t 44))])
 (.seq (.seq (.reg [kn 7 (.mv (kc 7))])
 (.block 4 (.loop c83l1)))
 (.seq (.reg [kn 2 (.mv (.c (.d (.v (.bool true)))))])
 (.ret))))))))
def r83 : List RC := [.t 2]

theorem cc83 : Try.f83.body.bind (comp Try.prog (hh 83)) = some c83 := by kernel_rfl
theorem rr83 : resC Try.prog Try.f83 = some r83 := by kernel_rfl
def ClashP (t : List Ty) (i k : Nat) : Prop := (t.getD i default).form = 9 ∧ (t.getD k default).form = 9 ∧ (t.getD i default).mod = (t.getD k default).mod ∧ (t.getD i default).desc = (t.getD k default).desc ∧ (t.getD i default).desc ≠ -1
theorem kidsR_ok {t : List Ty} (hs : Small t) (h1 : ¬ t.length < 7) (h2 : t.length ≤ 256) (hbas : ∀ j, j < 7 → t.getD j default = bt j) (hone : ∀ j : Nat, 7 ≤ j → j < t.length → OneP t j) : TKidsR t := by
 refine ⟨h2, fun a h0 ha y hy => ?_, fun x hx => (hs.2 x hx).1⟩
 rcases Int.lt_or_le a 7 with h7 | h7
 ·have e : tyAt t a = bt a := by
   have := hbas a.toNat (by omega)
   rw [tyAt, this, show ((a.toNat : Nat) : Int) = a by omega]
  rw [kidr_no (by rw [e]; simp only [bt]; omega) (by rw [e]; simp only [bt]; omega) (by rw [e]; simp only [bt]; omega)] at hy
  simp at hy
 ·have ho := hone a.toNat (by omega) (by omega)
  rw [show ((a.toNat : Nat) : Int) = a by omega] at ho
  by_cases f9 : (tyAt t a).form = 9
  ·obtain ⟨_, l, g5, g6, g7, _⟩ := (one_rec f9).1 ho
   rw [kidr_rec f9] at hy
   rcases List.mem_append.1 hy with hy | hy
   ·split at hy
    ·simp at hy
    ·rename_i hz
     rw [List.mem_singleton.1 hy]
     exact ((bas_step (n := 4) g5).resolve_left hz).1
   ·obtain ⟨f, hf, rfl⟩ := List.mem_map.1 hy
    exact ((g7 a List.mem_cons_self).2 f hf).2.1
  have hsw := ho.2.2.2
  by_cases f7 : (tyAt t a).form = 7
  ·rw [kidr_arr (.inl f7)] at hy
   rw [List.mem_singleton.1 hy]
   rcases hsw with h | h | h | h | h
   ·exact h.2.2.2.1
   all_goals omega
  by_cases f8 : (tyAt t a).form = 8
  ·rw [kidr_arr (.inr f8)] at hy
   rw [List.mem_singleton.1 hy]
   rcases hsw with h | h | h | h | h
   ·omega
   ·exact h.2.elim (fun h => h.1) (fun h => h.1)
   all_goals omega
  ·rw [kidr_no f7 f8 f9] at hy; simp at hy
theorem rgood_c {t : List Ty} (hs : Small t) (hn : FNames t) (hok : TOk t) (H : List ABlk) : ACalls Try.prog 83 [tv t] H fun v H' => v = bv (goodF t) ∧ H' = H := by
 refine ACalls.into Try.func83 cc83 rr83 fun hcl => ?_
 have htl := hs.1
 have fin : ∀ {v : Bool}, v = goodF t → ∀ l, Ret r83 H.length (fun v H' => v = bv (goodF t) ∧ H' = H) (some (bv v)) (H ++ l) := fun {v} e l => Ret.drop (bv v) H (Nat.le_refl _) hcl (.rfl _) (by simp [refs]) ⟨by rw [e], rfl⟩
 have fin0 : ∀ {v : Bool}, v = goodF t → Ret r83 H.length (fun v H' => v = bv (goodF t) ∧ H' = H) (some (bv v)) H := fun {v} e => Ret.keep ⟨by rw [e], rfl⟩
 have nf : ¬ GoodR t → false = goodF t := fun h => (good_f fun k => h k.ref).symm
 by_cases h1 : t.length < 7
 ·simp (maxSteps := 2000000) (disch := omega) only [Try.ntmps83, c83, r83, List.length_map, go_sem, seval, reduceCtorEq]
  exact fin0 (nf fun h => by have := h.len; omega)
 by_cases h2 : 256 < t.length
 ·simp (maxSteps := 2000000) (disch := omega) only [Try.ntmps83, c83, r83, List.length_map, go_sem, seval, reduceCtorEq]
  exact fin0 (nf fun h => by have := h.len; omega)
 simp (maxSteps := 2000000) (disch := omega) only [Try.ntmps83, c83, r83, List.length_map, go_sem, seval, reduceCtorEq]
 refine Cont.rel (rbasic_c H) ?_
 rintro v H' ⟨rfl, rfl⟩
 simp (maxSteps := 2000000) (disch := omega) only [go_sem, seval, reduceCtorEq]
 have hcr : cl (H ++ [.row 49 10 7]) := hcl.row _ _ _
 refine W.loopG (γ := Nat) (fun i => 7 - i) (fun i => [tv t, .any, bv false, .d (.sl (basicL.map Ty.c)), iv i] ++ List.replicate 103 .any) (fun _ => H ++ [.row 49 10 7]) (fun i => i ≤ 7 ∧ ∀ j, j < i → t.getD j default = bt j) 0 (Wk.slots (by (try simp only [List.replicate, List.cons_append, List.nil_append]); repeat' first | exact WkL.nil | refine WkL.cons (Wk1.rfl _) ?_ | refine WkL.cons Wk1.esl ?_ | refine WkL.cons (Wk1.gsl _ _ _) ?_ | refine WkL.cons (Wk1.any _) ?_)) ⟨by omega, fun j hj => by omega⟩ (fun i hi => ?_)
 obtain ⟨q1, q2⟩ := hi
 simp (maxSteps := 2000000) (disch := omega) only [c83l3, go_sem, seval, reduceCtorEq]
 refine Br.dec (fun hc => ?_) (fun hc => ?_) <;> simp (maxSteps := 2000000) (disch := omega) only [go_sem, seval, reduceCtorEq]
 ·have hia := iaA_ty (t := t) (a := i) (by omega) (by omega)
  have hib := iaA_ty (t := basicL) (a := i) (by omega) (by show (i : Int) < (7 : Nat); omega)
  have e1 : tyAt t (i : Int) = t.getD i default := rfl
  have e2 : tyAt basicL (i : Int) = bt i := basic_at (by omega)
  have al := alike_c (x := tyAt t i) (y := tyAt basicL i) (hok.at_ (by omega) (by omega)) (H ++ [.row 49 10 7])
  refine W.pchain follows (by decide +kernel) ?_
  rw [Ty.av, Ty.av, Ty.cs, Ty.cs] at al
  simp (maxSteps := 2000000) (disch := omega) only [hia, hib, Ty.c, go_sem, seval, reduceCtorEq]
  refine PCont.mk al ?_
  cases hd : decide (tyAt t i = tyAt basicL i) with
  | true =>
   simp (maxSteps := 2000000) (disch := omega) only [go_sem, seval, reduceCtorEq]
   refine Nxt.mk (i + 1) (by omega) (Wk.slots (by (try simp only [List.replicate, List.cons_append, List.nil_append]); repeat' first | exact WkL.nil | refine WkL.cons (Wk1.rfl _) ?_ | refine WkL.cons Wk1.esl ?_ | refine WkL.cons (Wk1.gsl _ _ _) ?_ | refine WkL.cons (Wk1.any _) ?_)) ⟨by omega, fun j hj => ?_⟩
   rcases Nat.lt_or_ge j i with h' | h'
   ·exact q2 j h'
   ·rw [show j = i by omega, ← e1, of_decide_eq_true hd, e2]
  | false =>
   simp (maxSteps := 2000000) (disch := omega) only [go_sem, seval, reduceCtorEq]
   refine fin (nf fun h => of_decide_eq_false hd ?_) _
   rw [e1, e2, h.bas i (by omega)]
 have hbas : ∀ j, j < 7 → t.getD j default = bt j := fun j hj => q2 j (by omega)
 clear q1 q2 hc
 refine W.loopG (γ := Nat) (fun i => t.length - i) (fun i => [tv t, .any, bv false, .any, .any, iv i] ++ List.replicate 102 .any) (fun _ => H ++ [.row 49 10 7]) (fun i => 7 ≤ i ∧ i ≤ t.length ∧ ∀ j : Nat, 7 ≤ j → j < i → OneP t j) 7 (Wk.slots (by (try simp only [List.replicate, List.cons_append, List.nil_append]); repeat' first | exact WkL.nil | refine WkL.cons (Wk1.rfl _) ?_ | refine WkL.cons Wk1.esl ?_ | refine WkL.cons (Wk1.gsl _ _ _) ?_ | refine WkL.cons (Wk1.any _) ?_)) ⟨by omega, by omega, fun j hj => by omega⟩ (fun i hi => ?_)
 obtain ⟨q0, q1, q2⟩ := hi
 simp (maxSteps := 2000000) (disch := omega) only [c83l2, List.length_map, go_sem, seval, reduceCtorEq]
 refine Br.dec (fun hc => ?_) (fun hc => ?_) <;> simp (maxSteps := 2000000) (disch := omega) only [go_sem, seval, reduceCtorEq]
 ·refine Cont.rel (one_c hs hn (a := (i : Int)) ⟨by omega, by omega⟩ _) ?_
  rintro v H' ⟨⟨B, rfl, hB⟩, rfl⟩
  cases B with
  | true =>
   simp (maxSteps := 2000000) (disch := omega) only [go_sem, seval, reduceCtorEq]
   refine Nxt.mk (i + 1) (by omega) (Wk.slots (by (try simp only [List.replicate, List.cons_append, List.nil_append]); repeat' first | exact WkL.nil | refine WkL.cons (Wk1.rfl _) ?_ | refine WkL.cons Wk1.esl ?_ | refine WkL.cons (Wk1.gsl _ _ _) ?_ | refine WkL.cons (Wk1.any _) ?_)) ⟨by omega, by omega, fun j hj7 hj => ?_⟩
   rcases Nat.lt_or_ge j i with h' | h'
   ·exact q2 j hj7 h'
   ·rw [show j = i by omega]; exact hB.1 rfl
  | false =>
   simp (maxSteps := 2000000) (disch := omega) only [go_sem, seval, reduceCtorEq]
   exact fin (nf fun h => by have := hB.2 (h.one i q0 (by omega)); cases this) _
 have hone : ∀ j : Nat, 7 ≤ j → j < t.length → OneP t j := fun j h7 hj => q2 j h7 (by omega)
 clear q0 q1 q2
 have hz0 : (List.replicate t.length [iv 0]).flatten = (List.replicate t.length 0).map iv := rep_flat _
 rw [hz0]
 have hk := kidsR_ok hs h1 (by omega) hbas hone
 obtain ⟨S, hS⟩ : ∃ S : Nat × List Int → List AV, ∀ g, S g = [tv t, .any, bv false, .any, .any, .any, .hsl (H.length + 1) 0 t.length t.length 1, iv g.1] ++ List.replicate 100 .any := ⟨_, fun _ => rfl⟩
 refine W.loopG (γ := Nat × List Int) (fun g => t.length - g.1) S (fun g => H ++ [.row 49 10 7, .cells (g.2.map iv)])
  (fun g => 7 ≤ g.1 ∧ g.1 ≤ t.length ∧ Met (KdR t) t.length g.2 ∧ (∀ x : Int, 0 ≤ x → x < t.length → mt g.2 x ≠ 1) ∧ (∀ j : Nat, 7 ≤ j → j < g.1 → Acc (KdR t) j) ∧ (∀ i k : Nat, 7 ≤ k → k < i → i < g.1 → ¬ ClashP t i k))
  (7, List.replicate t.length 0) (by rw [hS]; exact Wk.slots (by (try simp only [List.replicate, List.cons_append, List.nil_append]); repeat' first | exact WkL.nil | refine WkL.cons (Wk1.rfl _) ?_ | refine WkL.cons Wk1.esl ?_ | refine WkL.cons (Wk1.gsl _ _ _) ?_ | refine WkL.cons (Wk1.any _) ?_)) ⟨by omega, by omega, Met.zero, fun x h0 h1 => by rw [mt_rep]; omega, fun j hj => by omega, fun i k _ _ hk => by simp only at hk; omega⟩ (fun g hg => ?_)
 obtain ⟨i, met⟩ := g
 obtain ⟨w0, w1, w2, w3, w4, w5⟩ := hg
 simp only at w0 w1 w2 w3 w4 w5
 simp (maxSteps := 2000000) (disch := omega) only [c83l1, hS, List.length_map, List.append_assoc, List.cons_append, List.nil_append, go_sem, seval, reduceCtorEq]
 refine Br.dec (fun hc2 => ?_) (fun hc2 => ?_) <;> simp (maxSteps := 2000000) (disch := omega) only [go_sem, seval, reduceCtorEq]
 ·refine Cont.rel (round_c hk (zc met + 1) (by omega) w2 (Way.none w3) (a := (i : Int)) (b := H.length + 1) (by omega) (hb_1' _ _ _)) ?_
  rintro v H' ⟨B, m', rfl, rfl, e1, e2, e3⟩
  have hst : (H ++ [ABlk.row 49 10 7, .cells (met.map iv)]).set (H.length + 1) (.cells (m'.map iv)) = H ++ [.row 49 10 7, .cells (m'.map iv)] := by rw [List.set_append_right _ _ (by omega)]; simp
  rw [hst]
  cases B with
  | true =>
   simp (maxSteps := 2000000) (disch := omega) only [go_sem, seval, reduceCtorEq]
   exact fin (nf fun h => e3 rfl (h.acc i w0 (by omega))) _
  | false =>
   obtain ⟨f1, f2, f3⟩ := e2 rfl
   simp (maxSteps := 2000000) (disch := omega) only [go_sem, seval, reduceCtorEq]
   obtain ⟨S2, hS2⟩ : ∃ S2 : Nat → List AV, ∀ k, S2 k = [tv t, .any, bv false, .any, .any, .any, .hsl (H.length + 1) 0 t.length t.length 1, iv i, iv k] ++ List.replicate 99 .any := ⟨_, fun _ => rfl⟩
   refine W.loopG (γ := Nat) (fun k => i - k) S2 (fun _ => H ++ [.row 49 10 7, .cells (m'.map iv)]) (fun k => 7 ≤ k ∧ k ≤ i ∧ ∀ j : Nat, 7 ≤ j → j < k → ¬ ClashP t i j) 7 (by rw [hS2]; exact Wk.slots (by (try simp only [List.replicate, List.cons_append, List.nil_append]); repeat' first | exact WkL.nil | refine WkL.cons (Wk1.rfl _) ?_ | refine WkL.cons Wk1.esl ?_ | refine WkL.cons (Wk1.gsl _ _ _) ?_ | refine WkL.cons (Wk1.any _) ?_)) ⟨by omega, w0, fun j h7 hj => by omega⟩ (fun k hk' => ?_)
   obtain ⟨y0, y1, y2⟩ := hk'
   simp (maxSteps := 2000000) (disch := omega) only [c83l0, hS2, List.append_assoc, List.cons_append, List.nil_append, go_sem, seval, reduceCtorEq]
   refine Br.dec (fun hc3 => ?_) (fun hc3 => ?_) <;> simp (maxSteps := 2000000) (disch := omega) only [go_sem, seval, reduceCtorEq]
   ·have hia := iaA_ty (t := t) (a := i) (by omega) (by omega)
    have hib := iaA_ty (t := t) (a := k) (by omega) (by omega)
    have e1 : tyAt t (i : Int) = t.getD i default := rfl
    have e2 : tyAt t (k : Int) = t.getD k default := rfl
    rw [e1] at hia
    rw [e2] at hib
    have hC : ClashP t i k ↔ (t.getD i default).form = 9 ∧ (t.getD k default).form = 9 ∧ (t.getD i default).mod = (t.getD k default).mod ∧ (t.getD i default).desc = (t.getD k default).desc ∧ (t.getD i default).desc ≠ -1 := Iff.rfl
    have nxt : ∀ {s' : List AV}, ¬ ClashP t i k → WkL s' (S2 (k + 1)) → Nxt H.length (fun k => i - k) S2 (fun _ => H ++ [.row 49 10 7, .cells (m'.map iv)]) (fun k => 7 ≤ k ∧ k ≤ i ∧ ∀ j : Nat, 7 ≤ j → j < k → ¬ ClashP t i j) (i - k) s' (H ++ [.row 49 10 7, .cells (m'.map iv)]) := fun {s'} h hk => by
     refine Nxt.mk (k + 1) (by omega) (Wk.slots hk) ⟨by omega, by omega, fun j h7 hj => ?_⟩
     rcases Nat.lt_or_ge j k with h' | h'
     ·exact y2 j h7 h'
     ·rw [show j = k by omega]; exact h
    generalize t.getD i default = x at *
    generalize t.getD k default = y at *
    refine W.pchain follows (by decide +kernel) ?_
    by_cases b1 : x.form = 9
    rotate_left
    ·simp (maxSteps := 2000000) (disch := omega) only [hia, hib, Ty.c, go_sem, seval, reduceCtorEq]
     exact nxt (fun h => b1 (hC.1 h).1) (by rw [hS2]; exact WkL.tail 9 _ rfl (by simp only [List.take_succ_cons, List.take_zero]; repeat' first | exact WkL.nil | refine WkL.cons (Wk1.rfl _) ?_ | refine WkL.cons Wk1.esl ?_ | refine WkL.cons (Wk1.gsl _ _ _) ?_ | refine WkL.cons (Wk1.any _) ?_))
    by_cases b2 : y.form = 9
    rotate_left
    ·simp (maxSteps := 2000000) (disch := omega) only [hia, hib, Ty.c, go_sem, seval, reduceCtorEq]
     exact nxt (fun h => b2 (hC.1 h).2.1) (by rw [hS2]; exact WkL.tail 9 _ rfl (by simp only [List.take_succ_cons, List.take_zero]; repeat' first | exact WkL.nil | refine WkL.cons (Wk1.rfl _) ?_ | refine WkL.cons Wk1.esl ?_ | refine WkL.cons (Wk1.gsl _ _ _) ?_ | refine WkL.cons (Wk1.any _) ?_))
    by_cases b3 : x.mod = y.mod
    rotate_left
    ·have k3 := decide_eq_false b3
     simp (maxSteps := 2000000) (disch := omega) only [hia, hib, Ty.c, k3, go_sem, seval, reduceCtorEq]
     exact nxt (fun h => b3 (hC.1 h).2.2.1) (by rw [hS2]; exact WkL.tail 9 _ rfl (by simp only [List.take_succ_cons, List.take_zero]; repeat' first | exact WkL.nil | refine WkL.cons (Wk1.rfl _) ?_ | refine WkL.cons Wk1.esl ?_ | refine WkL.cons (Wk1.gsl _ _ _) ?_ | refine WkL.cons (Wk1.any _) ?_))
    have k3 := decide_eq_true b3
    by_cases b4 : x.desc = y.desc
    rotate_left
    ·simp (maxSteps := 2000000) (disch := omega) only [hia, hib, Ty.c, k3, go_sem, seval, reduceCtorEq]
     exact nxt (fun h => b4 (hC.1 h).2.2.2.1) (by rw [hS2]; exact WkL.tail 9 _ rfl (by simp only [List.take_succ_cons, List.take_zero]; repeat' first | exact WkL.nil | refine WkL.cons (Wk1.rfl _) ?_ | refine WkL.cons Wk1.esl ?_ | refine WkL.cons (Wk1.gsl _ _ _) ?_ | refine WkL.cons (Wk1.any _) ?_))
    by_cases b5 : x.desc = -1
    ·simp (maxSteps := 2000000) (disch := omega) only [hia, hib, Ty.c, k3, go_sem, seval, reduceCtorEq]
     exact nxt (fun h => (hC.1 h).2.2.2.2 b5) (by rw [hS2]; exact WkL.tail 9 _ rfl (by simp only [List.take_succ_cons, List.take_zero]; repeat' first | exact WkL.nil | refine WkL.cons (Wk1.rfl _) ?_ | refine WkL.cons Wk1.esl ?_ | refine WkL.cons (Wk1.gsl _ _ _) ?_ | refine WkL.cons (Wk1.any _) ?_))
    ·simp (maxSteps := 2000000) (disch := omega) only [hia, hib, Ty.c, k3, go_sem, seval, reduceCtorEq]
     exact fin (nf fun h => h.uni i k y0 (by omega) (by omega) (show ClashP t i k from hC.2 ⟨b1, b2, b3, b4, b5⟩)) _
   ·refine Nxt.mk (i + 1, m') (by simp only; omega) (Wk.slots (by rw [hS]; exact WkL.tail 8 _ rfl (by simp only [List.take_succ_cons, List.take_zero]; repeat' first | exact WkL.nil | refine WkL.cons (Wk1.rfl _) ?_ | refine WkL.cons Wk1.esl ?_ | refine WkL.cons (Wk1.gsl _ _ _) ?_ | refine WkL.cons (Wk1.any _) ?_))) ⟨by simp only; omega, by simp only; omega, f2, f3.none w3, fun j h7 hj => ?_, fun a k h7 hk ha => ?_⟩
    ·rcases Nat.lt_or_ge j i with h' | h'
     ·exact w4 j h7 h'
     ·rw [show j = i by simp only at hj; omega]; exact f1
    ·rcases Nat.lt_or_ge a i with h' | h'
     ·exact w5 a k h7 hk h'
     ·rw [show a = i by simp only at ha; omega]; exact y2 k h7 (by omega)
 ·refine fin (v := true) (good_t (GoodR.good ⟨⟨by omega, by omega⟩, hbas, hone, fun i h7 hi => w4 i h7 (by omega), fun i k h7 hk hi => w5 i k h7 hk (by omega)⟩)).symm _
end Go.Proofs.Ythifjndenhjobaa

/- The reference: is it an interface? -/
namespace Go.Proofs.Ythifjndenhjobaa
set_option linter.unusedSimpArgs false
set_option linter.unusedVariables false
set_option maxRecDepth 20000
set_option maxHeartbeats 4000000
open Go.RowKit

def c20 : AC :=
 .seq (.reg [kn 1 (.bx (.t 0)), kn 2 (.mv (.c (.d (.v (.bool false)))))])
 (.seq (.reg [kn 3 (.ld (.t 1) 5 true), kn 4 (.call 36 [(.t 3)]), kn 5 (.mv (.t 4)), ky 6 5 (.ld (.t 1) 5 true), ky 7 5 (.call 37 [(.t 6)]), kn 8 (.pick (.t 5) (.t 7) (.c (.d (.v (.bool false))))), kn 2 (.mv (.t 8))])
 (.ret))
def r20 : List RC := [.t 2]

def c36l0 : AC :=
 .seq (.seq (.reg [kn 93 (.mv (.t 6)), kn 94 (.mv (.t 5)), kn 95 (.bin .lss (.t 93) (.t 94))])
 (.cond (.t 95) (.skip) (.exit 6)))
 (.seq (.block 7 (.seq (.dreg [[], [0], [], [1, 2], [3], [4], [], [6], [], [7, 8], [9], [10], [5, 11]] [kn 98 (.fa (.t 1) 4), kn 99 (.ld (.t 98) 1 false), kn 100 (.mv (.t 6)), kn 101 (.ia (.t 99) (.t 100) 7), kn 102 (.fa (.t 101) 1), kn 103 (.ld (.t 102) 1 false), kn 104 (.fa (.t 1) 4), kn 105 (.ld (.t 104) 1 false), kn 106 (.mv (.t 5)), kn 107 (.ia (.t 105) (.t 106) 7), kn 108 (.fa (.t 107) 1), kn 109 (.ld (.t 108) 1 false), kn 110 (.bin .eql (.t 103) (.t 109))])
 (.cond (.t 110) (.seq (.reg [kn 2 (.mv (.c (.d (.v (.bool false)))))])
 (.ret)) (.skip))))
 (.reg [kn 96 (.mv (.t 6)), kn 97 (.bin .add (.t 96) (kc 1)), kn 6 (.mv (.t 97))]))

def c36l1 : AC :=
 .seq (.seq (.reg [kn 78 (.mv (.t 5)), kn 79 (.fa (.t 1) 4), kn 80 (.ld (.t 79) 1 false), kn 81 (.len false (.t 80)), kn 82 (.bin .lss (.t 78) (.t 81))])
 (.cond (.t 82) (.skip) (.exit 4)))
 (.seq (.block 5 (.seq (.seq (.dreg [[], [], [1], [], [2, 3], [4], [0, 5], [6]] [kn 85 (.ld (.t 1) 5 true), kn 86 (.fa (.t 1) 4), kn 87 (.ld (.t 86) 1 false), kn 88 (.mv (.t 5)), kn 89 (.ia (.t 87) (.t 88) 7), kn 90 (.ld (.t 89) 7 true), kn 91 (.call 85 [(.t 85), (.t 90)]), kn 92 (.un .not (.t 91))])
 (.cond (.t 92) (.seq (.reg [kn 2 (.mv (.c (.d (.v (.bool false)))))])
 (.ret)) (.skip)))
 (.seq (.reg [kn 6 (.mv (kc 0))])
 (.block 6 (.loop c36l0)))))
 (.reg [kn 83 (.mv (.t 5)), kn 84 (.bin .add (.t 83) (kc 1)), kn 5 (.mv (.t 84))]))

def c36l2 : AC :=
 .seq (.seq (.reg [kn 60 (.mv (.t 4)), kn 61 (.mv (.t 3)), kn 62 (.bin .lss (.t 60) (.t 61))])
 (.cond (.t 62) (.skip) (.exit 2)))
 (.seq (.block 3 (.seq (.dreg [[], [0], [], [1, 2], [3], [4], [], [6], [], [7, 8], [9], [10], [5, 11]] [kn 65 (.fa (.t 1) 2), kn 66 (.ld (.t 65) 1 false), kn 67 (.mv (.t 4)), kn 68 (.ia (.t 66) (.t 67) 2), kn 69 (.fa (.t 68) 0), kn 70 (.ld (.t 69) 1 false), kn 71 (.fa (.t 1) 2), kn 72 (.ld (.t 71) 1 false), kn 73 (.mv (.t 3)), kn 74 (.ia (.t 72) (.t 73) 2), kn 75 (.fa (.t 74) 0), kn 76 (.ld (.t 75) 1 false), kn 77 (.bin .eql (.t 70) (.t 76))])
 (.cond (.t 77) (.seq (.reg [kn 2 (.mv (.c (.d (.v (.bool false)))))])
 (.ret)) (.skip))))
 (.reg [kn 63 (.mv (.t 4)), kn 64 (.bin .add (.t 63) (kc 1)), kn 4 (.mv (.t 64))]))

def c36l3 : AC :=
 .seq (.seq (.reg [kn 34 (.mv (.t 3)), kn 35 (.fa (.t 1) 2), kn 36 (.ld (.t 35) 1 false), kn 37 (.len false (.t 36)), kn 38 (.bin .lss (.t 34) (.t 37))])
 (.cond (.t 38) (.skip) (.exit 0)))
 (.seq (.block 1 (.seq (.seq (.dreg [[], [0], [], [1, 2], [3], [4], [5], [6], [7, 6], [8], [9, 8], [8], [10, 11, 8], [12, 8], [13, 8], [8], [15, 8], [14, 16, 8], [8, 17]] [kn 41 (.fa (.t 1) 2), kn 42 (.ld (.t 41) 1 false), kn 43 (.mv (.t 3)), kn 44 (.ia (.t 42) (.t 43) 2), kn 45 (.fa (.t 44) 0), kn 46 (.ld (.t 45) 1 false), kn 47 (.call 82 [(.t 46)]), kn 48 (.un .not (.t 47)), kn 49 (.mv (.t 48)), ko 50 49 (.fa (.t 1) 2), ko 51 49 (.ld (.t 50) 1 false), ko 52 49 (.mv (.t 3)), ko 53 49 (.ia (.t 51) (.t 52) 2), ko 54 49 (.fa (.t 53) 0), ko 55 49 (.ld (.t 54) 1 false), ko 56 49 (.fa (.t 1) 0), ko 57 49 (.ld (.t 56) 1 false), ko 58 49 (.bin .eql (.t 55) (.t 57)), kn 59 (.pick (.t 49) (.c (.d (.v (.bool true)))) (.t 58))])
 (.cond (.t 59) (.seq (.reg [kn 2 (.mv (.c (.d (.v (.bool false)))))])
 (.ret)) (.skip)))
 (.seq (.reg [kn 4 (.mv (kc 0))])
 (.block 2 (.loop c36l2)))))
 (.reg [kn 39 (.mv (.t 3)), kn 40 (.bin .add (.t 39) (kc 1)), kn 3 (.mv (.t 40))]))

def c36 : AC :=
 .seq (.reg [kn 1 (.bx (.t 0)), kn 2 (.mv (.c (.d (.v (.bool false)))))])
 (.seq (.seq (.reg [kn 7 (.fa (.t 1) 0), kn 8 (.ld (.t 7) 1 false), kn 9 (.call 82 [(.t 8)]), kn 10 (.un .not (.t 9)), kn 11 (.mv (.t 10)), ko 12 11 (.fa (.t 1) 2), ko 13 11 (.ld (.t 12) 1 false), ko 14 11 (.len false (.t 13)), ko 15 11 (.bin .gtr (.t 14) (kc 16)), kn 16 (.pick (.t 11) (.c (.d (.v (.bool true)))) (.t 15)), kn 17 (.mv (.t 16)), ko 18 17 (.fa (.t 1) 4), ko 19 17 (.ld (.t 18) 1 false), ko 20 17 (.len false (.t 19)), ko 21 17 (.bin .gtr (.t 20) (kc 64)), kn 22 (.pick (.t 17) (.c (.d (.v (.bool true)))) (.t 21)), kn 23 (.mv (.t 22)), ko 24 23 (.fa (.t 1) 3), ko 25 23 (.ld (.t 24) 1 false), ko 26 23 (.call 83 [(.t 25)]), ko 27 23 (.un .not (.t 26)), kn 28 (.pick (.t 23) (.c (.d (.v (.bool true)))) (.t 27)), kn 29 (.mv (.t 28)), ko 30 29 (.ld (.t 1) 5 true), ko 31 29 (.call 84 [(.t 30)]), ko 32 29 (.un .not (.t 31)), kn 33 (.pick (.t 29) (.c (.d (.v (.bool true)))) (.t 32))])
 (.cond (.t 33) (.seq (.reg [kn 2 (.mv (.c (.d (.v (.bool false)))))])
 (.ret)) (.skip)))
 (.seq (.seq (.reg [kn 3 (.mv (kc 0))])
 (.block 0 (.loop c36l3)))
 (.seq (.seq (.reg [kn 5 (.mv (kc 0))])
 (.block 4 (.loop c36l1)))
 (.seq (.reg [kn 2 (.mv (.c (.d (.v (.bool true)))))])
 (.ret)))))
def r36 : List RC := [.t 2]

theorem cc20 : Try.f20.body.bind (comp Try.prog (hhI 20)) = some c20 := by kernel_rfl
theorem rr20 : resC Try.prog Try.f20 = some r20 := by kernel_rfl
theorem cc36 : Try.f36.body.bind (comp Try.prog (hhI 36)) = some c36 := by kernel_rfl
theorem rr36 : resC Try.prog Try.f36 = some r36 := by kernel_rfl
theorem nam_iff {f : Fc} (hg : GoodP f.types) : NamP f ↔ (∀ i, i < f.types.length → ModP f (f.types.getD i default).mod) ∧ ∀ i j, i < j → j < f.types.length → ¬ SameN (f.types.getD i default) (f.types.getD j default) := by
 constructor
 ·intro h
  refine ⟨fun i hi => ?_, fun i j hij hj hs => ?_⟩
  ·rcases Nat.lt_or_ge i 7 with h7 | h7
   ·rw [hg.bas i h7]; exact .inl rfl
   ·exact h.1 i h7 hi
  ·rcases Nat.lt_or_ge i 7 with h7 | h7
   ·rw [hg.bas i h7] at hs; exact hs.1 rfl
   ·exact h.2 j i h7 hij hj hs.symm
 ·intro h
  exact ⟨fun i _ hi => h.1 i hi, fun i k _ hk hi hs => h.2 k i hk hi hs.symm⟩
abbrev ShR (f : Fc) (H : List ABlk) (v : AV) (H' : List ABlk) : Prop := (∃ B, v = bv B ∧ (B = true ↔ ShapeP f)) ∧ H' = H
theorem shaped_c {f : Fc} (hf : FIn f) (hs : Small f.types) (H : List ABlk) : ACalls Try.prog 36 [f.av] H (ShR f H) := by
 refine ACalls.into Try.func36 cc36 rr36 fun hcl => ?_
 have hus := hf.us
 have hos := hf.os
 have fin : ∀ {B : Bool} {l : List ABlk}, (B = true ↔ ShapeP f) → Ret [RC.t 2] H.length (ShR f H) (some (bv B)) (H ++ l) := fun {B l} h =>
  Ret.drop _ H (Nat.le_refl _) hcl (.rfl _) (by simp [refs]) ⟨⟨B, rfl, h⟩, rfl⟩
 have no : ∀ {l : List ABlk}, ¬ ShapeP f → Ret [RC.t 2] H.length (ShR f H) (some (bv false)) (H ++ l) := fun h => fin ⟨fun h' => (by cases h'), fun h' => absurd h' h⟩
 by_cases h1 : Nm f.name
 rotate_left
 ·simp (maxSteps := 2000000) (disch := omega) only [Try.ntmps36, c36, r36, Fc.cs, go_sem, seval, reduceCtorEq]
  refine Cont.mk (iword_c _ _) ?_
  rw [nm_f h1]
  simp (maxSteps := 2000000) (disch := omega) only [go_sem, seval, reduceCtorEq]
  exact no fun h => h1 h.nm
 have h1' := nm_t h1
 by_cases h2 : 16 < f.uses.length
 ·simp (maxSteps := 2000000) (disch := omega) only [Try.ntmps36, c36, r36, Fc.cs, go_sem, seval, reduceCtorEq]
  refine Cont.mk (iword_c _ _) ?_
  rw [h1']
  simp (maxSteps := 2000000) (disch := omega) only [List.length_map, go_sem, seval, reduceCtorEq]
  exact no fun h => by have := h.us; omega
 by_cases h3 : 64 < f.objs.length
 ·simp (maxSteps := 2000000) (disch := omega) only [Try.ntmps36, c36, r36, Fc.cs, go_sem, seval, reduceCtorEq]
  refine Cont.mk (iword_c _ _) ?_
  rw [h1']
  simp (maxSteps := 2000000) (disch := omega) only [List.length_map, go_sem, seval, reduceCtorEq]
  exact no fun h => by have := h.os; omega
 simp (maxSteps := 2000000) (disch := omega) only [Try.ntmps36, c36, r36, Fc.cs, go_sem, seval, reduceCtorEq]
 refine Cont.mk (iword_c _ _) ?_
 rw [h1']
 simp (maxSteps := 2000000) (disch := omega) only [List.length_map, go_sem, seval, reduceCtorEq]
 refine Cont.mk (rgood_c hs hf.fn hf.ty _) ?_
 by_cases hg : GoodP f.types
 rotate_left
 ·rw [good_f hg]
  simp (maxSteps := 2000000) (disch := omega) only [go_sem, seval, reduceCtorEq]
  exact no fun h => hg h.ty
 rw [good_t hg]
 simp (maxSteps := 2000000) (disch := omega) only [go_sem, seval, reduceCtorEq]
 refine Cont.rel (named16_c hf _) ?_
 rintro v H' ⟨⟨B, rfl, hB⟩, rfl⟩
 cases hBv : B with
 | false =>
  simp (maxSteps := 2000000) (disch := omega) only [go_sem, seval, reduceCtorEq]
  exact no fun h => by have := hB.2 ((nam_iff hg).2 ⟨h.md, h.nn⟩); rw [hBv] at this; cases this
 | true =>
  have hN := (nam_iff hg).1 (hB.1 hBv)
  simp (maxSteps := 2000000) (disch := omega) only [go_sem, seval, reduceCtorEq]
  have gu : ∀ i : Nat, i < f.uses.length → iaA (.d (.sl (f.uses.map Us.c))) (i : Int) 2 = some (.ip (f.uses.getD i default).c) := fun i hi => iaA_us (t := f.uses) (a := i) (by omega) (by omega)
  have go : ∀ i : Nat, i < f.objs.length → iaA (.d (.sl (f.objs.map Ob.c))) (i : Int) 7 = some (.ip (f.objs.getD i default).c) := fun i hi => iaA_ob (t := f.objs) (a := i) (by omega) (by omega)
  obtain ⟨S, hS⟩ : ∃ S : Nat → List AV, ∀ i, S i = [.any, .ptr H.length 0, bv false, iv i] ++ List.replicate 107 .any := ⟨_, fun _ => rfl⟩
  refine W.loopG (γ := Nat) (fun i => f.uses.length - i) S (fun _ => H ++ [.cells f.cs]) (fun i => i ≤ f.uses.length ∧ UseTo f i) 0 (Wk.slots (by rw [hS]; exact WkL.tail 4 _ rfl (by simp only [List.take_succ_cons, List.take_zero]; repeat' first | exact WkL.nil | refine WkL.cons (Wk1.rfl _) ?_ | refine WkL.cons Wk1.esl ?_ | refine WkL.cons (Wk1.gsl _ _ _) ?_ | refine WkL.cons (Wk1.any _) ?_))) ⟨by omega, ⟨fun j hj => by omega, fun k j hk hj => by omega⟩⟩ (fun i hi => ?_)
  obtain ⟨q1, q2⟩ := hi
  simp (maxSteps := 2000000) (disch := omega) only [c36l3, hS, Fc.cs, List.length_map, go_sem, seval, reduceCtorEq]
  refine Br.dec (fun hc => ?_) (fun hc => ?_) <;> simp (maxSteps := 2000000) (disch := omega) only [go_sem, seval, reduceCtorEq]
  ·refine W.pchain follows (by decide +kernel) ?_
   have gi := gu i (by omega)
   generalize hx : f.uses.getD i default = x at *
   simp (maxSteps := 2000000) (disch := omega) only [gi, Us.c, go_sem, seval, reduceCtorEq]
   refine PCont.mk (iword_c _ _) ?_
   by_cases b1 : Nm x.name
   rotate_left
   ·rw [nm_f b1]
    simp (maxSteps := 2000000) (disch := omega) only [go_sem, seval, reduceCtorEq]
    exact no fun h => b1 (by have := (h.use.nm i (by omega)).1; rwa [hx] at this)
   rw [nm_t b1]
   cases b2 : decide (x.name = f.name) with
   | true =>
    simp (maxSteps := 2000000) (disch := omega) only [gi, Us.c, b2, go_sem, seval, reduceCtorEq]
    exact no fun h => by have := (h.use.nm i (by omega)).2; rw [hx] at this; exact this (of_decide_eq_true b2)
   | false =>
    simp (maxSteps := 2000000) (disch := omega) only [gi, Us.c, b2, go_sem, seval, reduceCtorEq]
    obtain ⟨S2, hS2⟩ : ∃ S : Nat → List AV, ∀ k, S k = [.any, .ptr H.length 0, bv false, iv i, iv k] ++ List.replicate 106 .any := ⟨_, fun _ => rfl⟩
    refine W.loopG (γ := Nat) (fun k => i - k) S2 (fun _ => H ++ [.cells f.cs]) (fun k => k ≤ i ∧ ∀ j, j < k → (f.uses.getD j default).name ≠ x.name) 0 (Wk.slots (by rw [hS2]; exact WkL.tail 5 _ rfl (by simp only [List.take_succ_cons, List.take_zero]; repeat' first | exact WkL.nil | refine WkL.cons (Wk1.rfl _) ?_ | refine WkL.cons Wk1.esl ?_ | refine WkL.cons (Wk1.gsl _ _ _) ?_ | refine WkL.cons (Wk1.any _) ?_))) ⟨by omega, fun j hj => by omega⟩ (fun k hk => ?_)
    obtain ⟨y1, y2⟩ := hk
    simp (maxSteps := 2000000) (disch := omega) only [c36l2, hS2, Fc.cs, List.length_map, go_sem, seval, reduceCtorEq]
    refine Br.dec (fun hc2 => ?_) (fun hc2 => ?_) <;> simp (maxSteps := 2000000) (disch := omega) only [go_sem, seval, reduceCtorEq]
    ·refine W.pchain follows (by decide +kernel) ?_
     have gk := gu k (by omega)
     generalize hy : f.uses.getD k default = y at *
     cases b3 : decide (y.name = x.name) with
     | true =>
      simp (maxSteps := 2000000) (disch := omega) only [gi, gk, Us.c, b3, go_sem, seval, reduceCtorEq]
      exact no fun h => h.use.nd k i (by omega) (by omega) (by rw [hx, hy]; exact of_decide_eq_true b3)
     | false =>
      simp (maxSteps := 2000000) (disch := omega) only [gi, gk, Us.c, b3, go_sem, seval, reduceCtorEq]
      refine Nxt.mk (k + 1) (by omega) (Wk.slots (by rw [hS2]; exact WkL.tail 5 _ rfl (by simp only [List.take_succ_cons, List.take_zero]; repeat' first | exact WkL.nil | refine WkL.cons (Wk1.rfl _) ?_ | refine WkL.cons Wk1.esl ?_ | refine WkL.cons (Wk1.gsl _ _ _) ?_ | refine WkL.cons (Wk1.any _) ?_))) ⟨by omega, fun j hj => ?_⟩
      rcases Nat.lt_or_ge j k with h' | h'
      ·exact y2 j h'
      ·rw [show j = k by omega, hy]; exact of_decide_eq_false b3
    ·refine Nxt.mk (i + 1) (by omega) (Wk.slots (by rw [hS]; exact WkL.tail 4 _ rfl (by simp only [List.take_succ_cons, List.take_zero]; repeat' first | exact WkL.nil | refine WkL.cons (Wk1.rfl _) ?_ | refine WkL.cons Wk1.esl ?_ | refine WkL.cons (Wk1.gsl _ _ _) ?_ | refine WkL.cons (Wk1.any _) ?_))) ⟨by omega, ⟨fun j hj => ?_, fun k2 j hk2 hj => ?_⟩⟩
     ·rcases Nat.lt_or_ge j i with h' | h'
      ·exact q2.nm j h'
      ·rw [show j = i by omega, hx]; exact ⟨b1, of_decide_eq_false b2⟩
     ·rcases Nat.lt_or_ge j i with h' | h'
      ·exact q2.nd k2 j hk2 h'
      ·rw [show j = i by omega, hx]; exact y2 k2 (by omega)
  ·have qU := q2
   rw [show i = f.uses.length by omega] at qU
   clear q1 q2 hc hS S
   obtain ⟨S, hS⟩ : ∃ S : Nat → List AV, ∀ i, S i = [.any, .ptr H.length 0, bv false, .any, .any, iv i] ++ List.replicate 105 .any := ⟨_, fun _ => rfl⟩
   refine W.loopG (γ := Nat) (fun i => f.objs.length - i) S (fun _ => H ++ [.cells f.cs]) (fun i => i ≤ f.objs.length ∧ ObjTo f i) 0 (Wk.slots (by rw [hS]; exact WkL.tail 6 _ rfl (by simp only [List.take_succ_cons, List.take_zero]; repeat' first | exact WkL.nil | refine WkL.cons (Wk1.rfl _) ?_ | refine WkL.cons Wk1.esl ?_ | refine WkL.cons (Wk1.gsl _ _ _) ?_ | refine WkL.cons (Wk1.any _) ?_))) ⟨by omega, ⟨fun j hj => by omega, fun k j hk hj => by omega⟩⟩ (fun i hi => ?_)
   obtain ⟨q1, q2⟩ := hi
   simp (maxSteps := 2000000) (disch := omega) only [c36l1, hS, Fc.cs, List.length_map, go_sem, seval, reduceCtorEq]
   refine Br.dec (fun hc => ?_) (fun hc => ?_) <;> simp (maxSteps := 2000000) (disch := omega) only [go_sem, seval, reduceCtorEq]
   ·refine W.pchain follows (by decide +kernel) ?_
    have gi := go i (by omega)
    have hin := hf.ob _ (obAt_mem (l := f.objs) (i := i) (by omega))
    generalize hx : f.objs.getD i default = x at *
    simp (maxSteps := 2000000) (disch := omega) only [gi, Ob.c, go_sem, seval, reduceCtorEq]
    refine PCont.mk ((robject_c (f := f) (o := x) (by have := hs.1; omega) hin.2.2.1 _).mono fun v H' h => ⟨cdec_of h.1, h.2⟩) ?_
    by_cases b1 : ObP f.types x
    rotate_left
    ·rw [cdec_f b1]
     simp (maxSteps := 2000000) (disch := omega) only [go_sem, seval, reduceCtorEq]
     exact no fun h => b1 (by have := h.obj.ob i (by omega); rwa [hx] at this)
    rw [cdec_t b1]
    simp (maxSteps := 2000000) (disch := omega) only [go_sem, seval, reduceCtorEq]
    obtain ⟨S2, hS2⟩ : ∃ S : Nat → List AV, ∀ k, S k = [.any, .ptr H.length 0, bv false, .any, .any, iv i, iv k] ++ List.replicate 104 .any := ⟨_, fun _ => rfl⟩
    refine W.loopG (γ := Nat) (fun k => i - k) S2 (fun _ => H ++ [.cells f.cs]) (fun k => k ≤ i ∧ ∀ j, j < k → (f.objs.getD j default).name ≠ x.name) 0 (Wk.slots (by rw [hS2]; exact WkL.tail 7 _ rfl (by simp only [List.take_succ_cons, List.take_zero]; repeat' first | exact WkL.nil | refine WkL.cons (Wk1.rfl _) ?_ | refine WkL.cons Wk1.esl ?_ | refine WkL.cons (Wk1.gsl _ _ _) ?_ | refine WkL.cons (Wk1.any _) ?_))) ⟨by omega, fun j hj => by omega⟩ (fun k hk => ?_)
    obtain ⟨y1, y2⟩ := hk
    simp (maxSteps := 2000000) (disch := omega) only [c36l0, hS2, Fc.cs, List.length_map, go_sem, seval, reduceCtorEq]
    refine Br.dec (fun hc2 => ?_) (fun hc2 => ?_) <;> simp (maxSteps := 2000000) (disch := omega) only [go_sem, seval, reduceCtorEq]
    ·refine W.pchain follows (by decide +kernel) ?_
     have gk := go k (by omega)
     generalize hy : f.objs.getD k default = y at *
     cases b3 : decide (y.name = x.name) with
     | true =>
      simp (maxSteps := 2000000) (disch := omega) only [gi, gk, Ob.c, b3, go_sem, seval, reduceCtorEq]
      exact no fun h => h.obj.nd k i (by omega) (by omega) (by rw [hx, hy]; exact of_decide_eq_true b3)
     | false =>
      simp (maxSteps := 2000000) (disch := omega) only [gi, gk, Ob.c, b3, go_sem, seval, reduceCtorEq]
      refine Nxt.mk (k + 1) (by omega) (Wk.slots (by rw [hS2]; exact WkL.tail 7 _ rfl (by simp only [List.take_succ_cons, List.take_zero]; repeat' first | exact WkL.nil | refine WkL.cons (Wk1.rfl _) ?_ | refine WkL.cons Wk1.esl ?_ | refine WkL.cons (Wk1.gsl _ _ _) ?_ | refine WkL.cons (Wk1.any _) ?_))) ⟨by omega, fun j hj => ?_⟩
      rcases Nat.lt_or_ge j k with h' | h'
      ·exact y2 j h'
      ·rw [show j = k by omega, hy]; exact of_decide_eq_false b3
    ·refine Nxt.mk (i + 1) (by omega) (Wk.slots (by rw [hS]; exact WkL.tail 6 _ rfl (by simp only [List.take_succ_cons, List.take_zero]; repeat' first | exact WkL.nil | refine WkL.cons (Wk1.rfl _) ?_ | refine WkL.cons Wk1.esl ?_ | refine WkL.cons (Wk1.gsl _ _ _) ?_ | refine WkL.cons (Wk1.any _) ?_))) ⟨by omega, ⟨fun j hj => ?_, fun k2 j hk2 hj => ?_⟩⟩
     ·rcases Nat.lt_or_ge j i with h' | h'
      ·exact q2.ob j h'
      ·rw [show j = i by omega, hx]; exact b1
     ·rcases Nat.lt_or_ge j i with h' | h'
      ·exact q2.nd k2 j hk2 h'
      ·rw [show j = i by omega, hx]; exact y2 k2 (by omega)
   ·rw [show i = f.objs.length by omega] at q2
    exact fin ⟨fun _ => ⟨h1, by omega, by omega, hg, hN.1, hN.2, all_at qU.nm, (nodup_at _ _).2 qU.nd, all_at q2.ob, (nodup_at _ _).2 q2.nd⟩, fun _ => rfl⟩
theorem rgood16_c {f : Fc} (hf : FIn f) (hs : Small f.types) (H : List ABlk) : ACalls Try.prog 20 [f.av] H fun v H' => v = bv (cdec (FaceP f)) ∧ H' = H := by
 refine ACalls.into Try.func20 cc20 rr20 fun hcl => ?_
 have fin : ∀ {B : Bool} {l : List ABlk}, (B = true ↔ FaceP f) → Ret [RC.t 2] H.length (fun v H' => v = bv (cdec (FaceP f)) ∧ H' = H) (some (bv B)) (H ++ l) := fun {B l} h =>
  Ret.drop _ H (Nat.le_refl _) hcl (.rfl _) (by simp [refs]) ⟨cdec_of ⟨B, rfl, h⟩, rfl⟩
 simp (maxSteps := 2000000) (disch := omega) only [Try.ntmps20, c20, r20, Fc.cs, go_sem, seval, reduceCtorEq]
 refine Cont.rel (shaped_c hf hs _) ?_
 rintro v H' ⟨⟨B, rfl, hB⟩, rfl⟩
 cases hBv : B with
 | false =>
  simp (maxSteps := 2000000) (disch := omega) only [go_sem, seval, reduceCtorEq]
  exact fin ⟨fun h => (by cases h), fun h => by have := hB.2 h.toShapeP; rw [hBv] at this; cases this⟩
 | true =>
  have hsh := hB.1 hBv
  simp (maxSteps := 2000000) (disch := omega) only [go_sem, seval, reduceCtorEq]
  refine Cont.rel (numbered_c hf hsh.ty _) ?_
  rintro v H' ⟨⟨B2, rfl, hB2⟩, rfl⟩
  simp (maxSteps := 2000000) (disch := omega) only [go_sem, seval, reduceCtorEq]
  exact fin (hB2.trans ⟨fun h => ⟨hsh, h⟩, fun h => h.num⟩)
end Go.Proofs.Ythifjndenhjobaa
