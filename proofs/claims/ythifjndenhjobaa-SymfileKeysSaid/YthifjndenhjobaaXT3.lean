/- Tables of types: the first seven, copies. -/
import Derived.Test.YthifjndenhjobaaXT2
namespace Go.Proofs.Ythifjndenhjobaa
set_option linter.unusedSimpArgs false
set_option linter.unusedVariables false
set_option maxRecDepth 20000
set_option maxHeartbeats 4000000
open Go.RowKit

def c34l0 : AC :=
 .seq (.seq (.reg [kn 6 (.mv (.t 4)), kn 7 (.mv (.t 0)), kn 8 (.len false (.t 7)), kn 9 (.bin .lss (.t 6) (.t 8))])
 (.cond (.t 9) (.skip) (.exit 0)))
 (.seq (.block 1 (.seq (.reg [kn 12 (.mv (.t 0)), kn 13 (.mv (.t 4)), kn 14 (.ia (.t 12) (.t 13) 10), kn 15 (.ld (.t 14) 10 true), kn 5 (.al [kz, (.d (.v (.string ⟨#[]⟩))), (.d (.v (.string ⟨#[]⟩))), kz, kz, kz, .esl, .esl, kz, kz]), ke (.st (.t 5) (.t 15) 10)])
 (.seq (.dreg [[], [], [1], [0, 2], [], [], [5], [4, 6, 3], [0, 1, 2, 3, 5, 6], [8, 3, 7, 0, 1, 2, 3, 5, 6], [0, 1, 2, 3, 4, 5, 6, 7, 8, 9], [10, 7, 9, 0, 1, 2, 3, 4, 5, 6, 7, 8, 9]] [kn 16 (.bs .im 83 3 []), kn 17 (.fa (.t 5) 6), kn 18 (.ld (.t 17) 1 false), kn 19 (.app .im 83 3 32 (.t 16) (.t 18)), kn 20 (.bs .im 85 2 []), kn 21 (.fa (.t 5) 7), kn 22 (.ld (.t 21) 1 false), kn 23 (.app .im 85 2 16 (.t 20) (.t 22)), kn 24 (.fa (.t 5) 6), ke (.st (.t 24) (.t 19) 1), kn 25 (.fa (.t 5) 7), ke (.st (.t 25) (.t 23) 1)])
 (.reg [kn 26 (.mv (.t 3)), kn 27 (.ld (.t 5) 10 true), kn 28 (.bs .im 49 10 [(.t 27)]), kn 29 (.app .gr 49 10 128 (.t 26) (.t 28)), kn 3 (.mvg 49 10 (.t 29))]))))
 (.reg [kn 10 (.mv (.t 4)), kn 11 (.bin .add (.t 10) (kc 1)), kn 4 (.mv (.t 11))]))

def c34 : AC :=
 .seq (.reg [kn 2 (.mv (.c .esl))])
 (.seq (.reg [kn 3 (.mvg 49 10 (.c .esl))])
 (.seq (.seq (.reg [kn 4 (.mv (kc 0))])
 (.block 0 (.loop c34l0)))
 (.seq (.reg [kn 30 (.mv (.t 3)), kn 2 (.mv (.t 30))])
 (.ret))))
def r34 : List RC := [.t 2]

def c39l0 : AC :=
 .seq (.seq (.reg [kn 11 (.mv (.t 5)), kn 12 (.mv (.t 0)), kn 13 (.len false (.t 12)), kn 14 (.bin .lss (.t 11) (.t 13))])
 (.cond (.t 14) (.skip) (.exit 0)))
 (.seq (.block 1 (.seq (.dreg [[], [], [0, 1], [2], [], [], [4, 5], [6], [3, 7], [8]] [kn 17 (.mv (.t 0)), kn 18 (.mv (.t 5)), kn 19 (.ia (.t 17) (.t 18) 10), kn 20 (.ld (.t 19) 10 true), kn 21 (.mv (.t 1)), kn 22 (.mv (.t 5)), kn 23 (.ia (.t 21) (.t 22) 10), kn 24 (.ld (.t 23) 10 true), kn 25 (.call 86 [(.t 20), (.t 24)]), kn 26 (.un .not (.t 25))])
 (.cond (.t 26) (.seq (.reg [kn 4 (.mv (.c (.d (.v (.bool false)))))])
 (.ret)) (.skip))))
 (.reg [kn 15 (.mv (.t 5)), kn 16 (.bin .add (.t 15) (kc 1)), kn 5 (.mv (.t 16))]))

def c39 : AC :=
 .seq (.reg [kn 4 (.mv (.c (.d (.v (.bool false)))))])
 (.seq (.seq (.reg [kn 6 (.mv (.t 0)), kn 7 (.len false (.t 6)), kn 8 (.mv (.t 1)), kn 9 (.len false (.t 8)), kn 10 (.bin .neq (.t 7) (.t 9))])
 (.cond (.t 10) (.seq (.reg [kn 4 (.mv (.c (.d (.v (.bool false)))))])
 (.ret)) (.skip)))
 (.seq (.seq (.reg [kn 5 (.mv (kc 0))])
 (.block 0 (.loop c39l0)))
 (.seq (.reg [kn 4 (.mv (.c (.d (.v (.bool true)))))])
 (.ret))))
def r39 : List RC := [.t 4]

def c40l0 : AC :=
 .seq (.seq (.reg [kn 3 (.mv (.t 2)), kn 4 (.bin .leq (.t 3) (kc 6))])
 (.cond (.t 4) (.skip) (.exit 0)))
 (.seq (.block 1 (.reg [kn 7 (.mv (.t 1)), kn 8 (.mv (.t 2)), kn 9 (.bd [kz, (.d (.v (.string ⟨#[]⟩))), (.d (.v (.string ⟨#[]⟩))), kz, kz, kz, .esl, .esl, kz, kz] [(0, 1, (.t 8))]), kn 10 (.bs .im 49 10 [(.t 9)]), kn 11 (.app .gr 49 10 128 (.t 7) (.t 10)), kn 1 (.mvg 49 10 (.t 11))]))
 (.reg [kn 5 (.mv (.t 2)), kn 6 (.bin .add (.t 5) (kc 1)), kn 2 (.mv (.t 6))]))

def c40 : AC :=
 .seq (.reg [kn 0 (.mv (.c .esl))])
 (.seq (.reg [kn 1 (.mvg 49 10 (.c .esl))])
 (.seq (.seq (.reg [kn 2 (.mv (kc 0))])
 (.block 0 (.loop c40l0)))
 (.seq (.reg [kn 12 (.mv (.t 1)), kn 0 (.mv (.t 12))])
 (.ret))))
def r40 : List RC := [.t 0]

def c51l0 : AC :=
 .seq (.seq (.reg [kn 3 (.mv (.t 2)), kn 4 (.bin .lss (.t 3) (kc 7))])
 (.cond (.t 4) (.skip) (.exit 0)))
 (.seq (.block 1 (.reg [kn 7 (.mv (.t 1)), kn 8 (.mv (.t 2)), kn 9 (.bd [kz, (.d (.v (.string ⟨#[]⟩))), (.d (.v (.string ⟨#[]⟩))), kz, kz, kz, .esl, .esl, kz, kz] [(0, 1, (.t 8))]), kn 10 (.bs .im 49 10 [(.t 9)]), kn 11 (.app .gr 49 10 128 (.t 7) (.t 10)), kn 1 (.mvg 49 10 (.t 11))]))
 (.reg [kn 5 (.mv (.t 2)), kn 6 (.bin .add (.t 5) (kc 1)), kn 2 (.mv (.t 6))]))

def c51 : AC :=
 .seq (.reg [kn 0 (.mv (.c .esl))])
 (.seq (.reg [kn 1 (.mvg 49 10 (.c .esl))])
 (.seq (.seq (.reg [kn 2 (.mv (kc 0))])
 (.block 0 (.loop c51l0)))
 (.seq (.reg [kn 12 (.mv (.t 1)), kn 0 (.mv (.t 12))])
 (.ret))))
def r51 : List RC := [.t 0]

def c86l0 : AC :=
 .seq (.seq (.reg [kn 129 (.mv (.t 6)), kn 130 (.fa (.t 2) 7), kn 131 (.ld (.t 130) 1 false), kn 132 (.len false (.t 131)), kn 133 (.bin .lss (.t 129) (.t 132))])
 (.cond (.t 133) (.skip) (.exit 2)))
 (.seq (.block 3 (.seq (.dreg [[], [0], [], [1, 2], [3], [4], [], [6], [], [7, 8], [9], [10], [5, 11], [12], [13], [14, 13], [13], [15, 16, 13], [17, 13], [18, 13], [13], [20, 13], [13], [21, 22, 13], [23, 13], [24, 13], [19, 25, 13], [13, 26]] [kn 136 (.fa (.t 2) 7), kn 137 (.ld (.t 136) 1 false), kn 138 (.mv (.t 6)), kn 139 (.ia (.t 137) (.t 138) 2), kn 140 (.fa (.t 139) 0), kn 141 (.ld (.t 140) 1 false), kn 142 (.fa (.t 3) 7), kn 143 (.ld (.t 142) 1 false), kn 144 (.mv (.t 6)), kn 145 (.ia (.t 143) (.t 144) 2), kn 146 (.fa (.t 145) 0), kn 147 (.ld (.t 146) 1 false), kn 148 (.eqs true (.t 141) (.t 147)), kn 149 (.mv (.t 148)), ko 150 149 (.fa (.t 2) 7), ko 151 149 (.ld (.t 150) 1 false), ko 152 149 (.mv (.t 6)), ko 153 149 (.ia (.t 151) (.t 152) 2), ko 154 149 (.fa (.t 153) 1), ko 155 149 (.ld (.t 154) 1 false), ko 156 149 (.fa (.t 3) 7), ko 157 149 (.ld (.t 156) 1 false), ko 158 149 (.mv (.t 6)), ko 159 149 (.ia (.t 157) (.t 158) 2), ko 160 149 (.fa (.t 159) 1), ko 161 149 (.ld (.t 160) 1 false), ko 162 149 (.bin .neq (.t 155) (.t 161)), kn 163 (.pick (.t 149) (.c (.d (.v (.bool true)))) (.t 162))])
 (.cond (.t 163) (.seq (.reg [kn 4 (.mv (.c (.d (.v (.bool false)))))])
 (.ret)) (.skip))))
 (.reg [kn 134 (.mv (.t 6)), kn 135 (.bin .add (.t 134) (kc 1)), kn 6 (.mv (.t 135))]))

def c86l1 : AC :=
 .seq (.seq (.reg [kn 79 (.mv (.t 5)), kn 80 (.fa (.t 2) 6), kn 81 (.ld (.t 80) 1 false), kn 82 (.len false (.t 81)), kn 83 (.bin .lss (.t 79) (.t 82))])
 (.cond (.t 83) (.skip) (.exit 0)))
 (.seq (.block 1 (.seq (.dreg [[], [0], [], [1, 2], [3], [4], [], [6], [], [7, 8], [9], [10], [5, 11], [12], [13], [14, 13], [13], [15, 16, 13], [17, 13], [18, 13], [13], [20, 13], [13], [21, 22, 13], [23, 13], [24, 13], [19, 25, 13], [13, 26], [27, 13], [28], [29, 28], [28], [30, 31, 28], [32, 28], [33, 28], [28], [35, 28], [28], [36, 37, 28], [38, 28], [39, 28], [34, 40, 28], [28, 41]] [kn 86 (.fa (.t 2) 6), kn 87 (.ld (.t 86) 1 false), kn 88 (.mv (.t 5)), kn 89 (.ia (.t 87) (.t 88) 3), kn 90 (.fa (.t 89) 0), kn 91 (.ld (.t 90) 1 false), kn 92 (.fa (.t 3) 6), kn 93 (.ld (.t 92) 1 false), kn 94 (.mv (.t 5)), kn 95 (.ia (.t 93) (.t 94) 3), kn 96 (.fa (.t 95) 0), kn 97 (.ld (.t 96) 1 false), kn 98 (.bin .neq (.t 91) (.t 97)), kn 99 (.mv (.t 98)), ko 100 99 (.fa (.t 2) 6), ko 101 99 (.ld (.t 100) 1 false), ko 102 99 (.mv (.t 5)), ko 103 99 (.ia (.t 101) (.t 102) 3), ko 104 99 (.fa (.t 103) 1), ko 105 99 (.ld (.t 104) 1 false), ko 106 99 (.fa (.t 3) 6), ko 107 99 (.ld (.t 106) 1 false), ko 108 99 (.mv (.t 5)), ko 109 99 (.ia (.t 107) (.t 108) 3), ko 110 99 (.fa (.t 109) 1), ko 111 99 (.ld (.t 110) 1 false), ko 112 99 (.eqs true (.t 105) (.t 111)), kn 113 (.pick (.t 99) (.c (.d (.v (.bool true)))) (.t 112)), kn 114 (.mv (.t 113)), ko 115 114 (.fa (.t 2) 6), ko 116 114 (.ld (.t 115) 1 false), ko 117 114 (.mv (.t 5)), ko 118 114 (.ia (.t 116) (.t 117) 3), ko 119 114 (.fa (.t 118) 2), ko 120 114 (.ld (.t 119) 1 false), ko 121 114 (.fa (.t 3) 6), ko 122 114 (.ld (.t 121) 1 false), ko 123 114 (.mv (.t 5)), ko 124 114 (.ia (.t 122) (.t 123) 3), ko 125 114 (.fa (.t 124) 2), ko 126 114 (.ld (.t 125) 1 false), ko 127 114 (.bin .neq (.t 120) (.t 126)), kn 128 (.pick (.t 114) (.c (.d (.v (.bool true)))) (.t 127))])
 (.cond (.t 128) (.seq (.reg [kn 4 (.mv (.c (.d (.v (.bool false)))))])
 (.ret)) (.skip))))
 (.reg [kn 84 (.mv (.t 5)), kn 85 (.bin .add (.t 84) (kc 1)), kn 5 (.mv (.t 85))]))

def c86 : AC :=
 .seq (.reg [kn 2 (.bx (.t 0)), kn 3 (.bx (.t 1)), kn 4 (.mv (.c (.d (.v (.bool false)))))])
 (.seq (.seq (.reg [kn 7 (.fa (.t 2) 0), kn 8 (.ld (.t 7) 1 false), kn 9 (.fa (.t 3) 0), kn 10 (.ld (.t 9) 1 false), kn 11 (.bin .neq (.t 8) (.t 10)), kn 12 (.mv (.t 11)), ko 13 12 (.fa (.t 2) 1), ko 14 12 (.ld (.t 13) 1 false), ko 15 12 (.fa (.t 3) 1), ko 16 12 (.ld (.t 15) 1 false), ko 17 12 (.bin .neq (.t 14) (.t 16)), kn 18 (.pick (.t 12) (.c (.d (.v (.bool true)))) (.t 17)), kn 19 (.mv (.t 18)), ko 20 19 (.fa (.t 2) 2), ko 21 19 (.ld (.t 20) 1 false), ko 22 19 (.fa (.t 3) 2), ko 23 19 (.ld (.t 22) 1 false), ko 24 19 (.bin .neq (.t 21) (.t 23)), kn 25 (.pick (.t 19) (.c (.d (.v (.bool true)))) (.t 24)), kn 26 (.mv (.t 25)), ko 27 26 (.fa (.t 2) 3), ko 28 26 (.ld (.t 27) 1 false), ko 29 26 (.fa (.t 3) 3), ko 30 26 (.ld (.t 29) 1 false), ko 31 26 (.bin .neq (.t 28) (.t 30)), kn 32 (.pick (.t 26) (.c (.d (.v (.bool true)))) (.t 31)), kn 33 (.mv (.t 32)), ko 34 33 (.fa (.t 2) 4), ko 35 33 (.ld (.t 34) 1 false), ko 36 33 (.fa (.t 3) 4), ko 37 33 (.ld (.t 36) 1 false), ko 38 33 (.bin .neq (.t 35) (.t 37)), kn 39 (.pick (.t 33) (.c (.d (.v (.bool true)))) (.t 38)), kn 40 (.mv (.t 39)), ko 41 40 (.fa (.t 2) 5), ko 42 40 (.ld (.t 41) 1 false), ko 43 40 (.fa (.t 3) 5), ko 44 40 (.ld (.t 43) 1 false), ko 45 40 (.bin .neq (.t 42) (.t 44)), kn 46 (.pick (.t 40) (.c (.d (.v (.bool true)))) (.t 45)), kn 47 (.mv (.t 46)), ko 48 47 (.fa (.t 2) 8), ko 49 47 (.ld (.t 48) 1 false), ko 50 47 (.fa (.t 3) 8), ko 51 47 (.ld (.t 50) 1 false), ko 52 47 (.bin .neq (.t 49) (.t 51)), kn 53 (.pick (.t 47) (.c (.d (.v (.bool true)))) (.t 52)), kn 54 (.mv (.t 53)), ko 55 54 (.fa (.t 2) 9), ko 56 54 (.ld (.t 55) 1 false), ko 57 54 (.fa (.t 3) 9), ko 58 54 (.ld (.t 57) 1 false), ko 59 54 (.bin .neq (.t 56) (.t 58)), kn 60 (.pick (.t 54) (.c (.d (.v (.bool true)))) (.t 59)), kn 61 (.mv (.t 60)), ko 62 61 (.fa (.t 2) 6), ko 63 61 (.ld (.t 62) 1 false), ko 64 61 (.len false (.t 63)), ko 65 61 (.fa (.t 3) 6), ko 66 61 (.ld (.t 65) 1 false), ko 67 61 (.len false (.t 66)), ko 68 61 (.bin .neq (.t 64) (.t 67)), kn 69 (.pick (.t 61) (.c (.d (.v (.bool true)))) (.t 68)), kn 70 (.mv (.t 69)), ko 71 70 (.fa (.t 2) 7), ko 72 70 (.ld (.t 71) 1 false), ko 73 70 (.len false (.t 72)), ko 74 70 (.fa (.t 3) 7), ko 75 70 (.ld (.t 74) 1 false), ko 76 70 (.len false (.t 75)), ko 77 70 (.bin .neq (.t 73) (.t 76)), kn 78 (.pick (.t 70) (.c (.d (.v (.bool true)))) (.t 77))])
 (.cond (.t 78) (.seq (.reg [kn 4 (.mv (.c (.d (.v (.bool false)))))])
 (.ret)) (.skip)))
 (.seq (.seq (.reg [kn 5 (.mv (kc 0))])
 (.block 0 (.loop c86l1)))
 (.seq (.seq (.reg [kn 6 (.mv (kc 0))])
 (.block 2 (.loop c86l0)))
 (.seq (.reg [kn 4 (.mv (.c (.d (.v (.bool true)))))])
 (.ret)))))
def r86 : List RC := [.t 4]

theorem cc34 : Try.f34.body.bind (comp Try.prog (hh 34)) = some c34 := by kernel_rfl
theorem rr34 : resC Try.prog Try.f34 = some r34 := by kernel_rfl
theorem cc39 : Try.f39.body.bind (comp Try.prog (hh 39)) = some c39 := by kernel_rfl
theorem rr39 : resC Try.prog Try.f39 = some r39 := by kernel_rfl
theorem cc40 : Try.f40.body.bind (comp Try.prog (hh 40)) = some c40 := by kernel_rfl
theorem rr40 : resC Try.prog Try.f40 = some r40 := by kernel_rfl
theorem cc51 : Try.f51.body.bind (comp Try.prog (hh 51)) = some c51 := by kernel_rfl
theorem rr51 : resC Try.prog Try.f51 = some r51 := by kernel_rfl
theorem cc86 : Try.f86.body.bind (comp Try.prog (hh 86)) = some c86 := by kernel_rfl
theorem rr86 : resC Try.prog Try.f86 = some r86 := by kernel_rfl
def bt (k : Int) : Ty := ⟨k, se, se, 0, 0, 0, [], [], 0, 0⟩
def basicL : List Ty := [bt 0, bt 1, bt 2, bt 3, bt 4, bt 5, bt 6]
theorem basic_at {i : Nat} (h : i < 7) : basicL.getD i default = bt i := by
 rcases (by omega : i = 0 ∨ i = 1 ∨ i = 2 ∨ i = 3 ∨ i = 4 ∨ i = 5 ∨ i = 6) with rfl | rfl | rfl | rfl | rfl | rfl | rfl <;> rfl
theorem basic_take {i : Nat} (h : i < 7) : (basicL.take (i + 1)).map Ty.c = (basicL.take i).map Ty.c ++ [(bt i).c] := by
 rw [getD_take (d := default) (show i < basicL.length from h), basic_at h, List.map_append]; rfl
theorem basic_len {i : Nat} (h : i ≤ 7) : ((basicL.take i).map Ty.c).length = i := by
 rw [List.length_map, List.length_take]; show min i 7 = i; omega
theorem cl.row {H : List ABlk} (h : cl H) (e sz n : Nat) : cl (H ++ [.row e sz n]) := h.append fun k hk r hr => by simp at hk; subst hk; simp [ABlk.refs] at hr
theorem tbasic_c (H : List ABlk) : ACalls Try.prog 40 [] H fun v H' => v = .gsl H.length 10 (basicL.map Ty.c) ∧ H' = H ++ [.row 49 10 7] := by
 refine ACalls.into Try.func40 cc40 rr40 fun hcl => ?_
 simp (maxSteps := 2000000) (disch := omega) only [Try.ntmps40, c40, r40, go_sem, seval, reduceCtorEq]
 obtain ⟨S, hS⟩ : ∃ S : Nat → List AV, ∀ i, S i = [.any, .gsl H.length 10 ((basicL.take i).map Ty.c), iv i] ++ List.replicate 10 .any := ⟨_, fun _ => rfl⟩
 refine W.loopG (γ := Nat) (fun i => 7 - i) S (fun i => H ++ [.row 49 10 i]) (fun i => i ≤ 7) 0 (Wk.slots (by rw [hS]; exact WkL.tail 3 _ rfl (by simp only [List.take_succ_cons, List.take_zero]; repeat' first | exact WkL.nil | refine WkL.cons (Wk1.rfl _) ?_ | refine WkL.cons Wk1.esl ?_ | refine WkL.cons (Wk1.gsl _ _ _) ?_ | refine WkL.cons (Wk1.any _) ?_))) (by omega) (fun i hi => ?_)
 have hl := basic_len hi
 simp (maxSteps := 2000000) (disch := omega) only [c40l0, hS, go_sem, seval, reduceCtorEq]
 refine Br.dec (fun hc => ?_) (fun hc => ?_) <;> simp (maxSteps := 2000000) (disch := omega) only [hl, go_sem, seval, reduceCtorEq]
 ·refine Nxt.mk (i + 1) (by omega) (Wk.slots ?_) (by omega)
  have e := basic_take (i := i) (by omega)
  rw [bt, Ty.c] at e
  simp only [List.map_nil] at e
  rw [hS, e]
  exact WkL.tail 3 _ rfl (by simp only [List.take_succ_cons, List.take_zero]; repeat' first | exact WkL.nil | refine WkL.cons (Wk1.rfl _) ?_ | refine WkL.cons Wk1.esl ?_ | refine WkL.cons (Wk1.gsl _ _ _) ?_ | refine WkL.cons (Wk1.any _) ?_)
 ·have : i = 7 := by omega
  subst this
  exact Ret.keep ⟨rfl, rfl⟩
theorem rbasic_c (H : List ABlk) : ACalls Try.prog 51 [] H fun v H' => v = .gsl H.length 10 (basicL.map Ty.c) ∧ H' = H ++ [.row 49 10 7] := by
 refine ACalls.into Try.func51 cc51 rr51 fun hcl => ?_
 simp (maxSteps := 2000000) (disch := omega) only [Try.ntmps51, c51, r51, go_sem, seval, reduceCtorEq]
 obtain ⟨S, hS⟩ : ∃ S : Nat → List AV, ∀ i, S i = [.any, .gsl H.length 10 ((basicL.take i).map Ty.c), iv i] ++ List.replicate 10 .any := ⟨_, fun _ => rfl⟩
 refine W.loopG (γ := Nat) (fun i => 7 - i) S (fun i => H ++ [.row 49 10 i]) (fun i => i ≤ 7) 0 (Wk.slots (by rw [hS]; exact WkL.tail 3 _ rfl (by simp only [List.take_succ_cons, List.take_zero]; repeat' first | exact WkL.nil | refine WkL.cons (Wk1.rfl _) ?_ | refine WkL.cons Wk1.esl ?_ | refine WkL.cons (Wk1.gsl _ _ _) ?_ | refine WkL.cons (Wk1.any _) ?_))) (by omega) (fun i hi => ?_)
 have hl := basic_len hi
 simp (maxSteps := 2000000) (disch := omega) only [c51l0, hS, go_sem, seval, reduceCtorEq]
 refine Br.dec (fun hc => ?_) (fun hc => ?_) <;> simp (maxSteps := 2000000) (disch := omega) only [hl, go_sem, seval, reduceCtorEq]
 ·refine Nxt.mk (i + 1) (by omega) (Wk.slots ?_) (by omega)
  have e := basic_take (i := i) (by omega)
  rw [bt, Ty.c] at e
  simp only [List.map_nil] at e
  rw [hS, e]
  exact WkL.tail 3 _ rfl (by simp only [List.take_succ_cons, List.take_zero]; repeat' first | exact WkL.nil | refine WkL.cons (Wk1.rfl _) ?_ | refine WkL.cons Wk1.esl ?_ | refine WkL.cons (Wk1.gsl _ _ _) ?_ | refine WkL.cons (Wk1.any _) ?_)
 ·have : i = 7 := by omega
  subst this
  exact Ret.keep ⟨rfl, rfl⟩
theorem copy_c {t : List Ty} (ht : Small t) (H : List ABlk) : ACalls Try.prog 34 [tv t] H fun v H' => v = .gsl H.length 10 (t.map Ty.c) ∧ H' = H ++ [.row 49 10 t.length] := by
 refine ACalls.into Try.func34 cc34 rr34 fun hcl => ?_
 obtain ⟨h1, h2⟩ := ht
 simp (maxSteps := 2000000) (disch := omega) only [Try.ntmps34, c34, r34, go_sem, seval, reduceCtorEq]
 obtain ⟨S, hS⟩ : ∃ S : Nat → List AV, ∀ i, S i = [tv t, .any, .any, .gsl H.length 10 ((t.take i).map Ty.c), iv i] ++ List.replicate 26 .any := ⟨_, fun _ => rfl⟩
 refine W.loopG (γ := Nat) (fun i => t.length - i) S (fun i => H ++ [.row 49 10 i]) (fun i => i ≤ t.length) 0 (Wk.slots (by rw [hS]; exact WkL.tail 5 _ rfl (by simp only [List.take_succ_cons, List.take_zero]; repeat' first | exact WkL.nil | refine WkL.cons (Wk1.rfl _) ?_ | refine WkL.cons Wk1.esl ?_ | refine WkL.cons (Wk1.gsl _ _ _) ?_ | refine WkL.cons (Wk1.any _) ?_))) (by omega) (fun i hi => ?_)
 have hl : (t.take i).length = i := by rw [List.length_take]; omega
 simp (maxSteps := 2000000) (disch := omega) only [c34l0, hS, List.length_map, go_sem, seval, reduceCtorEq]
 refine Br.dec (fun hc => ?_) (fun hc => ?_) <;> simp (maxSteps := 2000000) (disch := omega) only [go_sem, seval, reduceCtorEq]
 ·have hia := iaA_ty (t := t) (a := i) (by omega) (by omega)
  have e : tyAt t (i : Int) = t.getD i default := rfl
  obtain ⟨x1, x2, x3, x4⟩ := h2 _ (tyAt_mem (t := t) (a := i) (by omega) (by omega))
  have et := congrArg (List.map Ty.c) (getD_take (d := (default : Ty)) (l := t) (i := i) (by omega))
  rw [List.map_append] at et
  rw [e] at hia x1 x2 x3 x4
  generalize hx : t.getD i default = x at *
  simp (maxSteps := 2000000) (disch := omega) only [hia, Ty.c, List.length_map, hl, go_sem, seval, reduceCtorEq]
  refine W.dregD [([], []), ([], []), ([], []), ([], []), ([], []), ([], []), ([], []), ([], []), ([], []), ([H.length + 1], []), ([], []), ([H.length + 1], [])] follows (by decide +kernel) rfl rfl (fun z hz b hb => ?_) ?_
  ·have : b = H.length + 1 ∧ z.2 = [] := by
    simp only [List.mem_cons, List.not_mem_nil, or_false] at hz
    rcases hz with rfl | rfl | rfl | rfl | rfl | rfl | rfl | rfl | rfl | rfl | rfl | rfl <;> simp at hb ⊢ <;> simp [hb]
   rw [this.2, this.1]
   simp
  repeat (rw [DC_p]; simp (maxSteps := 2000000) (disch := omega) only [List.length_map, all_fd, all_pm, datss_map_d, go_sem, seval, reduceCtorEq])
  refine WStep.ev (by simp) (by simp) ?_
  simp (maxSteps := 2000000) (disch := omega) only [go_sem, seval, reduceCtorEq]
  refine ⟨FrOk.at_ (H.length + 1) _ (by simp) (by rw [hsk]; rfl), ?_⟩
  repeat (rw [DC_p]; simp (maxSteps := 2000000) (disch := omega) only [go_sem, seval, reduceCtorEq])
  refine WStep.ev (by simp) (by simp) ?_
  simp (maxSteps := 2000000) (disch := omega) only [go_sem, seval, reduceCtorEq]
  refine ⟨FrOk.at_ (H.length + 1) _ (by simp) (by rw [hsk]; rfl), ?_⟩
  simp (maxSteps := 2000000) (disch := omega) only [hl, go_sem, seval, reduceCtorEq]
  refine Nxt.mk (i + 1) (by omega) ?_ (by omega)
  simp only [List.map_cons, List.map_nil, Ty.c] at et
  rw [show ∀ (a b : ABlk), H ++ [a, b] = (H ++ [a]) ++ [b] from fun a b => by simp]
  refine Wk.drop (by rw [hS, et]; exact WkL.tail 5 _ rfl (by simp only [List.take_succ_cons, List.take_zero]; repeat' first | exact WkL.nil | refine WkL.cons (Wk1.rfl _) ?_ | refine WkL.cons Wk1.esl ?_ | refine WkL.cons (Wk1.gsl _ _ _) ?_ | refine WkL.cons (Wk1.any _) ?_)) (by simp) (hcl.row _ _ _) ?_
  rw [hS, refsL_app, refsL_any]
  simp [refs, refs.refsL]
 ·have : i = t.length := by omega
  subst this
  rw [List.take_length]
  exact Ret.keep ⟨rfl, rfl⟩
theorem alike_c {x y : Ty} (hx : x.Ok) (H : List ABlk) : ACalls Try.prog 86 [x.av, y.av] H fun v H' => v = bv (decide (x = y)) ∧ H' = H := by
 obtain ⟨B, hB⟩ : ∃ B, B = decide (x = y) := ⟨_, rfl⟩
 rw [← hB]
 refine ACalls.into Try.func86 cc86 rr86 fun hcl => ?_
 obtain ⟨x1, x2, x3, x4⟩ := hx
 have no : ∀ {p : Prop}, (x = y → p) → ¬ p → false = B := fun h hp => by rw [hB]; exact (decide_eq_false fun e => hp (h e)).symm
 have fin : ∀ {v : Bool}, v = B → ∀ l, Ret r86 H.length (fun v H' => v = bv B ∧ H' = H) (some (bv v)) (H ++ l) := fun {v} e l => Ret.drop (bv B) H (Nat.le_refl _) hcl (by rw [e]; exact .rfl _) (by simp [refs]) ⟨rfl, rfl⟩
 simp (maxSteps := 2000000) (disch := omega) only [Try.ntmps86, c86, r86, Ty.cs, List.length_map, go_sem, seval, reduceCtorEq]
 refine Br.yes (fun h1 => ?_) (fun h1 => ?_) <;> simp (maxSteps := 2000000) (disch := omega) only [h1, go_sem, seval, reduceCtorEq]
 rotate_left
 ·exact fin (no (fun e => congrArg Ty.form e) (of_decide_eq_false h1)) _
 refine Br.yes (fun h2 => ?_) (fun h2 => ?_) <;> simp (maxSteps := 2000000) (disch := omega) only [h2, go_sem, seval, reduceCtorEq]
 rotate_left
 ·exact fin (no (fun e => congrArg Ty.mod e) (of_decide_eq_false h2)) _
 refine Br.yes (fun h3 => ?_) (fun h3 => ?_) <;> simp (maxSteps := 2000000) (disch := omega) only [h3, go_sem, seval, reduceCtorEq]
 rotate_left
 ·exact fin (no (fun e => congrArg Ty.name e) (of_decide_eq_false h3)) _
 refine Br.yes (fun h4 => ?_) (fun h4 => ?_) <;> simp (maxSteps := 2000000) (disch := omega) only [h4, go_sem, seval, reduceCtorEq]
 rotate_left
 ·exact fin (no (fun e => congrArg Ty.len e) (of_decide_eq_false h4)) _
 refine Br.yes (fun h5 => ?_) (fun h5 => ?_) <;> simp (maxSteps := 2000000) (disch := omega) only [h5, go_sem, seval, reduceCtorEq]
 rotate_left
 ·exact fin (no (fun e => congrArg Ty.elem e) (of_decide_eq_false h5)) _
 refine Br.yes (fun h6 => ?_) (fun h6 => ?_) <;> simp (maxSteps := 2000000) (disch := omega) only [h6, go_sem, seval, reduceCtorEq]
 rotate_left
 ·exact fin (no (fun e => congrArg Ty.base e) (of_decide_eq_false h6)) _
 refine Br.yes (fun h7 => ?_) (fun h7 => ?_) <;> simp (maxSteps := 2000000) (disch := omega) only [h7, go_sem, seval, reduceCtorEq]
 rotate_left
 ·exact fin (no (fun e => congrArg Ty.result e) (of_decide_eq_false h7)) _
 refine Br.yes (fun h8 => ?_) (fun h8 => ?_) <;> simp (maxSteps := 2000000) (disch := omega) only [h8, go_sem, seval, reduceCtorEq]
 rotate_left
 ·exact fin (no (fun e => congrArg Ty.desc e) (of_decide_eq_false h8)) _
 refine Br.yes (fun h9 => ?_) (fun h9 => ?_) <;> simp (maxSteps := 2000000) (disch := omega) only [h9, go_sem, seval, reduceCtorEq]
 rotate_left
 ·exact fin (no (fun e => congrArg (fun z : Ty => (z.fields.length : Int)) e) (of_decide_eq_false h9)) _
 refine Br.yes (fun h10 => ?_) (fun h10 => ?_) <;> simp (maxSteps := 2000000) (disch := omega) only [h10, go_sem, seval, reduceCtorEq]
 rotate_left
 ·exact fin (no (fun e => congrArg (fun z : Ty => (z.params.length : Int)) e) (of_decide_eq_false h10)) _
 refine W.loopG (γ := Nat) (fun i => x.fields.length - i) (fun i => [.any, .any, .ptr H.length 0, .ptr (H.length + 1) 0, .any, iv i] ++ List.replicate 158 .any) (fun _ => H ++ [.cells x.cs, .cells y.cs]) (fun i => i ≤ x.fields.length ∧ ∀ j, j < i → x.fields.getD j default = y.fields.getD j default) 0 (Wk.slots (by (try simp only [List.replicate, List.cons_append, List.nil_append]); repeat' first | exact WkL.nil | refine WkL.cons (Wk1.rfl _) ?_ | refine WkL.cons Wk1.esl ?_ | refine WkL.cons (Wk1.gsl _ _ _) ?_ | refine WkL.cons (Wk1.any _) ?_)) ⟨by omega, fun j hj => by omega⟩ (fun i hi => ?_)
 obtain ⟨q1, q2⟩ := hi
 have h9' := of_decide_eq_true h9
 have h10' := of_decide_eq_true h10
 simp (maxSteps := 2000000) (disch := omega) only [c86l1, List.length_map, Ty.cs, go_sem, seval, reduceCtorEq]
 refine Br.dec (fun hc => ?_) (fun hc => ?_) <;> simp (maxSteps := 2000000) (disch := omega) only [go_sem, seval, reduceCtorEq]
 ·have hia := iaA_fd (t := x.fields) (a := i) (by omega) (by omega)
  have hib := iaA_fd (t := y.fields) (a := i) (by omega) (by omega)
  have e1 : fdAt x.fields (i : Int) = x.fields.getD i default := rfl
  have e2 : fdAt y.fields (i : Int) = y.fields.getD i default := rfl
  have nof : ∀ {p : Prop}, (x.fields.getD i default = y.fields.getD i default → p) → ¬ p → false = B := fun hf hp => no (fun e => by rw [e]) (fun e => hp (hf e))
  rw [e1] at hia
  rw [e2] at hib
  refine W.pchain follows (by decide +kernel) ?_
  by_cases k1 : (x.fields.getD i default).name = (y.fields.getD i default).name
  rotate_left
  ·simp (maxSteps := 2000000) (disch := omega) only [hia, hib, Fd.c, k1, go_sem, seval, reduceCtorEq]
   exact fin (nof (fun e => congrArg Fd.name e) k1) _
  by_cases k2 : (x.fields.getD i default).exp = (y.fields.getD i default).exp
  rotate_left
  ·have k2' : ((x.fields.getD i default).exp == (y.fields.getD i default).exp) = false := by simpa using k2
   simp (maxSteps := 2000000) (disch := omega) only [hia, hib, Fd.c, k1, k2', go_sem, seval, reduceCtorEq]
   exact fin (nof (fun e => congrArg Fd.exp e) k2) _
  by_cases k3 : (x.fields.getD i default).typ = (y.fields.getD i default).typ
  rotate_left
  ·simp (maxSteps := 2000000) (disch := omega) only [hia, hib, Fd.c, k1, k2, k3, go_sem, seval, reduceCtorEq]
   exact fin (nof (fun e => congrArg Fd.typ e) k3) _
  simp (maxSteps := 2000000) (disch := omega) only [hia, hib, Fd.c, k1, k2, k3, go_sem, seval, reduceCtorEq]
  refine Nxt.mk (i + 1) (by omega) (Wk.slots (by (try simp only [List.replicate, List.cons_append, List.nil_append]); repeat' first | exact WkL.nil | refine WkL.cons (Wk1.rfl _) ?_ | refine WkL.cons Wk1.esl ?_ | refine WkL.cons (Wk1.gsl _ _ _) ?_ | refine WkL.cons (Wk1.any _) ?_)) ⟨by omega, fun j hj => ?_⟩
  rcases Nat.lt_or_ge j i with h' | h'
  ·exact q2 j h'
  ·rw [show j = i by omega]
   generalize x.fields.getD i default = p at *
   generalize y.fields.getD i default = q at *
   obtain ⟨a, b, c⟩ := p
   obtain ⟨a', b', c'⟩ := q
   simp only at k1 k2 k3
   rw [k1, k2, k3]
 have ef : x.fields = y.fields := ext_at (d := default) (by omega) fun j hj => q2 j (by omega)
 refine W.loopG (γ := Nat) (fun i => x.params.length - i) (fun i => [.any, .any, .ptr H.length 0, .ptr (H.length + 1) 0, .any, .any, iv i] ++ List.replicate 157 .any) (fun _ => H ++ [.cells x.cs, .cells y.cs]) (fun i => i ≤ x.params.length ∧ ∀ j, j < i → x.params.getD j default = y.params.getD j default) 0 (Wk.slots (by (try simp only [List.replicate, List.cons_append, List.nil_append]); repeat' first | exact WkL.nil | refine WkL.cons (Wk1.rfl _) ?_ | refine WkL.cons Wk1.esl ?_ | refine WkL.cons (Wk1.gsl _ _ _) ?_ | refine WkL.cons (Wk1.any _) ?_)) ⟨by omega, fun j hj => by omega⟩ (fun i hi => ?_)
 obtain ⟨r1, r2⟩ := hi
 simp (maxSteps := 2000000) (disch := omega) only [c86l0, List.length_map, Ty.cs, go_sem, seval, reduceCtorEq]
 refine Br.dec (fun hc2 => ?_) (fun hc2 => ?_) <;> simp (maxSteps := 2000000) (disch := omega) only [go_sem, seval, reduceCtorEq]
 ·have hia := iaA_pm (t := x.params) (a := i) (by omega) (by omega)
  have hib := iaA_pm (t := y.params) (a := i) (by omega) (by omega)
  have e1 : pmAt x.params (i : Int) = x.params.getD i default := rfl
  have e2 : pmAt y.params (i : Int) = y.params.getD i default := rfl
  have nof : ∀ {p : Prop}, (x.params.getD i default = y.params.getD i default → p) → ¬ p → false = B := fun hf hp => no (fun e => by rw [e]) (fun e => hp (hf e))
  rw [e1] at hia
  rw [e2] at hib
  refine W.pchain follows (by decide +kernel) ?_
  by_cases k2 : (x.params.getD i default).var = (y.params.getD i default).var
  rotate_left
  ·have k2' : ((x.params.getD i default).var == (y.params.getD i default).var) = false := by simpa using k2
   simp (maxSteps := 2000000) (disch := omega) only [hia, hib, Pm.c, k2', go_sem, seval, reduceCtorEq]
   exact fin (nof (fun e => congrArg Pm.var e) k2) _
  by_cases k3 : (x.params.getD i default).typ = (y.params.getD i default).typ
  rotate_left
  ·simp (maxSteps := 2000000) (disch := omega) only [hia, hib, Pm.c, k2, k3, go_sem, seval, reduceCtorEq]
   exact fin (nof (fun e => congrArg Pm.typ e) k3) _
  simp (maxSteps := 2000000) (disch := omega) only [hia, hib, Pm.c, k2, k3, go_sem, seval, reduceCtorEq]
  refine Nxt.mk (i + 1) (by omega) (Wk.slots (by (try simp only [List.replicate, List.cons_append, List.nil_append]); repeat' first | exact WkL.nil | refine WkL.cons (Wk1.rfl _) ?_ | refine WkL.cons Wk1.esl ?_ | refine WkL.cons (Wk1.gsl _ _ _) ?_ | refine WkL.cons (Wk1.any _) ?_)) ⟨by omega, fun j hj => ?_⟩
  rcases Nat.lt_or_ge j i with h' | h'
  ·exact r2 j h'
  ·rw [show j = i by omega]
   generalize x.params.getD i default = p at *
   generalize y.params.getD i default = q at *
   obtain ⟨b, c⟩ := p
   obtain ⟨b', c'⟩ := q
   simp only at k2 k3
   rw [k2, k3]
 have ep : x.params = y.params := ext_at (d := default) (by omega) fun j hj => r2 j (by omega)
 refine fin ?_ _
 rw [hB]
 refine (decide_eq_true ?_).symm
 have g1 := of_decide_eq_true h1
 have g2 := of_decide_eq_true h2
 have g3 := of_decide_eq_true h3
 have g4 := of_decide_eq_true h4
 have g5 := of_decide_eq_true h5
 have g6 := of_decide_eq_true h6
 have g7 := of_decide_eq_true h7
 have g8 := of_decide_eq_true h8
 clear no fin hB q2 r2
 obtain ⟨a1, a2, a3, a4, a5, a6, a7, a8, a9, a10⟩ := x
 obtain ⟨b1, b2, b3, b4, b5, b6, b7, b8, b9, b10⟩ := y
 simp only at ef ep g1 g2 g3 g4 g5 g6 g7 g8
 rw [ef, ep, g1, g2, g3, g4, g5, g6, g7, g8]
theorem tables_c {a b : List Ty} (ha : TOk a) (hb : TOk b) (H : List ABlk) : ACalls Try.prog 39 [tv a, tv b] H fun v H' => v = bv (decide (a = b)) ∧ H' = H := by
 obtain ⟨B, hB⟩ : ∃ B, B = decide (a = b) := ⟨_, rfl⟩
 rw [← hB]
 refine ACalls.into Try.func39 cc39 rr39 fun hcl => ?_
 have ha1 := ha.1
 have hb1 := hb.1
 have no : ∀ {p : Prop}, (a = b → p) → ¬ p → false = B := fun h hp => by rw [hB]; exact (decide_eq_false fun e => hp (h e)).symm
 by_cases hl : a.length = b.length
 rotate_left
 ·simp (maxSteps := 2000000) (disch := omega) only [Try.ntmps39, c39, r39, List.length_map, go_sem, seval, reduceCtorEq]
  exact Ret.keep ⟨by rw [← no (fun e => congrArg List.length e) hl], rfl⟩
 simp (maxSteps := 2000000) (disch := omega) only [Try.ntmps39, c39, r39, List.length_map, hl, go_sem, seval, reduceCtorEq]
 refine W.loopG (γ := Nat) (fun i => a.length - i) (fun i => [tv a, tv b, .any, .any, .any, iv i] ++ List.replicate 21 .any) (fun _ => H) (fun i => i ≤ a.length ∧ ∀ j, j < i → a.getD j default = b.getD j default) 0 (Wk.slots (by (try simp only [List.replicate, List.cons_append, List.nil_append]); repeat' first | exact WkL.nil | refine WkL.cons (Wk1.rfl _) ?_ | refine WkL.cons Wk1.esl ?_ | refine WkL.cons (Wk1.gsl _ _ _) ?_ | refine WkL.cons (Wk1.any _) ?_)) ⟨by omega, fun j hj => by omega⟩ (fun i hi => ?_)
 obtain ⟨q1, q2⟩ := hi
 simp (maxSteps := 2000000) (disch := omega) only [c39l0, List.length_map, go_sem, seval, reduceCtorEq]
 refine Br.dec (fun hc => ?_) (fun hc => ?_) <;> simp (maxSteps := 2000000) (disch := omega) only [go_sem, seval, reduceCtorEq]
 ·have hia := iaA_ty (t := a) (a := i) (by omega) (by omega)
  have hib := iaA_ty (t := b) (a := i) (by omega) (by omega)
  have al := alike_c (x := tyAt a i) (y := tyAt b i) (ha.at_ (by omega) (by omega)) H
  refine W.pchain follows (by decide +kernel) ?_
  rw [Ty.av, Ty.av, Ty.cs, Ty.cs] at al
  simp (maxSteps := 2000000) (disch := omega) only [hia, hib, Ty.c, go_sem, seval, reduceCtorEq]
  refine PCont.mk al ?_
  cases hd : decide (tyAt a i = tyAt b i) with
  | true =>
   simp (maxSteps := 2000000) (disch := omega) only [go_sem, seval, reduceCtorEq]
   refine Nxt.mk (i + 1) (by omega) (Wk.slots (by (try simp only [List.replicate, List.cons_append, List.nil_append]); repeat' first | exact WkL.nil | refine WkL.cons (Wk1.rfl _) ?_ | refine WkL.cons Wk1.esl ?_ | refine WkL.cons (Wk1.gsl _ _ _) ?_ | refine WkL.cons (Wk1.any _) ?_)) ⟨by omega, fun j hj => ?_⟩
   rcases Nat.lt_or_ge j i with h' | h'
   ·exact q2 j h'
   ·rw [show j = i by omega]; exact of_decide_eq_true hd
  | false =>
   simp (maxSteps := 2000000) (disch := omega) only [go_sem, seval, reduceCtorEq]
   exact Ret.keep ⟨by rw [← no (fun e => by rw [e]) (of_decide_eq_false hd)], rfl⟩
 ·refine Ret.keep ⟨?_, rfl⟩
  rw [hB, decide_eq_true (ext_at (d := default) hl fun j hj => q2 j (by omega))]
end Go.Proofs.Ythifjndenhjobaa
