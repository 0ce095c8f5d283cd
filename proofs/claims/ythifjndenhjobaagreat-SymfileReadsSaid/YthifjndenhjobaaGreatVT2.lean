/- Names: letters and digits. -/
import Derived.Test.YthifjndenhjobaaGreatVSet
import Derived.Test.YthifjndenhjobaaGreatVDraw3
import Derived.Test.YthifjndenhjobaaGreatVCode
set_option linter.unusedSectionVars false
set_option linter.unusedSimpArgs false
set_option linter.unusedVariables false
set_option maxHeartbeats 4000000
set_option maxRecDepth 20000
namespace Go.Proofs.YthifjndenhjobaaGreat
open Go.RowKit
def c83 : AC :=
 sr [im 4 kF]
 (sr [im 5 t0, im 6 t1, ic 7 94 [t5, t6], ib 8 .geq t7 (kc 0), im 4 t8]
 (.ret))
def r83 : List RC := [.t 4]
def c78l0 : AC :=
 .seq (sr [im 18 t3, im 19 t0, kn 20 (.len true t19), ib 21 .lss t18 t20]
 (.cond t21 (.skip) (.exit 0)))
 (.seq (.block 1 (sr [im 24 t0, im 25 t3, kn 26 (.ix t24 t25), ic 27 87 [t26], kn 28 (.un .not t27), im 29 t28, ky 30 29 (.mv t0), ky 31 29 (.mv t3), ky 32 29 (.ix t30 t31), ky 33 29 (.call 88 [t32]), ky 34 29 (.un .not t33), kn 35 (.pick t29 t34 kF)]
 (.cond t35 (sr [im 2 kF]
 (.ret)) (.skip))))
 (.reg [im 22 t3, ib 23 .add t22 (kc 1), im 3 t23]))
def c78 : AC :=
 sr [im 2 kF]
 (.seq (sr [im 4 t0, kn 5 (.len true t4), ib 6 .lss t5 (kc 1), im 7 t6, ko 8 7 (.mv t0), ko 9 7 (.len true t8), ko 10 7 (.bin .gtr t9 (kc 24)), kn 11 (.pick t7 kT t10), im 12 t11, ko 13 12 (.mv t0), ko 14 12 (.ix t13 (kc 0)), ko 15 12 (.call 87 [t14]), ko 16 12 (.un .not t15), kn 17 (.pick t12 kT t16)]
 (.cond t17 (sr [im 2 kF]
 (.ret)) (.skip)))
 (.seq (sr [im 3 (kc 1)]
 (.block 0 (.loop c78l0)))
 (sr [im 2 kT]
 (.ret))))
def r78 : List RC := [.t 2]
def c94l0 : AC :=
 sr [ib 9 .lss t8 t7]
 (.seq (.cond t9 (.skip) (.exit 0))
 (.seq (.block 1 (sr [im 10 t8, im 5 t10]
 (sr [im 11 t1, im 12 t0, im 13 t5, kn 14 (.ia t12 t13 1), il 15 t14, kn 16 (.callv t11 [t15])]
 (.cond t16 (sr [im 17 t5, im 4 t17]
 (.ret)) (.skip)))))
 (.reg [ib 18 .add t8 (kc 1), im 8 t18])))
def c94 : AC :=
 sr [im 4 (kc 0)]
 (.seq (sr [im 6 t0, kn 7 (.len false t6), im 8 (kc 0)]
 (.block 0 (.loop c94l0)))
 (sr [kn 4 (.mv (kc (-1)))]
 (.ret)))
def r94 : List RC := [.t 4]
def c87 : AC :=
 sr [im 2 kF]
 (sr [im 3 t0, kn 4 (.bin .geq t3 (.c (.d (.v (.int .u8 97))))), im 5 t4, ky 6 5 (.mv t0), ky 7 5 (.bin .leq t6 (.c (.d (.v (.int .u8 122))))), kn 8 (.pick t5 t7 kF), im 9 t8, ko 10 9 (.mv t0), ko 11 9 (.bin .geq t10 (.c (.d (.v (.int .u8 65))))), ko 12 9 (.mv t11), ky 13 12 (.mv t0), ky 14 12 (.bin .leq t13 (.c (.d (.v (.int .u8 90))))), ko 15 9 (.pick t12 t14 kF), kn 16 (.pick t9 kT t15), im 2 t16]
 (.ret))
def r87 : List RC := [.t 2]
def c88 : AC :=
 sr [im 2 kF]
 (sr [im 3 t0, kn 4 (.bin .geq t3 (.c (.d (.v (.int .u8 48))))), im 5 t4, ky 6 5 (.mv t0), ky 7 5 (.bin .leq t6 (.c (.d (.v (.int .u8 57))))), kn 8 (.pick t5 t7 kF), im 2 t8]
 (.ret))
def r88 : List RC := [.t 2]
def c89 : AC :=
 sr [im 2 kF]
 (sr [im 3 t0, ic 4 78 [t3], im 2 t4]
 (.ret))
def r89 : List RC := [.t 2]
def c104 : AC :=
 sr [im 2 kF]
 (.seq (sr [im 3 t0, kn 4 (.bin .eql t3 (.c ks)), im 5 t4, ko 6 5 (.mv t0), ko 7 5 (.len true t6), ko 8 5 (.bin .gtr t7 (kc 24)), kn 9 (.pick t5 kT t8), im 10 t9, ko 11 10 (.mv t0), ko 12 10 (.ix t11 (kc 0)), ko 13 10 (.bin .leq t12 (.c (.d (.v (.int .u8 57))))), kn 14 (.pick t10 kT t13)]
 (.cond t14 (sr [im 2 kF]
 (.ret)) (.skip)))
 (sr [im 15 t0, kn 16 (.s2b .im 0 t15), kn 17 (.call 83 [t16, (.c (.fn 107 []))]), kn 18 (.un .not t17), im 2 t18]
 (.ret)))
def r104 : List RC := [.t 2]
def c107 : AC :=
 sr [im 2 kF]
 (sr [im 3 t0, kn 4 (.bin .lss t3 (.c (.d (.v (.int .u8 97))))), im 5 t4, ko 6 5 (.mv t0), ko 7 5 (.bin .gtr t6 (.c (.d (.v (.int .u8 122))))), kn 8 (.pick t5 kT t7), im 9 t8, ky 10 9 (.mv t0), ky 11 9 (.bin .lss t10 (.c (.d (.v (.int .u8 65))))), ky 12 9 (.mv t11), ko 13 12 (.mv t0), ko 14 12 (.bin .gtr t13 (.c (.d (.v (.int .u8 90))))), ky 15 9 (.pick t12 kT t14), kn 16 (.pick t9 t15 kF), im 17 t16, ky 18 17 (.mv t0), ky 19 17 (.bin .lss t18 (.c (.d (.v (.int .u8 48))))), ky 20 17 (.mv t19), ko 21 20 (.mv t0), ko 22 20 (.bin .gtr t21 (.c (.d (.v (.int .u8 57))))), ky 23 17 (.pick t20 kT t22), kn 24 (.pick t17 t23 kF), im 2 t24]
 (.ret))
def r107 : List RC := [.t 2]
theorem cc83 : cK Tryz.f83 (hh 83) c83 := by unfold cK; kernel_rfl
theorem rr83 : resC Tryz.prog Tryz.f83 = some r83 := by kernel_rfl
theorem cc78 : cK Tryz.f78 (hh 78) c78 := by unfold cK; kernel_rfl
theorem rr78 : resC Tryz.prog Tryz.f78 = some r78 := by kernel_rfl
theorem cc94 : cK Tryz.f94 (hh 94) c94 := by unfold cK; kernel_rfl
theorem rr94 : resC Tryz.prog Tryz.f94 = some r94 := by kernel_rfl
theorem cc87 : cK Tryz.f87 (hh 87) c87 := by unfold cK; kernel_rfl
theorem rr87 : resC Tryz.prog Tryz.f87 = some r87 := by kernel_rfl
theorem cc88 : cK Tryz.f88 (hh 88) c88 := by unfold cK; kernel_rfl
theorem rr88 : resC Tryz.prog Tryz.f88 = some r88 := by kernel_rfl
theorem cc89 : cK Tryz.f89 (hh 89) c89 := by unfold cK; kernel_rfl
theorem rr89 : resC Tryz.prog Tryz.f89 = some r89 := by kernel_rfl
theorem cc104 : cK Tryz.f104 (hh 104) c104 := by unfold cK; kernel_rfl
theorem rr104 : resC Tryz.prog Tryz.f104 = some r104 := by kernel_rfl
theorem cc107 : cK Tryz.f107 (hh 107) c107 := by unfold cK; kernel_rfl
theorem rr107 : resC Tryz.prog Tryz.f107 = some r107 := by kernel_rfl
theorem follows : Tryz.prog.follows .mixedOrders = true := by kernel_rfl
abbrev iv (n : Int) : AV := .d (.v (.int .i64 n))
abbrev cv (n : Int) : AV := .d (.v (.int .u8 n))
abbrev bv (b : Bool) : AV := .d (.v (.bool b))
abbrev sv (s : ByteArray) : AV := .d (.v (.string s))
def letF (n : Int) : Bool := decide (97 <= n /\ n <= 122 \/ 65 <= n /\ n <= 90)
def digF (n : Int) : Bool := decide (48 <= n /\ n <= 57)
theorem bvx {a b : Bool} (h : (a = true) ↔ (b = true)) : AV.d (.v (.bool a)) = bv b := by rw [Bool.eq_iff_iff.2 h]
theorem digit_c (n : Int) (H : List ABlk) : ACalls Tryz.prog 88 [cv n] H fun v H' => v = bv (digF n) /\ H' = H := by
 refine ACalls.into Tryz.func88 cc88 rr88 fun hcl => ?_
 simp (disch := omega) only [Tryz.ntmps88, c88, r88, go_sem, seval, reduceCtorEq]; refine Br.dec (fun h => ?_) (fun h => ?_) <;> simp (disch := omega) only [go_sem, seval, reduceCtorEq]
 ·exact Ret.keep ⟨bvx (by simp [digF]; omega), rfl⟩
 ·exact Ret.keep ⟨bvx (by simp [digF]; omega), rfl⟩
theorem letter_c (n : Int) (H : List ABlk) : ACalls Tryz.prog 87 [cv n] H fun v H' => v = bv (letF n) /\ H' = H := by
 refine ACalls.into Tryz.func87 cc87 rr87 fun hcl => ?_
 by_cases h1 : 97 <= n <;> by_cases h2 : n <= 122 <;> by_cases h3 : 65 <= n <;> by_cases h4 : n <= 90 <;> first | (exfalso; omega) | (simp (disch := omega) only [Tryz.ntmps87, c87, r87, go_sem, seval, reduceCtorEq]; exact Ret.keep ⟨bvx (by simp [letF]; omega), rfl⟩)
abbrev chr (s : ByteArray) (i : Nat) : Int := ((s.data.toList.getD i 0).toNat : Nat)
def okB (n : Int) : Prop := letF n = true \/ digF n = true
def Nm (s : ByteArray) : Prop := 1 <= s.size /\ s.size <= 24 /\ letF (chr s 0) = true /\ ∀ i, i < s.size -> okB (chr s i)
noncomputable instance (s : ByteArray) : Decidable (Nm s) := Classical.propDecidable _
noncomputable def nmF (s : ByteArray) : Bool := decide (Nm s)
theorem nm_t {s : ByteArray} (h : Nm s) : nmF s = true := decide_eq_true h
theorem nm_f {s : ByteArray} (h : ¬ Nm s) : nmF s = false := decide_eq_false h
theorem word_c (s : ByteArray) (H : List ABlk) : ACalls Tryz.prog 78 [sv s] H fun v H' => v = bv (nmF s) /\ H' = H := by
 refine ACalls.into Tryz.func78 cc78 rr78 fun hcl => ?_
 by_cases h1 : s.size < 1
 ·simp (disch := omega) only [Tryz.ntmps78, c78, r78, go_sem, seval, reduceCtorEq]
  exact Ret.keep ⟨by rw [nm_f]; intro h; have := h.1; omega, rfl⟩
 by_cases h2 : 24 < s.size
 ·simp (disch := omega) only [Tryz.ntmps78, c78, r78, go_sem, seval, reduceCtorEq]
  exact Ret.keep ⟨by rw [nm_f]; intro h; have := h.2.1; omega, rfl⟩
 simp (disch := omega) only [Tryz.ntmps78, c78, r78, go_sem, seval, reduceCtorEq]; refine Cont.mk (letter_c _ _) ?_
 cases h3 : letF (chr s 0) with
 | false =>
  simp only [chr] at h3; simp (disch := omega) only [h3, go_sem, seval, reduceCtorEq]; exact Ret.keep ⟨by rw [nm_f]; intro h; have := h.2.2.1; simp only [chr] at this; rw [h3] at this; exact absurd this (by decide), rfl⟩
 | true =>
  have h3' := h3; simp only [chr] at h3'; simp (disch := omega) only [h3', go_sem, seval, reduceCtorEq]; refine W.loopG (γ := Nat) (fun i => s.size - i) (fun i => [sv s, .any, .any, iv i] ++ List.replicate 32 .any) (fun _ => H) (fun i => 1 <= i /\ i <= s.size /\ ∀ j, j < i -> okB (chr s j)) 1 (Wk.slots WkL.wk) ⟨by omega, by omega, fun j hj => Or.inl (by rw [show j = 0 by omega]; exact h3)⟩ (fun i hi => ?_); obtain ⟨q1, q2, q3⟩ := hi; simp (disch := omega) only [c78l0, go_sem, seval, reduceCtorEq]; refine Br.dec (fun hc => ?_) (fun hc => ?_) <;> simp (disch := omega) only [go_sem, seval, reduceCtorEq]
  ·refine Cont.mk (letter_c _ _) ?_
   have next : okB (chr s i) -> ∀ j, j < i + 1 -> okB (chr s j) := fun ho j hj => by
    rcases Nat.lt_or_ge j i with h | h
    ·exact q3 j h
    ·rw [show j = i by omega]; exact ho
   cases h4 : letF ((s.data.toList.getD i 0).toNat : Nat) with
   | true =>
    simp (disch := omega) only [go_sem, seval, reduceCtorEq]; exact Nxt.mk (i + 1) (by omega) (Wk.slots WkL.wk) ⟨by omega, by omega, next (.inl h4)⟩
   | false =>
    simp (disch := omega) only [go_sem, seval, reduceCtorEq]; refine Cont.mk (digit_c _ _) ?_
    cases h5 : digF ((s.data.toList.getD i 0).toNat : Nat) with
    | true =>
     simp (disch := omega) only [go_sem, seval, reduceCtorEq]; exact Nxt.mk (i + 1) (by omega) (Wk.slots WkL.wk) ⟨by omega, by omega, next (.inr h5)⟩
    | false =>
     simp (disch := omega) only [go_sem, seval, reduceCtorEq]; refine Ret.keep ⟨by rw [nm_f]; intro h; rcases h.2.2.2 i (by omega) with h | h <;> simp only [chr] at h <;> simp_all, rfl⟩
  ·exact Ret.keep ⟨by rw [nm_t]; exact ⟨by omega, by omega, h3, fun j hj => q3 j (by omega)⟩, rfl⟩
theorem word13_c (s : ByteArray) (H : List ABlk) : ACalls Tryz.prog 89 [sv s] H fun v H' => v = bv (nmF s) /\ H' = H := by
 refine ACalls.into Tryz.func89 cc89 rr89 fun hcl => ?_
 simp (disch := omega) only [Tryz.ntmps89, c89, r89, go_sem, seval, reduceCtorEq]; refine Cont.mk (word_c s H) ?_; simp (disch := omega) only [go_sem, seval, reduceCtorEq]; exact Ret.keep ⟨rfl, rfl⟩
theorem size_nil : (⟨#[]⟩ : ByteArray).size = 0 := rfl
theorem str_nil {s : ByteArray} (h : s.size = 0) : s = ⟨#[]⟩ := by
 obtain ⟨⟨l⟩⟩ := s; have : l = [] := List.eq_nil_of_length_eq_zero h; rw [this]
theorem odd_c (n : Int) (H : List ABlk) : ACalls Tryz.prog 107 [cv n] H fun v H' => v = bv (!(letF n || digF n)) /\ H' = H := by
 refine ACalls.into Tryz.func107 cc107 rr107 fun hcl => ?_
 have hsp : n < 48 \/ (48 <= n /\ n <= 57) \/ (57 < n /\ n < 65) \/ (65 <= n /\ n <= 90) \/ (90 < n /\ n < 97) \/ (97 <= n /\ n <= 122) \/ 122 < n := by omega
 rcases hsp with h | ⟨h, h'⟩ | ⟨h, h'⟩ | ⟨h, h'⟩ | ⟨h, h'⟩ | ⟨h, h'⟩ | h <;> (simp (disch := omega) only [Tryz.ntmps107, c107, r107, go_sem, seval, reduceCtorEq]; exact Ret.keep ⟨bvx (by simp [letF, digF]; omega), rfl⟩)
abbrev bd (c : UInt8) : List Dat := [.v (.int .u8 c.toNat)]
theorem iaA_bd {l : List UInt8} {i : Nat} (h : i < l.length) : iaA (.d (.sl (l.map bd))) (i : Int) 1 = some (.ip (bd (l.getD i 0))) := by
 simp only [iaA]; have e : (l.map bd).getD i [] = bd (l.getD i 0) := by
  rw [gD, gD, List.getElem?_map, gE h]; rfl
 rw [if_pos ⟨by omega, by simpa using h, by rw [Int.toNat_natCast, e]; rfl⟩, Int.toNat_natCast, e]
theorem findB_c (f : FuncId) (p : Int -> Bool) (hf : callOk Tryz.prog f = true) (hp : ∀ n H, ACalls Tryz.prog f [cv n] H fun v H' => v = bv (p n) /\ H' = H) (l : List UInt8) (hl : l.length <= 9000000) (H : List ABlk) :
 ACalls Tryz.prog 94 [.d (.sl (l.map bd)), .fn f []] H fun v H' => (∃ n : Int, v = iv n /\ (0 <= n ↔ ∃ i, i < l.length /\ p ((l.getD i 0).toNat : Nat) = true)) /\ H' = H := by
 refine ACalls.into Tryz.func94 cc94 rr94 fun hcl => ?_
 simp (disch := omega) only [Tryz.ntmps94, c94, r94, lnm, go_sem, seval, reduceCtorEq]; refine W.loopG (γ := Nat) (fun i => l.length - i) (fun i => [.d (.sl (l.map bd)), .fn f [], .any, .any, .any, .any, .any, iv l.length, iv i] ++ List.replicate 10 .any) (fun _ => H) (fun i => i <= l.length /\ ∀ j, j < i -> p ((l.getD j 0).toNat : Nat) = false) 0 (Wk.slots WkL.wk) ⟨by omega, fun j hj => by omega⟩ (fun i hi => ?_); obtain ⟨q1, q2⟩ := hi; simp (disch := omega) only [c94l0, go_sem, seval, reduceCtorEq]; refine Br.dec (fun hc => ?_) (fun hc => ?_) <;> simp (disch := omega) only [iaA_bd, go_sem, seval, reduceCtorEq]
 ·refine ⟨hf, Cont.mk (hp _ _) ?_⟩
  cases h : p ((l.getD i 0).toNat : Nat) with
  | true =>
   simp (disch := omega) only [go_sem, seval, reduceCtorEq]; exact Ret.keep ⟨⟨i, rfl, fun _ => ⟨i, by omega, h⟩, fun _ => by omega⟩, rfl⟩
  | false =>
   simp (disch := omega) only [go_sem, seval, reduceCtorEq]; refine Nxt.mk (i + 1) (by omega) (Wk.slots WkL.wk) ⟨by omega, fun j hj => ?_⟩; rcases Nat.lt_or_ge j i with h' | h'
   ·exact q2 j h'
   ·rw [show j = i by omega]; exact h
 ·refine Ret.keep ⟨⟨-1, rfl, fun h => by omega, fun ⟨j, h1, h2⟩ => ?_⟩, rfl⟩
  rw [q2 j (by omega)] at h2; cases h2
theorem hasB_c (f : FuncId) (p : Int -> Bool) (hf : callOk Tryz.prog f = true) (hp : ∀ n H, ACalls Tryz.prog f [cv n] H fun v H' => v = bv (p n) /\ H' = H) (l : List UInt8) (hl : l.length <= 9000000) (H : List ABlk) :
 ACalls Tryz.prog 83 [.d (.sl (l.map bd)), .fn f []] H fun v H' => (∃ b : Bool, v = bv b /\ (b = true ↔ ∃ i, i < l.length /\ p ((l.getD i 0).toNat : Nat) = true)) /\ H' = H := by
 refine ACalls.into Tryz.func83 cc83 rr83 fun hcl => ?_
 simp (disch := omega) only [Tryz.ntmps83, c83, r83, go_sem, seval, reduceCtorEq]; refine Cont.rel (findB_c f p hf hp l hl H) ?_; rintro v H' ⟨⟨n, rfl, hn⟩, rfl⟩; simp (disch := omega) only [go_sem, seval, reduceCtorEq]; exact Ret.keep ⟨⟨_, rfl, by rw [decide_eq_true_eq]; exact hn⟩, rfl⟩
theorem name_c (s : ByteArray) (H : List ABlk) : ACalls Tryz.prog 104 [sv s] H fun v H' => v = bv (nmF s) /\ H' = H := by
 refine ACalls.into Tryz.func104 cc104 rr104 fun hcl => ?_
 by_cases h1 : s.size < 1
 ·have hs := str_nil (s := s) (by omega)
  simp (disch := omega) only [Tryz.ntmps104, c104, r104, hs, go_sem, seval, reduceCtorEq]; exact Ret.keep ⟨by rw [nm_f]; intro h; have := h.1; rw [size_nil] at this; omega, rfl⟩
 have hne : ¬ s = ⟨#[]⟩ := fun e => by rw [e, size_nil] at h1; omega
 by_cases h2 : 24 < s.size
 ·simp (disch := omega) only [Tryz.ntmps104, c104, r104, hne, go_sem, seval, reduceCtorEq]
  exact Ret.keep ⟨by rw [nm_f]; intro h; have := h.2.1; omega, rfl⟩
 by_cases h3 : chr s 0 <= 57
 ·simp only [chr] at h3
  simp (disch := omega) only [Tryz.ntmps104, c104, r104, hne, go_sem, seval, reduceCtorEq]; exact Ret.keep ⟨by rw [nm_f]; intro h; have := h.2.2.1; simp only [letF, decide_eq_true_eq] at this; simp only [chr] at this; omega, rfl⟩
 simp only [chr] at h3; have hsz : s.data.toList.length = s.size := rfl; simp (disch := omega) only [Tryz.ntmps104, c104, r104, hne, go_sem, seval, reduceCtorEq]; refine Cont.rel (hasB_c _ _ (by kernel_rfl) odd_c s.data.toList (by omega) H) ?_; rintro v H' ⟨⟨b, rfl, hb⟩, rfl⟩; simp (disch := omega) only [go_sem, seval, reduceCtorEq]; refine Ret.keep ⟨bvx ?_, rfl⟩; have hb' : b = false ↔ ∀ i, i < s.size -> okB (chr s i) := by
  constructor
  ·intro h i hi
   rcases Classical.em (okB (chr s i)) with h' | h'
   ·exact h'
   ·have := hb.2 ⟨i, by omega, by simp only [okB, not_or, Bool.not_eq_true] at h'; simp only [chr] at h'; rw [h'.1, h'.2]; rfl⟩
    rw [h] at this; cases this
  ·intro h
   cases e : b with
   | false => rfl
   | true =>
    obtain ⟨i, h1, h2⟩ := hb.1 e; have h3 := h i (by omega); simp only [okB, chr] at h3; rcases h3 with h3 | h3 <;> rw [h3] at h2 <;> simp at h2
 rw [Bool.not_eq_true', hb', nmF, decide_eq_true_eq]; refine ⟨fun h => ⟨by omega, by omega, ?_, h⟩, fun h => h.2.2.2⟩; rcases h 0 (by omega) with h' | h'
 ·exact h'
 ·simp only [digF, decide_eq_true_eq, chr] at h'; omega
structure Fd where
 name : ByteArray
 exp : Bool
 typ : Int
 deriving DecidableEq
structure Pm where
 var : Bool
 typ : Int
 deriving DecidableEq
structure Ty where
 form : Int
 mod : ByteArray
 name : ByteArray
 len : Int
 elem : Int
 base : Int
 fields : List Fd
 params : List Pm
 result : Int
 desc : Int
 deriving DecidableEq
instance : Inhabited Fd := ⟨⟨⟨#[]⟩, false, 0⟩⟩
instance : Inhabited Pm := ⟨⟨false, 0⟩⟩
instance : Inhabited Ty := ⟨⟨0, ⟨#[]⟩, ⟨#[]⟩, 0, 0, 0, [], [], 0, 0⟩⟩
abbrev se : ByteArray := ⟨#[]⟩
def Fd.c (f : Fd) : List Dat := [.v (.string f.name), .v (.bool f.exp), .v (.int .i64 f.typ)]
def Pm.c (p : Pm) : List Dat := [.v (.bool p.var), .v (.int .i64 p.typ)]
def Ty.c (x : Ty) : List Dat := [.v (.int .i64 x.form), .v (.string x.mod), .v (.string x.name), .v (.int .i64 x.len), .v (.int .i64 x.elem), .v (.int .i64 x.base), .sl (x.fields.map Fd.c), .sl (x.params.map Pm.c), .v (.int .i64 x.result), .v (.int .i64 x.desc)]
abbrev fdv (l : List Fd) : AV := .d (.sl (l.map Fd.c))
abbrev pmv (l : List Pm) : AV := .d (.sl (l.map Pm.c))
abbrev tv (t : List Ty) : AV := .d (.sl (t.map Ty.c))
def Ty.cs (x : Ty) : List AV := [iv x.form, sv x.mod, sv x.name, iv x.len, iv x.elem, iv x.base, fdv x.fields, pmv x.params, iv x.result, iv x.desc]
abbrev Ty.av (x : Ty) : AV := .agg x.cs
structure Ty.Ok (x : Ty) : Prop where
 f : x.fields.length <= 140737488355328
 p : x.params.length <= 140737488355328
 m : x.mod.size <= 140737488355328
 n : x.name.size <= 140737488355328
def TOk (t : List Ty) : Prop := t.length <= 140737488355328 /\ ∀ x ∈ t, x.Ok
def tyAt (t : List Ty) (a : Int) : Ty := t.getD a.toNat default
def fdAt (l : List Fd) (a : Int) : Fd := l.getD a.toNat default
def pmAt (l : List Pm) (a : Int) : Pm := l.getD a.toNat default
theorem tyAt_mem {t : List Ty} {a : Int} (h0 : 0 <= a) (h : a < t.length) : tyAt t a ∈ t := by
 rw [tyAt, gD, gE (by omega)]; exact List.getElem_mem _
theorem TOk.at_ {t : List Ty} (h : TOk t) {a : Int} (h0 : 0 <= a) (h1 : a < t.length) : (tyAt t a).Ok := h.2 _ (tyAt_mem h0 h1)
theorem iaA_map {α : Type} (f : α -> List Dat) (d : α) {l : List α} {a : Int} {n : Nat} (h0 : 0 <= a) (h : a < l.length) (hn : (f (l.getD a.toNat d)).length = n) : iaA (.d (.sl (l.map f))) a n = some (.ip (f (l.getD a.toNat d))) := by
 simp only [iaA]; have e : (l.map f).getD a.toNat [] = f (l.getD a.toNat d) := by
  rw [gD, gD, List.getElem?_map, gE (by omega)]; rfl
 rw [if_pos ⟨by omega, by simpa using h, by rw [e]; exact hn⟩, e]
theorem iaA_ty {t : List Ty} {a : Int} (h0 : 0 <= a) (h : a < t.length) : iaA (.d (.sl (t.map Ty.c))) a 10 = some (.ip (tyAt t a).c) := iaA_map Ty.c default h0 h rfl
theorem iaA_fd {t : List Fd} {a : Int} (h0 : 0 <= a) (h : a < t.length) : iaA (.d (.sl (t.map Fd.c))) a 3 = some (.ip (fdAt t a).c) := iaA_map Fd.c default h0 h rfl
theorem iaA_pm {t : List Pm} {a : Int} (h0 : 0 <= a) (h : a < t.length) : iaA (.d (.sl (t.map Pm.c))) a 2 = some (.ip (pmAt t a).c) := iaA_map Pm.c default h0 h rfl
theorem iaA_gmap {α : Type} (f : α -> List Dat) (d : α) {b n : Nat} {l : List α} {a : Int} (h0 : 0 <= a) (h : a < l.length) : iaA (.gsl b n (l.map f)) a n = some (.ip (f (l.getD a.toNat d))) := by
 simp only [iaA]; have e : (l.map f).getD a.toNat [] = f (l.getD a.toNat d) := by
  rw [gD, gD, List.getElem?_map, gE (by omega)]; rfl
 rw [if_pos ⟨by omega, by simpa using h, trivial⟩, e]
theorem FrOk.at_ {w : List Nat} {H G : List ABlk} (b : Nat) (x : ABlk) (hb : b ∈ w) (hG : G = H.set b x) : FrOk w [] H G G := hG ▸ .set hb
theorem all_map {α : Type} (f : α -> List Dat) (n : Nat) (hf : ∀ a, (f a).length = n) (l : List α) : ((l.map f).all fun e => e.length == n) = true := by
 rw [List.all_eq_true]
 intro e he
 obtain ⟨a, _, rfl⟩ := List.mem_map.1 he; rw [hf]; exact beq_self_eq_true _
theorem getD_take {α : Type} {d : α} {l : List α} {i : Nat} (h : i < l.length) : l.take (i + 1) = l.take i ++ [l.getD i d] := by
 rw [List.take_add_one, gE h, gD, gE h]; rfl
theorem ext_at {α : Type} {d : α} {a b : List α} (hl : a.length = b.length) (h : ∀ i, i < a.length -> a.getD i d = b.getD i d) : a = b := by
 refine List.ext_getElem hl fun i h1 h2 => ?_
 have := h i h1
 rwa [gD, gD, gE h1, gE h2] at this
def Small (t : List Ty) : Prop := t.length <= 400000 /\ ∀ x ∈ t, x.fields.length <= 400000 /\ x.params.length <= 400000 /\ x.name.size <= 150049 /\ x.mod.size <= 150049
end Go.Proofs.YthifjndenhjobaaGreat
