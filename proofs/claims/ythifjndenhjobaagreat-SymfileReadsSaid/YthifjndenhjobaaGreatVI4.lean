/- Interfaces: what they are made of. -/
import Derived.Test.YthifjndenhjobaaGreatVT6
import Derived.Test.YthifjndenhjobaaGreatVCodeI
set_option linter.unusedSectionVars false
set_option linter.unusedSimpArgs false
set_option linter.unusedVariables false
set_option maxHeartbeats 4000000
set_option maxRecDepth 20000
namespace Go.Proofs.YthifjndenhjobaaGreat
open Go.RowKit
abbrev J64 (n : Int) : Prop := -9223372036854775808 <= n /\ n < 9223372036854775808
structure Us where
 name : ByteArray
 key : Int
 deriving DecidableEq
structure Vl where
 form : Int
 n : Int
 text : ByteArray
 deriving DecidableEq
structure Ob where
 cls : Int
 name : ByteArray
 typ : Int
 val : Vl
 n : Int
 deriving DecidableEq
structure Fc where
 name : ByteArray
 key : Int
 uses : List Us
 types : List Ty
 objs : List Ob
instance : Inhabited Us := ⟨⟨se, 0⟩⟩
instance : Inhabited Vl := ⟨⟨0, 0, se⟩⟩
instance : Inhabited Ob := ⟨⟨0, se, 0, ⟨0, 0, se⟩, 0⟩⟩
def plainB (s : ByteArray) : Prop := ∀ i, i < s.size -> 32 <= chr s i /\ chr s i ≠ 34
def VlP (v : Vl) : Prop :=
 (v.form = 6 /\ v.n = 0 /\ v.text.size <= 64 /\ plainB v.text) \/
 (v.text = se /\ ((v.form = 1 /\ -2147483648 <= v.n /\ v.n <= 2147483647) \/ (v.form = 2 /\ (v.n = 0 \/ v.n = 1)) \/ (v.form = 3 /\ 0 <= v.n /\ v.n < 256) \/ (v.form = 4 /\ 0 <= v.n /\ v.n < 4294967296) \/ (v.form = 5 /\ v.n = 0)))
def ObP (t : List Ty) (o : Ob) : Prop :=
 Nm o.name /\ placeP t o.typ /\
 ((o.cls = 1 /\ VlP o.val /\ o.typ = o.val.form /\ o.n = 0) \/
  (o.cls = 2 /\ o.val = ⟨0, 0, se⟩ /\ o.n = 0 /\ ((1 <= o.typ /\ o.typ <= 4) \/ 7 <= o.typ)) \/
  (o.cls = 3 /\ o.val = ⟨0, 0, se⟩ /\ (tyAt t o.typ).form ≠ 0 /\ (tyAt t o.typ).form ≠ 5 /\ (tyAt t o.typ).form ≠ 6 /\ (tyAt t o.typ).form ≠ 8 /\ 0 <= o.n /\ o.n < 64) \/
  (o.cls = 4 /\ o.val = ⟨0, 0, se⟩ /\ (tyAt t o.typ).form = 11 /\ 1 <= o.n /\ o.n < 64))
abbrev wv (n : Int) : AV := .d (.v (.int .u32 n))
def Us.c (u : Us) : List Dat := [.v (.string u.name), .v (.int .u32 u.key)]
def Ob.c (o : Ob) : List Dat := [.v (.int .i64 o.cls), .v (.string o.name), .v (.int .i64 o.typ), .v (.int .i64 o.val.form), .v (.int .i64 o.val.n), .v (.string o.val.text), .v (.int .i64 o.n)]
def Ob.cs (o : Ob) : List AV := [iv o.cls, sv o.name, iv o.typ, iv o.val.form, iv o.val.n, sv o.val.text, iv o.n]
abbrev Ob.av (o : Ob) : AV := .agg o.cs
def Us.cs (u : Us) : List AV := [sv u.name, wv u.key]
abbrev Us.av (u : Us) : AV := .agg u.cs
abbrev Vl.av (v : Vl) : AV := .agg [iv v.form, iv v.n, sv v.text]
abbrev usv (l : List Us) : AV := .d (.sl (l.map Us.c))
abbrev obv (l : List Ob) : AV := .d (.sl (l.map Ob.c))
def Fc.cs (f : Fc) : List AV := [sv f.name, wv f.key, usv f.uses, tv f.types, obv f.objs]
abbrev Fc.av (f : Fc) : AV := .agg f.cs
def usAt (l : List Us) (a : Int) : Us := l.getD a.toNat default
def obAt (l : List Ob) (a : Int) : Ob := l.getD a.toNat default
theorem iaA_us {t : List Us} {a : Int} (h0 : 0 <= a) (h : a < t.length) : iaA (.d (.sl (t.map Us.c))) a 2 = some (.ip (usAt t a).c) := iaA_map Us.c default h0 h rfl
theorem iaA_ob {t : List Ob} {a : Int} (h0 : 0 <= a) (h : a < t.length) : iaA (.d (.sl (t.map Ob.c))) a 7 = some (.ip (obAt t a).c) := iaA_map Ob.c default h0 h rfl
theorem usAt_mem {l : List Us} {i : Nat} (h : i < l.length) : l.getD i default ∈ l := by rw [gD, gE h]; exact List.getElem_mem _
theorem obAt_mem {l : List Ob} {i : Nat} (h : i < l.length) : l.getD i default ∈ l := by rw [gD, gE h]; exact List.getElem_mem _
def c72 : AC :=
 sr [im 2 kF]
 (.seq (sr [im 3 t0, kn 4 (.bin .eql t3 (.c ks)), im 5 t4, ko 6 5 (.mv t0), ko 7 5 (.len true t6), ko 8 5 (.bin .gtr t7 (kc 24)), kn 9 (.pick t5 kT t8), im 10 t9, ko 11 10 (.mv t0), ko 12 10 (.ix t11 (kc 0)), ko 13 10 (.bin .leq t12 (.c (.d (.v (.int .u8 57))))), kn 14 (.pick t10 kT t13)]
 (.cond t14 (sr [im 2 kF]
 (.ret)) (.skip)))
 (sr [im 15 t0, kn 16 (.s2b .im 0 t15), kn 17 (.call 83 [t16, (.c (.fn 84 []))]), kn 18 (.un .not t17), im 2 t18]
 (.ret)))
def r72 : List RC := [.t 2]
def c68 : AC :=
 sr [im 2 kF]
 (sr [im 3 t0, ic 4 78 [t3], im 2 t4]
 (.ret))
def r68 : List RC := [.t 2]
def c84 : AC :=
 sr [im 2 kF]
 (sr [im 3 t0, kn 4 (.bin .lss t3 (.c (.d (.v (.int .u8 97))))), im 5 t4, ko 6 5 (.mv t0), ko 7 5 (.bin .gtr t6 (.c (.d (.v (.int .u8 122))))), kn 8 (.pick t5 kT t7), im 9 t8, ky 10 9 (.mv t0), ky 11 9 (.bin .lss t10 (.c (.d (.v (.int .u8 65))))), ky 12 9 (.mv t11), ko 13 12 (.mv t0), ko 14 12 (.bin .gtr t13 (.c (.d (.v (.int .u8 90))))), ky 15 9 (.pick t12 kT t14), kn 16 (.pick t9 t15 kF), im 17 t16, ky 18 17 (.mv t0), ky 19 17 (.bin .lss t18 (.c (.d (.v (.int .u8 48))))), ky 20 17 (.mv t19), ko 21 20 (.mv t0), ko 22 20 (.bin .gtr t21 (.c (.d (.v (.int .u8 57))))), ky 23 17 (.pick t20 kT t22), kn 24 (.pick t17 t23 kF), im 2 t24]
 (.ret))
def r84 : List RC := [.t 2]
theorem cc72 : cK Tryz.f72 (hhI 72) c72 := by unfold cK; kernel_rfl
theorem rr72 : resC Tryz.prog Tryz.f72 = some r72 := by kernel_rfl
theorem cc68 : cK Tryz.f68 (hhI 68) c68 := by unfold cK; kernel_rfl
theorem rr68 : resC Tryz.prog Tryz.f68 = some r68 := by kernel_rfl
theorem cc84 : cK Tryz.f84 (hhI 84) c84 := by unfold cK; kernel_rfl
theorem rr84 : resC Tryz.prog Tryz.f84 = some r84 := by kernel_rfl
theorem iodd_c (n : Int) (H : List ABlk) : ACalls Tryz.prog 84 [cv n] H fun v H' => v = bv (!(letF n || digF n)) /\ H' = H := by
 refine ACalls.into Tryz.func84 cc84 rr84 fun hcl => ?_
 have hsp : n < 48 \/ (48 <= n /\ n <= 57) \/ (57 < n /\ n < 65) \/ (65 <= n /\ n <= 90) \/ (90 < n /\ n < 97) \/ (97 <= n /\ n <= 122) \/ 122 < n := by omega
 rcases hsp with h | ⟨h, h'⟩ | ⟨h, h'⟩ | ⟨h, h'⟩ | ⟨h, h'⟩ | ⟨h, h'⟩ | h <;> (simp (disch := omega) only [Tryz.ntmps84, c84, r84, go_sem, seval, reduceCtorEq]; exact Ret.keep ⟨bvx (by simp [letF, digF]; omega), rfl⟩)
theorem named_c (s : ByteArray) (H : List ABlk) : ACalls Tryz.prog 72 [sv s] H fun v H' => v = bv (nmF s) /\ H' = H := by
 refine ACalls.into Tryz.func72 cc72 rr72 fun hcl => ?_
 by_cases h1 : s.size < 1
 ·have hs := str_nil (s := s) (by omega)
  simp (disch := omega) only [Tryz.ntmps72, c72, r72, hs, go_sem, seval, reduceCtorEq]; exact Ret.keep ⟨by rw [nm_f]; intro h; have := h.1; rw [size_nil] at this; omega, rfl⟩
 have hne : ¬ s = ⟨#[]⟩ := fun e => by rw [e, size_nil] at h1; omega
 by_cases h2 : 24 < s.size
 ·simp (disch := omega) only [Tryz.ntmps72, c72, r72, hne, go_sem, seval, reduceCtorEq]
  exact Ret.keep ⟨by rw [nm_f]; intro h; have := h.2.1; omega, rfl⟩
 by_cases h3 : chr s 0 <= 57
 ·simp only [chr] at h3
  simp (disch := omega) only [Tryz.ntmps72, c72, r72, hne, go_sem, seval, reduceCtorEq]; exact Ret.keep ⟨by rw [nm_f]; intro h; have := h.2.2.1; simp only [letF, decide_eq_true_eq] at this; simp only [chr] at this; omega, rfl⟩
 simp only [chr] at h3; have hsz : s.data.toList.length = s.size := rfl; simp (disch := omega) only [Tryz.ntmps72, c72, r72, hne, go_sem, seval, reduceCtorEq]; refine Cont.rel (hasB_c _ _ (by kernel_rfl) iodd_c s.data.toList (by omega) H) ?_; rintro v H' ⟨⟨b, rfl, hb⟩, rfl⟩; simp (disch := omega) only [go_sem, seval, reduceCtorEq]; refine Ret.keep ⟨bvx ?_, rfl⟩; have hb' : b = false ↔ ∀ i, i < s.size -> okB (chr s i) := by
  constructor
  ·intro h i hi
   rcases Classical.em (okB (chr s i)) with h' | h'
   ·exact h'
   ·have := hb.2 ⟨i, by omega, by simp only [okB, not_or, Bool.not_eq_true] at h'; simp only [chr] at h'; rw [h'.1, h'.2]; rfl⟩
    rw [h] at this; cases this
  ·intro h
   cases e : b with
   | false => rfl
   | true =>
    obtain ⟨i, h1, h2⟩ := hb.1 e; have h3 := h i (by omega); simp only [okB, chr] at h3; rcases h3 with h3 | h3 <;> rw [h3] at h2 <;> simp at h2
 rw [Bool.not_eq_true', hb', nmF, decide_eq_true_eq]; refine ⟨fun h => ⟨by omega, by omega, ?_, h⟩, fun h => h.2.2.2⟩; rcases h 0 (by omega) with h' | h'
 ·exact h'
 ·simp only [digF, decide_eq_true_eq, chr] at h'; omega
theorem iword_c (s : ByteArray) (H : List ABlk) : ACalls Tryz.prog 68 [sv s] H fun v H' => v = bv (nmF s) /\ H' = H := by
 refine ACalls.into Tryz.func68 cc68 rr68 fun hcl => ?_
 simp (disch := omega) only [Tryz.ntmps68, c68, r68, go_sem, seval, reduceCtorEq]; refine Cont.mk (word_c s _) ?_; simp (disch := omega) only [go_sem, seval, reduceCtorEq]; exact Ret.keep ⟨rfl, rfl⟩
theorem dcT {p : Prop} [Decidable p] (h : p) : decide p = true := decide_eq_true h
theorem dcF {p : Prop} [Decidable p] (h : ¬ p) : decide p = false := decide_eq_false h
def F32 (n : Int) : Prop := -2147483648 <= n /\ n <= 2147483647
section
variable {n : Int} (H : List ABlk)
theorem fits_y (h1 : -2147483648 <= n) (h2 : n <= 2147483647) : ACalls Tryz.prog 48 [iv n, iv 32] H fun v H' => v = bv true /\ H' = H := by
 refine ACalls.into Tryz.func48 cc48 rr48 fun hcl => ?_
 simp (disch := omega) only [Tryz.ntmps48, c48, r48, go_sem, seval, reduceCtorEq]; exact Ret.keep ⟨rfl, rfl⟩
theorem fits_a (h1 : n < -2147483648) : ACalls Tryz.prog 48 [iv n, iv 32] H fun v H' => v = bv false /\ H' = H := by
 refine ACalls.into Tryz.func48 cc48 rr48 fun hcl => ?_
 simp (disch := omega) only [Tryz.ntmps48, c48, r48, go_sem, seval, reduceCtorEq]; exact Ret.keep ⟨rfl, rfl⟩
theorem fits_b (h1 : -2147483648 <= n) (h2 : 2147483647 < n) : ACalls Tryz.prog 48 [iv n, iv 32] H fun v H' => v = bv false /\ H' = H := by
 refine ACalls.into Tryz.func48 cc48 rr48 fun hcl => ?_
 simp (disch := omega) only [Tryz.ntmps48, c48, r48, go_sem, seval, reduceCtorEq]; exact Ret.keep ⟨rfl, rfl⟩
theorem fits_c (n : Int) : ACalls Tryz.prog 48 [iv n, iv 32] H fun v H' => (∃ B, v = bv B /\ (B = true ↔ F32 n)) /\ H' = H := by
 rcases Int.lt_or_le n (-2147483648) with h | h
 ·exact (fits_a H h).mono fun v H' e => ⟨⟨false, e.1, fun h' => (by cases h'), fun h' => by have := h'.1; omega⟩, e.2⟩
 rcases Int.lt_or_le 2147483647 n with h2 | h2
 ·exact (fits_b H h h2).mono fun v H' e => ⟨⟨false, e.1, fun h' => (by cases h'), fun h' => by have := h'.2; omega⟩, e.2⟩
 ·exact (fits_y H h h2).mono fun v H' e => ⟨⟨true, e.1, fun _ => ⟨h, h2⟩, fun _ => rfl⟩, e.2⟩
theorem rpow_c : ACalls Tryz.prog 77 [.d (.v (.int .u32 32))] H fun v H' => v = .d (.v (.int .u64 4294967296)) /\ H' = H := by
 refine ACalls.into Tryz.func77 cc77 rr77 fun hcl => ?_
 simp (disch := omega) only [Tryz.ntmps77, c77, r77, go_sem, seval, reduceCtorEq]; obtain ⟨S, hS⟩ : ∃ S : Nat × Nat -> List AV, ∀ g, S g = [.d (.v (.int .u32 32)), .any, .any, .d (.v (.int .u64 g.2)), .d (.v (.int .u32 g.1))] ++ List.replicate 8 .any := ⟨_, fun _ => rfl⟩; refine W.loopG (γ := Nat × Nat) (fun g => 32 - g.1) S (fun _ => H) (fun g => g.1 <= 32 /\ g.2 = 2 ^ g.1) (0, 1) (Wk.slots (WkL.tw 5 (hS _))) ⟨by omega, rfl⟩ (fun g hg => ?_); obtain ⟨i, p⟩ := g; obtain ⟨q1, q2⟩ := hg; simp only at q1 q2; simp (disch := omega) only [c77l0, hS, go_sem, seval, reduceCtorEq]; refine Br.dec (fun hc => ?_) (fun hc => ?_) <;> simp (disch := omega) only [go_sem, seval, reduceCtorEq]
 ·have hp : p <= 2 ^ 31 := by rw [q2]; exact Nat.pow_le_pow_right (by decide) (by omega)
  have hp2 : p <= 2147483648 := hp; simp (disch := omega) only [go_sem, seval, reduceCtorEq]; refine Nxt.mk (i + 1, p * 2) (by simp only; omega) (Wk.slots ?_) ⟨by simp only; omega, by simp only [Nat.pow_succ, q2]⟩; rw [hS]; simp only [Int.natCast_mul, Int.natCast_add]; exact WkL.wk
 ·have hi : i = 32 := by omega
  subst hi; have hp : p = 4294967296 := q2; subst hp; exact Ret.keep ⟨rfl, rfl⟩
theorem rfits_y (h1 : -2147483648 <= n) (h2 : n <= 2147483647) : ACalls Tryz.prog 67 [iv n, iv 32] H fun v H' => v = bv true /\ H' = H := by
 refine ACalls.into Tryz.func67 cc67 rr67 fun hcl => ?_
 simp (disch := omega) only [Tryz.ntmps67, c67, r67, go_sem, seval, reduceCtorEq]; refine Cont.mk (rpow_c _) ?_; simp (disch := omega) only [go_sem, seval, reduceCtorEq]; exact Ret.keep ⟨rfl, rfl⟩
theorem rfits_a (h1 : n < -2147483648) : ACalls Tryz.prog 67 [iv n, iv 32] H fun v H' => v = bv false /\ H' = H := by
 refine ACalls.into Tryz.func67 cc67 rr67 fun hcl => ?_
 simp (disch := omega) only [Tryz.ntmps67, c67, r67, go_sem, seval, reduceCtorEq]; refine Cont.mk (rpow_c _) ?_; simp (disch := omega) only [go_sem, seval, reduceCtorEq]; exact Ret.keep ⟨rfl, rfl⟩
theorem rfits_b (h1 : -2147483648 <= n) (h2 : 2147483647 < n) : ACalls Tryz.prog 67 [iv n, iv 32] H fun v H' => v = bv false /\ H' = H := by
 refine ACalls.into Tryz.func67 cc67 rr67 fun hcl => ?_
 simp (disch := omega) only [Tryz.ntmps67, c67, r67, go_sem, seval, reduceCtorEq]; refine Cont.mk (rpow_c _) ?_; simp (disch := omega) only [go_sem, seval, reduceCtorEq]; exact Ret.keep ⟨rfl, rfl⟩
theorem rfits_c (n : Int) : ACalls Tryz.prog 67 [iv n, iv 32] H fun v H' => (∃ B, v = bv B /\ (B = true ↔ F32 n)) /\ H' = H := by
 rcases Int.lt_or_le n (-2147483648) with h | h
 ·exact (rfits_a H h).mono fun v H' e => ⟨⟨false, e.1, fun h' => (by cases h'), fun h' => by have := h'.1; omega⟩, e.2⟩
 rcases Int.lt_or_le 2147483647 n with h2 | h2
 ·exact (rfits_b H h h2).mono fun v H' e => ⟨⟨false, e.1, fun h' => (by cases h'), fun h' => by have := h'.2; omega⟩, e.2⟩
 ·exact (rfits_y H h h2).mono fun v H' e => ⟨⟨true, e.1, fun _ => ⟨h, h2⟩, fun _ => rfl⟩, e.2⟩
end
def c59 : AC :=
 sr [kn 2 (.bx t0), kn 3 (.bx t1), im 4 kF]
 (sr [ia 5 t2 0, il 6 t5, ia 7 t3 0, il 8 t7, ib 9 .eql t6 t8, im 10 t9, ky 11 10 (.fa t2 1), ky 12 10 (.ld t11 1 false), ky 13 10 (.fa t3 1), ky 14 10 (.ld t13 1 false), ky 15 10 (.bin .eql t12 t14), kn 16 (.pick t10 t15 kF), im 17 t16, ky 18 17 (.fa t2 2), ky 19 17 (.ld t18 1 false), ky 20 17 (.fa t3 2), ky 21 17 (.ld t20 1 false), ky 22 17 (.bin .eql t19 t21), kn 23 (.pick t17 t22 kF), im 4 t23]
 (.ret))
def r59 : List RC := [.t 4]
theorem cc59 : cK Tryz.f59 (hhI 59) c59 := by unfold cK; kernel_rfl
theorem rr59 : resC Tryz.prog Tryz.f59 = some r59 := by kernel_rfl
structure Vl.In (v : Vl) : Prop where
 f : J64 v.form
 n : J64 v.n
 t : v.text.size <= 140737488355328
theorem vl_key (a b : Int) (s : ByteArray) : keyOf (.agg [iv a, iv b, sv s]) = some (.agg #[.int .i64 a, .int .i64 b, .string s]) := rfl
theorem i64_min : IntKind.i64.min = -9223372036854775808 := by decide
theorem i64_max : IntKind.i64.max = 9223372036854775807 := by decide
theorem kc_i {n : Int} (h : J64 n) : kcFit (.i .i64) (.int .i64 n) = true := by
 obtain ⟨h0, h1⟩ := h; have a : decide (IntKind.i64.min <= n) = true := decide_eq_true (by rw [i64_min]; exact h0); have b : decide (n <= IntKind.i64.max) = true := decide_eq_true (by rw [i64_max]; omega); simp only [kcFit, a, b]; rfl
theorem kc_s {s : ByteArray} (h : s.size <= 140737488355328) : kcFit .s (.string s) = true := decide_eq_true (by simp only [maxLen]; omega)
theorem vl_fits {v : Vl} (h : v.In) : keyFits ⟨true, [.i .i64, .i .i64, .s]⟩ (.agg #[.int .i64 v.form, .int .i64 v.n, .string v.text]) = true := by
 show (kcFit (.i .i64) (.int .i64 v.form) && (kcFit (.i .i64) (.int .i64 v.n) && (kcFit .s (.string v.text) && true))) = true
 rw [kc_i h.f, kc_i h.n, kc_s h.t]; rfl
theorem vl_keq (a b : Int) (s : ByteArray) (a' b' : Int) (s' : ByteArray) : keq (.agg #[.int .i64 a, .int .i64 b, .string s]) (.agg #[.int .i64 a', .int .i64 b', .string s']) = (decide (a = a') && decide (b = b') && decide (s = s')) := by
 simp [keq, keqL, keq1, Bool.and_assoc, Bool.beq_eq_decide_eq]
theorem Vl.eq_iff {v w : Vl} : (decide (v.form = w.form) && decide (v.n = w.n) && decide (v.text = w.text)) = decide (v = w) := by
 obtain ⟨a, b, c⟩ := v; obtain ⟨a', b', c'⟩ := w
 by_cases h1 : a = a' <;> by_cases h2 : b = b' <;> by_cases h3 : c = c' <;> simp [h1, h2, h3]
theorem rsameV_c (v w : Vl) (H : List ABlk) : ACalls Tryz.prog 59 [v.av, w.av] H fun u H' => u = bv (decide (v = w)) /\ H' = H := by
 refine ACalls.into Tryz.func59 cc59 rr59 fun hcl => ?_
 obtain ⟨a, b, c⟩ := v; obtain ⟨a', b', c'⟩ := w; have fin : ∀ {B : Bool} {l : List ABlk}, B = decide (Vl.mk a b c = Vl.mk a' b' c') -> Ret [RC.t 4] H.length (fun u H' => u = bv (decide (Vl.mk a b c = Vl.mk a' b' c')) /\ H' = H) (some (bv B)) (H ++ l) := fun {B l} h =>
  Ret.drop _ H (Nat.le_refl _) hcl (.rfl _) (by simp [refs]) ⟨by rw [h], rfl⟩
 by_cases h1 : a = a'
 ·by_cases h2 : b = b'
  ·cases h3 : decide (c = c')
   ·simp (disch := omega) only [Tryz.ntmps59, c59, r59, h3, go_sem, seval, reduceCtorEq]
    exact fin (by rw [dcF]; intro h; cases h; simp at h3)
   ·simp (disch := omega) only [Tryz.ntmps59, c59, r59, h3, go_sem, seval, reduceCtorEq]
    exact fin (by rw [dcT]; rw [h1, h2, of_decide_eq_true h3])
  ·simp (disch := omega) only [Tryz.ntmps59, c59, r59, go_sem, seval, reduceCtorEq]
   exact fin (by rw [dcF]; intro h; cases h; exact h2 rfl)
 ·simp (disch := omega) only [Tryz.ntmps59, c59, r59, go_sem, seval, reduceCtorEq]
  exact fin (by rw [dcF]; intro h; cases h; exact h1 rfl)
def c86l0 : AC :=
 sr [ib 20 .lss t19 t18]
 (.seq (.cond t20 (.skip) (.exit 0))
 (.seq (.block 1 (sr [im 21 t19, im 3 t21]
 (sr [ia 22 t1 2, il 23 t22, im 24 t3, kn 25 (.ix t23 t24), kn 26 (.bin .lss t25 (.c (.d (.v (.int .u8 32))))), im 27 t26, ko 28 27 (.fa t1 2), ko 29 27 (.ld t28 1 false), ko 30 27 (.mv t3), ko 31 27 (.ix t29 t30), ko 32 27 (.bin .eql t31 (.c (.d (.v (.int .u8 34))))), kn 33 (.pick t27 kT t32)]
 (.cond t33 (sr [im 2 kF]
 (.ret)) (.skip)))))
 (.reg [ib 34 .add t19 (kc 1), im 19 t34])))
def c86 : AC :=
 sr [kn 1 (.bx t0), im 2 kF]
 (.seq (sr [ia 4 t1 0, il 5 t4, ib 6 .eql t5 (kc 6)]
 (.cond t6 (.seq (sr [ia 7 t1 1, il 8 t7, ib 9 .neq t8 (kc 0), im 10 t9, ko 11 10 (.fa t1 2), ko 12 10 (.ld t11 1 false), ko 13 10 (.len true t12), ko 14 10 (.bin .gtr t13 (kc 64)), kn 15 (.pick t10 kT t14)]
 (.cond t15 (sr [im 2 kF]
 (.ret)) (.skip)))
 (.seq (sr [ia 16 t1 2, il 17 t16, kn 18 (.len true t17), im 19 (kc 0)]
 (.block 0 (.loop c86l0)))
 (sr [im 2 kT]
 (.ret)))) (.skip)))
 (.seq (sr [ia 35 t1 2, il 36 t35, kn 37 (.bin .neq t36 (.c ks))]
 (.cond t37 (sr [im 2 kF]
 (.ret)) (.skip)))
 (.seq (sr [ia 38 t1 0, il 39 t38]
 (.block 2 (sr [ib 41 .eql t39 (kc 1), im 40 t41]
 (.cond t40 (sr [ia 42 t1 1, il 43 t42, ic 44 48 [t43, (kc 32)], im 2 t44]
 (.ret)) (sr [ib 46 .eql t39 (kc 2), im 45 t46]
 (.cond t45 (sr [ia 47 t1 1, il 48 t47, ib 49 .eql t48 (kc 0), im 50 t49, ko 51 50 (.fa t1 1), ko 52 50 (.ld t51 1 false), ko 53 50 (.bin .eql t52 (kc 1)), kn 54 (.pick t50 kT t53), im 2 t54]
 (.ret)) (sr [ib 56 .eql t39 (kc 3), im 55 t56]
 (.cond t55 (sr [ia 57 t1 1, il 58 t57, ia 59 t1 1, il 60 t59, kn 61 (.cvi .u8 t60), kn 62 (.cvi .i64 t61), ib 63 .eql t58 t62, im 2 t63]
 (.ret)) (sr [ib 65 .eql t39 (kc 4), im 64 t65]
 (.cond t64 (sr [ia 66 t1 1, il 67 t66, ia 68 t1 1, il 69 t68, kn 70 (.cvi .u32 t69), kn 71 (.cvi .i64 t70), ib 72 .eql t67 t71, im 2 t72]
 (.ret)) (.skip)))))))))))
 (sr [ia 73 t1 0, il 74 t73, ib 75 .eql t74 (kc 5), im 76 t75, ky 77 76 (.fa t1 1), ky 78 76 (.ld t77 1 false), ky 79 76 (.bin .eql t78 (kc 0)), kn 80 (.pick t76 t79 kF), im 2 t80]
 (.ret)))))
def r86 : List RC := [.t 2]
theorem cc86 : cK Tryz.f86 (hhI 86) c86 := by unfold cK; kernel_rfl
theorem rr86 : resC Tryz.prog Tryz.f86 = some r86 := by kernel_rfl
def ObR (f : Fc) (o : Ob) (H : List ABlk) (v : AV) (H' : List ABlk) : Prop := (∃ B, v = bv B /\ (B = true ↔ ObP f.types o)) /\ H' = H
abbrev zeV : Vl := ⟨0, 0, se⟩
theorem cgood_c {v : Vl} (hv : v.In) (H : List ABlk) : ACalls Tryz.prog 86 [v.av] H fun u H' => (∃ B, u = bv B /\ (B = true ↔ VlP v)) /\ H' = H := by
 refine ACalls.into Tryz.func86 cc86 rr86 fun hcl => ?_
 obtain ⟨⟨f0, f1⟩, ⟨n0, n1⟩, ht⟩ := hv; obtain ⟨a, n, s⟩ := v; simp only at f0 f1 n0 n1 ht; have fin : ∀ {B : Bool} {l : List ABlk}, (B = true ↔ VlP ⟨a, n, s⟩) -> Ret [RC.t 2] H.length (fun u H' => (∃ B, u = bv B /\ (B = true ↔ VlP ⟨a, n, s⟩)) /\ H' = H) (some (bv B)) (H ++ l) := fun {B l} h =>
  Ret.drop _ H (Nat.le_refl _) hcl (.rfl _) (by simp [refs]) ⟨⟨B, rfl, h⟩, rfl⟩
 have hP : VlP ⟨a, n, s⟩ ↔ (a = 6 /\ n = 0 /\ s.size <= 64 /\ plainB s) \/ (s = se /\ ((a = 1 /\ -2147483648 <= n /\ n <= 2147483647) \/ (a = 2 /\ (n = 0 \/ n = 1)) \/ (a = 3 /\ 0 <= n /\ n < 256) \/ (a = 4 /\ 0 <= n /\ n < 4294967296) \/ (a = 5 /\ n = 0))) := Iff.rfl; have nof : ∀ {p : Prop}, ¬ p -> (false = true ↔ p) := fun h => ⟨fun h' => (by cases h'), fun h' => absurd h' h⟩
 by_cases a6 : a = 6
 ·subst a6
  by_cases hn : n = 0
  rotate_left
  ·simp (disch := omega) only [Tryz.ntmps86, c86, r86, go_sem, seval, reduceCtorEq]
   exact fin (nof fun h => by rcases hP.1 h with h | ⟨_, h | h | h | h | h⟩ <;> omega)
  by_cases hs : 64 < s.size
  ·simp (disch := omega) only [Tryz.ntmps86, c86, r86, go_sem, seval, reduceCtorEq]
   exact fin (nof fun h => by rcases hP.1 h with h | ⟨_, h | h | h | h | h⟩ <;> omega)
  simp (disch := omega) only [Tryz.ntmps86, c86, r86, go_sem, seval, reduceCtorEq]; obtain ⟨S, hS⟩ : ∃ S : Nat -> List AV, ∀ i, S i = [.any, .ptr H.length 0, bv false, .any, .any, .any, .any, .any, .any, .any, .any, .any, .any, .any, .any, .any, .any, .any, iv s.size, iv i] ++ List.replicate 61 .any := ⟨_, fun _ => rfl⟩; refine W.loopG (γ := Nat) (fun i => s.size - i) S (fun _ => H ++ [.cells [iv 6, iv n, sv s]]) (fun i => i <= s.size /\ ∀ j, j < i -> 32 <= chr s j /\ chr s j ≠ 34) 0 (Wk.slots (WkL.tw 20 (hS _))) ⟨by omega, fun j hj => by omega⟩ (fun i hi => ?_); obtain ⟨q1, q2⟩ := hi; simp (disch := omega) only [c86l0, hS, go_sem, seval, reduceCtorEq]; refine Br.dec (fun hc => ?_) (fun hc => ?_) <;> simp (disch := omega) only [go_sem, seval, reduceCtorEq]
  ·by_cases k1 : chr s i < 32
   ·have k1' := k1
    simp only [chr] at k1'; simp (disch := omega) only [go_sem, seval, reduceCtorEq]; exact fin (nof fun h => by rcases hP.1 h with h | ⟨_, h | h | h | h | h⟩ <;> first | omega | (have := (h.2.2.2 i (by omega)).1; omega))
   ·by_cases k2 : chr s i = 34
    ·simp only [chr] at k1 k2
     simp (disch := omega) only [go_sem, seval, reduceCtorEq]; exact fin (nof fun h => by rcases hP.1 h with h | ⟨_, h | h | h | h | h⟩ <;> first | omega | (have := (h.2.2.2 i (by omega)).2; simp only [chr] at this; omega))
    ·have k1' := k1
     have k2' := k2; simp only [chr] at k1' k2'; simp (disch := omega) only [go_sem, seval, reduceCtorEq]; refine Nxt.mk (i + 1) (by omega) (Wk.slots (WkL.tw 20 (hS _))) ⟨by omega, fun j hj => ?_⟩; rcases Nat.lt_or_ge j i with h' | h'
     ·exact q2 j h'
     ·rw [show j = i by omega]; exact ⟨by omega, k2⟩
  ·exact fin ⟨fun _ => hP.2 (.inl ⟨rfl, hn, by omega, fun j hj => q2 j (by omega)⟩), fun _ => rfl⟩
 ·cases hse : decide (s = se) with
  | false =>
   simp (disch := omega) only [Tryz.ntmps86, c86, r86, hse, go_sem, seval, reduceCtorEq]; exact fin (nof fun h => by
    rcases hP.1 h with h | ⟨h, _⟩
    ·omega
    ·simp [h] at hse)
  | true =>
   have hse' := of_decide_eq_true hse
   by_cases a1 : a = 1
   ·simp (disch := omega) only [Tryz.ntmps86, c86, r86, hse, go_sem, seval, reduceCtorEq]
    refine Cont.rel (fits_c _ _) ?_; rintro v H' ⟨⟨B, rfl, hB⟩, rfl⟩; simp (disch := omega) only [go_sem, seval, reduceCtorEq]; exact fin (hB.trans ⟨fun h => hP.2 (.inr ⟨hse', .inl ⟨a1, h⟩⟩), fun h => by rcases hP.1 h with h | ⟨_, h | h | h | h | h⟩ <;> first | omega | exact h.2⟩)
   by_cases a2 : a = 2
   ·by_cases n0' : n = 0
    ·simp (disch := omega) only [Tryz.ntmps86, c86, r86, hse, go_sem, seval, reduceCtorEq]
     exact fin ⟨fun _ => hP.2 (.inr ⟨hse', .inr (.inl ⟨a2, .inl n0'⟩)⟩), fun _ => rfl⟩
    by_cases n1' : n = 1
    ·simp (disch := omega) only [Tryz.ntmps86, c86, r86, hse, go_sem, seval, reduceCtorEq]
     exact fin ⟨fun _ => hP.2 (.inr ⟨hse', .inr (.inl ⟨a2, .inr n1'⟩)⟩), fun _ => rfl⟩
    ·simp (disch := omega) only [Tryz.ntmps86, c86, r86, hse, go_sem, seval, reduceCtorEq]
     exact fin (nof fun h => by rcases hP.1 h with h | ⟨_, h | h | h | h | h⟩ <;> omega)
   by_cases a3 : a = 3
   ·by_cases hr : n = n % 256
    ·simp (disch := omega) only [Tryz.ntmps86, c86, r86, hse, go_sem, seval, reduceCtorEq]
     exact fin ⟨fun _ => hP.2 (.inr ⟨hse', .inr (.inr (.inl ⟨a3, by omega, by omega⟩))⟩), fun _ => rfl⟩
    ·simp (disch := omega) only [Tryz.ntmps86, c86, r86, hse, go_sem, seval, reduceCtorEq]
     exact fin (nof fun h => by rcases hP.1 h with h | ⟨_, h | h | h | h | h⟩ <;> omega)
   by_cases a4 : a = 4
   ·by_cases hr : n = n % 4294967296
    ·simp (disch := omega) only [Tryz.ntmps86, c86, r86, hse, go_sem, seval, reduceCtorEq]
     exact fin ⟨fun _ => hP.2 (.inr ⟨hse', .inr (.inr (.inr (.inl ⟨a4, by omega, by omega⟩)))⟩), fun _ => rfl⟩
    ·simp (disch := omega) only [Tryz.ntmps86, c86, r86, hse, go_sem, seval, reduceCtorEq]
     exact fin (nof fun h => by rcases hP.1 h with h | ⟨_, h | h | h | h | h⟩ <;> omega)
   by_cases a5 : a = 5
   ·by_cases hr : n = 0
    ·simp (disch := omega) only [Tryz.ntmps86, c86, r86, hse, go_sem, seval, reduceCtorEq]
     exact fin ⟨fun _ => hP.2 (.inr ⟨hse', .inr (.inr (.inr (.inr ⟨a5, hr⟩)))⟩), fun _ => rfl⟩
    ·simp (disch := omega) only [Tryz.ntmps86, c86, r86, hse, go_sem, seval, reduceCtorEq]
     exact fin (nof fun h => by rcases hP.1 h with h | ⟨_, h | h | h | h | h⟩ <;> omega)
   ·simp (disch := omega) only [Tryz.ntmps86, c86, r86, hse, go_sem, seval, reduceCtorEq]
    exact fin (nof fun h => by rcases hP.1 h with h | ⟨_, h | h | h | h | h⟩ <;> omega)
end Go.Proofs.YthifjndenhjobaaGreat
