/- Interfaces: what they are made of. -/
import Derived.Test.YthifjndenhjobaaXT6
import Derived.Test.YthifjndenhjobaaXCodeI
namespace Go.Proofs.Ythifjndenhjobaa
set_option linter.unusedSimpArgs false
set_option linter.unusedVariables false
open Go.RowKit

abbrev J64 (n : Int) : Prop := -9223372036854775808 ≤ n ∧ n < 9223372036854775808

structure Us where
 name : ByteArray
 key : Int
 deriving DecidableEq
structure Vl where
 form : Int
 n : Int
 text : ByteArray
 deriving DecidableEq
structure Ob where
 cls : Int
 name : ByteArray
 typ : Int
 val : Vl
 n : Int
 deriving DecidableEq
structure Fc where
 name : ByteArray
 key : Int
 uses : List Us
 types : List Ty
 objs : List Ob
instance : Inhabited Us := ⟨⟨se, 0⟩⟩
instance : Inhabited Vl := ⟨⟨0, 0, se⟩⟩
instance : Inhabited Ob := ⟨⟨0, se, 0, ⟨0, 0, se⟩, 0⟩⟩

def plainB (s : ByteArray) : Prop := ∀ i, i < s.size → 32 ≤ chr s i ∧ chr s i ≠ 34
def VlP (v : Vl) : Prop :=
 (v.form = 6 ∧ v.n = 0 ∧ v.text.size ≤ 64 ∧ plainB v.text) ∨
 (v.text = se ∧ ((v.form = 1 ∧ -2147483648 ≤ v.n ∧ v.n ≤ 2147483647) ∨ (v.form = 2 ∧ (v.n = 0 ∨ v.n = 1)) ∨ (v.form = 3 ∧ 0 ≤ v.n ∧ v.n < 256) ∨ (v.form = 4 ∧ 0 ≤ v.n ∧ v.n < 4294967296) ∨ (v.form = 5 ∧ v.n = 0)))
def ObP (t : List Ty) (o : Ob) : Prop :=
 Nm o.name ∧ placeP t o.typ ∧
 ((o.cls = 1 ∧ VlP o.val ∧ o.typ = o.val.form ∧ o.n = 0) ∨
  (o.cls = 2 ∧ o.val = ⟨0, 0, se⟩ ∧ o.n = 0 ∧ ((1 ≤ o.typ ∧ o.typ ≤ 4) ∨ 7 ≤ o.typ)) ∨
  (o.cls = 3 ∧ o.val = ⟨0, 0, se⟩ ∧ (tyAt t o.typ).form ≠ 0 ∧ (tyAt t o.typ).form ≠ 5 ∧ (tyAt t o.typ).form ≠ 6 ∧ (tyAt t o.typ).form ≠ 8 ∧ 0 ≤ o.n ∧ o.n < 64) ∨
  (o.cls = 4 ∧ o.val = ⟨0, 0, se⟩ ∧ (tyAt t o.typ).form = 11 ∧ 1 ≤ o.n ∧ o.n < 64))
abbrev wv (n : Int) : AV := .d (.v (.int .u32 n))
def Us.c (u : Us) : List Dat := [.v (.string u.name), .v (.int .u32 u.key)]
def Ob.c (o : Ob) : List Dat := [.v (.int .i64 o.cls), .v (.string o.name), .v (.int .i64 o.typ), .v (.int .i64 o.val.form), .v (.int .i64 o.val.n), .v (.string o.val.text), .v (.int .i64 o.n)]
def Ob.cs (o : Ob) : List AV := [iv o.cls, sv o.name, iv o.typ, iv o.val.form, iv o.val.n, sv o.val.text, iv o.n]
abbrev Ob.av (o : Ob) : AV := .agg o.cs
def Us.cs (u : Us) : List AV := [sv u.name, wv u.key]
abbrev Us.av (u : Us) : AV := .agg u.cs
abbrev Vl.av (v : Vl) : AV := .agg [iv v.form, iv v.n, sv v.text]
abbrev usv (l : List Us) : AV := .d (.sl (l.map Us.c))
abbrev obv (l : List Ob) : AV := .d (.sl (l.map Ob.c))
def Fc.cs (f : Fc) : List AV := [sv f.name, wv f.key, usv f.uses, tv f.types, obv f.objs]
abbrev Fc.av (f : Fc) : AV := .agg f.cs
def usAt (l : List Us) (a : Int) : Us := l.getD a.toNat default
def obAt (l : List Ob) (a : Int) : Ob := l.getD a.toNat default
theorem iaA_us {t : List Us} {a : Int} (h0 : 0 ≤ a) (h : a < t.length) : iaA (.d (.sl (t.map Us.c))) a 2 = some (.ip (usAt t a).c) := iaA_map Us.c default h0 h rfl
theorem iaA_ob {t : List Ob} {a : Int} (h0 : 0 ≤ a) (h : a < t.length) : iaA (.d (.sl (t.map Ob.c))) a 7 = some (.ip (obAt t a).c) := iaA_map Ob.c default h0 h rfl
theorem all_us (l : List Us) : ((l.map Us.c).all fun e => e.length == 2) = true := all_map Us.c 2 (fun _ => rfl) l
theorem all_ob (l : List Ob) : ((l.map Ob.c).all fun e => e.length == 7) = true := all_map Ob.c 7 (fun _ => rfl) l
theorem usAt_mem {l : List Us} {i : Nat} (h : i < l.length) : l.getD i default ∈ l := by rw [List.getD_eq_getElem?_getD, List.getElem?_eq_getElem h]; exact List.getElem_mem _
theorem obAt_mem {l : List Ob} {i : Nat} (h : i < l.length) : l.getD i default ∈ l := by rw [List.getD_eq_getElem?_getD, List.getElem?_eq_getElem h]; exact List.getElem_mem _

end Go.Proofs.Ythifjndenhjobaa

/- Names and constants, as the interfaces have them. -/
namespace Go.Proofs.Ythifjndenhjobaa
set_option linter.unusedSimpArgs false
set_option linter.unusedVariables false
set_option maxRecDepth 20000
set_option maxHeartbeats 2000000
open Go.RowKit

def c79 : AC :=
 .seq (.reg [kn 2 (.mv (.c (.d (.v (.bool false)))))])
 (.seq (.seq (.reg [kn 3 (.mv (.t 0)), kn 4 (.bin .eql (.t 3) (.c (.d (.v (.string ⟨#[]⟩))))), kn 5 (.mv (.t 4)), ko 6 5 (.mv (.t 0)), ko 7 5 (.len true (.t 6)), ko 8 5 (.bin .gtr (.t 7) (kc 24)), kn 9 (.pick (.t 5) (.c (.d (.v (.bool true)))) (.t 8)), kn 10 (.mv (.t 9)), ko 11 10 (.mv (.t 0)), ko 12 10 (.ix (.t 11) (kc 0)), ko 13 10 (.bin .leq (.t 12) (.c (.d (.v (.int .u8 57))))), kn 14 (.pick (.t 10) (.c (.d (.v (.bool true)))) (.t 13))])
 (.cond (.t 14) (.seq (.reg [kn 2 (.mv (.c (.d (.v (.bool false)))))])
 (.ret)) (.skip)))
 (.seq (.reg [kn 15 (.mv (.t 0)), kn 16 (.s2b .im 0 (.t 15)), kn 17 (.call 104 [(.t 16), (.c (.fn 105 []))]), kn 18 (.un .not (.t 17)), kn 2 (.mv (.t 18))])
 (.ret)))
def r79 : List RC := [.t 2]

def c105 : AC :=
 .seq (.reg [kn 2 (.mv (.c (.d (.v (.bool false)))))])
 (.seq (.reg [kn 3 (.mv (.t 0)), kn 4 (.bin .lss (.t 3) (.c (.d (.v (.int .u8 97))))), kn 5 (.mv (.t 4)), ko 6 5 (.mv (.t 0)), ko 7 5 (.bin .gtr (.t 6) (.c (.d (.v (.int .u8 122))))), kn 8 (.pick (.t 5) (.c (.d (.v (.bool true)))) (.t 7)), kn 9 (.mv (.t 8)), ky 10 9 (.mv (.t 0)), ky 11 9 (.bin .lss (.t 10) (.c (.d (.v (.int .u8 65))))), ky 12 9 (.mv (.t 11)), ko 13 12 (.mv (.t 0)), ko 14 12 (.bin .gtr (.t 13) (.c (.d (.v (.int .u8 90))))), ky 15 9 (.pick (.t 12) (.c (.d (.v (.bool true)))) (.t 14)), kn 16 (.pick (.t 9) (.t 15) (.c (.d (.v (.bool false))))), kn 17 (.mv (.t 16)), ky 18 17 (.mv (.t 0)), ky 19 17 (.bin .lss (.t 18) (.c (.d (.v (.int .u8 48))))), ky 20 17 (.mv (.t 19)), ko 21 20 (.mv (.t 0)), ko 22 20 (.bin .gtr (.t 21) (.c (.d (.v (.int .u8 57))))), ky 23 17 (.pick (.t 20) (.c (.d (.v (.bool true)))) (.t 22)), kn 24 (.pick (.t 17) (.t 23) (.c (.d (.v (.bool false))))), kn 2 (.mv (.t 24))])
 (.ret))
def r105 : List RC := [.t 2]

theorem cc79 : Try.f79.body.bind (comp Try.prog (hhI 79)) = some c79 := by kernel_rfl
theorem rr79 : resC Try.prog Try.f79 = some r79 := by kernel_rfl
theorem cc105 : Try.f105.body.bind (comp Try.prog (hhI 105)) = some c105 := by kernel_rfl
theorem rr105 : resC Try.prog Try.f105 = some r105 := by kernel_rfl
theorem iodd_c (n : Int) (H : List ABlk) : ACalls Try.prog 105 [cv n] H fun v H' => v = bv (!(letF n || digF n)) ∧ H' = H := by
 refine ACalls.into Try.func105 cc105 rr105 fun hcl => ?_
 have hsp : n < 48 ∨ (48 ≤ n ∧ n ≤ 57) ∨ (57 < n ∧ n < 65) ∨ (65 ≤ n ∧ n ≤ 90) ∨ (90 < n ∧ n < 97) ∨ (97 ≤ n ∧ n ≤ 122) ∨ 122 < n := by omega
 rcases hsp with h | ⟨h, h'⟩ | ⟨h, h'⟩ | ⟨h, h'⟩ | ⟨h, h'⟩ | ⟨h, h'⟩ | h <;> (simp (maxSteps := 2000000) (disch := omega) only [Try.ntmps105, c105, r105, go_sem, seval, reduceCtorEq]; exact Ret.keep ⟨bvx (by simp [letF, digF]; omega), rfl⟩)
theorem named_c (s : ByteArray) (H : List ABlk) : ACalls Try.prog 79 [sv s] H fun v H' => v = bv (nmF s) ∧ H' = H := by
 refine ACalls.into Try.func79 cc79 rr79 fun hcl => ?_
 by_cases h1 : s.size < 1
 ·have hs := str_nil (s := s) (by omega)
  simp (maxSteps := 2000000) (disch := omega) only [Try.ntmps79, c79, r79, hs, go_sem, seval, reduceCtorEq]
  exact Ret.keep ⟨by rw [nm_f]; intro h; have := h.1; rw [size_nil] at this; omega, rfl⟩
 have hne : ¬ s = ⟨#[]⟩ := fun e => by rw [e, size_nil] at h1; omega
 by_cases h2 : 24 < s.size
 ·simp (maxSteps := 2000000) (disch := omega) only [Try.ntmps79, c79, r79, hne, go_sem, seval, reduceCtorEq]
  exact Ret.keep ⟨by rw [nm_f]; intro h; have := h.2.1; omega, rfl⟩
 by_cases h3 : chr s 0 ≤ 57
 ·simp only [chr] at h3
  simp (maxSteps := 2000000) (disch := omega) only [Try.ntmps79, c79, r79, hne, go_sem, seval, reduceCtorEq]
  exact Ret.keep ⟨by rw [nm_f]; intro h; have := h.2.2.1; simp only [letF, decide_eq_true_eq] at this; simp only [chr] at this; omega, rfl⟩
 simp only [chr] at h3
 have hsz : s.data.toList.length = s.size := rfl
 simp (maxSteps := 2000000) (disch := omega) only [Try.ntmps79, c79, r79, hne, go_sem, seval, reduceCtorEq]
 refine Cont.rel (hasB_c _ _ (by kernel_rfl) iodd_c s.data.toList (by omega) H) ?_
 rintro v H' ⟨⟨b, rfl, hb⟩, rfl⟩
 simp (maxSteps := 2000000) (disch := omega) only [go_sem, seval, reduceCtorEq]
 refine Ret.keep ⟨bvx ?_, rfl⟩
 have hb' : b = false ↔ ∀ i, i < s.size → okB (chr s i) := by
  constructor
  ·intro h i hi
   rcases Classical.em (okB (chr s i)) with h' | h'
   ·exact h'
   ·have := hb.2 ⟨i, by omega, by simp only [okB, not_or, Bool.not_eq_true] at h'; simp only [chr] at h'; rw [h'.1, h'.2]; rfl⟩
    rw [h] at this; cases this
  ·intro h
   cases e : b with
   | false => rfl
   | true =>
    obtain ⟨i, h1, h2⟩ := hb.1 e
    have h3 := h i (by omega)
    simp only [okB, chr] at h3
    rcases h3 with h3 | h3 <;> rw [h3] at h2 <;> simp at h2
 rw [Bool.not_eq_true', hb', nmF, decide_eq_true_eq]
 refine ⟨fun h => ⟨by omega, by omega, ?_, h⟩, fun h => h.2.2.2⟩
 rcases h 0 (by omega) with h' | h'
 ·exact h'
 ·simp only [digF, decide_eq_true_eq, chr] at h'; omega
end Go.Proofs.Ythifjndenhjobaa

/- Constants: do numbers fit? -/
namespace Go.Proofs.Ythifjndenhjobaa
set_option linter.unusedSimpArgs false
set_option linter.unusedVariables false
set_option maxRecDepth 20000
set_option maxHeartbeats 2000000
open Go.RowKit

theorem dcT {p : Prop} [Decidable p] (h : p) : decide p = true := decide_eq_true h
theorem dcF {p : Prop} [Decidable p] (h : ¬ p) : decide p = false := decide_eq_false h
def F32 (n : Int) : Prop := -2147483648 ≤ n ∧ n ≤ 2147483647
section
variable {n : Int} (H : List ABlk)
theorem fits_y (h1 : -2147483648 ≤ n) (h2 : n ≤ 2147483647) : ACalls Try.prog 92 [iv n, iv 32] H fun v H' => v = bv true ∧ H' = H := by
 refine ACalls.into Try.func92 cc92 rr92 fun hcl => ?_
 simp (maxSteps := 2000000) (disch := omega) only [Try.ntmps92, c92, r92, go_sem, seval, reduceCtorEq]
 exact Ret.keep ⟨rfl, rfl⟩
theorem fits_a (h1 : n < -2147483648) : ACalls Try.prog 92 [iv n, iv 32] H fun v H' => v = bv false ∧ H' = H := by
 refine ACalls.into Try.func92 cc92 rr92 fun hcl => ?_
 simp (maxSteps := 2000000) (disch := omega) only [Try.ntmps92, c92, r92, go_sem, seval, reduceCtorEq]
 exact Ret.keep ⟨rfl, rfl⟩
theorem fits_b (h1 : -2147483648 ≤ n) (h2 : 2147483647 < n) : ACalls Try.prog 92 [iv n, iv 32] H fun v H' => v = bv false ∧ H' = H := by
 refine ACalls.into Try.func92 cc92 rr92 fun hcl => ?_
 simp (maxSteps := 2000000) (disch := omega) only [Try.ntmps92, c92, r92, go_sem, seval, reduceCtorEq]
 exact Ret.keep ⟨rfl, rfl⟩
theorem fits_c (n : Int) : ACalls Try.prog 92 [iv n, iv 32] H fun v H' => (∃ B, v = bv B ∧ (B = true ↔ F32 n)) ∧ H' = H := by
 rcases Int.lt_or_le n (-2147483648) with h | h
 ·exact (fits_a H h).mono fun v H' e => ⟨⟨false, e.1, fun h' => (by cases h'), fun h' => by have := h'.1; omega⟩, e.2⟩
 rcases Int.lt_or_le 2147483647 n with h2 | h2
 ·exact (fits_b H h h2).mono fun v H' e => ⟨⟨false, e.1, fun h' => (by cases h'), fun h' => by have := h'.2; omega⟩, e.2⟩
 ·exact (fits_y H h h2).mono fun v H' e => ⟨⟨true, e.1, fun _ => ⟨h, h2⟩, fun _ => rfl⟩, e.2⟩
end
end Go.Proofs.Ythifjndenhjobaa

/- Objects: may they be? -/
namespace Go.Proofs.Ythifjndenhjobaa
set_option linter.unusedSimpArgs false
set_option linter.unusedVariables false
set_option maxRecDepth 20000
set_option maxHeartbeats 4000000
open Go.RowKit

def c38 : AC :=
 .seq (.reg [kn 2 (.bx (.t 0)), kn 3 (.bx (.t 1)), kn 4 (.mv (.c (.d (.v (.bool false)))))])
 (.seq (.reg [kn 5 (.fa (.t 2) 0), kn 6 (.ld (.t 5) 1 false), kn 7 (.fa (.t 3) 0), kn 8 (.ld (.t 7) 1 false), kn 9 (.bin .eql (.t 6) (.t 8)), kn 10 (.mv (.t 9)), ky 11 10 (.fa (.t 2) 1), ky 12 10 (.ld (.t 11) 1 false), ky 13 10 (.fa (.t 3) 1), ky 14 10 (.ld (.t 13) 1 false), ky 15 10 (.bin .eql (.t 12) (.t 14)), kn 16 (.pick (.t 10) (.t 15) (.c (.d (.v (.bool false))))), kn 17 (.mv (.t 16)), ky 18 17 (.fa (.t 2) 2), ky 19 17 (.ld (.t 18) 1 false), ky 20 17 (.fa (.t 3) 2), ky 21 17 (.ld (.t 20) 1 false), ky 22 17 (.bin .eql (.t 19) (.t 21)), kn 23 (.pick (.t 17) (.t 22) (.c (.d (.v (.bool false))))), kn 4 (.mv (.t 23))])
 (.ret))
def r38 : List RC := [.t 4]

theorem cc38 : Try.f38.body.bind (comp Try.prog (hhI 38)) = some c38 := by kernel_rfl
theorem rr38 : resC Try.prog Try.f38 = some r38 := by kernel_rfl
structure Vl.In (v : Vl) : Prop where
 f : J64 v.form
 n : J64 v.n
 t : v.text.size ≤ 140737488355328
theorem vl_key (a b : Int) (s : ByteArray) : keyOf (.agg [iv a, iv b, sv s]) = some (.agg #[.int .i64 a, .int .i64 b, .string s]) := rfl
theorem i64_min : IntKind.i64.min = -9223372036854775808 := by decide
theorem i64_max : IntKind.i64.max = 9223372036854775807 := by decide
theorem kc_i {n : Int} (h : J64 n) : kcFit (.i .i64) (.int .i64 n) = true := by
 obtain ⟨h0, h1⟩ := h
 have a : decide (IntKind.i64.min ≤ n) = true := decide_eq_true (by rw [i64_min]; exact h0)
 have b : decide (n ≤ IntKind.i64.max) = true := decide_eq_true (by rw [i64_max]; omega)
 simp only [kcFit, a, b]; rfl
theorem kc_s {s : ByteArray} (h : s.size ≤ 140737488355328) : kcFit .s (.string s) = true := decide_eq_true (by simp only [maxLen]; omega)
theorem vl_fits {v : Vl} (h : v.In) : keyFits ⟨true, [.i .i64, .i .i64, .s]⟩ (.agg #[.int .i64 v.form, .int .i64 v.n, .string v.text]) = true := by
 show (kcFit (.i .i64) (.int .i64 v.form) && (kcFit (.i .i64) (.int .i64 v.n) && (kcFit .s (.string v.text) && true))) = true
 rw [kc_i h.f, kc_i h.n, kc_s h.t]; rfl
theorem vl_keq (a b : Int) (s : ByteArray) (a' b' : Int) (s' : ByteArray) : keq (.agg #[.int .i64 a, .int .i64 b, .string s]) (.agg #[.int .i64 a', .int .i64 b', .string s']) = (decide (a = a') && decide (b = b') && decide (s = s')) := by
 simp [keq, keqL, keq1, Bool.and_assoc, Bool.beq_eq_decide_eq]
theorem Vl.eq_iff {v w : Vl} : (decide (v.form = w.form) && decide (v.n = w.n) && decide (v.text = w.text)) = decide (v = w) := by
 obtain ⟨a, b, c⟩ := v
 obtain ⟨a', b', c'⟩ := w
 by_cases h1 : a = a' <;> by_cases h2 : b = b' <;> by_cases h3 : c = c' <;> simp [h1, h2, h3]
theorem rsameV_c (v w : Vl) (H : List ABlk) : ACalls Try.prog 38 [v.av, w.av] H fun u H' => u = bv (decide (v = w)) ∧ H' = H := by
 refine ACalls.into Try.func38 cc38 rr38 fun hcl => ?_
 obtain ⟨a, b, c⟩ := v
 obtain ⟨a', b', c'⟩ := w
 have fin : ∀ {B : Bool} {l : List ABlk}, B = decide (Vl.mk a b c = Vl.mk a' b' c') → Ret [RC.t 4] H.length (fun u H' => u = bv (decide (Vl.mk a b c = Vl.mk a' b' c')) ∧ H' = H) (some (bv B)) (H ++ l) := fun {B l} h =>
  Ret.drop _ H (Nat.le_refl _) hcl (.rfl _) (by simp [refs]) ⟨by rw [h], rfl⟩
 by_cases h1 : a = a'
 ·by_cases h2 : b = b'
  ·cases h3 : decide (c = c')
   ·simp (maxSteps := 2000000) (disch := omega) only [Try.ntmps38, c38, r38, h3, go_sem, seval, reduceCtorEq]
    exact fin (by rw [dcF]; intro h; cases h; simp at h3)
   ·simp (maxSteps := 2000000) (disch := omega) only [Try.ntmps38, c38, r38, h3, go_sem, seval, reduceCtorEq]
    exact fin (by rw [dcT]; rw [h1, h2, of_decide_eq_true h3])
  ·simp (maxSteps := 2000000) (disch := omega) only [Try.ntmps38, c38, r38, go_sem, seval, reduceCtorEq]
   exact fin (by rw [dcF]; intro h; cases h; exact h2 rfl)
 ·simp (maxSteps := 2000000) (disch := omega) only [Try.ntmps38, c38, r38, go_sem, seval, reduceCtorEq]
  exact fin (by rw [dcF]; intro h; cases h; exact h1 rfl)
end Go.Proofs.Ythifjndenhjobaa

/- Objects: may they be? -/
namespace Go.Proofs.Ythifjndenhjobaa
set_option linter.unusedSimpArgs false
set_option linter.unusedVariables false
set_option maxRecDepth 20000
set_option maxHeartbeats 4000000
open Go.RowKit

def c107l0 : AC :=
 .seq (.reg [kn 20 (.bin .lss (.t 19) (.t 18))])
 (.seq (.cond (.t 20) (.skip) (.exit 0))
 (.seq (.block 1 (.seq (.reg [kn 21 (.mv (.t 19)), kn 3 (.mv (.t 21))])
 (.seq (.reg [kn 22 (.fa (.t 1) 2), kn 23 (.ld (.t 22) 1 false), kn 24 (.mv (.t 3)), kn 25 (.ix (.t 23) (.t 24)), kn 26 (.bin .lss (.t 25) (.c (.d (.v (.int .u8 32))))), kn 27 (.mv (.t 26)), ko 28 27 (.fa (.t 1) 2), ko 29 27 (.ld (.t 28) 1 false), ko 30 27 (.mv (.t 3)), ko 31 27 (.ix (.t 29) (.t 30)), ko 32 27 (.bin .eql (.t 31) (.c (.d (.v (.int .u8 34))))), kn 33 (.pick (.t 27) (.c (.d (.v (.bool true)))) (.t 32))])
 (.cond (.t 33) (.seq (.reg [kn 2 (.mv (.c (.d (.v (.bool false)))))])
 (.ret)) (.skip)))))
 (.reg [kn 34 (.bin .add (.t 19) (kc 1)), kn 19 (.mv (.t 34))])))

def c107 : AC :=
 .seq (.reg [kn 1 (.bx (.t 0)), kn 2 (.mv (.c (.d (.v (.bool false)))))])
 (.seq (.seq (.reg [kn 4 (.fa (.t 1) 0), kn 5 (.ld (.t 4) 1 false), kn 6 (.bin .eql (.t 5) (kc 6))])
 (.cond (.t 6) (.seq (.seq (.reg [kn 7 (.fa (.t 1) 1), kn 8 (.ld (.t 7) 1 false), kn 9 (.bin .neq (.t 8) (kc 0)), kn 10 (.mv (.t 9)), ko 11 10 (.fa (.t 1) 2), ko 12 10 (.ld (.t 11) 1 false), ko 13 10 (.len true (.t 12)), ko 14 10 (.bin .gtr (.t 13) (kc 64)), kn 15 (.pick (.t 10) (.c (.d (.v (.bool true)))) (.t 14))])
 (.cond (.t 15) (.seq (.reg [kn 2 (.mv (.c (.d (.v (.bool false)))))])
 (.ret)) (.skip)))
 (.seq (.seq (.reg [kn 16 (.fa (.t 1) 2), kn 17 (.ld (.t 16) 1 false), kn 18 (.len true (.t 17)), kn 19 (.mv (kc 0))])
 (.block 0 (.loop c107l0)))
 (.seq (.reg [kn 2 (.mv (.c (.d (.v (.bool true)))))])
 (.ret)))) (.skip)))
 (.seq (.seq (.reg [kn 35 (.fa (.t 1) 2), kn 36 (.ld (.t 35) 1 false), kn 37 (.bin .neq (.t 36) (.c (.d (.v (.string ⟨#[]⟩)))))])
 (.cond (.t 37) (.seq (.reg [kn 2 (.mv (.c (.d (.v (.bool false)))))])
 (.ret)) (.skip)))
 (.seq (.seq (.reg [kn 38 (.fa (.t 1) 0), kn 39 (.ld (.t 38) 1 false)])
 (.block 2 (.seq (.reg [kn 41 (.bin .eql (.t 39) (kc 1)), kn 40 (.mv (.t 41))])
 (.cond (.t 40) (.seq (.reg [kn 42 (.fa (.t 1) 1), kn 43 (.ld (.t 42) 1 false), kn 44 (.call 92 [(.t 43), (kc 32)]), kn 2 (.mv (.t 44))])
 (.ret)) (.seq (.reg [kn 46 (.bin .eql (.t 39) (kc 2)), kn 45 (.mv (.t 46))])
 (.cond (.t 45) (.seq (.reg [kn 47 (.fa (.t 1) 1), kn 48 (.ld (.t 47) 1 false), kn 49 (.bin .eql (.t 48) (kc 0)), kn 50 (.mv (.t 49)), ko 51 50 (.fa (.t 1) 1), ko 52 50 (.ld (.t 51) 1 false), ko 53 50 (.bin .eql (.t 52) (kc 1)), kn 54 (.pick (.t 50) (.c (.d (.v (.bool true)))) (.t 53)), kn 2 (.mv (.t 54))])
 (.ret)) (.seq (.reg [kn 56 (.bin .eql (.t 39) (kc 3)), kn 55 (.mv (.t 56))])
 (.cond (.t 55) (.seq (.reg [kn 57 (.fa (.t 1) 1), kn 58 (.ld (.t 57) 1 false), kn 59 (.fa (.t 1) 1), kn 60 (.ld (.t 59) 1 false), kn 61 (.cvi .u8 (.t 60)), kn 62 (.cvi .i64 (.t 61)), kn 63 (.bin .eql (.t 58) (.t 62)), kn 2 (.mv (.t 63))])
 (.ret)) (.seq (.reg [kn 65 (.bin .eql (.t 39) (kc 4)), kn 64 (.mv (.t 65))])
 (.cond (.t 64) (.seq (.reg [kn 66 (.fa (.t 1) 1), kn 67 (.ld (.t 66) 1 false), kn 68 (.fa (.t 1) 1), kn 69 (.ld (.t 68) 1 false), kn 70 (.cvi .u32 (.t 69)), kn 71 (.cvi .i64 (.t 70)), kn 72 (.bin .eql (.t 67) (.t 71)), kn 2 (.mv (.t 72))])
 (.ret)) (.skip)))))))))))
 (.seq (.reg [kn 73 (.fa (.t 1) 0), kn 74 (.ld (.t 73) 1 false), kn 75 (.bin .eql (.t 74) (kc 5)), kn 76 (.mv (.t 75)), ky 77 76 (.fa (.t 1) 1), ky 78 76 (.ld (.t 77) 1 false), ky 79 76 (.bin .eql (.t 78) (kc 0)), kn 80 (.pick (.t 76) (.t 79) (.c (.d (.v (.bool false))))), kn 2 (.mv (.t 80))])
 (.ret)))))
def r107 : List RC := [.t 2]

theorem cc107 : Try.f107.body.bind (comp Try.prog (hhI 107)) = some c107 := by kernel_rfl
theorem rr107 : resC Try.prog Try.f107 = some r107 := by kernel_rfl
def ObR (f : Fc) (o : Ob) (H : List ABlk) (v : AV) (H' : List ABlk) : Prop := (∃ B, v = bv B ∧ (B = true ↔ ObP f.types o)) ∧ H' = H
abbrev zeV : Vl := ⟨0, 0, se⟩
theorem cgood_c {v : Vl} (hv : v.In) (H : List ABlk) : ACalls Try.prog 107 [v.av] H fun u H' => (∃ B, u = bv B ∧ (B = true ↔ VlP v)) ∧ H' = H := by
 refine ACalls.into Try.func107 cc107 rr107 fun hcl => ?_
 obtain ⟨⟨f0, f1⟩, ⟨n0, n1⟩, ht⟩ := hv
 obtain ⟨a, n, s⟩ := v
 simp only at f0 f1 n0 n1 ht
 have fin : ∀ {B : Bool} {l : List ABlk}, (B = true ↔ VlP ⟨a, n, s⟩) → Ret [RC.t 2] H.length (fun u H' => (∃ B, u = bv B ∧ (B = true ↔ VlP ⟨a, n, s⟩)) ∧ H' = H) (some (bv B)) (H ++ l) := fun {B l} h =>
  Ret.drop _ H (Nat.le_refl _) hcl (.rfl _) (by simp [refs]) ⟨⟨B, rfl, h⟩, rfl⟩
 have hP : VlP ⟨a, n, s⟩ ↔ (a = 6 ∧ n = 0 ∧ s.size ≤ 64 ∧ plainB s) ∨ (s = se ∧ ((a = 1 ∧ -2147483648 ≤ n ∧ n ≤ 2147483647) ∨ (a = 2 ∧ (n = 0 ∨ n = 1)) ∨ (a = 3 ∧ 0 ≤ n ∧ n < 256) ∨ (a = 4 ∧ 0 ≤ n ∧ n < 4294967296) ∨ (a = 5 ∧ n = 0))) := Iff.rfl
 have nof : ∀ {p : Prop}, ¬ p → (false = true ↔ p) := fun h => ⟨fun h' => (by cases h'), fun h' => absurd h' h⟩
 by_cases a6 : a = 6
 ·subst a6
  by_cases hn : n = 0
  rotate_left
  ·simp (maxSteps := 2000000) (disch := omega) only [Try.ntmps107, c107, r107, go_sem, seval, reduceCtorEq]
   exact fin (nof fun h => by rcases hP.1 h with h | ⟨_, h | h | h | h | h⟩ <;> omega)
  by_cases hs : 64 < s.size
  ·simp (maxSteps := 2000000) (disch := omega) only [Try.ntmps107, c107, r107, go_sem, seval, reduceCtorEq]
   exact fin (nof fun h => by rcases hP.1 h with h | ⟨_, h | h | h | h | h⟩ <;> omega)
  simp (maxSteps := 2000000) (disch := omega) only [Try.ntmps107, c107, r107, go_sem, seval, reduceCtorEq]
  obtain ⟨S, hS⟩ : ∃ S : Nat → List AV, ∀ i, S i = [.any, .ptr H.length 0, bv false, .any, .any, .any, .any, .any, .any, .any, .any, .any, .any, .any, .any, .any, .any, .any, iv s.size, iv i] ++ List.replicate 61 .any := ⟨_, fun _ => rfl⟩
  refine W.loopG (γ := Nat) (fun i => s.size - i) S (fun _ => H ++ [.cells [iv 6, iv n, sv s]]) (fun i => i ≤ s.size ∧ ∀ j, j < i → 32 ≤ chr s j ∧ chr s j ≠ 34) 0 (Wk.slots (by rw [hS]; exact WkL.tail 20 _ rfl (by simp only [List.take_succ_cons, List.take_zero]; repeat' first | exact WkL.nil | refine WkL.cons (Wk1.rfl _) ?_ | refine WkL.cons Wk1.esl ?_ | refine WkL.cons (Wk1.gsl _ _ _) ?_ | refine WkL.cons (Wk1.any _) ?_))) ⟨by omega, fun j hj => by omega⟩ (fun i hi => ?_)
  obtain ⟨q1, q2⟩ := hi
  simp (maxSteps := 2000000) (disch := omega) only [c107l0, hS, go_sem, seval, reduceCtorEq]
  refine Br.dec (fun hc => ?_) (fun hc => ?_) <;> simp (maxSteps := 2000000) (disch := omega) only [go_sem, seval, reduceCtorEq]
  ·by_cases k1 : chr s i < 32
   ·have k1' := k1
    simp only [chr] at k1'
    simp (maxSteps := 2000000) (disch := omega) only [go_sem, seval, reduceCtorEq]
    exact fin (nof fun h => by rcases hP.1 h with h | ⟨_, h | h | h | h | h⟩ <;> first | omega | (have := (h.2.2.2 i (by omega)).1; omega))
   ·by_cases k2 : chr s i = 34
    ·simp only [chr] at k1 k2
     simp (maxSteps := 2000000) (disch := omega) only [go_sem, seval, reduceCtorEq]
     exact fin (nof fun h => by rcases hP.1 h with h | ⟨_, h | h | h | h | h⟩ <;> first | omega | (have := (h.2.2.2 i (by omega)).2; simp only [chr] at this; omega))
    ·have k1' := k1
     have k2' := k2
     simp only [chr] at k1' k2'
     simp (maxSteps := 2000000) (disch := omega) only [go_sem, seval, reduceCtorEq]
     refine Nxt.mk (i + 1) (by omega) (Wk.slots (by rw [hS]; exact WkL.tail 20 _ rfl (by simp only [List.take_succ_cons, List.take_zero]; repeat' first | exact WkL.nil | refine WkL.cons (Wk1.rfl _) ?_ | refine WkL.cons Wk1.esl ?_ | refine WkL.cons (Wk1.gsl _ _ _) ?_ | refine WkL.cons (Wk1.any _) ?_))) ⟨by omega, fun j hj => ?_⟩
     rcases Nat.lt_or_ge j i with h' | h'
     ·exact q2 j h'
     ·rw [show j = i by omega]; exact ⟨by omega, k2⟩
  ·exact fin ⟨fun _ => hP.2 (.inl ⟨rfl, hn, by omega, fun j hj => q2 j (by omega)⟩), fun _ => rfl⟩
 ·cases hse : decide (s = se) with
  | false =>
   simp (maxSteps := 2000000) (disch := omega) only [Try.ntmps107, c107, r107, hse, go_sem, seval, reduceCtorEq]
   exact fin (nof fun h => by
    rcases hP.1 h with h | ⟨h, _⟩
    ·omega
    ·simp [h] at hse)
  | true =>
   have hse' := of_decide_eq_true hse
   by_cases a1 : a = 1
   ·simp (maxSteps := 2000000) (disch := omega) only [Try.ntmps107, c107, r107, hse, go_sem, seval, reduceCtorEq]
    refine Cont.rel (fits_c _ _) ?_
    rintro v H' ⟨⟨B, rfl, hB⟩, rfl⟩
    simp (maxSteps := 2000000) (disch := omega) only [go_sem, seval, reduceCtorEq]
    exact fin (hB.trans ⟨fun h => hP.2 (.inr ⟨hse', .inl ⟨a1, h⟩⟩), fun h => by rcases hP.1 h with h | ⟨_, h | h | h | h | h⟩ <;> first | omega | exact h.2⟩)
   by_cases a2 : a = 2
   ·by_cases n0' : n = 0
    ·simp (maxSteps := 2000000) (disch := omega) only [Try.ntmps107, c107, r107, hse, go_sem, seval, reduceCtorEq]
     exact fin ⟨fun _ => hP.2 (.inr ⟨hse', .inr (.inl ⟨a2, .inl n0'⟩)⟩), fun _ => rfl⟩
    by_cases n1' : n = 1
    ·simp (maxSteps := 2000000) (disch := omega) only [Try.ntmps107, c107, r107, hse, go_sem, seval, reduceCtorEq]
     exact fin ⟨fun _ => hP.2 (.inr ⟨hse', .inr (.inl ⟨a2, .inr n1'⟩)⟩), fun _ => rfl⟩
    ·simp (maxSteps := 2000000) (disch := omega) only [Try.ntmps107, c107, r107, hse, go_sem, seval, reduceCtorEq]
     exact fin (nof fun h => by rcases hP.1 h with h | ⟨_, h | h | h | h | h⟩ <;> omega)
   by_cases a3 : a = 3
   ·by_cases hr : n = n % 256
    ·simp (maxSteps := 2000000) (disch := omega) only [Try.ntmps107, c107, r107, hse, go_sem, seval, reduceCtorEq]
     exact fin ⟨fun _ => hP.2 (.inr ⟨hse', .inr (.inr (.inl ⟨a3, by omega, by omega⟩))⟩), fun _ => rfl⟩
    ·simp (maxSteps := 2000000) (disch := omega) only [Try.ntmps107, c107, r107, hse, go_sem, seval, reduceCtorEq]
     exact fin (nof fun h => by rcases hP.1 h with h | ⟨_, h | h | h | h | h⟩ <;> omega)
   by_cases a4 : a = 4
   ·by_cases hr : n = n % 4294967296
    ·simp (maxSteps := 2000000) (disch := omega) only [Try.ntmps107, c107, r107, hse, go_sem, seval, reduceCtorEq]
     exact fin ⟨fun _ => hP.2 (.inr ⟨hse', .inr (.inr (.inr (.inl ⟨a4, by omega, by omega⟩)))⟩), fun _ => rfl⟩
    ·simp (maxSteps := 2000000) (disch := omega) only [Try.ntmps107, c107, r107, hse, go_sem, seval, reduceCtorEq]
     exact fin (nof fun h => by rcases hP.1 h with h | ⟨_, h | h | h | h | h⟩ <;> omega)
   by_cases a5 : a = 5
   ·by_cases hr : n = 0
    ·simp (maxSteps := 2000000) (disch := omega) only [Try.ntmps107, c107, r107, hse, go_sem, seval, reduceCtorEq]
     exact fin ⟨fun _ => hP.2 (.inr ⟨hse', .inr (.inr (.inr (.inr ⟨a5, hr⟩)))⟩), fun _ => rfl⟩
    ·simp (maxSteps := 2000000) (disch := omega) only [Try.ntmps107, c107, r107, hse, go_sem, seval, reduceCtorEq]
     exact fin (nof fun h => by rcases hP.1 h with h | ⟨_, h | h | h | h | h⟩ <;> omega)
   ·simp (maxSteps := 2000000) (disch := omega) only [Try.ntmps107, c107, r107, hse, go_sem, seval, reduceCtorEq]
    exact fin (nof fun h => by rcases hP.1 h with h | ⟨_, h | h | h | h | h⟩ <;> omega)
end Go.Proofs.Ythifjndenhjobaa
