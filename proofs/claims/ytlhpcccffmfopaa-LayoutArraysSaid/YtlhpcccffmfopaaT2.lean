/- Tables of types: what they are made of; alike, copied. -/
import Derived.Test.YtlhpcccffmfopaaT1
namespace Go.Proofs.Ytlhpcccffmfopaa
set_option linter.unusedSectionVars false
set_option linter.unusedSimpArgs false
set_option linter.unusedVariables false
set_option maxRecDepth 20000
set_option maxHeartbeats 4000000
open Go.RowKit

structure Fd where
  name : ByteArray
  exp : Bool
  typ : Int
  deriving DecidableEq
structure Pm where
  var : Bool
  typ : Int
  deriving DecidableEq
structure Ty where
  form : Int
  mod : ByteArray
  name : ByteArray
  len : Int
  elem : Int
  base : Int
  fields : List Fd
  params : List Pm
  result : Int
  desc : Int
  deriving DecidableEq
instance : Inhabited Fd := ⟨⟨⟨#[]⟩, false, 0⟩⟩
instance : Inhabited Pm := ⟨⟨false, 0⟩⟩
instance : Inhabited Ty := ⟨⟨0, ⟨#[]⟩, ⟨#[]⟩, 0, 0, 0, [], [], 0, 0⟩⟩
abbrev se : ByteArray := ⟨#[]⟩
def Fd.c (f : Fd) : List Dat := [.v (.string f.name), .v (.bool f.exp), .v (.int .i64 f.typ)]
def Pm.c (p : Pm) : List Dat := [.v (.bool p.var), .v (.int .i64 p.typ)]
def Ty.c (x : Ty) : List Dat := [.v (.int .i64 x.form), .v (.string x.mod), .v (.string x.name), .v (.int .i64 x.len), .v (.int .i64 x.elem), .v (.int .i64 x.base), .sl (x.fields.map Fd.c), .sl (x.params.map Pm.c), .v (.int .i64 x.result), .v (.int .i64 x.desc)]
abbrev fdv (l : List Fd) : AV := .d (.sl (l.map Fd.c))
abbrev pmv (l : List Pm) : AV := .d (.sl (l.map Pm.c))
abbrev tv (t : List Ty) : AV := .d (.sl (t.map Ty.c))
def Ty.cs (x : Ty) : List AV := [iv x.form, sv x.mod, sv x.name, iv x.len, iv x.elem, iv x.base, fdv x.fields, pmv x.params, iv x.result, iv x.desc]
abbrev Ty.av (x : Ty) : AV := .agg x.cs
theorem Ty.cs_c (x : Ty) : x.c.map AV.d = x.cs := rfl
structure Ty.Ok (x : Ty) : Prop where
  f : x.fields.length ≤ 140737488355328
  p : x.params.length ≤ 140737488355328
  m : x.mod.size ≤ 140737488355328
  n : x.name.size ≤ 140737488355328
def TOk (t : List Ty) : Prop := t.length ≤ 140737488355328 ∧ ∀ x ∈ t, x.Ok
def tyAt (t : List Ty) (a : Int) : Ty := t.getD a.toNat default
def fdAt (l : List Fd) (a : Int) : Fd := l.getD a.toNat default
def pmAt (l : List Pm) (a : Int) : Pm := l.getD a.toNat default
theorem tyAt_n (t : List Ty) (i : Nat) : tyAt t (i : Int) = t.getD i default := rfl
theorem tyAt_mem {t : List Ty} {a : Int} (h0 : 0 ≤ a) (h : a < t.length) : tyAt t a ∈ t := by
  rw [tyAt, List.getD_eq_getElem?_getD, List.getElem?_eq_getElem (by omega)]
  exact List.getElem_mem _
theorem TOk.at_ {t : List Ty} (h : TOk t) {a : Int} (h0 : 0 ≤ a) (h1 : a < t.length) : (tyAt t a).Ok := h.2 _ (tyAt_mem h0 h1)
theorem iaA_map {α : Type} (f : α → List Dat) (d : α) {l : List α} {a : Int} {n : Nat} (h0 : 0 ≤ a) (h : a < l.length) (hn : (f (l.getD a.toNat d)).length = n) : iaA (.d (.sl (l.map f))) a n = some (.ip (f (l.getD a.toNat d))) := by
  simp only [iaA]
  have e : (l.map f).getD a.toNat [] = f (l.getD a.toNat d) := by
    rw [List.getD_eq_getElem?_getD, List.getD_eq_getElem?_getD, List.getElem?_map, List.getElem?_eq_getElem (by omega)]; rfl
  rw [if_pos ⟨by omega, by simpa using h, by rw [e]; exact hn⟩, e]
theorem iaA_ty {t : List Ty} {a : Int} (h0 : 0 ≤ a) (h : a < t.length) : iaA (.d (.sl (t.map Ty.c))) a 10 = some (.ip (tyAt t a).c) := iaA_map Ty.c default h0 h rfl
theorem iaA_fd {t : List Fd} {a : Int} (h0 : 0 ≤ a) (h : a < t.length) : iaA (.d (.sl (t.map Fd.c))) a 3 = some (.ip (fdAt t a).c) := iaA_map Fd.c default h0 h rfl
theorem iaA_pm {t : List Pm} {a : Int} (h0 : 0 ≤ a) (h : a < t.length) : iaA (.d (.sl (t.map Pm.c))) a 2 = some (.ip (pmAt t a).c) := iaA_map Pm.c default h0 h rfl
theorem iaA_gmap {α : Type} (f : α → List Dat) (d : α) {b n : Nat} {l : List α} {a : Int} (h0 : 0 ≤ a) (h : a < l.length) : iaA (.gsl b n (l.map f)) a n = some (.ip (f (l.getD a.toNat d))) := by
  simp only [iaA]
  have e : (l.map f).getD a.toNat [] = f (l.getD a.toNat d) := by
    rw [List.getD_eq_getElem?_getD, List.getD_eq_getElem?_getD, List.getElem?_map, List.getElem?_eq_getElem (by omega)]; rfl
  rw [if_pos ⟨by omega, by simpa using h, trivial⟩, e]

/-! small laws -/
theorem FrOk.at_ {w : List Nat} {H G : List ABlk} (b : Nat) (x : ABlk) (hb : b ∈ w) (hG : G = H.set b x) : FrOk w [] H G G := hG ▸ .set hb
theorem all_map {α : Type} (f : α → List Dat) (n : Nat) (hf : ∀ a, (f a).length = n) (l : List α) : ((l.map f).all fun e => e.length == n) = true := by
  rw [List.all_eq_true]
  intro e he
  obtain ⟨a, _, rfl⟩ := List.mem_map.1 he
  rw [hf]; exact beq_self_eq_true _
theorem all_fd (l : List Fd) : ((l.map Fd.c).all fun e => e.length == 3) = true := all_map Fd.c 3 (fun _ => rfl) l
theorem all_pm (l : List Pm) : ((l.map Pm.c).all fun e => e.length == 2) = true := all_map Pm.c 2 (fun _ => rfl) l
theorem all_ty (l : List Ty) : ((l.map Ty.c).all fun e => e.length == 10) = true := all_map Ty.c 10 (fun _ => rfl) l
theorem refsL_app : ∀ (a b : List AV), refs.refsL (a ++ b) = refs.refsL a ++ refs.refsL b
  | [], b => rfl
  | x :: a, b => by simp only [List.cons_append, refs.refsL, refsL_app a b, List.append_assoc]
theorem refsL_any : ∀ (n : Nat), refs.refsL (List.replicate n .any) = []
  | 0 => rfl
  | n + 1 => by simp only [List.replicate_succ, refs.refsL, refsL_any n]; rfl
theorem getD_take {α : Type} {d : α} {l : List α} {i : Nat} (h : i < l.length) : l.take (i + 1) = l.take i ++ [l.getD i d] := by
  rw [List.take_add_one, List.getElem?_eq_getElem h, List.getD_eq_getElem?_getD, List.getElem?_eq_getElem h]; rfl
theorem ext_at {α : Type} {d : α} {a b : List α} (hl : a.length = b.length) (h : ∀ i, i < a.length → a.getD i d = b.getD i d) : a = b := by
  refine List.ext_getElem hl fun i h1 h2 => ?_
  have := h i h1
  rwa [List.getD_eq_getElem?_getD, List.getD_eq_getElem?_getD, List.getElem?_eq_getElem h1, List.getElem?_eq_getElem h2] at this

/-- LARGE. -/
def Small (t : List Ty) : Prop := t.length ≤ 300 ∧ ∀ x ∈ t, x.fields.length ≤ 3000 ∧ x.params.length ≤ 3000 ∧ x.name.size ≤ 150049 ∧ x.mod.size ≤ 150049
theorem large_c {t : List Ty} (ht : TOk t) (H : List ABlk) : ACalls Try.prog 12 [tv t] H fun v H' => (∃ b, v = bv b ∧ (b = false → Small t)) ∧ H' = H := by
  refine ACalls.into Try.func12 cc12 rr12 fun hcl => ?_
  have htl := ht.1
  by_cases h1 : 300 < t.length
  · simp (maxSteps := 2000000) (disch := omega) only [Try.ntmps12, c12, r12, List.length_map, go_sem, eq_self, if_true, if_false, reduceCtorEq, Int.reduceToNat, Int.reducePow, Nat.reducePow, Nat.reduceMul, Int.reduceLT, Int.reduceLE, Nat.reduceAdd, Nat.reduceLeDiff, Nat.reduceBEq, Nat.reduceSub, Int.reduceSub, Int.reduceMul, Int.reduceNeg, Int.reduceAdd]
    exact Ret.keep ⟨⟨true, rfl, fun h => by cases h⟩, rfl⟩
  simp (maxSteps := 2000000) (disch := omega) only [Try.ntmps12, c12, r12, List.length_map, go_sem, eq_self, if_true, if_false, reduceCtorEq, Int.reduceToNat, Int.reducePow, Nat.reducePow, Nat.reduceMul, Int.reduceLT, Int.reduceLE, Nat.reduceAdd, Nat.reduceLeDiff, Nat.reduceBEq, Nat.reduceSub, Int.reduceSub, Int.reduceMul, Int.reduceNeg, Int.reduceAdd]
  refine W.loopG (γ := Nat × Nat) (fun g => t.length - g.1) (fun g => [tv t, .any, .any, iv g.2, iv g.1] ++ List.replicate 42 .any) (fun _ => H) (fun g => g.1 ≤ t.length ∧ g.2 ≤ 3000 ∧ ∀ j, j < g.1 → (t.getD j default).fields.length ≤ 3000 ∧ (t.getD j default).params.length ≤ 3000 ∧ (t.getD j default).name.size ≤ 150049 ∧ (t.getD j default).mod.size ≤ 150049) (0, 0) (Wk.slots (by (try simp only [List.replicate, List.cons_append, List.nil_append]); repeat' first | exact WkL.nil | refine WkL.cons (Wk1.rfl _) ?_ | refine WkL.cons Wk1.esl ?_ | refine WkL.cons (Wk1.gsl _ _ _) ?_ | refine WkL.cons (Wk1.any _) ?_)) ⟨by omega, by omega, fun j hj => by omega⟩ (fun g hg => ?_)
  obtain ⟨i, n⟩ := g
  obtain ⟨q1, q2, q3⟩ := hg
  simp only at q1 q2 q3
  simp (maxSteps := 2000000) (disch := omega) only [c12l0, List.length_map, go_sem, eq_self, if_true, if_false, reduceCtorEq, Int.reduceToNat, Int.reducePow, Nat.reducePow, Nat.reduceMul, Int.reduceLT, Int.reduceLE, Nat.reduceAdd, Nat.reduceLeDiff, Nat.reduceBEq, Nat.reduceSub, Int.reduceSub, Int.reduceMul, Int.reduceNeg, Int.reduceAdd]
  refine Br.dec (fun hc => ?_) (fun hc => ?_) <;> simp (maxSteps := 2000000) (disch := omega) only [go_sem, eq_self, if_true, if_false, reduceCtorEq, Int.reduceToNat, Int.reducePow, Nat.reducePow, Nat.reduceMul, Int.reduceLT, Int.reduceLE, Nat.reduceAdd, Nat.reduceLeDiff, Nat.reduceBEq, Nat.reduceSub, Int.reduceSub, Int.reduceMul, Int.reduceNeg, Int.reduceAdd]
  · refine W.pchain follows (by decide +kernel) ?_
    have hia := iaA_ty (t := t) (a := i) (by omega) (by omega)
    obtain ⟨x1, x2, x3, x4⟩ := ht.at_ (a := i) (by omega) (by omega)
    have e : tyAt t (i : Int) = t.getD i default := rfl
    rw [e] at hia x1 x2 x3 x4
    generalize hx : t.getD i default = x at *
    simp (maxSteps := 2000000) (disch := omega) only [hia, Ty.c, List.length_map, go_sem, eq_self, if_true, if_false, reduceCtorEq, Int.reduceToNat, Int.reducePow, Nat.reducePow, Nat.reduceMul, Int.reduceLT, Int.reduceLE, Nat.reduceAdd, Nat.reduceLeDiff, Nat.reduceBEq, Nat.reduceSub, Int.reduceSub, Int.reduceMul, Int.reduceNeg, Int.reduceAdd]
    refine Br.dec (fun hc2 => ?_) (fun hc2 => ?_) <;> simp (maxSteps := 2000000) (disch := omega) only [go_sem, eq_self, if_true, if_false, reduceCtorEq, Int.reduceToNat, Int.reducePow, Nat.reducePow, Nat.reduceMul, Int.reduceLT, Int.reduceLE, Nat.reduceAdd, Nat.reduceLeDiff, Nat.reduceBEq, Nat.reduceSub, Int.reduceSub, Int.reduceMul, Int.reduceNeg, Int.reduceAdd]
    · exact Ret.keep ⟨⟨true, rfl, fun h => by cases h⟩, rfl⟩
    · obtain ⟨m, hm⟩ : ∃ m : Nat, (m : Int) = n + (x.fields.length + x.params.length + x.name.size / 50 + x.mod.size / 50) := ⟨n + (x.fields.length + x.params.length + x.name.size / 50 + x.mod.size / 50), by omega⟩
      refine Nxt.mk (i + 1, m) (by simp only; omega) (Wk.slots ?_) ⟨by simp only; omega, by simp only; omega, fun j hj => ?_⟩
      · simp only [← hm]
        exact (by (try simp only [List.replicate, List.cons_append, List.nil_append]); repeat' first | exact WkL.nil | refine WkL.cons (Wk1.rfl _) ?_ | refine WkL.cons Wk1.esl ?_ | refine WkL.cons (Wk1.gsl _ _ _) ?_ | refine WkL.cons (Wk1.any _) ?_)
      · rcases Nat.lt_or_ge j i with h' | h'
        · exact q3 j h'
        · rw [show j = i by simp only at hj; omega, hx]; omega
  · refine Ret.keep ⟨⟨false, rfl, fun _ => ⟨by omega, fun x hx => ?_⟩⟩, rfl⟩
    obtain ⟨j, hj, rfl⟩ := List.getElem_of_mem hx
    have := q3 j (by omega)
    rwa [List.getD_eq_getElem?_getD, List.getElem?_eq_getElem hj] at this
end Go.Proofs.Ytlhpcccffmfopaa
