/- The reference's trimmer. -/
import Derived.Test.YthifjndenhjobaaZJ7
import Derived.Test.YthifjndenhjobaaZCodeR
import Derived.Test.YthifjndenhjobaaZI4
namespace Go.Proofs.Ythifjndenhjobaa
set_option linter.unusedSimpArgs false
set_option linter.unusedVariables false
set_option maxRecDepth 20000
set_option maxHeartbeats 4000000
open Go.RowKit

inductive Vs (R : List Int → Int → List Int → Prop) (kd : Int → List Int) : List Int → List Int → List Int → Prop
 | nil {o : List Int} : Vs R kd o [] o
 | cons {o o1 o' : List Int} {a : Int} {l : List Int} : R o a o1 → Vis kd o [a] o1 → Vs R kd o1 l o' → Vs R kd o (a :: l) o'
section
variable {R : List Int → Int → List Int → Prop} {kd : Int → List Int}
theorem Vs.app {l1 l2 : List Int} : ∀ {o o' : List Int}, Vs R kd o (l1 ++ l2) o' → ∃ o1, Vs R kd o l1 o1 ∧ Vs R kd o1 l2 o' := by
 induction l1 with
 | nil => exact fun h => ⟨_, .nil, h⟩
 | cons a l1 ih =>
  intro o o' h
  cases h with
  | cons h1 h2 h3 =>
   obtain ⟨o1, k1, k2⟩ := ih h3
   exact ⟨o1, .cons h1 h2 k1, k2⟩
theorem Vs.vis {o l o' : List Int} (h : Vs R kd o l o') : Vis kd o l o' := by
 induction h with
 | nil => exact .nil
 | cons _ h2 _ ih => exact Vis.app h2 ih
theorem Vs.steps {o l o' : List Int} (h : Vs R kd o l o') : ∃ os : Nat → List Int, os 0 = o ∧ os l.length = o' ∧ (∀ i, i < l.length → R (os i) (l.getD i 0) (os (i + 1)) ∧ Vis kd (os i) [l.getD i 0] (os (i + 1))) ∧ ∀ i, i ≤ l.length → Vis kd (os i) (l.drop i) o' := by
 induction h with
 | @nil o => exact ⟨fun _ => o, rfl, rfl, fun i h => (by cases h), fun i h => by rw [List.drop_nil]; exact .nil⟩
 | @cons o o1 o' a l h1 h2 h3 ih =>
  obtain ⟨os, e0, en, hs, hv⟩ := ih
  refine ⟨fun i => match i with | 0 => o | i + 1 => os i, rfl, en, fun i hi => ?_, fun i hi => ?_⟩
  ·cases i with
   | zero =>
    show R o a (os 0) ∧ Vis kd o [a] (os 0)
    rw [e0]; exact ⟨h1, h2⟩
   | succ i => exact hs i (by simpa using hi)
  ·cases i with
   | zero => exact Vis.app h2 h3.vis
   | succ i => exact hv i (by simpa using hi)
theorem vs_of {n : Int} (hk : ∀ a, 7 ≤ a → a < n → ∀ k ∈ kd a, 0 ≤ k ∧ k < n) (h0 : ∀ {o : List Int} {a : Int}, 0 ≤ a → a < n → (∀ x ∈ o, 7 ≤ x ∧ x < n) → o.Nodup → a < 7 ∨ a ∈ o → R o a o)
 (body : ∀ {o o1 : List Int} {a : Int}, 7 ≤ a → a < n → a ∉ o → (∀ x ∈ o, 7 ≤ x ∧ x < n) → o.Nodup → Vs R kd (o ++ [a]) (kd a) o1 → R o a o1)
 {o l o' : List Int} (h : Vis kd o l o') : (∀ a ∈ l, 0 ≤ a ∧ a < n) → (∀ x ∈ o, 7 ≤ x ∧ x < n) → o.Nodup → Vs R kd o l o' := by
 induction h with
 | nil => exact fun _ _ _ => .nil
 | @skip o l o' a h1 h2 ih =>
  intro hl ho hd
  have ha := hl a List.mem_cons_self
  exact .cons (h0 ha.1 ha.2 ho hd h1) (.skip h1 .nil) (ih (fun b hb => hl b (List.mem_cons_of_mem _ hb)) ho hd)
 | @go o l o1 o' a h1 h2 h3 h4 ih1 ih2 =>
  intro hl ho hd
  have ha := hl a List.mem_cons_self
  have ho2 : ∀ x ∈ o ++ [a], 7 ≤ x ∧ x < n := fun x hx => by
   rcases List.mem_append.1 hx with hx | hx
   ·exact ho x hx
   ·rw [List.mem_singleton.1 hx]; exact ⟨h1, ha.2⟩
  have hd2 : (o ++ [a]).Nodup := by
   rw [List.nodup_append]
   refine ⟨hd, by simp, fun x hx y hy => ?_⟩
   rw [List.mem_singleton] at hy
   subst hy
   exact fun e => h2 (e ▸ hx)
  have hk' := hk a h1 ha.2
  have r := ih1 hk' ho2 hd2
  have ho1 : ∀ x ∈ o1, 7 ≤ x ∧ x < n := fun x hx =>
   ⟨h3.ge (fun b hb => (ho2 b hb).1) x hx, h3.all (P := fun b => b < n) (fun b b7 bl k hk2 _ => (hk b b7 bl k hk2).2) (fun b hb => (ho2 b hb).2) (fun b hb _ => (hk' b hb).2) x hx⟩
  exact .cons (body h1 ha.2 h2 ho hd r) (.go h1 h2 h3 .nil) (ih2 (fun b hb => hl b (List.mem_cons_of_mem _ hb)) ho1 (h3.nodup hd2))
end

def tkR (x : Ty) (fb pb : Nat) : List AV := [iv x.form, sv x.mod, sv x.name, iv x.len, iv x.elem, iv x.base, .hsl fb 0 x.fields.length x.fields.length 3, .hsl pb 0 x.params.length x.params.length 2, iv x.result, iv x.desc]
def tcR (t : List Ty) (fb pb : Nat → Nat) : List AV := ((List.range t.length).map fun a => tkR (t.getD a default) (fb a) (pb a)).flatten
theorem tkR_all (t : List Ty) (fb pb : Nat → Nat) (l : List Nat) : ∀ x ∈ l.map fun a => tkR (t.getD a default) (fb a) (pb a), x.length = 10 := fun x hx => by
 obtain ⟨y, _, rfl⟩ := List.mem_map.1 hx; rfl
theorem tcR_len (t : List Ty) (fb pb : Nat → Nat) : (tcR t fb pb).length = t.length * 10 := by
 rw [tcR, flt_len (tkR_all t fb pb _), List.length_map, List.length_range]
theorem flt_get {l : List (List AV)} {sz i : Nat} {e : List AV} (h : ∀ x ∈ l, x.length = sz) (hi : l[i]? = some e) : (l.flatten.drop (i * sz)).take sz = e := by
 induction l generalizing i with
 | nil => cases hi
 | cons x l ih =>
  have hx := h x List.mem_cons_self
  cases i with
  | zero =>
   cases hi
   rw [Nat.zero_mul, List.drop_zero, List.flatten_cons, ← hx, List.take_left]
  | succ i =>
   rw [List.flatten_cons, List.drop_append, List.drop_eq_nil_of_le (by rw [hx, Nat.succ_mul]; omega), List.nil_append, hx, show (i + 1) * sz - sz = i * sz by rw [Nat.succ_mul]; omega]
   exact ih (fun y hy => h y (List.mem_cons_of_mem _ hy)) hi
theorem tcR_at {t : List Ty} {fb pb : Nat → Nat} {a : Nat} (h : a < t.length) : ((tcR t fb pb).drop (a * 10)).take 10 = tkR (t.getD a default) (fb a) (pb a) :=
 flt_get (tkR_all t fb pb _) (by simp [h])
def plR (o : List Int) (n : Nat) : List AV := (List.range n).map fun a : Nat => iv (if (a : Int) ∈ o then pl o a else 0)
theorem plR_len (o : List Int) (n : Nat) : (plR o n).length = n := by simp [plR]
theorem plR_at {o : List Int} {n a : Nat} (h : a < n) : (plR o n)[a]? = some (iv (if (a : Int) ∈ o then pl o a else 0)) := by
 simp [plR, h]
theorem plR_set {o : List Int} {n : Nat} {a : Int} (h7 : 7 ≤ a) (h : a < n) (ha : a ∉ o) : (plR o n).take a.toNat ++ [iv ((7 : Int) + o.length)] ++ (plR o n).drop (a.toNat + 1) = plR (o ++ [a]) n := by
 have e : ∀ (l : List AV) (k : Nat) (v : AV), k < l.length → l.take k ++ [v] ++ l.drop (k + 1) = l.set k v := fun l k v hk => by
  rw [List.set_eq_take_append_cons_drop, if_pos hk, List.append_assoc]; rfl
 rw [e _ _ _ (by rw [plR_len]; omega)]
 refine List.ext_getElem? fun i => ?_
 by_cases hi : i < n
 ·rw [plR_at hi, List.getElem?_set, plR_at hi, plR_len]
  by_cases e : a.toNat = i
  ·have e' : (i : Int) = a := by omega
   rw [if_pos e, if_pos (by omega), e', if_pos (by simp), pl_ge h7, List.idxOf_append, if_neg ha]
   simp
  ·have e' : (i : Int) ≠ a := by omega
   rw [if_neg e]
   by_cases k : (i : Int) ∈ o
   ·rw [if_pos k, if_pos (List.mem_append_left _ k)]
    by_cases h2 : (i : Int) < 7
    ·rw [pl_lt h2, pl_lt h2]
    ·rw [pl_ge (by omega), pl_ge (by omega), List.idxOf_append, if_pos k]
   ·rw [if_neg k, if_neg (by simp [k, e'])]
 ·rw [List.getElem?_eq_none (by rw [List.length_set, plR_len]; omega), List.getElem?_eq_none (by rw [plR_len]; omega)]
def ordA (gb : Nat) : List Int → AV
 | [] => .esl
 | a :: l => .gsl gb 1 ((a :: l).map fun a => [.v (.int .i64 a)])
def Stc (t : List Ty) (tb : Nat) (fb pb : Nat → Nat) (b : Nat) : Prop := b = tb ∨ ∃ a, a < t.length ∧ (b = fb a ∨ b = pb a)
structure RQ (t : List Ty) (tb : Nat) (fb pb : Nat → Nat) (kb qb : Nat) (H : List ABlk) (gb : Nat) (o : List Int) : Prop where
 ht : H[tb]? = some (.cells (tcR t fb pb))
 hf : ∀ a, a < t.length → H[fb a]? = some (.cells (fdC (t.getD a default).fields))
 hp : ∀ a, a < t.length → H[pb a]? = some (.cells (pmC (t.getD a default).params))
 hk : H[kb]? = some (.cells [.hsl tb 0 t.length t.length 10, .hsl qb 0 t.length t.length 1, ordA gb o])
 hq : H[qb]? = some (.cells (plR o t.length))
 hg : o ≠ [] → H[gb]? = some (.row 3 1 o.length) ∧ gb ≠ kb ∧ gb ≠ qb
 hs : ∀ b, Stc t tb fb pb b → b ≠ kb ∧ b ≠ qb ∧ b ≠ gb
 hn : kb ≠ qb
structure RF (kb qb gb : Nat) (H H' : List ABlk) : Prop where
 len : H.length ≤ H'.length
 out : ∀ b, b < H.length → b ≠ kb → b ≠ qb → b ≠ gb → H'[b]? = H[b]?
theorem RF.rfl {kb qb gb : Nat} {H : List ABlk} : RF kb qb gb H H := ⟨Nat.le_refl _, fun _ _ _ _ _ => _root_.rfl⟩
theorem RF.trans {kb qb gb gb' : Nat} {H H' H'' : List ABlk} (h : RF kb qb gb H H') (h' : RF kb qb gb' H' H'') (hb : gb' = gb ∨ H.length ≤ gb') : RF kb qb gb H H'' :=
 ⟨Nat.le_trans h.len h'.len, fun b hb1 hx hq ho => (h'.out b (Nat.lt_of_lt_of_le hb1 h.len) hx hq (by omega)).trans (h.out b hb1 hx hq ho)⟩
section
variable {t : List Ty} {tb kb qb gb : Nat} {fb pb : Nat → Nat} {H : List ABlk} {o : List Int}
theorem RQ.lt (h : RQ t tb fb pb kb qb H gb o) : kb < H.length ∧ qb < H.length ∧ tb < H.length := ⟨(List.getElem?_eq_some_iff.1 h.hk).1, (List.getElem?_eq_some_iff.1 h.hq).1, (List.getElem?_eq_some_iff.1 h.ht).1⟩
theorem RQ.app (h : RQ t tb fb pb kb qb H gb o) (l : List ABlk) : RQ t tb fb pb kb qb (H ++ l) gb o :=
 ⟨hold h.ht l, fun a ha => hold (h.hf a ha) l, fun a ha => hold (h.hp a ha) l, hold h.hk l, hold h.hq l, fun ho => ⟨hold (h.hg ho).1 l, (h.hg ho).2⟩, h.hs, h.hn⟩
end
def RVC (t : List Ty) (o : List Int) (a : Int) (o1 : List Int) : Prop :=
 ∀ (H : List ABlk) (tb kb qb gb : Nat) (fb pb : Nat → Nat), RQ t tb fb pb kb qb H gb o → ACalls Try.prog 43 [.ptr kb 0, iv a] H fun _ H' => ∃ gb', RQ t tb fb pb kb qb H' gb' o1 ∧ RF kb qb gb H H' ∧ (gb' = gb ∨ H.length ≤ gb')
end Go.Proofs.Ythifjndenhjobaa

/- The reference's trimmer visits. -/
namespace Go.Proofs.Ythifjndenhjobaa
set_option linter.unusedSimpArgs false
set_option linter.unusedVariables false
set_option maxRecDepth 20000
set_option maxHeartbeats 4000000
open Go.RowKit

def c43l0 : AC :=
 .seq (.seq (.reg [kn 71 (.mv (.t 6)), kn 72 (.fa (.t 4) 7), kn 73 (.ld (.t 72) 1 false), kn 74 (.len false (.t 73)), kn 75 (.bin .lss (.t 71) (.t 74))])
 (.cond (.t 75) (.skip) (.exit 2)))
 (.seq (.block 3 (.reg [kn 78 (.mv (.t 0)), kn 79 (.fa (.t 4) 7), kn 80 (.ld (.t 79) 1 false), kn 81 (.mv (.t 6)), kn 82 (.ia (.t 80) (.t 81) 2), kn 83 (.fa (.t 82) 1), kn 84 (.ld (.t 83) 1 false), kn 85 (.call 43 [(.t 78), (.t 84)])]))
 (.reg [kn 76 (.mv (.t 6)), kn 77 (.bin .add (.t 76) (kc 1)), kn 6 (.mv (.t 77))]))

def c43l1 : AC :=
 .seq (.seq (.reg [kn 56 (.mv (.t 5)), kn 57 (.fa (.t 4) 6), kn 58 (.ld (.t 57) 1 false), kn 59 (.len false (.t 58)), kn 60 (.bin .lss (.t 56) (.t 59))])
 (.cond (.t 60) (.skip) (.exit 0)))
 (.seq (.block 1 (.reg [kn 63 (.mv (.t 0)), kn 64 (.fa (.t 4) 6), kn 65 (.ld (.t 64) 1 false), kn 66 (.mv (.t 5)), kn 67 (.ia (.t 65) (.t 66) 3), kn 68 (.fa (.t 67) 2), kn 69 (.ld (.t 68) 1 false), kn 70 (.call 43 [(.t 63), (.t 69)])]))
 (.reg [kn 61 (.mv (.t 5)), kn 62 (.bin .add (.t 61) (kc 1)), kn 5 (.mv (.t 62))]))

def c43 : AC :=
 .seq (.seq (.reg [kn 7 (.mv (.t 1)), kn 8 (.bin .lss (.t 7) (kc 7)), kn 9 (.mv (.t 8)), ko 10 9 (.mv (.t 0)), ko 11 9 (.nc (.t 10)), ko 12 9 (.fa (.t 11) 1), ko 13 9 (.ld (.t 12) 1 false), ko 14 9 (.mv (.t 1)), ko 15 9 (.ia (.t 13) (.t 14) 1), ko 16 9 (.ld (.t 15) 1 false), ko 17 9 (.bin .gtr (.t 16) (kc 0)), kn 18 (.pick (.t 9) (.c (.d (.v (.bool true)))) (.t 17))])
 (.cond (.t 18) (.ret) (.skip)))
 (.seq (.dreg [[], [0], [1], [2], [], [], [5], [6], [7], [8], [9], [3, 4, 0, 1, 2, 3, 4, 5, 6, 7, 8, 9, 10], [11, 10, 0, 1, 2, 3, 4, 5, 6, 7, 8, 9, 10]] [kn 19 (.mv (.t 0)), kn 20 (.nc (.t 19)), kn 21 (.fa (.t 20) 1), kn 22 (.ld (.t 21) 1 false), kn 23 (.mv (.t 1)), kn 24 (.mv (.t 0)), kn 25 (.nc (.t 24)), kn 26 (.fa (.t 25) 2), kn 27 (.ld (.t 26) 1 false), kn 28 (.len false (.t 27)), kn 29 (.bin .add (kc 7) (.t 28)), kn 30 (.ia (.t 22) (.t 23) 1), ke (.st (.t 30) (.t 29) 1)])
 (.seq (.reg [kn 31 (.mv (.t 0)), kn 32 (.mv (.t 0)), kn 33 (.nc (.t 32)), kn 34 (.fa (.t 33) 2), kn 35 (.ld (.t 34) 1 false), kn 36 (.mv (.t 1)), kn 37 (.bs .im 3 1 [(.t 36)]), kn 38 (.app .gr 3 1 8 (.t 35) (.t 37)), kn 39 (.nc (.t 31)), kn 40 (.fa (.t 39) 2), ke (.st (.t 40) (.t 38) 1)])
 (.seq (.reg [kn 41 (.mv (.t 0)), kn 42 (.nc (.t 41)), kn 43 (.fa (.t 42) 0), kn 44 (.ld (.t 43) 1 false), kn 45 (.mv (.t 1)), kn 46 (.ia (.t 44) (.t 45) 10), kn 47 (.ld (.t 46) 10 true), kn 4 (.al [kz, (.d (.v (.string ⟨#[]⟩))), (.d (.v (.string ⟨#[]⟩))), kz, kz, kz, .esl, .esl, kz, kz]), ke (.st (.t 4) (.t 47) 10)])
 (.seq (.reg [kn 48 (.mv (.t 0)), kn 49 (.fa (.t 4) 4), kn 50 (.ld (.t 49) 1 false), kn 51 (.call 43 [(.t 48), (.t 50)])])
 (.seq (.reg [kn 52 (.mv (.t 0)), kn 53 (.fa (.t 4) 5), kn 54 (.ld (.t 53) 1 false), kn 55 (.call 43 [(.t 52), (.t 54)])])
 (.seq (.seq (.reg [kn 5 (.mv (kc 0))])
 (.block 0 (.loop c43l1)))
 (.seq (.seq (.reg [kn 6 (.mv (kc 0))])
 (.block 2 (.loop c43l0)))
 (.reg [kn 86 (.mv (.t 0)), kn 87 (.fa (.t 4) 8), kn 88 (.ld (.t 87) 1 false), kn 89 (.call 43 [(.t 86), (.t 88)])]))))))))
def r43 : List RC := []

theorem cc43 : Try.f43.body.bind (comp Try.prog (hhI 43)) = some c43 := by kernel_rfl
theorem rr43 : resC Try.prog Try.f43 = some r43 := by kernel_rfl
theorem rvisit0_c {t : List Ty} (h256 : t.length ≤ 256) {o : List Int} {a : Int} (h0 : 0 ≤ a) (h1 : a < t.length) (ho : ∀ x ∈ o, 7 ≤ x ∧ x < (t.length : Int)) (h : a < 7 ∨ a ∈ o) : RVC t o a o := by
 intro H tb kb qb gb fb pb hQ
 refine ACalls.into Try.func43 cc43 rr43 fun hcl => ?_
 by_cases h7 : a < 7
 ·simp (maxSteps := 2000000) (disch := omega) only [Try.ntmps43, c43, r43, h7, decide_true, go_sem, seval, reduceCtorEq]
  exact Ret.keep ⟨gb, hQ, .rfl, .inl rfl⟩
 ·have hm : a ∈ o := h.resolve_left h7
  have e1 := plR_at (o := o) (n := t.length) (a := a.toNat) (by omega)
  rw [show ((a.toNat : Nat) : Int) = a by omega, if_pos hm] at e1
  have hp : (0 : Int) < pl o a := by rw [pl_ge (by omega)]; omega
  have hk := hQ.hk
  have hq := hQ.hq
  have ql := plR_len o t.length
  have hl : a.toNat + 1 ≤ t.length := by omega
  simp (maxSteps := 2000000) (disch := omega) only [Try.ntmps43, c43, r43, h7, decide_false, hk, hq, ql, hl, take1_at e1, hp, decide_true, go_sem, seval, reduceCtorEq]
  exact Ret.keep ⟨gb, hQ, .rfl, .inl rfl⟩
theorem fdC_at {l : List Fd} {i : Nat} (hi : i < l.length) : ((fdC l).drop (i * 3 + 2)).take 1 = [iv ((l.map Fd.typ).getD i 0)] := by
 have h := flt_at (l2 := (l.drop (i + 1)).map fdB) (e := fdB l[i]) (j := 2) (fdB_all (l.take i)) (show 2 < 3 by omega)
 have e : l.map fdB = (l.take i).map fdB ++ fdB l[i] :: (l.drop (i + 1)).map fdB := by
  conv => lhs; rw [← List.take_append_drop i l, List.drop_eq_getElem_cons hi, List.map_append, List.map_cons]
 rw [← e, List.length_map, List.length_take, Nat.min_eq_left (by omega)] at h
 rw [fdC_B, h, typ_at _ hi]; rfl
theorem pmC_at {l : List Pm} {i : Nat} (hi : i < l.length) : ((pmC l).drop (i * 2 + 1)).take 1 = [iv ((l.map Pm.typ).getD i 0)] := by
 have h := flt_at (l2 := (l.drop (i + 1)).map pmB) (e := pmB l[i]) (j := 1) (pmB_all (l.take i)) (show 1 < 2 by omega)
 have e : l.map pmB = (l.take i).map pmB ++ pmB l[i] :: (l.drop (i + 1)).map pmB := by
  conv => lhs; rw [← List.take_append_drop i l, List.drop_eq_getElem_cons hi, List.map_append, List.map_cons]
 rw [← e, List.length_map, List.length_take, Nat.min_eq_left (by omega)] at h
 rw [pmC_B, h, typ_at _ hi]; rfl
structure RG where
 i : Nat
 H : List ABlk
 gb : Nat
structure RI (t : List Ty) (tb : Nat) (fb pb : Nat → Nat) (kb qb gb xb : Nat) (c : List AV) (H0 : List ABlk) (os : Nat → List Int) (n : Nat) (g : RG) : Prop where
 hi : g.i ≤ n
 q : RQ t tb fb pb kb qb g.H g.gb (os g.i)
 x : g.H[xb]? = some (.cells c)
 f : RF kb qb gb H0 g.H
 o : g.gb = gb ∨ H0.length ≤ g.gb
 nx : xb ≠ kb ∧ xb ≠ qb ∧ xb ≠ g.gb
section
variable {t : List Ty} {tb kb qb gb xb n : Nat} {fb pb : Nat → Nat} {H0 : List ABlk} {c : List AV} {os : Nat → List Int} {g : RG}
theorem RI.next (h : RI t tb fb pb kb qb gb xb c H0 os n g) {H' : List ABlk} {gb' : Nat} (hi : g.i + 1 ≤ n) (q : RQ t tb fb pb kb qb H' gb' (os (g.i + 1))) (f : RF kb qb g.gb g.H H') (o : gb' = g.gb ∨ g.H.length ≤ gb') : RI t tb fb pb kb qb gb xb c H0 os n ⟨g.i + 1, H', gb'⟩ := by
 have xl := (List.getElem?_eq_some_iff.1 h.x).1
 have hl := h.f.len
 have ho := h.o
 obtain ⟨n1, n2, n3⟩ := h.nx
 exact ⟨hi, q, (f.out xb xl n1 n2 n3).trans h.x, h.f.trans f (by omega), by show gb' = gb ∨ H0.length ≤ gb'; omega, n1, n2, by show xb ≠ gb'; omega⟩
end
theorem rbody_c {t : List Ty} (h256 : t.length ≤ 256) (hs : Small t) {o o1 : List Int} {a : Int} (h7 : 7 ≤ a) (ha : a < t.length) (hn : a ∉ o) (ho : ∀ x ∈ o, 7 ≤ x ∧ x < (t.length : Int)) (hd : o.Nodup) (r : Vs (RVC t) (kidsV t) (o ++ [a]) (kidsV t a) o1) : RVC t o a o1 := by
 intro H tb kb qb gb fb pb hQ
 have h6 : ¬ a < 7 := by omega
 have e1 := plR_at (o := o) (n := t.length) (a := a.toNat) (by omega)
 rw [show ((a.toNat : Nat) : Int) = a by omega, if_neg hn] at e1
 have hk := hQ.hk
 have hq := hQ.hq
 have hlt := hQ.lt
 have hnq := hQ.hn
 have ql := plR_len o t.length
 have hl : a.toNat + 1 ≤ t.length := by omega
 have hol := nodup_len hd ho
 have hps := plR_set h7 ha hn
 have mx : maxLen = 9223372036854775807 := mx_eq
 obtain ⟨x, hxx⟩ : ∃ x, x = tyAt t a := ⟨_, rfl⟩
 have hxm : x ∈ t := by rw [hxx]; exact tyAt_mem (by omega) ha
 have hxs := hs.2 x hxm
 have hxd : t.getD a.toNat default = x := hxx.symm
 have r' : Vs (RVC t) (kidsV t) (o ++ [a]) (x.elem :: x.base :: (x.fields.map Fd.typ ++ (x.params.map Pm.typ ++ [x.result]))) o1 := by rw [hxx]; exact r
 obtain ⟨H1, hH1⟩ : ∃ H1, H.set qb (.cells (plR (o ++ [a]) t.length)) = H1 := ⟨_, rfl⟩
 have n1 : H1.length = H.length := by rw [← hH1, List.length_set]
 have k1 : H1[kb]? = some (.cells [.hsl tb 0 t.length t.length 10, .hsl qb 0 t.length t.length 1, ordA gb o]) := by rw [← hH1, List.getElem?_set_ne (Ne.symm hnq)]; exact hk
 have q1 : H1[qb]? = some (.cells (plR (o ++ [a]) t.length)) := by rw [← hH1, List.getElem?_set_self (by omega)]
 have o1' : ∀ b, b ≠ qb → H1[b]? = H[b]? := fun b hb => by rw [← hH1, List.getElem?_set_ne (Ne.symm hb)]
 have sl : ∀ b, Stc t tb fb pb b → b < H.length := fun b hb => by
  rcases hb with rfl | ⟨c, hc, rfl | rfl⟩
  ·exact hlt.2.2
  ·exact (List.getElem?_eq_some_iff.1 (hQ.hf c hc)).1
  ·exact (List.getElem?_eq_some_iff.1 (hQ.hp c hc)).1
 obtain ⟨gb2, H2, Q2, F2, G2, hw⟩ : ∃ gb2 H2, RQ t tb fb pb kb qb H2 gb2 (o ++ [a]) ∧ RF kb qb gb H H2 ∧ (gb2 = gb ∨ H.length ≤ gb2) ∧
  ((o = [] ∧ (H1 ++ [ABlk.row 3 1 1]).set kb (.cells [.hsl tb 0 t.length t.length 10, .hsl qb 0 t.length t.length 1, .gsl H.length 1 [[.v (.int .i64 a)]]]) = H2) ∨
    (∃ b l, o = b :: l ∧ (H1.set gb (ABlk.row 3 1 (o.length + 1))).set kb (.cells [.hsl tb 0 t.length t.length 10, .hsl qb 0 t.length t.length 1, .gsl gb 1 (o.map (fun a => [Dat.v (.int .i64 a)]) ++ [[.v (.int .i64 a)]])]) = H2)) := by
  cases ho' : o with
  | nil =>
   subst ho'
   refine ⟨H.length, _, ⟨?_, fun c hc => ?_, fun c hc => ?_, ?_, ?_, fun _ => ⟨?_, by omega, by omega⟩, fun b hb => ?_, hnq⟩, ⟨by simp; omega, fun b hb b1 b2 b3 => ?_⟩, .inr (Nat.le_refl _), .inl ⟨rfl, rfl⟩⟩
   ·have := hQ.hs tb (.inl rfl)
    rw [List.getElem?_set_ne (by omega)]; exact hold ((o1' _ (by omega)).trans hQ.ht) _
   ·have := hQ.hs _ (.inr ⟨c, hc, .inl rfl⟩)
    rw [List.getElem?_set_ne (by omega)]; exact hold ((o1' _ (by omega)).trans (hQ.hf c hc)) _
   ·have := hQ.hs _ (.inr ⟨c, hc, .inr rfl⟩)
    rw [List.getElem?_set_ne (by omega)]; exact hold ((o1' _ (by omega)).trans (hQ.hp c hc)) _
   ·rw [List.getElem?_set_self (by rw [List.length_append]; omega)]; rfl
   ·rw [List.getElem?_set_ne hnq]; exact hold q1 _
   ·rw [List.getElem?_set_ne (by omega), ← n1, List.getElem?_concat_length]; rfl
   ·have := hQ.hs b hb
    have := sl b hb
    omega
   ·rw [List.getElem?_set_ne (by omega), List.getElem?_append_left (by omega), o1' _ b2]
  | cons c l =>
   have hone : o ≠ [] := by rw [ho']; simp
   have hg := hQ.hg hone
   have hgl := (List.getElem?_eq_some_iff.1 hg.1).1
   refine ⟨gb, _, ⟨?_, fun c hc => ?_, fun c hc => ?_, ?_, ?_, fun _ => ⟨?_, hg.2.1, hg.2.2⟩, hQ.hs, hnq⟩, ⟨by simp; omega, fun b hb b1 b2 b3 => ?_⟩, .inl rfl, .inr ⟨c, l, rfl, rfl⟩⟩
   ·have := hQ.hs tb (.inl rfl)
    rw [List.getElem?_set_ne (by omega), List.getElem?_set_ne (by omega)]; exact (o1' _ (by omega)).trans hQ.ht
   ·have := hQ.hs _ (.inr ⟨c, hc, .inl rfl⟩)
    rw [List.getElem?_set_ne (by omega), List.getElem?_set_ne (by omega)]; exact (o1' _ (by omega)).trans (hQ.hf c hc)
   ·have := hQ.hs _ (.inr ⟨c, hc, .inr rfl⟩)
    rw [List.getElem?_set_ne (by omega), List.getElem?_set_ne (by omega)]; exact (o1' _ (by omega)).trans (hQ.hp c hc)
   ·rw [List.getElem?_set_self (by rw [List.length_set]; omega), ← ho', ho']
    simp [ordA]
   ·rw [List.getElem?_set_ne hnq, List.getElem?_set_ne (by omega)]; rw [← ho']; exact q1
   ·rw [List.getElem?_set_ne (by omega), List.getElem?_set_self (by omega)]; simp
   ·rw [List.getElem?_set_ne (by omega), List.getElem?_set_ne (by omega), o1' _ b2]
 have hpv : ((7 : Int) + o.length) = (7 + o.length : Nat) := by omega
 have t2 := Q2.ht
 have k2 := Q2.hk
 have hat := tcR_at (t := t) (fb := fb) (pb := pb) (a := a.toNat) (by omega)
 rw [hxd] at hat
 have htl := tcR_len t fb pb
 have hal : a.toNat * 10 + 10 ≤ t.length * 10 := by omega
 obtain ⟨fa, hfa⟩ : ∃ fa, fb a.toNat = fa := ⟨_, rfl⟩
 obtain ⟨pa, hpa⟩ : ∃ pa, pb a.toNat = pa := ⟨_, rfl⟩
 rw [hfa, hpa, tkR] at hat
 refine ACalls.into Try.func43 cc43 rr43 fun hcl => ?_
 rw [List.append_assoc, List.singleton_append] at hps
 have hgO := hQ.hg
 have xt : ∀ k, (H2 ++ [k])[H2.length]? = some k := fun k => List.getElem?_concat_length
 have xs : ∀ k k', (H2 ++ [k]).set H2.length k' = H2 ++ [k'] := fun k k' => by rw [List.set_append_right _ _ (Nat.le_refl _), Nat.sub_self]; rfl
 have i2 : a.toNat < t.length := by omega
 cases r' with | @cons _ o2 _ _ _ v1 w1 r1 =>
 cases r1 with | @cons _ o3 _ _ _ v2 w2 r2 =>
 obtain ⟨o4, r3, r4⟩ := r2.app
 obtain ⟨o5, r5, r6⟩ := r4.app
 cases r6 with | @cons _ o6 _ _ _ v6 w6 r7 =>
 cases r7
 obtain ⟨os, os0, osn, hos, -⟩ := r3.steps
 obtain ⟨ps, ps0, psn, hps2, -⟩ := r5.steps
 rw [List.length_map] at osn hos psn hps2
 obtain ⟨xl, hxl⟩ : ∃ xl : List AV, [iv x.form, sv x.mod, sv x.name, iv x.len, iv x.elem, iv x.base, .hsl fa 0 x.fields.length x.fields.length 3, .hsl pa 0 x.params.length x.params.length 2, iv x.result, iv x.desc] = xl := ⟨_, rfl⟩
 obtain ⟨H3, hH3⟩ : ∃ H3, H2 ++ [ABlk.cells xl] = H3 := ⟨_, rfl⟩
 have Q3 := Q2.app [ABlk.cells xl]
 rw [hH3] at Q3
 have X3 : H3[H2.length]? = some (.cells xl) := by rw [← hH3]; exact xt _
 have F3 : RF kb qb gb H H3 := ⟨by rw [← hH3, List.length_append]; have := F2.len; omega, fun b h0 h1 h2 h3 => by rw [← hH3, List.getElem?_append_left (Nat.lt_of_lt_of_le h0 F2.len)]; exact F2.out b h0 h1 h2 h3⟩
 have hgl2 := (List.getElem?_eq_some_iff.1 (Q2.hg (by simp)).1).1
 have hkl2 := Q2.lt
 have hfl : x.fields.length ≤ 9000000 := by have := hxs.1; omega
 have hpl : x.params.length ≤ 9000000 := by have := hxs.2.1; omega
 have hfs : ∀ {G g o}, RQ t tb fb pb kb qb G g o → G[fa]? = some (.cells (fdC x.fields)) := fun q => by have := q.hf a.toNat i2; rw [hxd, hfa] at this; exact this
 have hps3 : ∀ {G g o}, RQ t tb fb pb kb qb G g o → G[pa]? = some (.cells (pmC x.params)) := fun q => by have := q.hp a.toNat i2; rw [hxd, hpa] at this; exact this
 have L30 := F3.len
 rcases hw with ⟨ho', hH2⟩ | ⟨b, l, ho', hH2⟩
 case' inl =>
  have hV : ordA gb o = .esl := by rw [ho']; rfl
  have hl0 : o.length = 0 := by rw [ho']; rfl
  rw [hl0] at hps
  have hps' : (plR o t.length).take a.toNat ++ AV.d (.v (.int .i64 7)) :: (plR o t.length).drop (a.toNat + 1) = plR (o ++ [a]) t.length := hps
  rw [hV] at hk k1
  simp (maxSteps := 2000000) (disch := omega) only [Try.ntmps43, c43, r43, h6, decide_false, hk, hq, ql, hl, take1_at e1, go_sem, seval, reduceCtorEq]
  refine W.dregSt 12 qb rfl follows (by decide +kernel) rfl (by rw [hq]; simp) ?_
  simp (maxSteps := 2000000) (disch := omega) only [hk, go_sem, seval, reduceCtorEq]
  refine StW.st _ rfl ?_
  have k1' : (H1 ++ [ABlk.row 3 1 1])[kb]? = _ := hold k1 _
  simp (maxSteps := 2000000) (disch := omega) only [hq, ql, hl, hps', hH1, k1, k1', n1, hH2, k2, t2, htl, hal, hat, xt, xs, i2, go_sem, seval, reduceCtorEq]
 case' inr =>
  obtain ⟨es, hes⟩ : ∃ es, o.map (fun a => [Dat.v (.int .i64 a)]) = es := ⟨_, rfl⟩
  have hV : ordA gb o = .gsl gb 1 es := by rw [← hes, ho']; rfl
  have les : es.length = o.length := by rw [← hes, List.length_map]
  have hgg := hgO (by rw [ho']; simp)
  have g1 : H1[gb]? = some (.row 3 1 o.length) := (o1' _ hgg.2.2).trans hgg.1
  rw [hV] at hk k1
  rw [hes] at hH2
  simp (maxSteps := 2000000) (disch := omega) only [Try.ntmps43, c43, r43, h6, decide_false, hk, hq, ql, hl, take1_at e1, go_sem, seval, reduceCtorEq]
  refine W.dregSt 12 qb rfl follows (by decide +kernel) rfl (by rw [hq]; simp) ?_
  simp (maxSteps := 2000000) (disch := omega) only [hk, les, go_sem, seval, reduceCtorEq]
  refine StW.st _ rfl ?_
  have k1' : ∀ k, (H1.set gb k)[kb]? = some (.cells [.hsl tb 0 t.length t.length 10, .hsl qb 0 t.length t.length 1, .gsl gb 1 es]) := fun k => by rw [List.getElem?_set_ne hgg.2.1]; exact k1
  simp (maxSteps := 2000000) (disch := omega) only [hq, ql, hl, hps, hH1, k1, k1', g1, les, n1, hH2, k2, t2, htl, hal, hat, xt, xs, i2, go_sem, seval, reduceCtorEq]
 all_goals
  rw [hxl, hH3]
  refine Cont.rel (v1 _ _ _ _ _ _ _ Q3) ?_
  rintro v H4 ⟨g4, Q4, F4, G4⟩
  have L4 := F4.len
  have X4 := (F4.out _ (by rw [← hH3]; simp) (by omega) (by omega) (by omega)).trans X3
  rw [← hxl] at X4
  simp (maxSteps := 2000000) (disch := omega) only [X4, go_sem, seval, reduceCtorEq]
  refine Cont.rel (v2 _ _ _ _ _ _ _ Q4) ?_
  rintro v H5 ⟨g5, Q5, F5, G5⟩
  have L5 := F5.len
  have L3 : H3.length = H2.length + 1 := by rw [← hH3]; simp
  have X5 := (F5.out _ (by omega) (by omega) (by omega) (by omega)).trans X4
  simp (maxSteps := 2000000) (disch := omega) only [go_sem, seval, reduceCtorEq]
  obtain ⟨S1, hS1⟩ : ∃ S1 : RG → List AV, ∀ g, S1 g = [.ptr kb 0, iv a, .any, .any, .ptr H2.length 0, iv g.i] ++ List.replicate 84 .any := ⟨_, fun _ => rfl⟩
  rw [← os0] at Q5
  refine W.loopG (γ := RG) (fun g => x.fields.length - g.i) S1 (fun g => g.H) (RI t tb fb pb kb qb g5 H2.length _ H5 os x.fields.length) ⟨0, H5, g5⟩ (Wk.slots (by rw [hS1]; exact WkL.tail 6 _ rfl (by simp only [List.take_succ_cons, List.take_zero]; repeat' first | exact WkL.nil | refine WkL.cons (Wk1.rfl _) ?_ | refine WkL.cons Wk1.esl ?_ | refine WkL.cons (Wk1.gsl _ _ _) ?_ | refine WkL.cons (Wk1.any _) ?_))) ⟨Nat.zero_le _, Q5, X5, .rfl, .inl rfl, by omega, by omega, by show H2.length ≠ g5; omega⟩ (fun g hg => ?_)
  obtain ⟨i, G, gq⟩ := g
  have hg' := hg
  obtain ⟨hi, q, x4, f4, o4', nx⟩ := hg
  simp only at hi q x4 f4 o4' nx
  have fF := hfs q
  have flen : (fdC x.fields).length = x.fields.length * 3 := by rw [fdC_len]
  by_cases hi3 : i < x.fields.length
  ·have ff := fdC_at hi3
   have hi4 : i * 3 + 2 + 1 ≤ x.fields.length * 3 := by omega
   simp (maxSteps := 2000000) (disch := omega) only [hS1, c43l1, x4, fF, flen, hi4, ff, go_sem, seval, reduceCtorEq]
   refine Cont.rel ((hos i hi3).1 _ _ _ _ _ _ _ q) ?_
   rintro v H6 ⟨g6, q6, f6, o6⟩
   simp (maxSteps := 2000000) (disch := omega) only [go_sem, seval, reduceCtorEq]
   exact Nxt.mk ⟨i + 1, H6, g6⟩ (by show x.fields.length - (i + 1) < x.fields.length - i; omega) (Wk.slots (by rw [hS1]; exact WkL.tail 6 _ rfl (by simp only [List.take_succ_cons, List.take_zero]; repeat' first | exact WkL.nil | refine WkL.cons (Wk1.rfl _) ?_ | refine WkL.cons Wk1.esl ?_ | refine WkL.cons (Wk1.gsl _ _ _) ?_ | refine WkL.cons (Wk1.any _) ?_))) (hg'.next (by show i + 1 ≤ _; omega) q6 f6 o6)
  have hin : i = x.fields.length := by omega
  subst hin
  simp (maxSteps := 2000000) (disch := omega) only [hS1, c43l1, x4, go_sem, seval, reduceCtorEq]
  have lG := f4.len
  obtain ⟨S2, hS2⟩ : ∃ S2 : RG → List AV, ∀ g, S2 g = [.ptr kb 0, iv a, .any, .any, .ptr H2.length 0, .any, iv g.i] ++ List.replicate 83 .any := ⟨_, fun _ => rfl⟩
  rw [osn, ← ps0] at q
  refine W.loopG (γ := RG) (fun g => x.params.length - g.i) S2 (fun g => g.H) (RI t tb fb pb kb qb gq H2.length _ G ps x.params.length) ⟨0, G, gq⟩ (Wk.slots (by rw [hS2]; exact WkL.tail 7 _ rfl (by simp only [List.take_succ_cons, List.take_zero]; repeat' first | exact WkL.nil | refine WkL.cons (Wk1.rfl _) ?_ | refine WkL.cons Wk1.esl ?_ | refine WkL.cons (Wk1.gsl _ _ _) ?_ | refine WkL.cons (Wk1.any _) ?_))) ⟨Nat.zero_le _, q, x4, .rfl, .inl rfl, nx⟩ (fun g hg => ?_)
  have F5' := F5
  have f4' := f4
  have o4'' := o4'
  clear hg'
  obtain ⟨i, Gb, gq2⟩ := g
  have hg' := hg
  obtain ⟨hi, q, x4, f5, o5', nx⟩ := hg
  simp only at hi q x4 f5 o5' nx
  have fF := hps3 q
  have flen : (pmC x.params).length = x.params.length * 2 := by rw [pmC_len]
  by_cases hi3 : i < x.params.length
  ·have ff := pmC_at hi3
   have hi4 : i * 2 + 1 + 1 ≤ x.params.length * 2 := by omega
   simp (maxSteps := 2000000) (disch := omega) only [hS2, c43l0, x4, fF, flen, hi4, ff, go_sem, seval, reduceCtorEq]
   refine Cont.rel ((hps2 i hi3).1 _ _ _ _ _ _ _ q) ?_
   rintro v H6 ⟨g6, q6, f6, o6⟩
   simp (maxSteps := 2000000) (disch := omega) only [go_sem, seval, reduceCtorEq]
   exact Nxt.mk ⟨i + 1, H6, g6⟩ (by show x.params.length - (i + 1) < x.params.length - i; omega) (Wk.slots (by rw [hS2]; exact WkL.tail 7 _ rfl (by simp only [List.take_succ_cons, List.take_zero]; repeat' first | exact WkL.nil | refine WkL.cons (Wk1.rfl _) ?_ | refine WkL.cons Wk1.esl ?_ | refine WkL.cons (Wk1.gsl _ _ _) ?_ | refine WkL.cons (Wk1.any _) ?_))) (hg'.next (by show i + 1 ≤ _; omega) q6 f6 o6)
  have hin : i = x.params.length := by omega
  subst hin
  simp (maxSteps := 2000000) (disch := omega) only [hS2, c43l0, x4, go_sem, seval, reduceCtorEq]
  rw [psn] at q
  refine Cont.rel (v6 _ _ _ _ _ _ _ q) ?_
  rintro v H7 ⟨g7, q7, f7, o7⟩
  simp (maxSteps := 2000000) (disch := omega) only [go_sem, seval, reduceCtorEq]
  have l7 := f7.len
  have l5 := f5.len
  refine Ret.keep ⟨g7, q7, ?_, ?_⟩
  ·exact (((((F3.trans F4 G2).trans F5 (by omega)).trans f4' (by omega)).trans f5 (by omega)).trans f7 (by omega))
  ·omega
end Go.Proofs.Ythifjndenhjobaa

/- The reference's copy, to be written in place. -/
namespace Go.Proofs.Ythifjndenhjobaa
set_option linter.unusedSimpArgs false
set_option linter.unusedVariables false
set_option maxRecDepth 20000
set_option maxHeartbeats 4000000
open Go.RowKit

def c16r : AC :=
 .seq (.reg [kn 1 (.bx (.t 0)), kn 2 (.al [(.d (.v (.string ⟨#[]⟩))), (.d (.v (.int .u32 0))), .esl, .esl, .esl])])
 (.seq (.reg [kn 3 (.bs .im 65 2 []), kn 4 (.fa (.t 1) 2), kn 5 (.ld (.t 4) 1 false), kn 6 (.app .im 65 2 24 (.t 3) (.t 5)), kn 7 (.fa (.t 1) 2), ke (.st (.t 7) (.t 6) 1)])
 (.seq (.reg [kn 8 (.fa (.t 1) 3), kn 9 (.ld (.t 8) 1 false), kn 10 (.call 34 [(.t 9)]), kn 11 (.fa (.t 1) 3), ke (.st (.t 11) (.t 10) 1)])
 (.seq (.reg [kn 12 (.bs .im 34 7 []), kn 13 (.fa (.t 1) 4), kn 14 (.ld (.t 13) 1 false), kn 15 (.app .hp 34 7 72 (.t 12) (.t 14)), kn 16 (.fa (.t 1) 4), ke (.st (.t 16) (.t 15) 1)])
 (.seq (.reg [kn 17 (.ld (.t 1) 5 true), ke (.st (.t 2) (.t 17) 5)])
 (.ret)))))
def r16r : List RC := [.c 2 5 true]

def c34rl0 : AC :=
 .seq (.seq (.reg [kn 6 (.mv (.t 4)), kn 7 (.mv (.t 0)), kn 8 (.len false (.t 7)), kn 9 (.bin .lss (.t 6) (.t 8))])
 (.cond (.t 9) (.skip) (.exit 0)))
 (.seq (.block 1 (.seq (.reg [kn 12 (.mv (.t 0)), kn 13 (.mv (.t 4)), kn 14 (.ia (.t 12) (.t 13) 10), kn 15 (.ld (.t 14) 10 true), kn 5 (.al [kz, (.d (.v (.string ⟨#[]⟩))), (.d (.v (.string ⟨#[]⟩))), kz, kz, kz, .esl, .esl, kz, kz]), ke (.st (.t 5) (.t 15) 10)])
 (.seq (.dreg [[], [], [1], [0, 2], [], [], [5], [4, 6, 3], [0, 1, 2, 3, 5, 6], [8, 3, 7, 0, 1, 2, 3, 5, 6], [0, 1, 2, 3, 4, 5, 6, 7, 8, 9], [10, 7, 9, 0, 1, 2, 3, 4, 5, 6, 7, 8, 9]] [kn 16 (.bs .im 83 3 []), kn 17 (.fa (.t 5) 6), kn 18 (.ld (.t 17) 1 false), kn 19 (.app .hp 83 3 32 (.t 16) (.t 18)), kn 20 (.bs .im 85 2 []), kn 21 (.fa (.t 5) 7), kn 22 (.ld (.t 21) 1 false), kn 23 (.app .hp 85 2 16 (.t 20) (.t 22)), kn 24 (.fa (.t 5) 6), ke (.st (.t 24) (.t 19) 1), kn 25 (.fa (.t 5) 7), ke (.st (.t 25) (.t 23) 1)])
 (.reg [kn 26 (.mv (.t 3)), kn 27 (.ld (.t 5) 10 true), kn 28 (.bs .hp 49 10 [(.t 27)]), kn 29 (.app .hp 49 10 128 (.t 26) (.t 28)), kn 3 (.mv (.t 29))]))))
 (.reg [kn 10 (.mv (.t 4)), kn 11 (.bin .add (.t 10) (kc 1)), kn 4 (.mv (.t 11))]))

def c34r : AC :=
 .seq (.reg [kn 2 (.mv (.c .esl))])
 (.seq (.reg [kn 3 (.mv (.c .esl))])
 (.seq (.seq (.reg [kn 4 (.mv (kc 0))])
 (.block 0 (.loop c34rl0)))
 (.seq (.reg [kn 30 (.mv (.t 3)), kn 2 (.mv (.t 30))])
 (.ret))))
def r34r : List RC := [.t 2]

theorem cc16r : Try.f16.body.bind (comp Try.prog (hhr 16)) = some c16r := by kernel_rfl
theorem rr16r : resC Try.prog Try.f16 = some r16r := by kernel_rfl
theorem cc34r : Try.f34.body.bind (comp Try.prog (hhr 34)) = some c34r := by kernel_rfl
theorem rr34r : resC Try.prog Try.f34 = some r34r := by kernel_rfl
def tcU (t : List Ty) (fb pb : Nat → Nat) (n : Nat) : List AV := ((List.range n).map fun a => tkR (t.getD a default) (fb a) (pb a)).flatten
theorem tcU_s (t : List Ty) (fb pb : Nat → Nat) (n : Nat) : tcU t fb pb (n + 1) = tcU t fb pb n ++ tkR (t.getD n default) (fb n) (pb n) := by
 rw [tcU, List.range_succ, List.map_append, List.flatten_append]; simp [tcU]
theorem tcU_len (t : List Ty) (fb pb : Nat → Nat) (n : Nat) : (tcU t fb pb n).length = n * 10 := by
 rw [tcU, flt_len (tkR_all t fb pb _), List.length_map, List.length_range]
structure CG (t : List Ty) (h : Nat) (H0 : List ABlk) (i : Nat) (H : List ABlk) : Prop where
 hi : i ≤ t.length
 len : H.length = h + 5 * i
 low : ∀ b, b < h → H[b]? = H0[b]?
 hf : ∀ j, j < i → H[h + 5 * j + 1]? = some (.cells (fdC (t.getD j default).fields))
 hp : ∀ j, j < i → H[h + 5 * j + 2]? = some (.cells (pmC (t.getD j default).params))
 ht : 0 < i → H[h + 5 * i - 1]? = some (.cells (tcU t (fun j => h + 5 * j + 1) (fun j => h + 5 * j + 2) i))
def ctA (h : Nat) : Nat → AV
 | 0 => .esl
 | i + 1 => .hsl (h + 5 * i + 4) 0 (i + 1) (i + 1) 10
theorem elems1_h {H : List ABlk} {b : Nat} {k : List AV} (h : H[b]? = some (.cells k)) (hk : k.length = 10) : elemsA H 10 (.hsl b 0 1 1 10) = some [k] := by
 have e : (k.drop (0 + 0 * 10)).take 10 = k := by rw [Nat.zero_mul, List.drop_zero, ← hk, List.take_length]
 simp only [elemsA, h]
 rw [if_pos ⟨by omega, trivial⟩, List.range_one, List.map_cons, List.map_nil, e]
theorem rcopy_h {t : List Ty} (ht : Small t) (hn : 0 < t.length) (H : List ABlk) : ACalls Try.prog 34 [tv t] H fun v H' => v = .hsl (H.length + 5 * t.length - 1) 0 t.length t.length 10 ∧ CG t H.length H t.length H' := by
 refine ACalls.into Try.func34 cc34r rr34r fun hcl => ?_
 obtain ⟨h1, h2⟩ := ht
 have mx : maxLen = 9223372036854775807 := mx_eq
 simp (maxSteps := 2000000) (disch := omega) only [Try.ntmps34, c34r, r34r, go_sem, seval, reduceCtorEq]
 obtain ⟨S, hS⟩ : ∃ S : RG → List AV, ∀ g, S g = [tv t, .any, .any, ctA H.length g.i, iv g.i] ++ List.replicate 26 .any := ⟨_, fun _ => rfl⟩
 refine W.loopG (γ := RG) (fun g => t.length - g.i) S (fun g => g.H) (fun g => CG t H.length H g.i g.H) ⟨0, H, 0⟩ (Wk.slots (by rw [hS]; exact WkL.tail 5 _ rfl (by simp only [List.take_succ_cons, List.take_zero]; repeat' first | exact WkL.nil | refine WkL.cons (Wk1.rfl _) ?_ | refine WkL.cons Wk1.esl ?_ | refine WkL.cons (Wk1.gsl _ _ _) ?_ | refine WkL.cons (Wk1.any _) ?_))) ⟨Nat.zero_le _, rfl, fun _ _ => rfl, fun j hj => absurd hj (Nat.not_lt_zero _), fun j hj => absurd hj (Nat.not_lt_zero _), fun h => absurd h (Nat.lt_irrefl _)⟩ (fun g hg => ?_)
 obtain ⟨i, G, gb⟩ := g
 obtain ⟨hi, hl, hlo, hf, hp, htb⟩ := hg
 simp only at hi hl hlo hf hp htb
 by_cases hi3 : i < t.length
 rotate_left
 ·have hin : i = t.length := by omega
  subst hin
  obtain ⟨k, hk⟩ : ∃ k, t.length = k + 1 := ⟨t.length - 1, by omega⟩
  have hct : ctA H.length t.length = .hsl (H.length + 5 * t.length - 1) 0 t.length t.length 10 := by
   rw [hk, ctA, show H.length + 5 * (k + 1) - 1 = H.length + 5 * k + 4 by omega]
  simp (maxSteps := 2000000) (disch := omega) only [c34rl0, hS, List.length_map, hct, go_sem, seval, reduceCtorEq]
  exact Ret.keep ⟨rfl, hi, hl, hlo, hf, hp, htb⟩
 obtain ⟨x, hx⟩ : ∃ x, t.getD i default = x := ⟨_, rfl⟩
 have hia := iaA_ty (t := t) (a := i) (by omega) (by omega)
 rw [tyAt_n, hx] at hia
 have hxm : x ∈ t := by rw [← hx, List.getD_eq_getElem?_getD, List.getElem?_eq_getElem hi3]; exact List.getElem_mem _
 have hxs := h2 x hxm
 have ef : ∀ H, elemsA H 3 (fdv x.fields) = some ((x.fields.map Fd.c).map (·.map .d)) := fun H => by simp only [elems_d, all_map Fd.c 3 (fun _ => rfl), if_true]
 have df := datss_map_d (x.fields.map Fd.c)
 have ff : ((x.fields.map Fd.c).map (·.map AV.d)).flatten = fdC x.fields := List.map_flatten.symm
 have ep : ∀ H, elemsA H 2 (pmv x.params) = some ((x.params.map Pm.c).map (·.map .d)) := fun H => by simp only [elems_d, all_map Pm.c 2 (fun _ => rfl), if_true]
 have dp := datss_map_d (x.params.map Pm.c)
 have fp : ((x.params.map Pm.c).map (·.map AV.d)).flatten = pmC x.params := List.map_flatten.symm
 obtain ⟨P, hP⟩ : ∃ P, G ++ [ABlk.cells x.cs] = P := ⟨_, rfl⟩
 have lP : P.length = G.length + 1 := by rw [← hP]; simp
 have xm : ∀ l, (P ++ l)[G.length]? = some (.cells x.cs) := fun l => hold (by rw [← hP, List.getElem?_concat_length]) _
 have xm0 := xm []
 rw [List.append_nil] at xm0
 have kl : ∀ c : ABlk, (P ++ [c]).set (G.length + 1) .dead = P ++ [.dead] := fun c => by rw [← lP, List.set_append_right _ _ (Nat.le_refl _), Nat.sub_self]; rfl
 have kl2 : ∀ c d : ABlk, (P ++ [c, d]).set (G.length + 2) .dead = P ++ [c, .dead] := fun c d => by rw [List.set_append_right _ _ (by omega), show G.length + 2 - P.length = 1 by omega]; rfl
 have st1 : ∀ (c d k : ABlk), (P ++ [c, d]).set G.length k = G ++ [k, c, d] := fun c d k => by rw [← hP, List.append_assoc, List.set_append_right _ _ (Nat.le_refl _), Nat.sub_self]; rfl
 have st2 : ∀ (b c d k : ABlk), (G ++ [b, c, d]).set G.length k = G ++ [k, c, d] := fun b c d k => by rw [List.set_append_right _ _ (Nat.le_refl _), Nat.sub_self]; rfl
 simp only [Ty.cs] at hP xm xm0
 have h11 : G.length + 1 + 1 = G.length + 2 := rfl
 simp (maxSteps := 2000000) (disch := omega) only [c34rl0, hS, List.length_map, hia, Ty.c, hP, go_sem, seval, reduceCtorEq]
 refine W.dregD [([], []), ([], []), ([], []), ([G.length + 1], []), ([], [G.length + 1]), ([], [G.length + 1]), ([], [G.length + 1]), ([G.length + 2], []), ([], [G.length + 2]), ([G.length], []), ([], []), ([G.length], [])] follows (by decide +kernel) rfl rfl (fun z hz b hb => ?_) ?_
 ·have hn : z.2 = [] ∧ P[b]? ≠ some .dead := by
   simp only [List.mem_cons, List.not_mem_nil, or_false] at hz
   rcases hz with rfl | rfl | rfl | rfl | rfl | rfl | rfl | rfl | rfl | rfl | rfl | rfl <;> simp only [List.mem_cons, List.not_mem_nil, or_false] at hb <;> first | exact hb.elim | (subst hb; refine ⟨rfl, ?_⟩; first | (rw [xm0]; simp) | (rw [List.getElem?_eq_none (by omega)]; simp))
  rw [hn.1]
  exact ⟨List.not_mem_nil, hn.2⟩
 repeat (rw [DC_p]; simp (maxSteps := 2000000) (disch := omega) only [xm0, go_sem, seval, reduceCtorEq])
 refine WStep.ev (fun _ _ e => by cases e) (fun _ _ e => by cases e) ?_
 try simp (maxSteps := 2000000) (disch := omega) only [ef, df, ff, lP, List.length_map, go_sem, seval, reduceCtorEq]
 refine ⟨FrOk.app (u := []) (fun k hk => by simp at hk; simp [hk, lP]) (by simp), ?_⟩
 repeat (rw [DC_p]; simp (maxSteps := 2000000) (disch := omega) only [kill_c, kill_0, kl, xm, go_sem, seval, reduceCtorEq])
 refine WStep.ev (fun _ _ e => by cases e) (fun _ _ e => by cases e) ?_
 try simp (maxSteps := 2000000) (disch := omega) only [ep, dp, fp, lP, h11, List.length_map, go_sem, seval, reduceCtorEq]
 refine ⟨by have := FrOk.app (w := [G.length + 2]) (u := []) (H := P ++ [ABlk.cells (fdC x.fields)]) (l := [ABlk.cells (pmC x.params)]) (fun k hk => by simp at hk; simp [hk, lP]) (by simp); rw [kill_0, List.append_assoc] at this; exact this, ?_⟩
 repeat (rw [DC_p]; simp (maxSteps := 2000000) (disch := omega) only [kill_c, kill_0, kl2, xm, go_sem, seval, reduceCtorEq])
 refine WStep.ev (fun _ _ e => by cases e) (fun _ _ e => by cases e) ?_
 try simp (maxSteps := 2000000) (disch := omega) only [xm, st1, go_sem, seval, reduceCtorEq]
 refine ⟨by have := FrOk.set (w := [G.length]) (H := P ++ [ABlk.cells (fdC x.fields), ABlk.cells (pmC x.params)]) (b := G.length) (x := ABlk.cells [iv x.form, sv x.mod, sv x.name, iv x.len, iv x.elem, iv x.base, .hsl (G.length + 1) 0 x.fields.length x.fields.length 3, pmv x.params, iv x.result, iv x.desc]) (by simp); rwa [st1] at this, ?_⟩
 repeat (rw [DC_p]; simp (maxSteps := 2000000) (disch := omega) only [go_sem, seval, reduceCtorEq])
 refine WStep.ev (fun _ _ e => by cases e) (fun _ _ e => by cases e) ?_
 try simp (maxSteps := 2000000) (disch := omega) only [st2, go_sem, seval, reduceCtorEq]
 refine ⟨by have := FrOk.set (w := [G.length]) (H := G ++ [ABlk.cells [iv x.form, sv x.mod, sv x.name, iv x.len, iv x.elem, iv x.base, .hsl (G.length + 1) 0 x.fields.length x.fields.length 3, pmv x.params, iv x.result, iv x.desc], ABlk.cells (fdC x.fields), ABlk.cells (pmC x.params)]) (b := G.length) (x := ABlk.cells (tkR x (G.length + 1) (G.length + 2))) (by simp); rwa [st2] at this, ?_⟩
 obtain ⟨tx, htx⟩ : ∃ tx, tkR x (G.length + 1) (G.length + 2) = tx := ⟨_, rfl⟩
 have e9 := fun a b c : ABlk => elems1_h (H := G ++ [a, b, c, .cells tx]) (b := G.length + 3) (k := tx) (by rw [List.getElem?_append_right (by omega), show G.length + 3 - G.length = 3 by omega]; rfl) (by rw [← htx]; rfl)
 have d9 : toDats tx = none := by rw [← htx]; rfl
 have a9 : tx.all one = true := by rw [← htx]; rfl
 have htx' : [iv x.form, sv x.mod, sv x.name, iv x.len, iv x.elem, iv x.base, .hsl (G.length + 1) 0 x.fields.length x.fields.length 3, .hsl (G.length + 2) 0 x.params.length x.params.length 2, iv x.result, iv x.desc] = tx := htx
 have hxd : t.getD i default = x := hx
 cases i with
 | zero =>
  simp (maxSteps := 2000000) (disch := omega) only [ctA, htx', e9, d9, a9, appH, go_sem, seval, reduceCtorEq]
  have hl0 : G.length = H.length := by omega
  refine Nxt.mk ⟨1, _, 0⟩ (by show t.length - 1 < t.length; omega) (Wk.slots (by rw [hS, ctA, ← hl0]; exact WkL.tail 5 _ rfl (by simp only [List.take_succ_cons, List.take_zero]; repeat' first | exact WkL.nil | refine WkL.cons (Wk1.rfl _) ?_ | refine WkL.cons Wk1.esl ?_ | refine WkL.cons (Wk1.gsl _ _ _) ?_ | refine WkL.cons (Wk1.any _) ?_))) ⟨hi3, ?_, fun b hb => ?_, fun j hj => ?_, fun j hj => ?_, fun _ => ?_⟩
  ·show (G ++ [_, _, _, _, _]).length = _
   simp; omega
  ·show (G ++ [_, _, _, _, _])[b]? = _
   rw [List.getElem?_append_left (by omega)]; exact hlo b hb
  ·have hj : j < 1 := hj
   have : j = 0 := by omega
   subst this
   show (G ++ [_, _, _, _, _])[_]? = _
   rw [hxd, List.getElem?_append_right (by omega), show H.length + 5 * 0 + 1 - G.length = 1 by omega]; rfl
  ·have hj : j < 1 := hj
   have : j = 0 := by omega
   subst this
   show (G ++ [_, _, _, _, _])[_]? = _
   rw [hxd, List.getElem?_append_right (by omega), show H.length + 5 * 0 + 2 - G.length = 2 by omega]; rfl
  ·show (G ++ [_, _, _, _, _])[_]? = _
   rw [List.getElem?_append_right (by omega), show H.length + 5 * (0 + 1) - 1 - G.length = 4 by omega]
   show _ = some (ABlk.cells (tcU t _ _ (0 + 1)))
   rw [tcU_s, hxd, ← htx, hl0]; rfl
 | succ j =>
  have htb' := htb (by omega)
  rw [show H.length + 5 * (j + 1) - 1 = H.length + 5 * j + 4 by omega] at htb'
  obtain ⟨TU, hTU⟩ : ∃ TU, tcU t (fun j => H.length + 5 * j + 1) (fun j => H.length + 5 * j + 2) (j + 1) = TU := ⟨_, rfl⟩
  rw [hTU] at htb'
  have lTU : TU.length = (j + 1) * 10 := by rw [← hTU, tcU_len]
  have kTU : TU.take ((j + 1) * 10) = TU := List.take_of_length_le (by omega)
  have tB : ∀ l, (G ++ l)[H.length + 5 * j + 4]? = some (.cells TU) := fun l => hold htb' l
  obtain ⟨D, hD⟩ : ∃ D, (G ++ [ABlk.cells tx, ABlk.cells (fdC x.fields), ABlk.cells (pmC x.params), ABlk.cells tx]).set (H.length + 5 * j + 4) .dead ++ [.cells (TU ++ tx)] = D := ⟨_, rfl⟩
  simp (maxSteps := 2000000) (disch := omega) only [ctA, htx', e9, d9, a9, appH, tB, lTU, kTU, hD, go_sem, seval, reduceCtorEq]
  have lD : D.length = G.length + 5 := by rw [← hD]; simp
  have dg : ∀ b, b ≠ H.length + 5 * j + 4 → b < G.length + 4 → D[b]? = (G ++ [ABlk.cells tx, ABlk.cells (fdC x.fields), ABlk.cells (pmC x.params), ABlk.cells tx])[b]? := fun b h1 h2 => by
   rw [← hD, List.getElem?_append_left (by simp; omega), List.getElem?_set_ne (by omega)]
  have dlo : ∀ b, b ≠ H.length + 5 * j + 4 → b < G.length → D[b]? = G[b]? := fun b h1 h2 => by
   rw [dg b h1 (by omega), List.getElem?_append_left h2]
  refine Nxt.mk ⟨j + 2, D, 0⟩ (by show t.length - (j + 2) < t.length - (j + 1); omega) (Wk.slots (by rw [hS, ctA, show H.length + 5 * (j + 1) + 4 = G.length + 4 by omega]; exact WkL.tail 5 _ rfl (by simp only [List.take_succ_cons, List.take_zero]; repeat' first | exact WkL.nil | refine WkL.cons (Wk1.rfl _) ?_ | refine WkL.cons Wk1.esl ?_ | refine WkL.cons (Wk1.gsl _ _ _) ?_ | refine WkL.cons (Wk1.any _) ?_))) ⟨hi3, ?_, fun b hb => ?_, fun k hk => ?_, fun k hk => ?_, fun _ => ?_⟩
  ·show D.length = H.length + 5 * (j + 2)
   omega
  ·show D[b]? = _
   rw [dlo b (by omega) (by omega)]; exact hlo b hb
  ·have hk : k < j + 2 := hk
   show D[_]? = _
   by_cases e : k = j + 1
   ·subst e
    rw [hxd, dg _ (by omega) (by omega), List.getElem?_append_right (by omega), show H.length + 5 * (j + 1) + 1 - G.length = 1 by omega]; rfl
   ·rw [dlo _ (by omega) (by omega)]; exact hf k (by omega)
  ·have hk : k < j + 2 := hk
   show D[_]? = _
   by_cases e : k = j + 1
   ·subst e
    rw [hxd, dg _ (by omega) (by omega), List.getElem?_append_right (by omega), show H.length + 5 * (j + 1) + 2 - G.length = 2 by omega]; rfl
   ·rw [dlo _ (by omega) (by omega)]; exact hp k (by omega)
  ·show D[H.length + 5 * (j + 2) - 1]? = some (ABlk.cells (tcU t _ _ (j + 1 + 1)))
   rw [tcU_s, hTU, hxd, show H.length + 5 * (j + 1) + 1 = G.length + 1 by omega, show H.length + 5 * (j + 1) + 2 = G.length + 2 by omega, htx, ← hD, List.getElem?_append_right (by simp; omega)]
   simp only [List.length_set, List.length_append, List.length_cons, List.length_nil]
   rw [show H.length + 5 * (j + 2) - 1 - (G.length + (0 + 1 + 1 + 1 + 1)) = 0 by omega]; rfl
abbrev obC (l : List Ob) : List AV := (l.map Ob.c).flatten.map .d
structure CpF (f : Fc) (tb ob : Nat) (fb pb : Nat → Nat) (H H' : List ABlk) : Prop where
 low : ∀ b, b < H.length → H'[b]? = H[b]?
 ht : H'[tb]? = some (.cells (tcR f.types fb pb))
 hf : ∀ a, a < f.types.length → H'[fb a]? = some (.cells (fdC (f.types.getD a default).fields))
 hp : ∀ a, a < f.types.length → H'[pb a]? = some (.cells (pmC (f.types.getD a default).params))
 ho : H'[ob]? = some (.cells (obC f.objs))
 new : H.length ≤ tb ∧ H.length ≤ ob ∧ tb ≠ ob ∧ (∀ a, H.length ≤ fb a ∧ H.length ≤ pb a ∧ fb a ≠ tb ∧ fb a ≠ ob ∧ pb a ≠ tb ∧ pb a ≠ ob) ∧ (∀ a a', fb a ≠ pb a') ∧ (∀ a a', fb a = fb a' → a = a') ∧ ∀ a a', pb a = pb a' → a = a'
theorem rcopy16_h {f : Fc} (hs : Small f.types) (hn : 0 < f.types.length) (hu : f.uses.length ≤ 9000000) (ho : f.objs.length ≤ 9000000) (H : List ABlk) : ACalls Try.prog 16 [f.av] H fun v H' => ∃ tb ob fb pb, v = .agg [sv f.name, wv f.key, usv f.uses, .hsl tb 0 f.types.length f.types.length 10, .hsl ob 0 f.objs.length f.objs.length 7] ∧ CpF f tb ob fb pb H H' := by
 refine ACalls.into Try.func16 cc16r rr16r fun hcl => ?_
 have e1 : ∀ H, elemsA H 2 (usv f.uses) = some ((f.uses.map Us.c).map (·.map .d)) := fun H => by simp only [usv, elems_d, all_us, if_true]
 have e2 : ∀ H, elemsA H 7 (obv f.objs) = some ((f.objs.map Ob.c).map (·.map .d)) := fun H => by simp only [obv, elems_d, all_ob, if_true]
 have d1 := datss_map_d (f.uses.map Us.c)
 have d2 := datss_map_d (f.objs.map Ob.c)
 have f2 : ((f.objs.map Ob.c).map (·.map AV.d)).flatten = obC f.objs := List.map_flatten.symm
 have mx : maxLen = 9223372036854775807 := mx_eq
 simp (maxSteps := 2000000) (disch := omega) only [Try.ntmps16, c16r, r16r, Fc.cs, e1, d1, List.length_map, go_sem, seval, reduceCtorEq]
 obtain ⟨K, hK⟩ : ∃ K, H ++ [ABlk.cells [sv f.name, wv f.key, .d (.sl (f.uses.map Us.c)), tv f.types, obv f.objs], ABlk.cells [sv se, .d (.v (.int .u32 0)), .esl, .esl, .esl]] = K := ⟨_, rfl⟩
 have lK : K.length = H.length + 2 := by rw [← hK]; simp
 have k0 : K[H.length]? = some (ABlk.cells [sv f.name, wv f.key, usv f.uses, tv f.types, obv f.objs]) := by rw [← hK, List.getElem?_append_right (Nat.le_refl _), Nat.sub_self]; rfl
 have k1 : K[H.length + 1]? = some (ABlk.cells [sv se, .d (.v (.int .u32 0)), .esl, .esl, .esl]) := by rw [← hK, List.getElem?_append_right (by omega), show H.length + 1 - H.length = 1 by omega]; rfl
 rw [hK]
 refine Cont.rel (rcopy_h hs hn _) ?_
 rintro v G ⟨rfl, hG⟩
 obtain ⟨-, hl, hlo, hgf, hgp, hgt⟩ := hG
 have hgt := hgt hn
 have g0 : G[H.length]? = some (ABlk.cells [sv f.name, wv f.key, usv f.uses, tv f.types, obv f.objs]) := (hlo _ (by omega)).trans k0
 have g1 : G[H.length + 1]? = some (ABlk.cells [sv se, .d (.v (.int .u32 0)), .esl, .esl, .esl]) := (hlo _ (by omega)).trans k1
 obtain ⟨tb, htb⟩ : ∃ tb, K.length + 5 * f.types.length - 1 = tb := ⟨_, rfl⟩
 rw [htb] at hgt ⊢
 obtain ⟨G1, hG1⟩ : ∃ G1, G.set H.length (ABlk.cells [sv f.name, wv f.key, usv f.uses, .hsl tb 0 f.types.length f.types.length 10, obv f.objs]) = G1 := ⟨_, rfl⟩
 have l1 : G1.length = G.length := by rw [← hG1, List.length_set]
 have a0 : G1[H.length]? = some (ABlk.cells [sv f.name, wv f.key, usv f.uses, .hsl tb 0 f.types.length f.types.length 10, obv f.objs]) := by rw [← hG1, List.getElem?_set_self (by omega)]
 have a1 : ∀ b, b ≠ H.length → G1[b]? = G[b]? := fun b hb => by rw [← hG1, List.getElem?_set_ne (Ne.symm hb)]
 have b0 : ∀ l, (G1 ++ l)[H.length]? = _ := fun l => hold a0 l
 obtain ⟨G2, hG2⟩ : ∃ G2, (G1 ++ [ABlk.cells (obC f.objs)]).set H.length (ABlk.cells [sv f.name, wv f.key, usv f.uses, .hsl tb 0 f.types.length f.types.length 10, .hsl G.length 0 f.objs.length f.objs.length 7]) = G2 := ⟨_, rfl⟩
 have l2 : G2.length = G.length + 1 := by rw [← hG2]; simp [l1]
 have c0 : G2[H.length]? = some (ABlk.cells [sv f.name, wv f.key, usv f.uses, .hsl tb 0 f.types.length f.types.length 10, .hsl G.length 0 f.objs.length f.objs.length 7]) := by rw [← hG2, List.getElem?_set_self (by simp; omega)]
 have c1 : ∀ b, b ≠ H.length → b < G.length → G2[b]? = G[b]? := fun b hb hlt => by rw [← hG2, List.getElem?_set_ne (Ne.symm hb), List.getElem?_append_left (by omega), a1 b hb]
 have c2 : G2[G.length]? = some (ABlk.cells (obC f.objs)) := by rw [← hG2, List.getElem?_set_ne (by omega), ← l1, List.getElem?_concat_length]
 have c3 := (c1 (H.length + 1) (by omega) (by omega)).trans g1
 have s3 : ∀ k : ABlk, (G2.set (H.length + 1) k)[H.length + 1]? = some k := fun k => List.getElem?_set_self (by omega)
 simp (maxSteps := 2000000) (disch := omega) only [g0, hG1, a0, e2, d2, f2, l1, b0, hG2, c0, c3, s3, List.length_map, go_sem, seval, reduceCtorEq]
 have lo : ∀ {b : Nat} {k : ABlk}, b ≠ H.length → b ≠ H.length + 1 → b < G.length → (G2.set (H.length + 1) k)[b]? = G[b]? := fun h1 h2 h3 => by rw [List.getElem?_set_ne (Ne.symm h2), c1 _ h1 h3]
 refine Ret.keep ⟨tb, G.length, fun j => K.length + 5 * j + 1, fun j => K.length + 5 * j + 2, rfl, ⟨fun b hb => ?_, ?_, fun a ha => ?_, fun a ha => ?_, ?_, ?_⟩⟩
 ·rw [lo (by omega) (by omega) (by omega), hlo b (by omega), ← hK, List.getElem?_append_left hb]
 ·rw [lo (by omega) (by omega) (by omega)]; exact hgt
 ·rw [lo (by omega) (by omega) (by omega)]; exact hgf a ha
 ·rw [lo (by omega) (by omega) (by omega)]; exact hgp a ha
 ·rw [List.getElem?_set_ne (by omega)]; exact c2
 ·refine ⟨by omega, by omega, by omega, fun a => ?_, fun a a' => ?_, fun a a' h => ?_, fun a a' h => ?_⟩
  ·omega
  ·omega
  ·omega
  ·omega
end Go.Proofs.Ythifjndenhjobaa
