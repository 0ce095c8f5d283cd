/- Copies of fields and params that will be written. -/
import Derived.Test.YthifjndenhjobaaZI4
import Derived.Test.YthifjndenhjobaaZCodeT
import Derived.Test.YthifjndenhjobaaZI5
namespace Go.Proofs.Ythifjndenhjobaa
set_option linter.unusedSimpArgs false
set_option linter.unusedVariables false
set_option maxRecDepth 20000
set_option maxHeartbeats 4000000
open Go.RowKit

def c87t : AC :=
 .seq (.reg [kn 2 (.mv (.c .esl))])
 (.seq (.seq (.reg [kn 3 (.mv (.t 0)), kn 4 (.isn false false (.t 3))])
 (.cond (.t 4) (.seq (.reg [kn 2 (.mv (.c .esl))])
 (.ret)) (.skip)))
 (.seq (.reg [kn 5 (.bs .hp 83 3 []), kn 6 (.mv (.t 0)), kn 7 (.app .hp 83 3 32 (.t 5) (.t 6)), kn 2 (.mv (.t 7))])
 (.ret)))
def r87t : List RC := [.t 2]

def c88t : AC :=
 .seq (.reg [kn 2 (.mv (.c .esl))])
 (.seq (.seq (.reg [kn 3 (.mv (.t 0)), kn 4 (.isn false false (.t 3))])
 (.cond (.t 4) (.seq (.reg [kn 2 (.mv (.c .esl))])
 (.ret)) (.skip)))
 (.seq (.reg [kn 5 (.bs .hp 85 2 []), kn 6 (.mv (.t 0)), kn 7 (.app .hp 85 2 16 (.t 5) (.t 6)), kn 2 (.mv (.t 7))])
 (.ret)))
def r88t : List RC := [.t 2]

theorem cc87t : Try.f87.body.bind (comp Try.prog (hht 87)) = some c87t := by kernel_rfl
theorem rr87t : resC Try.prog Try.f87 = some r87t := by kernel_rfl
theorem cc88t : Try.f88.body.bind (comp Try.prog (hht 88)) = some c88t := by kernel_rfl
theorem rr88t : resC Try.prog Try.f88 = some r88t := by kernel_rfl
abbrev fdC (l : List Fd) : List AV := ((l.map Fd.c).flatten.map AV.d)
abbrev pmC (l : List Pm) : List AV := ((l.map Pm.c).flatten.map AV.d)
theorem fclone_c {l : List Fd} (hl : l.length ≤ 9000000) (H : List ABlk) : ACalls Try.prog 87 [fdv l] H fun v H' => v = .hsl (H.length + 1) 0 l.length l.length 3 ∧ H' = H ++ [.dead, .cells (fdC l)] := by
 refine ACalls.into Try.func87 cc87t rr87t fun hcl => ?_
 have e1 : ∀ H, elemsA H 3 (fdv l) = some ((l.map Fd.c).map (·.map .d)) := fun H => by simp only [elems_d, all_map Fd.c 3 (fun _ => rfl), if_true]
 have d1 := datss_map_d (l.map Fd.c)
 have f1 : ((l.map Fd.c).map (·.map AV.d)).flatten = fdC l := List.map_flatten.symm
 have mx : maxLen = 9223372036854775807 := mx_eq
 by_cases h : 0 < l.length
 ·have n1 : nilA false false (fdv l) = some (bv false) := by
   cases l with
   | nil => cases h
   | cons f l => rfl
  simp (maxSteps := 2000000) (disch := omega) only [Try.ntmps87, c87t, r87t, n1, e1, d1, f1, List.length_map, go_sem, seval, reduceCtorEq]
  exact Ret.keep ⟨rfl, rfl⟩
 ·have h0 : l = [] := List.eq_nil_of_length_eq_zero (by omega)
  subst h0
  have n1 : nilA false false (fdv []) = some .ub := rfl
  simp (maxSteps := 2000000) (disch := omega) only [Try.ntmps87, c87t, r87t, n1, List.length_nil, List.map_nil, go_sem, seval, reduceCtorEq]
  refine CBr.ub ?_ ?_
  ·simp (maxSteps := 2000000) (disch := omega) only [go_sem, seval, reduceCtorEq]
   exact Ret.ghost2 3 ⟨rfl, rfl⟩
  ·simp only [List.length_nil, List.map_nil] at e1 d1
   simp (maxSteps := 2000000) (disch := omega) only [e1, d1, List.length_nil, List.map_nil, go_sem, seval, reduceCtorEq]
   exact Ret.keep ⟨rfl, rfl⟩
theorem pclone_c {l : List Pm} (hl : l.length ≤ 9000000) (H : List ABlk) : ACalls Try.prog 88 [pmv l] H fun v H' => v = .hsl (H.length + 1) 0 l.length l.length 2 ∧ H' = H ++ [.dead, .cells (pmC l)] := by
 refine ACalls.into Try.func88 cc88t rr88t fun hcl => ?_
 have e1 : ∀ H, elemsA H 2 (pmv l) = some ((l.map Pm.c).map (·.map .d)) := fun H => by simp only [elems_d, all_map Pm.c 2 (fun _ => rfl), if_true]
 have d1 := datss_map_d (l.map Pm.c)
 have f1 : ((l.map Pm.c).map (·.map AV.d)).flatten = pmC l := List.map_flatten.symm
 have mx : maxLen = 9223372036854775807 := mx_eq
 by_cases h : 0 < l.length
 ·have n1 : nilA false false (pmv l) = some (bv false) := by
   cases l with
   | nil => cases h
   | cons f l => rfl
  simp (maxSteps := 2000000) (disch := omega) only [Try.ntmps88, c88t, r88t, n1, e1, d1, f1, List.length_map, go_sem, seval, reduceCtorEq]
  exact Ret.keep ⟨rfl, rfl⟩
 ·have h0 : l = [] := List.eq_nil_of_length_eq_zero (by omega)
  subst h0
  have n1 : nilA false false (pmv []) = some .ub := rfl
  simp (maxSteps := 2000000) (disch := omega) only [Try.ntmps88, c88t, r88t, n1, List.length_nil, List.map_nil, go_sem, seval, reduceCtorEq]
  refine CBr.ub ?_ ?_
  ·simp (maxSteps := 2000000) (disch := omega) only [go_sem, seval, reduceCtorEq]
   exact Ret.ghost2 2 ⟨rfl, rfl⟩
  ·simp only [List.length_nil, List.map_nil] at e1 d1
   simp (maxSteps := 2000000) (disch := omega) only [e1, d1, List.length_nil, List.map_nil, go_sem, seval, reduceCtorEq]
   exact Ret.keep ⟨rfl, rfl⟩
end Go.Proofs.Ythifjndenhjobaa

/- The trimmer's state. -/
namespace Go.Proofs.Ythifjndenhjobaa
set_option linter.unusedSimpArgs false
set_option linter.unusedVariables false
set_option maxRecDepth 20000
set_option maxHeartbeats 4000000
open Go.RowKit

theorem chain_of {α : Type} {Inv : Nat → α → Prop} {Step : Nat → α → α → Prop} (n : Nat) (h : ∀ i a, i < n → Inv i a → ∃ b, Step i a b ∧ Inv (i + 1) b) {a : α} (h0 : Inv 0 a) : ∃ g : Nat → α, g 0 = a ∧ (∀ i, i ≤ n → Inv i (g i)) ∧ ∀ i, i < n → Step i (g i) (g (i + 1)) := by
 classical
 let g : Nat → α := fun k => Nat.rec a (fun i x => if hx : i < n ∧ Inv i x then (h i x hx.1 hx.2).choose else x) k
 have hs : ∀ i, i < n → Inv i (g i) → Step i (g i) (g (i + 1)) ∧ Inv (i + 1) (g (i + 1)) := fun i hi hx => by
  have e : g (i + 1) = (h i (g i) hi hx).choose := by
   show (if hx : i < n ∧ Inv i (g i) then (h i (g i) hx.1 hx.2).choose else g i) = _
   rw [dif_pos ⟨hi, hx⟩]
  rw [e]; exact (h i (g i) hi hx).choose_spec
 have hi : ∀ i, i ≤ n → Inv i (g i) := fun i => by
  induction i with
  | zero => exact fun _ => h0
  | succ i ih => exact fun hn => (hs i (by omega) (ih (by omega))).2
 exact ⟨g, rfl, hi, fun i hn => (hs i hn (hi i (by omega))).1⟩

def plc (o : List Int) : List AV := (List.range 256).map fun a : Nat => iv (if (a : Int) ∈ o then pl o a else 0)
abbrev zC : List AV := [iv 0, sv se, sv se, iv 0, iv 0, iv 0, .d (.sl []), .d (.sl []), iv 0, iv 0]
def ocs : Option Ty → List AV
 | some x => x.cs
 | none => zC
def tyC (l : List (Option Ty)) : List AV := (l.map ocs).flatten
def xC (f : Fc) (ob : Nat) (o : List Int) (n : Nat) (m : Int) : List AV := tv f.types :: (plc o ++ [.hsl ob 0 n n 10, sv f.name, iv m])
structure TS (f : Fc) (xb : Nat) (H : List ABlk) (ob : Nat) (o : List Int) (l : List (Option Ty)) : Prop where
 x : H[xb]? = some (.cells (xC f ob o l.length (o.countP (own f.name f.types) : Nat)))
 t : H[ob]? = some (.cells (tyC l))
 n : l.length = 7 + o.length
 ne : xb ≠ ob
structure TF (xb ob : Nat) (H H' : List ABlk) : Prop where
 len : H.length ≤ H'.length
 out : ∀ b, b < H.length → b ≠ xb → b ≠ ob → H'[b]? = H[b]?
theorem TF.rfl {xb ob : Nat} {H : List ABlk} : TF xb ob H H := ⟨Nat.le_refl _, fun _ _ _ _ => _root_.rfl⟩
theorem TF.trans {xb ob ob' : Nat} {H H' H'' : List ABlk} (h : TF xb ob H H') (h' : TF xb ob' H' H'') (hb : ob' = ob ∨ H.length ≤ ob') : TF xb ob H H'' :=
 ⟨Nat.le_trans h.len h'.len, fun b hb1 hx ho => (h'.out b (Nat.lt_of_lt_of_le hb1 h.len) hx (by omega)).trans (h.out b hb1 hx ho)⟩
theorem ocs_len (x : Option Ty) : (ocs x).length = 10 := by cases x <;> rfl
theorem tyC_cons (x : Option Ty) (l : List (Option Ty)) : tyC (x :: l) = ocs x ++ tyC l := rfl
theorem tyC_len (l : List (Option Ty)) : (tyC l).length = l.length * 10 := by
 induction l with
 | nil => rfl
 | cons x l ih => rw [tyC_cons, List.length_append, ih, ocs_len, List.length_cons]; omega
theorem tyC_app (l k : List (Option Ty)) : tyC (l ++ k) = tyC l ++ tyC k := by simp [tyC]
theorem tyC_set (l k : List (Option Ty)) (x : Ty) : (tyC (l ++ none :: k)).take (l.length * 10) ++ x.cs ++ (tyC (l ++ none :: k)).drop (l.length * 10 + 10) = tyC (l ++ some x :: k) := by
 rw [tyC_app, tyC_app, List.take_append_of_le_length (by rw [tyC_len]; omega), List.take_of_length_le (by rw [tyC_len]; omega), ← tyC_len, List.drop_append, List.drop_eq_nil_of_le (by omega), List.nil_append, show (tyC l).length + 10 - (tyC l).length = 10 by omega, tyC_cons, tyC_cons]
 exact List.append_assoc _ _ _
theorem plc_len (o : List Int) : (plc o).length = 256 := by simp [plc]
theorem plc_at {o : List Int} {a : Nat} (h : a < 256) : (plc o)[a]? = some (iv (if (a : Int) ∈ o then pl o a else 0)) := by
 simp [plc, h]
theorem plc_set {o : List Int} {a : Int} (h7 : 7 ≤ a) (h : a < 256) (ha : a ∉ o) : (plc o).set a.toNat (iv ((7 : Int) + o.length)) = plc (o ++ [a]) := by
 refine List.ext_getElem? fun i => ?_
 by_cases hi : i < 256
 ·rw [plc_at hi, List.getElem?_set, plc_at hi, plc_len]
  by_cases e : a.toNat = i
  ·have e' : (i : Int) = a := by omega
   rw [if_pos e, if_pos (by omega), e', if_pos (by simp), pl_ge h7, List.idxOf_append, if_neg ha]
   simp
  ·have e' : (i : Int) ≠ a := by omega
   rw [if_neg e]
   by_cases k : (i : Int) ∈ o
   ·rw [if_pos k, if_pos (List.mem_append_left _ k)]
    by_cases h2 : (i : Int) < 7
    ·rw [pl_lt h2, pl_lt h2]
    ·rw [pl_ge (by omega), pl_ge (by omega), List.idxOf_append, if_pos k]
   ·rw [if_neg k, if_neg (by simp [k, e'])]
 ·rw [List.getElem?_eq_none (by rw [List.length_set, plc_len]; omega), List.getElem?_eq_none (by rw [plc_len]; omega)]
section
variable {f : Fc} {ob n : Nat} {o : List Int} {m : Int}
theorem xC_len : (xC f ob o n m).length = 260 := by simp [xC, plc_len]
theorem xC_ty : (xC f ob o n m).take 1 = [tv f.types] := rfl
theorem plc_drop (k : Nat) (r : List AV) : (plc o ++ r).drop (256 + k) = r.drop k := by
 rw [List.drop_append, plc_len, List.drop_eq_nil_of_le (by rw [plc_len]; omega), List.nil_append, show 256 + k - 256 = k by omega]
theorem plc_take (k : Nat) (r : List AV) : (plc o ++ r).take (256 + k) = plc o ++ r.take k := by
 rw [List.take_append, plc_len, List.take_of_length_le (by rw [plc_len]; omega), show 256 + k - 256 = k by omega]
theorem plc_drop0 (r : List AV) : (plc o ++ r).drop 256 = r := plc_drop 0 r
theorem plc_take0 (r : List AV) : (plc o ++ r).take 256 = plc o ++ [] := by rw [plc_take 0 r]; rfl
theorem xC_out : ((xC f ob o n m).drop 257).take 1 = [.hsl ob 0 n n 10] := by
 rw [xC, show (257 : Nat) = 256 + 1 from rfl, List.drop_succ_cons, plc_drop0]; rfl
theorem xC_nm : ((xC f ob o n m).drop 258).take 1 = [sv f.name] := by
 rw [xC, show (258 : Nat) = (256 + 1) + 1 from rfl, List.drop_succ_cons, plc_drop]; rfl
theorem xC_ds : ((xC f ob o n m).drop 259).take 1 = [iv m] := by
 rw [xC, show (259 : Nat) = (256 + 2) + 1 from rfl, List.drop_succ_cons, plc_drop]; rfl
theorem xC_seto (ob' n' : Nat) : (xC f ob o n m).take 257 ++ [.hsl ob' 0 n' n' 10] ++ (xC f ob o n m).drop 258 = xC f ob' o n' m := by
 rw [xC, show (258 : Nat) = (256 + 1) + 1 from rfl, List.drop_succ_cons, plc_drop, show (257 : Nat) = 256 + 1 from rfl, List.take_succ_cons, plc_take0]
 simp [xC]
theorem xC_setd (m' : Int) : (xC f ob o n m).take 259 ++ [iv m'] ++ (xC f ob o n m).drop 260 = xC f ob o n m' := by
 rw [xC, show (260 : Nat) = (256 + 3) + 1 from rfl, List.drop_succ_cons, plc_drop, show (259 : Nat) = (256 + 2) + 1 from rfl, List.take_succ_cons, plc_take]
 simp [xC]
theorem xC_setp {a : Int} (h7 : 7 ≤ a) (h : a < 256) (ha : a ∉ o) : (xC f ob o n m).take (1 + a.toNat) ++ [iv ((7 : Int) + o.length)] ++ (xC f ob o n m).drop (1 + a.toNat + 1) = xC f ob (o ++ [a]) n m := by
 have e : ∀ (l : List AV) (k : Nat) (v : AV), k < l.length → l.take k ++ [v] ++ l.drop (k + 1) = l.set k v := fun l k v hk => by
  rw [List.set_eq_take_append_cons_drop, if_pos hk, List.append_assoc]; rfl
 rw [e _ _ _ (by rw [xC_len]; omega), Nat.add_comm, xC, List.set_cons_succ, List.set_append_left _ _ (by rw [plc_len]; omega), plc_set h7 h ha, xC]
end
end Go.Proofs.Ythifjndenhjobaa

/- The new types that a visit adds. -/
namespace Go.Proofs.Ythifjndenhjobaa
set_option linter.unusedSimpArgs false
set_option linter.unusedVariables false
open Go.RowKit

def news (nm : ByteArray) (t : List Ty) (o o' : List Int) : List Ty := (List.range (o'.length - o.length)).map fun j => ntF nm t o' (o.length + j)
theorem news_self (nm : ByteArray) (t : List Ty) (o : List Int) : news nm t o o = [] := by simp [news]
theorem pl_pre {o o' : List Int} (h : o <+: o') {k : Int} (hk : k < 7 ∨ k ∈ o) : pl o' k = pl o k := by
 obtain ⟨r, rfl⟩ := h
 by_cases h7 : k < 7
 ·rw [pl_lt h7, pl_lt h7]
 ·rw [pl_ge (by omega), pl_ge (by omega), List.idxOf_append, if_pos (hk.resolve_left h7)]
theorem trnT_pre {o o' : List Int} (h : o <+: o') {x : Ty} (hk : ∀ k ∈ kidsX x, k < 7 ∨ k ∈ o) : trnT o' x = trnT o x := by
 have e := fun k h1 => pl_pre h (hk k h1)
 have e1 : pl o' x.elem = pl o x.elem := e _ (by simp [kidsX])
 have e2 : pl o' x.base = pl o x.base := e _ (by simp [kidsX])
 have e3 : pl o' x.result = pl o x.result := e _ (by simp [kidsX])
 have e4 : (x.fields.map fun f => ({ f with typ := pl o' f.typ } : Fd)) = x.fields.map fun f => { f with typ := pl o f.typ } :=
  List.map_congr_left fun f hf => by rw [e f.typ (by simp only [kidsX, List.mem_cons, List.mem_append, List.mem_map]; exact .inr (.inr (.inl ⟨f, hf, rfl⟩)))]
 have e5 : (x.params.map fun p => ({ p with typ := pl o' p.typ } : Pm)) = x.params.map fun p => { p with typ := pl o p.typ } :=
  List.map_congr_left fun p hp => by rw [e p.typ (by simp only [kidsX, List.mem_cons, List.mem_append, List.mem_map]; exact .inr (.inr (.inr (.inl ⟨p, hp, rfl⟩))))]
 simp only [trnT, e1, e2, e3, e4, e5]
theorem ntF_pre {nm : ByteArray} {t : List Ty} {o o' : List Int} (h : o <+: o') {i : Nat} (hi : i < o.length) (hk : ∀ k ∈ kidsV t (o.getD i 0), k < 7 ∨ k ∈ o) : ntF nm t o' i = ntF nm t o i := by
 obtain ⟨r, rfl⟩ := h
 have e : (o ++ r).getD i 0 = o.getD i 0 := by
  rw [List.getD_eq_getElem?_getD, List.getElem?_append_left hi, ← List.getD_eq_getElem?_getD]
 have e2 : (o ++ r).take i = o.take i := List.take_append_of_le_length (by omega)
 simp only [ntF, e, e2, trnT_pre (List.prefix_append o r) hk]
theorem news_app {nm : ByteArray} {t : List Ty} {o l o1 o2 : List Int} (hd : o1.Nodup) (h : Vis (kidsV t) o l o1) (h2 : o1 <+: o2) : news nm t o o1 ++ news nm t o1 o2 = news nm t o o2 := by
 have l1 := h.pre.length_le
 have l2 := h2.length_le
 have e : o2.length - o.length = (o1.length - o.length) + (o2.length - o1.length) := by omega
 rw [news, news, news, e, List.range_add, List.map_append, List.map_map]
 congr 1
 ·refine List.map_congr_left fun j hj => ?_
  have hj := List.mem_range.1 hj
  have hi : o.length + j < o1.length := by omega
  refine (ntF_pre h2 hi ?_).symm
  refine h.closed _ (mem_getD hi) fun hm => ?_
  have h1 := idx_getD hd hi
  obtain ⟨r, hr⟩ := h.pre
  rw [← hr, List.idxOf_append, if_pos (by rw [hr]; exact hm)] at h1
  have := List.idxOf_lt_length_iff.2 hm
  rw [hr] at h1
  omega
 ·refine List.map_congr_left fun j hj => ?_
  show _ = ntF nm t o2 (o.length + (o1.length - o.length + j))
  rw [show o.length + (o1.length - o.length + j) = o1.length + j by omega]
theorem news_go {nm : ByteArray} {t : List Ty} {o o' : List Int} {a : Int} (h : o ++ [a] <+: o') : news nm t o o' = ntF nm t o' o.length :: news nm t (o ++ [a]) o' := by
 have l1 := h.length_le
 simp only [List.length_append, List.length_singleton] at l1
 have e : o'.length - o.length = 1 + (o'.length - (o ++ [a]).length) := by simp; omega
 rw [news, news, e, List.range_add, List.map_append, List.map_map]
 simp only [List.range_one, List.map_cons, List.map_nil, List.singleton_append, Nat.add_zero]
 congr 1
 refine List.map_congr_left fun j hj => ?_
 show ntF nm t o' (o.length + (1 + j)) = ntF nm t o' ((o ++ [a]).length + j)
 rw [show o.length + (1 + j) = (o ++ [a]).length + j by simp; omega]
end Go.Proofs.Ythifjndenhjobaa

/- What is to be shown of a visit; visits of known places. -/
namespace Go.Proofs.Ythifjndenhjobaa
set_option linter.unusedSimpArgs false
set_option linter.unusedVariables false
set_option maxRecDepth 20000
set_option maxHeartbeats 4000000
open Go.RowKit

def VC (f : Fc) (o : List Int) (a : Int) (o' : List Int) : Prop :=
 ∀ (H : List ABlk) (xb ob : Nat) (l : List (Option Ty)), TS f xb H ob o l → ∃ G ob', ACalls Try.prog 42 [.ptr xb 0, iv a] H (fun v H' => v = iv (pl o' a) ∧ H' = G) ∧ TS f xb G ob' o' (l ++ (news f.name f.types o o').map some) ∧ TF xb ob H G ∧ (ob' = ob ∨ H.length ≤ ob')
inductive VCs (f : Fc) : List Int → List Int → List Int → Prop
 | nil {o : List Int} : VCs f o [] o
 | cons {o o1 o' : List Int} {a : Int} {l : List Int} : VC f o a o1 → Vis (kidsV f.types) o [a] o1 → VCs f o1 l o' → VCs f o (a :: l) o'
theorem VCs.app {f : Fc} {l1 l2 : List Int} : ∀ {o o' : List Int}, VCs f o (l1 ++ l2) o' → ∃ o1, VCs f o l1 o1 ∧ VCs f o1 l2 o' := by
 induction l1 with
 | nil => exact fun h => ⟨_, .nil, h⟩
 | cons a l1 ih =>
  intro o o' h
  cases h with
  | cons h1 h2 h3 =>
   obtain ⟨o1, k1, k2⟩ := ih h3
   exact ⟨o1, .cons h1 h2 k1, k2⟩
theorem VCs.pre {f : Fc} {o l o' : List Int} (h : VCs f o l o') : o <+: o' := by
 induction h with
 | nil => exact List.prefix_refl _
 | cons _ h2 _ ih => exact h2.pre.trans ih
theorem VCs.steps {f : Fc} {o l o' : List Int} (h : VCs f o l o') : ∃ os : Nat → List Int, os 0 = o ∧ os l.length = o' ∧ ∀ i, i < l.length → VC f (os i) (l.getD i 0) (os (i + 1)) ∧ Vis (kidsV f.types) (os i) [l.getD i 0] (os (i + 1)) := by
 induction h with
 | @nil o => exact ⟨fun _ => o, rfl, rfl, fun i h => by cases h⟩
 | @cons o o1 o' a l h1 h2 h3 ih =>
  obtain ⟨os, e0, en, hs⟩ := ih
  refine ⟨fun i => match i with | 0 => o | i + 1 => os i, rfl, en, fun i hi => ?_⟩
  cases i with
  | zero =>
   refine ⟨?_, ?_⟩
   ·show VC f o a (os 0)
    rw [e0]; exact h1
   ·show Vis (kidsV f.types) o [a] (os 0)
    rw [e0]; exact h2
  | succ i => exact hs i (by simpa using hi)
theorem TS.at {f : Fc} {xb ob : Nat} {H : List ABlk} {o : List Int} {l : List (Option Ty)} (h : TS f xb H ob o l) {a : Int} (h0 : 0 ≤ a) (h1 : a < 256) : (xC f ob o l.length (o.countP (own f.name f.types) : Nat))[1 + a.toNat]? = some (iv (if a ∈ o then pl o a else 0)) := by
 rw [Nat.add_comm, xC, List.getElem?_cons_succ, List.getElem?_append_left (by rw [plc_len]; omega), plc_at (by omega), show ((a.toNat : Nat) : Int) = a by omega]
theorem take1_at {α : Type} {l : List α} {i : Nat} {x : α} (h : l[i]? = some x) : (l.drop i).take 1 = [x] := by
 rw [List.take_one, List.head?_drop, h]; rfl
theorem visit0_c {f : Fc} {o : List Int} {a : Int} (h0 : 0 ≤ a) (h1 : a < 256) (ho : ∀ x ∈ o, 7 ≤ x) (h : a < 7 ∨ a ∈ o) : VC f o a o := by
 intro H xb ob l hT
 refine ⟨H, ob, ?_, by rw [news_self, List.map_nil, List.append_nil]; exact hT, .rfl, .inl rfl⟩
 refine ACalls.into Try.func42 cc42 rr42 fun hcl => ?_
 by_cases h7 : a ≤ 6
 ·simp (maxSteps := 2000000) (disch := omega) only [Try.ntmps42, c42, r42, h7, decide_true, go_sem, seval, reduceCtorEq]
  exact Ret.keep ⟨by rw [pl_lt (by omega)], rfl⟩
 ·have hm : a ∈ o := h.resolve_left (by omega)
  have e1 := hT.at h0 h1
  rw [if_pos hm] at e1
  have hp : (0 : Int) < pl o a := by rw [pl_ge (by omega)]; omega
  have hx := hT.x
  have hl : 1 + a.toNat + 1 ≤ 260 := by omega
  simp (maxSteps := 2000000) (disch := omega) only [Try.ntmps42, c42, r42, h7, decide_false, hx, xC_len, hl, take1_at e1, hp, decide_true, go_sem, seval, reduceCtorEq]
  exact Ret.keep ⟨rfl, rfl⟩
end Go.Proofs.Ythifjndenhjobaa

/- All visits, from one. -/
namespace Go.Proofs.Ythifjndenhjobaa
set_option linter.unusedSimpArgs false
set_option linter.unusedVariables false
open Go.RowKit

theorem TS.ext {f : Fc} {xb ob : Nat} {H H' : List ABlk} {o : List Int} {l : List (Option Ty)} (h : TS f xb H ob o l) (h1 : H'[xb]? = H[xb]?) (h2 : H'[ob]? = H[ob]?) : TS f xb H' ob o l :=
 ⟨h1.trans h.x, h2.trans h.t, h.n, h.ne⟩
theorem TS.set {f : Fc} {xb ob tb : Nat} {H : List ABlk} {o : List Int} {l : List (Option Ty)} (h : TS f xb H ob o l) (h1 : tb ≠ xb) (h2 : tb ≠ ob) (k : ABlk) : TS f xb (H.set tb k) ob o l :=
 h.ext (List.getElem?_set_ne h1) (List.getElem?_set_ne h2)
theorem TS.app {f : Fc} {xb ob : Nat} {H : List ABlk} {o : List Int} {l : List (Option Ty)} (h : TS f xb H ob o l) (k : List ABlk) : TS f xb (H ++ k) ob o l :=
 ⟨hold h.x k, hold h.t k, h.n, h.ne⟩
theorem TS.ob_lt {f : Fc} {xb ob : Nat} {H : List ABlk} {o : List Int} {l : List (Option Ty)} (h : TS f xb H ob o l) : ob < H.length ∧ xb < H.length :=
 ⟨(List.getElem?_eq_some_iff.1 h.t).1, (List.getElem?_eq_some_iff.1 h.x).1⟩
theorem TF.set {xb ob tb : Nat} {H G : List ABlk} (h : TF xb ob H G) (ht : H.length ≤ tb) (k : ABlk) : TF xb ob H (G.set tb k) :=
 ⟨by rw [List.length_set]; exact h.len, fun b hb hx ho => by rw [List.getElem?_set_ne (by omega)]; exact h.out b hb hx ho⟩
theorem TF.app {xb ob : Nat} {H G : List ABlk} (h : TF xb ob H G) (k : List ABlk) : TF xb ob H (G ++ k) :=
 ⟨by rw [List.length_append]; have := h.len; omega, fun b hb hx ho => by rw [List.getElem?_append_left (Nat.lt_of_lt_of_le hb h.len)]; exact h.out b hb hx ho⟩

theorem vcs_of {f : Fc} (hg : GoodP f.types) (body : ∀ {o o1 : List Int} {a : Int}, 7 ≤ a → a < f.types.length → a ∉ o → (∀ x ∈ o, 7 ≤ x ∧ x < f.types.length) → o.Nodup → VCs f (o ++ [a]) (kidsV f.types a) o1 → Vis (kidsV f.types) (o ++ [a]) (kidsV f.types a) o1 → VC f o a o1)
 {o l o' : List Int} (h : Vis (kidsV f.types) o l o') : (∀ a ∈ l, 0 ≤ a ∧ a < f.types.length) → (∀ x ∈ o, 7 ≤ x ∧ x < f.types.length) → o.Nodup → VCs f o l o' := by
 have h256 := hg.len
 induction h with
 | nil => exact fun _ _ _ => .nil
 | @skip o l o' a h1 h2 ih =>
  intro hl ho hd
  have ha := hl a List.mem_cons_self
  exact .cons (visit0_c ha.1 (by omega) (fun x hx => (ho x hx).1) h1) (.skip h1 .nil) (ih (fun b hb => hl b (List.mem_cons_of_mem _ hb)) ho hd)
 | @go o l o1 o' a h1 h2 h3 h4 ih1 ih2 =>
  intro hl ho hd
  have ha := hl a List.mem_cons_self
  have ho2 : ∀ x ∈ o ++ [a], 7 ≤ x ∧ x < f.types.length := fun x hx => by
   rcases List.mem_append.1 hx with hx | hx
   ·exact ho x hx
   ·rw [List.mem_singleton.1 hx]; exact ⟨h1, ha.2⟩
  have hd2 : (o ++ [a]).Nodup := by
   rw [List.nodup_append]
   refine ⟨hd, by simp, fun x hx y hy => ?_⟩
   rw [List.mem_singleton] at hy
   subst hy
   exact fun e => h2 (e ▸ hx)
  have hk : ∀ k ∈ kidsV f.types a, 0 ≤ k ∧ k < f.types.length := fun k hk => hg.kidV ha.1 ha.2 hk
  have r := ih1 hk ho2 hd2
  have ho1 : ∀ x ∈ o1, 7 ≤ x ∧ x < f.types.length := fun x hx =>
   ⟨h3.ge (fun b hb => (ho2 b hb).1) x hx, h3.all (P := fun b => b < f.types.length) (fun b b7 bl k hk _ => (hg.kidV (by omega) bl hk).2) (fun b hb => (ho2 b hb).2) (fun b hb _ => (hk b hb).2) x hx⟩
  exact .cons (body h1 ha.2 h2 ho hd r h3) (.go h1 h2 h3 .nil) (ih2 (fun b hb => hl b (List.mem_cons_of_mem _ hb)) ho1 (h3.nodup hd2))
end Go.Proofs.Ythifjndenhjobaa
