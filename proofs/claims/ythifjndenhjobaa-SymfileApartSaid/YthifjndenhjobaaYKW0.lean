/- A table with more types (taken from the texts of chapter 13). -/
import Derived.Test.YthifjndenhjobaaYI5
import Derived.Test.YthifjndenhjobaaYIF
import Derived.Test.YthifjndenhjobaaYFrz
namespace Go.Proofs.Ythifjndenhjobaa
set_option linter.unusedSimpArgs false
set_option linter.unusedVariables false
set_option linter.unusedSectionVars false
open Go.RowKit

section
variable {t u : List Ty}
theorem tyAt_app {a : Int} (h : placeP t a) : tyAt (t ++ u) a = tyAt t a := by
 have h1 := h.1
 have h2 := h.2
 rw [tyAt, tyAt, List.getD_eq_getElem?_getD, List.getD_eq_getElem?_getD, List.getElem?_append_left (by omega)]
theorem placeP.app {a : Int} (h : placeP t a) : placeP (t ++ u) a := ⟨h.1, by have := h.2; rw [List.length_append]; omega⟩
theorem tyAt_new {i : Nat} : tyAt (t ++ u) ((t.length : Int) + i) = u.getD i default := by
 rw [tyAt, show ((t.length : Int) + i).toNat = t.length + i by omega, List.getD_eq_getElem?_getD, List.getD_eq_getElem?_getD, List.getElem?_append_right (by omega), Nat.add_sub_cancel_left]
theorem formA_app {n : Int} (h : formA t n ≠ -1) : formA (t ++ u) n = formA t n := by
 obtain ⟨h0, h1, h2⟩ := formA_ne h
 have hp : placeP t n := ⟨h0, h1⟩
 rw [formA, if_pos (show 0 ≤ n ∧ n < ((t ++ u).length : Nat) from (hp.app (u := u))), tyAt_app hp, h2]
theorem part_app {n : Int} (h : partP (formA t n)) : partP (formA (t ++ u) n) := by
 rw [formA_app (by rcases h with h | h | h <;> omega)]; exact h
theorem is_app {n k : Int} (h : formA t n = k) (hk : k ≠ -1) : formA (t ++ u) n = k := by
 rw [formA_app (by omega)]; exact h
theorem FormedP.app {x : Ty} (h : FormedP t x) : FormedP (t ++ u) x := by
 refine ⟨?_, h.2⟩
 rcases h.1 with h | h | h | h | h
 ·exact .inl ⟨h.1, h.2.1, h.2.2.1, part_app h.2.2.2⟩
 ·exact .inr (.inl ⟨h.1, h.2.imp part_app fun k => is_app k (by decide)⟩)
 ·exact .inr (.inr (.inl ⟨h.1, h.2.1.imp_right fun k => is_app k (by decide), h.2.2.1, h.2.2.2.1, h.2.2.2.2.1, fun f hf => ⟨(h.2.2.2.2.2 f hf).1, part_app (h.2.2.2.2.2 f hf).2⟩⟩))
 ·exact .inr (.inr (.inr (.inl ⟨h.1, is_app h.2 (by decide)⟩)))
 ·refine .inr (.inr (.inr (.inr ⟨h.1, h.2.1, h.2.2.1.imp_right fun k => ?_, fun p hp => (h.2.2.2 p hp).imp part_app fun k => is_app k (by decide)⟩)))
  rw [formA_app (by rcases k with k | k | k <;> omega)]; exact k
theorem RecIn.pl {a : Int} (h : RecIn t a) : placeP t a := ⟨h.1, h.2.1⟩
theorem chain_app (h : GoodP t) : ∀ {n : Nat} {a : Int}, RecIn t a → chain (t ++ u) n a = chain t n a
 | 0, a, _ => rfl
 | n + 1, a, ha => by
  simp only [chain]
  rw [tyAt_app ha.pl]
  rcases h.base ha with hb | hb
  ·rw [if_pos hb, if_pos hb]
  ·rw [chain_app h hb]
structure NewP (t u : List Ty) : Prop where
 len : t.length + u.length ≤ 256
 frm : ∀ i, i < u.length → FormedP (t ++ u) (u.getD i default)
 kid : ∀ i : Nat, i < u.length → ∀ y ∈ kidsC (t ++ u) ((t.length : Int) + i), 0 ≤ y ∧ y < (t.length : Int) + i
 rec_ : ∀ i, i < u.length → (u.getD i default).form = 9 → (u.getD i default).base = 0 ∧ (u.getD i default).desc = -1 ∧ ((u.getD i default).fields.map Fd.name).Nodup
theorem getD_app_l {i : Nat} (h : i < t.length) : (t ++ u).getD i default = t.getD i default := by
 rw [List.getD_eq_getElem?_getD, List.getD_eq_getElem?_getD, List.getElem?_append_left h]
theorem getD_app_r {i : Nat} (h : t.length ≤ i) : (t ++ u).getD i default = u.getD (i - t.length) default := by
 rw [List.getD_eq_getElem?_getD, List.getD_eq_getElem?_getD, List.getElem?_append_right h]
theorem kids_app {a : Int} (ha : placeP t a) : kidsC (t ++ u) a = kidsC t a := by unfold kidsC; rw [tyAt_app ha]
theorem names_app {l : List Int} (h : ∀ c ∈ l, placeP t c) : namesL (t ++ u) l = namesL t l := by
 induction l with
 | nil => rfl
 | cons c l ih =>
  simp only [namesL, List.flatMap_cons]
  rw [tyAt_app (h c (by simp))]
  have := ih fun d hd => h d (by simp [hd])
  simp only [namesL] at this
  rw [this]
theorem GoodP.app (h : GoodP t) (k : NewP t u) : GoodP (t ++ u) := by
 have hl := h.len
 have hlen : (t ++ u).length = t.length + u.length := List.length_append
 have accT : ∀ a : Int, Acc (KdC t) a → placeP t a → Acc (KdC (t ++ u)) a := fun a ha => by
  induction ha with
  | intro a _ ih =>
   intro hp
   refine ⟨_, fun y hy => ?_⟩
   have hy' : y ∈ kidsC t a := by rw [← kids_app (u := u) hp]; exact hy
   exact ih y hy' (h.toFrmP.kid hp.1 hp.2 hy')
 have accN : ∀ n : Nat, ∀ i : Nat, i ≤ n → i < t.length + u.length → Acc (KdC (t ++ u)) (i : Int) := by
  intro n
  induction n using Nat.strongRecOn with
  | _ n ih =>
   intro i hi hi2
   by_cases hlt : i < t.length
   ·exact accT _ (h.acc _ (by omega) (by omega)) ⟨by omega, by omega⟩
   ·refine ⟨_, fun y hy => ?_⟩
    have hk := k.kid (i - t.length) (by omega) y (by rw [show ((t.length : Int) + (i - t.length : Nat)) = i by omega]; exact hy)
    have := ih y.toNat (by omega) y.toNat (Nat.le_refl _) (by omega)
    rwa [show ((y.toNat : Nat) : Int) = y by omega] at this
 refine ⟨⟨by rw [hlen]; have := k.len; omega, fun i hi => ?_, fun i h7 hi => ?_⟩, fun a a0 a1 => ?_, fun i j hij hj => ?_, fun i hi => ?_⟩
 ·rw [getD_app_l (by omega)]; exact h.bas i hi
 ·by_cases hlt : i < t.length
  ·rw [getD_app_l hlt]; exact (h.frm i h7 hlt).app
  ·rw [getD_app_r (by omega)]; exact k.frm _ (by omega)
 ·have := accN a.toNat a.toNat (Nat.le_refl _) (by omega)
  rwa [show ((a.toNat : Nat) : Int) = a by omega] at this
 ·by_cases hlt : j < t.length
  ·rw [getD_app_l hlt, getD_app_l (by omega)]; exact h.uni i j hij hlt
  ·rintro ⟨_, h9, h0, _, he⟩
   rw [getD_app_r (show t.length ≤ j by omega)] at h9 he
   have := (k.rec_ _ (by omega) h9).2.1
   omega
 ·rintro ⟨h9, hc⟩
  by_cases hlt : i < t.length
  ·rw [getD_app_l hlt] at h9
   have hr : RecIn t (i : Int) := ⟨by omega, by omega, h9⟩
   refine hc ?_
   have hch : ChainP t i := Classical.byContradiction fun hn => h.chn i hlt ⟨h9, hn⟩
   unfold ChainP at hch ⊢
   rw [chain_app h hr, names_app fun c hc => (h.chain_rec hr c hc).pl]
   exact hch
  ·rw [getD_app_r (by omega)] at h9
   obtain ⟨b0, _, nd⟩ := k.rec_ _ (by omega) h9
   have e : tyAt (t ++ u) (i : Int) = u.getD (i - t.length) default := by
    have := tyAt_new (t := t) (u := u) (i := i - t.length)
    rwa [show ((t.length : Int) + (i - t.length : Nat)) = i by omega] at this
   refine hc ?_
   unfold ChainP namesL
   simp only [chain]
   rw [e, b0, if_pos rfl]
   simpa [e] using nd
end
end Go.Proofs.Ythifjndenhjobaa

/- The small interface of the laws: what it is. -/
namespace Go.Proofs.Ythifjndenhjobaa
set_option linter.unusedSimpArgs false
set_option linter.unusedVariables false
set_option maxRecDepth 20000
set_option maxHeartbeats 4000000
open Go.RowKit

def c33 : AC :=
 .seq (.reg [kn 0 (.al [(.d (.v (.string ⟨#[]⟩))), (.d (.v (.int .u32 0))), .esl, .esl, .esl])])
 (.seq (.reg [kn 2 (.call 51 []), kn 3 (.bd [kz, (.d (.v (.string ⟨#[]⟩))), (.d (.v (.string ⟨#[]⟩))), kz, kz, kz, .esl, .esl, kz, kz] [(0, 1, (kc 7)), (3, 1, (kc 2)), (4, 1, (kc 1))]), kn 4 (.bd [kz, (.d (.v (.string ⟨#[]⟩))), (.d (.v (.string ⟨#[]⟩))), kz, kz, kz, .esl, .esl, kz, kz] [(0, 1, (kc 7)), (3, 1, (kc 3)), (4, 1, (kc 1))]), kn 5 (.bs .im 49 10 [(.t 3), (.t 4)]), kn 6 (.app .gr 49 10 128 (.t 2) (.t 5)), kn 1 (.mv (.t 6))])
 (.seq (.reg [kn 7 (.mv (.t 1)), kn 8 (.bd [kz, (.d (.v (.string ⟨#[]⟩))), kz, kz, kz, (.d (.v (.string ⟨#[]⟩))), kz] [(0, 1, (kc 3)), (1, 1, (.c (.d (.v (.string ⟨#[120]⟩))))), (2, 1, (kc 8))]), kn 9 (.bs .im 34 7 [(.t 8)]), kn 10 (.bd [(.d (.v (.string ⟨#[]⟩))), (.d (.v (.int .u32 0))), .esl, .esl, .esl] [(0, 1, (.c (.d (.v (.string ⟨#[65]⟩))))), (3, 1, (.t 7)), (4, 1, (.t 9))]), ke (.st (.t 0) (.t 10) 5)])
 (.ret)))
def r33 : List RC := [.c 0 5 true]

theorem cc33 : Try.f33.body.bind (comp Try.prog (hhI 33)) = some c33 := by kernel_rfl
theorem rr33 : resC Try.prog Try.f33 = some r33 := by kernel_rfl
theorem basic_good : GoodP basicL := by
 have hl : basicL.length = 7 := rfl
 have fm : ∀ i, i < 7 → (basicL.getD i default).form = i := fun i hi => by rw [basic_at hi]; rfl
 refine ⟨⟨⟨by omega, by omega⟩, fun i hi => basic_at hi, fun i h1 h2 => by omega⟩, fun a h0 h1 => ⟨_, fun y hy => ?_⟩, fun i j hij hj h => ?_, fun i hi h => ?_⟩
 ·have e : (tyAt basicL a).form = a := by rw [tyAt, fm a.toNat (by omega)]; omega
  have : y ∈ kidsC basicL a := hy
  rw [kidsC, e, if_neg (by omega), if_neg (by omega)] at this
  cases this
 ·have := h.1; rw [fm i (by omega)] at this; omega
 ·have := h.1; rw [fm i (by omega)] at this; omega
def plA (k : Int) : Ty := ⟨7, se, se, k, 1, 0, [], [], 0, 0⟩
def plT : List Ty := basicL ++ [plA 2, plA 3]
theorem plT_at {i : Nat} (hi : i < plT.length) : (i < 7 ∧ plT.getD i default = bt i) ∨ (i = 7 ∧ plT.getD i default = plA 2) ∨ (i = 8 ∧ plT.getD i default = plA 3) := by
 have hi : i < 9 := hi
 rcases (by omega : i < 7 ∨ i = 7 ∨ i = 8) with h | rfl | rfl
 ·exact .inl ⟨h, by rw [plT, getD_app_l (show i < basicL.length from h), basic_at h]⟩
 ·exact .inr (.inl ⟨rfl, rfl⟩)
 ·exact .inr (.inr ⟨rfl, rfl⟩)
theorem plT_good : GoodP plT := by
 have e : ∀ i, i < 2 → ∃ k, (k = 2 ∨ k = 3) ∧ [plA 2, plA 3].getD i default = plA k := fun i hi => by
  rcases (by omega : i = 0 ∨ i = 1) with rfl | rfl
  ·exact ⟨2, .inl rfl, rfl⟩
  ·exact ⟨3, .inr rfl, rfl⟩
 refine basic_good.app ⟨by show 7 + 2 ≤ 256; omega, fun i hi => ?_, fun i hi y hy => ?_, fun i hi h9 => ?_⟩
 ·obtain ⟨k, hk, h⟩ := e i hi
  rw [h]
  have f1 : formA (basicL ++ [plA 2, plA 3]) 1 = 1 := rfl
  refine ⟨.inl ⟨rfl, by show 1 ≤ k; omega, by show k ≤ 4096; omega, ?_⟩, .inl ⟨rfl, rfl, by show (7 : Int) ≠ 9; decide⟩, rfl, rfl, rfl, rfl, rfl, rfl, rfl⟩
  show partP (formA _ 1)
  rw [f1]; exact .inl ⟨by omega, by omega⟩
 ·obtain ⟨k, hk, h⟩ := e i hi
  have e2 : tyAt (basicL ++ [plA 2, plA 3]) ((basicL.length : Int) + i) = plA k := by rw [tyAt_new, h]
  rw [kidsC, e2, if_pos (.inl rfl), List.mem_singleton] at hy
  subst hy
  exact ⟨by show (0 : Int) ≤ 1; decide, by show (1 : Int) < (7 : Nat) + i; omega⟩
 ·obtain ⟨k, hk, h⟩ := e i hi
  rw [h] at h9; exact absurd h9 (by show (7 : Int) ≠ 9; decide)
def plO : Ob := ⟨3, ⟨#[120]⟩, 8, ⟨0, 0, se⟩, 0⟩
def plainF : Fc := ⟨⟨#[65]⟩, 0, [], plT, [plO]⟩
theorem Nm_w (c : UInt8) (h : letF (c.toNat : Nat) = true) : Nm ⟨#[c]⟩ := ⟨(by show 1 ≤ 1; omega), (by show 1 ≤ 24; omega), h, fun i hi => by
 have : i = 0 := by have : i < 1 := hi; omega
 subst this; exact .inl h⟩
theorem plain_face : FaceP plainF := by
 have ms : ∀ i, i < plT.length → (plT.getD i default).mod = se ∧ (plT.getD i default).name = se ∧ (plT.getD i default).form ≠ 9 := fun i hi => by
  rcases plT_at hi with ⟨h, e⟩ | ⟨h, e⟩ | ⟨h, e⟩
  ·rw [e]; exact ⟨rfl, rfl, by show (i : Int) ≠ 9; omega⟩
  ·rw [e]; exact ⟨rfl, rfl, by show (7 : Int) ≠ 9; decide⟩
  ·rw [e]; exact ⟨rfl, rfl, by show (7 : Int) ≠ 9; decide⟩
 refine ⟨⟨Nm_w 65 rfl, by show 0 ≤ 16; omega, by show 1 ≤ 64; omega, plT_good, fun i hi => .inl (ms i hi).1, fun i j hij hj h => ?_, fun u hu => (by cases hu), List.nodup_nil, fun o ho => ?_, by show ([plO].map Ob.name).Nodup; simp⟩, fun i hi h9 => absurd h9 (ms i hi).2.2⟩
 ·have hi : i < plT.length := by have : j < plT.length := hj; omega
  exact h.1 (ms i hi).2.1
 ·have : o = plO := List.mem_singleton.1 ho
  subst this
  refine ⟨Nm_w 120 rfl, ⟨by show (0 : Int) ≤ 8; decide, by show (8 : Int) < (9 : Nat); decide⟩, .inr (.inr (.inl ⟨rfl, rfl, ?_⟩))⟩
  show (7 : Int) ≠ 0 ∧ (7 : Int) ≠ 5 ∧ (7 : Int) ≠ 6 ∧ (7 : Int) ≠ 8 ∧ (0 : Int) ≤ 0 ∧ (0 : Int) < 64
  decide
theorem plain_small : Small plT := ⟨by show 9 ≤ 300; omega, fun x hx => by
 obtain ⟨i, hi, rfl⟩ := List.getElem_of_mem hx
 have e : plT[i] = plT.getD i default := by rw [List.getD_eq_getElem?_getD, List.getElem?_eq_getElem hi]; rfl
 rw [e]
 rcases plT_at hi with ⟨h, e⟩ | ⟨h, e⟩ | ⟨h, e⟩ <;> rw [e] <;> exact ⟨Nat.zero_le _, Nat.zero_le _, by show se.size ≤ _; decide, by show se.size ≤ _; decide⟩⟩
theorem plain_in : FIn plainF := by
 refine ⟨by decide, by decide, by decide, ⟨by decide, fun x hx => ?_⟩, fun x hx g hg => ?_, fun o ho => ?_, fun u hu => (by cases hu)⟩
 ·have := plain_small.2 x hx
  exact ⟨by omega, by omega, by omega, by omega⟩
 ·obtain ⟨i, hi, rfl⟩ := List.getElem_of_mem hx
  have hi : i < plT.length := hi
  have e : plT[i] = plT.getD i default := by rw [List.getD_eq_getElem?_getD, List.getElem?_eq_getElem hi]; rfl
  have hg : g ∈ (plT[i]).fields := hg
  rw [e] at hg
  rcases plT_at hi with ⟨h, e⟩ | ⟨h, e⟩ | ⟨h, e⟩ <;> rw [e] at hg <;> cases hg
 ·have : o = plO := List.mem_singleton.1 ho
  subst this
  exact ⟨by decide, by decide, ⟨by decide, by decide, by decide⟩, by decide⟩
theorem pre_out0 {H G : List ABlk} (h : ∀ c, c < H.length → G[c]? = H[c]?) : H <+: G := by
 refine ⟨G.drop H.length, ?_⟩
 have e : H = G.take H.length := List.ext_getElem? fun i => by
  rw [List.getElem?_take]
  split
  ·rename_i hi; exact (h i hi).symm
  ·rename_i hi; exact List.getElem?_eq_none (by omega)
 have := List.take_append_drop H.length G
 rwa [← e] at this
theorem plainF_c (H : List ABlk) : ACalls Try.prog 33 [] H fun v H' => v = plainF.av ∧ H' = H := by
 refine ACalls.into Try.func33 cc33 rr33 fun hcl => ?_
 have mx : maxLen = 9223372036854775807 := mx_eq
 simp (maxSteps := 2000000) (disch := omega) only [Try.ntmps33, c33, r33, go_sem, seval, reduceCtorEq]
 refine Cont.mk (rbasic_c _) ?_
 have lb : (basicL.map Ty.c).length = 7 := rfl
 simp (maxSteps := 2000000) (disch := omega) only [lb, go_sem, seval, reduceCtorEq]
 refine Ret.pre plainF.av H ?_ (Nat.le_refl _) hcl (.agg rfl fun i c c' h1 h2 => ?_) (by simp [refs, refs.refsL, plainF, Fc.cs]) ⟨rfl, rfl⟩
 ·exact pre_out0 fun c hc => by simp [List.getElem?_set, List.getElem?_append, hc] <;> omega
 ·rcases i with _ | _ | _ | _ | _ | i <;> simp [plainF, Fc.cs] at h1 h2
  ·subst h1 h2; exact .rfl _
  ·subst h1 h2; exact .rfl _
  ·subst h1 h2; exact .esl
  ·subst h1 h2; exact .gsl _ _ (plT.map Ty.c)
  ·subst h1 h2; exact .rfl _
end Go.Proofs.Ythifjndenhjobaa
