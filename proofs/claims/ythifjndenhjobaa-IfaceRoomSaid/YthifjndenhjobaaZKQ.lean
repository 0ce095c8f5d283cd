/- A table with more types (taken from the texts of chapter 13). -/
import Derived.Test.YthifjndenhjobaaZI5
import Derived.Test.YthifjndenhjobaaZJ9
namespace Go.Proofs.Ythifjndenhjobaa
set_option linter.unusedSimpArgs false
set_option linter.unusedVariables false
set_option linter.unusedSectionVars false
open Go.RowKit

section
variable {t u : List Ty}
theorem tyAt_app {a : Int} (h : placeP t a) : tyAt (t ++ u) a = tyAt t a := by
 have h1 := h.1
 have h2 := h.2
 rw [tyAt, tyAt, List.getD_eq_getElem?_getD, List.getD_eq_getElem?_getD, List.getElem?_append_left (by omega)]
theorem placeP.app {a : Int} (h : placeP t a) : placeP (t ++ u) a := ⟨h.1, by have := h.2; rw [List.length_append]; omega⟩
theorem tyAt_new {i : Nat} : tyAt (t ++ u) ((t.length : Int) + i) = u.getD i default := by
 rw [tyAt, show ((t.length : Int) + i).toNat = t.length + i by omega, List.getD_eq_getElem?_getD, List.getD_eq_getElem?_getD, List.getElem?_append_right (by omega), Nat.add_sub_cancel_left]
theorem formA_app {n : Int} (h : formA t n ≠ -1) : formA (t ++ u) n = formA t n := by
 obtain ⟨h0, h1, h2⟩ := formA_ne h
 have hp : placeP t n := ⟨h0, h1⟩
 rw [formA, if_pos (show 0 ≤ n ∧ n < ((t ++ u).length : Nat) from (hp.app (u := u))), tyAt_app hp, h2]
theorem part_app {n : Int} (h : partP (formA t n)) : partP (formA (t ++ u) n) := by
 rw [formA_app (by rcases h with h | h | h <;> omega)]; exact h
theorem is_app {n k : Int} (h : formA t n = k) (hk : k ≠ -1) : formA (t ++ u) n = k := by
 rw [formA_app (by omega)]; exact h
theorem FormedP.app {x : Ty} (h : FormedP t x) : FormedP (t ++ u) x := by
 refine ⟨?_, h.2⟩
 rcases h.1 with h | h | h | h | h
 ·exact .inl ⟨h.1, h.2.1, h.2.2.1, part_app h.2.2.2⟩
 ·exact .inr (.inl ⟨h.1, h.2.imp part_app fun k => is_app k (by decide)⟩)
 ·exact .inr (.inr (.inl ⟨h.1, h.2.1.imp_right fun k => is_app k (by decide), h.2.2.1, h.2.2.2.1, h.2.2.2.2.1, fun f hf => ⟨(h.2.2.2.2.2 f hf).1, part_app (h.2.2.2.2.2 f hf).2⟩⟩))
 ·exact .inr (.inr (.inr (.inl ⟨h.1, is_app h.2 (by decide)⟩)))
 ·refine .inr (.inr (.inr (.inr ⟨h.1, h.2.1, h.2.2.1.imp_right fun k => ?_, fun p hp => (h.2.2.2 p hp).imp part_app fun k => is_app k (by decide)⟩)))
  rw [formA_app (by rcases k with k | k | k <;> omega)]; exact k
theorem RecIn.pl {a : Int} (h : RecIn t a) : placeP t a := ⟨h.1, h.2.1⟩
theorem chain_app (h : GoodP t) : ∀ {n : Nat} {a : Int}, RecIn t a → chain (t ++ u) n a = chain t n a
 | 0, a, _ => rfl
 | n + 1, a, ha => by
  simp only [chain]
  rw [tyAt_app ha.pl]
  rcases h.base ha with hb | hb
  ·rw [if_pos hb, if_pos hb]
  ·rw [chain_app h hb]
structure NewP (t u : List Ty) : Prop where
 len : t.length + u.length ≤ 256
 frm : ∀ i, i < u.length → FormedP (t ++ u) (u.getD i default)
 kid : ∀ i : Nat, i < u.length → ∀ y ∈ kidsC (t ++ u) ((t.length : Int) + i), 0 ≤ y ∧ y < (t.length : Int) + i
 rec_ : ∀ i, i < u.length → (u.getD i default).form = 9 → (u.getD i default).base = 0 ∧ (u.getD i default).desc = -1 ∧ ((u.getD i default).fields.map Fd.name).Nodup
theorem getD_app_l {i : Nat} (h : i < t.length) : (t ++ u).getD i default = t.getD i default := by
 rw [List.getD_eq_getElem?_getD, List.getD_eq_getElem?_getD, List.getElem?_append_left h]
theorem getD_app_r {i : Nat} (h : t.length ≤ i) : (t ++ u).getD i default = u.getD (i - t.length) default := by
 rw [List.getD_eq_getElem?_getD, List.getD_eq_getElem?_getD, List.getElem?_append_right h]
theorem kids_app {a : Int} (ha : placeP t a) : kidsC (t ++ u) a = kidsC t a := by unfold kidsC; rw [tyAt_app ha]
theorem names_app {l : List Int} (h : ∀ c ∈ l, placeP t c) : namesL (t ++ u) l = namesL t l := by
 induction l with
 | nil => rfl
 | cons c l ih =>
  simp only [namesL, List.flatMap_cons]
  rw [tyAt_app (h c (by simp))]
  have := ih fun d hd => h d (by simp [hd])
  simp only [namesL] at this
  rw [this]
theorem GoodP.app (h : GoodP t) (k : NewP t u) : GoodP (t ++ u) := by
 have hl := h.len
 have hlen : (t ++ u).length = t.length + u.length := List.length_append
 have accT : ∀ a : Int, Acc (KdC t) a → placeP t a → Acc (KdC (t ++ u)) a := fun a ha => by
  induction ha with
  | intro a _ ih =>
   intro hp
   refine ⟨_, fun y hy => ?_⟩
   have hy' : y ∈ kidsC t a := by rw [← kids_app (u := u) hp]; exact hy
   exact ih y hy' (h.toFrmP.kid hp.1 hp.2 hy')
 have accN : ∀ n : Nat, ∀ i : Nat, i ≤ n → i < t.length + u.length → Acc (KdC (t ++ u)) (i : Int) := by
  intro n
  induction n using Nat.strongRecOn with
  | _ n ih =>
   intro i hi hi2
   by_cases hlt : i < t.length
   ·exact accT _ (h.acc _ (by omega) (by omega)) ⟨by omega, by omega⟩
   ·refine ⟨_, fun y hy => ?_⟩
    have hk := k.kid (i - t.length) (by omega) y (by rw [show ((t.length : Int) + (i - t.length : Nat)) = i by omega]; exact hy)
    have := ih y.toNat (by omega) y.toNat (Nat.le_refl _) (by omega)
    rwa [show ((y.toNat : Nat) : Int) = y by omega] at this
 refine ⟨⟨by rw [hlen]; have := k.len; omega, fun i hi => ?_, fun i h7 hi => ?_⟩, fun a a0 a1 => ?_, fun i j hij hj => ?_, fun i hi => ?_⟩
 ·rw [getD_app_l (by omega)]; exact h.bas i hi
 ·by_cases hlt : i < t.length
  ·rw [getD_app_l hlt]; exact (h.frm i h7 hlt).app
  ·rw [getD_app_r (by omega)]; exact k.frm _ (by omega)
 ·have := accN a.toNat a.toNat (Nat.le_refl _) (by omega)
  rwa [show ((a.toNat : Nat) : Int) = a by omega] at this
 ·by_cases hlt : j < t.length
  ·rw [getD_app_l hlt, getD_app_l (by omega)]; exact h.uni i j hij hlt
  ·rintro ⟨_, h9, h0, _, he⟩
   rw [getD_app_r (show t.length ≤ j by omega)] at h9 he
   have := (k.rec_ _ (by omega) h9).2.1
   omega
 ·rintro ⟨h9, hc⟩
  by_cases hlt : i < t.length
  ·rw [getD_app_l hlt] at h9
   have hr : RecIn t (i : Int) := ⟨by omega, by omega, h9⟩
   refine hc ?_
   have hch : ChainP t i := Classical.byContradiction fun hn => h.chn i hlt ⟨h9, hn⟩
   unfold ChainP at hch ⊢
   rw [chain_app h hr, names_app fun c hc => (h.chain_rec hr c hc).pl]
   exact hch
  ·rw [getD_app_r (by omega)] at h9
   obtain ⟨b0, _, nd⟩ := k.rec_ _ (by omega) h9
   have e : tyAt (t ++ u) (i : Int) = u.getD (i - t.length) default := by
    have := tyAt_new (t := t) (u := u) (i := i - t.length)
    rwa [show ((t.length : Int) + (i - t.length : Nat)) = i by omega] at this
   refine hc ?_
   unfold ChainP namesL
   simp only [chain]
   rw [e, b0, if_pos rfl]
   simpa [e] using nd
end
end Go.Proofs.Ythifjndenhjobaa

/- Plain law: a type more, that nobody needs, is gone behind a Trim. -/
namespace Go.Proofs.Ythifjndenhjobaa
set_option linter.unusedSimpArgs false
set_option linter.unusedVariables false
open Go.RowKit

def arrT (k : Int) : Ty := ⟨7, se, se, k, 3, 0, [], [], 0, 0⟩
theorem arr_new {t : List Ty} (h : GoodP t) (hl : t.length ≤ 250) {k : Int} (h1 : 1 ≤ k) (h2 : k ≤ 4096) : NewP t [arrT k] := by
 have h7 := h.len
 have e : tyAt (t ++ [arrT k]) (t.length : Int) = arrT k := by
  have := tyAt_new (t := t) (u := [arrT k]) (i := 0)
  simpa using this
 refine ⟨by simp; omega, fun i hi => ?_, fun i hi y hy => ?_, fun i hi h9 => ?_⟩
 ·have : i = 0 := by simpa using hi
  subst this
  have f3 : formA (t ++ [arrT k]) 3 = 3 := by
   rw [formA, if_pos (by simp; omega), tyAt_app ⟨by omega, by omega⟩, tyAt_lt h.toFrmP (by omega) (by omega)]; rfl
  refine ⟨.inl ⟨rfl, h1, h2, ?_⟩, ?_, ?_⟩
  ·show partP (formA _ 3)
   rw [f3]; exact .inl ⟨by omega, by omega⟩
  ·exact .inl ⟨rfl, rfl, by show (7 : Int) ≠ 9; decide⟩
  ·exact ⟨rfl, rfl, rfl, rfl, rfl, rfl, rfl⟩
 ·have : i = 0 := by simpa using hi
  subst this
  rw [show ((t.length : Int) + ((0 : Nat) : Int)) = t.length by omega, kidsC, e, if_pos (.inl rfl), List.mem_singleton] at hy
  subst hy
  exact ⟨by show (0 : Int) ≤ 3; decide, by show (3 : Int) < _; omega⟩
 ·have : i = 0 := by simpa using hi
  subst this
  exact absurd h9 (by show (7 : Int) ≠ 9; decide)
def moreF (f : Fc) (y : Ty) : Fc := { f with types := f.types ++ [y] }
theorem room_frame {f : Fc} (hf : FaceP f) (hl : f.types.length ≤ 250) {k : Int} (h1 : 1 ≤ k) (h2 : k ≤ 4096) : FrameP (moreF f (arrT k)) := by
 have hg := hf.ty.app (arr_new hf.ty hl h1 h2)
 have hlen : (f.types ++ [arrT k]).length = f.types.length + 1 := by simp
 have lo : ∀ i, i < f.types.length → (f.types ++ [arrT k]).getD i default = f.types.getD i default := fun i hi => getD_app_l hi
 have hi' : ∀ i, ¬ i < f.types.length → i < (f.types ++ [arrT k]).length → (f.types ++ [arrT k]).getD i default = arrT k := fun i h1 h2 => by
  rw [getD_app_r (by omega), show i - f.types.length = 0 by omega]; rfl
 refine ⟨⟨hf.nm, hf.us, hf.os, hg, fun i hi => ?_, fun i j hij hj => ?_, hf.un, hf.ud, fun o ho => ?_, hf.od⟩, fun i hi h9 hm => ?_⟩
 ·show ModP f ((f.types ++ [arrT k]).getD i default).mod
  by_cases h : i < f.types.length
  ·rw [lo i h]; exact hf.md i h
  ·rw [hi' i h hi]; exact .inl rfl
 ·show ¬ SameN ((f.types ++ [arrT k]).getD i default) ((f.types ++ [arrT k]).getD j default)
  by_cases h : j < f.types.length
  ·rw [lo i (by omega), lo j h]; exact hf.nn i j hij h
  ·rw [hi' j h hj]
   intro hs
   exact hs.1 (hs.2.2.1.trans rfl)
 ·obtain ⟨a1, a2, a3⟩ := hf.ob o ho
  have e : tyAt (f.types ++ [arrT k]) o.typ = tyAt f.types o.typ := tyAt_app a2
  refine ⟨a1, a2.app, ?_⟩
  show _ ∨ _ ∨ _ ∨ _
  simp only [moreF, e]
  exact a3
 ·have h9' : ((f.types ++ [arrT k]).getD i default).form = 9 := h9
  have hm' : ((f.types ++ [arrT k]).getD i default).mod ≠ f.name := hm
  show 0 ≤ ((f.types ++ [arrT k]).getD i default).desc
  by_cases h : i < f.types.length
  ·rw [lo i h] at h9' ⊢; exact (hf.num i h h9').1
  ·rw [hi' i h hi] at h9'; exact absurd h9' (by show (7 : Int) ≠ 9; decide)
theorem vis_more {t : List Ty} (hg : GoodP t) {y : Ty} {o l o' : List Int} (h : Vis (kidsV t) o l o') : (∀ a ∈ l, 0 ≤ a ∧ a < t.length) → Vis (kidsV (t ++ [y])) o l o' := by
 induction h with
 | nil => exact fun _ => .nil
 | @skip o l o' a h1 h2 ih => exact fun hl => .skip h1 (ih fun b hb => hl b (List.mem_cons_of_mem _ hb))
 | @go o l o1 o' a h1 h2 h3 h4 ih1 ih2 =>
  intro hl
  have ha := hl a List.mem_cons_self
  have e : kidsV (t ++ [y]) a = kidsV t a := by rw [kidsV, tyAt_app ha]
  refine .go h1 h2 ?_ (ih2 fun b hb => hl b (List.mem_cons_of_mem _ hb))
  rw [e]
  exact ih1 fun k hk => hg.kidV ha.1 ha.2 hk
theorem trim_room {f : Fc} (hf : FaceP f) (hl : f.types.length ≤ 250) {k : Int} (h1 : 1 ≤ k) (h2 : k ≤ 4096) : trimV (moreF f (arrT k)) = trimV f := by
 have hfr := hf.frame
 have hv := ordF_vis hfr
 have hst : ∀ a ∈ startL f, 0 ≤ a ∧ a < f.types.length := fun a ha => by
  obtain ⟨x, hx, rfl⟩ := List.mem_map.1 ha
  exact (hf.ob x hx).2.1
 have hv2 : Vis (kidsV (moreF f (arrT k)).types) [] (startL (moreF f (arrT k))) (ordF f) := vis_more hf.ty hv hst
 have ho := hfr.ord hv
 have eo := ordF_eq hv2
 have et : ∀ a ∈ ordF f, tyAt (f.types ++ [arrT k]) a = tyAt f.types a := fun a ha => by
  have := ho.rng a ha
  exact tyAt_app ⟨by omega, this.2⟩
 have eown : ∀ a ∈ ordF f, own f.name (f.types ++ [arrT k]) a = own f.name f.types a := fun a ha => by rw [own, et a ha]
 have en : newT f.name (f.types ++ [arrT k]) (ordF f) = newT f.name f.types (ordF f) := by
  rw [newT, newT]
  congr 1
  refine List.map_congr_left fun i hi => ?_
  have hi := List.mem_range.1 hi
  have hm := mem_getD hi
  have hc : ((ordF f).take i).countP (own f.name (f.types ++ [arrT k])) = ((ordF f).take i).countP (own f.name f.types) :=
   List.countP_congr fun a ha => by rw [eown a (List.mem_of_mem_take ha)]
  rw [ntF, ntF, et _ hm, eown _ hm, hc]
 have ec : (ordF f).countP (own f.name (f.types ++ [arrT k])) = (ordF f).countP (own f.name f.types) :=
  List.countP_congr fun a ha => by rw [eown a ha]
 have e1 : trimF (moreF f (arrT k)) (ordF f) = trimF f (ordF f) := by
  show ({ f with types := newT f.name (f.types ++ [arrT k]) (ordF f), objs := _ } : Fc) = _
  rw [en]; rfl
 rw [trimV, trimV, eo, e1]
 have e2 : ownN (moreF f (arrT k)) (ordF f) = ownN f (ordF f) := ec
 have e3 := room_frame hf hl h1 h2
 rw [e2]
 by_cases hc : ownN f (ordF f) ≤ 64
 ·rw [if_pos ⟨e3, hc⟩, if_pos ⟨hfr, hc⟩]
 ·rw [if_neg fun k => hc k.2, if_neg fun k => hc k.2]
end Go.Proofs.Ythifjndenhjobaa
