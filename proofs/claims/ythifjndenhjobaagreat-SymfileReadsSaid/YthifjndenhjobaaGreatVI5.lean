/- Plain law: interfaces; trimmed they stay interfaces, and are trimmed to themselves. -/
import Derived.Test.YthifjndenhjobaaGreatVI4
import Derived.Test.YthifjndenhjobaaGreatVV2
set_option linter.unusedSectionVars false
set_option linter.unusedSimpArgs false
set_option linter.unusedVariables false
set_option maxHeartbeats 2000000
set_option maxRecDepth 20000
namespace Go.Proofs.YthifjndenhjobaaGreat
def ModP (f : Fc) (m : ByteArray) : Prop := m = se \/ m = f.name \/ ∃ u ∈ f.uses, u.name = m
def SameN (x y : Ty) : Prop := x.name ≠ se /\ x.mod = y.mod /\ x.name = y.name /\ (x.form = 9 ↔ y.form = 9)
theorem SameN.symm {x y : Ty} (h : SameN x y) : SameN y x := ⟨by rw [<- h.2.2.1]; exact h.1, h.2.1.symm, h.2.2.1.symm, h.2.2.2.symm⟩
structure ShapeP (f : Fc) : Prop where
 nm : Nm f.name
 us : f.uses.length <= 16
 os : f.objs.length <= 64
 ty : GoodP f.types
 md : ∀ i, i < f.types.length -> ModP f (f.types.getD i default).mod
 nn : ∀ i j, i < j -> j < f.types.length -> ¬ SameN (f.types.getD i default) (f.types.getD j default)
 un : ∀ u ∈ f.uses, Nm u.name /\ u.name ≠ f.name
 ud : (f.uses.map Us.name).Nodup
 ob : ∀ o ∈ f.objs, ObP f.types o
 od : (f.objs.map Ob.name).Nodup
def OthP (f : Fc) : Prop := ∀ i, i < f.types.length -> (f.types.getD i default).form = 9 -> (f.types.getD i default).mod ≠ f.name -> 0 <= (f.types.getD i default).desc
def NumP (f : Fc) : Prop := ∀ i, i < f.types.length -> (f.types.getD i default).form = 9 -> 0 <= (f.types.getD i default).desc /\ ((f.types.getD i default).mod = f.name -> (f.types.getD i default).desc = ((f.types.take i).countP (ownX f.name) : Nat))
structure FrameP (f : Fc) : Prop extends ShapeP f where
 oth : OthP f
structure FaceP (f : Fc) : Prop extends ShapeP f where
 num : NumP f
theorem FaceP.frame {f : Fc} (h : FaceP f) : FrameP f := ⟨h.toShapeP, fun i hi h9 _ => (h.num i hi h9).1⟩
def trimO (o : List Int) (x : Ob) : Ob := { x with typ := pl o x.typ }
def trimF (f : Fc) (o : List Int) : Fc := { f with types := newT f.name f.types o, objs := f.objs.map (trimO o) }
abbrev startL (f : Fc) : List Int := f.objs.map Ob.typ
abbrev ownN (f : Fc) (o : List Int) : Nat := o.countP (own f.name f.types)
section
variable {f : Fc} {o : List Int} (hf : FrameP f) (hv : Vis (kidsV f.types) [] (startL f) o)
include hf hv
theorem FrameP.ord : Ord f.types o := Vis.ord hf.ty hv fun a ha => by
 obtain ⟨x, hx, rfl⟩ := List.mem_map.1 ha; exact (hf.ob x hx).2.1.2
theorem FrameP.typ {x : Ob} (hx : x ∈ f.objs) : 0 <= x.typ /\ (x.typ < 7 \/ x.typ ∈ o) := ⟨(hf.ob x hx).2.1.1, hv.mem _ (List.mem_map_of_mem hx)⟩
theorem FrameP.obj {x : Ob} (hx : x ∈ f.objs) : ObP (newT f.name f.types o) (trimO o x) := by
 have ho := hf.ord hv; obtain ⟨h0, h1⟩ := hf.typ hv hx; have hp := Ord.pl_rng (nm := f.name) hf.ty ho h0 h1; have hfm : (tyAt (newT f.name f.types o) (trimO o x).typ).form = (tyAt f.types x.typ).form := Ord.form hf.ty ho h0 h1; obtain ⟨g1, g2, g3⟩ := hf.ob x hx; refine ⟨g1, hp, ?_⟩; rw [hfm]; rcases g3 with g3 | g3 | g3 | g3
 ·refine .inl ⟨g3.1, g3.2.1, ?_, g3.2.2.2⟩
  show pl o x.typ = x.val.form
  rw [pl_lt, g3.2.2.1]; rw [g3.2.2.1]; rcases g3.2.1 with h | ⟨_, h | h | h | h | h⟩ <;> omega
 ·refine .inr (.inl ⟨g3.1, g3.2.1, g3.2.2.1, ?_⟩)
  show (1 <= pl o x.typ /\ pl o x.typ <= 4) \/ 7 <= pl o x.typ
  rcases g3.2.2.2 with h | h
  ·rw [pl_lt (by omega)]; exact .inl h
  ·rw [pl_ge h]; exact .inr (by omega)
 ·exact .inr (.inr (.inl g3))
 ·exact .inr (.inr (.inr g3))
theorem FrameP.again {o2 : List Int} (hc : ownN f o <= 64) (h2 : Vis (kidsV (trimF f o).types) [] (startL (trimF f o)) o2) : trimF (trimF f o) o2 = trimF f o /\ ownN (trimF f o) o2 <= 64 := by
 have ho := hf.ord hv; have hN := newT_len f.name f.types o; have hk : ∀ a ∈ o, kidsV (newT f.name f.types o) (pl o a) = (kidsV f.types a).map (pl o) := fun a ha => by
  obtain ⟨d, e, -, -⟩ := ntF_x (nm := f.name) hf.ty ho ha; rw [kidsV, newT_at ha (ho.rng a ha).1, e]; simp [kidsX, trnT]
  rfl
 have hs := hv.sim (kd' := kidsV (newT f.name f.types o)) (p := pl o) o (fun a ha => ha) (fun a h => pl_lt h) (fun a ha => by rw [pl_ge (ho.rng a ha).1]; omega) (fun a ha b hb h => Ord.inj hf.ty ho (.inr ha) (.inr hb) h) hk (fun a ha => by cases ha); have hst : startL (trimF f o) = (startL f).map (pl o) := by simp [startL, trimF, trimO]
 rw [hst] at h2; have e2 : o2 = o.map (pl o) := h2.det hs; subst e2; have hmap : o.map (pl o) = (List.range o.length).map fun i : Nat => (7 : Int) + i := by
  refine List.ext_getElem (by simp) fun i h1 h3 => ?_
  simp only [List.getElem_map, List.getElem_range]; have hi : i < o.length := by simpa using h1
  have e : o.getD i 0 = o[i] := by rw [gD, gE hi]; rfl
  rw [<- e, pl_ge (ho.rng _ (mem_getD hi)).1, idx_getD ho.nd hi]
 have hid : ∀ k : Int, 0 <= k -> k < 7 + (o.length : Int) -> pl (o.map (pl o)) k = k := fun k h0 h1 => by
  by_cases h7 : k < 7
  ·exact pl_lt h7
  ·rw [pl_ge (by omega), hmap]
   have hnd : ((List.range o.length).map fun i : Nat => (7 : Int) + i).Nodup := by
    rw [<- hmap]; exact List.Pairwise.map _ (fun a b h => h) (List.pairwise_map.1 (by
     have := ho.nd; rw [List.pairwise_map]; exact this.imp_of_mem fun {a b} ha hb h e => h (Ord.inj hf.ty ho (.inr ha) (.inr hb) e)))
   have hj : (k - 7).toNat < o.length := by omega
   have := idx_getD hnd (i := (k - 7).toNat) (by simpa using hj); rw [gD, List.getElem?_map, List.getElem?_range hj] at this; have e : (7 : Int) + ((k - 7).toNat : Nat) = k := by omega
   simp only [Option.map_some, Option.getD_some] at this; rw [e] at this; rw [this]; omega
 have hrng : ∀ a ∈ o, ∀ k ∈ kidsV f.types a, 0 <= pl o k /\ pl o k < 7 + (o.length : Int) := fun a ha k hk => by
  have := Ord.pl_rng (nm := f.name) hf.ty ho (hf.ty.kidV (by have := (ho.rng a ha).1; omega) (ho.rng a ha).2 hk).1 (ho.cls a ha k hk); rw [hN] at this; exact ⟨this.1, by omega⟩
 have hlen2 : (o.map (pl o)).length = o.length := lnm ..; have hgi : ∀ i, i < o.length -> (o.map (pl o)).getD i 0 = ((7 + i : Nat) : Int) := fun i hi => by
  rw [hmap, gD, List.getElem?_map, List.getElem?_range hi]; simp
 have hat : ∀ i, i < o.length -> tyAt (newT f.name f.types o) ((7 + i : Nat) : Int) = ntF f.name f.types o i := fun i hi => newT_hi hi
 have hcnt : ∀ i, i <= o.length -> ((o.map (pl o)).take i).countP (own f.name (newT f.name f.types o)) = (o.take i).countP (own f.name f.types) := fun i hi => by
  rw [<- List.map_take, List.countP_map]; refine List.countP_congr fun a ha => ?_
  have ha : a ∈ o := List.mem_of_mem_take ha; obtain ⟨d, e, -, -⟩ := ntF_x (nm := f.name) hf.ty ho ha; simp only [Function.comp, own]; rw [newT_at ha (ho.rng a ha).1, e]
  rfl
 have hnt : ∀ i, i < o.length -> ntF f.name (newT f.name f.types o) (o.map (pl o)) i = ntF f.name f.types o i := fun i hi => by
  have hm : o.getD i 0 ∈ o := mem_getD hi; obtain ⟨d, e, d1, d2⟩ := ntF_x (nm := f.name) hf.ty ho hm; rw [idx_getD ho.nd hi] at e d1; have hK : ∀ k ∈ kidsV f.types (o.getD i 0), pl (o.map (pl o)) (pl o k) = pl o k := fun k hk => hid _ (hrng _ hm k hk).1 (hrng _ hm k hk).2
  have ho1 : own f.name (newT f.name f.types o) ((7 + i : Nat) : Int) = own f.name f.types (o.getD i 0) := by
   simp only [own]; rw [hat i hi, e]; rfl
  rw [ntF, hgi i hi, ho1, hat i hi, hcnt i (by omega)]; have hd : (if own f.name f.types (o.getD i 0) = true then (((o.take i).countP (own f.name f.types) : Nat) : Int) else (ntF f.name f.types o i).desc) = (ntF f.name f.types o i).desc := by
   split
   ·rename_i hw; rw [e]; exact (d1 hw).symm
   ·rfl
  rw [hd, e]; have mk : ∀ k, k ∈ kidsV f.types (o.getD i 0) ↔ k = (tyAt f.types (o.getD i 0)).elem \/ k = (tyAt f.types (o.getD i 0)).base \/ (∃ p ∈ (tyAt f.types (o.getD i 0)).fields, Fd.typ p = k) \/ (∃ p ∈ (tyAt f.types (o.getD i 0)).params, Pm.typ p = k) \/ k = (tyAt f.types (o.getD i 0)).result := fun k => by simp [kidsV, kidsX]
  simp only [mk] at hK
  generalize tyAt f.types (o.getD i 0) = x at *
  obtain ⟨x1, x2, x3, x4, x5, x6, x7, x8, x9, x10⟩ := x; simp only [trnT, List.map_map] at hK ⊢
  congr 1
  ·exact hK _ (.inl rfl)
  ·exact hK _ (.inr (.inl rfl))
  ·refine List.map_congr_left fun p hp => ?_
   have := hK _ (.inr (.inr (.inl ⟨p, hp, rfl⟩))); simp only [Function.comp, this]
  ·refine List.map_congr_left fun p hp => ?_
   have := hK _ (.inr (.inr (.inr (.inl ⟨p, hp, rfl⟩)))); simp only [Function.comp, this]
  ·exact hK _ (.inr (.inr (.inr (.inr rfl))))
 refine ⟨?_, ?_⟩
 ·have h1 : newT f.name (newT f.name f.types o) (o.map (pl o)) = newT f.name f.types o := by
   rw [newT, hlen2]
   conv => rhs; rw [newT]
   congr 1
   exact List.map_congr_left fun i hi => hnt i (List.mem_range.1 hi)
  have h3 : (f.objs.map (trimO o)).map (trimO (o.map (pl o))) = f.objs.map (trimO o) := by
   rw [List.map_map]; refine List.map_congr_left fun x hx => ?_
   obtain ⟨q0, q1⟩ := hf.typ hv hx; have := Ord.pl_rng (nm := f.name) hf.ty ho q0 q1; rw [hN] at this; simp only [Function.comp, trimO]; rw [hid _ this.1 (by omega)]
  simp only [trimF]; rw [h1, h3]
 ·have := hcnt o.length (Nat.le_refl _)
  rw [List.take_of_length_le (by simp), List.take_length] at this
  show (o.map (pl o)).countP (own f.name (newT f.name f.types o)) <= 64
  rw [this]; exact hc
end
end Go.Proofs.YthifjndenhjobaaGreat
namespace Go.Proofs.YthifjndenhjobaaGreat
open Go.RowKit
def tyW (x : Ty) : Nat := x.fields.length + x.params.length + x.name.size / 50 + x.mod.size / 50
def sumW : List Ty -> Nat
 | [] => 0
 | x :: l => tyW x + sumW l
theorem sumW_app : ∀ a b : List Ty, sumW (a ++ b) = sumW a + sumW b
 | [], b => by simp [sumW]
 | x :: a, b => by simp only [List.cons_append, sumW, sumW_app a b]; omega
theorem sumW_take {t : List Ty} {i : Nat} (h : i < t.length) : sumW (t.take (i + 1)) = sumW (t.take i) + tyW (t.getD i default) := by
 rw [getD_take (d := default) h, sumW_app]; simp [sumW]
theorem sumW_le (t : List Ty) (i : Nat) : sumW (t.take i) <= sumW t := by
 conv => rhs; rw [<- List.take_append_drop i t, sumW_app]
 omega
def LessT (t : List Ty) : Prop := t.length <= 300 /\ sumW t <= 3000
theorem tyW_mem {t : List Ty} {x : Ty} (h : x ∈ t) : tyW x <= sumW t := by
 obtain ⟨i, hi, rfl⟩ := List.getElem_of_mem h; have h1 := sumW_take hi; have h2 := sumW_le t (i + 1); rw [gD, gE hi] at h1; simp only [Option.getD_some] at h1; omega
theorem LessT.small {t : List Ty} (h : LessT t) : Small t := ⟨by have := h.1; omega, fun x hx => by
 have := tyW_mem hx; have h2 := h.2; simp only [tyW] at this
 omega⟩
structure FIn (f : Fc) : Prop where
 nm : f.name.size <= 140737488355328
 us : f.uses.length <= 140737488355328
 os : f.objs.length <= 140737488355328
 ty : TOk f.types
 fn : FNames f.types
 ob : ∀ o ∈ f.objs, o.name.size <= 140737488355328 /\ J64 o.typ /\ o.val.In /\ J64 o.n
 un : ∀ u ∈ f.uses, u.name.size <= 140737488355328
end Go.Proofs.YthifjndenhjobaaGreat
