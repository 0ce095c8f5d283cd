/- Plain law: interfaces; trimmed they stay interfaces, and are trimmed to themselves. -/
import Derived.Test.YthifjndenhjobaaXI4
import Derived.Test.YthifjndenhjobaaXV2
namespace Go.Proofs.Ythifjndenhjobaa
set_option linter.unusedSimpArgs false
set_option linter.unusedVariables false
set_option linter.unusedSectionVars false

def ModP (f : Fc) (m : ByteArray) : Prop := m = se ∨ m = f.name ∨ ∃ u ∈ f.uses, u.name = m
def SameN (x y : Ty) : Prop := x.name ≠ se ∧ x.mod = y.mod ∧ x.name = y.name ∧ (x.form = 9 ↔ y.form = 9)
theorem SameN.symm {x y : Ty} (h : SameN x y) : SameN y x := ⟨by rw [← h.2.2.1]; exact h.1, h.2.1.symm, h.2.2.1.symm, h.2.2.2.symm⟩
structure ShapeP (f : Fc) : Prop where
 nm : Nm f.name
 us : f.uses.length ≤ 16
 os : f.objs.length ≤ 64
 ty : GoodP f.types
 md : ∀ i, i < f.types.length → ModP f (f.types.getD i default).mod
 nn : ∀ i j, i < j → j < f.types.length → ¬ SameN (f.types.getD i default) (f.types.getD j default)
 un : ∀ u ∈ f.uses, Nm u.name ∧ u.name ≠ f.name
 ud : (f.uses.map Us.name).Nodup
 ob : ∀ o ∈ f.objs, ObP f.types o
 od : (f.objs.map Ob.name).Nodup
def OthP (f : Fc) : Prop := ∀ i, i < f.types.length → (f.types.getD i default).form = 9 → (f.types.getD i default).mod ≠ f.name → 0 ≤ (f.types.getD i default).desc
def NumP (f : Fc) : Prop := ∀ i, i < f.types.length → (f.types.getD i default).form = 9 → 0 ≤ (f.types.getD i default).desc ∧ ((f.types.getD i default).mod = f.name → (f.types.getD i default).desc = ((f.types.take i).countP (ownX f.name) : Nat))
structure FrameP (f : Fc) : Prop extends ShapeP f where
 oth : OthP f
structure FaceP (f : Fc) : Prop extends ShapeP f where
 num : NumP f
theorem FaceP.frame {f : Fc} (h : FaceP f) : FrameP f := ⟨h.toShapeP, fun i hi h9 _ => (h.num i hi h9).1⟩
def trimO (o : List Int) (x : Ob) : Ob := { x with typ := pl o x.typ }
def trimF (f : Fc) (o : List Int) : Fc := { f with types := newT f.name f.types o, objs := f.objs.map (trimO o) }
abbrev startL (f : Fc) : List Int := f.objs.map Ob.typ
abbrev ownN (f : Fc) (o : List Int) : Nat := o.countP (own f.name f.types)

section
variable {f : Fc} {o : List Int} (hf : FrameP f) (hv : Vis (kidsV f.types) [] (startL f) o)
include hf hv
theorem FrameP.ord : Ord f.types o := Vis.ord hf.ty hv fun a ha => by
 obtain ⟨x, hx, rfl⟩ := List.mem_map.1 ha
 exact (hf.ob x hx).2.1.2
theorem FrameP.typ {x : Ob} (hx : x ∈ f.objs) : 0 ≤ x.typ ∧ (x.typ < 7 ∨ x.typ ∈ o) := ⟨(hf.ob x hx).2.1.1, hv.mem _ (List.mem_map_of_mem hx)⟩
theorem FrameP.obj {x : Ob} (hx : x ∈ f.objs) : ObP (newT f.name f.types o) (trimO o x) := by
 have ho := hf.ord hv
 obtain ⟨h0, h1⟩ := hf.typ hv hx
 have hp := Ord.pl_rng (nm := f.name) hf.ty ho h0 h1
 have hfm : (tyAt (newT f.name f.types o) (trimO o x).typ).form = (tyAt f.types x.typ).form := Ord.form hf.ty ho h0 h1
 obtain ⟨g1, g2, g3⟩ := hf.ob x hx
 refine ⟨g1, hp, ?_⟩
 rw [hfm]
 rcases g3 with g3 | g3 | g3 | g3
 ·refine .inl ⟨g3.1, g3.2.1, ?_, g3.2.2.2⟩
  show pl o x.typ = x.val.form
  rw [pl_lt, g3.2.2.1]
  rw [g3.2.2.1]
  rcases g3.2.1 with h | ⟨_, h | h | h | h | h⟩ <;> omega
 ·refine .inr (.inl ⟨g3.1, g3.2.1, g3.2.2.1, ?_⟩)
  show (1 ≤ pl o x.typ ∧ pl o x.typ ≤ 4) ∨ 7 ≤ pl o x.typ
  rcases g3.2.2.2 with h | h
  ·rw [pl_lt (by omega)]; exact .inl h
  ·rw [pl_ge h]; exact .inr (by omega)
 ·exact .inr (.inr (.inl g3))
 ·exact .inr (.inr (.inr g3))
theorem FrameP.again {o2 : List Int} (hc : ownN f o ≤ 64) (h2 : Vis (kidsV (trimF f o).types) [] (startL (trimF f o)) o2) : trimF (trimF f o) o2 = trimF f o ∧ ownN (trimF f o) o2 ≤ 64 := by
 have ho := hf.ord hv
 have hN := newT_len f.name f.types o
 have hk : ∀ a ∈ o, kidsV (newT f.name f.types o) (pl o a) = (kidsV f.types a).map (pl o) := fun a ha => by
  obtain ⟨d, e, -, -⟩ := ntF_x (nm := f.name) hf.ty ho ha
  rw [kidsV, newT_at ha (ho.rng a ha).1, e]
  simp [kidsX, trnT]
  rfl
 have hs := hv.sim (kd' := kidsV (newT f.name f.types o)) (p := pl o) o (fun a ha => ha) (fun a h => pl_lt h) (fun a ha => by rw [pl_ge (ho.rng a ha).1]; omega) (fun a ha b hb h => Ord.inj hf.ty ho (.inr ha) (.inr hb) h) hk (fun a ha => by cases ha)
 have hst : startL (trimF f o) = (startL f).map (pl o) := by simp [startL, trimF, trimO]
 rw [hst] at h2
 have e2 : o2 = o.map (pl o) := h2.det hs
 subst e2
 have hmap : o.map (pl o) = (List.range o.length).map fun i : Nat => (7 : Int) + i := by
  refine List.ext_getElem (by simp) fun i h1 h3 => ?_
  simp only [List.getElem_map, List.getElem_range]
  have hi : i < o.length := by simpa using h1
  have e : o.getD i 0 = o[i] := by rw [List.getD_eq_getElem?_getD, List.getElem?_eq_getElem hi]; rfl
  rw [← e, pl_ge (ho.rng _ (mem_getD hi)).1, idx_getD ho.nd hi]
 have hid : ∀ k : Int, 0 ≤ k → k < 7 + (o.length : Int) → pl (o.map (pl o)) k = k := fun k h0 h1 => by
  by_cases h7 : k < 7
  ·exact pl_lt h7
  ·rw [pl_ge (by omega), hmap]
   have hnd : ((List.range o.length).map fun i : Nat => (7 : Int) + i).Nodup := by
    rw [← hmap]
    exact List.Pairwise.map _ (fun a b h => h) (List.pairwise_map.1 (by
     have := ho.nd
     rw [List.pairwise_map]
     exact this.imp_of_mem fun {a b} ha hb h e => h (Ord.inj hf.ty ho (.inr ha) (.inr hb) e)))
   have hj : (k - 7).toNat < o.length := by omega
   have := idx_getD hnd (i := (k - 7).toNat) (by simpa using hj)
   rw [List.getD_eq_getElem?_getD, List.getElem?_map, List.getElem?_range hj] at this
   have e : (7 : Int) + ((k - 7).toNat : Nat) = k := by omega
   simp only [Option.map_some, Option.getD_some] at this
   rw [e] at this
   rw [this]; omega
 have hrng : ∀ a ∈ o, ∀ k ∈ kidsV f.types a, 0 ≤ pl o k ∧ pl o k < 7 + (o.length : Int) := fun a ha k hk => by
  have := Ord.pl_rng (nm := f.name) hf.ty ho (hf.ty.kidV (by have := (ho.rng a ha).1; omega) (ho.rng a ha).2 hk).1 (ho.cls a ha k hk)
  rw [hN] at this
  exact ⟨this.1, by omega⟩
 have hlen2 : (o.map (pl o)).length = o.length := List.length_map ..
 have hgi : ∀ i, i < o.length → (o.map (pl o)).getD i 0 = ((7 + i : Nat) : Int) := fun i hi => by
  rw [hmap, List.getD_eq_getElem?_getD, List.getElem?_map, List.getElem?_range hi]; simp
 have hat : ∀ i, i < o.length → tyAt (newT f.name f.types o) ((7 + i : Nat) : Int) = ntF f.name f.types o i := fun i hi => newT_hi hi
 have hcnt : ∀ i, i ≤ o.length → ((o.map (pl o)).take i).countP (own f.name (newT f.name f.types o)) = (o.take i).countP (own f.name f.types) := fun i hi => by
  rw [← List.map_take, List.countP_map]
  refine List.countP_congr fun a ha => ?_
  have ha : a ∈ o := List.mem_of_mem_take ha
  obtain ⟨d, e, -, -⟩ := ntF_x (nm := f.name) hf.ty ho ha
  simp only [Function.comp, own]
  rw [newT_at ha (ho.rng a ha).1, e]
  rfl
 have hnt : ∀ i, i < o.length → ntF f.name (newT f.name f.types o) (o.map (pl o)) i = ntF f.name f.types o i := fun i hi => by
  have hm : o.getD i 0 ∈ o := mem_getD hi
  obtain ⟨d, e, d1, d2⟩ := ntF_x (nm := f.name) hf.ty ho hm
  rw [idx_getD ho.nd hi] at e d1
  have hK : ∀ k ∈ kidsV f.types (o.getD i 0), pl (o.map (pl o)) (pl o k) = pl o k := fun k hk => hid _ (hrng _ hm k hk).1 (hrng _ hm k hk).2
  have ho1 : own f.name (newT f.name f.types o) ((7 + i : Nat) : Int) = own f.name f.types (o.getD i 0) := by
   simp only [own]; rw [hat i hi, e]; rfl
  rw [ntF, hgi i hi, ho1, hat i hi, hcnt i (by omega)]
  have hd : (if own f.name f.types (o.getD i 0) = true then (((o.take i).countP (own f.name f.types) : Nat) : Int) else (ntF f.name f.types o i).desc) = (ntF f.name f.types o i).desc := by
   split
   ·rename_i hw; rw [e]; exact (d1 hw).symm
   ·rfl
  rw [hd, e]
  have mk : ∀ k, k ∈ kidsV f.types (o.getD i 0) ↔ k = (tyAt f.types (o.getD i 0)).elem ∨ k = (tyAt f.types (o.getD i 0)).base ∨ (∃ p ∈ (tyAt f.types (o.getD i 0)).fields, Fd.typ p = k) ∨ (∃ p ∈ (tyAt f.types (o.getD i 0)).params, Pm.typ p = k) ∨ k = (tyAt f.types (o.getD i 0)).result := fun k => by simp [kidsV, kidsX]
  simp only [mk] at hK
  generalize tyAt f.types (o.getD i 0) = x at *
  obtain ⟨x1, x2, x3, x4, x5, x6, x7, x8, x9, x10⟩ := x
  simp only [trnT, List.map_map] at hK ⊢
  congr 1
  ·exact hK _ (.inl rfl)
  ·exact hK _ (.inr (.inl rfl))
  ·refine List.map_congr_left fun p hp => ?_
   have := hK _ (.inr (.inr (.inl ⟨p, hp, rfl⟩)))
   simp only [Function.comp, this]
  ·refine List.map_congr_left fun p hp => ?_
   have := hK _ (.inr (.inr (.inr (.inl ⟨p, hp, rfl⟩))))
   simp only [Function.comp, this]
  ·exact hK _ (.inr (.inr (.inr (.inr rfl))))
 refine ⟨?_, ?_⟩
 ·have h1 : newT f.name (newT f.name f.types o) (o.map (pl o)) = newT f.name f.types o := by
   rw [newT, hlen2]
   conv => rhs; rw [newT]
   congr 1
   exact List.map_congr_left fun i hi => hnt i (List.mem_range.1 hi)
  have h3 : (f.objs.map (trimO o)).map (trimO (o.map (pl o))) = f.objs.map (trimO o) := by
   rw [List.map_map]
   refine List.map_congr_left fun x hx => ?_
   obtain ⟨q0, q1⟩ := hf.typ hv hx
   have := Ord.pl_rng (nm := f.name) hf.ty ho q0 q1
   rw [hN] at this
   simp only [Function.comp, trimO]
   rw [hid _ this.1 (by omega)]
  simp only [trimF]
  rw [h1, h3]
 ·have := hcnt o.length (Nat.le_refl _)
  rw [List.take_of_length_le (by simp), List.take_length] at this
  show (o.map (pl o)).countP (own f.name (newT f.name f.types o)) ≤ 64
  rw [this]; exact hc
end
end Go.Proofs.Ythifjndenhjobaa

/- Is an interface too large? Copies. -/
namespace Go.Proofs.Ythifjndenhjobaa
set_option linter.unusedSimpArgs false
set_option linter.unusedVariables false
set_option maxRecDepth 20000
set_option maxHeartbeats 2000000
open Go.RowKit

def c32l0 : AC :=
 .seq (.seq (.reg [kn 8 (.mv (.t 4)), kn 9 (.mv (.t 0)), kn 10 (.len false (.t 9)), kn 11 (.bin .lss (.t 8) (.t 10))])
 (.cond (.t 11) (.skip) (.exit 0)))
 (.seq (.block 1 (.seq (.dreg [[], [], [], [1, 2], [3], [4], [5], [], [], [7, 8], [9], [10], [11], [6, 12], [], [], [14, 15], [16], [17], [18], [19], [13, 20], [], [], [22, 23], [24], [25], [26], [27], [21, 28], [0, 29], [30, 0, 1, 2, 3, 4, 5, 6, 7, 8, 9, 10, 11, 12, 13, 14, 15, 16, 17, 18, 19, 20, 21, 22, 23, 24, 25, 26, 27, 28, 29, 30]] [kn 14 (.mv (.t 3)), kn 15 (.mv (.t 0)), kn 16 (.mv (.t 4)), kn 17 (.ia (.t 15) (.t 16) 10), kn 18 (.fa (.t 17) 6), kn 19 (.ld (.t 18) 1 false), kn 20 (.len false (.t 19)), kn 21 (.mv (.t 0)), kn 22 (.mv (.t 4)), kn 23 (.ia (.t 21) (.t 22) 10), kn 24 (.fa (.t 23) 7), kn 25 (.ld (.t 24) 1 false), kn 26 (.len false (.t 25)), kn 27 (.bin .add (.t 20) (.t 26)), kn 28 (.mv (.t 0)), kn 29 (.mv (.t 4)), kn 30 (.ia (.t 28) (.t 29) 10), kn 31 (.fa (.t 30) 2), kn 32 (.ld (.t 31) 1 false), kn 33 (.len true (.t 32)), kn 34 (.bin .quo (.t 33) (kc 50)), kn 35 (.bin .add (.t 27) (.t 34)), kn 36 (.mv (.t 0)), kn 37 (.mv (.t 4)), kn 38 (.ia (.t 36) (.t 37) 10), kn 39 (.fa (.t 38) 1), kn 40 (.ld (.t 39) 1 false), kn 41 (.len true (.t 40)), kn 42 (.bin .quo (.t 41) (kc 50)), kn 43 (.bin .add (.t 35) (.t 42)), kn 44 (.bin .add (.t 14) (.t 43)), kn 3 (.mv (.t 44))])
 (.seq (.reg [kn 45 (.mv (.t 3)), kn 46 (.bin .gtr (.t 45) (kc 3000))])
 (.cond (.t 46) (.seq (.reg [kn 2 (.mv (.c (.d (.v (.bool true)))))])
 (.ret)) (.skip)))))
 (.reg [kn 12 (.mv (.t 4)), kn 13 (.bin .add (.t 12) (kc 1)), kn 4 (.mv (.t 13))]))

def c32 : AC :=
 .seq (.reg [kn 2 (.mv (.c (.d (.v (.bool false)))))])
 (.seq (.seq (.reg [kn 5 (.mv (.t 0)), kn 6 (.len false (.t 5)), kn 7 (.bin .gtr (.t 6) (kc 300))])
 (.cond (.t 7) (.seq (.reg [kn 2 (.mv (.c (.d (.v (.bool true)))))])
 (.ret)) (.skip)))
 (.seq (.reg [kn 3 (.mv (kc 0))])
 (.seq (.seq (.reg [kn 4 (.mv (kc 0))])
 (.block 0 (.loop c32l0)))
 (.seq (.reg [kn 2 (.mv (.c (.d (.v (.bool false)))))])
 (.ret)))))
def r32 : List RC := [.t 2]

theorem cc32 : Try.f32.body.bind (comp Try.prog (hh 32)) = some c32 := by kernel_rfl
theorem rr32 : resC Try.prog Try.f32 = some r32 := by kernel_rfl
def c14l0 : AC :=
 .seq (.seq (.reg [kn 52 (.mv (.t 4)), kn 53 (.fa (.t 1) 2), kn 54 (.ld (.t 53) 1 false), kn 55 (.len false (.t 54)), kn 56 (.bin .lss (.t 52) (.t 55))])
 (.cond (.t 56) (.skip) (.exit 2)))
 (.seq (.block 3 (.seq (.reg [kn 59 (.fa (.t 1) 2), kn 60 (.ld (.t 59) 1 false), kn 61 (.mv (.t 4)), kn 62 (.ia (.t 60) (.t 61) 2), kn 63 (.fa (.t 62) 0), kn 64 (.ld (.t 63) 1 false), kn 65 (.len true (.t 64)), kn 66 (.bin .gtr (.t 65) (kc 500))])
 (.cond (.t 66) (.seq (.reg [kn 2 (.mv (.c (.d (.v (.bool true)))))])
 (.ret)) (.skip))))
 (.reg [kn 57 (.mv (.t 4)), kn 58 (.bin .add (.t 57) (kc 1)), kn 4 (.mv (.t 58))]))

def c14l1 : AC :=
 .seq (.seq (.reg [kn 26 (.mv (.t 3)), kn 27 (.fa (.t 1) 4), kn 28 (.ld (.t 27) 1 false), kn 29 (.len false (.t 28)), kn 30 (.bin .lss (.t 26) (.t 29))])
 (.cond (.t 30) (.skip) (.exit 0)))
 (.seq (.block 1 (.seq (.reg [kn 33 (.fa (.t 1) 4), kn 34 (.ld (.t 33) 1 false), kn 35 (.mv (.t 3)), kn 36 (.ia (.t 34) (.t 35) 7), kn 37 (.fa (.t 36) 1), kn 38 (.ld (.t 37) 1 false), kn 39 (.len true (.t 38)), kn 40 (.bin .gtr (.t 39) (kc 500)), kn 41 (.mv (.t 40)), ko 42 41 (.fa (.t 1) 4), ko 43 41 (.ld (.t 42) 1 false), ko 44 41 (.mv (.t 3)), ko 45 41 (.ia (.t 43) (.t 44) 7), ko 46 41 (.fa (.t 45) 3), ko 47 41 (.fa (.t 46) 2), ko 48 41 (.ld (.t 47) 1 false), ko 49 41 (.len true (.t 48)), ko 50 41 (.bin .gtr (.t 49) (kc 500)), kn 51 (.pick (.t 41) (.c (.d (.v (.bool true)))) (.t 50))])
 (.cond (.t 51) (.seq (.reg [kn 2 (.mv (.c (.d (.v (.bool true)))))])
 (.ret)) (.skip))))
 (.reg [kn 31 (.mv (.t 3)), kn 32 (.bin .add (.t 31) (kc 1)), kn 3 (.mv (.t 32))]))

def c14 : AC :=
 .seq (.reg [kn 1 (.bx (.t 0)), kn 2 (.mv (.c (.d (.v (.bool false)))))])
 (.seq (.seq (.reg [kn 5 (.fa (.t 1) 2), kn 6 (.ld (.t 5) 1 false), kn 7 (.len false (.t 6)), kn 8 (.bin .gtr (.t 7) (kc 100)), kn 9 (.mv (.t 8)), ko 10 9 (.fa (.t 1) 4), ko 11 9 (.ld (.t 10) 1 false), ko 12 9 (.len false (.t 11)), ko 13 9 (.bin .gtr (.t 12) (kc 200)), kn 14 (.pick (.t 9) (.c (.d (.v (.bool true)))) (.t 13)), kn 15 (.mv (.t 14)), ko 16 15 (.fa (.t 1) 0), ko 17 15 (.ld (.t 16) 1 false), ko 18 15 (.len true (.t 17)), ko 19 15 (.bin .gtr (.t 18) (kc 5000)), kn 20 (.pick (.t 15) (.c (.d (.v (.bool true)))) (.t 19)), kn 21 (.mv (.t 20)), ko 22 21 (.fa (.t 1) 3), ko 23 21 (.ld (.t 22) 1 false), ko 24 21 (.call 32 [(.t 23)]), kn 25 (.pick (.t 21) (.c (.d (.v (.bool true)))) (.t 24))])
 (.cond (.t 25) (.seq (.reg [kn 2 (.mv (.c (.d (.v (.bool true)))))])
 (.ret)) (.skip)))
 (.seq (.seq (.reg [kn 3 (.mv (kc 0))])
 (.block 0 (.loop c14l1)))
 (.seq (.seq (.reg [kn 4 (.mv (kc 0))])
 (.block 2 (.loop c14l0)))
 (.seq (.reg [kn 2 (.mv (.c (.d (.v (.bool false)))))])
 (.ret)))))
def r14 : List RC := [.t 2]

theorem cc14 : Try.f14.body.bind (comp Try.prog (hhI 14)) = some c14 := by kernel_rfl
theorem rr14 : resC Try.prog Try.f14 = some r14 := by kernel_rfl
def tyW (x : Ty) : Nat := x.fields.length + x.params.length + x.name.size / 50 + x.mod.size / 50
def sumW : List Ty → Nat
 | [] => 0
 | x :: l => tyW x + sumW l
theorem sumW_app : ∀ a b : List Ty, sumW (a ++ b) = sumW a + sumW b
 | [], b => by simp [sumW]
 | x :: a, b => by simp only [List.cons_append, sumW, sumW_app a b]; omega
theorem sumW_take {t : List Ty} {i : Nat} (h : i < t.length) : sumW (t.take (i + 1)) = sumW (t.take i) + tyW (t.getD i default) := by
 rw [getD_take (d := default) h, sumW_app]; simp [sumW]
theorem sumW_le (t : List Ty) (i : Nat) : sumW (t.take i) ≤ sumW t := by
 conv => rhs; rw [← List.take_append_drop i t, sumW_app]
 omega
def LessT (t : List Ty) : Prop := t.length ≤ 300 ∧ sumW t ≤ 3000
theorem tyW_mem {t : List Ty} {x : Ty} (h : x ∈ t) : tyW x ≤ sumW t := by
 obtain ⟨i, hi, rfl⟩ := List.getElem_of_mem h
 have h1 := sumW_take hi
 have h2 := sumW_le t (i + 1)
 rw [List.getD_eq_getElem?_getD, List.getElem?_eq_getElem hi] at h1
 simp only [Option.getD_some] at h1
 omega
theorem LessT.small {t : List Ty} (h : LessT t) : Small t := ⟨by have := h.1; omega, fun x hx => by
 have := tyW_mem hx
 have h2 := h.2
 simp only [tyW] at this
 omega⟩
theorem large_x {t : List Ty} (ht : TOk t) (H : List ABlk) : ACalls Try.prog 32 [tv t] H fun v H' => (∃ b, v = bv b ∧ (b = false ↔ LessT t)) ∧ H' = H := by
 refine ACalls.into Try.func32 cc32 rr32 fun hcl => ?_
 have htl := ht.1
 by_cases h1 : 300 < t.length
 ·simp (maxSteps := 2000000) (disch := omega) only [Try.ntmps32, c32, r32, List.length_map, go_sem, seval, reduceCtorEq]
  exact Ret.keep ⟨⟨true, rfl, fun h => (by cases h), fun h => by have := h.1; omega⟩, rfl⟩
 simp (maxSteps := 2000000) (disch := omega) only [Try.ntmps32, c32, r32, List.length_map, go_sem, seval, reduceCtorEq]
 refine W.loopG (γ := Nat × Nat) (fun g => t.length - g.1) (fun g => [tv t, .any, .any, iv g.2, iv g.1] ++ List.replicate 42 .any) (fun _ => H) (fun g => g.1 ≤ t.length ∧ g.2 ≤ 3000 ∧ g.2 = sumW (t.take g.1)) (0, 0) (Wk.slots (by (try simp only [List.replicate, List.cons_append, List.nil_append]); repeat' first | exact WkL.nil | refine WkL.cons (Wk1.rfl _) ?_ | refine WkL.cons Wk1.esl ?_ | refine WkL.cons (Wk1.gsl _ _ _) ?_ | refine WkL.cons (Wk1.any _) ?_)) ⟨by omega, by omega, rfl⟩ (fun g hg => ?_)
 obtain ⟨i, n⟩ := g
 obtain ⟨q1, q2, q3⟩ := hg
 simp only at q1 q2 q3
 simp (maxSteps := 2000000) (disch := omega) only [c32l0, List.length_map, go_sem, seval, reduceCtorEq]
 refine Br.dec (fun hc => ?_) (fun hc => ?_) <;> simp (maxSteps := 2000000) (disch := omega) only [go_sem, seval, reduceCtorEq]
 ·refine W.pchain follows (by decide +kernel) ?_
  have hia := iaA_ty (t := t) (a := i) (by omega) (by omega)
  obtain ⟨x1, x2, x3, x4⟩ := ht.at_ (a := i) (by omega) (by omega)
  have e : tyAt t (i : Int) = t.getD i default := rfl
  have hsum := sumW_take (t := t) (i := i) (by omega)
  have hle := sumW_le t (i + 1)
  rw [e] at hia x1 x2 x3 x4
  rw [hsum] at hle
  generalize hx : t.getD i default = x at *
  simp only [tyW] at hsum hle
  simp (maxSteps := 2000000) (disch := omega) only [hia, Ty.c, List.length_map, go_sem, seval, reduceCtorEq]
  refine Br.dec (fun hc2 => ?_) (fun hc2 => ?_) <;> simp (maxSteps := 2000000) (disch := omega) only [go_sem, seval, reduceCtorEq]
  ·exact Ret.keep ⟨⟨true, rfl, fun h => (by cases h), fun h => by have := h.2; omega⟩, rfl⟩
  ·obtain ⟨m, hm⟩ : ∃ m : Nat, (m : Int) = n + (x.fields.length + x.params.length + x.name.size / 50 + x.mod.size / 50) := ⟨n + (x.fields.length + x.params.length + x.name.size / 50 + x.mod.size / 50), by omega⟩
   refine Nxt.mk (i + 1, m) (by simp only; omega) (Wk.slots ?_) ⟨by simp only; omega, by simp only; omega, by simp only; omega⟩
   simp only [← hm]
   exact (by (try simp only [List.replicate, List.cons_append, List.nil_append]); repeat' first | exact WkL.nil | refine WkL.cons (Wk1.rfl _) ?_ | refine WkL.cons Wk1.esl ?_ | refine WkL.cons (Wk1.gsl _ _ _) ?_ | refine WkL.cons (Wk1.any _) ?_)
 ·refine Ret.keep ⟨⟨false, rfl, fun _ => ⟨by omega, ?_⟩, fun _ => rfl⟩, rfl⟩
  rw [List.take_of_length_le (by omega)] at q3
  omega

structure Less (f : Fc) : Prop where
 us : f.uses.length ≤ 100
 os : f.objs.length ≤ 200
 nm : f.name.size ≤ 5000
 ty : LessT f.types
 ob : ∀ i, i < f.objs.length → (f.objs.getD i default).name.size ≤ 500 ∧ (f.objs.getD i default).val.text.size ≤ 500
 un : ∀ i, i < f.uses.length → (f.uses.getD i default).name.size ≤ 500
structure FIn (f : Fc) : Prop where
 nm : f.name.size ≤ 140737488355328
 us : f.uses.length ≤ 140737488355328
 os : f.objs.length ≤ 140737488355328
 ty : TOk f.types
 fn : FNames f.types
 ob : ∀ o ∈ f.objs, o.name.size ≤ 140737488355328 ∧ J64 o.typ ∧ o.val.In ∧ J64 o.n
 un : ∀ u ∈ f.uses, u.name.size ≤ 140737488355328
theorem large16_c {f : Fc} (hf : FIn f) (H : List ABlk) : ACalls Try.prog 14 [f.av] H fun v H' => (∃ b, v = bv b ∧ (b = false ↔ Less f)) ∧ H' = H := by
 refine ACalls.into Try.func14 cc14 rr14 fun hcl => ?_
 have hus := hf.us
 have hos := hf.os
 have hnm := hf.nm
 have fin : ∀ {b : Bool} {l : List ABlk}, (b = false ↔ Less f) → Ret [RC.t 2] H.length (fun v H' => (∃ b, v = bv b ∧ (b = false ↔ Less f)) ∧ H' = H) (some (bv b)) (H ++ l) := fun {b l} h =>
  Ret.drop _ H (Nat.le_refl _) hcl (.rfl _) (by simp [refs]) ⟨⟨b, rfl, h⟩, rfl⟩
 have no : ¬ Less f → (true = false ↔ Less f) := fun h => ⟨fun h' => (by cases h'), fun h' => absurd h' h⟩
 by_cases h1 : 100 < f.uses.length
 ·simp (maxSteps := 2000000) (disch := omega) only [Try.ntmps14, c14, r14, Fc.cs, List.length_map, go_sem, seval, reduceCtorEq]
  exact fin (no fun h => by have := h.us; omega)
 by_cases h2 : 200 < f.objs.length
 ·simp (maxSteps := 2000000) (disch := omega) only [Try.ntmps14, c14, r14, Fc.cs, List.length_map, go_sem, seval, reduceCtorEq]
  exact fin (no fun h => by have := h.os; omega)
 by_cases h3 : 5000 < f.name.size
 ·simp (maxSteps := 2000000) (disch := omega) only [Try.ntmps14, c14, r14, Fc.cs, List.length_map, go_sem, seval, reduceCtorEq]
  exact fin (no fun h => by have := h.nm; omega)
 simp (maxSteps := 2000000) (disch := omega) only [Try.ntmps14, c14, r14, Fc.cs, List.length_map, go_sem, seval, reduceCtorEq]
 refine Cont.rel (large_x hf.ty _) ?_
 rintro v H' ⟨⟨b, rfl, hb⟩, rfl⟩
 cases b with
 | true =>
  simp (maxSteps := 2000000) (disch := omega) only [go_sem, seval, reduceCtorEq]
  exact fin (no fun h => by have := hb.2 h.ty; cases this)
 | false =>
  have hT := hb.1 rfl
  simp (maxSteps := 2000000) (disch := omega) only [go_sem, seval, reduceCtorEq]
  obtain ⟨S, hS⟩ : ∃ S : Nat → List AV, ∀ i, S i = [.any, .ptr H.length 0, bv false, iv i] ++ List.replicate 63 .any := ⟨_, fun _ => rfl⟩
  refine W.loopG (γ := Nat) (fun i => f.objs.length - i) S (fun _ => H ++ [.cells f.cs]) (fun i => i ≤ f.objs.length ∧ ∀ j, j < i → (f.objs.getD j default).name.size ≤ 500 ∧ (f.objs.getD j default).val.text.size ≤ 500) 0 (Wk.slots (by rw [hS]; exact WkL.tail 4 _ rfl (by simp only [List.take_succ_cons, List.take_zero]; repeat' first | exact WkL.nil | refine WkL.cons (Wk1.rfl _) ?_ | refine WkL.cons Wk1.esl ?_ | refine WkL.cons (Wk1.gsl _ _ _) ?_ | refine WkL.cons (Wk1.any _) ?_))) ⟨by omega, fun j hj => by omega⟩ (fun i hi => ?_)
  obtain ⟨q1, q2⟩ := hi
  simp (maxSteps := 2000000) (disch := omega) only [c14l1, hS, Fc.cs, List.length_map, go_sem, seval, reduceCtorEq]
  refine Br.dec (fun hc => ?_) (fun hc => ?_) <;> simp (maxSteps := 2000000) (disch := omega) only [go_sem, seval, reduceCtorEq]
  ·have hia := iaA_ob (t := f.objs) (a := i) (by omega) (by omega)
   have e : obAt f.objs (i : Int) = f.objs.getD i default := rfl
   have hin := hf.ob _ (obAt_mem (l := f.objs) (i := i) (by omega))
   rw [e] at hia
   generalize hx : f.objs.getD i default = x at *
   have hsz := hin.1
   have hsz2 := hin.2.2.1.t
   by_cases k1 : 500 < x.name.size
   ·simp (maxSteps := 2000000) (disch := omega) only [hia, Ob.c, go_sem, seval, reduceCtorEq]
    exact fin (no fun h => by have := (h.ob i (by omega)).1; rw [hx] at this; omega)
   by_cases k2 : 500 < x.val.text.size
   ·simp (maxSteps := 2000000) (disch := omega) only [hia, Ob.c, go_sem, seval, reduceCtorEq]
    exact fin (no fun h => by have := (h.ob i (by omega)).2; rw [hx] at this; omega)
   ·simp (maxSteps := 2000000) (disch := omega) only [hia, Ob.c, go_sem, seval, reduceCtorEq]
    refine Nxt.mk (i + 1) (by omega) (Wk.slots (by rw [hS]; exact WkL.tail 4 _ rfl (by simp only [List.take_succ_cons, List.take_zero]; repeat' first | exact WkL.nil | refine WkL.cons (Wk1.rfl _) ?_ | refine WkL.cons Wk1.esl ?_ | refine WkL.cons (Wk1.gsl _ _ _) ?_ | refine WkL.cons (Wk1.any _) ?_))) ⟨by omega, fun j hj => ?_⟩
    rcases Nat.lt_or_ge j i with h' | h'
    ·exact q2 j h'
    ·rw [show j = i by omega, hx]; exact ⟨by omega, by omega⟩
  ·obtain ⟨S2, hS2⟩ : ∃ S : Nat → List AV, ∀ i, S i = [.any, .ptr H.length 0, bv false, .any, iv i] ++ List.replicate 62 .any := ⟨_, fun _ => rfl⟩
   refine W.loopG (γ := Nat) (fun i => f.uses.length - i) S2 (fun _ => H ++ [.cells f.cs]) (fun i => i ≤ f.uses.length ∧ ∀ j, j < i → (f.uses.getD j default).name.size ≤ 500) 0 (Wk.slots (by rw [hS2]; exact WkL.tail 5 _ rfl (by simp only [List.take_succ_cons, List.take_zero]; repeat' first | exact WkL.nil | refine WkL.cons (Wk1.rfl _) ?_ | refine WkL.cons Wk1.esl ?_ | refine WkL.cons (Wk1.gsl _ _ _) ?_ | refine WkL.cons (Wk1.any _) ?_))) ⟨by omega, fun j hj => by omega⟩ (fun k hk => ?_)
   obtain ⟨y1, y2⟩ := hk
   simp (maxSteps := 2000000) (disch := omega) only [c14l0, hS2, Fc.cs, List.length_map, go_sem, seval, reduceCtorEq]
   refine Br.dec (fun hc2 => ?_) (fun hc2 => ?_) <;> simp (maxSteps := 2000000) (disch := omega) only [go_sem, seval, reduceCtorEq]
   ·have hia := iaA_us (t := f.uses) (a := k) (by omega) (by omega)
    have e : usAt f.uses (k : Int) = f.uses.getD k default := rfl
    have hin := hf.un _ (usAt_mem (l := f.uses) (i := k) (by omega))
    rw [e] at hia
    generalize hx : f.uses.getD k default = x at *
    by_cases k1 : 500 < x.name.size
    ·simp (maxSteps := 2000000) (disch := omega) only [hia, Us.c, go_sem, seval, reduceCtorEq]
     exact fin (no fun h => by have := h.un k (by omega); rw [hx] at this; omega)
    ·simp (maxSteps := 2000000) (disch := omega) only [hia, Us.c, go_sem, seval, reduceCtorEq]
     refine Nxt.mk (k + 1) (by omega) (Wk.slots (by rw [hS2]; exact WkL.tail 5 _ rfl (by simp only [List.take_succ_cons, List.take_zero]; repeat' first | exact WkL.nil | refine WkL.cons (Wk1.rfl _) ?_ | refine WkL.cons Wk1.esl ?_ | refine WkL.cons (Wk1.gsl _ _ _) ?_ | refine WkL.cons (Wk1.any _) ?_))) ⟨by omega, fun j hj => ?_⟩
     rcases Nat.lt_or_ge j k with h' | h'
     ·exact y2 j h'
     ·rw [show j = k by omega, hx]; omega
   ·exact fin ⟨fun _ => ⟨by omega, by omega, by omega, hT, fun j hj => q2 j (by omega), fun j hj => y2 j (by omega)⟩, fun _ => rfl⟩
end Go.Proofs.Ythifjndenhjobaa
