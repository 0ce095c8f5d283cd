/- Plain law: a walk through what stands in types, in order: each place once, before what stands in it. -/
import Derived.Test.YthifjndenhjobaaGreatVHeap3
import Derived.Test.YthifjndenhjobaaGreatVP5
set_option linter.unusedSectionVars false
set_option linter.unusedSimpArgs false
set_option linter.unusedVariables false
namespace Go.Proofs.YthifjndenhjobaaGreat
section
variable (kd : Int -> List Int)
inductive Vis : List Int -> List Int -> List Int -> Prop
 | nil {o : List Int} : Vis o [] o
 | skip {o l o' : List Int} {a : Int} : a < 7 \/ a ∈ o -> Vis o l o' -> Vis o (a :: l) o'
 | go {o l o1 o' : List Int} {a : Int} : 7 <= a -> a ∉ o -> Vis (o ++ [a]) (kd a) o1 -> Vis o1 l o' -> Vis o (a :: l) o'
end
section
variable {kd : Int -> List Int}
theorem Vis.pre {o l o' : List Int} (h : Vis kd o l o') : o <+: o' := by
 induction h with
 | nil => exact List.prefix_refl _
 | skip _ _ ih => exact ih
 | go _ _ _ _ ih1 ih2 => exact (List.prefix_append _ _).trans (ih1.trans ih2)
theorem Vis.mem {o l o' : List Int} (h : Vis kd o l o') : ∀ a ∈ l, a < 7 \/ a ∈ o' := by
 induction h with
 | nil => exact fun a h => by cases h
 | @skip o l o' a h1 h2 ih =>
  intro b hb
  rcases List.mem_cons.1 hb with rfl | hb
  ·exact h1.imp id fun h => h2.pre.subset h
  ·exact ih b hb
 | @go o l o1 o' a h1 h2 h3 h4 ih1 ih2 =>
  intro b hb
  rcases List.mem_cons.1 hb with rfl | hb
  ·exact .inr (h4.pre.subset (h3.pre.subset (by simp)))
  ·exact ih2 b hb
theorem Vis.nodup {o l o' : List Int} (h : Vis kd o l o') : o.Nodup -> o'.Nodup := by
 induction h with
 | nil => exact id
 | skip _ _ ih => exact ih
 | @go o l o1 o' a h1 h2 h3 h4 ih1 ih2 =>
  intro h
  refine ih2 (ih1 ?_); rw [List.nodup_append]; refine ⟨h, by simp, fun x hx y hy => ?_⟩; rw [List.mem_singleton] at hy; subst hy; exact fun e => h2 (e ▸ hx)
theorem Vis.all {P : Int -> Prop} {o l o' : List Int} (h : Vis kd o l o') (hk : ∀ a, 7 <= a -> P a -> ∀ k ∈ kd a, 7 <= k -> P k) : (∀ a ∈ o, P a) -> (∀ a ∈ l, 7 <= a -> P a) -> ∀ a ∈ o', P a := by
 induction h with
 | nil => exact fun h _ => h
 | skip _ _ ih => exact fun h1 h2 => ih h1 fun a ha => h2 a (List.mem_cons_of_mem _ ha)
 | @go o l o1 o' a g1 g2 g3 g4 ih1 ih2 =>
  intro h1 h2
  have ha := h2 a List.mem_cons_self g1; refine ih2 (ih1 (fun b hb => ?_) (hk a g1 ha)) fun b hb => h2 b (List.mem_cons_of_mem _ hb)
  rcases List.mem_append.1 hb with hb | hb
  ·exact h1 b hb
  ·rw [List.mem_singleton.1 hb]; exact ha
theorem Vis.ge {o l o' : List Int} (h : Vis kd o l o') (h0 : ∀ a ∈ o, 7 <= a) : ∀ a ∈ o', 7 <= a :=
 h.all (P := fun a => 7 <= a) (fun _ _ _ _ _ h => h) h0 fun _ _ h => h
theorem Vis.closed {o l o' : List Int} (h : Vis kd o l o') : ∀ b ∈ o', b ∉ o -> ∀ k ∈ kd b, k < 7 \/ k ∈ o' := by
 induction h with
 | nil => exact fun b h k => absurd h k
 | skip _ _ ih => exact ih
 | @go o l o1 o' a g1 g2 g3 g4 ih1 ih2 =>
  intro b hb hn k hk
  by_cases h1 : b ∈ o1
  ·by_cases h2 : b ∈ o ++ [a]
   ·have : b = a := by
     rcases List.mem_append.1 h2 with h | h
     ·exact absurd h hn
     ·exact List.mem_singleton.1 h
    subst this; exact (g3.mem k hk).imp id fun h => g4.pre.subset h
   ·exact (ih1 b h1 h2 k hk).imp id fun h => g4.pre.subset h
  ·exact ih2 b hb h1 k hk
theorem Vis.det {o l o1 : List Int} (h : Vis kd o l o1) : ∀ {o2 : List Int}, Vis kd o l o2 -> o1 = o2 := by
 induction h with
 | nil => intro o2 k; cases k; rfl
 | skip h1 _ ih =>
  intro o2 k
  cases k with
  | skip _ k => exact ih k
  | go k1 k2 _ _ => exact absurd h1 (by rintro (h | h); omega; exact k2 h)
 | go g1 g2 _ _ ih1 ih2 =>
  intro o2 k
  cases k with
  | skip k1 _ => exact absurd k1 (by rintro (h | h); omega; exact g2 h)
  | go _ _ k3 k4 =>
   have := ih1 k3; subst this; exact ih2 k4
theorem Vis.app {o l o1 : List Int} (h : Vis kd o l o1) : ∀ {l2 o2 : List Int}, Vis kd o1 l2 o2 -> Vis kd o (l ++ l2) o2 := by
 induction h with
 | nil => exact fun k => k
 | skip h1 _ ih => exact fun k => .skip h1 (ih k)
 | go g1 g2 g3 _ _ ih2 => exact fun k => .go g1 g2 g3 (ih2 k)
theorem Vis.sim {kd' : Int -> List Int} {p : Int -> Int} {o l o' : List Int} (h : Vis kd o l o') : ∀ (S : List Int), (∀ a ∈ o', a ∈ S) -> (∀ a, a < 7 -> p a = a) -> (∀ a ∈ S, 7 <= p a) -> (∀ a ∈ S, ∀ b ∈ S, p a = p b -> a = b) ->
 (∀ a ∈ S, kd' (p a) = (kd a).map p) -> (∀ a ∈ o, 7 <= a) -> Vis kd' (o.map p) (l.map p) (o'.map p) := by
 induction h with
 | nil => exact fun _ _ _ _ _ _ _ => .nil
 | @skip o l o' a h1 h2 ih =>
  intro S s1 s2 s3 s4 s5 s6
  refine .skip (h1.imp (fun h => by rw [s2 a h]; exact h) fun h => List.mem_map_of_mem h) (ih S s1 s2 s3 s4 s5 s6)
 | @go o l o1 o' a g1 g2 g3 g4 ih1 ih2 =>
  intro S s1 s2 s3 s4 s5 s6
  have m1 : ∀ b ∈ o1, b ∈ S := fun b hb => s1 b (g4.pre.subset hb)
  have ma : a ∈ S := m1 a (g3.pre.subset (by simp)); have s6' : ∀ b ∈ o ++ [a], 7 <= b := fun b hb => by
   rcases List.mem_append.1 hb with hb | hb
   ·exact s6 b hb
   ·rw [List.mem_singleton.1 hb]; exact g1
  refine .go (s3 a ma) (fun hm => ?_) (o1 := o1.map p) ?_ (ih2 S s1 s2 s3 s4 s5 (g3.ge s6'))
  ·obtain ⟨b, hb, e⟩ := List.mem_map.1 hm
   exact g2 (s4 b (m1 b (g3.pre.subset (List.mem_append_left _ hb))) a ma e ▸ hb)
  ·have := ih1 S m1 s2 s3 s4 s5 s6'
   rw [s5 a ma]
   rwa [List.map_append, List.map_cons, List.map_nil] at this
end
def kidsX (x : Ty) : List Int := x.elem :: x.base :: (x.fields.map Fd.typ ++ (x.params.map Pm.typ ++ [x.result]))
abbrev kidsV (t : List Ty) (a : Int) : List Int := kidsX (tyAt t a)
def pl (o : List Int) (a : Int) : Int := if a < 7 then a else 7 + (o.idxOf a : Nat)
def trnT (o : List Int) (x : Ty) : Ty :=
 { x with elem := pl o x.elem, base := pl o x.base, fields := x.fields.map fun f => { f with typ := pl o f.typ }, params := x.params.map fun p => { p with typ := pl o p.typ }, result := pl o x.result }
def ownX (nm : ByteArray) (x : Ty) : Bool := decide (x.form = 9 /\ x.mod = nm)
abbrev own (nm : ByteArray) (t : List Ty) (a : Int) : Bool := ownX nm (tyAt t a)
def ntF (nm : ByteArray) (t : List Ty) (o : List Int) (i : Nat) : Ty :=
 { trnT o (tyAt t (o.getD i 0)) with desc := if own nm t (o.getD i 0) = true then ((o.take i).countP (own nm t) : Nat) else (tyAt t (o.getD i 0)).desc }
def newT (nm : ByteArray) (t : List Ty) (o : List Int) : List Ty := basicL ++ (List.range o.length).map (ntF nm t o)
theorem pl_lt {o : List Int} {a : Int} (h : a < 7) : pl o a = a := if_pos h
theorem pl_0 (o : List Int) : pl o 0 = 0 := rfl
theorem pl_ge {o : List Int} {a : Int} (h : 7 <= a) : pl o a = 7 + (o.idxOf a : Nat) := if_neg (by omega)
theorem newT_len (nm : ByteArray) (t : List Ty) (o : List Int) : (newT nm t o).length = 7 + o.length := by simp [newT, basicL]; omega
theorem newT_lo {nm : ByteArray} {t : List Ty} {o : List Int} {i : Nat} (h : i < 7) : (newT nm t o).getD i default = bt i := by
 rw [newT, gD, List.getElem?_append_left (by exact h), <- gD]; exact basic_at h
theorem newT_hi {nm : ByteArray} {t : List Ty} {o : List Int} {i : Nat} (h : i < o.length) : (newT nm t o).getD (7 + i) default = ntF nm t o i := by
 rw [newT, gD, List.getElem?_append_right (by show 7 <= _; omega), show 7 + i - basicL.length = i by show 7 + i - 7 = i; omega, List.getElem?_map, List.getElem?_range h]; rfl
theorem newT_at {nm : ByteArray} {t : List Ty} {o : List Int} {a : Int} (h : a ∈ o) (h7 : 7 <= a) : tyAt (newT nm t o) (pl o a) = ntF nm t o (o.idxOf a) := by
 rw [tyAt, pl_ge h7, show ((7 : Int) + (o.idxOf a : Nat)).toNat = 7 + o.idxOf a by omega]; exact newT_hi (List.idxOf_lt_length_iff.2 h)
theorem newT_bt {nm : ByteArray} {t : List Ty} {o : List Int} {a : Int} (h0 : 0 <= a) (h : a < 7) : tyAt (newT nm t o) a = bt a := by
 rw [tyAt, newT_lo (by omega), show ((a.toNat : Nat) : Int) = a by omega]
theorem getD_idx {o : List Int} {a : Int} (h : a ∈ o) : o.getD (o.idxOf a) 0 = a := by
 have hl := List.idxOf_lt_length_iff.2 h; rw [gD, gE hl]; exact List.getElem_idxOf hl
theorem mem_getD {o : List Int} {i : Nat} (h : i < o.length) : o.getD i 0 ∈ o := by
 rw [gD, gE h]; exact List.getElem_mem h
theorem idx_getD {o : List Int} (hd : o.Nodup) {i : Nat} (h : i < o.length) : o.idxOf (o.getD i 0) = i := by
 rw [gD, gE h]; exact hd.idxOf_getElem i h
structure Ord (t : List Ty) (o : List Int) : Prop where
 nd : o.Nodup
 rng : ∀ a ∈ o, 7 <= a /\ a < t.length
 cls : ∀ a ∈ o, ∀ k ∈ kidsV t a, k < 7 \/ k ∈ o
theorem nodup_len {o : List Int} {n : Nat} (hd : o.Nodup) (h : ∀ a ∈ o, 7 <= a /\ a < (n : Int)) : o.length <= n - 7 := by
 have h1 := List.Nodup.length_le_of_subset hd (l₂ := (List.range (n - 7)).map fun i : Nat => (i : Int) + 7) fun a ha => by
  have := h a ha; exact List.mem_map.2 ⟨(a - 7).toNat, List.mem_range.2 (by omega), by omega⟩
 simpa using h1
section
variable {nm : ByteArray} {t : List Ty} {o : List Int} (hg : GoodP t) (ho : Ord t o)
include hg
theorem GoodP.kidV {a : Int} (h0 : 0 <= a) (h1 : a < t.length) {k : Int} (hk : k ∈ kidsV t a) : 0 <= k /\ k < t.length := by
 have hl := hg.len; rcases hg.at_ h0 h1 with ⟨h7, e⟩ | ⟨h7, f⟩
 ·rw [kidsV, e] at hk
  simp [kidsX, bt] at hk; omega
 ·have z : 0 <= (0 : Int) /\ (0 : Int) < t.length := ⟨by omega, by omega⟩
  have hlk := f.2.2; have hform := FrmP.form f; have ex : ∀ n : Int, formA t n ≠ -1 -> 0 <= n /\ n < t.length := fun n h => ⟨(formA_ne h).1, (formA_ne h).2.1⟩
  have hk : k ∈ kidsX (tyAt t a) := hk
  generalize tyAt t a = x at *
  obtain ⟨l1, l2, l3, l4, l5, l6, l7⟩ := hlk; simp only [want] at l1 l2 l3 l4 l5 l6 l7; simp only [kidsX, List.mem_cons, List.mem_append, List.mem_map, List.not_mem_nil, or_false] at hk; rcases hk with rfl | rfl | ⟨p, hp, rfl⟩ | ⟨p, hp, rfl⟩ | rfl
  ·by_cases f7 : x.form = 7
   ·exact part_in (FrmP.f7 f f7).2.2
   by_cases f8 : x.form = 8
   ·exact ex _ (by rcases FrmP.f8 f f8 with (h | h | h) | h <;> omega)
   by_cases f10 : x.form = 10
   ·exact ex _ (by rw [FrmP.f10 f f10]; decide)
   ·rw [l3, if_neg (by omega)]; exact z
  ·by_cases f9 : x.form = 9
   ·rcases (FrmP.f9 f f9).1.1 with h | h
    ·rw [h]; exact z
    ·exact ex _ (by rw [h]; decide)
   ·rw [l4, if_neg f9]; exact z
  ·by_cases f9 : x.form = 9
   ·exact part_in ((FrmP.f9 f f9).2 p hp).2
   ·rw [if_neg f9] at l6
    rw [List.eq_nil_of_length_eq_zero l6] at hp; cases hp
  ·by_cases f11 : x.form = 11
   ·exact ex _ (by rcases (FrmP.f11 f f11).2 p hp with (h | h | h) | h <;> omega)
   ·rw [if_neg f11] at l7
    rw [List.eq_nil_of_length_eq_zero l7] at hp; cases hp
  ·by_cases f11 : x.form = 11
   ·rcases (FrmP.f11 f f11).1.2 with h | h
    ·rw [h]; exact z
    ·exact ex _ (by rcases h with h | h | h <;> omega)
   ·rw [l5, if_neg f11]; exact z
theorem Vis.ord {l : List Int} (h : Vis (kidsV t) [] l o) (hl : ∀ a ∈ l, a < t.length) : Ord t o := by
 have hge := h.ge (fun a ha => by cases ha); have hlt := h.all (P := fun a => a < t.length) (fun a h7 ha k hk _ => (hg.kidV (by omega) ha hk).2) (fun a ha => by cases ha) fun a ha _ => hl a ha
 exact ⟨h.nodup List.nodup_nil, fun a ha => ⟨hge a ha, hlt a ha⟩, fun a ha k hk => h.closed a ha (by simp) k hk⟩
include ho
theorem Ord.len : o.length <= t.length - 7 := nodup_len ho.nd ho.rng
theorem Ord.pl_rng {k : Int} (h0 : 0 <= k) (h : k < 7 \/ k ∈ o) : 0 <= pl o k /\ pl o k < (newT nm t o).length := by
 rw [newT_len]; rcases h with h | h
 ·rw [pl_lt h]; omega
 ·rw [pl_ge (ho.rng k h).1]
  have := List.idxOf_lt_length_iff.2 h; omega
theorem Ord.form {k : Int} (h0 : 0 <= k) (h : k < 7 \/ k ∈ o) : (tyAt (newT nm t o) (pl o k)).form = (tyAt t k).form := by
 by_cases h7 : k < 7
 ·rw [pl_lt h7, newT_bt h0 h7]
  rcases hg.at_ h0 (by have := hg.len; omega) with ⟨_, e⟩ | ⟨h, _⟩
  ·rw [e]
  ·omega
 ·have hm : k ∈ o := h.resolve_left h7
  rw [newT_at hm (by omega), ntF, getD_idx hm]; rfl
theorem Ord.formA {k : Int} (h0 : 0 <= k) (h : k < 7 \/ k ∈ o) : formA (newT nm t o) (pl o k) = Go.Proofs.YthifjndenhjobaaGreat.formA t k := by
 have h1 := Ord.pl_rng (nm := nm) hg ho h0 h; have hl := hg.len; have h2 : k < t.length := h.elim (fun h => by omega) fun h => (ho.rng k h).2
 rw [Go.Proofs.YthifjndenhjobaaGreat.formA, if_pos h1, Go.Proofs.YthifjndenhjobaaGreat.formA, if_pos ⟨h0, h2⟩, Ord.form hg ho h0 h]
theorem Ord.inj {a b : Int} (ha : a < 7 \/ a ∈ o) (hb : b < 7 \/ b ∈ o) (h : pl o a = pl o b) : a = b := by
 by_cases h1 : a < 7 <;> by_cases h2 : b < 7
 ·rwa [pl_lt h1, pl_lt h2] at h
 ·rw [pl_lt h1, pl_ge (by omega)] at h; omega
 ·rw [pl_ge (by omega), pl_lt h2] at h; omega
 ·rw [pl_ge (by omega), pl_ge (by omega)] at h
  have ma := ha.resolve_left h1; have mb := hb.resolve_left h2; rw [<- getD_idx ma, <- getD_idx mb, show o.idxOf a = o.idxOf b by omega]
theorem Ord.pl_zero {k : Int} (hk : k < 7 \/ k ∈ o) : pl o k = 0 ↔ k = 0 := by
 constructor
 ·intro h; exact Ord.inj hg ho hk (.inl (by decide)) (h.trans (pl_0 o).symm)
 ·rintro rfl; rfl
theorem ntF_x {a : Int} (ha : a ∈ o) : ∃ d, ntF nm t o (o.idxOf a) = { trnT o (tyAt t a) with desc := d } /\ (own nm t a = true -> d = ((o.take (o.idxOf a)).countP (own nm t) : Nat)) /\ (own nm t a = false -> d = (tyAt t a).desc) := by
 refine ⟨_, by rw [ntF, getD_idx ha], fun h => by rw [if_pos h], fun h => by rw [if_neg (by simp [h])]⟩
theorem Ord.formed {a : Int} (ha : a ∈ o) (hd : own nm t a = true -> (o.take (o.idxOf a)).countP (own nm t) < 64) : FormedP (newT nm t o) (ntF nm t o (o.idxOf a)) := by
 obtain ⟨h7, h1⟩ := ho.rng a ha; have hF := (hg.at_ (by omega) h1).resolve_left (fun h => by omega); have f := hF.2; have hcl := ho.cls a ha; have hkid : ∀ k ∈ kidsV t a, Go.Proofs.YthifjndenhjobaaGreat.formA (newT nm t o) (pl o k) = Go.Proofs.YthifjndenhjobaaGreat.formA t k := fun k hk => Ord.formA hg ho (hg.kidV (by omega) h1 hk).1 (hcl k hk)
 have hz : ∀ k ∈ kidsV t a, (pl o k = 0 ↔ k = 0) := fun k hk => Ord.pl_zero hg ho (hcl k hk)
 obtain ⟨d, e, d1, d2⟩ := ntF_x (nm := nm) hg ho ha; rw [e]; have d1' : own nm t a = true -> 0 <= d /\ d < 64 := fun h => by have := hd h; rw [d1 h]; omega
 have hown : own nm t a = true ↔ (tyAt t a).form = 9 /\ (tyAt t a).mod = nm := by simp [own, ownX]
 clear e d1; have mk : ∀ k, k ∈ kidsV t a ↔ k = (tyAt t a).elem \/ k = (tyAt t a).base \/ (∃ p ∈ (tyAt t a).fields, Fd.typ p = k) \/ (∃ p ∈ (tyAt t a).params, Pm.typ p = k) \/ k = (tyAt t a).result := fun k => by simp [kidsV, kidsX]
 generalize hb : own nm t a = B at *
 clear hb
 generalize tyAt t a = x at *
 have k1 := hkid x.elem ((mk _).2 (.inl rfl)); have k2 := hkid x.base ((mk _).2 (.inr (.inl rfl))); have k3 := fun p hp => hkid (Fd.typ p) ((mk _).2 (.inr (.inr (.inl ⟨p, hp, rfl⟩))))
 have k4 := fun p hp => hkid (Pm.typ p) ((mk _).2 (.inr (.inr (.inr (.inl ⟨p, hp, rfl⟩)))))
 have k5 := hkid x.result ((mk _).2 (.inr (.inr (.inr (.inr rfl))))); have z2 := hz x.base ((mk _).2 (.inr (.inl rfl))); have z5 := hz x.result ((mk _).2 (.inr (.inr (.inr (.inr rfl))))); refine ⟨?_, f.2.1, ?_⟩
 ·rcases f.1 with h | h | h | h | h
  ·exact .inl ⟨h.1, h.2.1, h.2.2.1, by show partP (Go.Proofs.YthifjndenhjobaaGreat.formA _ (pl o x.elem)); rw [k1]; exact h.2.2.2⟩
  ·exact .inr (.inl ⟨h.1, by show partP (Go.Proofs.YthifjndenhjobaaGreat.formA _ (pl o x.elem)) \/ Go.Proofs.YthifjndenhjobaaGreat.formA _ (pl o x.elem) = 8; rw [k1]; exact h.2⟩)
  ·refine .inr (.inr (.inl ⟨h.1, ?_, by show (x.fields.map _).length <= 64; rw [lnm]; exact h.2.2.1, ?_, ?_, fun q hq => ?_⟩))
   ·show pl o x.base = 0 \/ Go.Proofs.YthifjndenhjobaaGreat.formA _ (pl o x.base) = 9
    rw [k2, z2]; exact h.2.1
   ·show -1 <= d
    cases B with
    | true => have := d1' rfl; omega
    | false => rw [d2 rfl]; exact h.2.2.2.1
   ·show d < 64
    cases B with
    | true => exact (d1' rfl).2
    | false => rw [d2 rfl]; exact h.2.2.2.2.1
   ·obtain ⟨p, hp, rfl⟩ := List.mem_map.1 hq
    have := h.2.2.2.2.2 p hp; exact ⟨this.1, by show partP (Go.Proofs.YthifjndenhjobaaGreat.formA _ (pl o p.typ)); rw [k3 p hp]; exact this.2⟩
  ·exact .inr (.inr (.inr (.inl ⟨h.1, by show Go.Proofs.YthifjndenhjobaaGreat.formA _ (pl o x.elem) = 9; rw [k1]; exact h.2⟩)))
  ·refine .inr (.inr (.inr (.inr ⟨h.1, by show (x.params.map _).length <= 64; rw [lnm]; exact h.2.1, ?_, fun q hq => ?_⟩)))
   ·show pl o x.result = 0 \/ plainP (Go.Proofs.YthifjndenhjobaaGreat.formA _ (pl o x.result))
    rw [k5, z5]; exact h.2.2.1
   ·obtain ⟨p, hp, rfl⟩ := List.mem_map.1 hq
    show partP (Go.Proofs.YthifjndenhjobaaGreat.formA _ (pl o p.typ)) \/ Go.Proofs.YthifjndenhjobaaGreat.formA _ (pl o p.typ) = 8
    rw [k4 p hp]; exact h.2.2.2 p hp
 ·obtain ⟨l1, l2, l3, l4, l5, l6, l7⟩ := f.2.2
  simp only [want] at l1 l2 l3 l4 l5 l6 l7; refine ⟨?_, l2, ?_, ?_, ?_, ?_, ?_⟩
  ·show d = if x.form = 9 then d else 0
   by_cases f9 : x.form = 9
   ·rw [if_pos f9]
   ·rw [if_neg f9]
    have : B = false := by
     cases B with
     | true => exact absurd (hown.1 rfl).1 f9
     | false => rfl
    rw [d2 this, l1, if_neg f9]
  ·show pl o x.elem = if x.form = 7 \/ x.form = 8 \/ x.form = 10 then pl o x.elem else 0
   split
   ·rfl
   ·rename_i h; rw [l3, if_neg h]; rfl
  ·show pl o x.base = if x.form = 9 then pl o x.base else 0
   split
   ·rfl
   ·rename_i h; rw [l4, if_neg h]; rfl
  ·show pl o x.result = if x.form = 11 then pl o x.result else 0
   split
   ·rfl
   ·rename_i h; rw [l5, if_neg h]; rfl
  ·show (x.fields.map _).length = (if x.form = 9 then x.fields.map _ else []).length
   split
   ·rfl
   ·rename_i h; rw [if_neg h] at l6; rw [lnm, l6]
  ·show (x.params.map _).length = (if x.form = 11 then x.params.map _ else []).length
   split
   ·rfl
   ·rename_i h; rw [if_neg h] at l7; rw [lnm, l7]
theorem Ord.kidsC {a : Int} (h0 : 0 <= a) (ha : a < 7 \/ a ∈ o) : kidsC (newT nm t o) (pl o a) = (Go.Proofs.YthifjndenhjobaaGreat.kidsC t a).map (pl o) := by
 have hf := Ord.form (nm := nm) hg ho h0 ha
 unfold Go.Proofs.YthifjndenhjobaaGreat.kidsC
 rw [hf]
 by_cases h7 : a < 7
 ·rcases hg.at_ h0 (by have := hg.len; omega) with ⟨_, e⟩ | ⟨h, _⟩
  ·rw [e]
   rw [if_neg (by simp [bt]; omega), if_neg (by simp [bt]; omega), if_neg (by simp [bt]; omega), if_neg (by simp [bt]; omega)]; rfl
  ·omega
 ·have hm := ha.resolve_left h7
  obtain ⟨d, e, -, -⟩ := ntF_x (nm := nm) hg ho hm; rw [newT_at hm (by omega), e]
  split
  ·rfl
  ·split
   ·simp [trnT]
   ·rfl
theorem Ord.acc {a : Int} (h : Acc (KdC t) a) : 0 <= a -> (a < 7 \/ a ∈ o) -> Acc (KdC (newT nm t o)) (pl o a) := by
 induction h with
 | intro a _ ih =>
  intro h0 ha
  refine ⟨_, fun y hy => ?_⟩; have hy : y ∈ Go.Proofs.YthifjndenhjobaaGreat.kidsC (newT nm t o) (pl o a) := hy; rw [Ord.kidsC hg ho h0 ha] at hy; obtain ⟨k, hk, rfl⟩ := List.mem_map.1 hy; have h1 : a < t.length := ha.elim (fun h => by have := hg.len; omega) fun h => (ho.rng a h).2
  have hk0 := hg.toFrmP.kid h0 h1 hk; refine ih k hk hk0.1 ?_; rcases ha with h7 | hm
  ·rcases hg.at_ h0 h1 with ⟨_, e⟩ | ⟨h, _⟩
   ·rw [kids_no (by rw [e]; simp [bt]; omega) (by rw [e]; simp [bt]; omega) (by rw [e]; simp [bt]; omega)] at hk
    cases hk
   ·omega
  ·refine ho.cls a hm k ?_
   unfold Go.Proofs.YthifjndenhjobaaGreat.kidsC at hk
   split at hk
   ·simp at hk; subst hk; simp [kidsV, kidsX]
   ·split at hk
    ·rcases List.mem_cons.1 hk with rfl | hk
     ·simp [kidsV, kidsX]
     ·obtain ⟨p, hp, rfl⟩ := List.mem_map.1 hk
      simp only [kidsV, kidsX, List.mem_cons, List.mem_append, List.mem_map]; exact .inr (.inr (.inl ⟨p, hp, rfl⟩))
    ·cases hk
theorem Ord.cnt_lt {i j : Nat} (hij : i < j) (hj : j < o.length) (hi : own nm t (o.getD i 0) = true) : (o.take i).countP (own nm t) < (o.take j).countP (own nm t) := by
 have h1 : (o.take j).countP (own nm t) = ((o.take i).countP (own nm t)) + (((o.drop i).take (j - i)).countP (own nm t)) := by
  rw [<- List.countP_append, <- List.take_add, Nat.add_sub_cancel' (by omega)]
 have h2 : (o.drop i).take (j - i) = o.getD i 0 :: (o.drop (i + 1)).take (j - i - 1) := by
  have hlt : i < o.length := by omega
  rw [List.drop_eq_getElem_cons hlt, show j - i = (j - i - 1) + 1 by omega, List.take_succ_cons, gD, gE hlt]
  simp
 rw [h1, h2, List.countP_cons_of_pos hi]; omega
theorem Ord.chain {n : Nat} : ∀ {a : Int}, RecIn t a -> a ∈ o -> chain (newT nm t o) n (pl o a) = (Go.Proofs.YthifjndenhjobaaGreat.chain t n a).map (pl o) /\ ∀ c ∈ Go.Proofs.YthifjndenhjobaaGreat.chain t n a, c ∈ o := by
 induction n with
 | zero => exact fun hr hm => ⟨rfl, fun c hc => by rw [List.mem_singleton.1 hc]; exact hm⟩
 | succ n ih =>
  intro a hr hm
  obtain ⟨d, e, -, -⟩ := ntF_x (nm := nm) hg ho hm; have h7 := (ho.rng a hm).1; have hb : (tyAt (newT nm t o) (pl o a)).base = pl o (tyAt t a).base := by rw [newT_at hm h7, e]; rfl
  have hk := ho.cls a hm (tyAt t a).base (by simp [kidsV, kidsX]); simp only [Go.Proofs.YthifjndenhjobaaGreat.chain]; rw [hb]
  by_cases h0 : (tyAt t a).base = 0
  ·rw [if_pos h0, if_pos (by rw [h0]; rfl)]
   exact ⟨rfl, fun c hc => by rw [List.mem_singleton.1 hc]; exact hm⟩
  ·rw [if_neg h0, if_neg (fun h => h0 ((Ord.pl_zero hg ho hk).1 h))]
   have hrb := (hg.base hr).resolve_left h0; have hmb : (tyAt t a).base ∈ o := hk.resolve_left fun h => by have := (hg.rec_ hrb).1; omega
   obtain ⟨i1, i2⟩ := ih hrb hmb; rw [i1]; refine ⟨rfl, fun c hc => ?_⟩; rcases List.mem_cons.1 hc with rfl | hc
   ·exact hm
   ·exact i2 c hc
theorem Ord.names {l : List Int} (hl : ∀ c ∈ l, c ∈ o) : namesL (newT nm t o) (l.map (pl o)) = namesL t l := by
 induction l with
 | nil => rfl
 | cons c l ih =>
  have hm := hl c (by simp); obtain ⟨d, e, -, -⟩ := ntF_x (nm := nm) hg ho hm; simp only [namesL, List.map_cons, List.flatMap_cons]; have := ih fun c hc => hl c (by simp [hc])
  simp only [namesL] at this; rw [this, newT_at hm (ho.rng c hm).1, e]
  congr 1
  simp [trnT]
theorem Ord.good (hc : o.countP (own nm t) <= 64) : GoodP (newT nm t o) := by
 have hl := hg.len; have hlen := Ord.len hg ho; have hN := newT_len nm t o; have cnt : ∀ i, i < o.length -> own nm t (o.getD i 0) = true -> (o.take i).countP (own nm t) < 64 := fun i hi h => by
  have h1 : o.countP (own nm t) = ((o.take i).countP (own nm t)) + ((o.drop i).countP (own nm t)) := by rw [<- List.countP_append, List.take_append_drop]
  have h2 : 0 < (o.drop i).countP (own nm t) := by
   rw [List.countP_pos_iff]; refine ⟨o.getD i 0, ?_, h⟩; rw [List.drop_eq_getElem_cons hi, gD, gE hi]; exact List.mem_cons_self
  omega
 have at7 : ∀ i, 7 <= i -> i < (newT nm t o).length -> ∃ k, k < o.length /\ i = 7 + k /\ o.getD k 0 ∈ o /\ o.idxOf (o.getD k 0) = k := fun i h7 hi => ⟨i - 7, by omega, by omega, mem_getD (by omega), idx_getD ho.nd (by omega)⟩
 refine ⟨⟨by omega, fun i hi => newT_lo hi, fun i h7 hi => ?_⟩, fun a h0 h1 => ?_, fun i j hij hj => ?_, fun i hi => ?_⟩
 ·obtain ⟨k, hk, rfl, hm, he⟩ := at7 i h7 hi
  rw [newT_hi hk]; have := Ord.formed (nm := nm) hg ho hm (by rw [he]; exact cnt k hk)
  rwa [he] at this
 ·by_cases h7 : a < 7
  ·have := Ord.acc (nm := nm) hg ho (hg.acc a h0 (by omega)) h0 (.inl h7)
   rwa [pl_lt h7] at this
  ·obtain ⟨k, hk, e, hm, he⟩ := at7 a.toNat (by omega) (by omega)
   have := Ord.acc (nm := nm) hg ho (hg.acc _ (by have := ho.rng _ hm; omega) (ho.rng _ hm).2) (by have := ho.rng _ hm; omega) (.inr hm)
   rwa [pl_ge (ho.rng _ hm).1, he, show (7 : Int) + (k : Nat) = a by omega] at this
 ·rintro ⟨f1, f2, f3, f4, f5⟩
  by_cases h7 : i < 7
  ·rw [newT_lo h7] at f1
   simp [bt] at f1; omega
  obtain ⟨k, hk, rfl, hm, he⟩ := at7 i (by omega) (by omega); obtain ⟨k', hk', rfl, hm', he'⟩ := at7 j (by omega) (by omega); obtain ⟨d, e, d1, d2⟩ := ntF_x (nm := nm) hg ho hm; obtain ⟨d', e', d1', d2'⟩ := ntF_x (nm := nm) hg ho hm'; rw [he] at e d1; rw [he'] at e' d1'; rw [newT_hi hk, e] at f1 f3 f4 f5; rw [newT_hi hk', e'] at f2 f4 f5; have f1 : (tyAt t (o.getD k 0)).form = 9 := f1; have f2 : (tyAt t (o.getD k' 0)).form = 9 := f2; have f4 : (tyAt t (o.getD k 0)).mod = (tyAt t (o.getD k' 0)).mod := f4; have f5 : d = d' := f5; have f3 : 0 <= d := f3
  cases hw : own nm t (o.getD k 0) with
  | true =>
   have hw' : own nm t (o.getD k' 0) = true := by
    simp only [own, ownX, decide_eq_true_eq] at hw ⊢; exact ⟨f2, by rw [<- f4]; exact hw.2⟩
   have := Ord.cnt_lt (nm := nm) hg ho (i := k) (j := k') (by omega) hk' hw; rw [d1 hw, d1' hw'] at f5; omega
  | false =>
   have hw' : own nm t (o.getD k' 0) = false := by
    simp only [own, ownX, decide_eq_false_iff_not] at hw ⊢; exact fun h => hw ⟨f1, by rw [f4]; exact h.2⟩
   rw [d2 hw, d2' hw'] at f5; rw [d2 hw] at f3; have r1 := ho.rng _ hm; have r2 := ho.rng _ hm'; have := hg.uni' (a := o.getD k 0) (b := o.getD k' 0) ⟨by omega, r1.2, f1⟩ ⟨by omega, r2.2, f2⟩ f4 f5 (by omega); rw [this] at he; omega
 ·rintro ⟨f9, hch⟩
  by_cases h7 : i < 7
  ·rw [newT_lo h7] at f9
   simp [bt] at f9; omega
  obtain ⟨k, hk, rfl, hm, he⟩ := at7 i (by omega) hi; have r1 := ho.rng _ hm; obtain ⟨d, e, -, -⟩ := ntF_x (nm := nm) hg ho hm; rw [he] at e; rw [newT_hi hk, e] at f9; have f9 : (tyAt t (o.getD k 0)).form = 9 := f9; have hr : RecIn t (o.getD k 0) := ⟨by omega, r1.2, f9⟩; have hP : ChainP t (o.getD k 0) := by
   have := hg.chn (o.getD k 0).toNat (by omega); rw [Odd1, show (((o.getD k 0).toNat : Nat) : Int) = o.getD k 0 by omega] at this; exact Classical.byContradiction fun hn => this ⟨f9, hn⟩
  refine hch ?_; obtain ⟨c1, c2⟩ := Ord.chain (nm := nm) hg ho (n := 5) hr hm; have hpl : pl o (o.getD k 0) = ((7 + k : Nat) : Int) := by rw [pl_ge r1.1, he]; omega
  rw [hpl] at c1
  unfold ChainP at hP ⊢
  rw [c1, lnm, Ord.names hg ho c2]; exact hP
end
end Go.Proofs.YthifjndenhjobaaGreat
