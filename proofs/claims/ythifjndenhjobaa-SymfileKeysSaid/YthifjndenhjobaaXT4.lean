/- Plain law: a walk through what lies in types ends just where nothing lies in itself. -/
import Derived.Test.YthifjndenhjobaaXT3
import Derived.Test.YthifjndenhjobaaXDraw3
namespace Go.Proofs.Ythifjndenhjobaa
set_option linter.unusedSimpArgs false
set_option linter.unusedVariables false
open Relation

section
variable {R : Int → Int → Prop}
theorem acc_irr {r : Int → Int → Prop} {a : Int} (h : Acc r a) : ¬ r a a := by
 induction h with
 | intro x _ ih => exact fun hx => ih x hx hx
theorem acc_loop {a : Int} (h : TransGen R a a) : ¬ Acc R a := fun ha => acc_irr ha.transGen h

def mt (m : List Int) (x : Int) : Int := m.getD x.toNat 0
def setM (m : List Int) (x v : Int) : List Int := m.set x.toNat v
theorem mt_set {m : List Int} {x y v : Int} (hx : 0 ≤ x ∧ x < m.length) (hy : 0 ≤ y) : mt (setM m x v) y = if x = y then v else mt m y := by
 simp only [mt, setM, List.getD_eq_getElem?_getD]
 by_cases h : x = y
 ·subst h
  rw [List.getElem?_set_self (by omega), if_pos rfl]; rfl
 ·rw [List.getElem?_set_ne (by omega), if_neg h]
theorem setM_len {m : List Int} {x v : Int} : (setM m x v).length = m.length := List.length_set
def zc (m : List Int) : Nat := m.countP fun v => v == 0
theorem zc_set : ∀ {m : List Int} {i : Nat} {v : Int}, i < m.length → m.getD i 0 = 0 → v ≠ 0 → zc (m.set i v) + 1 = zc m
 | x :: m, 0, v, _, h, hv => by
  simp only [List.getD_cons_zero] at h
  subst h
  simp only [zc, List.set_cons_zero, List.countP_cons]
  simp [hv]
 | x :: m, i + 1, v, hi, h, hv => by
  have := zc_set (m := m) (i := i) (v := v) (by simpa using hi) (by simpa using h) hv
  simp only [zc, List.set_cons_succ, List.countP_cons] at this ⊢
  omega
theorem zc_le : ∀ {m m' : List Int}, m.length = m'.length → (∀ i : Nat, m.getD i 0 ≠ 0 → m'.getD i 0 ≠ 0) → zc m' ≤ zc m
 | [], [], _, _ => Nat.le_refl _
 | x :: m, y :: m', hl, h => by
  have h0 := h 0
  have := zc_le (m := m) (m' := m') (by simpa using hl) fun i => by have := h (i + 1); simpa using this
  simp only [zc, List.countP_cons, List.getD_cons_zero] at this h0 ⊢
  by_cases hx : x = 0
  ·simp [hx]; split <;> omega
  ·have := h0 hx
   simp [hx, this]; omega

structure Met (R : Int → Int → Prop) (n : Nat) (m : List Int) : Prop where
 len : m.length = n
 st : ∀ x : Int, 0 ≤ x → x < n → mt m x = 0 ∨ mt m x = 1 ∨ mt m x = 2
 fin : ∀ x : Int, 0 ≤ x → x < n → mt m x = 2 → Acc R x
def Way (R : Int → Int → Prop) (n : Nat) (m : List Int) (a : Int) : Prop := ∀ x : Int, 0 ≤ x → x < n → mt m x = 1 → TransGen R a x
structure Left (n : Nat) (m m' : List Int) : Prop where
 old : ∀ x : Int, 0 ≤ x → x < n → mt m x ≠ 0 → mt m' x = mt m x
 one : ∀ x : Int, 0 ≤ x → x < n → mt m' x = 1 → mt m x = 1
theorem Left.rfl {n : Nat} {m : List Int} : Left n m m := ⟨fun _ _ _ _ => Eq.refl _, fun _ _ _ h => h⟩
theorem Left.trans {n : Nat} {m m1 m2 : List Int} (h : Left n m m1) (k : Left n m1 m2) : Left n m m2 :=
 ⟨fun x h0 h1 hx => by rw [k.old x h0 h1 (by rw [h.old x h0 h1 hx]; exact hx), h.old x h0 h1 hx], fun x h0 h1 hx => h.one x h0 h1 (k.one x h0 h1 hx)⟩
theorem Left.zc {n : Nat} {m m' : List Int} (h : Left n m m') (hl : m.length = n) (hl' : m'.length = n) : zc m' ≤ zc m :=
 zc_le (by rw [hl, hl']) fun i hi => by
  rcases Nat.lt_or_ge i n with hn | hn
  ·have := h.old i (by omega) (by omega)
   simp only [mt, Int.toNat_natCast] at this
   rw [this hi]; exact hi
  ·exact absurd (by rw [List.getD_eq_getElem?_getD, List.getElem?_eq_none (by omega)]; rfl) hi
theorem Met.go {n : Nat} {m : List Int} {a : Int} (h : Met R n m) (ha : 0 ≤ a ∧ a < n) (h0 : mt m a = 0) : Met R n (setM m a 1) := by
 have hl := h.len
 refine ⟨by rw [setM_len, hl], fun x h1 h2 => ?_, fun x h1 h2 => ?_⟩
 ·rw [mt_set (by omega) h1]; split
  ·exact .inr (.inl rfl)
  ·exact h.st x h1 h2
 ·rw [mt_set (by omega) h1]; split
  ·exact fun e => by cases e
  ·exact h.fin x h1 h2
theorem Met.one {n : Nat} {m : List Int} {a : Int} (h : Met R n m) (ha : 0 ≤ a ∧ a < n) (hw : Way R n m a) (h1 : mt m a = 1) : ¬ Acc R a := acc_loop (hw a ha.1 ha.2 h1)
theorem Way.kid {n : Nat} {m m' : List Int} {a k : Int} (hl : m.length = n) (ha : 0 ≤ a ∧ a < n) (h : Way R n m a) (hL : Left n (setM m a 1) m') (hk : R k a) : Way R n m' k := fun x h0 h1 hx => by
 have := hL.one x h0 h1 hx
 rw [mt_set (by omega) h0] at this
 split at this
 ·rename_i e; subst e; exact .single hk
 ·exact (TransGen.single hk).trans (h x h0 h1 this)
theorem Met.done {n : Nat} {m m' : List Int} {a : Int} (hl : m.length = n) (h : Met R n m') (ha : 0 ≤ a ∧ a < n) (h0 : mt m a = 0) (hL : Left n (setM m a 1) m') (hA : Acc R a) : Met R n (setM m' a 2) ∧ Left n m (setM m' a 2) := by
 have hl' := h.len
 refine ⟨⟨by rw [setM_len, hl'], fun x h1 h2 => ?_, fun x h1 h2 => ?_⟩, fun x h1 h2 hx => ?_, fun x h1 h2 => ?_⟩
 ·rw [mt_set (by omega) h1]; split
  ·exact .inr (.inr rfl)
  ·exact h.st x h1 h2
 ·rw [mt_set (by omega) h1]; split
  ·rename_i e; subst e; exact fun _ => hA
  ·exact h.fin x h1 h2
 ·rw [mt_set (by omega) h1]
  have hne : a ≠ x := fun e => hx (by rw [← e]; exact h0)
  rw [if_neg hne]
  have := hL.old x h1 h2
  rw [mt_set (by omega) h1, if_neg hne] at this
  exact this hx
 ·rw [mt_set (by omega) h1]
  split
  ·exact fun e => by cases e
  ·rename_i hne
   intro hx
   have := hL.one x h1 h2 hx
   rwa [mt_set (by omega) h1, if_neg hne] at this
theorem Met.zero {n : Nat} : Met R n (List.replicate n 0) := by
 have : ∀ x, mt (List.replicate n 0) x = 0 := fun x => by
  simp only [mt, List.getD_eq_getElem?_getD, List.getElem?_replicate]; split <;> rfl
 exact ⟨by simp, fun x _ _ => .inl (this x), fun x _ _ h => by rw [this] at h; cases h⟩
theorem Way.none {n : Nat} {m : List Int} {a : Int} (h : ∀ x : Int, 0 ≤ x → x < n → mt m x ≠ 1) : Way R n m a := fun x h0 h1 hx => absurd hx (h x h0 h1)
theorem Left.none {n : Nat} {m m' : List Int} (h : Left n m m') (h1 : ∀ x : Int, 0 ≤ x → x < n → mt m x ≠ 1) : ∀ x : Int, 0 ≤ x → x < n → mt m' x ≠ 1 := fun x h0 h2 hx => h1 x h0 h2 (h.one x h0 h2 hx)
end

def kidsC (t : List Ty) (a : Int) : List Int :=
 if (tyAt t a).form = 7 ∨ (tyAt t a).form = 8 then [(tyAt t a).elem] else if (tyAt t a).form = 9 then (tyAt t a).base :: (tyAt t a).fields.map Fd.typ else []
abbrev KdC (t : List Ty) (y x : Int) : Prop := y ∈ kidsC t x
end Go.Proofs.Ythifjndenhjobaa

/- tables.ends: what does not stand in itself. -/
namespace Go.Proofs.Ythifjndenhjobaa
set_option linter.unusedSimpArgs false
set_option linter.unusedVariables false
set_option maxRecDepth 20000
set_option maxHeartbeats 4000000
open Go.RowKit Relation

def c119l0 : AC :=
 .seq (.reg [kn 71 (.bin .lss (.t 70) (.t 69))])
 (.seq (.cond (.t 71) (.skip) (.exit 3))
 (.seq (.block 4 (.seq (.reg [kn 72 (.ia (.t 68) (.t 70) 1), kn 73 (.ld (.t 72) 1 false), kn 11 (.mv (.t 73))])
 (.seq (.reg [kn 74 (.mv (.t 0)), kn 75 (.mv (.t 11)), kn 76 (.mv (.t 2)), kn 77 (.call 119 [(.t 74), (.t 75), (.t 76)]), kn 78 (.un .not (.t 77))])
 (.cond (.t 78) (.seq (.reg [kn 6 (.mv (.c (.d (.v (.bool false)))))])
 (.ret)) (.skip)))))
 (.reg [kn 79 (.bin .add (.t 70) (kc 1)), kn 70 (.mv (.t 79))])))

def c119l1 : AC :=
 .seq (.reg [kn 59 (.bin .lss (.t 58) (.t 57))])
 (.seq (.cond (.t 59) (.skip) (.exit 1))
 (.seq (.block 2 (.seq (.reg [kn 60 (.ia (.t 56) (.t 58) 3), kn 61 (.ld (.t 60) 3 true), kn 9 (.al [(.d (.v (.string ⟨#[]⟩))), (.d (.v (.bool false))), kz]), ke (.st (.t 9) (.t 61) 3)])
 (.reg [kn 62 (.mv (.t 7)), kn 63 (.fa (.t 9) 2), kn 64 (.ld (.t 63) 1 false), kn 65 (.bs .im 3 1 [(.t 64)]), kn 66 (.app .gr 3 1 8 (.t 62) (.t 65)), kn 7 (.mv (.t 66))])))
 (.reg [kn 67 (.bin .add (.t 58) (kc 1)), kn 58 (.mv (.t 67))])))

def c119 : AC :=
 .seq (.reg [kn 6 (.mv (.c (.d (.v (.bool false)))))])
 (.seq (.seq (.reg [kn 12 (.mv (.t 2)), kn 13 (.mv (.t 1)), kn 14 (.ia (.t 12) (.t 13) 1), kn 15 (.ld (.t 14) 1 false), kn 16 (.bin .gtr (.t 15) (kc 0))])
 (.cond (.t 16) (.seq (.reg [kn 17 (.mv (.t 2)), kn 18 (.mv (.t 1)), kn 19 (.ia (.t 17) (.t 18) 1), kn 20 (.ld (.t 19) 1 false), kn 21 (.bin .eql (.t 20) (kc 2)), kn 6 (.mv (.t 21))])
 (.ret)) (.skip)))
 (.seq (.reg [kn 22 (.mv (.t 2)), kn 23 (.mv (.t 1)), kn 24 (.ia (.t 22) (.t 23) 1), ke (.st (.t 24) (kc 1) 1)])
 (.seq (.reg [kn 25 (.bs .im 3 1 []), kn 7 (.mv (.t 25))])
 (.seq (.seq (.reg [kn 26 (.mv (.t 0)), kn 27 (.mv (.t 1)), kn 28 (.ia (.t 26) (.t 27) 10), kn 29 (.fa (.t 28) 0), kn 30 (.ld (.t 29) 1 false)])
 (.block 0 (.seq (.seq (.reg [kn 32 (.bin .eql (.t 30) (kc 7)), kn 31 (.mv (.t 32))])
 (.cond (.t 31) (.skip) (.reg [kn 33 (.bin .eql (.t 30) (kc 8)), kn 31 (.mv (.t 33))])))
 (.cond (.t 31) (.reg [kn 34 (.mv (.t 7)), kn 35 (.mv (.t 0)), kn 36 (.mv (.t 1)), kn 37 (.ia (.t 35) (.t 36) 10), kn 38 (.fa (.t 37) 4), kn 39 (.ld (.t 38) 1 false), kn 40 (.bs .im 3 1 [(.t 39)]), kn 41 (.app .gr 3 1 8 (.t 34) (.t 40)), kn 7 (.mv (.t 41))]) (.seq (.reg [kn 43 (.bin .eql (.t 30) (kc 9)), kn 42 (.mv (.t 43))])
 (.cond (.t 42) (.seq (.reg [kn 44 (.mv (.t 7)), kn 45 (.mv (.t 0)), kn 46 (.mv (.t 1)), kn 47 (.ia (.t 45) (.t 46) 10), kn 48 (.fa (.t 47) 5), kn 49 (.ld (.t 48) 1 false), kn 50 (.bs .im 3 1 [(.t 49)]), kn 51 (.app .gr 3 1 8 (.t 44) (.t 50)), kn 7 (.mv (.t 51))])
 (.seq (.reg [kn 52 (.mv (.t 0)), kn 53 (.mv (.t 1)), kn 54 (.ia (.t 52) (.t 53) 10), kn 55 (.fa (.t 54) 6), kn 56 (.ld (.t 55) 1 false), kn 57 (.len false (.t 56)), kn 58 (.mv (kc 0))])
 (.block 1 (.loop c119l1)))) (.skip)))))))
 (.seq (.seq (.reg [kn 68 (.mv (.t 7)), kn 69 (.len false (.t 68)), kn 70 (.mv (kc 0))])
 (.block 3 (.loop c119l0)))
 (.seq (.reg [kn 80 (.mv (.t 2)), kn 81 (.mv (.t 1)), kn 82 (.ia (.t 80) (.t 81) 1), ke (.st (.t 82) (kc 2) 1)])
 (.seq (.reg [kn 6 (.mv (.c (.d (.v (.bool true)))))])
 (.ret))))))))
def r119 : List RC := [.t 6]

theorem cc119 : Try.f119.body.bind (comp Try.prog (hh 119)) = some c119 := by kernel_rfl
theorem rr119 : resC Try.prog Try.f119 = some r119 := by kernel_rfl
theorem cell_map {α : Type} (f : α → AV) (d : α) {m : List α} {i : Nat} (h : i < m.length) : ((m.map f).drop i).take 1 = [f (m.getD i d)] := by
 rw [List.drop_eq_getElem_cons (by simpa using h), List.take_succ_cons, List.take_zero, List.getElem_map, List.getD_eq_getElem?_getD, List.getElem?_eq_getElem h]; rfl
theorem mt_cell {m : List Int} {x : Int} {n : Nat} (hl : m.length = n) (hx : 0 ≤ x ∧ x < n) : ((m.map iv).drop x.toNat).take 1 = [iv (mt m x)] := cell_map iv 0 (by omega)
theorem mt_st {m : List Int} {x v : Int} {n : Nat} (hl : m.length = n) (hx : 0 ≤ x ∧ x < n) : (m.map iv).take x.toNat ++ iv v :: (m.map iv).drop (x.toNat + 1) = (setM m x v).map iv := by
 simp only [setM, List.map_set]
 rw [List.set_eq_take_append_cons_drop, if_pos (by rw [List.length_map]; omega)]
theorem iaA_hsl {b n : Nat} {x : Int} (hx : 0 ≤ x ∧ x < n) : iaA (.hsl b 0 n n 1) x 1 = some (.ptr b x.toNat) := by
 simp [iaA, hx]

def EndsR (t : List Ty) (m : List Int) (a : Int) (b : Nat) (H : List ABlk) (v : AV) (H' : List ABlk) : Prop :=
 ∃ B m', v = bv B ∧ H' = H.set b (.cells (m'.map iv)) ∧ m'.length = t.length ∧ (B = true → Acc (KdC t) a ∧ Met (KdC t) t.length m' ∧ Left t.length m m') ∧ (B = false → ¬ Acc (KdC t) a)
theorem set_same {H : List ABlk} {b : Nat} {k : ABlk} (h : H[b]? = some k) : H.set b k = H := by
 refine List.ext_getElem? fun i => ?_
 by_cases e : b = i
 ·subst e; rw [List.getElem?_set_self (List.getElem?_eq_some_iff.1 h).1, h]
 ·rw [List.getElem?_set_ne e]
theorem refs_iv : ∀ m : List Int, refs.refsL (m.map iv) = []
 | [] => rfl
 | x :: m => by simp only [List.map_cons, refs.refsL, refs_iv m]; rfl
theorem cl.setC {H : List ABlk} (h : cl H) {b : Nat} (m : List Int) : cl (H.set b (.cells (m.map iv))) := by
 intro c k hc r hr
 rw [List.length_set]
 by_cases e : b = c
 ·subst e
  rcases Nat.lt_or_ge b H.length with hl | hl
  ·rw [List.getElem?_set_self hl] at hc
   cases hc
   simp [ABlk.refs, refs_iv] at hr
  ·rw [List.getElem?_eq_none (by rw [List.length_set]; exact hl)] at hc; cases hc
 ·rw [List.getElem?_set_ne e] at hc
  exact h c k hc r hr
structure TKids (t : List Ty) : Prop where
 len : t.length ≤ 256
 kid : ∀ x : Int, 0 ≤ x → x < t.length → ∀ y ∈ kidsC t x, 0 ≤ y ∧ y < t.length
 fd : ∀ x ∈ t, x.fields.length ≤ 400000


abbrev SE (t : List Ty) (a : Int) (b : Nat) (X : AV) (n i : Nat) : List AV := [tv t, iv a, .hsl b 0 t.length t.length 1, .any, .any, .any, bv false] ++ List.replicate 61 .any ++ [X, iv n, iv i]
def LoopR (t : List Ty) (m : List Int) (a : Int) (b : Nat) (H tl : List ABlk) (X : AV) (ks : List Int) (e : Exit) (s : List AV) (H' : List ABlk) : Prop :=
 (e = .exit 3 ∧ s = SE t a b X ks.length ks.length ++ bv false :: List.replicate 11 .any ∧ ∃ m' : List Int, H' = H.set b (.cells (m'.map iv)) ++ tl ∧ Met (KdC t) t.length m' ∧ Left t.length (setM m a 1) m' ∧ ∀ k ∈ ks, Acc (KdC t) k) ∨
 (e = .ret ∧ resA [RC.t 6] s H' = some (bv false) ∧ ∃ m' : List Int, m'.length = t.length ∧ H' = H.set b (.cells (m'.map iv)) ++ tl ∧ ¬ ∀ k ∈ ks, Acc (KdC t) k)
theorem ends_loop {t : List Ty} (ht : TKids t) {n : Nat} (ih : ∀ {m : List Int} {a : Int} {H : List ABlk} {b : Nat}, zc m < n → Met (KdC t) t.length m → Way (KdC t) t.length m a → 0 ≤ a ∧ a < t.length → H[b]? = some (.cells (m.map iv)) →
 ACalls Try.prog 119 [tv t, iv a, .hsl b 0 t.length t.length 1] H (EndsR t m a b H)) {m : List Int} {a : Int} {H tl : List ABlk} {b nb : Nat} {X : AV} {ks : List Int} (hz : zc m < n + 1) (hm : Met (KdC t) t.length m) (hw : Way (KdC t) t.length m a) (ha : 0 ≤ a ∧ a < t.length) (h0 : mt m a = 0)
 (hb : b < H.length) (hX : ∀ i, i < ks.length → iaA X (i : Int) 1 = some (.ip [.v (.int .i64 (ks.getD i 0))])) (hks : ∀ k ∈ ks, KdC t k a) (hkl : ks.length ≤ 500000) :
 W Try.prog (hh 119) nb (.loop c119l0) (SE t a b X ks.length 0 ++ List.replicate 12 .any) (H.set b (.cells ((setM m a 1).map iv)) ++ tl) (LoopR t m a b H tl X ks) := by
 have hml := hm.len
 have htl := ht.len
 obtain ⟨S, hS⟩ : ∃ S : Nat × List Int → List AV, ∀ g, S g = SE t a b X ks.length g.1 ++ List.replicate 12 .any := ⟨_, fun _ => rfl⟩
 refine W.loopG (γ := Nat × List Int) (fun g => ks.length - g.1) S (fun g => H.set b (.cells (g.2.map iv)) ++ tl) (fun g => g.1 ≤ ks.length ∧ Met (KdC t) t.length g.2 ∧ Left t.length (setM m a 1) g.2 ∧ ∀ j, j < g.1 → Acc (KdC t) (ks.getD j 0)) (0, setM m a 1) (by rw [hS]; exact Wk.refl) ⟨Nat.zero_le _, hm.go ha h0, Left.rfl, fun j hj => by omega⟩ (fun g hg => ?_)
 obtain ⟨i, m1⟩ := g
 obtain ⟨q1, q2, q3, q4⟩ := hg
 simp only at q1 q2 q3 q4
 simp (maxSteps := 2000000) (disch := omega) only [c119l0, hS, List.append_assoc, List.cons_append, List.nil_append, go_sem, seval, reduceCtorEq]
 refine Br.dec (fun hc => ?_) (fun hc => ?_) <;> simp (maxSteps := 2000000) (disch := omega) only [go_sem, seval, reduceCtorEq]
 ·have hxi := hX i (by omega)
  have hmem : ks.getD i 0 ∈ ks := by rw [List.getD_eq_getElem?_getD, List.getElem?_eq_getElem (by omega)]; exact List.getElem_mem _
  have hzz : zc m1 < n := by
   have := q3.zc (by rw [setM_len, hml]) q2.len
   have h2 := zc_set (m := m) (i := a.toNat) (v := 1) (by omega) h0 (by omega)
   simp only [setM] at this
   omega
  simp (maxSteps := 2000000) (disch := omega) only [hxi, go_sem, seval, reduceCtorEq]
  refine Cont.rel (ih hzz q2 (Way.kid hml ha hw q3 (hks _ hmem)) (ht.kid a ha.1 ha.2 _ (hks _ hmem)) (by rw [List.getElem?_append_left (by simpa using hb), List.getElem?_set_self hb])) ?_
  rintro v H' ⟨B, m2, rfl, rfl, e1, e2, e3⟩
  rw [List.set_append_left _ _ (by simpa using hb), List.set_set]
  cases B with
  | true =>
   obtain ⟨f1, f2, f3⟩ := e2 rfl
   simp (maxSteps := 2000000) (disch := omega) only [go_sem, seval, reduceCtorEq]
   refine Nxt.mk (i + 1, m2) (by simp only; omega) (Wk.slots (by rw [hS]; exact WkL.tail 71 _ rfl (by simp only [List.take_succ_cons, List.take_zero]; repeat' first | exact WkL.nil | refine WkL.cons (Wk1.rfl _) ?_ | refine WkL.cons Wk1.esl ?_ | refine WkL.cons (Wk1.gsl _ _ _) ?_ | refine WkL.cons (Wk1.any _) ?_))) ⟨by simp only; omega, f2, q3.trans f3, fun j hj => ?_⟩
   rcases Nat.lt_or_ge j i with h' | h'
   ·exact q4 j h'
   ·rw [show j = i by simp only at hj; omega]; exact f1
  | false =>
   simp (maxSteps := 2000000) (disch := omega) only [go_sem, seval, reduceCtorEq]
   exact .inr ⟨rfl, rfl, m2, e1, rfl, fun hA => e3 rfl (hA _ hmem)⟩
 ·have hi : i = ks.length := by omega
  subst hi
  refine .inl ⟨rfl, rfl, m1, rfl, q2, q3, fun k hk => ?_⟩
  obtain ⟨j, hj, rfl⟩ := List.getElem_of_mem hk
  have := q4 j hj
  rwa [List.getD_eq_getElem?_getD, List.getElem?_eq_getElem hj] at this

theorem kids_arr {t : List Ty} {a : Int} (h : (tyAt t a).form = 7 ∨ (tyAt t a).form = 8) : kidsC t a = [(tyAt t a).elem] := if_pos h
theorem kids_rec {t : List Ty} {a : Int} (h : (tyAt t a).form = 9) : kidsC t a = (tyAt t a).base :: (tyAt t a).fields.map Fd.typ := by
 rw [kidsC, if_neg (by omega), if_pos h]
theorem kids_no {t : List Ty} {a : Int} (h1 : (tyAt t a).form ≠ 7) (h2 : (tyAt t a).form ≠ 8) (h3 : (tyAt t a).form ≠ 9) : kidsC t a = [] := by
 rw [kidsC, if_neg (by omega), if_neg h3]
theorem gsl_at {b : Nat} {ks : List Int} {i : Nat} (h : i < ks.length) : iaA (.gsl b 1 (ks.map fun k => [.v (.int .i64 k)])) (i : Int) 1 = some (.ip [.v (.int .i64 (ks.getD i 0))]) := by
 have := iaA_gmap (fun k : Int => [Dat.v (.int .i64 k)]) 0 (b := b) (n := 1) (l := ks) (a := i) (by omega) (by omega)
 rwa [Int.toNat_natCast] at this

theorem ends_c {t : List Ty} (ht : TKids t) (n : Nat) : ∀ {m : List Int} {a : Int} {H : List ABlk} {b : Nat}, zc m < n → Met (KdC t) t.length m → Way (KdC t) t.length m a → 0 ≤ a ∧ a < t.length → H[b]? = some (.cells (m.map iv)) →
 ACalls Try.prog 119 [tv t, iv a, .hsl b 0 t.length t.length 1] H (EndsR t m a b H) := by
 induction n with
 | zero => intro m a H b hz; omega
 | succ n ih =>
 intro m a H b hz hm hw ha hb
 refine ACalls.into Try.func119 cc119 rr119 fun hcl => ?_
 have hml := hm.len
 have htl := ht.len
 have hbl := (List.getElem?_eq_some_iff.1 hb).1
 have hia := iaA_hsl (b := b) ha
 have hcell := mt_cell hml ha
 have hsm := set_same hb
 simp (maxSteps := 2000000) (disch := omega) only [Try.ntmps119, c119, r119, hia, hb, hcell, List.length_map, hml, go_sem, seval, reduceCtorEq]
 rcases hm.st a ha.1 ha.2 with h0 | h0 | h0
 ·have hstx := mt_st (v := 1) hml ha
  have hm1 := hm.go ha h0
  have hty := iaA_ty ha.1 ha.2
  have hmem := tyAt_mem ha.1 ha.2
  have hfl := ht.fd _ hmem
  have h7 := kids_arr (t := t) (a := a)
  have h9 := kids_rec (t := t) (a := a)
  have hn := kids_no (t := t) (a := a)
  generalize hx : tyAt t a = x at *
  have fin : ∀ {X : AV} {ks : List Int} {tl : List ABlk} {e : Exit} {s : List AV} {H' : List ABlk} {Q : APost}, LoopR t m a b H tl X ks e s H' → kidsC t a = ks →
   (∀ m', Met (KdC t) t.length (setM m' a 2) → Left t.length m (setM m' a 2) → Acc (KdC t) a → m'.length = t.length → Q (.exit 3) (SE t a b X ks.length ks.length ++ bv false :: List.replicate 11 .any) (H.set b (.cells (m'.map iv)) ++ tl)) →
   (∀ s H', Ret [RC.t 6] H.length (EndsR t m a b H) (resA [RC.t 6] s H') H' → Q .ret s H') → Q e s H' := by
   intro X ks tl e s H' Q h hks h1 h2
   rcases h with ⟨rfl, rfl, m', rfl, g1, g2, g3⟩ | ⟨rfl, g0, m', g1, rfl, g3⟩
   ·have hA : Acc (KdC t) a := .intro a fun y hy => g3 y (by rw [← hks]; exact hy)
    obtain ⟨k1, k2⟩ := g1.done hml ha h0 g2 hA
    exact h1 m' k1 k2 hA g1.len
   ·refine h2 _ _ ?_
    rw [g0]
    exact Ret.drop (bv false) (H.set b (.cells (m'.map iv))) (by simp) (hcl.setC _) (.rfl _) (by simp [refs]) ⟨false, m', rfl, rfl, g1, fun h => by simp at h, fun _ hA => g3 fun k hk => hA.inv (by show k ∈ kidsC t a; rw [hks]; exact hk)⟩
  by_cases f7 : x.form = 7
  ·have hk := h7 (.inl f7)
   simp (maxSteps := 2000000) (disch := omega) only [h0, hia, hb, List.length_map, hml, hstx, hty, Ty.c, f7, List.length_cons, go_sem, seval, reduceCtorEq]
   refine W.weak (Wk.slots (by (try simp only [List.replicate, List.cons_append, List.nil_append]); repeat' first | exact WkL.nil | refine WkL.cons (Wk1.rfl _) ?_ | refine WkL.cons Wk1.esl ?_ | refine WkL.cons (Wk1.gsl _ _ _) ?_ | refine WkL.cons (Wk1.any _) ?_)) (W.mono (ends_loop ht ih hz hm hw ha h0 hbl (X := .gsl H.length 1 ([x.elem].map fun k => [.v (.int .i64 k)])) (tl := [.row 3 1 1]) (fun i hi => gsl_at hi) (fun k hk' => by show k ∈ kidsC t a; rw [hk]; exact hk') (by simp)) fun e s H' h => fin h hk (fun m' g1 g2 g3 g4 => ?_) fun s H' h => h)
   have hst2 := mt_st (v := 2) g4 ha
   have hb2 : (H.set b (ABlk.cells (m'.map iv)))[b]? = some (.cells (m'.map iv)) := List.getElem?_set_self hbl
   have hb3 : (H.set b (ABlk.cells (m'.map iv)) ++ [.row 3 1 1])[b]? = some (.cells (m'.map iv)) := by rw [List.getElem?_append_left (by simpa using hbl), hb2]
   simp (maxSteps := 2000000) (disch := omega) only [hia, hb2, hb3, List.length_map, g4, hst2, List.append_assoc, List.cons_append, List.nil_append, List.append_nil, go_sem, seval, reduceCtorEq]
   rw [List.set_append_left _ _ (by simpa using hbl), List.set_set]
   exact Ret.drop (bv true) (H.set b (.cells ((setM m' a 2).map iv))) (by simp) (hcl.setC _) (.rfl _) (by simp [refs]) ⟨true, _, rfl, rfl, by rw [setM_len, g4], fun _ => ⟨g3, g1, g2⟩, fun h => by simp at h⟩
  by_cases f8 : x.form = 8
  ·have hk := h7 (.inr f8)
   simp (maxSteps := 2000000) (disch := omega) only [h0, hia, hb, List.length_map, hml, hstx, hty, Ty.c, f8, List.length_cons, go_sem, seval, reduceCtorEq]
   refine W.weak (Wk.slots (by (try simp only [List.replicate, List.cons_append, List.nil_append]); repeat' first | exact WkL.nil | refine WkL.cons (Wk1.rfl _) ?_ | refine WkL.cons Wk1.esl ?_ | refine WkL.cons (Wk1.gsl _ _ _) ?_ | refine WkL.cons (Wk1.any _) ?_)) (W.mono (ends_loop ht ih hz hm hw ha h0 hbl (X := .gsl H.length 1 ([x.elem].map fun k => [.v (.int .i64 k)])) (tl := [.row 3 1 1]) (fun i hi => gsl_at hi) (fun k hk' => by show k ∈ kidsC t a; rw [hk]; exact hk') (by simp)) fun e s H' h => fin h hk (fun m' g1 g2 g3 g4 => ?_) fun s H' h => h)
   have hst2 := mt_st (v := 2) g4 ha
   have hb2 : (H.set b (ABlk.cells (m'.map iv)))[b]? = some (.cells (m'.map iv)) := List.getElem?_set_self hbl
   have hb3 : (H.set b (ABlk.cells (m'.map iv)) ++ [.row 3 1 1])[b]? = some (.cells (m'.map iv)) := by rw [List.getElem?_append_left (by simpa using hbl), hb2]
   simp (maxSteps := 2000000) (disch := omega) only [hia, hb2, hb3, List.length_map, g4, hst2, List.append_assoc, List.cons_append, List.nil_append, List.append_nil, go_sem, seval, reduceCtorEq]
   rw [List.set_append_left _ _ (by simpa using hbl), List.set_set]
   exact Ret.drop (bv true) (H.set b (.cells ((setM m' a 2).map iv))) (by simp) (hcl.setC _) (.rfl _) (by simp [refs]) ⟨true, _, rfl, rfl, by rw [setM_len, g4], fun _ => ⟨g3, g1, g2⟩, fun h => by simp at h⟩
  by_cases f9 : x.form = 9
  ·have hk := h9 f9
   simp (maxSteps := 2000000) (disch := omega) only [h0, hia, hb, List.length_map, hml, hstx, hty, Ty.c, f9, List.length_cons, go_sem, seval, reduceCtorEq]
   have hbl2 : ∀ r : ABlk, (H.set b (.cells ((setM m a 1).map iv)) ++ [r])[H.length]? = some r := fun r => by rw [List.getElem?_append_right (by simp)]; simp
   have hset2 : ∀ r q y : ABlk, (H.set b (.cells ((setM m a 1).map iv)) ++ [r, q]).set H.length y = H.set b (.cells ((setM m a 1).map iv)) ++ [y, q] := fun r q y => by rw [List.set_append_right _ _ (by simp)]; simp
   have hbl3 : ∀ r q : ABlk, (H.set b (.cells ((setM m a 1).map iv)) ++ [r, q])[H.length]? = some r := fun r q => by rw [List.getElem?_append_right (by simp)]; simp
   have hbl4 : ∀ r q : ABlk, (H.set b (.cells ((setM m a 1).map iv)) ++ [r, q])[H.length + 1]? = some q := fun r q => by rw [List.getElem?_append_right (by simp)]; simp
   have hset4 : ∀ r q y : ABlk, (H.set b (.cells ((setM m a 1).map iv)) ++ [r, q]).set (H.length + 1) y = H.set b (.cells ((setM m a 1).map iv)) ++ [r, y] := fun r q y => by rw [List.set_append_right _ _ (by simp)]; simp
   obtain ⟨ksf, hksf⟩ : ∃ ksf : Nat → List (List Dat), ∀ i, ksf i = (x.base :: (x.fields.take i).map Fd.typ).map fun k => [Dat.v (.int .i64 k)] := ⟨_, fun _ => rfl⟩
   have hk0 : ksf 0 = [[Dat.v (.int .i64 x.base)]] := hksf 0
   have hkn : ∀ i, i < x.fields.length → ksf i ++ [[Dat.v (.int .i64 (fdAt x.fields i).typ)]] = ksf (i + 1) := fun i hi => by
    rw [hksf, hksf, getD_take (d := default) hi]
    simp [fdAt]
   have hkl : ∀ i, i ≤ x.fields.length → (ksf i).length = i + 1 := fun i hi => by rw [hksf]; simp; omega
   refine W.loopG (γ := Nat) (fun i => x.fields.length - i) (fun i => [tv t, iv a, .hsl b 0 t.length t.length 1, .any, .any, .any, bv false, .gsl H.length 1 (ksf i)] ++ List.replicate 48 .any ++ [fdv x.fields, iv x.fields.length, iv i] ++ List.replicate 24 .any)
    (fun i => H.set b (.cells ((setM m a 1).map iv)) ++ [.row 3 1 (i + 1)]) (fun i => i ≤ x.fields.length) 0 (by rw [hk0]; exact Wk.slots (by (try simp only [List.replicate, List.cons_append, List.nil_append]); repeat' first | exact WkL.nil | refine WkL.cons (Wk1.rfl _) ?_ | refine WkL.cons Wk1.esl ?_ | refine WkL.cons (Wk1.gsl _ _ _) ?_ | refine WkL.cons (Wk1.any _) ?_)) (Nat.zero_le _) (fun i hi => ?_)
   simp (maxSteps := 2000000) (disch := omega) only [c119l1, List.append_assoc, List.cons_append, List.nil_append, go_sem, seval, reduceCtorEq]
   refine Br.dec (fun hc => ?_) (fun hc => ?_) <;> simp (maxSteps := 2000000) (disch := omega) only [go_sem, seval, reduceCtorEq]
   ·have hfa := iaA_fd (t := x.fields) (a := i) (by omega) (by omega)
    have hkl' := hkl i hi
    simp (maxSteps := 2000000) (disch := omega) only [hfa, Fd.c, hbl2, hbl3, hbl4, hset2, hset4, List.length_append, List.length_set, hkl', List.append_assoc, List.cons_append, List.nil_append, hkn i (by omega), go_sem, seval, reduceCtorEq]
    rw [show ∀ (A : List ABlk) (p q : ABlk), A ++ [p, q] = (A ++ [p]) ++ [q] from fun A p q => by simp]
    refine Nxt.mk (i + 1) (by omega) (Wk.drop (by (try simp only [List.replicate, List.cons_append, List.nil_append]); repeat' first | exact WkL.nil | refine WkL.cons (Wk1.rfl _) ?_ | refine WkL.cons Wk1.esl ?_ | refine WkL.cons (Wk1.gsl _ _ _) ?_ | refine WkL.cons (Wk1.any _) ?_) (by simp) ((hcl.setC _).row _ _ _) ?_) (by omega)
    simp [refs, refs.refsL]
    omega
   ·have hie : i = x.fields.length := by omega
    subst hie
    have hkF : ksf x.fields.length = (x.base :: x.fields.map Fd.typ).map fun k => [Dat.v (.int .i64 k)] := by rw [hksf, List.take_length]
    obtain ⟨ks, hks⟩ : ∃ ks, ks = x.base :: x.fields.map Fd.typ := ⟨_, rfl⟩
    have hkn' : ks.length = x.fields.length + 1 := by rw [hks]; simp
    rw [← hks] at hkF hk
    rw [hkF]
    simp (maxSteps := 2000000) (disch := omega) only [List.length_map, go_sem, seval, reduceCtorEq]
    refine W.weak (Wk.slots (by (try simp only [List.replicate, List.cons_append, List.nil_append]); repeat' first | exact WkL.nil | refine WkL.cons (Wk1.rfl _) ?_ | refine WkL.cons Wk1.esl ?_ | refine WkL.cons (Wk1.gsl _ _ _) ?_ | refine WkL.cons (Wk1.any _) ?_)) (W.mono (ends_loop ht ih hz hm hw ha h0 hbl (X := .gsl H.length 1 (ks.map fun k => [.v (.int .i64 k)])) (tl := [.row 3 1 (x.fields.length + 1)]) (fun i hi => gsl_at hi) (fun k hk' => by show k ∈ kidsC t a; rw [hk]; exact hk') (by omega)) fun e s H' h => fin h hk (fun m' g1 g2 g3 g4 => ?_) fun s H' h => h)
    have hst2 := mt_st (v := 2) g4 ha
    have hb2 : (H.set b (ABlk.cells (m'.map iv)))[b]? = some (.cells (m'.map iv)) := List.getElem?_set_self hbl
    have hb3 : (H.set b (ABlk.cells (m'.map iv)) ++ [.row 3 1 (x.fields.length + 1)])[b]? = some (.cells (m'.map iv)) := by rw [List.getElem?_append_left (by simpa using hbl), hb2]
    simp (maxSteps := 2000000) (disch := omega) only [hia, hb2, hb3, List.length_map, g4, hst2, List.append_assoc, List.cons_append, List.nil_append, List.append_nil, go_sem, seval, reduceCtorEq]
    rw [List.set_append_left _ _ (by simpa using hbl), List.set_set]
    exact Ret.drop (bv true) (H.set b (.cells ((setM m' a 2).map iv))) (by simp) (hcl.setC _) (.rfl _) (by simp [refs]) ⟨true, _, rfl, rfl, by rw [setM_len, g4], fun _ => ⟨g3, g1, g2⟩, fun h => by simp at h⟩
  ·have hk := hn f7 f8 f9
   simp (maxSteps := 2000000) (disch := omega) only [h0, hia, hb, List.length_map, hml, hstx, hty, Ty.c, f7, f8, f9, List.length_cons, go_sem, seval, reduceCtorEq]
   have hH : H.set b (.cells ((setM m a 1).map iv)) = H.set b (.cells ((setM m a 1).map iv)) ++ [] := by simp
   rw [hH]
   refine W.weak (Wk.slots (by (try simp only [List.replicate, List.cons_append, List.nil_append]); repeat' first | exact WkL.nil | refine WkL.cons (Wk1.rfl _) ?_ | refine WkL.cons Wk1.esl ?_ | refine WkL.cons (Wk1.gsl _ _ _) ?_ | refine WkL.cons (Wk1.any _) ?_)) (W.mono (ends_loop ht ih hz hm hw ha h0 hbl (X := .esl) (ks := []) (tl := []) (fun i hi => by simp at hi) (fun k hk' => by simp at hk') (by simp)) fun e s H' h => fin h hk (fun m' g1 g2 g3 g4 => ?_) fun s H' h => h)
   have hst2 := mt_st (v := 2) g4 ha
   have hb2 : (H.set b (ABlk.cells (m'.map iv)))[b]? = some (.cells (m'.map iv)) := List.getElem?_set_self hbl
   have hb3 : (H.set b (ABlk.cells (m'.map iv)) ++ [])[b]? = some (.cells (m'.map iv)) := by rw [List.getElem?_append_left (by simpa using hbl), hb2]
   simp (maxSteps := 2000000) (disch := omega) only [hia, hb2, hb3, List.length_map, g4, hst2, List.append_assoc, List.cons_append, List.nil_append, List.append_nil, go_sem, seval, reduceCtorEq]
   rw [List.set_set]
   have hp : ∀ G : List ABlk, G = G ++ [] := fun G => by simp
   rw [hp (H.set _ _)]
   exact Ret.drop (bv true) (H.set b (.cells ((setM m' a 2).map iv))) (by simp) (hcl.setC _) (.rfl _) (by simp [refs]) ⟨true, _, rfl, rfl, by rw [setM_len, g4], fun _ => ⟨g3, g1, g2⟩, fun h => by simp at h⟩
 ·simp (maxSteps := 2000000) (disch := omega) only [h0, hia, hb, hcell, List.length_map, hml, go_sem, seval, reduceCtorEq]
  exact Ret.keep ⟨_, m, rfl, hsm.symm, hml, fun h => by simp at h, fun _ => hm.one ha hw h0⟩
 ·simp (maxSteps := 2000000) (disch := omega) only [h0, hia, hb, hcell, List.length_map, hml, go_sem, seval, reduceCtorEq]
  exact Ret.keep ⟨_, m, rfl, hsm.symm, hml, fun _ => ⟨hm.fin a ha.1 ha.2 h0, hm, Left.rfl⟩, fun h => by simp at h⟩
end Go.Proofs.Ythifjndenhjobaa
