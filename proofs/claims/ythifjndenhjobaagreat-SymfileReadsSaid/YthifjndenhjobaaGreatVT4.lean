/- Plain law: a walk through what lies in types ends just where nothing lies in itself. -/
import Derived.Test.YthifjndenhjobaaGreatVT3
import Derived.Test.YthifjndenhjobaaGreatVDraw3
set_option linter.unusedSectionVars false
set_option linter.unusedSimpArgs false
set_option linter.unusedVariables false
set_option maxHeartbeats 4000000
set_option maxRecDepth 20000
namespace Go.Proofs.YthifjndenhjobaaGreat
open Relation
section
variable {R : Int -> Int -> Prop}
theorem acc_irr {r : Int -> Int -> Prop} {a : Int} (h : Acc r a) : ¬ r a a := by
 induction h with
 | intro x _ ih => exact fun hx => ih x hx hx
theorem acc_loop {a : Int} (h : TransGen R a a) : ¬ Acc R a := fun ha => acc_irr ha.transGen h
def mt (m : List Int) (x : Int) : Int := m.getD x.toNat 0
def setM (m : List Int) (x v : Int) : List Int := m.set x.toNat v
theorem mt_set {m : List Int} {x y v : Int} (hx : 0 <= x /\ x < m.length) (hy : 0 <= y) : mt (setM m x v) y = if x = y then v else mt m y := by
 simp only [mt, setM, gD]
 by_cases h : x = y
 ·subst h
  rw [List.getElem?_set_self (by omega), if_pos rfl]; rfl
 ·rw [List.getElem?_set_ne (by omega), if_neg h]
theorem setM_len {m : List Int} {x v : Int} : (setM m x v).length = m.length := List.length_set
def zc (m : List Int) : Nat := m.countP fun v => v == 0
theorem zc_set : ∀ {m : List Int} {i : Nat} {v : Int}, i < m.length -> m.getD i 0 = 0 -> v ≠ 0 -> zc (m.set i v) + 1 = zc m
 | x :: m, 0, v, _, h, hv => by
  simp only [List.getD_cons_zero] at h; subst h; simp only [zc, List.set_cons_zero, List.countP_cons]; simp [hv]
 | x :: m, i + 1, v, hi, h, hv => by
  have := zc_set (m := m) (i := i) (v := v) (by simpa using hi) (by simpa using h) hv; simp only [zc, List.set_cons_succ, List.countP_cons] at this ⊢; omega
theorem zc_le : ∀ {m m' : List Int}, m.length = m'.length -> (∀ i : Nat, m.getD i 0 ≠ 0 -> m'.getD i 0 ≠ 0) -> zc m' <= zc m
 | [], [], _, _ => Nat.le_refl _
 | x :: m, y :: m', hl, h => by
  have h0 := h 0; have := zc_le (m := m) (m' := m') (by simpa using hl) fun i => by have := h (i + 1); simpa using this
  simp only [zc, List.countP_cons, List.getD_cons_zero] at this h0 ⊢
  by_cases hx : x = 0
  ·simp [hx]; split <;> omega
  ·have := h0 hx
   simp [hx, this]; omega
structure Met (R : Int -> Int -> Prop) (n : Nat) (m : List Int) : Prop where
 len : m.length = n
 st : ∀ x : Int, 0 <= x -> x < n -> mt m x = 0 \/ mt m x = 1 \/ mt m x = 2
 fin : ∀ x : Int, 0 <= x -> x < n -> mt m x = 2 -> Acc R x
def Way (R : Int -> Int -> Prop) (n : Nat) (m : List Int) (a : Int) : Prop := ∀ x : Int, 0 <= x -> x < n -> mt m x = 1 -> TransGen R a x
structure Left (n : Nat) (m m' : List Int) : Prop where
 old : ∀ x : Int, 0 <= x -> x < n -> mt m x ≠ 0 -> mt m' x = mt m x
 one : ∀ x : Int, 0 <= x -> x < n -> mt m' x = 1 -> mt m x = 1
theorem Left.rfl {n : Nat} {m : List Int} : Left n m m := ⟨fun _ _ _ _ => Eq.refl _, fun _ _ _ h => h⟩
theorem Left.trans {n : Nat} {m m1 m2 : List Int} (h : Left n m m1) (k : Left n m1 m2) : Left n m m2 :=
 ⟨fun x h0 h1 hx => by rw [k.old x h0 h1 (by rw [h.old x h0 h1 hx]; exact hx), h.old x h0 h1 hx], fun x h0 h1 hx => h.one x h0 h1 (k.one x h0 h1 hx)⟩
theorem Left.zc {n : Nat} {m m' : List Int} (h : Left n m m') (hl : m.length = n) (hl' : m'.length = n) : zc m' <= zc m :=
 zc_le (by rw [hl, hl']) fun i hi => by
  rcases Nat.lt_or_ge i n with hn | hn
  ·have := h.old i (by omega) (by omega)
   simp only [mt, Int.toNat_natCast] at this; rw [this hi]; exact hi
  ·exact absurd (by rw [gD, List.getElem?_eq_none (by omega)]; rfl) hi
theorem Met.go {n : Nat} {m : List Int} {a : Int} (h : Met R n m) (ha : 0 <= a /\ a < n) (h0 : mt m a = 0) : Met R n (setM m a 1) := by
 have hl := h.len; refine ⟨by rw [setM_len, hl], fun x h1 h2 => ?_, fun x h1 h2 => ?_⟩
 ·rw [mt_set (by omega) h1]; split
  ·exact .inr (.inl rfl)
  ·exact h.st x h1 h2
 ·rw [mt_set (by omega) h1]; split
  ·exact fun e => by cases e
  ·exact h.fin x h1 h2
theorem Met.one {n : Nat} {m : List Int} {a : Int} (h : Met R n m) (ha : 0 <= a /\ a < n) (hw : Way R n m a) (h1 : mt m a = 1) : ¬ Acc R a := acc_loop (hw a ha.1 ha.2 h1)
theorem Way.kid {n : Nat} {m m' : List Int} {a k : Int} (hl : m.length = n) (ha : 0 <= a /\ a < n) (h : Way R n m a) (hL : Left n (setM m a 1) m') (hk : R k a) : Way R n m' k := fun x h0 h1 hx => by
 have := hL.one x h0 h1 hx; rw [mt_set (by omega) h0] at this
 split at this
 ·rename_i e; subst e; exact .single hk
 ·exact (TransGen.single hk).trans (h x h0 h1 this)
theorem Met.done {n : Nat} {m m' : List Int} {a : Int} (hl : m.length = n) (h : Met R n m') (ha : 0 <= a /\ a < n) (h0 : mt m a = 0) (hL : Left n (setM m a 1) m') (hA : Acc R a) : Met R n (setM m' a 2) /\ Left n m (setM m' a 2) := by
 have hl' := h.len; refine ⟨⟨by rw [setM_len, hl'], fun x h1 h2 => ?_, fun x h1 h2 => ?_⟩, fun x h1 h2 hx => ?_, fun x h1 h2 => ?_⟩
 ·rw [mt_set (by omega) h1]; split
  ·exact .inr (.inr rfl)
  ·exact h.st x h1 h2
 ·rw [mt_set (by omega) h1]; split
  ·rename_i e; subst e; exact fun _ => hA
  ·exact h.fin x h1 h2
 ·rw [mt_set (by omega) h1]
  have hne : a ≠ x := fun e => hx (by rw [<- e]; exact h0)
  rw [if_neg hne]; have := hL.old x h1 h2; rw [mt_set (by omega) h1, if_neg hne] at this; exact this hx
 ·rw [mt_set (by omega) h1]
  split
  ·exact fun e => by cases e
  ·rename_i hne
   intro hx
   have := hL.one x h1 h2 hx
   rwa [mt_set (by omega) h1, if_neg hne] at this
theorem Met.zero {n : Nat} : Met R n (List.replicate n 0) := by
 have : ∀ x, mt (List.replicate n 0) x = 0 := fun x => by
  simp only [mt, gD, List.getElem?_replicate]; split <;> rfl
 exact ⟨by simp, fun x _ _ => .inl (this x), fun x _ _ h => by rw [this] at h; cases h⟩
theorem Way.none {n : Nat} {m : List Int} {a : Int} (h : ∀ x : Int, 0 <= x -> x < n -> mt m x ≠ 1) : Way R n m a := fun x h0 h1 hx => absurd hx (h x h0 h1)
theorem Left.none {n : Nat} {m m' : List Int} (h : Left n m m') (h1 : ∀ x : Int, 0 <= x -> x < n -> mt m x ≠ 1) : ∀ x : Int, 0 <= x -> x < n -> mt m' x ≠ 1 := fun x h0 h2 hx => h1 x h0 h2 (h.one x h0 h2 hx)
end
def kidsC (t : List Ty) (a : Int) : List Int :=
 if (tyAt t a).form = 7 \/ (tyAt t a).form = 8 then [(tyAt t a).elem] else if (tyAt t a).form = 9 then (tyAt t a).base :: (tyAt t a).fields.map Fd.typ else []
def kidsR (t : List Ty) (a : Int) : List Int :=
 if (tyAt t a).form = 7 \/ (tyAt t a).form = 8 then [(tyAt t a).elem] else if (tyAt t a).form = 9 then (if (tyAt t a).base = 0 then [] else [(tyAt t a).base]) ++ (tyAt t a).fields.map Fd.typ else []
abbrev KdC (t : List Ty) (y x : Int) : Prop := y ∈ kidsC t x
abbrev KdR (t : List Ty) (y x : Int) : Prop := y ∈ kidsR t x
theorem kids_sub {t : List Ty} {y x : Int} (h : KdR t y x) : KdC t y x := by
 simp only [KdR, kidsR, KdC, kidsC] at h ⊢
 split
 ·rename_i h1; rwa [if_pos h1] at h
 ·rename_i h1
  rw [if_neg h1] at h
  split
  ·rename_i h2
   rw [if_pos h2] at h
   split at h
   ·exact List.mem_cons_of_mem _ (by simpa using h)
   ·simpa using h
  ·rename_i h2; rwa [if_neg h2] at h
theorem kids_sup {t : List Ty} {y x : Int} (h : KdC t y x) : KdR t y x \/ y = 0 := by
 simp only [KdR, kidsR, KdC, kidsC] at h ⊢
 split
 ·rename_i h1; rw [if_pos h1] at h; exact .inl h
 ·rename_i h1
  rw [if_neg h1] at h
  split
  ·rename_i h2
   rw [if_pos h2] at h; rcases List.mem_cons.1 h with h | h
   ·subst h
    split
    ·rename_i h3; exact .inr h3
    ·exact .inl (by simp)
   ·exact .inl (List.mem_append_right _ h)
  ·rename_i h2; rw [if_neg h2] at h; exact .inl h
theorem acc_CR {t : List Ty} (h0 : (tyAt t 0).form = 0) {a : Int} : Acc (KdC t) a ↔ Acc (KdR t) a := by
 constructor
 ·intro h
  induction h with
  | intro x _ ih => exact .intro x fun y hy => ih y (kids_sub hy)
 ·intro h
  have hz : Acc (KdC t) 0 := .intro 0 fun y hy => by
   simp only [KdC, kidsC, h0] at hy; simp at hy
  induction h with
  | intro x _ ih => exact .intro x fun y hy => (kids_sup hy).elim (ih y) fun e => e ▸ hz
end Go.Proofs.YthifjndenhjobaaGreat
namespace Go.Proofs.YthifjndenhjobaaGreat
open Go.RowKit Relation
def c97l0 : AC :=
 sr [ib 71 .lss t70 t69]
 (.seq (.cond t71 (.skip) (.exit 3))
 (.seq (.block 4 (sr [kn 72 (.ia t68 t70 1), il 73 t72, im 11 t73]
 (sr [im 74 t0, im 75 t11, im 76 t2, ic 77 97 [t74, t75, t76], kn 78 (.un .not t77)]
 (.cond t78 (sr [im 6 kF]
 (.ret)) (.skip)))))
 (.reg [ib 79 .add t70 (kc 1), im 70 t79])))
def c97l1 : AC :=
 sr [ib 59 .lss t58 t57]
 (.seq (.cond t59 (.skip) (.exit 1))
 (.seq (.block 2 (sr [kn 60 (.ia t56 t58 3), kn 61 (.ld t60 3 true), kn 9 (.al [ks, (.d (.v (.bool false))), kz]), ke (.st t9 t61 3)]
 (.reg [im 62 t7, ia 63 t9 2, il 64 t63, kn 65 (.bs .im 3 1 [t64]), kn 66 (.app .gr 3 1 8 t62 t65), im 7 t66])))
 (.reg [ib 67 .add t58 (kc 1), im 58 t67])))
def c97 : AC :=
 sr [im 6 kF]
 (.seq (sr [im 12 t2, im 13 t1, kn 14 (.ia t12 t13 1), il 15 t14, ib 16 .gtr t15 (kc 0)]
 (.cond t16 (sr [im 17 t2, im 18 t1, kn 19 (.ia t17 t18 1), il 20 t19, ib 21 .eql t20 (kc 2), im 6 t21]
 (.ret)) (.skip)))
 (sr [im 22 t2, im 23 t1, kn 24 (.ia t22 t23 1), ke (.st t24 (kc 1) 1)]
 (sr [kn 25 (.bs .im 3 1 []), im 7 t25]
 (.seq (sr [im 26 t0, im 27 t1, kn 28 (.ia t26 t27 10), ia 29 t28 0, il 30 t29]
 (.block 0 (.seq (sr [ib 32 .eql t30 (kc 7), im 31 t32]
 (.cond t31 (.skip) (.reg [ib 33 .eql t30 (kc 8), im 31 t33])))
 (.cond t31 (.reg [im 34 t7, im 35 t0, im 36 t1, kn 37 (.ia t35 t36 10), ia 38 t37 4, il 39 t38, kn 40 (.bs .im 3 1 [t39]), kn 41 (.app .gr 3 1 8 t34 t40), im 7 t41]) (sr [ib 43 .eql t30 (kc 9), im 42 t43]
 (.cond t42 (sr [im 44 t7, im 45 t0, im 46 t1, kn 47 (.ia t45 t46 10), ia 48 t47 5, il 49 t48, kn 50 (.bs .im 3 1 [t49]), kn 51 (.app .gr 3 1 8 t44 t50), im 7 t51]
 (sr [im 52 t0, im 53 t1, kn 54 (.ia t52 t53 10), ia 55 t54 6, il 56 t55, kn 57 (.len false t56), im 58 (kc 0)]
 (.block 1 (.loop c97l1)))) (.skip)))))))
 (.seq (sr [im 68 t7, kn 69 (.len false t68), im 70 (kc 0)]
 (.block 3 (.loop c97l0)))
 (sr [im 80 t2, im 81 t1, kn 82 (.ia t80 t81 1), ke (.st t82 (kc 2) 1)]
 (sr [im 6 kT]
 (.ret))))))))
def r97 : List RC := [.t 6]
theorem cc97 : cK Tryz.f97 (hh 97) c97 := by unfold cK; kernel_rfl
theorem rr97 : resC Tryz.prog Tryz.f97 = some r97 := by kernel_rfl
theorem cell_map {α : Type} (f : α -> AV) (d : α) {m : List α} {i : Nat} (h : i < m.length) : ((m.map f).drop i).take 1 = [f (m.getD i d)] := by
 rw [List.drop_eq_getElem_cons (by simpa using h), List.take_succ_cons, List.take_zero, List.getElem_map, gD, gE h]; rfl
theorem mt_cell {m : List Int} {x : Int} {n : Nat} (hl : m.length = n) (hx : 0 <= x /\ x < n) : ((m.map iv).drop x.toNat).take 1 = [iv (mt m x)] := cell_map iv 0 (by omega)
theorem mt_st {m : List Int} {x v : Int} {n : Nat} (hl : m.length = n) (hx : 0 <= x /\ x < n) : (m.map iv).take x.toNat ++ iv v :: (m.map iv).drop (x.toNat + 1) = (setM m x v).map iv := by
 simp only [setM, List.map_set]; rw [List.set_eq_take_append_cons_drop, if_pos (by rw [lnm]; omega)]
theorem iaA_hsl {b n : Nat} {x : Int} (hx : 0 <= x /\ x < n) : iaA (.hsl b 0 n n 1) x 1 = some (.ptr b x.toNat) := by
 simp [iaA, hx]
def EndsR (t : List Ty) (m : List Int) (a : Int) (b : Nat) (H : List ABlk) (v : AV) (H' : List ABlk) : Prop :=
 ∃ B m', v = bv B /\ H' = H.set b (.cells (m'.map iv)) /\ m'.length = t.length /\ (B = true -> Acc (KdC t) a /\ Met (KdC t) t.length m' /\ Left t.length m m') /\ (B = false -> ¬ Acc (KdC t) a)
theorem set_same {H : List ABlk} {b : Nat} {k : ABlk} (h : H[b]? = some k) : H.set b k = H := by
 refine List.ext_getElem? fun i => ?_
 by_cases e : b = i
 ·subst e; rw [List.getElem?_set_self (List.getElem?_eq_some_iff.1 h).1, h]
 ·rw [List.getElem?_set_ne e]
theorem refs_iv : ∀ m : List Int, refs.refsL (m.map iv) = []
 | [] => rfl
 | x :: m => by simp only [List.map_cons, refs.refsL, refs_iv m]; rfl
theorem cl.setC {H : List ABlk} (h : cl H) {b : Nat} (m : List Int) : cl (H.set b (.cells (m.map iv))) := by
 intro c k hc r hr
 rw [List.length_set]
 by_cases e : b = c
 ·subst e
  rcases Nat.lt_or_ge b H.length with hl | hl
  ·rw [List.getElem?_set_self hl] at hc
   cases hc
   simp [ABlk.refs, refs_iv] at hr
  ·rw [List.getElem?_eq_none (by rw [List.length_set]; exact hl)] at hc; cases hc
 ·rw [List.getElem?_set_ne e] at hc
  exact h c k hc r hr
structure TKids (t : List Ty) : Prop where
 len : t.length <= 256
 kid : ∀ x : Int, 0 <= x -> x < t.length -> ∀ y ∈ kidsC t x, 0 <= y /\ y < t.length
 fd : ∀ x ∈ t, x.fields.length <= 400000
abbrev SE (t : List Ty) (a : Int) (b : Nat) (X : AV) (n i : Nat) : List AV := [tv t, iv a, .hsl b 0 t.length t.length 1, .any, .any, .any, bv false] ++ List.replicate 61 .any ++ [X, iv n, iv i]
def LoopR (t : List Ty) (m : List Int) (a : Int) (b : Nat) (H tl : List ABlk) (X : AV) (ks : List Int) (e : Exit) (s : List AV) (H' : List ABlk) : Prop :=
 (e = .exit 3 /\ s = SE t a b X ks.length ks.length ++ bv false :: List.replicate 11 .any /\ ∃ m' : List Int, H' = H.set b (.cells (m'.map iv)) ++ tl /\ Met (KdC t) t.length m' /\ Left t.length (setM m a 1) m' /\ ∀ k ∈ ks, Acc (KdC t) k) \/
 (e = .ret /\ resA [RC.t 6] s H' = some (bv false) /\ ∃ m' : List Int, m'.length = t.length /\ H' = H.set b (.cells (m'.map iv)) ++ tl /\ ¬ ∀ k ∈ ks, Acc (KdC t) k)
theorem ends_loop {t : List Ty} (ht : TKids t) {n : Nat} (ih : ∀ {m : List Int} {a : Int} {H : List ABlk} {b : Nat}, zc m < n -> Met (KdC t) t.length m -> Way (KdC t) t.length m a -> 0 <= a /\ a < t.length -> H[b]? = some (.cells (m.map iv)) ->
 ACalls Tryz.prog 97 [tv t, iv a, .hsl b 0 t.length t.length 1] H (EndsR t m a b H)) {m : List Int} {a : Int} {H tl : List ABlk} {b nb : Nat} {X : AV} {ks : List Int} (hz : zc m < n + 1) (hm : Met (KdC t) t.length m) (hw : Way (KdC t) t.length m a) (ha : 0 <= a /\ a < t.length) (h0 : mt m a = 0)
 (hb : b < H.length) (hX : ∀ i, i < ks.length -> iaA X (i : Int) 1 = some (.ip [.v (.int .i64 (ks.getD i 0))])) (hks : ∀ k ∈ ks, KdC t k a) (hkl : ks.length <= 500000) :
 W Tryz.prog (hh 97) nb (.loop c97l0) (SE t a b X ks.length 0 ++ List.replicate 12 .any) (H.set b (.cells ((setM m a 1).map iv)) ++ tl) (LoopR t m a b H tl X ks) := by
 have hml := hm.len; have htl := ht.len; obtain ⟨S, hS⟩ : ∃ S : Nat × List Int -> List AV, ∀ g, S g = SE t a b X ks.length g.1 ++ List.replicate 12 .any := ⟨_, fun _ => rfl⟩; refine W.loopG (γ := Nat × List Int) (fun g => ks.length - g.1) S (fun g => H.set b (.cells (g.2.map iv)) ++ tl) (fun g => g.1 <= ks.length /\ Met (KdC t) t.length g.2 /\ Left t.length (setM m a 1) g.2 /\ ∀ j, j < g.1 -> Acc (KdC t) (ks.getD j 0)) (0, setM m a 1) (by rw [hS]; exact Wk.refl) ⟨Nat.zero_le _, hm.go ha h0, Left.rfl, fun j hj => by omega⟩ (fun g hg => ?_); obtain ⟨i, m1⟩ := g; obtain ⟨q1, q2, q3, q4⟩ := hg; simp only at q1 q2 q3 q4; simp (disch := omega) only [c97l0, hS, apS, go_sem, seval, reduceCtorEq]; refine Br.dec (fun hc => ?_) (fun hc => ?_) <;> simp (disch := omega) only [go_sem, seval, reduceCtorEq]
 ·have hxi := hX i (by omega)
  have hmem : ks.getD i 0 ∈ ks := by rw [gD, gE (by omega)]; exact List.getElem_mem _
  have hzz : zc m1 < n := by
   have := q3.zc (by rw [setM_len, hml]) q2.len; have h2 := zc_set (m := m) (i := a.toNat) (v := 1) (by omega) h0 (by omega); simp only [setM] at this; omega
  simp (disch := omega) only [hxi, go_sem, seval, reduceCtorEq]; refine Cont.rel (ih hzz q2 (Way.kid hml ha hw q3 (hks _ hmem)) (ht.kid a ha.1 ha.2 _ (hks _ hmem)) (by rw [List.getElem?_append_left (by simpa using hb), List.getElem?_set_self hb])) ?_; rintro v H' ⟨B, m2, rfl, rfl, e1, e2, e3⟩; rw [List.set_append_left _ _ (by simpa using hb), List.set_set]
  cases B with
  | true =>
   obtain ⟨f1, f2, f3⟩ := e2 rfl; simp (disch := omega) only [go_sem, seval, reduceCtorEq]; refine Nxt.mk (i + 1, m2) (by simp only; omega) (Wk.slots (WkL.tw 71 (hS _))) ⟨by simp only; omega, f2, q3.trans f3, fun j hj => ?_⟩; rcases Nat.lt_or_ge j i with h' | h'
   ·exact q4 j h'
   ·rw [show j = i by simp only at hj; omega]; exact f1
  | false =>
   simp (disch := omega) only [go_sem, seval, reduceCtorEq]; exact .inr ⟨rfl, rfl, m2, e1, rfl, fun hA => e3 rfl (hA _ hmem)⟩
 ·have hi : i = ks.length := by omega
  subst hi; refine .inl ⟨rfl, rfl, m1, rfl, q2, q3, fun k hk => ?_⟩; obtain ⟨j, hj, rfl⟩ := List.getElem_of_mem hk; have := q4 j hj
  rwa [gD, gE hj] at this
theorem kids_arr {t : List Ty} {a : Int} (h : (tyAt t a).form = 7 \/ (tyAt t a).form = 8) : kidsC t a = [(tyAt t a).elem] := if_pos h
theorem kids_rec {t : List Ty} {a : Int} (h : (tyAt t a).form = 9) : kidsC t a = (tyAt t a).base :: (tyAt t a).fields.map Fd.typ := by
 rw [kidsC, if_neg (by omega), if_pos h]
theorem kids_no {t : List Ty} {a : Int} (h1 : (tyAt t a).form ≠ 7) (h2 : (tyAt t a).form ≠ 8) (h3 : (tyAt t a).form ≠ 9) : kidsC t a = [] := by
 rw [kidsC, if_neg (by omega), if_neg h3]
theorem gsl_at {b : Nat} {ks : List Int} {i : Nat} (h : i < ks.length) : iaA (.gsl b 1 (ks.map fun k => [.v (.int .i64 k)])) (i : Int) 1 = some (.ip [.v (.int .i64 (ks.getD i 0))]) := by
 have := iaA_gmap (fun k : Int => [Dat.v (.int .i64 k)]) 0 (b := b) (n := 1) (l := ks) (a := i) (by omega) (by omega)
 rwa [Int.toNat_natCast] at this
theorem ends_c {t : List Ty} (ht : TKids t) (n : Nat) : ∀ {m : List Int} {a : Int} {H : List ABlk} {b : Nat}, zc m < n -> Met (KdC t) t.length m -> Way (KdC t) t.length m a -> 0 <= a /\ a < t.length -> H[b]? = some (.cells (m.map iv)) ->
 ACalls Tryz.prog 97 [tv t, iv a, .hsl b 0 t.length t.length 1] H (EndsR t m a b H) := by
 induction n with
 | zero => intro m a H b hz; omega
 | succ n ih =>
 intro m a H b hz hm hw ha hb
 refine ACalls.into Tryz.func97 cc97 rr97 fun hcl => ?_
 have hml := hm.len; have htl := ht.len; have hbl := (List.getElem?_eq_some_iff.1 hb).1; have hia := iaA_hsl (b := b) ha; have hcell := mt_cell hml ha; have hsm := set_same hb; simp (disch := omega) only [Tryz.ntmps97, c97, r97, hia, hb, hcell, lnm, hml, go_sem, seval, reduceCtorEq]; rcases hm.st a ha.1 ha.2 with h0 | h0 | h0
 ·have hstx := mt_st (v := 1) hml ha
  have hm1 := hm.go ha h0; have hty := iaA_ty ha.1 ha.2; have hmem := tyAt_mem ha.1 ha.2; have hfl := ht.fd _ hmem; have h7 := kids_arr (t := t) (a := a); have h9 := kids_rec (t := t) (a := a); have hn := kids_no (t := t) (a := a)
  generalize hx : tyAt t a = x at *
  have fin : ∀ {X : AV} {ks : List Int} {tl : List ABlk} {e : Exit} {s : List AV} {H' : List ABlk} {Q : APost}, LoopR t m a b H tl X ks e s H' -> kidsC t a = ks ->
   (∀ m', Met (KdC t) t.length (setM m' a 2) -> Left t.length m (setM m' a 2) -> Acc (KdC t) a -> m'.length = t.length -> Q (.exit 3) (SE t a b X ks.length ks.length ++ bv false :: List.replicate 11 .any) (H.set b (.cells (m'.map iv)) ++ tl)) ->
   (∀ s H', Ret [RC.t 6] H.length (EndsR t m a b H) (resA [RC.t 6] s H') H' -> Q .ret s H') -> Q e s H' := by
   intro X ks tl e s H' Q h hks h1 h2
   rcases h with ⟨rfl, rfl, m', rfl, g1, g2, g3⟩ | ⟨rfl, g0, m', g1, rfl, g3⟩
   ·have hA : Acc (KdC t) a := .intro a fun y hy => g3 y (by rw [<- hks]; exact hy)
    obtain ⟨k1, k2⟩ := g1.done hml ha h0 g2 hA; exact h1 m' k1 k2 hA g1.len
   ·refine h2 _ _ ?_
    rw [g0]; exact Ret.drop (bv false) (H.set b (.cells (m'.map iv))) (by simp) (hcl.setC _) (.rfl _) (by simp [refs]) ⟨false, m', rfl, rfl, g1, fun h => by simp at h, fun _ hA => g3 fun k hk => hA.inv (by show k ∈ kidsC t a; rw [hks]; exact hk)⟩
  by_cases f7 : x.form = 7
  ·have hk := h7 (.inl f7)
   simp (disch := omega) only [h0, hia, hb, lnm, hml, hstx, hty, Ty.c, f7, List.length_cons, go_sem, seval, reduceCtorEq]; refine W.weak (Wk.slots WkL.wk) (W.mono (ends_loop ht ih hz hm hw ha h0 hbl (X := .gsl H.length 1 ([x.elem].map fun k => [.v (.int .i64 k)])) (tl := [.row 3 1 1]) (fun i hi => gsl_at hi) (fun k hk' => by show k ∈ kidsC t a; rw [hk]; exact hk') (by simp)) fun e s H' h => fin h hk (fun m' g1 g2 g3 g4 => ?_) fun s H' h => h); have hst2 := mt_st (v := 2) g4 ha; have hb2 : (H.set b (ABlk.cells (m'.map iv)))[b]? = some (.cells (m'.map iv)) := List.getElem?_set_self hbl; have hb3 : (H.set b (ABlk.cells (m'.map iv)) ++ [.row 3 1 1])[b]? = some (.cells (m'.map iv)) := by rw [List.getElem?_append_left (by simpa using hbl), hb2]
   simp (disch := omega) only [hia, hb2, hb3, lnm, g4, hst2, apS, List.append_nil, go_sem, seval, reduceCtorEq]; rw [List.set_append_left _ _ (by simpa using hbl), List.set_set]; exact Ret.drop (bv true) (H.set b (.cells ((setM m' a 2).map iv))) (by simp) (hcl.setC _) (.rfl _) (by simp [refs]) ⟨true, _, rfl, rfl, by rw [setM_len, g4], fun _ => ⟨g3, g1, g2⟩, fun h => by simp at h⟩
  by_cases f8 : x.form = 8
  ·have hk := h7 (.inr f8)
   simp (disch := omega) only [h0, hia, hb, lnm, hml, hstx, hty, Ty.c, f8, List.length_cons, go_sem, seval, reduceCtorEq]; refine W.weak (Wk.slots WkL.wk) (W.mono (ends_loop ht ih hz hm hw ha h0 hbl (X := .gsl H.length 1 ([x.elem].map fun k => [.v (.int .i64 k)])) (tl := [.row 3 1 1]) (fun i hi => gsl_at hi) (fun k hk' => by show k ∈ kidsC t a; rw [hk]; exact hk') (by simp)) fun e s H' h => fin h hk (fun m' g1 g2 g3 g4 => ?_) fun s H' h => h); have hst2 := mt_st (v := 2) g4 ha; have hb2 : (H.set b (ABlk.cells (m'.map iv)))[b]? = some (.cells (m'.map iv)) := List.getElem?_set_self hbl; have hb3 : (H.set b (ABlk.cells (m'.map iv)) ++ [.row 3 1 1])[b]? = some (.cells (m'.map iv)) := by rw [List.getElem?_append_left (by simpa using hbl), hb2]
   simp (disch := omega) only [hia, hb2, hb3, lnm, g4, hst2, apS, List.append_nil, go_sem, seval, reduceCtorEq]; rw [List.set_append_left _ _ (by simpa using hbl), List.set_set]; exact Ret.drop (bv true) (H.set b (.cells ((setM m' a 2).map iv))) (by simp) (hcl.setC _) (.rfl _) (by simp [refs]) ⟨true, _, rfl, rfl, by rw [setM_len, g4], fun _ => ⟨g3, g1, g2⟩, fun h => by simp at h⟩
  by_cases f9 : x.form = 9
  ·have hk := h9 f9
   simp (disch := omega) only [h0, hia, hb, lnm, hml, hstx, hty, Ty.c, f9, List.length_cons, go_sem, seval, reduceCtorEq]; have hbl2 : ∀ r : ABlk, (H.set b (.cells ((setM m a 1).map iv)) ++ [r])[H.length]? = some r := fun r => by rw [List.getElem?_append_right (by simp)]; simp
   have hset2 : ∀ r q y : ABlk, (H.set b (.cells ((setM m a 1).map iv)) ++ [r, q]).set H.length y = H.set b (.cells ((setM m a 1).map iv)) ++ [y, q] := fun r q y => by rw [List.set_append_right _ _ (by simp)]; simp
   have hbl3 : ∀ r q : ABlk, (H.set b (.cells ((setM m a 1).map iv)) ++ [r, q])[H.length]? = some r := fun r q => by rw [List.getElem?_append_right (by simp)]; simp
   have hbl4 : ∀ r q : ABlk, (H.set b (.cells ((setM m a 1).map iv)) ++ [r, q])[H.length + 1]? = some q := fun r q => by rw [List.getElem?_append_right (by simp)]; simp
   have hset4 : ∀ r q y : ABlk, (H.set b (.cells ((setM m a 1).map iv)) ++ [r, q]).set (H.length + 1) y = H.set b (.cells ((setM m a 1).map iv)) ++ [r, y] := fun r q y => by rw [List.set_append_right _ _ (by simp)]; simp
   obtain ⟨ksf, hksf⟩ : ∃ ksf : Nat -> List (List Dat), ∀ i, ksf i = (x.base :: (x.fields.take i).map Fd.typ).map fun k => [Dat.v (.int .i64 k)] := ⟨_, fun _ => rfl⟩
   have hk0 : ksf 0 = [[Dat.v (.int .i64 x.base)]] := hksf 0; have hkn : ∀ i, i < x.fields.length -> ksf i ++ [[Dat.v (.int .i64 (fdAt x.fields i).typ)]] = ksf (i + 1) := fun i hi => by
    rw [hksf, hksf, getD_take (d := default) hi]; simp [fdAt]
   have hkl : ∀ i, i <= x.fields.length -> (ksf i).length = i + 1 := fun i hi => by rw [hksf]; simp; omega
   refine W.loopG (γ := Nat) (fun i => x.fields.length - i) (fun i => [tv t, iv a, .hsl b 0 t.length t.length 1, .any, .any, .any, bv false, .gsl H.length 1 (ksf i)] ++ List.replicate 48 .any ++ [fdv x.fields, iv x.fields.length, iv i] ++ List.replicate 24 .any)
    (fun i => H.set b (.cells ((setM m a 1).map iv)) ++ [.row 3 1 (i + 1)]) (fun i => i <= x.fields.length) 0 (by rw [hk0]; exact Wk.slots WkL.wk) (Nat.zero_le _) (fun i hi => ?_)
   simp (disch := omega) only [c97l1, apS, go_sem, seval, reduceCtorEq]; refine Br.dec (fun hc => ?_) (fun hc => ?_) <;> simp (disch := omega) only [go_sem, seval, reduceCtorEq]
   ·have hfa := iaA_fd (t := x.fields) (a := i) (by omega) (by omega)
    have hkl' := hkl i hi; simp (disch := omega) only [hfa, Fd.c, hbl2, hbl3, hbl4, hset2, hset4, List.length_append, List.length_set, hkl', apS, hkn i (by omega), go_sem, seval, reduceCtorEq]; rw [show ∀ (A : List ABlk) (p q : ABlk), A ++ [p, q] = (A ++ [p]) ++ [q] from fun A p q => by simp]; refine Nxt.mk (i + 1) (by omega) (Wk.drop WkL.wk (by simp) ((hcl.setC _).row _ _ _) ?_) (by omega); simp [refs, refs.refsL]; omega
   ·have hie : i = x.fields.length := by omega
    subst hie; have hkF : ksf x.fields.length = (x.base :: x.fields.map Fd.typ).map fun k => [Dat.v (.int .i64 k)] := by rw [hksf, List.take_length]
    obtain ⟨ks, hks⟩ : ∃ ks, ks = x.base :: x.fields.map Fd.typ := ⟨_, rfl⟩; have hkn' : ks.length = x.fields.length + 1 := by rw [hks]; simp
    rw [<- hks] at hkF hk; rw [hkF]; simp (disch := omega) only [lnm, go_sem, seval, reduceCtorEq]; refine W.weak (Wk.slots WkL.wk) (W.mono (ends_loop ht ih hz hm hw ha h0 hbl (X := .gsl H.length 1 (ks.map fun k => [.v (.int .i64 k)])) (tl := [.row 3 1 (x.fields.length + 1)]) (fun i hi => gsl_at hi) (fun k hk' => by show k ∈ kidsC t a; rw [hk]; exact hk') (by omega)) fun e s H' h => fin h hk (fun m' g1 g2 g3 g4 => ?_) fun s H' h => h); have hst2 := mt_st (v := 2) g4 ha; have hb2 : (H.set b (ABlk.cells (m'.map iv)))[b]? = some (.cells (m'.map iv)) := List.getElem?_set_self hbl; have hb3 : (H.set b (ABlk.cells (m'.map iv)) ++ [.row 3 1 (x.fields.length + 1)])[b]? = some (.cells (m'.map iv)) := by rw [List.getElem?_append_left (by simpa using hbl), hb2]
    simp (disch := omega) only [hia, hb2, hb3, lnm, g4, hst2, apS, List.append_nil, go_sem, seval, reduceCtorEq]; rw [List.set_append_left _ _ (by simpa using hbl), List.set_set]; exact Ret.drop (bv true) (H.set b (.cells ((setM m' a 2).map iv))) (by simp) (hcl.setC _) (.rfl _) (by simp [refs]) ⟨true, _, rfl, rfl, by rw [setM_len, g4], fun _ => ⟨g3, g1, g2⟩, fun h => by simp at h⟩
  ·have hk := hn f7 f8 f9
   simp (disch := omega) only [h0, hia, hb, lnm, hml, hstx, hty, Ty.c, f7, f8, f9, List.length_cons, go_sem, seval, reduceCtorEq]; have hH : H.set b (.cells ((setM m a 1).map iv)) = H.set b (.cells ((setM m a 1).map iv)) ++ [] := by simp
   rw [hH]; refine W.weak (Wk.slots WkL.wk) (W.mono (ends_loop ht ih hz hm hw ha h0 hbl (X := .esl) (ks := []) (tl := []) (fun i hi => by simp at hi) (fun k hk' => by simp at hk') (by simp)) fun e s H' h => fin h hk (fun m' g1 g2 g3 g4 => ?_) fun s H' h => h); have hst2 := mt_st (v := 2) g4 ha; have hb2 : (H.set b (ABlk.cells (m'.map iv)))[b]? = some (.cells (m'.map iv)) := List.getElem?_set_self hbl; have hb3 : (H.set b (ABlk.cells (m'.map iv)) ++ [])[b]? = some (.cells (m'.map iv)) := by rw [List.getElem?_append_left (by simpa using hbl), hb2]
   simp (disch := omega) only [hia, hb2, hb3, lnm, g4, hst2, apS, List.append_nil, go_sem, seval, reduceCtorEq]; rw [List.set_set]; have hp : ∀ G : List ABlk, G = G ++ [] := fun G => by simp
   rw [hp (H.set _ _)]; exact Ret.drop (bv true) (H.set b (.cells ((setM m' a 2).map iv))) (by simp) (hcl.setC _) (.rfl _) (by simp [refs]) ⟨true, _, rfl, rfl, by rw [setM_len, g4], fun _ => ⟨g3, g1, g2⟩, fun h => by simp at h⟩
 ·simp (disch := omega) only [h0, hia, hb, hcell, lnm, hml, go_sem, seval, reduceCtorEq]
  exact Ret.keep ⟨_, m, rfl, hsm.symm, hml, fun h => by simp at h, fun _ => hm.one ha hw h0⟩
 ·simp (disch := omega) only [h0, hia, hb, hcell, lnm, hml, go_sem, seval, reduceCtorEq]
  exact Ret.keep ⟨_, m, rfl, hsm.symm, hml, fun _ => ⟨hm.fin a ha.1 ha.2 h0, hm, Left.rfl⟩, fun h => by simp at h⟩
end Go.Proofs.YthifjndenhjobaaGreat
