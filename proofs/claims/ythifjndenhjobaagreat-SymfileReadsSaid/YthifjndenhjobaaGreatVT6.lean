/- The reference: does a type stand in itself? -/
import Derived.Test.YthifjndenhjobaaGreatVT4
set_option linter.unusedSectionVars false
set_option linter.unusedSimpArgs false
set_option linter.unusedVariables false
set_option maxHeartbeats 4000000
set_option maxRecDepth 20000
namespace Go.Proofs.YthifjndenhjobaaGreat
open Go.RowKit Relation
def c80l0 : AC :=
 .seq (sr [im 73 t9, im 74 t7, kn 75 (.len false t74), ib 76 .lss t73 t75]
 (.cond t76 (.skip) (.exit 3)))
 (.seq (.block 4 (sr [im 79 t0, im 80 t7, im 81 t9, kn 82 (.ia t80 t81 1), il 83 t82, im 84 t2, ic 85 80 [t79, t83, t84]]
 (.cond t85 (sr [im 6 kT]
 (.ret)) (.skip))))
 (.reg [im 77 t9, ib 78 .add t77 (kc 1), im 9 t78]))
def c80l1 : AC :=
 .seq (sr [im 51 t8, im 52 t0, im 53 t1, kn 54 (.ia t52 t53 10), ia 55 t54 6, il 56 t55, kn 57 (.len false t56), ib 58 .lss t51 t57]
 (.cond t58 (.skip) (.exit 1)))
 (.seq (.block 2 (.reg [im 61 t7, im 62 t0, im 63 t1, kn 64 (.ia t62 t63 10), ia 65 t64 6, il 66 t65, im 67 t8, kn 68 (.ia t66 t67 3), ia 69 t68 2, il 70 t69, kn 71 (.bs .im 3 1 [t70]), kn 72 (.app .gr 3 1 8 t61 t71), kn 7 (.mvg 3 1 t72)]))
 (.reg [im 59 t8, ib 60 .add t59 (kc 1), im 8 t60]))
def c80 : AC :=
 sr [im 6 kF]
 (.seq (sr [im 10 t2, im 11 t1, kn 12 (.ia t10 t11 1), il 13 t12, ib 14 .eql t13 (kc 1)]
 (.cond t14 (sr [im 6 kT]
 (.ret)) (.skip)))
 (.seq (sr [im 15 t2, im 16 t1, kn 17 (.ia t15 t16 1), il 18 t17, ib 19 .eql t18 (kc 2)]
 (.cond t19 (sr [im 6 kF]
 (.ret)) (.skip)))
 (sr [im 20 t2, im 21 t1, kn 22 (.ia t20 t21 1), ke (.st t22 (kc 1) 1)]
 (sr [kn 7 (.mvg 3 1 (.c .esl))]
 (.seq (sr [im 23 t0, im 24 t1, kn 25 (.ia t23 t24 10), ia 26 t25 0, il 27 t26]
 (.block 0 (.seq (sr [ib 29 .eql t27 (kc 7), im 28 t29]
 (.cond t28 (.skip) (.reg [ib 30 .eql t27 (kc 8), im 28 t30])))
 (.cond t28 (.reg [im 31 t0, im 32 t1, kn 33 (.ia t31 t32 10), ia 34 t33 4, il 35 t34, kn 36 (.bs .gr 3 1 [t35]), kn 7 (.mvg 3 1 t36)]) (sr [ib 38 .eql t27 (kc 9), im 37 t38]
 (.cond t37 (.seq (sr [im 39 t0, im 40 t1, kn 41 (.ia t39 t40 10), ia 42 t41 5, il 43 t42, ib 44 .neq t43 (kc 0)]
 (.cond t44 (.reg [im 45 t0, im 46 t1, kn 47 (.ia t45 t46 10), ia 48 t47 5, il 49 t48, kn 50 (.bs .gr 3 1 [t49]), kn 7 (.mvg 3 1 t50)]) (.skip)))
 (sr [im 8 (kc 0)]
 (.block 1 (.loop c80l1)))) (.skip)))))))
 (.seq (sr [im 9 (kc 0)]
 (.block 3 (.loop c80l0)))
 (sr [im 86 t2, im 87 t1, kn 88 (.ia t86 t87 1), ke (.st t88 (kc 2) 1)]
 (sr [im 6 kF]
 (.ret)))))))))
def r80 : List RC := [.t 6]
theorem cc80 : cK Tryz.f80 (hh 80) c80 := by unfold cK; kernel_rfl
theorem rr80 : resC Tryz.prog Tryz.f80 = some r80 := by kernel_rfl
abbrev kd (k : Int) : List Dat := [.v (.int .i64 k)]
structure TKidsR (t : List Ty) : Prop where
 len : t.length <= 256
 kid : ∀ x : Int, 0 <= x -> x < t.length -> ∀ y ∈ kidsR t x, 0 <= y /\ y < t.length
 fd : ∀ x ∈ t, x.fields.length <= 400000
def RoundR (t : List Ty) (m : List Int) (a : Int) (b : Nat) (H : List ABlk) (v : AV) (H' : List ABlk) : Prop :=
 ∃ B m', v = bv B /\ H' = H.set b (.cells (m'.map iv)) /\ m'.length = t.length /\ (B = false -> Acc (KdR t) a /\ Met (KdR t) t.length m' /\ Left t.length m m') /\ (B = true -> ¬ Acc (KdR t) a)
abbrev SR (t : List Ty) (a : Int) (b : Nat) (X : AV) (i : Nat) : List AV := [tv t, iv a, .hsl b 0 t.length t.length 1, .any, .any, .any, bv false, X, .any, iv i]
def LoopQ (t : List Ty) (m : List Int) (a : Int) (b : Nat) (H tl : List ABlk) (X : AV) (ks : List Int) (e : Exit) (s : List AV) (H' : List ABlk) : Prop :=
 (e = .exit 3 /\ s = SR t a b X ks.length ++ List.replicate 63 .any ++ [iv ks.length, X, iv ks.length, bv false] ++ List.replicate 12 .any /\ ∃ m' : List Int, H' = H.set b (.cells (m'.map iv)) ++ tl /\ Met (KdR t) t.length m' /\ Left t.length (setM m a 1) m' /\ ∀ k ∈ ks, Acc (KdR t) k) \/
 (e = .ret /\ resA [RC.t 6] s H' = some (bv true) /\ ∃ m' : List Int, m'.length = t.length /\ H' = H.set b (.cells (m'.map iv)) ++ tl /\ ¬ ∀ k ∈ ks, Acc (KdR t) k)
theorem round_loop {t : List Ty} (ht : TKidsR t) {n : Nat} (ih : ∀ {m : List Int} {a : Int} {H : List ABlk} {b : Nat}, zc m < n -> Met (KdR t) t.length m -> Way (KdR t) t.length m a -> 0 <= a /\ a < t.length -> H[b]? = some (.cells (m.map iv)) ->
 ACalls Tryz.prog 80 [tv t, iv a, .hsl b 0 t.length t.length 1] H (RoundR t m a b H)) {m : List Int} {a : Int} {H tl : List ABlk} {b bb nb : Nat} {ks : List Int} (hz : zc m < n + 1) (hm : Met (KdR t) t.length m) (hw : Way (KdR t) t.length m a) (ha : 0 <= a /\ a < t.length) (h0 : mt m a = 0)
 (hb : b < H.length) (hks : ∀ k ∈ ks, KdR t k a) (hkl : ks.length <= 500000) :
 W Tryz.prog (hh 80) nb (.loop c80l0) (SR t a b (.gsl bb 1 (ks.map kd)) 0 ++ List.replicate 79 .any) (H.set b (.cells ((setM m a 1).map iv)) ++ tl) (LoopQ t m a b H tl (.gsl bb 1 (ks.map kd)) ks) := by
 have hml := hm.len; have htl := ht.len; obtain ⟨S, hS⟩ : ∃ S : Nat × List Int -> List AV, ∀ g, S g = SR t a b (.gsl bb 1 (ks.map kd)) g.1 ++ List.replicate 79 .any := ⟨_, fun _ => rfl⟩; refine W.loopG (γ := Nat × List Int) (fun g => ks.length - g.1) S (fun g => H.set b (.cells (g.2.map iv)) ++ tl) (fun g => g.1 <= ks.length /\ Met (KdR t) t.length g.2 /\ Left t.length (setM m a 1) g.2 /\ ∀ j, j < g.1 -> Acc (KdR t) (ks.getD j 0)) (0, setM m a 1) (by rw [hS]; exact Wk.refl) ⟨Nat.zero_le _, hm.go ha h0, Left.rfl, fun j hj => by omega⟩ (fun g hg => ?_); obtain ⟨i, m1⟩ := g; obtain ⟨q1, q2, q3, q4⟩ := hg; simp only at q1 q2 q3 q4; simp (disch := omega) only [c80l0, hS, apS, lnm, go_sem, seval, reduceCtorEq]; refine Br.dec (fun hc => ?_) (fun hc => ?_) <;> simp (disch := omega) only [go_sem, seval, reduceCtorEq]
 ·have hxi := gsl_at (b := bb) (ks := ks) (i := i) (by omega)
  have hmem : ks.getD i 0 ∈ ks := by rw [gD, gE (by omega)]; exact List.getElem_mem _
  have hzz : zc m1 < n := by
   have := q3.zc (by rw [setM_len, hml]) q2.len; have h2 := zc_set (m := m) (i := a.toNat) (v := 1) (by omega) h0 (by omega); simp only [setM] at this; omega
  simp (disch := omega) only [hxi, go_sem, seval, reduceCtorEq]; refine Cont.rel (ih hzz q2 (Way.kid hml ha hw q3 (hks _ hmem)) (ht.kid a ha.1 ha.2 _ (hks _ hmem)) (by rw [List.getElem?_append_left (by simpa using hb), List.getElem?_set_self hb])) ?_; rintro v H' ⟨B, m2, rfl, rfl, e1, e2, e3⟩; rw [List.set_append_left _ _ (by simpa using hb), List.set_set]
  cases B with
  | false =>
   obtain ⟨f1, f2, f3⟩ := e2 rfl; simp (disch := omega) only [go_sem, seval, reduceCtorEq]; refine Nxt.mk (i + 1, m2) (by simp only; omega) (Wk.slots (WkL.tw 10 (hS _))) ⟨by simp only; omega, f2, q3.trans f3, fun j hj => ?_⟩; rcases Nat.lt_or_ge j i with h' | h'
   ·exact q4 j h'
   ·rw [show j = i by simp only at hj; omega]; exact f1
  | true =>
   simp (disch := omega) only [go_sem, seval, reduceCtorEq]; exact .inr ⟨rfl, rfl, m2, e1, rfl, fun hA => e3 rfl (hA _ hmem)⟩
 ·have hi : i = ks.length := by omega
  subst hi; refine .inl ⟨rfl, rfl, m1, rfl, q2, q3, fun k hk => ?_⟩; obtain ⟨j, hj, rfl⟩ := List.getElem_of_mem hk; have := q4 j hj
  rwa [gD, gE hj] at this
theorem kidr_arr {t : List Ty} {a : Int} (h : (tyAt t a).form = 7 \/ (tyAt t a).form = 8) : kidsR t a = [(tyAt t a).elem] := if_pos h
theorem kidr_rec {t : List Ty} {a : Int} (h : (tyAt t a).form = 9) : kidsR t a = (if (tyAt t a).base = 0 then [] else [(tyAt t a).base]) ++ (tyAt t a).fields.map Fd.typ := by
 rw [kidsR, if_neg (by omega), if_pos h]
theorem kidr_no {t : List Ty} {a : Int} (h1 : (tyAt t a).form ≠ 7) (h2 : (tyAt t a).form ≠ 8) (h3 : (tyAt t a).form ≠ 9) : kidsR t a = [] := by
 rw [kidsR, if_neg (by omega), if_neg h3]
abbrev S1 (t : List Ty) (a : Int) (b bb : Nat) (ks : List Int) (i : Nat) : List AV := [tv t, iv a, .hsl b 0 t.length t.length 1, .any, .any, .any, bv false, .gsl bb 1 (ks.map kd), iv i]
theorem round_l1 {t : List Ty} {a : Int} {b bb nb : Nat} {G : List ABlk} (hbb : bb = G.length) (hcl : cl G) (hnb : nb <= G.length) (hb : b < G.length) (ha : 0 <= a /\ a < t.length) (f9 : (tyAt t a).form = 9) (hfl : (tyAt t a).fields.length <= 400000) (k0 : List Int) (hk0 : k0.length <= 1) :
 W Tryz.prog (hh 80) nb (.loop c80l1) (S1 t a b bb k0 0 ++ List.replicate 80 .any) (G ++ [.row 3 1 k0.length])
  (fun e s H' => e = .exit 1 /\ (∃ x0 x1 x2 x3 x4 x5 x6 x7 x8, s = [tv t, iv a, .hsl b 0 t.length t.length 1, .any, .any, .any, bv false, .gsl bb 1 ((k0 ++ (tyAt t a).fields.map Fd.typ).map kd), x8] ++ List.replicate 42 .any ++ [x0, x1, x2, x3, x4, x5, x6, x7] ++ List.replicate 30 .any) /\ H' = G ++ [.row 3 1 (k0.length + (tyAt t a).fields.length)]) := by
 subst hbb; have hty := iaA_ty ha.1 ha.2
 generalize hx : tyAt t a = x at *
 obtain ⟨kf, hkf⟩ : ∃ kf : Nat -> List (List Dat), ∀ i, kf i = (k0 ++ (x.fields.take i).map Fd.typ).map kd := ⟨_, fun _ => rfl⟩; have hk00 : k0.map kd = kf 0 := by rw [hkf]; simp
 have hkn : ∀ i, i < x.fields.length -> kf i ++ [[Dat.v (.int .i64 (fdAt x.fields i).typ)]] = kf (i + 1) := fun i hi => by
  rw [hkf, hkf, getD_take (d := default) hi]; simp [fdAt, kd]
 have hkl : ∀ i, i <= x.fields.length -> (kf i).length = k0.length + i := fun i hi => by rw [hkf]; simp; omega
 unfold S1
 rw [hk00]; obtain ⟨S, hS⟩ : ∃ S : Nat -> List AV, ∀ i, S i = [tv t, iv a, .hsl b 0 t.length t.length 1, .any, .any, .any, bv false, .gsl G.length 1 (kf i), iv i] ++ List.replicate 80 .any := ⟨_, fun _ => rfl⟩; have hbl : ∀ r : ABlk, (G ++ [r])[G.length]? = some r := fun r => by rw [List.getElem?_append_right (Nat.le_refl _)]; simp
 have hset : ∀ r y : ABlk, (G ++ [r]).set G.length y = G ++ [y] := fun r y => by rw [List.set_append_right _ _ (Nat.le_refl _)]; simp
 refine W.loopG (γ := Nat) (fun i => x.fields.length - i) S (fun i => G ++ [.row 3 1 (k0.length + i)]) (fun i => i <= x.fields.length) 0 (by rw [hS]; exact Wk.refl) (Nat.zero_le _) (fun i hi => ?_); simp (disch := omega) only [c80l1, hS, hty, Ty.c, lnm, apS, go_sem, seval, reduceCtorEq]; refine Br.dec (fun hc => ?_) (fun hc => ?_) <;> simp (disch := omega) only [go_sem, seval, reduceCtorEq]
 ·have hfa := iaA_fd (t := x.fields) (a := i) (by omega) (by omega)
  have hkl' := hkl i hi; simp (disch := omega) only [hty, Ty.c, hfa, Fd.c, hbl, hset, hkl', hkn i (by omega), go_sem, seval, reduceCtorEq]; exact Nxt.mk (i + 1) (by omega) (Wk.slots (WkL.tw 9 (hS _))) (by omega)
 ·have hie : i = x.fields.length := by omega
  subst hie; have : kf x.fields.length = (k0 ++ x.fields.map Fd.typ).map kd := by rw [hkf, List.take_length]
  rw [<- this]; exact ⟨⟨_, _, _, _, _, _, _, _, _, rfl⟩, rfl⟩
theorem round_c {t : List Ty} (ht : TKidsR t) (n : Nat) : ∀ {m : List Int} {a : Int} {H : List ABlk} {b : Nat}, zc m < n -> Met (KdR t) t.length m -> Way (KdR t) t.length m a -> 0 <= a /\ a < t.length -> H[b]? = some (.cells (m.map iv)) ->
 ACalls Tryz.prog 80 [tv t, iv a, .hsl b 0 t.length t.length 1] H (RoundR t m a b H) := by
 induction n with
 | zero => intro m a H b hz; omega
 | succ n ih =>
 intro m a H b hz hm hw ha hb
 refine ACalls.into Tryz.func80 cc80 rr80 fun hcl => ?_
 have hml := hm.len; have htl := ht.len; have hbl := (List.getElem?_eq_some_iff.1 hb).1; have hia := iaA_hsl (b := b) ha; have hcell := mt_cell hml ha; have hsm := set_same hb; simp (disch := omega) only [Tryz.ntmps80, c80, r80, hia, hb, hcell, lnm, hml, go_sem, seval, reduceCtorEq]; rcases hm.st a ha.1 ha.2 with h0 | h0 | h0
 ·have hstx := mt_st (v := 1) hml ha
  have hm1 := hm.go ha h0; have hty := iaA_ty ha.1 ha.2; have hmem := tyAt_mem ha.1 ha.2; have hfl := ht.fd _ hmem; have h7 := kidr_arr (t := t) (a := a); have h9 := kidr_rec (t := t) (a := a); have hn := kidr_no (t := t) (a := a); have fin : ∀ {X : AV} {ks : List Int} {tl : List ABlk} {e : Exit} {s : List AV} {H' : List ABlk} {Q : APost}, LoopQ t m a b H tl X ks e s H' -> kidsR t a = ks ->
   (∀ m', Met (KdR t) t.length (setM m' a 2) -> Left t.length m (setM m' a 2) -> Acc (KdR t) a -> m'.length = t.length -> Q (.exit 3) (SR t a b X ks.length ++ List.replicate 63 .any ++ [iv ks.length, X, iv ks.length, bv false] ++ List.replicate 12 .any) (H.set b (.cells (m'.map iv)) ++ tl)) ->
   (∀ s H', Ret [RC.t 6] H.length (RoundR t m a b H) (resA [RC.t 6] s H') H' -> Q .ret s H') -> Q e s H' := by
   intro X ks tl e s H' Q h hks h1 h2
   rcases h with ⟨rfl, rfl, m', rfl, g1, g2, g3⟩ | ⟨rfl, g0, m', g1, rfl, g3⟩
   ·have hA : Acc (KdR t) a := .intro a fun y hy => g3 y (by rw [<- hks]; exact hy)
    obtain ⟨k1, k2⟩ := g1.done hml ha h0 g2 hA; exact h1 m' k1 k2 hA g1.len
   ·refine h2 _ _ ?_
    rw [g0]; exact Ret.drop (bv true) (H.set b (.cells (m'.map iv))) (by simp) (hcl.setC _) (.rfl _) (by simp [refs]) ⟨true, m', rfl, rfl, g1, fun h => by simp at h, fun _ hA => g3 fun k hk => hA.inv (by show k ∈ kidsR t a; rw [hks]; exact hk)⟩
  have fin2 : ∀ {m' : List Int} {tl : List ABlk}, Met (KdR t) t.length (setM m' a 2) -> Left t.length m (setM m' a 2) -> Acc (KdR t) a -> m'.length = t.length -> Ret [RC.t 6] H.length (RoundR t m a b H) (some (bv false)) ((H.set b (.cells (m'.map iv)) ++ tl).set b (.cells ((setM m' a 2).map iv))) := by
   intro m' tl g1 g2 g3 g4
   rw [List.set_append_left _ _ (by simpa using hbl), List.set_set]; exact Ret.drop (bv false) (H.set b (.cells ((setM m' a 2).map iv))) (by simp) (hcl.setC _) (.rfl _) (by simp [refs]) ⟨false, _, rfl, rfl, by rw [setM_len, g4], fun _ => ⟨g3, g1, g2⟩, fun h => by simp at h⟩
  have hb3 : ∀ (m' : List Int) (tl : List ABlk), (H.set b (ABlk.cells (m'.map iv)) ++ tl)[b]? = some (.cells (m'.map iv)) := fun m' tl => by rw [List.getElem?_append_left (by simpa using hbl), List.getElem?_set_self hbl]
  have hset : ∀ r y : ABlk, (H.set b (.cells ((setM m a 1).map iv)) ++ [r]).length = H.length + 1 := fun r y => by simp
  by_cases f7 : (tyAt t a).form = 7
  ·have hk := h7 (.inl f7)
   simp (disch := omega) only [h0, hia, hb, hcell, lnm, hml, hstx, hty, Ty.c, f7, List.length_cons, go_sem, seval, reduceCtorEq]; refine W.weak (Wk.slots WkL.wk) (W.mono (round_loop ht ih hz hm hw ha h0 hbl (ks := [(tyAt t a).elem]) (fun k hk' => by show k ∈ kidsR t a; rw [hk]; exact hk') (by simp)) fun e s H' h => fin h hk (fun m' g1 g2 g3 g4 => ?_) fun s H' h => h); have hst2 := mt_st (v := 2) g4 ha; have hb4 := hb3 m'; simp (disch := omega) only [hia, hb4, lnm, g4, hst2, apS, go_sem, seval, reduceCtorEq]; exact fin2 g1 g2 g3 g4
  by_cases f8 : (tyAt t a).form = 8
  ·have hk := h7 (.inr f8)
   simp (disch := omega) only [h0, hia, hb, hcell, lnm, hml, hstx, hty, Ty.c, f7, f8, List.length_cons, go_sem, seval, reduceCtorEq]; refine W.weak (Wk.slots WkL.wk) (W.mono (round_loop ht ih hz hm hw ha h0 hbl (ks := [(tyAt t a).elem]) (fun k hk' => by show k ∈ kidsR t a; rw [hk]; exact hk') (by simp)) fun e s H' h => fin h hk (fun m' g1 g2 g3 g4 => ?_) fun s H' h => h); have hst2 := mt_st (v := 2) g4 ha; have hb4 := hb3 m'; simp (disch := omega) only [hia, hb4, lnm, g4, hst2, apS, go_sem, seval, reduceCtorEq]; exact fin2 g1 g2 g3 g4
  by_cases f9 : (tyAt t a).form = 9
  ·by_cases fb : (tyAt t a).base = 0
   ·have hk := h9 f9
    rw [if_pos fb] at hk; simp (disch := omega) only [h0, hia, hb, hcell, lnm, hml, hstx, hty, Ty.c, f7, f8, f9, fb, List.length_cons, go_sem, seval, reduceCtorEq]; refine W.weak (Wk.slots WkL.wk) (W.mono (round_l1 (bb := H.length) (G := H.set b (.cells ((setM m a 1).map iv))) (by simp) (hcl.setC _) (by simp) (by simpa using hbl) ha f9 hfl [] (by simp)) ?_); rintro e s H' ⟨rfl, ⟨x0, x1, x2, x3, x4, x5, x6, x7, x8, rfl⟩, rfl⟩; simp (disch := omega) only [apS, go_sem, seval, reduceCtorEq]; refine W.weak (Wk.slots WkL.wk) (W.mono (round_loop ht ih hz hm hw ha h0 hbl (ks := (tyAt t a).fields.map Fd.typ) (fun k hk' => by show k ∈ kidsR t a; rw [hk]; exact hk') (by simp; omega)) fun e s H' h => fin h hk (fun m' g1 g2 g3 g4 => ?_) fun s H' h => h); have hst2 := mt_st (v := 2) g4 ha; have hb4 := hb3 m'; simp (disch := omega) only [hia, hb4, lnm, g4, hst2, apS, go_sem, seval, reduceCtorEq]; exact fin2 g1 g2 g3 g4
   ·have hk := h9 f9
    rw [if_neg fb] at hk; simp (disch := omega) only [h0, hia, hb, hcell, lnm, hml, hstx, hty, Ty.c, f7, f8, f9, fb, List.length_cons, go_sem, seval, reduceCtorEq]; rw [show ∀ (A : List ABlk) (p q : ABlk), A ++ [p, q] = (A ++ [p]) ++ [q] from fun A p q => by simp]; refine W.weak (Wk.slots WkL.wk) (W.mono (round_l1 (bb := H.length + 1) (G := H.set b (.cells ((setM m a 1).map iv)) ++ [.row 3 1 0]) (by simp) ((hcl.setC _).row _ _ _) (by simp) (by simp; omega) ha f9 hfl [(tyAt t a).base] (by simp)) ?_); rintro e s H' ⟨rfl, ⟨x0, x1, x2, x3, x4, x5, x6, x7, x8, rfl⟩, rfl⟩; simp (disch := omega) only [apS, go_sem, seval, reduceCtorEq]; refine W.weak (Wk.slots WkL.wk) (W.mono (round_loop ht ih hz hm hw ha h0 hbl (ks := [(tyAt t a).base] ++ (tyAt t a).fields.map Fd.typ) (fun k hk' => by show k ∈ kidsR t a; rw [hk]; exact hk') (by simp; omega)) fun e s H' h => fin h hk (fun m' g1 g2 g3 g4 => ?_) fun s H' h => h); have hst2 := mt_st (v := 2) g4 ha; have hb4 := hb3 m'; simp (disch := omega) only [hia, hb4, lnm, g4, hst2, apS, go_sem, seval, reduceCtorEq]; exact fin2 g1 g2 g3 g4
  ·have hk := hn f7 f8 f9
   simp (disch := omega) only [h0, hia, hb, hcell, lnm, hml, hstx, hty, Ty.c, f7, f8, f9, List.length_cons, go_sem, seval, reduceCtorEq]; refine W.weak (Wk.slots WkL.wk) (W.mono (round_loop ht ih hz hm hw ha h0 hbl (ks := []) (fun k hk' => by show k ∈ kidsR t a; rw [hk]; exact hk') (by simp)) fun e s H' h => fin h hk (fun m' g1 g2 g3 g4 => ?_) fun s H' h => h); have hst2 := mt_st (v := 2) g4 ha; have hb4 := hb3 m'; simp (disch := omega) only [hia, hb4, lnm, g4, hst2, apS, go_sem, seval, reduceCtorEq]; exact fin2 g1 g2 g3 g4
 ·simp (disch := omega) only [h0, hia, hb, hcell, lnm, hml, go_sem, seval, reduceCtorEq]
  exact Ret.keep ⟨true, m, rfl, hsm.symm, hml, fun h => by simp at h, fun _ => hm.one ha hw h0⟩
 ·simp (disch := omega) only [h0, hia, hb, hcell, lnm, hml, go_sem, seval, reduceCtorEq]
  exact Ret.keep ⟨false, m, rfl, hsm.symm, hml, fun _ => ⟨hm.fin a ha.1 ha.2 h0, hm, Left.rfl⟩, fun h => by simp at h⟩
end Go.Proofs.YthifjndenhjobaaGreat
namespace Go.Proofs.YthifjndenhjobaaGreat
open Go.RowKit
def c90 : AC :=
 sr [im 4 kF]
 (sr [im 5 t0, im 6 t1, ic 7 91 [t5, t6], im 8 t7, ky 9 8 (.mv t0), ky 10 8 (.mv t1), ky 11 8 (.ia t9 t10 10), ky 12 8 (.fa t11 0), ky 13 8 (.ld t12 1 false), ky 14 8 (.bin .neq t13 (kc 0)), kn 15 (.pick t8 t14 kF), im 16 t15, ky 17 16 (.mv t0), ky 18 16 (.mv t1), ky 19 16 (.ia t17 t18 10), ky 20 16 (.fa t19 0), ky 21 16 (.ld t20 1 false), ky 22 16 (.bin .neq t21 (kc 5)), kn 23 (.pick t16 t22 kF), im 24 t23, ky 25 24 (.mv t0), ky 26 24 (.mv t1), ky 27 24 (.ia t25 t26 10), ky 28 24 (.fa t27 0), ky 29 24 (.ld t28 1 false), ky 30 24 (.bin .neq t29 (kc 6)), kn 31 (.pick t24 t30 kF), im 32 t31, ky 33 32 (.mv t0), ky 34 32 (.mv t1), ky 35 32 (.ia t33 t34 10), ky 36 32 (.fa t35 0), ky 37 32 (.ld t36 1 false), ky 38 32 (.bin .neq t37 (kc 8)), kn 39 (.pick t32 t38 kF), im 4 t39]
 (.ret))
def r90 : List RC := [.t 4]
def c91 : AC :=
 sr [im 4 kF]
 (sr [im 5 t1, ib 6 .geq t5 (kc 0), im 7 t6, ky 8 7 (.mv t1), ky 9 7 (.mv t0), ky 10 7 (.len false t9), ky 11 7 (.bin .lss t8 t10), kn 12 (.pick t7 t11 kF), im 4 t12]
 (.ret))
def r91 : List RC := [.t 4]
def c102 : AC :=
 sr [im 3 (kc 0)]
 (.seq (sr [im 4 t0, ib 5 .lss t4 (kc 0), im 6 t5, ko 7 6 (.mv t0), ko 8 6 (.ld t1 1 false), ko 9 6 (.len false t8), ko 10 6 (.bin .geq t7 t9), kn 11 (.pick t6 kT t10)]
 (.cond t11 (sr [kn 3 (.mv (kc (-1)))]
 (.ret)) (.skip)))
 (sr [il 12 t1, im 13 t0, kn 14 (.ia t12 t13 10), ia 15 t14 0, il 16 t15, im 3 t16]
 (.ret)))
def r102 : List RC := [.t 3]
def c103 : AC :=
 sr [im 2 kF]
 (sr [im 3 t0, ib 4 .geq t3 (kc 1), im 5 t4, ky 6 5 (.mv t0), ky 7 5 (.bin .leq t6 (kc 4)), kn 8 (.pick t5 t7 kF), im 9 t8, ko 10 9 (.mv t0), ko 11 9 (.bin .eql t10 (kc 7)), kn 12 (.pick t9 kT t11), im 13 t12, ko 14 13 (.mv t0), ko 15 13 (.bin .geq t14 (kc 9)), ko 16 13 (.mv t15), ky 17 16 (.mv t0), ky 18 16 (.bin .leq t17 (kc 11)), ko 19 13 (.pick t16 t18 kF), kn 20 (.pick t13 kT t19), im 2 t20]
 (.ret))
def r103 : List RC := [.t 2]
def c105 : AC :=
 sr [im 2 kF]
 (sr [im 3 t0, ib 4 .geq t3 (kc 1), im 5 t4, ky 6 5 (.mv t0), ky 7 5 (.bin .leq t6 (kc 4)), kn 8 (.pick t5 t7 kF), im 9 t8, ko 10 9 (.mv t0), ko 11 9 (.bin .eql t10 (kc 10)), kn 12 (.pick t9 kT t11), im 13 t12, ko 14 13 (.mv t0), ko 15 13 (.bin .eql t14 (kc 11)), kn 16 (.pick t13 kT t15), im 2 t16]
 (.ret))
def r105 : List RC := [.t 2]
theorem cc90 : cK Tryz.f90 (hh 90) c90 := by unfold cK; kernel_rfl
theorem rr90 : resC Tryz.prog Tryz.f90 = some r90 := by kernel_rfl
theorem cc91 : cK Tryz.f91 (hh 91) c91 := by unfold cK; kernel_rfl
theorem rr91 : resC Tryz.prog Tryz.f91 = some r91 := by kernel_rfl
theorem cc102 : cK Tryz.f102 (hh 102) c102 := by unfold cK; kernel_rfl
theorem rr102 : resC Tryz.prog Tryz.f102 = some r102 := by kernel_rfl
theorem cc103 : cK Tryz.f103 (hh 103) c103 := by unfold cK; kernel_rfl
theorem rr103 : resC Tryz.prog Tryz.f103 = some r103 := by kernel_rfl
theorem cc105 : cK Tryz.f105 (hh 105) c105 := by unfold cK; kernel_rfl
theorem rr105 : resC Tryz.prog Tryz.f105 = some r105 := by kernel_rfl
def partP (n : Int) : Prop := (1 <= n /\ n <= 4) \/ n = 7 \/ (9 <= n /\ n <= 11)
def plainP (n : Int) : Prop := (1 <= n /\ n <= 4) \/ n = 10 \/ n = 11
instance (n : Int) : Decidable (partP n) := by unfold partP; infer_instance
instance (n : Int) : Decidable (plainP n) := by unfold plainP; infer_instance
def formA (t : List Ty) (n : Int) : Int := if 0 <= n /\ n < t.length then (tyAt t n).form else -1
def placeP (t : List Ty) (n : Int) : Prop := 0 <= n /\ n < t.length
def holdsP (t : List Ty) (n : Int) : Prop := placeP t n /\ (tyAt t n).form ≠ 0 /\ (tyAt t n).form ≠ 5 /\ (tyAt t n).form ≠ 6 /\ (tyAt t n).form ≠ 8
instance (t : List Ty) (n : Int) : Decidable (placeP t n) := by unfold placeP; infer_instance
instance (t : List Ty) (n : Int) : Decidable (holdsP t n) := by unfold holdsP; infer_instance
theorem bvt {c : Prop} [Decidable c] (h : c) : bv true = bv (decide c) := by rw [decide_eq_true h]
theorem bvf {c : Prop} [Decidable c] (h : ¬ c) : bv false = bv (decide c) := by rw [decide_eq_false h]
theorem part_c (n : Int) (H : List ABlk) : ACalls Tryz.prog 103 [iv n] H fun v H' => v = bv (decide (partP n)) /\ H' = H := by
 refine ACalls.into Tryz.func103 cc103 rr103 fun hcl => ?_
 have hsp : n < 1 \/ (1 <= n /\ n <= 4) \/ (4 < n /\ n < 7) \/ n = 7 \/ (7 < n /\ n < 9) \/ (9 <= n /\ n <= 11) \/ 11 < n := by omega
 rcases hsp with h | ⟨h, h'⟩ | ⟨h, h'⟩ | h | ⟨h, h'⟩ | ⟨h, h'⟩ | h <;> (simp (disch := omega) only [Tryz.ntmps103, c103, r103, go_sem, seval, reduceCtorEq]; first | exact Ret.keep ⟨bvt (by simp only [partP]; omega), rfl⟩ | exact Ret.keep ⟨bvf (by simp only [partP]; omega), rfl⟩)
theorem plain_c (n : Int) (H : List ABlk) : ACalls Tryz.prog 105 [iv n] H fun v H' => v = bv (decide (plainP n)) /\ H' = H := by
 refine ACalls.into Tryz.func105 cc105 rr105 fun hcl => ?_
 have hsp : n < 1 \/ (1 <= n /\ n <= 4) \/ (4 < n /\ n < 10) \/ n = 10 \/ n = 11 \/ 11 < n := by omega
 rcases hsp with h | ⟨h, h'⟩ | ⟨h, h'⟩ | h | h | h <;> (simp (disch := omega) only [Tryz.ntmps105, c105, r105, go_sem, seval, reduceCtorEq]; first | exact Ret.keep ⟨bvt (by simp only [plainP]; omega), rfl⟩ | exact Ret.keep ⟨bvf (by simp only [plainP]; omega), rfl⟩)
theorem place_c {t : List Ty} (a : Int) (ht : t.length <= 9000000) (H : List ABlk) : ACalls Tryz.prog 91 [tv t, iv a] H fun v H' => v = bv (decide (placeP t a)) /\ H' = H := by
 refine ACalls.into Tryz.func91 cc91 rr91 fun hcl => ?_
 have hsp : a < 0 \/ (0 <= a /\ a < t.length) \/ (0 <= a /\ (t.length : Int) <= a) := by omega
 rcases hsp with h | ⟨h, h'⟩ | ⟨h, h'⟩ <;> (simp (disch := omega) only [Tryz.ntmps91, c91, r91, lnm, go_sem, seval, reduceCtorEq]; first | exact Ret.keep ⟨bvt (by simp only [placeP]; omega), rfl⟩ | exact Ret.keep ⟨bvf (by simp only [placeP]; omega), rfl⟩)
theorem holds_c {t : List Ty} (a : Int) (ht : t.length <= 9000000) (H : List ABlk) : ACalls Tryz.prog 90 [tv t, iv a] H fun v H' => v = bv (decide (holdsP t a)) /\ H' = H := by
 refine ACalls.into Tryz.func90 cc90 rr90 fun hcl => ?_
 simp (disch := omega) only [Tryz.ntmps90, c90, r90, go_sem, seval, reduceCtorEq]; refine Cont.mk (place_c a ht H) ?_
 by_cases hp : placeP t a
 rotate_left
 ·have hp' := decide_eq_false hp
  simp (disch := omega) only [hp', go_sem, seval, reduceCtorEq]; exact Ret.keep ⟨bvf fun h => hp h.1, rfl⟩
 have hp' := decide_eq_true hp; have hty := iaA_ty hp.1 hp.2
 generalize hx : tyAt t a = x at *
 have key : ∀ {B : Bool}, (B = true ↔ (x.form ≠ 0 /\ x.form ≠ 5 /\ x.form ≠ 6 /\ x.form ≠ 8)) -> bv B = bv (decide (holdsP t a)) := fun h => by
  refine bvx ?_; rw [h, decide_eq_true_iff, holdsP, hx]; exact ⟨fun h => ⟨hp, h⟩, fun h => h.2⟩
 by_cases h0 : x.form = 0
 ·simp (disch := omega) only [hp', hty, Ty.c, h0, go_sem, seval, reduceCtorEq]
  exact Ret.keep ⟨key (by simp [h0]), rfl⟩
 by_cases h5 : x.form = 5
 ·simp (disch := omega) only [hp', hty, Ty.c, h5, go_sem, seval, reduceCtorEq]
  exact Ret.keep ⟨key (by simp [h5]), rfl⟩
 by_cases h6 : x.form = 6
 ·simp (disch := omega) only [hp', hty, Ty.c, h6, go_sem, seval, reduceCtorEq]
  exact Ret.keep ⟨key (by simp [h6]), rfl⟩
 simp (disch := omega) only [hp', hty, Ty.c, h0, h5, h6, go_sem, seval, reduceCtorEq]; exact Ret.keep ⟨key (by simp [h0, h5, h6]), rfl⟩
theorem form_c {t : List Ty} {H : List ABlk} {b : Nat} (n : Int) (ht : t.length <= 9000000) (hb : H[b]? = some (.cells [tv t])) : ACalls Tryz.prog 102 [iv n, .ptr b 0] H fun v H' => v = iv (formA t n) /\ H' = H := by
 refine ACalls.into Tryz.func102 cc102 rr102 fun hcl => ?_
 have hsp : n < 0 \/ (0 <= n /\ n < t.length) \/ (0 <= n /\ (t.length : Int) <= n) := by omega
 rcases hsp with h | ⟨h, h'⟩ | ⟨h, h'⟩
 ·simp (disch := omega) only [Tryz.ntmps102, c102, r102, hb, lnm, go_sem, seval, reduceCtorEq]
  exact Ret.keep ⟨by rw [formA, if_neg (by omega)], rfl⟩
 ·have hty := iaA_ty h h'
  simp (disch := omega) only [Tryz.ntmps102, c102, r102, hb, lnm, hty, Ty.c, go_sem, seval, reduceCtorEq]; exact Ret.keep ⟨by rw [formA, if_pos ⟨h, h'⟩], rfl⟩
 ·simp (disch := omega) only [Tryz.ntmps102, c102, r102, hb, lnm, go_sem, seval, reduceCtorEq]
  exact Ret.keep ⟨by rw [formA, if_neg (by omega)], rfl⟩
end Go.Proofs.YthifjndenhjobaaGreat
