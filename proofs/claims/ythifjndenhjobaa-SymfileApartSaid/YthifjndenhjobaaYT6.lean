/- The reference: does a type stand in itself? -/
import Derived.Test.YthifjndenhjobaaYT4
namespace Go.Proofs.Ythifjndenhjobaa
set_option linter.unusedSimpArgs false
set_option linter.unusedVariables false
set_option maxRecDepth 20000
set_option maxHeartbeats 4000000
open Go.RowKit Relation

def c110l0 : AC :=
 .seq (.seq (.reg [kn 73 (.mv (.t 9)), kn 74 (.mv (.t 7)), kn 75 (.len false (.t 74)), kn 76 (.bin .lss (.t 73) (.t 75))])
 (.cond (.t 76) (.skip) (.exit 3)))
 (.seq (.block 4 (.seq (.reg [kn 79 (.mv (.t 0)), kn 80 (.mv (.t 7)), kn 81 (.mv (.t 9)), kn 82 (.ia (.t 80) (.t 81) 1), kn 83 (.ld (.t 82) 1 false), kn 84 (.mv (.t 2)), kn 85 (.call 110 [(.t 79), (.t 83), (.t 84)])])
 (.cond (.t 85) (.seq (.reg [kn 6 (.mv (.c (.d (.v (.bool true)))))])
 (.ret)) (.skip))))
 (.reg [kn 77 (.mv (.t 9)), kn 78 (.bin .add (.t 77) (kc 1)), kn 9 (.mv (.t 78))]))

def c110l1 : AC :=
 .seq (.seq (.reg [kn 51 (.mv (.t 8)), kn 52 (.mv (.t 0)), kn 53 (.mv (.t 1)), kn 54 (.ia (.t 52) (.t 53) 10), kn 55 (.fa (.t 54) 6), kn 56 (.ld (.t 55) 1 false), kn 57 (.len false (.t 56)), kn 58 (.bin .lss (.t 51) (.t 57))])
 (.cond (.t 58) (.skip) (.exit 1)))
 (.seq (.block 2 (.reg [kn 61 (.mv (.t 7)), kn 62 (.mv (.t 0)), kn 63 (.mv (.t 1)), kn 64 (.ia (.t 62) (.t 63) 10), kn 65 (.fa (.t 64) 6), kn 66 (.ld (.t 65) 1 false), kn 67 (.mv (.t 8)), kn 68 (.ia (.t 66) (.t 67) 3), kn 69 (.fa (.t 68) 2), kn 70 (.ld (.t 69) 1 false), kn 71 (.bs .im 3 1 [(.t 70)]), kn 72 (.app .gr 3 1 8 (.t 61) (.t 71)), kn 7 (.mvg 3 1 (.t 72))]))
 (.reg [kn 59 (.mv (.t 8)), kn 60 (.bin .add (.t 59) (kc 1)), kn 8 (.mv (.t 60))]))

def c110 : AC :=
 .seq (.reg [kn 6 (.mv (.c (.d (.v (.bool false)))))])
 (.seq (.seq (.reg [kn 10 (.mv (.t 2)), kn 11 (.mv (.t 1)), kn 12 (.ia (.t 10) (.t 11) 1), kn 13 (.ld (.t 12) 1 false), kn 14 (.bin .eql (.t 13) (kc 1))])
 (.cond (.t 14) (.seq (.reg [kn 6 (.mv (.c (.d (.v (.bool true)))))])
 (.ret)) (.skip)))
 (.seq (.seq (.reg [kn 15 (.mv (.t 2)), kn 16 (.mv (.t 1)), kn 17 (.ia (.t 15) (.t 16) 1), kn 18 (.ld (.t 17) 1 false), kn 19 (.bin .eql (.t 18) (kc 2))])
 (.cond (.t 19) (.seq (.reg [kn 6 (.mv (.c (.d (.v (.bool false)))))])
 (.ret)) (.skip)))
 (.seq (.reg [kn 20 (.mv (.t 2)), kn 21 (.mv (.t 1)), kn 22 (.ia (.t 20) (.t 21) 1), ke (.st (.t 22) (kc 1) 1)])
 (.seq (.reg [kn 7 (.mvg 3 1 (.c .esl))])
 (.seq (.seq (.reg [kn 23 (.mv (.t 0)), kn 24 (.mv (.t 1)), kn 25 (.ia (.t 23) (.t 24) 10), kn 26 (.fa (.t 25) 0), kn 27 (.ld (.t 26) 1 false)])
 (.block 0 (.seq (.seq (.reg [kn 29 (.bin .eql (.t 27) (kc 7)), kn 28 (.mv (.t 29))])
 (.cond (.t 28) (.skip) (.reg [kn 30 (.bin .eql (.t 27) (kc 8)), kn 28 (.mv (.t 30))])))
 (.cond (.t 28) (.reg [kn 31 (.mv (.t 0)), kn 32 (.mv (.t 1)), kn 33 (.ia (.t 31) (.t 32) 10), kn 34 (.fa (.t 33) 4), kn 35 (.ld (.t 34) 1 false), kn 36 (.bs .gr 3 1 [(.t 35)]), kn 7 (.mvg 3 1 (.t 36))]) (.seq (.reg [kn 38 (.bin .eql (.t 27) (kc 9)), kn 37 (.mv (.t 38))])
 (.cond (.t 37) (.seq (.seq (.reg [kn 39 (.mv (.t 0)), kn 40 (.mv (.t 1)), kn 41 (.ia (.t 39) (.t 40) 10), kn 42 (.fa (.t 41) 5), kn 43 (.ld (.t 42) 1 false), kn 44 (.bin .neq (.t 43) (kc 0))])
 (.cond (.t 44) (.reg [kn 45 (.mv (.t 0)), kn 46 (.mv (.t 1)), kn 47 (.ia (.t 45) (.t 46) 10), kn 48 (.fa (.t 47) 5), kn 49 (.ld (.t 48) 1 false), kn 50 (.bs .gr 3 1 [(.t 49)]), kn 7 (.mvg 3 1 (.t 50))]) (.skip)))
 (.seq (.reg [kn 8 (.mv (kc 0))])
 (.block 1 (.loop c110l1)))) (.skip)))))))
 (.seq (.seq (.reg [kn 9 (.mv (kc 0))])
 (.block 3 (.loop c110l0)))
 (.seq (.reg [kn 86 (.mv (.t 2)), kn 87 (.mv (.t 1)), kn 88 (.ia (.t 86) (.t 87) 1), ke (.st (.t 88) (kc 2) 1)])
 (.seq (.reg [kn 6 (.mv (.c (.d (.v (.bool false)))))])
 (.ret)))))))))
def r110 : List RC := [.t 6]

theorem cc110 : Try.f110.body.bind (comp Try.prog (hh 110)) = some c110 := by kernel_rfl
theorem rr110 : resC Try.prog Try.f110 = some r110 := by kernel_rfl
abbrev kd (k : Int) : List Dat := [.v (.int .i64 k)]
structure TKidsR (t : List Ty) : Prop where
 len : t.length ≤ 256
 kid : ∀ x : Int, 0 ≤ x → x < t.length → ∀ y ∈ kidsR t x, 0 ≤ y ∧ y < t.length
 fd : ∀ x ∈ t, x.fields.length ≤ 3000
def RoundR (t : List Ty) (m : List Int) (a : Int) (b : Nat) (H : List ABlk) (v : AV) (H' : List ABlk) : Prop :=
 ∃ B m', v = bv B ∧ H' = H.set b (.cells (m'.map iv)) ∧ m'.length = t.length ∧ (B = false → Acc (KdR t) a ∧ Met (KdR t) t.length m' ∧ Left t.length m m') ∧ (B = true → ¬ Acc (KdR t) a)
abbrev SR (t : List Ty) (a : Int) (b : Nat) (X : AV) (i : Nat) : List AV := [tv t, iv a, .hsl b 0 t.length t.length 1, .any, .any, .any, bv false, X, .any, iv i]
def LoopQ (t : List Ty) (m : List Int) (a : Int) (b : Nat) (H tl : List ABlk) (X : AV) (ks : List Int) (e : Exit) (s : List AV) (H' : List ABlk) : Prop :=
 (e = .exit 3 ∧ s = SR t a b X ks.length ++ List.replicate 63 .any ++ [iv ks.length, X, iv ks.length, bv false] ++ List.replicate 12 .any ∧ ∃ m' : List Int, H' = H.set b (.cells (m'.map iv)) ++ tl ∧ Met (KdR t) t.length m' ∧ Left t.length (setM m a 1) m' ∧ ∀ k ∈ ks, Acc (KdR t) k) ∨
 (e = .ret ∧ resA [RC.t 6] s H' = some (bv true) ∧ ∃ m' : List Int, m'.length = t.length ∧ H' = H.set b (.cells (m'.map iv)) ++ tl ∧ ¬ ∀ k ∈ ks, Acc (KdR t) k)
theorem round_loop {t : List Ty} (ht : TKidsR t) {n : Nat} (ih : ∀ {m : List Int} {a : Int} {H : List ABlk} {b : Nat}, zc m < n → Met (KdR t) t.length m → Way (KdR t) t.length m a → 0 ≤ a ∧ a < t.length → H[b]? = some (.cells (m.map iv)) →
 ACalls Try.prog 110 [tv t, iv a, .hsl b 0 t.length t.length 1] H (RoundR t m a b H)) {m : List Int} {a : Int} {H tl : List ABlk} {b bb nb : Nat} {ks : List Int} (hz : zc m < n + 1) (hm : Met (KdR t) t.length m) (hw : Way (KdR t) t.length m a) (ha : 0 ≤ a ∧ a < t.length) (h0 : mt m a = 0)
 (hb : b < H.length) (hks : ∀ k ∈ ks, KdR t k a) (hkl : ks.length ≤ 4000) :
 W Try.prog (hh 110) nb (.loop c110l0) (SR t a b (.gsl bb 1 (ks.map kd)) 0 ++ List.replicate 79 .any) (H.set b (.cells ((setM m a 1).map iv)) ++ tl) (LoopQ t m a b H tl (.gsl bb 1 (ks.map kd)) ks) := by
 have hml := hm.len
 have htl := ht.len
 obtain ⟨S, hS⟩ : ∃ S : Nat × List Int → List AV, ∀ g, S g = SR t a b (.gsl bb 1 (ks.map kd)) g.1 ++ List.replicate 79 .any := ⟨_, fun _ => rfl⟩
 refine W.loopG (γ := Nat × List Int) (fun g => ks.length - g.1) S (fun g => H.set b (.cells (g.2.map iv)) ++ tl) (fun g => g.1 ≤ ks.length ∧ Met (KdR t) t.length g.2 ∧ Left t.length (setM m a 1) g.2 ∧ ∀ j, j < g.1 → Acc (KdR t) (ks.getD j 0)) (0, setM m a 1) (by rw [hS]; exact Wk.refl) ⟨Nat.zero_le _, hm.go ha h0, Left.rfl, fun j hj => by omega⟩ (fun g hg => ?_)
 obtain ⟨i, m1⟩ := g
 obtain ⟨q1, q2, q3, q4⟩ := hg
 simp only at q1 q2 q3 q4
 simp (maxSteps := 2000000) (disch := omega) only [c110l0, hS, List.append_assoc, List.cons_append, List.nil_append, List.length_map, go_sem, seval, reduceCtorEq]
 refine Br.dec (fun hc => ?_) (fun hc => ?_) <;> simp (maxSteps := 2000000) (disch := omega) only [go_sem, seval, reduceCtorEq]
 ·have hxi := gsl_at (b := bb) (ks := ks) (i := i) (by omega)
  have hmem : ks.getD i 0 ∈ ks := by rw [List.getD_eq_getElem?_getD, List.getElem?_eq_getElem (by omega)]; exact List.getElem_mem _
  have hzz : zc m1 < n := by
   have := q3.zc (by rw [setM_len, hml]) q2.len
   have h2 := zc_set (m := m) (i := a.toNat) (v := 1) (by omega) h0 (by omega)
   simp only [setM] at this
   omega
  simp (maxSteps := 2000000) (disch := omega) only [hxi, go_sem, seval, reduceCtorEq]
  refine Cont.rel (ih hzz q2 (Way.kid hml ha hw q3 (hks _ hmem)) (ht.kid a ha.1 ha.2 _ (hks _ hmem)) (by rw [List.getElem?_append_left (by simpa using hb), List.getElem?_set_self hb])) ?_
  rintro v H' ⟨B, m2, rfl, rfl, e1, e2, e3⟩
  rw [List.set_append_left _ _ (by simpa using hb), List.set_set]
  cases B with
  | false =>
   obtain ⟨f1, f2, f3⟩ := e2 rfl
   simp (maxSteps := 2000000) (disch := omega) only [go_sem, seval, reduceCtorEq]
   refine Nxt.mk (i + 1, m2) (by simp only; omega) (Wk.slots (by rw [hS]; exact WkL.tail 10 _ rfl (by simp only [List.take_succ_cons, List.take_zero]; repeat' first | exact WkL.nil | refine WkL.cons (Wk1.rfl _) ?_ | refine WkL.cons Wk1.esl ?_ | refine WkL.cons (Wk1.gsl _ _ _) ?_ | refine WkL.cons (Wk1.any _) ?_))) ⟨by simp only; omega, f2, q3.trans f3, fun j hj => ?_⟩
   rcases Nat.lt_or_ge j i with h' | h'
   ·exact q4 j h'
   ·rw [show j = i by simp only at hj; omega]; exact f1
  | true =>
   simp (maxSteps := 2000000) (disch := omega) only [go_sem, seval, reduceCtorEq]
   exact .inr ⟨rfl, rfl, m2, e1, rfl, fun hA => e3 rfl (hA _ hmem)⟩
 ·have hi : i = ks.length := by omega
  subst hi
  refine .inl ⟨rfl, rfl, m1, rfl, q2, q3, fun k hk => ?_⟩
  obtain ⟨j, hj, rfl⟩ := List.getElem_of_mem hk
  have := q4 j hj
  rwa [List.getD_eq_getElem?_getD, List.getElem?_eq_getElem hj] at this
theorem kidr_arr {t : List Ty} {a : Int} (h : (tyAt t a).form = 7 ∨ (tyAt t a).form = 8) : kidsR t a = [(tyAt t a).elem] := if_pos h
theorem kidr_rec {t : List Ty} {a : Int} (h : (tyAt t a).form = 9) : kidsR t a = (if (tyAt t a).base = 0 then [] else [(tyAt t a).base]) ++ (tyAt t a).fields.map Fd.typ := by
 rw [kidsR, if_neg (by omega), if_pos h]
theorem kidr_no {t : List Ty} {a : Int} (h1 : (tyAt t a).form ≠ 7) (h2 : (tyAt t a).form ≠ 8) (h3 : (tyAt t a).form ≠ 9) : kidsR t a = [] := by
 rw [kidsR, if_neg (by omega), if_neg h3]

abbrev S1 (t : List Ty) (a : Int) (b bb : Nat) (ks : List Int) (i : Nat) : List AV := [tv t, iv a, .hsl b 0 t.length t.length 1, .any, .any, .any, bv false, .gsl bb 1 (ks.map kd), iv i]
theorem round_l1 {t : List Ty} {a : Int} {b bb nb : Nat} {G : List ABlk} (hbb : bb = G.length) (hcl : cl G) (hnb : nb ≤ G.length) (hb : b < G.length) (ha : 0 ≤ a ∧ a < t.length) (f9 : (tyAt t a).form = 9) (hfl : (tyAt t a).fields.length ≤ 3000) (k0 : List Int) (hk0 : k0.length ≤ 1) :
 W Try.prog (hh 110) nb (.loop c110l1) (S1 t a b bb k0 0 ++ List.replicate 80 .any) (G ++ [.row 3 1 k0.length])
  (fun e s H' => e = .exit 1 ∧ (∃ x0 x1 x2 x3 x4 x5 x6 x7 x8, s = [tv t, iv a, .hsl b 0 t.length t.length 1, .any, .any, .any, bv false, .gsl bb 1 ((k0 ++ (tyAt t a).fields.map Fd.typ).map kd), x8] ++ List.replicate 42 .any ++ [x0, x1, x2, x3, x4, x5, x6, x7] ++ List.replicate 30 .any) ∧ H' = G ++ [.row 3 1 (k0.length + (tyAt t a).fields.length)]) := by
 subst hbb
 have hty := iaA_ty ha.1 ha.2
 generalize hx : tyAt t a = x at *
 obtain ⟨kf, hkf⟩ : ∃ kf : Nat → List (List Dat), ∀ i, kf i = (k0 ++ (x.fields.take i).map Fd.typ).map kd := ⟨_, fun _ => rfl⟩
 have hk00 : k0.map kd = kf 0 := by rw [hkf]; simp
 have hkn : ∀ i, i < x.fields.length → kf i ++ [[Dat.v (.int .i64 (fdAt x.fields i).typ)]] = kf (i + 1) := fun i hi => by
  rw [hkf, hkf, getD_take (d := default) hi]
  simp [fdAt, kd]
 have hkl : ∀ i, i ≤ x.fields.length → (kf i).length = k0.length + i := fun i hi => by rw [hkf]; simp; omega
 unfold S1
 rw [hk00]
 obtain ⟨S, hS⟩ : ∃ S : Nat → List AV, ∀ i, S i = [tv t, iv a, .hsl b 0 t.length t.length 1, .any, .any, .any, bv false, .gsl G.length 1 (kf i), iv i] ++ List.replicate 80 .any := ⟨_, fun _ => rfl⟩
 have hbl : ∀ r : ABlk, (G ++ [r])[G.length]? = some r := fun r => by rw [List.getElem?_append_right (Nat.le_refl _)]; simp
 have hset : ∀ r y : ABlk, (G ++ [r]).set G.length y = G ++ [y] := fun r y => by rw [List.set_append_right _ _ (Nat.le_refl _)]; simp
 refine W.loopG (γ := Nat) (fun i => x.fields.length - i) S (fun i => G ++ [.row 3 1 (k0.length + i)]) (fun i => i ≤ x.fields.length) 0 (by rw [hS]; exact Wk.refl) (Nat.zero_le _) (fun i hi => ?_)
 simp (maxSteps := 2000000) (disch := omega) only [c110l1, hS, hty, Ty.c, List.length_map, List.append_assoc, List.cons_append, List.nil_append, go_sem, seval, reduceCtorEq]
 refine Br.dec (fun hc => ?_) (fun hc => ?_) <;> simp (maxSteps := 2000000) (disch := omega) only [go_sem, seval, reduceCtorEq]
 ·have hfa := iaA_fd (t := x.fields) (a := i) (by omega) (by omega)
  have hkl' := hkl i hi
  simp (maxSteps := 2000000) (disch := omega) only [hty, Ty.c, hfa, Fd.c, hbl, hset, hkl', hkn i (by omega), go_sem, seval, reduceCtorEq]
  exact Nxt.mk (i + 1) (by omega) (Wk.slots (by rw [hS]; exact WkL.tail 9 _ rfl (by simp only [List.take_succ_cons, List.take_zero]; repeat' first | exact WkL.nil | refine WkL.cons (Wk1.rfl _) ?_ | refine WkL.cons Wk1.esl ?_ | refine WkL.cons (Wk1.gsl _ _ _) ?_ | refine WkL.cons (Wk1.any _) ?_))) (by omega)
 ·have hie : i = x.fields.length := by omega
  subst hie
  have : kf x.fields.length = (k0 ++ x.fields.map Fd.typ).map kd := by rw [hkf, List.take_length]
  rw [← this]
  exact ⟨⟨_, _, _, _, _, _, _, _, _, rfl⟩, rfl⟩

theorem round_c {t : List Ty} (ht : TKidsR t) (n : Nat) : ∀ {m : List Int} {a : Int} {H : List ABlk} {b : Nat}, zc m < n → Met (KdR t) t.length m → Way (KdR t) t.length m a → 0 ≤ a ∧ a < t.length → H[b]? = some (.cells (m.map iv)) →
 ACalls Try.prog 110 [tv t, iv a, .hsl b 0 t.length t.length 1] H (RoundR t m a b H) := by
 induction n with
 | zero => intro m a H b hz; omega
 | succ n ih =>
 intro m a H b hz hm hw ha hb
 refine ACalls.into Try.func110 cc110 rr110 fun hcl => ?_
 have hml := hm.len
 have htl := ht.len
 have hbl := (List.getElem?_eq_some_iff.1 hb).1
 have hia := iaA_hsl (b := b) ha
 have hcell := mt_cell hml ha
 have hsm := set_same hb
 simp (maxSteps := 2000000) (disch := omega) only [Try.ntmps110, c110, r110, hia, hb, hcell, List.length_map, hml, go_sem, seval, reduceCtorEq]
 rcases hm.st a ha.1 ha.2 with h0 | h0 | h0
 ·have hstx := mt_st (v := 1) hml ha
  have hm1 := hm.go ha h0
  have hty := iaA_ty ha.1 ha.2
  have hmem := tyAt_mem ha.1 ha.2
  have hfl := ht.fd _ hmem
  have h7 := kidr_arr (t := t) (a := a)
  have h9 := kidr_rec (t := t) (a := a)
  have hn := kidr_no (t := t) (a := a)
  have fin : ∀ {X : AV} {ks : List Int} {tl : List ABlk} {e : Exit} {s : List AV} {H' : List ABlk} {Q : APost}, LoopQ t m a b H tl X ks e s H' → kidsR t a = ks →
   (∀ m', Met (KdR t) t.length (setM m' a 2) → Left t.length m (setM m' a 2) → Acc (KdR t) a → m'.length = t.length → Q (.exit 3) (SR t a b X ks.length ++ List.replicate 63 .any ++ [iv ks.length, X, iv ks.length, bv false] ++ List.replicate 12 .any) (H.set b (.cells (m'.map iv)) ++ tl)) →
   (∀ s H', Ret [RC.t 6] H.length (RoundR t m a b H) (resA [RC.t 6] s H') H' → Q .ret s H') → Q e s H' := by
   intro X ks tl e s H' Q h hks h1 h2
   rcases h with ⟨rfl, rfl, m', rfl, g1, g2, g3⟩ | ⟨rfl, g0, m', g1, rfl, g3⟩
   ·have hA : Acc (KdR t) a := .intro a fun y hy => g3 y (by rw [← hks]; exact hy)
    obtain ⟨k1, k2⟩ := g1.done hml ha h0 g2 hA
    exact h1 m' k1 k2 hA g1.len
   ·refine h2 _ _ ?_
    rw [g0]
    exact Ret.drop (bv true) (H.set b (.cells (m'.map iv))) (by simp) (hcl.setC _) (.rfl _) (by simp [refs]) ⟨true, m', rfl, rfl, g1, fun h => by simp at h, fun _ hA => g3 fun k hk => hA.inv (by show k ∈ kidsR t a; rw [hks]; exact hk)⟩
  have fin2 : ∀ {m' : List Int} {tl : List ABlk}, Met (KdR t) t.length (setM m' a 2) → Left t.length m (setM m' a 2) → Acc (KdR t) a → m'.length = t.length → Ret [RC.t 6] H.length (RoundR t m a b H) (some (bv false)) ((H.set b (.cells (m'.map iv)) ++ tl).set b (.cells ((setM m' a 2).map iv))) := by
   intro m' tl g1 g2 g3 g4
   rw [List.set_append_left _ _ (by simpa using hbl), List.set_set]
   exact Ret.drop (bv false) (H.set b (.cells ((setM m' a 2).map iv))) (by simp) (hcl.setC _) (.rfl _) (by simp [refs]) ⟨false, _, rfl, rfl, by rw [setM_len, g4], fun _ => ⟨g3, g1, g2⟩, fun h => by simp at h⟩
  have hb3 : ∀ (m' : List Int) (tl : List ABlk), (H.set b (ABlk.cells (m'.map iv)) ++ tl)[b]? = some (.cells (m'.map iv)) := fun m' tl => by rw [List.getElem?_append_left (by simpa using hbl), List.getElem?_set_self hbl]
  have hset : ∀ r y : ABlk, (H.set b (.cells ((setM m a 1).map iv)) ++ [r]).length = H.length + 1 := fun r y => by simp
  by_cases f7 : (tyAt t a).form = 7
  ·have hk := h7 (.inl f7)
   simp (maxSteps := 2000000) (disch := omega) only [h0, hia, hb, hcell, List.length_map, hml, hstx, hty, Ty.c, f7, List.length_cons, go_sem, seval, reduceCtorEq]
   refine W.weak (Wk.slots (by (try simp only [List.replicate, List.cons_append, List.nil_append]); repeat' first | exact WkL.nil | refine WkL.cons (Wk1.rfl _) ?_ | refine WkL.cons Wk1.esl ?_ | refine WkL.cons (Wk1.gsl _ _ _) ?_ | refine WkL.cons (Wk1.any _) ?_)) (W.mono (round_loop ht ih hz hm hw ha h0 hbl (ks := [(tyAt t a).elem]) (fun k hk' => by show k ∈ kidsR t a; rw [hk]; exact hk') (by simp)) fun e s H' h => fin h hk (fun m' g1 g2 g3 g4 => ?_) fun s H' h => h)
   have hst2 := mt_st (v := 2) g4 ha
   have hb4 := hb3 m'
   simp (maxSteps := 2000000) (disch := omega) only [hia, hb4, List.length_map, g4, hst2, List.append_assoc, List.cons_append, List.nil_append, go_sem, seval, reduceCtorEq]
   exact fin2 g1 g2 g3 g4
  by_cases f8 : (tyAt t a).form = 8
  ·have hk := h7 (.inr f8)
   simp (maxSteps := 2000000) (disch := omega) only [h0, hia, hb, hcell, List.length_map, hml, hstx, hty, Ty.c, f7, f8, List.length_cons, go_sem, seval, reduceCtorEq]
   refine W.weak (Wk.slots (by (try simp only [List.replicate, List.cons_append, List.nil_append]); repeat' first | exact WkL.nil | refine WkL.cons (Wk1.rfl _) ?_ | refine WkL.cons Wk1.esl ?_ | refine WkL.cons (Wk1.gsl _ _ _) ?_ | refine WkL.cons (Wk1.any _) ?_)) (W.mono (round_loop ht ih hz hm hw ha h0 hbl (ks := [(tyAt t a).elem]) (fun k hk' => by show k ∈ kidsR t a; rw [hk]; exact hk') (by simp)) fun e s H' h => fin h hk (fun m' g1 g2 g3 g4 => ?_) fun s H' h => h)
   have hst2 := mt_st (v := 2) g4 ha
   have hb4 := hb3 m'
   simp (maxSteps := 2000000) (disch := omega) only [hia, hb4, List.length_map, g4, hst2, List.append_assoc, List.cons_append, List.nil_append, go_sem, seval, reduceCtorEq]
   exact fin2 g1 g2 g3 g4
  by_cases f9 : (tyAt t a).form = 9
  ·by_cases fb : (tyAt t a).base = 0
   ·have hk := h9 f9
    rw [if_pos fb] at hk
    simp (maxSteps := 2000000) (disch := omega) only [h0, hia, hb, hcell, List.length_map, hml, hstx, hty, Ty.c, f7, f8, f9, fb, List.length_cons, go_sem, seval, reduceCtorEq]
    refine W.weak (Wk.slots (by (try simp only [List.replicate, List.cons_append, List.nil_append]); repeat' first | exact WkL.nil | refine WkL.cons (Wk1.rfl _) ?_ | refine WkL.cons Wk1.esl ?_ | refine WkL.cons (Wk1.gsl _ _ _) ?_ | refine WkL.cons (Wk1.any _) ?_)) (W.mono (round_l1 (bb := H.length) (G := H.set b (.cells ((setM m a 1).map iv))) (by simp) (hcl.setC _) (by simp) (by simpa using hbl) ha f9 hfl [] (by simp)) ?_)
    rintro e s H' ⟨rfl, ⟨x0, x1, x2, x3, x4, x5, x6, x7, x8, rfl⟩, rfl⟩
    simp (maxSteps := 2000000) (disch := omega) only [List.append_assoc, List.cons_append, List.nil_append, go_sem, seval, reduceCtorEq]
    refine W.weak (Wk.slots (by (try simp only [List.replicate, List.cons_append, List.nil_append]); repeat' first | exact WkL.nil | refine WkL.cons (Wk1.rfl _) ?_ | refine WkL.cons Wk1.esl ?_ | refine WkL.cons (Wk1.gsl _ _ _) ?_ | refine WkL.cons (Wk1.any _) ?_)) (W.mono (round_loop ht ih hz hm hw ha h0 hbl (ks := (tyAt t a).fields.map Fd.typ) (fun k hk' => by show k ∈ kidsR t a; rw [hk]; exact hk') (by simp; omega)) fun e s H' h => fin h hk (fun m' g1 g2 g3 g4 => ?_) fun s H' h => h)
    have hst2 := mt_st (v := 2) g4 ha
    have hb4 := hb3 m'
    simp (maxSteps := 2000000) (disch := omega) only [hia, hb4, List.length_map, g4, hst2, List.append_assoc, List.cons_append, List.nil_append, go_sem, seval, reduceCtorEq]
    exact fin2 g1 g2 g3 g4
   ·have hk := h9 f9
    rw [if_neg fb] at hk
    simp (maxSteps := 2000000) (disch := omega) only [h0, hia, hb, hcell, List.length_map, hml, hstx, hty, Ty.c, f7, f8, f9, fb, List.length_cons, go_sem, seval, reduceCtorEq]
    rw [show ∀ (A : List ABlk) (p q : ABlk), A ++ [p, q] = (A ++ [p]) ++ [q] from fun A p q => by simp]
    refine W.weak (Wk.slots (by (try simp only [List.replicate, List.cons_append, List.nil_append]); repeat' first | exact WkL.nil | refine WkL.cons (Wk1.rfl _) ?_ | refine WkL.cons Wk1.esl ?_ | refine WkL.cons (Wk1.gsl _ _ _) ?_ | refine WkL.cons (Wk1.any _) ?_)) (W.mono (round_l1 (bb := H.length + 1) (G := H.set b (.cells ((setM m a 1).map iv)) ++ [.row 3 1 0]) (by simp) ((hcl.setC _).row _ _ _) (by simp) (by simp; omega) ha f9 hfl [(tyAt t a).base] (by simp)) ?_)
    rintro e s H' ⟨rfl, ⟨x0, x1, x2, x3, x4, x5, x6, x7, x8, rfl⟩, rfl⟩
    simp (maxSteps := 2000000) (disch := omega) only [List.append_assoc, List.cons_append, List.nil_append, go_sem, seval, reduceCtorEq]
    refine W.weak (Wk.slots (by (try simp only [List.replicate, List.cons_append, List.nil_append]); repeat' first | exact WkL.nil | refine WkL.cons (Wk1.rfl _) ?_ | refine WkL.cons Wk1.esl ?_ | refine WkL.cons (Wk1.gsl _ _ _) ?_ | refine WkL.cons (Wk1.any _) ?_)) (W.mono (round_loop ht ih hz hm hw ha h0 hbl (ks := [(tyAt t a).base] ++ (tyAt t a).fields.map Fd.typ) (fun k hk' => by show k ∈ kidsR t a; rw [hk]; exact hk') (by simp; omega)) fun e s H' h => fin h hk (fun m' g1 g2 g3 g4 => ?_) fun s H' h => h)
    have hst2 := mt_st (v := 2) g4 ha
    have hb4 := hb3 m'
    simp (maxSteps := 2000000) (disch := omega) only [hia, hb4, List.length_map, g4, hst2, List.append_assoc, List.cons_append, List.nil_append, go_sem, seval, reduceCtorEq]
    exact fin2 g1 g2 g3 g4
  ·have hk := hn f7 f8 f9
   simp (maxSteps := 2000000) (disch := omega) only [h0, hia, hb, hcell, List.length_map, hml, hstx, hty, Ty.c, f7, f8, f9, List.length_cons, go_sem, seval, reduceCtorEq]
   refine W.weak (Wk.slots (by (try simp only [List.replicate, List.cons_append, List.nil_append]); repeat' first | exact WkL.nil | refine WkL.cons (Wk1.rfl _) ?_ | refine WkL.cons Wk1.esl ?_ | refine WkL.cons (Wk1.gsl _ _ _) ?_ | refine WkL.cons (Wk1.any _) ?_)) (W.mono (round_loop ht ih hz hm hw ha h0 hbl (ks := []) (fun k hk' => by show k ∈ kidsR t a; rw [hk]; exact hk') (by simp)) fun e s H' h => fin h hk (fun m' g1 g2 g3 g4 => ?_) fun s H' h => h)
   have hst2 := mt_st (v := 2) g4 ha
   have hb4 := hb3 m'
   simp (maxSteps := 2000000) (disch := omega) only [hia, hb4, List.length_map, g4, hst2, List.append_assoc, List.cons_append, List.nil_append, go_sem, seval, reduceCtorEq]
   exact fin2 g1 g2 g3 g4
 ·simp (maxSteps := 2000000) (disch := omega) only [h0, hia, hb, hcell, List.length_map, hml, go_sem, seval, reduceCtorEq]
  exact Ret.keep ⟨true, m, rfl, hsm.symm, hml, fun h => by simp at h, fun _ => hm.one ha hw h0⟩
 ·simp (maxSteps := 2000000) (disch := omega) only [h0, hia, hb, hcell, List.length_map, hml, go_sem, seval, reduceCtorEq]
  exact Ret.keep ⟨false, m, rfl, hsm.symm, hml, fun _ => ⟨hm.fin a ha.1 ha.2 h0, hm, Left.rfl⟩, fun h => by simp at h⟩
end Go.Proofs.Ythifjndenhjobaa

/- Tables: the small questions. -/
namespace Go.Proofs.Ythifjndenhjobaa
set_option linter.unusedSimpArgs false
set_option linter.unusedVariables false
set_option maxRecDepth 20000
set_option maxHeartbeats 4000000
open Go.RowKit

def c126 : AC :=
 .seq (.reg [kn 4 (.mv (.c (.d (.v (.bool false)))))])
 (.seq (.reg [kn 5 (.mv (.t 0)), kn 6 (.mv (.t 1)), kn 7 (.call 127 [(.t 5), (.t 6)]), kn 8 (.mv (.t 7)), ky 9 8 (.mv (.t 0)), ky 10 8 (.mv (.t 1)), ky 11 8 (.ia (.t 9) (.t 10) 10), ky 12 8 (.fa (.t 11) 0), ky 13 8 (.ld (.t 12) 1 false), ky 14 8 (.bin .neq (.t 13) (kc 0)), kn 15 (.pick (.t 8) (.t 14) (.c (.d (.v (.bool false))))), kn 16 (.mv (.t 15)), ky 17 16 (.mv (.t 0)), ky 18 16 (.mv (.t 1)), ky 19 16 (.ia (.t 17) (.t 18) 10), ky 20 16 (.fa (.t 19) 0), ky 21 16 (.ld (.t 20) 1 false), ky 22 16 (.bin .neq (.t 21) (kc 5)), kn 23 (.pick (.t 16) (.t 22) (.c (.d (.v (.bool false))))), kn 24 (.mv (.t 23)), ky 25 24 (.mv (.t 0)), ky 26 24 (.mv (.t 1)), ky 27 24 (.ia (.t 25) (.t 26) 10), ky 28 24 (.fa (.t 27) 0), ky 29 24 (.ld (.t 28) 1 false), ky 30 24 (.bin .neq (.t 29) (kc 6)), kn 31 (.pick (.t 24) (.t 30) (.c (.d (.v (.bool false))))), kn 32 (.mv (.t 31)), ky 33 32 (.mv (.t 0)), ky 34 32 (.mv (.t 1)), ky 35 32 (.ia (.t 33) (.t 34) 10), ky 36 32 (.fa (.t 35) 0), ky 37 32 (.ld (.t 36) 1 false), ky 38 32 (.bin .neq (.t 37) (kc 8)), kn 39 (.pick (.t 32) (.t 38) (.c (.d (.v (.bool false))))), kn 4 (.mv (.t 39))])
 (.ret))
def r126 : List RC := [.t 4]

def c127 : AC :=
 .seq (.reg [kn 4 (.mv (.c (.d (.v (.bool false)))))])
 (.seq (.reg [kn 5 (.mv (.t 1)), kn 6 (.bin .geq (.t 5) (kc 0)), kn 7 (.mv (.t 6)), ky 8 7 (.mv (.t 1)), ky 9 7 (.mv (.t 0)), ky 10 7 (.len false (.t 9)), ky 11 7 (.bin .lss (.t 8) (.t 10)), kn 12 (.pick (.t 7) (.t 11) (.c (.d (.v (.bool false))))), kn 4 (.mv (.t 12))])
 (.ret))
def r127 : List RC := [.t 4]

def c131 : AC :=
 .seq (.reg [kn 3 (.mv (kc 0))])
 (.seq (.seq (.reg [kn 4 (.mv (.t 0)), kn 5 (.bin .lss (.t 4) (kc 0)), kn 6 (.mv (.t 5)), ko 7 6 (.mv (.t 0)), ko 8 6 (.ld (.t 1) 1 false), ko 9 6 (.len false (.t 8)), ko 10 6 (.bin .geq (.t 7) (.t 9)), kn 11 (.pick (.t 6) (.c (.d (.v (.bool true)))) (.t 10))])
 (.cond (.t 11) (.seq (.reg [kn 3 (.mv (kc (-1)))])
 (.ret)) (.skip)))
 (.seq (.reg [kn 12 (.ld (.t 1) 1 false), kn 13 (.mv (.t 0)), kn 14 (.ia (.t 12) (.t 13) 10), kn 15 (.fa (.t 14) 0), kn 16 (.ld (.t 15) 1 false), kn 3 (.mv (.t 16))])
 (.ret)))
def r131 : List RC := [.t 3]

def c132 : AC :=
 .seq (.reg [kn 2 (.mv (.c (.d (.v (.bool false)))))])
 (.seq (.reg [kn 3 (.mv (.t 0)), kn 4 (.bin .geq (.t 3) (kc 1)), kn 5 (.mv (.t 4)), ky 6 5 (.mv (.t 0)), ky 7 5 (.bin .leq (.t 6) (kc 4)), kn 8 (.pick (.t 5) (.t 7) (.c (.d (.v (.bool false))))), kn 9 (.mv (.t 8)), ko 10 9 (.mv (.t 0)), ko 11 9 (.bin .eql (.t 10) (kc 7)), kn 12 (.pick (.t 9) (.c (.d (.v (.bool true)))) (.t 11)), kn 13 (.mv (.t 12)), ko 14 13 (.mv (.t 0)), ko 15 13 (.bin .geq (.t 14) (kc 9)), ko 16 13 (.mv (.t 15)), ky 17 16 (.mv (.t 0)), ky 18 16 (.bin .leq (.t 17) (kc 11)), ko 19 13 (.pick (.t 16) (.t 18) (.c (.d (.v (.bool false))))), kn 20 (.pick (.t 13) (.c (.d (.v (.bool true)))) (.t 19)), kn 2 (.mv (.t 20))])
 (.ret))
def r132 : List RC := [.t 2]

def c134 : AC :=
 .seq (.reg [kn 2 (.mv (.c (.d (.v (.bool false)))))])
 (.seq (.reg [kn 3 (.mv (.t 0)), kn 4 (.bin .geq (.t 3) (kc 1)), kn 5 (.mv (.t 4)), ky 6 5 (.mv (.t 0)), ky 7 5 (.bin .leq (.t 6) (kc 4)), kn 8 (.pick (.t 5) (.t 7) (.c (.d (.v (.bool false))))), kn 9 (.mv (.t 8)), ko 10 9 (.mv (.t 0)), ko 11 9 (.bin .eql (.t 10) (kc 10)), kn 12 (.pick (.t 9) (.c (.d (.v (.bool true)))) (.t 11)), kn 13 (.mv (.t 12)), ko 14 13 (.mv (.t 0)), ko 15 13 (.bin .eql (.t 14) (kc 11)), kn 16 (.pick (.t 13) (.c (.d (.v (.bool true)))) (.t 15)), kn 2 (.mv (.t 16))])
 (.ret))
def r134 : List RC := [.t 2]

theorem cc126 : Try.f126.body.bind (comp Try.prog (hh 126)) = some c126 := by kernel_rfl
theorem rr126 : resC Try.prog Try.f126 = some r126 := by kernel_rfl
theorem cc127 : Try.f127.body.bind (comp Try.prog (hh 127)) = some c127 := by kernel_rfl
theorem rr127 : resC Try.prog Try.f127 = some r127 := by kernel_rfl
theorem cc131 : Try.f131.body.bind (comp Try.prog (hh 131)) = some c131 := by kernel_rfl
theorem rr131 : resC Try.prog Try.f131 = some r131 := by kernel_rfl
theorem cc132 : Try.f132.body.bind (comp Try.prog (hh 132)) = some c132 := by kernel_rfl
theorem rr132 : resC Try.prog Try.f132 = some r132 := by kernel_rfl
theorem cc134 : Try.f134.body.bind (comp Try.prog (hh 134)) = some c134 := by kernel_rfl
theorem rr134 : resC Try.prog Try.f134 = some r134 := by kernel_rfl
def partP (n : Int) : Prop := (1 ≤ n ∧ n ≤ 4) ∨ n = 7 ∨ (9 ≤ n ∧ n ≤ 11)
def plainP (n : Int) : Prop := (1 ≤ n ∧ n ≤ 4) ∨ n = 10 ∨ n = 11
instance (n : Int) : Decidable (partP n) := by unfold partP; infer_instance
instance (n : Int) : Decidable (plainP n) := by unfold plainP; infer_instance
def formA (t : List Ty) (n : Int) : Int := if 0 ≤ n ∧ n < t.length then (tyAt t n).form else -1
def placeP (t : List Ty) (n : Int) : Prop := 0 ≤ n ∧ n < t.length
def holdsP (t : List Ty) (n : Int) : Prop := placeP t n ∧ (tyAt t n).form ≠ 0 ∧ (tyAt t n).form ≠ 5 ∧ (tyAt t n).form ≠ 6 ∧ (tyAt t n).form ≠ 8
instance (t : List Ty) (n : Int) : Decidable (placeP t n) := by unfold placeP; infer_instance
instance (t : List Ty) (n : Int) : Decidable (holdsP t n) := by unfold holdsP; infer_instance

theorem bvt {c : Prop} [Decidable c] (h : c) : bv true = bv (decide c) := by rw [decide_eq_true h]
theorem bvf {c : Prop} [Decidable c] (h : ¬ c) : bv false = bv (decide c) := by rw [decide_eq_false h]
theorem part_c (n : Int) (H : List ABlk) : ACalls Try.prog 132 [iv n] H fun v H' => v = bv (decide (partP n)) ∧ H' = H := by
 refine ACalls.into Try.func132 cc132 rr132 fun hcl => ?_
 have hsp : n < 1 ∨ (1 ≤ n ∧ n ≤ 4) ∨ (4 < n ∧ n < 7) ∨ n = 7 ∨ (7 < n ∧ n < 9) ∨ (9 ≤ n ∧ n ≤ 11) ∨ 11 < n := by omega
 rcases hsp with h | ⟨h, h'⟩ | ⟨h, h'⟩ | h | ⟨h, h'⟩ | ⟨h, h'⟩ | h <;> (simp (maxSteps := 2000000) (disch := omega) only [Try.ntmps132, c132, r132, go_sem, seval, reduceCtorEq]; first | exact Ret.keep ⟨bvt (by simp only [partP]; omega), rfl⟩ | exact Ret.keep ⟨bvf (by simp only [partP]; omega), rfl⟩)
theorem plain_c (n : Int) (H : List ABlk) : ACalls Try.prog 134 [iv n] H fun v H' => v = bv (decide (plainP n)) ∧ H' = H := by
 refine ACalls.into Try.func134 cc134 rr134 fun hcl => ?_
 have hsp : n < 1 ∨ (1 ≤ n ∧ n ≤ 4) ∨ (4 < n ∧ n < 10) ∨ n = 10 ∨ n = 11 ∨ 11 < n := by omega
 rcases hsp with h | ⟨h, h'⟩ | ⟨h, h'⟩ | h | h | h <;> (simp (maxSteps := 2000000) (disch := omega) only [Try.ntmps134, c134, r134, go_sem, seval, reduceCtorEq]; first | exact Ret.keep ⟨bvt (by simp only [plainP]; omega), rfl⟩ | exact Ret.keep ⟨bvf (by simp only [plainP]; omega), rfl⟩)
theorem place_c {t : List Ty} (a : Int) (ht : t.length ≤ 9000000) (H : List ABlk) : ACalls Try.prog 127 [tv t, iv a] H fun v H' => v = bv (decide (placeP t a)) ∧ H' = H := by
 refine ACalls.into Try.func127 cc127 rr127 fun hcl => ?_
 have hsp : a < 0 ∨ (0 ≤ a ∧ a < t.length) ∨ (0 ≤ a ∧ (t.length : Int) ≤ a) := by omega
 rcases hsp with h | ⟨h, h'⟩ | ⟨h, h'⟩ <;> (simp (maxSteps := 2000000) (disch := omega) only [Try.ntmps127, c127, r127, List.length_map, go_sem, seval, reduceCtorEq]; first | exact Ret.keep ⟨bvt (by simp only [placeP]; omega), rfl⟩ | exact Ret.keep ⟨bvf (by simp only [placeP]; omega), rfl⟩)
theorem holds_c {t : List Ty} (a : Int) (ht : t.length ≤ 9000000) (H : List ABlk) : ACalls Try.prog 126 [tv t, iv a] H fun v H' => v = bv (decide (holdsP t a)) ∧ H' = H := by
 refine ACalls.into Try.func126 cc126 rr126 fun hcl => ?_
 simp (maxSteps := 2000000) (disch := omega) only [Try.ntmps126, c126, r126, go_sem, seval, reduceCtorEq]
 refine Cont.mk (place_c a ht H) ?_
 by_cases hp : placeP t a
 rotate_left
 ·have hp' := decide_eq_false hp
  simp (maxSteps := 2000000) (disch := omega) only [hp', go_sem, seval, reduceCtorEq]
  exact Ret.keep ⟨bvf fun h => hp h.1, rfl⟩
 have hp' := decide_eq_true hp
 have hty := iaA_ty hp.1 hp.2
 generalize hx : tyAt t a = x at *
 have key : ∀ {B : Bool}, (B = true ↔ (x.form ≠ 0 ∧ x.form ≠ 5 ∧ x.form ≠ 6 ∧ x.form ≠ 8)) → bv B = bv (decide (holdsP t a)) := fun h => by
  refine bvx ?_
  rw [h, decide_eq_true_iff, holdsP, hx]
  exact ⟨fun h => ⟨hp, h⟩, fun h => h.2⟩
 by_cases h0 : x.form = 0
 ·simp (maxSteps := 2000000) (disch := omega) only [hp', hty, Ty.c, h0, go_sem, seval, reduceCtorEq]
  exact Ret.keep ⟨key (by simp [h0]), rfl⟩
 by_cases h5 : x.form = 5
 ·simp (maxSteps := 2000000) (disch := omega) only [hp', hty, Ty.c, h5, go_sem, seval, reduceCtorEq]
  exact Ret.keep ⟨key (by simp [h5]), rfl⟩
 by_cases h6 : x.form = 6
 ·simp (maxSteps := 2000000) (disch := omega) only [hp', hty, Ty.c, h6, go_sem, seval, reduceCtorEq]
  exact Ret.keep ⟨key (by simp [h6]), rfl⟩
 simp (maxSteps := 2000000) (disch := omega) only [hp', hty, Ty.c, h0, h5, h6, go_sem, seval, reduceCtorEq]
 exact Ret.keep ⟨key (by simp [h0, h5, h6]), rfl⟩
theorem form_c {t : List Ty} {H : List ABlk} {b : Nat} (n : Int) (ht : t.length ≤ 9000000) (hb : H[b]? = some (.cells [tv t])) : ACalls Try.prog 131 [iv n, .ptr b 0] H fun v H' => v = iv (formA t n) ∧ H' = H := by
 refine ACalls.into Try.func131 cc131 rr131 fun hcl => ?_
 have hsp : n < 0 ∨ (0 ≤ n ∧ n < t.length) ∨ (0 ≤ n ∧ (t.length : Int) ≤ n) := by omega
 rcases hsp with h | ⟨h, h'⟩ | ⟨h, h'⟩
 ·simp (maxSteps := 2000000) (disch := omega) only [Try.ntmps131, c131, r131, hb, List.length_map, go_sem, seval, reduceCtorEq]
  exact Ret.keep ⟨by rw [formA, if_neg (by omega)], rfl⟩
 ·have hty := iaA_ty h h'
  simp (maxSteps := 2000000) (disch := omega) only [Try.ntmps131, c131, r131, hb, List.length_map, hty, Ty.c, go_sem, seval, reduceCtorEq]
  exact Ret.keep ⟨by rw [formA, if_pos ⟨h, h'⟩], rfl⟩
 ·simp (maxSteps := 2000000) (disch := omega) only [Try.ntmps131, c131, r131, hb, List.length_map, go_sem, seval, reduceCtorEq]
  exact Ret.keep ⟨by rw [formA, if_neg (by omega)], rfl⟩
end Go.Proofs.Ythifjndenhjobaa
