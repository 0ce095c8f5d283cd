/- tables.fielded: few bases, and no field twice. -/
import Derived.Test.YthifjndenhjobaaGreatVT7
set_option linter.unusedSectionVars false
set_option linter.unusedSimpArgs false
set_option linter.unusedVariables false
set_option maxHeartbeats 4000000
set_option maxRecDepth 20000
namespace Go.Proofs.YthifjndenhjobaaGreat
open Go.RowKit
def c100l0 : AC :=
 sr [ib 18 .lss t17 t16]
 (.seq (.cond t18 (.skip) (.exit 2))
 (.seq (.block 3 (sr [kn 19 (.ia t15 t17 3), kn 20 (.ld t19 3 true), kn 8 (.al [ks, (.d (.v (.bool false))), kz]), ke (.st t8 t20 3)]
 (sr [im 21 t5, ia 22 t8 0, il 23 t22, kn 24 (.lk ⟨false, [.s]⟩ kz t21 t23 false), ib 25 .add t24 (kc 1), ke (.mu ⟨false, [.s]⟩ t21 t23 t25)]
 (sr [im 26 t5, ia 27 t8 0, il 28 t27, kn 29 (.lk ⟨false, [.s]⟩ kz t26 t28 false), ib 30 .gtr t29 (kc 1)]
 (.cond t30 (sr [im 4 kF]
 (.ret)) (.skip))))))
 (.reg [ib 31 .add t17 (kc 1), im 17 t31])))
def c100l1 : AC :=
 .seq (.block 1 (.seq (sr [im 12 t6, ib 13 .gtr t12 (kc 4)]
 (.cond t13 (sr [im 4 kF]
 (.ret)) (.skip)))
 (.seq (sr [ia 14 t3 6, il 15 t14, kn 16 (.len false t15), im 17 (kc 0)]
 (.block 2 (.loop c100l0)))
 (.seq (sr [ia 32 t3 5, il 33 t32, ib 34 .eql t33 (kc 0)]
 (.cond t34 (sr [im 4 kT]
 (.ret)) (.skip)))
 (.reg [im 35 t0, ia 36 t3 5, il 37 t36, kn 38 (.ia t35 t37 10), kn 39 (.ld t38 10 true), ke (.st t3 t39 10)])))))
 (.reg [im 10 t6, ib 11 .add t10 (kc 1), im 6 t11])
def c100 : AC :=
 sr [kn 3 (.bx t1), im 4 kF]
 (sr [kn 9 (.mkm ⟨false, [.s]⟩), im 5 t9]
 (sr [im 6 (kc 0)]
 (.block 0 (.loop c100l1))))
def r100 : List RC := [.t 4]
theorem cc100 : cK Tryz.f100 (hh 100) c100 := by unfold cK; kernel_rfl
theorem rr100 : resC Tryz.prog Tryz.f100 = some r100 := by kernel_rfl
def mkN (n : Nat) : List ByteArray -> List (Value × AV × Nat)
 | [] => []
 | s :: l => (.string s, iv 1, n) :: mkN (n + 1) l
theorem mkN_app : ∀ (n : Nat) (l : List ByteArray) (s : ByteArray), mkN n (l ++ [s]) = mkN n l ++ [(.string s, iv 1, n + l.length)]
 | n, [], s => by simp [mkN]
 | n, x :: l, s => by
  simp only [List.cons_append, mkN, mkN_app (n + 1) l s, List.length_cons]; rw [show n + 1 + l.length = n + (l.length + 1) by omega]
theorem keq_s (a b : ByteArray) : keq (.string a) (.string b) = decide (a = b) := rfl
theorem mkN_get {s : ByteArray} : ∀ {n : Nat} {l : List ByteArray}, (s ∈ l -> ∃ c, mapGet (mkN n l) (.string s) = some (iv 1, c)) /\ (s ∉ l -> mapGet (mkN n l) (.string s) = none)
 | n, [] => ⟨fun h => by simp at h, fun _ => rfl⟩
 | n, x :: l => by
  simp only [mkN, mapGet, keq_s]
  by_cases h : x = s
  ·subst h
   simp
  ·have := mkN_get (s := s) (n := n + 1) (l := l)
   simp only [decide_eq_true_eq, h, if_false, List.mem_cons, Ne.symm h, false_or]; exact this
theorem mapSet_get {k : Value} {v : AV} : ∀ {es : List (Value × AV × Nat)} {x : AV × Nat}, mapGet es k = some x -> mapGet (mapSet es k v) k = some (v, x.2)
 | e :: r, x, h => by
  simp only [mapGet, mapSet] at h ⊢
  split at h
  ·rename_i hk
   rw [if_pos hk]; simp only [mapGet]; rw [if_pos hk]
   cases h; rfl
  ·rename_i hk
   rw [if_neg hk]; simp only [mapGet]; rw [if_neg hk]; exact mapSet_get h
theorem put_new {es : List (Value × AV × Nat)} {k : Value} {v : AV} {ck : Nat} (h : mapGet es k = none) : mapPut ck es k v = (ck + 1, es ++ [(k, v, ck)]) := by simp only [mapPut, h]
theorem put_old {es : List (Value × AV × Nat)} {k : Value} {v : AV} {ck : Nat} {x : AV × Nat} (h : mapGet es k = some x) : mapPut ck es k v = (ck, mapSet es k v) := by simp only [mapPut, h]
theorem keyOf_s (s : ByteArray) : keyOf (sv s) = some (.string s) := rfl
theorem fits_s {s : ByteArray} (h : s.size <= 140737488355328) : keyFits ⟨false, [.s]⟩ (.string s) = true := by simp only [keyFits, kcFit, decide_eq_true_eq]; exact Nat.le_trans h (by decide)
theorem hs_1 (H : List ABlk) (a b c d : ABlk) : (H ++ [a, b, c]).set (H.length + 1) d = H ++ [a, d, c] := by rw [List.set_append_right _ _ (by omega)]; simp
abbrev ktN : KT := ⟨false, [.s]⟩
abbrev SX (H : List ABlk) (t : List Ty) (n : Int) : List AV := [tv t, .any, .any, .ptr H.length 0, bv false, .mp (H.length + 1), iv n]
abbrev hx2 (x : Ty) (l : List ByteArray) : List ABlk := [.cells x.cs, .map ktN l.length (mkN 0 l)]
theorem mkN_refs (kt : KT) (ck : Nat) : ∀ (n : Nat) (l : List ByteArray), (ABlk.map kt ck (mkN n l)).refs = []
 | n, [] => rfl
 | n, s :: l => by
  have := mkN_refs kt ck (n + 1) l; simp [mkN, ABlk.refs, refs] at this ⊢; exact this
theorem cl_hx2 {H : List ABlk} (h : cl H) {x : Ty} {l : List ByteArray} : cl (H ++ hx2 x l) := by
 refine h.append fun k hk r hr => ?_
 simp only [List.mem_cons, List.not_mem_nil, or_false] at hk; rcases hk with rfl | rfl
 ·simp [ABlk.refs, refs.refsL, refs, Ty.cs] at hr
 ·rw [mkN_refs] at hr; simp at hr
theorem fielded_l0 {t : List Ty} {x : Ty} {H : List ABlk} (hcl : cl H) (hfl : x.fields.length <= 9000000) (hfn : ∀ f ∈ x.fields, f.name.size <= 140737488355328) (bs : Int) (l0 : List ByteArray) (hl0 : l0.Nodup) :
 W Tryz.prog (hh 100) H.length (.loop c100l0) (SX H t bs ++ List.replicate 8 .any ++ [fdv x.fields, iv x.fields.length, iv (0 : Nat)] ++ List.replicate 22 .any) (H ++ hx2 x l0)
  (fun e s H' => (e = .exit 2 /\ s = SX H t bs ++ List.replicate 8 .any ++ [fdv x.fields, iv x.fields.length, iv (x.fields.length : Nat), bv false] ++ List.replicate 21 .any /\ H' = H ++ hx2 x (l0 ++ x.fields.map Fd.name) /\ (l0 ++ x.fields.map Fd.name).Nodup) \/
    (e = .ret /\ resA [RC.t 4] s H' = some (bv false) /\ (∃ l, H' = H ++ l) /\ ¬ (l0 ++ x.fields.map Fd.name).Nodup)) := by
 obtain ⟨S, hS⟩ : ∃ S : Nat -> List AV, ∀ i, S i = SX H t bs ++ List.replicate 8 .any ++ [fdv x.fields, iv x.fields.length, iv i] ++ List.replicate 22 .any := ⟨_, fun _ => rfl⟩; obtain ⟨L, hL⟩ : ∃ L : Nat -> List ByteArray, ∀ i, L i = l0 ++ (x.fields.take i).map Fd.name := ⟨_, fun _ => rfl⟩; have hL0 : L 0 = l0 := by rw [hL]; simp
 have hLn : ∀ i, i < x.fields.length -> L (i + 1) = L i ++ [(x.fields.getD i default).name] := fun i hi => by
  rw [hL, hL, getD_take (d := default) hi]; simp
 have hLF : L x.fields.length = l0 ++ x.fields.map Fd.name := by rw [hL, List.take_length]
 have hsub : ∀ i, i <= x.fields.length -> List.Sublist (L i) (L x.fields.length) := fun i hi => by
  rw [hL, hL, List.take_length]; exact (List.Sublist.refl _).append ((List.take_sublist _ _).map _)
 refine W.loopG (γ := Nat) (fun i => x.fields.length - i) S (fun i => H ++ hx2 x (L i)) (fun i => i <= x.fields.length /\ (L i).Nodup) 0 (by rw [hS, hL0]; exact Wk.refl) ⟨Nat.zero_le _, by rw [hL0]; exact hl0⟩ (fun i hi => ?_); obtain ⟨q1, q2⟩ := hi; simp (disch := omega) only [c100l0, hS, apS, go_sem, seval, reduceCtorEq]; refine Br.dec (fun hc => ?_) (fun hc => ?_) <;> simp (disch := omega) only [go_sem, seval, reduceCtorEq]
 ·have hfa := iaA_fd (t := x.fields) (a := i) (by omega) (by omega)
  have e1 : fdAt x.fields (i : Int) = x.fields.getD i default := rfl; rw [e1] at hfa; have hn := hLn i (by omega); have hsb := hsub (i + 1) (by omega); rw [hn] at hsb; have hsz := fits_s (hfn (x.fields.getD i default) (by rw [gD, gE (by omega)]; exact List.getElem_mem _))
  generalize x.fields.getD i default = f at *
  by_cases hm : f.name ∈ L i
  ·obtain ⟨c, hg⟩ := (mkN_get (s := f.name) (n := 0) (l := L i)).1 hm
   have hp := put_old (ck := (L i).length) (v := iv 2) hg; have hg2 := mapSet_get (v := iv 2) hg; simp (disch := omega) only [hfa, Fd.c, keyOf_s, hsz, mapOf, hg, hp, hg2, hb_0, hb_1, hb_2, hs_2, hs_1, hb_0', hb_1', apS, go_sem, seval, reduceCtorEq]; refine .inr ⟨⟨_, rfl⟩, fun hnd => ?_⟩; rw [<- hLF] at hnd; have := hnd.sublist hsb; rw [List.nodup_append] at this; exact this.2.2 _ hm _ (List.mem_singleton.2 rfl) rfl
  ·have hg := (mkN_get (s := f.name) (n := 0) (l := L i)).2 hm
   have hp := put_new (ck := (L i).length) (v := iv 1) hg; have hap := mkN_app 0 (L i) f.name; rw [Nat.zero_add] at hap; have hg2 := mapGet_app (z := iv 1) (c := (L i).length) hg (show keq (.string f.name) (.string f.name) = true by simp [keq_s]); simp (disch := omega) only [hfa, Fd.c, keyOf_s, hsz, mapOf, hg, hp, hg2, hb_0, hb_1, hb_2, hs_2, hs_1, hb_0', hb_1', apS, go_sem, seval, reduceCtorEq]; rw [show ∀ (A : List ABlk) (p q r : ABlk), A ++ [p, q, r] = (A ++ [p, q]) ++ [r] from fun A p q r => by simp, <- hap, <- hn, show (L i).length + 1 = (L (i + 1)).length by rw [hn]; simp]; refine Nxt.mk (i + 1) (by omega) (Wk.drop (WkL.tw 18 (hS _)) (by simp) ?_ ?_) ⟨by omega, ?_⟩
   ·exact cl_hx2 hcl
   ·rw [hS]; simp [refs, refs.refsL]
   ·rw [hn, List.nodup_append]
    exact ⟨q2, by simp, fun a ha b hb e => hm (by rw [List.mem_singleton] at hb; rw [<- hb, <- e]; exact ha)⟩
 ·have hie : i = x.fields.length := by omega
  subst hie; rw [<- hLF]; exact .inl ⟨rfl, rfl, q2⟩
structure TBase (t : List Ty) : Prop where
 len : t.length <= 256
 fd : ∀ x ∈ t, x.fields.length <= 9000000 /\ ∀ f ∈ x.fields, f.name.size <= 140737488355328
 base : ∀ a : Int, 0 <= a -> a < t.length -> (tyAt t a).form = 9 -> (tyAt t a).base = 0 \/ (0 <= (tyAt t a).base /\ (tyAt t a).base < t.length /\ (tyAt t (tyAt t a).base).form = 9)
theorem fielded_c {t : List Ty} (ht : TBase t) {a0 : Int} (h0 : 0 <= a0 /\ a0 < t.length) (f9 : (tyAt t a0).form = 9) (H : List ABlk) : ACalls Tryz.prog 100 [tv t, (tyAt t a0).av] H fun v H' => (∃ B, v = bv B /\ (B = true ↔ ChainP t a0)) /\ H' = H := by
 refine ACalls.into Tryz.func100 cc100 rr100 fun hcl => ?_
 have htl := ht.len; simp (disch := omega) only [Tryz.ntmps100, c100, r100, apS, go_sem, seval, reduceCtorEq]; obtain ⟨S, hS⟩ : ∃ S : Nat -> List AV, ∀ n, S n = SX H t n ++ List.replicate 33 .any := ⟨_, fun _ => rfl⟩; refine W.loopG (γ := Nat × Int × List Int) (fun g => 6 - g.1) (fun g => S g.1) (fun g => H ++ hx2 (tyAt t g.2.1) (namesL t g.2.2)) (fun g => g.1 <= 5 /\ (0 <= g.2.1 /\ g.2.1 < t.length) /\ (tyAt t g.2.1).form = 9 /\ chain t 5 a0 = g.2.2 ++ chain t (5 - g.1) g.2.1 /\ g.2.2.length = g.1 /\ (namesL t g.2.2).Nodup) (0, a0, []) (by simp only [hS]; exact Wk.slots WkL.wk) ⟨by omega, h0, f9, by simp, rfl, by simp [namesL]⟩ (fun g hg => ?_); obtain ⟨n, a, vs⟩ := g; obtain ⟨q1, q2, q3, q4, q5, q6⟩ := hg; simp only at q1 q2 q3 q4 q5 q6; have hx := ht.fd _ (tyAt_mem q2.1 q2.2); have hba := ht.base a q2.1 q2.2 q3; have fin : ∀ {v : Bool}, (v = true ↔ ChainP t a0) -> ∀ l, Ret [RC.t 4] H.length (fun v H' => (∃ B, v = bv B /\ (B = true ↔ ChainP t a0)) /\ H' = H) (some (bv v)) (H ++ l) := fun {v} e l => Ret.drop (bv v) H (Nat.le_refl _) hcl (.rfl _) (by simp [refs]) ⟨⟨v, rfl, e⟩, rfl⟩
 have hnm : namesL t (chain t 5 a0) = (namesL t vs ++ (tyAt t a).fields.map Fd.name) ++ namesL t ((chain t (5 - n) a).tail) := by
  rw [q4]; have : ∀ k, namesL t (chain t k a) = (tyAt t a).fields.map Fd.name ++ namesL t ((chain t k a).tail) := fun k => by cases k <;> simp [chain, namesL]
  rw [namesL, List.flatMap_append, List.append_assoc]; exact congrArg _ (this _)
 simp (disch := omega) only [c100l1, hS, apS, go_sem, seval, reduceCtorEq]; refine Br.dec (fun hc => ?_) (fun hc => ?_) <;> simp (disch := omega) only [Ty.cs, hb_0', hb_1', lnm, go_sem, seval, reduceCtorEq]
 ·refine fin ⟨fun h => by simp at h, fun h => ?_⟩ _
  have := h.1; rw [q4, List.length_append, show 5 - n = 0 by omega] at this; simp [chain] at this; omega
 ·refine W.weak (Wk.slots WkL.wk) (W.mono (fielded_l0 (x := tyAt t a) hcl hx.1 hx.2 n (namesL t vs) q6) ?_)
  rintro e s H' (⟨rfl, rfl, rfl, h3⟩ | ⟨rfl, hr, ⟨l, rfl⟩, h3⟩)
  ·by_cases hz : (tyAt t a).base = 0
   ·have kz := beq_iff_eq.2 hz
    have kz' := decide_eq_true hz; simp (disch := omega) only [Ty.cs, kz, kz', hb_0', hb_1', apS, go_sem, seval, reduceCtorEq]; refine fin ⟨fun _ => ?_, fun _ => rfl⟩ _; have hc5 : chain t (5 - n) a = [a] := by
     rw [show 5 - n = (4 - n) + 1 by omega]; simp [chain, hz]
    refine ⟨by rw [q4, hc5, List.length_append, q5]; simp; omega, ?_⟩; rw [hnm, hc5]
    simpa [namesL] using h3
   ·have kz := beq_eq_false_iff_ne.2 hz
    have kz' := decide_eq_false hz; obtain ⟨b1, b2, b3⟩ := hba.resolve_left hz; have hty := iaA_ty b1 b2; have hc5 : chain t (5 - n) a = a :: chain t (5 - (n + 1)) (tyAt t a).base := by
     rw [show 5 - n = (5 - (n + 1)) + 1 by omega]; simp [chain, hz]
    simp (disch := omega) only [Ty.cs, kz, kz', hb_0', hb_1', hty, Ty.c, apS, go_sem, seval, reduceCtorEq]; have hn1 : namesL t (vs ++ [a]) = namesL t vs ++ (tyAt t a).fields.map Fd.name := by simp [namesL]
    refine Nxt.mk (n + 1, (tyAt t a).base, vs ++ [a]) (by simp only; omega) ?_ ⟨by simp only; omega, ⟨b1, b2⟩, b3, by simp only; rw [q4, hc5]; simp, by simp [q5], by simp only; rw [hn1]; exact h3⟩; simp only [hn1]; rw [show (namesL t vs).length + (tyAt t a).fields.length = (namesL t vs ++ (tyAt t a).fields.map Fd.name).length by simp]; exact Wk.slots WkL.wk
  ·refine (?_ : Ret _ _ _ (resA [RC.t 4] s (H ++ l)) (H ++ l))
   rw [hr]; refine fin ⟨fun h => by simp at h, fun h => absurd ?_ h3⟩ _; have := h.2; rw [hnm] at this; exact (List.nodup_append.1 this).1
def c95 : AC :=
 sr [kn 2 (.bx t0), im 4 kF]
 (sr [ia 5 t2 0, il 6 t5, im 7 t1, ib 8 .eql t6 t7, im 9 t8, ky 10 9 (.fa t2 1), ky 11 9 (.ld t10 1 false), ky 12 9 (.bin .eql t11 (.c ks)), kn 13 (.pick t9 t12 kF), im 14 t13, ky 15 14 (.fa t2 2), ky 16 14 (.ld t15 1 false), ky 17 14 (.bin .eql t16 (.c ks)), kn 18 (.pick t14 t17 kF), im 19 t18, ky 20 19 (.fa t2 3), ky 21 19 (.ld t20 1 false), ky 22 19 (.bin .eql t21 (kc 0)), kn 23 (.pick t19 t22 kF), im 24 t23, ky 25 24 (.fa t2 4), ky 26 24 (.ld t25 1 false), ky 27 24 (.bin .eql t26 (kc 0)), kn 28 (.pick t24 t27 kF), im 29 t28, ky 30 29 (.fa t2 5), ky 31 29 (.ld t30 1 false), ky 32 29 (.bin .eql t31 (kc 0)), kn 33 (.pick t29 t32 kF), im 34 t33, ky 35 34 (.fa t2 8), ky 36 34 (.ld t35 1 false), ky 37 34 (.bin .eql t36 (kc 0)), kn 38 (.pick t34 t37 kF), im 39 t38, ky 40 39 (.fa t2 9), ky 41 39 (.ld t40 1 false), ky 42 39 (.bin .eql t41 (kc 0)), kn 43 (.pick t39 t42 kF), im 44 t43, ky 45 44 (.fa t2 6), ky 46 44 (.ld t45 1 false), ky 47 44 (.len false t46), ky 48 44 (.bin .eql t47 (kc 0)), kn 49 (.pick t44 t48 kF), im 50 t49, ky 51 50 (.fa t2 7), ky 52 50 (.ld t51 1 false), ky 53 50 (.len false t52), ky 54 50 (.bin .eql t53 (kc 0)), kn 55 (.pick t50 t54 kF), im 4 t55]
 (.ret))
def r95 : List RC := [.t 4]
def c98 : AC :=
 sr [im 4 kF]
 (sr [im 5 t0, im 6 t1, ic 7 106 [t5, t6], ib 8 .geq t7 (kc 0), im 4 t8]
 (.ret))
def r98 : List RC := [.t 4]
def c99 : AC :=
 sr [kn 2 (.bx t0), im 3 kF]
 (sr [ia 4 t2 0, il 5 t4, ib 6 .eql t5 (kc 9), im 7 t6, ky 8 7 (.ld t1 1 false), ky 9 7 (.ld t2 10 true), ky 10 7 (.call 100 [t8, t9]), ky 11 7 (.un .not t10), kn 12 (.pick t7 t11 kF), im 3 t12]
 (.ret))
def r99 : List RC := [.t 3]
def c106l0 : AC :=
 sr [ib 9 .lss t8 t7]
 (.seq (.cond t9 (.skip) (.exit 0))
 (.seq (.block 1 (sr [im 10 t8, im 5 t10]
 (sr [im 11 t1, im 12 t0, im 13 t5, kn 14 (.ia t12 t13 10), kn 15 (.ld t14 10 true), kn 16 (.callv t11 [t15])]
 (.cond t16 (sr [im 17 t5, im 4 t17]
 (.ret)) (.skip)))))
 (.reg [ib 18 .add t8 (kc 1), im 8 t18])))
def c106 : AC :=
 sr [im 4 (kc 0)]
 (.seq (sr [im 6 t0, kn 7 (.len false t6), im 8 (kc 0)]
 (.block 0 (.loop c106l0)))
 (sr [kn 4 (.mv (kc (-1)))]
 (.ret)))
def r106 : List RC := [.t 4]
theorem cc95 : cK Tryz.f95 (hh 95) c95 := by unfold cK; kernel_rfl
theorem rr95 : resC Tryz.prog Tryz.f95 = some r95 := by kernel_rfl
theorem cc98 : cK Tryz.f98 (hh 98) c98 := by unfold cK; kernel_rfl
theorem rr98 : resC Tryz.prog Tryz.f98 = some r98 := by kernel_rfl
theorem cc99 : cK Tryz.f99 (hh 99) c99 := by unfold cK; kernel_rfl
theorem rr99 : resC Tryz.prog Tryz.f99 = some r99 := by kernel_rfl
theorem cc106 : cK Tryz.f106 (hh 106) c106 := by unfold cK; kernel_rfl
theorem rr106 : resC Tryz.prog Tryz.f106 = some r106 := by kernel_rfl
theorem bare_c {x : Ty} (n : Int) (hf : x.fields.length <= 9000000) (hp : x.params.length <= 9000000) (H : List ABlk) : ACalls Tryz.prog 95 [x.av, iv n] H fun v H' => v = bv (decide (x = bt n)) /\ H' = H := by
 obtain ⟨B, hB⟩ : ∃ B, B = decide (x = bt n) := ⟨_, rfl⟩; rw [<- hB]; refine ACalls.into Tryz.func95 cc95 rr95 fun hcl => ?_
 have no : ∀ {p : Prop}, (x = bt n -> p) -> ¬ p -> false = B := fun h hp => by rw [hB]; exact (decide_eq_false fun e => hp (h e)).symm
 have fin : ∀ {v : Bool}, v = B -> ∀ l, Ret r95 H.length (fun v H' => v = bv B /\ H' = H) (some (bv v)) (H ++ l) := fun {v} e l => Ret.drop (bv B) H (Nat.le_refl _) hcl (by rw [e]; exact .rfl _) (by simp [refs]) ⟨rfl, rfl⟩
 simp (disch := omega) only [Tryz.ntmps95, c95, r95, Ty.cs, lnm, go_sem, seval, reduceCtorEq]; refine Br.yes (fun h1 => ?_) (fun h1 => ?_) <;> simp (disch := omega) only [h1, Ty.cs, lnm, go_sem, seval, reduceCtorEq]
 rotate_left
 ·exact fin (no (fun e => congrArg Ty.form e) (of_decide_eq_false h1)) _
 refine Br.yes (fun h2 => ?_) (fun h2 => ?_) <;> simp (disch := omega) only [h2, Ty.cs, lnm, go_sem, seval, reduceCtorEq]
 rotate_left
 ·exact fin (no (fun e => congrArg Ty.mod e) (of_decide_eq_false h2)) _
 refine Br.yes (fun h3 => ?_) (fun h3 => ?_) <;> simp (disch := omega) only [h3, Ty.cs, lnm, go_sem, seval, reduceCtorEq]
 rotate_left
 ·exact fin (no (fun e => congrArg Ty.name e) (of_decide_eq_false h3)) _
 refine Br.yes (fun h4 => ?_) (fun h4 => ?_) <;> simp (disch := omega) only [h4, Ty.cs, lnm, go_sem, seval, reduceCtorEq]
 rotate_left
 ·exact fin (no (fun e => congrArg Ty.len e) (of_decide_eq_false h4)) _
 refine Br.yes (fun h5 => ?_) (fun h5 => ?_) <;> simp (disch := omega) only [h5, Ty.cs, lnm, go_sem, seval, reduceCtorEq]
 rotate_left
 ·exact fin (no (fun e => congrArg Ty.elem e) (of_decide_eq_false h5)) _
 refine Br.yes (fun h6 => ?_) (fun h6 => ?_) <;> simp (disch := omega) only [h6, Ty.cs, lnm, go_sem, seval, reduceCtorEq]
 rotate_left
 ·exact fin (no (fun e => congrArg Ty.base e) (of_decide_eq_false h6)) _
 refine Br.yes (fun h7 => ?_) (fun h7 => ?_) <;> simp (disch := omega) only [h7, Ty.cs, lnm, go_sem, seval, reduceCtorEq]
 rotate_left
 ·exact fin (no (fun e => congrArg Ty.result e) (of_decide_eq_false h7)) _
 refine Br.yes (fun h8 => ?_) (fun h8 => ?_) <;> simp (disch := omega) only [h8, Ty.cs, lnm, go_sem, seval, reduceCtorEq]
 rotate_left
 ·exact fin (no (fun e => congrArg Ty.desc e) (of_decide_eq_false h8)) _
 refine Br.yes (fun h9 => ?_) (fun h9 => ?_) <;> simp (disch := omega) only [h9, Ty.cs, lnm, go_sem, seval, reduceCtorEq]
 rotate_left
 ·exact fin (no (fun e => congrArg (fun z : Ty => (z.fields.length : Int)) e) (of_decide_eq_false h9)) _
 refine fin ?_ _; rw [hB]
 replace h1 := of_decide_eq_true h1
 replace h2 := of_decide_eq_true h2
 replace h3 := of_decide_eq_true h3
 replace h4 := of_decide_eq_true h4
 replace h5 := of_decide_eq_true h5
 replace h6 := of_decide_eq_true h6
 replace h7 := of_decide_eq_true h7
 replace h8 := of_decide_eq_true h8
 replace h9 := of_decide_eq_true h9
 obtain ⟨a1, a2, a3, a4, a5, a6, a7, a8, a9, a10⟩ := x; simp only at h1 h2 h3 h4 h5 h6 h7 h8 h9; have e7 : a7 = [] := List.eq_nil_of_length_eq_zero (by omega); subst h1 h2 h3 h4 h5 h6 h7 h8 e7; simp only [bt]
 cases a8 with
 | nil => simp
 | cons p l => simp; omega
theorem findT_c {t : List Ty} (f : FuncId) (caps : List AV) (P : Nat -> Prop) (hf : callOk Tryz.prog f = true) (ht : t.length <= 9000000) {H : List ABlk} (hp : ∀ i, i < t.length -> ACalls Tryz.prog f ([(t.getD i default).av] ++ caps) H fun v H' => (∃ B, v = bv B /\ (B = true ↔ P i)) /\ H' = H) :
 ACalls Tryz.prog 106 [tv t, .fn f caps] H fun v H' => (∃ n : Int, v = iv n /\ (0 <= n ↔ ∃ i, i < t.length /\ P i)) /\ H' = H := by
 refine ACalls.into Tryz.func106 cc106 rr106 fun hcl => ?_
 simp (disch := omega) only [Tryz.ntmps106, c106, r106, lnm, go_sem, seval, reduceCtorEq]; refine W.loopG (γ := Nat) (fun i => t.length - i) (fun i => [tv t, .fn f caps, .any, .any, .any, .any, .any, iv t.length, iv i] ++ List.replicate 10 .any) (fun _ => H) (fun i => i <= t.length /\ ∀ j, j < i -> ¬ P j) 0 (Wk.slots WkL.wk) ⟨by omega, fun j hj => by omega⟩ (fun i hi => ?_); obtain ⟨q1, q2⟩ := hi; simp (disch := omega) only [c106l0, go_sem, seval, reduceCtorEq]; refine Br.dec (fun hc => ?_) (fun hc => ?_) <;> simp (disch := omega) only [go_sem, seval, reduceCtorEq]
 ·have hia := iaA_ty (t := t) (a := i) (by omega) (by omega)
  have e : tyAt t (i : Int) = t.getD i default := rfl; rw [e] at hia; simp (disch := omega) only [hia, Ty.c, go_sem, seval, reduceCtorEq]; refine ⟨hf, Cont.rel (hp i (by omega)) ?_⟩; rintro v H' ⟨⟨B, rfl, hB⟩, rfl⟩
  cases B with
  | true =>
   simp (disch := omega) only [go_sem, seval, reduceCtorEq]; exact Ret.keep ⟨⟨i, rfl, fun _ => ⟨i, by omega, hB.1 rfl⟩, fun _ => by omega⟩, rfl⟩
  | false =>
   simp (disch := omega) only [go_sem, seval, reduceCtorEq]; refine Nxt.mk (i + 1) (by omega) (Wk.slots WkL.wk) ⟨by omega, fun j hj => ?_⟩; rcases Nat.lt_or_ge j i with h' | h'
   ·exact q2 j h'
   ·rw [show j = i by omega]; exact fun h => by have := hB.2 h; cases this
 ·refine Ret.keep ⟨⟨-1, rfl, fun h => by omega, fun ⟨j, h1, h2⟩ => ?_⟩, rfl⟩
  exact absurd h2 (q2 j (by omega))
theorem hasT_c {t : List Ty} (f : FuncId) (caps : List AV) (P : Nat -> Prop) (hf : callOk Tryz.prog f = true) (ht : t.length <= 9000000) {H : List ABlk} (hp : ∀ i, i < t.length -> ACalls Tryz.prog f ([(t.getD i default).av] ++ caps) H fun v H' => (∃ B, v = bv B /\ (B = true ↔ P i)) /\ H' = H) :
 ACalls Tryz.prog 98 [tv t, .fn f caps] H fun v H' => (∃ B, v = bv B /\ (B = true ↔ ∃ i, i < t.length /\ P i)) /\ H' = H := by
 refine ACalls.into Tryz.func98 cc98 rr98 fun hcl => ?_
 simp (disch := omega) only [Tryz.ntmps98, c98, r98, go_sem, seval, reduceCtorEq]; refine Cont.rel (findT_c f caps P hf ht hp) ?_; rintro v H' ⟨⟨n, rfl, hn⟩, rfl⟩; simp (disch := omega) only [go_sem, seval, reduceCtorEq]; exact Ret.keep ⟨⟨_, rfl, by rw [decide_eq_true_eq]; exact hn⟩, rfl⟩
def Odd1 (t : List Ty) (i : Nat) : Prop := (t.getD i default).form = 9 /\ ¬ ChainP t i
theorem odd1_c {t : List Ty} (ht : TBase t) {H : List ABlk} {b : Nat} (hb : H[b]? = some (.cells [tv t])) (i : Nat) (hi : i < t.length) : ACalls Tryz.prog 99 ([(t.getD i default).av] ++ [.ptr b 0]) H fun v H' => (∃ B, v = bv B /\ (B = true ↔ Odd1 t i)) /\ H' = H := by
 refine ACalls.into Tryz.func99 cc99 rr99 fun hcl => ?_
 have hbl := (List.getElem?_eq_some_iff.1 hb).1; have hb' : ∀ l : List ABlk, (H ++ l)[b]? = some (.cells [tv t]) := fun l => by rw [List.getElem?_append_left hbl, hb]
 have fin : ∀ {v : Bool}, (v = true ↔ Odd1 t i) -> ∀ l, Ret r99 H.length (fun v H' => (∃ B, v = bv B /\ (B = true ↔ Odd1 t i)) /\ H' = H) (some (bv v)) (H ++ l) := fun {v} e l => Ret.drop (bv v) H (Nat.le_refl _) hcl (.rfl _) (by simp [refs]) ⟨⟨v, rfl, e⟩, rfl⟩
 have hft := fielded_c ht (a0 := (i : Int)) (by omega); have e : tyAt t (i : Int) = t.getD i default := rfl; have hO : Odd1 t i ↔ (t.getD i default).form = 9 /\ ¬ ChainP t i := Iff.rfl; rw [e] at hft
 generalize t.getD i default = x at *
 by_cases h9 : x.form = 9
 ·have k := decide_eq_true h9
  simp (disch := omega) only [Tryz.ntmps99, c99, r99, Ty.cs, k, hb', apS, go_sem, seval, reduceCtorEq]; refine Cont.rel (hft h9 _) ?_; rintro v H' ⟨⟨B, rfl, hB⟩, rfl⟩; simp (disch := omega) only [go_sem, seval, reduceCtorEq]; refine fin (v := !B) ?_ _; rw [hO, <- hB]
  cases B <;> simp [h9]
 ·have k := decide_eq_false h9
  simp (disch := omega) only [Tryz.ntmps99, c99, r99, Ty.cs, k, hb', apS, go_sem, seval, reduceCtorEq]; exact fin (v := false) (by rw [hO]; simp [h9]) _
end Go.Proofs.YthifjndenhjobaaGreat
