/- The reference: a record's bases and fields. -/
import Derived.Test.YthifjndenhjobaaGreatVP5
set_option linter.unusedSectionVars false
set_option linter.unusedSimpArgs false
set_option linter.unusedVariables false
set_option maxHeartbeats 4000000
set_option maxRecDepth 20000
namespace Go.Proofs.YthifjndenhjobaaGreat
open Go.RowKit
def c92l0 : AC :=
 .seq (sr [im 51 t10, im 52 t9, kn 53 (.len false t52), ib 54 .lss t51 t53]
 (.cond t54 (.skip) (.exit 2)))
 (.seq (.block 3 (.seq (sr [im 57 t7, im 58 t9, im 59 t10, kn 60 (.ia t58 t59 3), ia 61 t60 0, il 62 t61, kn 63 (.lk ⟨false, [.s]⟩ kz t57 t62 false), ib 64 .gtr t63 (kc 0), im 65 t64, ko 66 65 (.mv t9), ko 67 65 (.mv t10), ko 68 65 (.ia t66 t67 3), ko 69 65 (.fa t68 0), ko 70 65 (.ld t69 1 false), ko 71 65 (.call 89 [t70]), ko 72 65 (.un .not t71), kn 73 (.pick t65 kT t72), im 74 t73, ko 75 74 (.mv t0), ko 76 74 (.mv t9), ko 77 74 (.mv t10), ko 78 74 (.ia t76 t77 3), ko 79 74 (.fa t78 2), ko 80 74 (.ld t79 1 false), ko 81 74 (.call 90 [t75, t80]), ko 82 74 (.un .not t81), kn 83 (.pick t74 kT t82)]
 (.cond t83 (sr [im 4 kF]
 (.ret)) (.skip)))
 (.reg [im 84 t7, im 85 t9, im 86 t10, kn 87 (.ia t85 t86 3), ia 88 t87 0, il 89 t88, ke (.mu ⟨false, [.s]⟩ t84 t89 (kc 1))])))
 (.reg [im 55 t10, ib 56 .add t55 (kc 1), im 10 t56]))
def c92l1 : AC :=
 .seq (sr [im 34 t8, im 35 t5, kn 36 (.len false t35), ib 37 .lss t34 t36]
 (.cond t37 (.skip) (.exit 0)))
 (.seq (.block 1 (sr [im 40 t0, im 41 t5, im 42 t8, kn 43 (.ia t41 t42 1), il 44 t43, kn 45 (.ia t40 t44 10), ia 46 t45 6, il 47 t46, im 9 t47]
 (.seq (sr [im 48 t9, kn 49 (.len false t48), ib 50 .gtr t49 (kc 64)]
 (.cond t50 (sr [im 4 kF]
 (.ret)) (.skip)))
 (sr [im 10 (kc 0)]
 (.block 2 (.loop c92l0))))))
 (.reg [im 38 t8, ib 39 .add t38 (kc 1), im 8 t39]))
def c92 : AC :=
 sr [im 4 kF]
 (sr [im 12 t0, im 13 t1, ic 14 101 [t12, t13], im 11 t14, kn 15 (.ext t11 0), kn 16 (.ext t11 1), im 5 t15, im 6 t16]
 (.seq (sr [im 17 t6, kn 18 (.un .not t17), im 19 t18, ko 20 19 (.mv t5), ko 21 19 (.len false t20), ko 22 19 (.bin .gtr t21 (kc 5)), kn 23 (.pick t19 kT t22), im 24 t23, ko 25 24 (.mv t0), ko 26 24 (.mv t1), ko 27 24 (.ia t25 t26 10), ko 28 24 (.fa t27 6), ko 29 24 (.ld t28 1 false), ko 30 24 (.len false t29), ko 31 24 (.bin .gtr t30 (kc 64)), kn 32 (.pick t24 kT t31)]
 (.cond t32 (sr [im 4 kF]
 (.ret)) (.skip)))
 (sr [kn 33 (.mkm ⟨false, [.s]⟩), im 7 t33]
 (.seq (sr [im 8 (kc 0)]
 (.block 0 (.loop c92l1)))
 (sr [im 4 kT]
 (.ret))))))
def r92 : List RC := [.t 4]
def c101l0 : AC :=
 .seq (sr [im 9 t0, im 10 t1, kn 11 (.ia t9 t10 10), ia 12 t11 5, il 13 t12, ib 14 .neq t13 (kc 0)]
 (.cond t14 (.skip) (.exit 0)))
 (.block 1 (sr [im 15 t0, im 16 t1, kn 17 (.ia t15 t16 10), ia 18 t17 5, il 19 t18, im 1 t19]
 (.seq (sr [im 20 t0, im 21 t1, ic 22 91 [t20, t21], kn 23 (.un .not t22), im 24 t23, ko 25 24 (.mv t0), ko 26 24 (.mv t1), ko 27 24 (.ia t25 t26 10), ko 28 24 (.fa t27 0), ko 29 24 (.ld t28 1 false), ko 30 24 (.bin .neq t29 (kc 9)), kn 31 (.pick t24 kT t30), im 32 t31, ko 33 32 (.mv t6), ko 34 32 (.len false t33), ko 35 32 (.bin .gtr t34 (kc 5)), kn 36 (.pick t32 kT t35)]
 (.cond t36 (sr [im 4 (.c .esl), im 5 kF]
 (.ret)) (.skip)))
 (.reg [im 37 t6, im 38 t1, kn 39 (.bs .im 3 1 [t38]), kn 40 (.app .gr 3 1 8 t37 t39), im 6 t40]))))
def c101 : AC :=
 sr [im 4 (.c .esl), im 5 kF]
 (sr [im 7 t1, kn 8 (.bs .gr 3 1 [t7]), im 6 t8]
 (.seq (.block 0 (.loop c101l0))
 (sr [im 41 t6, im 4 t41, im 5 kT]
 (.ret))))
def r101 : List RC := [.t 4, .t 5]
theorem cc92 : cK Tryz.f92 (hh 92) c92 := by unfold cK; kernel_rfl
theorem rr92 : resC Tryz.prog Tryz.f92 = some r92 := by kernel_rfl
theorem cc101 : cK Tryz.f101 (hh 101) c101 := by unfold cK; kernel_rfl
theorem rr101 : resC Tryz.prog Tryz.f101 = some r101 := by kernel_rfl
def basR (t : List Ty) : Nat -> Int -> Option (List Int)
 | 0, a => if (tyAt t a).base = 0 then some [] else none
 | n + 1, a => if (tyAt t a).base = 0 then some [] else
  if placeP t (tyAt t a).base /\ (tyAt t (tyAt t a).base).form = 9 then (basR t n (tyAt t a).base).map ((tyAt t a).base :: ·) else none
theorem bas_zero {t : List Ty} {n : Nat} {a : Int} (h : (tyAt t a).base = 0) : basR t n a = some [] := by cases n <;> simp [basR, h]
theorem bas_place {t : List Ty} : ∀ {n : Nat} {a : Int} {l : List Int}, basR t n a = some l -> ∀ b ∈ l, placeP t b
 | 0, a, l, h => by
  simp only [basR] at h
  split at h
  ·cases h; simp
  ·cases h
 | n + 1, a, l, h => by
  simp only [basR] at h
  split at h
  ·cases h; simp
  ·split at h
   ·rename_i hp
    obtain ⟨r, hr, rfl⟩ := Option.map_eq_some_iff.1 h
    intro b hb
    rcases List.mem_cons.1 hb with rfl | hb
    ·exact hp.1
    ·exact bas_place hr b hb
   ·cases h
def BasesR (t : List Ty) (a : Int) (H : List ABlk) (v : AV) (H' : List ABlk) : Prop :=
 (∃ l, basR t 5 a = some l /\ v = .tup [.gsl H.length 1 ((a :: l).map kd), bv true] /\ H' = H ++ [.row 3 1 (l.length + 1)]) \/ (basR t 5 a = none /\ v = .tup [.esl, bv false] /\ H' = H)
theorem bases_c {t : List Ty} (ht : t.length <= 9000000) {a : Int} (ha : placeP t a) (H : List ABlk) : ACalls Tryz.prog 101 [tv t, iv a] H (BasesR t a H) := by
 refine ACalls.into Tryz.func101 cc101 rr101 fun hcl => ?_
 simp (disch := omega) only [Tryz.ntmps101, c101, r101, apS, go_sem, seval, reduceCtorEq]; obtain ⟨S, hS⟩ : ∃ S : Int × List Int -> List AV, ∀ g, S g = [tv t, iv g.1, .any, .any, .esl, bv false, .gsl H.length 1 ((a :: g.2).map kd)] ++ List.replicate 35 .any := ⟨_, fun _ => rfl⟩; have hr0 : ∀ (r : ABlk), (H ++ [r])[H.length]? = some r := fun r => by rw [List.getElem?_append_right (Nat.le_refl _)]; simp
 have hs0 : ∀ (r y : ABlk), (H ++ [r]).set H.length y = H ++ [y] := fun r y => by rw [List.set_append_right _ _ (Nat.le_refl _)]; simp
 refine W.loopG (γ := Int × List Int) (fun g => 5 - g.2.length) S (fun g => H ++ [.row 3 1 (g.2.length + 1)]) (fun g => g.2.length <= 5 /\ placeP t g.1 /\ basR t 5 a = (basR t (5 - g.2.length) g.1).map (g.2 ++ ·)) (a, []) (by rw [hS]; exact Wk.slots WkL.wk) ⟨by simp, ha, by simp⟩ (fun g hg => ?_); obtain ⟨c, ws⟩ := g; obtain ⟨q1, q2, q3⟩ := hg; simp only at q1 q2 q3; have hty := iaA_ty q2.1 q2.2; simp (disch := omega) only [c101l0, hS, hty, Ty.c, apS, go_sem, seval, reduceCtorEq]; have fail : basR t (5 - ws.length) c = none -> ∀ l, Ret r101 H.length (BasesR t a H) (some (.tup [.esl, bv false])) (H ++ l) := fun h l => Ret.drop _ H (Nat.le_refl _) hcl (.rfl _) (by simp [refs, refs.refsL]) (.inr ⟨by rw [q3, h]; rfl, rfl, rfl⟩)
 by_cases hz : (tyAt t c).base = 0
 ·have kz := decide_eq_true hz
  simp (disch := omega) only [hz, kz, go_sem, seval, reduceCtorEq]; refine Ret.keep (.inl ⟨ws, by rw [q3, bas_zero hz]; simp, rfl, rfl⟩)
 ·have kz := decide_eq_false hz
  simp (disch := omega) only [kz, hty, Ty.c, go_sem, seval, reduceCtorEq]; refine Cont.mk (place_c _ ht _) ?_; have hbn : ¬ (placeP t (tyAt t c).base /\ (tyAt t (tyAt t c).base).form = 9) -> basR t (5 - ws.length) c = none := fun h => by
   cases 5 - ws.length <;> simp [basR, hz, h]
  by_cases hp : placeP t (tyAt t c).base
  rotate_left
  ·have kp := decide_eq_false hp
   simp (disch := omega) only [kp, go_sem, seval, reduceCtorEq]; exact fail (hbn fun h => hp h.1) _
  have kp := decide_eq_true hp; have hty2 := iaA_ty hp.1 hp.2
  by_cases hf : (tyAt t (tyAt t c).base).form = 9
  rotate_left
  ·have kf := decide_eq_false hf
   simp (disch := omega) only [kp, kf, hty2, Ty.c, go_sem, seval, reduceCtorEq]; exact fail (hbn fun h => hf h.2) _
  have kf := decide_eq_true hf; simp (disch := omega) only [kp, hf, hty2, Ty.c, lnm, List.length_cons, go_sem, seval, reduceCtorEq]; refine Br.dec (fun hl => ?_) (fun hl => ?_) <;> simp (disch := omega) only [go_sem, seval, reduceCtorEq]
  ·exact fail (by rw [show 5 - ws.length = 0 by omega]; simp [basR, hz]) _
  ·have e : (a :: (ws ++ [(tyAt t c).base])).map kd = kd a :: (ws.map kd ++ [[Dat.v (.int .i64 (tyAt t c).base)]]) := by simp
   have e2 : ws.length + 1 + 1 = (ws ++ [(tyAt t c).base]).length + 1 := by simp
   have e3 : basR t (5 - ws.length) c = (basR t (5 - (ws ++ [(tyAt t c).base]).length) (tyAt t c).base).map ((tyAt t c).base :: ·) := by
    rw [show 5 - ws.length = (5 - (ws ++ [(tyAt t c).base]).length) + 1 by simp; omega]; simp only [basR]; rw [if_neg hz, if_pos ⟨hp, hf⟩]
   rw [e2]; refine Nxt.mk ((tyAt t c).base, ws ++ [(tyAt t c).base]) (by simp; omega) (Wk.slots ?_) ⟨by simp; omega, hp, ?_⟩
   ·rw [hS]
    simp only; rw [e]; exact WkL.tail 7 _ rfl (by simp only [List.take_succ_cons, List.take_zero]; repeat' constructor)
   ·simp only
    rw [q3, e3, Option.map_map]
    congr 1
    funext l
    simp
abbrev SQ (t : List Ty) (H : List ABlk) (a : Int) (l : List Int) (i : Nat) : List AV := [tv t, .any, .any, .any, bv false, .gsl H.length 1 (l.map kd), .any, .mp (H.length + 1), iv i]
abbrev hq2 (n : Nat) (L : List ByteArray) : List ABlk := [.row 3 1 n, .map ktN L.length (mkN 0 L)]
theorem record_l0 {t : List Ty} (ht : t.length <= 9000000) {x : Ty} {H : List ABlk} (hfl : x.fields.length <= 9000000) (hfn : ∀ f ∈ x.fields, f.name.size <= 140737488355328) (a : Int) (l : List Int) (i0 n : Nat) (l0 : List ByteArray) (hl0 : l0.Nodup) :
 W Tryz.prog (hh 92) H.length (.loop c92l0) (SQ t H a l i0 ++ [fdv x.fields, iv (0 : Nat)] ++ List.replicate 79 .any) (H ++ hq2 n l0)
  (fun e s H' => (e = .exit 2 /\ (∃ y0 y1 y2 y3 y4, s = SQ t H a l i0 ++ [fdv x.fields, y0] ++ List.replicate 40 .any ++ [y1, y2, y3, y4] ++ List.replicate 35 .any) /\ H' = H ++ hq2 n (l0 ++ x.fields.map Fd.name) /\ (l0 ++ x.fields.map Fd.name).Nodup /\ ∀ f ∈ x.fields, Nm f.name /\ holdsP t f.typ) \/
    (e = .ret /\ resA [RC.t 4] s H' = some (bv false) /\ (∃ l, H' = H ++ l) /\ ¬ ((l0 ++ x.fields.map Fd.name).Nodup /\ ∀ f ∈ x.fields, Nm f.name /\ holdsP t f.typ))) := by
 obtain ⟨S, hS⟩ : ∃ S : Nat -> List AV, ∀ i, S i = SQ t H a l i0 ++ [fdv x.fields, iv i] ++ List.replicate 79 .any := ⟨_, fun _ => rfl⟩; obtain ⟨L, hL⟩ : ∃ L : Nat -> List ByteArray, ∀ i, L i = l0 ++ (x.fields.take i).map Fd.name := ⟨_, fun _ => rfl⟩; have hL0 : L 0 = l0 := by rw [hL]; simp
 have hLn : ∀ i, i < x.fields.length -> L (i + 1) = L i ++ [(x.fields.getD i default).name] := fun i hi => by
  rw [hL, hL, getD_take (d := default) hi]; simp
 have hLF : L x.fields.length = l0 ++ x.fields.map Fd.name := by rw [hL, List.take_length]
 have hsub : ∀ i, i <= x.fields.length -> List.Sublist (L i) (L x.fields.length) := fun i hi => by
  rw [hL, hL, List.take_length]; exact (List.Sublist.refl _).append ((List.take_sublist _ _).map _)
 refine W.loopG (γ := Nat) (fun i => x.fields.length - i) S (fun i => H ++ hq2 n (L i)) (fun i => i <= x.fields.length /\ (L i).Nodup /\ ∀ j, j < i -> Nm (x.fields.getD j default).name /\ holdsP t (x.fields.getD j default).typ) 0 (by rw [hS, hL0]; exact Wk.refl) ⟨Nat.zero_le _, by rw [hL0]; exact hl0, fun j hj => by omega⟩ (fun i hi => ?_); obtain ⟨q1, q2, q4⟩ := hi; simp (disch := omega) only [c92l0, hS, lnm, apS, go_sem, seval, reduceCtorEq]; refine Br.dec (fun hc => ?_) (fun hc => ?_) <;> simp (disch := omega) only [go_sem, seval, reduceCtorEq]
 ·have hfa := iaA_fd (t := x.fields) (a := i) (by omega) (by omega)
  have e1 : fdAt x.fields (i : Int) = x.fields.getD i default := rfl; rw [e1] at hfa; have hn := hLn i (by omega); have hsb := hsub (i + 1) (by omega); rw [hn] at hsb; have hmf : x.fields.getD i default ∈ x.fields := by rw [gD, gE (by omega)]; exact List.getElem_mem _
  have hsz := fits_s (hfn _ hmf); have nx : Nm (x.fields.getD i default).name -> holdsP t (x.fields.getD i default).typ -> ∀ j, j < i + 1 -> Nm (x.fields.getD j default).name /\ holdsP t (x.fields.getD j default).typ := fun h1 h2 j hj => by
   rcases Nat.lt_or_ge j i with h' | h'
   ·exact q4 j h'
   ·rw [show j = i by omega]; exact ⟨h1, h2⟩
  generalize x.fields.getD i default = f at *
  by_cases hm : f.name ∈ L i
  ·obtain ⟨c, hg⟩ := (mkN_get (s := f.name) (n := 0) (l := L i)).1 hm
   simp (disch := omega) only [hfa, Fd.c, keyOf_s, hsz, mapOf, hg, hb_0', hb_1', apS, go_sem, seval, reduceCtorEq]; refine .inr ⟨⟨_, rfl⟩, fun hnd => ?_⟩; rw [<- hLF] at hnd; have := hnd.1.sublist hsb; rw [List.nodup_append] at this; exact this.2.2 _ hm _ (List.mem_singleton.2 rfl) rfl
  ·have hg := (mkN_get (s := f.name) (n := 0) (l := L i)).2 hm
   have hp := put_new (ck := (L i).length) (v := iv 1) hg; have hap := mkN_app 0 (L i) f.name; rw [Nat.zero_add] at hap; simp (disch := omega) only [hfa, Fd.c, keyOf_s, hsz, mapOf, hg, hb_0', hb_1', apS, go_sem, seval, reduceCtorEq]; refine Cont.mk (word13_c _ _) ?_
   cases hw : nmF f.name with
   | false =>
    simp (disch := omega) only [go_sem, seval, reduceCtorEq]; exact .inr ⟨⟨_, rfl⟩, fun hnd => by rw [nm_t (hnd.2 f hmf).1] at hw; cases hw⟩
   | true =>
    simp (disch := omega) only [hfa, Fd.c, go_sem, seval, reduceCtorEq]; refine Cont.mk (holds_c _ ht _) ?_
    by_cases hh : holdsP t f.typ
    ·have kh := decide_eq_true hh
     simp (disch := omega) only [kh, hfa, Fd.c, keyOf_s, hsz, mapOf, hg, hp, hb_0', hb_1', apS, go_sem, seval, reduceCtorEq]; rw [<- hap, <- hn, show (L i).length + 1 = (L (i + 1)).length by rw [hn]; simp]; refine Nxt.mk (i + 1) (by omega) (Wk.slots (WkL.tw 11 (hS _))) ⟨by omega, ?_, nx (of_decide_eq_true hw) hh⟩; rw [hn, List.nodup_append]; exact ⟨q2, by simp, fun a ha b hb e => hm (by rw [List.mem_singleton] at hb; rw [<- hb, <- e]; exact ha)⟩
    ·have kh := decide_eq_false hh
     simp (disch := omega) only [kh, go_sem, seval, reduceCtorEq]; exact .inr ⟨⟨_, rfl⟩, fun hnd => hh (hnd.2 f hmf).2⟩
 ·have hie : i = x.fields.length := by omega
  subst hie; rw [<- hLF]; refine .inl ⟨⟨_, _, _, _, _, rfl⟩, rfl, q2, fun f hf => ?_⟩; obtain ⟨j, hj, rfl⟩ := List.getElem_of_mem hf; have := q4 j hj
  rwa [gD, gE hj] at this
def RecP (t : List Ty) (a : Int) : Prop := ∃ l, basR t 5 a = some l /\ l.length + 1 <= 5 /\ (∀ b ∈ a :: l, (tyAt t b).fields.length <= 64 /\ ∀ f ∈ (tyAt t b).fields, Nm f.name /\ holdsP t f.typ) /\ (namesL t (a :: l)).Nodup
theorem record_c {t : List Ty} (hs : Small t) (hn : FNames t) {a : Int} (ha : placeP t a) (H : List ABlk) : ACalls Tryz.prog 92 [tv t, iv a] H fun v H' => (∃ B, v = bv B /\ (B = true ↔ RecP t a)) /\ H' = H := by
 refine ACalls.into Tryz.func92 cc92 rr92 fun hcl => ?_
 have htl := hs.1; have fin : ∀ {v : Bool}, (v = true ↔ RecP t a) -> ∀ l, Ret r92 H.length (fun v H' => (∃ B, v = bv B /\ (B = true ↔ RecP t a)) /\ H' = H) (some (bv v)) (H ++ l) := fun {v} e l => Ret.drop (bv v) H (Nat.le_refl _) hcl (.rfl _) (by simp [refs]) ⟨⟨v, rfl, e⟩, rfl⟩
 have fin0 : ∀ {v : Bool}, (v = true ↔ RecP t a) -> Ret r92 H.length (fun v H' => (∃ B, v = bv B /\ (B = true ↔ RecP t a)) /\ H' = H) (some (bv v)) H := fun {v} e => Ret.keep ⟨⟨v, rfl, e⟩, rfl⟩
 have no : ¬ RecP t a -> (false = true ↔ RecP t a) := fun h => ⟨fun h => by simp at h, fun k => absurd k h⟩
 simp (disch := omega) only [Tryz.ntmps92, c92, r92, apS, go_sem, seval, reduceCtorEq]; refine Cont.rel (bases_c (by omega) ha H) ?_; rintro v H' (⟨l, hl, rfl, rfl⟩ | ⟨hl, rfl, rfl⟩)
 rotate_left
 ·simp (disch := omega) only [go_sem, seval, reduceCtorEq]
  exact fin0 (no fun ⟨l, h, _⟩ => by rw [hl] at h; cases h)
 have hpl := bas_place hl; have hty := iaA_ty ha.1 ha.2; have hall : ∀ b ∈ a :: l, placeP t b := fun b hb => (List.mem_cons.1 hb).elim (fun e => e ▸ ha) (hpl b)
 have hfa := (hs.2 _ (tyAt_mem ha.1 ha.2)).1
 by_cases h5 : l.length + 1 <= 5
 rotate_left
 ·simp (disch := omega) only [lnm, List.length_cons, go_sem, seval, reduceCtorEq]
  exact fin (no fun ⟨l', h, h2, _⟩ => by rw [hl] at h; cases h; exact h5 h2) _
 by_cases h64 : (tyAt t a).fields.length <= 64
 rotate_left
 ·simp (disch := omega) only [lnm, List.length_cons, hty, Ty.c, go_sem, seval, reduceCtorEq]
  exact fin (no fun ⟨l', h, h2, h3, _⟩ => h64 (h3 a List.mem_cons_self).1) _
 obtain ⟨vs, hvs⟩ : ∃ vs, vs = a :: l := ⟨_, rfl⟩; have hvl : vs.length = l.length + 1 := by rw [hvs]; rfl
 rw [<- hvs] at hall ⊢; rw [<- hvl] at h5 ⊢; simp (disch := omega) only [lnm, hty, Ty.c, hb_0', hb_1', apS, go_sem, seval, reduceCtorEq]; obtain ⟨S, hS⟩ : ∃ S : Nat -> List AV, ∀ i, S i = SQ t H a vs i ++ List.replicate 81 .any := ⟨_, fun _ => rfl⟩; have hrec : RecP t a ↔ (∀ b ∈ vs, (tyAt t b).fields.length <= 64 /\ ∀ f ∈ (tyAt t b).fields, Nm f.name /\ holdsP t f.typ) /\ (namesL t vs).Nodup := by
  rw [hvs]; exact ⟨fun ⟨l', h, h2, h3⟩ => by rw [hl] at h; cases h; exact h3, fun h => ⟨l, hl, by omega, h⟩⟩
 refine W.loopG (γ := Nat) (fun i => vs.length - i) S (fun i => H ++ hq2 vs.length (namesL t (vs.take i))) (fun i => i <= vs.length /\ (namesL t (vs.take i)).Nodup /\ ∀ j, j < i -> (tyAt t (vs.getD j 0)).fields.length <= 64 /\ ∀ f ∈ (tyAt t (vs.getD j 0)).fields, Nm f.name /\ holdsP t f.typ) 0 (by rw [hS]; exact Wk.slots WkL.wk) ⟨Nat.zero_le _, by simp [namesL], fun j hj => by omega⟩ (fun i hi => ?_); obtain ⟨q1, q2, q3⟩ := hi; simp (disch := omega) only [c92l1, hS, lnm, apS, go_sem, seval, reduceCtorEq]; refine Br.dec (fun hc => ?_) (fun hc => ?_) <;> simp (disch := omega) only [go_sem, seval, reduceCtorEq]
 ·have hxi := gsl_at (b := H.length) (ks := vs) (i := i) (by omega)
  have hmem : vs.getD i 0 ∈ vs := by rw [gD, gE (by omega)]; exact List.getElem_mem _
  have hpi := hall _ hmem; have hti := iaA_ty hpi.1 hpi.2; have htk : namesL t (vs.take (i + 1)) = namesL t (vs.take i) ++ (tyAt t (vs.getD i 0)).fields.map Fd.name := by
   rw [getD_take (d := (0 : Int)) (by omega)]; simp [namesL]
  have hsubl : List.Sublist (namesL t (vs.take (i + 1))) (namesL t vs) := by
   conv => rhs; rw [<- List.take_append_drop (i + 1) vs]
   rw [namesL, namesL, List.flatMap_append]; exact List.sublist_append_left _ _
  have hxm := tyAt_mem hpi.1 hpi.2; have hfi := (hs.2 _ hxm).1; have nx : ((tyAt t (vs.getD i 0)).fields.length <= 64 /\ ∀ f ∈ (tyAt t (vs.getD i 0)).fields, Nm f.name /\ holdsP t f.typ) -> ∀ j, j < i + 1 -> (tyAt t (vs.getD j 0)).fields.length <= 64 /\ ∀ f ∈ (tyAt t (vs.getD j 0)).fields, Nm f.name /\ holdsP t f.typ := fun h j hj => by
   rcases Nat.lt_or_ge j i with h' | h'
   ·exact q3 j h'
   ·rw [show j = i by omega]; exact h
  simp (disch := omega) only [hxi, hti, Ty.c, lnm, go_sem, seval, reduceCtorEq]; refine Br.dec (fun h6 => ?_) (fun h6 => ?_) <;> simp (disch := omega) only [go_sem, seval, reduceCtorEq]
  ·exact fin (no fun h => by have := ((hrec.1 h).1 _ hmem).1; omega) _
  ·refine W.weak (Wk.slots WkL.wk) (W.mono (record_l0 (x := tyAt t (vs.getD i 0)) (by omega) (by omega) (hn _ hxm) a vs i vs.length (namesL t (vs.take i)) q2) ?_)
   rintro e s H' (⟨rfl, ⟨y0, y1, y2, y3, y4, rfl⟩, rfl, h3, h4⟩ | ⟨rfl, hr, ⟨l, rfl⟩, h3⟩)
   ·simp (disch := omega) only [apS, go_sem, seval, reduceCtorEq]
    rw [<- htk]; exact Nxt.mk (i + 1) (by omega) (Wk.slots (WkL.tw 9 (hS _))) ⟨by omega, by rw [htk]; exact h3, nx ⟨by omega, h4⟩⟩
   ·refine (?_ : Ret _ _ _ (resA [RC.t 4] s (H ++ l)) (H ++ l))
    rw [hr]; refine fin (no fun h => h3 ⟨?_, ((hrec.1 h).1 _ hmem).2⟩) _; rw [<- htk]; exact (hrec.1 h).2.sublist hsubl
 ·have hie : i = vs.length := by omega
  subst hie; rw [List.take_length] at q2; refine fin ⟨fun _ => hrec.2 ⟨fun b hb => ?_, q2⟩, fun _ => rfl⟩ _; obtain ⟨j, hj, rfl⟩ := List.getElem_of_mem hb; have := q3 j hj
  rwa [gD, gE hj] at this
end Go.Proofs.YthifjndenhjobaaGreat
