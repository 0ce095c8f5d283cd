/- The reference's reader. -/
import Derived.Test.YthifjndenhjobaaGreatVB5
import Derived.Test.YthifjndenhjobaaGreatVD1a
import Derived.Test.YthifjndenhjobaaGreatVCodeY
set_option linter.unusedSectionVars false
set_option linter.unusedSimpArgs false
set_option linter.unusedVariables false
set_option maxHeartbeats 4000000
set_option maxRecDepth 20000
namespace Go.Proofs.YthifjndenhjobaaGreat.Rid
open Go.RowKit
def c24l0 : AC :=
 .seq (.seq (.dreg [[], [0], [1], [2], [3, 2], [4, 2], [5, 2], [2], [6, 7, 2], [2], [9, 2], [10, 2], [11, 2], [12, 2], [8, 13, 2], [2, 14]] [im 9 t3, ib 10 .leq t9 (kc 64), im 11 t10, ky 12 11 (.mv t0), ky 13 11 (.nc t12), ky 14 11 (.fa t13 1), ky 15 11 (.ld t14 1 false), ky 16 11 (.mv t3), ky 17 11 (.bin .add t15 t16), ky 18 11 (.mv t0), ky 19 11 (.nc t18), ky 20 11 (.fa t19 0), ky 21 11 (.ld t20 1 false), ky 22 11 (.len true t21), ky 23 11 (.bin .lss t17 t22), kn 24 (.pick t11 t23 kF)])
 (.cond t24 (.skip) (.exit 0)))
 (.seq (.block 1 (.seq (.dreg [[], [0], [1], [2], [], [4], [5], [6], [], [7, 8], [3, 9], [10]] [im 27 t0, iv0 28 t27, ia 29 t28 0, il 30 t29, im 31 t0, iv0 32 t31, ia 33 t32 1, il 34 t33, im 35 t3, ib 36 .add t34 t35, kn 37 (.ix t30 t36), kn 38 (.bin .eql t37 (.c (.d (.v (.int .u8 0)))))])
 (.cond t38 (sr [im 39 t0, iv0 40 t39, ia 41 t40 1, il 42 t41, im 43 t3, ib 44 .add t43 (kc 1), ib 45 .add t42 t44, iv0 46 t39, ia 47 t46 1, ke (.st t47 t45 1)]
 (.seq (.dreg [[], [0], [1], [2], [], [4], [5], [6], [], [7, 8], [9], [], [11], [12], [13], [14], [3, 10, 15], [16, 0, 1, 2, 3, 4, 5, 6, 7, 8, 9, 10, 11, 12, 13, 14, 15, 16]] [im 48 t0, iv0 49 t48, ia 50 t49 0, il 51 t50, im 52 t0, iv0 53 t52, ia 54 t53 1, il 55 t54, im 56 t3, ib 57 .sub t55 t56, ib 58 .sub t57 (kc 1), im 59 t0, iv0 60 t59, ia 61 t60 1, il 62 t61, ib 63 .sub t62 (kc 1), kn 64 (.sli true t51 (some t58) (some t63) 1), im 2 t64])
 (.ret))) (.skip))))
 (.reg [im 25 t3, ib 26 .add t25 (kc 1), im 3 t26]))
def c24 : AC :=
 sr [im 2 (.c ks)]
 (.seq (sr [im 4 t0, iv0 5 t4, ia 6 t5 2, il 7 t6, kn 8 (.un .not t7)]
 (.cond t8 (sr [im 3 (kc 0)]
 (.block 0 (.loop c24l0))) (.skip)))
 (sr [im 65 t0, iv0 66 t65, ia 67 t66 2, ke (.st t67 kT 1)]
 (sr [im 2 (.c ks)]
 (.ret))))
def r24 : List RC := [.t 2]
def c25l0 : AC :=
 .seq (sr [im 12 t5, ib 13 .geq t12 (kc 0)]
 (.cond t13 (.skip) (.exit 0)))
 (.seq (.block 1 (.reg [im 16 t4, kn 17 (.bin .mul t16 (.c (.d (.v (.int .u32 256))))), im 18 t3, im 19 t5, kn 20 (.ix t18 t19), kn 21 (.cvi .u32 t20), ib 22 .add t17 t21, im 4 t22]))
 (.reg [im 14 t5, ib 15 .sub t14 (kc 1), im 5 t15]))
def c25 : AC :=
 sr [kn 2 (.mv (.c (.d (.v (.int .u32 0)))))]
 (sr [im 6 t0, ic 7 50 [t6, (kc 4)], im 3 t7]
 (.seq (sr [im 8 t0, iv0 9 t8, ia 10 t9 2, il 11 t10]
 (.cond t11 (sr [kn 2 (.mv (.c (.d (.v (.int .u32 0)))))]
 (.ret)) (.skip)))
 (sr [kn 4 (.mv (.c (.d (.v (.int .u32 0)))))]
 (.seq (sr [im 5 (kc 3)]
 (.block 0 (.loop c25l0)))
 (sr [im 23 t4, im 2 t23]
 (.ret))))))
def r25 : List RC := [.t 2]
def c27 : AC :=
 sr [im 2 kF]
 (sr [im 3 t0, iv0 4 t3, ia 5 t4 2, il 6 t5, im 2 t6]
 (.ret))
def r27 : List RC := [.t 2]
def c30 : AC :=
 sr [im 2 kF]
 (.seq (.dreg [[], [0], [1], [2], [3], [4], [5], [6, 5], [7, 5], [8, 5], [5], [10, 5], [11, 5], [12, 5], [13, 5], [9, 14, 5], [5, 15], [16, 5, 0, 1, 2, 3, 4, 5, 6, 7, 8, 9, 10, 11, 12, 13, 14, 15, 16]] [im 3 t0, iv0 4 t3, ia 5 t4 2, il 6 t5, kn 7 (.un .not t6), im 8 t7, ky 9 8 (.mv t0), ky 10 8 (.nc t9), ky 11 8 (.fa t10 1), ky 12 8 (.ld t11 1 false), ky 13 8 (.mv t0), ky 14 8 (.nc t13), ky 15 8 (.fa t14 0), ky 16 8 (.ld t15 1 false), ky 17 8 (.len true t16), ky 18 8 (.bin .eql t12 t17), kn 19 (.pick t8 t18 kF), im 2 t19])
 (.ret))
def r30 : List RC := [.t 2]
def c50 : AC :=
 sr [im 4 (.c ks)]
 (.seq (.seq (.dreg [[], [0], [1], [2], [3], [4], [5, 4], [4, 6], [7, 4], [8], [8], [10, 8], [11, 8], [12, 8], [13, 8], [8], [15, 8], [16, 8], [17, 8], [14, 18, 8], [9, 19, 8], [8, 20]] [im 5 t0, iv0 6 t5, ia 7 t6 2, il 8 t7, im 9 t8, ko 10 9 (.mv t1), ko 11 9 (.bin .lss t10 (kc 0)), kn 12 (.pick t9 kT t11), im 13 t12, ko 14 13 (.mv t1), ko 15 13 (.mv t0), ko 16 13 (.nc t15), ko 17 13 (.fa t16 0), ko 18 13 (.ld t17 1 false), ko 19 13 (.len true t18), ko 20 13 (.mv t0), ko 21 13 (.nc t20), ko 22 13 (.fa t21 1), ko 23 13 (.ld t22 1 false), ko 24 13 (.bin .sub t19 t23), ko 25 13 (.bin .gtr t14 t24), kn 26 (.pick t13 kT t25)])
 (.cond t26 (sr [im 27 t0, iv0 28 t27, ia 29 t28 2, ke (.st t29 kT 1)]
 (sr [im 4 (.c ks)]
 (.ret))) (.skip)))
 (sr [im 30 t0, iv0 31 t30, ia 32 t31 1, il 33 t32, im 34 t1, ib 35 .add t33 t34, iv0 36 t30, ia 37 t36 1, ke (.st t37 t35 1)]
 (.seq (.dreg [[], [0], [1], [2], [], [4], [5], [6], [], [7, 8], [], [10], [11], [12], [3, 9, 13], [14, 0, 1, 2, 3, 4, 5, 6, 7, 8, 9, 10, 11, 12, 13, 14]] [im 38 t0, iv0 39 t38, ia 40 t39 0, il 41 t40, im 42 t0, iv0 43 t42, ia 44 t43 1, il 45 t44, im 46 t1, ib 47 .sub t45 t46, im 48 t0, iv0 49 t48, ia 50 t49 1, il 51 t50, kn 52 (.sli true t41 (some t47) (some t51) 1), im 4 t52])
 (.ret))))
def r50 : List RC := [.t 4]
def c53 : AC :=
 sr [im 2 (kc 0)]
 (sr [im 4 t0, ic 5 50 [t4, (kc 1)], im 3 t5]
 (.seq (sr [im 6 t0, iv0 7 t6, ia 8 t7 2, il 9 t8]
 (.cond t9 (sr [im 2 (kc 0)]
 (.ret)) (.skip)))
 (sr [im 10 t3, kn 11 (.ix t10 (kc 0)), kn 12 (.cvi .i64 t11), im 2 t12]
 (.ret))))
def r53 : List RC := [.t 2]
theorem cc24 : cK Tryz.f24 (hhY 24) c24 := by unfold cK; kernel_rfl
theorem rr24 : resC Tryz.prog Tryz.f24 = some r24 := by kernel_rfl
theorem cc25 : cK Tryz.f25 (hhY 25) c25 := by unfold cK; kernel_rfl
theorem rr25 : resC Tryz.prog Tryz.f25 = some r25 := by kernel_rfl
theorem cc27 : cK Tryz.f27 (hhY 27) c27 := by unfold cK; kernel_rfl
theorem rr27 : resC Tryz.prog Tryz.f27 = some r27 := by kernel_rfl
theorem cc30 : cK Tryz.f30 (hhY 30) c30 := by unfold cK; kernel_rfl
theorem rr30 : resC Tryz.prog Tryz.f30 = some r30 := by kernel_rfl
theorem cc50 : cK Tryz.f50 (hhY 50) c50 := by unfold cK; kernel_rfl
theorem rr50 : resC Tryz.prog Tryz.f50 = some r50 := by kernel_rfl
theorem cc53 : cK Tryz.f53 (hhY 53) c53 := by unfold cK; kernel_rfl
theorem rr53 : resC Tryz.prog Tryz.f53 = some r53 := by kernel_rfl
def rawF (s : ByteArray) (r : Rd) (n : Int) : ByteArray × Rd := ((takeF s r n).1, (takeF s r n).2.2)
theorem rawR_c {H : List ABlk} {rb : Nat} {s : ByteArray} {r : Rd} (h : H[rb]? = some (rd s r.a r.bad)) (hs : s.size <= 300000) (ha : r.a <= s.size) (n : Int) : ACalls Tryz.prog 50 [.ptr rb 0, iv n] H fun v H' => v = sv (rawF s r n).1 /\ H' = H.set rb (rd s (rawF s r n).2.a (rawF s r n).2.bad) := by
 refine ACalls.into Tryz.func50 cc50 rr50 fun hcl => ?_
 have hS : ∀ x, (H.set rb x)[rb]? = some x := fun x => getset_eq h
 obtain ⟨a, bad⟩ := r; simp only at h ha; simp (disch := omega) only [Tryz.ntmps50, c50, r50, go_sem, seval, reduceCtorEq]; refine W.pchain follows (by decide +kernel) ?_
 cases bad with
 | true =>
  simp (disch := omega) only [h, go_sem, seval, reduceCtorEq]; exact Ret.keep ⟨rfl, by simp only [rawF, takeF, if_true]⟩
 | false =>
  by_cases h1 : n < 0
  ·simp (disch := omega) only [h, go_sem, seval, reduceCtorEq]
   exact Ret.keep ⟨by simp [rawF, takeF, h1], by simp [rawF, takeF, h1]⟩
  by_cases h2 : n > (s.size : Int) - a
  ·simp (disch := omega) only [h, go_sem, seval, reduceCtorEq]
   exact Ret.keep ⟨by simp [rawF, takeF, h2], by simp [rawF, takeF, h2]⟩
  obtain ⟨m, rfl⟩ := Int.eq_ofNat_of_zero_le (Int.not_lt.1 h1); have e0 : rawF s ⟨a, false⟩ (m : Int) = (s.extract a (a + m), ⟨a + m, false⟩) := by
   simp only [rawF, takeF]; rw [if_neg (by simp), if_neg (by simp; omega)]
   simp
  have e1 : ((a : Int) + (m : Int) - (m : Int)).toNat = a := by omega
  have e2 : ((a : Int) + (m : Int)).toNat = a + m := by omega
  simp (disch := omega) only [h, go_sem, seval, reduceCtorEq]; refine W.pchain follows (by decide +kernel) ?_; simp (disch := omega) only [hS, e1, e2, go_sem, seval, reduceCtorEq]; exact Ret.keep ⟨by rw [e0], by rw [e0]; rfl⟩
theorem badR_c {H : List ABlk} {rb : Nat} {s : ByteArray} {r : Rd} (h : H[rb]? = some (rd s r.a r.bad)) : ACalls Tryz.prog 27 [.ptr rb 0] H fun v H' => v = bv r.bad /\ H' = H := by
 refine ACalls.into Tryz.func27 cc27 rr27 fun hcl => ?_
 simp (disch := omega) only [Tryz.ntmps27, c27, r27, h, go_sem, seval, reduceCtorEq]; exact Ret.keep ⟨rfl, rfl⟩
theorem endR_c {H : List ABlk} {rb : Nat} {s : ByteArray} {r : Rd} (h : H[rb]? = some (rd s r.a r.bad)) : ACalls Tryz.prog 30 [.ptr rb 0] H fun v H' => v = bv (endF s r) /\ H' = H := by
 refine ACalls.into Tryz.func30 cc30 rr30 fun hcl => ?_
 simp (disch := omega) only [Tryz.ntmps30, c30, r30, go_sem, seval, reduceCtorEq]; refine W.pchain follows (by decide +kernel) ?_
 cases e : r.bad with
 | true =>
  rw [e] at h; simp (disch := omega) only [h, go_sem, seval, reduceCtorEq]; exact Ret.keep ⟨by rw [endF, e]; rfl, rfl⟩
 | false =>
  rw [e] at h; simp (disch := omega) only [h, go_sem, seval, reduceCtorEq]; refine Ret.keep ⟨?_, rfl⟩; rw [endF, e]; simp only [Bool.not_false, Bool.true_and]
  congr 3
  exact decide_eq_decide.2 (by omega)
theorem take_no {s : ByteArray} {r : Rd} {n : Int} (hn : 0 <= n) : (takeF s r n).2.1 = !(takeF s r n).2.2.bad := by
 unfold takeF
 split
 ·rename_i h; simp [h]
 ·split <;> rfl
theorem byteR_c {H : List ABlk} {rb : Nat} {s : ByteArray} {r : Rd} (h : H[rb]? = some (rd s r.a r.bad)) (hs : s.size <= 300000) (ha : r.a <= s.size) : ACalls Tryz.prog 53 [.ptr rb 0] H fun v H' => v = iv (byteF s r).1 /\ H' = H.set rb (rd s (byteF s r).2.a (byteF s r).2.bad) := by
 refine ACalls.into Tryz.func53 cc53 rr53 fun hcl => ?_
 have hS : ∀ x, (H.set rb x)[rb]? = some x := fun x => getset_eq h
 simp (disch := omega) only [Tryz.ntmps53, c53, r53, go_sem, seval, reduceCtorEq]; refine Cont.mk (rawR_c h hs ha 1) ?_; have hb : (byteF s r).2 = (takeF s r 1).2.2 := rfl; have hr2 : (rawF s r 1).2 = (takeF s r 1).2.2 := rfl; have hr1 : (rawF s r 1).1 = (takeF s r 1).1 := rfl; have hno := take_no (s := s) (r := r) (n := 1) (by decide); rw [hb, hr2, hr1]
 cases e : (takeF s r 1).2.2.bad with
 | true =>
  rw [e] at hno; simp (disch := omega) only [hS, go_sem, seval, reduceCtorEq]; exact Ret.keep ⟨by rw [byteF, hno]; rfl, rfl⟩
 | false =>
  rw [e] at hno; have e2 : r.a + 1 <= s.size /\ (takeF s r 1).1 = s.extract r.a (r.a + 1) := by
   unfold takeF at hno ⊢
   split at hno
   ·cases hno
   ·split at hno
    ·cases hno
    ·rename_i q1 q2
     rw [if_neg q1, if_neg q2]; exact ⟨by omega, rfl⟩
  have e3 : (takeF s r 1).1.size = 1 := by rw [e2.2, ex_size _ _ _ e2.1]; omega
  have e4 : (takeF s r 1).1.data.toList.getD 0 0 = s.data.toList.getD r.a 0 := by rw [e2.2, chr_ex (by omega) e2.1]; rfl
  have hlt := (s.data.toList.getD r.a 0).toNat_lt; simp (disch := omega) only [hS, e3, e4, go_sem, seval, reduceCtorEq]; exact Ret.keep ⟨by rw [byteF, hno]; rfl, rfl⟩
def wP (c0 c1 c2 c3 : Nat) : Nat -> Int
 | 0 => (c0 : Int) + (c1 : Int) * 256 + (c2 : Int) * 65536 + (c3 : Int) * 16777216
 | 1 => (c1 : Int) + (c2 : Int) * 256 + (c3 : Int) * 65536
 | 2 => (c2 : Int) + (c3 : Int) * 256
 | 3 => c3
 | _ => 0
theorem wP0 {c0 c1 c2 c3 : Nat} : wP c0 c1 c2 c3 0 = (c0 : Int) + (c1 : Int) * 256 + (c2 : Int) * 65536 + (c3 : Int) * 16777216 := rfl
theorem wP1 {c0 c1 c2 c3 : Nat} : wP c0 c1 c2 c3 1 = (c1 : Int) + (c2 : Int) * 256 + (c3 : Int) * 65536 := rfl
theorem wP2 {c0 c1 c2 c3 : Nat} : wP c0 c1 c2 c3 2 = (c2 : Int) + (c3 : Int) * 256 := rfl
theorem wP3 {c0 c1 c2 c3 : Nat} : wP c0 c1 c2 c3 3 = (c3 : Int) := rfl
theorem wP4 {c0 c1 c2 c3 : Nat} : wP c0 c1 c2 c3 4 = 0 := rfl
theorem wk2 {x y i j : Int} (h1 : x = y) (h2 : i = j) : WkL [.d (.v (.int .u32 x)), .d (.v (.int .i64 i))] [wv y, iv j] := by
 subst h1; subst h2; exact WkL.cons (Wk1.rfl _) (WkL.cons (Wk1.rfl _) WkL.nil)
theorem wordR_c {H : List ABlk} {rb : Nat} {s : ByteArray} {r : Rd} (h : H[rb]? = some (rd s r.a r.bad)) (hs : s.size <= 300000) (ha : r.a <= s.size) : ACalls Tryz.prog 25 [.ptr rb 0] H fun v H' => v = wv (wordF s r).1 /\ H' = H.set rb (rd s (wordF s r).2.a (wordF s r).2.bad) := by
 refine ACalls.into Tryz.func25 cc25 rr25 fun hcl => ?_
 have hS : ∀ x, (H.set rb x)[rb]? = some x := fun x => getset_eq h
 simp (disch := omega) only [Tryz.ntmps25, c25, r25, go_sem, seval, reduceCtorEq]; refine Cont.mk (rawR_c h hs ha 4) ?_; have hb : (wordF s r).2 = (takeF s r 4).2.2 := rfl; have hr2 : (rawF s r 4).2 = (takeF s r 4).2.2 := rfl; have hr1 : (rawF s r 4).1 = (takeF s r 4).1 := rfl; have hno := take_no (s := s) (r := r) (n := 4) (by decide); rw [hb, hr2, hr1]
 cases e : (takeF s r 4).2.2.bad with
 | true =>
  rw [e] at hno; simp (disch := omega) only [hS, go_sem, seval, reduceCtorEq]; exact Ret.keep ⟨by rw [wordF, hno]; rfl, rfl⟩
 | false =>
  rw [e] at hno; have e2 : r.a + 4 <= s.size /\ (takeF s r 4).1 = s.extract r.a (r.a + 4) := by
   unfold takeF at hno ⊢
   split at hno
   ·cases hno
   ·split at hno
    ·cases hno
    ·rename_i q1 q2
     rw [if_neg q1, if_neg q2]; exact ⟨by omega, rfl⟩
  have e3 : (takeF s r 4).1.size = 4 := by rw [e2.2, ex_size _ _ _ e2.1]; omega
  have e4 : ∀ i, i < 4 -> (takeF s r 4).1.data.toList.getD i 0 = s.data.toList.getD (r.a + i) 0 := fun i hi => by rw [e2.2, chr_ex hi e2.1]
  have f0 := e4 0 (by omega); have f1 := e4 1 (by omega); have f2 := e4 2 (by omega); have f3 := e4 3 (by omega); rw [Nat.add_zero] at f0; have l0 := (s.data.toList.getD r.a 0).toNat_lt; have l1 := (s.data.toList.getD (r.a + 1) 0).toNat_lt; have l2 := (s.data.toList.getD (r.a + 2) 0).toNat_lt; have l3 := (s.data.toList.getD (r.a + 3) 0).toNat_lt; have w0 : (wordF s r).1 = ((s.data.toList.getD r.a 0).toNat : Int) + ((s.data.toList.getD (r.a + 1) 0).toNat : Int) * 256 + ((s.data.toList.getD (r.a + 2) 0).toNat : Int) * 65536 + ((s.data.toList.getD (r.a + 3) 0).toNat : Int) * 16777216 := by rw [wordF, hno]; rfl
  rw [w0]; obtain ⟨t, ht⟩ : ∃ t, t = (takeF s r 4).1 := ⟨_, rfl⟩; rw [<- ht] at e3 f0 f1 f2 f3 ⊢
  generalize s.data.toList.getD r.a 0 = d0 at l0 f0 ⊢
  generalize s.data.toList.getD (r.a + 1) 0 = d1 at l1 f1 ⊢
  generalize s.data.toList.getD (r.a + 2) 0 = d2 at l2 f2 ⊢
  generalize s.data.toList.getD (r.a + 3) 0 = d3 at l3 f3 ⊢
  simp (disch := omega) only [hS, go_sem, seval, reduceCtorEq]; obtain ⟨S, hS2⟩ : ∃ S : Nat -> List AV, ∀ k, S k = [.ptr rb 0, .any, .any, sv t, wv (wP d0.toNat d1.toNat d2.toNat d3.toNat k), iv ((k : Int) - 1)] ++ List.replicate 18 .any := ⟨_, fun _ => rfl⟩; refine W.loopG (γ := Nat) (fun k => k) S (fun _ => H.set rb (rd s (takeF s r 4).2.2.a false)) (fun k => k <= 4) 4 (Wk.slots (WkL.tw 6 (hS2 _))) (by omega) (fun k hk => ?_); have k1 : ((1 : Nat) : Int) - 1 = 0 := rfl; have k2 : ((2 : Nat) : Int) - 1 = 1 := rfl; have k3 : ((3 : Nat) : Int) - 1 = 2 := rfl; have k4 : ((4 : Nat) : Int) - 1 = 3 := rfl; rcases (by omega : k = 0 \/ k = 1 \/ k = 2 \/ k = 3 \/ k = 4) with rfl | rfl | rfl | rfl | rfl
  ·simp (disch := omega) only [hS2, c25l0, go_sem, seval, reduceCtorEq]
   exact Ret.keep ⟨by rw [wP0], rfl⟩
  ·simp (disch := omega) only [hS2, c25l0, e3, f0, k1, wP1, go_sem, seval, reduceCtorEq]
   refine Nxt.mk 0 (by omega) (Wk.slots ?_) (by omega); rw [hS2, wP0]; exact WkL.tail 6 _ rfl (by simp only [List.take_succ_cons, List.take_zero]; (repeat' first | exact WkL.nil | exact wk2 (by omega) rfl | refine WkL.cons (Wk1.rfl _) ?_ | refine WkL.cons Wk1.esl ?_ | refine WkL.cons (Wk1.gsl _ _ _) ?_ | refine WkL.cons (Wk1.any _) ?_))
  ·simp (disch := omega) only [hS2, c25l0, e3, f1, k2, wP2, go_sem, seval, reduceCtorEq]
   refine Nxt.mk 1 (by omega) (Wk.slots ?_) (by omega); rw [hS2, wP1]; exact WkL.tail 6 _ rfl (by simp only [List.take_succ_cons, List.take_zero]; (repeat' first | exact WkL.nil | exact wk2 (by omega) rfl | refine WkL.cons (Wk1.rfl _) ?_ | refine WkL.cons Wk1.esl ?_ | refine WkL.cons (Wk1.gsl _ _ _) ?_ | refine WkL.cons (Wk1.any _) ?_))
  ·simp (disch := omega) only [hS2, c25l0, e3, f2, k3, wP3, go_sem, seval, reduceCtorEq]
   refine Nxt.mk 2 (by omega) (Wk.slots ?_) (by omega); rw [hS2, wP2]; exact WkL.tail 6 _ rfl (by simp only [List.take_succ_cons, List.take_zero]; (repeat' first | exact WkL.nil | exact wk2 (by omega) rfl | refine WkL.cons (Wk1.rfl _) ?_ | refine WkL.cons Wk1.esl ?_ | refine WkL.cons (Wk1.gsl _ _ _) ?_ | refine WkL.cons (Wk1.any _) ?_))
  ·simp (disch := omega) only [hS2, c25l0, e3, f3, k4, wP4, go_sem, seval, reduceCtorEq]
   refine Nxt.mk 3 (by omega) (Wk.slots ?_) (by omega); rw [hS2, wP3]; exact WkL.tail 6 _ rfl (by simp only [List.take_succ_cons, List.take_zero]; (repeat' first | exact WkL.nil | exact wk2 (by omega) rfl | refine WkL.cons (Wk1.rfl _) ?_ | refine WkL.cons Wk1.esl ?_ | refine WkL.cons (Wk1.gsl _ _ _) ?_ | refine WkL.cons (Wk1.any _) ?_))
theorem idxB_at : ∀ {l : List UInt8} {i : Nat}, i < l.length -> l.getD i 0 = 0 -> (∀ j, j < i -> l.getD j 0 ≠ 0) -> idxB l 0 = i
 | [], i, h, _, _ => by simp at h
 | b :: l, 0, _, h, _ => by
  have : b = 0 := by simpa using h
  simp [idxB, this]
 | b :: l, i + 1, h, h2, h3 => by
  have hb : ¬ b = 0 := by simpa using h3 0 (by omega)
  have := idxB_at (l := l) (i := i) (by simpa using h) (by simpa using h2) (fun j hj => by simpa using h3 (j + 1) (by omega)); rw [idxB, if_neg (by simpa using hb), this, if_neg (by simp <;> omega)]; omega
theorem idxB_z : ∀ {l : List UInt8}, 0 <= idxB l 0 -> (idxB l 0).toNat < l.length /\ l.getD (idxB l 0).toNat 0 = 0
 | [], h => by simp [idxB] at h
 | b :: l, h => by
  unfold idxB at h ⊢
  split at h
  ·rename_i hb
   rw [if_pos hb]; have : b = 0 := by simpa using hb
   simp [this]
  ·rename_i hb
   rw [if_neg hb]
   split at h
   ·rename_i h2; exact absurd h (by decide)
   ·rename_i h2
    rw [if_neg h2]; have h3 : 0 <= idxB l 0 := by
     simp at h2; omega
    obtain ⟨e1, e2⟩ := idxB_z h3; have e : (idxB l 0 + 1).toNat = (idxB l 0).toNat + 1 := by omega
    rw [e]; exact ⟨by simp only [List.length_cons]; omega, by simpa using e2⟩
theorem getD_drop (l : List UInt8) (a i : Nat) : (l.drop a).getD i 0 = l.getD (a + i) 0 := by
 rw [gD, gD, List.getElem?_drop]
theorem textR_c {H : List ABlk} {rb : Nat} {s : ByteArray} {r : Rd} (h : H[rb]? = some (rd s r.a r.bad)) (hs : s.size <= 300000) (ha : r.a <= s.size) : ACalls Tryz.prog 24 [.ptr rb 0] H fun v H' => v = sv (textF s r).1 /\ H' = H.set rb (rd s (textF s r).2.a (textF s r).2.bad) := by
 refine ACalls.into Tryz.func24 cc24 rr24 fun hcl => ?_
 have hS : ∀ x, (H.set rb x)[rb]? = some x := fun x => getset_eq h
 obtain ⟨a, bad⟩ := r; simp only at h ha
 cases bad with
 | true =>
  simp (disch := omega) only [Tryz.ntmps24, c24, r24, h, go_sem, seval, reduceCtorEq]; exact Ret.keep ⟨rfl, by simp only [textF, if_true]⟩
 | false =>
  have e0 : textF s ⟨a, false⟩ = if idxB (s.data.toList.drop a) 0 < 0 \/ idxB (s.data.toList.drop a) 0 > 64 then (nl, ⟨a, true⟩) else (s.extract a (a + (idxB (s.data.toList.drop a) 0).toNat), ⟨a + (idxB (s.data.toList.drop a) 0).toNat + 1, false⟩) := by rw [textF, if_neg (by simp)]
  simp (disch := omega) only [Tryz.ntmps24, c24, r24, h, go_sem, seval, reduceCtorEq]; obtain ⟨S, hS2⟩ : ∃ S : Nat -> List AV, ∀ i, S i = [.ptr rb 0, .any, .any, iv i] ++ List.replicate 64 .any := ⟨_, fun _ => rfl⟩; refine W.loopG (γ := Nat) (fun i => 65 - i) S (fun _ => H) (fun i => i <= 65 /\ a + i <= s.size /\ ∀ j, j < i -> s.data.toList.getD (a + j) 0 ≠ 0) 0 (Wk.slots (WkL.tw 4 (hS2 _))) ⟨by omega, by omega, fun j hj => absurd hj (Nat.not_lt_zero _)⟩ (fun i hi => ?_); obtain ⟨q1, q2, q3⟩ := hi; have giveup : (textF s ⟨a, false⟩ = (nl, ⟨a, true⟩)) -> Ret [RC.t 2] H.length (fun v H' => v = sv (textF s ⟨a, false⟩).1 /\ H' = H.set rb (rd s (textF s ⟨a, false⟩).2.a (textF s ⟨a, false⟩).2.bad)) (some (sv nl)) (H.set rb (rd s a true)) := fun e => by
   rw [e]; exact Ret.keep ⟨rfl, rfl⟩
  have hdl : (s.data.toList.drop a).length = s.size - a := by rw [List.length_drop, len_data]
  have none' : (i = 65 \/ a + i = s.size) -> textF s ⟨a, false⟩ = (nl, ⟨a, true⟩) := fun hor => by
   rw [e0, if_pos]
   by_cases hz : 0 <= idxB (s.data.toList.drop a) 0
   ·obtain ⟨z1, z2⟩ := idxB_z hz
    rw [getD_drop] at z2; rw [hdl] at z1
    right
    have : ¬ (idxB (s.data.toList.drop a) 0).toNat < i := fun hh => q3 _ hh z2
    rcases hor with hh | hh <;> omega
   ·left; omega
  by_cases u1 : i <= 64
  ·by_cases u2 : a + i < s.size
   ·simp (disch := omega) only [hS2, c24l0, go_sem, seval, reduceCtorEq]
    refine W.pchain follows (by decide +kernel) ?_; simp (disch := omega) only [h, go_sem, seval, reduceCtorEq]; refine W.pchain follows (by decide +kernel) ?_; have e8 : ((a : Int) + (i : Int)).toNat = a + i := by omega
    by_cases hz : s.data.toList.getD (a + i) 0 = 0
    ·have hz2 : ((s.data.toList.getD (a + i) 0).toNat : Int) = 0 := by rw [hz]; rfl
     have hidx := idxB_at (l := s.data.toList.drop a) (i := i) (by rw [hdl]; omega) (by rw [getD_drop]; exact hz) (fun j hj => by rw [getD_drop]; exact q3 j hj); have e9 : textF s ⟨a, false⟩ = (s.extract a (a + i), ⟨a + i + 1, false⟩) := by
      rw [e0, hidx, if_neg (by omega)]
      rfl
     rw [e9]; have e1 : ((a : Int) + ((i : Int) + 1) - (i : Int) - 1).toNat = a := by omega
     have e2 : ((a : Int) + ((i : Int) + 1) - 1).toNat = a + i := by omega
     simp (disch := omega) only [h, e8, hz2, go_sem, seval, reduceCtorEq]; refine W.pchain follows (by decide +kernel) ?_; simp (disch := omega) only [hS, e1, e2, go_sem, seval, reduceCtorEq]; exact Ret.keep ⟨rfl, rfl⟩
    ·have hz2 : ¬ ((s.data.toList.getD (a + i) 0).toNat : Int) = 0 := fun e => hz (UInt8.toNat_inj.1 (by show _ = 0; omega))
     simp (disch := omega) only [h, e8, hz2, go_sem, seval, reduceCtorEq]; exact Nxt.mk (i + 1) (by omega) (Wk.slots (WkL.tw 4 (hS2 _))) ⟨by omega, by omega, fun j hj => by
      rcases Nat.lt_or_ge j i with h' | h'
      ·exact q3 j h'
      ·rw [show j = i by omega]; exact hz⟩
   ·simp (disch := omega) only [hS2, c24l0, go_sem, seval, reduceCtorEq]
    refine W.pchain follows (by decide +kernel) ?_; simp (disch := omega) only [h, go_sem, seval, reduceCtorEq]; exact giveup (none' (.inr (by omega)))
  ·simp (disch := omega) only [hS2, c24l0, go_sem, seval, reduceCtorEq]
   refine W.pchain follows (by decide +kernel) ?_; simp (disch := omega) only [h, go_sem, seval, reduceCtorEq]; exact giveup (none' (.inl (by omega)))
def c51l0 : AC :=
 .seq (sr [im 13 t5, ib 14 .lss t13 (kc 5), im 15 t14, ky 16 15 (.mv t0), ky 17 15 (.nc t16), ky 18 15 (.fa t17 2), ky 19 15 (.ld t18 1 false), ky 20 15 (.un .not t19), kn 21 (.pick t15 t20 kF)]
 (.cond t21 (.skip) (.exit 0)))
 (.block 1 (sr [im 22 t0, ic 23 53 [t22], im 7 t23]
 (sr [im 24 t5, ib 25 .add t24 (kc 1), im 5 t25]
 (sr [im 26 t4, im 27 t7, ib 28 .rem t27 (kc 128), im 29 t6, ib 30 .mul t28 t29, ib 31 .add t26 t30, im 4 t31]
 (sr [im 32 t6, ib 33 .mul t32 (kc 128), im 6 t33]
 (sr [im 34 t7, ib 35 .lss t34 (kc 128)]
 (.cond t35 (.seq (sr [im 36 t7, ib 37 .geq t36 (kc 64)]
 (.cond t37 (.reg [im 38 t4, im 39 t6, ib 40 .sub t38 t39, im 4 t40]) (.skip)))
 (sr [kn 41 (.bd [.esl, (.d (.v (.bool false)))] []), kn 42 (.bx t41), im 8 t42]
 (sr [im 43 t8, im 44 t4, ic 45 66 [t43, t44]]
 (.seq (sr [im 46 t0, iv0 47 t46, ia 48 t47 2, il 49 t48, kn 50 (.un .not t49), im 51 t50, ky 52 51 (.mv t4), ky 53 51 (.call 67 [t52, (kc 32)]), kn 54 (.pick t51 t53 kF), im 55 t54, ky 56 55 (.mv t8), ky 57 55 (.nc t56), ky 58 55 (.fa t57 0), ky 59 55 (.ld t58 1 false), ky 60 55 (.len false t59), ky 61 55 (.mv t5), ky 62 55 (.bin .eql t60 t61), kn 63 (.pick t55 t62 kF)]
 (.cond t63 (sr [im 64 t4, im 2 t64]
 (.ret)) (.skip)))
 (.reg [im 5 (kc 5)]))))) (.skip))))))))
def c51 : AC :=
 sr [im 2 (kc 0)]
 (sr [im 9 t0, iv0 10 t9, ia 11 t10 1, il 12 t11, im 3 t12]
 (sr [im 4 (kc 0), im 5 (kc 0)]
 (sr [im 6 (kc 1)]
 (.seq (.block 0 (.loop c51l0))
 (sr [im 65 t0, im 66 t0, im 67 t3, iv0 68 t65, ia 69 t68 2, ke (.st t69 kT 1), iv0 70 t66, ia 71 t70 1, ke (.st t71 t67 1)]
 (sr [im 2 (kc 0)]
 (.ret)))))))
def r51 : List RC := [.t 2]
theorem cc51 : cK Tryz.f51 (hhY 51) c51 := by unfold cK; kernel_rfl
theorem rr51 : resC Tryz.prog Tryz.f51 = some r51 := by kernel_rfl
theorem byteF_ok {s : ByteArray} {a : Nat} (h : a < s.size) : byteF s ⟨a, false⟩ = (((s.data.toList.getD a 0).toNat : Int), ⟨a + 1, false⟩) := by
 have e : takeF s ⟨a, false⟩ 1 = (s.extract a (a + 1), true, ⟨a + 1, false⟩) := by
  rw [takeF, if_neg (by simp), if_neg (by simp; omega)]; rfl
 simp only [byteF, e, if_true, chr]
theorem byteF_no {s : ByteArray} {a : Nat} (h : a = s.size) : byteF s ⟨a, false⟩ = (0, ⟨a, true⟩) := by
 have e : takeF s ⟨a, false⟩ 1 = (nl, false, ⟨a, true⟩) := by
  rw [takeF, if_neg (by simp), if_pos (by simp; omega)]
 simp [byteF, e]
theorem cl_rd {H : List ABlk} (h : cl H) (rb p : Nat) (b : Bool) (s : ByteArray) : cl (H.set rb (rd s p b)) := by
 intro i k hi r hr
 rw [List.length_set]
 by_cases e : rb = i
 ·subst e
  rw [List.getElem?_set_self'] at hi
  cases hk : H[rb]? with
  | none => rw [hk] at hi; cases hi
  | some k0 =>
   rw [hk] at hi
   cases hi
   simp [rd, ABlk.refs, refs, refs.refsL] at hr
 ·rw [List.getElem?_set_ne e] at hi
  exact h i k hi r hr
theorem QrAt.fresh (H : List ABlk) : QrAt (H ++ [.cells [.esl, bv false]]) H.length .esl [] false := ⟨by rw [hg0]; rfl, .inl ⟨rfl, rfl⟩, by simp [rowB]⟩
theorem numQ_l {H1 : List ABlk} {n : Nat} (hn : H1.length = n) (m : Int) : ACalls Tryz.prog 66 [.ptr n 0, iv m] (H1 ++ [.cells [.esl, bv false]]) fun v H' => v = .tup [] /\ ∃ l x', H' = H1 ++ l /\ QrAt (H1 ++ l) n x' (if fit32 m then comp7 m else []) (if fit32 m then false else true) := by
 subst hn; refine (numQ_c (QrAt.fresh H1) (by simp) m).mono fun v H' hq => ?_
 obtain ⟨rfl, x', h1, h2⟩ := hq; have ho : Ow H1 (WF H1.length .esl) (H1 ++ [.cells [.esl, bv false]]) := ⟨pre_app _ _, fun b hb => by simp [WF, rowB] at hb; omega⟩; obtain ⟨l, rfl⟩ := (ho.chg h2).1; exact ⟨rfl, l, x', rfl, by simpa using h1⟩
structure NrG where
 k : Nat
 n : Int
 sc : Int
 fin : Bool
 H : List ABlk
structure NrI (H : List ABlk) (rb a : Nat) (s : ByteArray) (g : NrG) : Prop where
 k : g.k <= 5
 run : g.fin = false -> g.H = H.set rb (rd s (a + g.k) false) /\ a + g.k <= s.size /\ decN (s.data.toList.drop a) = dec (5 - g.k) (s.data.toList.drop (a + g.k)) g.k g.n /\ 0 <= g.n /\ g.n < 128 ^ g.k /\ g.sc = 128 ^ g.k
 stop : g.fin = true -> g.k = 5 /\ decN (s.data.toList.drop a) = none /\ ∃ p b l, g.H = H.set rb (rd s p b) ++ l
theorem numR_c {H : List ABlk} {rb : Nat} {s : ByteArray} {r : Rd} (h : H[rb]? = some (rd s r.a r.bad)) (hs : s.size <= 300000) (ha : r.a <= s.size) : ACalls Tryz.prog 51 [.ptr rb 0] H fun v H' => v = iv (numF s r).1 /\ H' = H.set rb (rd s (numF s r).2.a (numF s r).2.bad) := by
 refine ACalls.into Tryz.func51 cc51 rr51 fun hcl => ?_
 have hrl := (List.getElem?_eq_some_iff.1 h).1; have hS : ∀ x, (H.set rb x)[rb]? = some x := fun x => getset_eq h
 have hS1 : ∀ x l, (H.set rb x ++ l)[rb]? = some x := fun x l => hold (hS x) l
 have hS3 : ∀ x l y, (H.set rb x ++ l).set rb y = H.set rb y ++ l := fun x l y => by rw [holds (hS x), List.set_set]
 obtain ⟨a, bad⟩ := r; simp only at h ha; have fin : ∀ o, decN (s.data.toList.drop a) = o -> numF s ⟨a, false⟩ = match o with
  | some p => (p.1, ⟨a + p.2, false⟩)
  | none => (0, ⟨a, true⟩) := fun o ho => by rw [numF, if_neg (by simp), ho]; rfl
 cases bad with
 | true =>
  obtain ⟨S, hS2⟩ : ∃ S : NrG -> List AV, ∀ g, S g = [.ptr rb 0, .any, .any, iv a, iv g.n, iv g.k, iv g.sc] ++ List.replicate 65 .any := ⟨_, fun _ => rfl⟩; simp (disch := omega) only [Tryz.ntmps51, c51, r51, h, go_sem, seval, reduceCtorEq]; refine W.loopG (γ := NrG) (fun g => 5 - g.k) S (fun _ => H) (fun g => g.k = 0) (⟨0, 0, 1, false, H⟩ : NrG) (Wk.slots (WkL.tw 7 (hS2 _))) rfl (fun g hg => ?_); simp (disch := omega) only [hS2, c51l0, hg, h, hS, List.set_set, go_sem, seval, reduceCtorEq]; exact Ret.keep ⟨by simp [numF], by simp [numF]⟩
 | false =>
  obtain ⟨S, hS2⟩ : ∃ S : NrG -> List AV, ∀ g, S g = [.ptr rb 0, .any, .any, iv a, iv g.n, iv g.k, iv g.sc] ++ List.replicate 65 .any := ⟨_, fun _ => rfl⟩; simp (disch := omega) only [Tryz.ntmps51, c51, r51, h, go_sem, seval, reduceCtorEq]; refine W.loopG (γ := NrG) (fun g => 5 - g.k) S (fun g => g.H) (NrI H rb a s) ⟨0, 0, 1, false, H⟩ (Wk.slots (WkL.tw 7 (hS2 _))) ⟨by show 0 <= 5; omega, fun _ => ⟨(set_self h).symm, ha, rfl, by show (0 : Int) <= 0; decide, by show (0 : Int) < 128 ^ 0; decide, rfl⟩, fun e => by cases e⟩ (fun g hg => ?_); have hout : decN (s.data.toList.drop a) = none -> ∀ l, Ret [RC.t 2] H.length (fun v H' => v = iv (numF s ⟨a, false⟩).1 /\ H' = H.set rb (rd s (numF s ⟨a, false⟩).2.a (numF s ⟨a, false⟩).2.bad)) (some (iv 0)) (H.set rb (rd s a true) ++ l) := fun hd l => by
   rw [fin none hd]; exact Ret.pre (iv 0) _ (pre_app _ _) (by simp) (cl_rd hcl rb a true s) (.rfl _) (by simp [refs]) ⟨rfl, rfl⟩
  cases hfin : g.fin with
  | true =>
   obtain ⟨e5, hno, p, b, l, hH⟩ := hg.stop hfin; have hk5 : ¬ (g.k : Int) < 5 := by omega
   simp (disch := omega) only [hS2, c51l0, hH, hk5, hS1, hS3, go_sem, seval, reduceCtorEq]; exact hout hno l
  | false =>
   obtain ⟨hH, q2, q3, q4, q5, q6⟩ := hg.run hfin
   by_cases u2 : g.k < 5
   ·have hget : g.H[rb]? = some (rd s (Rd.mk (a + g.k) false).a (Rd.mk (a + g.k) false).bad) := by rw [hH, hS]
    obtain ⟨d, hd⟩ : ∃ d, 5 - g.k = d + 1 := ⟨4 - g.k, by omega⟩; have hbc := byteR_c hget hs q2; have hpk : (128 : Int) ^ g.k <= 268435456 := by
     rcases (by omega : g.k = 0 \/ g.k = 1 \/ g.k = 2 \/ g.k = 3 \/ g.k = 4) with e | e | e | e | e <;> rw [e] <;> decide
    have hp1 : (0 : Int) < 128 ^ g.k := Int.pow_pos (by decide)
    by_cases u1 : a + g.k < s.size
    ·obtain ⟨c, hcc⟩ : ∃ c, s.data.toList.getD (a + g.k) 0 = c := ⟨_, rfl⟩
     have hclt := c.toNat_lt; rw [byteF_ok u1, hcc] at hbc; have hdrop : s.data.toList.drop (a + g.k) = c :: s.data.toList.drop (a + (g.k + 1)) := by
      rw [<- hcc, List.drop_eq_getElem_cons (by rw [len_data]; exact u1), gD, gE (by rw [len_data]; exact u1)]; rfl
     rw [hd, hdrop] at q3; have hd2 : 5 - (g.k + 1) = d := by omega
     have hc2 : (((c.toNat % 128 : Nat) : Int)) * 128 ^ g.k <= 127 * 128 ^ g.k := Int.mul_le_mul_of_nonneg_right (by omega) (by omega); have hc3 : 0 <= (((c.toNat % 128 : Nat) : Int)) * 128 ^ g.k := Int.mul_nonneg (by omega) (by omega); have hq5 : g.n + ((c.toNat % 128 : Nat) : Int) * 128 ^ g.k < 128 ^ (g.k + 1) := by rw [Int.pow_succ]; omega
     have htm : (c.toNat : Int).tmod 128 = ((c.toNat % 128 : Nat) : Int) := rfl; have hps : (128 : Int) ^ g.k * 128 = 128 ^ (g.k + 1) := rfl; have hpk2 : (128 : Int) ^ (g.k + 1) <= 34359738368 := by rw [Int.pow_succ]; omega
     have hp2 : (0 : Int) < 128 ^ (g.k + 1) := Int.pow_pos (by decide); rw [hH] at hbc hget
     by_cases u3 : 128 <= c.toNat
     ·rw [dec, if_pos u3, <- hd2] at q3
      simp (disch := omega) only [hS2, c51l0, hH, hS, go_sem, seval, reduceCtorEq]; refine Cont.mk hbc ?_; simp (disch := omega) only [q6, htm, hps, List.set_set, go_sem, seval, reduceCtorEq]; exact Nxt.mk ⟨g.k + 1, g.n + ((c.toNat % 128 : Nat) : Int) * 128 ^ g.k, 128 ^ (g.k + 1), false, H.set rb (rd s (a + g.k + 1) false)⟩ (by show 5 - (g.k + 1) < 5 - g.k; omega) (Wk.slots (WkL.tw 7 (hS2 _))) ⟨by show g.k + 1 <= 5; omega, fun _ => ⟨rfl, by show a + (g.k + 1) <= s.size; omega, q3, by show 0 <= g.n + _; omega, hq5, rfl⟩, fun e => (by cases e)⟩
     ·rw [dec, if_neg u3] at q3
      obtain ⟨m, hm⟩ : ∃ m, m = if 64 <= c.toNat then g.n + ((c.toNat % 128 : Nat) : Int) * 128 ^ g.k - 128 ^ (g.k + 1) else g.n + ((c.toNat % 128 : Nat) : Int) * 128 ^ g.k := ⟨_, rfl⟩
      simp only [<- hm] at q3
      by_cases u4 : 64 <= c.toNat
      ·rw [if_pos u4] at hm
       simp (disch := omega) only [hS2, c51l0, hH, hS, go_sem, seval, reduceCtorEq]; refine Cont.mk hbc ?_; simp (disch := omega) only [q6, htm, hps, List.set_set, <- hm, go_sem, seval, reduceCtorEq]; refine Cont.rel (numQ_l (H1 := H.set rb (rd s (a + g.k + 1) false)) (List.length_set ..) m) ?_; rintro v H' ⟨rfl, l, x', rfl, hx⟩; simp (disch := omega) only [hS1, go_sem, seval, reduceCtorEq]; refine Cont.mk (fitsR_c m _) ?_; have hlast : decN (s.data.toList.drop a) = none -> NrI H rb a s ⟨5, m, 128 ^ (g.k + 1), true, H.set rb (rd s (a + g.k + 1) false) ++ l⟩ := fun hno => ⟨Nat.le_refl 5, fun e => (by cases e), fun _ => ⟨rfl, hno, _, _, l, rfl⟩⟩
       by_cases f32 : fit32 m
       ·rw [if_pos f32, if_pos f32] at hx
        have hxc := hx.c; rcases hx.r with ⟨_, h0⟩ | ⟨b, rfl, hb⟩
        ·have h1 := comp7_pos m; rw [h0] at h1; exact absurd h1 (by decide)
        ·have hlb : ((comp7 m).map bd).length = (comp7 m).length := lnm ..
         by_cases fl : (comp7 m).length = g.k + 1
         ·rw [if_pos ⟨f32, fl⟩] at q3
          simp (disch := omega) only [decide_eq_true f32, hxc, hlb, fl, go_sem, seval, reduceCtorEq]; exact Ret.pre (iv m) (H.set rb (rd s (a + g.k + 1) false)) (pre_app _ _) (by simp) (cl_rd hcl rb _ _ s) (.rfl _) (by simp [refs]) ⟨by rw [fin _ q3], by rw [fin _ q3]; rfl⟩
         ·rw [if_neg (fun e => fl e.2)] at q3
          have fl2 : ¬ ((comp7 m).length : Int) = (g.k : Int) + 1 := by omega
          simp (disch := omega) only [decide_eq_true f32, hxc, hlb, fl2, go_sem, seval, reduceCtorEq]; exact Nxt.mk ⟨5, m, 128 ^ (g.k + 1), true, H.set rb (rd s (a + g.k + 1) false) ++ l⟩ (by show 5 - 5 < 5 - g.k; omega) (Wk.slots (WkL.tw 7 (hS2 _))) (hlast q3)
       ·rw [if_neg (fun e => f32 e.1)] at q3
        simp (disch := omega) only [decide_eq_false f32, go_sem, seval, reduceCtorEq]; exact Nxt.mk ⟨5, m, 128 ^ (g.k + 1), true, H.set rb (rd s (a + g.k + 1) false) ++ l⟩ (by show 5 - 5 < 5 - g.k; omega) (Wk.slots (WkL.tw 7 (hS2 _))) (hlast q3)
      ·rw [if_neg u4] at hm
       simp (disch := omega) only [hS2, c51l0, hH, hS, go_sem, seval, reduceCtorEq]; refine Cont.mk hbc ?_; simp (disch := omega) only [q6, htm, hps, List.set_set, <- hm, go_sem, seval, reduceCtorEq]; refine Cont.rel (numQ_l (H1 := H.set rb (rd s (a + g.k + 1) false)) (List.length_set ..) m) ?_; rintro v H' ⟨rfl, l, x', rfl, hx⟩; simp (disch := omega) only [hS1, go_sem, seval, reduceCtorEq]; refine Cont.mk (fitsR_c m _) ?_; have hlast : decN (s.data.toList.drop a) = none -> NrI H rb a s ⟨5, m, 128 ^ (g.k + 1), true, H.set rb (rd s (a + g.k + 1) false) ++ l⟩ := fun hno => ⟨Nat.le_refl 5, fun e => (by cases e), fun _ => ⟨rfl, hno, _, _, l, rfl⟩⟩
       by_cases f32 : fit32 m
       ·rw [if_pos f32, if_pos f32] at hx
        have hxc := hx.c; rcases hx.r with ⟨_, h0⟩ | ⟨b, rfl, hb⟩
        ·have h1 := comp7_pos m; rw [h0] at h1; exact absurd h1 (by decide)
        ·have hlb : ((comp7 m).map bd).length = (comp7 m).length := lnm ..
         by_cases fl : (comp7 m).length = g.k + 1
         ·rw [if_pos ⟨f32, fl⟩] at q3
          simp (disch := omega) only [decide_eq_true f32, hxc, hlb, fl, go_sem, seval, reduceCtorEq]; exact Ret.pre (iv m) (H.set rb (rd s (a + g.k + 1) false)) (pre_app _ _) (by simp) (cl_rd hcl rb _ _ s) (.rfl _) (by simp [refs]) ⟨by rw [fin _ q3], by rw [fin _ q3]; rfl⟩
         ·rw [if_neg (fun e => fl e.2)] at q3
          have fl2 : ¬ ((comp7 m).length : Int) = (g.k : Int) + 1 := by omega
          simp (disch := omega) only [decide_eq_true f32, hxc, hlb, fl2, go_sem, seval, reduceCtorEq]; exact Nxt.mk ⟨5, m, 128 ^ (g.k + 1), true, H.set rb (rd s (a + g.k + 1) false) ++ l⟩ (by show 5 - 5 < 5 - g.k; omega) (Wk.slots (WkL.tw 7 (hS2 _))) (hlast q3)
       ·rw [if_neg (fun e => f32 e.1)] at q3
        simp (disch := omega) only [decide_eq_false f32, go_sem, seval, reduceCtorEq]; exact Nxt.mk ⟨5, m, 128 ^ (g.k + 1), true, H.set rb (rd s (a + g.k + 1) false) ++ l⟩ (by show 5 - 5 < 5 - g.k; omega) (Wk.slots (WkL.tw 7 (hS2 _))) (hlast q3)
    ·have u3 : a + g.k = s.size := by omega
     rw [byteF_no u3] at hbc; have hno : decN (s.data.toList.drop a) = none := by
      rw [q3, hd, u3, List.drop_eq_nil_of_le (by rw [len_data]; exact Nat.le_refl _)]; rfl
     rw [hH] at hbc hget; simp (disch := omega) only [hS2, c51l0, hH, hS, go_sem, seval, reduceCtorEq]; refine Cont.mk hbc ?_; simp (disch := omega) only [q6, Int.zero_mul, Int.add_zero, List.set_set, go_sem, seval, reduceCtorEq]; refine Cont.rel (numQ_l (H1 := H.set rb (rd s (a + g.k) true)) (List.length_set ..) g.n) ?_; rintro v H' ⟨rfl, l, x', rfl, hx⟩; simp (disch := omega) only [hS1, go_sem, seval, reduceCtorEq]; exact Nxt.mk ⟨5, g.n, 128 ^ g.k * 128, true, H.set rb (rd s (a + g.k) true) ++ l⟩ (by show 5 - 5 < 5 - g.k; omega) (Wk.slots (WkL.tw 7 (hS2 _))) ⟨Nat.le_refl 5, fun e => (by cases e), fun _ => ⟨rfl, hno, _, _, l, rfl⟩⟩
   ·have hk5 : g.k = 5 := by have := hg.k; omega
    have hk5' : ¬ (g.k : Int) < 5 := by omega
    have hno : decN (s.data.toList.drop a) = none := by rw [q3, hk5]; rfl
    simp (disch := omega) only [hS2, c51l0, hH, hk5', hS, List.set_set, go_sem, seval, reduceCtorEq]; have := hout hno []; rw [List.append_nil] at this; exact this
end Go.Proofs.YthifjndenhjobaaGreat.Rid
