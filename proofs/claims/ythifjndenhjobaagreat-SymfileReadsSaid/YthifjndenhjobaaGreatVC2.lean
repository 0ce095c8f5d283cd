/- The reader's functions that take bytes. -/
import Derived.Test.YthifjndenhjobaaGreatVB5
import Derived.Test.YthifjndenhjobaaGreatVCodeD
set_option linter.unusedSectionVars false
set_option linter.unusedSimpArgs false
set_option linter.unusedVariables false
set_option maxHeartbeats 2000000
set_option maxRecDepth 20000
namespace Go.Proofs.YthifjndenhjobaaGreat.Rid
open Go.RowKit
def c12 : AC :=
 sr [im 2 (.c .nilp)]
 (sr [im 3 t0, kn 4 (.bd [ks, kz, (.d (.v (.bool false)))] [(0, 1, t3)]), kn 5 (.bx t4), im 2 t5]
 (.ret))
def r12 : List RC := [.t 2]
def c21 : AC :=
 sr [im 2 (kc 0)]
 (sr [im 6 t0, ic 7 44 [t6, (kc 1)], im 5 t7, kn 8 (.ext t5 0), kn 9 (.ext t5 1), im 3 t8, im 4 t9]
 (.seq (sr [im 10 t4, kn 11 (.un .not t10)]
 (.cond t11 (sr [im 2 (kc 0)]
 (.ret)) (.skip)))
 (sr [im 12 t3, kn 13 (.ix t12 (kc 0)), kn 14 (.cvi .i64 t13), im 2 t14]
 (.ret))))
def r21 : List RC := [.t 2]
def c23 : AC :=
 sr [im 2 kF]
 (.seq (.dreg [[], [0], [1], [2, 1], [3], [4, 3], [5, 3], [6, 3], [3], [8, 3], [9, 3], [10, 3], [11, 3], [7, 12, 3], [3, 13], [14, 3, 0, 1, 2, 3, 4, 5, 6, 7, 8, 9, 10, 11, 12, 13, 14]] [im 3 t0, ic 4 45 [t3], kn 5 (.un .not t4), im 6 t5, ky 7 6 (.mv t0), ky 8 6 (.nc t7), ky 9 6 (.fa t8 1), ky 10 6 (.ld t9 1 false), ky 11 6 (.mv t0), ky 12 6 (.nc t11), ky 13 6 (.fa t12 0), ky 14 6 (.ld t13 1 false), ky 15 6 (.len true t14), ky 16 6 (.bin .eql t10 t15), kn 17 (.pick t6 t16 kF), im 2 t17])
 (.ret))
def r23 : List RC := [.t 2]
def c44 : AC :=
 sr [im 4 (.c ks), im 5 kF]
 (.seq (sr [im 6 t0, kn 7 (.eqp false t6 (.c .nilp)), im 8 t7, ko 9 8 (.mv t0), ko 10 8 (.nc t9), ko 11 8 (.fa t10 2), ko 12 8 (.ld t11 1 false), kn 13 (.pick t8 kT t12)]
 (.cond t13 (sr [im 4 (.c ks), im 5 kF]
 (.ret)) (.skip)))
 (.seq (.seq (.dreg [[], [0], [1], [2], [2], [4, 2], [5, 2], [6, 2], [7, 2], [2], [9, 2], [10, 2], [11, 2], [8, 12, 2], [3, 13, 2], [2, 14]] [im 14 t1, ib 15 .lss t14 (kc 0), im 16 t15, ko 17 16 (.mv t1), ko 18 16 (.mv t0), ko 19 16 (.nc t18), ko 20 16 (.fa t19 0), ko 21 16 (.ld t20 1 false), ko 22 16 (.len true t21), ko 23 16 (.mv t0), ko 24 16 (.nc t23), ko 25 16 (.fa t24 1), ko 26 16 (.ld t25 1 false), ko 27 16 (.bin .sub t22 t26), ko 28 16 (.bin .gtr t17 t27), kn 29 (.pick t16 kT t28)])
 (.cond t29 (sr [im 30 t0, iv0 31 t30, ia 32 t31 2, ke (.st t32 kT 1)]
 (sr [im 4 (.c ks), im 5 kF]
 (.ret))) (.skip)))
 (sr [im 33 t0, iv0 34 t33, ia 35 t34 1, il 36 t35, im 37 t1, ib 38 .add t36 t37, iv0 39 t33, ia 40 t39 1, ke (.st t40 t38 1)]
 (.seq (.dreg [[], [0], [1], [2], [], [4], [5], [6], [], [7, 8], [], [10], [11], [12], [3, 9, 13], [14, 0, 1, 2, 3, 4, 5, 6, 7, 8, 9, 10, 11, 12, 13, 14], [15, 0, 1, 2, 3, 4, 5, 6, 7, 8, 9, 10, 11, 12, 13, 14, 15]] [im 41 t0, iv0 42 t41, ia 43 t42 0, il 44 t43, im 45 t0, iv0 46 t45, ia 47 t46 1, il 48 t47, im 49 t1, ib 50 .sub t48 t49, im 51 t0, iv0 52 t51, ia 53 t52 1, il 54 t53, kn 55 (.sli true t44 (some t50) (some t54) 1), im 4 t55, im 5 kT])
 (.ret)))))
def r44 : List RC := [.t 4, .t 5]
def c45 : AC :=
 sr [im 2 kF]
 (sr [im 3 t0, kn 4 (.eqp false t3 (.c .nilp)), im 5 t4, ko 6 5 (.mv t0), ko 7 5 (.nc t6), ko 8 5 (.fa t7 2), ko 9 5 (.ld t8 1 false), kn 10 (.pick t5 kT t9), im 2 t10]
 (.ret))
def r45 : List RC := [.t 2]
theorem cc12 : cK Tryz.f12 (hhD 12) c12 := by unfold cK; kernel_rfl
theorem rr12 : resC Tryz.prog Tryz.f12 = some r12 := by kernel_rfl
theorem cc21 : cK Tryz.f21 (hhD 21) c21 := by unfold cK; kernel_rfl
theorem rr21 : resC Tryz.prog Tryz.f21 = some r21 := by kernel_rfl
theorem cc23 : cK Tryz.f23 (hhD 23) c23 := by unfold cK; kernel_rfl
theorem rr23 : resC Tryz.prog Tryz.f23 = some r23 := by kernel_rfl
theorem cc44 : cK Tryz.f44 (hhD 44) c44 := by unfold cK; kernel_rfl
theorem rr44 : resC Tryz.prog Tryz.f44 = some r44 := by kernel_rfl
theorem cc45 : cK Tryz.f45 (hhD 45) c45 := by unfold cK; kernel_rfl
theorem rr45 : resC Tryz.prog Tryz.f45 = some r45 := by kernel_rfl
abbrev rd (s : ByteArray) (a : Nat) (bad : Bool) : ABlk := .cells [sv s, iv a, bv bad]
structure Rd where
 a : Nat
 bad : Bool
def takeF (s : ByteArray) (r : Rd) (n : Int) : ByteArray × Bool × Rd :=
 if r.bad = true then (nl, false, r) else if n < 0 \/ n > (s.size : Int) - r.a then (nl, false, ⟨r.a, true⟩) else (s.extract r.a (r.a + n.toNat), true, ⟨r.a + n.toNat, false⟩)
theorem takeF_le {s : ByteArray} {r : Rd} (h : r.a <= s.size) (n : Int) : (takeF s r n).2.2.a <= s.size := by
 unfold takeF; split
 ·exact h
 ·split
  ·exact h
  ·rename_i h2; show r.a + n.toNat <= s.size; omega
theorem take_c {H : List ABlk} {rb : Nat} {s : ByteArray} {r : Rd} (h : H[rb]? = some (rd s r.a r.bad)) (hs : s.size <= 300000) (ha : r.a <= s.size) (n : Int) : ACalls Tryz.prog 44 [.ptr rb 0, iv n] H fun v H' => v = .tup [sv (takeF s r n).1, bv (takeF s r n).2.1] /\ H' = H.set rb (rd s (takeF s r n).2.2.a (takeF s r n).2.2.bad) := by
 refine ACalls.into Tryz.func44 cc44 rr44 fun hcl => ?_
 have hS : ∀ x, (H.set rb x)[rb]? = some x := fun x => getset_eq h
 obtain ⟨a, bad⟩ := r; simp only at h ha
 cases bad with
 | true =>
  simp (disch := omega) only [Tryz.ntmps44, c44, r44, h, go_sem, seval, reduceCtorEq]; exact Ret.keep ⟨rfl, by simp only [takeF, if_true]; rw [set_self h]⟩
 | false =>
  simp (disch := omega) only [Tryz.ntmps44, c44, r44, h, go_sem, seval, reduceCtorEq]; refine W.pchain follows (by decide +kernel) ?_
  by_cases h1 : n < 0
  ·simp (disch := omega) only [h, go_sem, seval, reduceCtorEq]
   exact Ret.keep ⟨by simp [takeF, h1], by simp [takeF, h1]⟩
  by_cases h2 : n > (s.size : Int) - a
  ·simp (disch := omega) only [h, go_sem, seval, reduceCtorEq]
   exact Ret.keep ⟨by simp [takeF, h2], by simp [takeF, h2]⟩
  obtain ⟨m, rfl⟩ := Int.eq_ofNat_of_zero_le (Int.not_lt.1 h1); have e0 : takeF s ⟨a, false⟩ (m : Int) = (s.extract a (a + m), true, ⟨a + m, false⟩) := by
   simp only [takeF]; rw [if_neg (by simp), if_neg (by simp; omega)]
   simp
  have e1 : ((a : Int) + (m : Int) - (m : Int)).toNat = a := by omega
  have e2 : ((a : Int) + (m : Int)).toNat = a + m := by omega
  simp (disch := omega) only [h, go_sem, seval, reduceCtorEq]; refine W.pchain follows (by decide +kernel) ?_; simp (disch := omega) only [hS, e1, e2, go_sem, seval, reduceCtorEq]; exact Ret.keep ⟨by rw [e0], by rw [e0]; rfl⟩
theorem chr_ex {s : ByteArray} {a m i : Nat} (hi : i < m) (h : a + m <= s.size) : (s.extract a (a + m)).data.toList.getD i 0 = s.data.toList.getD (a + i) 0 := by
 rw [ex_list, gD, gD, List.getElem?_take, if_pos (by omega), List.getElem?_drop]
def byteF (s : ByteArray) (r : Rd) : Int × Rd := (if (takeF s r 1).2.1 = true then chr s r.a else 0, (takeF s r 1).2.2)
theorem byte_c {H : List ABlk} {rb : Nat} {s : ByteArray} {r : Rd} (h : H[rb]? = some (rd s r.a r.bad)) (hs : s.size <= 300000) (ha : r.a <= s.size) : ACalls Tryz.prog 21 [.ptr rb 0] H fun v H' => v = iv (byteF s r).1 /\ H' = H.set rb (rd s (byteF s r).2.a (byteF s r).2.bad) := by
 refine ACalls.into Tryz.func21 cc21 rr21 fun hcl => ?_
 simp (disch := omega) only [Tryz.ntmps21, c21, r21, go_sem, seval, reduceCtorEq]; refine Cont.mk (take_c h hs ha 1) ?_; have hb : (byteF s r).2 = (takeF s r 1).2.2 := rfl; rw [hb]
 cases e : (takeF s r 1).2.1 with
 | false =>
  simp (disch := omega) only [go_sem, seval, reduceCtorEq]; exact Ret.keep ⟨by rw [byteF, e]; rfl, rfl⟩
 | true =>
  have e2 : r.a + 1 <= s.size /\ (takeF s r 1).1 = s.extract r.a (r.a + 1) := by
   unfold takeF at e ⊢
   split at e
   ·cases e
   ·split at e
    ·cases e
    ·rename_i q1 q2
     rw [if_neg q1, if_neg q2]; exact ⟨by omega, rfl⟩
  have e3 : (takeF s r 1).1.size = 1 := by rw [e2.2, ex_size _ _ _ e2.1]; omega
  have e4 : (takeF s r 1).1.data.toList.getD 0 0 = s.data.toList.getD r.a 0 := by rw [e2.2, chr_ex (by omega) e2.1]; rfl
  have hlt := (s.data.toList.getD r.a 0).toNat_lt; simp (disch := omega) only [e3, e4, go_sem, seval, reduceCtorEq]; exact Ret.keep ⟨by rw [byteF, e]; rfl, rfl⟩
theorem bad_c {H : List ABlk} {rb : Nat} {s : ByteArray} {r : Rd} (h : H[rb]? = some (rd s r.a r.bad)) : ACalls Tryz.prog 45 [.ptr rb 0] H fun v H' => v = bv r.bad /\ H' = H := by
 refine ACalls.into Tryz.func45 cc45 rr45 fun hcl => ?_
 simp (disch := omega) only [Tryz.ntmps45, c45, r45, h, go_sem, seval, reduceCtorEq]; exact Ret.keep ⟨rfl, rfl⟩
def endF (s : ByteArray) (r : Rd) : Bool := !r.bad && decide (r.a = s.size)
theorem end_c {H : List ABlk} {rb : Nat} {s : ByteArray} {r : Rd} (h : H[rb]? = some (rd s r.a r.bad)) : ACalls Tryz.prog 23 [.ptr rb 0] H fun v H' => v = bv (endF s r) /\ H' = H := by
 refine ACalls.into Tryz.func23 cc23 rr23 fun hcl => ?_
 simp (disch := omega) only [Tryz.ntmps23, c23, r23, go_sem, seval, reduceCtorEq]; refine W.pchain follows (by decide +kernel) ?_; simp (disch := omega) only [go_sem, seval, reduceCtorEq]; refine PCont.mk (bad_c h) ?_
 cases e : r.bad with
 | true =>
  rw [e] at h; simp (disch := omega) only [go_sem, seval, reduceCtorEq]; exact Ret.keep ⟨by rw [endF, e]; rfl, rfl⟩
 | false =>
  rw [e] at h; simp (disch := omega) only [h, go_sem, seval, reduceCtorEq]; refine Ret.keep ⟨?_, rfl⟩; rw [endF, e]; simp only [Bool.not_false, Bool.true_and]
  congr 3
  exact decide_eq_decide.2 (by omega)
theorem read_c (s : ByteArray) (H : List ABlk) : ACalls Tryz.prog 12 [sv s] H fun v H' => v = .ptr H.length 0 /\ H' = H ++ [rd s 0 false] := by
 refine ACalls.into Tryz.func12 cc12 rr12 fun hcl => ?_
 simp (disch := omega) only [Tryz.ntmps12, c12, r12, go_sem, seval, reduceCtorEq]; exact Ret.keep ⟨rfl, rfl⟩
def c22l0 : AC :=
 .seq (sr [im 24 t5, im 25 t3, kn 26 (.len true t25), ib 27 .lss t24 t26, im 28 t27, ky 29 28 (.mv t5), ky 30 28 (.bin .lss t29 (kc 5)), kn 31 (.pick t28 t30 kF)]
 (.cond t31 (.skip) (.exit 0)))
 (.block 1 (sr [im 32 t3, im 33 t5, kn 34 (.ix t32 t33), im 6 t34]
 (sr [im 35 t4, im 36 t6, kn 37 (.bin .and t36 (.c (.d (.v (.int .u8 127))))), kn 38 (.cvi .i64 t37), im 39 t5, kn 40 (.bin .mul (kc 7) t39), ib 41 .shl t38 t40, ib 42 .or t35 t41, im 4 t42]
 (sr [im 43 t5, ib 44 .add t43 (kc 1), im 5 t44]
 (.seq (sr [im 45 t6, kn 46 (.bin .geq t45 (.c (.d (.v (.int .u8 128)))))]
 (.cond t46 (.exit 1) (.skip)))
 (.seq (sr [im 47 t6, kn 48 (.bin .and t47 (.c (.d (.v (.int .u8 64))))), kn 49 (.bin .neq t48 (.c (.d (.v (.int .u8 0)))))]
 (.cond t49 (.reg [im 50 t4, im 51 t5, kn 52 (.bin .mul (kc 7) t51), kn 53 (.bin .shl (kc (-1)) t52), ib 54 .or t50 t53, im 4 t54]) (.skip)))
 (.seq (sr [im 55 t4, ic 56 48 [t55, (kc 32)], im 57 t56, ky 58 57 (.mv t4), ky 59 57 (.call 49 [t58]), ky 60 57 (.len true t59), ky 61 57 (.mv t5), ky 62 57 (.bin .eql t60 t61), kn 63 (.pick t57 t62 kF)]
 (.cond t63 (sr [im 64 t0, iv0 65 t64, ia 66 t65 1, il 67 t66, im 68 t5, ib 69 .add t67 t68, iv0 70 t64, ia 71 t70 1, ke (.st t71 t69 1)]
 (sr [im 72 t4, im 2 t72]
 (.ret))) (.skip)))
 (.exit 0))))))))
def c22 : AC :=
 sr [im 2 (kc 0)]
 (.seq (sr [im 7 t0, kn 8 (.eqp false t7 (.c .nilp)), im 9 t8, ko 10 9 (.mv t0), ko 11 9 (.nc t10), ko 12 9 (.fa t11 2), ko 13 9 (.ld t12 1 false), kn 14 (.pick t9 kT t13)]
 (.cond t14 (sr [im 2 (kc 0)]
 (.ret)) (.skip)))
 (.seq (.dreg [[], [0], [1], [2], [], [4], [5], [6], [3, 7], [8, 0, 1, 2, 3, 4, 5, 6, 7, 8]] [im 15 t0, iv0 16 t15, ia 17 t16 0, il 18 t17, im 19 t0, iv0 20 t19, ia 21 t20 1, il 22 t21, kn 23 (.sli true t18 (some t22) none 1), im 3 t23])
 (sr [im 4 (kc 0), im 5 (kc 0)]
 (.seq (.block 0 (.loop c22l0))
 (sr [im 73 t0, iv0 74 t73, ia 75 t74 2, ke (.st t75 kT 1)]
 (sr [im 2 (kc 0)]
 (.ret)))))))
def r22 : List RC := [.t 2]
theorem cc22 : cK Tryz.f22 (hhD 22) c22 := by unfold cK; kernel_rfl
theorem rr22 : resC Tryz.prog Tryz.f22 = some r22 := by kernel_rfl
def numF (s : ByteArray) (r : Rd) : Int × Rd :=
 if r.bad = true then (0, r) else match decN (s.data.toList.drop r.a) with
  | some p => (p.1, ⟨r.a + p.2, false⟩)
  | none => (0, ⟨r.a, true⟩)
theorem dec_le : ∀ (d : Nat) (l : List UInt8) (k : Nat) (n : Int) (p : Int × Nat), dec d l k n = some p -> p.2 <= k + l.length
 | 0, l, k, n, p, h => by simp [dec] at h
 | d + 1, [], k, n, p, h => by simp [dec] at h
 | d + 1, c :: r, k, n, p, h => by
  simp only [dec] at h
  split at h
  ·have := dec_le d r (k + 1) _ p h
   simp only [List.length_cons]; omega
  ·split at h <;> split at h <;> first | (cases h; simp; done) | cases h
theorem numF_le {s : ByteArray} {r : Rd} (h : r.a <= s.size) : (numF s r).2.a <= s.size := by
 unfold numF
 split
 ·exact h
 ·split
  ·rename_i p hp
   have := dec_le _ _ _ _ _ hp; rw [List.length_drop, len_data] at this
   show r.a + p.2 <= s.size
   omega
  ·exact h
theorem and127c {c : Nat} (h : c < 256) : ((BitVec.ofInt IntKind.u8.bits (c : Int) &&& BitVec.ofInt IntKind.u8.bits 127).toNat : Int) % 256 = ((c % 128 : Nat) : Int) := by
 have := and127 (c : Int); rw [Int.emod_eq_of_lt (by omega) (by omega)] at this
 show ((BitVec.ofInt 8 (c : Int) &&& BitVec.ofInt 8 127).toNat : Int) % 256 = _
 rw [this]; omega
theorem and64c {c : Nat} (h : c < 128) : decide (((BitVec.ofInt IntKind.u8.bits (c : Int) &&& BitVec.ofInt IntKind.u8.bits 64).toNat : Int) % 256 = 0) = decide (¬ 64 <= c) := by
 have : ∀ x : Fin 128, decide (((BitVec.ofNat 8 x.val &&& BitVec.ofInt 8 64).toNat : Int) % 256 = 0) = decide (¬ 64 <= x.val) := by decide +kernel
 have := this ⟨c, h⟩; rw [<- BitVec.ofInt_natCast] at this; exact this
theorem and64d {c : Nat} (h : c < 128) : decide (((BitVec.ofInt 8 (c : Int) &&& 64#8).toNat : Int) = 0) = decide (¬ 64 <= c) := by
 have := and64c h; have hl : (((BitVec.ofInt 8 (c : Int) &&& 64#8).toNat : Nat) : Int) % 256 = ((BitVec.ofInt 8 (c : Int) &&& 64#8).toNat : Nat) := by
  have := (BitVec.ofInt 8 (c : Int) &&& 64#8).isLt; omega
 rw [<- hl]; exact this
theorem or64 {a x : Int} {k : Nat} (h0 : 0 <= a) (h1 : a < 2 ^ k) (hk : k < 64) (h2 : -9223372036854775808 <= a + x * 2 ^ k) (h3 : a + x * 2 ^ k < 9223372036854775808) : IntKind.i64.wrap ((BitVec.ofInt IntKind.i64.bits a ||| BitVec.ofInt IntKind.i64.bits (x * 2 ^ k)).toNat : Int) = a + x * 2 ^ k := by
 show IntKind.i64.wrap ((BitVec.ofInt 64 a ||| BitVec.ofInt 64 (x * 2 ^ k)).toNat : Int) = _
 rw [or_low h0 h1 hk, to64 h2 h3]
theorem pow7 (k : Nat) : (2 : Int) ^ (7 * k) = 128 ^ k := by rw [Int.pow_mul]; rfl
structure NmG where
 k : Nat
 n : Int
theorem num_c {H : List ABlk} {rb : Nat} {s : ByteArray} {r : Rd} (h : H[rb]? = some (rd s r.a r.bad)) (hs : s.size <= 300000) (ha : r.a <= s.size) : ACalls Tryz.prog 22 [.ptr rb 0] H fun v H' => v = iv (numF s r).1 /\ H' = H.set rb (rd s (numF s r).2.a (numF s r).2.bad) := by
 refine ACalls.into Tryz.func22 cc22 rr22 fun hcl => ?_
 have hS : ∀ x, (H.set rb x)[rb]? = some x := fun x => getset_eq h
 obtain ⟨a, bad⟩ := r; simp only at h ha
 cases bad with
 | true =>
  simp (disch := omega) only [Tryz.ntmps22, c22, r22, h, go_sem, seval, reduceCtorEq]; exact Ret.keep ⟨rfl, by simp only [numF, if_true]; rw [set_self h]⟩
 | false =>
  simp (disch := omega) only [Tryz.ntmps22, c22, r22, h, go_sem, seval, reduceCtorEq]; refine W.pchain follows (by decide +kernel) ?_; simp (disch := omega) only [h, go_sem, seval, reduceCtorEq]; obtain ⟨t, ht⟩ : ∃ t, t = s.extract a s.size := ⟨_, rfl⟩; have htl : t.data.toList = s.data.toList.drop a := by
   rw [ht, ex_list, List.take_of_length_le (by rw [List.length_drop, len_data]; omega)]
  have hts : t.size = s.size - a := by rw [ht, ex_size _ _ _ (Nat.le_refl _)]
  obtain ⟨S, hS2⟩ : ∃ S : NmG -> List AV, ∀ g, S g = [.ptr rb 0, .any, .any, sv t, iv g.n, iv g.k] ++ List.replicate 70 .any := ⟨_, fun _ => rfl⟩; rw [<- ht]; have fin : ∀ o, decN (s.data.toList.drop a) = o -> numF s ⟨a, false⟩ = match o with
   | some p => (p.1, ⟨a + p.2, false⟩)
   | none => (0, ⟨a, true⟩) := fun o ho => by rw [numF, if_neg (by simp), ho]
  refine W.loopG (γ := NmG) (fun g => 5 - g.k) S (fun _ => H) (fun g => g.k <= 5 /\ g.k <= t.size /\ decN t.data.toList = dec (5 - g.k) (t.data.toList.drop g.k) g.k g.n /\ 0 <= g.n /\ g.n < 128 ^ g.k) ⟨0, 0⟩ (Wk.slots (WkL.tw 6 (hS2 _))) ⟨by show (0 : Nat) <= 5; omega, Nat.zero_le _, rfl, by decide, by decide⟩ (fun g hg => ?_); obtain ⟨q1, q2, q3, q4, q5⟩ := hg; have hgiveup : decN t.data.toList = none -> Ret r22 H.length (fun v H' => v = iv (numF s ⟨a, false⟩).1 /\ H' = H.set rb (rd s (numF s ⟨a, false⟩).2.a (numF s ⟨a, false⟩).2.bad)) (some (iv 0)) (H.set rb (rd s a true)) := fun hd => by
   rw [htl] at hd; rw [fin none hd]; exact Ret.keep ⟨rfl, rfl⟩
  simp only [r22] at hgiveup
  by_cases u1 : g.k < t.size
  ·by_cases u2 : g.k < 5
   ·have hdrop : t.data.toList.drop g.k = t.data.toList.getD g.k 0 :: t.data.toList.drop (g.k + 1) := by
     rw [List.drop_eq_getElem_cons (by rw [len_data]; exact u1), gD, gE (by rw [len_data]; exact u1)]; rfl
    obtain ⟨d, hd⟩ : ∃ d, 5 - g.k = d + 1 := ⟨4 - g.k, by omega⟩; rw [hd, hdrop] at q3; have hd2 : 5 - (g.k + 1) = d := by omega
    have hclt := (t.data.toList.getD g.k 0).toNat_lt; obtain ⟨c, hcc⟩ : ∃ c, t.data.toList.getD g.k 0 = c := ⟨_, rfl⟩; rw [hcc] at q3 hclt; have hpk : (128 : Int) ^ g.k <= 268435456 := by
     rcases (by omega : g.k = 0 \/ g.k = 1 \/ g.k = 2 \/ g.k = 3 \/ g.k = 4) with e | e | e | e | e <;> rw [e] <;> decide
    have hp1 : (0 : Int) < 128 ^ g.k := Int.pow_pos (by decide); have hc2 : (((c.toNat % 128 : Nat) : Int)) * 128 ^ g.k <= 127 * 128 ^ g.k := Int.mul_le_mul_of_nonneg_right (by omega) (by omega); have hc3 : 0 <= (((c.toNat % 128 : Nat) : Int)) * 128 ^ g.k := Int.mul_nonneg (by omega) (by omega); have e7 : (7 * (g.k : Int)).toNat = 7 * g.k := by omega
    have eor : IntKind.i64.wrap ((BitVec.ofInt IntKind.i64.bits g.n ||| BitVec.ofInt IntKind.i64.bits (((c.toNat % 128 : Nat) : Int) * 128 ^ g.k)).toNat : Int) = g.n + ((c.toNat % 128 : Nat) : Int) * 128 ^ g.k := by
     have := or64 (a := g.n) (x := ((c.toNat % 128 : Nat) : Int)) (k := 7 * g.k) q4 (by rw [pow7]; exact q5) (by omega) (by rw [pow7]; omega) (by rw [pow7]; omega)
     rwa [pow7] at this
    have z1 := and127c hclt
    try simp only [go_sem, seval, reduceCtorEq] at z1
    have z2 := eor
    try simp only [go_sem, seval, reduceCtorEq] at z2
    have hq5 : g.n + ((c.toNat % 128 : Nat) : Int) * 128 ^ g.k < 128 ^ (g.k + 1) := by rw [Int.pow_succ]; omega
    by_cases u3 : 128 <= c.toNat
    ·rw [dec, if_pos u3, <- hd2] at q3
     simp (disch := omega) only [hS2, c22l0, hcc, and127c hclt, e7, pow7, eor, z1, z2, go_sem, seval, reduceCtorEq]; exact Nxt.mk ⟨g.k + 1, g.n + ((c.toNat % 128 : Nat) : Int) * 128 ^ g.k⟩ (by show 5 - (g.k + 1) < 5 - g.k; omega) (Wk.slots (WkL.tw 6 (hS2 _))) ⟨by show g.k + 1 <= 5; omega, by show g.k + 1 <= t.size; omega, q3, by show 0 <= g.n + _; omega, hq5⟩
    ·have hand := and64c (c := c.toNat) (by omega)
     rw [dec, if_neg u3] at q3; have e8 : (7 * ((g.k : Int) + 1)).toNat = 7 * (g.k + 1) := by omega
     by_cases u4 : 64 <= c.toNat
     ·rw [decide_eq_false (p := ¬ 64 <= c.toNat) (by simpa using u4)] at hand
      rw [if_pos u4] at q3; have ham : g.n + ((c.toNat % 128 : Nat) : Int) * 128 ^ g.k - 128 ^ (g.k + 1) = g.n + ((c.toNat % 128 : Nat) : Int) * 128 ^ g.k + -1 * 128 ^ (g.k + 1) := by omega
      have hpk2 : (128 : Int) ^ (g.k + 1) <= 34359738368 := by rw [Int.pow_succ]; omega
      have eor2 : IntKind.i64.wrap ((BitVec.ofInt IntKind.i64.bits (g.n + ((c.toNat % 128 : Nat) : Int) * 128 ^ g.k) ||| BitVec.ofInt IntKind.i64.bits (-1 * 128 ^ (g.k + 1))).toNat : Int) = g.n + ((c.toNat % 128 : Nat) : Int) * 128 ^ g.k + -1 * 128 ^ (g.k + 1) := by
       have := or64 (a := g.n + ((c.toNat % 128 : Nat) : Int) * 128 ^ g.k) (x := -1) (k := 7 * (g.k + 1)) (by omega) (by rw [pow7]; exact hq5) (by omega) (by rw [pow7]; omega) (by rw [pow7]; omega)
       rwa [pow7] at this
      have z3 := and64d (c := c.toNat) (by omega); rw [decide_eq_false (p := ¬ 64 <= c.toNat) (by simpa using u4)] at z3; have z5 : (((@HAnd.hAnd (BitVec 8) (BitVec 8) (BitVec 8) (@instHAndOfAndOp (BitVec IntKind.u8.bits) (@BitVec.instAndOp IntKind.u8.bits)) (BitVec.ofInt 8 (c.toNat : Int)) 64#8).toNat : Int) = 0) = False := eq_false (of_decide_eq_false z3); have z4 := eor2
      try simp only [go_sem, seval, reduceCtorEq] at z4
      simp (disch := omega) only [hS2, c22l0, hcc, and127c hclt, e7, e8, pow7, eor, hand, eor2, z1, z2, z3, z4, z5, go_sem, seval, reduceCtorEq]; rw [ham] at q3
      generalize g.n + ((c.toNat % 128 : Nat) : Int) * 128 ^ g.k + -1 * 128 ^ (g.k + 1) = m at q3 ⊢
      refine Cont.mk (fits32_c m H) ?_
      by_cases f32 : fit32 m
      ·simp (disch := omega) only [decide_eq_true f32, go_sem, seval, reduceCtorEq]
       refine Cont.mk (compact_c m f32 H) ?_; have hcs : (⟨(comp7 m).toArray⟩ : ByteArray).size = (comp7 m).length := by show (comp7 m).toArray.size = _; simp
       by_cases fl : (comp7 m).length = g.k + 1
       ·rw [if_pos ⟨f32, fl⟩, htl] at q3
        have hcast : (a : Int) + ((g.k : Int) + 1) = ((a + (g.k + 1) : Nat) : Int) := by omega
        have hfi : ((g.k + 1 : Nat) : Int) = (g.k : Int) + 1 := by omega
        simp (disch := omega) only [hcs, fl, h, hS, go_sem, seval, reduceCtorEq]; rw [hcast]; exact Ret.keep ⟨by rw [fin _ q3], by rw [fin _ q3]⟩
       ·rw [if_neg (fun e => fl e.2)] at q3
        have fl2 : ¬ ((comp7 m).length : Int) = (g.k : Int) + 1 := by omega
        simp (disch := omega) only [hcs, fl2, h, hS, inB_o (id := 1) (id' := 0) (by decide), go_sem, seval, reduceCtorEq]; exact hgiveup q3
      ·rw [if_neg (fun e => f32 e.1)] at q3
       simp (disch := omega) only [decide_eq_false f32, h, hS, inB_o (id := 1) (id' := 0) (by decide), go_sem, seval, reduceCtorEq]; exact hgiveup q3
     ·rw [decide_eq_true (p := ¬ 64 <= c.toNat) u4] at hand
      rw [if_neg u4] at q3; have z3 := and64d (c := c.toNat) (by omega); rw [decide_eq_true (p := ¬ 64 <= c.toNat) u4] at z3; have z5 : (((@HAnd.hAnd (BitVec 8) (BitVec 8) (BitVec 8) (@instHAndOfAndOp (BitVec IntKind.u8.bits) (@BitVec.instAndOp IntKind.u8.bits)) (BitVec.ofInt 8 (c.toNat : Int)) 64#8).toNat : Int) = 0) = True := eq_true (of_decide_eq_true z3); simp (disch := omega) only [hS2, c22l0, hcc, and127c hclt, e7, e8, pow7, eor, hand, z1, z2, z3, z5, go_sem, seval, reduceCtorEq]
      generalize g.n + ((c.toNat % 128 : Nat) : Int) * 128 ^ g.k = m at q3 ⊢
      refine Cont.mk (fits32_c m H) ?_
      by_cases f32 : fit32 m
      ·simp (disch := omega) only [decide_eq_true f32, go_sem, seval, reduceCtorEq]
       refine Cont.mk (compact_c m f32 H) ?_; have hcs : (⟨(comp7 m).toArray⟩ : ByteArray).size = (comp7 m).length := by show (comp7 m).toArray.size = _; simp
       by_cases fl : (comp7 m).length = g.k + 1
       ·rw [if_pos ⟨f32, fl⟩, htl] at q3
        have hcast : (a : Int) + ((g.k : Int) + 1) = ((a + (g.k + 1) : Nat) : Int) := by omega
        have hfi : ((g.k + 1 : Nat) : Int) = (g.k : Int) + 1 := by omega
        simp (disch := omega) only [hcs, fl, h, hS, go_sem, seval, reduceCtorEq]; rw [hcast]; exact Ret.keep ⟨by rw [fin _ q3], by rw [fin _ q3]⟩
       ·rw [if_neg (fun e => fl e.2)] at q3
        have fl2 : ¬ ((comp7 m).length : Int) = (g.k : Int) + 1 := by omega
        simp (disch := omega) only [hcs, fl2, h, hS, inB_o (id := 1) (id' := 0) (by decide), go_sem, seval, reduceCtorEq]; exact hgiveup q3
      ·rw [if_neg (fun e => f32 e.1)] at q3
       simp (disch := omega) only [decide_eq_false f32, h, hS, inB_o (id := 1) (id' := 0) (by decide), go_sem, seval, reduceCtorEq]; exact hgiveup q3
   ·have hk5 : g.k = 5 := by omega
    have hno : decN t.data.toList = none := by rw [q3, hk5]; rfl
    simp (disch := omega) only [hS2, c22l0, h, go_sem, seval, reduceCtorEq]; exact hgiveup hno
  ·have hke : g.k = t.size := by omega
   have hno : decN t.data.toList = none := by
    rw [q3, hke, List.drop_eq_nil_of_le (by rw [len_data]; exact Nat.le_refl _)]
    cases 5 - t.size <;> rfl
   simp (disch := omega) only [hS2, c22l0, h, go_sem, seval, reduceCtorEq]; exact hgiveup hno
end Go.Proofs.YthifjndenhjobaaGreat.Rid
