/- wakes; the reader's words and texts. -/
import Derived.Test.YthifjndenhjobaaGreatVC2
import Derived.Test.YthifjndenhjobaaGreatVT3
set_option linter.unusedSectionVars false
set_option linter.unusedSimpArgs false
set_option linter.unusedVariables false
set_option maxHeartbeats 2000000
set_option maxRecDepth 20000
namespace Go.Proofs.YthifjndenhjobaaGreat.Rid
open Go.RowKit
def c13 : AC :=
 sr [im 2 (.c ks)]
 (.seq (sr [im 4 t0, kn 5 (.eqp false t4 (.c .nilp)), im 6 t5, ko 7 6 (.mv t0), ko 8 6 (.nc t7), ko 9 6 (.fa t8 2), ko 10 6 (.ld t9 1 false), kn 11 (.pick t6 kT t10)]
 (.cond t11 (sr [im 2 (.c ks)]
 (.ret)) (.skip)))
 (.seq (.dreg [[], [0], [1], [2], [], [4], [5], [6], [3, 7], [8], [9, 9, 0, 1, 2, 3, 4, 5, 6, 7, 8, 9]] [im 12 t0, iv0 13 t12, ia 14 t13 0, il 15 t14, im 16 t0, iv0 17 t16, ia 18 t17 1, il 19 t18, kn 20 (.sli true t15 (some t19) none 1), ic 21 43 [t20, (.c (.d (.v (.int .u8 0))))], im 3 t21])
 (.seq (sr [im 22 t3, ib 23 .lss t22 (kc 0), im 24 t23, ko 25 24 (.mv t3), ko 26 24 (.bin .gtr t25 (kc 64)), kn 27 (.pick t24 kT t26)]
 (.cond t27 (sr [im 28 t0, iv0 29 t28, ia 30 t29 2, ke (.st t30 kT 1)]
 (sr [im 2 (.c ks)]
 (.ret))) (.skip)))
 (sr [im 31 t0, iv0 32 t31, ia 33 t32 1, il 34 t33, im 35 t3, ib 36 .add t35 (kc 1), ib 37 .add t34 t36, iv0 38 t31, ia 39 t38 1, ke (.st t39 t37 1)]
 (.seq (.dreg [[], [0], [1], [2], [], [4], [5], [6], [], [7, 8], [9], [], [11], [12], [13], [14], [3, 10, 15], [16, 0, 1, 2, 3, 4, 5, 6, 7, 8, 9, 10, 11, 12, 13, 14, 15, 16]] [im 40 t0, iv0 41 t40, ia 42 t41 0, il 43 t42, im 44 t0, iv0 45 t44, ia 46 t45 1, il 47 t46, im 48 t3, ib 49 .sub t47 t48, ib 50 .sub t49 (kc 1), im 51 t0, iv0 52 t51, ia 53 t52 1, il 54 t53, ib 55 .sub t54 (kc 1), kn 56 (.sli true t43 (some t50) (some t55) 1), im 2 t56])
 (.ret))))))
def r13 : List RC := [.t 2]
def c14 : AC :=
 sr [kn 2 (.mv (.c (.d (.v (.int .u32 0)))))]
 (sr [im 6 t0, ic 7 44 [t6, (kc 4)], im 5 t7, kn 8 (.ext t5 0), kn 9 (.ext t5 1), im 3 t8, im 4 t9]
 (.seq (sr [im 10 t4, kn 11 (.un .not t10)]
 (.cond t11 (sr [kn 2 (.mv (.c (.d (.v (.int .u32 0)))))]
 (.ret)) (.skip)))
 (.seq (.dreg [[], [0], [1], [], [3], [4], [5], [2, 6], [], [8], [9], [10], [7, 11], [], [13], [14], [15], [12, 16], [17, 0, 1, 2, 3, 4, 5, 6, 7, 8, 9, 10, 11, 12, 13, 14, 15, 16, 17]] [im 12 t3, kn 13 (.ix t12 (kc 0)), kn 14 (.cvi .u32 t13), im 15 t3, kn 16 (.ix t15 (kc 1)), kn 17 (.cvi .u32 t16), kn 18 (.bin .shl t17 (.c (.d (.v (.int .u64 8))))), ib 19 .or t14 t18, im 20 t3, kn 21 (.ix t20 (kc 2)), kn 22 (.cvi .u32 t21), kn 23 (.bin .shl t22 (.c (.d (.v (.int .u64 16))))), ib 24 .or t19 t23, im 25 t3, kn 26 (.ix t25 (kc 3)), kn 27 (.cvi .u32 t26), kn 28 (.bin .shl t27 (.c (.d (.v (.int .u64 24))))), ib 29 .or t24 t28, im 2 t29])
 (.ret))))
def r14 : List RC := [.t 2]
theorem cc13 : cK Tryz.f13 (hhD 13) c13 := by unfold cK; kernel_rfl
theorem rr13 : resC Tryz.prog Tryz.f13 = some r13 := by kernel_rfl
theorem cc14 : cK Tryz.f14 (hhD 14) c14 := by unfold cK; kernel_rfl
theorem rr14 : resC Tryz.prog Tryz.f14 = some r14 := by kernel_rfl
def textF (s : ByteArray) (r : Rd) : ByteArray × Rd :=
 if r.bad = true then (nl, r) else if idxB (s.data.toList.drop r.a) 0 < 0 \/ idxB (s.data.toList.drop r.a) 0 > 64 then (nl, ⟨r.a, true⟩) else (s.extract r.a (r.a + (idxB (s.data.toList.drop r.a) 0).toNat), ⟨r.a + (idxB (s.data.toList.drop r.a) 0).toNat + 1, false⟩)
theorem idxB_lt {l : List UInt8} {c : UInt8} : idxB l c < l.length := by
 induction l with
 | nil => simp [idxB]
 | cons b l ih =>
  unfold idxB
  split
  ·simp only [List.length_cons]; omega
  ·split
   ·simp only [List.length_cons]; omega
   ·simp only [List.length_cons]; omega
theorem textF_le {s : ByteArray} {r : Rd} (h : r.a <= s.size) : (textF s r).2.a <= s.size := by
 unfold textF
 split
 ·exact h
 ·split
  ·exact h
  ·have := idxB_lt (l := s.data.toList.drop r.a) (c := 0)
   rw [List.length_drop, len_data] at this
   show r.a + _ + 1 <= s.size
   omega
theorem text_c {H : List ABlk} {rb : Nat} {s : ByteArray} {r : Rd} (h : H[rb]? = some (rd s r.a r.bad)) (hs : s.size <= 300000) (ha : r.a <= s.size) : ACalls Tryz.prog 13 [.ptr rb 0] H fun v H' => v = sv (textF s r).1 /\ H' = H.set rb (rd s (textF s r).2.a (textF s r).2.bad) := by
 refine ACalls.into Tryz.func13 cc13 rr13 fun hcl => ?_
 have hS : ∀ x, (H.set rb x)[rb]? = some x := fun x => getset_eq h
 obtain ⟨a, bad⟩ := r; simp only at h ha
 cases bad with
 | true =>
  simp (disch := omega) only [Tryz.ntmps13, c13, r13, h, go_sem, seval, reduceCtorEq]; exact Ret.keep ⟨rfl, by simp only [textF, if_true]; rw [set_self h]⟩
 | false =>
  have htl : (s.extract a s.size).data.toList = s.data.toList.drop a := by
   rw [ex_list, List.take_of_length_le (by rw [List.length_drop, len_data]; omega)]
  have hlt := idxB_lt (l := s.data.toList.drop a) (c := 0); rw [List.length_drop, len_data] at hlt; simp (disch := omega) only [Tryz.ntmps13, c13, r13, h, go_sem, seval, reduceCtorEq]; refine W.pchain follows (by decide +kernel) ?_; simp (disch := omega) only [h, go_sem, seval, reduceCtorEq]; refine PCont.mk (indexB_c _ 0 H) ?_; rw [htl, show UInt8.ofNat (0 : Int).toNat = 0 from rfl]; have e0 : textF s ⟨a, false⟩ = if idxB (s.data.toList.drop a) 0 < 0 \/ idxB (s.data.toList.drop a) 0 > 64 then (nl, ⟨a, true⟩) else (s.extract a (a + (idxB (s.data.toList.drop a) 0).toNat), ⟨a + (idxB (s.data.toList.drop a) 0).toNat + 1, false⟩) := by rw [textF, if_neg (by simp)]
  generalize idxB (s.data.toList.drop a) 0 = n at e0 hlt ⊢
  by_cases h1 : n < 0
  ·rw [if_pos (.inl h1)] at e0
   simp (disch := omega) only [h, go_sem, seval, reduceCtorEq]; exact Ret.keep ⟨by rw [e0], by rw [e0]⟩
  by_cases h2 : 64 < n
  ·rw [if_pos (.inr h2)] at e0
   simp (disch := omega) only [h, go_sem, seval, reduceCtorEq]; exact Ret.keep ⟨by rw [e0], by rw [e0]⟩
  rw [if_neg (by omega)] at e0; obtain ⟨m, rfl⟩ := Int.eq_ofNat_of_zero_le (Int.not_lt.1 h1); rw [e0]; have e1 : ((a : Int) + ((m : Int) + 1) - (m : Int) - 1).toNat = a := by omega
  have e2 : ((a : Int) + ((m : Int) + 1) - 1).toNat = a + m := by omega
  simp (disch := omega) only [h, go_sem, seval, reduceCtorEq]; refine W.pchain follows (by decide +kernel) ?_; simp (disch := omega) only [hS, e1, e2, go_sem, seval, reduceCtorEq]; exact Ret.keep ⟨rfl, rfl⟩
def wordV (s : ByteArray) (a : Nat) : Int := chr s a + chr s (a + 1) * 256 + chr s (a + 2) * 65536 + chr s (a + 3) * 16777216
def wordF (s : ByteArray) (r : Rd) : Int × Rd := (if (takeF s r 4).2.1 = true then wordV s r.a else 0, (takeF s r 4).2.2)
theorem or32 {a x : Int} {k : Nat} (h0 : 0 <= a) (h1 : a < 2 ^ k) (hk : k < 32) (h2 : 0 <= a + x * 2 ^ k) (h3 : a + x * 2 ^ k < 4294967296) : ((BitVec.ofInt IntKind.u32.bits a ||| BitVec.ofInt IntKind.u32.bits (x * 2 ^ k)).toNat : Int) = a + x * 2 ^ k := by
 show ((BitVec.ofInt 32 a ||| BitVec.ofInt 32 (x * 2 ^ k)).toNat : Int) = _
 rw [or_low h0 h1 hk, BitVec.toNat_ofInt]; have : ((2 ^ 32 : Nat) : Int) = 4294967296 := by decide
 omega
theorem word_c {H : List ABlk} {rb : Nat} {s : ByteArray} {r : Rd} (h : H[rb]? = some (rd s r.a r.bad)) (hs : s.size <= 300000) (ha : r.a <= s.size) : ACalls Tryz.prog 14 [.ptr rb 0] H fun v H' => v = wv (wordF s r).1 /\ H' = H.set rb (rd s (wordF s r).2.a (wordF s r).2.bad) := by
 refine ACalls.into Tryz.func14 cc14 rr14 fun hcl => ?_
 simp (disch := omega) only [Tryz.ntmps14, c14, r14, go_sem, seval, reduceCtorEq]; refine Cont.mk (take_c h hs ha 4) ?_; have hb : (wordF s r).2 = (takeF s r 4).2.2 := rfl; rw [hb]
 cases e : (takeF s r 4).2.1 with
 | false =>
  simp (disch := omega) only [go_sem, seval, reduceCtorEq]; exact Ret.keep ⟨by rw [wordF, e]; rfl, rfl⟩
 | true =>
  have e2 : r.a + 4 <= s.size /\ (takeF s r 4).1 = s.extract r.a (r.a + 4) := by
   unfold takeF at e ⊢
   split at e
   ·cases e
   ·split at e
    ·cases e
    ·rename_i q1 q2
     rw [if_neg q1, if_neg q2]; exact ⟨by omega, rfl⟩
  have e3 : (takeF s r 4).1.size = 4 := by rw [e2.2, ex_size _ _ _ e2.1]; omega
  have e4 : ∀ i, i < 4 -> (takeF s r 4).1.data.toList.getD i 0 = s.data.toList.getD (r.a + i) 0 := fun i hi => by rw [e2.2, chr_ex hi e2.1]
  have f0 := e4 0 (by omega); have f1 := e4 1 (by omega); have f2 := e4 2 (by omega); have f3 := e4 3 (by omega); rw [Nat.add_zero] at f0; have l0 := (s.data.toList.getD r.a 0).toNat_lt; have l1 := (s.data.toList.getD (r.a + 1) 0).toNat_lt; have l2 := (s.data.toList.getD (r.a + 2) 0).toNat_lt; have l3 := (s.data.toList.getD (r.a + 3) 0).toNat_lt; simp (disch := omega) only [go_sem, seval, reduceCtorEq]; refine W.pchain follows (by decide +kernel) ?_; simp (disch := omega) only [e3, f0, f1, f2, f3, go_sem, seval, reduceCtorEq]; have w0 : wordV s r.a = ((s.data.toList.getD r.a 0).toNat : Int) + ((s.data.toList.getD (r.a + 1) 0).toNat : Int) * 256 + ((s.data.toList.getD (r.a + 2) 0).toNat : Int) * 65536 + ((s.data.toList.getD (r.a + 3) 0).toNat : Int) * 16777216 := rfl; have hf : (wordF s r).1 = wordV s r.a := by rw [wordF, e]; rfl
  rw [hf, w0]
  generalize (s.data.toList.getD r.a 0).toNat = c0 at l0 ⊢
  generalize (s.data.toList.getD (r.a + 1) 0).toNat = c1 at l1 ⊢
  generalize (s.data.toList.getD (r.a + 2) 0).toNat = c2 at l2 ⊢
  generalize (s.data.toList.getD (r.a + 3) 0).toNat = c3 at l3 ⊢
  have o1 := or32 (a := (c0 : Int)) (x := (c1 : Int)) (k := 8) (by omega) (by simp only [Int.reducePow]; omega) (by omega) (by simp only [Int.reducePow]; omega) (by simp only [Int.reducePow]; omega); have o2 := or32 (a := (c0 : Int) + (c1 : Int) * 2 ^ 8) (x := (c2 : Int)) (k := 16) (by simp only [Int.reducePow]; omega) (by simp only [Int.reducePow]; omega) (by omega) (by simp only [Int.reducePow]; omega) (by simp only [Int.reducePow]; omega); have o3 := or32 (a := (c0 : Int) + (c1 : Int) * 2 ^ 8 + (c2 : Int) * 2 ^ 16) (x := (c3 : Int)) (k := 24) (by simp only [Int.reducePow]; omega) (by simp only [Int.reducePow]; omega) (by omega) (by simp only [Int.reducePow]; omega) (by simp only [Int.reducePow]; omega); simp only [Int.reducePow] at o1 o2 o3; have m1 : ((c0 : Int) + (c1 : Int) * 256) % 4294967296 = (c0 : Int) + (c1 : Int) * 256 := by omega
  have m2 : ((c0 : Int) + (c1 : Int) * 256 + (c2 : Int) * 65536) % 4294967296 = (c0 : Int) + (c1 : Int) * 256 + (c2 : Int) * 65536 := by omega
  have m3 : ((c0 : Int) + (c1 : Int) * 256 + (c2 : Int) * 65536 + (c3 : Int) * 16777216) % 4294967296 = (c0 : Int) + (c1 : Int) * 256 + (c2 : Int) * 65536 + (c3 : Int) * 16777216 := by omega
  have p1 := o1; have p2 := o2; have p3 := o3
  try simp only [go_sem, seval, reduceCtorEq] at p1
  try simp only [go_sem, seval, reduceCtorEq] at p2
  try simp only [go_sem, seval, reduceCtorEq] at p3
  first | rw [o1, m1, o2, m2, o3, m3] | rw [p1, m1, p2, m2, p3, m3] | simp only [p1, m1, p2, m2, p3, m3]
  exact Ret.keep ⟨rfl, rfl⟩
def numR (f n : Int) : Int := if f = 4 then n % 4294967296 else n
def headB : ByteArray := ⟨#[83, 80, 83, 89]⟩
def KeyP (f : Fc) : Prop := (0 <= f.key /\ f.key < 4294967296) /\ ∀ u ∈ f.uses, 0 <= u.key /\ u.key < 4294967296
abbrev Way (α : Type) := Rd -> α × Rd
structure Rdr0 {α : Type} (s : ByteArray) (f : Way α) (Ok : α -> Prop) : Prop where
 le : ∀ r, r.a <= s.size -> (f r).2.a <= s.size
 on : ∀ r, r.a <= (f r).2.a
 st : ∀ r, (f r).2.bad = false -> r.bad = false
 ok : ∀ r, r.a <= s.size -> Ok (f r).1
structure Rdr {α : Type} (s : ByteArray) (f : Way α) (Ok : α -> Prop) : Prop extends Rdr0 s f Ok where
 go : ∀ r, (f r).2.bad = false -> r.a < (f r).2.a
def bnd {α β : Type} (f : Way α) (g : α -> Way β) : Way β := fun r => g (f r).1 (f r).2
def mp {α β : Type} (f : Way α) (h : α -> β) : Way β := fun r => (h (f r).1, (f r).2)
theorem Rdr0.mono {α : Type} {s : ByteArray} {f : Way α} {A B : α -> Prop} (h : Rdr0 s f A) (k : ∀ x, A x -> B x) : Rdr0 s f B := ⟨h.le, h.on, h.st, fun r hr => k _ (h.ok r hr)⟩
theorem Rdr.bnd {α β : Type} {s : ByteArray} {f : Way α} {g : α -> Way β} {A : α -> Prop} {B : β -> Prop} (hf : Rdr s f A) (hg : ∀ a, A a -> Rdr0 s (g a) B) (hg' : ∀ a, Rdr0 s (g a) fun _ => True) : Rdr s (bnd f g) B where
 le r hr := (hg' _).le _ (hf.le r hr)
 on r := Nat.le_trans (hf.on r) ((hg' _).on _)
 st r h := hf.st r ((hg' _).st _ h)
 ok r hr := (hg _ (hf.ok r hr)).ok _ (hf.le r hr)
 go r h := Nat.lt_of_lt_of_le (hf.go r ((hg' _).st _ h)) ((hg' _).on _)
theorem Rdr.mp {α β : Type} {s : ByteArray} {f : Way α} {h : α -> β} {A : α -> Prop} {B : β -> Prop} (hf : Rdr s f A) (k : ∀ a, A a -> B (h a)) : Rdr s (mp f h) B := ⟨⟨hf.le, hf.on, hf.st, fun r hr => k _ (hf.ok r hr)⟩, hf.go⟩
theorem Rdr.any {α : Type} {s : ByteArray} {f : Way α} {A : α -> Prop} (h : Rdr s f A) : Rdr0 s f fun _ => True := h.toRdr0.mono fun _ _ => trivial
theorem take_rdr (s : ByteArray) (n : Nat) (hn : 0 < n) : (∀ r : Rd, r.a <= s.size -> (takeF s r n).2.2.a <= s.size) /\ (∀ r, r.a <= (takeF s r n).2.2.a) /\ (∀ r, (takeF s r n).2.2.bad = false -> r.bad = false) /\ ∀ r, (takeF s r n).2.2.bad = false -> r.a < (takeF s r n).2.2.a := by
 refine ⟨fun r h => takeF_le h n, fun r => ?_, fun r h => ?_, fun r h => ?_⟩
 ·unfold takeF; split
  ·exact Nat.le_refl _
  ·split
   ·exact Nat.le_refl _
   ·exact Nat.le_add_right _ _
 ·unfold takeF at h; split at h
  ·exact h
  ·rename_i h2; simpa using h2
 ·unfold takeF at h ⊢; split at h
  ·rename_i h2; rw [h2] at h; cases h
  ·split at h
   ·cases h
   ·rename_i h1 h2; rw [if_neg h1, if_neg h2]; show r.a < r.a + (n : Int).toNat; omega
theorem byte_r (s : ByteArray) : Rdr s (byteF s) fun n => 0 <= n /\ n < 256 := by
 obtain ⟨a, b, c, d⟩ := take_rdr s 1 (by omega); refine ⟨⟨a, b, c, fun r hr => ?_⟩, d⟩; rw [byteF]
 show 0 <= (if (takeF s r 1).2.1 = true then chr s r.a else 0) /\ (if (takeF s r 1).2.1 = true then chr s r.a else 0) < 256
 split
 ·show (0 : Int) <= ((s.data.toList.getD r.a 0).toNat : Nat) /\ (((s.data.toList.getD r.a 0).toNat : Nat) : Int) < 256
  have := (s.data.toList.getD r.a 0).toNat_lt; omega
 ·omega
theorem word_r (s : ByteArray) : Rdr s (wordF s) fun n => 0 <= n /\ n < 4294967296 := by
 obtain ⟨a, b, c, d⟩ := take_rdr s 4 (by omega); refine ⟨⟨a, b, c, fun r hr => ?_⟩, d⟩; have u : ∀ i, (0 : Int) <= chr s i /\ chr s i < 256 := fun i => by
  show (0 : Int) <= ((s.data.toList.getD i 0).toNat : Nat) /\ (((s.data.toList.getD i 0).toNat : Nat) : Int) < 256
  have := (s.data.toList.getD i 0).toNat_lt; omega
 rw [wordF]
 show 0 <= (if (takeF s r 4).2.1 = true then wordV s r.a else 0) /\ (if (takeF s r 4).2.1 = true then wordV s r.a else 0) < 4294967296
 split
 ·have := u r.a; have := u (r.a + 1); have := u (r.a + 2); have := u (r.a + 3)
  rw [wordV]; omega
 ·omega
theorem dec_fit : ∀ (d : Nat) (l : List UInt8) (k : Nat) (n : Int) (p : Int × Nat), dec d l k n = some p -> fit32 p.1 /\ k < p.2
 | 0, _, _, _, p, h => by simp [dec] at h
 | d + 1, [], _, _, p, h => by simp [dec] at h
 | d + 1, c :: l, k, n, p, h => by
  rw [dec] at h
  split at h
  ·obtain ⟨h1, h2⟩ := dec_fit d l (k + 1) _ p h
   exact ⟨h1, by omega⟩
  ·generalize (if 64 <= c.toNat then n + ((c.toNat % 128 : Nat) : Int) * 128 ^ k - 128 ^ (k + 1) else n + ((c.toNat % 128 : Nat) : Int) * 128 ^ k) = m at h
   by_cases hm : fit32 m /\ (comp7 m).length = k + 1
   ·have h : (if fit32 m /\ (comp7 m).length = k + 1 then some (m, k + 1) else none) = some p := h
    rw [if_pos hm] at h; simp only [Option.some.injEq] at h; subst h; exact ⟨hm.1, Nat.lt_succ_self _⟩
   ·have h : (if fit32 m /\ (comp7 m).length = k + 1 then some (m, k + 1) else none) = some p := h
    rw [if_neg hm] at h
    cases h
theorem num_r (s : ByteArray) : Rdr s (numF s) fit32 := by
 have e : ∀ r, (r.bad = true /\ numF s r = (0, r)) \/ (r.bad = false /\ ((numF s r = (0, ⟨r.a, true⟩)) \/ ∃ p : Int × Nat, numF s r = (p.1, ⟨r.a + p.2, false⟩) /\ fit32 p.1 /\ 0 < p.2)) := fun r => by
  unfold numF
  split
  ·rename_i h; exact .inl ⟨h, rfl⟩
  ·rename_i h
   refine .inr ⟨by simpa using h, ?_⟩
   split
   ·rename_i p hp; obtain ⟨h1, h2⟩ := dec_fit _ _ _ _ _ hp; exact .inr ⟨p, rfl, h1, h2⟩
   ·exact .inl rfl
 refine ⟨⟨fun r hr => numF_le hr, fun r => ?_, fun r h => ?_, fun r hr => ?_⟩, fun r h => ?_⟩
 ·rcases e r with ⟨_, h⟩ | ⟨_, h | ⟨p, h, _⟩⟩ <;> rw [h]
  ·exact Nat.le_refl _
  ·exact Nat.le_refl _
  ·exact Nat.le_add_right _ _
 ·rcases e r with ⟨h0, h'⟩ | ⟨h0, _⟩
  ·rw [h'] at h; exact h
  ·exact h0
 ·rcases e r with ⟨_, h⟩ | ⟨_, h | ⟨p, h, h2, _⟩⟩ <;> rw [h]
  ·exact (⟨by decide, by decide⟩ : fit32 0)
  ·exact (⟨by decide, by decide⟩ : fit32 0)
  ·exact h2
 ·rcases e r with ⟨h0, h'⟩ | ⟨_, h' | ⟨p, h', _, h3⟩⟩ <;> rw [h'] at h ⊢
  ·rw [h0] at h; cases h
  ·cases h
  ·show r.a < r.a + p.2; omega
theorem text_r (s : ByteArray) : Rdr s (textF s) fun t => t.size <= 64 := by
 have e : ∀ r, (r.bad = true /\ textF s r = (nl, r)) \/ (r.bad = false /\ ((textF s r = (nl, ⟨r.a, true⟩)) \/ ∃ k : Nat, k <= 64 /\ textF s r = (s.extract r.a (r.a + k), ⟨r.a + k + 1, false⟩))) := fun r => by
  unfold textF
  split
  ·rename_i h; exact .inl ⟨h, rfl⟩
  ·rename_i h
   refine .inr ⟨by simpa using h, ?_⟩
   split
   ·exact .inl rfl
   ·exact .inr ⟨_, by omega, rfl⟩
 have z : nl.size <= 64 := by decide
 refine ⟨⟨fun r hr => textF_le hr, fun r => ?_, fun r h => ?_, fun r hr => ?_⟩, fun r h => ?_⟩
 ·rcases e r with ⟨_, h⟩ | ⟨_, h | ⟨p, _, h⟩⟩ <;> rw [h]
  ·exact Nat.le_refl _
  ·exact Nat.le_refl _
  ·show r.a <= r.a + p + 1; omega
 ·rcases e r with ⟨h0, h'⟩ | ⟨h0, _⟩
  ·rw [h'] at h; exact h
  ·exact h0
 ·rcases e r with ⟨_, h⟩ | ⟨_, h | ⟨p, hp, h⟩⟩
  ·rw [h]; exact z
  ·rw [h]; exact z
  ·have hl := textF_le hr
   rw [h] at hl ⊢; have hl : r.a + p + 1 <= s.size := hl; rw [show ((s.extract r.a (r.a + p), (⟨r.a + p + 1, false⟩ : Rd)) : ByteArray × Rd).1 = s.extract r.a (r.a + p) from rfl, ex_size _ _ _ (by omega)]; omega
 ·rcases e r with ⟨h0, h'⟩ | ⟨_, h' | ⟨p, _, h'⟩⟩ <;> rw [h'] at h ⊢
  ·rw [h0] at h; cases h
  ·cases h
  ·show r.a < r.a + p + 1; omega
def loopL {α : Type} (f : Way α) : Nat -> Way (List α)
 | 0, r => ([], r)
 | n + 1, r => if r.bad = true then ([], r) else ((f r).1 :: (loopL f n (f r).2).1, (loopL f n (f r).2).2)
theorem loopL_bad {α : Type} (f : Way α) : ∀ (n : Nat) {r : Rd}, r.bad = true -> loopL f n r = ([], r)
 | 0, r, _ => rfl
 | n + 1, r, h => by rw [loopL, if_pos h]
theorem loop_r {α : Type} {s : ByteArray} {f : Way α} {A : α -> Prop} (hf : Rdr s f A) : ∀ n, Rdr0 s (loopL f n) fun l => l.length <= s.size + 1 /\ ∀ x ∈ l, A x := fun n => by
 have key : ∀ n r, (r.a <= s.size -> (loopL f n r).2.a <= s.size) /\ r.a <= (loopL f n r).2.a /\ ((loopL f n r).2.bad = false -> r.bad = false) /\ (r.a <= s.size -> (loopL f n r).1.length + r.a <= s.size + 1 /\ ∀ x ∈ (loopL f n r).1, A x) := by
  intro n
  induction n with
  | zero => exact fun r => ⟨fun h => h, Nat.le_refl _, fun h => h, fun h => ⟨by show 0 + r.a <= _; omega, fun x hx => by cases hx⟩⟩
  | succ n ih =>
   intro r
   by_cases hb : r.bad = true
   ·rw [loopL_bad f _ hb]
    exact ⟨fun h => h, Nat.le_refl _, fun h => h, fun h => ⟨by show 0 + r.a <= _; omega, fun x hx => by cases hx⟩⟩
   ·rw [loopL, if_neg hb]
    obtain ⟨i1, i2, i3, i4⟩ := ih (f r).2; refine ⟨fun h => i1 (hf.le r h), Nat.le_trans (hf.on r) i2, fun h => hf.st r (i3 h), fun h => ?_⟩; obtain ⟨j1, j2⟩ := i4 (hf.le r h); refine ⟨?_, fun x hx => ?_⟩
    ·show ((f r).1 :: (loopL f n (f r).2).1).length + r.a <= _
     rw [List.length_cons]
     cases hb2 : (f r).2.bad with
     | true => rw [loopL_bad f n hb2]; show 0 + 1 + r.a <= _; omega
     | false => have := hf.go r hb2; omega
    ·rcases List.mem_cons.1 hx with rfl | hx
     ·exact hf.ok r h
     ·exact j2 x hx
 refine ⟨fun r => (key n r).1, fun r => (key n r).2.1, fun r => (key n r).2.2.1, fun r hr => ?_⟩; obtain ⟨h1, h2⟩ := (key n r).2.2.2 hr; exact ⟨by omega, h2⟩
def listF {α : Type} (s : ByteArray) (f : Way α) : Way (List α) := bnd (numF s) fun n => loopL f n.toNat
theorem list_r {α : Type} {s : ByteArray} {f : Way α} {A : α -> Prop} (hf : Rdr s f A) : Rdr s (listF s f) fun l => l.length <= s.size + 1 /\ ∀ x ∈ l, A x :=
 (num_r s).bnd (fun _ _ => loop_r hf _) (fun _ => (loop_r hf _).mono fun _ _ => trivial)
def fdF (s : ByteArray) : Way Fd := bnd (textF s) fun x => bnd (byteF s) fun y => mp (numF s) fun z => ⟨x, decide (y = 1), z⟩
def pmF (s : ByteArray) : Way Pm := bnd (byteF s) fun y => mp (numF s) fun z => ⟨decide (y = 1), z⟩
def usF (s : ByteArray) : Way Us := bnd (textF s) fun x => mp (wordF s) fun z => ⟨x, z⟩
def obF (s : ByteArray) : Way Ob := bnd (byteF s) fun a0 => bnd (textF s) fun a1 => bnd (numF s) fun a2 => bnd (byteF s) fun a3 => bnd (numF s) fun a4 => bnd (textF s) fun a5 => mp (numF s) fun a6 => ⟨a0, a1, a2, ⟨a3, numR a3 a4, a5⟩, a6⟩
def tyF (s : ByteArray) : Way Ty := bnd (byteF s) fun a0 => bnd (textF s) fun a1 => bnd (textF s) fun a2 => bnd (numF s) fun a3 => bnd (numF s) fun a4 => bnd (numF s) fun a5 => bnd (numF s) fun a6 => bnd (numF s) fun a7 => bnd (listF s (fdF s)) fun a8 => mp (listF s (pmF s)) fun a9 => ⟨a0, a1, a2, a3, a4, a5, a8, a9, a6, a7⟩
def fcF (s : ByteArray) : Way Fc := bnd (textF s) fun a0 => bnd (wordF s) fun a1 => bnd (listF s (usF s)) fun a2 => bnd (listF s (tyF s)) fun a3 => mp (listF s (obF s)) fun a4 => ⟨a0, a1, a2, basicL ++ a3, a4⟩
theorem j64 {n : Int} (h : fit32 n) : J64 n := by
 have h1 := h.1; have h2 := h.2
 unfold J64; omega
theorem j8 {n : Int} (h : 0 <= n /\ n < 256) : J64 n := by unfold J64; omega
def FdR (s : ByteArray) (f : Fd) : Prop := f.name.size <= 64 /\ J64 f.typ
def PmR (s : ByteArray) (f : Pm) : Prop := J64 f.typ
def UsR (s : ByteArray) (u : Us) : Prop := u.name.size <= 64 /\ 0 <= u.key /\ u.key < 4294967296
def ObR (s : ByteArray) (o : Ob) : Prop := o.name.size <= 64 /\ J64 o.cls /\ J64 o.typ /\ (J64 o.val.form /\ J64 o.val.n /\ o.val.text.size <= 64) /\ J64 o.n
structure TyR (s : ByteArray) (t : Ty) : Prop where
 md : t.mod.size <= 64
 nm : t.name.size <= 64
 fl : t.fields.length <= s.size + 1
 pl : t.params.length <= s.size + 1
 fd : ∀ f ∈ t.fields, FdR s f
 pm : ∀ f ∈ t.params, PmR s f
theorem fd_r (s : ByteArray) : Rdr s (fdF s) (FdR s) :=
 (text_r s).bnd (fun x hx => ((byte_r s).bnd (fun y _ => ((num_r s).mp fun z hz => ⟨hx, j64 hz⟩).toRdr0) (fun y => ((num_r s).mp fun z hz => trivial).toRdr0)).toRdr0)
   (fun x => ((byte_r s).bnd (fun y _ => ((num_r s).mp fun z hz => trivial).toRdr0) (fun y => ((num_r s).mp fun z hz => trivial).toRdr0)).toRdr0)
theorem pm_r (s : ByteArray) : Rdr s (pmF s) (PmR s) :=
 (byte_r s).bnd (fun y _ => ((num_r s).mp (h := fun z => (⟨decide (y = 1), z⟩ : Pm)) (B := PmR s) fun z hz => j64 hz).toRdr0) (fun y => ((num_r s).mp fun z hz => trivial).toRdr0)
theorem us_r (s : ByteArray) : Rdr s (usF s) (UsR s) :=
 (text_r s).bnd (fun x hx => ((word_r s).mp fun z hz => ⟨hx, hz⟩).toRdr0) (fun y => ((word_r s).mp fun z hz => trivial).toRdr0)
theorem Rdr.bn {α β : Type} {s : ByteArray} {f : Way α} {g : α -> Way β} {A : α -> Prop} (hf : Rdr s f A) (hg : ∀ a, Rdr s (g a) fun _ => True) : Rdr s (Rid.bnd f g) fun _ => True := hf.bnd (fun a _ => (hg a).toRdr0) (fun a => (hg a).toRdr0)
theorem Rdr.mt {α β : Type} {s : ByteArray} {f : Way α} {h : α -> β} {A : α -> Prop} (hf : Rdr s f A) : Rdr s (Rid.mp f h) fun _ => True := hf.mp fun _ _ => trivial
theorem Rdr.wth {α : Type} {s : ByteArray} {f : Way α} {A B : α -> Prop} (hf : Rdr s f A) (h : ∀ r, r.a <= s.size -> B (f r).1) : Rdr s f B := ⟨⟨hf.le, hf.on, hf.st, h⟩, hf.go⟩
theorem numR_j {f n : Int} (h : fit32 n) : J64 (numR f n) := by
 unfold numR; split
 ·unfold J64; omega
 ·exact j64 h
theorem ob_r (s : ByteArray) : Rdr s (obF s) (ObR s) := by
 have h : Rdr s (obF s) fun _ => True := (byte_r s).bn fun _ => (text_r s).bn fun _ => (num_r s).bn fun _ => (byte_r s).bn fun _ => (num_r s).bn fun _ => (text_r s).bn fun _ => (num_r s).mt
 refine h.wth fun r hr => ?_
 have l0 := (byte_r s).le r hr; have l1 := (text_r s).le _ l0; have l2 := (num_r s).le _ l1; have l3 := (byte_r s).le _ l2; have l4 := (num_r s).le _ l3; have l5 := (text_r s).le _ l4; exact ⟨(text_r s).ok _ l0, j8 ((byte_r s).ok _ hr), j64 ((num_r s).ok _ l1), ⟨j8 ((byte_r s).ok _ l2), numR_j ((num_r s).ok _ l3), (text_r s).ok _ l4⟩, j64 ((num_r s).ok _ l5)⟩
theorem ty_r (s : ByteArray) : Rdr s (tyF s) (TyR s) := by
 have h : Rdr s (tyF s) fun _ => True := (byte_r s).bn fun _ => (text_r s).bn fun _ => (text_r s).bn fun _ => (num_r s).bn fun _ => (num_r s).bn fun _ => (num_r s).bn fun _ => (num_r s).bn fun _ => (num_r s).bn fun _ => (list_r (fd_r s)).bn fun _ => (list_r (pm_r s)).mt
 refine h.wth fun r hr => ?_
 have l0 := (byte_r s).le r hr; have l1 := (text_r s).le _ l0; have l2 := (text_r s).le _ l1; have l3 := (num_r s).le _ l2; have l4 := (num_r s).le _ l3; have l5 := (num_r s).le _ l4; have l6 := (num_r s).le _ l5; have l7 := (num_r s).le _ l6; have l8 := (list_r (fd_r s)).le _ l7; have k8 := (list_r (fd_r s)).ok _ l7; have k9 := (list_r (pm_r s)).ok _ l8; exact ⟨(text_r s).ok _ l0, (text_r s).ok _ l1, k8.1, k9.1, k8.2, k9.2⟩
structure FcR (s : ByteArray) (f : Fc) : Prop where
 nm : f.name.size <= 64
 ky : KeyP f
 ul : f.uses.length <= s.size + 1
 tl : f.types.length <= s.size + 8
 ol : f.objs.length <= s.size + 1
 us : ∀ u ∈ f.uses, UsR s u
 ty : ∀ t ∈ f.types, TyR s t
 ob : ∀ o ∈ f.objs, ObR s o
theorem fc_r (s : ByteArray) : Rdr s (fcF s) (FcR s) := by
 have h : Rdr s (fcF s) fun _ => True := (text_r s).bn fun _ => (word_r s).bn fun _ => (list_r (us_r s)).bn fun _ => (list_r (ty_r s)).bn fun _ => (list_r (ob_r s)).mt
 refine h.wth fun r hr => ?_
 have l0 := (text_r s).le r hr; have l1 := (word_r s).le _ l0; have l2 := (list_r (us_r s)).le _ l1; have l3 := (list_r (ty_r s)).le _ l2; have k2 := (list_r (us_r s)).ok _ l1; have k3 := (list_r (ty_r s)).ok _ l2; have k4 := (list_r (ob_r s)).ok _ l3; refine ⟨(text_r s).ok _ hr, ⟨(word_r s).ok _ l0, fun u hu => (k2.2 u hu).2⟩, k2.1, ?_, k4.1, k2.2, fun t ht => ?_, k4.2⟩
 ·show (basicL ++ _).length <= _
  rw [List.length_append]; have := k3.1
  show 7 + _ <= _
  omega
 ·rcases List.mem_append.1 ht with h1 | h1
  ·have hz : ∀ t ∈ basicL, t.mod.size = 0 /\ t.name.size = 0 /\ t.fields = [] /\ t.params = [] := by
    intro t ht
    obtain ⟨i, hi, rfl⟩ := List.mem_iff_getElem.1 ht; have hb := basic_at (show i < 7 from hi); rw [gD, gE hi, Option.getD_some] at hb; rw [hb]; exact ⟨rfl, rfl, rfl, rfl⟩
   obtain ⟨z1, z2, z3, z4⟩ := hz t h1; exact ⟨by omega, by omega, by rw [z3]; simp, by rw [z4]; simp, by rw [z3]; simp, by rw [z4]; simp⟩
  ·exact k3.2 t h1
end Go.Proofs.YthifjndenhjobaaGreat.Rid
