/- The plain law of bytes one behind the other. -/
import Derived.Test.YthifjndenhjobaaGreatVSet
import Derived.Test.YthifjndenhjobaaGreatVI4
import Derived.Test.YthifjndenhjobaaGreatVCodeW
import Derived.Test.YthifjndenhjobaaGreatVCodeI
set_option linter.unusedSectionVars false
set_option linter.unusedSimpArgs false
set_option linter.unusedVariables false
set_option maxHeartbeats 2000000
set_option maxRecDepth 20000
namespace Go.Proofs.YthifjndenhjobaaGreat.Rid
open Go.RowKit
def g7 (n : Int) : UInt8 := UInt8.ofNat (n % 128).toNat
def h7 (n : Int) : UInt8 := UInt8.ofNat (n % 128 + 128).toNat
def cmp : Nat -> Int -> List UInt8
 | 0, n => [g7 n]
 | f + 1, n => if -64 <= n /\ n <= 63 then [g7 n] else h7 n :: cmp f (n / 128)
def comp7 (n : Int) : List UInt8 := cmp 4 n
def fit32 (n : Int) : Prop := -2147483648 <= n /\ n < 2147483648
instance (n : Int) : Decidable (fit32 n) := inferInstanceAs (Decidable (_ /\ _))
theorem u8n {n : Nat} (h : n < 256) : (UInt8.ofNat n).toNat = n := by simp [UInt8.toNat_ofNat]; omega
theorem g7n (n : Int) : ((g7 n).toNat : Int) = n % 128 := by rw [g7, u8n (by omega)]; omega
theorem h7n (n : Int) : ((h7 n).toNat : Int) = n % 128 + 128 := by rw [h7, u8n (by omega)]; omega
theorem cmp_pos : ∀ (f : Nat) (n : Int), 0 < (cmp f n).length
 | 0, n => by simp [cmp]
 | f + 1, n => by unfold cmp; split <;> simp
theorem cmp_le : ∀ (f : Nat) (n : Int), (cmp f n).length <= f + 1
 | 0, n => by simp [cmp]
 | f + 1, n => by
  unfold cmp
  split
  ·simp
  ·have := cmp_le f (n / 128)
   simp; omega
def dec : Nat -> List UInt8 -> Nat -> Int -> Option (Int × Nat)
 | 0, _, _, _ => none
 | _ + 1, [], _, _ => none
 | f + 1, c :: r, k, n =>
  if 128 <= c.toNat then dec f r (k + 1) (n + (c.toNat % 128 : Nat) * 128 ^ k)
  else
   let m : Int := if 64 <= c.toNat then n + (c.toNat % 128 : Nat) * 128 ^ k - 128 ^ (k + 1) else n + (c.toNat % 128 : Nat) * 128 ^ k
   if fit32 m /\ (comp7 m).length = k + 1 then some (m, k + 1) else none
def decN (l : List UInt8) : Option (Int × Nat) := dec 5 l 0 0
theorem dec_cmp (N : Int) (hN : fit32 N) (rest : List UInt8) : ∀ (f : Nat) (m : Int) (k : Nat) (n : Int) (d : Nat), n + m * 128 ^ k = N -> (comp7 N).length = k + (cmp f m).length -> -64 * 128 ^ f <= m -> m < 64 * 128 ^ f -> f + 1 <= d -> dec d (cmp f m ++ rest) k n = some (N, k + (cmp f m).length) := by
 have last : ∀ (m : Int) (k : Nat) (n : Int) (d : Nat), n + m * 128 ^ k = N -> (comp7 N).length = k + 1 -> -64 <= m -> m < 64 -> dec (d + 1) ([g7 m] ++ rest) k n = some (N, k + 1) := by
  intro m k n d h1 h2 h3 h4
  have hg := g7n m; simp only [List.cons_append, List.nil_append, dec]; rw [if_neg (by omega)]; have hm : (if 64 <= (g7 m).toNat then n + ((g7 m).toNat % 128 : Nat) * 128 ^ k - 128 ^ (k + 1) else n + ((g7 m).toNat % 128 : Nat) * 128 ^ k) = N := by
   have e1 : (((g7 m).toNat % 128 : Nat) : Int) = m % 128 := by omega
   rw [e1]
   by_cases h : 0 <= m
   ·rw [if_neg (by omega), show m % 128 = m by omega, h1]
   ·rw [if_pos (by omega), show m % 128 = m + 128 by omega, <- h1, Int.add_mul, Int.pow_succ, Int.mul_comm (128 ^ k) 128]
    omega
  rw [hm, if_pos ⟨hN, h2⟩]
 intro f
 induction f with
 | zero =>
  intro m k n d h1 h2 h3 h4 h5
  obtain ⟨d, rfl⟩ : ∃ d', d = d' + 1 := ⟨d - 1, by omega⟩; simp only [cmp, List.length_singleton] at h2 ⊢; exact last m k n d h1 h2 (by simpa using h3) (by simpa using h4)
 | succ f ih =>
  intro m k n d h1 h2 h3 h4 h5
  obtain ⟨d, rfl⟩ : ∃ d', d = d' + 1 := ⟨d - 1, by omega⟩; simp only [cmp] at h2 ⊢
  split at h2
  ·rename_i hc
   rw [if_pos hc]; simp only [List.length_singleton] at h2 ⊢; exact last m k n d h1 h2 hc.1 (by omega)
  ·rename_i hc
   rw [if_neg hc]; have hh := h7n m; simp only [List.length_cons, List.cons_append, dec] at h2 ⊢; rw [if_pos (by omega)]; have e1 : (((h7 m).toNat % 128 : Nat) : Int) = m % 128 := by omega
   rw [e1]; have e2 : n + m % 128 * 128 ^ k + m / 128 * 128 ^ (k + 1) = N := by
    rw [<- h1, Int.pow_succ, Int.mul_comm (128 ^ k) 128, <- Int.mul_assoc, Int.add_assoc, <- Int.add_mul]
    congr 2
    have := Int.emod_add_mul_ediv m 128; omega
   have hp : (0 : Int) < 128 ^ f := Int.pow_pos (by decide); rw [Int.pow_succ] at h3 h4; have := ih (m / 128) (k + 1) (n + m % 128 * 128 ^ k) d e2 (by omega) (by omega) (by omega) (by omega); rw [this]
   congr 2
   omega
theorem decN_comp {N : Int} (hN : fit32 N) (rest : List UInt8) : decN (comp7 N ++ rest) = some (N, (comp7 N).length) := by
 have := dec_cmp N hN rest 4 N 0 0 5 (by simp) (by simp [comp7]) (by have := hN.1; simp only [Int.reducePow]; omega) (by have := hN.2; simp only [Int.reducePow]; omega) (by omega)
 simpa [decN, comp7] using this
theorem comp7_pos (n : Int) : 0 < (comp7 n).length := cmp_pos 4 n
theorem comp7_le (n : Int) : (comp7 n).length <= 5 := cmp_le 4 n
theorem wrap64 (x : Int) : IntKind.i64.wrap x = if 9223372036854775808 <= x % 18446744073709551616 then x % 18446744073709551616 - 18446744073709551616 else x % 18446744073709551616 := by
 simp [IntKind.wrap, IntKind.bits, IntKind.signed]
theorem to64 {m : Int} (h0 : -9223372036854775808 <= m) (h1 : m < 9223372036854775808) : IntKind.i64.wrap ((BitVec.ofInt 64 m).toNat : Int) = m := by
 rw [BitVec.toNat_ofInt, wrap64]; have h3 : ((2 ^ 64 : Nat) : Int) = 18446744073709551616 := by decide
 split <;> omega
theorem low_and {w : Nat} {a : BitVec w} {k : Nat} (ha : a.toNat < 2 ^ k) (x : BitVec w) : a &&& (x <<< k) = 0#w := by
 apply BitVec.eq_of_getLsbD_eq
 intro i hi
 rw [BitVec.getLsbD_and, BitVec.getLsbD_shiftLeft]
 by_cases h : i < k
 ·simp [h]
 ·have : a.getLsbD i = false := by
   rw [BitVec.getLsbD, Nat.testBit_lt_two_pow]; exact Nat.lt_of_lt_of_le ha (Nat.pow_le_pow_right (by decide) (by omega))
  simp [this]
theorem or_low {w : Nat} {a x : Int} {k : Nat} (h0 : 0 <= a) (h1 : a < 2 ^ k) (hk : k < w) : (BitVec.ofInt w a ||| BitVec.ofInt w (x * 2 ^ k)) = BitVec.ofInt w (a + x * 2 ^ k) := by
 have e : BitVec.ofInt w (x * 2 ^ k) = BitVec.ofInt w x <<< k := by
  rw [BitVec.shiftLeft_eq_mul_twoPow, BitVec.ofInt_mul]
  congr 1
  rw [show ((2 : Int) ^ k) = ((2 ^ k : Nat) : Int) by rw [Int.natCast_pow]; rfl, BitVec.ofInt_natCast]
  apply BitVec.eq_of_toNat_eq
  rw [BitVec.toNat_ofNat, BitVec.toNat_twoPow]
 have ha : (BitVec.ofInt w a).toNat < 2 ^ k := by
  rw [BitVec.toNat_ofInt]; have h2 : (2 : Int) ^ k <= ((2 ^ w : Nat) : Int) := by
   have : 2 ^ k <= 2 ^ w := Nat.pow_le_pow_right (by decide) (by omega); rw [show ((2 : Int) ^ k) = ((2 ^ k : Nat) : Int) by rw [Int.natCast_pow]; rfl]; exact Int.ofNat_le.2 this
  rw [Int.emod_eq_of_lt h0 (by omega)]; have : ((a.toNat : Nat) : Int) < ((2 ^ k : Nat) : Int) := by rw [Int.toNat_of_nonneg h0, Int.natCast_pow]; exact h1
  omega
 rw [BitVec.ofInt_add, e, <- BitVec.add_eq_or_of_and_eq_zero _ _ (low_and ha _)]
theorem ex_list (s : ByteArray) (a b : Nat) : (s.extract a b).data.toList = (s.data.toList.drop a).take (b - a) := by
 rw [ByteArray.data_extract]; simp [Array.toList_extract, List.extract_eq_take_drop]
theorem ex_size (s : ByteArray) (a b : Nat) (h : b <= s.size) : (s.extract a b).size = b - a := by
 rw [ByteArray.size_extract]; omega
def c43 : AC :=
 sr [im 4 (kc 0)]
 (sr [im 5 t0, im 6 t1, ic 7 65 [t5, t6], im 4 t7]
 (.ret))
def r43 : List RC := [.t 4]
def c65 : AC :=
 sr [im 4 (kc 0)]
 (sr [im 5 t0, im 6 t1, kn 7 (.ixb 75 t5 t6), im 4 t7]
 (.ret))
def r65 : List RC := [.t 4]
theorem cc43 : cK Tryz.f43 (hhW 43) c43 := by unfold cK; kernel_rfl
theorem rr43 : resC Tryz.prog Tryz.f43 = some r43 := by kernel_rfl
theorem cc65 : cK Tryz.f65 (hhW 65) c65 := by unfold cK; kernel_rfl
theorem rr65 : resC Tryz.prog Tryz.f65 = some r65 := by kernel_rfl
abbrev cv (n : Int) : AV := .d (.v (.int .u8 n))
abbrev nl : ByteArray := ⟨#[]⟩
theorem getset_eq {H : List ABlk} {a : Nat} {x k : ABlk} (h : H[a]? = some k) : (H.set a x)[a]? = some x := List.getElem?_set_self (List.getElem?_eq_some_iff.1 h).1
theorem getset_ne {H : List ABlk} {a b : Nat} {x : ABlk} (h : a ≠ b) : (H.set a x)[b]? = H[b]? := List.getElem?_set_ne h
theorem indexB_c (s : ByteArray) (c : Int) (H : List ABlk) : ACalls Tryz.prog 43 [sv s, cv c] H fun v H' => v = iv (idxB s.data.toList (UInt8.ofNat c.toNat)) /\ H' = H := by
 have h46 : ACalls Tryz.prog 65 [sv s, cv c] H fun v H' => v = iv (idxB s.data.toList (UInt8.ofNat c.toNat)) /\ H' = H := by
  refine ACalls.into Tryz.func65 cc65 rr65 fun hcl => ?_
  simp (disch := omega) only [Tryz.ntmps65, c65, r65, go_sem, seval, reduceCtorEq]; exact Ret.keep ⟨rfl, rfl⟩
 refine ACalls.into Tryz.func43 cc43 rr43 fun hcl => ?_
 simp (disch := omega) only [Tryz.ntmps43, c43, r43, go_sem, seval, reduceCtorEq]; refine Cont.mk h46 ?_; simp (disch := omega) only [go_sem, seval, reduceCtorEq]; exact Ret.keep ⟨rfl, rfl⟩
def c49l0 : AC :=
 .seq (sr [im 4 t0, ic 5 48 [t4, (kc 7)], kn 6 (.un .not t5)]
 (.cond t6 (.skip) (.exit 0)))
 (.seq (.block 1 (.reg [im 9 t3, im 10 t0, kn 11 (.cvi .u8 t10), kn 12 (.bin .or t11 (.c (.d (.v (.int .u8 128))))), kn 13 (.bs .im 5 1 [t12]), kn 14 (.app .gr 5 1 1 t9 t13), kn 3 (.mvg 5 1 t14)]))
 (.reg [im 7 t0, kn 8 (.bin .shr t7 (.c (.d (.v (.int .u64 7))))), im 0 t8]))
def c49 : AC :=
 sr [im 2 (.c ks)]
 (sr [kn 3 (.mvg 5 1 (.c .esl))]
 (.seq (.block 0 (.loop c49l0))
 (sr [im 15 t3, im 16 t0, kn 17 (.cvi .u8 t16), kn 18 (.bin .and t17 (.c (.d (.v (.int .u8 127))))), kn 19 (.bs .im 5 1 [t18]), kn 20 (.app .gr 5 1 1 t15 t19), kn 21 (.b2s t20), im 2 t21]
 (.ret))))
def r49 : List RC := [.t 2]
theorem cc49 : cK Tryz.f49 (hhW 49) c49 := by unfold cK; kernel_rfl
theorem rr49 : resC Tryz.prog Tryz.f49 = some r49 := by kernel_rfl
theorem fits7_c (v : Int) (H : List ABlk) : ACalls Tryz.prog 48 [iv v, iv 7] H fun v' H' => v' = bv (decide (-64 <= v /\ v <= 63)) /\ H' = H := by
 obtain ⟨b, hb⟩ : ∃ b, b = decide (-64 <= v /\ v <= 63) := ⟨_, rfl⟩; rw [<- hb]; refine ACalls.into Tryz.func48 cc48 rr48 fun hcl => ?_
 simp (disch := omega) only [Tryz.ntmps48, c48, r48, go_sem, seval, reduceCtorEq]; refine Br.dec (fun h => ?_) (fun h => ?_) <;> simp (disch := omega) only [go_sem, seval, reduceCtorEq]
 ·exact Ret.keep ⟨by rw [hb]; congr 3; exact decide_eq_decide.2 (by omega), rfl⟩
 ·exact Ret.keep ⟨by rw [hb, decide_eq_false (by omega)], rfl⟩
theorem fits32_c (v : Int) (H : List ABlk) : ACalls Tryz.prog 48 [iv v, iv 32] H fun v' H' => v' = bv (decide (fit32 v)) /\ H' = H := by
 obtain ⟨b, hb⟩ : ∃ b, b = decide (fit32 v) := ⟨_, rfl⟩; rw [<- hb]; refine ACalls.into Tryz.func48 cc48 rr48 fun hcl => ?_
 simp (disch := omega) only [Tryz.ntmps48, c48, r48, go_sem, seval, reduceCtorEq]; refine Br.dec (fun h => ?_) (fun h => ?_) <;> simp (disch := omega) only [go_sem, seval, reduceCtorEq]
 ·exact Ret.keep ⟨by rw [hb]; congr 3; exact decide_eq_decide.2 (by unfold fit32; omega), rfl⟩
 ·exact Ret.keep ⟨by rw [hb, decide_eq_false (p := fit32 v) (by unfold fit32; omega)], rfl⟩
abbrev bd (b : UInt8) : List Dat := [.v (.int .u8 b.toNat)]
theorem bytesOf_bd (bs : List UInt8) : bytesOf ((bs.map bd).map (·.map AV.d)) = some bs := by
 induction bs with
 | nil => rfl
 | cons b bs ih =>
  simp only [List.map_cons, List.map_nil, bytesOf] at ih ⊢; rw [ih]
  simp
theorem or128 (m : Int) : ((BitVec.ofInt 8 (m % 256) ||| BitVec.ofInt 8 128).toNat : Int) = m % 128 + 128 := by
 obtain ⟨n, hn⟩ := Int.eq_ofNat_of_zero_le (Int.emod_nonneg m (by decide : (256 : Int) ≠ 0)); have h256 : n < 256 := by have := Int.emod_lt_of_pos m (by decide : (0 : Int) < 256); omega
 have e : m % 128 = ((n % 128 : Nat) : Int) := by omega
 rw [hn, e, BitVec.ofInt_natCast]; have : ∀ x : Fin 256, (BitVec.ofNat 8 x.val ||| BitVec.ofInt 8 128).toNat = x.val % 128 + 128 := by decide +kernel
 have := this ⟨n, h256⟩; simp only at this; rw [this]; rfl
theorem and127 (m : Int) : ((BitVec.ofInt 8 (m % 256) &&& BitVec.ofInt 8 127).toNat : Int) = m % 128 := by
 obtain ⟨n, hn⟩ := Int.eq_ofNat_of_zero_le (Int.emod_nonneg m (by decide : (256 : Int) ≠ 0)); have h256 : n < 256 := by have := Int.emod_lt_of_pos m (by decide : (0 : Int) < 256); omega
 have e : m % 128 = ((n % 128 : Nat) : Int) := by omega
 rw [hn, e, BitVec.ofInt_natCast]; have : ∀ x : Fin 256, (BitVec.ofNat 8 x.val &&& BitVec.ofInt 8 127).toNat = x.val % 128 := by decide +kernel
 have := this ⟨n, h256⟩; simp only at this; rw [this]
theorem and127b (m : Int) : ((BitVec.ofInt IntKind.u8.bits (m % 256) &&& BitVec.ofInt IntKind.u8.bits 127).toNat : Int) % 256 = ((g7 m).toNat : Nat) := by
 have := and127 m; have h2 := g7n m
 show ((BitVec.ofInt 8 (m % 256) &&& BitVec.ofInt 8 127).toNat : Int) % 256 = _
 rw [this, h2]; omega
theorem or128b (m : Int) : ((BitVec.ofInt IntKind.u8.bits (m % 256) ||| BitVec.ofInt IntKind.u8.bits 128).toNat : Int) % 256 = ((h7 m).toNat : Nat) := by
 have := or128 m; have h2 := h7n m
 show ((BitVec.ofInt 8 (m % 256) ||| BitVec.ofInt 8 128).toNat : Int) % 256 = _
 rw [this, h2]; omega
theorem flat_bd (l : List UInt8) (b : UInt8) : l.map bd ++ [[Dat.v (.int .u8 (b.toNat : Nat))]] = (l ++ [b]).map bd := by simp
structure CpG where
 acc : List UInt8
 m : Int
 f : Nat
theorem compact_c (n : Int) (hn : fit32 n) (H : List ABlk) : ACalls Tryz.prog 49 [iv n] H fun v H' => v = sv ⟨(comp7 n).toArray⟩ /\ H' = H := by
 refine ACalls.into Tryz.func49 cc49 rr49 fun hcl => ?_
 obtain ⟨hn1, hn2⟩ := hn; simp (disch := omega) only [Tryz.ntmps49, c49, r49, go_sem, seval, reduceCtorEq]; obtain ⟨S, hS⟩ : ∃ S : CpG -> List AV, ∀ g, S g = [iv g.m, .any, .any, .gsl H.length 1 (g.acc.map bd)] ++ List.replicate 18 .any := ⟨_, fun _ => rfl⟩; refine W.loopG (γ := CpG) (fun g => g.f + (if -64 <= g.m /\ g.m <= 63 then 0 else 1)) S (fun g => H ++ [.row 5 1 g.acc.length]) (fun g => comp7 n = g.acc ++ cmp g.f g.m /\ -64 * 128 ^ g.f <= g.m /\ g.m < 64 * 128 ^ g.f /\ g.acc.length + g.f <= 4) ⟨[], n, 4⟩ (Wk.slots (WkL.tw 4 (hS _))) ⟨rfl, by show -64 * 128 ^ 4 <= n; simp only [Int.reducePow]; omega, by show n < 64 * 128 ^ 4; simp only [Int.reducePow]; omega, by simp⟩ (fun g hg => ?_); obtain ⟨q1, q2, q3, q4⟩ := hg; have hp4 : (128 : Int) ^ g.f <= 128 ^ 4 := by
  rcases (by omega : g.f = 0 \/ g.f = 1 \/ g.f = 2 \/ g.f = 3 \/ g.f = 4) with e | e | e | e | e <;> rw [e] <;> decide
 have hp5 : (128 : Int) ^ 4 = 268435456 := by decide
 have hl : (g.acc.map bd).length = g.acc.length := lnm ..; simp (disch := omega) only [hS, c49l0, go_sem, seval, reduceCtorEq]; refine Cont.mk (fits7_c g.m _) ?_
 by_cases hr7 : -64 <= g.m /\ g.m <= 63
 ·have ec : cmp g.f g.m = [g7 g.m] := by
   cases hf : g.f with
   | zero => rfl
   | succ f => rw [cmp, if_pos hr7]
  rw [ec] at q1; have a2 := and127b
  try simp only [go_sem, seval, reduceCtorEq] at a2
  simp (disch := omega) only [decide_eq_true hr7, datss, elems_d, hl, and127b, a2, flat_bd, bytesOf_bd, go_sem, seval, reduceCtorEq]; exact Ret.pre _ H (pre_app _ _) (Nat.le_refl _) hcl (.rfl _) (by simp [refs]) ⟨by rw [q1], rfl⟩
 ·obtain ⟨f', hf⟩ : ∃ f', g.f = f' + 1 := by
   cases hf : g.f with
   | zero => rw [hf] at q2 q3; simp at q2 q3; exact absurd ⟨q2, by omega⟩ hr7
   | succ f => exact ⟨f, rfl⟩
  rw [hf] at q1 q2 q3 q4; rw [cmp, if_neg hr7] at q1; have hp : (0 : Int) < 128 ^ f' := Int.pow_pos (by decide); rw [Int.pow_succ] at q2 q3; have a2 := or128b
  try simp only [go_sem, seval, reduceCtorEq] at a2
  simp (disch := omega) only [decide_eq_false hr7, datss, elems_d, hl, or128b, a2, flat_bd, bytesOf_bd, go_sem, seval, reduceCtorEq]; have hl3 : (g.acc ++ [h7 g.m]).length = g.acc.length + 1 := by simp
  rw [<- hl3]; exact Nxt.mk ⟨g.acc ++ [h7 g.m], g.m / 128, f'⟩ (by show f' + _ < g.f + _; rw [hf, if_neg hr7]; split <;> omega) (Wk.slots (WkL.tw 4 (hS _))) ⟨by rw [q1]; simp, by show -64 * 128 ^ f' <= g.m / 128; omega, by show g.m / 128 < 64 * 128 ^ f'; omega, by show (g.acc ++ [h7 g.m]).length + f' <= 4; rw [hl3]; omega⟩
end Go.Proofs.YthifjndenhjobaaGreat.Rid
