/- The plain law of bytes one behind the other. -/
import Derived.Test.YtipjjcaflcpplaaSet
namespace Go.Proofs.Ytipjjcaflcpplaa
set_option linter.unusedSimpArgs false
set_option linter.unusedVariables false
open Go.RowKit

/-! compact numbers -/
def g7 (n : Int) : UInt8 := UInt8.ofNat (n % 128).toNat
def h7 (n : Int) : UInt8 := UInt8.ofNat (n % 128 + 128).toNat
def cmp : Nat → Int → List UInt8
  | 0, n => [g7 n]
  | f + 1, n => if -64 ≤ n ∧ n ≤ 63 then [g7 n] else h7 n :: cmp f (n / 128)
def comp7 (n : Int) : List UInt8 := cmp 4 n
def fit32 (n : Int) : Prop := -2147483648 ≤ n ∧ n < 2147483648
instance (n : Int) : Decidable (fit32 n) := inferInstanceAs (Decidable (_ ∧ _))
theorem u8n {n : Nat} (h : n < 256) : (UInt8.ofNat n).toNat = n := by simp [UInt8.toNat_ofNat]; omega
theorem g7n (n : Int) : ((g7 n).toNat : Int) = n % 128 := by rw [g7, u8n (by omega)]; omega
theorem h7n (n : Int) : ((h7 n).toNat : Int) = n % 128 + 128 := by rw [h7, u8n (by omega)]; omega
theorem cmp_pos : ∀ (f : Nat) (n : Int), 0 < (cmp f n).length
  | 0, n => by simp [cmp]
  | f + 1, n => by unfold cmp; split <;> simp
theorem cmp_le : ∀ (f : Nat) (n : Int), (cmp f n).length ≤ f + 1
  | 0, n => by simp [cmp]
  | f + 1, n => by
    unfold cmp
    split
    · simp
    · have := cmp_le f (n / 128)
      simp; omega
/-- Reading: the next groups, behind k groups of the value n. -/
def dec : Nat → List UInt8 → Nat → Int → Option (Int × Nat)
  | 0, _, _, _ => none
  | _ + 1, [], _, _ => none
  | f + 1, c :: r, k, n =>
    if 128 ≤ c.toNat then dec f r (k + 1) (n + (c.toNat % 128 : Nat) * 128 ^ k)
    else
      let m : Int := if 64 ≤ c.toNat then n + (c.toNat % 128 : Nat) * 128 ^ k - 128 ^ (k + 1) else n + (c.toNat % 128 : Nat) * 128 ^ k
      if fit32 m ∧ (comp7 m).length = k + 1 then some (m, k + 1) else none
def decN (l : List UInt8) : Option (Int × Nat) := dec 5 l 0 0
theorem dec_cmp (N : Int) (hN : fit32 N) (rest : List UInt8) : ∀ (f : Nat) (m : Int) (k : Nat) (n : Int) (d : Nat), n + m * 128 ^ k = N → (comp7 N).length = k + (cmp f m).length → -64 * 128 ^ f ≤ m → m < 64 * 128 ^ f → f + 1 ≤ d → dec d (cmp f m ++ rest) k n = some (N, k + (cmp f m).length) := by
  have last : ∀ (m : Int) (k : Nat) (n : Int) (d : Nat), n + m * 128 ^ k = N → (comp7 N).length = k + 1 → -64 ≤ m → m < 64 → dec (d + 1) ([g7 m] ++ rest) k n = some (N, k + 1) := by
    intro m k n d h1 h2 h3 h4
    have hg := g7n m
    simp only [List.cons_append, List.nil_append, dec]
    rw [if_neg (by omega)]
    have hm : (if 64 ≤ (g7 m).toNat then n + ((g7 m).toNat % 128 : Nat) * 128 ^ k - 128 ^ (k + 1) else n + ((g7 m).toNat % 128 : Nat) * 128 ^ k) = N := by
      have e1 : (((g7 m).toNat % 128 : Nat) : Int) = m % 128 := by omega
      rw [e1]
      by_cases h : 0 ≤ m
      · rw [if_neg (by omega), show m % 128 = m by omega, h1]
      · rw [if_pos (by omega), show m % 128 = m + 128 by omega, ← h1, Int.add_mul, Int.pow_succ, Int.mul_comm (128 ^ k) 128]
        omega
    rw [hm, if_pos ⟨hN, h2⟩]
  intro f
  induction f with
  | zero =>
    intro m k n d h1 h2 h3 h4 h5
    obtain ⟨d, rfl⟩ : ∃ d', d = d' + 1 := ⟨d - 1, by omega⟩
    simp only [cmp, List.length_singleton] at h2 ⊢
    exact last m k n d h1 h2 (by simpa using h3) (by simpa using h4)
  | succ f ih =>
    intro m k n d h1 h2 h3 h4 h5
    obtain ⟨d, rfl⟩ : ∃ d', d = d' + 1 := ⟨d - 1, by omega⟩
    simp only [cmp] at h2 ⊢
    split at h2
    · rename_i hc
      rw [if_pos hc]
      simp only [List.length_singleton] at h2 ⊢
      exact last m k n d h1 h2 hc.1 (by omega)
    · rename_i hc
      rw [if_neg hc]
      have hh := h7n m
      simp only [List.length_cons, List.cons_append, dec] at h2 ⊢
      rw [if_pos (by omega)]
      have e1 : (((h7 m).toNat % 128 : Nat) : Int) = m % 128 := by omega
      rw [e1]
      have e2 : n + m % 128 * 128 ^ k + m / 128 * 128 ^ (k + 1) = N := by
        rw [← h1, Int.pow_succ, Int.mul_comm (128 ^ k) 128, ← Int.mul_assoc, Int.add_assoc, ← Int.add_mul]
        congr 2
        have := Int.emod_add_mul_ediv m 128
        omega
      have hp : (0 : Int) < 128 ^ f := Int.pow_pos (by decide)
      rw [Int.pow_succ] at h3 h4
      have := ih (m / 128) (k + 1) (n + m % 128 * 128 ^ k) d e2 (by omega) (by omega) (by omega) (by omega)
      rw [this]
      congr 2
      omega
theorem decN_comp {N : Int} (hN : fit32 N) (rest : List UInt8) : decN (comp7 N ++ rest) = some (N, (comp7 N).length) := by
  have := dec_cmp N hN rest 4 N 0 0 5 (by simp) (by simp [comp7]) (by have := hN.1; simp only [Int.reducePow]; omega) (by have := hN.2; simp only [Int.reducePow]; omega) (by omega)
  simpa [decN, comp7] using this
theorem comp7_pos (n : Int) : 0 < (comp7 n).length := cmp_pos 4 n
theorem comp7_le (n : Int) : (comp7 n).length ≤ 5 := cmp_le 4 n
/-- Each group but the last one has its highest bit set. -/
theorem cmp_high : ∀ (f : Nat) (n : Int) (i : Nat) (c : UInt8), (cmp f n)[i]? = some c → (128 ≤ c.toNat ↔ i + 1 < (cmp f n).length)
  | 0, n, i, c, h => by
    simp only [cmp] at h ⊢
    match i, h with
    | 0, h =>
      cases h
      have := g7n n
      simp; omega
    | i + 1, h => simp at h
  | f + 1, n, i, c, h => by
    simp only [cmp] at h ⊢
    split at h
    · rename_i hc
      rw [if_pos hc]
      match i, h with
      | 0, h =>
        cases h
        have := g7n n
        simp; omega
      | i + 1, h => simp at h
    · rename_i hc
      rw [if_neg hc]
      match i, h with
      | 0, h =>
        cases h
        have := h7n n
        have := cmp_pos f (n / 128)
        simp only [List.length_cons]; omega
      | i + 1, h =>
        have := cmp_high f (n / 128) i c (by simpa using h)
        simp only [List.length_cons]; omega
/-- How many groups. -/
theorem comp7_len {n : Int} (hn : fit32 n) : (comp7 n).length = if -64 ≤ n ∧ n < 64 then 1 else if -8192 ≤ n ∧ n < 8192 then 2 else if -1048576 ≤ n ∧ n < 1048576 then 3 else if -134217728 ≤ n ∧ n < 134217728 then 4 else 5 := by
  obtain ⟨h1, h2⟩ := hn
  simp only [comp7, cmp]
  repeat' split
  all_goals simp
  all_goals omega
theorem wrap64 (x : Int) : IntKind.i64.wrap x = if 9223372036854775808 ≤ x % 18446744073709551616 then x % 18446744073709551616 - 18446744073709551616 else x % 18446744073709551616 := by
  simp [IntKind.wrap, IntKind.bits, IntKind.signed]
theorem to64 {m : Int} (h0 : -9223372036854775808 ≤ m) (h1 : m < 9223372036854775808) : IntKind.i64.wrap ((BitVec.ofInt 64 m).toNat : Int) = m := by
  rw [BitVec.toNat_ofInt, wrap64]
  have h3 : ((2 ^ 64 : Nat) : Int) = 18446744073709551616 := by decide
  split <;> omega
theorem low_and {w : Nat} {a : BitVec w} {k : Nat} (ha : a.toNat < 2 ^ k) (x : BitVec w) : a &&& (x <<< k) = 0#w := by
  apply BitVec.eq_of_getLsbD_eq
  intro i hi
  rw [BitVec.getLsbD_and, BitVec.getLsbD_shiftLeft]
  by_cases h : i < k
  · simp [h]
  · have : a.getLsbD i = false := by
      rw [BitVec.getLsbD, Nat.testBit_lt_two_pow]
      exact Nat.lt_of_lt_of_le ha (Nat.pow_le_pow_right (by decide) (by omega))
    simp [this]
theorem or_low {w : Nat} {a x : Int} {k : Nat} (h0 : 0 ≤ a) (h1 : a < 2 ^ k) (hk : k < w) : (BitVec.ofInt w a ||| BitVec.ofInt w (x * 2 ^ k)) = BitVec.ofInt w (a + x * 2 ^ k) := by
  have e : BitVec.ofInt w (x * 2 ^ k) = BitVec.ofInt w x <<< k := by
    rw [BitVec.shiftLeft_eq_mul_twoPow, BitVec.ofInt_mul]
    congr 1
    rw [show ((2 : Int) ^ k) = ((2 ^ k : Nat) : Int) by rw [Int.natCast_pow]; rfl, BitVec.ofInt_natCast]
    apply BitVec.eq_of_toNat_eq
    rw [BitVec.toNat_ofNat, BitVec.toNat_twoPow]
  have ha : (BitVec.ofInt w a).toNat < 2 ^ k := by
    rw [BitVec.toNat_ofInt]
    have h2 : (2 : Int) ^ k ≤ ((2 ^ w : Nat) : Int) := by
      have : 2 ^ k ≤ 2 ^ w := Nat.pow_le_pow_right (by decide) (by omega)
      rw [show ((2 : Int) ^ k) = ((2 ^ k : Nat) : Int) by rw [Int.natCast_pow]; rfl]
      exact Int.ofNat_le.2 this
    rw [Int.emod_eq_of_lt h0 (by omega)]
    have : ((a.toNat : Nat) : Int) < ((2 ^ k : Nat) : Int) := by rw [Int.toNat_of_nonneg h0, Int.natCast_pow]; exact h1
    omega
  rw [BitVec.ofInt_add, e, ← BitVec.add_eq_or_of_and_eq_zero _ _ (low_and ha _)]
theorem ex_list (s : ByteArray) (a b : Nat) : (s.extract a b).data.toList = (s.data.toList.drop a).take (b - a) := by
  rw [ByteArray.data_extract]
  simp [Array.toList_extract, List.extract_eq_take_drop]
theorem ex_size (s : ByteArray) (a b : Nat) (h : b ≤ s.size) : (s.extract a b).size = b - a := by
  rw [ByteArray.size_extract]; omega
end Go.Proofs.Ytipjjcaflcpplaa
