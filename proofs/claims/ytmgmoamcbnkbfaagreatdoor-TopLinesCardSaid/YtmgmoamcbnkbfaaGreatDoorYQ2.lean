/- Plain laws of texts: cutting, splitting, numerals read back. -/
import Derived.Lib.SplitLaws
import Derived.Lib.AtoiAllCases
import Derived.Lib.ItoaLen
set_option linter.unusedVariables false
set_option linter.unusedSimpArgs false
set_option linter.unusedSectionVars false
namespace Go.Proofs.YtmgmoamcbnkbfaaGreatDoor
set_option linter.unusedSimpArgs false
set_option linter.unusedVariables false
open Go.Lib

theorem index_hit (c : UInt8) (p rest : List UInt8) : ∀ a : List UInt8, c ∉ a → index (a ++ (c :: (p ++ rest))) (c :: p) = a.length
  | [], _ => by
    have : (c :: p).isPrefixOf (c :: (p ++ rest)) = true := by simp [List.isPrefixOf_iff_prefix]
    simp only [List.nil_append, index, this, if_true]; rfl
  | b :: a, h => by
    have hb : ¬ c = b := fun e => h (by rw [e]; exact List.mem_cons_self)
    have h1 : (c :: p).isPrefixOf (b :: (a ++ (c :: (p ++ rest)))) = false := by
      simp only [List.isPrefixOf]
      simp [hb]
    have h2 := index_hit c p rest a fun e => h (List.mem_cons_of_mem _ e)
    simp only [List.cons_append, index, h1, Bool.false_eq_true, if_false, h2, List.length_cons]
    have : ((a.length : Int) == -1) = false := beq_eq_false_iff_ne.2 (by omega)
    rw [this]; simp
theorem index_miss (c : UInt8) (p : List UInt8) : ∀ a : List UInt8, c ∉ a → index a (c :: p) = -1
  | [], _ => rfl
  | b :: a, h => by
    have hb : ¬ c = b := fun e => h (by rw [e]; exact List.mem_cons_self)
    have h1 : (c :: p).isPrefixOf (b :: a) = false := by
      simp only [List.isPrefixOf]
      simp [hb]
    have h2 := index_miss c p a fun e => h (List.mem_cons_of_mem _ e)
    simp only [index, h1, h2, Bool.false_eq_true, if_false]
    rfl
theorem cut_hit (c : UInt8) (a rest : List UInt8) (h : c ∉ a) : cut (a ++ c :: rest) [c] = (a, rest, true) := by
  have hi : index (a ++ c :: rest) [c] = a.length := index_hit c [] rest a h
  simp only [cut, hi, Int.toNat_natCast, List.length_singleton]
  rw [if_pos (by omega)]
  simp
/-- Pieces with a comma and a blank between them. -/
def joinS : List (List UInt8) → List UInt8
  | [] => []
  | [x] => x
  | x :: y :: l => x ++ (44 :: ([32] ++ joinS (y :: l)))
theorem split_join : ∀ l : List (List UInt8), l ≠ [] → (∀ x ∈ l, (44 : UInt8) ∉ x) → splitK [44, 32] 0 (count (joinS l) [44, 32]) (joinS l) = l ∧ count (joinS l) [44, 32] + 1 = l.length
  | [], h, _ => absurd rfl h
  | [x], _, h => by
    have hi : index x [44, 32] = -1 := index_miss 44 [32] x (h x (by simp))
    simp only [joinS, count_miss hi, splitK, List.length_singleton, and_self]
  | x :: y :: l, _, h => by
    have hi : index (x ++ (44 :: ([32] ++ joinS (y :: l)))) [44, 32] = x.length := index_hit 44 [32] _ x (h x (by simp))
    obtain ⟨h1, h2⟩ := split_join (y :: l) (by simp) fun z hz => h z (List.mem_cons_of_mem _ hz)
    have hd : (x ++ (44 :: ([32] ++ joinS (y :: l)))).drop (x.length + 2) = joinS (y :: l) := by simp
    have hc : count (x ++ (44 :: ([32] ++ joinS (y :: l)))) [44, 32] = 1 + count (joinS (y :: l)) [44, 32] := by
      rw [count_hit (by simp) hi]
      show 1 + count ((x ++ (44 :: ([32] ++ joinS (y :: l)))).drop (x.length + 2)) [44, 32] = _
      rw [hd]
    constructor
    · simp only [joinS]
      rw [hc, Nat.add_comm 1, splitK, hi]
      have hm : ((x.length : Int) == -1) = false := beq_eq_false_iff_ne.2 (by omega)
      rw [hm]
      simp only [Bool.false_eq_true, if_false, Int.toNat_natCast, Nat.add_zero]
      show _ :: splitK [44, 32] 0 _ ((x ++ (44 :: ([32] ++ joinS (y :: l)))).drop (x.length + 2)) = _
      rw [hd, h1]
      simp
    · simp only [joinS]
      rw [hc, List.length_cons, ← h2]; omega
theorem splitB_join (l : List (List UInt8)) (h0 : l ≠ []) (h : ∀ x ∈ l, (44 : UInt8) ∉ x) : splitB ⟨#[44, 32]⟩ 0 (countB ⟨(joinS l).toArray⟩ ⟨#[44, 32]⟩) ⟨(joinS l).toArray⟩ = l.map (fun x => ⟨x.toArray⟩) ∧ countB ⟨(joinS l).toArray⟩ ⟨#[44, 32]⟩ + 1 = l.length := by
  obtain ⟨h1, h2⟩ := split_join l h0 h
  have hc : countB ⟨(joinS l).toArray⟩ ⟨#[44, 32]⟩ = count (joinS l) [44, 32] := by
    unfold countB; simp
  refine ⟨?_, by rw [hc]; exact h2⟩
  have hd := splitB_data ⟨#[44, 32]⟩ 0 (countB ⟨(joinS l).toArray⟩ ⟨#[44, 32]⟩) ⟨(joinS l).toArray⟩
  rw [hc] at hd ⊢
  have hd2 : (splitB ⟨#[44, 32]⟩ 0 (count (joinS l) [44, 32]) ⟨(joinS l).toArray⟩).map (·.data.toList) = l := by
    rw [hd]
    have : (⟨(joinS l).toArray⟩ : ByteArray).data.toList = joinS l := by simp
    rw [this]; exact h1
  have hm : ∀ L : List ByteArray, L = (L.map (·.data.toList)).map (fun x => ⟨x.toArray⟩) := fun L => by
    induction L with
    | nil => rfl
    | cons x L ih => rw [List.map_cons, List.map_cons, ← ih]
  rw [hm (splitB _ _ _ _), hd2]
/-! numerals -/
theorem pu_app (m : List UInt8) : ∀ (l : List UInt8) (acc v : Nat), parseUint10 acc l = .ok v → parseUint10 acc (l ++ m) = parseUint10 v m
  | [], acc, v, h => by simp only [parseUint10] at h; cases h; rfl
  | c :: r, acc, v, h => by
    simp only [parseUint10, List.cons_append] at h ⊢
    split at h
    · rename_i h1
      split at h
      · cases h
      · rename_i h2
        split at h
        · cases h
        · rename_i h3
          rw [if_pos h1, if_neg h2, if_neg h3]
          exact pu_app m r _ v h
    · cases h
theorem dig_nat {d : Nat} (h : d < 10) : (UInt8.ofNat (48 + d)).toNat = 48 + d := by
  rw [UInt8.toNat_ofNat']; omega
theorem pu_dec : ∀ (n u : Nat), u ≤ n → u < 1000000000000000000 → parseUint10 0 (decDigits u) = .ok u
  | n, u, hn, hu => by
    rw [decDigits]
    split
    · rename_i h
      have hd := dig_nat h
      simp only [parseUint10, hd]
      rw [if_pos ⟨by omega, by omega⟩, if_neg (by omega), if_neg (by omega)]
      congr 1; omega
    · rename_i h
      match n, hn with
      | 0, hn => omega
      | n + 1, hn =>
        have ih := pu_dec n (u / 10) (by omega) (by omega)
        rw [pu_app _ _ _ _ ih]
        have hd := dig_nat (d := u % 10) (by omega)
        simp only [parseUint10, hd]
        rw [if_pos ⟨by omega, by omega⟩, if_neg (by omega), if_neg (by omega)]
        congr 1; omega
theorem dec_dig : ∀ (n u : Nat), u ≤ n → ∀ b ∈ decDigits u, 48 ≤ b.toNat ∧ b.toNat ≤ 57
  | n, u, hn, b, hb => by
    rw [decDigits] at hb
    split at hb
    · rename_i h
      have hd := dig_nat h
      simp only [List.mem_singleton] at hb
      subst hb; omega
    · rename_i h
      match n, hn with
      | 0, hn => omega
      | n + 1, hn =>
        rcases List.mem_append.1 hb with hb | hb
        · exact dec_dig n (u / 10) (by omega) b hb
        · have hd := dig_nat (d := u % 10) (by omega)
          simp only [List.mem_singleton] at hb
          subst hb; omega
theorem dec_ne (u : Nat) : decDigits u ≠ [] := fun h => by
  have h1 := decDigits_length u
  have h2 := nDigits_pos u
  rw [h] at h1
  simp at h1; omega
theorem mag_dec {u : Nat} (hu : u < 1000000000000000000) : parseMag (decDigits u) = .ok u := by
  rw [parseMag, if_neg (dec_ne u)]
  exact pu_dec u u (Nat.le_refl _) hu
theorem atoi_itoa {n : Int} (h0 : -1000000000000 ≤ n) (h1 : n ≤ 1000000000000) : atoiAll (itoa n) = .ok n := by
  unfold itoa
  split
  · rename_i h
    rw [atoiAll_minus, mag_dec (by omega)]
    simp only [signed]
    rw [if_neg (by omega)]
    congr 1; omega
  · rename_i h
    have hd := dec_dig n.toNat n.toNat (Nat.le_refl _)
    have hm := mag_dec (u := n.toNat) (by omega)
    cases hq : decDigits n.toNat with
    | nil => exact absurd hq (dec_ne _)
    | cons c r =>
      rw [hq] at hd hm
      have hc := hd c List.mem_cons_self
      rw [atoiAll_plain c r (by omega) (by omega), hm]
      simp only [signless]
      rw [if_neg (by omega)]
      congr 1; omega
/-- The signs of a numeral. -/
theorem itoa_sign (n : Int) : ∀ b ∈ itoa n, b.toNat = 45 ∨ (48 ≤ b.toNat ∧ b.toNat ≤ 57) := fun b hb => by
  unfold itoa at hb
  split at hb
  · rcases List.mem_cons.1 hb with rfl | hb
    · exact .inl rfl
    · exact .inr (dec_dig _ _ (Nat.le_refl _) b hb)
  · exact .inr (dec_dig _ _ (Nat.le_refl _) b hb)
theorem itoa_ne (n : Int) : itoa n ≠ [] := by
  unfold itoa
  split
  · simp
  · exact dec_ne _
end Go.Proofs.YtmgmoamcbnkbfaaGreatDoor

/- Plain laws of hexadecimal numerals. -/
namespace Go.Proofs.YtmgmoamcbnkbfaaGreatDoor
set_option linter.unusedSimpArgs false
set_option linter.unusedVariables false

/-- The digits of a number to the base 16. -/
def digs (u : Nat) : List Nat := if h : u < 16 then [u] else digs (u / 16) ++ [u % 16]
  termination_by u
  decreasing_by omega
def hexD (d : Nat) : UInt8 := if d < 10 then UInt8.ofNat (48 + d) else UInt8.ofNat (87 + d)
theorem digs_small {u : Nat} (h : u < 16) : digs u = [u] := by rw [digs, dif_pos h]
theorem digs_big {u : Nat} (h : ¬ u < 16) : digs u = digs (u / 16) ++ [u % 16] := by rw [digs, dif_neg h]
theorem digs_lt : ∀ (n u : Nat), u ≤ n → ∀ d ∈ digs u, d < 16
  | n, u, hn, d, hd => by
    by_cases h : u < 16
    · rw [digs_small h] at hd; simp at hd; omega
    · rw [digs_big h] at hd
      match n, hn with
      | 0, hn => omega
      | n + 1, hn =>
        rcases List.mem_append.1 hd with hd | hd
        · exact digs_lt n (u / 16) (by omega) d hd
        · simp at hd; omega
theorem digs_len : ∀ (k u : Nat), u < 16 ^ (k + 1) → 1 ≤ (digs u).length ∧ (digs u).length ≤ k + 1
  | 0, u, h => by rw [digs_small (by simpa using h)]; simp
  | k + 1, u, h => by
    by_cases hu : u < 16
    · rw [digs_small hu]; simp
    · have h2 : u / 16 < 16 ^ (k + 1) := by
        rw [Nat.div_lt_iff_lt_mul (by decide)]
        rw [Nat.pow_succ] at h; exact h
      obtain ⟨h3, h4⟩ := digs_len k (u / 16) h2
      rw [digs_big hu, List.length_append, List.length_singleton]; omega
def hexV (a : Nat) (l : List Nat) : Nat := l.foldl (fun a d => a * 16 + d) a
theorem hexV_app (a : Nat) (l : List Nat) (d : Nat) : hexV a (l ++ [d]) = hexV a l * 16 + d := by simp [hexV]
theorem hexV_digs : ∀ (n u : Nat), u ≤ n → hexV 0 (digs u) = u
  | n, u, hn => by
    by_cases h : u < 16
    · rw [digs_small h]; simp [hexV]
    · rw [digs_big h, hexV_app]
      match n, hn with
      | 0, hn => omega
      | n + 1, hn => rw [hexV_digs n (u / 16) (by omega)]; omega
theorem hexV_zero : ∀ (k : Nat) (l : List Nat), hexV 0 (List.replicate k 0 ++ l) = hexV 0 l
  | 0, l => rfl
  | k + 1, l => by
    rw [List.replicate_succ, List.cons_append]
    show hexV (0 * 16 + 0) _ = _
    rw [Nat.zero_mul]; exact hexV_zero k l
theorem hexV_lt : ∀ (l : List Nat) (a k : Nat), (∀ d ∈ l, d < 16) → a < 16 ^ k → hexV a l < 16 ^ (k + l.length)
  | [], a, k, _, h => h
  | d :: l, a, k, hl, h => by
    have hd := hl d List.mem_cons_self
    have h1 : a * 16 + d < 16 ^ (k + 1) := by rw [Nat.pow_succ]; omega
    have := hexV_lt l (a * 16 + d) (k + 1) (fun x hx => hl x (List.mem_cons_of_mem _ hx)) h1
    rw [List.length_cons]
    rw [show k + (l.length + 1) = k + 1 + l.length by omega]
    exact this
/-- Eight digits. -/
def hex8 (u : Nat) : List Nat := List.replicate (8 - (digs u).length) 0 ++ digs u
theorem hex8_len {u : Nat} (h : u < 4294967296) : (hex8 u).length = 8 := by
  have := digs_len 7 u (by simpa using h)
  rw [hex8, List.length_append, List.length_replicate]; omega
theorem hex8_lt {u : Nat} : ∀ d ∈ hex8 u, d < 16 := fun d hd => by
  rcases List.mem_append.1 hd with hd | hd
  · rw [List.eq_of_mem_replicate hd]; decide
  · exact digs_lt u u (Nat.le_refl _) d hd
theorem hex8_val (u : Nat) : hexV 0 (hex8 u) = u := by rw [hex8, hexV_zero, hexV_digs u u (Nat.le_refl _)]
theorem hexD_nat {d : Nat} (h : d < 16) : (hexD d).toNat = if d < 10 then 48 + d else 87 + d := by
  unfold hexD
  split
  · rw [UInt8.toNat_ofNat']; omega
  · rw [UInt8.toNat_ofNat']; omega
end Go.Proofs.YtmgmoamcbnkbfaaGreatDoor
