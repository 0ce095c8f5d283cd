/- Plain laws: a byte of a word, put and taken. -/
import Derived.Test.YtdfhmhgelkelcaaWk3
namespace Go.Proofs.Ytdfhmhgelkelcaa
set_option linter.unusedSimpArgs false
set_option linter.unusedVariables false
set_option maxHeartbeats 2000000

theorem or_add (a b s : Nat) (ha : a < 2 ^ s) (hb : b * 2 ^ s + a < 4294967296) : (BitVec.ofNat 32 a ||| BitVec.ofNat 32 (b * 2 ^ s)).toNat = b * 2 ^ s + a := by
  have h1 : a < 2 ^ 32 := by simp; omega
  have h2 : b * 2 ^ s < 2 ^ 32 := by simp; omega
  rw [BitVec.toNat_or, BitVec.toNat_ofNat, BitVec.toNat_ofNat, Nat.mod_eq_of_lt h1, Nat.mod_eq_of_lt h2, ← Nat.shiftLeft_eq, Nat.or_comm, ← Nat.shiftLeft_add_eq_or_of_lt ha]
theorem andnot_eq (w s : Nat) (hw : w < 4294967296) (hs : s + 8 ≤ 32) : (BitVec.ofNat 32 w &&& ~~~ BitVec.ofNat 32 (255 * 2 ^ s)).toNat = w / 2 ^ (s + 8) * 2 ^ (s + 8) + w % 2 ^ s := by
  have hlo : w % 2 ^ s < 2 ^ (s + 8) := Nat.lt_of_lt_of_le (Nat.mod_lt _ (Nat.two_pow_pos s)) (Nat.pow_le_pow_right (by decide) (by omega))
  rw [← Nat.shiftLeft_eq (w / 2 ^ (s + 8)), Nat.shiftLeft_add_eq_or_of_lt hlo, ← Nat.shiftRight_eq_div_pow]
  apply Nat.eq_of_testBit_eq
  intro i
  rw [BitVec.testBit_toNat, BitVec.getLsbD_and, BitVec.getLsbD_not, BitVec.getLsbD_ofNat, BitVec.getLsbD_ofNat, Nat.testBit_or, Nat.testBit_shiftLeft, Nat.testBit_shiftRight, Nat.testBit_mod_two_pow, ← Nat.shiftLeft_eq, Nat.testBit_shiftLeft]
  have h255 : ∀ j, (255 : Nat).testBit j = decide (j < 8) := fun j => Nat.testBit_two_pow_sub_one 8 j
  rw [h255]
  by_cases hi : i < 32
  · by_cases h1 : i < s
    · simp [hi, h1, show ¬ s ≤ i by omega, show ¬ s + 8 ≤ i by omega]
    · by_cases h2 : i < s + 8
      · simp [hi, h1, show s ≤ i by omega, show ¬ s + 8 ≤ i by omega, show i - s < 8 by omega]
      · simp [hi, h1, show s ≤ i by omega, show s + 8 ≤ i by omega, show ¬ i - s < 8 by omega]
  · have : w.testBit i = false := Nat.testBit_lt_two_pow (Nat.lt_of_lt_of_le hw (Nat.pow_le_pow_right (by decide : 0 < 2) (show 32 ≤ i by omega)))
    simp [hi, this]
    intro h
    rw [show s + 8 + (i - (s + 8)) = i by omega]; exact this

theorem p256_eq {n : Nat} (h : n < 4) : p256 n = 2 ^ (8 * n) := by
  match n, h with
  | 0, _ => rfl
  | 1, _ => rfl
  | 2, _ => rfl
  | 3, _ => rfl

/-- Both ways to put a byte. -/
def mixC (w : Int) (i : Nat) (x : Int) : Int := w - w / p256 i % 256 * p256 i + x % 256 * p256 i
theorem mixC_rng {w x : Int} {i : Nat} (h0 : 0 ≤ w) (h1 : w < 4294967296) (hi : i < 4) : 0 ≤ mixC w i x ∧ mixC w i x < 4294967296 := by
  match i, hi with
  | 0, _ => simp only [mixC, p256]; omega
  | 1, _ => simp only [mixC, p256]; omega
  | 2, _ => simp only [mixC, p256]; omega
  | 3, _ => simp only [mixC, p256]; omega
theorem mixB_eq {w at' x : Int} (h0 : 0 ≤ w) (h1 : w < 4294967296) (g0 : 0 ≤ x) : mixB w at' x = mixC w (at' % 4).toNat x := by
  have : (at' % 4).toNat < 4 := by omega
  unfold mixB mixC
  generalize (at' % 4).toNat = i at this
  match i, this with
  | 0, _ => simp only [p256]; omega
  | 1, _ => simp only [p256]; omega
  | 2, _ => simp only [p256]; omega
  | 3, _ => simp only [p256]; omega
theorem mixA_eq {w at' x : Int} (h0 : 0 ≤ w) (h1 : w < 4294967296) (g0 : 0 ≤ x) : mixA w at' x = mixC w (at' % 4).toNat x := by
  have h4 : (at' % 4).toNat < 4 := by omega
  obtain ⟨n, rfl⟩ := Int.eq_ofNat_of_zero_le h0
  obtain ⟨m, rfl⟩ := Int.eq_ofNat_of_zero_le g0
  unfold mixA mixC
  have hs : (8 * (at' % 4)).toNat = 8 * (at' % 4).toNat := by omega
  rw [hs, p256_eq h4]
  generalize (at' % 4).toNat = i at h4
  have hQ : 2 ^ (8 * i + 8) = 256 * 2 ^ (8 * i) := by rw [Nat.pow_add, Nat.mul_comm]
  have hP : 256 * 2 ^ (8 * i) ≤ 4294967296 := by
    have : 2 ^ (8 * i + 8) ≤ 2 ^ 32 := Nat.pow_le_pow_right (by decide) (by omega)
    rw [hQ] at this
    exact this
  have hP0 : 0 < 2 ^ (8 * i) := Nat.two_pow_pos _
  have hcast : (2 : Int) ^ (8 * i) = ((2 ^ (8 * i) : Nat) : Int) := by rw [Int.natCast_pow]; rfl
  have hand := andnot_eq n (8 * i) (by omega) (by omega)
  rw [hcast]
  have hl : n % 2 ^ (8 * i) < 2 ^ (8 * i) := Nat.mod_lt _ hP0
  have hsh : ∀ a b : Nat, b < 2 ^ (8 * i) → a * 2 ^ (8 * i) + b = (a <<< (8 * i)) ||| b := fun a b hb => by rw [← Nat.shiftLeft_add_eq_or_of_lt hb, Nat.shiftLeft_eq]
  have hsh2 : ∀ a b : Nat, b < 2 ^ (8 * i + 8) → a * 2 ^ (8 * i + 8) + b = (a <<< (8 * i + 8)) ||| b := fun a b hb => by rw [← Nat.shiftLeft_add_eq_or_of_lt hb, Nat.shiftLeft_eq]
  have hm256 : m % 256 < 256 := Nat.mod_lt _ (by decide)
  have hmP : m % 256 * 2 ^ (8 * i) + 2 ^ (8 * i) ≤ 256 * 2 ^ (8 * i) := by
    have h3 : (m % 256 + 1) * 2 ^ (8 * i) ≤ 256 * 2 ^ (8 * i) := Nat.mul_le_mul_right _ (by omega)
    rwa [Nat.succ_mul] at h3
  have e1 : (255 * ((2 ^ (8 * i) : Nat) : Int) % 4294967296 : Int) = ((255 * 2 ^ (8 * i) : Nat) : Int) := by
    rw [Int.natCast_mul]
    generalize 2 ^ (8 * i) = P at hP
    omega
  have e2 : ((m : Int) % 256 * ((2 ^ (8 * i) : Nat) : Int) % 4294967296 : Int) = ((m % 256 * 2 ^ (8 * i) : Nat) : Int) := by
    have : (m : Int) % 256 * ((2 ^ (8 * i) : Nat) : Int) = ((m % 256 * 2 ^ (8 * i) : Nat) : Int) := by rw [Int.natCast_mul]; rfl
    rw [this]
    generalize m % 256 * 2 ^ (8 * i) = q at hmP
    generalize 2 ^ (8 * i) = P at hP hmP hP0
    omega
  rw [e1, e2]
  simp only [BitVec.ofInt_natCast]
  rw [hand]
  have e5 : n = n / 2 ^ (8 * i + 8) * 2 ^ (8 * i + 8) + (n / 2 ^ (8 * i) % 256 * 2 ^ (8 * i) + n % 2 ^ (8 * i)) := by
    have q1 : n / 2 ^ (8 * i + 8) = n / 2 ^ (8 * i) / 256 := by rw [hQ, Nat.mul_comm, Nat.div_div_eq_div_mul]
    have q2 := Nat.div_add_mod n (2 ^ (8 * i))
    have q3 := Nat.div_add_mod (n / 2 ^ (8 * i)) 256
    rw [q1, hQ]
    generalize n / 2 ^ (8 * i) = a at *
    generalize 2 ^ (8 * i) = P at *
    have q4 : a / 256 * (256 * P) + (a % 256 * P) = P * a := by
      conv => rhs; rw [← q3]
      rw [Nat.mul_add, Nat.mul_comm P (a % 256), ← Nat.mul_assoc, Nat.mul_comm (a / 256) 256, Nat.mul_comm P]
    omega
  have e3 : (BitVec.ofNat 32 (n / 2 ^ (8 * i + 8) * 2 ^ (8 * i + 8) + n % 2 ^ (8 * i)) ||| BitVec.ofNat 32 (m % 256 * 2 ^ (8 * i))).toNat = n / 2 ^ (8 * i + 8) * 2 ^ (8 * i + 8) + (m % 256 * 2 ^ (8 * i) + n % 2 ^ (8 * i)) := by
    have hm : m % 256 * 2 ^ (8 * i) + n % 2 ^ (8 * i) < 2 ^ (8 * i + 8) := by rw [hQ]; omega
    have hll : n % 2 ^ (8 * i) < 2 ^ (8 * i + 8) := by omega
    have hmd : n / 2 ^ (8 * i + 8) * 2 ^ (8 * i + 8) + n % 2 ^ (8 * i) < 2 ^ 32 := by
      have : (2 : Nat) ^ 32 = 4294967296 := by decide
      omega
    have hmm : m % 256 * 2 ^ (8 * i) < 2 ^ 32 := by
      have : (2 : Nat) ^ 32 = 4294967296 := by decide
      omega
    rw [BitVec.toNat_or, BitVec.toNat_ofNat, BitVec.toNat_ofNat, Nat.mod_eq_of_lt hmd, Nat.mod_eq_of_lt hmm, hsh2 _ _ hll, hsh2 _ _ hm, hsh _ _ hl, Nat.or_assoc, Nat.or_comm (n % _), Nat.shiftLeft_eq (m % 256)]
  rw [e3]
  have c1 : ((n : Int) / ((2 ^ (8 * i) : Nat) : Int) % 256 * ((2 ^ (8 * i) : Nat) : Int)) = ((n / 2 ^ (8 * i) % 256 * 2 ^ (8 * i) : Nat) : Int) := by rw [Int.natCast_mul]; rfl
  have c2 : ((m : Int) % 256 * ((2 ^ (8 * i) : Nat) : Int)) = ((m % 256 * 2 ^ (8 * i) : Nat) : Int) := by rw [Int.natCast_mul]; rfl
  rw [c1, c2]
  omega

theorem byF_eq {ws : List Int} {at' : Int} : byF ws at' = byG ws at' := by
  unfold byF byG
  have h4 : (at' % 4).toNat < 4 := by omega
  rw [p256_eq h4, show (8 * (at' % 4)).toNat = 8 * (at' % 4).toNat by omega]
/-- The memory behind a byte that was put. -/
def pbC (ws : List Int) (at' x : Int) : List Int := if at' / 4 < ws.length then ws.set (at' / 4).toNat (mixC (ws.getD (at' / 4).toNat 0) (at' % 4).toNat x) else ws
theorem pbF_eq {ws : List Int} {at' x : Int} (hr : ∀ x ∈ ws, 0 ≤ x ∧ x < 4294967296) (g0 : 0 ≤ x) : pbF ws at' x = pbC ws at' x := by
  have := getD_rng hr (at' / 4).toNat
  unfold pbF pbC
  rw [mixA_eq this.1 this.2 g0]
theorem pbG_eq {ws : List Int} {at' x : Int} (hr : ∀ x ∈ ws, 0 ≤ x ∧ x < 4294967296) (g0 : 0 ≤ x) : pbG ws at' x = pbC ws at' x := by
  have := getD_rng hr (at' / 4).toNat
  unfold pbG pbC
  rw [mixB_eq this.1 this.2 g0]
theorem pbC_rng {ws : List Int} {at' x : Int} (hr : ∀ x ∈ ws, 0 ≤ x ∧ x < 4294967296) : (pbC ws at' x).length = ws.length ∧ ∀ y ∈ pbC ws at' x, 0 ≤ y ∧ y < 4294967296 := by
  have := getD_rng hr (at' / 4).toNat
  unfold pbC
  split
  · refine ⟨by simp, fun y hy => ?_⟩
    rcases List.mem_or_eq_of_mem_set hy with hy | rfl
    · exact hr y hy
    · exact mixC_rng this.1 this.2 (by omega)
  · exact ⟨rfl, hr⟩
theorem stF_rng {ws : List Int} {at' x : Int} (hr : ∀ x ∈ ws, 0 ≤ x ∧ x < 4294967296) (g0 : 0 ≤ x) (g1 : x < 4294967296) : (stF ws at' x).length = ws.length ∧ ∀ y ∈ stF ws at' x, 0 ≤ y ∧ y < 4294967296 := by
  unfold stF
  split
  · refine ⟨by simp, fun y hy => ?_⟩
    rcases List.mem_or_eq_of_mem_set hy with hy | rfl
    · exact hr y hy
    · exact ⟨g0, g1⟩
  · exact ⟨rfl, hr⟩
end Go.Proofs.Ytdfhmhgelkelcaa
