/- An operand; a word's line, taken apart. -/
import Derived.Test.YtmgmoamcbnkbfaaGreatDoorYL2
set_option linter.unusedVariables false
set_option linter.unusedSimpArgs false
set_option linter.unusedSectionVars false
namespace Go.Proofs.YtmgmoamcbnkbfaaGreatDoor
set_option linter.unusedSimpArgs false
set_option linter.unusedVariables false
set_option maxRecDepth 20000
set_option maxHeartbeats 2000000
open Go.RowKit

theorem dec_len : ∀ (k u : Nat), u < 10 ^ (k + 1) → (Lib.decDigits u).length ≤ k + 1
  | k, u, h => by
    rw [Lib.decDigits]
    split
    · simp
    · cases k with
      | zero => simp at h; omega
      | succ k =>
        have := dec_len k (u / 10) (by rw [Nat.pow_succ] at h; omega)
        rw [List.length_append]
        simp only [List.length_cons, List.length_nil]
        omega
theorem itoa_len11 {n : Int} (h : J31 n) : (Lib.itoa n).length ≤ 11 := by
  unfold Lib.itoa
  split
  · have := dec_len 9 n.natAbs (by omega)
    rw [List.length_cons]; omega
  · have := dec_len 9 n.toNat (by omega)
    omega
theorem rg_len3 {n : Int} (h : 0 ≤ n ∧ n < 16) : (rgT n).length ≤ 3 := by
  unfold rgT Lib.itoa
  rw [if_neg (by omega)]
  have := dec_len 1 n.toNat (by omega)
  rw [List.length_cons]; omega
/-- An operand: a register, or a number. -/
def opT (p : Int × Bool) : List UInt8 := if p.2 = true then rgT p.1 else Lib.itoa p.1
theorem itoa_no {n : Int} {c : UInt8} (h : c.toNat ≠ 45) (h2 : c.toNat < 48 ∨ 57 < c.toNat) : c ∉ Lib.itoa n := fun hc => by
  rcases itoa_sign n c hc with h3 | h3
  · exact h h3
  · omega
theorem opT_no (p : Int × Bool) {c : UInt8} (h : c.toNat ≠ 45) (h2 : c.toNat < 48 ∨ 57 < c.toNat) (h3 : c ≠ 82) : c ∉ opT p := by
  unfold opT rgT
  split
  · intro hc
    rcases List.mem_cons.1 hc with hc | hc
    · exact h3 hc
    · exact itoa_no h h2 hc
  · exact itoa_no h h2
theorem opT_len {p : Int × Bool} (h : J32 p.1) : (opT p).length ≤ 30 := by
  unfold opT rgT
  have := itoa_len h
  split
  · rw [List.length_cons]; omega
  · omega
theorem operand_c (p : Int × Bool) (hp : J32 p.1) (H : List ABlk) : ACalls Tryz.prog 54 [sv (bs (opT p))] H fun v H' => v = .tup [iv p.1, bv p.2, bv true] ∧ H' = H := by
  obtain ⟨n, r⟩ := p
  simp only at hp
  have hd : (⟨(Lib.trimPrefix (bs (opT (n, r))).data.toList [82]).toArray⟩ : ByteArray) = bs (Lib.itoa n) ∧ Lib.hasPrefix (bs (opT (n, r))).data.toList [82] = r := by
    cases r with
    | true => exact ⟨rfl, rfl⟩
    | false =>
      have h0 : Lib.hasPrefix (Lib.itoa n) [82] = false := by
        unfold Lib.hasPrefix
        cases hi : Lib.itoa n with
        | nil => rfl
        | cons c l =>
          have hc : c ≠ 82 := fun e => itoa_no (n := n) (c := 82) (by decide) (by decide) (by rw [hi, e]; exact List.mem_cons_self)
          simp [List.isPrefixOf, beq_eq_false_iff_ne.2 hc.symm]
      have h1 : (bs (opT (n, false))).data.toList = Lib.itoa n := rfl
      rw [h1]
      exact ⟨by unfold Lib.trimPrefix; rw [h0]; rfl, h0⟩
  have hcp := cutPrefix_c (bs (opT (n, r))) ⟨#[82]⟩
  rw [show (⟨#[82]⟩ : ByteArray).data.toList = [82] from rfl] at hcp
  rw [hd.1, hd.2] at hcp
  have hat := atoi_c (bs (Lib.itoa n)) (by rw [bs_size]; have := itoa_len hp; omega) n (atoi_itoa (by omega) (by omega))
  refine ACalls.into Tryz.func54 cc54 rr54 fun hcl => ?_
  simp (maxSteps := 2000000) (disch := omega) only [Tryz.ntmps54, c54, r54, go_sem, seval, eq_self, if_true, if_false, reduceCtorEq]
  refine Cont.mk (hcp _) ?_
  simp (maxSteps := 2000000) (disch := omega) only [go_sem, seval, eq_self, if_true, if_false, reduceCtorEq]
  refine Cont.mk (hat _) ?_
  simp (maxSteps := 2000000) (disch := omega) only [go_sem, seval, eq_self, if_true, if_false, reduceCtorEq]
  refine W.pchain follows (by decide +kernel) ?_
  simp (maxSteps := 2000000) (disch := omega) only [go_sem, seval, eq_self, if_true, if_false, reduceCtorEq]
  exact Ret.keep ⟨rfl, rfl⟩
/-- The operands of an instruction. -/
def opsV (x : In) : List (Int × Bool) := if x.f = 0 then [(x.a, true), (x.b, true), (x.c, true)] else if x.f = 3 then (if x.u = true then [(x.im, false)] else [(x.c, true)]) else [(x.a, true), (x.b, true), (x.im, false)]
theorem opsF_V (x : In) : opsF x = (opsV x).map opT := by
  unfold opsF opsV
  split
  · rfl
  split
  · split <;> rfl
  · rfl
theorem opsV_ok {x : In} (hx : InOk x) : (∀ p ∈ opsV x, J32 p.1) ∧ opsV x ≠ [] ∧ (opsV x).length ≤ 3 := by
  have := hx.a; have := hx.b; have := hx.c; have := hx.im
  unfold opsV
  split
  · refine ⟨fun p hp => ?_, by simp, by simp⟩
    simp only [List.mem_cons, List.not_mem_nil, or_false] at hp
    rcases hp with rfl | rfl | rfl <;> simp only <;> omega
  split
  · split
    all_goals
      refine ⟨fun p hp => ?_, by simp, by simp⟩
      simp only [List.mem_cons, List.not_mem_nil, or_false] at hp
      subst hp
      simp only; omega
  · refine ⟨fun p hp => ?_, by simp, by simp⟩
    simp only [List.mem_cons, List.not_mem_nil, or_false] at hp
    rcases hp with rfl | rfl | rfl <;> simp only <;> omega
theorem txt_len {x : In} (hx : InOk x) {e : Ent} (hnm : nmF x = e.nm) (he : EntOk e) : (txtF x).length ≤ 40 := by
  have h0 := he.nm
  have h1 := rg_len3 hx.a
  have h2 := rg_len3 hx.b
  have h3 := rg_len3 hx.c
  have h4 := itoa_len11 hx.im
  unfold txtF opsF
  rw [hnm]
  split
  · simp only [joinS, List.length_append, List.length_cons, List.length_nil]; omega
  split
  · split
    all_goals
      simp only [joinS, List.length_append, List.length_cons, List.length_nil]; omega
  · simp only [joinS, List.length_append, List.length_cons, List.length_nil]; omega
theorem gd_fld {f a b c op im : Int} {u v : Bool} (hg : gdB ⟨f, u, v, a, b, c, op, im⟩ = true) (hf : 0 ≤ f ∧ f < 4) :
    (f = 0 ∧ im = 0) ∨ (f = 1 ∧ c = 0) ∨ (f = 2 ∧ c = 0 ∧ op = 0) ∨ (f = 3 ∧ b = 0 ∧ op = 0 ∧ (u = true ∧ c = 0 ∨ u = false ∧ im = 0)) := by
  simp only [gdB, In.y, Bool.and_eq_true, decide_eq_true_eq] at hg
  obtain ⟨-, ⟨⟨h1, h2⟩, h3⟩, h4⟩ := hg
  by_cases f0 : f = 0
  · rw [if_pos f0] at h4; exact .inl ⟨f0, h4⟩
  rw [if_neg f0] at h1 h2 h3 h4
  by_cases f1 : f = 1
  · rw [if_pos f1] at h2; exact .inr (.inl ⟨f1, h2⟩)
  rw [if_neg f1] at h1 h2 h3 h4
  by_cases f2 : f = 2
  · rw [if_pos f2] at h2 h3; exact .inr (.inr (.inl ⟨f2, h2, h3⟩))
  rw [if_neg f2] at h1 h2 h3 h4
  refine .inr (.inr (.inr ⟨by omega, ?_⟩))
  cases u
  · simp at h1 h3 h4; exact ⟨h1, h3, .inr ⟨rfl, h4⟩⟩
  · simp at h1 h2 h3; exact ⟨h1, h3, .inl ⟨rfl, h2⟩⟩
end Go.Proofs.YtmgmoamcbnkbfaaGreatDoor
