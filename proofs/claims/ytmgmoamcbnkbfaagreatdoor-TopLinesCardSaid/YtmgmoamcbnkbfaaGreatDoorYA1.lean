/- What the register instructions reckon: words out of words. -/
import Derived.Test.YtmgmoamcbnkbfaaGreatDoorYR4
set_option linter.unusedVariables false
set_option linter.unusedSimpArgs false
set_option linter.unusedSectionVars false
namespace Go.Proofs.YtmgmoamcbnkbfaaGreatDoor
set_option linter.unusedSimpArgs false
set_option linter.unusedVariables false
set_option maxRecDepth 20000
set_option maxHeartbeats 1000000
open Go.RowKit

theorem u32_wrap (n : Int) : U32 (IntKind.u32.wrap n) := by
  have h : IntKind.u32.wrap n = n % 4294967296 := by simp [IntKind.wrap, IntKind.bits, IntKind.signed]
  rw [h]; exact u32_mod n
theorem i32r (n : Int) : -2147483648 ≤ IntKind.i32.wrap n ∧ IntKind.i32.wrap n < 2147483648 := by
  have h : IntKind.i32.wrap n = if n % 4294967296 ≥ 2147483648 then n % 4294967296 - 4294967296 else n % 4294967296 := by
    simp [IntKind.wrap, IntKind.bits, IntKind.signed]
  rw [h]
  have h0 : 0 ≤ n % 4294967296 := Int.emod_nonneg _ (by decide)
  have h1 : n % 4294967296 < 4294967296 := Int.emod_lt_of_pos _ (by decide)
  split <;> constructor <;> omega
theorem lsl_c (x n : Int) (hx : U32 x) (hn : U32 n) : ∃ r, U32 r ∧ ∀ H, ACalls Tryz.prog 108 [wv x, wv n] H fun v H' => v = wv r ∧ H' = H := by
  obtain ⟨x0, x1⟩ := hx
  obtain ⟨n0, n1⟩ := hn
  apply Exists.intro
  refine ⟨?_, fun H => ?_⟩
  rotate_left
  · refine ACalls.into Tryz.func108 cc108 rr108 fun hcl => ?_
    simp (maxSteps := 2000000) (disch := omega) only [Tryz.ntmps108, c108, r108, go_sem, seval, eq_self, if_true, if_false, reduceCtorEq]
    exact Ret.keep ⟨rfl, rfl⟩
  · first | exact u32_mod _ | exact u32_wrap _ | exact u32_bv _ | exact ⟨by omega, by omega⟩
theorem asr_c (x n : Int) (hx : U32 x) (hn : U32 n) : ∃ r, U32 r ∧ ∀ H, ACalls Tryz.prog 109 [wv x, wv n] H fun v H' => v = wv r ∧ H' = H := by
  obtain ⟨x0, x1⟩ := hx
  obtain ⟨n0, n1⟩ := hn
  apply Exists.intro
  refine ⟨?_, fun H => ?_⟩
  rotate_left
  · refine ACalls.into Tryz.func109 cc109 rr109 fun hcl => ?_
    simp (maxSteps := 2000000) (disch := omega) only [Tryz.ntmps109, c109, r109, go_sem, seval, eq_self, if_true, if_false, reduceCtorEq]
    exact Ret.keep ⟨rfl, rfl⟩
  · first | exact u32_mod _ | exact u32_wrap _ | exact u32_bv _ | exact ⟨by omega, by omega⟩
theorem and31 (m : Int) : ∃ K, IntKind.u64.wrap ((BitVec.ofInt IntKind.u64.bits m &&& BitVec.ofInt IntKind.u64.bits 31).toNat : Int) = K ∧ 0 ≤ K ∧ K ≤ 31 := by
  refine ⟨_, rfl, ?_⟩
  have h1 : (BitVec.ofInt IntKind.u64.bits m &&& BitVec.ofInt IntKind.u64.bits 31).toNat ≤ 31 := by
    rw [BitVec.toNat_and]
    exact Nat.and_le_right
  generalize (BitVec.ofInt IntKind.u64.bits m &&& BitVec.ofInt IntKind.u64.bits 31).toNat = q at *
  have h : IntKind.u64.wrap (q : Int) = (q : Int) % 18446744073709551616 := by simp [IntKind.wrap, IntKind.bits, IntKind.signed]
  rw [h]; omega
theorem rot_c (x n : Int) (hx : U32 x) : ∃ r, U32 r ∧ ∀ H, ACalls Tryz.prog 131 [wv x, iv n] H fun v H' => v = wv r ∧ H' = H := by
  obtain ⟨x0, x1⟩ := hx
  obtain ⟨K, hK, k0, k1⟩ := and31 (IntKind.u64.wrap n)
  have hK2 := hK
  try simp only [go_sem, seval, eq_self, if_true, if_false, reduceCtorEq] at hK2
  apply Exists.intro
  refine ⟨?_, fun H => ?_⟩
  rotate_left
  · refine ACalls.into Tryz.func131 cc131 rr131 fun hcl => ?_
    simp (maxSteps := 2000000) (disch := omega) only [Tryz.ntmps131, c131, r131, hK, hK2, go_sem, seval, eq_self, if_true, if_false, reduceCtorEq]
    exact Ret.keep ⟨rfl, rfl⟩
  · first | exact u32_mod _ | exact u32_wrap _ | exact u32_bv _ | exact ⟨by omega, by omega⟩
theorem ror_c (x n : Int) (hx : U32 x) (hn : U32 n) : ∃ r, U32 r ∧ ∀ H, ACalls Tryz.prog 110 [wv x, wv n] H fun v H' => v = wv r ∧ H' = H := by
  obtain ⟨r, hr, h⟩ := rot_c x (0 - n % 32) hx
  obtain ⟨x0, x1⟩ := hx
  obtain ⟨n0, n1⟩ := hn
  refine ⟨r, hr, fun H => ?_⟩
  refine ACalls.into Tryz.func110 cc110 rr110 fun hcl => ?_
  simp (maxSteps := 2000000) (disch := omega) only [Tryz.ntmps110, c110, r110, go_sem, seval, eq_self, if_true, if_false, reduceCtorEq]
  refine Cont.mk (h _) ?_
  simp (maxSteps := 2000000) (disch := omega) only [go_sem, seval, eq_self, if_true, if_false, reduceCtorEq]
  exact Ret.keep ⟨rfl, rfl⟩
theorem over_c (n : Int) : ∃ b, ∀ H, ACalls Tryz.prog 111 [iv n] H fun v H' => v = bv b ∧ H' = H := by
  apply Exists.intro
  refine fun H => ?_
  refine ACalls.into Tryz.func111 cc111 rr111 fun hcl => ?_
  simp (maxSteps := 2000000) (disch := omega) only [Tryz.ntmps111, c111, r111, go_sem, seval, eq_self, if_true, if_false, reduceCtorEq]
  exact Ret.keep ⟨rfl, rfl⟩
theorem prod_c (u : Bool) (b n : Int) (hb : U32 b) (hn : U32 n) : ∃ p q, U32 p ∧ U32 q ∧ ∀ H, ACalls Tryz.prog 112 [bv u, wv b, wv n] H fun v H' => v = .tup [wv p, wv q] ∧ H' = H := by
  obtain ⟨b0, b1⟩ := hb
  obtain ⟨n0, n1⟩ := hn
  cases u <;> (
    apply Exists.intro
    apply Exists.intro
    refine ⟨?_, ?_, fun H => ?_⟩
    rotate_left 2
    · refine ACalls.into Tryz.func112 cc112 rr112 fun hcl => ?_
      simp (maxSteps := 2000000) (disch := omega) only [Tryz.ntmps112, c112, r112, go_sem, seval, eq_self, if_true, if_false, reduceCtorEq]
      exact Ret.keep ⟨rfl, rfl⟩
    · first | exact u32_mod _ | exact u32_wrap _ | exact u32_bv _ | exact ⟨by omega, by omega⟩
    · first | exact u32_mod _ | exact u32_wrap _ | exact u32_bv _ | exact ⟨by omega, by omega⟩)
theorem quot_c (b n : Int) (hb : U32 b) (hn : U32 n) : ∃ p q, U32 p ∧ U32 q ∧ ∀ H, ACalls Tryz.prog 113 [wv b, wv n] H fun v H' => v = .tup [wv p, wv q] ∧ H' = H := by
  obtain ⟨b0, b1⟩ := hb
  obtain ⟨n0, n1⟩ := hn
  have hx := i32r b
  have hy := i32r n
  have ex : IntKind.i64.wrap (IntKind.i32.wrap b) = IntKind.i32.wrap b := w_i64 (by omega) (by omega)
  have ey : IntKind.i64.wrap (IntKind.i32.wrap n) = IntKind.i32.wrap n := w_i64 (by omega) (by omega)
  generalize hxx : IntKind.i32.wrap b = x at *
  generalize hyy : IntKind.i32.wrap n = y at *
  by_cases h0 : y ≤ 0
  · refine ⟨0, b, by decide, ⟨b0, b1⟩, fun H => ?_⟩
    refine ACalls.into Tryz.func113 cc113 rr113 fun hcl => ?_
    simp (maxSteps := 2000000) (disch := omega) only [Tryz.ntmps113, c113, r113, hxx, hyy, ex, ey, go_sem, seval, eq_self, if_true, if_false, reduceCtorEq]
    exact Ret.keep ⟨rfl, rfl⟩
  have hq : -2147483648 ≤ x.tdiv y ∧ x.tdiv y ≤ 2147483648 := by
    have h1 : (x.tdiv y).natAbs ≤ x.natAbs := by rw [Int.natAbs_tdiv]; exact Nat.div_le_self ..
    omega
  have hm : -2147483648 ≤ x.tmod y ∧ x.tmod y ≤ 2147483648 := by
    have h1 : (x.tmod y).natAbs ≤ x.natAbs := by rw [Int.natAbs_tmod]; exact Nat.mod_le ..
    omega
  have y0 : ¬ y = 0 := by omega
  by_cases h2 : x.tmod y < 0
  all_goals (
    apply Exists.intro
    apply Exists.intro
    refine ⟨?_, ?_, fun H => ?_⟩
    rotate_left 2
    · refine ACalls.into Tryz.func113 cc113 rr113 fun hcl => ?_
      simp (maxSteps := 2000000) (disch := omega) only [Tryz.ntmps113, c113, r113, hxx, hyy, ex, ey, go_sem, seval, eq_self, if_true, if_false, reduceCtorEq]
      refine W.pchain follows (by decide +kernel) ?_
      simp (maxSteps := 2000000) (disch := omega) only [go_sem, seval, eq_self, if_true, if_false, reduceCtorEq]
      exact Ret.keep ⟨rfl, rfl⟩
    · first | exact u32_mod _ | exact u32_wrap _ | exact u32_bv _ | exact ⟨by omega, by omega⟩
    · first | exact u32_mod _ | exact u32_wrap _ | exact u32_bv _ | exact ⟨by omega, by omega⟩)
end Go.Proofs.YtmgmoamcbnkbfaaGreatDoor
