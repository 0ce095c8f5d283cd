/- risc.Encode, risc.Decode. -/
import Derived.Test.YtmgmoamcbnkbfaaGreatDoorYR2
set_option linter.unusedVariables false
set_option linter.unusedSimpArgs false
set_option linter.unusedSectionVars false
namespace Go.Proofs.YtmgmoamcbnkbfaaGreatDoor
set_option linter.unusedSimpArgs false
set_option linter.unusedVariables false
set_option maxRecDepth 20000
set_option maxHeartbeats 1000000
open Go.RowKit

abbrev U32 (n : Int) : Prop := 0 ≤ n ∧ n < 4294967296
theorem u32_bv (b : BitVec 32) : U32 ((b.toNat : Nat) : Int) := ⟨by omega, by have := b.isLt; omega⟩
theorem u32_mod (n : Int) : U32 (n % 4294967296) := ⟨Int.emod_nonneg _ (by decide), Int.emod_lt_of_pos _ (by decide)⟩
abbrev InI (x : In) : Prop := J64 x.a ∧ J64 x.b ∧ J64 x.c ∧ J64 x.op ∧ J64 x.im
theorem enc_c (x : In) (hf : x.f = 0 ∨ x.f = 1 ∨ x.f = 2 ∨ x.f = 3) (hI : InI x) : ∃ w e, U32 w ∧ (e = 0 ∧ gdB x = true ∨ e = 20) ∧ ∀ H, ACalls Tryz.prog 55 [x.av] H fun v H' => v = .tup [wv w, iv e] ∧ H' = H := by
  have hgd := good_c x hf hI
  by_cases hg : gdB x = true
  rotate_left
  · have hg : gdB x = false := by simpa using hg
    rw [hg] at hgd
    refine ⟨0, 20, by decide, .inr rfl, fun H => ?_⟩
    refine ACalls.into Tryz.func55 cc55 rr55 fun hcl => ?_
    simp (maxSteps := 2000000) (disch := omega) only [Tryz.ntmps55, c55, r55, go_sem, seval, eq_self, if_true, if_false, reduceCtorEq]
    refine Cont.mk (hgd _) ?_
    simp (maxSteps := 2000000) (disch := omega) only [go_sem, seval, eq_self, if_true, if_false, reduceCtorEq]
    exact Ret.drop _ H (Nat.le_refl _) hcl (.rfl _) (by simp [refs, refs.refsL]) ⟨rfl, rfl⟩
  rw [hg] at hgd
  obtain ⟨f, u, v, a, b, c, op, im⟩ := x
  simp only at hf hI hgd hg
  rcases hf with rfl | rfl | rfl | rfl
  all_goals (
    apply Exists.intro
    apply Exists.intro (0 : Int)
    refine ⟨?_, .inl ⟨rfl, hg⟩, fun H => ?_⟩
    rotate_left
    · refine ACalls.into Tryz.func55 cc55 rr55 fun hcl => ?_
      simp (maxSteps := 2000000) (disch := omega) only [Tryz.ntmps55, c55, r55, go_sem, seval, eq_self, if_true, if_false, reduceCtorEq]
      refine Cont.mk (hgd _) ?_
      simp (maxSteps := 2000000) (disch := omega) only [go_sem, seval, eq_self, if_true, if_false, reduceCtorEq]
      refine W.pchain follows (by decide +kernel) ?_
      simp (maxSteps := 2000000) (disch := omega) only [go_sem, seval, eq_self, if_true, if_false, reduceCtorEq]
      refine PCont.mk (bit29_c u _) ?_
      simp (maxSteps := 2000000) (disch := omega) only [go_sem, seval, eq_self, if_true, if_false, reduceCtorEq]
      refine PCont.mk (bit28_c v _) ?_
      simp (maxSteps := 2000000) (disch := omega) only [go_sem, seval, eq_self, if_true, if_false, reduceCtorEq]
      exact Ret.drop _ H (Nat.le_refl _) hcl (.rfl _) (by simp [refs, refs.refsL]) ⟨rfl, rfl⟩
    · first | exact u32_mod _ | exact u32_bv _)
end Go.Proofs.YtmgmoamcbnkbfaaGreatDoor

/- risc.Decode. -/
namespace Go.Proofs.YtmgmoamcbnkbfaaGreatDoor
set_option linter.unusedSimpArgs false
set_option linter.unusedVariables false
set_option maxRecDepth 20000
set_option maxHeartbeats 1000000
open Go.RowKit

abbrev J31 (n : Int) : Prop := -2147483648 ≤ n ∧ n < 2147483648
theorem i32_rng (n : Int) : J31 (IntKind.i32.wrap n) := by
  have h : IntKind.i32.wrap n = if n % 4294967296 ≥ 2147483648 then n % 4294967296 - 4294967296 else n % 4294967296 := by
    simp [IntKind.wrap, IntKind.bits, IntKind.signed]
  rw [h]
  have h0 : 0 ≤ n % 4294967296 := Int.emod_nonneg _ (by decide)
  have h1 : n % 4294967296 < 4294967296 := Int.emod_lt_of_pos _ (by decide)
  split <;> constructor <;> omega
theorem ext_c (w n : Int) (hw : U32 w) (hn : n = 20 ∨ n = 24) : ∃ r, J31 r ∧ ∀ H, ACalls Tryz.prog 59 [wv w, iv n] H fun v H' => v = iv r ∧ H' = H := by
  obtain ⟨w0, w1⟩ := hw
  rcases hn with rfl | rfl
  · have hr := i32_rng (w * 4096 % 4294967296)
    refine ⟨IntKind.i32.wrap (w * 4096 % 4294967296) / 4096, by omega, fun H => ?_⟩
    refine ACalls.into Tryz.func59 cc59 rr59 fun hcl => ?_
    have e : (2 : Int) ^ min 12 IntKind.i32.bits = 4096 := by decide
    simp (maxSteps := 2000000) (disch := omega) only [Tryz.ntmps59, c59, r59, go_sem, seval, eq_self, if_true, if_false, reduceCtorEq]
    generalize IntKind.i32.wrap (w * 4096 % 4294967296) = q at *
    first | rw [e, w_i64 (by omega) (by omega)] | rw [w_i64 (by omega) (by omega)] | skip
    exact Ret.keep ⟨rfl, rfl⟩
  · have hr := i32_rng (w * 256 % 4294967296)
    refine ⟨IntKind.i32.wrap (w * 256 % 4294967296) / 256, by omega, fun H => ?_⟩
    refine ACalls.into Tryz.func59 cc59 rr59 fun hcl => ?_
    have e : (2 : Int) ^ min 8 IntKind.i32.bits = 256 := by decide
    simp (maxSteps := 2000000) (disch := omega) only [Tryz.ntmps59, c59, r59, go_sem, seval, eq_self, if_true, if_false, reduceCtorEq]
    generalize IntKind.i32.wrap (w * 256 % 4294967296) = q at *
    first | rw [e, w_i64 (by omega) (by omega)] | rw [w_i64 (by omega) (by omega)] | skip
    exact Ret.keep ⟨rfl, rfl⟩
structure InOk (x : In) : Prop where
  f : 0 ≤ x.f ∧ x.f < 4
  a : 0 ≤ x.a ∧ x.a < 16
  b : 0 ≤ x.b ∧ x.b < 16
  c : 0 ≤ x.c ∧ x.c < 16
  op : 0 ≤ x.op ∧ x.op < 16
  im : J31 x.im
theorem InOk.i {x : In} (h : InOk x) : InI x := by
  have := h.a; have := h.b; have := h.c; have := h.op; have := h.im
  exact ⟨by omega, by omega, by omega, by omega, by omega⟩
abbrev inZ : In := ⟨0, false, false, 0, 0, 0, 0, 0⟩
theorem inZ_ok : InOk inZ := ⟨by decide, by decide, by decide, by decide, by decide, by decide⟩
/-- The word's instruction, and whether there is one. -/
def DecP (w : Int) (x : In) (e : Int) : Prop := InOk x ∧ (e = 0 ∧ (gdB x = true ∧ ∀ H, ACalls Tryz.prog 55 [x.av] H fun v H' => v = .tup [wv w, iv 0] ∧ H' = H) ∨ e = 20) ∧ ∀ H, ACalls Tryz.prog 33 [wv w] H fun v H' => v = .tup [x.av, iv e] ∧ H' = H
theorem dec_0 (w : Int) (hw : U32 w) (hf : w / 1073741824 = 0) : ∃ x e, DecP w x e := by
  have hw' := hw
  obtain ⟨w0, w1⟩ := hw
  have hA := g4_rng (w / 16777216)
  have hB := g4_rng (w / 1048576)
  have hO := g4_rng (w / 65536)
  have hC := g4_rng w
  obtain ⟨U, hU⟩ : ∃ U, U = decide (((BitVec.ofInt IntKind.u32.bits (w / 536870912) &&& BitVec.ofInt IntKind.u32.bits 1).toNat : Int) % 4294967296 = 1) := ⟨_, rfl⟩
  obtain ⟨V, hV⟩ : ∃ V, V = decide (((BitVec.ofInt IntKind.u32.bits (w / 268435456) &&& BitVec.ofInt IntKind.u32.bits 1).toNat : Int) % 4294967296 = 1) := ⟨_, rfl⟩
  have ga := get_c w 24 16777216 w0 w1 (by omega)
  have gb := get_c w 20 1048576 w0 w1 (by omega)
  have go := get_c w 16 65536 w0 w1 (by omega)
  obtain ⟨m20, r20, e20⟩ := ext_c w 20 hw' (.inl rfl)
  obtain ⟨m24, r24, e24⟩ := ext_c w 24 hw' (.inr rfl)
  have hc4 : ((BitVec.ofInt IntKind.u32.bits w &&& BitVec.ofInt IntKind.u32.bits 15).toNat : Int) % 4294967296 = g4 w := rfl
  have hc50 : ((@HAnd.hAnd (BitVec 32) (BitVec 32) (BitVec 32) (@instHAndOfAndOp (BitVec IntKind.u32.bits) (@BitVec.instAndOp IntKind.u32.bits)) (BitVec.ofInt 32 (w)) 15#32).toNat : Int) = g4 w := (bvmod (BitVec.ofInt 32 w &&& 15#32)).symm
  have hUp0 : (((@HAnd.hAnd (BitVec 32) (BitVec 32) (BitVec 32) (@instHAndOfAndOp (BitVec IntKind.u32.bits) (@BitVec.instAndOp IntKind.u32.bits)) (BitVec.ofInt 32 (w / 536870912)) 1#32).toNat : Int) = 1) = (U = true) := by
    have e := bvmod (BitVec.ofInt 32 (w / 536870912) &&& 1#32)
    rw [hU]
    exact propext ⟨fun h => decide_eq_true (e.trans h), fun h => e.symm.trans (of_decide_eq_true h)⟩
  have hVp0 : (((@HAnd.hAnd (BitVec 32) (BitVec 32) (BitVec 32) (@instHAndOfAndOp (BitVec IntKind.u32.bits) (@BitVec.instAndOp IntKind.u32.bits)) (BitVec.ofInt 32 (w / 268435456)) 1#32).toNat : Int) = 1) = (V = true) := by
    have e := bvmod (BitVec.ofInt 32 (w / 268435456) &&& 1#32)
    rw [hV]
    exact propext ⟨fun h => decide_eq_true (e.trans h), fun h => e.symm.trans (of_decide_eq_true h)⟩
  have hc51 : ((@HAnd.hAnd (BitVec 32) (BitVec 32) (BitVec 32) (@instHAndOfAndOp (BitVec IntKind.u32.bits) (@BitVec.instAndOp IntKind.u32.bits)) (BitVec.ofInt 32 (w)) (BitVec.ofInt 32 15)).toNat : Int) = g4 w := (bvmod (BitVec.ofInt 32 w &&& 15#32)).symm
  have hUp1 : (((@HAnd.hAnd (BitVec 32) (BitVec 32) (BitVec 32) (@instHAndOfAndOp (BitVec IntKind.u32.bits) (@BitVec.instAndOp IntKind.u32.bits)) (BitVec.ofInt 32 (w / 536870912)) (BitVec.ofInt 32 1)).toNat : Int) = 1) = (U = true) := by
    have e := bvmod (BitVec.ofInt 32 (w / 536870912) &&& 1#32)
    rw [hU]
    exact propext ⟨fun h => decide_eq_true (e.trans h), fun h => e.symm.trans (of_decide_eq_true h)⟩
  have hVp1 : (((@HAnd.hAnd (BitVec 32) (BitVec 32) (BitVec 32) (@instHAndOfAndOp (BitVec IntKind.u32.bits) (@BitVec.instAndOp IntKind.u32.bits)) (BitVec.ofInt 32 (w / 268435456)) (BitVec.ofInt 32 1)).toNat : Int) = 1) = (V = true) := by
    have e := bvmod (BitVec.ofInt 32 (w / 268435456) &&& 1#32)
    rw [hV]
    exact propext ⟨fun h => decide_eq_true (e.trans h), fun h => e.symm.trans (of_decide_eq_true h)⟩
  generalize hga : g4 (w / 16777216) = A at *
  generalize hgb : g4 (w / 1048576) = B at *
  generalize hgo : g4 (w / 65536) = O at *
  generalize hgc : g4 w = C at *
  have h16 : IntKind.u16.wrap w = w % 65536 := by simp [IntKind.wrap, IntKind.bits, IntKind.signed]
  have hm : 0 ≤ w % 65536 ∧ w % 65536 < 65536 := by omega
  obtain ⟨w2, e2, hw2, he2, henc⟩ := enc_c ⟨0, U, V, A, B, C, O, 0⟩ (.inl rfl) (InOk.i ⟨by simp only; omega, by simp only; omega, by simp only; omega, by simp only; omega, by simp only; omega, by simp only; omega⟩)
  by_cases hok : e2 = 0 ∧ w2 = w
  · obtain ⟨h1, h2⟩ := hok
    subst h1
    rw [h2] at henc
    have hgd := he2.elim (fun h => h.2) (fun h => absurd h (by decide))
    refine ⟨⟨0, U, V, A, B, C, O, 0⟩, 0, ⟨by simp only; omega, by simp only; omega, by simp only; omega, by simp only; omega, by simp only; omega, by simp only; omega⟩, .inl ⟨rfl, hgd, henc⟩, fun H => ?_⟩
    refine ACalls.into Tryz.func33 cc33 rr33 fun hcl => ?_
    simp (maxSteps := 2000000) (disch := omega) only [Tryz.ntmps33, c33, r33, go_sem, seval, eq_self, if_true, if_false, reduceCtorEq]
    refine Cont.mk (ga _) ?_
    simp (maxSteps := 2000000) (disch := omega) only [hUp0, hVp0, hUp1, hVp1, Bool.decide_eq_true, go_sem, seval, eq_self, if_true, if_false, reduceCtorEq]
    first | rw [← hU, ← hV] | skip
    simp (maxSteps := 2000000) (disch := omega) only [hf, hc4, hc50, hc51, h16, go_sem, seval, eq_self, if_true, if_false, reduceCtorEq]
    refine Cont.mk (gb _) ?_
    simp (maxSteps := 2000000) (disch := omega) only [hf, hc4, hc50, hc51, h16, go_sem, seval, eq_self, if_true, if_false, reduceCtorEq]
    refine Cont.mk (go _) ?_
    simp (maxSteps := 2000000) (disch := omega) only [hf, hc4, hc50, hc51, h16, go_sem, seval, eq_self, if_true, if_false, reduceCtorEq]
    refine Cont.mk (henc _) ?_
    simp (maxSteps := 2000000) (disch := omega) only [go_sem, seval, eq_self, if_true, if_false, reduceCtorEq]
    exact Ret.drop _ H (Nat.le_refl _) hcl (.rfl _) (by simp [refs, refs.refsL]) ⟨rfl, rfl⟩
  · refine ⟨inZ, 20, inZ_ok, .inr rfl, fun H => ?_⟩
    refine ACalls.into Tryz.func33 cc33 rr33 fun hcl => ?_
    simp (maxSteps := 2000000) (disch := omega) only [Tryz.ntmps33, c33, r33, go_sem, seval, eq_self, if_true, if_false, reduceCtorEq]
    refine Cont.mk (ga _) ?_
    simp (maxSteps := 2000000) (disch := omega) only [hUp0, hVp0, hUp1, hVp1, Bool.decide_eq_true, go_sem, seval, eq_self, if_true, if_false, reduceCtorEq]
    first | rw [← hU, ← hV] | skip
    simp (maxSteps := 2000000) (disch := omega) only [hf, hc4, hc50, hc51, h16, go_sem, seval, eq_self, if_true, if_false, reduceCtorEq]
    refine Cont.mk (gb _) ?_
    simp (maxSteps := 2000000) (disch := omega) only [hf, hc4, hc50, hc51, h16, go_sem, seval, eq_self, if_true, if_false, reduceCtorEq]
    refine Cont.mk (go _) ?_
    simp (maxSteps := 2000000) (disch := omega) only [hf, hc4, hc50, hc51, h16, go_sem, seval, eq_self, if_true, if_false, reduceCtorEq]
    refine Cont.mk (henc _) ?_
    rcases he2 with ⟨rfl, -⟩ | rfl
    · have hne : ¬ w2 = w := fun h => hok ⟨rfl, h⟩
      simp (maxSteps := 2000000) (disch := omega) only [go_sem, seval, eq_self, if_true, if_false, reduceCtorEq]
      exact Ret.drop _ H (Nat.le_refl _) hcl (.rfl _) (by simp [refs, refs.refsL]) ⟨rfl, rfl⟩
    · simp (maxSteps := 2000000) (disch := omega) only [go_sem, seval, eq_self, if_true, if_false, reduceCtorEq]
      exact Ret.drop _ H (Nat.le_refl _) hcl (.rfl _) (by simp [refs, refs.refsL]) ⟨rfl, rfl⟩
theorem dec_1 (w : Int) (hw : U32 w) (hf : w / 1073741824 = 1) : ∃ x e, DecP w x e := by
  have hw' := hw
  obtain ⟨w0, w1⟩ := hw
  have hA := g4_rng (w / 16777216)
  have hB := g4_rng (w / 1048576)
  have hO := g4_rng (w / 65536)
  have hC := g4_rng w
  obtain ⟨U, hU⟩ : ∃ U, U = decide (((BitVec.ofInt IntKind.u32.bits (w / 536870912) &&& BitVec.ofInt IntKind.u32.bits 1).toNat : Int) % 4294967296 = 1) := ⟨_, rfl⟩
  obtain ⟨V, hV⟩ : ∃ V, V = decide (((BitVec.ofInt IntKind.u32.bits (w / 268435456) &&& BitVec.ofInt IntKind.u32.bits 1).toNat : Int) % 4294967296 = 1) := ⟨_, rfl⟩
  have ga := get_c w 24 16777216 w0 w1 (by omega)
  have gb := get_c w 20 1048576 w0 w1 (by omega)
  have go := get_c w 16 65536 w0 w1 (by omega)
  obtain ⟨m20, r20, e20⟩ := ext_c w 20 hw' (.inl rfl)
  obtain ⟨m24, r24, e24⟩ := ext_c w 24 hw' (.inr rfl)
  have hc4 : ((BitVec.ofInt IntKind.u32.bits w &&& BitVec.ofInt IntKind.u32.bits 15).toNat : Int) % 4294967296 = g4 w := rfl
  have hc50 : ((@HAnd.hAnd (BitVec 32) (BitVec 32) (BitVec 32) (@instHAndOfAndOp (BitVec IntKind.u32.bits) (@BitVec.instAndOp IntKind.u32.bits)) (BitVec.ofInt 32 (w)) 15#32).toNat : Int) = g4 w := (bvmod (BitVec.ofInt 32 w &&& 15#32)).symm
  have hUp0 : (((@HAnd.hAnd (BitVec 32) (BitVec 32) (BitVec 32) (@instHAndOfAndOp (BitVec IntKind.u32.bits) (@BitVec.instAndOp IntKind.u32.bits)) (BitVec.ofInt 32 (w / 536870912)) 1#32).toNat : Int) = 1) = (U = true) := by
    have e := bvmod (BitVec.ofInt 32 (w / 536870912) &&& 1#32)
    rw [hU]
    exact propext ⟨fun h => decide_eq_true (e.trans h), fun h => e.symm.trans (of_decide_eq_true h)⟩
  have hVp0 : (((@HAnd.hAnd (BitVec 32) (BitVec 32) (BitVec 32) (@instHAndOfAndOp (BitVec IntKind.u32.bits) (@BitVec.instAndOp IntKind.u32.bits)) (BitVec.ofInt 32 (w / 268435456)) 1#32).toNat : Int) = 1) = (V = true) := by
    have e := bvmod (BitVec.ofInt 32 (w / 268435456) &&& 1#32)
    rw [hV]
    exact propext ⟨fun h => decide_eq_true (e.trans h), fun h => e.symm.trans (of_decide_eq_true h)⟩
  have hc51 : ((@HAnd.hAnd (BitVec 32) (BitVec 32) (BitVec 32) (@instHAndOfAndOp (BitVec IntKind.u32.bits) (@BitVec.instAndOp IntKind.u32.bits)) (BitVec.ofInt 32 (w)) (BitVec.ofInt 32 15)).toNat : Int) = g4 w := (bvmod (BitVec.ofInt 32 w &&& 15#32)).symm
  have hUp1 : (((@HAnd.hAnd (BitVec 32) (BitVec 32) (BitVec 32) (@instHAndOfAndOp (BitVec IntKind.u32.bits) (@BitVec.instAndOp IntKind.u32.bits)) (BitVec.ofInt 32 (w / 536870912)) (BitVec.ofInt 32 1)).toNat : Int) = 1) = (U = true) := by
    have e := bvmod (BitVec.ofInt 32 (w / 536870912) &&& 1#32)
    rw [hU]
    exact propext ⟨fun h => decide_eq_true (e.trans h), fun h => e.symm.trans (of_decide_eq_true h)⟩
  have hVp1 : (((@HAnd.hAnd (BitVec 32) (BitVec 32) (BitVec 32) (@instHAndOfAndOp (BitVec IntKind.u32.bits) (@BitVec.instAndOp IntKind.u32.bits)) (BitVec.ofInt 32 (w / 268435456)) (BitVec.ofInt 32 1)).toNat : Int) = 1) = (V = true) := by
    have e := bvmod (BitVec.ofInt 32 (w / 268435456) &&& 1#32)
    rw [hV]
    exact propext ⟨fun h => decide_eq_true (e.trans h), fun h => e.symm.trans (of_decide_eq_true h)⟩
  generalize hga : g4 (w / 16777216) = A at *
  generalize hgb : g4 (w / 1048576) = B at *
  generalize hgo : g4 (w / 65536) = O at *
  generalize hgc : g4 w = C at *
  have h16 : IntKind.u16.wrap w = w % 65536 := by simp [IntKind.wrap, IntKind.bits, IntKind.signed]
  have hm : 0 ≤ w % 65536 ∧ w % 65536 < 65536 := by omega
  obtain ⟨w2, e2, hw2, he2, henc⟩ := enc_c ⟨1, U, V, A, B, 0, O, w % 65536⟩ (.inr (.inl rfl)) (InOk.i ⟨by simp only; omega, by simp only; omega, by simp only; omega, by simp only; omega, by simp only; omega, by simp only; omega⟩)
  by_cases hok : e2 = 0 ∧ w2 = w
  · obtain ⟨h1, h2⟩ := hok
    subst h1
    rw [h2] at henc
    have hgd := he2.elim (fun h => h.2) (fun h => absurd h (by decide))
    refine ⟨⟨1, U, V, A, B, 0, O, w % 65536⟩, 0, ⟨by simp only; omega, by simp only; omega, by simp only; omega, by simp only; omega, by simp only; omega, by simp only; omega⟩, .inl ⟨rfl, hgd, henc⟩, fun H => ?_⟩
    refine ACalls.into Tryz.func33 cc33 rr33 fun hcl => ?_
    simp (maxSteps := 2000000) (disch := omega) only [Tryz.ntmps33, c33, r33, go_sem, seval, eq_self, if_true, if_false, reduceCtorEq]
    refine Cont.mk (ga _) ?_
    simp (maxSteps := 2000000) (disch := omega) only [hUp0, hVp0, hUp1, hVp1, Bool.decide_eq_true, go_sem, seval, eq_self, if_true, if_false, reduceCtorEq]
    first | rw [← hU, ← hV] | skip
    simp (maxSteps := 2000000) (disch := omega) only [hf, hc4, hc50, hc51, h16, go_sem, seval, eq_self, if_true, if_false, reduceCtorEq]
    refine Cont.mk (gb _) ?_
    simp (maxSteps := 2000000) (disch := omega) only [hf, hc4, hc50, hc51, h16, go_sem, seval, eq_self, if_true, if_false, reduceCtorEq]
    refine Cont.mk (go _) ?_
    simp (maxSteps := 2000000) (disch := omega) only [hf, hc4, hc50, hc51, h16, go_sem, seval, eq_self, if_true, if_false, reduceCtorEq]
    refine Cont.mk (henc _) ?_
    simp (maxSteps := 2000000) (disch := omega) only [go_sem, seval, eq_self, if_true, if_false, reduceCtorEq]
    exact Ret.drop _ H (Nat.le_refl _) hcl (.rfl _) (by simp [refs, refs.refsL]) ⟨rfl, rfl⟩
  · refine ⟨inZ, 20, inZ_ok, .inr rfl, fun H => ?_⟩
    refine ACalls.into Tryz.func33 cc33 rr33 fun hcl => ?_
    simp (maxSteps := 2000000) (disch := omega) only [Tryz.ntmps33, c33, r33, go_sem, seval, eq_self, if_true, if_false, reduceCtorEq]
    refine Cont.mk (ga _) ?_
    simp (maxSteps := 2000000) (disch := omega) only [hUp0, hVp0, hUp1, hVp1, Bool.decide_eq_true, go_sem, seval, eq_self, if_true, if_false, reduceCtorEq]
    first | rw [← hU, ← hV] | skip
    simp (maxSteps := 2000000) (disch := omega) only [hf, hc4, hc50, hc51, h16, go_sem, seval, eq_self, if_true, if_false, reduceCtorEq]
    refine Cont.mk (gb _) ?_
    simp (maxSteps := 2000000) (disch := omega) only [hf, hc4, hc50, hc51, h16, go_sem, seval, eq_self, if_true, if_false, reduceCtorEq]
    refine Cont.mk (go _) ?_
    simp (maxSteps := 2000000) (disch := omega) only [hf, hc4, hc50, hc51, h16, go_sem, seval, eq_self, if_true, if_false, reduceCtorEq]
    refine Cont.mk (henc _) ?_
    rcases he2 with ⟨rfl, -⟩ | rfl
    · have hne : ¬ w2 = w := fun h => hok ⟨rfl, h⟩
      simp (maxSteps := 2000000) (disch := omega) only [go_sem, seval, eq_self, if_true, if_false, reduceCtorEq]
      exact Ret.drop _ H (Nat.le_refl _) hcl (.rfl _) (by simp [refs, refs.refsL]) ⟨rfl, rfl⟩
    · simp (maxSteps := 2000000) (disch := omega) only [go_sem, seval, eq_self, if_true, if_false, reduceCtorEq]
      exact Ret.drop _ H (Nat.le_refl _) hcl (.rfl _) (by simp [refs, refs.refsL]) ⟨rfl, rfl⟩
theorem dec_2 (w : Int) (hw : U32 w) (hf : w / 1073741824 = 2) : ∃ x e, DecP w x e := by
  have hw' := hw
  obtain ⟨w0, w1⟩ := hw
  have hA := g4_rng (w / 16777216)
  have hB := g4_rng (w / 1048576)
  have hO := g4_rng (w / 65536)
  have hC := g4_rng w
  obtain ⟨U, hU⟩ : ∃ U, U = decide (((BitVec.ofInt IntKind.u32.bits (w / 536870912) &&& BitVec.ofInt IntKind.u32.bits 1).toNat : Int) % 4294967296 = 1) := ⟨_, rfl⟩
  obtain ⟨V, hV⟩ : ∃ V, V = decide (((BitVec.ofInt IntKind.u32.bits (w / 268435456) &&& BitVec.ofInt IntKind.u32.bits 1).toNat : Int) % 4294967296 = 1) := ⟨_, rfl⟩
  have ga := get_c w 24 16777216 w0 w1 (by omega)
  have gb := get_c w 20 1048576 w0 w1 (by omega)
  have go := get_c w 16 65536 w0 w1 (by omega)
  obtain ⟨m20, r20, e20⟩ := ext_c w 20 hw' (.inl rfl)
  obtain ⟨m24, r24, e24⟩ := ext_c w 24 hw' (.inr rfl)
  have hc4 : ((BitVec.ofInt IntKind.u32.bits w &&& BitVec.ofInt IntKind.u32.bits 15).toNat : Int) % 4294967296 = g4 w := rfl
  have hc50 : ((@HAnd.hAnd (BitVec 32) (BitVec 32) (BitVec 32) (@instHAndOfAndOp (BitVec IntKind.u32.bits) (@BitVec.instAndOp IntKind.u32.bits)) (BitVec.ofInt 32 (w)) 15#32).toNat : Int) = g4 w := (bvmod (BitVec.ofInt 32 w &&& 15#32)).symm
  have hUp0 : (((@HAnd.hAnd (BitVec 32) (BitVec 32) (BitVec 32) (@instHAndOfAndOp (BitVec IntKind.u32.bits) (@BitVec.instAndOp IntKind.u32.bits)) (BitVec.ofInt 32 (w / 536870912)) 1#32).toNat : Int) = 1) = (U = true) := by
    have e := bvmod (BitVec.ofInt 32 (w / 536870912) &&& 1#32)
    rw [hU]
    exact propext ⟨fun h => decide_eq_true (e.trans h), fun h => e.symm.trans (of_decide_eq_true h)⟩
  have hVp0 : (((@HAnd.hAnd (BitVec 32) (BitVec 32) (BitVec 32) (@instHAndOfAndOp (BitVec IntKind.u32.bits) (@BitVec.instAndOp IntKind.u32.bits)) (BitVec.ofInt 32 (w / 268435456)) 1#32).toNat : Int) = 1) = (V = true) := by
    have e := bvmod (BitVec.ofInt 32 (w / 268435456) &&& 1#32)
    rw [hV]
    exact propext ⟨fun h => decide_eq_true (e.trans h), fun h => e.symm.trans (of_decide_eq_true h)⟩
  have hc51 : ((@HAnd.hAnd (BitVec 32) (BitVec 32) (BitVec 32) (@instHAndOfAndOp (BitVec IntKind.u32.bits) (@BitVec.instAndOp IntKind.u32.bits)) (BitVec.ofInt 32 (w)) (BitVec.ofInt 32 15)).toNat : Int) = g4 w := (bvmod (BitVec.ofInt 32 w &&& 15#32)).symm
  have hUp1 : (((@HAnd.hAnd (BitVec 32) (BitVec 32) (BitVec 32) (@instHAndOfAndOp (BitVec IntKind.u32.bits) (@BitVec.instAndOp IntKind.u32.bits)) (BitVec.ofInt 32 (w / 536870912)) (BitVec.ofInt 32 1)).toNat : Int) = 1) = (U = true) := by
    have e := bvmod (BitVec.ofInt 32 (w / 536870912) &&& 1#32)
    rw [hU]
    exact propext ⟨fun h => decide_eq_true (e.trans h), fun h => e.symm.trans (of_decide_eq_true h)⟩
  have hVp1 : (((@HAnd.hAnd (BitVec 32) (BitVec 32) (BitVec 32) (@instHAndOfAndOp (BitVec IntKind.u32.bits) (@BitVec.instAndOp IntKind.u32.bits)) (BitVec.ofInt 32 (w / 268435456)) (BitVec.ofInt 32 1)).toNat : Int) = 1) = (V = true) := by
    have e := bvmod (BitVec.ofInt 32 (w / 268435456) &&& 1#32)
    rw [hV]
    exact propext ⟨fun h => decide_eq_true (e.trans h), fun h => e.symm.trans (of_decide_eq_true h)⟩
  generalize hga : g4 (w / 16777216) = A at *
  generalize hgb : g4 (w / 1048576) = B at *
  generalize hgo : g4 (w / 65536) = O at *
  generalize hgc : g4 w = C at *
  have h16 : IntKind.u16.wrap w = w % 65536 := by simp [IntKind.wrap, IntKind.bits, IntKind.signed]
  have hm : 0 ≤ w % 65536 ∧ w % 65536 < 65536 := by omega
  obtain ⟨w2, e2, hw2, he2, henc⟩ := enc_c ⟨2, U, V, A, B, 0, 0, m20⟩ (.inr (.inr (.inl rfl))) (InOk.i ⟨by simp only; omega, by simp only; omega, by simp only; omega, by simp only; omega, by simp only; omega, by simp only; omega⟩)
  by_cases hok : e2 = 0 ∧ w2 = w
  · obtain ⟨h1, h2⟩ := hok
    subst h1
    rw [h2] at henc
    have hgd := he2.elim (fun h => h.2) (fun h => absurd h (by decide))
    refine ⟨⟨2, U, V, A, B, 0, 0, m20⟩, 0, ⟨by simp only; omega, by simp only; omega, by simp only; omega, by simp only; omega, by simp only; omega, by simp only; omega⟩, .inl ⟨rfl, hgd, henc⟩, fun H => ?_⟩
    refine ACalls.into Tryz.func33 cc33 rr33 fun hcl => ?_
    simp (maxSteps := 2000000) (disch := omega) only [Tryz.ntmps33, c33, r33, go_sem, seval, eq_self, if_true, if_false, reduceCtorEq]
    refine Cont.mk (ga _) ?_
    simp (maxSteps := 2000000) (disch := omega) only [hUp0, hVp0, hUp1, hVp1, Bool.decide_eq_true, go_sem, seval, eq_self, if_true, if_false, reduceCtorEq]
    first | rw [← hU, ← hV] | skip
    simp (maxSteps := 2000000) (disch := omega) only [hf, hc4, hc50, hc51, h16, go_sem, seval, eq_self, if_true, if_false, reduceCtorEq]
    refine Cont.mk (gb _) ?_
    simp (maxSteps := 2000000) (disch := omega) only [hf, hc4, hc50, hc51, h16, go_sem, seval, eq_self, if_true, if_false, reduceCtorEq]
    refine Cont.mk (e20 _) ?_
    simp (maxSteps := 2000000) (disch := omega) only [hf, hc4, hc50, hc51, h16, go_sem, seval, eq_self, if_true, if_false, reduceCtorEq]
    refine Cont.mk (henc _) ?_
    simp (maxSteps := 2000000) (disch := omega) only [go_sem, seval, eq_self, if_true, if_false, reduceCtorEq]
    exact Ret.drop _ H (Nat.le_refl _) hcl (.rfl _) (by simp [refs, refs.refsL]) ⟨rfl, rfl⟩
  · refine ⟨inZ, 20, inZ_ok, .inr rfl, fun H => ?_⟩
    refine ACalls.into Tryz.func33 cc33 rr33 fun hcl => ?_
    simp (maxSteps := 2000000) (disch := omega) only [Tryz.ntmps33, c33, r33, go_sem, seval, eq_self, if_true, if_false, reduceCtorEq]
    refine Cont.mk (ga _) ?_
    simp (maxSteps := 2000000) (disch := omega) only [hUp0, hVp0, hUp1, hVp1, Bool.decide_eq_true, go_sem, seval, eq_self, if_true, if_false, reduceCtorEq]
    first | rw [← hU, ← hV] | skip
    simp (maxSteps := 2000000) (disch := omega) only [hf, hc4, hc50, hc51, h16, go_sem, seval, eq_self, if_true, if_false, reduceCtorEq]
    refine Cont.mk (gb _) ?_
    simp (maxSteps := 2000000) (disch := omega) only [hf, hc4, hc50, hc51, h16, go_sem, seval, eq_self, if_true, if_false, reduceCtorEq]
    refine Cont.mk (e20 _) ?_
    simp (maxSteps := 2000000) (disch := omega) only [hf, hc4, hc50, hc51, h16, go_sem, seval, eq_self, if_true, if_false, reduceCtorEq]
    refine Cont.mk (henc _) ?_
    rcases he2 with ⟨rfl, -⟩ | rfl
    · have hne : ¬ w2 = w := fun h => hok ⟨rfl, h⟩
      simp (maxSteps := 2000000) (disch := omega) only [go_sem, seval, eq_self, if_true, if_false, reduceCtorEq]
      exact Ret.drop _ H (Nat.le_refl _) hcl (.rfl _) (by simp [refs, refs.refsL]) ⟨rfl, rfl⟩
    · simp (maxSteps := 2000000) (disch := omega) only [go_sem, seval, eq_self, if_true, if_false, reduceCtorEq]
      exact Ret.drop _ H (Nat.le_refl _) hcl (.rfl _) (by simp [refs, refs.refsL]) ⟨rfl, rfl⟩
theorem dec_3f (w : Int) (hw : U32 w) (hf : w / 1073741824 = 3) (hu : decide (((BitVec.ofInt IntKind.u32.bits (w / 536870912) &&& BitVec.ofInt IntKind.u32.bits 1).toNat : Int) % 4294967296 = 1) = false) : ∃ x e, DecP w x e := by
  have hw' := hw
  obtain ⟨w0, w1⟩ := hw
  have hA := g4_rng (w / 16777216)
  have hB := g4_rng (w / 1048576)
  have hO := g4_rng (w / 65536)
  have hC := g4_rng w
  obtain ⟨U, hU⟩ : ∃ U, U = decide (((BitVec.ofInt IntKind.u32.bits (w / 536870912) &&& BitVec.ofInt IntKind.u32.bits 1).toNat : Int) % 4294967296 = 1) := ⟨_, rfl⟩
  obtain ⟨V, hV⟩ : ∃ V, V = decide (((BitVec.ofInt IntKind.u32.bits (w / 268435456) &&& BitVec.ofInt IntKind.u32.bits 1).toNat : Int) % 4294967296 = 1) := ⟨_, rfl⟩
  have ga := get_c w 24 16777216 w0 w1 (by omega)
  have gb := get_c w 20 1048576 w0 w1 (by omega)
  have go := get_c w 16 65536 w0 w1 (by omega)
  obtain ⟨m20, r20, e20⟩ := ext_c w 20 hw' (.inl rfl)
  obtain ⟨m24, r24, e24⟩ := ext_c w 24 hw' (.inr rfl)
  have hc4 : ((BitVec.ofInt IntKind.u32.bits w &&& BitVec.ofInt IntKind.u32.bits 15).toNat : Int) % 4294967296 = g4 w := rfl
  have hc50 : ((@HAnd.hAnd (BitVec 32) (BitVec 32) (BitVec 32) (@instHAndOfAndOp (BitVec IntKind.u32.bits) (@BitVec.instAndOp IntKind.u32.bits)) (BitVec.ofInt 32 (w)) 15#32).toNat : Int) = g4 w := (bvmod (BitVec.ofInt 32 w &&& 15#32)).symm
  have hUp0 : (((@HAnd.hAnd (BitVec 32) (BitVec 32) (BitVec 32) (@instHAndOfAndOp (BitVec IntKind.u32.bits) (@BitVec.instAndOp IntKind.u32.bits)) (BitVec.ofInt 32 (w / 536870912)) 1#32).toNat : Int) = 1) = (U = true) := by
    have e := bvmod (BitVec.ofInt 32 (w / 536870912) &&& 1#32)
    rw [hU]
    exact propext ⟨fun h => decide_eq_true (e.trans h), fun h => e.symm.trans (of_decide_eq_true h)⟩
  have hVp0 : (((@HAnd.hAnd (BitVec 32) (BitVec 32) (BitVec 32) (@instHAndOfAndOp (BitVec IntKind.u32.bits) (@BitVec.instAndOp IntKind.u32.bits)) (BitVec.ofInt 32 (w / 268435456)) 1#32).toNat : Int) = 1) = (V = true) := by
    have e := bvmod (BitVec.ofInt 32 (w / 268435456) &&& 1#32)
    rw [hV]
    exact propext ⟨fun h => decide_eq_true (e.trans h), fun h => e.symm.trans (of_decide_eq_true h)⟩
  have hc51 : ((@HAnd.hAnd (BitVec 32) (BitVec 32) (BitVec 32) (@instHAndOfAndOp (BitVec IntKind.u32.bits) (@BitVec.instAndOp IntKind.u32.bits)) (BitVec.ofInt 32 (w)) (BitVec.ofInt 32 15)).toNat : Int) = g4 w := (bvmod (BitVec.ofInt 32 w &&& 15#32)).symm
  have hUp1 : (((@HAnd.hAnd (BitVec 32) (BitVec 32) (BitVec 32) (@instHAndOfAndOp (BitVec IntKind.u32.bits) (@BitVec.instAndOp IntKind.u32.bits)) (BitVec.ofInt 32 (w / 536870912)) (BitVec.ofInt 32 1)).toNat : Int) = 1) = (U = true) := by
    have e := bvmod (BitVec.ofInt 32 (w / 536870912) &&& 1#32)
    rw [hU]
    exact propext ⟨fun h => decide_eq_true (e.trans h), fun h => e.symm.trans (of_decide_eq_true h)⟩
  have hVp1 : (((@HAnd.hAnd (BitVec 32) (BitVec 32) (BitVec 32) (@instHAndOfAndOp (BitVec IntKind.u32.bits) (@BitVec.instAndOp IntKind.u32.bits)) (BitVec.ofInt 32 (w / 268435456)) (BitVec.ofInt 32 1)).toNat : Int) = 1) = (V = true) := by
    have e := bvmod (BitVec.ofInt 32 (w / 268435456) &&& 1#32)
    rw [hV]
    exact propext ⟨fun h => decide_eq_true (e.trans h), fun h => e.symm.trans (of_decide_eq_true h)⟩
  generalize hga : g4 (w / 16777216) = A at *
  generalize hgb : g4 (w / 1048576) = B at *
  generalize hgo : g4 (w / 65536) = O at *
  generalize hgc : g4 w = C at *
  have h16 : IntKind.u16.wrap w = w % 65536 := by simp [IntKind.wrap, IntKind.bits, IntKind.signed]
  have hm : 0 ≤ w % 65536 ∧ w % 65536 < 65536 := by omega
  rw [hu] at hU
  subst hU
  obtain ⟨w2, e2, hw2, he2, henc⟩ := enc_c ⟨3, false, V, A, 0, C, 0, 0⟩ (.inr (.inr (.inr rfl))) (InOk.i ⟨by simp only; omega, by simp only; omega, by simp only; omega, by simp only; omega, by simp only; omega, by simp only; omega⟩)
  by_cases hok : e2 = 0 ∧ w2 = w
  · obtain ⟨h1, h2⟩ := hok
    subst h1
    rw [h2] at henc
    have hgd := he2.elim (fun h => h.2) (fun h => absurd h (by decide))
    refine ⟨⟨3, false, V, A, 0, C, 0, 0⟩, 0, ⟨by simp only; omega, by simp only; omega, by simp only; omega, by simp only; omega, by simp only; omega, by simp only; omega⟩, .inl ⟨rfl, hgd, henc⟩, fun H => ?_⟩
    refine ACalls.into Tryz.func33 cc33 rr33 fun hcl => ?_
    simp (maxSteps := 2000000) (disch := omega) only [Tryz.ntmps33, c33, r33, go_sem, seval, eq_self, if_true, if_false, reduceCtorEq]
    refine Cont.mk (ga _) ?_
    simp (maxSteps := 2000000) (disch := omega) only [hUp0, hVp0, hUp1, hVp1, Bool.decide_eq_true, go_sem, seval, eq_self, if_true, if_false, reduceCtorEq]
    first | rw [hu, ← hV] | skip
    simp (maxSteps := 2000000) (disch := omega) only [hf, hc4, hc50, hc51, h16, go_sem, seval, eq_self, if_true, if_false, reduceCtorEq]
    refine Cont.mk (henc _) ?_
    simp (maxSteps := 2000000) (disch := omega) only [go_sem, seval, eq_self, if_true, if_false, reduceCtorEq]
    exact Ret.drop _ H (Nat.le_refl _) hcl (.rfl _) (by simp [refs, refs.refsL]) ⟨rfl, rfl⟩
  · refine ⟨inZ, 20, inZ_ok, .inr rfl, fun H => ?_⟩
    refine ACalls.into Tryz.func33 cc33 rr33 fun hcl => ?_
    simp (maxSteps := 2000000) (disch := omega) only [Tryz.ntmps33, c33, r33, go_sem, seval, eq_self, if_true, if_false, reduceCtorEq]
    refine Cont.mk (ga _) ?_
    simp (maxSteps := 2000000) (disch := omega) only [hUp0, hVp0, hUp1, hVp1, Bool.decide_eq_true, go_sem, seval, eq_self, if_true, if_false, reduceCtorEq]
    first | rw [hu, ← hV] | skip
    simp (maxSteps := 2000000) (disch := omega) only [hf, hc4, hc50, hc51, h16, go_sem, seval, eq_self, if_true, if_false, reduceCtorEq]
    refine Cont.mk (henc _) ?_
    rcases he2 with ⟨rfl, -⟩ | rfl
    · have hne : ¬ w2 = w := fun h => hok ⟨rfl, h⟩
      simp (maxSteps := 2000000) (disch := omega) only [go_sem, seval, eq_self, if_true, if_false, reduceCtorEq]
      exact Ret.drop _ H (Nat.le_refl _) hcl (.rfl _) (by simp [refs, refs.refsL]) ⟨rfl, rfl⟩
    · simp (maxSteps := 2000000) (disch := omega) only [go_sem, seval, eq_self, if_true, if_false, reduceCtorEq]
      exact Ret.drop _ H (Nat.le_refl _) hcl (.rfl _) (by simp [refs, refs.refsL]) ⟨rfl, rfl⟩
theorem dec_3t (w : Int) (hw : U32 w) (hf : w / 1073741824 = 3) (hu : decide (((BitVec.ofInt IntKind.u32.bits (w / 536870912) &&& BitVec.ofInt IntKind.u32.bits 1).toNat : Int) % 4294967296 = 1) = true) : ∃ x e, DecP w x e := by
  have hw' := hw
  obtain ⟨w0, w1⟩ := hw
  have hA := g4_rng (w / 16777216)
  have hB := g4_rng (w / 1048576)
  have hO := g4_rng (w / 65536)
  have hC := g4_rng w
  obtain ⟨U, hU⟩ : ∃ U, U = decide (((BitVec.ofInt IntKind.u32.bits (w / 536870912) &&& BitVec.ofInt IntKind.u32.bits 1).toNat : Int) % 4294967296 = 1) := ⟨_, rfl⟩
  obtain ⟨V, hV⟩ : ∃ V, V = decide (((BitVec.ofInt IntKind.u32.bits (w / 268435456) &&& BitVec.ofInt IntKind.u32.bits 1).toNat : Int) % 4294967296 = 1) := ⟨_, rfl⟩
  have ga := get_c w 24 16777216 w0 w1 (by omega)
  have gb := get_c w 20 1048576 w0 w1 (by omega)
  have go := get_c w 16 65536 w0 w1 (by omega)
  obtain ⟨m20, r20, e20⟩ := ext_c w 20 hw' (.inl rfl)
  obtain ⟨m24, r24, e24⟩ := ext_c w 24 hw' (.inr rfl)
  have hc4 : ((BitVec.ofInt IntKind.u32.bits w &&& BitVec.ofInt IntKind.u32.bits 15).toNat : Int) % 4294967296 = g4 w := rfl
  have hc50 : ((@HAnd.hAnd (BitVec 32) (BitVec 32) (BitVec 32) (@instHAndOfAndOp (BitVec IntKind.u32.bits) (@BitVec.instAndOp IntKind.u32.bits)) (BitVec.ofInt 32 (w)) 15#32).toNat : Int) = g4 w := (bvmod (BitVec.ofInt 32 w &&& 15#32)).symm
  have hUp0 : (((@HAnd.hAnd (BitVec 32) (BitVec 32) (BitVec 32) (@instHAndOfAndOp (BitVec IntKind.u32.bits) (@BitVec.instAndOp IntKind.u32.bits)) (BitVec.ofInt 32 (w / 536870912)) 1#32).toNat : Int) = 1) = (U = true) := by
    have e := bvmod (BitVec.ofInt 32 (w / 536870912) &&& 1#32)
    rw [hU]
    exact propext ⟨fun h => decide_eq_true (e.trans h), fun h => e.symm.trans (of_decide_eq_true h)⟩
  have hVp0 : (((@HAnd.hAnd (BitVec 32) (BitVec 32) (BitVec 32) (@instHAndOfAndOp (BitVec IntKind.u32.bits) (@BitVec.instAndOp IntKind.u32.bits)) (BitVec.ofInt 32 (w / 268435456)) 1#32).toNat : Int) = 1) = (V = true) := by
    have e := bvmod (BitVec.ofInt 32 (w / 268435456) &&& 1#32)
    rw [hV]
    exact propext ⟨fun h => decide_eq_true (e.trans h), fun h => e.symm.trans (of_decide_eq_true h)⟩
  have hc51 : ((@HAnd.hAnd (BitVec 32) (BitVec 32) (BitVec 32) (@instHAndOfAndOp (BitVec IntKind.u32.bits) (@BitVec.instAndOp IntKind.u32.bits)) (BitVec.ofInt 32 (w)) (BitVec.ofInt 32 15)).toNat : Int) = g4 w := (bvmod (BitVec.ofInt 32 w &&& 15#32)).symm
  have hUp1 : (((@HAnd.hAnd (BitVec 32) (BitVec 32) (BitVec 32) (@instHAndOfAndOp (BitVec IntKind.u32.bits) (@BitVec.instAndOp IntKind.u32.bits)) (BitVec.ofInt 32 (w / 536870912)) (BitVec.ofInt 32 1)).toNat : Int) = 1) = (U = true) := by
    have e := bvmod (BitVec.ofInt 32 (w / 536870912) &&& 1#32)
    rw [hU]
    exact propext ⟨fun h => decide_eq_true (e.trans h), fun h => e.symm.trans (of_decide_eq_true h)⟩
  have hVp1 : (((@HAnd.hAnd (BitVec 32) (BitVec 32) (BitVec 32) (@instHAndOfAndOp (BitVec IntKind.u32.bits) (@BitVec.instAndOp IntKind.u32.bits)) (BitVec.ofInt 32 (w / 268435456)) (BitVec.ofInt 32 1)).toNat : Int) = 1) = (V = true) := by
    have e := bvmod (BitVec.ofInt 32 (w / 268435456) &&& 1#32)
    rw [hV]
    exact propext ⟨fun h => decide_eq_true (e.trans h), fun h => e.symm.trans (of_decide_eq_true h)⟩
  generalize hga : g4 (w / 16777216) = A at *
  generalize hgb : g4 (w / 1048576) = B at *
  generalize hgo : g4 (w / 65536) = O at *
  generalize hgc : g4 w = C at *
  have h16 : IntKind.u16.wrap w = w % 65536 := by simp [IntKind.wrap, IntKind.bits, IntKind.signed]
  have hm : 0 ≤ w % 65536 ∧ w % 65536 < 65536 := by omega
  rw [hu] at hU
  subst hU
  obtain ⟨w2, e2, hw2, he2, henc⟩ := enc_c ⟨3, true, V, A, 0, 0, 0, m24⟩ (.inr (.inr (.inr rfl))) (InOk.i ⟨by simp only; omega, by simp only; omega, by simp only; omega, by simp only; omega, by simp only; omega, by simp only; omega⟩)
  by_cases hok : e2 = 0 ∧ w2 = w
  · obtain ⟨h1, h2⟩ := hok
    subst h1
    rw [h2] at henc
    have hgd := he2.elim (fun h => h.2) (fun h => absurd h (by decide))
    refine ⟨⟨3, true, V, A, 0, 0, 0, m24⟩, 0, ⟨by simp only; omega, by simp only; omega, by simp only; omega, by simp only; omega, by simp only; omega, by simp only; omega⟩, .inl ⟨rfl, hgd, henc⟩, fun H => ?_⟩
    refine ACalls.into Tryz.func33 cc33 rr33 fun hcl => ?_
    simp (maxSteps := 2000000) (disch := omega) only [Tryz.ntmps33, c33, r33, go_sem, seval, eq_self, if_true, if_false, reduceCtorEq]
    refine Cont.mk (ga _) ?_
    simp (maxSteps := 2000000) (disch := omega) only [hUp0, hVp0, hUp1, hVp1, Bool.decide_eq_true, go_sem, seval, eq_self, if_true, if_false, reduceCtorEq]
    first | rw [hu, ← hV] | skip
    simp (maxSteps := 2000000) (disch := omega) only [hf, hc4, hc50, hc51, h16, go_sem, seval, eq_self, if_true, if_false, reduceCtorEq]
    refine Cont.mk (e24 _) ?_
    simp (maxSteps := 2000000) (disch := omega) only [hf, hc4, hc50, hc51, h16, go_sem, seval, eq_self, if_true, if_false, reduceCtorEq]
    refine Cont.mk (henc _) ?_
    simp (maxSteps := 2000000) (disch := omega) only [go_sem, seval, eq_self, if_true, if_false, reduceCtorEq]
    exact Ret.drop _ H (Nat.le_refl _) hcl (.rfl _) (by simp [refs, refs.refsL]) ⟨rfl, rfl⟩
  · refine ⟨inZ, 20, inZ_ok, .inr rfl, fun H => ?_⟩
    refine ACalls.into Tryz.func33 cc33 rr33 fun hcl => ?_
    simp (maxSteps := 2000000) (disch := omega) only [Tryz.ntmps33, c33, r33, go_sem, seval, eq_self, if_true, if_false, reduceCtorEq]
    refine Cont.mk (ga _) ?_
    simp (maxSteps := 2000000) (disch := omega) only [hUp0, hVp0, hUp1, hVp1, Bool.decide_eq_true, go_sem, seval, eq_self, if_true, if_false, reduceCtorEq]
    first | rw [hu, ← hV] | skip
    simp (maxSteps := 2000000) (disch := omega) only [hf, hc4, hc50, hc51, h16, go_sem, seval, eq_self, if_true, if_false, reduceCtorEq]
    refine Cont.mk (e24 _) ?_
    simp (maxSteps := 2000000) (disch := omega) only [hf, hc4, hc50, hc51, h16, go_sem, seval, eq_self, if_true, if_false, reduceCtorEq]
    refine Cont.mk (henc _) ?_
    rcases he2 with ⟨rfl, -⟩ | rfl
    · have hne : ¬ w2 = w := fun h => hok ⟨rfl, h⟩
      simp (maxSteps := 2000000) (disch := omega) only [go_sem, seval, eq_self, if_true, if_false, reduceCtorEq]
      exact Ret.drop _ H (Nat.le_refl _) hcl (.rfl _) (by simp [refs, refs.refsL]) ⟨rfl, rfl⟩
    · simp (maxSteps := 2000000) (disch := omega) only [go_sem, seval, eq_self, if_true, if_false, reduceCtorEq]
      exact Ret.drop _ H (Nat.le_refl _) hcl (.rfl _) (by simp [refs, refs.refsL]) ⟨rfl, rfl⟩
theorem dec_ex (w : Int) (hw : U32 w) : ∃ x e, DecP w x e := by
  have hf : w / 1073741824 = 0 ∨ w / 1073741824 = 1 ∨ w / 1073741824 = 2 ∨ w / 1073741824 = 3 := by omega
  rcases hf with hf | hf | hf | hf
  · exact dec_0 w hw hf
  · exact dec_1 w hw hf
  · exact dec_2 w hw hf
  · cases hu : decide (((BitVec.ofInt IntKind.u32.bits (w / 536870912) &&& BitVec.ofInt IntKind.u32.bits 1).toNat : Int) % 4294967296 = 1)
    · exact dec_3f w hw hf hu
    · exact dec_3t w hw hf hu
end Go.Proofs.YtmgmoamcbnkbfaaGreatDoor
