/- alu.Do, alu.Holds, cpu.packed. -/
import Derived.Test.YtmgmoamcbnkbfaaGreatDoorYA2
import Derived.Test.YtmgmoamcbnkbfaaGreatDoorYA1
set_option linter.unusedVariables false
set_option linter.unusedSimpArgs false
set_option linter.unusedSectionVars false
namespace Go.Proofs.YtmgmoamcbnkbfaaGreatDoor
set_option linter.unusedSimpArgs false
set_option linter.unusedVariables false
set_option maxRecDepth 20000
set_option maxHeartbeats 1000000
open Go.RowKit

def DoP (op : Int) (u : Bool) (b n h : Int) (f : Fl) (r h2 : Int) (f2 : Fl) (ok : Bool) : Prop := U32 r ∧ U32 h2 ∧ ∀ H, ACalls Tryz.prog 72 [iv op, bv u, wv b, wv n, wv h, f.av] H fun v H' => v = .tup [wv r, wv h2, f2.av, bv ok] ∧ H' = H
theorem do_ex (op : Int) (u : Bool) (b n h : Int) (f : Fl) (hb : U32 b) (hn : U32 n) (hh : U32 h) : ∃ r h2 f2 ok, DoP op u b n h f r h2 f2 ok := by
  obtain ⟨fn, fz, fc, fv⟩ := f
  by_cases h0 : op < 0 ∨ 11 < op ∨ (u = true ∧ op ≠ 0 ∧ (op < 8 ∨ 10 < op))
  · refine ⟨0, 0, ⟨false, false, false, false⟩, false, by decide, by decide, fun H => ?_⟩
    refine ACalls.into Tryz.func72 cc72 rr72 fun hcl => ?_
    by_cases h1 : op < 0
    · simp (maxSteps := 2000000) (disch := omega) only [Tryz.ntmps72, c72, r72, go_sem, seval, eq_self, if_true, if_false, reduceCtorEq]
      exact Ret.drop _ H (Nat.le_refl _) hcl (.rfl _) (by simp [refs, refs.refsL]) ⟨rfl, rfl⟩
    by_cases h2 : 11 < op
    · simp (maxSteps := 2000000) (disch := omega) only [Tryz.ntmps72, c72, r72, go_sem, seval, eq_self, if_true, if_false, reduceCtorEq]
      exact Ret.drop _ H (Nat.le_refl _) hcl (.rfl _) (by simp [refs, refs.refsL]) ⟨rfl, rfl⟩
    obtain ⟨rfl, h3, h4⟩ : u = true ∧ op ≠ 0 ∧ (op < 8 ∨ 10 < op) := by
      rcases h0 with h | h | h
      · exact absurd h h1
      · exact absurd h h2
      · exact h
    by_cases h5 : op < 8
    · simp (maxSteps := 2000000) (disch := omega) only [Tryz.ntmps72, c72, r72, go_sem, seval, eq_self, if_true, if_false, reduceCtorEq]
      exact Ret.drop _ H (Nat.le_refl _) hcl (.rfl _) (by simp [refs, refs.refsL]) ⟨rfl, rfl⟩
    · have : 10 < op := by omega
      simp (maxSteps := 2000000) (disch := omega) only [Tryz.ntmps72, c72, r72, go_sem, seval, eq_self, if_true, if_false, reduceCtorEq]
      exact Ret.drop _ H (Nat.le_refl _) hcl (.rfl _) (by simp [refs, refs.refsL]) ⟨rfl, rfl⟩
  have hop : op = 0 ∨ op = 1 ∨ op = 2 ∨ op = 3 ∨ op = 4 ∨ op = 5 ∨ op = 6 ∨ op = 7 ∨ op = 8 ∨ op = 9 ∨ op = 10 ∨ op = 11 := by omega
  have pack : ∀ {op u}, (∃ r h2 n2 z2 c2 v2 ok, U32 r ∧ U32 h2 ∧ ∀ H, ACalls Tryz.prog 72 [iv op, bv u, wv b, wv n, wv h, .agg [bv fn, bv fz, bv fc, bv fv]] H fun v H' => v = .tup [wv r, wv h2, .agg [bv n2, bv z2, bv c2, bv v2], bv ok] ∧ H' = H) →
      ∃ r h2 f2 ok, DoP op u b n h ⟨fn, fz, fc, fv⟩ r h2 f2 ok := fun ⟨r, h2, n2, z2, c2, v2, ok, k1, k2, k3⟩ => ⟨r, h2, ⟨n2, z2, c2, v2⟩, ok, k1, k2, k3⟩
  have hu : op ≠ 0 → op < 8 ∨ 10 < op → u = false := fun k1 k2 => by
    cases u
    · rfl
    · exact absurd (.inr (.inr ⟨rfl, k1, k2⟩)) h0
  rcases hop with rfl | rfl | rfl | rfl | rfl | rfl | rfl | rfl | rfl | rfl | rfl | rfl
  · exact pack (do_0 u b n h fn fz fc fv hb hn hh)
  · rw [hu (by decide) (by decide)]; exact pack (do_1 b n h fn fz fc fv hb hn hh)
  · rw [hu (by decide) (by decide)]; exact pack (do_2 b n h fn fz fc fv hb hn hh)
  · rw [hu (by decide) (by decide)]; exact pack (do_3 b n h fn fz fc fv hb hn hh)
  · rw [hu (by decide) (by decide)]; exact pack (do_4 b n h fn fz fc fv hb hn hh)
  · rw [hu (by decide) (by decide)]; exact pack (do_5 b n h fn fz fc fv hb hn hh)
  · rw [hu (by decide) (by decide)]; exact pack (do_6 b n h fn fz fc fv hb hn hh)
  · rw [hu (by decide) (by decide)]; exact pack (do_7 b n h fn fz fc fv hb hn hh)
  · exact pack (do_8 u b n h fn fz fc fv hb hn hh)
  · exact pack (do_9 u b n h fn fz fc fv hb hn hh)
  · exact pack (do_10 u b n h fn fz fc fv hb hn hh)
  · rw [hu (by decide) (by decide)]; exact pack (do_11 b n h fn fz fc fv hb hn hh)
end Go.Proofs.YtmgmoamcbnkbfaaGreatDoor

/- alu.Holds, bits.Put, cpu.packed, bits.Signed. -/
namespace Go.Proofs.YtmgmoamcbnkbfaaGreatDoor
set_option linter.unusedSimpArgs false
set_option linter.unusedVariables false
set_option maxRecDepth 20000
set_option maxHeartbeats 1000000
open Go.RowKit

theorem holds_c (k : Int) (n z c v : Bool) (H : List ABlk) : ACalls Tryz.prog 70 [iv k, .agg [bv n, bv z, bv c, bv v]] H fun w H' => (∃ b, w = bv b) ∧ H' = H := by
  refine ACalls.into Tryz.func70 cc70 rr70 fun hcl => ?_
  by_cases h0 : k < 0
  · simp (maxSteps := 2000000) (disch := omega) only [Tryz.ntmps70, c70, r70, go_sem, seval, eq_self, if_true, if_false, reduceCtorEq]
    exact Ret.drop _ H (Nat.le_refl _) hcl (.rfl _) (by simp [refs]) ⟨⟨_, rfl⟩, rfl⟩
  by_cases h1 : 15 < k
  · simp (maxSteps := 2000000) (disch := omega) only [Tryz.ntmps70, c70, r70, go_sem, seval, eq_self, if_true, if_false, reduceCtorEq]
    exact Ret.drop _ H (Nat.le_refl _) hcl (.rfl _) (by simp [refs]) ⟨⟨_, rfl⟩, rfl⟩
  have hm : k.tmod 8 = 0 ∨ k.tmod 8 = 1 ∨ k.tmod 8 = 2 ∨ k.tmod 8 = 3 ∨ k.tmod 8 = 4 ∨ k.tmod 8 = 5 ∨ k.tmod 8 = 6 ∨ k.tmod 8 = 7 := by
    rw [Int.tmod_eq_emod_of_nonneg (by omega)]; omega
  have he : k.tmod 8 = k % 8 := Int.tmod_eq_emod_of_nonneg (by omega)
  rcases hm with h | h | h | h | h | h | h | h
  all_goals (
    rw [he] at h
    try cases c <;> (
      try cases n <;> cases v <;> (
        simp (maxSteps := 2000000) (disch := omega) only [Tryz.ntmps70, c70, r70, h, go_sem, seval, eq_self, if_true, if_false, reduceCtorEq]
        exact Ret.drop _ H (Nat.le_refl _) hcl (.rfl _) (by simp [refs]) ⟨⟨_, rfl⟩, rfl⟩)))
theorem put1_c (x lo : Int) (hx : U32 x) (h0 : 28 ≤ lo) (h1 : lo ≤ 31) (H : List ABlk) : ACalls Tryz.prog 107 [wv x, iv lo, iv 1, wv 1] H fun v H' => (∃ r, U32 r ∧ v = wv r) ∧ H' = H := by
  obtain ⟨x0, x1⟩ := hx
  refine ACalls.into Tryz.func107 cc107 rr107 fun hcl => ?_
  simp (maxSteps := 2000000) (disch := omega) only [Tryz.ntmps107, c107, r107, go_sem, seval, eq_self, if_true, if_false, reduceCtorEq]
  refine Cont.mk (inside_c _ _ (by omega) (by decide) (by omega) _) ?_
  simp (maxSteps := 2000000) (disch := omega) only [go_sem, seval, eq_self, if_true, if_false, reduceCtorEq]
  refine Cont.mk (mask1_c _) ?_
  simp (maxSteps := 2000000) (disch := omega) only [go_sem, seval, eq_self, if_true, if_false, reduceCtorEq]
  exact Ret.keep ⟨⟨_, by first | exact u32_mod _ | exact u32_bv _, rfl⟩, rfl⟩
theorem signed_c (x : Int) (hx : U32 x) (H : List ABlk) : ACalls Tryz.prog 104 [wv x] H fun w H' => (∃ r, w = iv r) ∧ H' = H := by
  obtain ⟨x0, x1⟩ := hx
  refine ACalls.into Tryz.func104 cc104 rr104 fun hcl => ?_
  simp (maxSteps := 2000000) (disch := omega) only [Tryz.ntmps104, c104, r104, go_sem, seval, eq_self, if_true, if_false, reduceCtorEq]
  exact Ret.keep ⟨⟨_, rfl⟩, rfl⟩
end Go.Proofs.YtmgmoamcbnkbfaaGreatDoor

/- cpu.packed. -/
namespace Go.Proofs.YtmgmoamcbnkbfaaGreatDoor
set_option linter.unusedSimpArgs false
set_option linter.unusedVariables false
set_option maxRecDepth 20000
set_option maxHeartbeats 1000000
open Go.RowKit

theorem put1_f (x lo : Int) (hx : U32 x) (h0 : 28 ≤ lo) (h1 : lo ≤ 31) : ∃ r, U32 r ∧ ∀ H, ACalls Tryz.prog 107 [wv x, iv lo, iv 1, wv 1] H fun v H' => v = wv r ∧ H' = H := by
  obtain ⟨x0, x1⟩ := hx
  apply Exists.intro
  refine ⟨?_, fun H => ?_⟩
  rotate_left
  · refine ACalls.into Tryz.func107 cc107 rr107 fun hcl => ?_
    simp (maxSteps := 2000000) (disch := omega) only [Tryz.ntmps107, c107, r107, go_sem, seval, eq_self, if_true, if_false, reduceCtorEq]
    refine Cont.mk (inside_c _ _ (by omega) (by decide) (by omega) _) ?_
    simp (maxSteps := 2000000) (disch := omega) only [go_sem, seval, eq_self, if_true, if_false, reduceCtorEq]
    refine Cont.mk (mask1_c _) ?_
    simp (maxSteps := 2000000) (disch := omega) only [go_sem, seval, eq_self, if_true, if_false, reduceCtorEq]
    exact Ret.keep ⟨rfl, rfl⟩
  · first | exact u32_mod _ | exact u32_bv _
theorem putB (b : Bool) (x lo : Int) (hx : U32 x) (h0 : 28 ≤ lo) (h1 : lo ≤ 31) : ∃ r, U32 r ∧ (b = false → r = x) ∧ (b = true → ∀ H, ACalls Tryz.prog 107 [wv x, iv lo, iv 1, wv 1] H fun v H' => v = wv r ∧ H' = H) := by
  cases b
  · exact ⟨x, hx, fun _ => rfl, fun h => by cases h⟩
  · obtain ⟨r, h1, h2⟩ := put1_f x lo hx h0 h1
    exact ⟨r, h1, (fun h => by cases h), fun _ => h2⟩
theorem packed_f (n z c v : Bool) : ∃ r, U32 r ∧ ∀ H, ACalls Tryz.prog 71 [.agg [bv n, bv z, bv c, bv v]] H fun w H' => w = wv r ∧ H' = H := by
  obtain ⟨r1, u1, f1, t1⟩ := putB v 0 28 (by decide) (by decide) (by decide)
  obtain ⟨r2, u2, f2, t2⟩ := putB c r1 29 u1 (by decide) (by decide)
  obtain ⟨r3, u3, f3, t3⟩ := putB z r2 30 u2 (by decide) (by decide)
  obtain ⟨r4, u4, f4, t4⟩ := putB n r3 31 u3 (by decide) (by decide)
  refine ⟨r4, u4, fun H => ?_⟩
  refine ACalls.into Tryz.func71 cc71 rr71 fun hcl => ?_
  simp (maxSteps := 2000000) (disch := omega) only [Tryz.ntmps71, c71, r71, go_sem, seval, eq_self, if_true, if_false, reduceCtorEq]
  obtain ⟨R, hR⟩ : ∃ R : Nat → Int, R 0 = 0 ∧ R 1 = r1 ∧ R 2 = r2 ∧ R 3 = r3 ∧ R 4 = r4 := ⟨fun i => match i with | 0 => 0 | 1 => r1 | 2 => r2 | 3 => r3 | _ => r4, rfl, rfl, rfl, rfl, rfl⟩
  obtain ⟨e0, e1, e2, e3, e4⟩ := hR
  refine W.loopG (γ := Nat) (fun i => 4 - i) (fun i => [.any, .any, .any, wv (R i)] ++ List.replicate 10 .any ++ [.agg [bv v, bv c, bv z, bv n], iv i] ++ List.replicate 10 .any) (fun _ => H ++ [.cells [bv n, bv z, bv c, bv v]]) (fun i => i ≤ 4) 0 (by rw [e0]; exact Wk.slots (by (try simp only [List.replicate, List.cons_append, List.nil_append]); repeat' first | exact WkL.nil | refine WkL.cons (Wk1.rfl _) ?_ | refine WkL.cons Wk1.esl ?_ | refine WkL.cons (Wk1.gsl _ _ _) ?_ | refine WkL.cons (Wk1.any _) ?_)) (by decide) (fun i q1 => ?_)
  have hi : i = 0 ∨ i = 1 ∨ i = 2 ∨ i = 3 ∨ i = 4 := by omega
  rcases hi with rfl | rfl | rfl | rfl | rfl
  · rw [e0]
    cases v
    · have q := f1 rfl
      simp (maxSteps := 2000000) (disch := omega) only [c71l0, go_sem, seval, eq_self, if_true, if_false, reduceCtorEq]
      exact Nxt.mk 1 (by omega) (by rw [e1, q]; exact Wk.slots (by (try simp only [List.replicate, List.cons_append, List.nil_append]); repeat' first | exact WkL.nil | refine WkL.cons (Wk1.rfl _) ?_ | refine WkL.cons Wk1.esl ?_ | refine WkL.cons (Wk1.gsl _ _ _) ?_ | refine WkL.cons (Wk1.any _) ?_)) (by omega)
    · have q := t1 rfl
      simp (maxSteps := 2000000) (disch := omega) only [c71l0, go_sem, seval, eq_self, if_true, if_false, reduceCtorEq]
      refine Cont.mk (q _) ?_
      simp (maxSteps := 2000000) (disch := omega) only [go_sem, seval, eq_self, if_true, if_false, reduceCtorEq]
      exact Nxt.mk 1 (by omega) (by rw [e1]; exact Wk.slots (by (try simp only [List.replicate, List.cons_append, List.nil_append]); repeat' first | exact WkL.nil | refine WkL.cons (Wk1.rfl _) ?_ | refine WkL.cons Wk1.esl ?_ | refine WkL.cons (Wk1.gsl _ _ _) ?_ | refine WkL.cons (Wk1.any _) ?_)) (by omega)
  · rw [e1]
    cases c
    · have q := f2 rfl
      simp (maxSteps := 2000000) (disch := omega) only [c71l0, go_sem, seval, eq_self, if_true, if_false, reduceCtorEq]
      exact Nxt.mk 2 (by omega) (by rw [e2, q]; exact Wk.slots (by (try simp only [List.replicate, List.cons_append, List.nil_append]); repeat' first | exact WkL.nil | refine WkL.cons (Wk1.rfl _) ?_ | refine WkL.cons Wk1.esl ?_ | refine WkL.cons (Wk1.gsl _ _ _) ?_ | refine WkL.cons (Wk1.any _) ?_)) (by omega)
    · have q := t2 rfl
      simp (maxSteps := 2000000) (disch := omega) only [c71l0, go_sem, seval, eq_self, if_true, if_false, reduceCtorEq]
      refine Cont.mk (q _) ?_
      simp (maxSteps := 2000000) (disch := omega) only [go_sem, seval, eq_self, if_true, if_false, reduceCtorEq]
      exact Nxt.mk 2 (by omega) (by rw [e2]; exact Wk.slots (by (try simp only [List.replicate, List.cons_append, List.nil_append]); repeat' first | exact WkL.nil | refine WkL.cons (Wk1.rfl _) ?_ | refine WkL.cons Wk1.esl ?_ | refine WkL.cons (Wk1.gsl _ _ _) ?_ | refine WkL.cons (Wk1.any _) ?_)) (by omega)
  · rw [e2]
    cases z
    · have q := f3 rfl
      simp (maxSteps := 2000000) (disch := omega) only [c71l0, go_sem, seval, eq_self, if_true, if_false, reduceCtorEq]
      exact Nxt.mk 3 (by omega) (by rw [e3, q]; exact Wk.slots (by (try simp only [List.replicate, List.cons_append, List.nil_append]); repeat' first | exact WkL.nil | refine WkL.cons (Wk1.rfl _) ?_ | refine WkL.cons Wk1.esl ?_ | refine WkL.cons (Wk1.gsl _ _ _) ?_ | refine WkL.cons (Wk1.any _) ?_)) (by omega)
    · have q := t3 rfl
      simp (maxSteps := 2000000) (disch := omega) only [c71l0, go_sem, seval, eq_self, if_true, if_false, reduceCtorEq]
      refine Cont.mk (q _) ?_
      simp (maxSteps := 2000000) (disch := omega) only [go_sem, seval, eq_self, if_true, if_false, reduceCtorEq]
      exact Nxt.mk 3 (by omega) (by rw [e3]; exact Wk.slots (by (try simp only [List.replicate, List.cons_append, List.nil_append]); repeat' first | exact WkL.nil | refine WkL.cons (Wk1.rfl _) ?_ | refine WkL.cons Wk1.esl ?_ | refine WkL.cons (Wk1.gsl _ _ _) ?_ | refine WkL.cons (Wk1.any _) ?_)) (by omega)
  · rw [e3]
    cases n
    · have q := f4 rfl
      simp (maxSteps := 2000000) (disch := omega) only [c71l0, go_sem, seval, eq_self, if_true, if_false, reduceCtorEq]
      exact Nxt.mk 4 (by omega) (by rw [e4, q]; exact Wk.slots (by (try simp only [List.replicate, List.cons_append, List.nil_append]); repeat' first | exact WkL.nil | refine WkL.cons (Wk1.rfl _) ?_ | refine WkL.cons Wk1.esl ?_ | refine WkL.cons (Wk1.gsl _ _ _) ?_ | refine WkL.cons (Wk1.any _) ?_)) (by omega)
    · have q := t4 rfl
      simp (maxSteps := 2000000) (disch := omega) only [c71l0, go_sem, seval, eq_self, if_true, if_false, reduceCtorEq]
      refine Cont.mk (q _) ?_
      simp (maxSteps := 2000000) (disch := omega) only [go_sem, seval, eq_self, if_true, if_false, reduceCtorEq]
      exact Nxt.mk 4 (by omega) (by rw [e4]; exact Wk.slots (by (try simp only [List.replicate, List.cons_append, List.nil_append]); repeat' first | exact WkL.nil | refine WkL.cons (Wk1.rfl _) ?_ | refine WkL.cons Wk1.esl ?_ | refine WkL.cons (Wk1.gsl _ _ _) ?_ | refine WkL.cons (Wk1.any _) ?_)) (by omega)
  · rw [e4]
    simp (maxSteps := 2000000) (disch := omega) only [c71l0, go_sem, seval, eq_self, if_true, if_false, reduceCtorEq]
    exact Ret.drop _ H (Nat.le_refl _) hcl (.rfl _) (by simp [refs]) ⟨rfl, rfl⟩
end Go.Proofs.YtmgmoamcbnkbfaaGreatDoor
