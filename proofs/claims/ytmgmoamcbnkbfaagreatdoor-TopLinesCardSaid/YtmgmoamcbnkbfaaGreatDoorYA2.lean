/- alu.Do, alu.Holds, cpu.packed. -/
import Derived.Test.YtmgmoamcbnkbfaaGreatDoorYA1
set_option linter.unusedVariables false
set_option linter.unusedSimpArgs false
set_option linter.unusedSectionVars false
namespace Go.Proofs.YtmgmoamcbnkbfaaGreatDoor
set_option linter.unusedSimpArgs false
set_option linter.unusedVariables false
set_option maxRecDepth 20000
set_option maxHeartbeats 1000000
open Go.RowKit

/-- The flags. -/
structure Fl where
  n : Bool
  z : Bool
  c : Bool
  v : Bool
abbrev Fl.cs (f : Fl) : List AV := [bv f.n, bv f.z, bv f.c, bv f.v]
abbrev Fl.av (f : Fl) : AV := .agg f.cs
noncomputable def overF (n : Int) : Bool := (over_c n).choose
theorem over2 (n : Int) (H : List ABlk) : ACalls Tryz.prog 111 [iv n] H fun v H' => v = bv (overF n) ∧ H' = H := (over_c n).choose_spec H
theorem do_1 (b n h : Int) (fn fz fc fv : Bool) (hb : U32 b) (hn : U32 n) (hh : U32 h) : ∃ r h2 n2 z2 c2 v2 ok, U32 r ∧ U32 h2 ∧ ∀ H, ACalls Tryz.prog 72 [iv 1, bv false, wv b, wv n, wv h, .agg [bv fn, bv fz, bv fc, bv fv]] H fun v H' => v = .tup [wv r, wv h2, .agg [bv n2, bv z2, bv c2, bv v2], bv ok] ∧ H' = H := by
  obtain ⟨r0, hr0, c0⟩ := lsl_c b n hb hn
  have hb2 := hb
  have hn2 := hn
  have hh2 := hh
  obtain ⟨b0, b1⟩ := hb
  obtain ⟨n0, n1⟩ := hn
  obtain ⟨h00, h01⟩ := hh
  iterate 7 (apply Exists.intro)
  refine ⟨?_, ?_, fun H => ?_⟩
  rotate_left 2
  · refine ACalls.into Tryz.func72 cc72 rr72 fun hcl => ?_
    simp (maxSteps := 2000000) (disch := omega) only [Tryz.ntmps72, c72, r72, go_sem, seval, eq_self, if_true, if_false, reduceCtorEq]
    refine Cont.mk (c0 _) ?_
    simp (maxSteps := 2000000) (disch := omega) only [go_sem, seval, eq_self, if_true, if_false, reduceCtorEq]
    refine W.dregD [([], []), ([], []), ([], []), ([], []), ([], []), ([H.length + 1], []), ([], [])] follows (by decide +kernel) rfl rfl (fun z hz b' hb' => ?_) ?_
    · simp only [List.mem_cons, List.not_mem_nil, or_false] at hz
      rcases hz with rfl | rfl | rfl | rfl | rfl | rfl | rfl <;> simp at hb' <;> subst hb' <;> exact ⟨by simp, by simp⟩
    repeat (rw [DC_p]; simp (maxSteps := 2000000) (disch := omega) only [kill_c, go_sem, seval, eq_self, if_true, if_false, reduceCtorEq])
    refine WStep.ev (by simp) (by simp) ?_
    simp (maxSteps := 2000000) (disch := omega) only [go_sem, seval, eq_self, if_true, if_false, reduceCtorEq]
    refine ⟨FrOk.put 1 _ (by simp) rfl, ?_⟩
    repeat (rw [DC_p]; simp (maxSteps := 2000000) (disch := omega) only [kill_c, go_sem, seval, eq_self, if_true, if_false, reduceCtorEq])
    try simp (maxSteps := 2000000) (disch := omega) only [go_sem, seval, eq_self, if_true, if_false, reduceCtorEq]
    exact Ret.drop _ H (Nat.le_refl _) hcl (.rfl _) (by simp [refs, refs.refsL]) ⟨rfl, rfl⟩
  · first | assumption | exact u32_mod _ | exact u32_wrap _ | exact u32_bv _ | exact ⟨by omega, by omega⟩
  · first | assumption | exact u32_mod _ | exact u32_wrap _ | exact u32_bv _ | exact ⟨by omega, by omega⟩
theorem do_2 (b n h : Int) (fn fz fc fv : Bool) (hb : U32 b) (hn : U32 n) (hh : U32 h) : ∃ r h2 n2 z2 c2 v2 ok, U32 r ∧ U32 h2 ∧ ∀ H, ACalls Tryz.prog 72 [iv 2, bv false, wv b, wv n, wv h, .agg [bv fn, bv fz, bv fc, bv fv]] H fun v H' => v = .tup [wv r, wv h2, .agg [bv n2, bv z2, bv c2, bv v2], bv ok] ∧ H' = H := by
  obtain ⟨r0, hr0, c0⟩ := asr_c b n hb hn
  have hb2 := hb
  have hn2 := hn
  have hh2 := hh
  obtain ⟨b0, b1⟩ := hb
  obtain ⟨n0, n1⟩ := hn
  obtain ⟨h00, h01⟩ := hh
  iterate 7 (apply Exists.intro)
  refine ⟨?_, ?_, fun H => ?_⟩
  rotate_left 2
  · refine ACalls.into Tryz.func72 cc72 rr72 fun hcl => ?_
    simp (maxSteps := 2000000) (disch := omega) only [Tryz.ntmps72, c72, r72, go_sem, seval, eq_self, if_true, if_false, reduceCtorEq]
    refine Cont.mk (c0 _) ?_
    simp (maxSteps := 2000000) (disch := omega) only [go_sem, seval, eq_self, if_true, if_false, reduceCtorEq]
    refine W.dregD [([], []), ([], []), ([], []), ([], []), ([], []), ([H.length + 1], []), ([], [])] follows (by decide +kernel) rfl rfl (fun z hz b' hb' => ?_) ?_
    · simp only [List.mem_cons, List.not_mem_nil, or_false] at hz
      rcases hz with rfl | rfl | rfl | rfl | rfl | rfl | rfl <;> simp at hb' <;> subst hb' <;> exact ⟨by simp, by simp⟩
    repeat (rw [DC_p]; simp (maxSteps := 2000000) (disch := omega) only [kill_c, go_sem, seval, eq_self, if_true, if_false, reduceCtorEq])
    refine WStep.ev (by simp) (by simp) ?_
    simp (maxSteps := 2000000) (disch := omega) only [go_sem, seval, eq_self, if_true, if_false, reduceCtorEq]
    refine ⟨FrOk.put 1 _ (by simp) rfl, ?_⟩
    repeat (rw [DC_p]; simp (maxSteps := 2000000) (disch := omega) only [kill_c, go_sem, seval, eq_self, if_true, if_false, reduceCtorEq])
    try simp (maxSteps := 2000000) (disch := omega) only [go_sem, seval, eq_self, if_true, if_false, reduceCtorEq]
    exact Ret.drop _ H (Nat.le_refl _) hcl (.rfl _) (by simp [refs, refs.refsL]) ⟨rfl, rfl⟩
  · first | assumption | exact u32_mod _ | exact u32_wrap _ | exact u32_bv _ | exact ⟨by omega, by omega⟩
  · first | assumption | exact u32_mod _ | exact u32_wrap _ | exact u32_bv _ | exact ⟨by omega, by omega⟩
theorem do_3 (b n h : Int) (fn fz fc fv : Bool) (hb : U32 b) (hn : U32 n) (hh : U32 h) : ∃ r h2 n2 z2 c2 v2 ok, U32 r ∧ U32 h2 ∧ ∀ H, ACalls Tryz.prog 72 [iv 3, bv false, wv b, wv n, wv h, .agg [bv fn, bv fz, bv fc, bv fv]] H fun v H' => v = .tup [wv r, wv h2, .agg [bv n2, bv z2, bv c2, bv v2], bv ok] ∧ H' = H := by
  obtain ⟨r0, hr0, c0⟩ := ror_c b n hb hn
  have hb2 := hb
  have hn2 := hn
  have hh2 := hh
  obtain ⟨b0, b1⟩ := hb
  obtain ⟨n0, n1⟩ := hn
  obtain ⟨h00, h01⟩ := hh
  iterate 7 (apply Exists.intro)
  refine ⟨?_, ?_, fun H => ?_⟩
  rotate_left 2
  · refine ACalls.into Tryz.func72 cc72 rr72 fun hcl => ?_
    simp (maxSteps := 2000000) (disch := omega) only [Tryz.ntmps72, c72, r72, go_sem, seval, eq_self, if_true, if_false, reduceCtorEq]
    refine Cont.mk (c0 _) ?_
    simp (maxSteps := 2000000) (disch := omega) only [go_sem, seval, eq_self, if_true, if_false, reduceCtorEq]
    refine W.dregD [([], []), ([], []), ([], []), ([], []), ([], []), ([H.length + 1], []), ([], [])] follows (by decide +kernel) rfl rfl (fun z hz b' hb' => ?_) ?_
    · simp only [List.mem_cons, List.not_mem_nil, or_false] at hz
      rcases hz with rfl | rfl | rfl | rfl | rfl | rfl | rfl <;> simp at hb' <;> subst hb' <;> exact ⟨by simp, by simp⟩
    repeat (rw [DC_p]; simp (maxSteps := 2000000) (disch := omega) only [kill_c, go_sem, seval, eq_self, if_true, if_false, reduceCtorEq])
    refine WStep.ev (by simp) (by simp) ?_
    simp (maxSteps := 2000000) (disch := omega) only [go_sem, seval, eq_self, if_true, if_false, reduceCtorEq]
    refine ⟨FrOk.put 1 _ (by simp) rfl, ?_⟩
    repeat (rw [DC_p]; simp (maxSteps := 2000000) (disch := omega) only [kill_c, go_sem, seval, eq_self, if_true, if_false, reduceCtorEq])
    try simp (maxSteps := 2000000) (disch := omega) only [go_sem, seval, eq_self, if_true, if_false, reduceCtorEq]
    exact Ret.drop _ H (Nat.le_refl _) hcl (.rfl _) (by simp [refs, refs.refsL]) ⟨rfl, rfl⟩
  · first | assumption | exact u32_mod _ | exact u32_wrap _ | exact u32_bv _ | exact ⟨by omega, by omega⟩
  · first | assumption | exact u32_mod _ | exact u32_wrap _ | exact u32_bv _ | exact ⟨by omega, by omega⟩
theorem do_4 (b n h : Int) (fn fz fc fv : Bool) (hb : U32 b) (hn : U32 n) (hh : U32 h) : ∃ r h2 n2 z2 c2 v2 ok, U32 r ∧ U32 h2 ∧ ∀ H, ACalls Tryz.prog 72 [iv 4, bv false, wv b, wv n, wv h, .agg [bv fn, bv fz, bv fc, bv fv]] H fun v H' => v = .tup [wv r, wv h2, .agg [bv n2, bv z2, bv c2, bv v2], bv ok] ∧ H' = H := by
  have hb2 := hb
  have hn2 := hn
  have hh2 := hh
  obtain ⟨b0, b1⟩ := hb
  obtain ⟨n0, n1⟩ := hn
  obtain ⟨h00, h01⟩ := hh
  iterate 7 (apply Exists.intro)
  refine ⟨?_, ?_, fun H => ?_⟩
  rotate_left 2
  · refine ACalls.into Tryz.func72 cc72 rr72 fun hcl => ?_
    simp (maxSteps := 2000000) (disch := omega) only [Tryz.ntmps72, c72, r72, go_sem, seval, eq_self, if_true, if_false, reduceCtorEq]
    refine W.dregD [([], []), ([], []), ([], []), ([], []), ([], []), ([H.length + 1], []), ([], [])] follows (by decide +kernel) rfl rfl (fun z hz b' hb' => ?_) ?_
    · simp only [List.mem_cons, List.not_mem_nil, or_false] at hz
      rcases hz with rfl | rfl | rfl | rfl | rfl | rfl | rfl <;> simp at hb' <;> subst hb' <;> exact ⟨by simp, by simp⟩
    repeat (rw [DC_p]; simp (maxSteps := 2000000) (disch := omega) only [kill_c, go_sem, seval, eq_self, if_true, if_false, reduceCtorEq])
    refine WStep.ev (by simp) (by simp) ?_
    simp (maxSteps := 2000000) (disch := omega) only [go_sem, seval, eq_self, if_true, if_false, reduceCtorEq]
    refine ⟨FrOk.put 1 _ (by simp) rfl, ?_⟩
    repeat (rw [DC_p]; simp (maxSteps := 2000000) (disch := omega) only [kill_c, go_sem, seval, eq_self, if_true, if_false, reduceCtorEq])
    try simp (maxSteps := 2000000) (disch := omega) only [go_sem, seval, eq_self, if_true, if_false, reduceCtorEq]
    exact Ret.drop _ H (Nat.le_refl _) hcl (.rfl _) (by simp [refs, refs.refsL]) ⟨rfl, rfl⟩
  · first | assumption | exact u32_mod _ | exact u32_wrap _ | exact u32_bv _ | exact ⟨by omega, by omega⟩
  · first | assumption | exact u32_mod _ | exact u32_wrap _ | exact u32_bv _ | exact ⟨by omega, by omega⟩
theorem do_5 (b n h : Int) (fn fz fc fv : Bool) (hb : U32 b) (hn : U32 n) (hh : U32 h) : ∃ r h2 n2 z2 c2 v2 ok, U32 r ∧ U32 h2 ∧ ∀ H, ACalls Tryz.prog 72 [iv 5, bv false, wv b, wv n, wv h, .agg [bv fn, bv fz, bv fc, bv fv]] H fun v H' => v = .tup [wv r, wv h2, .agg [bv n2, bv z2, bv c2, bv v2], bv ok] ∧ H' = H := by
  have hb2 := hb
  have hn2 := hn
  have hh2 := hh
  obtain ⟨b0, b1⟩ := hb
  obtain ⟨n0, n1⟩ := hn
  obtain ⟨h00, h01⟩ := hh
  iterate 7 (apply Exists.intro)
  refine ⟨?_, ?_, fun H => ?_⟩
  rotate_left 2
  · refine ACalls.into Tryz.func72 cc72 rr72 fun hcl => ?_
    simp (maxSteps := 2000000) (disch := omega) only [Tryz.ntmps72, c72, r72, go_sem, seval, eq_self, if_true, if_false, reduceCtorEq]
    refine W.dregD [([], []), ([], []), ([], []), ([], []), ([], []), ([H.length + 1], []), ([], [])] follows (by decide +kernel) rfl rfl (fun z hz b' hb' => ?_) ?_
    · simp only [List.mem_cons, List.not_mem_nil, or_false] at hz
      rcases hz with rfl | rfl | rfl | rfl | rfl | rfl | rfl <;> simp at hb' <;> subst hb' <;> exact ⟨by simp, by simp⟩
    repeat (rw [DC_p]; simp (maxSteps := 2000000) (disch := omega) only [kill_c, go_sem, seval, eq_self, if_true, if_false, reduceCtorEq])
    refine WStep.ev (by simp) (by simp) ?_
    simp (maxSteps := 2000000) (disch := omega) only [go_sem, seval, eq_self, if_true, if_false, reduceCtorEq]
    refine ⟨FrOk.put 1 _ (by simp) rfl, ?_⟩
    repeat (rw [DC_p]; simp (maxSteps := 2000000) (disch := omega) only [kill_c, go_sem, seval, eq_self, if_true, if_false, reduceCtorEq])
    try simp (maxSteps := 2000000) (disch := omega) only [go_sem, seval, eq_self, if_true, if_false, reduceCtorEq]
    exact Ret.drop _ H (Nat.le_refl _) hcl (.rfl _) (by simp [refs, refs.refsL]) ⟨rfl, rfl⟩
  · first | assumption | exact u32_mod _ | exact u32_wrap _ | exact u32_bv _ | exact ⟨by omega, by omega⟩
  · first | assumption | exact u32_mod _ | exact u32_wrap _ | exact u32_bv _ | exact ⟨by omega, by omega⟩
theorem do_6 (b n h : Int) (fn fz fc fv : Bool) (hb : U32 b) (hn : U32 n) (hh : U32 h) : ∃ r h2 n2 z2 c2 v2 ok, U32 r ∧ U32 h2 ∧ ∀ H, ACalls Tryz.prog 72 [iv 6, bv false, wv b, wv n, wv h, .agg [bv fn, bv fz, bv fc, bv fv]] H fun v H' => v = .tup [wv r, wv h2, .agg [bv n2, bv z2, bv c2, bv v2], bv ok] ∧ H' = H := by
  have hb2 := hb
  have hn2 := hn
  have hh2 := hh
  obtain ⟨b0, b1⟩ := hb
  obtain ⟨n0, n1⟩ := hn
  obtain ⟨h00, h01⟩ := hh
  iterate 7 (apply Exists.intro)
  refine ⟨?_, ?_, fun H => ?_⟩
  rotate_left 2
  · refine ACalls.into Tryz.func72 cc72 rr72 fun hcl => ?_
    simp (maxSteps := 2000000) (disch := omega) only [Tryz.ntmps72, c72, r72, go_sem, seval, eq_self, if_true, if_false, reduceCtorEq]
    refine W.dregD [([], []), ([], []), ([], []), ([], []), ([], []), ([H.length + 1], []), ([], [])] follows (by decide +kernel) rfl rfl (fun z hz b' hb' => ?_) ?_
    · simp only [List.mem_cons, List.not_mem_nil, or_false] at hz
      rcases hz with rfl | rfl | rfl | rfl | rfl | rfl | rfl <;> simp at hb' <;> subst hb' <;> exact ⟨by simp, by simp⟩
    repeat (rw [DC_p]; simp (maxSteps := 2000000) (disch := omega) only [kill_c, go_sem, seval, eq_self, if_true, if_false, reduceCtorEq])
    refine WStep.ev (by simp) (by simp) ?_
    simp (maxSteps := 2000000) (disch := omega) only [go_sem, seval, eq_self, if_true, if_false, reduceCtorEq]
    refine ⟨FrOk.put 1 _ (by simp) rfl, ?_⟩
    repeat (rw [DC_p]; simp (maxSteps := 2000000) (disch := omega) only [kill_c, go_sem, seval, eq_self, if_true, if_false, reduceCtorEq])
    try simp (maxSteps := 2000000) (disch := omega) only [go_sem, seval, eq_self, if_true, if_false, reduceCtorEq]
    exact Ret.drop _ H (Nat.le_refl _) hcl (.rfl _) (by simp [refs, refs.refsL]) ⟨rfl, rfl⟩
  · first | assumption | exact u32_mod _ | exact u32_wrap _ | exact u32_bv _ | exact ⟨by omega, by omega⟩
  · first | assumption | exact u32_mod _ | exact u32_wrap _ | exact u32_bv _ | exact ⟨by omega, by omega⟩
theorem do_7 (b n h : Int) (fn fz fc fv : Bool) (hb : U32 b) (hn : U32 n) (hh : U32 h) : ∃ r h2 n2 z2 c2 v2 ok, U32 r ∧ U32 h2 ∧ ∀ H, ACalls Tryz.prog 72 [iv 7, bv false, wv b, wv n, wv h, .agg [bv fn, bv fz, bv fc, bv fv]] H fun v H' => v = .tup [wv r, wv h2, .agg [bv n2, bv z2, bv c2, bv v2], bv ok] ∧ H' = H := by
  have hb2 := hb
  have hn2 := hn
  have hh2 := hh
  obtain ⟨b0, b1⟩ := hb
  obtain ⟨n0, n1⟩ := hn
  obtain ⟨h00, h01⟩ := hh
  iterate 7 (apply Exists.intro)
  refine ⟨?_, ?_, fun H => ?_⟩
  rotate_left 2
  · refine ACalls.into Tryz.func72 cc72 rr72 fun hcl => ?_
    simp (maxSteps := 2000000) (disch := omega) only [Tryz.ntmps72, c72, r72, go_sem, seval, eq_self, if_true, if_false, reduceCtorEq]
    refine W.dregD [([], []), ([], []), ([], []), ([], []), ([], []), ([H.length + 1], []), ([], [])] follows (by decide +kernel) rfl rfl (fun z hz b' hb' => ?_) ?_
    · simp only [List.mem_cons, List.not_mem_nil, or_false] at hz
      rcases hz with rfl | rfl | rfl | rfl | rfl | rfl | rfl <;> simp at hb' <;> subst hb' <;> exact ⟨by simp, by simp⟩
    repeat (rw [DC_p]; simp (maxSteps := 2000000) (disch := omega) only [kill_c, go_sem, seval, eq_self, if_true, if_false, reduceCtorEq])
    refine WStep.ev (by simp) (by simp) ?_
    simp (maxSteps := 2000000) (disch := omega) only [go_sem, seval, eq_self, if_true, if_false, reduceCtorEq]
    refine ⟨FrOk.put 1 _ (by simp) rfl, ?_⟩
    repeat (rw [DC_p]; simp (maxSteps := 2000000) (disch := omega) only [kill_c, go_sem, seval, eq_self, if_true, if_false, reduceCtorEq])
    try simp (maxSteps := 2000000) (disch := omega) only [go_sem, seval, eq_self, if_true, if_false, reduceCtorEq]
    exact Ret.drop _ H (Nat.le_refl _) hcl (.rfl _) (by simp [refs, refs.refsL]) ⟨rfl, rfl⟩
  · first | assumption | exact u32_mod _ | exact u32_wrap _ | exact u32_bv _ | exact ⟨by omega, by omega⟩
  · first | assumption | exact u32_mod _ | exact u32_wrap _ | exact u32_bv _ | exact ⟨by omega, by omega⟩
theorem do_8 (u : Bool) (b n h : Int) (fn fz fc fv : Bool) (hb : U32 b) (hn : U32 n) (hh : U32 h) : ∃ r h2 n2 z2 c2 v2 ok, U32 r ∧ U32 h2 ∧ ∀ H, ACalls Tryz.prog 72 [iv 8, bv u, wv b, wv n, wv h, .agg [bv fn, bv fz, bv fc, bv fv]] H fun v H' => v = .tup [wv r, wv h2, .agg [bv n2, bv z2, bv c2, bv v2], bv ok] ∧ H' = H := by
  have hb2 := hb
  have hn2 := hn
  have hh2 := hh
  obtain ⟨b0, b1⟩ := hb
  obtain ⟨n0, n1⟩ := hn
  obtain ⟨h00, h01⟩ := hh
  have hx := i32r b
  have hy := i32r n
  cases u <;> cases fc
  all_goals (
    iterate 7 (apply Exists.intro)
    refine ⟨?_, ?_, fun H => ?_⟩
    rotate_left 2
    · refine ACalls.into Tryz.func72 cc72 rr72 fun hcl => ?_
      simp (maxSteps := 2000000) (disch := omega) only [Tryz.ntmps72, c72, r72, go_sem, seval, eq_self, if_true, if_false, reduceCtorEq]
      refine Cont.mk (over2 _ _) ?_
      simp (maxSteps := 2000000) (disch := omega) only [go_sem, seval, eq_self, if_true, if_false, reduceCtorEq]
      refine W.dregD [([], []), ([], []), ([], []), ([], []), ([], []), ([H.length + 1], []), ([], [])] follows (by decide +kernel) rfl rfl (fun z hz b' hb' => ?_) ?_
      · simp only [List.mem_cons, List.not_mem_nil, or_false] at hz
        rcases hz with rfl | rfl | rfl | rfl | rfl | rfl | rfl <;> simp at hb' <;> subst hb' <;> exact ⟨by simp, by simp⟩
      repeat (rw [DC_p]; simp (maxSteps := 2000000) (disch := omega) only [kill_c, go_sem, seval, eq_self, if_true, if_false, reduceCtorEq])
      refine WStep.ev (by simp) (by simp) ?_
      simp (maxSteps := 2000000) (disch := omega) only [go_sem, seval, eq_self, if_true, if_false, reduceCtorEq]
      refine ⟨FrOk.put 1 _ (by simp) rfl, ?_⟩
      repeat (rw [DC_p]; simp (maxSteps := 2000000) (disch := omega) only [kill_c, go_sem, seval, eq_self, if_true, if_false, reduceCtorEq])
      try simp (maxSteps := 2000000) (disch := omega) only [go_sem, seval, eq_self, if_true, if_false, reduceCtorEq]
      exact Ret.drop _ H (Nat.le_refl _) hcl (.rfl _) (by simp [refs, refs.refsL]) ⟨rfl, rfl⟩
    · first | assumption | exact u32_mod _ | exact u32_wrap _ | exact u32_bv _ | exact ⟨by omega, by omega⟩
    · first | assumption | exact u32_mod _ | exact u32_wrap _ | exact u32_bv _ | exact ⟨by omega, by omega⟩)
theorem do_9 (u : Bool) (b n h : Int) (fn fz fc fv : Bool) (hb : U32 b) (hn : U32 n) (hh : U32 h) : ∃ r h2 n2 z2 c2 v2 ok, U32 r ∧ U32 h2 ∧ ∀ H, ACalls Tryz.prog 72 [iv 9, bv u, wv b, wv n, wv h, .agg [bv fn, bv fz, bv fc, bv fv]] H fun v H' => v = .tup [wv r, wv h2, .agg [bv n2, bv z2, bv c2, bv v2], bv ok] ∧ H' = H := by
  have hb2 := hb
  have hn2 := hn
  have hh2 := hh
  obtain ⟨b0, b1⟩ := hb
  obtain ⟨n0, n1⟩ := hn
  obtain ⟨h00, h01⟩ := hh
  have hx := i32r b
  have hy := i32r n
  cases u <;> cases fc
  all_goals (
    iterate 7 (apply Exists.intro)
    refine ⟨?_, ?_, fun H => ?_⟩
    rotate_left 2
    · refine ACalls.into Tryz.func72 cc72 rr72 fun hcl => ?_
      simp (maxSteps := 2000000) (disch := omega) only [Tryz.ntmps72, c72, r72, go_sem, seval, eq_self, if_true, if_false, reduceCtorEq]
      refine Cont.mk (over2 _ _) ?_
      simp (maxSteps := 2000000) (disch := omega) only [go_sem, seval, eq_self, if_true, if_false, reduceCtorEq]
      refine W.dregD [([], []), ([], []), ([], []), ([], []), ([], []), ([H.length + 1], []), ([], [])] follows (by decide +kernel) rfl rfl (fun z hz b' hb' => ?_) ?_
      · simp only [List.mem_cons, List.not_mem_nil, or_false] at hz
        rcases hz with rfl | rfl | rfl | rfl | rfl | rfl | rfl <;> simp at hb' <;> subst hb' <;> exact ⟨by simp, by simp⟩
      repeat (rw [DC_p]; simp (maxSteps := 2000000) (disch := omega) only [kill_c, go_sem, seval, eq_self, if_true, if_false, reduceCtorEq])
      refine WStep.ev (by simp) (by simp) ?_
      simp (maxSteps := 2000000) (disch := omega) only [go_sem, seval, eq_self, if_true, if_false, reduceCtorEq]
      refine ⟨FrOk.put 1 _ (by simp) rfl, ?_⟩
      repeat (rw [DC_p]; simp (maxSteps := 2000000) (disch := omega) only [kill_c, go_sem, seval, eq_self, if_true, if_false, reduceCtorEq])
      try simp (maxSteps := 2000000) (disch := omega) only [go_sem, seval, eq_self, if_true, if_false, reduceCtorEq]
      exact Ret.drop _ H (Nat.le_refl _) hcl (.rfl _) (by simp [refs, refs.refsL]) ⟨rfl, rfl⟩
    · first | assumption | exact u32_mod _ | exact u32_wrap _ | exact u32_bv _ | exact ⟨by omega, by omega⟩
    · first | assumption | exact u32_mod _ | exact u32_wrap _ | exact u32_bv _ | exact ⟨by omega, by omega⟩)
theorem do_10 (u : Bool) (b n h : Int) (fn fz fc fv : Bool) (hb : U32 b) (hn : U32 n) (hh : U32 h) : ∃ r h2 n2 z2 c2 v2 ok, U32 r ∧ U32 h2 ∧ ∀ H, ACalls Tryz.prog 72 [iv 10, bv u, wv b, wv n, wv h, .agg [bv fn, bv fz, bv fc, bv fv]] H fun v H' => v = .tup [wv r, wv h2, .agg [bv n2, bv z2, bv c2, bv v2], bv ok] ∧ H' = H := by
  obtain ⟨p0, q0, hp0, hq0, c0⟩ := prod_c u b n hb hn
  have hb2 := hb
  have hn2 := hn
  have hh2 := hh
  obtain ⟨b0, b1⟩ := hb
  obtain ⟨n0, n1⟩ := hn
  obtain ⟨h00, h01⟩ := hh
  cases u <;> cases fc
  all_goals (
    iterate 7 (apply Exists.intro)
    refine ⟨?_, ?_, fun H => ?_⟩
    rotate_left 2
    · refine ACalls.into Tryz.func72 cc72 rr72 fun hcl => ?_
      simp (maxSteps := 2000000) (disch := omega) only [Tryz.ntmps72, c72, r72, go_sem, seval, eq_self, if_true, if_false, reduceCtorEq]
      refine Cont.mk (c0 _) ?_
      simp (maxSteps := 2000000) (disch := omega) only [go_sem, seval, eq_self, if_true, if_false, reduceCtorEq]
      refine W.dregD [([], []), ([], []), ([], []), ([], []), ([], []), ([H.length + 1], []), ([], [])] follows (by decide +kernel) rfl rfl (fun z hz b' hb' => ?_) ?_
      · simp only [List.mem_cons, List.not_mem_nil, or_false] at hz
        rcases hz with rfl | rfl | rfl | rfl | rfl | rfl | rfl <;> simp at hb' <;> subst hb' <;> exact ⟨by simp, by simp⟩
      repeat (rw [DC_p]; simp (maxSteps := 2000000) (disch := omega) only [kill_c, go_sem, seval, eq_self, if_true, if_false, reduceCtorEq])
      refine WStep.ev (by simp) (by simp) ?_
      simp (maxSteps := 2000000) (disch := omega) only [go_sem, seval, eq_self, if_true, if_false, reduceCtorEq]
      refine ⟨FrOk.put 1 _ (by simp) rfl, ?_⟩
      repeat (rw [DC_p]; simp (maxSteps := 2000000) (disch := omega) only [kill_c, go_sem, seval, eq_self, if_true, if_false, reduceCtorEq])
      try simp (maxSteps := 2000000) (disch := omega) only [go_sem, seval, eq_self, if_true, if_false, reduceCtorEq]
      exact Ret.drop _ H (Nat.le_refl _) hcl (.rfl _) (by simp [refs, refs.refsL]) ⟨rfl, rfl⟩
    · first | assumption | exact u32_mod _ | exact u32_wrap _ | exact u32_bv _ | exact ⟨by omega, by omega⟩
    · first | assumption | exact u32_mod _ | exact u32_wrap _ | exact u32_bv _ | exact ⟨by omega, by omega⟩)
theorem do_11 (b n h : Int) (fn fz fc fv : Bool) (hb : U32 b) (hn : U32 n) (hh : U32 h) : ∃ r h2 n2 z2 c2 v2 ok, U32 r ∧ U32 h2 ∧ ∀ H, ACalls Tryz.prog 72 [iv 11, bv false, wv b, wv n, wv h, .agg [bv fn, bv fz, bv fc, bv fv]] H fun v H' => v = .tup [wv r, wv h2, .agg [bv n2, bv z2, bv c2, bv v2], bv ok] ∧ H' = H := by
  obtain ⟨p0, q0, hp0, hq0, c0⟩ := quot_c b n hb hn
  have hb2 := hb
  have hn2 := hn
  have hh2 := hh
  obtain ⟨b0, b1⟩ := hb
  obtain ⟨n0, n1⟩ := hn
  obtain ⟨h00, h01⟩ := hh
  iterate 7 (apply Exists.intro)
  refine ⟨?_, ?_, fun H => ?_⟩
  rotate_left 2
  · refine ACalls.into Tryz.func72 cc72 rr72 fun hcl => ?_
    simp (maxSteps := 2000000) (disch := omega) only [Tryz.ntmps72, c72, r72, go_sem, seval, eq_self, if_true, if_false, reduceCtorEq]
    refine Cont.mk (c0 _) ?_
    simp (maxSteps := 2000000) (disch := omega) only [go_sem, seval, eq_self, if_true, if_false, reduceCtorEq]
    refine W.dregD [([], []), ([], []), ([], []), ([], []), ([], []), ([H.length + 1], []), ([], [])] follows (by decide +kernel) rfl rfl (fun z hz b' hb' => ?_) ?_
    · simp only [List.mem_cons, List.not_mem_nil, or_false] at hz
      rcases hz with rfl | rfl | rfl | rfl | rfl | rfl | rfl <;> simp at hb' <;> subst hb' <;> exact ⟨by simp, by simp⟩
    repeat (rw [DC_p]; simp (maxSteps := 2000000) (disch := omega) only [kill_c, go_sem, seval, eq_self, if_true, if_false, reduceCtorEq])
    refine WStep.ev (by simp) (by simp) ?_
    simp (maxSteps := 2000000) (disch := omega) only [go_sem, seval, eq_self, if_true, if_false, reduceCtorEq]
    refine ⟨FrOk.put 1 _ (by simp) rfl, ?_⟩
    repeat (rw [DC_p]; simp (maxSteps := 2000000) (disch := omega) only [kill_c, go_sem, seval, eq_self, if_true, if_false, reduceCtorEq])
    try simp (maxSteps := 2000000) (disch := omega) only [go_sem, seval, eq_self, if_true, if_false, reduceCtorEq]
    exact Ret.drop _ H (Nat.le_refl _) hcl (.rfl _) (by simp [refs, refs.refsL]) ⟨rfl, rfl⟩
  · first | assumption | exact u32_mod _ | exact u32_wrap _ | exact u32_bv _ | exact ⟨by omega, by omega⟩
  · first | assumption | exact u32_mod _ | exact u32_wrap _ | exact u32_bv _ | exact ⟨by omega, by omega⟩
end Go.Proofs.YtmgmoamcbnkbfaaGreatDoor

/- alu.Do, of a move. -/
namespace Go.Proofs.YtmgmoamcbnkbfaaGreatDoor
set_option linter.unusedSimpArgs false
set_option linter.unusedVariables false
set_option maxRecDepth 20000
set_option maxHeartbeats 1000000
open Go.RowKit

theorem do_0 (u : Bool) (b n h : Int) (fn fz fc fv : Bool) (hb : U32 b) (hn : U32 n) (hh : U32 h) : ∃ r h2 n2 z2 c2 v2 ok, U32 r ∧ U32 h2 ∧ ∀ H, ACalls Tryz.prog 72 [iv 0, bv u, wv b, wv n, wv h, .agg [bv fn, bv fz, bv fc, bv fv]] H fun v H' => v = .tup [wv r, wv h2, .agg [bv n2, bv z2, bv c2, bv v2], bv ok] ∧ H' = H := by
  have hb2 := hb
  have hn2 := hn
  have hh2 := hh
  obtain ⟨b0, b1⟩ := hb
  obtain ⟨n0, n1⟩ := hn
  obtain ⟨h00, h01⟩ := hh
  cases u
  · iterate 7 (apply Exists.intro)
    refine ⟨?_, ?_, fun H => ?_⟩
    rotate_left 2
    · refine ACalls.into Tryz.func72 cc72 rr72 fun hcl => ?_
      simp (maxSteps := 2000000) (disch := omega) only [Tryz.ntmps72, c72, r72, go_sem, seval, eq_self, if_true, if_false, reduceCtorEq]
      refine W.dregD [([], []), ([], []), ([], []), ([], []), ([], []), ([H.length + 1], []), ([], [])] follows (by decide +kernel) rfl rfl (fun z hz b' hb' => ?_) ?_
      · simp only [List.mem_cons, List.not_mem_nil, or_false] at hz
        rcases hz with rfl | rfl | rfl | rfl | rfl | rfl | rfl <;> simp at hb' <;> subst hb' <;> exact ⟨by simp, by simp⟩
      repeat (rw [DC_p]; simp (maxSteps := 2000000) (disch := omega) only [kill_c, go_sem, seval, eq_self, if_true, if_false, reduceCtorEq])
      refine WStep.ev (by simp) (by simp) ?_
      simp (maxSteps := 2000000) (disch := omega) only [go_sem, seval, eq_self, if_true, if_false, reduceCtorEq]
      refine ⟨FrOk.put 1 _ (by simp) rfl, ?_⟩
      repeat (rw [DC_p]; simp (maxSteps := 2000000) (disch := omega) only [kill_c, go_sem, seval, eq_self, if_true, if_false, reduceCtorEq])
      try simp (maxSteps := 2000000) (disch := omega) only [go_sem, seval, eq_self, if_true, if_false, reduceCtorEq]
      exact Ret.drop _ H (Nat.le_refl _) hcl (.rfl _) (by simp [refs, refs.refsL]) ⟨rfl, rfl⟩
    · first | assumption | exact u32_mod _ | exact u32_wrap _ | exact u32_bv _ | exact ⟨by omega, by omega⟩
    · first | assumption | exact u32_mod _ | exact u32_wrap _ | exact u32_bv _ | exact ⟨by omega, by omega⟩
  · cases fc
    · iterate 7 (apply Exists.intro)
      refine ⟨?_, ?_, fun H => ?_⟩
      rotate_left 2
      · refine ACalls.into Tryz.func72 cc72 rr72 fun hcl => ?_
        simp (maxSteps := 2000000) (disch := omega) only [Tryz.ntmps72, c72, r72, go_sem, seval, eq_self, if_true, if_false, reduceCtorEq]
        refine W.dregD [([], []), ([], []), ([], []), ([], []), ([], []), ([H.length + 1], []), ([], [])] follows (by decide +kernel) rfl rfl (fun z hz b' hb' => ?_) ?_
        · simp only [List.mem_cons, List.not_mem_nil, or_false] at hz
          rcases hz with rfl | rfl | rfl | rfl | rfl | rfl | rfl <;> simp at hb' <;> subst hb' <;> exact ⟨by simp, by simp⟩
        repeat (rw [DC_p]; simp (maxSteps := 2000000) (disch := omega) only [kill_c, go_sem, seval, eq_self, if_true, if_false, reduceCtorEq])
        refine WStep.ev (by simp) (by simp) ?_
        simp (maxSteps := 2000000) (disch := omega) only [go_sem, seval, eq_self, if_true, if_false, reduceCtorEq]
        refine ⟨FrOk.put 1 _ (by simp) rfl, ?_⟩
        repeat (rw [DC_p]; simp (maxSteps := 2000000) (disch := omega) only [kill_c, go_sem, seval, eq_self, if_true, if_false, reduceCtorEq])
        try simp (maxSteps := 2000000) (disch := omega) only [go_sem, seval, eq_self, if_true, if_false, reduceCtorEq]
        exact Ret.drop _ H (Nat.le_refl _) hcl (.rfl _) (by simp [refs, refs.refsL]) ⟨rfl, rfl⟩
      · first | assumption | exact u32_mod _ | exact u32_wrap _ | exact u32_bv _ | exact ⟨by omega, by omega⟩
      · first | assumption | exact u32_mod _ | exact u32_wrap _ | exact u32_bv _ | exact ⟨by omega, by omega⟩
    · iterate 7 (apply Exists.intro)
      refine ⟨?_, ?_, fun H => ?_⟩
      rotate_left 2
      · refine ACalls.into Tryz.func72 cc72 rr72 fun hcl => ?_
        simp (maxSteps := 2000000) (disch := omega) only [Tryz.ntmps72, c72, r72, go_sem, seval, eq_self, if_true, if_false, reduceCtorEq]
        refine W.dregD [([], []), ([], []), ([], []), ([], []), ([], []), ([H.length + 1], []), ([], [])] follows (by decide +kernel) rfl rfl (fun z hz b' hb' => ?_) ?_
        · simp only [List.mem_cons, List.not_mem_nil, or_false] at hz
          rcases hz with rfl | rfl | rfl | rfl | rfl | rfl | rfl <;> simp at hb' <;> subst hb' <;> exact ⟨by simp, by simp⟩
        repeat (rw [DC_p]; simp (maxSteps := 2000000) (disch := omega) only [kill_c, go_sem, seval, eq_self, if_true, if_false, reduceCtorEq])
        refine WStep.ev (by simp) (by simp) ?_
        simp (maxSteps := 2000000) (disch := omega) only [go_sem, seval, eq_self, if_true, if_false, reduceCtorEq]
        refine ⟨FrOk.put 1 _ (by simp) rfl, ?_⟩
        repeat (rw [DC_p]; simp (maxSteps := 2000000) (disch := omega) only [kill_c, go_sem, seval, eq_self, if_true, if_false, reduceCtorEq])
        try simp (maxSteps := 2000000) (disch := omega) only [go_sem, seval, eq_self, if_true, if_false, reduceCtorEq]
        exact Ret.drop _ H (Nat.le_refl _) hcl (.rfl _) (by simp [refs, refs.refsL]) ⟨rfl, rfl⟩
      · first | assumption | exact u32_mod _ | exact u32_wrap _ | exact u32_bv _ | exact ⟨by omega, by omega⟩
      · first | assumption | exact u32_mod _ | exact u32_wrap _ | exact u32_bv _ | exact ⟨by omega, by omega⟩
end Go.Proofs.YtmgmoamcbnkbfaaGreatDoor
