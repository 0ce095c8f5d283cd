/- TopWords. -/
import Derived.Test.YtalhmnijkkihgaaTwE
import Derived.Test.YtalhmnijkkihgaaEvT
import Derived.Test.YtalhmnijkkihgaaRead
import Derived.Test.YtalhmnijkkihgaaRows
namespace Go.Proofs.Ytalhmnijkkihgaa
set_option linter.unusedVariables false
set_option linter.unusedSimpArgs false
set_option linter.unusedSectionVars false
set_option linter.unusedSectionVars false
set_option linter.unusedSimpArgs false
set_option linter.unusedVariables false
set_option maxRecDepth 20000
set_option maxHeartbeats 1000000
open Go.RowKit

theorem Stps.facts {k : Nat} {s t : St} (h : Stps k s t) (h0 : s.en = 0) : (t.en = 0 ∨ t.en = 1 ∨ t.en = 2 ∨ t.en = 4 ∨ t.en = 5 ∨ t.en = 6) ∧ (t.en ≠ 0 → 1 ≤ k) ∧ (t.en = 4 → t.here = true ∧ decE t.word = 20) := by
  cases h with
  | zero => exact ⟨.inl h0, fun h => absurd h0 h, fun h => by rw [h0] at h; cases h⟩
  | succ h1 h2 h3 =>
    rename_i k t0
    obtain ⟨-, ⟨-, rfl⟩ | ⟨a, b, rfl⟩ | ⟨-, -, h⟩⟩ := h3
    · exact ⟨by simp, fun _ => by omega, fun h => by cases h⟩
    · exact ⟨by simp, fun _ => by omega, fun _ => ⟨a, b⟩⟩
    · rw [h2] at h
      exact ⟨by omega, fun _ => by omega, fun h' => by omega⟩
theorem TopWords_c {ws : List Int} (hr : ∀ x ∈ ws, U32 x) (inp : ByteArray) (fuel : Int) (H : List ABlk) :
    ACalls Try.prog 3 [.d (.sl (ws.map ud)), sv inp, iv fuel] H fun v H' => v = bv true ∧ H' = H := by
  refine ACalls.into Try.func3 cc3 rr3 fun hcl => ?_
  have out : ∀ {b : Bool} {G : List ABlk}, H <+: G → b = true → Ret [RC.t 6] H.length (fun v H' => v = bv true ∧ H' = H) (some (bv b)) G := fun {b G} hp hb => by
    obtain ⟨l, rfl⟩ := hp
    exact Ret.drop _ H (Nat.le_refl _) hcl (.rfl _) (by simp [refs]) ⟨by rw [hb], rfl⟩
  by_cases h1 : 2000 < ws.length
  · simp (maxSteps := 2000000) (disch := omega) only [Try.ntmps3, c3, r3, List.length_map, go_sem, eq_self, if_true, if_false, reduceCtorEq, Int.reduceToNat, Int.reducePow, Nat.reducePow, Nat.reduceMul, Int.reduceLT, Int.reduceLE, Nat.reduceAdd, Nat.reduceLeDiff, Nat.reduceBEq, Nat.reduceSub, Int.reduceSub, Int.reduceMul, Int.reduceNeg, Int.reduceAdd]
    refine Cont.mk (wakes_c _) ?_
    simp (maxSteps := 2000000) (disch := omega) only [go_sem, eq_self, if_true, if_false, reduceCtorEq, Int.reduceToNat, Int.reducePow, Nat.reducePow, Nat.reduceMul, Int.reduceLT, Int.reduceLE, Nat.reduceAdd, Nat.reduceLeDiff, Nat.reduceBEq, Nat.reduceSub, Int.reduceSub, Int.reduceMul, Int.reduceNeg, Int.reduceAdd]
    exact out ⟨[], by simp⟩ rfl
  by_cases h2 : 4000 < inp.size
  · simp (maxSteps := 2000000) (disch := omega) only [Try.ntmps3, c3, r3, List.length_map, go_sem, eq_self, if_true, if_false, reduceCtorEq, Int.reduceToNat, Int.reducePow, Nat.reducePow, Nat.reduceMul, Int.reduceLT, Int.reduceLE, Nat.reduceAdd, Nat.reduceLeDiff, Nat.reduceBEq, Nat.reduceSub, Int.reduceSub, Int.reduceMul, Int.reduceNeg, Int.reduceAdd]
    refine Cont.mk (wakes_c _) ?_
    simp (maxSteps := 2000000) (disch := omega) only [go_sem, eq_self, if_true, if_false, reduceCtorEq, Int.reduceToNat, Int.reducePow, Nat.reducePow, Nat.reduceMul, Int.reduceLT, Int.reduceLE, Nat.reduceAdd, Nat.reduceLeDiff, Nat.reduceBEq, Nat.reduceSub, Int.reduceSub, Int.reduceMul, Int.reduceNeg, Int.reduceAdd]
    exact out ⟨[], by simp⟩ rfl
  by_cases h3 : fuel < 1
  · simp (maxSteps := 2000000) (disch := omega) only [Try.ntmps3, c3, r3, List.length_map, go_sem, eq_self, if_true, if_false, reduceCtorEq, Int.reduceToNat, Int.reducePow, Nat.reducePow, Nat.reduceMul, Int.reduceLT, Int.reduceLE, Nat.reduceAdd, Nat.reduceLeDiff, Nat.reduceBEq, Nat.reduceSub, Int.reduceSub, Int.reduceMul, Int.reduceNeg, Int.reduceAdd]
    refine Cont.mk (wakes_c _) ?_
    simp (maxSteps := 2000000) (disch := omega) only [go_sem, eq_self, if_true, if_false, reduceCtorEq, Int.reduceToNat, Int.reducePow, Nat.reducePow, Nat.reduceMul, Int.reduceLT, Int.reduceLE, Nat.reduceAdd, Nat.reduceLeDiff, Nat.reduceBEq, Nat.reduceSub, Int.reduceSub, Int.reduceMul, Int.reduceNeg, Int.reduceAdd]
    exact out ⟨[], by simp⟩ rfl
  by_cases h4 : 20000 < fuel
  · simp (maxSteps := 2000000) (disch := omega) only [Try.ntmps3, c3, r3, List.length_map, go_sem, eq_self, if_true, if_false, reduceCtorEq, Int.reduceToNat, Int.reducePow, Nat.reducePow, Nat.reduceMul, Int.reduceLT, Int.reduceLE, Nat.reduceAdd, Nat.reduceLeDiff, Nat.reduceBEq, Nat.reduceSub, Int.reduceSub, Int.reduceMul, Int.reduceNeg, Int.reduceAdd]
    refine Cont.mk (wakes_c _) ?_
    simp (maxSteps := 2000000) (disch := omega) only [go_sem, eq_self, if_true, if_false, reduceCtorEq, Int.reduceToNat, Int.reducePow, Nat.reducePow, Nat.reduceMul, Int.reduceLT, Int.reduceLE, Nat.reduceAdd, Nat.reduceLeDiff, Nat.reduceBEq, Nat.reduceSub, Int.reduceSub, Int.reduceMul, Int.reduceNeg, Int.reduceAdd]
    exact out ⟨[], by simp⟩ rfl
  have he : ∀ H, elemsA H 1 (.d (.sl (ws.map ud))) = some ((ws.map ud).map (·.map .d)) := fun l => by simp [elemsA]
  have hdd := datss_map_d (ws.map ud)
  simp (maxSteps := 2000000) (disch := omega) only [Try.ntmps3, c3, r3, List.length_map, he, hdd, all1_ud, go_sem, eq_self, if_true, if_false, reduceCtorEq, Int.reduceToNat, Int.reducePow, Nat.reducePow, Nat.reduceMul, Int.reduceLT, Int.reduceLE, Nat.reduceAdd, Nat.reduceLeDiff, Nat.reduceBEq, Nat.reduceSub, Int.reduceSub, Int.reduceMul, Int.reduceNeg, Int.reduceAdd]
  refine Cont.rel (cnew_c (by omega) hr inp (by omega) _) ?_
  rintro v G0 ⟨mb, pb, wb, rfl, m0⟩
  simp (maxSteps := 2000000) (disch := omega) only [go_sem, eq_self, if_true, if_false, reduceCtorEq, Int.reduceToNat, Int.reducePow, Nat.reducePow, Nat.reduceMul, Int.reduceLT, Int.reduceLE, Nat.reduceAdd, Nat.reduceLeDiff, Nat.reduceBEq, Nat.reduceSub, Int.reduceSub, Int.reduceMul, Int.reduceNeg, Int.reduceAdd]
  refine Cont.rel (run_c m0 fuel ⟨by omega, by omega⟩) ?_
  rintro v G1 ⟨k, o1, s1, ob1, rfl, -, m1, r1, hk, hk0⟩
  obtain ⟨f1, f2, f3⟩ := r1.facts rfl
  have k1 : 1 ≤ k := by
    by_cases h : s1.en = 0
    · have := hk0 h; omega
    · exact f2 h
  have hq : ∀ x l, (G1 ++ (x :: l))[G1.length]? = some x := fun x l => by simp
  have hqs : ∀ x y l, (G1 ++ (x :: l)).set G1.length y = G1 ++ (y :: l) := fun x y l => by simp
  have hpc := m1.pc
  have e4 : 4 * s1.pc % 4294967296 = s1.pc * 4 := by omega
  obtain ⟨E, hE⟩ : ∃ E, E = endF s1 := ⟨_, rfl⟩
  rw [← hE]
  by_cases hn : s1.en = 0 ∨ s1.en = 4
  rotate_left
  · have e3 : E = s1.en := by rw [hE, endF, if_neg (by omega)]
    have n3 : E ≠ 4 := by omega
    have n4 : E ≠ 3 := by omega
    simp (maxSteps := 2000000) (disch := omega) only [hq, hqs, go_sem, eq_self, if_true, if_false, reduceCtorEq, Int.reduceToNat, Int.reducePow, Nat.reducePow, Nat.reduceMul, Int.reduceLT, Int.reduceLE, Nat.reduceAdd, Nat.reduceLeDiff, Nat.reduceBEq, Nat.reduceSub, Int.reduceSub, Int.reduceMul, Int.reduceNeg, Int.reduceAdd]
    refine Cont.mk (wakes_c _) ?_
    simp (maxSteps := 2000000) (disch := omega) only [go_sem, eq_self, if_true, if_false, reduceCtorEq, Int.reduceToNat, Int.reducePow, Nat.reducePow, Nat.reduceMul, Int.reduceLT, Int.reduceLE, Nat.reduceAdd, Nat.reduceLeDiff, Nat.reduceBEq, Nat.reduceSub, Int.reduceSub, Int.reduceMul, Int.reduceNeg, Int.reduceAdd]
    exact out (m1.pre.trans ⟨_, rfl⟩) rfl
  have uw : U32 s1.word := ldF_u m1.mem _
  obtain ⟨x, hd⟩ := dec_spec uw
  obtain ⟨e, hE2⟩ : ∃ e, e = decE s1.word := ⟨_, rfl⟩
  rw [← hE2] at hd f3
  obtain ⟨hx, hee, hdc⟩ := hd
  have hld : ∀ l, ACalls Try.prog 8 [.ptr pb 0, wv (s1.pc * 4)] (G1 ++ l) fun v H' => v = .tup [wv s1.word, bv s1.here] ∧ H' = G1 ++ l := fun l => load_c (m1.ext l).mem _ (by omega) (by omega)
  have hE34 : E = 4 ∧ s1.en = 4 ∨ E = 3 ∧ s1.en = 0 := by
    rcases hn with h | h
    · exact .inr ⟨by rw [hE, endF, if_pos h], h⟩
    · exact .inl ⟨by rw [hE, endF, if_neg (by omega), h], h⟩
  have n3 : (E ≠ 4 ∧ E ≠ 3) = False := eq_false (by omega)
  rcases hE34 with ⟨rfl, h⟩ | ⟨rfl, h⟩
  · obtain ⟨g1, g2⟩ := f3 h
    simp (maxSteps := 2000000) (disch := omega) only [hq, hqs, go_sem, eq_self, if_true, if_false, reduceCtorEq, Int.reduceToNat, Int.reducePow, Nat.reducePow, Nat.reduceMul, Int.reduceLT, Int.reduceLE, Nat.reduceAdd, Nat.reduceLeDiff, Nat.reduceBEq, Nat.reduceSub, Int.reduceSub, Int.reduceMul, Int.reduceNeg, Int.reduceAdd]
    refine Cont.mk (mem_c (m1.ext _)) ?_
    simp (maxSteps := 2000000) (disch := omega) only [go_sem, eq_self, if_true, if_false, reduceCtorEq, Int.reduceToNat, Int.reducePow, Nat.reducePow, Nat.reduceMul, Int.reduceLT, Int.reduceLE, Nat.reduceAdd, Nat.reduceLeDiff, Nat.reduceBEq, Nat.reduceSub, Int.reduceSub, Int.reduceMul, Int.reduceNeg, Int.reduceAdd]
    refine Cont.mk (pc_c (m1.ext _)) ?_
    simp (maxSteps := 2000000) (disch := omega) only [e4, go_sem, eq_self, if_true, if_false, reduceCtorEq, Int.reduceToNat, Int.reducePow, Nat.reducePow, Nat.reduceMul, Int.reduceLT, Int.reduceLE, Nat.reduceAdd, Nat.reduceLeDiff, Nat.reduceBEq, Nat.reduceSub, Int.reduceSub, Int.reduceMul, Int.reduceNeg, Int.reduceAdd]
    refine Cont.mk (hld _) ?_
    simp (maxSteps := 2000000) (disch := omega) only [go_sem, eq_self, if_true, if_false, reduceCtorEq, Int.reduceToNat, Int.reducePow, Nat.reducePow, Nat.reduceMul, Int.reduceLT, Int.reduceLE, Nat.reduceAdd, Nat.reduceLeDiff, Nat.reduceBEq, Nat.reduceSub, Int.reduceSub, Int.reduceMul, Int.reduceNeg, Int.reduceAdd]
    refine Cont.mk (hdc _) ?_
    simp (maxSteps := 2000000) (disch := omega) only [g1, g2, hq, hqs, go_sem, eq_self, if_true, if_false, reduceCtorEq, Int.reduceToNat, Int.reducePow, Nat.reducePow, Nat.reduceMul, Int.reduceLT, Int.reduceLE, Nat.reduceAdd, Nat.reduceLeDiff, Nat.reduceBEq, Nat.reduceSub, Int.reduceSub, Int.reduceMul, Int.reduceNeg, Int.reduceAdd]
    refine Cont.mk (wakes_c _) ?_
    simp (maxSteps := 2000000) (disch := omega) only [go_sem, eq_self, if_true, if_false, reduceCtorEq, Int.reduceToNat, Int.reducePow, Nat.reducePow, Nat.reduceMul, Int.reduceLT, Int.reduceLE, Nat.reduceAdd, Nat.reduceLeDiff, Nat.reduceBEq, Nat.reduceSub, Int.reduceSub, Int.reduceMul, Int.reduceNeg, Int.reduceAdd]
    exact out (m1.pre.trans ⟨_, rfl⟩) rfl
  · simp (maxSteps := 2000000) (disch := omega) only [hq, hqs, go_sem, eq_self, if_true, if_false, reduceCtorEq, Int.reduceToNat, Int.reducePow, Nat.reducePow, Nat.reduceMul, Int.reduceLT, Int.reduceLE, Nat.reduceAdd, Nat.reduceLeDiff, Nat.reduceBEq, Nat.reduceSub, Int.reduceSub, Int.reduceMul, Int.reduceNeg, Int.reduceAdd]
    refine Cont.mk (mem_c (m1.ext _)) ?_
    simp (maxSteps := 2000000) (disch := omega) only [go_sem, eq_self, if_true, if_false, reduceCtorEq, Int.reduceToNat, Int.reducePow, Nat.reducePow, Nat.reduceMul, Int.reduceLT, Int.reduceLE, Nat.reduceAdd, Nat.reduceLeDiff, Nat.reduceBEq, Nat.reduceSub, Int.reduceSub, Int.reduceMul, Int.reduceNeg, Int.reduceAdd]
    refine Cont.mk (pc_c (m1.ext _)) ?_
    simp (maxSteps := 2000000) (disch := omega) only [e4, go_sem, eq_self, if_true, if_false, reduceCtorEq, Int.reduceToNat, Int.reducePow, Nat.reducePow, Nat.reduceMul, Int.reduceLT, Int.reduceLE, Nat.reduceAdd, Nat.reduceLeDiff, Nat.reduceBEq, Nat.reduceSub, Int.reduceSub, Int.reduceMul, Int.reduceNeg, Int.reduceAdd]
    refine Cont.mk (hld _) ?_
    simp (maxSteps := 2000000) (disch := omega) only [go_sem, eq_self, if_true, if_false, reduceCtorEq, Int.reduceToNat, Int.reducePow, Nat.reducePow, Nat.reduceMul, Int.reduceLT, Int.reduceLE, Nat.reduceAdd, Nat.reduceLeDiff, Nat.reduceBEq, Nat.reduceSub, Int.reduceSub, Int.reduceMul, Int.reduceNeg, Int.reduceAdd]
    refine Cont.mk (hdc _) ?_
    obtain ⟨here, hh⟩ : ∃ b, b = s1.here := ⟨_, rfl⟩
    rw [← hh]
    simp (maxSteps := 2000000) (disch := omega) only [hq, hqs, go_sem, eq_self, if_true, if_false, reduceCtorEq, Int.reduceToNat, Int.reducePow, Nat.reducePow, Nat.reduceMul, Int.reduceLT, Int.reduceLE, Nat.reduceAdd, Nat.reduceLeDiff, Nat.reduceBEq, Nat.reduceSub, Int.reduceSub, Int.reduceMul, Int.reduceNeg, Int.reduceAdd]
    refine Cont.rel (run_c (m1.ext _) 1 ⟨by decide, by decide⟩) ?_
    rintro v G2 ⟨k2, o2, s2, ob2, rfl, -, m2, r2, hk2, hk20⟩
    have hk1 : k2 = 1 := by
      cases r2 with
      | zero => have := hk20 h; omega
      | succ a b c => omega
    subst hk1
    have hq2 : ∀ x l, (G2 ++ (x :: l))[G2.length]? = some x := fun x l => by simp
    have hqs2 : ∀ x y l, (G2 ++ (x :: l)).set G2.length y = G2 ++ (y :: l) := fun x y l => by simp
    obtain ⟨F, hF⟩ : ∃ F, F = endF s2 := ⟨_, rfl⟩
    rw [← hF]
    have pre2 : ∀ l, H <+: G2 ++ l := fun l => m2.pre.trans ⟨_, rfl⟩
    obtain ⟨-, ⟨a, rfl⟩ | ⟨a, b, rfl⟩ | ⟨a, b, c⟩⟩ := r2.one
    · have hF5 : F = 5 := hF
      rw [← hh] at a
      subst hF5
      subst a
      simp (maxSteps := 2000000) (disch := omega) only [hq2, hqs2, go_sem, eq_self, if_true, if_false, reduceCtorEq, Int.reduceToNat, Int.reducePow, Nat.reducePow, Nat.reduceMul, Int.reduceLT, Int.reduceLE, Nat.reduceAdd, Nat.reduceLeDiff, Nat.reduceBEq, Nat.reduceSub, Int.reduceSub, Int.reduceMul, Int.reduceNeg, Int.reduceAdd]
      refine Cont.mk (wakes_c _) ?_
      simp (maxSteps := 2000000) (disch := omega) only [go_sem, eq_self, if_true, if_false, reduceCtorEq, Int.reduceToNat, Int.reducePow, Nat.reducePow, Nat.reduceMul, Int.reduceLT, Int.reduceLE, Nat.reduceAdd, Nat.reduceLeDiff, Nat.reduceBEq, Nat.reduceSub, Int.reduceSub, Int.reduceMul, Int.reduceNeg, Int.reduceAdd]
      exact out (pre2 _) rfl
    · have hF4 : F = 4 := hF
      rw [← hh] at a
      rw [← hE2] at b
      subst hF4
      subst a
      subst b
      simp (maxSteps := 2000000) (disch := omega) only [hq2, hqs2, go_sem, eq_self, if_true, if_false, reduceCtorEq, Int.reduceToNat, Int.reducePow, Nat.reducePow, Nat.reduceMul, Int.reduceLT, Int.reduceLE, Nat.reduceAdd, Nat.reduceLeDiff, Nat.reduceBEq, Nat.reduceSub, Int.reduceSub, Int.reduceMul, Int.reduceNeg, Int.reduceAdd]
      refine Cont.mk (wakes_c _) ?_
      simp (maxSteps := 2000000) (disch := omega) only [go_sem, eq_self, if_true, if_false, reduceCtorEq, Int.reduceToNat, Int.reducePow, Nat.reducePow, Nat.reduceMul, Int.reduceLT, Int.reduceLE, Nat.reduceAdd, Nat.reduceLeDiff, Nat.reduceBEq, Nat.reduceSub, Int.reduceSub, Int.reduceMul, Int.reduceNeg, Int.reduceAdd]
      exact out (pre2 _) rfl
    · have hF4 : F ≠ 4 := by
        rw [hF, endF]; split <;> omega
      rw [← hh] at a
      rw [← hE2] at b
      subst a
      subst b
      simp (maxSteps := 2000000) (disch := omega) only [hq2, hqs2, go_sem, eq_self, if_true, if_false, reduceCtorEq, Int.reduceToNat, Int.reducePow, Nat.reducePow, Nat.reduceMul, Int.reduceLT, Int.reduceLE, Nat.reduceAdd, Nat.reduceLeDiff, Nat.reduceBEq, Nat.reduceSub, Int.reduceSub, Int.reduceMul, Int.reduceNeg, Int.reduceAdd]
      refine Cont.mk (wakes_c _) ?_
      simp (maxSteps := 2000000) (disch := omega) only [go_sem, eq_self, if_true, if_false, reduceCtorEq, Int.reduceToNat, Int.reducePow, Nat.reducePow, Nat.reduceMul, Int.reduceLT, Int.reduceLE, Nat.reduceAdd, Nat.reduceLeDiff, Nat.reduceBEq, Nat.reduceSub, Int.reduceSub, Int.reduceMul, Int.reduceNeg, Int.reduceAdd]
      exact out (pre2 _) rfl
end Go.Proofs.Ytalhmnijkkihgaa

/- The arguments of the row. -/
namespace Go.Proofs.Ytalhmnijkkihgaa
set_option linter.unusedVariables false
set_option linter.unusedSimpArgs false
set_option linter.unusedSectionVars false
open Go.ChangeShapes Go.WideShapes Go.ChangeAt Go.RowKit
theorem Try.laidOut : laidOutB Try.prog = true := by kernel_rfl
theorem Try.own : ownKnob Try.prog.godebug = none := by kernel_rfl
def argL : List TypeId := [22, 32, 9, 3]
theorem argL_ok : dataB Try.prog argL = true := by kernel_rfl
theorem read_words {a : AV} (h : ArgD Try.prog 22 a) : ∃ ws : List Int, a = .d (.sl (ws.map ud)) ∧ ws.length ≤ maxLen ∧ ∀ x ∈ ws, 0 ≤ x ∧ x < 4294967296 := by
  obtain ⟨es, rfl, hl, he⟩ := h.sl Try.underlying22
  have key : ∀ c : List Dat, ∃ n : Int, c ∈ es → c = ud n ∧ 0 ≤ n ∧ n < 4294967296 := fun c => by
    by_cases hc : c ∈ es
    · obtain ⟨n, e, hn⟩ := (he c hc).int_inv Try.underlying32
      exact ⟨n, fun _ => ⟨e, wf_u32 hn⟩⟩
    · exact ⟨0, fun h => absurd h hc⟩
  obtain ⟨F, hF⟩ := Classical.axiomOfChoice key
  refine ⟨es.map F, ?_, by simpa using hl.1, fun x hx => ?_⟩
  · congr 2
    rw [List.map_map]
    symm
    conv => rhs; rw [← List.map_id es]
    exact List.map_congr_left fun c hc => ((hF c hc).1).symm
  · obtain ⟨c, hc, rfl⟩ := List.mem_map.1 hx
    exact (hF c hc).2
end Go.Proofs.Ytalhmnijkkihgaa

/- TopWords, of any argument. -/
namespace Go.Proofs.Ytalhmnijkkihgaa
set_option linter.unusedVariables false
set_option linter.unusedSimpArgs false
set_option linter.unusedSectionVars false
open Go.ChangeShapes Go.WideShapes Go.ChangeAt Go.RowKit
theorem topWords_any {a0 a1 a2 : AV} (h0 : ArgD Try.prog 22 a0) (h1 : ArgD Try.prog 9 a1) (h2 : ArgD Try.prog 3 a2) (v0 v1 v2 : Value) (W : World) (hv : VRs ⟨W.cell?, fun _ _ => none⟩ [a0, a1, a2] [v0, v1, v2]) :
    Calls Try.prog 3 #[v0, v1, v2] W fun e w' => e = .returned (.bool true) ∧ Below W.heap.size W w' := by
  obtain ⟨ws, rfl, _, hr⟩ := read_words h0
  obtain ⟨s, rfl, _⟩ := h1.str Try.underlying9
  obtain ⟨n, rfl, _⟩ := h2.int Try.underlying3
  exact (TopWords_c hr s n []).law (fun a v h => h) hv
end Go.Proofs.Ytalhmnijkkihgaa

/- The row TopWords, proved. -/
namespace Go.Proofs.Ytalhmnijkkihgaa
set_option linter.unusedVariables false
set_option linter.unusedSimpArgs false
set_option linter.unusedSectionVars false
open Go.ChangeShapes Go.WideShapes Go.ChangeAt Go.RowKit

set_option maxRecDepth 100000 in
theorem topWords_lifted (os : Os) (started : os.Started) (H : Type) (enc : TypeId × Value → H) :
    ReturnsInHanded {} Try.checked os 3 .any (Rows.topWordsSpec.pre6 enc Try.prog Try.f3 Rows.topWordsRow.domain false) (Rows.topWordsSpec.post enc Try.prog Try.f3 false true false false) := by
  refine returnsInHanded_of_change_sized (C := Try.checked) Try.own started (by kernel_rfl) Try.func3
    (ChangeSpec.witness6 (enc := enc) (C := Try.checked) false ⟨#[], #[.slice none 0 0, .string ⟨#[]⟩, .int .i64 0], []⟩ 8 (by kernel_rfl) (by kernel_rfl) (by kernel_rfl) (by kernel_rfl)) ?_
  intro W base args ds gs before hval0 hW hcnd hsz _
  have hval : ∀ (j : Nat) t v, Try.f3.params[j]? = some t → args[j]? = some v → Value.okWide Try.prog W .any base t v := hval0
  have hW' := hW
  obtain ⟨p, q, hA0, hV, rfl, hfz, hnd⟩ := hW
  have hA : DataW.TrodAll enc Try.prog W 0 (fun _ => true) true Try.f3.params.toList args.toList ds p := hA0
  rw [Try.params3] at hA hval hsz
  obtain ⟨v0, v1, v2, d0, d1, d2, p0, p1, p2, rfl, rfl, rfl, h0, h1, h2⟩ := trodAll_three hA
  obtain ⟨rfl, rfl⟩ := trodVars_none hV
  obtain ⟨a0, ha0, hr0⟩ := read_val argL_ok (by decide) (hval 0 22 v0 rfl rfl) h0 (fun n hn => of_decide_eq_true (List.all_eq_true.1 hsz n (DataW.weights_mem_each (j := 0) rfl rfl n hn)))
  obtain ⟨a1, ha1, hr1⟩ := read_val argL_ok (by decide) (hval 1 9 v1 rfl rfl) h1 (fun n hn => of_decide_eq_true (List.all_eq_true.1 hsz n (DataW.weights_mem_each (j := 1) rfl rfl n hn)))
  obtain ⟨a2, ha2, hr2⟩ := read_val argL_ok (by decide) (hval 2 3 v2 rfl rfl) h2 (fun n hn => of_decide_eq_true (List.all_eq_true.1 hsz n (DataW.weights_mem_each (j := 2) rfl rfl n hn)))
  clear hA0 hval0
  simp only [List.append_nil] at hW'
  have hlt := hW'.lt
  refine (topWords_any ha0 ha1 ha2 v0 v1 v2 W (.cons hr0 (.cons hr1 (.cons hr2 .nil)))).mono fun e W' ⟨he, hw⟩ => ?_
  subst he
  exact ⟨_, rfl, post_of_below (pa := p0 ++ (p1 ++ p2)) (pv := []) hW' (fun _ _ _ => trodAll_mk1 (shut_bool Try.underlying4 _)) (fun sp hsp => trodAll_mk3 (WideElems.Trod_stays Try.laidOut (by kernel_rfl) (of_decide_eq_true (by kernel_rfl)) h0 (fun x hx => hw.same (hlt x (by simp [hx]))) (fun x hx => hsp x (by simp [hx]))) (WideElems.Trod_stays Try.laidOut (by kernel_rfl) (of_decide_eq_true (by kernel_rfl)) h1 (fun x hx => hw.same (hlt x (by simp [hx]))) (fun x hx => hsp x (by simp [hx]))) (WideElems.Trod_stays Try.laidOut (by kernel_rfl) (of_decide_eq_true (by kernel_rfl)) h2 (fun x hx => hw.same (hlt x (by simp [hx]))) (fun x hx => hsp x (by simp [hx])))) (fun _ _ => rfl) (by simp)
    hw (ok_one (by kernel_rfl) rfl (okWide_bool_mk Try.underlying4 _))⟩

theorem topWords_holds : Rows.TopWordsSaid :=
  OpenClaim.holds_of_wide 3 Try.f3 rfl rfl rfl rfl rfl rfl rfl ⟨rfl, rfl, rfl, rfl, rfl⟩ rfl rfl rfl rfl rfl (by kernel_rfl) Try.func3 (by kernel_rfl)
    (of_decide_eq_true (by kernel_rfl)) (by unfold Func.isWrapper; first | (rw [if_pos (by decide +kernel)]; kernel_rfl) | (rw [if_neg (by decide +kernel)]; exact ⟨rfl, rfl⟩))
    (fun os started H enc _ => topWords_lifted os started H enc)
end Go.Proofs.Ytalhmnijkkihgaa
