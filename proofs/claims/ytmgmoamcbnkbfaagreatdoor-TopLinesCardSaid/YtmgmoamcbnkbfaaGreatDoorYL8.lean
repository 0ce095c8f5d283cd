/- Words as lines and back: the end of the walk. -/
import Derived.Test.YtmgmoamcbnkbfaaGreatDoorYL7
import Derived.Test.YtmgmoamcbnkbfaaGreatDoorYEvT
set_option linter.unusedVariables false
set_option linter.unusedSimpArgs false
set_option linter.unusedSectionVars false
namespace Go.Proofs.YtmgmoamcbnkbfaaGreatDoor
set_option linter.unusedSimpArgs false
set_option linter.unusedVariables false
set_option maxRecDepth 20000
set_option maxHeartbeats 2000000
open Go.RowKit

theorem keepW_c {ws : List Int} (hl : ws.length ≤ 2000) (H : List ABlk) : ACalls Tryz.prog 8 [.d (.sl (ws.map ud)), .d (.sl (ws.map ud))] H fun v H' => v = bv true ∧ H' = H := by
  refine ACalls.into Tryz.func8 cc8 rr8 fun hcl => ?_
  simp (maxSteps := 2000000) (disch := omega) only [Tryz.ntmps8, c8, r8, List.length_map, go_sem, seval, eq_self, if_true, if_false, reduceCtorEq]
  obtain ⟨S, hS⟩ : ∃ S : Nat → List AV, ∀ k, S k = [.d (.sl (ws.map ud)), .d (.sl (ws.map ud)), .any, .any, .any, iv k] ++ List.replicate 20 .any := ⟨_, fun _ => rfl⟩
  refine W.loopG (γ := Nat) (fun k => ws.length - k) S (fun k => H) (fun k => k ≤ ws.length) 0 (Wk.slots (by rw [hS]; exact WkL.tail 6 _ rfl (by simp only [List.take_succ_cons, List.take_zero]; repeat' first | exact WkL.nil | refine WkL.cons (Wk1.rfl _) ?_ | refine WkL.cons Wk1.esl ?_ | refine WkL.cons (Wk1.gsl _ _ _) ?_ | refine WkL.cons (Wk1.any _) ?_))) (Nat.zero_le _) (fun k hk => ?_)
  by_cases hkn : k < ws.length
  · obtain ⟨w, hw⟩ : ∃ w, ws[k]? = some w := ⟨_, List.getElem?_eq_getElem hkn⟩
    have hia := wd_ia hw
    simp (maxSteps := 2000000) (disch := omega) only [hS, c8l0, List.length_map, go_sem, seval, eq_self, if_true, if_false, reduceCtorEq]
    refine W.pchain follows (by decide +kernel) ?_
    simp (maxSteps := 2000000) (disch := omega) only [hia, go_sem, seval, eq_self, if_true, if_false, reduceCtorEq]
    exact Nxt.mk (k + 1) (by omega) (Wk.slots (by rw [hS]; exact WkL.tail 6 _ rfl (by simp only [List.take_succ_cons, List.take_zero]; repeat' first | exact WkL.nil | refine WkL.cons (Wk1.rfl _) ?_ | refine WkL.cons Wk1.esl ?_ | refine WkL.cons (Wk1.gsl _ _ _) ?_ | refine WkL.cons (Wk1.any _) ?_))) (by omega)
  · have e8 : k = ws.length := by omega
    subst e8
    simp (maxSteps := 2000000) (disch := omega) only [hS, c8l0, List.length_map, go_sem, seval, eq_self, if_true, if_false, reduceCtorEq]
    exact Ret.keep ⟨rfl, rfl⟩
theorem same_c (a b c d : Int) (s : ByteArray) (H : List ABlk) : ACalls Tryz.prog 10 [.agg [iv a, iv b, sv s, iv c, iv d], .agg [iv a, iv b, sv s, iv c, iv d]] H fun v H' => v = bv true ∧ H' = H := by
  refine ACalls.into Tryz.func10 cc10 rr10 fun hcl => ?_
  simp (maxSteps := 2000000) (disch := omega) only [Tryz.ntmps10, c10, r10, go_sem, seval, eq_self, if_true, if_false, reduceCtorEq]
  exact Ret.drop _ H (Nat.le_refl _) hcl (.rfl _) (by simp [refs, refs.refsL]) ⟨rfl, rfl⟩
theorem MAt.move {H0 H H0' H' : List ABlk} {mb pb wb : Nat} {s : St} (h : MAt H0 H mb pb wb .esl s) (hp : H0' <+: H') (hl : H0'.length ≤ H0.length) (hm : H'[mb]? = H[mb]?) (hpb : H'[pb]? = H[pb]?) (hw : H'[wb]? = H[wb]?) : MAt H0' H' mb pb wb .esl s := by
  refine ⟨hp, by rw [hm]; exact h.m, ⟨by rw [hpb]; exact h.mem.p, by rw [hw]; exact h.mem.w, h.mem.len, h.mem.rng⟩, ?_, ⟨Nat.le_trans hl h.lo.1, Nat.le_trans hl h.lo.2.1, Nat.le_trans hl h.lo.2.2⟩, h.ne, h.r16, h.ru, h.hu, h.pc, h.rd⟩
  rcases h.out with h1 | ⟨ob, h1, -⟩
  · exact .inl h1
  · cases h1
theorem topLines_c {ws : List Int} (hr : ∀ x ∈ ws, U32 x) (inp : ByteArray) (fuel : Int) (H : List ABlk) :
    ACalls Tryz.prog 3 [.d (.sl (ws.map ud)), sv inp, iv fuel] H fun v H' => v = bv true ∧ H' = H := by
  refine ACalls.into Tryz.func3 cc3 rr3 fun hcl => ?_
  by_cases g1 : 2000 < ws.length
  · simp (maxSteps := 2000000) (disch := omega) only [Tryz.ntmps3, c3, r3, List.length_map, go_sem, seval, eq_self, if_true, if_false, reduceCtorEq]
    refine Cont.mk (wakes_c _) ?_
    simp (maxSteps := 2000000) (disch := omega) only [go_sem, seval, eq_self, if_true, if_false, reduceCtorEq]
    exact Ret.keep ⟨rfl, rfl⟩
  have hsi : ((inp.size : Nat) : Int) = inp.size := rfl
  by_cases g2 : 4000 < inp.size
  · simp (maxSteps := 2000000) (disch := omega) only [Tryz.ntmps3, c3, r3, List.length_map, go_sem, seval, eq_self, if_true, if_false, reduceCtorEq]
    refine Cont.mk (wakes_c _) ?_
    simp (maxSteps := 2000000) (disch := omega) only [go_sem, seval, eq_self, if_true, if_false, reduceCtorEq]
    exact Ret.keep ⟨rfl, rfl⟩
  by_cases g3 : fuel < 0
  · simp (maxSteps := 2000000) (disch := omega) only [Tryz.ntmps3, c3, r3, List.length_map, go_sem, seval, eq_self, if_true, if_false, reduceCtorEq]
    refine Cont.mk (wakes_c _) ?_
    simp (maxSteps := 2000000) (disch := omega) only [go_sem, seval, eq_self, if_true, if_false, reduceCtorEq]
    exact Ret.keep ⟨rfl, rfl⟩
  by_cases g4 : 20000 < fuel
  · simp (maxSteps := 2000000) (disch := omega) only [Tryz.ntmps3, c3, r3, List.length_map, go_sem, seval, eq_self, if_true, if_false, reduceCtorEq]
    refine Cont.mk (wakes_c _) ?_
    simp (maxSteps := 2000000) (disch := omega) only [go_sem, seval, eq_self, if_true, if_false, reduceCtorEq]
    exact Ret.keep ⟨rfl, rfl⟩
  have hl : ws.length ≤ 2000 := by omega
  have he : ∀ H : List ABlk, elemsA H 1 (.d (.sl (ws.map ud))) = some ((ws.map ud).map (·.map .d)) := fun H => by simp [elemsA]
  have hdd := datss_map_d (ws.map ud)
  obtain ⟨a, b, c, d, s, hout⟩ : ∃ a b c d s, outV (St.new ws inp) fuel = .tup [.agg [iv a, iv b, sv s, iv c, iv d], iv 0] := ⟨_, _, _, _, _, rfl⟩
  simp (maxSteps := 2000000) (disch := omega) only [Tryz.ntmps3, c3, r3, List.length_map, he, hdd, go_sem, seval, eq_self, if_true, if_false, reduceCtorEq]
  refine Cont.mk (lines_c hl hr _) ?_
  simp (maxSteps := 2000000) (disch := omega) only [go_sem, seval, eq_self, if_true, if_false, reduceCtorEq]
  refine Cont.mk (words_c hl hr _) ?_
  simp (maxSteps := 2000000) (disch := omega) only [List.length_map, he, hdd, go_sem, seval, eq_self, if_true, if_false, reduceCtorEq]
  refine Cont.rel (cnew_c hl hr inp (by omega) _) ?_
  rintro v H1 ⟨mb, pb, wb, rfl, m1⟩
  simp (maxSteps := 2000000) (disch := omega) only [go_sem, seval, eq_self, if_true, if_false, reduceCtorEq]
  refine Cont.rel (cnew_c hl hr inp (by omega) _) ?_
  rintro v H2 ⟨mb2, pb2, wb2, rfl, m2⟩
  simp (maxSteps := 2000000) (disch := omega) only [go_sem, seval, eq_self, if_true, if_false, reduceCtorEq]
  refine Cont.mk (keepW_c hl _) ?_
  simp (maxSteps := 2000000) (disch := omega) only [go_sem, seval, eq_self, if_true, if_false, reduceCtorEq]
  have m1' : MAt H H2 mb pb wb .esl (St.new ws inp) := by
    obtain ⟨l, rfl⟩ := m2.pre
    exact m1.ext l
  refine Cont.rel (run_c m1' fuel (by omega)) ?_
  rintro v H3 ⟨rfl, o1, f1, m3⟩
  rw [hout]
  simp (maxSteps := 2000000) (disch := omega) only [go_sem, seval, eq_self, if_true, if_false, reduceCtorEq]
  have ab : ∀ {b : Nat} {k : ABlk} {G : List ABlk}, G[b]? = some k → b < G.length := fun h => (List.getElem?_eq_some_iff.1 h).1
  have lt1 : mb < H1.length := ab m1.m
  have lw1 : wb < H1.length := ab m1.mem.w
  have kp : ∀ q, H1.length ≤ q → q < H2.length → ∀ l, (H3 ++ l)[q]? = H2[q]? := fun q h1 h2 l => by
    have hle := f1.len
    rw [List.getElem?_append_left (by omega)]
    exact f1.out q h2 (by omega) (by omega) (by simp [refs])
  have m2' : ∀ l, MAt H (H3 ++ l) mb2 pb2 wb2 .esl (St.new ws inp) := fun l => m2.move (m3.pre.trans ⟨l, rfl⟩) m1.pre.length_le (kp _ m2.lo.1 (ab m2.m) _) (kp _ m2.lo.2.1 (ab m2.mem.p) _) (kp _ m2.lo.2.2 (ab m2.mem.w) _)
  refine Cont.rel (run_c (m2' _) fuel (by omega)) ?_
  rintro v H4 ⟨rfl, o2, f2, m4⟩
  rw [hout]
  have hle := f1.len
  have hle2 := f2.len
  rw [List.length_append] at hle2
  have kq : H4[H3.length]? = some (.cells [iv a, iv b, sv s, iv c, iv d]) := by
    rw [f2.out H3.length (by rw [List.length_append]; simp) (by have := ab m2.m; omega) (by have := ab m2.mem.w; omega) (by simp [refs]), List.getElem?_append_right (Nat.le_refl _), Nat.sub_self]
    rfl
  have kq2 : ∀ y, (H4 ++ [y])[H3.length]? = some (.cells [iv a, iv b, sv s, iv c, iv d]) := fun y => by
    rw [List.getElem?_append_left (ab kq)]; exact kq
  simp (maxSteps := 2000000) (disch := omega) only [kq, kq2, go_sem, seval, eq_self, if_true, if_false, reduceCtorEq]
  refine Cont.mk (same_c a b c d s _) ?_
  simp (maxSteps := 2000000) (disch := omega) only [go_sem, seval, eq_self, if_true, if_false, reduceCtorEq]
  refine Cont.mk (wakes_c _) ?_
  simp (maxSteps := 2000000) (disch := omega) only [go_sem, seval, eq_self, if_true, if_false, reduceCtorEq]
  exact Ret.pre _ H (m4.pre.trans ⟨_, rfl⟩) (Nat.le_refl _) hcl (.rfl _) (by simp [refs]) ⟨rfl, rfl⟩
end Go.Proofs.YtmgmoamcbnkbfaaGreatDoor
