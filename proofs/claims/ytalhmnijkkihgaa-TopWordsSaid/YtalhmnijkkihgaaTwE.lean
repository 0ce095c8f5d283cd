/- cpu.Machine.Run. -/
import Derived.Test.YtalhmnijkkihgaaTwD
namespace Go.Proofs.Ytalhmnijkkihgaa
set_option linter.unusedVariables false
set_option linter.unusedSimpArgs false
set_option linter.unusedSectionVars false
set_option linter.unusedSectionVars false
set_option linter.unusedSimpArgs false
set_option linter.unusedVariables false
set_option maxRecDepth 20000
set_option maxHeartbeats 1000000
open Go.RowKit

/-- So many steps. -/
inductive Stps : Nat → St → St → Prop
  | zero (s : St) : Stps 0 s s
  | succ {k : Nat} {s t u : St} : Stps k s t → t.en = 0 → StepP t u → Stps (k + 1) s u
theorem Stps.one {s u : St} (h : Stps 1 s u) : StepP s u := by
  cases h with
  | succ h1 h2 h3 => cases h1; exact h3
/-- The bytes that were put out. -/
theorem out_bytes {H0 H : List ABlk} {mb wb pb : Nat} {o : AV} (h : OutAt H0 H mb wb pb o) : ∃ E l, (∀ H, elemsA H 1 o = some E) ∧ bytesOf E = some l ∧ isStr o = false := by
  rcases h with rfl | ⟨ob, es, rfl, -, -, -, hb⟩
  · exact ⟨[], [], fun _ => rfl, rfl, rfl⟩
  · have : ∀ es : List (List Dat), (∀ e ∈ es, ∃ n : Int, e = [.v (.int .u8 n)]) → ∃ l, bytesOf (es.map (·.map AV.d)) = some l := by
      intro es
      induction es with
      | nil => exact fun _ => ⟨[], rfl⟩
      | cons e es ih =>
        intro h
        obtain ⟨n, rfl⟩ := h e List.mem_cons_self
        obtain ⟨l, hl⟩ := ih fun e he => h e (List.mem_cons_of_mem _ he)
        exact ⟨UInt8.ofNat n.toNat :: l, by simp only [List.map_cons, List.map_nil, bytesOf, hl]⟩
    obtain ⟨l, hl⟩ := this es hb
    exact ⟨_, l, fun _ => by simp only [elemsA, if_true], hl, rfl⟩
theorem MAt.other {H0 H : List ABlk} {mb pb wb : Nat} {o : AV} {s : St} (h : MAt H0 H mb pb wb o s) {c : Nat} (x : ABlk) (h1 : c ≠ mb) (h2 : c ≠ pb) (h3 : c ≠ wb) (h4 : c ∉ refs o) (h5 : H0.length ≤ c) : MAt H0 (H.set c x) mb pb wb o s := by
  refine ⟨pre_set h.pre h5 _, by rw [List.getElem?_set_ne h1]; exact h.m, ⟨by rw [List.getElem?_set_ne h2]; exact h.mem.p, by rw [List.getElem?_set_ne h3]; exact h.mem.w, h.mem.len, h.mem.rng⟩, ?_, h.lo, h.ne, h.r16, h.ru, h.hu, h.pc, h.rd⟩
  rcases h.out with h' | ⟨ob, es, rfl, k2, k3⟩
  · exact .inl h'
  · refine .inr ⟨ob, es, rfl, ?_, k3⟩
    rw [List.getElem?_set_ne (fun e => h4 (by simp only [refs, List.mem_singleton]; exact e))]; exact k2
structure Rg where
  k : Nat
  H : List ABlk
  o : AV
  s : St
structure RgI (H0 H1 : List ABlk) (mb pb wb : Nat) (o : AV) (s : St) (fuel : Int) (g : Rg) : Prop where
  m : MAt H0 g.H mb pb wb g.o g.s
  f : Fx mb wb o H1 g.o g.H
  r : Stps g.k s g.s
  k : g.k ≤ fuel
def endF (s : St) : Int := if s.en = 0 then 3 else s.en
theorem run_c {H0 H : List ABlk} {mb pb wb : Nat} {o : AV} {s : St} (hm : MAt H0 H mb pb wb o s) (fuel : Int) (hf : 0 ≤ fuel ∧ fuel ≤ 4194304) :
    ACalls Try.prog 6 [.ptr mb 0, iv fuel] H fun v H' => ∃ (k : Nat) (o' : AV) (s' : St) (out : ByteArray), v = .tup [.agg [iv (endF s'), iv s'.tr, sv out, iv k, iv s'.rd], iv 0] ∧ Fx mb wb o H o' H' ∧ MAt H0 H' mb pb wb o' s' ∧ Stps k s s' ∧ k ≤ fuel ∧ (s'.en = 0 → k = fuel) := by
  refine ACalls.enter Try.func6 cc6 rr6 fun hcl => ?_
  simp only [Try.ntmps6, c6, r6]
  refine W.seq_reg ?_
  simp (maxSteps := 2000000) (disch := omega) only [go_sem, eq_self, if_true, if_false, reduceCtorEq, Int.reduceToNat, Int.reducePow, Nat.reducePow, Nat.reduceMul, Int.reduceLT, Int.reduceLE, Nat.reduceAdd, Nat.reduceLeDiff, Nat.reduceBEq, Nat.reduceSub, Int.reduceSub, Int.reduceMul, Int.reduceNeg, Int.reduceAdd]
  refine W.cut (fun s' H' => s' = [.ptr mb 0, iv fuel, .any, .any, .ptr H.length 0, iv 0] ++ List.replicate 53 .any ∧ H' = H ++ [.cells [iv 0, iv 0, sv ⟨#[]⟩, iv 0, iv 0]]) (wpA.W ?_) ?_
  · simp (maxSteps := 2000000) (disch := omega) only [ptrsA, go_sem, eq_self, if_true, if_false, reduceCtorEq, Int.reduceToNat, Int.reducePow, Nat.reducePow, Nat.reduceMul, Int.reduceLT, Int.reduceLE, Nat.reduceAdd, Nat.reduceLeDiff, Nat.reduceBEq, Nat.reduceSub, Int.reduceSub, Int.reduceMul, Int.reduceNeg, Int.reduceAdd]
    exact ⟨_, _, Wk.slots (by (try simp only [List.replicate, List.cons_append, List.nil_append]); repeat' first | exact WkL.nil | refine WkL.cons (Wk1.rfl _) ?_ | refine WkL.cons Wk1.esl ?_ | refine WkL.cons (Wk1.gsl _ _ _) ?_ | refine WkL.cons (Wk1.any _) ?_), rfl, rfl⟩
  rintro s' H' ⟨rfl, rfl⟩
  refine W.seq_reg ?_
  simp (maxSteps := 2000000) (disch := omega) only [go_sem, eq_self, if_true, if_false, reduceCtorEq, Int.reduceToNat, Int.reducePow, Nat.reducePow, Nat.reduceMul, Int.reduceLT, Int.reduceLE, Nat.reduceAdd, Nat.reduceLeDiff, Nat.reduceBEq, Nat.reduceSub, Int.reduceSub, Int.reduceMul, Int.reduceNeg, Int.reduceAdd]
  have hI0 : RgI H0 (H ++ [.cells [iv 0, iv 0, sv ⟨#[]⟩, iv 0, iv 0]]) mb pb wb o s fuel ⟨0, H ++ [.cells [iv 0, iv 0, sv ⟨#[]⟩, iv 0, iv 0]], o, s⟩ := ⟨hm.ext _, .rfl, .zero s, hf.1⟩
  have hlt : mb < H.length := (List.getElem?_eq_some_iff.1 hm.m).1
  have hwl : wb < H.length := (List.getElem?_eq_some_iff.1 hm.mem.w).1
  obtain ⟨S, hS⟩ : ∃ S : Rg → List AV, ∀ g, S g = [.ptr mb 0, iv fuel, .any, .any, .ptr H.length 0, iv 0, iv g.k] ++ List.replicate 52 .any := ⟨_, fun _ => rfl⟩
  refine W.cut (fun s' H' => ∃ g : Rg, RgI H0 (H ++ [.cells [iv 0, iv 0, sv ⟨#[]⟩, iv 0, iv 0]]) mb pb wb o s fuel g ∧ (g.s.en = 0 → g.k = fuel) ∧ s' = S g ∧ H' = g.H) (wpA.W ?_) ?_
  · simp (maxSteps := 2000000) (disch := omega) only [go_sem, eq_self, if_true, if_false, reduceCtorEq, Int.reduceToNat, Int.reducePow, Nat.reducePow, Nat.reduceMul, Int.reduceLT, Int.reduceLE, Nat.reduceAdd, Nat.reduceLeDiff, Nat.reduceBEq, Nat.reduceSub, Int.reduceSub, Int.reduceMul, Int.reduceNeg, Int.reduceAdd]
    refine W.loopG (γ := Rg) (fun g => fuel.toNat - g.k) S (fun g => g.H) (RgI H0 (H ++ [.cells [iv 0, iv 0, sv ⟨#[]⟩, iv 0, iv 0]]) mb pb wb o s fuel) ⟨0, H ++ [.cells [iv 0, iv 0, sv ⟨#[]⟩, iv 0, iv 0]], o, s⟩ (Wk.slots (by rw [hS]; exact WkL.tail 7 _ rfl (by simp only [List.take_succ_cons, List.take_zero]; repeat' first | exact WkL.nil | refine WkL.cons (Wk1.rfl _) ?_ | refine WkL.cons Wk1.esl ?_ | refine WkL.cons (Wk1.gsl _ _ _) ?_ | refine WkL.cons (Wk1.any _) ?_))) hI0 (fun g hg => ?_)
    have h16 := hg.m.r16
    have hml := hg.m.m
    have hgk := hg.k
    obtain ⟨A, hA⟩ : ∃ A, A = g.s.regs.map wv := ⟨_, rfl⟩
    have hl : A.length = 16 := by rw [hA, List.length_map]; exact h16
    have d26 : ∀ B, List.drop 26 (A ++ B) = B.drop 10 := fun B => drp hl 10
    simp only [bC] at hml
    rw [← hA] at hml
    simp (maxSteps := 2000000) (disch := omega) only [hS, c6l0, hml, d26, hl, go_sem, eq_self, if_true, if_false, reduceCtorEq, Int.reduceToNat, Int.reducePow, Nat.reducePow, Nat.reduceMul, Int.reduceLT, Int.reduceLE, Nat.reduceAdd, Nat.reduceLeDiff, Nat.reduceBEq, Nat.reduceSub, Int.reduceSub, Int.reduceMul, Int.reduceNeg, Int.reduceAdd]
    by_cases he : g.s.en = 0
    · by_cases hk : (g.k : Int) < fuel
      · simp (maxSteps := 2000000) (disch := omega) only [go_sem, eq_self, if_true, if_false, reduceCtorEq, Int.reduceToNat, Int.reducePow, Nat.reducePow, Nat.reduceMul, Int.reduceLT, Int.reduceLE, Nat.reduceAdd, Nat.reduceLeDiff, Nat.reduceBEq, Nat.reduceSub, Int.reduceSub, Int.reduceMul, Int.reduceNeg, Int.reduceAdd]
        refine Cont.rel (step_c hg.m) ?_
        rintro v H' ⟨rfl, o', s', fx, m', sp⟩
        simp (maxSteps := 2000000) (disch := omega) only [go_sem, eq_self, if_true, if_false, reduceCtorEq, Int.reduceToNat, Int.reducePow, Nat.reducePow, Nat.reduceMul, Int.reduceLT, Int.reduceLE, Nat.reduceAdd, Nat.reduceLeDiff, Nat.reduceBEq, Nat.reduceSub, Int.reduceSub, Int.reduceMul, Int.reduceNeg, Int.reduceAdd]
        refine Nxt.mk ⟨g.k + 1, H', o', s'⟩ (by simp only; omega) (Wk.slots (by rw [hS]; exact WkL.tail 7 _ rfl (by simp only [List.take_succ_cons, List.take_zero]; repeat' first | exact WkL.nil | refine WkL.cons (Wk1.rfl _) ?_ | refine WkL.cons Wk1.esl ?_ | refine WkL.cons (Wk1.gsl _ _ _) ?_ | refine WkL.cons (Wk1.any _) ?_))) ⟨m', hg.f.trans fx, hg.r.succ he sp, by simp only; omega⟩
      · simp (maxSteps := 2000000) (disch := omega) only [go_sem, eq_self, if_true, if_false, reduceCtorEq, Int.reduceToNat, Int.reducePow, Nat.reducePow, Nat.reduceMul, Int.reduceLT, Int.reduceLE, Nat.reduceAdd, Nat.reduceLeDiff, Nat.reduceBEq, Nat.reduceSub, Int.reduceSub, Int.reduceMul, Int.reduceNeg, Int.reduceAdd]
        exact ⟨_, _, Wk.slots (by (try simp only [List.replicate, List.cons_append, List.nil_append]); repeat' first | exact WkL.nil | refine WkL.cons (Wk1.rfl _) ?_ | refine WkL.cons Wk1.esl ?_ | refine WkL.cons (Wk1.gsl _ _ _) ?_ | refine WkL.cons (Wk1.any _) ?_), g, hg, fun _ => by omega, rfl, rfl⟩
    · simp (maxSteps := 2000000) (disch := omega) only [go_sem, eq_self, if_true, if_false, reduceCtorEq, Int.reduceToNat, Int.reducePow, Nat.reducePow, Nat.reduceMul, Int.reduceLT, Int.reduceLE, Nat.reduceAdd, Nat.reduceLeDiff, Nat.reduceBEq, Nat.reduceSub, Int.reduceSub, Int.reduceMul, Int.reduceNeg, Int.reduceAdd]
      exact ⟨_, _, Wk.slots (by (try simp only [List.replicate, List.cons_append, List.nil_append]); repeat' first | exact WkL.nil | refine WkL.cons (Wk1.rfl _) ?_ | refine WkL.cons Wk1.esl ?_ | refine WkL.cons (Wk1.gsl _ _ _) ?_ | refine WkL.cons (Wk1.any _) ?_), g, hg, fun h => absurd h he, rfl, rfl⟩
  rintro s' H' ⟨g, hg, hgf, rfl, rfl⟩
  have h16 := hg.m.r16
  have hml := hg.m.m
  have hgl : mb < g.H.length := (List.getElem?_eq_some_iff.1 hml).1
  obtain ⟨E, by', hE, hby, hns⟩ := out_bytes hg.m.out
  simp only [isStr] at hns
  obtain ⟨A, hA⟩ : ∃ A, A = g.s.regs.map wv := ⟨_, rfl⟩
  have hl : A.length = 16 := by rw [hA, List.length_map]; exact h16
  have d26 : ∀ B, List.drop 26 (A ++ B) = B.drop 10 := fun B => drp hl 10
  have d27 : ∀ B, List.drop 27 (A ++ B) = B.drop 11 := fun B => drp hl 11
  have d25 : ∀ B, List.drop 25 (A ++ B) = B.drop 9 := fun B => drp hl 9
  have d24 : ∀ B, List.drop 24 (A ++ B) = B.drop 8 := fun B => drp hl 8
  simp only [bC] at hml
  rw [← hA] at hml
  have hk : ∀ l, (g.H ++ l)[mb]? = some (.cells (A ++ [wv g.s.h, bv g.s.fl.n, bv g.s.fl.z, bv g.s.fl.c, bv g.s.fl.v, iv g.s.pc, .ptr pb 0, sv g.s.inp, iv g.s.rd, g.o, iv g.s.en, iv g.s.tr])) := fun l => by rw [List.getElem?_append_left hgl]; exact hml
  have hres : g.H[H.length]? = some (.cells [iv 0, iv 0, sv ⟨#[]⟩, iv 0, iv 0]) := by
    rw [hg.f.out H.length (by simp) (by omega) (by omega) (fun h => ?_)]
    · simp
    · rcases hm.out with rfl | ⟨ob, es, rfl, h2, -⟩
      · simp [refs] at h
      · simp only [refs, List.mem_singleton] at h
        rw [← h, List.getElem?_eq_none (Nat.le_refl _)] at h2
        cases h2
  have hrl : H.length < g.H.length := (List.getElem?_eq_some_iff.1 hres).1
  have hso : ∀ x, g.H.set g.H.length x = g.H := fun x => List.set_eq_of_length_le (Nat.le_refl _)
  refine W.seq ?_
  rw [hS]
  refine W.dregD [([], [g.H.length]), ([], [g.H.length]), ([], [g.H.length]), ([], [g.H.length]), ([], [g.H.length]), ([], [g.H.length]), ([], [g.H.length]), ([], [g.H.length]), ([], [g.H.length]), ([], [g.H.length]), ([], [g.H.length]), ([], [g.H.length]), ([], [g.H.length]), ([], [g.H.length]), ([], [g.H.length]), ([], [g.H.length]), ([], [g.H.length]), ([], [g.H.length]), ([], [g.H.length]), ([g.H.length], []), ([g.H.length], [])] follows (by decide +kernel) rfl rfl (fun z hz b' hb' => ?_) ?_
  · simp only [List.mem_cons, List.not_mem_nil, or_false] at hz
    rcases hz with rfl | rfl | rfl | rfl | rfl | rfl | rfl | rfl | rfl | rfl | rfl | rfl | rfl | rfl | rfl | rfl | rfl | rfl | rfl | rfl | rfl <;> simp at hb' <;> subst hb' <;> exact ⟨by simp, by rw [List.getElem?_eq_none (by simp)]; exact fun h => by cases h⟩
  repeat (rw [DC_p]; simp (maxSteps := 2000000) (disch := omega) only [kill_c, List.set_nil, hso, hml, d24, d25, d26, d27, hl, hE, hby, hns, go_sem, eq_self, if_true, if_false, reduceCtorEq, Int.reduceToNat, Int.reducePow, Nat.reducePow, Nat.reduceMul, Int.reduceLT, Int.reduceLE, Nat.reduceAdd, Nat.reduceLeDiff, Nat.reduceBEq, Nat.reduceSub, Int.reduceSub, Int.reduceMul, Int.reduceNeg, Int.reduceAdd])
  refine WStep.al (by simp) (by simp) ?_
  simp (maxSteps := 2000000) (disch := omega) only [go_sem, eq_self, if_true, if_false, reduceCtorEq, Int.reduceToNat, Int.reducePow, Nat.reducePow, Nat.reduceMul, Int.reduceLT, Int.reduceLE, Nat.reduceAdd, Nat.reduceLeDiff, Nat.reduceBEq, Nat.reduceSub, Int.reduceSub, Int.reduceMul, Int.reduceNeg, Int.reduceAdd]
  refine WStep.ev (by simp) (by simp) ?_
  simp (maxSteps := 2000000) (disch := omega) only [go_sem, eq_self, if_true, if_false, reduceCtorEq, Int.reduceToNat, Int.reducePow, Nat.reducePow, Nat.reduceMul, Int.reduceLT, Int.reduceLE, Nat.reduceAdd, Nat.reduceLeDiff, Nat.reduceBEq, Nat.reduceSub, Int.reduceSub, Int.reduceMul, Int.reduceNeg, Int.reduceAdd]
  refine ⟨FrOk.put 0 _ (by simp) rfl, ?_⟩
  try simp (maxSteps := 2000000) (disch := omega) only [go_sem, eq_self, if_true, if_false, reduceCtorEq, Int.reduceToNat, Int.reducePow, Nat.reducePow, Nat.reduceMul, Int.reduceLT, Int.reduceLE, Nat.reduceAdd, Nat.reduceLeDiff, Nat.reduceBEq, Nat.reduceSub, Int.reduceSub, Int.reduceMul, Int.reduceNeg, Int.reduceAdd]
  have hq : ∀ x, (g.H ++ [x])[g.H.length]? = some x := fun x => by simp
  have hqs : ∀ x y, (g.H ++ [x]).set g.H.length y = g.H ++ [y] := fun x y => by simp
  have hr1 : ∀ l, (g.H ++ l)[H.length]? = some (.cells [iv 0, iv 0, sv ⟨#[]⟩, iv 0, iv 0]) := fun l => by rw [List.getElem?_append_left hrl]; exact hres
  have hrs : ∀ x l, (g.H ++ l).set H.length x = g.H.set H.length x ++ l := fun x l => List.set_append_left _ _ hrl
  have hrq : ∀ x l, (g.H.set H.length x ++ l)[H.length]? = some x := fun x l => by rw [List.getElem?_append_left (by rw [List.length_set]; exact hrl)]; exact List.getElem?_set_self hrl
  have hpl : pb < H.length := (List.getElem?_eq_some_iff.1 hm.mem.p).1
  have hno : H.length ∉ refs g.o := fun h => by
    rcases hg.f.new _ h with h | h
    · rcases hm.out with rfl | ⟨ob, es, rfl, h2, -⟩
      · simp [refs] at h
      · simp only [refs, List.mem_singleton] at h
        rw [← h, List.getElem?_eq_none (Nat.le_refl _)] at h2
        cases h2
    · simp at h; omega
  have fin : ∀ x l, Fx mb wb o H g.o (g.H.set H.length x ++ l) ∧ MAt H0 (g.H.set H.length x ++ l) mb pb wb g.o g.s := fun x l =>
    ⟨⟨fun c h0 h1 h2 h3 => by
        rw [List.getElem?_append_left (by rw [List.length_set]; omega), List.getElem?_set_ne (by omega), hg.f.out c (by simp; omega) h1 h2 h3, List.getElem?_append_left h0],
      by simp; omega, fun c hc => (hg.f.new c hc).imp id fun h => by simp at h; omega⟩,
      (hg.m.other x (by omega) (by omega) (by omega) hno (Nat.le_trans hm.pre.length_le (Nat.le_refl _))).ext l⟩
  have hrs5 : resA [RC.c 4 5 true, RC.t 5] = resA [RC.c 4 5 true, RC.t 5] := rfl
  refine wpA.W ?_
  by_cases he : g.s.en = 0
  · simp (maxSteps := 2000000) (disch := omega) only [hk, d26, hl, hq, hqs, hr1, hrs, hrq, go_sem, eq_self, if_true, if_false, reduceCtorEq, Int.reduceToNat, Int.reducePow, Nat.reducePow, Nat.reduceMul, Int.reduceLT, Int.reduceLE, Nat.reduceAdd, Nat.reduceLeDiff, Nat.reduceBEq, Nat.reduceSub, Int.reduceSub, Int.reduceMul, Int.reduceNeg, Int.reduceAdd]
    exact Ret.keep ⟨g.k, g.o, g.s, ⟨by'.toArray⟩, by rw [endF, if_pos he], (fin _ _).1, (fin _ _).2, hg.r, hg.k, hgf⟩
  · simp (maxSteps := 2000000) (disch := omega) only [hk, d26, hl, hq, hqs, hr1, hrs, hrq, go_sem, eq_self, if_true, if_false, reduceCtorEq, Int.reduceToNat, Int.reducePow, Nat.reducePow, Nat.reduceMul, Int.reduceLT, Int.reduceLE, Nat.reduceAdd, Nat.reduceLeDiff, Nat.reduceBEq, Nat.reduceSub, Int.reduceSub, Int.reduceMul, Int.reduceNeg, Int.reduceAdd]
    exact Ret.keep ⟨g.k, g.o, g.s, ⟨by'.toArray⟩, by rw [endF, if_neg he], (fin _ _).1, (fin _ _).2, hg.r, hg.k, hgf⟩
end Go.Proofs.Ytalhmnijkkihgaa

/- cpu.New. -/
namespace Go.Proofs.Ytalhmnijkkihgaa
set_option linter.unusedVariables false
set_option linter.unusedSimpArgs false
set_option linter.unusedSectionVars false
set_option linter.unusedSimpArgs false
set_option linter.unusedVariables false
set_option maxRecDepth 20000
set_option maxHeartbeats 1000000
open Go.RowKit

def St.new (ws : List Int) (inp : ByteArray) : St := ⟨List.replicate 16 0, 0, ⟨false, false, false, false⟩, 0, ws, inp, 0, 0, 0⟩
theorem cnew_c {ws : List Int} (hl : ws.length ≤ 2000) (hr : ∀ x ∈ ws, U32 x) (inp : ByteArray) (hi : inp.size ≤ 4000) (H : List ABlk) :
    ACalls Try.prog 5 [.d (.sl (ws.map ud)), iv 0, sv inp] H fun v H' => ∃ mb pb wb, v = .tup [.ptr mb 0, iv 0] ∧ MAt H H' mb pb wb .esl (St.new ws inp) := by
  refine ACalls.into Try.func5 cc5 rr5 fun hcl => ?_
  simp (maxSteps := 2000000) (disch := omega) only [Try.ntmps5, c5, r5, go_sem, eq_self, if_true, if_false, reduceCtorEq, Int.reduceToNat, Int.reducePow, Nat.reducePow, Nat.reduceMul, Int.reduceLT, Int.reduceLE, Nat.reduceAdd, Nat.reduceLeDiff, Nat.reduceBEq, Nat.reduceSub, Int.reduceSub, Int.reduceMul, Int.reduceNeg, Int.reduceAdd]
  refine Cont.mk (new_c (by omega) _) ?_
  simp (maxSteps := 2000000) (disch := omega) only [List.length_map, go_sem, eq_self, if_true, if_false, reduceCtorEq, Int.reduceToNat, Int.reducePow, Nat.reducePow, Nat.reduceMul, Int.reduceLT, Int.reduceLE, Nat.reduceAdd, Nat.reduceLeDiff, Nat.reduceBEq, Nat.reduceSub, Int.reduceSub, Int.reduceMul, Int.reduceNeg, Int.reduceAdd]
  refine Ret.keep ⟨H.length + 2, H.length + 1, H.length, rfl, ⟨_, rfl⟩, by rw [List.getElem?_append_right (by omega), Nat.add_sub_cancel_left]; rfl, ⟨by rw [List.getElem?_append_right (by omega), Nat.add_sub_cancel_left]; rfl, by rw [List.getElem?_append_right (by omega), Nat.sub_self]; rfl, ?_, hr⟩, .inl rfl, ⟨by omega, by omega, by omega⟩, ⟨by omega, by omega⟩, rfl, fun x hx => ?_, (show U32 0 from ⟨by decide, by decide⟩), (show (0 : Int) ≤ 0 ∧ (0 : Int) < 1073741824 from ⟨by decide, by decide⟩), ⟨Int.le_refl 0, ?_, ?_⟩⟩
  · show ws.length ≤ _; omega
  · rw [List.eq_of_mem_replicate hx]; exact ⟨by decide, by decide⟩
  · show (0 : Int) ≤ (inp.size : Int); omega
  · show inp.size ≤ _; omega
theorem mem_c {H0 H : List ABlk} {mb pb wb : Nat} {o : AV} {s : St} (hm : MAt H0 H mb pb wb o s) : ACalls Try.prog 7 [.ptr mb 0] H fun v H' => v = .ptr pb 0 ∧ H' = H := by
  have hml := hm.m
  obtain ⟨A, hA⟩ : ∃ A, A = s.regs.map wv := ⟨_, rfl⟩
  have hl : A.length = 16 := by rw [hA, List.length_map]; exact hm.r16
  have d22 : ∀ B, List.drop 22 (A ++ B) = B.drop 6 := fun B => drp hl 6
  rw [← hA] at hml
  simp only [bC] at hml
  refine ACalls.into Try.func7 cc7 rr7 fun hcl => ?_
  simp (maxSteps := 2000000) (disch := omega) only [Try.ntmps7, c7, r7, ptrsA, hml, d22, hl, go_sem, eq_self, if_true, if_false, reduceCtorEq, Int.reduceToNat, Int.reducePow, Nat.reducePow, Nat.reduceMul, Int.reduceLT, Int.reduceLE, Nat.reduceAdd, Nat.reduceLeDiff, Nat.reduceBEq, Nat.reduceSub, Int.reduceSub, Int.reduceMul, Int.reduceNeg, Int.reduceAdd]
  exact Ret.keep ⟨rfl, rfl⟩
theorem pc_c {H0 H : List ABlk} {mb pb wb : Nat} {o : AV} {s : St} (hm : MAt H0 H mb pb wb o s) : ACalls Try.prog 9 [.ptr mb 0] H fun v H' => v = iv s.pc ∧ H' = H := by
  have hml := hm.m
  obtain ⟨A, hA⟩ : ∃ A, A = s.regs.map wv := ⟨_, rfl⟩
  have hl : A.length = 16 := by rw [hA, List.length_map]; exact hm.r16
  have d21 : ∀ B, List.drop 21 (A ++ B) = B.drop 5 := fun B => drp hl 5
  rw [← hA] at hml
  simp only [bC] at hml
  refine ACalls.into Try.func9 cc9 rr9 fun hcl => ?_
  simp (maxSteps := 2000000) (disch := omega) only [Try.ntmps9, c9, r9, ptrsA, hml, d21, hl, go_sem, eq_self, if_true, if_false, reduceCtorEq, Int.reduceToNat, Int.reducePow, Nat.reducePow, Nat.reduceMul, Int.reduceLT, Int.reduceLE, Nat.reduceAdd, Nat.reduceLeDiff, Nat.reduceBEq, Nat.reduceSub, Int.reduceSub, Int.reduceMul, Int.reduceNeg, Int.reduceAdd]
  exact Ret.keep ⟨rfl, rfl⟩
end Go.Proofs.Ytalhmnijkkihgaa
