/- cpu.Machine.step. -/
import Derived.Test.YtmgmoamcbnkbfaaGreatDoorYC6
set_option linter.unusedVariables false
set_option linter.unusedSimpArgs false
set_option linter.unusedSectionVars false
namespace Go.Proofs.YtmgmoamcbnkbfaaGreatDoor
set_option linter.unusedSimpArgs false
set_option linter.unusedVariables false
set_option maxRecDepth 20000
set_option maxHeartbeats 1000000
open Go.RowKit

/-- What Decode tells of a word. -/
noncomputable def decF (w : Int) : In × Int := open Classical in if h : ∃ p : In × Int, DecP w p.1 p.2 then h.choose else (inZ, 0)
noncomputable def decE (w : Int) : Int := (decF w).2
noncomputable def decX (w : Int) : In := (decF w).1
theorem dec_spec {w : Int} (hw : U32 w) : DecP w (decX w) (decE w) := by
  obtain ⟨x, e, hd⟩ := dec_ex w hw
  have h : ∃ p : In × Int, DecP w p.1 p.2 := ⟨(x, e), hd⟩
  rw [decX, decE, decF, dif_pos h]
  exact h.choose_spec
/-- What stands where the machine stands. -/
def St.word (s : St) : Int := (ldF s.ws (s.pc * 4)).1
def St.here (s : St) : Bool := (ldF s.ws (s.pc * 4)).2
/-- One step. -/
noncomputable def stepF (s : St) : St :=
  if s.here = false then { s with en := 5 } else if decE s.word = 0 then
    (if (decX s.word).f = 2 then movF { s with pc := s.pc + 1 } (decX s.word) else if (decX s.word).f = 3 then jmpF { s with pc := s.pc + 1 } (decX s.word) else recF { s with pc := s.pc + 1 } (decX s.word))
  else { s with en := 4 }
theorem step_c {H0 H : List ABlk} {mb pb wb : Nat} {o : AV} {s : St} (hm : MAt H0 H mb pb wb o s) :
    ACalls Tryz.prog 22 [.ptr mb 0] H (PutO H0 H mb pb wb o (stepF s)) := by
  have hlt : mb < H.length := (List.getElem?_eq_some_iff.1 hm.m).1
  have h16 := hm.r16
  have hml := hm.m
  have hpc := hm.pc
  obtain ⟨A, hA⟩ : ∃ A, A = s.regs.map wv := ⟨_, rfl⟩
  have hl : A.length = 16 := by rw [hA, List.length_map]; exact h16
  have d21 : ∀ B, List.drop 21 (A ++ B) = B.drop 5 := fun B => drp hl 5
  have d22 : ∀ B, List.drop 22 (A ++ B) = B.drop 6 := fun B => drp hl 6
  have s26 : ∀ x B, List.take 26 (A ++ B) ++ x :: List.drop 27 (A ++ B) = A ++ (B.take 10 ++ x :: B.drop 11) := fun x B => stB hl 10 x
  have s21 : ∀ x B, List.take 21 (A ++ B) ++ x :: List.drop 22 (A ++ B) = A ++ (B.take 5 ++ x :: B.drop 6) := fun x B => stB hl 5 x
  have he := hm.endd
  have hml2 := hml
  rw [← hA] at hml2
  simp only [bC] at hml2
  rw [← hA] at he
  have e4 : s.pc % 4294967296 * 4 % 4294967296 = s.pc * 4 := by omega
  refine ACalls.enter Tryz.func22 cc22 rr22 fun hcl => ?_
  simp only [Tryz.ntmps22, c22, r22]
  refine W.seq_reg ?_
  simp (maxSteps := 2000000) (disch := omega) only [go_sem, seval, eq_self, if_true, if_false, reduceCtorEq]
  refine W.cut (fun s' H' => ∃ w ok, (s.here = true → w = s.word) ∧ ok = s.here ∧ s' = [.ptr mb 0, .any, wv w, bv ok] ++ List.replicate 63 .any ∧ H' = H) (wpA.W ?_) ?_
  · refine W.pchain follows (by decide +kernel) ?_
    simp (maxSteps := 2000000) (disch := omega) only [hml2, d21, d22, hl, go_sem, seval, eq_self, if_true, if_false, reduceCtorEq]
    refine PCont.mk (size_c hm.mem) ?_
    by_cases h : s.pc < s.ws.length
    · simp (maxSteps := 2000000) (disch := omega) only [go_sem, seval, eq_self, if_true, if_false, reduceCtorEq]
      refine W.pchain follows (by decide +kernel) ?_
      simp (maxSteps := 2000000) (disch := omega) only [hml2, d21, d22, hl, e4, go_sem, seval, eq_self, if_true, if_false, reduceCtorEq]
      refine PCont.mk (load_c hm.mem _ (by omega) (by omega)) ?_
      simp (maxSteps := 2000000) (disch := omega) only [go_sem, seval, eq_self, if_true, if_false, reduceCtorEq]
      exact ⟨_, _, Wk.slots (by (try simp only [List.replicate, List.cons_append, List.nil_append]); repeat' first | exact WkL.nil | refine WkL.cons (Wk1.rfl _) ?_ | refine WkL.cons Wk1.esl ?_ | refine WkL.cons (Wk1.gsl _ _ _) ?_ | refine WkL.cons (Wk1.any _) ?_), _, _, fun _ => rfl, rfl, rfl, rfl⟩
    · simp (maxSteps := 2000000) (disch := omega) only [go_sem, seval, eq_self, if_true, if_false, reduceCtorEq]
      refine ⟨_, _, Wk.slots (by (try simp only [List.replicate, List.cons_append, List.nil_append]); repeat' first | exact WkL.nil | refine WkL.cons (Wk1.rfl _) ?_ | refine WkL.cons Wk1.esl ?_ | refine WkL.cons (Wk1.gsl _ _ _) ?_ | refine WkL.cons (Wk1.any _) ?_), 0, false, fun h' => ?_, ?_, rfl, rfl⟩
      · rw [St.here, ldF, if_neg (by omega)] at h'; cases h'
      · rw [St.here, ldF, if_neg (by omega)]
  rintro s' H' ⟨w, ok, hw, rfl, rfl, rfl⟩
  refine wpA.W ?_
  cases hh : s.here
  · simp (maxSteps := 2000000) (disch := omega) only [hml2, s26, hl, go_sem, seval, eq_self, if_true, if_false, reduceCtorEq]
    rw [stepF, if_pos hh]
    exact Ret.keep ⟨rfl, o, .set, he 5 s.tr⟩
  have hw := hw hh
  subst hw
  have uw : U32 s.word := ldF_u hm.mem _
  have hd := dec_spec uw
  rw [stepF, if_neg (by rw [hh]; decide)]
  generalize decE s.word = e at *
  generalize decX s.word = x at *
  obtain ⟨hx, hee, hdc⟩ := id hd
  simp (maxSteps := 2000000) (disch := omega) only [go_sem, seval, eq_self, if_true, if_false, reduceCtorEq]
  refine Cont.mk (hdc _) ?_
  have hq : ∀ a, (H' ++ [a])[H'.length]? = some a := fun a => by simp
  have hk : ∀ l, (H' ++ l)[mb]? = some (.cells (A ++ [wv s.h, bv s.fl.n, bv s.fl.z, bv s.fl.c, bv s.fl.v, iv s.pc, .ptr pb 0, sv s.inp, iv s.rd, o, iv s.en, iv s.tr])) := fun l => by rw [List.getElem?_append_left hlt]; exact hml2
  have hs1 : ∀ a b : ABlk, (H' ++ [a]).set H'.length b = H' ++ [b] := fun a b => by simp
  have m0 := hm.ext [.cells x.cs]
  rcases hee with ⟨rfl, -⟩ | rfl
  rotate_left
  · have he2 := m0.endd 4 s.tr
    rw [← hA] at he2
    simp (maxSteps := 2000000) (disch := omega) only [hq, hs1, hk, s26, hl, go_sem, seval, eq_self, if_true, if_false, reduceCtorEq]
    exact Ret.keep ⟨rfl, o, Fx.app.trans .set, he2⟩
  have hhr : s.pc < s.ws.length := by
    have := hh
    simp only [St.here, ldF] at this
    split at this
    · omega
    · cases this
  have hlen := hm.mem.len
  obtain ⟨s1, hs1'⟩ : ∃ s1 : St, s1 = { s with pc := s.pc + 1 } := ⟨_, rfl⟩
  rw [if_pos rfl, ← hs1']
  have m1 := m0.put s1 (by rw [hs1']; exact ⟨rfl, rfl⟩) (by rw [hs1']; exact h16) (by rw [hs1']; exact hm.ru) (by rw [hs1']; exact hm.hu) (by rw [hs1']; exact ⟨by simp only; omega, by simp only; omega⟩) (by rw [hs1']; exact hm.rd)
  have hcell : s1.regs.map wv ++ bC s1 pb o = A ++ [wv s.h, bv s.fl.n, bv s.fl.z, bv s.fl.c, bv s.fl.v, iv (s.pc + 1), .ptr pb 0, sv s.inp, iv s.rd, o, iv s.en, iv s.tr] := by rw [hs1', hA]; rfl
  have hq2 : ∀ a b : ABlk, ((H' ++ [a]).set mb b)[H'.length]? = some a := fun a b => by rw [List.getElem?_set_ne (by omega)]; simp
  obtain ⟨f, u, v, a, b, c, op, im⟩ := x
  rw [hcell] at m1
  by_cases f2 : f = 2
  · simp (maxSteps := 2000000) (disch := omega) only [hq, hs1, hk, d21, s21, hl, hq2, go_sem, seval, eq_self, if_true, if_false, reduceCtorEq]
    refine Cont.rel (moves_c m1 hx) ?_
    rintro v H' ⟨rfl, o', fx, m'⟩
    simp (maxSteps := 2000000) (disch := omega) only [go_sem, seval, eq_self, if_true, if_false, reduceCtorEq]
    exact Ret.keep ⟨rfl, o', (Fx.app.trans .set).trans fx, m'⟩
  by_cases f3 : f = 3
  · simp (maxSteps := 2000000) (disch := omega) only [hq, hs1, hk, d21, s21, hl, hq2, go_sem, seval, eq_self, if_true, if_false, reduceCtorEq]
    refine Cont.rel (jumps_c m1 hx) ?_
    rintro v H' ⟨rfl, rfl, m'⟩
    simp (maxSteps := 2000000) (disch := omega) only [go_sem, seval, eq_self, if_true, if_false, reduceCtorEq]
    exact Ret.keep ⟨rfl, o, (Fx.app.trans .set).trans .set, m'⟩
  · simp (maxSteps := 2000000) (disch := omega) only [hq, hs1, hk, d21, s21, hl, hq2, go_sem, seval, eq_self, if_true, if_false, reduceCtorEq]
    refine Cont.rel (reckons_c m1 hx) ?_
    rintro v H' ⟨rfl, rfl, m'⟩
    simp (maxSteps := 2000000) (disch := omega) only [go_sem, seval, eq_self, if_true, if_false, reduceCtorEq]
    exact Ret.keep ⟨rfl, o, (Fx.app.trans .set).trans .set, m'⟩
end Go.Proofs.YtmgmoamcbnkbfaaGreatDoor

/- cpu.Machine.Run. -/
namespace Go.Proofs.YtmgmoamcbnkbfaaGreatDoor
set_option linter.unusedSimpArgs false
set_option linter.unusedVariables false
set_option maxRecDepth 20000
set_option maxHeartbeats 1000000
open Go.RowKit

/-- A run: how many steps, and what it leaves. -/
noncomputable def runF : Nat → St → Nat × St
  | 0, s => (0, s)
  | n + 1, s => if s.en = 0 then ((runF n (stepF s)).1 + 1, (runF n (stepF s)).2) else (0, s)
theorem runF_end {n : Nat} {s : St} (h : s.en ≠ 0) : runF n s = (0, s) := by
  cases n with
  | zero => rfl
  | succ n => rw [runF, if_neg h]
def bytes8 (L : List Int) : List UInt8 := L.map fun n => UInt8.ofNat n.toNat
/-- The bytes that were put out. -/
theorem out_bytes {H0 H : List ABlk} {L : List Int} {o : AV} (h : OutAt H0 H L o) : ∃ E, (∀ H, elemsA H 1 o = some E) ∧ bytesOf E = some (bytes8 L) ∧ isStr o = false := by
  rcases h with ⟨rfl, rfl⟩ | ⟨ob, rfl, -, -, -⟩
  · exact ⟨[], fun _ => rfl, rfl, rfl⟩
  · have : ∀ L : List Int, bytesOf ((L.map ob8).map (·.map AV.d)) = some (bytes8 L) := by
      intro L
      induction L with
      | nil => rfl
      | cons e L ih => simp only [List.map_cons, List.map_nil, bytesOf, ob8, bytes8] at ih ⊢; rw [ih]
    exact ⟨_, fun _ => by simp only [elemsA, if_true], this L, rfl⟩
theorem MAt.other {H0 H : List ABlk} {mb pb wb : Nat} {o : AV} {s : St} (h : MAt H0 H mb pb wb o s) {c : Nat} (x : ABlk) (h1 : c ≠ mb) (h2 : c ≠ pb) (h3 : c ≠ wb) (h4 : c ∉ refs o) (h5 : H0.length ≤ c) : MAt H0 (H.set c x) mb pb wb o s := by
  refine ⟨pre_set h.pre h5 _, by rw [List.getElem?_set_ne h1]; exact h.m, ⟨by rw [List.getElem?_set_ne h2]; exact h.mem.p, by rw [List.getElem?_set_ne h3]; exact h.mem.w, h.mem.len, h.mem.rng⟩, ?_, h.lo, h.ne, h.r16, h.ru, h.hu, h.pc, h.rd⟩
  rcases h.out with h' | ⟨ob, rfl, k2, k3⟩
  · exact .inl h'
  · refine .inr ⟨ob, rfl, ?_, k3⟩
    rw [List.getElem?_set_ne (fun e => h4 (by simp only [refs, List.mem_singleton]; exact e))]; exact k2
structure Rg where
  k : Nat
  H : List ABlk
  o : AV
  s : St
structure RgI (H0 H1 : List ABlk) (mb pb wb : Nat) (o : AV) (s : St) (fuel : Int) (g : Rg) : Prop where
  m : MAt H0 g.H mb pb wb g.o g.s
  f : Fx mb wb o H1 g.o g.H
  r : runF fuel.toNat s = (g.k + (runF (fuel.toNat - g.k) g.s).1, (runF (fuel.toNat - g.k) g.s).2)
  k : g.k ≤ fuel
def endF (s : St) : Int := if s.en = 0 then 3 else s.en
/-- What a run tells. -/
noncomputable def outV (s : St) (fuel : Int) : AV := .tup [.agg [iv (endF (runF fuel.toNat s).2), iv (runF fuel.toNat s).2.tr, sv ⟨(bytes8 (runF fuel.toNat s).2.out).toArray⟩, iv (runF fuel.toNat s).1, iv (runF fuel.toNat s).2.rd], iv 0]
theorem run_c {H0 H : List ABlk} {mb pb wb : Nat} {o : AV} {s : St} (hm : MAt H0 H mb pb wb o s) (fuel : Int) (hf : 0 ≤ fuel ∧ fuel ≤ 4194304) :
    ACalls Tryz.prog 9 [.ptr mb 0, iv fuel] H fun v H' => v = outV s fuel ∧ ∃ o', Fx mb wb o H o' H' ∧ MAt H0 H' mb pb wb o' (runF fuel.toNat s).2 := by
  refine ACalls.enter Tryz.func9 cc9 rr9 fun hcl => ?_
  simp only [Tryz.ntmps9, c9, r9]
  refine W.seq_reg ?_
  simp (maxSteps := 2000000) (disch := omega) only [go_sem, seval, eq_self, if_true, if_false, reduceCtorEq]
  refine W.cut (fun s' H' => s' = [.ptr mb 0, iv fuel, .any, .any, .ptr H.length 0, iv 0] ++ List.replicate 53 .any ∧ H' = H ++ [.cells [iv 0, iv 0, sv ⟨#[]⟩, iv 0, iv 0]]) (wpA.W ?_) ?_
  · simp (maxSteps := 2000000) (disch := omega) only [ptrsA, go_sem, seval, eq_self, if_true, if_false, reduceCtorEq]
    exact ⟨_, _, Wk.slots (by (try simp only [List.replicate, List.cons_append, List.nil_append]); repeat' first | exact WkL.nil | refine WkL.cons (Wk1.rfl _) ?_ | refine WkL.cons Wk1.esl ?_ | refine WkL.cons (Wk1.gsl _ _ _) ?_ | refine WkL.cons (Wk1.any _) ?_), rfl, rfl⟩
  rintro s' H' ⟨rfl, rfl⟩
  refine W.seq_reg ?_
  simp (maxSteps := 2000000) (disch := omega) only [go_sem, seval, eq_self, if_true, if_false, reduceCtorEq]
  have hI0 : RgI H0 (H ++ [.cells [iv 0, iv 0, sv ⟨#[]⟩, iv 0, iv 0]]) mb pb wb o s fuel ⟨0, H ++ [.cells [iv 0, iv 0, sv ⟨#[]⟩, iv 0, iv 0]], o, s⟩ := ⟨hm.ext _, .rfl, by simp, hf.1⟩
  have hlt : mb < H.length := (List.getElem?_eq_some_iff.1 hm.m).1
  have hwl : wb < H.length := (List.getElem?_eq_some_iff.1 hm.mem.w).1
  obtain ⟨S, hS⟩ : ∃ S : Rg → List AV, ∀ g, S g = [.ptr mb 0, iv fuel, .any, .any, .ptr H.length 0, iv 0, iv g.k] ++ List.replicate 52 .any := ⟨_, fun _ => rfl⟩
  refine W.cut (fun s' H' => ∃ g : Rg, RgI H0 (H ++ [.cells [iv 0, iv 0, sv ⟨#[]⟩, iv 0, iv 0]]) mb pb wb o s fuel g ∧ runF fuel.toNat s = (g.k, g.s) ∧ s' = S g ∧ H' = g.H) (wpA.W ?_) ?_
  · simp (maxSteps := 2000000) (disch := omega) only [go_sem, seval, eq_self, if_true, if_false, reduceCtorEq]
    refine W.loopG (γ := Rg) (fun g => fuel.toNat - g.k) S (fun g => g.H) (RgI H0 (H ++ [.cells [iv 0, iv 0, sv ⟨#[]⟩, iv 0, iv 0]]) mb pb wb o s fuel) ⟨0, H ++ [.cells [iv 0, iv 0, sv ⟨#[]⟩, iv 0, iv 0]], o, s⟩ (Wk.slots (by rw [hS]; exact WkL.tail 7 _ rfl (by simp only [List.take_succ_cons, List.take_zero]; repeat' first | exact WkL.nil | refine WkL.cons (Wk1.rfl _) ?_ | refine WkL.cons Wk1.esl ?_ | refine WkL.cons (Wk1.gsl _ _ _) ?_ | refine WkL.cons (Wk1.any _) ?_))) hI0 (fun g hg => ?_)
    have h16 := hg.m.r16
    have hml := hg.m.m
    have hgk := hg.k
    obtain ⟨A, hA⟩ : ∃ A, A = g.s.regs.map wv := ⟨_, rfl⟩
    have hl : A.length = 16 := by rw [hA, List.length_map]; exact h16
    have d26 : ∀ B, List.drop 26 (A ++ B) = B.drop 10 := fun B => drp hl 10
    simp only [bC] at hml
    rw [← hA] at hml
    simp (maxSteps := 2000000) (disch := omega) only [hS, c9l0, hml, d26, hl, go_sem, seval, eq_self, if_true, if_false, reduceCtorEq]
    by_cases he : g.s.en = 0
    · by_cases hk : (g.k : Int) < fuel
      · simp (maxSteps := 2000000) (disch := omega) only [go_sem, seval, eq_self, if_true, if_false, reduceCtorEq]
        refine Cont.rel (step_c hg.m) ?_
        rintro v H' ⟨rfl, o', fx, m'⟩
        simp (maxSteps := 2000000) (disch := omega) only [go_sem, seval, eq_self, if_true, if_false, reduceCtorEq]
        have hr := hg.r
        obtain ⟨q, hq⟩ : ∃ q, fuel.toNat - g.k = q + 1 := ⟨fuel.toNat - g.k - 1, by omega⟩
        rw [hq, runF, if_pos he] at hr
        refine Nxt.mk ⟨g.k + 1, H', o', stepF g.s⟩ (by simp only; omega) (Wk.slots (by rw [hS]; exact WkL.tail 7 _ rfl (by simp only [List.take_succ_cons, List.take_zero]; repeat' first | exact WkL.nil | refine WkL.cons (Wk1.rfl _) ?_ | refine WkL.cons Wk1.esl ?_ | refine WkL.cons (Wk1.gsl _ _ _) ?_ | refine WkL.cons (Wk1.any _) ?_))) ⟨m', hg.f.trans fx, ?_, by simp only; omega⟩
        simp only
        rw [show fuel.toNat - (g.k + 1) = q by omega, hr]
        simp only [Prod.mk.injEq, and_true]
        omega
      · simp (maxSteps := 2000000) (disch := omega) only [go_sem, seval, eq_self, if_true, if_false, reduceCtorEq]
        have hr := hg.r
        rw [show fuel.toNat - g.k = 0 by omega, runF] at hr
        exact ⟨_, _, Wk.slots (by (try simp only [List.replicate, List.cons_append, List.nil_append]); repeat' first | exact WkL.nil | refine WkL.cons (Wk1.rfl _) ?_ | refine WkL.cons Wk1.esl ?_ | refine WkL.cons (Wk1.gsl _ _ _) ?_ | refine WkL.cons (Wk1.any _) ?_), g, hg, hr, rfl, rfl⟩
    · simp (maxSteps := 2000000) (disch := omega) only [go_sem, seval, eq_self, if_true, if_false, reduceCtorEq]
      have hr := hg.r
      rw [runF_end he] at hr
      exact ⟨_, _, Wk.slots (by (try simp only [List.replicate, List.cons_append, List.nil_append]); repeat' first | exact WkL.nil | refine WkL.cons (Wk1.rfl _) ?_ | refine WkL.cons Wk1.esl ?_ | refine WkL.cons (Wk1.gsl _ _ _) ?_ | refine WkL.cons (Wk1.any _) ?_), g, hg, hr, rfl, rfl⟩
  rintro s' H' ⟨g, hg, hgf, rfl, rfl⟩
  have h16 := hg.m.r16
  have hml := hg.m.m
  have hgl : mb < g.H.length := (List.getElem?_eq_some_iff.1 hml).1
  rw [outV, hgf]
  obtain ⟨E, hE, hby, hns⟩ := out_bytes hg.m.out
  obtain ⟨by', hbe⟩ : ∃ by', by' = bytes8 g.s.out := ⟨_, rfl⟩
  rw [← hbe] at hby ⊢
  simp only [isStr] at hns
  obtain ⟨A, hA⟩ : ∃ A, A = g.s.regs.map wv := ⟨_, rfl⟩
  have hl : A.length = 16 := by rw [hA, List.length_map]; exact h16
  have d26 : ∀ B, List.drop 26 (A ++ B) = B.drop 10 := fun B => drp hl 10
  have d27 : ∀ B, List.drop 27 (A ++ B) = B.drop 11 := fun B => drp hl 11
  have d25 : ∀ B, List.drop 25 (A ++ B) = B.drop 9 := fun B => drp hl 9
  have d24 : ∀ B, List.drop 24 (A ++ B) = B.drop 8 := fun B => drp hl 8
  simp only [bC] at hml
  rw [← hA] at hml
  have hk : ∀ l, (g.H ++ l)[mb]? = some (.cells (A ++ [wv g.s.h, bv g.s.fl.n, bv g.s.fl.z, bv g.s.fl.c, bv g.s.fl.v, iv g.s.pc, .ptr pb 0, sv g.s.inp, iv g.s.rd, g.o, iv g.s.en, iv g.s.tr])) := fun l => by rw [List.getElem?_append_left hgl]; exact hml
  have hres : g.H[H.length]? = some (.cells [iv 0, iv 0, sv ⟨#[]⟩, iv 0, iv 0]) := by
    rw [hg.f.out H.length (by simp) (by omega) (by omega) (fun h => ?_)]
    · simp
    · rcases hm.out with ⟨rfl, -⟩ | ⟨ob, rfl, h2, -⟩
      · simp [refs] at h
      · simp only [refs, List.mem_singleton] at h
        rw [← h, List.getElem?_eq_none (Nat.le_refl _)] at h2
        cases h2
  have hrl : H.length < g.H.length := (List.getElem?_eq_some_iff.1 hres).1
  have hso : ∀ x, g.H.set g.H.length x = g.H := fun x => List.set_eq_of_length_le (Nat.le_refl _)
  refine W.seq ?_
  rw [hS]
  refine W.dregD [([], [g.H.length]), ([], [g.H.length]), ([], [g.H.length]), ([], [g.H.length]), ([], [g.H.length]), ([], [g.H.length]), ([], [g.H.length]), ([], [g.H.length]), ([], [g.H.length]), ([], [g.H.length]), ([], [g.H.length]), ([], [g.H.length]), ([], [g.H.length]), ([], [g.H.length]), ([], [g.H.length]), ([], [g.H.length]), ([], [g.H.length]), ([], [g.H.length]), ([], [g.H.length]), ([g.H.length], []), ([g.H.length], [])] follows (by decide +kernel) rfl rfl (fun z hz b' hb' => ?_) ?_
  · simp only [List.mem_cons, List.not_mem_nil, or_false] at hz
    rcases hz with rfl | rfl | rfl | rfl | rfl | rfl | rfl | rfl | rfl | rfl | rfl | rfl | rfl | rfl | rfl | rfl | rfl | rfl | rfl | rfl | rfl <;> simp at hb' <;> subst hb' <;> exact ⟨by simp, by rw [List.getElem?_eq_none (by simp)]; exact fun h => by cases h⟩
  repeat (rw [DC_p]; simp (maxSteps := 2000000) (disch := omega) only [kill_c, List.set_nil, hso, hml, d24, d25, d26, d27, hl, hE, hby, hns, go_sem, seval, eq_self, if_true, if_false, reduceCtorEq])
  refine WStep.al (by simp) (by simp) ?_
  simp (maxSteps := 2000000) (disch := omega) only [go_sem, seval, eq_self, if_true, if_false, reduceCtorEq]
  refine WStep.ev (by simp) (by simp) ?_
  simp (maxSteps := 2000000) (disch := omega) only [go_sem, seval, eq_self, if_true, if_false, reduceCtorEq]
  refine ⟨FrOk.put 0 _ (by simp) rfl, ?_⟩
  try simp (maxSteps := 2000000) (disch := omega) only [go_sem, seval, eq_self, if_true, if_false, reduceCtorEq]
  have hq : ∀ x, (g.H ++ [x])[g.H.length]? = some x := fun x => by simp
  have hqs : ∀ x y, (g.H ++ [x]).set g.H.length y = g.H ++ [y] := fun x y => by simp
  have hr1 : ∀ l, (g.H ++ l)[H.length]? = some (.cells [iv 0, iv 0, sv ⟨#[]⟩, iv 0, iv 0]) := fun l => by rw [List.getElem?_append_left hrl]; exact hres
  have hrs : ∀ x l, (g.H ++ l).set H.length x = g.H.set H.length x ++ l := fun x l => List.set_append_left _ _ hrl
  have hrq : ∀ x l, (g.H.set H.length x ++ l)[H.length]? = some x := fun x l => by rw [List.getElem?_append_left (by rw [List.length_set]; exact hrl)]; exact List.getElem?_set_self hrl
  have hpl : pb < H.length := (List.getElem?_eq_some_iff.1 hm.mem.p).1
  have hno : H.length ∉ refs g.o := fun h => by
    rcases hg.f.new _ h with h | h
    · rcases hm.out with ⟨rfl, -⟩ | ⟨ob, rfl, h2, -⟩
      · simp [refs] at h
      · simp only [refs, List.mem_singleton] at h
        rw [← h, List.getElem?_eq_none (Nat.le_refl _)] at h2
        cases h2
    · simp at h; omega
  have fin : ∀ x l, Fx mb wb o H g.o (g.H.set H.length x ++ l) ∧ MAt H0 (g.H.set H.length x ++ l) mb pb wb g.o g.s := fun x l =>
    ⟨⟨fun c h0 h1 h2 h3 => by
        rw [List.getElem?_append_left (by rw [List.length_set]; omega), List.getElem?_set_ne (by omega), hg.f.out c (by simp; omega) h1 h2 h3, List.getElem?_append_left h0],
      by simp; omega, fun c hc => (hg.f.new c hc).imp id fun h => by simp at h; omega⟩,
      (hg.m.other x (by omega) (by omega) (by omega) hno (Nat.le_trans hm.pre.length_le (Nat.le_refl _))).ext l⟩
  have hrs5 : resA [RC.c 4 5 true, RC.t 5] = resA [RC.c 4 5 true, RC.t 5] := rfl
  refine wpA.W ?_
  by_cases he : g.s.en = 0
  · simp (maxSteps := 2000000) (disch := omega) only [hk, d26, hl, hq, hqs, hr1, hrs, hrq, go_sem, seval, eq_self, if_true, if_false, reduceCtorEq]
    exact Ret.keep ⟨by rw [endF, if_pos he], g.o, (fin _ _).1, (fin _ _).2⟩
  · simp (maxSteps := 2000000) (disch := omega) only [hk, d26, hl, hq, hqs, hr1, hrs, hrq, go_sem, seval, eq_self, if_true, if_false, reduceCtorEq]
    exact Ret.keep ⟨by rw [endF, if_neg he], g.o, (fin _ _).1, (fin _ _).2⟩
end Go.Proofs.YtmgmoamcbnkbfaaGreatDoor

/- cpu.New. -/
namespace Go.Proofs.YtmgmoamcbnkbfaaGreatDoor
set_option linter.unusedSimpArgs false
set_option linter.unusedVariables false
set_option maxRecDepth 20000
set_option maxHeartbeats 1000000
open Go.RowKit

def St.new (ws : List Int) (inp : ByteArray) : St := ⟨List.replicate 16 0, 0, ⟨false, false, false, false⟩, 0, ws, inp, 0, 0, 0, []⟩
theorem cnew_c {ws : List Int} (hl : ws.length ≤ 2000) (hr : ∀ x ∈ ws, U32 x) (inp : ByteArray) (hi : inp.size ≤ 4000) (H : List ABlk) :
    ACalls Tryz.prog 7 [.d (.sl (ws.map ud)), iv 0, sv inp] H fun v H' => ∃ mb pb wb, v = .tup [.ptr mb 0, iv 0] ∧ MAt H H' mb pb wb .esl (St.new ws inp) := by
  refine ACalls.into Tryz.func7 cc7 rr7 fun hcl => ?_
  simp (maxSteps := 2000000) (disch := omega) only [Tryz.ntmps7, c7, r7, go_sem, seval, eq_self, if_true, if_false, reduceCtorEq]
  refine Cont.mk (new_c (by omega) _) ?_
  simp (maxSteps := 2000000) (disch := omega) only [List.length_map, go_sem, seval, eq_self, if_true, if_false, reduceCtorEq]
  refine Ret.keep ⟨H.length + 2, H.length + 1, H.length, rfl, ⟨_, rfl⟩, by rw [List.getElem?_append_right (by omega), Nat.add_sub_cancel_left]; rfl, ⟨by rw [List.getElem?_append_right (by omega), Nat.add_sub_cancel_left]; rfl, by rw [List.getElem?_append_right (by omega), Nat.sub_self]; rfl, ?_, hr⟩, .inl ⟨rfl, rfl⟩, ⟨by omega, by omega, by omega⟩, ⟨by omega, by omega⟩, rfl, fun x hx => ?_, (show U32 0 from ⟨by decide, by decide⟩), (show (0 : Int) ≤ 0 ∧ (0 : Int) < 1073741824 from ⟨by decide, by decide⟩), ⟨Int.le_refl 0, ?_, ?_⟩⟩
  · show ws.length ≤ _; omega
  · rw [List.eq_of_mem_replicate hx]; exact ⟨by decide, by decide⟩
  · show (0 : Int) ≤ (inp.size : Int); omega
  · show inp.size ≤ _; omega
end Go.Proofs.YtmgmoamcbnkbfaaGreatDoor
