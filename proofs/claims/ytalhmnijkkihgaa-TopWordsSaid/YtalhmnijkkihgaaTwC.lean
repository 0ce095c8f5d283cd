/- The machine; cpu.Machine.sets. -/
import Derived.Test.YtalhmnijkkihgaaR4
import Derived.Test.YtalhmnijkkihgaaA3
import Derived.Test.YtalhmnijkkihgaaA4
import Derived.Test.YtalhmnijkkihgaaA5
import Derived.Test.YtalhmnijkkihgaaA6
namespace Go.Proofs.Ytalhmnijkkihgaa
set_option linter.unusedVariables false
set_option linter.unusedSimpArgs false
set_option linter.unusedSectionVars false
set_option linter.unusedSectionVars false
set_option linter.unusedSimpArgs false
set_option linter.unusedVariables false
set_option maxRecDepth 20000
set_option maxHeartbeats 1000000
open Go.RowKit

abbrev sv (s : ByteArray) : AV := .d (.v (.string s))
/-- A machine. -/
structure St where
  regs : List Int
  h : Int
  fl : Fl
  pc : Int
  ws : List Int
  inp : ByteArray
  rd : Int
  en : Int
  tr : Int
def bC (s : St) (pb : Nat) (o : AV) : List AV := [wv s.h, bv s.fl.n, bv s.fl.z, bv s.fl.c, bv s.fl.v, iv s.pc, .ptr pb 0, sv s.inp, iv s.rd, o, iv s.en, iv s.tr]
def OutAt (H0 H : List ABlk) (mb wb pb : Nat) (o : AV) : Prop :=
  o = .esl ∨ ∃ ob es, o = .gsl ob 1 es ∧ H[ob]? = some (.row 5 1 es.length) ∧ H0.length ≤ ob ∧ es.length ≤ 4096 ∧ ∀ e ∈ es, ∃ n : Int, e = [.v (.int .u8 n)]
structure MAt (H0 H : List ABlk) (mb pb wb : Nat) (o : AV) (s : St) : Prop where
  pre : H0 <+: H
  m : H[mb]? = some (.cells (s.regs.map wv ++ bC s pb o))
  mem : MemAt H pb wb s.ws
  out : OutAt H0 H mb wb pb o
  lo : H0.length ≤ mb ∧ H0.length ≤ pb ∧ H0.length ≤ wb
  ne : mb ≠ wb ∧ mb ≠ pb
  r16 : s.regs.length = 16
  ru : ∀ x ∈ s.regs, U32 x
  hu : U32 s.h
  pc : 0 ≤ s.pc ∧ s.pc < 1073741824
  rd : 0 ≤ s.rd ∧ s.rd ≤ s.inp.size ∧ s.inp.size ≤ 4096
/-- The machine's own block is written. -/
theorem MAt.put {H0 H : List ABlk} {mb pb wb : Nat} {o : AV} {s : St} (h : MAt H0 H mb pb wb o s) (s' : St) (hw : s'.ws = s.ws) (h16 : s'.regs.length = 16) (hru : ∀ x ∈ s'.regs, U32 x) (hhu : U32 s'.h) (hpc : 0 ≤ s'.pc ∧ s'.pc < 1073741824)
    (hrd : 0 ≤ s'.rd ∧ s'.rd ≤ s'.inp.size ∧ s'.inp.size ≤ 4096) : MAt H0 (H.set mb (.cells (s'.regs.map wv ++ bC s' pb o))) mb pb wb o s' := by
  have hlt : mb < H.length := (List.getElem?_eq_some_iff.1 h.m).1
  refine ⟨pre_set h.pre h.lo.1 _, List.getElem?_set_self hlt, ?_, ?_, h.lo, h.ne, h16, hru, hhu, hpc, hrd⟩
  · rw [hw]
    exact ⟨by rw [List.getElem?_set_ne h.ne.2]; exact h.mem.p, by rw [List.getElem?_set_ne h.ne.1]; exact h.mem.w, h.mem.len, h.mem.rng⟩
  · rcases h.out with h1 | ⟨ob, es, h1, h2, h3⟩
    · exact .inl h1
    · refine .inr ⟨ob, es, h1, ?_, h3⟩
      have hne : mb ≠ ob := fun e => by
        have := h.m
        rw [e, h2] at this
        cases this
      rw [List.getElem?_set_ne hne]; exact h2
section
variable {A B : List AV} (hA : A.length = 16)
include hA
theorem drp (k : Nat) : (A ++ B).drop (16 + k) = B.drop k := by rw [List.drop_append, hA, List.drop_eq_nil_of_le (by omega), List.nil_append, Nat.add_sub_cancel_left]
theorem tkp (k : Nat) : (A ++ B).take (16 + k) = A ++ B.take k := by rw [List.take_append, hA, List.take_of_length_le (by omega), Nat.add_sub_cancel_left]
theorem stB (k : Nat) (x : AV) : (A ++ B).take (16 + k) ++ x :: (A ++ B).drop (16 + k + 1) = A ++ (B.take k ++ x :: B.drop (k + 1)) := by
  rw [tkp hA, show 16 + k + 1 = 16 + (k + 1) by omega, drp hA, List.append_assoc]
end
theorem reg_at {R : List Int} {B : List AV} (h16 : R.length = 16) {a : Nat} (ha : a < 16) : ((R.map wv ++ B).drop a).take 1 = [wv (R.getD a 0)] := by
  rw [List.drop_append_of_le_length (by rw [List.length_map]; omega), List.take_append_of_le_length (by rw [List.length_drop, List.length_map]; omega)]
  exact wv_get1 (by omega)
theorem reg_set {R : List Int} {B : List AV} (h16 : R.length = 16) {a : Nat} (ha : a < 16) (v : Int) : (R.map wv ++ B).take a ++ AV.d (.v (.int .u32 v)) :: (R.map wv ++ B).drop (a + 1) = (R.set a v).map wv ++ B := by
  rw [List.take_append_of_le_length (by rw [List.length_map]; omega), List.drop_append_of_le_length (by rw [List.length_map]; omega), ← List.cons_append, ← List.append_assoc, wv_set (by omega)]
theorem reg_rng {R : List Int} (h : ∀ x ∈ R, U32 x) (a : Nat) : U32 (R.getD a 0) := getD_rng h a
theorem set_rng {R : List Int} (h : ∀ x ∈ R, U32 x) (a : Nat) {v : Int} (hv : U32 v) : ∀ x ∈ R.set a v, U32 x := fun x hx => by
  rcases List.mem_or_eq_of_mem_set hx with hx | rfl
  · exact h x hx
  · exact hv
def St.sets (s : St) (a : Nat) (r : Int) : St := { s with regs := s.regs.set a r, fl := ⟨decide (r / 2147483648 = 1), decide (r = 0), s.fl.c, s.fl.v⟩ }
theorem sets_c {H0 H : List ABlk} {mb pb wb : Nat} {o : AV} {s : St} (hm : MAt H0 H mb pb wb o s) {a r : Int} (ha : 0 ≤ a ∧ a < 16) (hr : U32 r) : ACalls Try.prog 33 [.ptr mb 0, iv a, wv r] H fun v H' => v = .tup [] ∧ H' = H.set mb (.cells ((s.sets a.toNat r).regs.map wv ++ bC (s.sets a.toNat r) pb o)) := by
  obtain ⟨r0, r1⟩ := hr
  refine ACalls.into Try.func33 cc33 rr33 fun hcl => ?_
  have hlt : mb < H.length := (List.getElem?_eq_some_iff.1 hm.m).1
  have h16 := hm.r16
  have hml := hm.m
  have ha2 : a.toNat < 16 := by omega
  have hrs := reg_set (B := bC s pb o) h16 ha2 r
  have hss : ∀ x y : ABlk, (H.set mb x).set mb y = H.set mb y := fun x y => List.set_set ..
  have hg : ∀ x : ABlk, (H.set mb x)[mb]? = some x := fun x => List.getElem?_set_self hlt
  simp only [St.sets]
  obtain ⟨A, hA⟩ : ∃ A, A = (s.regs.set a.toNat r).map wv := ⟨_, rfl⟩
  have hl : A.length = 16 := by rw [hA, List.length_map, List.length_set]; exact h16
  rw [← hA] at hrs ⊢
  obtain ⟨A0, hA0⟩ : ∃ A0, A0 = s.regs.map wv := ⟨_, rfl⟩
  have hl0 : A0.length = 16 := by rw [hA0, List.length_map]; exact h16
  rw [← hA0] at hrs hml
  clear hA hA0
  have s17 : ∀ x B, List.take 17 (A ++ B) ++ x :: List.drop 18 (A ++ B) = A ++ (B.take 1 ++ x :: B.drop 2) := fun x B => stB hl 1 x
  have s18 : ∀ x B, List.take 18 (A ++ B) ++ x :: List.drop 19 (A ++ B) = A ++ (B.take 2 ++ x :: B.drop 3) := fun x B => stB hl 2 x
  simp only [bC] at hrs hml ⊢
  simp (maxSteps := 2000000) (disch := omega) only [Try.ntmps33, c33, r33, hml, hrs, hg, hss, s17, s18, hl, hl0, go_sem, eq_self, if_true, if_false, reduceCtorEq, Int.reduceToNat, Int.reducePow, Nat.reducePow, Nat.reduceMul, Int.reduceLT, Int.reduceLE, Nat.reduceAdd, Nat.reduceLeDiff, Nat.reduceBEq, Nat.reduceSub, Int.reduceSub, Int.reduceMul, Int.reduceNeg, Int.reduceAdd]
  exact Ret.keep ⟨rfl, rfl⟩
theorem refsL_wv : ∀ m : List Int, refs.refsL (m.map wv) = []
  | [] => rfl
  | n :: m => by simp only [List.map_cons, refs.refsL, refsL_wv m]; rfl
theorem refsL_app2 : ∀ a b : List AV, refs.refsL (a ++ b) = refs.refsL a ++ refs.refsL b
  | [], b => rfl
  | x :: a, b => by simp only [List.cons_append, refs.refsL, refsL_app2 a b, List.append_assoc]
theorem mrefs (s : St) (pb : Nat) (o : AV) : (ABlk.cells (s.regs.map wv ++ bC s pb o)).refs = pb :: refs o := by
  simp only [ABlk.refs, refsL_app2, refsL_wv, List.nil_append]
  simp [bC, refs, refs.refsL]
theorem MAt.cl {H0 H : List ABlk} {mb pb wb : Nat} {o : AV} {s : St} (h : MAt H0 H mb pb wb o s) (hc : cl H) (s' : St) : cl (H.set mb (.cells (s'.regs.map wv ++ bC s' pb o))) := fun c k hk r hr => by
  rw [List.length_set]
  by_cases e : mb = c
  · subst e
    have hlt : mb < H.length := (List.getElem?_eq_some_iff.1 h.m).1
    rw [List.getElem?_set_self hlt] at hk
    cases hk
    rw [mrefs] at hr
    exact hc mb _ h.m r (by rw [mrefs]; exact hr)
  · rw [List.getElem?_set_ne e] at hk
    exact hc c k hk r hr
theorem MAt.ext {H0 H : List ABlk} {mb pb wb : Nat} {o : AV} {s : St} (h : MAt H0 H mb pb wb o s) (l : List ABlk) : MAt H0 (H ++ l) mb pb wb o s := by
  have ap : ∀ {b : Nat} {k : ABlk}, H[b]? = some k → (H ++ l)[b]? = some k := fun hb => by rw [List.getElem?_append_left (List.getElem?_eq_some_iff.1 hb).1, hb]
  refine ⟨h.pre.trans ⟨l, rfl⟩, ap h.m, ⟨ap h.mem.p, ap h.mem.w, h.mem.len, h.mem.rng⟩, ?_, h.lo, h.ne, h.r16, h.ru, h.hu, h.pc, h.rd⟩
  rcases h.out with h1 | ⟨ob, es, h1, h2, h3⟩
  · exact .inl h1
  · exact .inr ⟨ob, es, h1, ap h2, h3⟩
theorem MAt.set_ap {H0 H : List ABlk} {mb pb wb : Nat} {o : AV} {s : St} (h : MAt H0 H mb pb wb o s) (x : ABlk) (l : List ABlk) : (H ++ l).set mb x = H.set mb x ++ l := List.set_append_left _ _ (List.getElem?_eq_some_iff.1 h.m).1
def SameP (s s' : St) : Prop := s'.pc = s.pc ∧ s'.ws = s.ws ∧ s'.en = s.en
theorem MAt.sets {H0 H : List ABlk} {mb pb wb : Nat} {o : AV} {s : St} (h : MAt H0 H mb pb wb o s) (a : Nat) {r : Int} (hr : U32 r) : MAt H0 (H.set mb (.cells ((s.sets a r).regs.map wv ++ bC (s.sets a r) pb o))) mb pb wb o (s.sets a r) :=
  h.put (s.sets a r) rfl (by simp only [St.sets, List.length_set]; exact h.r16) (set_rng h.ru a hr) h.hu h.pc h.rd
end Go.Proofs.Ytalhmnijkkihgaa

/- cpu.Machine.reckons. -/
namespace Go.Proofs.Ytalhmnijkkihgaa
set_option linter.unusedVariables false
set_option linter.unusedSimpArgs false
set_option linter.unusedSectionVars false
set_option linter.unusedSimpArgs false
set_option linter.unusedVariables false
set_option maxRecDepth 20000
set_option maxHeartbeats 1000000
open Go.RowKit

theorem FrOk.at_ {w : List Nat} {H G : List ABlk} (b : Nat) (x : ABlk) (hb : b ∈ w) (hG : G = H.set b x) : FrOk w [] H G G := hG ▸ .set hb
theorem FrOk.at2 {w : List Nat} {H l : List ABlk} {b : Nat} (G : List ABlk) (hb : b ∈ w) (hlt : b < H.length) (x : ABlk) (hap : ∀ x l, (H ++ l).set b x = H.set b x ++ l) : FrOk w [] (H ++ l) (H.set b x ++ l) (H.set b x ++ l) := by
  rw [← hap]; exact .set hb
theorem WStep.al {P : Program} {w u : List Nat} {d : Option Nat} {l : List AV} {s : List AV} {H : List ABlk} {Kk : List AV → List ABlk → Prop} (hw : H.length ∈ w) (hu : ∀ b ∈ u, b < H.length ∨ H.length + 1 ≤ b) (h : Kk (setO s d (.ptr H.length 0)) (H ++ [.cells l])) :
    WStep P w u ⟨d, .al l, none⟩ s H Kk := by
  refine WStep.evU (H ++ [.cells l]) (by simp) (by simp) ?_
  simp only [evK, EvK, kill_length]
  refine ⟨?_, h⟩
  rw [show kill u H ++ [ABlk.cells l] = kill u (H ++ [.cells l]) from (kill_app hu).symm]
  exact ⟨rfl, fun c hc => by
    rcases Nat.lt_or_ge c H.length with h1 | h1
    · rw [List.getElem?_append_left h1]
    · have : c ≠ H.length := fun e => hc (e ▸ hw)
      rw [List.getElem?_eq_none (by simp; omega), List.getElem?_eq_none h1], by simp⟩
theorem reckons_c {H0 H : List ABlk} {mb pb wb : Nat} {o : AV} {s : St} (hm : MAt H0 H mb pb wb o s) {x : In} (hx : InOk x) :
    ACalls Try.prog 22 [.ptr mb 0, x.av] H fun v H' => v = .tup [] ∧ ∃ s', H' = H.set mb (.cells (s'.regs.map wv ++ bC s' pb o)) ∧ MAt H0 H' mb pb wb o s' ∧ SameP s s' := by
  refine ACalls.enter Try.func22 cc22 rr22 fun hcl => ?_
  have hlt : mb < H.length := (List.getElem?_eq_some_iff.1 hm.m).1
  have h16 := hm.r16
  have hml := hm.m
  have hcA := reg_at (B := bC s pb o) h16 (a := x.c.toNat) (by have := hx.c; omega)
  have hcB := reg_at (B := bC s pb o) h16 (a := x.b.toNat) (by have := hx.b; omega)
  have uC := reg_rng hm.ru x.c.toNat
  have uB := reg_rng hm.ru x.b.toNat
  have hset := fun (l : List ABlk) (hl : (H ++ l)[mb]? = some (.cells (s.regs.map wv ++ bC s pb o))) => hl
  have hk : ∀ l, (H ++ l)[mb]? = some (.cells (s.regs.map wv ++ bC s pb o)) := fun l => by rw [List.getElem?_append_left hlt]; exact hml
  have hlenR : (s.regs.map wv ++ bC s pb o).length = 28 := by rw [List.length_append, List.length_map, h16]; rfl
  obtain ⟨f, u, v, a, b, c, op, im⟩ := x
  have hf := hx.f
  have ha := hx.a
  have hb := hx.b
  have hc := hx.c
  have him := hx.im
  simp only at hf ha hb hc him hcA hcB uC uB
  simp only [Try.ntmps22, c22, r22]
  refine W.seq_reg ?_
  simp (maxSteps := 2000000) (disch := omega) only [go_sem, eq_self, if_true, if_false, reduceCtorEq, Int.reduceToNat, Int.reducePow, Nat.reducePow, Nat.reduceMul, Int.reduceLT, Int.reduceLE, Nat.reduceAdd, Nat.reduceLeDiff, Nat.reduceBEq, Nat.reduceSub, Int.reduceSub, Int.reduceMul, Int.reduceNeg, Int.reduceAdd]
  refine W.seq ?_
  refine W.pchain follows (by decide +kernel) ?_
  simp (maxSteps := 2000000) (disch := omega) only [hk, hcA, hlenR, List.length_append, List.length_map, h16, go_sem, eq_self, if_true, if_false, reduceCtorEq, Int.reduceToNat, Int.reducePow, Nat.reducePow, Nat.reduceMul, Int.reduceLT, Int.reduceLE, Nat.reduceAdd, Nat.reduceLeDiff, Nat.reduceBEq, Nat.reduceSub, Int.reduceSub, Int.reduceMul, Int.reduceNeg, Int.reduceAdd]
  refine W.cut (fun s' H' => ∃ n, U32 n ∧ s' = [.ptr mb 0, .any, .any, .ptr H.length 0, wv n] ++ List.replicate 94 .any ∧ H' = H ++ [.cells (In.mk f u v a b c op im).cs]) (wpA.W ?_) ?_
  · by_cases f1 : f = 1
    · have e16 : IntKind.u16.wrap im = im % 65536 := by simp [IntKind.wrap, IntKind.bits, IntKind.signed]
      have m0 : 0 ≤ im % 65536 ∧ im % 65536 < 65536 := by omega
      cases v
      · simp (maxSteps := 2000000) (disch := omega) only [e16, go_sem, eq_self, if_true, if_false, reduceCtorEq, Int.reduceToNat, Int.reducePow, Nat.reducePow, Nat.reduceMul, Int.reduceLT, Int.reduceLE, Nat.reduceAdd, Nat.reduceLeDiff, Nat.reduceBEq, Nat.reduceSub, Int.reduceSub, Int.reduceMul, Int.reduceNeg, Int.reduceAdd]
        exact ⟨_, _, Wk.slots (by (try simp only [List.replicate, List.cons_append, List.nil_append]); repeat' first | exact WkL.nil | refine WkL.cons (Wk1.rfl _) ?_ | refine WkL.cons Wk1.esl ?_ | refine WkL.cons (Wk1.gsl _ _ _) ?_ | refine WkL.cons (Wk1.any _) ?_), _, ⟨by omega, by omega⟩, rfl, rfl⟩
      · simp (maxSteps := 2000000) (disch := omega) only [e16, go_sem, eq_self, if_true, if_false, reduceCtorEq, Int.reduceToNat, Int.reducePow, Nat.reducePow, Nat.reduceMul, Int.reduceLT, Int.reduceLE, Nat.reduceAdd, Nat.reduceLeDiff, Nat.reduceBEq, Nat.reduceSub, Int.reduceSub, Int.reduceMul, Int.reduceNeg, Int.reduceAdd]
        exact ⟨_, _, Wk.slots (by (try simp only [List.replicate, List.cons_append, List.nil_append]); repeat' first | exact WkL.nil | refine WkL.cons (Wk1.rfl _) ?_ | refine WkL.cons Wk1.esl ?_ | refine WkL.cons (Wk1.gsl _ _ _) ?_ | refine WkL.cons (Wk1.any _) ?_), _, by first | exact u32_mod _ | exact u32_bv _, rfl, rfl⟩
    · simp (maxSteps := 2000000) (disch := omega) only [go_sem, eq_self, if_true, if_false, reduceCtorEq, Int.reduceToNat, Int.reducePow, Nat.reducePow, Nat.reduceMul, Int.reduceLT, Int.reduceLE, Nat.reduceAdd, Nat.reduceLeDiff, Nat.reduceBEq, Nat.reduceSub, Int.reduceSub, Int.reduceMul, Int.reduceNeg, Int.reduceAdd]
      exact ⟨_, _, Wk.slots (by (try simp only [List.replicate, List.cons_append, List.nil_append]); repeat' first | exact WkL.nil | refine WkL.cons (Wk1.rfl _) ?_ | refine WkL.cons Wk1.esl ?_ | refine WkL.cons (Wk1.gsl _ _ _) ?_ | refine WkL.cons (Wk1.any _) ?_), _, uC, rfl, rfl⟩
  rintro s' H' ⟨n, hn, rfl, rfl⟩
  clear hcA uC
  refine W.cut (fun s' H' => s' = [.ptr mb 0, .any, .any, .ptr H.length 0, wv n] ++ List.replicate 94 .any ∧ H' = H ++ [.cells (In.mk f u v a b c op im).cs]) (wpA.W ?_) ?_
  · have skip : ¬ (op = 0 ∧ u = true ∧ (f = 1 ∨ v = true)) → True := fun _ => trivial
    have out : ∀ (r : Int), U32 r → ∀ l, Ret [] H.length (fun v H' => v = .tup [] ∧ ∃ s', H' = H.set mb (.cells (s'.regs.map wv ++ bC s' pb o)) ∧ MAt H0 H' mb pb wb o s' ∧ SameP s s') (some (.tup [])) (H.set mb (.cells ((s.sets a.toNat r).regs.map wv ++ bC (s.sets a.toNat r) pb o)) ++ l) := fun r hr l =>
      Ret.drop _ (H.set mb _) (by simp) (hm.cl hcl _) (.rfl _) (by simp [refs, refs.refsL]) ⟨rfl, s.sets a.toNat r, rfl, hm.sets a.toNat hr, rfl, rfl, rfl⟩
    by_cases h0 : op = 0
    rotate_left
    · simp (maxSteps := 2000000) (disch := omega) only [go_sem, eq_self, if_true, if_false, reduceCtorEq, Int.reduceToNat, Int.reducePow, Nat.reducePow, Nat.reduceMul, Int.reduceLT, Int.reduceLE, Nat.reduceAdd, Nat.reduceLeDiff, Nat.reduceBEq, Nat.reduceSub, Int.reduceSub, Int.reduceMul, Int.reduceNeg, Int.reduceAdd]
      exact ⟨_, _, Wk.slots (by (try simp only [List.replicate, List.cons_append, List.nil_append]); repeat' first | exact WkL.nil | refine WkL.cons (Wk1.rfl _) ?_ | refine WkL.cons Wk1.esl ?_ | refine WkL.cons (Wk1.gsl _ _ _) ?_ | refine WkL.cons (Wk1.any _) ?_), rfl, rfl⟩
    cases u
    · simp (maxSteps := 2000000) (disch := omega) only [go_sem, eq_self, if_true, if_false, reduceCtorEq, Int.reduceToNat, Int.reducePow, Nat.reducePow, Nat.reduceMul, Int.reduceLT, Int.reduceLE, Nat.reduceAdd, Nat.reduceLeDiff, Nat.reduceBEq, Nat.reduceSub, Int.reduceSub, Int.reduceMul, Int.reduceNeg, Int.reduceAdd]
      exact ⟨_, _, Wk.slots (by (try simp only [List.replicate, List.cons_append, List.nil_append]); repeat' first | exact WkL.nil | refine WkL.cons (Wk1.rfl _) ?_ | refine WkL.cons Wk1.esl ?_ | refine WkL.cons (Wk1.gsl _ _ _) ?_ | refine WkL.cons (Wk1.any _) ?_), rfl, rfl⟩
    by_cases f1 : f = 1
    · simp (maxSteps := 2000000) (disch := omega) only [go_sem, eq_self, if_true, if_false, reduceCtorEq, Int.reduceToNat, Int.reducePow, Nat.reducePow, Nat.reduceMul, Int.reduceLT, Int.reduceLE, Nat.reduceAdd, Nat.reduceLeDiff, Nat.reduceBEq, Nat.reduceSub, Int.reduceSub, Int.reduceMul, Int.reduceNeg, Int.reduceAdd]
      refine Cont.mk (sets_c (hm.ext _) ha (by first | exact u32_mod _ | exact u32_bv _)) ?_
      rw [hm.set_ap]
      simp (maxSteps := 2000000) (disch := omega) only [go_sem, eq_self, if_true, if_false, reduceCtorEq, Int.reduceToNat, Int.reducePow, Nat.reducePow, Nat.reduceMul, Int.reduceLT, Int.reduceLE, Nat.reduceAdd, Nat.reduceLeDiff, Nat.reduceBEq, Nat.reduceSub, Int.reduceSub, Int.reduceMul, Int.reduceNeg, Int.reduceAdd]
      exact out _ (by first | exact u32_mod _ | exact u32_bv _) _
    cases v
    · simp (maxSteps := 2000000) (disch := omega) only [go_sem, eq_self, if_true, if_false, reduceCtorEq, Int.reduceToNat, Int.reducePow, Nat.reducePow, Nat.reduceMul, Int.reduceLT, Int.reduceLE, Nat.reduceAdd, Nat.reduceLeDiff, Nat.reduceBEq, Nat.reduceSub, Int.reduceSub, Int.reduceMul, Int.reduceNeg, Int.reduceAdd]
      exact ⟨_, _, Wk.slots (by (try simp only [List.replicate, List.cons_append, List.nil_append]); repeat' first | exact WkL.nil | refine WkL.cons (Wk1.rfl _) ?_ | refine WkL.cons Wk1.esl ?_ | refine WkL.cons (Wk1.gsl _ _ _) ?_ | refine WkL.cons (Wk1.any _) ?_), rfl, rfl⟩
    · simp (maxSteps := 2000000) (disch := omega) only [go_sem, eq_self, if_true, if_false, reduceCtorEq, Int.reduceToNat, Int.reducePow, Nat.reducePow, Nat.reduceMul, Int.reduceLT, Int.reduceLE, Nat.reduceAdd, Nat.reduceLeDiff, Nat.reduceBEq, Nat.reduceSub, Int.reduceSub, Int.reduceMul, Int.reduceNeg, Int.reduceAdd]
      obtain ⟨rp, up, hp⟩ := packed_f s.fl.n s.fl.z s.fl.c s.fl.v
      have hnd : ∀ l, (H ++ l)[mb]? ≠ some .dead := fun l => by rw [hk]; exact fun e => by cases e
      refine W.dregD [([], []), ([], []), ([], []), ([], []), ([], []), ([], []), ([], []), ([], []), ([mb], [])] follows (by decide +kernel) rfl rfl (fun z hz b' hb' => ?_) ?_
      · simp only [List.mem_cons, List.not_mem_nil, or_false] at hz
        rcases hz with rfl | rfl | rfl | rfl | rfl | rfl | rfl | rfl | rfl <;> simp at hb' <;> subst hb' <;> exact ⟨by simp, hnd _⟩
      have h17 : List.take 4 (List.drop 17 (s.regs.map wv ++ bC s pb o)) = [bv s.fl.n, bv s.fl.z, bv s.fl.c, bv s.fl.v] := by
        rw [show 17 = 16 + 1 from rfl, drp (by rw [List.length_map]; exact h16)]; rfl
      have hb12 : (bC s pb o).length = 12 := rfl
      repeat (rw [DC_p]; simp (maxSteps := 2000000) (disch := omega) only [hk, hlenR, h17, List.length_append, List.length_map, h16, hb12, go_sem, eq_self, if_true, if_false, reduceCtorEq, Int.reduceToNat, Int.reducePow, Nat.reducePow, Nat.reduceMul, Int.reduceLT, Int.reduceLE, Nat.reduceAdd, Nat.reduceLeDiff, Nat.reduceBEq, Nat.reduceSub, Int.reduceSub, Int.reduceMul, Int.reduceNeg, Int.reduceAdd])
      refine PCont.mk (hp _) ?_
      simp (maxSteps := 2000000) (disch := omega) only [go_sem, eq_self, if_true, if_false, reduceCtorEq, Int.reduceToNat, Int.reducePow, Nat.reducePow, Nat.reduceMul, Int.reduceLT, Int.reduceLE, Nat.reduceAdd, Nat.reduceLeDiff, Nat.reduceBEq, Nat.reduceSub, Int.reduceSub, Int.reduceMul, Int.reduceNeg, Int.reduceAdd]
      refine WStep.call (sets_c (hm.ext _) ha up) (fun c hc => List.getElem?_set_ne (fun e => hc (by simp [e]))) (by simp) ?_
      rw [hm.set_ap]
      try simp (maxSteps := 2000000) (disch := omega) only [go_sem, eq_self, if_true, if_false, reduceCtorEq, Int.reduceToNat, Int.reducePow, Nat.reducePow, Nat.reduceMul, Int.reduceLT, Int.reduceLE, Nat.reduceAdd, Nat.reduceLeDiff, Nat.reduceBEq, Nat.reduceSub, Int.reduceSub, Int.reduceMul, Int.reduceNeg, Int.reduceAdd]
      exact out _ up _
  rintro s' H' ⟨rfl, rfl⟩
  obtain ⟨r, h2, f2, ok, u1, u2, hdo⟩ := do_ex op u (s.regs.getD b.toNat 0) n s.h s.fl uB hn hm.hu
  have h16' : List.take 1 (List.drop 16 (s.regs.map wv ++ bC s pb o)) = [wv s.h] := by
    rw [show 16 = 16 + 0 from rfl, drp (by rw [List.length_map]; exact h16)]; rfl
  have h17 : List.take 4 (List.drop 17 (s.regs.map wv ++ bC s pb o)) = [bv s.fl.n, bv s.fl.z, bv s.fl.c, bv s.fl.v] := by
    rw [show 17 = 16 + 1 from rfl, drp (by rw [List.length_map]; exact h16)]; rfl
  have hb12 : (bC s pb o).length = 12 := rfl
  have hno : ∀ l : List ABlk, l.length = 1 → mb ≠ H.length + 1 := fun _ _ => by omega
  refine W.seq ?_
  refine W.dregD [([], [H.length + 1]), ([], [H.length + 1]), ([], [H.length + 1]), ([], [H.length + 1]), ([], [H.length + 1]), ([], [H.length + 1]), ([], [H.length + 1]), ([], [H.length + 1]), ([], [H.length + 1]), ([], [H.length + 1]), ([], [H.length + 1]), ([], [H.length + 1]), ([], [H.length + 1]), ([], [H.length + 1]), ([], [H.length + 1]), ([], [H.length + 1]), ([], [H.length + 1]), ([], [H.length + 1]), ([], [H.length + 1]), ([], [H.length + 1]), ([], [H.length + 1]), ([], [H.length + 1]), ([], [H.length + 1]), ([], [H.length + 1]), ([], [H.length + 1]), ([], [H.length + 1, H.length + 1]), ([H.length + 1], []), ([], []), ([], []), ([H.length + 1], []), ([], [])] follows (by decide +kernel) rfl rfl (fun z hz b' hb' => ?_) ?_
  · simp only [List.mem_cons, List.not_mem_nil, or_false] at hz
    rcases hz with rfl | rfl | rfl | rfl | rfl | rfl | rfl | rfl | rfl | rfl | rfl | rfl | rfl | rfl | rfl | rfl | rfl | rfl | rfl | rfl | rfl | rfl | rfl | rfl | rfl | rfl | rfl | rfl | rfl | rfl | rfl <;> simp at hb' <;> subst hb' <;> exact ⟨by simp, by rw [List.getElem?_eq_none (by simp)]; exact fun h => by cases h⟩
  repeat (rw [DC_p]; simp (maxSteps := 2000000) (disch := omega) only [kill_c, hk, hlenR, h16', h17, hcB, List.length_append, List.length_map, h16, hb12, List.set_nil, go_sem, eq_self, if_true, if_false, reduceCtorEq, Int.reduceToNat, Int.reducePow, Nat.reducePow, Nat.reduceMul, Int.reduceLT, Int.reduceLE, Nat.reduceAdd, Nat.reduceLeDiff, Nat.reduceBEq, Nat.reduceSub, Int.reduceSub, Int.reduceMul, Int.reduceNeg, Int.reduceAdd])
  refine PCont.mk (hdo _) ?_
  simp (maxSteps := 2000000) (disch := omega) only [go_sem, eq_self, if_true, if_false, reduceCtorEq, Int.reduceToNat, Int.reducePow, Nat.reducePow, Nat.reduceMul, Int.reduceLT, Int.reduceLE, Nat.reduceAdd, Nat.reduceLeDiff, Nat.reduceBEq, Nat.reduceSub, Int.reduceSub, Int.reduceMul, Int.reduceNeg, Int.reduceAdd]
  repeat (rw [DC_p]; simp (maxSteps := 2000000) (disch := omega) only [kill_c, List.set_nil, go_sem, eq_self, if_true, if_false, reduceCtorEq, Int.reduceToNat, Int.reducePow, Nat.reducePow, Nat.reduceMul, Int.reduceLT, Int.reduceLE, Nat.reduceAdd, Nat.reduceLeDiff, Nat.reduceBEq, Nat.reduceSub, Int.reduceSub, Int.reduceMul, Int.reduceNeg, Int.reduceAdd])
  refine WStep.al (by simp) (by simp) ?_
  simp (maxSteps := 2000000) (disch := omega) only [go_sem, eq_self, if_true, if_false, reduceCtorEq, Int.reduceToNat, Int.reducePow, Nat.reducePow, Nat.reduceMul, Int.reduceLT, Int.reduceLE, Nat.reduceAdd, Nat.reduceLeDiff, Nat.reduceBEq, Nat.reduceSub, Int.reduceSub, Int.reduceMul, Int.reduceNeg, Int.reduceAdd]
  repeat (rw [DC_p]; simp (maxSteps := 2000000) (disch := omega) only [kill_c, List.set_nil, go_sem, eq_self, if_true, if_false, reduceCtorEq, Int.reduceToNat, Int.reducePow, Nat.reducePow, Nat.reduceMul, Int.reduceLT, Int.reduceLE, Nat.reduceAdd, Nat.reduceLeDiff, Nat.reduceBEq, Nat.reduceSub, Int.reduceSub, Int.reduceMul, Int.reduceNeg, Int.reduceAdd])
  refine WStep.ev (by simp) (by simp) ?_
  simp (maxSteps := 2000000) (disch := omega) only [go_sem, eq_self, if_true, if_false, reduceCtorEq, Int.reduceToNat, Int.reducePow, Nat.reducePow, Nat.reduceMul, Int.reduceLT, Int.reduceLE, Nat.reduceAdd, Nat.reduceLeDiff, Nat.reduceBEq, Nat.reduceSub, Int.reduceSub, Int.reduceMul, Int.reduceNeg, Int.reduceAdd]
  refine ⟨FrOk.put 1 _ (by simp) rfl, ?_⟩
  repeat (rw [DC_p]; simp (maxSteps := 2000000) (disch := omega) only [kill_c, List.set_nil, go_sem, eq_self, if_true, if_false, reduceCtorEq, Int.reduceToNat, Int.reducePow, Nat.reducePow, Nat.reduceMul, Int.reduceLT, Int.reduceLE, Nat.reduceAdd, Nat.reduceLeDiff, Nat.reduceBEq, Nat.reduceSub, Int.reduceSub, Int.reduceMul, Int.reduceNeg, Int.reduceAdd])
  have hnd : ∀ l, (H ++ l)[mb]? ≠ some .dead := fun l => by rw [hk]; exact fun e => by cases e
  have hap : ∀ x l, (H ++ l).set mb x = H.set mb x ++ l := fun x l => hm.set_ap x l
  have hq : ∀ x a b l, (H.set mb x ++ (a :: b :: l))[H.length + 1]? = some b := fun x a b l => by rw [List.getElem?_append_right (by rw [List.length_set]; omega), List.length_set]; simp
  have hgm : ∀ x l, (H.set mb x ++ l)[mb]? = some x := fun x l => by rw [List.getElem?_append_left (by rw [List.length_set]; exact hlt)]; exact List.getElem?_set_self hlt
  have hsm : ∀ x y l, (H.set mb x ++ l).set mb y = H.set mb y ++ l := fun x y l => by rw [List.set_append_left _ _ (by rw [List.length_set]; exact hlt), List.set_set]
  refine W.dregD [([], []), ([], []), ([], []), ([], [mb]), ([], [mb, mb]), ([], []), ([], [mb]), ([], [mb, mb]), ([], []), ([], []), ([], []), ([mb], []), ([], []), ([], []), ([mb], []), ([], []), ([], []), ([mb], [])] follows (by decide +kernel) rfl rfl (fun z hz b' hb' => ?_) ?_
  · simp only [List.mem_cons, List.not_mem_nil, or_false] at hz
    rcases hz with rfl | rfl | rfl | rfl | rfl | rfl | rfl | rfl | rfl | rfl | rfl | rfl | rfl | rfl | rfl | rfl | rfl | rfl <;> simp at hb' <;> subst hb' <;> exact ⟨by simp, hnd _⟩
  repeat (rw [DC_p]; simp (maxSteps := 2000000) (disch := omega) only [kill_c, hap, hsm, hq, go_sem, eq_self, if_true, if_false, reduceCtorEq, Int.reduceToNat, Int.reducePow, Nat.reducePow, Nat.reduceMul, Int.reduceLT, Int.reduceLE, Nat.reduceAdd, Nat.reduceLeDiff, Nat.reduceBEq, Nat.reduceSub, Int.reduceSub, Int.reduceMul, Int.reduceNeg, Int.reduceAdd])
  have ha2 : a.toNat < 16 := by omega
  have hrs := reg_set (B := bC s pb o) h16 ha2 r
  obtain ⟨A, hA⟩ : ∃ A, A = (s.regs.set a.toNat r).map wv := ⟨_, rfl⟩
  have hl : A.length = 16 := by rw [hA, List.length_map, List.length_set]; exact h16
  rw [← hA] at hrs
  have s16 : ∀ x B, List.take 16 (A ++ B) ++ x :: List.drop 17 (A ++ B) = A ++ (B.take 0 ++ x :: B.drop 1) := fun x B => stB hl 0 x
  refine WStep.ev (by simp) (by simp) ?_
  simp (maxSteps := 2000000) (disch := omega) only [hk, hap, hrs, hlenR, List.length_append, List.length_map, h16, hb12, go_sem, eq_self, if_true, if_false, reduceCtorEq, Int.reduceToNat, Int.reducePow, Nat.reducePow, Nat.reduceMul, Int.reduceLT, Int.reduceLE, Nat.reduceAdd, Nat.reduceLeDiff, Nat.reduceBEq, Nat.reduceSub, Int.reduceSub, Int.reduceMul, Int.reduceNeg, Int.reduceAdd]
  refine ⟨FrOk.at2 (H ++ [.cells (In.mk f u v a b c op im).cs, .cells f2.cs]) (by simp) hlt _ hap, ?_⟩
  repeat (rw [DC_p]; simp (maxSteps := 2000000) (disch := omega) only [kill_c, hap, hsm, hq, go_sem, eq_self, if_true, if_false, reduceCtorEq, Int.reduceToNat, Int.reducePow, Nat.reducePow, Nat.reduceMul, Int.reduceLT, Int.reduceLE, Nat.reduceAdd, Nat.reduceLeDiff, Nat.reduceBEq, Nat.reduceSub, Int.reduceSub, Int.reduceMul, Int.reduceNeg, Int.reduceAdd])
  have s17 : ∀ x1 x2 x3 x4 B, List.take 17 (A ++ B) ++ x1 :: x2 :: x3 :: x4 :: List.drop 21 (A ++ B) = A ++ (B.take 1 ++ x1 :: x2 :: x3 :: x4 :: B.drop 5) := fun x1 x2 x3 x4 B => by
    rw [show 17 = 16 + 1 from rfl, tkp hl, show 21 = 16 + 5 from rfl, drp hl, List.append_assoc]
  refine WStep.ev (by simp) (by simp) ?_
  simp (maxSteps := 2000000) (disch := omega) only [hgm, hsm, s16, bC, hl, go_sem, eq_self, if_true, if_false, reduceCtorEq, Int.reduceToNat, Int.reducePow, Nat.reducePow, Nat.reduceMul, Int.reduceLT, Int.reduceLE, Nat.reduceAdd, Nat.reduceLeDiff, Nat.reduceBEq, Nat.reduceSub, Int.reduceSub, Int.reduceMul, Int.reduceNeg, Int.reduceAdd]
  refine ⟨FrOk.at_ mb _ (by simp) (hsm _ _ _).symm, ?_⟩
  repeat (rw [DC_p]; simp (maxSteps := 2000000) (disch := omega) only [kill_c, hap, hsm, hq, go_sem, eq_self, if_true, if_false, reduceCtorEq, Int.reduceToNat, Int.reducePow, Nat.reducePow, Nat.reduceMul, Int.reduceLT, Int.reduceLE, Nat.reduceAdd, Nat.reduceLeDiff, Nat.reduceBEq, Nat.reduceSub, Int.reduceSub, Int.reduceMul, Int.reduceNeg, Int.reduceAdd])
  refine WStep.ev (by simp) (by simp) ?_
  simp (maxSteps := 2000000) (disch := omega) only [hgm, hsm, s17, bC, hl, go_sem, eq_self, if_true, if_false, reduceCtorEq, Int.reduceToNat, Int.reducePow, Nat.reducePow, Nat.reduceMul, Int.reduceLT, Int.reduceLE, Nat.reduceAdd, Nat.reduceLeDiff, Nat.reduceBEq, Nat.reduceSub, Int.reduceSub, Int.reduceMul, Int.reduceNeg, Int.reduceAdd]
  refine ⟨FrOk.at_ mb _ (by simp) (hsm _ _ _).symm, ?_⟩
  try simp (maxSteps := 2000000) (disch := omega) only [go_sem, eq_self, if_true, if_false, reduceCtorEq, Int.reduceToNat, Int.reducePow, Nat.reducePow, Nat.reduceMul, Int.reduceLT, Int.reduceLE, Nat.reduceAdd, Nat.reduceLeDiff, Nat.reduceBEq, Nat.reduceSub, Int.reduceSub, Int.reduceMul, Int.reduceNeg, Int.reduceAdd]
  obtain ⟨s', hs'⟩ : ∃ s' : St, s' = { s with regs := s.regs.set a.toNat r, h := h2, fl := f2 } := ⟨_, rfl⟩
  have hmp := hm.put s' (by rw [hs']) (by rw [hs']; simp only [List.length_set]; exact h16) (by rw [hs']; exact set_rng hm.ru _ u1) (by rw [hs']; exact u2) (by rw [hs']; exact hm.pc) (by rw [hs']; exact hm.rd)
  have hcs := hm.cl hcl s'
  have hsp : SameP s s' := by rw [hs']; exact ⟨rfl, rfl, rfl⟩
  have hcell : s'.regs.map wv ++ bC s' pb o = A ++ [wv h2, bv f2.n, bv f2.z, bv f2.c, bv f2.v, iv s.pc, .ptr pb 0, sv s.inp, iv s.rd, o, iv s.en, iv s.tr] := by rw [hs', hA]; rfl
  rw [hcell] at hmp hcs
  exact Ret.drop _ (H.set mb _) (by simp) hcs (.rfl _) (by simp [refs, refs.refsL]) ⟨rfl, s', congrArg (fun x => H.set mb (.cells x)) hcell.symm, hmp, hsp⟩
end Go.Proofs.Ytalhmnijkkihgaa

/- cpu.Machine.jumps. -/
namespace Go.Proofs.Ytalhmnijkkihgaa
set_option linter.unusedVariables false
set_option linter.unusedSimpArgs false
set_option linter.unusedSectionVars false
set_option linter.unusedSimpArgs false
set_option linter.unusedVariables false
set_option maxRecDepth 20000
set_option maxHeartbeats 1000000
open Go.RowKit

theorem and30 (m : Int) : ∃ K, IntKind.i64.wrap ((BitVec.ofInt IntKind.i64.bits m &&& BitVec.ofInt IntKind.i64.bits 1073741823).toNat : Int) = K ∧ 0 ≤ K ∧ K < 1073741824 := by
  refine ⟨_, rfl, ?_⟩
  have h1 : (BitVec.ofInt IntKind.i64.bits m &&& BitVec.ofInt IntKind.i64.bits 1073741823).toNat ≤ 1073741823 := by
    rw [BitVec.toNat_and]
    exact Nat.le_trans Nat.and_le_right (by decide)
  generalize (BitVec.ofInt IntKind.i64.bits m &&& BitVec.ofInt IntKind.i64.bits 1073741823).toNat = q at *
  rw [w_i64 (by omega) (by omega)]
  omega
def JmpP (s s' : St) : Prop := s'.ws = s.ws ∧ s'.en = s.en
theorem jumps_c {H0 H : List ABlk} {mb pb wb : Nat} {o : AV} {s : St} (hm : MAt H0 H mb pb wb o s) {x : In} (hx : InOk x) :
    ACalls Try.prog 21 [.ptr mb 0, x.av] H fun v H' => v = .tup [] ∧ ∃ s', H' = H.set mb (.cells (s'.regs.map wv ++ bC s' pb o)) ∧ MAt H0 H' mb pb wb o s' ∧ JmpP s s' := by
  have hlt : mb < H.length := (List.getElem?_eq_some_iff.1 hm.m).1
  have h16 := hm.r16
  have hml := hm.m
  have hcC := reg_at (B := bC s pb o) h16 (a := x.c.toNat) (by have := hx.c; omega)
  have uC := reg_rng hm.ru x.c.toNat
  have hk : ∀ l, (H ++ l)[mb]? = some (.cells (s.regs.map wv ++ bC s pb o)) := fun l => by rw [List.getElem?_append_left hlt]; exact hml
  have hlenR : (s.regs.map wv ++ bC s pb o).length = 28 := by rw [List.length_append, List.length_map, h16]; rfl
  have hb12 : (bC s pb o).length = 12 := rfl
  have hap : ∀ x l, (H ++ l).set mb x = H.set mb x ++ l := fun x l => hm.set_ap x l
  have h17 : List.take 4 (List.drop 17 (s.regs.map wv ++ bC s pb o)) = [bv s.fl.n, bv s.fl.z, bv s.fl.c, bv s.fl.v] := by
    rw [show 17 = 16 + 1 from rfl, drp (by rw [List.length_map]; exact h16)]; rfl
  have h21 : List.take 1 (List.drop 21 (s.regs.map wv ++ bC s pb o)) = [iv s.pc] := by
    rw [show 21 = 16 + 5 from rfl, drp (by rw [List.length_map]; exact h16)]; rfl
  obtain ⟨f, u, v, a, b, c, op, im⟩ := x
  have hc := hx.c
  have him := hx.im
  have hpc := hm.pc
  simp only at hc him hcC uC
  obtain ⟨B, hB⟩ := holds_f a s.fl.n s.fl.z s.fl.c s.fl.v
  obtain ⟨K, hK, k0, k1⟩ := and30 (s.pc + im)
  refine ACalls.enter Try.func21 cc21 rr21 fun hcl => ?_
  simp only [Try.ntmps21, c21, r21]
  refine W.seq_reg ?_
  simp (maxSteps := 2000000) (disch := omega) only [go_sem, eq_self, if_true, if_false, reduceCtorEq, Int.reduceToNat, Int.reducePow, Nat.reducePow, Nat.reduceMul, Int.reduceLT, Int.reduceLE, Nat.reduceAdd, Nat.reduceLeDiff, Nat.reduceBEq, Nat.reduceSub, Int.reduceSub, Int.reduceMul, Int.reduceNeg, Int.reduceAdd]
  refine W.cut (fun s' H' => s' = [.ptr mb 0, .any, .any, .ptr H.length 0] ++ List.replicate 44 .any ∧ H' = H ++ [.cells (In.mk f u v a b c op im).cs]) (wpA.W ?_) ?_
  · simp (maxSteps := 2000000) (disch := omega) only [go_sem, eq_self, if_true, if_false, reduceCtorEq, Int.reduceToNat, Int.reducePow, Nat.reducePow, Nat.reduceMul, Int.reduceLT, Int.reduceLE, Nat.reduceAdd, Nat.reduceLeDiff, Nat.reduceBEq, Nat.reduceSub, Int.reduceSub, Int.reduceMul, Int.reduceNeg, Int.reduceAdd]
    refine W.pchain follows (by decide +kernel) ?_
    simp (maxSteps := 2000000) (disch := omega) only [hk, h17, hlenR, List.length_append, List.length_map, h16, hb12, go_sem, eq_self, if_true, if_false, reduceCtorEq, Int.reduceToNat, Int.reducePow, Nat.reducePow, Nat.reduceMul, Int.reduceLT, Int.reduceLE, Nat.reduceAdd, Nat.reduceLeDiff, Nat.reduceBEq, Nat.reduceSub, Int.reduceSub, Int.reduceMul, Int.reduceNeg, Int.reduceAdd]
    refine PCont.mk (hB _) ?_
    cases B
    · simp (maxSteps := 2000000) (disch := omega) only [go_sem, eq_self, if_true, if_false, reduceCtorEq, Int.reduceToNat, Int.reducePow, Nat.reducePow, Nat.reduceMul, Int.reduceLT, Int.reduceLE, Nat.reduceAdd, Nat.reduceLeDiff, Nat.reduceBEq, Nat.reduceSub, Int.reduceSub, Int.reduceMul, Int.reduceNeg, Int.reduceAdd]
      exact Ret.drop _ H (Nat.le_refl _) hcl (.rfl _) (by simp [refs, refs.refsL]) ⟨rfl, s, (set_same hml).symm, hm, rfl, rfl⟩
    · simp (maxSteps := 2000000) (disch := omega) only [go_sem, eq_self, if_true, if_false, reduceCtorEq, Int.reduceToNat, Int.reducePow, Nat.reducePow, Nat.reduceMul, Int.reduceLT, Int.reduceLE, Nat.reduceAdd, Nat.reduceLeDiff, Nat.reduceBEq, Nat.reduceSub, Int.reduceSub, Int.reduceMul, Int.reduceNeg, Int.reduceAdd]
      exact ⟨_, _, Wk.slots (by (try simp only [List.replicate, List.cons_append, List.nil_append]); repeat' first | exact WkL.nil | refine WkL.cons (Wk1.rfl _) ?_ | refine WkL.cons Wk1.esl ?_ | refine WkL.cons (Wk1.gsl _ _ _) ?_ | refine WkL.cons (Wk1.any _) ?_), rfl, rfl⟩
  rintro s' H' ⟨rfl, rfl⟩
  obtain ⟨A, hA⟩ : ∃ A, A = s.regs.map wv := ⟨_, rfl⟩
  have hl : A.length = 16 := by rw [hA, List.length_map]; exact h16
  have s21 : ∀ x B, List.take 21 (A ++ B) ++ x :: List.drop 22 (A ++ B) = A ++ (B.take 5 ++ x :: B.drop 6) := fun x B => stB hl 5 x
  refine W.seq_reg ?_
  simp (maxSteps := 2000000) (disch := omega) only [hk, h21, hlenR, List.length_append, List.length_map, h16, hb12, go_sem, eq_self, if_true, if_false, reduceCtorEq, Int.reduceToNat, Int.reducePow, Nat.reducePow, Nat.reduceMul, Int.reduceLT, Int.reduceLE, Nat.reduceAdd, Nat.reduceLeDiff, Nat.reduceBEq, Nat.reduceSub, Int.reduceSub, Int.reduceMul, Int.reduceNeg, Int.reduceAdd]
  have fin : ∀ p : Int, 0 ≤ p → p < 1073741824 → ∃ s1, MAt H0 (H.set mb (.cells (s1.regs.map wv ++ bC s1 pb o))) mb pb wb o s1 ∧ JmpP s s1 ∧ s1.regs.map wv ++ bC s1 pb o = A ++ [wv s.h, bv s.fl.n, bv s.fl.z, bv s.fl.c, bv s.fl.v, iv p, .ptr pb 0, sv s.inp, iv s.rd, o, iv s.en, iv s.tr] := fun p p0 p1 =>
    ⟨{ s with pc := p }, hm.put { s with pc := p } rfl h16 hm.ru hm.hu ⟨p0, p1⟩ hm.rd, ⟨rfl, rfl⟩, by rw [hA]; rfl⟩
  refine W.cut (fun s' H' => ∃ s1, MAt H0 (H.set mb (.cells (s1.regs.map wv ++ bC s1 pb o))) mb pb wb o s1 ∧ JmpP s s1 ∧ s' = [.ptr mb 0, .any, .any, .ptr H.length 0, iv s.pc] ++ List.replicate 43 .any ∧ H' = H.set mb (.cells (s1.regs.map wv ++ bC s1 pb o)) ++ [.cells (In.mk f u v a b c op im).cs]) (wpA.W ?_) ?_
  · rw [← hA] at hk
    cases u
    · simp (maxSteps := 2000000) (disch := omega) only [go_sem, eq_self, if_true, if_false, reduceCtorEq, Int.reduceToNat, Int.reducePow, Nat.reducePow, Nat.reduceMul, Int.reduceLT, Int.reduceLE, Nat.reduceAdd, Nat.reduceLeDiff, Nat.reduceBEq, Nat.reduceSub, Int.reduceSub, Int.reduceMul, Int.reduceNeg, Int.reduceAdd]
      have hnd : ∀ l, (H ++ l)[mb]? ≠ some .dead := fun l => by rw [hk]; exact fun e => by cases e
      refine W.dregD [([], []), ([], []), ([], []), ([], []), ([], []), ([], []), ([], []), ([], []), ([], []), ([], []), ([], []), ([], []), ([mb], [])] follows (by decide +kernel) rfl rfl (fun z hz b' hb' => ?_) ?_
      · simp only [List.mem_cons, List.not_mem_nil, or_false] at hz
        rcases hz with rfl | rfl | rfl | rfl | rfl | rfl | rfl | rfl | rfl | rfl | rfl | rfl | rfl <;> simp at hb' <;> subst hb' <;> exact ⟨by simp, hnd _⟩
      rw [← hA] at hcC
      repeat (rw [DC_p]; simp (maxSteps := 2000000) (disch := omega) only [hk, hcC, hl, hb12, List.length_append, go_sem, eq_self, if_true, if_false, reduceCtorEq, Int.reduceToNat, Int.reducePow, Nat.reducePow, Nat.reduceMul, Int.reduceLT, Int.reduceLE, Nat.reduceAdd, Nat.reduceLeDiff, Nat.reduceBEq, Nat.reduceSub, Int.reduceSub, Int.reduceMul, Int.reduceNeg, Int.reduceAdd])
      refine WStep.ev (by simp) (by simp) ?_
      obtain ⟨s1, m1, j1, e1⟩ := fin (s.regs.getD c.toNat 0 / 4) (by omega) (by omega)
      simp only [bC] at hk
      simp (maxSteps := 2000000) (disch := omega) only [hk, hap, s21, bC, hl, go_sem, eq_self, if_true, if_false, reduceCtorEq, Int.reduceToNat, Int.reducePow, Nat.reducePow, Nat.reduceMul, Int.reduceLT, Int.reduceLE, Nat.reduceAdd, Nat.reduceLeDiff, Nat.reduceBEq, Nat.reduceSub, Int.reduceSub, Int.reduceMul, Int.reduceNeg, Int.reduceAdd]
      refine ⟨FrOk.at2 (H ++ [.cells (In.mk f false v a b c op im).cs]) (by simp) hlt _ hap, ?_⟩
      try simp (maxSteps := 2000000) (disch := omega) only [go_sem, eq_self, if_true, if_false, reduceCtorEq, Int.reduceToNat, Int.reducePow, Nat.reducePow, Nat.reduceMul, Int.reduceLT, Int.reduceLE, Nat.reduceAdd, Nat.reduceLeDiff, Nat.reduceBEq, Nat.reduceSub, Int.reduceSub, Int.reduceMul, Int.reduceNeg, Int.reduceAdd]
      rw [← e1]
      exact ⟨_, _, Wk.slots (by (try simp only [List.replicate, List.cons_append, List.nil_append]); repeat' first | exact WkL.nil | refine WkL.cons (Wk1.rfl _) ?_ | refine WkL.cons Wk1.esl ?_ | refine WkL.cons (Wk1.gsl _ _ _) ?_ | refine WkL.cons (Wk1.any _) ?_), s1, m1, j1, rfl, rfl⟩
    · obtain ⟨s1, m1, j1, e1⟩ := fin K k0 k1
      have hK2 := hK
      try simp only [go_sem, eq_self, if_true, if_false, reduceCtorEq, Int.reduceToNat, Int.reducePow, Nat.reducePow, Nat.reduceMul, Int.reduceLT, Int.reduceLE, Nat.reduceAdd, Nat.reduceLeDiff, Nat.reduceBEq, Nat.reduceSub, Int.reduceSub, Int.reduceMul, Int.reduceNeg, Int.reduceAdd] at hK2
      simp only [bC] at hk
      simp (maxSteps := 2000000) (disch := omega) only [hk, hap, s21, bC, hl, hK, hK2, go_sem, eq_self, if_true, if_false, reduceCtorEq, Int.reduceToNat, Int.reducePow, Nat.reducePow, Nat.reduceMul, Int.reduceLT, Int.reduceLE, Nat.reduceAdd, Nat.reduceLeDiff, Nat.reduceBEq, Nat.reduceSub, Int.reduceSub, Int.reduceMul, Int.reduceNeg, Int.reduceAdd]
      rw [← e1]
      exact ⟨_, _, Wk.slots (by (try simp only [List.replicate, List.cons_append, List.nil_append]); repeat' first | exact WkL.nil | refine WkL.cons (Wk1.rfl _) ?_ | refine WkL.cons Wk1.esl ?_ | refine WkL.cons (Wk1.gsl _ _ _) ?_ | refine WkL.cons (Wk1.any _) ?_), s1, m1, j1, rfl, rfl⟩
  rintro s' H' ⟨s1, m1, j1, rfl, rfl⟩
  refine wpA.W ?_
  have hcs := hm.cl hcl s1
  have hgm : ∀ x l, (H.set mb x ++ l)[mb]? = some x := fun x l => by rw [List.getElem?_append_left (by rw [List.length_set]; exact hlt)]; exact List.getElem?_set_self hlt
  have hsm : ∀ x y l, (H.set mb x ++ l).set mb y = H.set mb y ++ l := fun x y l => by rw [List.set_append_left _ _ (by rw [List.length_set]; exact hlt), List.set_set]
  have hq : ∀ x a l, (H.set mb x ++ (a :: l))[H.length]? = some a := fun x a l => by rw [List.getElem?_append_right (by rw [List.length_set]; exact Nat.le_refl _), List.length_set]; simp
  cases v
  · simp (maxSteps := 2000000) (disch := omega) only [hq, go_sem, eq_self, if_true, if_false, reduceCtorEq, Int.reduceToNat, Int.reducePow, Nat.reducePow, Nat.reduceMul, Int.reduceLT, Int.reduceLE, Nat.reduceAdd, Nat.reduceLeDiff, Nat.reduceBEq, Nat.reduceSub, Int.reduceSub, Int.reduceMul, Int.reduceNeg, Int.reduceAdd]
    exact Ret.drop (.tup []) (H.set mb _) (by simp) hcs (.rfl _) (by simp [refs, refs.refsL]) ⟨rfl, s1, rfl, m1, j1⟩
  · have hrs : ∀ r, List.take 15 (s1.regs.map wv ++ bC s1 pb o) ++ wv r :: List.drop 16 (s1.regs.map wv ++ bC s1 pb o) = (s1.regs.set 15 r).map wv ++ bC s1 pb o := fun r => reg_set (B := bC s1 pb o) m1.r16 (a := 15) (by decide) r
    have hb1 : (bC s1 pb o).length = 12 := rfl
    have h161 := m1.r16
    have m2 := m1.put { s1 with regs := s1.regs.set 15 (s.pc * 4) } rfl (by simp only [List.length_set]; exact h161) (set_rng m1.ru _ ⟨by omega, by omega⟩) m1.hu m1.pc m1.rd
    rw [List.set_set] at m2
    have hc2 := hm.cl hcl { s1 with regs := s1.regs.set 15 (s.pc * 4) }
    simp (maxSteps := 2000000) (disch := omega) only [hq, hgm, hsm, hrs, h161, hb1, List.length_append, List.length_map, go_sem, eq_self, if_true, if_false, reduceCtorEq, Int.reduceToNat, Int.reducePow, Nat.reducePow, Nat.reduceMul, Int.reduceLT, Int.reduceLE, Nat.reduceAdd, Nat.reduceLeDiff, Nat.reduceBEq, Nat.reduceSub, Int.reduceSub, Int.reduceMul, Int.reduceNeg, Int.reduceAdd]
    exact Ret.drop (.tup []) (H.set mb _) (by simp) hc2 (.rfl _) (by simp [refs, refs.refsL]) ⟨rfl, _, rfl, m2, j1⟩
end Go.Proofs.Ytalhmnijkkihgaa
