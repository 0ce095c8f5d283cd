/- cpu.Machine.stores. -/
import Derived.Test.YtalhmnijkkihgaaTwC
namespace Go.Proofs.Ytalhmnijkkihgaa
set_option linter.unusedVariables false
set_option linter.unusedSimpArgs false
set_option linter.unusedSectionVars false
set_option linter.unusedSectionVars false
set_option linter.unusedSimpArgs false
set_option linter.unusedVariables false
set_option maxRecDepth 20000
set_option maxHeartbeats 1000000
open Go.RowKit

def StoP (s s' : St) : Prop := s'.pc = s.pc ∧ s'.ws.length = s.ws.length ∧ (s'.en = s.en ∨ s'.en = 1 ∨ s'.en = 2 ∨ s'.en = 5 ∨ s'.en = 6)
abbrev StoR (H0 : List ABlk) (mb pb wb : Nat) (s : St) (v : AV) (H' : List ABlk) : Prop := v = .tup [] ∧ ∃ o' s', MAt H0 H' mb pb wb o' s' ∧ StoP s s'
def Frm (w : List Nat) (H G : List ABlk) : Prop := (∀ c, c ∉ w → G[c]? = H[c]?) ∧ H.length ≤ G.length
theorem Frm.set {w : List Nat} {H : List ABlk} {b : Nat} {x : ABlk} (hb : b ∈ w) : Frm w H (H.set b x) := ⟨fun c hc => List.getElem?_set_ne (fun e => hc (by rw [← e]; exact hb)), by rw [List.length_set]; exact Nat.le_refl _⟩
theorem Frm.trans {w : List Nat} {H G K : List ABlk} (h : Frm w H G) (k : Frm w G K) : Frm w H K := ⟨fun c hc => (k.1 c hc).trans (h.1 c hc), Nat.le_trans h.2 k.2⟩
theorem Frm.app {w : List Nat} {H : List ABlk} {x : ABlk} (hb : H.length ∈ w) : Frm w H (H ++ [x]) := ⟨fun c hc => by
  rcases Nat.lt_or_ge c H.length with h | h
  · exact List.getElem?_append_left h
  · have : c ≠ H.length := fun e => hc (by rw [e]; exact hb)
    rw [List.getElem?_eq_none (by simp; omega), List.getElem?_eq_none h], by simp⟩
/-- What is new lies behind. -/
def Nw (H : List ABlk) (o o' : AV) : Prop := ∀ c ∈ refs o', c ∈ refs o ∨ H.length ≤ c
theorem Nw.rfl {H : List ABlk} {o : AV} : Nw H o o := fun _ h => .inl h
/-- What else lies there stays. -/
structure Fx (mb wb : Nat) (o : AV) (H : List ABlk) (o' : AV) (H' : List ABlk) : Prop where
  out : ∀ c, c < H.length → c ≠ mb → c ≠ wb → c ∉ refs o → H'[c]? = H[c]?
  len : H.length ≤ H'.length
  new : Nw H o o'
theorem Fx.trans {mb wb : Nat} {o o' o2 : AV} {H H' H2 : List ABlk} (h : Fx mb wb o H o' H') (k : Fx mb wb o' H' o2 H2) : Fx mb wb o H o2 H2 :=
  ⟨fun c hc h1 h2 h3 => (k.out c (Nat.lt_of_lt_of_le hc h.len) h1 h2 fun h4 => (h.new c h4).elim h3 fun h5 => absurd hc (Nat.not_lt.2 h5)).trans (h.out c hc h1 h2 h3), Nat.le_trans h.len k.len,
    fun c hc => (k.new c hc).elim (fun h1 => h.new c h1) fun h1 => .inr (Nat.le_trans h.len h1)⟩
theorem Fx.rfl {mb wb : Nat} {o : AV} {H : List ABlk} : Fx mb wb o H o H := ⟨fun _ _ _ _ _ => Eq.refl _, Nat.le_refl _, .rfl⟩
theorem Fx.set {mb wb : Nat} {o : AV} {H : List ABlk} {x : ABlk} : Fx mb wb o H o (H.set mb x) := ⟨fun c _ h _ _ => List.getElem?_set_ne (Ne.symm h), by rw [List.length_set]; exact Nat.le_refl _, .rfl⟩
theorem Fx.app {mb wb : Nat} {o : AV} {H l : List ABlk} : Fx mb wb o H o (H ++ l) := ⟨fun c h _ _ _ => List.getElem?_append_left h, by rw [List.length_append]; omega, .rfl⟩
theorem Fx.of {mb wb : Nat} {o o' : AV} {H G : List ABlk} (h : Frm (mb :: wb :: H.length :: refs o) H G) (k : Nw H o o') : Fx mb wb o H o' G := ⟨fun c h0 h1 h2 h3 => h.1 c (by simp only [List.mem_cons, not_or]; exact ⟨h1, h2, by omega, h3⟩), h.2, k⟩
/-- At this heap it makes just one heap. -/
def StoD (H0 H : List ABlk) (mb pb wb : Nat) (o : AV) (s : St) (at' v : Int) (sm : Bool) : Prop :=
  ∃ G, (ACalls Try.prog 31 [.ptr mb 0, wv at', wv v, bv sm] H fun w H' => w = .tup [] ∧ H' = G) ∧ Frm (mb :: wb :: H.length :: refs o) H G ∧ ∃ o' s', Nw H o o' ∧ MAt H0 G mb pb wb o' s' ∧ StoP s s'
theorem signed_f (x : Int) (hx : U32 x) : ∃ r, ∀ H, ACalls Try.prog 44 [wv x] H fun w H' => w = iv r ∧ H' = H := by
  obtain ⟨x0, x1⟩ := hx
  apply Exists.intro
  intro H
  refine ACalls.into Try.func44 cc44 rr44 fun hcl => ?_
  simp (maxSteps := 2000000) (disch := omega) only [Try.ntmps44, c44, r44, go_sem, eq_self, if_true, if_false, reduceCtorEq, Int.reduceToNat, Int.reducePow, Nat.reducePow, Nat.reduceMul, Int.reduceLT, Int.reduceLE, Nat.reduceAdd, Nat.reduceLeDiff, Nat.reduceBEq, Nat.reduceSub, Int.reduceSub, Int.reduceMul, Int.reduceNeg, Int.reduceAdd]
  exact Ret.keep ⟨rfl, rfl⟩
section
variable {H0 H : List ABlk} {mb pb wb : Nat} {o : AV} {s : St} (hm : MAt H0 H mb pb wb o s)
include hm
/-- The machine's end is set. -/
theorem MAt.endd (e t : Int) : MAt H0 (H.set mb (.cells (s.regs.map wv ++ [wv s.h, bv s.fl.n, bv s.fl.z, bv s.fl.c, bv s.fl.v, iv s.pc, .ptr pb 0, sv s.inp, iv s.rd, o, iv e, iv t]))) mb pb wb o { s with en := e, tr := t } :=
  hm.put { s with en := e, tr := t } rfl hm.r16 hm.ru hm.hu hm.pc hm.rd
/-- A port that ends the run. -/
theorem halt_c {at' v : Int} (hat : at' = 4294967232) (hv : U32 v) (sm : Bool) : StoD H0 H mb pb wb o s at' v sm := by
  subst hat
  have hlt : mb < H.length := (List.getElem?_eq_some_iff.1 hm.m).1
  have hml := hm.m
  obtain ⟨A, hA⟩ : ∃ A, A = s.regs.map wv := ⟨_, rfl⟩
  have hl : A.length = 16 := by rw [hA, List.length_map]; exact hm.r16
  have s26 : ∀ x B, List.take 26 (A ++ B) ++ x :: List.drop 27 (A ++ B) = A ++ (B.take 10 ++ x :: B.drop 11) := fun x B => stB hl 10 x
  have he := hm.endd 1 s.tr
  simp only [bC] at hml
  rw [← hA] at hml he
  refine ⟨_, ?_, .set (by simp), o, _, .rfl, he, rfl, rfl, .inr (.inl rfl)⟩
  refine ACalls.into Try.func31 cc31 rr31 fun hcl => ?_
  simp (maxSteps := 2000000) (disch := omega) only [Try.ntmps31, c31, r31, hml, s26, hl, go_sem, eq_self, if_true, if_false, reduceCtorEq, Int.reduceToNat, Int.reducePow, Nat.reducePow, Nat.reduceMul, Int.reduceLT, Int.reduceLE, Nat.reduceAdd, Nat.reduceLeDiff, Nat.reduceBEq, Nat.reduceSub, Int.reduceSub, Int.reduceMul, Int.reduceNeg, Int.reduceAdd]
  exact Ret.keep ⟨rfl, rfl⟩
theorem trap_c {at' v : Int} (hat : at' = 4294967236) (hv : U32 v) (sm : Bool) : StoD H0 H mb pb wb o s at' v sm := by
  subst hat
  have hlt : mb < H.length := (List.getElem?_eq_some_iff.1 hm.m).1
  have hml := hm.m
  obtain ⟨A, hA⟩ : ∃ A, A = s.regs.map wv := ⟨_, rfl⟩
  have hl : A.length = 16 := by rw [hA, List.length_map]; exact hm.r16
  have s26 : ∀ x B, List.take 26 (A ++ B) ++ x :: List.drop 27 (A ++ B) = A ++ (B.take 10 ++ x :: B.drop 11) := fun x B => stB hl 10 x
  have s27 : ∀ x B, List.take 27 (A ++ B) ++ x :: List.drop 28 (A ++ B) = A ++ (B.take 11 ++ x :: B.drop 12) := fun x B => stB hl 11 x
  have hg : ∀ x : ABlk, (H.set mb x)[mb]? = some x := fun x => List.getElem?_set_self hlt
  have hss : ∀ x y : ABlk, (H.set mb x).set mb y = H.set mb y := fun x y => List.set_set ..
  have he := hm.endd 2
  simp only [bC] at hml
  rw [← hA] at hml he
  obtain ⟨r, hr⟩ := signed_f v hv
  refine ⟨_, ?_, .set (by simp), o, _, .rfl, he r, rfl, rfl, .inr (.inr (.inl rfl))⟩
  refine ACalls.into Try.func31 cc31 rr31 fun hcl => ?_
  simp (maxSteps := 2000000) (disch := omega) only [Try.ntmps31, c31, r31, go_sem, eq_self, if_true, if_false, reduceCtorEq, Int.reduceToNat, Int.reducePow, Nat.reducePow, Nat.reduceMul, Int.reduceLT, Int.reduceLE, Nat.reduceAdd, Nat.reduceLeDiff, Nat.reduceBEq, Nat.reduceSub, Int.reduceSub, Int.reduceMul, Int.reduceNeg, Int.reduceAdd]
  refine Cont.mk (hr _) ?_
  simp (maxSteps := 2000000) (disch := omega) only [hml, s26, s27, hl, hg, hss, go_sem, eq_self, if_true, if_false, reduceCtorEq, Int.reduceToNat, Int.reducePow, Nat.reducePow, Nat.reduceMul, Int.reduceLT, Int.reduceLE, Nat.reduceAdd, Nat.reduceLeDiff, Nat.reduceBEq, Nat.reduceSub, Int.reduceSub, Int.reduceMul, Int.reduceNeg, Int.reduceAdd]
  exact Ret.keep ⟨rfl, rfl⟩
theorem MAt.mset (ws' : List Int) (hl : ws'.length = s.ws.length) (hr : ∀ x ∈ ws', 0 ≤ x ∧ x < 4294967296) : MAt H0 (H.set wb (.cells (ws'.map wv))) mb pb wb o { s with ws := ws' } := by
  have hlt : wb < H.length := (List.getElem?_eq_some_iff.1 hm.mem.w).1
  have hne : pb ≠ wb := fun e => by
    have := hm.mem.p
    rw [e, hm.mem.w] at this
    cases hw : s.ws with
    | nil => rw [hw] at this; simp at this
    | cons x l => rw [hw] at this; simp at this
  refine ⟨pre_set hm.pre hm.lo.2.2 _, by rw [List.getElem?_set_ne hm.ne.1.symm]; exact hm.m, ⟨?_, List.getElem?_set_self hlt, by rw [hl]; exact hm.mem.len, hr⟩, ?_, hm.lo, hm.ne, hm.r16, hm.ru, hm.hu, hm.pc, hm.rd⟩
  · rw [List.getElem?_set_ne hne.symm, hm.mem.p]; simp only [hl]
  · rcases hm.out with h1 | ⟨ob, es, h1, h2, h3⟩
    · exact .inl h1
    · refine .inr ⟨ob, es, h1, ?_, h3⟩
      have hne : wb ≠ ob := fun e => by
        have := hm.mem.w
        rw [e, h2] at this
        cases this
      rw [List.getElem?_set_ne hne]; exact h2
theorem place_c {at' v : Int} (hat : U32 at') (h1 : at' ≠ 4294967240) (h2 : at' ≠ 4294967236) (h3 : at' ≠ 4294967232) (hv : U32 v) (sm : Bool) : StoD H0 H mb pb wb o s at' v sm := by
  obtain ⟨a0, a1⟩ := hat
  have hlt : mb < H.length := (List.getElem?_eq_some_iff.1 hm.m).1
  have hml := hm.m
  obtain ⟨A, hA⟩ : ∃ A, A = s.regs.map wv := ⟨_, rfl⟩
  have hl : A.length = 16 := by rw [hA, List.length_map]; exact hm.r16
  have s26 : ∀ x B, List.take 26 (A ++ B) ++ x :: List.drop 27 (A ++ B) = A ++ (B.take 10 ++ x :: B.drop 11) := fun x B => stB hl 10 x
  have d22 : ∀ B, List.drop 22 (A ++ B) = B.drop 6 := fun B => drp hl 6
  have he := hm.endd 5 s.tr
  have hsame : H.set wb (.cells (s.ws.map wv)) = H := set_same hm.mem.w
  simp only [bC] at hml
  rw [← hA] at hml he
  cases sm
  · have hst := store_c hm.mem at' v a0 a1
    by_cases ho : at' % 4 = 0 ∧ at' / 4 < s.ws.length
    · have hs := hm.mset (s.ws.set (at' / 4).toNat v) (by rw [List.length_set]) (fun x hx => by
        rcases List.mem_or_eq_of_mem_set hx with hx | rfl
        · exact hm.mem.rng x hx
        · exact hv)
      rw [okF, dect ho, stF, if_pos ho] at hst
      refine ⟨_, ?_, .set (by simp), o, _, .rfl, hs, rfl, by simp only [List.length_set], .inl rfl⟩
      refine ACalls.into Try.func31 cc31 rr31 fun hcl => ?_
      simp (maxSteps := 2000000) (disch := omega) only [Try.ntmps31, c31, r31, hml, d22, hl, go_sem, eq_self, if_true, if_false, reduceCtorEq, Int.reduceToNat, Int.reducePow, Nat.reducePow, Nat.reduceMul, Int.reduceLT, Int.reduceLE, Nat.reduceAdd, Nat.reduceLeDiff, Nat.reduceBEq, Nat.reduceSub, Int.reduceSub, Int.reduceMul, Int.reduceNeg, Int.reduceAdd]
      refine Cont.mk hst ?_
      simp (maxSteps := 2000000) (disch := omega) only [go_sem, eq_self, if_true, if_false, reduceCtorEq, Int.reduceToNat, Int.reducePow, Nat.reducePow, Nat.reduceMul, Int.reduceLT, Int.reduceLE, Nat.reduceAdd, Nat.reduceLeDiff, Nat.reduceBEq, Nat.reduceSub, Int.reduceSub, Int.reduceMul, Int.reduceNeg, Int.reduceAdd]
      exact Ret.keep ⟨rfl, rfl⟩
    · rw [okF, decf ho, stF, if_neg ho, hsame] at hst
      refine ⟨_, ?_, .set (by simp), o, _, .rfl, he, rfl, rfl, .inr (.inr (.inr (.inl rfl)))⟩
      refine ACalls.into Try.func31 cc31 rr31 fun hcl => ?_
      simp (maxSteps := 2000000) (disch := omega) only [Try.ntmps31, c31, r31, hml, d22, hl, go_sem, eq_self, if_true, if_false, reduceCtorEq, Int.reduceToNat, Int.reducePow, Nat.reducePow, Nat.reduceMul, Int.reduceLT, Int.reduceLE, Nat.reduceAdd, Nat.reduceLeDiff, Nat.reduceBEq, Nat.reduceSub, Int.reduceSub, Int.reduceMul, Int.reduceNeg, Int.reduceAdd]
      refine Cont.mk hst ?_
      simp (maxSteps := 2000000) (disch := omega) only [hml, s26, hl, go_sem, eq_self, if_true, if_false, reduceCtorEq, Int.reduceToNat, Int.reducePow, Nat.reducePow, Nat.reduceMul, Int.reduceLT, Int.reduceLE, Nat.reduceAdd, Nat.reduceLeDiff, Nat.reduceBEq, Nat.reduceSub, Int.reduceSub, Int.reduceMul, Int.reduceNeg, Int.reduceAdd]
      exact Ret.keep ⟨rfl, rfl⟩
  · have hst := put_c hm.mem at' v a0 a1
    by_cases ho : at' / 4 < s.ws.length
    · have hs := hm.mset (s.ws.set (at' / 4).toNat (mixA (s.ws.getD (at' / 4).toNat 0) at' v)) (by rw [List.length_set]) (fun x hx => by
        rcases List.mem_or_eq_of_mem_set hx with hx | rfl
        · exact hm.mem.rng x hx
        · exact mixA_rng ..)
      rw [thereF, dect ho, pbF, if_pos ho] at hst
      refine ⟨_, ?_, .set (by simp), o, _, .rfl, hs, rfl, by simp only [List.length_set], .inl rfl⟩
      refine ACalls.into Try.func31 cc31 rr31 fun hcl => ?_
      simp (maxSteps := 2000000) (disch := omega) only [Try.ntmps31, c31, r31, hml, d22, hl, go_sem, eq_self, if_true, if_false, reduceCtorEq, Int.reduceToNat, Int.reducePow, Nat.reducePow, Nat.reduceMul, Int.reduceLT, Int.reduceLE, Nat.reduceAdd, Nat.reduceLeDiff, Nat.reduceBEq, Nat.reduceSub, Int.reduceSub, Int.reduceMul, Int.reduceNeg, Int.reduceAdd]
      refine Cont.mk hst ?_
      simp (maxSteps := 2000000) (disch := omega) only [go_sem, eq_self, if_true, if_false, reduceCtorEq, Int.reduceToNat, Int.reducePow, Nat.reducePow, Nat.reduceMul, Int.reduceLT, Int.reduceLE, Nat.reduceAdd, Nat.reduceLeDiff, Nat.reduceBEq, Nat.reduceSub, Int.reduceSub, Int.reduceMul, Int.reduceNeg, Int.reduceAdd]
      exact Ret.keep ⟨rfl, rfl⟩
    · rw [thereF, decf ho, pbF, if_neg ho, hsame] at hst
      refine ⟨_, ?_, .set (by simp), o, _, .rfl, he, rfl, rfl, .inr (.inr (.inr (.inl rfl)))⟩
      refine ACalls.into Try.func31 cc31 rr31 fun hcl => ?_
      simp (maxSteps := 2000000) (disch := omega) only [Try.ntmps31, c31, r31, hml, d22, hl, go_sem, eq_self, if_true, if_false, reduceCtorEq, Int.reduceToNat, Int.reducePow, Nat.reducePow, Nat.reduceMul, Int.reduceLT, Int.reduceLE, Nat.reduceAdd, Nat.reduceLeDiff, Nat.reduceBEq, Nat.reduceSub, Int.reduceSub, Int.reduceMul, Int.reduceNeg, Int.reduceAdd]
      refine Cont.mk hst ?_
      simp (maxSteps := 2000000) (disch := omega) only [hml, s26, hl, go_sem, eq_self, if_true, if_false, reduceCtorEq, Int.reduceToNat, Int.reducePow, Nat.reducePow, Nat.reduceMul, Int.reduceLT, Int.reduceLE, Nat.reduceAdd, Nat.reduceLeDiff, Nat.reduceBEq, Nat.reduceSub, Int.reduceSub, Int.reduceMul, Int.reduceNeg, Int.reduceAdd]
      exact Ret.keep ⟨rfl, rfl⟩
end
end Go.Proofs.Ytalhmnijkkihgaa

/- cpu.Machine.stores: what is put out; all of it. -/
namespace Go.Proofs.Ytalhmnijkkihgaa
set_option linter.unusedVariables false
set_option linter.unusedSimpArgs false
set_option linter.unusedSectionVars false
set_option linter.unusedSimpArgs false
set_option linter.unusedVariables false
set_option maxRecDepth 20000
set_option maxHeartbeats 1000000
open Go.RowKit

section
variable {H0 H : List ABlk} {mb pb wb : Nat} {o : AV} {s : St} (hm : MAt H0 H mb pb wb o s)
include hm
theorem data_c {at' v : Int} (hat : at' = 4294967240) (hv : U32 v) (sm : Bool) : StoD H0 H mb pb wb o s at' v sm := by
  subst hat
  obtain ⟨v0, v1⟩ := hv
  have hlt : mb < H.length := (List.getElem?_eq_some_iff.1 hm.m).1
  have hml := hm.m
  obtain ⟨A, hA⟩ : ∃ A, A = s.regs.map wv := ⟨_, rfl⟩
  have hl : A.length = 16 := by rw [hA, List.length_map]; exact hm.r16
  have s25 : ∀ x B, List.take 25 (A ++ B) ++ x :: List.drop 26 (A ++ B) = A ++ (B.take 9 ++ x :: B.drop 10) := fun x B => stB hl 9 x
  have s26 : ∀ x B, List.take 26 (A ++ B) ++ x :: List.drop 27 (A ++ B) = A ++ (B.take 10 ++ x :: B.drop 11) := fun x B => stB hl 10 x
  have d25 : ∀ B, List.drop 25 (A ++ B) = B.drop 9 := fun B => drp hl 9
  have he := hm.endd 6 s.tr
  have h8 : IntKind.u8.wrap v = v % 256 := by simp [IntKind.wrap, IntKind.bits, IntKind.signed]
  have hout := hm.out
  have hpl : pb < H.length := (List.getElem?_eq_some_iff.1 hm.mem.p).1
  have hwl : wb < H.length := (List.getElem?_eq_some_iff.1 hm.mem.w).1
  simp only [bC] at hml
  rw [← hA] at hml he
  rcases hout with rfl | ⟨ob, es, rfl, ho, hob, hes, hby⟩
  · have hap : ∀ x l, (H ++ l).set mb x = H.set mb x ++ l := fun x l => hm.set_ap x l
    have hk : ∀ l, (H ++ l)[mb]? = H[mb]? := fun l => List.getElem?_append_left hlt
    have hlo := hm.lo
    have hM : MAt H0 (H.set mb (.cells (A ++ [wv s.h, bv s.fl.n, bv s.fl.z, bv s.fl.c, bv s.fl.v, iv s.pc, .ptr pb 0, sv s.inp, iv s.rd, .gsl H.length 1 [[.v (.int .u8 (v % 256))]], iv s.en, iv s.tr])) ++ [.row 5 1 1]) mb pb wb (.gsl H.length 1 [[.v (.int .u8 (v % 256))]]) s := by
      refine ⟨(pre_set hm.pre hm.lo.1 _).trans ⟨_, rfl⟩, ?_, ⟨?_, ?_, hm.mem.len, hm.mem.rng⟩, .inr ⟨H.length, [[.v (.int .u8 (v % 256))]], rfl, ?_, by omega, by simp, by simp⟩, hm.lo, hm.ne, hm.r16, hm.ru, hm.hu, hm.pc, hm.rd⟩
      · rw [List.getElem?_append_left (by rw [List.length_set]; exact hlt), List.getElem?_set_self hlt, hA]; rfl
      · rw [List.getElem?_append_left (by rw [List.length_set]; exact hpl), List.getElem?_set_ne hm.ne.2]; exact hm.mem.p
      · rw [List.getElem?_append_left (by rw [List.length_set]; exact hwl), List.getElem?_set_ne hm.ne.1]; exact hm.mem.w
      · rw [List.getElem?_append_right (by rw [List.length_set]; exact Nat.le_refl _), List.length_set]; simp
    refine ⟨_, ?_, ?_, _, s, fun c hc => .inr (by simp only [refs, List.mem_singleton] at hc; omega), hM, rfl, rfl, .inl rfl⟩
    rotate_left
    · rw [← hap]
      exact (Frm.app (by simp)).trans (.set (by simp))
    refine ACalls.into Try.func31 cc31 rr31 fun hcl => ?_
    simp (maxSteps := 2000000) (disch := omega) only [Try.ntmps31, c31, r31, hml, d25, hl, h8, hk, hap, s25, go_sem, eq_self, if_true, if_false, reduceCtorEq, Int.reduceToNat, Int.reducePow, Nat.reducePow, Nat.reduceMul, Int.reduceLT, Int.reduceLE, Nat.reduceAdd, Nat.reduceLeDiff, Nat.reduceBEq, Nat.reduceSub, Int.reduceSub, Int.reduceMul, Int.reduceNeg, Int.reduceAdd]
    exact Ret.keep ⟨rfl, rfl⟩
  · have hne : mb ≠ ob := fun e => by rw [e, ho] at hml; cases hml
    have hgo : ∀ x : ABlk, (H.set ob x)[mb]? = H[mb]? := fun x => List.getElem?_set_ne hne.symm
    by_cases h4 : es.length = 4096
    · refine ⟨_, ?_, .set (by simp), _, _, .rfl, he, rfl, rfl, .inr (.inr (.inr (.inr rfl)))⟩
      refine ACalls.into Try.func31 cc31 rr31 fun hcl => ?_
      simp (maxSteps := 2000000) (disch := omega) only [Try.ntmps31, c31, r31, hml, d25, hl, h4, s26, go_sem, eq_self, if_true, if_false, reduceCtorEq, Int.reduceToNat, Int.reducePow, Nat.reducePow, Nat.reduceMul, Int.reduceLT, Int.reduceLE, Nat.reduceAdd, Nat.reduceLeDiff, Nat.reduceBEq, Nat.reduceSub, Int.reduceSub, Int.reduceMul, Int.reduceNeg, Int.reduceAdd]
      exact Ret.keep ⟨rfl, rfl⟩
    · have hlt2 : mb < (H.set ob (.row 5 1 (es.length + 1))).length := by rw [List.length_set]; exact hlt
      have hol : ob < H.length := (List.getElem?_eq_some_iff.1 ho).1
      have hp : ob ≠ pb := fun e => by have := hm.mem.p; rw [← e, ho] at this; cases this
      have hw : ob ≠ wb := fun e => by have := hm.mem.w; rw [← e, ho] at this; cases this
      have hM : MAt H0 ((H.set ob (.row 5 1 (es.length + 1))).set mb (.cells (A ++ [wv s.h, bv s.fl.n, bv s.fl.z, bv s.fl.c, bv s.fl.v, iv s.pc, .ptr pb 0, sv s.inp, iv s.rd, .gsl ob 1 (es ++ [[.v (.int .u8 (v % 256))]]), iv s.en, iv s.tr]))) mb pb wb (.gsl ob 1 (es ++ [[.v (.int .u8 (v % 256))]])) s := by
        refine ⟨pre_set (pre_set hm.pre hob _) hm.lo.1 _, ?_, ⟨?_, ?_, hm.mem.len, hm.mem.rng⟩, .inr ⟨ob, _, rfl, ?_, hob, ?_, ?_⟩, hm.lo, hm.ne, hm.r16, hm.ru, hm.hu, hm.pc, hm.rd⟩
        · rw [List.getElem?_set_self hlt2, hA]; rfl
        · rw [List.getElem?_set_ne hm.ne.2, List.getElem?_set_ne hp]; exact hm.mem.p
        · rw [List.getElem?_set_ne hm.ne.1, List.getElem?_set_ne hw]; exact hm.mem.w
        · rw [List.getElem?_set_ne hne, List.getElem?_set_self hol]; simp
        · simp only [List.length_append, List.length_cons, List.length_nil]; omega
        · intro e he'
          rcases List.mem_append.1 he' with h | h
          · exact hby e h
          · exact ⟨_, List.mem_singleton.1 h⟩
      have hN : Nw H (.gsl ob 1 es) (.gsl ob 1 (es ++ [[.v (.int .u8 (v % 256))]])) := fun c hc => .inl hc
      refine ⟨_, ?_, ?_, _, s, hN, hM, rfl, rfl, .inl rfl⟩
      rotate_left
      · exact (Frm.set (by simp [refs])).trans (.set (by simp))
      refine ACalls.into Try.func31 cc31 rr31 fun hcl => ?_
      simp (maxSteps := 2000000) (disch := omega) only [Try.ntmps31, c31, r31, hml, d25, hl, h8, ho, hgo, s25, go_sem, eq_self, if_true, if_false, reduceCtorEq, Int.reduceToNat, Int.reducePow, Nat.reducePow, Nat.reduceMul, Int.reduceLT, Int.reduceLE, Nat.reduceAdd, Nat.reduceLeDiff, Nat.reduceBEq, Nat.reduceSub, Int.reduceSub, Int.reduceMul, Int.reduceNeg, Int.reduceAdd]
      exact Ret.keep ⟨rfl, rfl⟩
/-- ALL OF IT. -/
theorem stores_c {at' v : Int} (hat : U32 at') (hv : U32 v) (sm : Bool) : StoD H0 H mb pb wb o s at' v sm := by
  by_cases h1 : at' = 4294967240
  · exact data_c hm h1 hv sm
  by_cases h2 : at' = 4294967236
  · exact trap_c hm h2 hv sm
  by_cases h3 : at' = 4294967232
  · exact halt_c hm h3 hv sm
  exact place_c hm hat h1 h2 h3 hv sm
end
end Go.Proofs.Ytalhmnijkkihgaa

/- cpu.Machine.moves. -/
namespace Go.Proofs.Ytalhmnijkkihgaa
set_option linter.unusedVariables false
set_option linter.unusedSimpArgs false
set_option linter.unusedSectionVars false
set_option linter.unusedSimpArgs false
set_option linter.unusedVariables false
set_option maxRecDepth 20000
set_option maxHeartbeats 1000000
open Go.RowKit

theorem MAt.live {H0 H : List ABlk} {mb pb wb : Nat} {o : AV} {s : St} (hm : MAt H0 H mb pb wb o s) : ∀ b ∈ mb :: wb :: H.length :: refs o, H[b]? ≠ some .dead := by
  intro b hb
  simp only [List.mem_cons] at hb
  rcases hb with rfl | rfl | rfl | hb
  · rw [hm.m]; simp
  · rw [hm.mem.w]; simp
  · rw [List.getElem?_eq_none (Nat.le_refl _)]; simp
  · rcases hm.out with rfl | ⟨ob, es, rfl, h2, -⟩
    · simp [refs] at hb
    · simp [refs] at hb
      subst hb
      rw [h2]; simp
theorem ldF_u {H : List ABlk} {pb wb : Nat} {ws : List Int} (hm : MemAt H pb wb ws) (at' : Int) : U32 (ldF ws at').1 := by
  unfold ldF
  split
  · exact getD_rng hm.rng _
  · exact ⟨by decide, by decide⟩
theorem byF_u {H : List ABlk} {pb wb : Nat} {ws : List Int} (hm : MemAt H pb wb ws) (at' : Int) : U32 (byF ws at').1 := by
  unfold byF
  split
  · exact ⟨by simp only; omega, by simp only; omega⟩
  · exact ⟨by decide, by decide⟩
theorem moves_c {H0 H : List ABlk} {mb pb wb : Nat} {o : AV} {s : St} (hm : MAt H0 H mb pb wb o s) {x : In} (hx : InOk x) :
    ACalls Try.prog 20 [.ptr mb 0, x.av] H fun v H' => v = .tup [] ∧ ∃ o' s', Fx mb wb o H o' H' ∧ MAt H0 H' mb pb wb o' s' ∧ StoP s s' := by
  have hlt : mb < H.length := (List.getElem?_eq_some_iff.1 hm.m).1
  have h16 := hm.r16
  have hml := hm.m
  have hcB := reg_at (B := bC s pb o) h16 (a := x.b.toNat) (by have := hx.b; omega)
  have uB := reg_rng hm.ru x.b.toNat
  have hcA := reg_at (B := bC s pb o) h16 (a := x.a.toNat) (by have := hx.a; omega)
  have uA := reg_rng hm.ru x.a.toNat
  have hk : ∀ l, (H ++ l)[mb]? = some (.cells (s.regs.map wv ++ bC s pb o)) := fun l => by rw [List.getElem?_append_left hlt]; exact hml
  have hlenR : (s.regs.map wv ++ bC s pb o).length = 28 := by rw [List.length_append, List.length_map, h16]; rfl
  have hb12 : (bC s pb o).length = 12 := rfl
  have hap : ∀ x l, (H ++ l).set mb x = H.set mb x ++ l := fun x l => hm.set_ap x l
  have hrd := hm.rd
  obtain ⟨f, u, v, a, b, c, op, im⟩ := x
  have ha := hx.a
  have hb := hx.b
  have him := hx.im
  simp only at ha hb him hcA hcB uA uB
  refine ACalls.enter Try.func20 cc20 rr20 fun hcl => ?_
  simp only [Try.ntmps20, c20, r20]
  refine W.seq_reg ?_
  simp (maxSteps := 2000000) (disch := omega) only [go_sem, eq_self, if_true, if_false, reduceCtorEq, Int.reduceToNat, Int.reducePow, Nat.reducePow, Nat.reduceMul, Int.reduceLT, Int.reduceLE, Nat.reduceAdd, Nat.reduceLeDiff, Nat.reduceBEq, Nat.reduceSub, Int.reduceSub, Int.reduceMul, Int.reduceNeg, Int.reduceAdd]
  obtain ⟨at', hat⟩ : ∃ at', at' = (s.regs.getD b.toNat 0 + im % 4294967296) % 4294967296 := ⟨_, rfl⟩
  have uat : U32 at' := by rw [hat]; first | exact u32_mod _ | exact u32_bv _
  refine W.cut (fun s' H' => s' = [.ptr mb 0, .any, .any, .ptr H.length 0, wv at'] ++ List.replicate 101 .any ∧ H' = H ++ [.cells (In.mk f u v a b c op im).cs]) (W.pchain follows (by decide +kernel) ?_) ?_
  · simp (maxSteps := 2000000) (disch := omega) only [hk, hcB, hlenR, List.length_append, List.length_map, h16, hb12, go_sem, eq_self, if_true, if_false, reduceCtorEq, Int.reduceToNat, Int.reducePow, Nat.reducePow, Nat.reduceMul, Int.reduceLT, Int.reduceLE, Nat.reduceAdd, Nat.reduceLeDiff, Nat.reduceBEq, Nat.reduceSub, Int.reduceSub, Int.reduceMul, Int.reduceNeg, Int.reduceAdd]
    rw [← hat]
    exact ⟨_, _, Wk.slots (by (try simp only [List.replicate, List.cons_append, List.nil_append]); repeat' first | exact WkL.nil | refine WkL.cons (Wk1.rfl _) ?_ | refine WkL.cons Wk1.esl ?_ | refine WkL.cons (Wk1.gsl _ _ _) ?_ | refine WkL.cons (Wk1.any _) ?_), rfl, rfl⟩
  rintro s' H' ⟨rfl, rfl⟩
  refine W.cut (fun s' H' => s' = [.ptr mb 0, .any, .any, .ptr H.length 0, wv at'] ++ List.replicate 101 .any ∧ H' = H ++ [.cells (In.mk f u v a b c op im).cs]) (wpA.W ?_) ?_
  · cases u
    · simp (maxSteps := 2000000) (disch := omega) only [go_sem, eq_self, if_true, if_false, reduceCtorEq, Int.reduceToNat, Int.reducePow, Nat.reducePow, Nat.reduceMul, Int.reduceLT, Int.reduceLE, Nat.reduceAdd, Nat.reduceLeDiff, Nat.reduceBEq, Nat.reduceSub, Int.reduceSub, Int.reduceMul, Int.reduceNeg, Int.reduceAdd]
      exact ⟨_, _, Wk.slots (by (try simp only [List.replicate, List.cons_append, List.nil_append]); repeat' first | exact WkL.nil | refine WkL.cons (Wk1.rfl _) ?_ | refine WkL.cons Wk1.esl ?_ | refine WkL.cons (Wk1.gsl _ _ _) ?_ | refine WkL.cons (Wk1.any _) ?_), rfl, rfl⟩
    · simp (maxSteps := 2000000) (disch := omega) only [go_sem, eq_self, if_true, if_false, reduceCtorEq, Int.reduceToNat, Int.reducePow, Nat.reducePow, Nat.reduceMul, Int.reduceLT, Int.reduceLE, Nat.reduceAdd, Nat.reduceLeDiff, Nat.reduceBEq, Nat.reduceSub, Int.reduceSub, Int.reduceMul, Int.reduceNeg, Int.reduceAdd]
      obtain ⟨G, hG, fr, o', s2, nw2, m2, p2⟩ := stores_c (hm.ext [.cells (In.mk f true v a b c op im).cs]) uat uA v
      have hlive := (hm.ext [.cells (In.mk f true v a b c op im).cs]).live
      refine W.dregD [([], []), ([], []), ([], []), ([], []), ([], []), ([], []), ([], []), ([], []), ([], []), ([], []), ([], []), (mb :: wb :: (H ++ [ABlk.cells (In.mk f true v a b c op im).cs]).length :: refs o, [])] follows (by decide +kernel) rfl rfl (fun z hz b' hb' => ?_) ?_
      · simp only [List.mem_cons, List.not_mem_nil, or_false] at hz
        rcases hz with rfl | rfl | rfl | rfl | rfl | rfl | rfl | rfl | rfl | rfl | rfl | rfl <;> first | exact absurd hb' List.not_mem_nil | exact ⟨List.not_mem_nil, hlive _ hb'⟩
      repeat (rw [DC_p]; simp (maxSteps := 2000000) (disch := omega) only [hk, hcA, hlenR, List.length_append, List.length_map, h16, hb12, go_sem, eq_self, if_true, if_false, reduceCtorEq, Int.reduceToNat, Int.reducePow, Nat.reducePow, Nat.reduceMul, Int.reduceLT, Int.reduceLE, Nat.reduceAdd, Nat.reduceLeDiff, Nat.reduceBEq, Nat.reduceSub, Int.reduceSub, Int.reduceMul, Int.reduceNeg, Int.reduceAdd])
      have hlen : (H ++ [ABlk.cells (In.mk f true v a b c op im).cs]).length = H.length + 1 := by simp
      obtain ⟨fr1, fr2⟩ := id fr
      rw [hlen] at fr1
      refine WStep.call hG fr1 fr2 ?_
      exact Ret.keep ⟨rfl, o', s2, Fx.app.trans (.of fr nw2), m2, p2⟩
  rintro s' H' ⟨rfl, rfl⟩
  refine W.seq_reg ?_
  simp (maxSteps := 2000000) (disch := omega) only [go_sem, eq_self, if_true, if_false, reduceCtorEq, Int.reduceToNat, Int.reducePow, Nat.reducePow, Nat.reduceMul, Int.reduceLT, Int.reduceLE, Nat.reduceAdd, Nat.reduceLeDiff, Nat.reduceBEq, Nat.reduceSub, Int.reduceSub, Int.reduceMul, Int.reduceNeg, Int.reduceAdd]
  have hsame : H = H.set mb (.cells (s.regs.map wv ++ bC s pb o)) := (set_same hml).symm
  refine W.cut (fun s' H' => ∃ s1 v1 ok, MAt H0 (H.set mb (.cells (s1.regs.map wv ++ bC s1 pb o))) mb pb wb o s1 ∧ StoP s s1 ∧ U32 v1 ∧ s' = [.ptr mb 0, .any, .any, .ptr H.length 0, .any, wv v1, bv ok] ++ List.replicate 99 .any ∧ H' = H.set mb (.cells (s1.regs.map wv ++ bC s1 pb o)) ++ [.cells (In.mk f u v a b c op im).cs]) (wpA.W ?_) ?_
  · have old : ∀ v1 ok, U32 v1 → ∃ s1 v2 ok2, MAt H0 (H.set mb (.cells (s1.regs.map wv ++ bC s1 pb o))) mb pb wb o s1 ∧ StoP s s1 ∧ U32 v2 ∧ ([.ptr mb 0, .any, .any, .ptr H.length 0, .any, wv v1, bv ok] ++ List.replicate 99 .any = [.ptr mb 0, .any, .any, .ptr H.length 0, .any, wv v2, bv ok2] ++ List.replicate 99 .any) ∧ H ++ [.cells (In.mk f u v a b c op im).cs] = H.set mb (.cells (s1.regs.map wv ++ bC s1 pb o)) ++ [.cells (In.mk f u v a b c op im).cs] := fun v1 ok hv => ⟨s, v1, ok, by rw [← hsame]; exact hm, ⟨rfl, rfl, .inl rfl⟩, hv, rfl, by rw [← hsame]⟩
    obtain ⟨A, hA⟩ : ∃ A, A = s.regs.map wv := ⟨_, rfl⟩
    have hl : A.length = 16 := by rw [hA, List.length_map]; exact h16
    have d23 : ∀ B, List.drop 23 (A ++ B) = B.drop 7 := fun B => drp hl 7
    have d24 : ∀ B, List.drop 24 (A ++ B) = B.drop 8 := fun B => drp hl 8
    have d22 : ∀ B, List.drop 22 (A ++ B) = B.drop 6 := fun B => drp hl 6
    have s24 : ∀ x B, List.take 24 (A ++ B) ++ x :: List.drop 25 (A ++ B) = A ++ (B.take 8 ++ x :: B.drop 9) := fun x B => stB hl 8 x
    have fin : ∀ p : Int, 0 ≤ p → p ≤ s.inp.size → ∃ s1, MAt H0 (H.set mb (.cells (s1.regs.map wv ++ bC s1 pb o))) mb pb wb o s1 ∧ StoP s s1 ∧ s1.regs.map wv ++ bC s1 pb o = A ++ [wv s.h, bv s.fl.n, bv s.fl.z, bv s.fl.c, bv s.fl.v, iv s.pc, .ptr pb 0, sv s.inp, iv p, o, iv s.en, iv s.tr] := fun p p0 p1 =>
      ⟨{ s with rd := p }, hm.put { s with rd := p } rfl h16 hm.ru hm.hu hm.pc ⟨p0, p1, hm.rd.2.2⟩, ⟨rfl, rfl, .inl rfl⟩, by rw [hA]; rfl⟩
    have hk2 := hk
    rw [← hA] at hk2
    simp only [bC] at hk2
    by_cases h1 : at' = 4294967240
    · by_cases h2 : s.rd < s.inp.size
      · obtain ⟨s1, m1, p1, e1⟩ := fin (s.rd + 1) (by omega) (by omega)
        simp (maxSteps := 2000000) (disch := omega) only [hk2, d23, d24, hl, go_sem, eq_self, if_true, if_false, reduceCtorEq, Int.reduceToNat, Int.reducePow, Nat.reducePow, Nat.reduceMul, Int.reduceLT, Int.reduceLE, Nat.reduceAdd, Nat.reduceLeDiff, Nat.reduceBEq, Nat.reduceSub, Int.reduceSub, Int.reduceMul, Int.reduceNeg, Int.reduceAdd]
        refine W.pchain follows (by decide +kernel) ?_
        simp (maxSteps := 2000000) (disch := omega) only [hk2, d23, d24, hl, go_sem, eq_self, if_true, if_false, reduceCtorEq, Int.reduceToNat, Int.reducePow, Nat.reducePow, Nat.reduceMul, Int.reduceLT, Int.reduceLE, Nat.reduceAdd, Nat.reduceLeDiff, Nat.reduceBEq, Nat.reduceSub, Int.reduceSub, Int.reduceMul, Int.reduceNeg, Int.reduceAdd]
        refine W.pchain follows (by decide +kernel) ?_
        simp (maxSteps := 2000000) (disch := omega) only [hk2, d23, d24, s24, hl, hap, go_sem, eq_self, if_true, if_false, reduceCtorEq, Int.reduceToNat, Int.reducePow, Nat.reducePow, Nat.reduceMul, Int.reduceLT, Int.reduceLE, Nat.reduceAdd, Nat.reduceLeDiff, Nat.reduceBEq, Nat.reduceSub, Int.reduceSub, Int.reduceMul, Int.reduceNeg, Int.reduceAdd]
        rw [← e1]
        exact ⟨_, _, Wk.slots (by (try simp only [List.replicate, List.cons_append, List.nil_append]); repeat' first | exact WkL.nil | refine WkL.cons (Wk1.rfl _) ?_ | refine WkL.cons Wk1.esl ?_ | refine WkL.cons (Wk1.gsl _ _ _) ?_ | refine WkL.cons (Wk1.any _) ?_), s1, _, _, m1, p1, by first | exact u32_mod _ | exact u32_bv _, rfl, rfl⟩
      · simp (maxSteps := 2000000) (disch := omega) only [hk2, d23, d24, hl, go_sem, eq_self, if_true, if_false, reduceCtorEq, Int.reduceToNat, Int.reducePow, Nat.reducePow, Nat.reduceMul, Int.reduceLT, Int.reduceLE, Nat.reduceAdd, Nat.reduceLeDiff, Nat.reduceBEq, Nat.reduceSub, Int.reduceSub, Int.reduceMul, Int.reduceNeg, Int.reduceAdd]
        refine W.pchain follows (by decide +kernel) ?_
        simp (maxSteps := 2000000) (disch := omega) only [hk2, d23, d24, hl, go_sem, eq_self, if_true, if_false, reduceCtorEq, Int.reduceToNat, Int.reducePow, Nat.reducePow, Nat.reduceMul, Int.reduceLT, Int.reduceLE, Nat.reduceAdd, Nat.reduceLeDiff, Nat.reduceBEq, Nat.reduceSub, Int.reduceSub, Int.reduceMul, Int.reduceNeg, Int.reduceAdd]
        exact ⟨_, _, Wk.slots (by (try simp only [List.replicate, List.cons_append, List.nil_append]); repeat' first | exact WkL.nil | refine WkL.cons (Wk1.rfl _) ?_ | refine WkL.cons Wk1.esl ?_ | refine WkL.cons (Wk1.gsl _ _ _) ?_ | refine WkL.cons (Wk1.any _) ?_), old 0 true (by decide)⟩
    by_cases h3 : at' = 4294967244
    · by_cases h2 : s.rd < s.inp.size
      · simp (maxSteps := 2000000) (disch := omega) only [hk2, d23, d24, hl, go_sem, eq_self, if_true, if_false, reduceCtorEq, Int.reduceToNat, Int.reducePow, Nat.reducePow, Nat.reduceMul, Int.reduceLT, Int.reduceLE, Nat.reduceAdd, Nat.reduceLeDiff, Nat.reduceBEq, Nat.reduceSub, Int.reduceSub, Int.reduceMul, Int.reduceNeg, Int.reduceAdd]
        refine W.pchain follows (by decide +kernel) ?_
        simp (maxSteps := 2000000) (disch := omega) only [hk2, d23, d24, hl, go_sem, eq_self, if_true, if_false, reduceCtorEq, Int.reduceToNat, Int.reducePow, Nat.reducePow, Nat.reduceMul, Int.reduceLT, Int.reduceLE, Nat.reduceAdd, Nat.reduceLeDiff, Nat.reduceBEq, Nat.reduceSub, Int.reduceSub, Int.reduceMul, Int.reduceNeg, Int.reduceAdd]
        exact ⟨_, _, Wk.slots (by (try simp only [List.replicate, List.cons_append, List.nil_append]); repeat' first | exact WkL.nil | refine WkL.cons (Wk1.rfl _) ?_ | refine WkL.cons Wk1.esl ?_ | refine WkL.cons (Wk1.gsl _ _ _) ?_ | refine WkL.cons (Wk1.any _) ?_), old 1 true (by decide)⟩
      · simp (maxSteps := 2000000) (disch := omega) only [hk2, d23, d24, hl, go_sem, eq_self, if_true, if_false, reduceCtorEq, Int.reduceToNat, Int.reducePow, Nat.reducePow, Nat.reduceMul, Int.reduceLT, Int.reduceLE, Nat.reduceAdd, Nat.reduceLeDiff, Nat.reduceBEq, Nat.reduceSub, Int.reduceSub, Int.reduceMul, Int.reduceNeg, Int.reduceAdd]
        refine W.pchain follows (by decide +kernel) ?_
        simp (maxSteps := 2000000) (disch := omega) only [hk2, d23, d24, hl, go_sem, eq_self, if_true, if_false, reduceCtorEq, Int.reduceToNat, Int.reducePow, Nat.reducePow, Nat.reduceMul, Int.reduceLT, Int.reduceLE, Nat.reduceAdd, Nat.reduceLeDiff, Nat.reduceBEq, Nat.reduceSub, Int.reduceSub, Int.reduceMul, Int.reduceNeg, Int.reduceAdd]
        exact ⟨_, _, Wk.slots (by (try simp only [List.replicate, List.cons_append, List.nil_append]); repeat' first | exact WkL.nil | refine WkL.cons (Wk1.rfl _) ?_ | refine WkL.cons Wk1.esl ?_ | refine WkL.cons (Wk1.gsl _ _ _) ?_ | refine WkL.cons (Wk1.any _) ?_), old 0 true (by decide)⟩
    obtain ⟨a0, a1⟩ := uat
    cases v
    · simp (maxSteps := 2000000) (disch := omega) only [hk2, d22, hl, go_sem, eq_self, if_true, if_false, reduceCtorEq, Int.reduceToNat, Int.reducePow, Nat.reducePow, Nat.reduceMul, Int.reduceLT, Int.reduceLE, Nat.reduceAdd, Nat.reduceLeDiff, Nat.reduceBEq, Nat.reduceSub, Int.reduceSub, Int.reduceMul, Int.reduceNeg, Int.reduceAdd]
      refine Cont.mk (load_c (hm.ext _).mem at' a0 a1) ?_
      simp (maxSteps := 2000000) (disch := omega) only [go_sem, eq_self, if_true, if_false, reduceCtorEq, Int.reduceToNat, Int.reducePow, Nat.reducePow, Nat.reduceMul, Int.reduceLT, Int.reduceLE, Nat.reduceAdd, Nat.reduceLeDiff, Nat.reduceBEq, Nat.reduceSub, Int.reduceSub, Int.reduceMul, Int.reduceNeg, Int.reduceAdd]
      exact ⟨_, _, Wk.slots (by (try simp only [List.replicate, List.cons_append, List.nil_append]); repeat' first | exact WkL.nil | refine WkL.cons (Wk1.rfl _) ?_ | refine WkL.cons Wk1.esl ?_ | refine WkL.cons (Wk1.gsl _ _ _) ?_ | refine WkL.cons (Wk1.any _) ?_), old _ _ (ldF_u hm.mem at')⟩
    · simp (maxSteps := 2000000) (disch := omega) only [hk2, d22, hl, go_sem, eq_self, if_true, if_false, reduceCtorEq, Int.reduceToNat, Int.reducePow, Nat.reducePow, Nat.reduceMul, Int.reduceLT, Int.reduceLE, Nat.reduceAdd, Nat.reduceLeDiff, Nat.reduceBEq, Nat.reduceSub, Int.reduceSub, Int.reduceMul, Int.reduceNeg, Int.reduceAdd]
      refine Cont.mk (byte_c (hm.ext _).mem at' a0 a1) ?_
      simp (maxSteps := 2000000) (disch := omega) only [go_sem, eq_self, if_true, if_false, reduceCtorEq, Int.reduceToNat, Int.reducePow, Nat.reducePow, Nat.reduceMul, Int.reduceLT, Int.reduceLE, Nat.reduceAdd, Nat.reduceLeDiff, Nat.reduceBEq, Nat.reduceSub, Int.reduceSub, Int.reduceMul, Int.reduceNeg, Int.reduceAdd]
      exact ⟨_, _, Wk.slots (by (try simp only [List.replicate, List.cons_append, List.nil_append]); repeat' first | exact WkL.nil | refine WkL.cons (Wk1.rfl _) ?_ | refine WkL.cons Wk1.esl ?_ | refine WkL.cons (Wk1.gsl _ _ _) ?_ | refine WkL.cons (Wk1.any _) ?_), old _ _ (byF_u hm.mem at')⟩
  rintro s' H' ⟨s1, v1, ok, m1, p1, u1, rfl, rfl⟩
  refine wpA.W ?_
  have hgm : ∀ x l, (H.set mb x ++ l)[mb]? = some x := fun x l => by rw [List.getElem?_append_left (by rw [List.length_set]; exact hlt)]; exact List.getElem?_set_self hlt
  have hq : ∀ x a l, (H.set mb x ++ (a :: l))[H.length]? = some a := fun x a l => by rw [List.getElem?_append_right (by rw [List.length_set]; exact Nat.le_refl _), List.length_set]; simp
  have m2 := m1.ext [.cells (In.mk f u v a b c op im).cs]
  cases ok
  · have he := m2.endd 5 s1.tr
    obtain ⟨A, hA⟩ : ∃ A, A = s1.regs.map wv := ⟨_, rfl⟩
    have hl : A.length = 16 := by rw [hA, List.length_map]; exact m1.r16
    have s26 : ∀ x B, List.take 26 (A ++ B) ++ x :: List.drop 27 (A ++ B) = A ++ (B.take 10 ++ x :: B.drop 11) := fun x B => stB hl 10 x
    simp only [bC] at he ⊢
    rw [← hA] at he ⊢
    simp (maxSteps := 2000000) (disch := omega) only [hgm, s26, hl, go_sem, eq_self, if_true, if_false, reduceCtorEq, Int.reduceToNat, Int.reducePow, Nat.reducePow, Nat.reduceMul, Int.reduceLT, Int.reduceLE, Nat.reduceAdd, Nat.reduceLeDiff, Nat.reduceBEq, Nat.reduceSub, Int.reduceSub, Int.reduceMul, Int.reduceNeg, Int.reduceAdd]
    exact Ret.keep ⟨rfl, o, _, (Fx.set.trans .app).trans .set, he, p1.1, p1.2.1, .inr (.inr (.inr (.inl rfl)))⟩
  · simp (maxSteps := 2000000) (disch := omega) only [hq, go_sem, eq_self, if_true, if_false, reduceCtorEq, Int.reduceToNat, Int.reducePow, Nat.reducePow, Nat.reduceMul, Int.reduceLT, Int.reduceLE, Nat.reduceAdd, Nat.reduceLeDiff, Nat.reduceBEq, Nat.reduceSub, Int.reduceSub, Int.reduceMul, Int.reduceNeg, Int.reduceAdd]
    refine Cont.mk (sets_c m2 ha u1) ?_
    simp (maxSteps := 2000000) (disch := omega) only [go_sem, eq_self, if_true, if_false, reduceCtorEq, Int.reduceToNat, Int.reducePow, Nat.reducePow, Nat.reduceMul, Int.reduceLT, Int.reduceLE, Nat.reduceAdd, Nat.reduceLeDiff, Nat.reduceBEq, Nat.reduceSub, Int.reduceSub, Int.reduceMul, Int.reduceNeg, Int.reduceAdd]
    exact Ret.keep ⟨rfl, o, _, (Fx.set.trans .app).trans .set, m2.sets a.toNat u1, p1⟩
end Go.Proofs.Ytalhmnijkkihgaa

/- cpu.Machine.step. -/
namespace Go.Proofs.Ytalhmnijkkihgaa
set_option linter.unusedVariables false
set_option linter.unusedSimpArgs false
set_option linter.unusedSectionVars false
set_option linter.unusedSimpArgs false
set_option linter.unusedVariables false
set_option maxRecDepth 20000
set_option maxHeartbeats 1000000
open Go.RowKit

/-- What Decode tells of a word. -/
noncomputable def decE (w : Int) : Int := open Classical in if h : ∃ e x, DecP w x e then Classical.choose h else 0
theorem dec_spec {w : Int} (hw : U32 w) : ∃ x, DecP w x (decE w) := by
  obtain ⟨x, e, hd⟩ := dec_ex w hw
  have h : ∃ e x, DecP w x e := ⟨e, x, hd⟩
  rw [decE, dif_pos h]
  exact Classical.choose_spec h
/-- What stands where the machine stands. -/
def St.word (s : St) : Int := (ldF s.ws (s.pc * 4)).1
def St.here (s : St) : Bool := (ldF s.ws (s.pc * 4)).2
def StepP (s s' : St) : Prop := s'.ws.length = s.ws.length ∧ (s.here = false ∧ s' = { s with en := 5 } ∨ s.here = true ∧ decE s.word = 20 ∧ s' = { s with en := 4 } ∨ s.here = true ∧ decE s.word = 0 ∧ (s'.en = s.en ∨ s'.en = 1 ∨ s'.en = 2 ∨ s'.en = 5 ∨ s'.en = 6))
theorem step_c {H0 H : List ABlk} {mb pb wb : Nat} {o : AV} {s : St} (hm : MAt H0 H mb pb wb o s) :
    ACalls Try.prog 13 [.ptr mb 0] H fun v H' => v = .tup [] ∧ ∃ o' s', Fx mb wb o H o' H' ∧ MAt H0 H' mb pb wb o' s' ∧ StepP s s' := by
  have hlt : mb < H.length := (List.getElem?_eq_some_iff.1 hm.m).1
  have h16 := hm.r16
  have hml := hm.m
  have hpc := hm.pc
  obtain ⟨A, hA⟩ : ∃ A, A = s.regs.map wv := ⟨_, rfl⟩
  have hl : A.length = 16 := by rw [hA, List.length_map]; exact h16
  have d21 : ∀ B, List.drop 21 (A ++ B) = B.drop 5 := fun B => drp hl 5
  have d22 : ∀ B, List.drop 22 (A ++ B) = B.drop 6 := fun B => drp hl 6
  have s26 : ∀ x B, List.take 26 (A ++ B) ++ x :: List.drop 27 (A ++ B) = A ++ (B.take 10 ++ x :: B.drop 11) := fun x B => stB hl 10 x
  have s21 : ∀ x B, List.take 21 (A ++ B) ++ x :: List.drop 22 (A ++ B) = A ++ (B.take 5 ++ x :: B.drop 6) := fun x B => stB hl 5 x
  have he := hm.endd
  have hml2 := hml
  rw [← hA] at hml2
  simp only [bC] at hml2
  rw [← hA] at he
  have e4 : s.pc % 4294967296 * 4 % 4294967296 = s.pc * 4 := by omega
  refine ACalls.enter Try.func13 cc13 rr13 fun hcl => ?_
  simp only [Try.ntmps13, c13, r13]
  refine W.seq_reg ?_
  simp (maxSteps := 2000000) (disch := omega) only [go_sem, eq_self, if_true, if_false, reduceCtorEq, Int.reduceToNat, Int.reducePow, Nat.reducePow, Nat.reduceMul, Int.reduceLT, Int.reduceLE, Nat.reduceAdd, Nat.reduceLeDiff, Nat.reduceBEq, Nat.reduceSub, Int.reduceSub, Int.reduceMul, Int.reduceNeg, Int.reduceAdd]
  refine W.cut (fun s' H' => ∃ w ok, (s.here = true → w = s.word) ∧ ok = s.here ∧ s' = [.ptr mb 0, .any, wv w, bv ok] ++ List.replicate 63 .any ∧ H' = H) (wpA.W ?_) ?_
  · refine W.pchain follows (by decide +kernel) ?_
    simp (maxSteps := 2000000) (disch := omega) only [hml2, d21, d22, hl, go_sem, eq_self, if_true, if_false, reduceCtorEq, Int.reduceToNat, Int.reducePow, Nat.reducePow, Nat.reduceMul, Int.reduceLT, Int.reduceLE, Nat.reduceAdd, Nat.reduceLeDiff, Nat.reduceBEq, Nat.reduceSub, Int.reduceSub, Int.reduceMul, Int.reduceNeg, Int.reduceAdd]
    refine PCont.mk (size_c hm.mem) ?_
    by_cases h : s.pc < s.ws.length
    · simp (maxSteps := 2000000) (disch := omega) only [go_sem, eq_self, if_true, if_false, reduceCtorEq, Int.reduceToNat, Int.reducePow, Nat.reducePow, Nat.reduceMul, Int.reduceLT, Int.reduceLE, Nat.reduceAdd, Nat.reduceLeDiff, Nat.reduceBEq, Nat.reduceSub, Int.reduceSub, Int.reduceMul, Int.reduceNeg, Int.reduceAdd]
      refine W.pchain follows (by decide +kernel) ?_
      simp (maxSteps := 2000000) (disch := omega) only [hml2, d21, d22, hl, e4, go_sem, eq_self, if_true, if_false, reduceCtorEq, Int.reduceToNat, Int.reducePow, Nat.reducePow, Nat.reduceMul, Int.reduceLT, Int.reduceLE, Nat.reduceAdd, Nat.reduceLeDiff, Nat.reduceBEq, Nat.reduceSub, Int.reduceSub, Int.reduceMul, Int.reduceNeg, Int.reduceAdd]
      refine PCont.mk (load_c hm.mem _ (by omega) (by omega)) ?_
      simp (maxSteps := 2000000) (disch := omega) only [go_sem, eq_self, if_true, if_false, reduceCtorEq, Int.reduceToNat, Int.reducePow, Nat.reducePow, Nat.reduceMul, Int.reduceLT, Int.reduceLE, Nat.reduceAdd, Nat.reduceLeDiff, Nat.reduceBEq, Nat.reduceSub, Int.reduceSub, Int.reduceMul, Int.reduceNeg, Int.reduceAdd]
      exact ⟨_, _, Wk.slots (by (try simp only [List.replicate, List.cons_append, List.nil_append]); repeat' first | exact WkL.nil | refine WkL.cons (Wk1.rfl _) ?_ | refine WkL.cons Wk1.esl ?_ | refine WkL.cons (Wk1.gsl _ _ _) ?_ | refine WkL.cons (Wk1.any _) ?_), _, _, fun _ => rfl, rfl, rfl, rfl⟩
    · simp (maxSteps := 2000000) (disch := omega) only [go_sem, eq_self, if_true, if_false, reduceCtorEq, Int.reduceToNat, Int.reducePow, Nat.reducePow, Nat.reduceMul, Int.reduceLT, Int.reduceLE, Nat.reduceAdd, Nat.reduceLeDiff, Nat.reduceBEq, Nat.reduceSub, Int.reduceSub, Int.reduceMul, Int.reduceNeg, Int.reduceAdd]
      refine ⟨_, _, Wk.slots (by (try simp only [List.replicate, List.cons_append, List.nil_append]); repeat' first | exact WkL.nil | refine WkL.cons (Wk1.rfl _) ?_ | refine WkL.cons Wk1.esl ?_ | refine WkL.cons (Wk1.gsl _ _ _) ?_ | refine WkL.cons (Wk1.any _) ?_), 0, false, fun h' => ?_, ?_, rfl, rfl⟩
      · rw [St.here, ldF, if_neg (by omega)] at h'; cases h'
      · rw [St.here, ldF, if_neg (by omega)]
  rintro s' H' ⟨w, ok, hw, rfl, rfl, rfl⟩
  refine wpA.W ?_
  cases hh : s.here
  · simp (maxSteps := 2000000) (disch := omega) only [hml2, s26, hl, go_sem, eq_self, if_true, if_false, reduceCtorEq, Int.reduceToNat, Int.reducePow, Nat.reducePow, Nat.reduceMul, Int.reduceLT, Int.reduceLE, Nat.reduceAdd, Nat.reduceLeDiff, Nat.reduceBEq, Nat.reduceSub, Int.reduceSub, Int.reduceMul, Int.reduceNeg, Int.reduceAdd]
    exact Ret.keep ⟨rfl, o, _, .set, he 5 s.tr, rfl, .inl ⟨hh, rfl⟩⟩
  have hw := hw hh
  subst hw
  have uw : U32 s.word := ldF_u hm.mem _
  obtain ⟨x, hd⟩ := dec_spec uw
  obtain ⟨e, hE⟩ : ∃ e, e = decE s.word := ⟨_, rfl⟩
  rw [← hE] at hd
  obtain ⟨hx, hee, hdc⟩ := id hd
  simp (maxSteps := 2000000) (disch := omega) only [go_sem, eq_self, if_true, if_false, reduceCtorEq, Int.reduceToNat, Int.reducePow, Nat.reducePow, Nat.reduceMul, Int.reduceLT, Int.reduceLE, Nat.reduceAdd, Nat.reduceLeDiff, Nat.reduceBEq, Nat.reduceSub, Int.reduceSub, Int.reduceMul, Int.reduceNeg, Int.reduceAdd]
  refine Cont.mk (hdc _) ?_
  have hq : ∀ a, (H' ++ [a])[H'.length]? = some a := fun a => by simp
  have hk : ∀ l, (H' ++ l)[mb]? = some (.cells (A ++ [wv s.h, bv s.fl.n, bv s.fl.z, bv s.fl.c, bv s.fl.v, iv s.pc, .ptr pb 0, sv s.inp, iv s.rd, o, iv s.en, iv s.tr])) := fun l => by rw [List.getElem?_append_left hlt]; exact hml2
  have hs1 : ∀ a b : ABlk, (H' ++ [a]).set H'.length b = H' ++ [b] := fun a b => by simp
  have m0 := hm.ext [.cells x.cs]
  rcases hee with rfl | rfl
  rotate_left
  · have he2 := m0.endd 4 s.tr
    rw [← hA] at he2
    simp (maxSteps := 2000000) (disch := omega) only [hq, hs1, hk, s26, hl, go_sem, eq_self, if_true, if_false, reduceCtorEq, Int.reduceToNat, Int.reducePow, Nat.reducePow, Nat.reduceMul, Int.reduceLT, Int.reduceLE, Nat.reduceAdd, Nat.reduceLeDiff, Nat.reduceBEq, Nat.reduceSub, Int.reduceSub, Int.reduceMul, Int.reduceNeg, Int.reduceAdd]
    exact Ret.keep ⟨rfl, o, _, Fx.app.trans .set, he2, rfl, .inr (.inl ⟨hh, hE.symm, rfl⟩)⟩
  have hhr : s.pc < s.ws.length := by
    have := hh
    simp only [St.here, ldF] at this
    split at this
    · omega
    · cases this
  have hlen := hm.mem.len
  obtain ⟨s1, hs1'⟩ : ∃ s1 : St, s1 = { s with pc := s.pc + 1 } := ⟨_, rfl⟩
  have m1 := m0.put s1 (by rw [hs1']) (by rw [hs1']; exact h16) (by rw [hs1']; exact hm.ru) (by rw [hs1']; exact hm.hu) (by rw [hs1']; exact ⟨by simp only; omega, by simp only; omega⟩) (by rw [hs1']; exact hm.rd)
  have hcell : s1.regs.map wv ++ bC s1 pb o = A ++ [wv s.h, bv s.fl.n, bv s.fl.z, bv s.fl.c, bv s.fl.v, iv (s.pc + 1), .ptr pb 0, sv s.inp, iv s.rd, o, iv s.en, iv s.tr] := by rw [hs1', hA]; rfl
  have hq2 : ∀ a b : ABlk, ((H' ++ [a]).set mb b)[H'.length]? = some a := fun a b => by rw [List.getElem?_set_ne (by omega)]; simp
  have p1 : s1.ws = s.ws ∧ s1.en = s.en := by rw [hs1']; exact ⟨rfl, rfl⟩
  obtain ⟨f, u, v, a, b, c, op, im⟩ := x
  rw [hcell] at m1
  by_cases f2 : f = 2
  · simp (maxSteps := 2000000) (disch := omega) only [hq, hs1, hk, d21, s21, hl, hq2, go_sem, eq_self, if_true, if_false, reduceCtorEq, Int.reduceToNat, Int.reducePow, Nat.reducePow, Nat.reduceMul, Int.reduceLT, Int.reduceLE, Nat.reduceAdd, Nat.reduceLeDiff, Nat.reduceBEq, Nat.reduceSub, Int.reduceSub, Int.reduceMul, Int.reduceNeg, Int.reduceAdd]
    refine Cont.rel (moves_c m1 hx) ?_
    rintro v H' ⟨rfl, o', s', fx, m', q1, q2, q3⟩
    simp (maxSteps := 2000000) (disch := omega) only [go_sem, eq_self, if_true, if_false, reduceCtorEq, Int.reduceToNat, Int.reducePow, Nat.reducePow, Nat.reduceMul, Int.reduceLT, Int.reduceLE, Nat.reduceAdd, Nat.reduceLeDiff, Nat.reduceBEq, Nat.reduceSub, Int.reduceSub, Int.reduceMul, Int.reduceNeg, Int.reduceAdd]
    exact Ret.keep ⟨rfl, o', s', (Fx.app.trans .set).trans fx, m', by rw [q2, p1.1], .inr (.inr ⟨hh, hE.symm, by rw [← p1.2]; exact q3⟩)⟩
  by_cases f3 : f = 3
  · simp (maxSteps := 2000000) (disch := omega) only [hq, hs1, hk, d21, s21, hl, hq2, go_sem, eq_self, if_true, if_false, reduceCtorEq, Int.reduceToNat, Int.reducePow, Nat.reducePow, Nat.reduceMul, Int.reduceLT, Int.reduceLE, Nat.reduceAdd, Nat.reduceLeDiff, Nat.reduceBEq, Nat.reduceSub, Int.reduceSub, Int.reduceMul, Int.reduceNeg, Int.reduceAdd]
    refine Cont.rel (jumps_c m1 hx) ?_
    rintro v H' ⟨rfl, s', rfl, m', q1, q2⟩
    simp (maxSteps := 2000000) (disch := omega) only [go_sem, eq_self, if_true, if_false, reduceCtorEq, Int.reduceToNat, Int.reducePow, Nat.reducePow, Nat.reduceMul, Int.reduceLT, Int.reduceLE, Nat.reduceAdd, Nat.reduceLeDiff, Nat.reduceBEq, Nat.reduceSub, Int.reduceSub, Int.reduceMul, Int.reduceNeg, Int.reduceAdd]
    exact Ret.keep ⟨rfl, o, s', (Fx.app.trans .set).trans .set, m', by rw [q1, p1.1], .inr (.inr ⟨hh, hE.symm, .inl (by rw [q2, p1.2])⟩)⟩
  · simp (maxSteps := 2000000) (disch := omega) only [hq, hs1, hk, d21, s21, hl, hq2, go_sem, eq_self, if_true, if_false, reduceCtorEq, Int.reduceToNat, Int.reducePow, Nat.reducePow, Nat.reduceMul, Int.reduceLT, Int.reduceLE, Nat.reduceAdd, Nat.reduceLeDiff, Nat.reduceBEq, Nat.reduceSub, Int.reduceSub, Int.reduceMul, Int.reduceNeg, Int.reduceAdd]
    refine Cont.rel (reckons_c m1 hx) ?_
    rintro v H' ⟨rfl, s', rfl, m', q1, q2, q3⟩
    simp (maxSteps := 2000000) (disch := omega) only [go_sem, eq_self, if_true, if_false, reduceCtorEq, Int.reduceToNat, Int.reducePow, Nat.reducePow, Nat.reduceMul, Int.reduceLT, Int.reduceLE, Nat.reduceAdd, Nat.reduceLeDiff, Nat.reduceBEq, Nat.reduceSub, Int.reduceSub, Int.reduceMul, Int.reduceNeg, Int.reduceAdd]
    exact Ret.keep ⟨rfl, o, s', (Fx.app.trans .set).trans .set, m', by rw [q2, p1.1], .inr (.inr ⟨hh, hE.symm, .inl (by rw [q3, p1.2])⟩)⟩
end Go.Proofs.Ytalhmnijkkihgaa
