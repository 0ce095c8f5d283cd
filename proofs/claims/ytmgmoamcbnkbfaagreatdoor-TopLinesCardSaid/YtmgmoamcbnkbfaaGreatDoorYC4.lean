/- cpu.Machine.jumps. -/
import Derived.Test.YtmgmoamcbnkbfaaGreatDoorYC2
import Derived.Test.YtmgmoamcbnkbfaaGreatDoorYA6
set_option linter.unusedVariables false
set_option linter.unusedSimpArgs false
set_option linter.unusedSectionVars false
namespace Go.Proofs.YtmgmoamcbnkbfaaGreatDoor
set_option linter.unusedSimpArgs false
set_option linter.unusedVariables false
set_option maxRecDepth 20000
set_option maxHeartbeats 1000000
open Go.RowKit

theorem and30 (m : Int) : ∃ K, IntKind.i64.wrap ((BitVec.ofInt IntKind.i64.bits m &&& BitVec.ofInt IntKind.i64.bits 1073741823).toNat : Int) = K ∧ 0 ≤ K ∧ K < 1073741824 := by
  refine ⟨_, rfl, ?_⟩
  have h1 : (BitVec.ofInt IntKind.i64.bits m &&& BitVec.ofInt IntKind.i64.bits 1073741823).toNat ≤ 1073741823 := by
    rw [BitVec.toNat_and]
    exact Nat.le_trans Nat.and_le_right (by decide)
  generalize (BitVec.ofInt IntKind.i64.bits m &&& BitVec.ofInt IntKind.i64.bits 1073741823).toNat = q at *
  rw [w_i64 (by omega) (by omega)]
  omega
noncomputable def holdsF (a : Int) (f : Fl) : Bool := (holds_f a f.n f.z f.c f.v).choose
theorem holds_s (a : Int) (f : Fl) : ∀ H, ACalls Tryz.prog 70 [iv a, .agg [bv f.n, bv f.z, bv f.c, bv f.v]] H fun w H' => w = bv (holdsF a f) ∧ H' = H := (holds_f a f.n f.z f.c f.v).choose_spec
def and30F (m : Int) : Int := IntKind.i64.wrap ((BitVec.ofInt IntKind.i64.bits m &&& BitVec.ofInt IntKind.i64.bits 1073741823).toNat : Int)
/-- Where a jump leads. -/
def toF (s : St) (x : In) : Int := if x.u = true then and30F (s.pc + x.im) else s.regs.getD x.c.toNat 0 / 4
noncomputable def jmpF (s : St) (x : In) : St :=
  if holdsF x.a s.fl = true then (if x.v = true then { s with pc := toF s x, regs := s.regs.set 15 (s.pc * 4) } else { s with pc := toF s x }) else s
theorem jmpF_f {s : St} {x : In} (h : holdsF x.a s.fl = false) : jmpF s x = s := by simp only [jmpF, h, Bool.false_eq_true, if_false]
theorem jmpF_t {s : St} {x : In} (h : holdsF x.a s.fl = true) : jmpF s x = if x.v = true then { s with pc := toF s x, regs := s.regs.set 15 (s.pc * 4) } else { s with pc := toF s x } := by rw [jmpF, if_pos h]
theorem jumps_c {H0 H : List ABlk} {mb pb wb : Nat} {o : AV} {s : St} (hm : MAt H0 H mb pb wb o s) {x : In} (hx : InOk x) :
    ACalls Tryz.prog 43 [.ptr mb 0, x.av] H (Put H0 H mb pb wb o (jmpF s x)) := by
  have hlt : mb < H.length := (List.getElem?_eq_some_iff.1 hm.m).1
  have h16 := hm.r16
  have hml := hm.m
  have hcC := reg_at (B := bC s pb o) h16 (a := x.c.toNat) (by have := hx.c; omega)
  have uC := reg_rng hm.ru x.c.toNat
  have hk : ∀ l, (H ++ l)[mb]? = some (.cells (s.regs.map wv ++ bC s pb o)) := fun l => by rw [List.getElem?_append_left hlt]; exact hml
  have hlenR : (s.regs.map wv ++ bC s pb o).length = 28 := by rw [List.length_append, List.length_map, h16]; rfl
  have hb12 : (bC s pb o).length = 12 := rfl
  have hap : ∀ x l, (H ++ l).set mb x = H.set mb x ++ l := fun x l => hm.set_ap x l
  have h17 : List.take 4 (List.drop 17 (s.regs.map wv ++ bC s pb o)) = [bv s.fl.n, bv s.fl.z, bv s.fl.c, bv s.fl.v] := by
    rw [show 17 = 16 + 1 from rfl, drp (by rw [List.length_map]; exact h16)]; rfl
  have h21 : List.take 1 (List.drop 21 (s.regs.map wv ++ bC s pb o)) = [iv s.pc] := by
    rw [show 21 = 16 + 5 from rfl, drp (by rw [List.length_map]; exact h16)]; rfl
  obtain ⟨f, u, v, a, b, c, op, im⟩ := x
  have hc := hx.c
  have him := hx.im
  have hpc := hm.pc
  simp only at hc him hcC uC
  have hB := holds_s a s.fl
  obtain ⟨B, hBe⟩ : ∃ B, B = holdsF a s.fl := ⟨_, rfl⟩
  rw [← hBe] at hB
  obtain ⟨K, hK, k0, k1⟩ := and30 (s.pc + im)
  obtain ⟨p, hp⟩ : ∃ p, p = toF s (In.mk f u v a b c op im) := ⟨_, rfl⟩
  have hpr : 0 ≤ p ∧ p < 1073741824 := by
    rw [hp, toF]
    split
    · rw [and30F, hK]; exact ⟨k0, k1⟩
    · simp only; omega
  have hK2 := hK
  try simp only [go_sem, seval, eq_self, if_true, if_false, reduceCtorEq] at hK2
  refine ACalls.enter Tryz.func43 cc43 rr43 fun hcl => ?_
  simp only [Tryz.ntmps43, c43, r43]
  refine W.seq_reg ?_
  simp (maxSteps := 2000000) (disch := omega) only [go_sem, seval, eq_self, if_true, if_false, reduceCtorEq]
  refine W.cut (fun s' H' => holdsF a s.fl = true ∧ s' = [.ptr mb 0, .any, .any, .ptr H.length 0] ++ List.replicate 44 .any ∧ H' = H ++ [.cells (In.mk f u v a b c op im).cs]) (wpA.W ?_) ?_
  · simp (maxSteps := 2000000) (disch := omega) only [go_sem, seval, eq_self, if_true, if_false, reduceCtorEq]
    refine W.pchain follows (by decide +kernel) ?_
    simp (maxSteps := 2000000) (disch := omega) only [hk, h17, hlenR, List.length_append, List.length_map, h16, hb12, go_sem, seval, eq_self, if_true, if_false, reduceCtorEq]
    refine PCont.mk (hB _) ?_
    cases B
    · simp (maxSteps := 2000000) (disch := omega) only [go_sem, seval, eq_self, if_true, if_false, reduceCtorEq]
      rw [jmpF_f (x := In.mk f u v a b c op im) hBe.symm]
      exact Ret.drop _ H (Nat.le_refl _) hcl (.rfl _) (by simp [refs, refs.refsL]) ⟨rfl, (set_same hml).symm, hm⟩
    · simp (maxSteps := 2000000) (disch := omega) only [go_sem, seval, eq_self, if_true, if_false, reduceCtorEq]
      exact ⟨_, _, Wk.slots (by (try simp only [List.replicate, List.cons_append, List.nil_append]); repeat' first | exact WkL.nil | refine WkL.cons (Wk1.rfl _) ?_ | refine WkL.cons Wk1.esl ?_ | refine WkL.cons (Wk1.gsl _ _ _) ?_ | refine WkL.cons (Wk1.any _) ?_), hBe.symm, rfl, rfl⟩
  rintro s' H' ⟨ht, rfl, rfl⟩
  rw [jmpF_t (x := In.mk f u v a b c op im) ht]
  obtain ⟨A, hA⟩ : ∃ A, A = s.regs.map wv := ⟨_, rfl⟩
  have hl : A.length = 16 := by rw [hA, List.length_map]; exact h16
  have s21 : ∀ x B, List.take 21 (A ++ B) ++ x :: List.drop 22 (A ++ B) = A ++ (B.take 5 ++ x :: B.drop 6) := fun x B => stB hl 5 x
  refine W.seq_reg ?_
  simp (maxSteps := 2000000) (disch := omega) only [hk, h21, hlenR, List.length_append, List.length_map, h16, hb12, go_sem, seval, eq_self, if_true, if_false, reduceCtorEq]
  obtain ⟨s1, hs1⟩ : ∃ s1 : St, s1 = { s with pc := p } := ⟨_, rfl⟩
  have m1 : MAt H0 (H.set mb (.cells (s1.regs.map wv ++ bC s1 pb o))) mb pb wb o s1 := by
    rw [hs1]; exact hm.put { s with pc := p } ⟨rfl, rfl⟩ h16 hm.ru hm.hu hpr hm.rd
  have e1 : s1.regs.map wv ++ bC s1 pb o = A ++ [wv s.h, bv s.fl.n, bv s.fl.z, bv s.fl.c, bv s.fl.v, iv p, .ptr pb 0, sv s.inp, iv s.rd, o, iv s.en, iv s.tr] := by rw [hs1, hA]; rfl
  refine W.cut (fun s' H' => s' = [.ptr mb 0, .any, .any, .ptr H.length 0, iv s.pc] ++ List.replicate 43 .any ∧ H' = H.set mb (.cells (s1.regs.map wv ++ bC s1 pb o)) ++ [.cells (In.mk f u v a b c op im).cs]) (wpA.W ?_) ?_
  · rw [← hA] at hk
    cases u
    · simp (maxSteps := 2000000) (disch := omega) only [go_sem, seval, eq_self, if_true, if_false, reduceCtorEq]
      have hnd : ∀ l, (H ++ l)[mb]? ≠ some .dead := fun l => by rw [hk]; exact fun e => by cases e
      refine W.dregD [([], []), ([], []), ([], []), ([], []), ([], []), ([], []), ([], []), ([], []), ([], []), ([], []), ([], []), ([], []), ([mb], [])] follows (by decide +kernel) rfl rfl (fun z hz b' hb' => ?_) ?_
      · simp only [List.mem_cons, List.not_mem_nil, or_false] at hz
        rcases hz with rfl | rfl | rfl | rfl | rfl | rfl | rfl | rfl | rfl | rfl | rfl | rfl | rfl <;> simp at hb' <;> subst hb' <;> exact ⟨by simp, hnd _⟩
      rw [← hA] at hcC
      repeat (rw [DC_p]; simp (maxSteps := 2000000) (disch := omega) only [hk, hcC, hl, hb12, List.length_append, go_sem, seval, eq_self, if_true, if_false, reduceCtorEq])
      refine WStep.ev (by simp) (by simp) ?_
      have ep : p = s.regs.getD c.toNat 0 / 4 := hp
      rw [ep] at e1
      simp only [bC] at hk
      simp (maxSteps := 2000000) (disch := omega) only [hk, hap, s21, bC, hl, go_sem, seval, eq_self, if_true, if_false, reduceCtorEq]
      refine ⟨FrOk.at2 (H ++ [.cells (In.mk f false v a b c op im).cs]) (by simp) hlt _ hap, ?_⟩
      try simp (maxSteps := 2000000) (disch := omega) only [go_sem, seval, eq_self, if_true, if_false, reduceCtorEq]
      rw [← e1]
      exact ⟨_, _, Wk.slots (by (try simp only [List.replicate, List.cons_append, List.nil_append]); repeat' first | exact WkL.nil | refine WkL.cons (Wk1.rfl _) ?_ | refine WkL.cons Wk1.esl ?_ | refine WkL.cons (Wk1.gsl _ _ _) ?_ | refine WkL.cons (Wk1.any _) ?_), rfl, rfl⟩
    · have ep : p = K := by rw [hp]; exact hK
      rw [ep] at e1
      simp only [bC] at hk
      simp (maxSteps := 2000000) (disch := omega) only [hk, hap, s21, bC, hl, hK, hK2, go_sem, seval, eq_self, if_true, if_false, reduceCtorEq]
      rw [← e1]
      exact ⟨_, _, Wk.slots (by (try simp only [List.replicate, List.cons_append, List.nil_append]); repeat' first | exact WkL.nil | refine WkL.cons (Wk1.rfl _) ?_ | refine WkL.cons Wk1.esl ?_ | refine WkL.cons (Wk1.gsl _ _ _) ?_ | refine WkL.cons (Wk1.any _) ?_), rfl, rfl⟩
  rintro s' H' ⟨rfl, rfl⟩
  refine wpA.W ?_
  rw [← hp]
  have hcs := hm.cl hcl s1
  have hgm : ∀ x l, (H.set mb x ++ l)[mb]? = some x := fun x l => by rw [List.getElem?_append_left (by rw [List.length_set]; exact hlt)]; exact List.getElem?_set_self hlt
  have hsm : ∀ x y l, (H.set mb x ++ l).set mb y = H.set mb y ++ l := fun x y l => by rw [List.set_append_left _ _ (by rw [List.length_set]; exact hlt), List.set_set]
  have hq : ∀ x a l, (H.set mb x ++ (a :: l))[H.length]? = some a := fun x a l => by rw [List.getElem?_append_right (by rw [List.length_set]; exact Nat.le_refl _), List.length_set]; simp
  cases v
  · simp (maxSteps := 2000000) (disch := omega) only [hq, go_sem, seval, eq_self, if_true, if_false, reduceCtorEq]
    rw [← hs1]
    exact Ret.drop (.tup []) (H.set mb _) (by simp) hcs (.rfl _) (by simp [refs, refs.refsL]) ⟨rfl, rfl, m1⟩
  · have hrs : ∀ r, List.take 15 (s1.regs.map wv ++ bC s1 pb o) ++ wv r :: List.drop 16 (s1.regs.map wv ++ bC s1 pb o) = (s1.regs.set 15 r).map wv ++ bC s1 pb o := fun r => reg_set (B := bC s1 pb o) m1.r16 (a := 15) (by decide) r
    have hb1 : (bC s1 pb o).length = 12 := rfl
    have h161 := m1.r16
    have m2 := m1.put { s1 with regs := s1.regs.set 15 (s.pc * 4) } ⟨rfl, rfl⟩ (by simp only [List.length_set]; exact h161) (set_rng m1.ru _ ⟨by omega, by omega⟩) m1.hu m1.pc m1.rd
    rw [List.set_set] at m2
    have hc2 := hm.cl hcl { s1 with regs := s1.regs.set 15 (s.pc * 4) }
    simp (maxSteps := 2000000) (disch := omega) only [hq, hgm, hsm, hrs, h161, hb1, List.length_append, List.length_map, go_sem, seval, eq_self, if_true, if_false, reduceCtorEq]
    have es : ({ s with pc := p, regs := s.regs.set 15 (s.pc * 4) } : St) = { s1 with regs := s1.regs.set 15 (s.pc * 4) } := by rw [hs1]
    rw [es]
    exact Ret.drop (.tup []) (H.set mb _) (by simp) hc2 (.rfl _) (by simp [refs, refs.refsL]) ⟨rfl, rfl, m2⟩
end Go.Proofs.YtmgmoamcbnkbfaaGreatDoor

/- cpu.Machine.stores. -/
namespace Go.Proofs.YtmgmoamcbnkbfaaGreatDoor
set_option linter.unusedSimpArgs false
set_option linter.unusedVariables false
set_option maxRecDepth 20000
set_option maxHeartbeats 1000000
open Go.RowKit

def Frm (w : List Nat) (H G : List ABlk) : Prop := (∀ c, c ∉ w → G[c]? = H[c]?) ∧ H.length ≤ G.length
theorem Frm.set {w : List Nat} {H : List ABlk} {b : Nat} {x : ABlk} (hb : b ∈ w) : Frm w H (H.set b x) := ⟨fun c hc => List.getElem?_set_ne (fun e => hc (by rw [← e]; exact hb)), by rw [List.length_set]; exact Nat.le_refl _⟩
theorem Frm.trans {w : List Nat} {H G K : List ABlk} (h : Frm w H G) (k : Frm w G K) : Frm w H K := ⟨fun c hc => (k.1 c hc).trans (h.1 c hc), Nat.le_trans h.2 k.2⟩
theorem Frm.app {w : List Nat} {H : List ABlk} {x : ABlk} (hb : H.length ∈ w) : Frm w H (H ++ [x]) := ⟨fun c hc => by
  rcases Nat.lt_or_ge c H.length with h | h
  · exact List.getElem?_append_left h
  · have : c ≠ H.length := fun e => hc (by rw [e]; exact hb)
    rw [List.getElem?_eq_none (by simp; omega), List.getElem?_eq_none h], by simp⟩
/-- What is new lies behind. -/
def Nw (H : List ABlk) (o o' : AV) : Prop := ∀ c ∈ refs o', c ∈ refs o ∨ H.length ≤ c
theorem Nw.rfl {H : List ABlk} {o : AV} : Nw H o o := fun _ h => .inl h
/-- What else lies there stays. -/
structure Fx (mb wb : Nat) (o : AV) (H : List ABlk) (o' : AV) (H' : List ABlk) : Prop where
  out : ∀ c, c < H.length → c ≠ mb → c ≠ wb → c ∉ refs o → H'[c]? = H[c]?
  len : H.length ≤ H'.length
  new : Nw H o o'
theorem Fx.trans {mb wb : Nat} {o o' o2 : AV} {H H' H2 : List ABlk} (h : Fx mb wb o H o' H') (k : Fx mb wb o' H' o2 H2) : Fx mb wb o H o2 H2 :=
  ⟨fun c hc h1 h2 h3 => (k.out c (Nat.lt_of_lt_of_le hc h.len) h1 h2 fun h4 => (h.new c h4).elim h3 fun h5 => absurd hc (Nat.not_lt.2 h5)).trans (h.out c hc h1 h2 h3), Nat.le_trans h.len k.len,
    fun c hc => (k.new c hc).elim (fun h1 => h.new c h1) fun h1 => .inr (Nat.le_trans h.len h1)⟩
theorem Fx.rfl {mb wb : Nat} {o : AV} {H : List ABlk} : Fx mb wb o H o H := ⟨fun _ _ _ _ _ => Eq.refl _, Nat.le_refl _, .rfl⟩
theorem Fx.set {mb wb : Nat} {o : AV} {H : List ABlk} {x : ABlk} : Fx mb wb o H o (H.set mb x) := ⟨fun c _ h _ _ => List.getElem?_set_ne (Ne.symm h), by rw [List.length_set]; exact Nat.le_refl _, .rfl⟩
theorem Fx.app {mb wb : Nat} {o : AV} {H l : List ABlk} : Fx mb wb o H o (H ++ l) := ⟨fun c h _ _ _ => List.getElem?_append_left h, by rw [List.length_append]; omega, .rfl⟩
theorem Fx.of {mb wb : Nat} {o o' : AV} {H G : List ABlk} (h : Frm (mb :: wb :: H.length :: refs o) H G) (k : Nw H o o') : Fx mb wb o H o' G := ⟨fun c h0 h1 h2 h3 => h.1 c (by simp only [List.mem_cons, not_or]; exact ⟨h1, h2, by omega, h3⟩), h.2, k⟩
theorem signed_f (x : Int) (hx : U32 x) : ∃ r, ∀ H, ACalls Tryz.prog 104 [wv x] H fun w H' => w = iv r ∧ H' = H := by
  obtain ⟨x0, x1⟩ := hx
  apply Exists.intro
  intro H
  refine ACalls.into Tryz.func104 cc104 rr104 fun hcl => ?_
  simp (maxSteps := 2000000) (disch := omega) only [Tryz.ntmps104, c104, r104, go_sem, seval, eq_self, if_true, if_false, reduceCtorEq]
  exact Ret.keep ⟨rfl, rfl⟩
noncomputable def sgnF (x : Int) : Int := open Classical in if h : U32 x then (signed_f x h).choose else 0
theorem sgn_s {x : Int} (h : U32 x) : ∀ H, ACalls Tryz.prog 104 [wv x] H fun w H' => w = iv (sgnF x) ∧ H' = H := by
  rw [sgnF, dif_pos h]; exact (signed_f x h).choose_spec
/-- A store: what becomes of the machine. -/
noncomputable def stoF (s : St) (at' v : Int) (sm : Bool) : St :=
  if at' = 4294967240 then (if s.out.length = 4096 then { s with en := 6 } else { s with out := s.out ++ [v % 256] })
  else if at' = 4294967236 then { s with en := 2, tr := sgnF v }
  else if at' = 4294967232 then { s with en := 1 }
  else if sm = true then (if at' / 4 < s.ws.length then { s with ws := s.ws.set (at' / 4).toNat (mixA (s.ws.getD (at' / 4).toNat 0) at' v) } else { s with en := 5 })
  else if at' % 4 = 0 ∧ at' / 4 < s.ws.length then { s with ws := s.ws.set (at' / 4).toNat v } else { s with en := 5 }
/-- At this heap it makes just one heap. -/
def StoD (H0 H : List ABlk) (mb pb wb : Nat) (o : AV) (s : St) (at' v : Int) (sm : Bool) : Prop :=
  ∃ G, (ACalls Tryz.prog 67 [.ptr mb 0, wv at', wv v, bv sm] H fun w H' => w = .tup [] ∧ H' = G) ∧ Frm (mb :: wb :: H.length :: refs o) H G ∧ ∃ o', Nw H o o' ∧ MAt H0 G mb pb wb o' (stoF s at' v sm)
section
variable {H0 H : List ABlk} {mb pb wb : Nat} {o : AV} {s : St} (hm : MAt H0 H mb pb wb o s)
include hm
/-- The machine's end is set. -/
theorem MAt.endd (e t : Int) : MAt H0 (H.set mb (.cells (s.regs.map wv ++ [wv s.h, bv s.fl.n, bv s.fl.z, bv s.fl.c, bv s.fl.v, iv s.pc, .ptr pb 0, sv s.inp, iv s.rd, o, iv e, iv t]))) mb pb wb o { s with en := e, tr := t } :=
  hm.put { s with en := e, tr := t } ⟨rfl, rfl⟩ hm.r16 hm.ru hm.hu hm.pc hm.rd
/-- A port that ends the run. -/
theorem halt_c {at' v : Int} (hat : at' = 4294967232) (hv : U32 v) (sm : Bool) : StoD H0 H mb pb wb o s at' v sm := by
  subst hat
  have hlt : mb < H.length := (List.getElem?_eq_some_iff.1 hm.m).1
  have hml := hm.m
  obtain ⟨A, hA⟩ : ∃ A, A = s.regs.map wv := ⟨_, rfl⟩
  have hl : A.length = 16 := by rw [hA, List.length_map]; exact hm.r16
  have s26 : ∀ x B, List.take 26 (A ++ B) ++ x :: List.drop 27 (A ++ B) = A ++ (B.take 10 ++ x :: B.drop 11) := fun x B => stB hl 10 x
  have he := hm.endd 1 s.tr
  simp only [bC] at hml
  rw [← hA] at hml he
  have es : stoF s 4294967232 v sm = { s with en := 1 } := by simp [stoF]
  have hz := he
  rw [← es] at hz
  refine ⟨_, ?_, .set (by simp), o, .rfl, hz⟩
  refine ACalls.into Tryz.func67 cc67 rr67 fun hcl => ?_
  simp (maxSteps := 2000000) (disch := omega) only [Tryz.ntmps67, c67, r67, hml, s26, hl, go_sem, seval, eq_self, if_true, if_false, reduceCtorEq]
  exact Ret.keep ⟨rfl, rfl⟩
theorem trap_c {at' v : Int} (hat : at' = 4294967236) (hv : U32 v) (sm : Bool) : StoD H0 H mb pb wb o s at' v sm := by
  subst hat
  have hlt : mb < H.length := (List.getElem?_eq_some_iff.1 hm.m).1
  have hml := hm.m
  obtain ⟨A, hA⟩ : ∃ A, A = s.regs.map wv := ⟨_, rfl⟩
  have hl : A.length = 16 := by rw [hA, List.length_map]; exact hm.r16
  have s26 : ∀ x B, List.take 26 (A ++ B) ++ x :: List.drop 27 (A ++ B) = A ++ (B.take 10 ++ x :: B.drop 11) := fun x B => stB hl 10 x
  have s27 : ∀ x B, List.take 27 (A ++ B) ++ x :: List.drop 28 (A ++ B) = A ++ (B.take 11 ++ x :: B.drop 12) := fun x B => stB hl 11 x
  have hg : ∀ x : ABlk, (H.set mb x)[mb]? = some x := fun x => List.getElem?_set_self hlt
  have hss : ∀ x y : ABlk, (H.set mb x).set mb y = H.set mb y := fun x y => List.set_set ..
  have he := hm.endd 2
  simp only [bC] at hml
  rw [← hA] at hml he
  have hr := sgn_s hv
  have es : stoF s 4294967236 v sm = { s with en := 2, tr := sgnF v } := by simp [stoF]
  obtain ⟨r, hre⟩ : ∃ r, r = sgnF v := ⟨_, rfl⟩
  rw [← hre] at hr es
  have hz := he r
  rw [← es] at hz
  refine ⟨_, ?_, .set (by simp), o, .rfl, hz⟩
  refine ACalls.into Tryz.func67 cc67 rr67 fun hcl => ?_
  simp (maxSteps := 2000000) (disch := omega) only [Tryz.ntmps67, c67, r67, go_sem, seval, eq_self, if_true, if_false, reduceCtorEq]
  refine Cont.mk (hr _) ?_
  simp (maxSteps := 2000000) (disch := omega) only [hml, s26, s27, hl, hg, hss, go_sem, seval, eq_self, if_true, if_false, reduceCtorEq]
  exact Ret.keep ⟨rfl, rfl⟩
theorem MAt.mset (ws' : List Int) (hl : ws'.length = s.ws.length) (hr : ∀ x ∈ ws', 0 ≤ x ∧ x < 4294967296) : MAt H0 (H.set wb (.cells (ws'.map wv))) mb pb wb o { s with ws := ws' } := by
  have hlt : wb < H.length := (List.getElem?_eq_some_iff.1 hm.mem.w).1
  have hne : pb ≠ wb := fun e => by
    have := hm.mem.p
    rw [e, hm.mem.w] at this
    cases hw : s.ws with
    | nil => rw [hw] at this; simp at this
    | cons x l => rw [hw] at this; simp at this
  refine ⟨pre_set hm.pre hm.lo.2.2 _, by rw [List.getElem?_set_ne hm.ne.1.symm]; exact hm.m, ⟨?_, List.getElem?_set_self hlt, by rw [hl]; exact hm.mem.len, hr⟩, ?_, hm.lo, hm.ne, hm.r16, hm.ru, hm.hu, hm.pc, hm.rd⟩
  · rw [List.getElem?_set_ne hne.symm, hm.mem.p]; simp only [hl]
  · rcases hm.out with h1 | ⟨ob, h1, h2, h3⟩
    · exact .inl h1
    · refine .inr ⟨ob, h1, ?_, h3⟩
      have hne : wb ≠ ob := fun e => by
        have := hm.mem.w
        rw [e, h2] at this
        cases this
      rw [List.getElem?_set_ne hne]; exact h2
theorem place_c {at' v : Int} (hat : U32 at') (h1 : at' ≠ 4294967240) (h2 : at' ≠ 4294967236) (h3 : at' ≠ 4294967232) (hv : U32 v) (sm : Bool) : StoD H0 H mb pb wb o s at' v sm := by
  obtain ⟨a0, a1⟩ := hat
  have hlt : mb < H.length := (List.getElem?_eq_some_iff.1 hm.m).1
  have hml := hm.m
  obtain ⟨A, hA⟩ : ∃ A, A = s.regs.map wv := ⟨_, rfl⟩
  have hl : A.length = 16 := by rw [hA, List.length_map]; exact hm.r16
  have s26 : ∀ x B, List.take 26 (A ++ B) ++ x :: List.drop 27 (A ++ B) = A ++ (B.take 10 ++ x :: B.drop 11) := fun x B => stB hl 10 x
  have d22 : ∀ B, List.drop 22 (A ++ B) = B.drop 6 := fun B => drp hl 6
  have he := hm.endd 5 s.tr
  have hsame : H.set wb (.cells (s.ws.map wv)) = H := set_same hm.mem.w
  simp only [bC] at hml
  rw [← hA] at hml he
  cases sm
  · have hst := store_c hm.mem at' v a0 a1
    by_cases ho : at' % 4 = 0 ∧ at' / 4 < s.ws.length
    · have hs := hm.mset (s.ws.set (at' / 4).toNat v) (by rw [List.length_set]) (fun x hx => by
        rcases List.mem_or_eq_of_mem_set hx with hx | rfl
        · exact hm.mem.rng x hx
        · exact hv)
      rw [okF, dect ho, stF, if_pos ho] at hst
      have es : stoF s at' v false = { s with ws := s.ws.set (at' / 4).toNat v } := by rw [stoF, if_neg h1, if_neg h2, if_neg h3, if_neg (by decide), if_pos ho]
      have hz := hs
      rw [← es] at hz
      refine ⟨_, ?_, .set (by simp), o, .rfl, hz⟩
      refine ACalls.into Tryz.func67 cc67 rr67 fun hcl => ?_
      simp (maxSteps := 2000000) (disch := omega) only [Tryz.ntmps67, c67, r67, hml, d22, hl, go_sem, seval, eq_self, if_true, if_false, reduceCtorEq]
      refine Cont.mk hst ?_
      simp (maxSteps := 2000000) (disch := omega) only [go_sem, seval, eq_self, if_true, if_false, reduceCtorEq]
      exact Ret.keep ⟨rfl, rfl⟩
    · rw [okF, decf ho, stF, if_neg ho, hsame] at hst
      have es : stoF s at' v false = { s with en := 5 } := by rw [stoF, if_neg h1, if_neg h2, if_neg h3, if_neg (by decide), if_neg ho]
      have hz := he
      rw [← es] at hz
      refine ⟨_, ?_, .set (by simp), o, .rfl, hz⟩
      refine ACalls.into Tryz.func67 cc67 rr67 fun hcl => ?_
      simp (maxSteps := 2000000) (disch := omega) only [Tryz.ntmps67, c67, r67, hml, d22, hl, go_sem, seval, eq_self, if_true, if_false, reduceCtorEq]
      refine Cont.mk hst ?_
      simp (maxSteps := 2000000) (disch := omega) only [hml, s26, hl, go_sem, seval, eq_self, if_true, if_false, reduceCtorEq]
      exact Ret.keep ⟨rfl, rfl⟩
  · have hst := put_c hm.mem at' v a0 a1
    by_cases ho : at' / 4 < s.ws.length
    · have hs := hm.mset (s.ws.set (at' / 4).toNat (mixA (s.ws.getD (at' / 4).toNat 0) at' v)) (by rw [List.length_set]) (fun x hx => by
        rcases List.mem_or_eq_of_mem_set hx with hx | rfl
        · exact hm.mem.rng x hx
        · exact mixA_rng ..)
      rw [thereF, dect ho, pbF, if_pos ho] at hst
      have es : stoF s at' v true = { s with ws := s.ws.set (at' / 4).toNat (mixA (s.ws.getD (at' / 4).toNat 0) at' v) } := by rw [stoF, if_neg h1, if_neg h2, if_neg h3, if_pos rfl, if_pos ho]
      have hz := hs
      rw [← es] at hz
      refine ⟨_, ?_, .set (by simp), o, .rfl, hz⟩
      refine ACalls.into Tryz.func67 cc67 rr67 fun hcl => ?_
      simp (maxSteps := 2000000) (disch := omega) only [Tryz.ntmps67, c67, r67, hml, d22, hl, go_sem, seval, eq_self, if_true, if_false, reduceCtorEq]
      refine Cont.mk hst ?_
      simp (maxSteps := 2000000) (disch := omega) only [go_sem, seval, eq_self, if_true, if_false, reduceCtorEq]
      exact Ret.keep ⟨rfl, rfl⟩
    · rw [thereF, decf ho, pbF, if_neg ho, hsame] at hst
      have es : stoF s at' v true = { s with en := 5 } := by rw [stoF, if_neg h1, if_neg h2, if_neg h3, if_pos rfl, if_neg ho]
      have hz := he
      rw [← es] at hz
      refine ⟨_, ?_, .set (by simp), o, .rfl, hz⟩
      refine ACalls.into Tryz.func67 cc67 rr67 fun hcl => ?_
      simp (maxSteps := 2000000) (disch := omega) only [Tryz.ntmps67, c67, r67, hml, d22, hl, go_sem, seval, eq_self, if_true, if_false, reduceCtorEq]
      refine Cont.mk hst ?_
      simp (maxSteps := 2000000) (disch := omega) only [hml, s26, hl, go_sem, seval, eq_self, if_true, if_false, reduceCtorEq]
      exact Ret.keep ⟨rfl, rfl⟩
end
end Go.Proofs.YtmgmoamcbnkbfaaGreatDoor
