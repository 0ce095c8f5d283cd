/- cpu.Machine.stores: what is put out; all of it. -/
import Derived.Test.YtmgmoamcbnkbfaaGreatDoorYC4
set_option linter.unusedVariables false
set_option linter.unusedSimpArgs false
set_option linter.unusedSectionVars false
namespace Go.Proofs.YtmgmoamcbnkbfaaGreatDoor
set_option linter.unusedSimpArgs false
set_option linter.unusedVariables false
set_option maxRecDepth 20000
set_option maxHeartbeats 1000000
open Go.RowKit

section
variable {H0 H : List ABlk} {mb pb wb : Nat} {o : AV} {s : St} (hm : MAt H0 H mb pb wb o s)
include hm
theorem data_c {at' v : Int} (hat : at' = 4294967240) (hv : U32 v) (sm : Bool) : StoD H0 H mb pb wb o s at' v sm := by
  subst hat
  obtain ⟨v0, v1⟩ := hv
  have hlt : mb < H.length := (List.getElem?_eq_some_iff.1 hm.m).1
  have hml := hm.m
  obtain ⟨A, hA⟩ : ∃ A, A = s.regs.map wv := ⟨_, rfl⟩
  have hl : A.length = 16 := by rw [hA, List.length_map]; exact hm.r16
  have s25 : ∀ x B, List.take 25 (A ++ B) ++ x :: List.drop 26 (A ++ B) = A ++ (B.take 9 ++ x :: B.drop 10) := fun x B => stB hl 9 x
  have s26 : ∀ x B, List.take 26 (A ++ B) ++ x :: List.drop 27 (A ++ B) = A ++ (B.take 10 ++ x :: B.drop 11) := fun x B => stB hl 10 x
  have d25 : ∀ B, List.drop 25 (A ++ B) = B.drop 9 := fun B => drp hl 9
  have he := hm.endd 6 s.tr
  have h8 : IntKind.u8.wrap v = v % 256 := by simp [IntKind.wrap, IntKind.bits, IntKind.signed]
  have hout := hm.out
  have hpl : pb < H.length := (List.getElem?_eq_some_iff.1 hm.mem.p).1
  have hwl : wb < H.length := (List.getElem?_eq_some_iff.1 hm.mem.w).1
  simp only [bC] at hml
  rw [← hA] at hml he
  rcases hout with ⟨rfl, hnil⟩ | ⟨ob, rfl, ho, hob, hes⟩
  · have hap : ∀ x l, (H ++ l).set mb x = H.set mb x ++ l := fun x l => hm.set_ap x l
    have hk : ∀ l, (H ++ l)[mb]? = H[mb]? := fun l => List.getElem?_append_left hlt
    have hlo := hm.lo
    have hM : MAt H0 (H.set mb (.cells (A ++ [wv s.h, bv s.fl.n, bv s.fl.z, bv s.fl.c, bv s.fl.v, iv s.pc, .ptr pb 0, sv s.inp, iv s.rd, .gsl H.length 1 [[.v (.int .u8 (v % 256))]], iv s.en, iv s.tr])) ++ [.row 5 1 1]) mb pb wb (.gsl H.length 1 [[.v (.int .u8 (v % 256))]]) { s with out := [v % 256] } := by
      refine ⟨(pre_set hm.pre hm.lo.1 _).trans ⟨_, rfl⟩, ?_, ⟨?_, ?_, hm.mem.len, hm.mem.rng⟩, .inr ⟨H.length, rfl, ?_, by omega, by simp⟩, hm.lo, hm.ne, hm.r16, hm.ru, hm.hu, hm.pc, hm.rd⟩
      · rw [List.getElem?_append_left (by rw [List.length_set]; exact hlt), List.getElem?_set_self hlt, hA]; rfl
      · rw [List.getElem?_append_left (by rw [List.length_set]; exact hpl), List.getElem?_set_ne hm.ne.2]; exact hm.mem.p
      · rw [List.getElem?_append_left (by rw [List.length_set]; exact hwl), List.getElem?_set_ne hm.ne.1]; exact hm.mem.w
      · rw [List.getElem?_append_right (by rw [List.length_set]; exact Nat.le_refl _), List.length_set]; simp
    have es : stoF s 4294967240 v sm = { s with out := [v % 256] } := by rw [stoF, if_pos rfl, hnil, if_neg (by decide)]; rfl
    have hz := hM
    rw [← es] at hz
    refine ⟨_, ?_, ?_, _, fun c hc => .inr (by simp only [refs, List.mem_singleton] at hc; omega), hz⟩
    rotate_left
    · rw [← hap]
      exact (Frm.app (by simp)).trans (.set (by simp))
    refine ACalls.into Tryz.func67 cc67 rr67 fun hcl => ?_
    simp (maxSteps := 2000000) (disch := omega) only [Tryz.ntmps67, c67, r67, hml, d25, hl, h8, hk, hap, s25, go_sem, seval, eq_self, if_true, if_false, reduceCtorEq]
    exact Ret.keep ⟨rfl, rfl⟩
  · obtain ⟨es, hE⟩ : ∃ es, es = s.out.map ob8 := ⟨_, rfl⟩
    have hEl : s.out.length = es.length := by rw [hE, List.length_map]
    rw [hEl] at ho hes
    simp only [← hE] at hml he ⊢
    have hne : mb ≠ ob := fun e => by rw [e, ho] at hml; cases hml
    have hgo : ∀ x : ABlk, (H.set ob x)[mb]? = H[mb]? := fun x => List.getElem?_set_ne hne.symm
    by_cases h4 : es.length = 4096
    · have ef : stoF s 4294967240 v sm = { s with en := 6 } := by rw [stoF, if_pos rfl, if_pos (hEl.trans h4)]
      have hz := he
      rw [← ef] at hz
      refine ⟨_, ?_, .set (by simp), _, .rfl, hz⟩
      refine ACalls.into Tryz.func67 cc67 rr67 fun hcl => ?_
      simp (maxSteps := 2000000) (disch := omega) only [Tryz.ntmps67, c67, r67, hml, d25, hl, h4, s26, go_sem, seval, eq_self, if_true, if_false, reduceCtorEq]
      exact Ret.keep ⟨rfl, rfl⟩
    · have hlt2 : mb < (H.set ob (.row 5 1 (es.length + 1))).length := by rw [List.length_set]; exact hlt
      have hol : ob < H.length := (List.getElem?_eq_some_iff.1 ho).1
      have hp : ob ≠ pb := fun e => by have := hm.mem.p; rw [← e, ho] at this; cases this
      have hw : ob ≠ wb := fun e => by have := hm.mem.w; rw [← e, ho] at this; cases this
      have hM : MAt H0 ((H.set ob (.row 5 1 (es.length + 1))).set mb (.cells (A ++ [wv s.h, bv s.fl.n, bv s.fl.z, bv s.fl.c, bv s.fl.v, iv s.pc, .ptr pb 0, sv s.inp, iv s.rd, .gsl ob 1 (es ++ [[.v (.int .u8 (v % 256))]]), iv s.en, iv s.tr]))) mb pb wb (.gsl ob 1 (es ++ [[.v (.int .u8 (v % 256))]])) { s with out := s.out ++ [v % 256] } := by
        refine ⟨pre_set (pre_set hm.pre hob _) hm.lo.1 _, ?_, ⟨?_, ?_, hm.mem.len, hm.mem.rng⟩, .inr ⟨ob, by rw [hE]; simp, ?_, hob, ?_⟩, hm.lo, hm.ne, hm.r16, hm.ru, hm.hu, hm.pc, hm.rd⟩
        · rw [List.getElem?_set_self hlt2, hA]; rfl
        · rw [List.getElem?_set_ne hm.ne.2, List.getElem?_set_ne hp]; exact hm.mem.p
        · rw [List.getElem?_set_ne hm.ne.1, List.getElem?_set_ne hw]; exact hm.mem.w
        · rw [List.getElem?_set_ne hne, List.getElem?_set_self hol]; simp [hEl]
        · simp only [List.length_append, List.length_cons, List.length_nil, hEl]; omega
      have hN : Nw H (.gsl ob 1 es) (.gsl ob 1 (es ++ [[.v (.int .u8 (v % 256))]])) := fun c hc => .inl hc
      have ef : stoF s 4294967240 v sm = { s with out := s.out ++ [v % 256] } := by rw [stoF, if_pos rfl, if_neg (fun h => h4 (hEl.symm.trans h))]
      have hz := hM
      rw [← ef] at hz
      refine ⟨_, ?_, ?_, _, hN, hz⟩
      rotate_left
      · exact (Frm.set (by simp [refs])).trans (.set (by simp))
      refine ACalls.into Tryz.func67 cc67 rr67 fun hcl => ?_
      simp (maxSteps := 2000000) (disch := omega) only [Tryz.ntmps67, c67, r67, hml, d25, hl, h8, ho, hgo, s25, go_sem, seval, eq_self, if_true, if_false, reduceCtorEq]
      exact Ret.keep ⟨rfl, rfl⟩
/-- ALL OF IT. -/
theorem stores_c {at' v : Int} (hat : U32 at') (hv : U32 v) (sm : Bool) : StoD H0 H mb pb wb o s at' v sm := by
  by_cases h1 : at' = 4294967240
  · exact data_c hm h1 hv sm
  by_cases h2 : at' = 4294967236
  · exact trap_c hm h2 hv sm
  by_cases h3 : at' = 4294967232
  · exact halt_c hm h3 hv sm
  exact place_c hm hat h1 h2 h3 hv sm
end
end Go.Proofs.YtmgmoamcbnkbfaaGreatDoor

/- cpu.Machine.moves. -/
namespace Go.Proofs.YtmgmoamcbnkbfaaGreatDoor
set_option linter.unusedSimpArgs false
set_option linter.unusedVariables false
set_option maxRecDepth 20000
set_option maxHeartbeats 1000000
open Go.RowKit

theorem MAt.live {H0 H : List ABlk} {mb pb wb : Nat} {o : AV} {s : St} (hm : MAt H0 H mb pb wb o s) : ∀ b ∈ mb :: wb :: H.length :: refs o, H[b]? ≠ some .dead := by
  intro b hb
  simp only [List.mem_cons] at hb
  rcases hb with rfl | rfl | rfl | hb
  · rw [hm.m]; simp
  · rw [hm.mem.w]; simp
  · rw [List.getElem?_eq_none (Nat.le_refl _)]; simp
  · rcases hm.out with ⟨rfl, -⟩ | ⟨ob, rfl, h2, -⟩
    · simp [refs] at hb
    · simp [refs] at hb
      subst hb
      rw [h2]; simp
theorem ldF_u {H : List ABlk} {pb wb : Nat} {ws : List Int} (hm : MemAt H pb wb ws) (at' : Int) : U32 (ldF ws at').1 := by
  unfold ldF
  split
  · exact getD_rng hm.rng _
  · exact ⟨by decide, by decide⟩
theorem byF_u {H : List ABlk} {pb wb : Nat} {ws : List Int} (hm : MemAt H pb wb ws) (at' : Int) : U32 (byF ws at').1 := by
  unfold byF
  split
  · exact ⟨by simp only; omega, by simp only; omega⟩
  · exact ⟨by decide, by decide⟩
/-- A byte of the input. -/
def inpF (inp : ByteArray) (k : Int) : Int := ((inp.data.toList.getD k.toNat 0).toNat : Int) % 4294967296
theorem inpF_u (inp : ByteArray) (k : Int) : U32 (inpF inp k) := u32_mod _
/-- What a load finds: the machine behind it, the word, whether it is there. -/
def ldrF (s : St) (at' : Int) (v : Bool) : St × Int × Bool :=
  if at' = 4294967240 then (if s.rd < s.inp.size then ({ s with rd := s.rd + 1 }, inpF s.inp s.rd, true) else (s, 0, true))
  else if at' = 4294967244 then (s, if s.rd < s.inp.size then 1 else 0, true)
  else if v = true then (s, (byF s.ws at').1, (byF s.ws at').2) else (s, (ldF s.ws at').1, (ldF s.ws at').2)
def atF (s : St) (x : In) : Int := (s.regs.getD x.b.toNat 0 + x.im % 4294967296) % 4294967296
noncomputable def movF (s : St) (x : In) : St :=
  if x.u = true then stoF s (atF s x) (s.regs.getD x.a.toNat 0) x.v
  else if (ldrF s (atF s x) x.v).2.2 = true then (ldrF s (atF s x) x.v).1.sets x.a.toNat (ldrF s (atF s x) x.v).2.1 else { (ldrF s (atF s x) x.v).1 with en := 5 }
abbrev PutO (H0 H : List ABlk) (mb pb wb : Nat) (o : AV) (s' : St) (v : AV) (H' : List ABlk) : Prop := v = .tup [] ∧ ∃ o', Fx mb wb o H o' H' ∧ MAt H0 H' mb pb wb o' s'
theorem moves_c {H0 H : List ABlk} {mb pb wb : Nat} {o : AV} {s : St} (hm : MAt H0 H mb pb wb o s) {x : In} (hx : InOk x) :
    ACalls Tryz.prog 42 [.ptr mb 0, x.av] H (PutO H0 H mb pb wb o (movF s x)) := by
  have hlt : mb < H.length := (List.getElem?_eq_some_iff.1 hm.m).1
  have h16 := hm.r16
  have hml := hm.m
  have hcB := reg_at (B := bC s pb o) h16 (a := x.b.toNat) (by have := hx.b; omega)
  have uB := reg_rng hm.ru x.b.toNat
  have hcA := reg_at (B := bC s pb o) h16 (a := x.a.toNat) (by have := hx.a; omega)
  have uA := reg_rng hm.ru x.a.toNat
  have hk : ∀ l, (H ++ l)[mb]? = some (.cells (s.regs.map wv ++ bC s pb o)) := fun l => by rw [List.getElem?_append_left hlt]; exact hml
  have hlenR : (s.regs.map wv ++ bC s pb o).length = 28 := by rw [List.length_append, List.length_map, h16]; rfl
  have hb12 : (bC s pb o).length = 12 := rfl
  have hap : ∀ x l, (H ++ l).set mb x = H.set mb x ++ l := fun x l => hm.set_ap x l
  have hrd := hm.rd
  obtain ⟨f, u, v, a, b, c, op, im⟩ := x
  have ha := hx.a
  have hb := hx.b
  have him := hx.im
  simp only at ha hb him hcA hcB uA uB
  refine ACalls.enter Tryz.func42 cc42 rr42 fun hcl => ?_
  simp only [Tryz.ntmps42, c42, r42]
  refine W.seq_reg ?_
  simp (maxSteps := 2000000) (disch := omega) only [go_sem, seval, eq_self, if_true, if_false, reduceCtorEq]
  obtain ⟨at', hat⟩ : ∃ at', at' = (s.regs.getD b.toNat 0 + im % 4294967296) % 4294967296 := ⟨_, rfl⟩
  have hatF : atF s (In.mk f u v a b c op im) = at' := hat.symm
  have uat : U32 at' := by rw [hat]; first | exact u32_mod _ | exact u32_bv _
  refine W.cut (fun s' H' => s' = [.ptr mb 0, .any, .any, .ptr H.length 0, wv at'] ++ List.replicate 101 .any ∧ H' = H ++ [.cells (In.mk f u v a b c op im).cs]) (W.pchain follows (by decide +kernel) ?_) ?_
  · simp (maxSteps := 2000000) (disch := omega) only [hk, hcB, hlenR, List.length_append, List.length_map, h16, hb12, go_sem, seval, eq_self, if_true, if_false, reduceCtorEq]
    rw [← hat]
    exact ⟨_, _, Wk.slots (by (try simp only [List.replicate, List.cons_append, List.nil_append]); repeat' first | exact WkL.nil | refine WkL.cons (Wk1.rfl _) ?_ | refine WkL.cons Wk1.esl ?_ | refine WkL.cons (Wk1.gsl _ _ _) ?_ | refine WkL.cons (Wk1.any _) ?_), rfl, rfl⟩
  rintro s' H' ⟨rfl, rfl⟩
  refine W.cut (fun s' H' => u = false ∧ s' = [.ptr mb 0, .any, .any, .ptr H.length 0, wv at'] ++ List.replicate 101 .any ∧ H' = H ++ [.cells (In.mk f u v a b c op im).cs]) (wpA.W ?_) ?_
  · cases u
    · simp (maxSteps := 2000000) (disch := omega) only [go_sem, seval, eq_self, if_true, if_false, reduceCtorEq]
      exact ⟨_, _, Wk.slots (by (try simp only [List.replicate, List.cons_append, List.nil_append]); repeat' first | exact WkL.nil | refine WkL.cons (Wk1.rfl _) ?_ | refine WkL.cons Wk1.esl ?_ | refine WkL.cons (Wk1.gsl _ _ _) ?_ | refine WkL.cons (Wk1.any _) ?_), rfl, rfl⟩
    · simp (maxSteps := 2000000) (disch := omega) only [go_sem, seval, eq_self, if_true, if_false, reduceCtorEq]
      obtain ⟨G, hG, fr, o', nw2, m2⟩ := stores_c (hm.ext [.cells (In.mk f true v a b c op im).cs]) uat uA v
      have hlive := (hm.ext [.cells (In.mk f true v a b c op im).cs]).live
      refine W.dregD [([], []), ([], []), ([], []), ([], []), ([], []), ([], []), ([], []), ([], []), ([], []), ([], []), ([], []), (mb :: wb :: (H ++ [ABlk.cells (In.mk f true v a b c op im).cs]).length :: refs o, [])] follows (by decide +kernel) rfl rfl (fun z hz b' hb' => ?_) ?_
      · simp only [List.mem_cons, List.not_mem_nil, or_false] at hz
        rcases hz with rfl | rfl | rfl | rfl | rfl | rfl | rfl | rfl | rfl | rfl | rfl | rfl <;> first | exact absurd hb' List.not_mem_nil | exact ⟨List.not_mem_nil, hlive _ hb'⟩
      repeat (rw [DC_p]; simp (maxSteps := 2000000) (disch := omega) only [hk, hcA, hlenR, List.length_append, List.length_map, h16, hb12, go_sem, seval, eq_self, if_true, if_false, reduceCtorEq])
      have hlen : (H ++ [ABlk.cells (In.mk f true v a b c op im).cs]).length = H.length + 1 := by simp
      obtain ⟨fr1, fr2⟩ := id fr
      rw [hlen] at fr1
      refine WStep.call hG fr1 fr2 ?_
      have em : movF s (In.mk f true v a b c op im) = stoF s at' (s.regs.getD a.toNat 0) v := by rw [movF, if_pos rfl, hatF]
      rw [em]
      exact Ret.keep ⟨rfl, o', Fx.app.trans (.of fr nw2), m2⟩
  rintro s' H' ⟨rfl, rfl, rfl⟩
  refine W.seq_reg ?_
  simp (maxSteps := 2000000) (disch := omega) only [go_sem, seval, eq_self, if_true, if_false, reduceCtorEq]
  have hsame : H = H.set mb (.cells (s.regs.map wv ++ bC s pb o)) := (set_same hml).symm
  have em : movF s (In.mk f false v a b c op im) = if (ldrF s at' v).2.2 = true then (ldrF s at' v).1.sets a.toNat (ldrF s at' v).2.1 else { (ldrF s at' v).1 with en := 5 } := by rw [movF, if_neg (fun h => by cases h), hatF]
  rw [em]
  clear em
  refine W.cut (fun s' H' => MAt H0 (H.set mb (.cells ((ldrF s at' v).1.regs.map wv ++ bC (ldrF s at' v).1 pb o))) mb pb wb o (ldrF s at' v).1 ∧ U32 (ldrF s at' v).2.1 ∧ s' = [.ptr mb 0, .any, .any, .ptr H.length 0, .any, wv (ldrF s at' v).2.1, bv (ldrF s at' v).2.2] ++ List.replicate 99 .any ∧ H' = H.set mb (.cells ((ldrF s at' v).1.regs.map wv ++ bC (ldrF s at' v).1 pb o)) ++ [.cells (In.mk f false v a b c op im).cs]) (wpA.W ?_) ?_
  · obtain ⟨Q, hQ⟩ : ∃ Q, Q = ldrF s at' v := ⟨_, rfl⟩
    rw [← hQ]
    have old : ∀ v1 ok, U32 v1 → ldrF s at' v = (s, v1, ok) → MAt H0 (H.set mb (.cells (Q.1.regs.map wv ++ bC Q.1 pb o))) mb pb wb o Q.1 ∧ U32 Q.2.1 ∧ ([.ptr mb 0, .any, .any, .ptr H.length 0, .any, wv v1, bv ok] ++ List.replicate 99 .any = [.ptr mb 0, .any, .any, .ptr H.length 0, .any, wv Q.2.1, bv Q.2.2] ++ List.replicate 99 .any) ∧ H ++ [.cells (In.mk f false v a b c op im).cs] = H.set mb (.cells (Q.1.regs.map wv ++ bC Q.1 pb o)) ++ [.cells (In.mk f false v a b c op im).cs] := fun v1 ok hv he => by
      rw [hQ, he]
      exact ⟨by rw [← hsame]; exact hm, hv, rfl, by rw [← hsame]⟩
    obtain ⟨A, hA⟩ : ∃ A, A = s.regs.map wv := ⟨_, rfl⟩
    have hl : A.length = 16 := by rw [hA, List.length_map]; exact h16
    have d23 : ∀ B, List.drop 23 (A ++ B) = B.drop 7 := fun B => drp hl 7
    have d24 : ∀ B, List.drop 24 (A ++ B) = B.drop 8 := fun B => drp hl 8
    have d22 : ∀ B, List.drop 22 (A ++ B) = B.drop 6 := fun B => drp hl 6
    have s24 : ∀ x B, List.take 24 (A ++ B) ++ x :: List.drop 25 (A ++ B) = A ++ (B.take 8 ++ x :: B.drop 9) := fun x B => stB hl 8 x
    obtain ⟨s1, hs1⟩ : ∃ s1 : St, s1 = { s with rd := s.rd + 1 } := ⟨_, rfl⟩
    have e1 : s1.regs.map wv ++ bC s1 pb o = A ++ [wv s.h, bv s.fl.n, bv s.fl.z, bv s.fl.c, bv s.fl.v, iv s.pc, .ptr pb 0, sv s.inp, iv (s.rd + 1), o, iv s.en, iv s.tr] := by rw [hs1, hA]; rfl
    have hk2 := hk
    rw [← hA] at hk2
    simp only [bC] at hk2
    by_cases h1 : at' = 4294967240
    · by_cases h2 : s.rd < s.inp.size
      · have m1 : MAt H0 (H.set mb (.cells (s1.regs.map wv ++ bC s1 pb o))) mb pb wb o s1 := by
          rw [hs1]; exact hm.put { s with rd := s.rd + 1 } ⟨rfl, rfl⟩ h16 hm.ru hm.hu hm.pc ⟨by simp only; omega, by simp only; omega, hm.rd.2.2⟩
        have eq : ldrF s at' v = (s1, inpF s.inp s.rd, true) := by rw [ldrF, if_pos h1, if_pos h2, hs1]
        simp (maxSteps := 2000000) (disch := omega) only [hk2, d23, d24, hl, go_sem, seval, eq_self, if_true, if_false, reduceCtorEq]
        refine W.pchain follows (by decide +kernel) ?_
        simp (maxSteps := 2000000) (disch := omega) only [hk2, d23, d24, hl, go_sem, seval, eq_self, if_true, if_false, reduceCtorEq]
        refine W.pchain follows (by decide +kernel) ?_
        simp (maxSteps := 2000000) (disch := omega) only [hk2, d23, d24, s24, hl, hap, go_sem, seval, eq_self, if_true, if_false, reduceCtorEq]
        rw [← e1]
        rw [hQ, eq]
        exact ⟨_, _, Wk.slots (by (try simp only [List.replicate, List.cons_append, List.nil_append]); repeat' first | exact WkL.nil | refine WkL.cons (Wk1.rfl _) ?_ | refine WkL.cons Wk1.esl ?_ | refine WkL.cons (Wk1.gsl _ _ _) ?_ | refine WkL.cons (Wk1.any _) ?_), m1, inpF_u s.inp s.rd, rfl, rfl⟩
      · simp (maxSteps := 2000000) (disch := omega) only [hk2, d23, d24, hl, go_sem, seval, eq_self, if_true, if_false, reduceCtorEq]
        refine W.pchain follows (by decide +kernel) ?_
        simp (maxSteps := 2000000) (disch := omega) only [hk2, d23, d24, hl, go_sem, seval, eq_self, if_true, if_false, reduceCtorEq]
        exact ⟨_, _, Wk.slots (by (try simp only [List.replicate, List.cons_append, List.nil_append]); repeat' first | exact WkL.nil | refine WkL.cons (Wk1.rfl _) ?_ | refine WkL.cons Wk1.esl ?_ | refine WkL.cons (Wk1.gsl _ _ _) ?_ | refine WkL.cons (Wk1.any _) ?_), old 0 true (by decide) (by rw [ldrF, if_pos h1, if_neg h2])⟩
    by_cases h3 : at' = 4294967244
    · by_cases h2 : s.rd < s.inp.size
      · simp (maxSteps := 2000000) (disch := omega) only [hk2, d23, d24, hl, go_sem, seval, eq_self, if_true, if_false, reduceCtorEq]
        refine W.pchain follows (by decide +kernel) ?_
        simp (maxSteps := 2000000) (disch := omega) only [hk2, d23, d24, hl, go_sem, seval, eq_self, if_true, if_false, reduceCtorEq]
        exact ⟨_, _, Wk.slots (by (try simp only [List.replicate, List.cons_append, List.nil_append]); repeat' first | exact WkL.nil | refine WkL.cons (Wk1.rfl _) ?_ | refine WkL.cons Wk1.esl ?_ | refine WkL.cons (Wk1.gsl _ _ _) ?_ | refine WkL.cons (Wk1.any _) ?_), old 1 true (by decide) (by rw [ldrF, if_neg h1, if_pos h3, if_pos h2])⟩
      · simp (maxSteps := 2000000) (disch := omega) only [hk2, d23, d24, hl, go_sem, seval, eq_self, if_true, if_false, reduceCtorEq]
        refine W.pchain follows (by decide +kernel) ?_
        simp (maxSteps := 2000000) (disch := omega) only [hk2, d23, d24, hl, go_sem, seval, eq_self, if_true, if_false, reduceCtorEq]
        exact ⟨_, _, Wk.slots (by (try simp only [List.replicate, List.cons_append, List.nil_append]); repeat' first | exact WkL.nil | refine WkL.cons (Wk1.rfl _) ?_ | refine WkL.cons Wk1.esl ?_ | refine WkL.cons (Wk1.gsl _ _ _) ?_ | refine WkL.cons (Wk1.any _) ?_), old 0 true (by decide) (by rw [ldrF, if_neg h1, if_pos h3, if_neg h2])⟩
    obtain ⟨a0, a1⟩ := uat
    cases v
    · simp (maxSteps := 2000000) (disch := omega) only [hk2, d22, hl, go_sem, seval, eq_self, if_true, if_false, reduceCtorEq]
      refine Cont.mk (load_c (hm.ext _).mem at' a0 a1) ?_
      simp (maxSteps := 2000000) (disch := omega) only [go_sem, seval, eq_self, if_true, if_false, reduceCtorEq]
      exact ⟨_, _, Wk.slots (by (try simp only [List.replicate, List.cons_append, List.nil_append]); repeat' first | exact WkL.nil | refine WkL.cons (Wk1.rfl _) ?_ | refine WkL.cons Wk1.esl ?_ | refine WkL.cons (Wk1.gsl _ _ _) ?_ | refine WkL.cons (Wk1.any _) ?_), old _ _ (ldF_u hm.mem at') (by rw [ldrF, if_neg h1, if_neg h3, if_neg (by decide)])⟩
    · simp (maxSteps := 2000000) (disch := omega) only [hk2, d22, hl, go_sem, seval, eq_self, if_true, if_false, reduceCtorEq]
      refine Cont.mk (byte_c (hm.ext _).mem at' a0 a1) ?_
      simp (maxSteps := 2000000) (disch := omega) only [go_sem, seval, eq_self, if_true, if_false, reduceCtorEq]
      exact ⟨_, _, Wk.slots (by (try simp only [List.replicate, List.cons_append, List.nil_append]); repeat' first | exact WkL.nil | refine WkL.cons (Wk1.rfl _) ?_ | refine WkL.cons Wk1.esl ?_ | refine WkL.cons (Wk1.gsl _ _ _) ?_ | refine WkL.cons (Wk1.any _) ?_), old _ _ (byF_u hm.mem at') (by rw [ldrF, if_neg h1, if_neg h3, if_pos rfl])⟩
  generalize ldrF s at' v = Q
  obtain ⟨s1, v1, ok⟩ := Q
  rintro s' H' ⟨m1, u1, rfl, rfl⟩
  refine wpA.W ?_
  have hgm : ∀ x l, (H.set mb x ++ l)[mb]? = some x := fun x l => by rw [List.getElem?_append_left (by rw [List.length_set]; exact hlt)]; exact List.getElem?_set_self hlt
  have hq : ∀ x a l, (H.set mb x ++ (a :: l))[H.length]? = some a := fun x a l => by rw [List.getElem?_append_right (by rw [List.length_set]; exact Nat.le_refl _), List.length_set]; simp
  have m2 := m1.ext [.cells (In.mk f false v a b c op im).cs]
  cases ok
  · have he := m2.endd 5 s1.tr
    obtain ⟨A, hA⟩ : ∃ A, A = s1.regs.map wv := ⟨_, rfl⟩
    have hl : A.length = 16 := by rw [hA, List.length_map]; exact m1.r16
    have s26 : ∀ x B, List.take 26 (A ++ B) ++ x :: List.drop 27 (A ++ B) = A ++ (B.take 10 ++ x :: B.drop 11) := fun x B => stB hl 10 x
    simp only [bC] at he ⊢
    rw [← hA] at he ⊢
    simp (maxSteps := 2000000) (disch := omega) only [hgm, s26, hl, go_sem, seval, eq_self, if_true, if_false, reduceCtorEq]
    exact Ret.keep ⟨rfl, o, (Fx.set.trans .app).trans .set, he⟩
  · simp (maxSteps := 2000000) (disch := omega) only [hq, go_sem, seval, eq_self, if_true, if_false, reduceCtorEq]
    refine Cont.mk (sets_c m2 ha u1) ?_
    simp (maxSteps := 2000000) (disch := omega) only [go_sem, seval, eq_self, if_true, if_false, reduceCtorEq]
    exact Ret.keep ⟨rfl, o, (Fx.set.trans .app).trans .set, m2.sets a.toNat u1⟩
end Go.Proofs.YtmgmoamcbnkbfaaGreatDoor
