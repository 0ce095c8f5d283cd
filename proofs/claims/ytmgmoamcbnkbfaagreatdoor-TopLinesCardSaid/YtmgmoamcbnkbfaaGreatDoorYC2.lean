/- The machine; cpu.Machine.sets. -/
import Derived.Test.YtmgmoamcbnkbfaaGreatDoorYR4
import Derived.Test.YtmgmoamcbnkbfaaGreatDoorYK1
import Derived.Test.YtmgmoamcbnkbfaaGreatDoorYA5
set_option linter.unusedVariables false
set_option linter.unusedSimpArgs false
set_option linter.unusedSectionVars false
namespace Go.Proofs.YtmgmoamcbnkbfaaGreatDoor
set_option linter.unusedSimpArgs false
set_option linter.unusedVariables false
set_option maxRecDepth 20000
set_option maxHeartbeats 1000000
open Go.RowKit


/-- A machine. -/
structure St where
  regs : List Int
  h : Int
  fl : Fl
  pc : Int
  ws : List Int
  inp : ByteArray
  rd : Int
  en : Int
  tr : Int
  out : List Int
abbrev ob8 (n : Int) : List Dat := [.v (.int .u8 n)]
def bC (s : St) (pb : Nat) (o : AV) : List AV := [wv s.h, bv s.fl.n, bv s.fl.z, bv s.fl.c, bv s.fl.v, iv s.pc, .ptr pb 0, sv s.inp, iv s.rd, o, iv s.en, iv s.tr]
def OutAt (H0 H : List ABlk) (L : List Int) (o : AV) : Prop :=
  (o = .esl ∧ L = []) ∨ ∃ ob, o = .gsl ob 1 (L.map ob8) ∧ H[ob]? = some (.row 5 1 L.length) ∧ H0.length ≤ ob ∧ L.length ≤ 4096
structure MAt (H0 H : List ABlk) (mb pb wb : Nat) (o : AV) (s : St) : Prop where
  pre : H0 <+: H
  m : H[mb]? = some (.cells (s.regs.map wv ++ bC s pb o))
  mem : MemAt H pb wb s.ws
  out : OutAt H0 H s.out o
  lo : H0.length ≤ mb ∧ H0.length ≤ pb ∧ H0.length ≤ wb
  ne : mb ≠ wb ∧ mb ≠ pb
  r16 : s.regs.length = 16
  ru : ∀ x ∈ s.regs, U32 x
  hu : U32 s.h
  pc : 0 ≤ s.pc ∧ s.pc < 1073741824
  rd : 0 ≤ s.rd ∧ s.rd ≤ s.inp.size ∧ s.inp.size ≤ 4096
/-- The machine's own block is written: it is that machine now. -/
abbrev Put (H0 H : List ABlk) (mb pb wb : Nat) (o : AV) (s' : St) (v : AV) (H' : List ABlk) : Prop := v = .tup [] ∧ H' = H.set mb (.cells (s'.regs.map wv ++ bC s' pb o)) ∧ MAt H0 H' mb pb wb o s'
/-- The machine's own block is written. -/
theorem MAt.put {H0 H : List ABlk} {mb pb wb : Nat} {o : AV} {s : St} (h : MAt H0 H mb pb wb o s) (s' : St) (hw : s'.ws = s.ws ∧ s'.out = s.out) (h16 : s'.regs.length = 16) (hru : ∀ x ∈ s'.regs, U32 x) (hhu : U32 s'.h) (hpc : 0 ≤ s'.pc ∧ s'.pc < 1073741824)
    (hrd : 0 ≤ s'.rd ∧ s'.rd ≤ s'.inp.size ∧ s'.inp.size ≤ 4096) : MAt H0 (H.set mb (.cells (s'.regs.map wv ++ bC s' pb o))) mb pb wb o s' := by
  have hlt : mb < H.length := (List.getElem?_eq_some_iff.1 h.m).1
  refine ⟨pre_set h.pre h.lo.1 _, List.getElem?_set_self hlt, ?_, ?_, h.lo, h.ne, h16, hru, hhu, hpc, hrd⟩
  · rw [hw.1]
    exact ⟨by rw [List.getElem?_set_ne h.ne.2]; exact h.mem.p, by rw [List.getElem?_set_ne h.ne.1]; exact h.mem.w, h.mem.len, h.mem.rng⟩
  · rw [hw.2]
    rcases h.out with h1 | ⟨ob, h1, h2, h3⟩
    · exact .inl h1
    · refine .inr ⟨ob, h1, ?_, h3⟩
      have hne : mb ≠ ob := fun e => by
        have := h.m
        rw [e, h2] at this
        cases this
      rw [List.getElem?_set_ne hne]; exact h2
section
variable {A B : List AV} (hA : A.length = 16)
include hA
theorem drp (k : Nat) : (A ++ B).drop (16 + k) = B.drop k := by rw [List.drop_append, hA, List.drop_eq_nil_of_le (by omega), List.nil_append, Nat.add_sub_cancel_left]
theorem tkp (k : Nat) : (A ++ B).take (16 + k) = A ++ B.take k := by rw [List.take_append, hA, List.take_of_length_le (by omega), Nat.add_sub_cancel_left]
theorem stB (k : Nat) (x : AV) : (A ++ B).take (16 + k) ++ x :: (A ++ B).drop (16 + k + 1) = A ++ (B.take k ++ x :: B.drop (k + 1)) := by
  rw [tkp hA, show 16 + k + 1 = 16 + (k + 1) by omega, drp hA, List.append_assoc]
end
theorem reg_at {R : List Int} {B : List AV} (h16 : R.length = 16) {a : Nat} (ha : a < 16) : ((R.map wv ++ B).drop a).take 1 = [wv (R.getD a 0)] := by
  rw [List.drop_append_of_le_length (by rw [List.length_map]; omega), List.take_append_of_le_length (by rw [List.length_drop, List.length_map]; omega)]
  exact wv_get1 (by omega)
theorem reg_set {R : List Int} {B : List AV} (h16 : R.length = 16) {a : Nat} (ha : a < 16) (v : Int) : (R.map wv ++ B).take a ++ AV.d (.v (.int .u32 v)) :: (R.map wv ++ B).drop (a + 1) = (R.set a v).map wv ++ B := by
  rw [List.take_append_of_le_length (by rw [List.length_map]; omega), List.drop_append_of_le_length (by rw [List.length_map]; omega), ← List.cons_append, ← List.append_assoc, wv_set (by omega)]
theorem reg_rng {R : List Int} (h : ∀ x ∈ R, U32 x) (a : Nat) : U32 (R.getD a 0) := getD_rng h a
theorem set_rng {R : List Int} (h : ∀ x ∈ R, U32 x) (a : Nat) {v : Int} (hv : U32 v) : ∀ x ∈ R.set a v, U32 x := fun x hx => by
  rcases List.mem_or_eq_of_mem_set hx with hx | rfl
  · exact h x hx
  · exact hv
def St.sets (s : St) (a : Nat) (r : Int) : St := { s with regs := s.regs.set a r, fl := ⟨decide (r / 2147483648 = 1), decide (r = 0), s.fl.c, s.fl.v⟩ }
theorem sets_c {H0 H : List ABlk} {mb pb wb : Nat} {o : AV} {s : St} (hm : MAt H0 H mb pb wb o s) {a r : Int} (ha : 0 ≤ a ∧ a < 16) (hr : U32 r) : ACalls Tryz.prog 69 [.ptr mb 0, iv a, wv r] H fun v H' => v = .tup [] ∧ H' = H.set mb (.cells ((s.sets a.toNat r).regs.map wv ++ bC (s.sets a.toNat r) pb o)) := by
  obtain ⟨r0, r1⟩ := hr
  refine ACalls.into Tryz.func69 cc69 rr69 fun hcl => ?_
  have hlt : mb < H.length := (List.getElem?_eq_some_iff.1 hm.m).1
  have h16 := hm.r16
  have hml := hm.m
  have ha2 : a.toNat < 16 := by omega
  have hrs := reg_set (B := bC s pb o) h16 ha2 r
  have hss : ∀ x y : ABlk, (H.set mb x).set mb y = H.set mb y := fun x y => List.set_set ..
  have hg : ∀ x : ABlk, (H.set mb x)[mb]? = some x := fun x => List.getElem?_set_self hlt
  simp only [St.sets]
  obtain ⟨A, hA⟩ : ∃ A, A = (s.regs.set a.toNat r).map wv := ⟨_, rfl⟩
  have hl : A.length = 16 := by rw [hA, List.length_map, List.length_set]; exact h16
  rw [← hA] at hrs ⊢
  obtain ⟨A0, hA0⟩ : ∃ A0, A0 = s.regs.map wv := ⟨_, rfl⟩
  have hl0 : A0.length = 16 := by rw [hA0, List.length_map]; exact h16
  rw [← hA0] at hrs hml
  clear hA hA0
  have s17 : ∀ x B, List.take 17 (A ++ B) ++ x :: List.drop 18 (A ++ B) = A ++ (B.take 1 ++ x :: B.drop 2) := fun x B => stB hl 1 x
  have s18 : ∀ x B, List.take 18 (A ++ B) ++ x :: List.drop 19 (A ++ B) = A ++ (B.take 2 ++ x :: B.drop 3) := fun x B => stB hl 2 x
  simp only [bC] at hrs hml ⊢
  simp (maxSteps := 2000000) (disch := omega) only [Tryz.ntmps69, c69, r69, hml, hrs, hg, hss, s17, s18, hl, hl0, go_sem, seval, eq_self, if_true, if_false, reduceCtorEq]
  exact Ret.keep ⟨rfl, rfl⟩
theorem refsL_wv : ∀ m : List Int, refs.refsL (m.map wv) = []
  | [] => rfl
  | n :: m => by simp only [List.map_cons, refs.refsL, refsL_wv m]; rfl
theorem refsL_app2 : ∀ a b : List AV, refs.refsL (a ++ b) = refs.refsL a ++ refs.refsL b
  | [], b => rfl
  | x :: a, b => by simp only [List.cons_append, refs.refsL, refsL_app2 a b, List.append_assoc]
theorem mrefs (s : St) (pb : Nat) (o : AV) : (ABlk.cells (s.regs.map wv ++ bC s pb o)).refs = pb :: refs o := by
  simp only [ABlk.refs, refsL_app2, refsL_wv, List.nil_append]
  simp [bC, refs, refs.refsL]
theorem MAt.cl {H0 H : List ABlk} {mb pb wb : Nat} {o : AV} {s : St} (h : MAt H0 H mb pb wb o s) (hc : cl H) (s' : St) : cl (H.set mb (.cells (s'.regs.map wv ++ bC s' pb o))) := fun c k hk r hr => by
  rw [List.length_set]
  by_cases e : mb = c
  · subst e
    have hlt : mb < H.length := (List.getElem?_eq_some_iff.1 h.m).1
    rw [List.getElem?_set_self hlt] at hk
    cases hk
    rw [mrefs] at hr
    exact hc mb _ h.m r (by rw [mrefs]; exact hr)
  · rw [List.getElem?_set_ne e] at hk
    exact hc c k hk r hr
theorem MAt.ext {H0 H : List ABlk} {mb pb wb : Nat} {o : AV} {s : St} (h : MAt H0 H mb pb wb o s) (l : List ABlk) : MAt H0 (H ++ l) mb pb wb o s := by
  have ap : ∀ {b : Nat} {k : ABlk}, H[b]? = some k → (H ++ l)[b]? = some k := fun hb => by rw [List.getElem?_append_left (List.getElem?_eq_some_iff.1 hb).1, hb]
  refine ⟨h.pre.trans ⟨l, rfl⟩, ap h.m, ⟨ap h.mem.p, ap h.mem.w, h.mem.len, h.mem.rng⟩, ?_, h.lo, h.ne, h.r16, h.ru, h.hu, h.pc, h.rd⟩
  rcases h.out with h1 | ⟨ob, h1, h2, h3⟩
  · exact .inl h1
  · exact .inr ⟨ob, h1, ap h2, h3⟩
theorem MAt.set_ap {H0 H : List ABlk} {mb pb wb : Nat} {o : AV} {s : St} (h : MAt H0 H mb pb wb o s) (x : ABlk) (l : List ABlk) : (H ++ l).set mb x = H.set mb x ++ l := List.set_append_left _ _ (List.getElem?_eq_some_iff.1 h.m).1
theorem MAt.sets {H0 H : List ABlk} {mb pb wb : Nat} {o : AV} {s : St} (h : MAt H0 H mb pb wb o s) (a : Nat) {r : Int} (hr : U32 r) : MAt H0 (H.set mb (.cells ((s.sets a r).regs.map wv ++ bC (s.sets a r) pb o))) mb pb wb o (s.sets a r) :=
  h.put (s.sets a r) ⟨rfl, rfl⟩ (by simp only [St.sets, List.length_set]; exact h.r16) (set_rng h.ru a hr) h.hu h.pc h.rd
end Go.Proofs.YtmgmoamcbnkbfaaGreatDoor

/- cpu.Machine.reckons. -/
namespace Go.Proofs.YtmgmoamcbnkbfaaGreatDoor
set_option linter.unusedSimpArgs false
set_option linter.unusedVariables false
set_option maxRecDepth 20000
set_option maxHeartbeats 1000000
open Go.RowKit

theorem FrOk.at_ {w : List Nat} {H G : List ABlk} (b : Nat) (x : ABlk) (hb : b ∈ w) (hG : G = H.set b x) : FrOk w [] H G G := hG ▸ .set hb
theorem FrOk.at2 {w : List Nat} {H l : List ABlk} {b : Nat} (G : List ABlk) (hb : b ∈ w) (hlt : b < H.length) (x : ABlk) (hap : ∀ x l, (H ++ l).set b x = H.set b x ++ l) : FrOk w [] (H ++ l) (H.set b x ++ l) (H.set b x ++ l) := by
  rw [← hap]; exact .set hb
theorem WStep.al {P : Program} {w u : List Nat} {d : Option Nat} {l : List AV} {s : List AV} {H : List ABlk} {Kk : List AV → List ABlk → Prop} (hw : H.length ∈ w) (hu : ∀ b ∈ u, b < H.length ∨ H.length + 1 ≤ b) (h : Kk (setO s d (.ptr H.length 0)) (H ++ [.cells l])) :
    WStep P w u ⟨d, .al l, none⟩ s H Kk := by
  refine WStep.evU (H ++ [.cells l]) (by simp) (by simp) ?_
  simp only [evK, EvK, kill_length]
  refine ⟨?_, h⟩
  rw [show kill u H ++ [ABlk.cells l] = kill u (H ++ [.cells l]) from (kill_app hu).symm]
  exact ⟨rfl, fun c hc => by
    rcases Nat.lt_or_ge c H.length with h1 | h1
    · rw [List.getElem?_append_left h1]
    · have : c ≠ H.length := fun e => hc (e ▸ hw)
      rw [List.getElem?_eq_none (by simp; omega), List.getElem?_eq_none h1], by simp⟩
noncomputable def pkF (f : Fl) : Int := (packed_f f.n f.z f.c f.v).choose
theorem pk_s (f : Fl) : U32 (pkF f) ∧ ∀ H, ACalls Tryz.prog 71 [.agg [bv f.n, bv f.z, bv f.c, bv f.v]] H fun w H' => w = wv (pkF f) ∧ H' = H := (packed_f f.n f.z f.c f.v).choose_spec
/-- What the unit answers. -/
noncomputable def doF (op : Int) (u : Bool) (b n h : Int) (f : Fl) : Int × Int × Fl × Bool :=
  open Classical in if e : ∃ p : Int × Int × Fl × Bool, DoP op u b n h f p.1 p.2.1 p.2.2.1 p.2.2.2 then e.choose else (0, 0, f, true)
theorem do_s (op : Int) (u : Bool) (b n h : Int) (f : Fl) (hb : U32 b) (hn : U32 n) (hh : U32 h) : DoP op u b n h f (doF op u b n h f).1 (doF op u b n h f).2.1 (doF op u b n h f).2.2.1 (doF op u b n h f).2.2.2 := by
  obtain ⟨r, h2, f2, ok, hd⟩ := do_ex op u b n h f hb hn hh
  have e : ∃ p : Int × Int × Fl × Bool, DoP op u b n h f p.1 p.2.1 p.2.2.1 p.2.2.2 := ⟨(r, h2, f2, ok), hd⟩
  rw [doF, dif_pos e]
  exact e.choose_spec
def imvF (im : Int) : Int := ((BitVec.ofInt 32 (im % 65536) ||| 4294901760#32).toNat : Nat)
def imhF (im : Int) : Int := im % 4294967296 * 65536 % 4294967296
/-- The second operand. -/
def opnF (s : St) (x : In) : Int := if x.f = 1 then (if x.v = true then imvF x.im else x.im % 65536) else s.regs.getD x.c.toNat 0
noncomputable def aluF (s : St) (x : In) : St :=
  { s with regs := s.regs.set x.a.toNat (doF x.op x.u (s.regs.getD x.b.toNat 0) (opnF s x) s.h s.fl).1, h := (doF x.op x.u (s.regs.getD x.b.toNat 0) (opnF s x) s.h s.fl).2.1, fl := (doF x.op x.u (s.regs.getD x.b.toNat 0) (opnF s x) s.h s.fl).2.2.1 }
noncomputable def recF (s : St) (x : In) : St :=
  if x.op = 0 ∧ x.u = true ∧ x.f = 1 then s.sets x.a.toNat (imhF x.im) else if x.op = 0 ∧ x.u = true ∧ x.v = true then s.sets x.a.toNat (pkF s.fl) else aluF s x
section
variable {s : St} {f : Int} {u v : Bool} {a b c op im : Int}
theorem opnF_0 (h : f = 1) : opnF s ⟨f, u, false, a, b, c, op, im⟩ = im % 65536 := by simp [opnF, h]
theorem opnF_1 (h : f = 1) : opnF s ⟨f, u, true, a, b, c, op, im⟩ = imvF im := by simp [opnF, h]
theorem opnF_2 (h : f ≠ 1) : opnF s ⟨f, u, v, a, b, c, op, im⟩ = s.regs.getD c.toNat 0 := by simp [opnF, h]
theorem opnF_u (hu : U32 (s.regs.getD c.toNat 0)) : U32 (opnF s ⟨f, u, v, a, b, c, op, im⟩) := by
  by_cases h : f = 1
  · cases v
    · rw [opnF_0 h]; exact ⟨by omega, by omega⟩
    · rw [opnF_1 h]; exact u32_bv _
  · rw [opnF_2 h]; exact hu
theorem recF_0 (h : op ≠ 0) : recF s ⟨f, u, v, a, b, c, op, im⟩ = aluF s ⟨f, u, v, a, b, c, op, im⟩ := by simp [recF, h]
theorem recF_1 : recF s ⟨f, false, v, a, b, c, op, im⟩ = aluF s ⟨f, false, v, a, b, c, op, im⟩ := by simp [recF]
theorem recF_2 (h : op = 0) (hf : f = 1) : recF s ⟨f, true, v, a, b, c, op, im⟩ = s.sets a.toNat (imhF im) := by simp [recF, h, hf]
theorem recF_3 (hf : f ≠ 1) : recF s ⟨f, true, false, a, b, c, op, im⟩ = aluF s ⟨f, true, false, a, b, c, op, im⟩ := by simp [recF, hf]
theorem recF_4 (h : op = 0) (hf : f ≠ 1) : recF s ⟨f, true, true, a, b, c, op, im⟩ = s.sets a.toNat (pkF s.fl) := by simp [recF, h, hf]
end
theorem reckons_c {H0 H : List ABlk} {mb pb wb : Nat} {o : AV} {s : St} (hm : MAt H0 H mb pb wb o s) {x : In} (hx : InOk x) :
    ACalls Tryz.prog 44 [.ptr mb 0, x.av] H (Put H0 H mb pb wb o (recF s x)) := by
  refine ACalls.enter Tryz.func44 cc44 rr44 fun hcl => ?_
  have hlt : mb < H.length := (List.getElem?_eq_some_iff.1 hm.m).1
  have h16 := hm.r16
  have hml := hm.m
  have hcA := reg_at (B := bC s pb o) h16 (a := x.c.toNat) (by have := hx.c; omega)
  have hcB := reg_at (B := bC s pb o) h16 (a := x.b.toNat) (by have := hx.b; omega)
  have uC := reg_rng hm.ru x.c.toNat
  have uB := reg_rng hm.ru x.b.toNat
  have hset := fun (l : List ABlk) (hl : (H ++ l)[mb]? = some (.cells (s.regs.map wv ++ bC s pb o))) => hl
  have hk : ∀ l, (H ++ l)[mb]? = some (.cells (s.regs.map wv ++ bC s pb o)) := fun l => by rw [List.getElem?_append_left hlt]; exact hml
  have hlenR : (s.regs.map wv ++ bC s pb o).length = 28 := by rw [List.length_append, List.length_map, h16]; rfl
  obtain ⟨f, u, v, a, b, c, op, im⟩ := x
  have hf := hx.f
  have ha := hx.a
  have hb := hx.b
  have hc := hx.c
  have him := hx.im
  simp only at hf ha hb hc him hcA hcB uC uB
  simp only [Tryz.ntmps44, c44, r44]
  refine W.seq_reg ?_
  simp (maxSteps := 2000000) (disch := omega) only [go_sem, seval, eq_self, if_true, if_false, reduceCtorEq]
  refine W.seq ?_
  refine W.pchain follows (by decide +kernel) ?_
  simp (maxSteps := 2000000) (disch := omega) only [hk, hcA, hlenR, List.length_append, List.length_map, h16, go_sem, seval, eq_self, if_true, if_false, reduceCtorEq]
  refine W.cut (fun s' H' => s' = [.ptr mb 0, .any, .any, .ptr H.length 0, wv (opnF s (In.mk f u v a b c op im))] ++ List.replicate 94 .any ∧ H' = H ++ [.cells (In.mk f u v a b c op im).cs]) (wpA.W ?_) ?_
  · by_cases f1 : f = 1
    · have e16 : IntKind.u16.wrap im = im % 65536 := by simp [IntKind.wrap, IntKind.bits, IntKind.signed]
      have m0 : 0 ≤ im % 65536 ∧ im % 65536 < 65536 := by omega
      cases v
      · rw [opnF_0 f1]
        simp (maxSteps := 2000000) (disch := omega) only [e16, go_sem, seval, eq_self, if_true, if_false, reduceCtorEq]
        exact ⟨_, _, Wk.slots (by (try simp only [List.replicate, List.cons_append, List.nil_append]); repeat' first | exact WkL.nil | refine WkL.cons (Wk1.rfl _) ?_ | refine WkL.cons Wk1.esl ?_ | refine WkL.cons (Wk1.gsl _ _ _) ?_ | refine WkL.cons (Wk1.any _) ?_), rfl, rfl⟩
      · rw [opnF_1 f1]
        simp (maxSteps := 2000000) (disch := omega) only [e16, go_sem, seval, eq_self, if_true, if_false, reduceCtorEq]
        exact ⟨_, _, Wk.slots (by (try simp only [List.replicate, List.cons_append, List.nil_append]); repeat' first | exact WkL.nil | refine WkL.cons (Wk1.rfl _) ?_ | refine WkL.cons Wk1.esl ?_ | refine WkL.cons (Wk1.gsl _ _ _) ?_ | refine WkL.cons (Wk1.any _) ?_), rfl, rfl⟩
    · rw [opnF_2 f1]
      simp (maxSteps := 2000000) (disch := omega) only [go_sem, seval, eq_self, if_true, if_false, reduceCtorEq]
      exact ⟨_, _, Wk.slots (by (try simp only [List.replicate, List.cons_append, List.nil_append]); repeat' first | exact WkL.nil | refine WkL.cons (Wk1.rfl _) ?_ | refine WkL.cons Wk1.esl ?_ | refine WkL.cons (Wk1.gsl _ _ _) ?_ | refine WkL.cons (Wk1.any _) ?_), rfl, rfl⟩
  have hn := opnF_u (f := f) (u := u) (v := v) (a := a) (b := b) (op := op) (im := im) uC
  obtain ⟨n, hne⟩ : ∃ n, n = opnF s (In.mk f u v a b c op im) := ⟨_, rfl⟩
  rw [← hne] at hn ⊢
  rintro s' H' ⟨rfl, rfl⟩
  clear hcA uC
  refine W.cut (fun s' H' => recF s (In.mk f u v a b c op im) = aluF s (In.mk f u v a b c op im) ∧ s' = [.ptr mb 0, .any, .any, .ptr H.length 0, wv n] ++ List.replicate 94 .any ∧ H' = H ++ [.cells (In.mk f u v a b c op im).cs]) (wpA.W ?_) ?_
  · have out : ∀ (r : Int), U32 r → recF s (In.mk f u v a b c op im) = s.sets a.toNat r → ∀ l, Ret [] H.length (Put H0 H mb pb wb o (recF s (In.mk f u v a b c op im))) (some (.tup [])) (H.set mb (.cells ((s.sets a.toNat r).regs.map wv ++ bC (s.sets a.toNat r) pb o)) ++ l) := fun r hr hq l => by
      rw [hq]
      exact Ret.drop _ (H.set mb _) (by simp) (hm.cl hcl _) (.rfl _) (by simp [refs, refs.refsL]) ⟨rfl, rfl, hm.sets a.toNat hr⟩
    by_cases h0 : op = 0
    rotate_left
    · simp (maxSteps := 2000000) (disch := omega) only [go_sem, seval, eq_self, if_true, if_false, reduceCtorEq]
      exact ⟨_, _, Wk.slots (by (try simp only [List.replicate, List.cons_append, List.nil_append]); repeat' first | exact WkL.nil | refine WkL.cons (Wk1.rfl _) ?_ | refine WkL.cons Wk1.esl ?_ | refine WkL.cons (Wk1.gsl _ _ _) ?_ | refine WkL.cons (Wk1.any _) ?_), recF_0 h0, rfl, rfl⟩
    cases u
    · simp (maxSteps := 2000000) (disch := omega) only [go_sem, seval, eq_self, if_true, if_false, reduceCtorEq]
      exact ⟨_, _, Wk.slots (by (try simp only [List.replicate, List.cons_append, List.nil_append]); repeat' first | exact WkL.nil | refine WkL.cons (Wk1.rfl _) ?_ | refine WkL.cons Wk1.esl ?_ | refine WkL.cons (Wk1.gsl _ _ _) ?_ | refine WkL.cons (Wk1.any _) ?_), recF_1, rfl, rfl⟩
    by_cases f1 : f = 1
    · simp (maxSteps := 2000000) (disch := omega) only [go_sem, seval, eq_self, if_true, if_false, reduceCtorEq]
      refine Cont.mk (sets_c (hm.ext _) ha (r := imhF im) (u32_mod _)) ?_
      rw [hm.set_ap]
      simp (maxSteps := 2000000) (disch := omega) only [go_sem, seval, eq_self, if_true, if_false, reduceCtorEq]
      exact out _ (u32_mod _) (recF_2 h0 f1) _
    cases v
    · simp (maxSteps := 2000000) (disch := omega) only [go_sem, seval, eq_self, if_true, if_false, reduceCtorEq]
      exact ⟨_, _, Wk.slots (by (try simp only [List.replicate, List.cons_append, List.nil_append]); repeat' first | exact WkL.nil | refine WkL.cons (Wk1.rfl _) ?_ | refine WkL.cons Wk1.esl ?_ | refine WkL.cons (Wk1.gsl _ _ _) ?_ | refine WkL.cons (Wk1.any _) ?_), recF_3 f1, rfl, rfl⟩
    · simp (maxSteps := 2000000) (disch := omega) only [go_sem, seval, eq_self, if_true, if_false, reduceCtorEq]
      obtain ⟨up, hp⟩ := pk_s s.fl
      have hnd : ∀ l, (H ++ l)[mb]? ≠ some .dead := fun l => by rw [hk]; exact fun e => by cases e
      refine W.dregD [([], []), ([], []), ([], []), ([], []), ([], []), ([], []), ([], []), ([], []), ([mb], [])] follows (by decide +kernel) rfl rfl (fun z hz b' hb' => ?_) ?_
      · simp only [List.mem_cons, List.not_mem_nil, or_false] at hz
        rcases hz with rfl | rfl | rfl | rfl | rfl | rfl | rfl | rfl | rfl <;> simp at hb' <;> subst hb' <;> exact ⟨by simp, hnd _⟩
      have h17 : List.take 4 (List.drop 17 (s.regs.map wv ++ bC s pb o)) = [bv s.fl.n, bv s.fl.z, bv s.fl.c, bv s.fl.v] := by
        rw [show 17 = 16 + 1 from rfl, drp (by rw [List.length_map]; exact h16)]; rfl
      have hb12 : (bC s pb o).length = 12 := rfl
      repeat (rw [DC_p]; simp (maxSteps := 2000000) (disch := omega) only [hk, hlenR, h17, List.length_append, List.length_map, h16, hb12, go_sem, seval, eq_self, if_true, if_false, reduceCtorEq])
      refine PCont.mk (hp _) ?_
      simp (maxSteps := 2000000) (disch := omega) only [go_sem, seval, eq_self, if_true, if_false, reduceCtorEq]
      refine WStep.call (sets_c (hm.ext _) ha up) (fun c hc => List.getElem?_set_ne (fun e => hc (by simp [e]))) (by simp) ?_
      rw [hm.set_ap]
      try simp (maxSteps := 2000000) (disch := omega) only [go_sem, seval, eq_self, if_true, if_false, reduceCtorEq]
      exact out _ up (recF_4 h0 f1) _
  rintro s' H' ⟨hrec, rfl, rfl⟩
  rw [hrec]
  have hds := do_s op u (s.regs.getD b.toNat 0) n s.h s.fl uB hn hm.hu
  have hal : aluF s (In.mk f u v a b c op im) = { s with regs := s.regs.set a.toNat (doF op u (s.regs.getD b.toNat 0) n s.h s.fl).1, h := (doF op u (s.regs.getD b.toNat 0) n s.h s.fl).2.1, fl := (doF op u (s.regs.getD b.toNat 0) n s.h s.fl).2.2.1 } := by rw [hne]; rfl
  rw [hal]
  clear hal hrec hne
  generalize doF op u (s.regs.getD b.toNat 0) n s.h s.fl = D at *
  obtain ⟨r, h2, f2, ok⟩ := D
  obtain ⟨u1, u2, hdo⟩ := hds
  have h16' : List.take 1 (List.drop 16 (s.regs.map wv ++ bC s pb o)) = [wv s.h] := by
    rw [show 16 = 16 + 0 from rfl, drp (by rw [List.length_map]; exact h16)]; rfl
  have h17 : List.take 4 (List.drop 17 (s.regs.map wv ++ bC s pb o)) = [bv s.fl.n, bv s.fl.z, bv s.fl.c, bv s.fl.v] := by
    rw [show 17 = 16 + 1 from rfl, drp (by rw [List.length_map]; exact h16)]; rfl
  have hb12 : (bC s pb o).length = 12 := rfl
  have hno : ∀ l : List ABlk, l.length = 1 → mb ≠ H.length + 1 := fun _ _ => by omega
  refine W.seq ?_
  refine W.dregD [([], [H.length + 1]), ([], [H.length + 1]), ([], [H.length + 1]), ([], [H.length + 1]), ([], [H.length + 1]), ([], [H.length + 1]), ([], [H.length + 1]), ([], [H.length + 1]), ([], [H.length + 1]), ([], [H.length + 1]), ([], [H.length + 1]), ([], [H.length + 1]), ([], [H.length + 1]), ([], [H.length + 1]), ([], [H.length + 1]), ([], [H.length + 1]), ([], [H.length + 1]), ([], [H.length + 1]), ([], [H.length + 1]), ([], [H.length + 1]), ([], [H.length + 1]), ([], [H.length + 1]), ([], [H.length + 1]), ([], [H.length + 1]), ([], [H.length + 1]), ([], [H.length + 1, H.length + 1]), ([H.length + 1], []), ([], []), ([], []), ([H.length + 1], []), ([], [])] follows (by decide +kernel) rfl rfl (fun z hz b' hb' => ?_) ?_
  · simp only [List.mem_cons, List.not_mem_nil, or_false] at hz
    rcases hz with rfl | rfl | rfl | rfl | rfl | rfl | rfl | rfl | rfl | rfl | rfl | rfl | rfl | rfl | rfl | rfl | rfl | rfl | rfl | rfl | rfl | rfl | rfl | rfl | rfl | rfl | rfl | rfl | rfl | rfl | rfl <;> simp at hb' <;> subst hb' <;> exact ⟨by simp, by rw [List.getElem?_eq_none (by simp)]; exact fun h => by cases h⟩
  repeat (rw [DC_p]; simp (maxSteps := 2000000) (disch := omega) only [kill_c, hk, hlenR, h16', h17, hcB, List.length_append, List.length_map, h16, hb12, List.set_nil, go_sem, seval, eq_self, if_true, if_false, reduceCtorEq])
  refine PCont.mk (hdo _) ?_
  simp (maxSteps := 2000000) (disch := omega) only [go_sem, seval, eq_self, if_true, if_false, reduceCtorEq]
  repeat (rw [DC_p]; simp (maxSteps := 2000000) (disch := omega) only [kill_c, List.set_nil, go_sem, seval, eq_self, if_true, if_false, reduceCtorEq])
  refine WStep.al (by simp) (by simp) ?_
  simp (maxSteps := 2000000) (disch := omega) only [go_sem, seval, eq_self, if_true, if_false, reduceCtorEq]
  repeat (rw [DC_p]; simp (maxSteps := 2000000) (disch := omega) only [kill_c, List.set_nil, go_sem, seval, eq_self, if_true, if_false, reduceCtorEq])
  refine WStep.ev (by simp) (by simp) ?_
  simp (maxSteps := 2000000) (disch := omega) only [go_sem, seval, eq_self, if_true, if_false, reduceCtorEq]
  refine ⟨FrOk.put 1 _ (by simp) rfl, ?_⟩
  repeat (rw [DC_p]; simp (maxSteps := 2000000) (disch := omega) only [kill_c, List.set_nil, go_sem, seval, eq_self, if_true, if_false, reduceCtorEq])
  have hnd : ∀ l, (H ++ l)[mb]? ≠ some .dead := fun l => by rw [hk]; exact fun e => by cases e
  have hap : ∀ x l, (H ++ l).set mb x = H.set mb x ++ l := fun x l => hm.set_ap x l
  have hq : ∀ x a b l, (H.set mb x ++ (a :: b :: l))[H.length + 1]? = some b := fun x a b l => by rw [List.getElem?_append_right (by rw [List.length_set]; omega), List.length_set]; simp
  have hgm : ∀ x l, (H.set mb x ++ l)[mb]? = some x := fun x l => by rw [List.getElem?_append_left (by rw [List.length_set]; exact hlt)]; exact List.getElem?_set_self hlt
  have hsm : ∀ x y l, (H.set mb x ++ l).set mb y = H.set mb y ++ l := fun x y l => by rw [List.set_append_left _ _ (by rw [List.length_set]; exact hlt), List.set_set]
  refine W.dregD [([], []), ([], []), ([], []), ([], [mb]), ([], [mb, mb]), ([], []), ([], [mb]), ([], [mb, mb]), ([], []), ([], []), ([], []), ([mb], []), ([], []), ([], []), ([mb], []), ([], []), ([], []), ([mb], [])] follows (by decide +kernel) rfl rfl (fun z hz b' hb' => ?_) ?_
  · simp only [List.mem_cons, List.not_mem_nil, or_false] at hz
    rcases hz with rfl | rfl | rfl | rfl | rfl | rfl | rfl | rfl | rfl | rfl | rfl | rfl | rfl | rfl | rfl | rfl | rfl | rfl <;> simp at hb' <;> subst hb' <;> exact ⟨by simp, hnd _⟩
  repeat (rw [DC_p]; simp (maxSteps := 2000000) (disch := omega) only [kill_c, hap, hsm, hq, go_sem, seval, eq_self, if_true, if_false, reduceCtorEq])
  have ha2 : a.toNat < 16 := by omega
  have hrs := reg_set (B := bC s pb o) h16 ha2 r
  obtain ⟨A, hA⟩ : ∃ A, A = (s.regs.set a.toNat r).map wv := ⟨_, rfl⟩
  have hl : A.length = 16 := by rw [hA, List.length_map, List.length_set]; exact h16
  rw [← hA] at hrs
  have s16 : ∀ x B, List.take 16 (A ++ B) ++ x :: List.drop 17 (A ++ B) = A ++ (B.take 0 ++ x :: B.drop 1) := fun x B => stB hl 0 x
  refine WStep.ev (by simp) (by simp) ?_
  simp (maxSteps := 2000000) (disch := omega) only [hk, hap, hrs, hlenR, List.length_append, List.length_map, h16, hb12, go_sem, seval, eq_self, if_true, if_false, reduceCtorEq]
  refine ⟨FrOk.at2 (H ++ [.cells (In.mk f u v a b c op im).cs, .cells f2.cs]) (by simp) hlt _ hap, ?_⟩
  repeat (rw [DC_p]; simp (maxSteps := 2000000) (disch := omega) only [kill_c, hap, hsm, hq, go_sem, seval, eq_self, if_true, if_false, reduceCtorEq])
  have s17 : ∀ x1 x2 x3 x4 B, List.take 17 (A ++ B) ++ x1 :: x2 :: x3 :: x4 :: List.drop 21 (A ++ B) = A ++ (B.take 1 ++ x1 :: x2 :: x3 :: x4 :: B.drop 5) := fun x1 x2 x3 x4 B => by
    rw [show 17 = 16 + 1 from rfl, tkp hl, show 21 = 16 + 5 from rfl, drp hl, List.append_assoc]
  refine WStep.ev (by simp) (by simp) ?_
  simp (maxSteps := 2000000) (disch := omega) only [hgm, hsm, s16, bC, hl, go_sem, seval, eq_self, if_true, if_false, reduceCtorEq]
  refine ⟨FrOk.at_ mb _ (by simp) (hsm _ _ _).symm, ?_⟩
  repeat (rw [DC_p]; simp (maxSteps := 2000000) (disch := omega) only [kill_c, hap, hsm, hq, go_sem, seval, eq_self, if_true, if_false, reduceCtorEq])
  refine WStep.ev (by simp) (by simp) ?_
  simp (maxSteps := 2000000) (disch := omega) only [hgm, hsm, s17, bC, hl, go_sem, seval, eq_self, if_true, if_false, reduceCtorEq]
  refine ⟨FrOk.at_ mb _ (by simp) (hsm _ _ _).symm, ?_⟩
  try simp (maxSteps := 2000000) (disch := omega) only [go_sem, seval, eq_self, if_true, if_false, reduceCtorEq]
  obtain ⟨s', hs'⟩ : ∃ s' : St, s' = { s with regs := s.regs.set a.toNat r, h := h2, fl := f2 } := ⟨_, rfl⟩
  have hmp := hm.put s' (by rw [hs']; exact ⟨rfl, rfl⟩) (by rw [hs']; simp only [List.length_set]; exact h16) (by rw [hs']; exact set_rng hm.ru _ u1) (by rw [hs']; exact u2) (by rw [hs']; exact hm.pc) (by rw [hs']; exact hm.rd)
  have hcs := hm.cl hcl s'
  have hcell : s'.regs.map wv ++ bC s' pb o = A ++ [wv h2, bv f2.n, bv f2.z, bv f2.c, bv f2.v, iv s.pc, .ptr pb 0, sv s.inp, iv s.rd, o, iv s.en, iv s.tr] := by rw [hs', hA]; rfl
  rw [hcell] at hmp hcs
  rw [← hs']
  exact Ret.drop _ (H.set mb _) (by simp) hcs (.rfl _) (by simp [refs, refs.refsL]) ⟨rfl, congrArg (fun x => H.set mb (.cells x)) hcell.symm, hmp⟩
end Go.Proofs.YtmgmoamcbnkbfaaGreatDoor
