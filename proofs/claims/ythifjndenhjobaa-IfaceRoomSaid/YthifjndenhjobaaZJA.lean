/- Trim. -/
import Derived.Test.YthifjndenhjobaaZJ9
import Derived.Test.YthifjndenhjobaaZIF
namespace Go.Proofs.Ythifjndenhjobaa
set_option linter.unusedSimpArgs false
set_option linter.unusedVariables false
set_option maxRecDepth 20000
set_option maxHeartbeats 4000000
open Go.RowKit

theorem W.split {P : Program} {hint : Nat → Option Md} {nb : Nat} {a b : AC} {s : List AV} {H : List ABlk} {Q : APost} (h : wpA P hint nb a s H (APost.then (fun s' H' => W P hint nb b s' H' Q) Q)) : W P hint nb (.seq a b) s H Q := .seq (wpA.W h)
abbrev zeA : List AV := [sv se, .d (.v (.int .u32 0)), .esl, .esl, .esl]
def TrR (f : Fc) (H : List ABlk) (v : AV) (H' : List ABlk) : Prop := v = .tup [(trimV f).1.av, iv (trimV f).2] ∧ H' = H
theorem ze_wk {n : Int} : Wk1 (.tup [.agg zeA, iv n]) (.tup [zeF.av, iv n]) := by
 refine .tup rfl fun i c c' h1 h2 => ?_
 rcases i with _ | _ | i <;> simp at h1 h2
 ·subst h1 h2
  refine .agg rfl fun i c c' h1 h2 => ?_
  rcases i with _ | _ | _ | _ | _ | i <;> simp [zeA, zeF, Fc.cs] at h1 h2
  ·subst h1 h2; exact .rfl _
  ·subst h1 h2; exact .rfl _
  ·subst h1 h2; exact .esl
  ·subst h1 h2; exact .esl
  ·subst h1 h2; exact .esl
 ·subst h1 h2; exact .rfl _
theorem iTrim_no {f : Fc} (hf : FIn f) (hs : Small f.types) (hF : ¬ FrameP f) (H : List ABlk) : ACalls Try.prog 23 [f.av] H (TrR f H) := by
 refine ACalls.into Try.func23 cc23 rr23 fun hcl => ?_
 simp (maxSteps := 2000000) (disch := omega) only [Try.ntmps23, c23, r23, Fc.cs, go_sem, seval, reduceCtorEq]
 refine Cont.rel (framed_c hf hs _) ?_
 rintro v H' ⟨⟨B, rfl, hB⟩, rfl⟩
 have hb : B = false := by cases B with
  | false => rfl
  | true => exact absurd (hB.1 rfl) hF
 subst hb
 simp (maxSteps := 2000000) (disch := omega) only [go_sem, seval, reduceCtorEq]
 refine Ret.drop _ H (Nat.le_refl _) hcl ze_wk (by simp [refs, refs.refsL, Fc.cs, zeF]) ?_
 rw [TrR, trimV_no hF]; exact ⟨rfl, rfl⟩
def obA (f : Fc) (o : List Int) (gb : Nat) : Nat → AV
 | 0 => .esl
 | i + 1 => .gsl gb 7 (((f.objs.take (i + 1)).map (trimO o)).map Ob.c)
structure TG where
 i : Nat
 H : List ABlk
 ob : Nat
 gb : Nat
structure TI (f : Fc) (os : Nat → List Int) (o : List Int) (K : List ABlk) (xb ub o0 : Nat) (g : TG) : Prop where
 hi : g.i ≤ f.objs.length
 ts : TS f xb g.H g.ob (os g.i) (basicL.map some ++ (news f.name f.types [] (os g.i)).map some)
 hub : g.H[ub]? = some (.cells [sv f.name, wv f.key, usv f.uses, .esl, obA f o g.gb g.i])
 hgb : 0 < g.i → g.H[g.gb]? = some (.row 34 7 g.i) ∧ K.length ≤ g.gb ∧ g.gb ≠ g.ob
 len : K.length ≤ g.H.length
 out : ∀ b, b < K.length → b ≠ xb → b ≠ o0 → b ≠ ub → g.H[b]? = K[b]?
 no : ub ≠ g.ob
 hob : g.ob = o0 ∨ K.length ≤ g.ob
theorem pre_out {H G : List ABlk} (h : ∀ c, c < H.length → G[c]? = H[c]?) : H <+: G := by
 refine ⟨G.drop H.length, ?_⟩
 have e : H = G.take H.length := List.ext_getElem? fun i => by
  rw [List.getElem?_take]
  split
  ·rename_i hi; exact (h i hi).symm
  ·rename_i hi; exact List.getElem?_eq_none (by omega)
 have := List.take_append_drop H.length G
 rwa [← e] at this
theorem newT_news (nm : ByteArray) (t : List Ty) (o : List Int) : newT nm t o = basicL ++ news nm t [] o := by
 rw [newT, news]; simp
theorem tyC_d (l : List Ty) : tyC (l.map some) = (l.map Ty.c).flatten.map .d := by
 rw [tyC, List.map_map, List.map_flatten, List.map_map]; rfl
theorem trim_fz {f : Fc} {o : List Int} {ob gb : Nat} {H : List ABlk} (ht : H[ob]? = some (.cells (tyC ((newT f.name f.types o).map some)))) :
 FzL (fun c => c = ob) H [sv f.name, wv f.key, usv f.uses, .hsl ob 0 (newT f.name f.types o).length (newT f.name f.types o).length 10, obA f o gb f.objs.length] (trimF f o).cs := by
 have h1 : Fz (fun c => c = ob) H (.hsl ob 0 (newT f.name f.types o).length (newT f.name f.types o).length 10) (.sl ((newT f.name f.types o).map Ty.c)) := by
  refine .hsl rfl ht (by simp) (fun e he => by obtain ⟨y, _, rfl⟩ := List.mem_map.1 he; rfl) (by rw [tyC_len, List.length_map]; omega) fun i e j d h1 h2 => ?_
  rw [Nat.zero_add, tyC_d, flt_d (fun e he => by obtain ⟨y, _, rfl⟩ := List.mem_map.1 he; rfl) h1 h2]
  exact .d
 refine .cons (.keep _) (.cons (.keep _) (.cons (.keep _) (.cons (.d h1) (.cons ?_ .nil))))
 show FzA _ H _ (.d (.sl ((f.objs.map (trimO o)).map Ob.c)))
 obtain ⟨n, hn⟩ : ∃ n, f.objs.length = n := ⟨_, rfl⟩
 rw [hn]
 cases n with
 | zero => rw [List.eq_nil_of_length_eq_zero hn]; exact .d .esl
 | succ j => rw [obA, ← hn, List.take_length]; exact .d .gsl
theorem iTrim_yes {f : Fc} (hf : FIn f) (hs : Small f.types) (hF : FrameP f) (H : List ABlk) : ACalls Try.prog 23 [f.av] H (TrR f H) := by
 have hgd := hF.ty
 have hvis := ordF_vis hF
 have hvs := visits hgd hs hvis fun a ha => by
  obtain ⟨x, hx, rfl⟩ := List.mem_map.1 ha
  exact ⟨(hF.ob x hx).2.1.1, (hF.ob x hx).2.1.2⟩
 obtain ⟨os, os0, osn, hos, hov, hop⟩ := hvs.steps2
 rw [List.length_map] at osn hos hov hop
 have hol := hF.os
 refine ACalls.enter Try.func23 cc23 rr23 fun hcl => ?_
 simp only [Try.ntmps23, c23, r23]
 refine W.split ?_
 simp (maxSteps := 2000000) (disch := omega) only [Fc.cs, go_sem, seval, reduceCtorEq]
 refine W.split ?_
 simp (maxSteps := 2000000) (disch := omega) only [Fc.cs, go_sem, seval, reduceCtorEq]
 refine Cont.rel (framed_c hf hs _) ?_
 rintro v H' ⟨⟨B, rfl, hB⟩, rfl⟩
 have hb : B = true := hB.2 hF
 subst hb
 simp (maxSteps := 2000000) (disch := omega) only [go_sem, seval, reduceCtorEq]
 refine W.split ?_
 simp (maxSteps := 2000000) (disch := omega) only [go_sem, seval, reduceCtorEq]
 obtain ⟨K0, hK0⟩ : ∃ K0, H ++ [ABlk.cells [sv f.name, wv f.key, usv f.uses, tv f.types, obv f.objs], ABlk.cells zeA] = K0 := ⟨_, rfl⟩
 have b1 : K0[H.length]? = some (.cells [sv f.name, wv f.key, usv f.uses, tv f.types, obv f.objs]) := by rw [← hK0, List.getElem?_append_right (Nat.le_refl _), Nat.sub_self]; rfl
 have b2 : K0[H.length + 1]? = some (.cells zeA) := by rw [← hK0, List.getElem?_append_right (by omega), show H.length + 1 - H.length = 1 by omega]; rfl
 have l0 : K0.length = H.length + 2 := by rw [← hK0]; simp
 have w0 : H <+: K0 := ⟨_, hK0⟩
 simp only [zeA] at hK0
 rw [hK0]
 have hkill : ∀ (U : List Nat) (K : List ABlk), (∀ b ∈ U, K.length ≤ b) → kill U K = K := fun U => by
  induction U with
  | nil => exact fun K _ => rfl
  | cons b U ih =>
   intro K h
   rw [kill_c, List.set_eq_of_length_le (h b List.mem_cons_self)]
   exact ih K fun c hc => h c (List.mem_cons_of_mem _ hc)
 obtain ⟨K1, hK1⟩ : ∃ K1, K0 ++ (List.replicate 6 ABlk.dead ++ [ABlk.cells (tyC (basicL.map some))]) = K1 := ⟨_, rfl⟩
 have k0 := hkill [H.length + 2, H.length + 3, H.length + 4, H.length + 5, H.length + 6, H.length + 7, H.length + 8] K0 fun b hb => by simp only [List.mem_cons, List.not_mem_nil, or_false] at hb; omega
 have bas := basic_h K0
 rw [hK1, l0] at bas
 have l1 : K1.length = H.length + 9 := by rw [← hK1]; simp [l0]
 have k1 : ∀ c, c ∉ [H.length + 2, H.length + 3, H.length + 4, H.length + 5, H.length + 6, H.length + 7, H.length + 8] → K1[c]? = K0[c]? := fun c hc => by
  simp only [List.mem_cons, List.not_mem_nil, or_false] at hc
  by_cases h : c < K0.length
  ·rw [← hK1, List.getElem?_append_left h]
  ·rw [List.getElem?_eq_none (by omega), List.getElem?_eq_none (by omega)]
 have lo1 : ∀ c, c < K0.length → K1[c]? = K0[c]? := fun c hc => by rw [← hK1, List.getElem?_append_left hc]
 have p1 : K1[H.length]? = some (.cells [sv f.name, wv f.key, usv f.uses, tv f.types, obv f.objs]) := (lo1 _ (by omega)).trans b1
 have p2 : K1[H.length + 8]? = some (.cells (tyC (basicL.map some))) := by
  rw [← hK1, List.getElem?_append_right (by omega), List.getElem?_append_right (by simp; omega), List.length_replicate, show H.length + 8 - K0.length - 6 = 0 by omega]; rfl
 obtain ⟨K2, hK2⟩ : ∃ K2, K1 ++ [ABlk.cells (xC f (H.length + 8) [] 7 0)] = K2 := ⟨_, rfl⟩
 have xe : xC f (H.length + 8) [] 7 0 = tv f.types :: (List.replicate 256 (iv 0) ++ [.hsl (H.length + 8) 0 7 7 10, sv f.name, iv 0]) := by
  rw [xC, plc]; rfl
 refine W.dregD [([], [H.length + 2, H.length + 3, H.length + 4, H.length + 5, H.length + 6, H.length + 7, H.length + 8]), ([], [H.length + 2, H.length + 3, H.length + 4, H.length + 5, H.length + 6, H.length + 7, H.length + 8]), ([H.length + 2, H.length + 3, H.length + 4, H.length + 5, H.length + 6, H.length + 7, H.length + 8], []), ([], [H.length + 2, H.length + 3, H.length + 4, H.length + 5, H.length + 6, H.length + 7, H.length + 8]), ([], [H.length + 2, H.length + 3, H.length + 4, H.length + 5, H.length + 6, H.length + 7, H.length + 8]), ([], []), ([H.length + 9], []), ([], [])] follows (by decide +kernel) rfl rfl (fun z hz b hb => ?_) ?_
 ·have hn : z.2 = [] ∧ K0.length ≤ b := by
   simp only [List.mem_cons, List.not_mem_nil, or_false] at hz
   rcases hz with rfl | rfl | rfl | rfl | rfl | rfl | rfl | rfl <;> simp only [List.mem_cons, List.not_mem_nil, or_false] at hb <;> first | exact hb.elim | exact ⟨rfl, by omega⟩
  rw [hn.1, List.getElem?_eq_none hn.2]
  simp
 repeat (rw [DC_p]; simp (maxSteps := 2000000) (disch := omega) only [k0, b1, go_sem, seval, reduceCtorEq])
 refine WStep.call (by simp (maxSteps := 2000000) (disch := omega) only [go_sem, seval, reduceCtorEq]; exact bas) k1 (by omega) ?_
 have k1' := hkill [H.length + 2, H.length + 3, H.length + 4, H.length + 5, H.length + 6, H.length + 7, H.length + 8]
 try simp (maxSteps := 2000000) (disch := omega) only [go_sem, seval, reduceCtorEq]
 have kk1 : (kill [H.length + 2, H.length + 3, H.length + 4, H.length + 5, H.length + 6, H.length + 7, H.length + 8] K1)[H.length]? = some (.cells [sv f.name, wv f.key, usv f.uses, tv f.types, obv f.objs]) := killed p1 (by simp only [List.mem_cons, List.not_mem_nil, or_false]; omega)
 repeat (rw [DC_p]; simp (maxSteps := 2000000) (disch := omega) only [kk1, go_sem, seval, reduceCtorEq])
 refine WStep.ev (fun _ _ e => by cases e) (fun _ _ e => by cases e) ?_
 try simp (maxSteps := 2000000) (disch := omega) only [go_sem, seval, reduceCtorEq]
 refine ⟨FrOk.app (u := []) (fun k hk => by simp at hk; simp [hk, l1]) (by simp), (show DC Try.prog _ _ _ (K1 ++ [ABlk.cells (xC f (H.length + 8) [] 7 0)]) _ from ?_)⟩
 rw [hK2]
 repeat (rw [DC_p]; simp (maxSteps := 2000000) (disch := omega) only [l1, go_sem, seval, reduceCtorEq])
 have l2 : K2.length = H.length + 10 := by rw [← hK2]; simp [l1]
 have q1 : K2[H.length]? = some (.cells [sv f.name, wv f.key, usv f.uses, tv f.types, obv f.objs]) := by rw [← hK2]; exact hold p1 _
 have hu9 : f.uses.length ≤ 9000000 := by have := hF.us; omega
 have kn1 := hkill [H.length + 10] K2 fun b hb => by simp only [List.mem_cons, List.not_mem_nil, or_false] at hb; omega
 refine W.split ?_
 simp (maxSteps := 2000000) (disch := omega) only [go_sem, seval, reduceCtorEq]
 refine W.dregD [([], [H.length + 10]), ([], [H.length + 10]), ([], [H.length + 10]), ([], [H.length + 10]), ([], [H.length + 10]), ([], [H.length + 10]), ([], [H.length + 10]), ([], [H.length + 10]), ([H.length + 10], []), ([H.length + 10], [])] follows (by decide +kernel) rfl rfl (fun z hz b hb => ?_) ?_
 ·have hn : z.2 = [] ∧ K2.length ≤ b := by
   simp only [List.mem_cons, List.not_mem_nil, or_false] at hz
   rcases hz with rfl | rfl | rfl | rfl | rfl | rfl | rfl | rfl | rfl | rfl <;> simp only [List.mem_cons, List.not_mem_nil, or_false] at hb <;> first | exact hb.elim | exact ⟨rfl, by omega⟩
  rw [hn.1, List.getElem?_eq_none hn.2]
  simp
 repeat (rw [DC_p]; simp (maxSteps := 2000000) (disch := omega) only [kn1, q1, go_sem, seval, reduceCtorEq])
 refine PCont.mk (uclone_c hu9 _) ?_
 simp (maxSteps := 2000000) (disch := omega) only [kn1, go_sem, seval, reduceCtorEq]
 repeat (rw [DC_p]; simp (maxSteps := 2000000) (disch := omega) only [go_sem, seval, reduceCtorEq])
 refine WStep.ev (fun _ _ e => by cases e) (fun _ _ e => by cases e) ?_
 try simp (maxSteps := 2000000) (disch := omega) only [l2, go_sem, seval, reduceCtorEq]
 refine ⟨FrOk.app (u := []) (fun k hk => by simp at hk; simp [hk, l2]) (by simp), ?_⟩
 have sl : ∀ k k', (K2 ++ [k]).set (H.length + 10) k' = K2 ++ [k'] := fun k k' => by rw [← l2, List.set_append_right _ _ (Nat.le_refl _), Nat.sub_self]; rfl
 have gl : ∀ k, (K2 ++ [k])[H.length + 10]? = some k := fun k => by rw [← l2, List.getElem?_concat_length]
 try simp (maxSteps := 2000000) (disch := omega) only [go_sem, seval, reduceCtorEq]
 repeat (rw [DC_p]; simp (maxSteps := 2000000) (disch := omega) only [go_sem, seval, reduceCtorEq])
 refine WStep.ev (fun _ _ e => by cases e) (fun _ _ e => by cases e) ?_
 try simp (maxSteps := 2000000) (disch := omega) only [gl, sl, go_sem, seval, reduceCtorEq]
 refine ⟨by have := FrOk.set (w := [H.length + 10]) (H := K2 ++ [ABlk.cells zeA]) (b := H.length + 10) (x := .cells [sv f.name, wv f.key, usv f.uses, .esl, .esl]) (by simp); rwa [sl] at this, ?_⟩
 obtain ⟨K3, hK3⟩ : ∃ K3, K2 ++ [ABlk.cells [sv f.name, wv f.key, usv f.uses, .esl, .esl]] = K3 := ⟨_, rfl⟩
 rw [hK3]
 have l3 : K3.length = H.length + 11 := by rw [← hK3]; simp [l2]
 have lo2 : ∀ c, c < K1.length → K2[c]? = K1[c]? := fun c hc => by rw [← hK2, List.getElem?_append_left hc]
 have lo3 : ∀ c, c < K2.length → K3[c]? = K2[c]? := fun c hc => by rw [← hK3, List.getElem?_append_left hc]
 have u3 : K3[H.length + 10]? = some (.cells [sv f.name, wv f.key, usv f.uses, .esl, .esl]) := by rw [← hK3]; exact gl _
 have x3 : K3[H.length + 9]? = some (.cells (xC f (H.length + 8) [] 7 0)) := by
  rw [lo3 _ (by omega), ← hK2, ← l1, List.getElem?_concat_length]
 have o3 : K3[H.length + 8]? = some (.cells (tyC (basicL.map some))) := by rw [lo3 _ (by omega), lo2 _ (by omega)]; exact p2
 have r3 : K3[H.length]? = some (.cells [sv f.name, wv f.key, usv f.uses, tv f.types, obv f.objs]) := (lo3 _ (by omega)).trans q1
 have z3 : K3[H.length + 1]? = some (.cells zeA) := by rw [lo3 _ (by omega), lo2 _ (by omega), lo1 _ (by omega)]; exact b2
 have hpre3 : ∀ c, c < H.length → K3[c]? = H[c]? := fun c hc => by
  rw [lo3 _ (by omega), lo2 _ (by omega), lo1 _ (by omega), ← hK0, List.getElem?_append_left hc]
 obtain ⟨S3, hS3⟩ : ∃ S3 : List AV, S3 = [.any, .ptr H.length 0, .ptr (H.length + 1) 0, iv 0, .ptr (H.length + 9) 0, .ptr (H.length + 10) 0] ++ List.replicate 50 .any := ⟨_, rfl⟩
 refine W.weak (s0 := S3) (Wk.slots (by rw [hS3]; exact WkL.tail 6 _ rfl (by simp only [List.take_succ_cons, List.take_zero]; repeat' first | exact WkL.nil | refine WkL.cons (Wk1.rfl _) ?_ | refine WkL.cons Wk1.esl ?_ | refine WkL.cons (Wk1.gsl _ _ _) ?_ | refine WkL.cons (Wk1.any _) ?_))) ?_
 refine W.split ?_
 simp (maxSteps := 2000000) (disch := omega) only [hS3, r3, List.length_map, go_sem, seval, reduceCtorEq]
 obtain ⟨S, hS⟩ : ∃ S : TG → List AV, ∀ g, S g = [.any, .ptr H.length 0, .ptr (H.length + 1) 0, iv 0, .ptr (H.length + 9) 0, .ptr (H.length + 10) 0, .any, .any, .any, .any, .any, .any, .any, .any, .any, .any, .any, .any, .any, .any, .any, .any, .any, .any, .any, .any, .any, .any, obv f.objs, iv f.objs.length, iv g.i] ++ List.replicate 25 .any := ⟨_, fun _ => rfl⟩
 have t0 : TI f os (ordF f) K3 (H.length + 9) (H.length + 10) (H.length + 8) ⟨0, K3, H.length + 8, 0⟩ := by
  refine ⟨Nat.zero_le _, ?_, u3, fun h => absurd h (Nat.lt_irrefl _), Nat.le_refl _, fun _ _ _ _ _ => rfl, by show H.length + 10 ≠ H.length + 8; omega, .inl rfl⟩
  show TS f _ K3 _ (os 0) _
  rw [os0, news_self, List.map_nil, List.append_nil]
  exact ⟨x3, o3, rfl, by show H.length + 9 ≠ H.length + 8; omega⟩
 refine W.loopG (γ := TG) (fun g => f.objs.length - g.i) S (fun g => g.H) (TI f os (ordF f) K3 (H.length + 9) (H.length + 10) (H.length + 8)) ⟨0, K3, H.length + 8, 0⟩ (Wk.slots (by rw [hS]; exact WkL.tail 31 _ rfl (by simp only [List.take_succ_cons, List.take_zero]; repeat' first | exact WkL.nil | refine WkL.cons (Wk1.rfl _) ?_ | refine WkL.cons Wk1.esl ?_ | refine WkL.cons (Wk1.gsl _ _ _) ?_ | refine WkL.cons (Wk1.any _) ?_))) t0 (fun g hg => ?_)
 obtain ⟨i, G, ob, gb⟩ := g
 obtain ⟨hi, hts, hub, hgb, hlen, hout, hno, hob⟩ := hg
 simp only at hi hts hub hgb hlen hout hno hob
 by_cases hi3 : i < f.objs.length
 ·have hia := iaA_ob (t := f.objs) (a := i) (by omega) (by omega)
  have hvi := (hos i hi3).1
  rw [typ_at Ob.typ hi3] at hvi
  have hx : obAt f.objs i = f.objs[i]'hi3 := by
   rw [obAt, show ((i : Nat) : Int).toNat = i from rfl, List.getD_eq_getElem?_getD, List.getElem?_eq_getElem hi3]; rfl
  have hxm : f.objs[i] ∈ f.objs := List.getElem_mem _
  rw [hx] at hia
  obtain ⟨x, hxx⟩ : ∃ x, x = f.objs[i] := ⟨_, rfl⟩
  rw [← hxx] at hia hvi
  obtain ⟨P, hP⟩ : ∃ P, G ++ [ABlk.cells x.cs] = P := ⟨_, rfl⟩
  have tsP : TS f (H.length + 9) P ob (os i) (basicL.map some ++ (news f.name f.types [] (os i)).map some) := by rw [← hP]; exact hts.app _
  obtain ⟨A, ob', v1, v2, v3, v4⟩ := hvi P _ _ _ tsP
  obtain ⟨p, hp⟩ : ∃ p, pl (os (i + 1)) x.typ = p := ⟨_, rfl⟩
  have hp2 : p = pl (ordF f) x.typ := by
   rw [← hp]
   refine (pl_pre (hop (i + 1) hi3) ((hos i hi3).2.mem _ ?_)).symm
   rw [typ_at Ob.typ hi3, hxx]; exact List.mem_cons_self
  rw [hp] at v1
  have lP : P.length = G.length + 1 := by rw [← hP]; simp
  have hvl := v3.len
  have obl := hts.ob_lt
  have obl2 := v2.ob_lt
  have tA : A[G.length]? = some (.cells x.cs) := by
   rw [v3.out _ (by omega) (by omega) (by omega), ← hP, List.getElem?_concat_length]
  have uA : A[H.length + 10]? = some (.cells [sv f.name, wv f.key, usv f.uses, .esl, obA f (ordF f) gb i]) := by
   rw [v3.out _ (by omega) (by omega) (by omega), ← hP]; exact hold hub _
  have gA : 0 < i → A[gb]? = some (.row 34 7 i) := fun h => by
   obtain ⟨g1, g2, g3⟩ := hgb h
   have hgl := (List.getElem?_eq_some_iff.1 g1).1
   rw [v3.out _ (by omega) (by omega) g3, ← hP]; exact hold g1 _
  have kA0 : ∀ b, b < K3.length → b ≠ H.length + 9 → b ≠ H.length + 8 → b ≠ H.length + 10 → A[b]? = K3[b]? := fun b hb h1 h2 h3 => by
   rw [v3.out _ (by omega) h1 (by omega), ← hP, List.getElem?_append_left (by omega)]
   exact hout b hb h1 h2 h3
  have hnw : (basicL.map some ++ (news f.name f.types [] (os i)).map some) ++ (news f.name f.types (os i) (os (i + 1))).map some = basicL.map some ++ (news f.name f.types [] (os (i + 1))).map some := by
   rw [List.append_assoc, ← List.map_append, news_app ((hov i (by omega)).nodup List.nodup_nil) (hov i (by omega)) (hos i hi3).2.pre]
  rw [hnw] at v2
  obtain ⟨B, hB⟩ : ∃ B, A.set G.length (ABlk.cells [iv x.cls, sv x.name, iv p, iv x.val.form, iv x.val.n, sv x.val.text, iv x.n]) = B := ⟨_, rfl⟩
  have lB : B.length = A.length := by rw [← hB, List.length_set]
  have tB : B[G.length]? = some (ABlk.cells [iv x.cls, sv x.name, iv p, iv x.val.form, iv x.val.n, sv x.val.text, iv x.n]) := by rw [← hB, List.getElem?_set_self (by omega)]
  have oB : ∀ b, b ≠ G.length → B[b]? = A[b]? := fun b hb => by rw [← hB, List.getElem?_set_ne (by omega)]
  have uB := (oB _ (by omega)).trans uA
  have mx : maxLen = 9223372036854775807 := mx_eq
  have x'c : (trimO (ordF f) x).c = [.v (.int .i64 x.cls), .v (.string x.name), .v (.int .i64 p), .v (.int .i64 x.val.form), .v (.int .i64 x.val.n), .v (.string x.val.text), .v (.int .i64 x.n)] := by rw [hp2]; rfl
  have tP : P[G.length]? = some (.cells x.cs) := by rw [← hP, List.getElem?_concat_length]
  simp only [Ob.cs] at hP tA tP
  have tsB : TS f (H.length + 9) B ob' (os (i + 1)) (basicL.map some ++ (news f.name f.types [] (os (i + 1))).map some) := v2.ext (oB _ (by omega)) (oB _ (by omega))
  simp (maxSteps := 2000000) (disch := omega) only [hS, c23l0, hia, Ob.c, hP, tP, go_sem, seval, reduceCtorEq]
  refine Cont.mk v1 ?_
  cases i with
  | zero =>
   obtain ⟨D, hD⟩ : ∃ D, (B ++ [ABlk.row 34 7 1]).set (H.length + 10) (ABlk.cells [sv f.name, wv f.key, usv f.uses, .esl, .gsl B.length 7 [(trimO (ordF f) x).c]]) = D := ⟨_, rfl⟩
   have uB' : (B ++ [ABlk.row 34 7 1])[H.length + 10]? = some (.cells [sv f.name, wv f.key, usv f.uses, .esl, .esl]) := hold uB _
   rw [x'c] at hD
   simp (maxSteps := 2000000) (disch := omega) only [tA, hB, tB, uB, obA, uB', hD, go_sem, seval, reduceCtorEq]
   refine Nxt.mk ⟨1, D, ob', B.length⟩ (by show f.objs.length - 1 < f.objs.length; omega) (Wk.slots (by rw [hS]; exact WkL.tail 31 _ rfl (by simp only [List.take_succ_cons, List.take_zero]; repeat' first | exact WkL.nil | refine WkL.cons (Wk1.rfl _) ?_ | refine WkL.cons Wk1.esl ?_ | refine WkL.cons (Wk1.gsl _ _ _) ?_ | refine WkL.cons (Wk1.any _) ?_))) ⟨hi3, ?_, ?_, fun _ => ⟨?_, ?_, ?_⟩, ?_, fun b hb h1 h2 h3 => ?_, ?_, ?_⟩
   ·show TS f _ D _ _ _
    rw [← hD]
    exact (tsB.app _).set (by omega) (by omega) _
   ·show D[H.length + 10]? = _
    rw [← hD, List.getElem?_set_self (by rw [List.length_append]; omega), obA, List.take_succ_eq_append_getElem hi3, ← x'c, hxx]
    rfl
   ·show D[B.length]? = _
    rw [← hD, List.getElem?_set_ne (by omega), List.getElem?_concat_length]
   ·show K3.length ≤ B.length; omega
   ·show B.length ≠ ob'; omega
   ·show K3.length ≤ D.length
    rw [← hD, List.length_set, List.length_append]; omega
   ·show D[b]? = _
    rw [← hD, List.getElem?_set_ne (by omega), List.getElem?_append_left (by omega), oB _ (by omega)]
    exact kA0 b hb h1 h2 h3
   ·show H.length + 10 ≠ ob'; omega
   ·show ob' = _ ∨ K3.length ≤ ob'; omega
  | succ j =>
   have hgg := hgb (by omega)
   have hgl := (List.getElem?_eq_some_iff.1 hgg.1).1
   have gB := (oB gb (by omega)).trans (gA (by omega))
   obtain ⟨es, hes⟩ : ∃ es, ((f.objs.take (j + 1)).map (trimO (ordF f))).map Ob.c = es := ⟨_, rfl⟩
   have les : es.length = j + 1 := by rw [← hes]; simp; omega
   obtain ⟨C, hC⟩ : ∃ C, B.set gb (ABlk.row 34 7 (j + 2)) = C := ⟨_, rfl⟩
   have uC : C[H.length + 10]? = some (.cells [sv f.name, wv f.key, usv f.uses, .esl, .gsl gb 7 es]) := by
    rw [← hC, List.getElem?_set_ne (by have := hgb (by omega); omega), uB, obA, hes]
   obtain ⟨D, hD⟩ : ∃ D, C.set (H.length + 10) (ABlk.cells [sv f.name, wv f.key, usv f.uses, .esl, .gsl gb 7 (es ++ [(trimO (ordF f) x).c])]) = D := ⟨_, rfl⟩
   rw [x'c] at hD
   rw [obA, hes] at uB
   simp (maxSteps := 2000000) (disch := omega) only [tA, hB, tB, uB, gB, les, hC, uC, hD, go_sem, seval, reduceCtorEq]
   have lC : C.length = B.length := by rw [← hC, List.length_set]
   refine Nxt.mk ⟨j + 2, D, ob', gb⟩ (by show f.objs.length - (j + 2) < f.objs.length - (j + 1); omega) (Wk.slots (by rw [hS]; exact WkL.tail 31 _ rfl (by simp only [List.take_succ_cons, List.take_zero]; repeat' first | exact WkL.nil | refine WkL.cons (Wk1.rfl _) ?_ | refine WkL.cons Wk1.esl ?_ | refine WkL.cons (Wk1.gsl _ _ _) ?_ | refine WkL.cons (Wk1.any _) ?_))) ⟨hi3, ?_, ?_, fun _ => ⟨?_, hgg.2.1, ?_⟩, ?_, fun b hb h1 h2 h3 => ?_, ?_, ?_⟩
   ·show TS f _ D _ _ _
    rw [← hD, ← hC]
    exact (tsB.set (by omega) (by omega) _).set (by omega) (by omega) _
   ·show D[H.length + 10]? = _
    rw [← hD, List.getElem?_set_self (by omega), obA, List.take_succ_eq_append_getElem hi3, List.map_append, List.map_append, hes, ← x'c, hxx]
    rfl
   ·show D[gb]? = _
    rw [← hD, List.getElem?_set_ne (by omega), ← hC, List.getElem?_set_self (by omega)]
   ·show gb ≠ ob'; omega
   ·show K3.length ≤ D.length
    rw [← hD, List.length_set]; omega
   ·show D[b]? = _
    rw [← hD, List.getElem?_set_ne (by omega), ← hC, List.getElem?_set_ne (by omega), oB _ (by omega)]
    exact kA0 b hb h1 h2 h3
   ·show H.length + 10 ≠ ob'; omega
   ·show ob' = _ ∨ K3.length ≤ ob'; omega
 ·have hin : i = f.objs.length := by omega
  subst hin
  simp (maxSteps := 2000000) (disch := omega) only [hS, c23l0, go_sem, seval, reduceCtorEq]
  rw [osn, ← List.map_append, ← newT_news] at hts
  have tx := hts.x
  have tt := hts.t
  have obl := hts.ob_lt
  rw [List.length_map] at tx
  obtain ⟨G1, hG1⟩ : ∃ G1, G.set (H.length + 10) (ABlk.cells [sv f.name, wv f.key, usv f.uses, .hsl ob 0 (newT f.name f.types (ordF f)).length (newT f.name f.types (ordF f)).length 10, obA f (ordF f) gb f.objs.length]) = G1 := ⟨_, rfl⟩
  have lG1 : G1.length = G.length := by rw [← hG1, List.length_set]
  have uG1 : G1[H.length + 10]? = some (ABlk.cells [sv f.name, wv f.key, usv f.uses, .hsl ob 0 (newT f.name f.types (ordF f)).length (newT f.name f.types (ordF f)).length 10, obA f (ordF f) gb f.objs.length]) := by rw [← hG1, List.getElem?_set_self (by omega)]
  have oG1 : G1[ob]? = some (.cells (tyC ((newT f.name f.types (ordF f)).map some))) := by rw [← hG1, List.getElem?_set_ne (by omega)]; exact tt
  obtain ⟨F6, hF6⟩ : ∃ F6, (G1.set ob .dead).set (H.length + 10) (.cells (trimF f (ordF f)).cs) = F6 := ⟨_, rfl⟩
  have lF6 : F6.length = G.length := by rw [← hF6]; simp [lG1]
  have fz := trim_fz (gb := gb) oG1
  have wkF : ∀ s, Wk H.length s G1 s F6 := fun s => Wk.freeze (fun c => c = ob) (FzL.rfl s) ⟨by omega, fun b hb => ⟨by omega, fun k hk => by
   rw [hb, ← hF6, List.getElem?_set_ne (by omega), List.getElem?_set_self (by omega)] at hk
   exact (Option.some.inj hk).symm⟩, fun b k hb hk => by
   rw [← hF6] at hk
   by_cases e : b = H.length + 10
   ·subst e
    rw [List.getElem?_set_self (by simp only [List.length_set]; omega)] at hk
    exact .inr ⟨_, _, uG1, (Option.some.inj hk).symm, fz⟩
   ·rw [List.getElem?_set_ne (by omega), List.getElem?_set_ne (by omega)] at hk
    exact .inl hk⟩
  have o6 : ∀ b, b < K3.length → b ≠ H.length + 9 → b ≠ H.length + 8 → b ≠ H.length + 10 → F6[b]? = K3[b]? := fun b hb h1 h2 h3 => by
   rw [← hF6, List.getElem?_set_ne (by omega), List.getElem?_set_ne (by omega), ← hG1, List.getElem?_set_ne (by omega)]
   exact hout b hb h1 h2 h3
  have z6 := (o6 (H.length + 1) (by omega) (by omega) (by omega) (by omega)).trans z3
  have u6 : F6[H.length + 10]? = some (.cells (trimF f (ordF f)).cs) := by rw [← hF6, List.getElem?_set_self (by simp only [List.length_set]; omega)]
  refine W.split ?_
  simp (maxSteps := 2000000) (disch := omega) only [tx, xC_len, xC_out, hub, hG1, go_sem, seval, reduceCtorEq]
  refine W.weak (wkF _) ?_
  simp only [Fc.cs, trimF] at u6
  refine W.split ?_
  simp (maxSteps := 2000000) (disch := omega) only [u6, go_sem, seval, reduceCtorEq]
  have hord := hF.ord hvis
  have h256 := hgd.len.2
  refine Cont.mk (igood16_c (fin_trim hord h256 hs hf) (small_trim hord h256 hs) _) ?_
  have pre : ∀ k : ABlk, H <+: F6.set (H.length + 1) k := fun k => pre_out fun c hc => by
   rw [List.getElem?_set_ne (by omega), o6 c (by omega) (by omega) (by omega) (by omega)]
   exact hpre3 c hc
  by_cases hFc : FaceP (trimF f (ordF f))
  ·rw [cdec_t hFc]
   simp (maxSteps := 2000000) (disch := omega) only [go_sem, seval, reduceCtorEq]
   refine W.split ?_
   simp (maxSteps := 2000000) (disch := omega) only [u6, z6, go_sem, seval, reduceCtorEq]
   have s6 : ∀ k : ABlk, (F6.set (H.length + 1) k)[H.length + 1]? = some k := fun k => List.getElem?_set_self (by omega)
   refine wpA.W ?_
   simp (maxSteps := 2000000) (disch := omega) only [s6, go_sem, seval, reduceCtorEq]
   refine Ret.pre (.tup [(trimF f (ordF f)).av, iv 0]) H (pre _) (Nat.le_refl _) hcl (.rfl _) (by simp [refs, refs.refsL, Fc.cs]) ?_
   rw [TrR, trimV_ok hF hFc]; exact ⟨rfl, rfl⟩
  ·rw [cdec_f hFc]
   have s6 : ∀ k : ABlk, (F6.set (H.length + 1) k)[H.length + 1]? = some k := fun k => List.getElem?_set_self (by omega)
   simp (maxSteps := 2000000) (disch := omega) only [z6, s6, go_sem, seval, reduceCtorEq]
   refine Ret.pre (.tup [zeF.av, iv 160]) H (pre _) (Nat.le_refl _) hcl ze_wk (by simp [refs, refs.refsL, Fc.cs, zeF]) ?_
   rw [TrR, trimV_many hF hFc]; exact ⟨rfl, rfl⟩
theorem iTrim_c {f : Fc} (hf : FIn f) (hs : Small f.types) (H : List ABlk) : ACalls Try.prog 23 [f.av] H fun v H' => v = .tup [(trimV f).1.av, iv (trimV f).2] ∧ H' = H := by
 by_cases h : FrameP f
 ·exact iTrim_yes hf hs h H
 ·exact iTrim_no hf hs h H
theorem trimV_cases (f : Fc) : (FrameP f ∧ ownN f (ordF f) ≤ 64 ∧ trimV f = (trimF f (ordF f), 0)) ∨ trimV f = (zeF, 160) := by
 by_cases h : FrameP f ∧ ownN f (ordF f) ≤ 64
 ·exact .inl ⟨h.1, h.2, by rw [trimV, if_pos h]⟩
 ·exact .inr (by rw [trimV, if_neg h])
end Go.Proofs.Ythifjndenhjobaa
