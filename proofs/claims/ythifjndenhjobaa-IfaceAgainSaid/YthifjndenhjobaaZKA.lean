/- Plain law: what was trimmed is not larger, fits, and is trimmed to itself. -/
import Derived.Test.YthifjndenhjobaaZJA
import Derived.Test.YthifjndenhjobaaZII
import Derived.Test.YthifjndenhjobaaZEvW
namespace Go.Proofs.Ythifjndenhjobaa
set_option linter.unusedSimpArgs false
set_option linter.unusedVariables false
open Go.RowKit

theorem sum_cons_perm {l : List Int} {a : Int} (g : Int → Nat) (h : a ∈ l) : (l.map g).sum = g a + ((l.erase a).map g).sum := by
 induction l with
 | nil => cases h
 | cons b l ih =>
  by_cases e : b = a
  ·subst e; rw [List.erase_cons_head]; simp
  ·have hb : (b == a) = false := by simpa using e
   rw [List.erase_cons_tail (by rw [hb]; simp)]
   have h' : a ∈ l := by
    rcases List.mem_cons.1 h with h | h
    ·exact absurd h.symm e
    ·exact h
   simp only [List.map_cons, List.sum_cons]
   rw [ih h']; omega
theorem sum_sub {t : List Ty} : ∀ (n : Nat) (o : List Int), n ≤ t.length → o.Nodup → (∀ a ∈ o, 0 ≤ a ∧ a < n) → (o.map fun a => tyW (tyAt t a)).sum ≤ sumW (t.take n)
 | 0, o, _, _, h => by
  cases o with
  | nil => simp
  | cons a o => have := h a List.mem_cons_self; omega
 | n + 1, o, hn, hd, h => by
  rw [sumW_take hn]
  by_cases hm : (n : Int) ∈ o
  ·rw [sum_cons_perm _ hm]
   have := sum_sub (t := t) n (o.erase n) (by omega) (hd.erase _) fun a ha => by
    have h1 := h a (List.mem_of_mem_erase ha)
    have h2 : a ≠ n := fun e => by rw [e] at ha; exact (hd.not_mem_erase) ha
    omega
   have e : tyW (tyAt t (n : Int)) = tyW (t.getD n default) := rfl
   omega
  ·have := sum_sub (t := t) n o (by omega) hd fun a ha => by
    have h1 := h a ha
    have h2 : a ≠ n := fun e => hm (e ▸ ha)
    omega
   omega
theorem sumW_map {α : Type} (g : α → Ty) (l : List α) : sumW (l.map g) = (l.map fun a => tyW (g a)).sum := by
 induction l with
 | nil => rfl
 | cons a l ih => simp only [List.map_cons, sumW, List.sum_cons, ih]
section
variable {f : Fc} {o : List Int} (ho : Ord f.types o)
include ho
theorem sum_trim : sumW (newT f.name f.types o) ≤ sumW f.types := by
 have h1 : sumW basicL = 0 := by decide +kernel
 have h2 : (List.range o.length).map (fun k => tyW (ntF f.name f.types o k)) = o.map fun a => tyW (tyAt f.types a) := by
  refine List.ext_getElem (by simp) fun i h1 h2 => ?_
  rw [List.getElem_map, List.getElem_map, List.getElem_range]
  have hi : i < o.length := by simpa using h2
  have e : o.getD i 0 = o[i] := by rw [List.getD_eq_getElem?_getD, List.getElem?_eq_getElem hi]; rfl
  simp only [ntF, e, tyW, trnT, List.length_map]
 rw [newT, sumW_app, h1, sumW_map, h2]
 have := sum_sub (t := f.types) f.types.length o (Nat.le_refl _) ho.nd fun a ha => by have := ho.rng a ha; omega
 rw [List.take_length] at this
 omega
theorem less_trim (hl : Less f) (h256 : f.types.length ≤ 256) : Less (trimF f o) := by
 have h1 := nodup_len ho.nd ho.rng
 refine ⟨hl.us, by simp only [trimF, List.length_map]; exact hl.os, hl.nm, ⟨?_, ?_⟩, fun i hi => ?_, hl.un⟩
 ·show (newT f.name f.types o).length ≤ 300
  rw [newT_len]; omega
 ·have := sum_trim ho
  have h2 := hl.ty.2
  show sumW (newT f.name f.types o) ≤ 3000
  omega
 ·have hi' : i < f.objs.length := by simpa [trimF] using hi
  have := hl.ob i hi'
  show ((f.objs.map (trimO o)).getD i default).name.size ≤ 500 ∧ ((f.objs.map (trimO o)).getD i default).val.text.size ≤ 500
  rw [List.getD_eq_getElem?_getD, List.getElem?_map, List.getElem?_eq_getElem hi']
  rw [List.getD_eq_getElem?_getD, List.getElem?_eq_getElem hi'] at this
  exact this
theorem pl_J (h256 : f.types.length ≤ 256) {k : Int} (h : J64 k) : J64 (pl o k) := by
 have := nodup_len ho.nd ho.rng
 have := List.idxOf_le_length (a := k) (l := o)
 unfold J64 at h ⊢
 rw [pl]
 split <;> omega
theorem ffit_trim (h256 : f.types.length ≤ 256) (hf : FFit f) : FFit (trimF f o) := by
 refine ⟨hf.us, fun x hx => ?_, newT_all (fun i hi => ?_) fun k hk => ?_⟩
 ·obtain ⟨y, hy, rfl⟩ := List.mem_map.1 (show x ∈ f.objs.map (trimO o) from hx)
  have h := hf.os y hy
  exact ⟨h.a0, h.a1, pl_J ho h256 h.a2, h.a3, h.a4, h.a5, h.a6⟩
 ·exact ⟨by rw [(bt_small i).1]; simp, by rw [(bt_small i).2.1]; simp, (fun f hf => by rw [(bt_small i).1] at hf; cases hf), (fun p hp => by rw [(bt_small i).2.1] at hp; cases hp)⟩
 ·have h := hf.ts _ (ho.at_mem hk)
  refine ⟨?_, ?_, fun g hg => ?_, fun p hp => ?_⟩
  ·simp only [ntF, trnT, List.length_map]; exact h.1
  ·simp only [ntF, trnT, List.length_map]; exact h.2
  ·simp only [ntF, trnT] at hg
   obtain ⟨z, hz, rfl⟩ := List.mem_map.1 hg
   have hz := h.ff z hz
   exact ⟨hz.a0, hz.a1, pl_J ho h256 hz.a2⟩
  ·simp only [ntF, trnT] at hp
   obtain ⟨z, hz, rfl⟩ := List.mem_map.1 hp
   have hz := h.fp z hz
   exact ⟨hz.a0, pl_J ho h256 hz.a1⟩
end
theorem trimV_again {f : Fc} (hf : FrameP f) (hc : ownN f (ordF f) ≤ 64) : FaceP (trimF f (ordF f)) ∧ trimV (trimF f (ordF f)) = (trimF f (ordF f), 0) := by
 have hv := ordF_vis hf
 have h1 := hf.trim hv hc
 have h2 := h1.frame
 have hv2 := ordF_vis h2
 obtain ⟨a1, a2⟩ := hf.again hv hc hv2
 refine ⟨h1, ?_⟩
 rw [trimV, if_pos ⟨h2, a2⟩, a1]
end Go.Proofs.Ythifjndenhjobaa

/- IfaceAgain. -/
namespace Go.Proofs.Ythifjndenhjobaa
set_option linter.unusedSimpArgs false
set_option linter.unusedVariables false
set_option maxRecDepth 20000
set_option maxHeartbeats 4000000
open Go.RowKit

theorem IfaceAgain_c {f : Fc} (hf : FIn f) (gf : FFit f) (H : List ABlk) : ACalls Try.prog 8 [f.av] H fun v H' => v = bv true ∧ H' = H := by
 refine ACalls.into Try.func8 cc8 rr8 fun hcl => ?_
 have out : ∀ {b : Bool} {G : List ABlk}, H <+: G → b = true → Ret r8 H.length (fun v H' => v = bv true ∧ H' = H) (some (bv b)) G := fun {b G} hG h =>
  Ret.pre _ H hG (Nat.le_refl _) hcl (.rfl _) (by simp [refs]) ⟨by rw [h], rfl⟩
 simp (maxSteps := 2000000) (disch := omega) only [Try.ntmps8, c8, r8, Fc.cs, method_specs_simp, seval, reduceCtorEq]
 refine Cont.rel (large16_c hf _) ?_
 rintro v H' ⟨⟨B, rfl, hB⟩, rfl⟩
 cases hBv : B with
 | true =>
  simp (maxSteps := 2000000) (disch := omega) only [method_specs_simp, seval, reduceCtorEq]
  refine Cont.mk (wakes16_c _) ?_
  simp (maxSteps := 2000000) (disch := omega) only [method_specs_simp, seval, reduceCtorEq]
  exact out (List.prefix_append _ _) rfl
 | false =>
  have hL := hB.1 hBv
  obtain ⟨hs, hu, ho⟩ := hL.sm
  simp (maxSteps := 2000000) (disch := omega) only [method_specs_simp, seval, reduceCtorEq]
  refine Cont.mk (copy16_c hs hu ho _) ?_
  simp (maxSteps := 2000000) (disch := omega) only [method_specs_simp, seval, reduceCtorEq]
  refine Cont.mk (iTrim_c hf hs _) ?_
  rcases trimV_cases f with ⟨hF, hc, h3⟩ | h3
  rotate_left
  ·rw [h3]
   simp (maxSteps := 2000000) (disch := omega) only [Fc.cs, zeF, List.length_nil, List.map_nil, method_specs_simp, seval, reduceCtorEq]
   refine Cont.mk (wakes16_c _) ?_
   simp (maxSteps := 2000000) (disch := omega) only [method_specs_simp, seval, reduceCtorEq]
   exact out (List.prefix_append _ _) rfl
  rw [h3]
  obtain ⟨hT, hA⟩ := trimV_again hF hc
  have hv := ordF_vis hF
  have hord := hF.ord hv
  have h256 := hF.ty.len.2
  have hsT : Small (trimF f (ordF f)).types := small_trim hord h256 hs
  have hfT := fin_trim hord h256 hs hf
  have gfT := ffit_trim hord h256 gf
  have hLT := less_trim hord hL h256
  have hnT : (trimF f (ordF f)).types.length ≤ f.types.length := by
   show (newT _ _ _).length ≤ _
   rw [newT_len]; have := nodup_len hord.nd hord.rng; have := hF.ty.len.1; omega
  have hoT : (trimF f (ordF f)).objs.length = f.objs.length := by simp [trimF]
  have hobT : ∀ i, i < f.objs.length → (trimF f (ordF f)).objs.getD i default = trimO (ordF f) (f.objs.getD i default) := fun i hi => by
   show (f.objs.map (trimO (ordF f))).getD i default = _
   rw [List.getD_eq_getElem?_getD, List.getD_eq_getElem?_getD, List.getElem?_map, List.getElem?_eq_getElem hi]; rfl
  have hfm : ∀ x ∈ f.objs, (0 ≤ (trimO (ordF f) x).typ ∧ (trimO (ordF f) x).typ < (trimF f (ordF f)).types.length) ∧ (tyAt (trimF f (ordF f)).types (trimO (ordF f) x).typ).form = (tyAt f.types x.typ).form := fun x hx => by
   obtain ⟨q1, q2⟩ := hF.typ hv hx
   exact ⟨Ord.pl_rng hF.ty hord q1 q2, Ord.form hF.ty hord q1 q2⟩
  obtain ⟨T, hTe⟩ : ∃ T, trimF f (ordF f) = T := ⟨_, rfl⟩
  rw [hTe] at hT hA hsT hfT gfT hLT hnT hoT hobT hfm ⊢
  obtain ⟨hs2, hu2, ho2⟩ := hLT.sm
  simp (maxSteps := 2000000) (disch := omega) only [Fc.cs, method_specs_simp, seval, reduceCtorEq]
  refine Cont.rel (large16_c hfT _) ?_
  rintro v H'' ⟨⟨B2, rfl, hB2⟩, rfl⟩
  rw [hB2.2 hLT]
  simp (maxSteps := 2000000) (disch := omega) only [List.length_map, method_specs_simp, seval, reduceCtorEq]
  refine Cont.mk (copy16_c hs2 hu2 ho2 _) ?_
  simp (maxSteps := 2000000) (disch := omega) only [method_specs_simp, seval, reduceCtorEq]
  refine Cont.mk (iTrim_c hfT hsT _) ?_
  rw [hA]
  simp (maxSteps := 2000000) (disch := omega) only [Fc.cs, method_specs_simp, seval, reduceCtorEq]
  refine Cont.mk (copy16_c hs2 hu2 ho2 _) ?_
  simp (maxSteps := 2000000) (disch := omega) only [method_specs_simp, seval, reduceCtorEq]
  refine Cont.mk (igood16_c hfT hsT _) ?_
  rw [cdec_t hT]
  simp (maxSteps := 2000000) (disch := omega) only [method_specs_simp, seval, reduceCtorEq]
  refine Cont.mk (same_c hfT hfT gfT gfT _) ?_
  rw [cdec_t rfl]
  simp (maxSteps := 2000000) (disch := omega) only [method_specs_simp, seval, reduceCtorEq]
  have hob64 := hF.os
  have h7 := hF.ty.len.1
  obtain ⟨K, hK⟩ : ∃ K, H ++ [ABlk.cells [sv f.name, wv f.key, usv f.uses, tv f.types, obv f.objs], ABlk.cells [sv T.name, wv T.key, usv T.uses, tv T.types, obv T.objs], ABlk.cells [sv T.name, wv T.key, usv T.uses, tv T.types, obv T.objs]] = K := ⟨_, rfl⟩
  have k1 : K[H.length]? = some (ABlk.cells [sv f.name, wv f.key, usv f.uses, tv f.types, obv f.objs]) := by rw [← hK, List.getElem?_append_right (Nat.le_refl _), Nat.sub_self]; rfl
  have k2 : K[H.length + 1]? = some (ABlk.cells [sv T.name, wv T.key, usv T.uses, tv T.types, obv T.objs]) := by rw [← hK, List.getElem?_append_right (by omega), show H.length + 1 - H.length = 1 by omega]; rfl
  obtain ⟨S, hS⟩ : ∃ S : Nat → List AV, ∀ i, S i = [.any, .ptr H.length 0, .any, .ptr (H.length + 1) 0, .any, .any, .any, iv i] ++ List.replicate 143 .any := ⟨_, fun _ => rfl⟩
  refine W.loopG (γ := Nat) (fun i => f.objs.length - i) S (fun _ => K) (fun i => i ≤ f.objs.length) 0 (by rw [hK]; exact Wk.slots (by rw [hS]; exact WkL.tail 8 _ rfl (by simp only [List.take_succ_cons, List.take_zero]; repeat' first | exact WkL.nil | refine WkL.cons (Wk1.rfl _) ?_ | refine WkL.cons Wk1.esl ?_ | refine WkL.cons (Wk1.gsl _ _ _) ?_ | refine WkL.cons (Wk1.any _) ?_))) (Nat.zero_le _) (fun i hi => ?_)
  by_cases hi3 : i < f.objs.length
  ·have hia := iaA_ob (t := f.objs) (a := i) (by omega) (by omega)
   have hib := iaA_ob (t := T.objs) (a := i) (by omega) (by omega)
   rw [show obAt f.objs (i : Int) = f.objs.getD i default from rfl] at hia
   rw [show obAt T.objs (i : Int) = T.objs.getD i default from rfl, hobT i hi3] at hib
   have hm := obAt_mem hi3
   obtain ⟨q0, q1⟩ := hfm _ hm
   have qx := (hF.ob _ hm).2.1
   generalize hx : f.objs.getD i default = x at *
   have hic := iaA_ty (t := f.types) qx.1 qx.2
   have hid := iaA_ty (t := T.types) q0.1 q0.2
   obtain ⟨z, hz⟩ : ∃ z, trimO (ordF f) x = z := ⟨_, rfl⟩
   have z1 : z.name = x.name := by rw [← hz]; rfl
   have z2 : z.cls = x.cls := by rw [← hz]; rfl
   have z3 : z.n = x.n := by rw [← hz]; rfl
   rw [hz] at hib hid q1
   simp (maxSteps := 2000000) (disch := omega) only [hS, c8l0, k1, List.length_map, method_specs_simp, seval, reduceCtorEq]
   refine W.pchain follows (by decide +kernel) ?_
   simp (maxSteps := 2000000) (disch := omega) only [k1, k2, hia, hib, Ob.c, hic, hid, Ty.c, z1, z2, z3, q1, method_specs_simp, seval, reduceCtorEq]
   exact Nxt.mk (i + 1) (by omega) (Wk.slots (by rw [hS]; exact WkL.tail 8 _ rfl (by simp only [List.take_succ_cons, List.take_zero]; repeat' first | exact WkL.nil | refine WkL.cons (Wk1.rfl _) ?_ | refine WkL.cons Wk1.esl ?_ | refine WkL.cons (Wk1.gsl _ _ _) ?_ | refine WkL.cons (Wk1.any _) ?_))) (by omega)
  ·simp (maxSteps := 2000000) (disch := omega) only [hS, c8l0, k1, List.length_map, method_specs_simp, seval, reduceCtorEq]
   refine Cont.mk (wakes16_c _) ?_
   simp (maxSteps := 2000000) (disch := omega) only [method_specs_simp, seval, reduceCtorEq]
   exact out (by rw [← hK]; exact List.prefix_append _ _) rfl
end Go.Proofs.Ythifjndenhjobaa
