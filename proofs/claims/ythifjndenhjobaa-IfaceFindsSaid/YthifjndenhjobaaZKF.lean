/- IfaceFinds. -/
import Derived.Test.YthifjndenhjobaaZJA
import Derived.Test.YthifjndenhjobaaZID
import Derived.Test.YthifjndenhjobaaZIA
import Derived.Test.YthifjndenhjobaaZEvW
namespace Go.Proofs.Ythifjndenhjobaa
set_option linter.unusedSimpArgs false
set_option linter.unusedVariables false
set_option maxRecDepth 20000
set_option maxHeartbeats 4000000
open Go.RowKit

theorem find_d {f : Fc} (hl : f.objs.length ≤ 9000000) {s : ByteArray} {x : Ob} {b : Bool} (h : FindP f.objs s x b) (H : List ABlk) : ACalls Try.prog 17 [f.av, sv s] H fun v H' => v = .tup [x.av, bv b] ∧ H' = H :=
 (find_c hl s H).mono fun v H' ⟨⟨y, c, h1, h2⟩, h3⟩ => by
   obtain ⟨rfl, rfl⟩ := h2.det h
   exact ⟨h1, h3⟩
theorem find_own {l : List Ob} (hd : (l.map Ob.name).Nodup) {i : Nat} (hi : i < l.length) : FindP l (l.getD i default).name (l.getD i default) true := by
 refine ⟨fun _ => ⟨i, hi, rfl, rfl, fun j hj e => ?_⟩, fun h => by cases h⟩
 have hp := List.pairwise_iff_getElem.1 hd j i (by rw [List.length_map]; omega) (by rw [List.length_map]; omega) hj
 rw [List.getElem_map, List.getElem_map] at hp
 rw [List.getD_eq_getElem?_getD, List.getD_eq_getElem?_getD, List.getElem?_eq_getElem (by omega), List.getElem?_eq_getElem hi] at e
 exact hp e
def anyN (l : List Ob) (s : ByteArray) (i : Nat) : Bool := (l.take i).any fun o => decide (o.name = s)
theorem anyN_s {l : List Ob} {s : ByteArray} {i : Nat} (hi : i < l.length) : anyN l s (i + 1) = (anyN l s i || decide ((l.getD i default).name = s)) := by
 rw [anyN, List.take_succ_eq_append_getElem hi, List.any_append, List.getD_eq_getElem?_getD, List.getElem?_eq_getElem hi]
 simp [anyN]
theorem anyN_n {l : List Ob} {s : ByteArray} {x : Ob} {b : Bool} (h : FindP l s x b) : anyN l s l.length = b := by
 rw [anyN, List.take_length]
 cases b with
 | true =>
  obtain ⟨i, h1, h2, h3, -⟩ := h.yes rfl
  rw [List.any_eq_true]
  refine ⟨x, ?_, by simp [h3]⟩
  rw [← h2, List.getD_eq_getElem?_getD, List.getElem?_eq_getElem h1]
  exact List.getElem_mem _
 | false =>
  rw [List.any_eq_false]
  intro o ho
  obtain ⟨i, hi, rfl⟩ := List.getElem_of_mem ho
  have := (h.no rfl).2 i hi
  rw [List.getD_eq_getElem?_getD, List.getElem?_eq_getElem hi] at this
  simpa using this
theorem kill_ge : ∀ {U : List Nat} {K : List ABlk}, (∀ b ∈ U, K.length ≤ b) → kill U K = K
 | [], _, _ => rfl
 | b :: U, K, h => by
  rw [kill_c, List.set_eq_of_length_le (h b List.mem_cons_self)]
  exact kill_ge fun c hc => h c (List.mem_cons_of_mem _ hc)
theorem IfaceFinds_c {f : Fc} (hf : FIn f) (s : ByteArray) (hn : s.size ≤ 140737488355328) (H : List ABlk) : ACalls Try.prog 6 [f.av, sv s] H fun v H' => v = bv true ∧ H' = H := by
 refine ACalls.into Try.func6 cc6 rr6 fun hcl => ?_
 have out : ∀ {b : Bool} {G : List ABlk}, H <+: G → b = true → Ret r6 H.length (fun v H' => v = bv true ∧ H' = H) (some (bv b)) G := fun {b G} hG h =>
  Ret.pre _ H hG (Nat.le_refl _) hcl (.rfl _) (by simp [refs]) ⟨by rw [h], rfl⟩
 simp (maxSteps := 2000000) (disch := omega) only [Try.ntmps6, c6, r6, Fc.cs, method_specs_simp, seval, reduceCtorEq]
 refine Cont.rel (large16_c hf _) ?_
 rintro v H' ⟨⟨B, rfl, hB⟩, rfl⟩
 cases hBv : B with
 | true =>
  simp (maxSteps := 2000000) (disch := omega) only [method_specs_simp, seval, reduceCtorEq]
  refine Cont.mk (wakes16_c _) ?_
  simp (maxSteps := 2000000) (disch := omega) only [method_specs_simp, seval, reduceCtorEq]
  exact out (List.prefix_append _ _) rfl
 | false =>
  have hL := hB.1 hBv
  obtain ⟨hs, hu, ho⟩ := hL.sm
  by_cases h2 : 500 < s.size
  ·simp (maxSteps := 2000000) (disch := omega) only [method_specs_simp, seval, reduceCtorEq]
   refine Cont.mk (wakes16_c _) ?_
   simp (maxSteps := 2000000) (disch := omega) only [method_specs_simp, seval, reduceCtorEq]
   exact out (List.prefix_append _ _) rfl
  simp (maxSteps := 2000000) (disch := omega) only [method_specs_simp, seval, reduceCtorEq]
  refine Cont.mk (rgood16_c hf hs _) ?_
  by_cases hF : FaceP f
  rotate_left
  ·rw [cdec_f hF]
   simp (maxSteps := 2000000) (disch := omega) only [method_specs_simp, seval, reduceCtorEq]
   refine Cont.mk (wakes16_c _) ?_
   simp (maxSteps := 2000000) (disch := omega) only [method_specs_simp, seval, reduceCtorEq]
   exact out (List.prefix_append _ _) rfl
  rw [cdec_t hF]
  simp (maxSteps := 2000000) (disch := omega) only [method_specs_simp, seval, reduceCtorEq]
  refine Cont.mk (copy16_c hs hu ho _) ?_
  simp (maxSteps := 2000000) (disch := omega) only [method_specs_simp, seval, reduceCtorEq]
  refine Cont.mk (iTrim_c hf hs _) ?_
  obtain ⟨T, e, hT, hTo, hTe⟩ : ∃ (T : Fc) (e : Int), trimV f = (T, e) ∧ T.objs.length ≤ 9000000 ∧ ((e = 0 ∧ ∀ i, i < f.objs.length → ∃ y, FindP T.objs (f.objs.getD i default).name y true ∧ y.cls = (f.objs.getD i default).cls ∧ y.n = (f.objs.getD i default).n) ∨ (e = 160 ∧ ∀ s, FindP T.objs s default false)) := by
   rcases trimV_cases f with ⟨h1, h2, h3⟩ | h3
   ·refine ⟨_, _, h3, by simp only [trimF, List.length_map]; exact ho, .inl ⟨rfl, fun i hi => ?_⟩⟩
    have hm : ((f.objs.map (trimO (ordF f))).map Ob.name) = f.objs.map Ob.name := by rw [List.map_map]; rfl
    have hi' : i < (f.objs.map (trimO (ordF f))).length := by rw [List.length_map]; exact hi
    have := find_own (l := f.objs.map (trimO (ordF f))) (by rw [hm]; exact hF.od) hi'
    have e1 : (f.objs.map (trimO (ordF f))).getD i default = trimO (ordF f) (f.objs.getD i default) := by
     rw [List.getD_eq_getElem?_getD, List.getD_eq_getElem?_getD, List.getElem?_map, List.getElem?_eq_getElem hi]; rfl
    rw [e1] at this
    exact ⟨_, this, rfl, rfl⟩
   ·exact ⟨_, _, h3, by simp [zeF], .inr ⟨rfl, fun s => ⟨fun h => (by cases h), fun _ => ⟨rfl, fun j hj => (by simp [zeF] at hj)⟩⟩⟩⟩
  rw [hT]
  simp (maxSteps := 2000000) (disch := omega) only [Fc.cs, method_specs_simp, seval, reduceCtorEq]
  have hob64 := hF.os
  obtain ⟨K, hK⟩ : ∃ K, H ++ [ABlk.cells [sv f.name, wv f.key, usv f.uses, tv f.types, obv f.objs], ABlk.cells [sv T.name, wv T.key, usv T.uses, tv T.types, obv T.objs]] = K := ⟨_, rfl⟩
  have lK : K.length = H.length + 2 := by rw [← hK]; simp
  have k1 : ∀ l, (K ++ l)[H.length]? = some (ABlk.cells [sv f.name, wv f.key, usv f.uses, tv f.types, obv f.objs]) := fun l => hold (by rw [← hK, List.getElem?_append_right (Nat.le_refl _), Nat.sub_self]; rfl) _
  have k2 : ∀ l, (K ++ l)[H.length + 1]? = some (ABlk.cells [sv T.name, wv T.key, usv T.uses, tv T.types, obv T.objs]) := fun l => hold (by rw [← hK, List.getElem?_append_right (by omega), show H.length + 1 - H.length = 1 by omega]; rfl) _
  have k10 := k1 []
  have k20 := k2 []
  rw [List.append_nil] at k10 k20
  have hclK : cl K := by rw [← hK]; exact hcl.append (by simp [ABlk.refs, refs.refsL, refs])
  obtain ⟨S, hS⟩ : ∃ S : Nat → List AV, ∀ i, S i = [.any, sv s, .ptr H.length 0, .any, .any, .ptr (H.length + 1) 0, iv e, bv (anyN f.objs s i), iv i] ++ List.replicate 111 .any := ⟨_, fun _ => rfl⟩
  refine W.loopG (γ := Nat) (fun i => f.objs.length - i) S (fun _ => K) (fun i => i ≤ f.objs.length) 0 (by rw [hK]; exact Wk.slots (by rw [hS]; exact WkL.tail 9 _ rfl (by simp only [List.take_succ_cons, List.take_zero]; repeat' first | exact WkL.nil | refine WkL.cons (Wk1.rfl _) ?_ | refine WkL.cons Wk1.esl ?_ | refine WkL.cons (Wk1.gsl _ _ _) ?_ | refine WkL.cons (Wk1.any _) ?_))) (Nat.zero_le _) (fun i hi => ?_)
  by_cases hi3 : i < f.objs.length
  ·have hia := iaA_ob (t := f.objs) (a := i) (by omega) (by omega)
   rw [show obAt f.objs (i : Int) = f.objs.getD i default from rfl] at hia
   have own := find_own hF.od hi3
   have fo := fun H => find_d ho own H
   have hTi : (e = 0 ∧ ∃ y, FindP T.objs (f.objs.getD i default).name y true ∧ y.cls = (f.objs.getD i default).cls ∧ y.n = (f.objs.getD i default).n) ∨ (e = 160 ∧ FindP T.objs (f.objs.getD i default).name default false) := by
    rcases hTe with ⟨h1, h2⟩ | ⟨h1, h2⟩
    ·exact .inl ⟨h1, h2 i hi3⟩
    ·exact .inr ⟨h1, h2 _⟩
   have hany := anyN_s (s := s) hi3
   generalize hx : f.objs.getD i default = x at *
   simp (maxSteps := 2000000) (disch := omega) only [hS, c6l0, k10, List.length_map, method_specs_simp, seval, reduceCtorEq]
   have kn2 : kill [H.length + 2, H.length + 2] K = K := kill_ge fun b hb => by simp only [List.mem_cons, List.not_mem_nil, or_false] at hb; omega
   have kn : kill [H.length + 2] K = K := kill_ge fun b hb => by rw [List.mem_singleton] at hb; omega
   refine W.dregD [([], [H.length + 2]), ([], [H.length + 2]), ([], [H.length + 2]), ([], [H.length + 2]), ([], [H.length + 2]), ([], [H.length + 2]), ([], [H.length + 2]), ([], [H.length + 2]), ([], [H.length + 2]), ([], [H.length + 2]), ([], [H.length + 2]), ([], [H.length + 2, H.length + 2]), ([H.length + 2], []), ([H.length + 2], []), ([], [])] follows (by decide +kernel) rfl rfl (fun z hz b hb => ?_) ?_
   ·have hq : z.2 = [] ∧ K.length ≤ b := by
     simp only [List.mem_cons, List.not_mem_nil, or_false] at hz
     rcases hz with rfl | rfl | rfl | rfl | rfl | rfl | rfl | rfl | rfl | rfl | rfl | rfl | rfl | rfl | rfl <;> simp only [List.mem_cons, List.not_mem_nil, or_false] at hb <;> first | exact hb.elim | exact ⟨rfl, by omega⟩
    rw [hq.1, List.getElem?_eq_none hq.2]
    simp
   repeat (rw [DC_p]; simp (maxSteps := 2000000) (disch := omega) only [kn, k10, method_specs_simp, seval, reduceCtorEq])
   refine PCont.mk (copy16_c hs hu ho _) ?_
   simp (maxSteps := 2000000) (disch := omega) only [method_specs_simp, seval, reduceCtorEq]
   repeat (rw [DC_p]; simp (maxSteps := 2000000) (disch := omega) only [kn, k10, hia, Ob.c, method_specs_simp, seval, reduceCtorEq])
   refine PCont.mk (fo _) ?_
   simp (maxSteps := 2000000) (disch := omega) only [method_specs_simp, seval, reduceCtorEq]
   repeat (rw [DC_p]; simp (maxSteps := 2000000) (disch := omega) only [kn, k10, hia, Ob.c, method_specs_simp, seval, reduceCtorEq])
   refine WStep.ev (fun _ _ e => by cases e) (fun _ _ e => by cases e) ?_
   try simp (maxSteps := 2000000) (disch := omega) only [lK, method_specs_simp, seval, reduceCtorEq]
   refine ⟨FrOk.app (u := []) (fun k hk => by simp at hk; simp [hk, lK]) (by simp), ?_⟩
   have sl : ∀ k k', (K ++ [k]).set (H.length + 2) k' = K ++ [k'] := fun k k' => by rw [← lK, List.set_append_right _ _ (Nat.le_refl _), Nat.sub_self]; rfl
   have gl : ∀ k, (K ++ [k])[H.length + 2]? = some k := fun k => by rw [← lK, List.getElem?_concat_length]
   have fr : ∀ k k', FrOk [H.length + 2] [] (K ++ [k]) (K ++ [k']) (K ++ [k']) := fun k k' => by
    have := FrOk.set (w := [H.length + 2]) (H := K ++ [k]) (b := H.length + 2) (x := k') (by simp); rwa [sl] at this
   try simp (maxSteps := 2000000) (disch := omega) only [method_specs_simp, seval, reduceCtorEq]
   refine WStep.ev (fun _ _ e => by cases e) (fun _ _ e => by cases e) ?_
   try simp (maxSteps := 2000000) (disch := omega) only [gl, sl, Ob.cs, method_specs_simp, seval, reduceCtorEq]
   refine ⟨fr _ _, ?_⟩
   repeat (rw [DC_p]; simp (maxSteps := 2000000) (disch := omega) only [method_specs_simp, seval, reduceCtorEq])
   refine W.pchain follows (by decide +kernel) ?_
   simp (maxSteps := 2000000) (disch := omega) only [gl, k1, hia, Ob.c, method_specs_simp, seval, reduceCtorEq]
   refine PCont.mk (rsobj_c x x _) ?_
   simp (maxSteps := 2000000) (disch := omega) only [dcT (rfl : x = x), method_specs_simp, seval, reduceCtorEq]
   obtain ⟨y, b, hy, hcond⟩ : ∃ y b, FindP T.objs x.name y b ∧ ((e = 0 ∧ b = true ∧ y.cls = x.cls ∧ y.n = x.n) ∨ e = 160) := by
    rcases hTi with ⟨h1, y, h2, h3, h4⟩ | ⟨h1, h2⟩
    ·exact ⟨y, true, h2, .inl ⟨h1, rfl, h3, h4⟩⟩
    ·exact ⟨default, false, h2, .inr h1⟩
   obtain ⟨K', hK'⟩ : ∃ K', K ++ [ABlk.cells [iv x.cls, sv x.name, iv x.typ, iv x.val.form, iv x.val.n, sv x.val.text, iv x.n]] = K' := ⟨_, rfl⟩
   have lK' : K'.length = H.length + 3 := by rw [← hK']; simp [lK]
   have k1' : ∀ l, (K' ++ l)[H.length]? = some (ABlk.cells [sv f.name, wv f.key, usv f.uses, tv f.types, obv f.objs]) := fun l => by rw [← hK', List.append_assoc]; exact k1 _
   have k2' : ∀ l, (K' ++ l)[H.length + 1]? = some (ABlk.cells [sv T.name, wv T.key, usv T.uses, tv T.types, obv T.objs]) := fun l => by rw [← hK', List.append_assoc]; exact k2 _
   have k10' := k1' []
   have k20' := k2' []
   rw [List.append_nil] at k10' k20'
   have xl : ∀ l, (K' ++ l)[H.length + 2]? = some (ABlk.cells [iv x.cls, sv x.name, iv x.typ, iv x.val.form, iv x.val.n, sv x.val.text, iv x.n]) := fun l => hold (by rw [← hK']; exact gl _) _
   have kn' : kill [H.length + 3] K' = K' := kill_ge fun b hb => by rw [List.mem_singleton] at hb; omega
   have kn2' : kill [H.length + 3, H.length + 3] K' = K' := kill_ge fun b hb => by simp only [List.mem_cons, List.not_mem_nil, or_false] at hb; omega
   try simp (maxSteps := 2000000) (disch := omega) only [hK', method_specs_simp, seval, reduceCtorEq]
   refine W.dregD [([], [H.length + 3]), ([], [H.length + 3]), ([], [H.length + 3]), ([], [H.length + 3]), ([], [H.length + 3]), ([], [H.length + 3]), ([], [H.length + 3]), ([], [H.length + 3]), ([], [H.length + 3]), ([], [H.length + 3]), ([], [H.length + 3, H.length + 3]), ([H.length + 3], []), ([H.length + 3], []), ([], [])] follows (by decide +kernel) rfl rfl (fun z hz b hb => ?_) ?_
   ·have hq : z.2 = [] ∧ K'.length ≤ b := by
     simp only [List.mem_cons, List.not_mem_nil, or_false] at hz
     rcases hz with rfl | rfl | rfl | rfl | rfl | rfl | rfl | rfl | rfl | rfl | rfl | rfl | rfl | rfl <;> simp only [List.mem_cons, List.not_mem_nil, or_false] at hb <;> first | exact hb.elim | exact ⟨rfl, by omega⟩
    rw [hq.1, List.getElem?_eq_none hq.2]
    simp
   repeat (rw [DC_p]; simp (maxSteps := 2000000) (disch := omega) only [kn', k10', k20', hia, Ob.c, method_specs_simp, seval, reduceCtorEq])
   refine PCont.mk (find_d hTo hy _) ?_
   simp (maxSteps := 2000000) (disch := omega) only [method_specs_simp, seval, reduceCtorEq]
   repeat (rw [DC_p]; simp (maxSteps := 2000000) (disch := omega) only [kn', kn2', k10', hia, Ob.c, method_specs_simp, seval, reduceCtorEq])
   refine WStep.ev (fun _ _ e => by cases e) (fun _ _ e => by cases e) ?_
   try simp (maxSteps := 2000000) (disch := omega) only [lK', method_specs_simp, seval, reduceCtorEq]
   refine ⟨FrOk.app (u := []) (fun k hk => by simp at hk; simp [hk, lK']) (by simp), ?_⟩
   have sl' : ∀ k k', (K' ++ [k]).set (H.length + 3) k' = K' ++ [k'] := fun k k' => by rw [← lK', List.set_append_right _ _ (Nat.le_refl _), Nat.sub_self]; rfl
   have gl' : ∀ k, (K' ++ [k])[H.length + 3]? = some k := fun k => by rw [← lK', List.getElem?_concat_length]
   have fr' : ∀ k k', FrOk [H.length + 3] [] (K' ++ [k]) (K' ++ [k']) (K' ++ [k']) := fun k k' => by
    have := FrOk.set (w := [H.length + 3]) (H := K' ++ [k]) (b := H.length + 3) (x := k') (by simp); rwa [sl'] at this
   try simp (maxSteps := 2000000) (disch := omega) only [method_specs_simp, seval, reduceCtorEq]
   refine WStep.ev (fun _ _ e => by cases e) (fun _ _ e => by cases e) ?_
   try simp (maxSteps := 2000000) (disch := omega) only [gl', sl', Ob.cs, method_specs_simp, seval, reduceCtorEq]
   refine ⟨fr' _ _, ?_⟩
   repeat (rw [DC_p]; simp (maxSteps := 2000000) (disch := omega) only [method_specs_simp, seval, reduceCtorEq])
   have hx' : ∀ k, K' ++ [k] = K ++ [ABlk.cells [iv x.cls, sv x.name, iv x.typ, iv x.val.form, iv x.val.n, sv x.val.text, iv x.n], k] := fun k => by rw [← hK', List.append_assoc]; rfl
   have nx : ∀ {s' : List AV} {k : ABlk}, WkL s' (S (i + 1)) → Nxt H.length (fun i => f.objs.length - i) S (fun _ => K) (fun i => i ≤ f.objs.length) (f.objs.length - i) s' (K' ++ [k]) := fun {s' k} hw => by
    rw [hx']
    exact Nxt.mk (i + 1) (by omega) (Wk.drop hw (by omega) hclK (by rw [hS]; simp [refs.refsL, refs, lK])) (by omega)
   rcases hcond with ⟨rfl, rfl, hc1, hc2⟩ | rfl
   ·cases hA : anyN f.objs s i with
    | true =>
     rw [hA] at hany
     simp (maxSteps := 2000000) (disch := omega) only [gl', xl, k1', hc1, hc2, method_specs_simp, seval, reduceCtorEq]
     exact nx (by rw [hS, hany]; exact WkL.tail 9 _ rfl (by simp only [List.take_succ_cons, List.take_zero]; repeat' first | exact WkL.nil | refine WkL.cons (Wk1.rfl _) ?_ | refine WkL.cons Wk1.esl ?_ | refine WkL.cons (Wk1.gsl _ _ _) ?_ | refine WkL.cons (Wk1.any _) ?_))
    | false =>
     rw [hA] at hany
     simp (maxSteps := 2000000) (disch := omega) only [gl', xl, k1', hc1, hc2, hia, Ob.c, method_specs_simp, seval, reduceCtorEq]
     exact nx (by rw [hS, hany]; exact WkL.tail 9 _ rfl (by simp only [List.take_succ_cons, List.take_zero]; repeat' first | exact WkL.nil | refine WkL.cons (Wk1.rfl _) ?_ | refine WkL.cons Wk1.esl ?_ | refine WkL.cons (Wk1.gsl _ _ _) ?_ | refine WkL.cons (Wk1.any _) ?_))
   ·cases hA : anyN f.objs s i with
    | true =>
     rw [hA] at hany
     simp (maxSteps := 2000000) (disch := omega) only [gl', xl, k1', method_specs_simp, seval, reduceCtorEq]
     exact nx (by rw [hS, hany]; exact WkL.tail 9 _ rfl (by simp only [List.take_succ_cons, List.take_zero]; repeat' first | exact WkL.nil | refine WkL.cons (Wk1.rfl _) ?_ | refine WkL.cons Wk1.esl ?_ | refine WkL.cons (Wk1.gsl _ _ _) ?_ | refine WkL.cons (Wk1.any _) ?_))
    | false =>
     rw [hA] at hany
     simp (maxSteps := 2000000) (disch := omega) only [gl', xl, k1', hia, Ob.c, method_specs_simp, seval, reduceCtorEq]
     exact nx (by rw [hS, hany]; exact WkL.tail 9 _ rfl (by simp only [List.take_succ_cons, List.take_zero]; repeat' first | exact WkL.nil | refine WkL.cons (Wk1.rfl _) ?_ | refine WkL.cons Wk1.esl ?_ | refine WkL.cons (Wk1.gsl _ _ _) ?_ | refine WkL.cons (Wk1.any _) ?_))
  ·have hin : i = f.objs.length := by omega
   subst hin
   simp (maxSteps := 2000000) (disch := omega) only [hS, c6l0, k10, List.length_map, method_specs_simp, seval, reduceCtorEq]
   refine Cont.mk (copy16_c hs hu ho _) ?_
   simp (maxSteps := 2000000) (disch := omega) only [method_specs_simp, seval, reduceCtorEq]
   refine Cont.rel (find_c ho s _) ?_
   rintro v H' ⟨⟨x, b, rfl, hx⟩, rfl⟩
   have hb := anyN_n hx
   simp (maxSteps := 2000000) (disch := omega) only [Ob.cs, hb, method_specs_simp, seval, reduceCtorEq]
   refine Cont.mk (wakes16_c _) ?_
   simp (maxSteps := 2000000) (disch := omega) only [method_specs_simp, seval, reduceCtorEq]
   exact out (by rw [← hK, List.append_assoc]; exact List.prefix_append _ _) rfl
end Go.Proofs.Ythifjndenhjobaa
