/- IfaceRoom. -/
import Derived.Test.YthifjndenhjobaaZJA
import Derived.Test.YthifjndenhjobaaZID
import Derived.Test.YthifjndenhjobaaZKQ
import Derived.Test.YthifjndenhjobaaZIA
import Derived.Test.YthifjndenhjobaaZEvW
namespace Go.Proofs.Ythifjndenhjobaa
set_option linter.unusedSimpArgs false
set_option linter.unusedVariables false
set_option maxRecDepth 20000
set_option maxHeartbeats 4000000
open Go.RowKit

theorem copy16_g {f : Fc} (hs : Small f.types) (hu : f.uses.length ≤ 9000000) (ho : f.objs.length ≤ 9000000) (H : List ABlk) : ACalls Try.prog 16 [f.av] H fun v H' => ∃ m b1 b2, m = H.length + 2 ∧ v = .agg [sv f.name, wv f.key, usv f.uses, .gsl m 10 (f.types.map Ty.c), obv f.objs] ∧ H' = H ++ [b1, b2, .row 49 10 f.types.length] := by
 refine ACalls.into Try.func16 cc16 rr16 fun hcl => ?_
 have e1 : ∀ H, elemsA H 2 (usv f.uses) = some ((f.uses.map Us.c).map (·.map .d)) := fun H => by simp only [usv, elems_d, all_us, if_true]
 have e2 : ∀ H, elemsA H 7 (obv f.objs) = some ((f.objs.map Ob.c).map (·.map .d)) := fun H => by simp only [obv, elems_d, all_ob, if_true]
 have d1 := datss_map_d (f.uses.map Us.c)
 have d2 := datss_map_d (f.objs.map Ob.c)
 have mx : maxLen = 9223372036854775807 := mx_eq
 simp (maxSteps := 2000000) (disch := omega) only [Try.ntmps16, c16, r16, Fc.cs, e1, d1, List.length_map, method_specs_simp, seval, reduceCtorEq]
 refine Cont.mk (copy_c hs _) ?_
 simp (maxSteps := 2000000) (disch := omega) only [e2, d2, List.length_map, method_specs_simp, seval, reduceCtorEq]
 exact Ret.keep ⟨_, _, _, rfl, rfl, rfl⟩
theorem rsame_e (T : Fc) (hT : FIn T) (H : List ABlk) : ACalls Try.prog 22 [T.av, T.av] H fun v H' => v = bv true ∧ H' = H :=
 (rsame_c hT hT H).mono fun v H' h => ⟨by rw [cdec_of h.1, cdec_t rfl], h.2⟩
theorem ze_in : FIn zeF := ⟨by decide, by decide, by decide, ⟨by decide, (fun x hx => by cases hx)⟩, (fun x hx => by cases hx), (fun x hx => by cases hx), (fun x hx => by cases hx)⟩
theorem trimV_in {f : Fc} (hf : FIn f) (hs : Small f.types) : FIn (trimV f).1 := by
 rcases trimV_cases f with ⟨hF, _, h3⟩ | h3
 ·rw [h3]; exact fin_trim (hF.ord (ordF_vis hF)) hF.ty.len.2 hs hf
 ·rw [h3]; exact ze_in
theorem more_small {t : List Ty} (hs : Small t) (hl : t.length ≤ 250) (k : Int) : Small (t ++ [arrT k]) := by
 refine ⟨by simp; omega, fun x hx => ?_⟩
 rcases List.mem_append.1 hx with hx | hx
 ·exact hs.2 x hx
 ·rw [List.mem_singleton.1 hx]; simp [arrT]; decide
theorem more_in {f : Fc} (hf : FIn f) (hl : f.types.length ≤ 250) (k : Int) : FIn (moreF f (arrT k)) := by
 refine ⟨hf.nm, hf.us, hf.os, ⟨by simp [moreF]; omega, fun x hx => ?_⟩, fun x hx => ?_, hf.ob, hf.un⟩
 ·rcases List.mem_append.1 (show x ∈ f.types ++ [arrT k] from hx) with hx | hx
  ·exact hf.ty.2 x hx
  ·rw [List.mem_singleton.1 hx]; exact ⟨by show (0 : Nat) ≤ _; omega, by show (0 : Nat) ≤ _; omega, by show se.size ≤ _; decide, by show se.size ≤ _; decide⟩
 ·rcases List.mem_append.1 (show x ∈ f.types ++ [arrT k] from hx) with hx | hx
  ·exact hf.fn x hx
  ·rw [List.mem_singleton.1 hx]; intro g hg; cases hg
theorem lenR (n : Int) : 1 ≤ IntKind.i64.wrap (1 + IntKind.i64.wrap ((IntKind.u64.wrap n).tmod 4096)) ∧ IntKind.i64.wrap (1 + IntKind.i64.wrap ((IntKind.u64.wrap n).tmod 4096)) ≤ 4096 := by
 have e : IntKind.u64.wrap n = n % 18446744073709551616 := by simp [IntKind.wrap, IntKind.bits, IntKind.signed]
 have h0 : 0 ≤ n % 18446744073709551616 := Int.emod_nonneg _ (by decide)
 rw [e, Int.tmod_eq_emod_of_nonneg h0]
 rw [w_i64 (x := n % 18446744073709551616 % 4096) (by omega) (by omega), w_i64 (by omega) (by omega)]
 omega
theorem IfaceRoom_c {f : Fc} (hf : FIn f) {n : Int} (hn : J64 n) (H : List ABlk) : ACalls Try.prog 5 [f.av, iv n] H fun v H' => v = bv true ∧ H' = H := by
 refine ACalls.into Try.func5 cc5 rr5 fun hcl => ?_
 have out : ∀ {b : Bool} {G : List ABlk}, H <+: G → b = true → Ret r5 H.length (fun v H' => v = bv true ∧ H' = H) (some (bv b)) G := fun {b G} hG h =>
  Ret.pre _ H hG (Nat.le_refl _) hcl (.rfl _) (by simp [refs]) ⟨by rw [h], rfl⟩
 simp (maxSteps := 2000000) (disch := omega) only [Try.ntmps5, c5, r5, Fc.cs, method_specs_simp, seval, reduceCtorEq]
 refine Cont.rel (large16_c hf _) ?_
 rintro v H' ⟨⟨B, rfl, hB⟩, rfl⟩
 cases hBv : B with
 | true =>
  simp (maxSteps := 2000000) (disch := omega) only [method_specs_simp, seval, reduceCtorEq]
  refine Cont.mk (wakes16_c _) ?_
  simp (maxSteps := 2000000) (disch := omega) only [method_specs_simp, seval, reduceCtorEq]
  exact out (List.prefix_append _ _) rfl
 | false =>
  have hL := hB.1 hBv
  obtain ⟨hs, hu, ho⟩ := hL.sm
  simp (maxSteps := 2000000) (disch := omega) only [method_specs_simp, seval, reduceCtorEq]
  refine Cont.mk (rgood16_c hf hs _) ?_
  by_cases hF : FaceP f
  rotate_left
  ·rw [cdec_f hF]
   simp (maxSteps := 2000000) (disch := omega) only [method_specs_simp, seval, reduceCtorEq]
   refine Cont.mk (wakes16_c _) ?_
   simp (maxSteps := 2000000) (disch := omega) only [method_specs_simp, seval, reduceCtorEq]
   exact out (List.prefix_append _ _) rfl
  rw [cdec_t hF]
  by_cases hl : 250 < f.types.length
  ·simp (maxSteps := 2000000) (disch := omega) only [List.length_map, method_specs_simp, seval, reduceCtorEq]
   refine Cont.mk (wakes16_c _) ?_
   simp (maxSteps := 2000000) (disch := omega) only [method_specs_simp, seval, reduceCtorEq]
   exact out (List.prefix_append _ _) rfl
  simp (maxSteps := 2000000) (disch := omega) only [List.length_map, method_specs_simp, seval, reduceCtorEq]
  refine Cont.rel (copy16_g hs hu ho _) ?_
  rintro v H' ⟨m, b1, b2, hm, rfl, rfl⟩
  have hm3 : m = H.length + 3 := by rw [hm]; simp
  subst hm3
  simp (maxSteps := 2000000) (disch := omega) only [method_specs_simp, seval, reduceCtorEq]
  obtain ⟨hk1, hk2⟩ := lenR n
  generalize IntKind.i64.wrap (1 + IntKind.i64.wrap ((IntKind.u64.wrap n).tmod 4096)) = k at *
  refine Cont.mk (copy16_c hs hu ho _) ?_
  simp (maxSteps := 2000000) (disch := omega) only [method_specs_simp, seval, reduceCtorEq]
  refine Cont.mk (iTrim_c hf hs _) ?_
  have hr := trim_room hF (by omega) hk1 hk2
  have hin := trimV_in hf hs
  obtain ⟨T, e, hT, he⟩ : ∃ T e, trimV f = (T, e) ∧ (e = 0 ∨ e = 160) := by
   rcases trimV_cases f with ⟨_, _, h3⟩ | h3
   ·exact ⟨_, _, h3, .inl rfl⟩
   ·exact ⟨_, _, h3, .inr rfl⟩
  rw [hT] at hr hin ⊢
  simp (maxSteps := 2000000) (disch := omega) only [Fc.cs, method_specs_simp, seval, reduceCtorEq]
  refine ACalls.pre (args' := [(moreF f (arrT k)).av]) (Wk.slots (.cons (.agg rfl fun i c c' h1 h2 => ?_) .nil)) ?_
  ·rcases i with _ | _ | _ | _ | _ | i <;> simp [moreF, Fc.cs] at h1 h2
   ·subst h1 h2; exact .rfl _
   ·subst h1 h2; exact .rfl _
   ·subst h1 h2; exact .rfl _
   ·subst h1 h2; rw [show tv (f.types ++ [arrT k]) = .d (.sl (f.types.map Ty.c ++ [(arrT k).c])) by simp]; exact .gsl _ _ _
   ·subst h1 h2; exact .rfl _
  refine Cont.mk (iTrim_c (more_in hf (by omega) k) (more_small hs (by omega) k) _) ?_
  rw [hr]
  rcases he with rfl | rfl <;> (
   simp (maxSteps := 2000000) (disch := omega) only [Fc.cs, method_specs_simp, seval, reduceCtorEq]
   refine Cont.mk (rsame_e T hin _) ?_
   simp (maxSteps := 2000000) (disch := omega) only [method_specs_simp, seval, reduceCtorEq]
   refine Cont.mk (wakes16_c _) ?_
   simp (maxSteps := 2000000) (disch := omega) only [method_specs_simp, seval, reduceCtorEq]
   exact out (List.prefix_append _ _) rfl)
end Go.Proofs.Ythifjndenhjobaa
