/- Plain law: a type more, that nobody needs, is gone behind a Trim. -/
import Derived.Test.YthifjndenhjobaaZKW
import Derived.Test.YthifjndenhjobaaZJ9
import Derived.Test.YthifjndenhjobaaZJA
import Derived.Test.YthifjndenhjobaaZID
import Derived.Test.YthifjndenhjobaaZIA
namespace Go.Proofs.Ythifjndenhjobaa
set_option linter.unusedSimpArgs false
set_option linter.unusedVariables false
open Go.RowKit

def arrT (k : Int) : Ty := ⟨7, se, se, k, 3, 0, [], [], 0, 0⟩
theorem arr_new {t : List Ty} (h : GoodP t) (hl : t.length ≤ 250) {k : Int} (h1 : 1 ≤ k) (h2 : k ≤ 4096) : NewP t [arrT k] := by
 have h7 := h.len
 have e : tyAt (t ++ [arrT k]) (t.length : Int) = arrT k := by
  have := tyAt_new (t := t) (u := [arrT k]) (i := 0)
  simpa using this
 refine ⟨by simp; omega, fun i hi => ?_, fun i hi y hy => ?_, fun i hi h9 => ?_⟩
 ·have : i = 0 := by simpa using hi
  subst this
  have f3 : formA (t ++ [arrT k]) 3 = 3 := by
   rw [formA, if_pos (by simp; omega), tyAt_app ⟨by omega, by omega⟩, tyAt_lt h.toFrmP (by omega) (by omega)]; rfl
  refine ⟨.inl ⟨rfl, h1, h2, ?_⟩, ?_, ?_⟩
  ·show partP (formA _ 3)
   rw [f3]; exact .inl ⟨by omega, by omega⟩
  ·exact .inl ⟨rfl, rfl, by show (7 : Int) ≠ 9; decide⟩
  ·exact ⟨rfl, rfl, rfl, rfl, rfl, rfl, rfl⟩
 ·have : i = 0 := by simpa using hi
  subst this
  rw [show ((t.length : Int) + ((0 : Nat) : Int)) = t.length by omega, kidsC, e, if_pos (.inl rfl), List.mem_singleton] at hy
  subst hy
  exact ⟨by show (0 : Int) ≤ 3; decide, by show (3 : Int) < _; omega⟩
 ·have : i = 0 := by simpa using hi
  subst this
  exact absurd h9 (by show (7 : Int) ≠ 9; decide)
def moreF (f : Fc) (y : Ty) : Fc := { f with types := f.types ++ [y] }
theorem room_frame {f : Fc} (hf : FaceP f) (hl : f.types.length ≤ 250) {k : Int} (h1 : 1 ≤ k) (h2 : k ≤ 4096) : FrameP (moreF f (arrT k)) := by
 have hg := hf.ty.app (arr_new hf.ty hl h1 h2)
 have hlen : (f.types ++ [arrT k]).length = f.types.length + 1 := by simp
 have lo : ∀ i, i < f.types.length → (f.types ++ [arrT k]).getD i default = f.types.getD i default := fun i hi => getD_app_l hi
 have hi' : ∀ i, ¬ i < f.types.length → i < (f.types ++ [arrT k]).length → (f.types ++ [arrT k]).getD i default = arrT k := fun i h1 h2 => by
  rw [getD_app_r (by omega), show i - f.types.length = 0 by omega]; rfl
 refine ⟨⟨hf.nm, hf.us, hf.os, hg, fun i hi => ?_, fun i j hij hj => ?_, hf.un, hf.ud, fun o ho => ?_, hf.od⟩, fun i hi h9 hm => ?_⟩
 ·show ModP f ((f.types ++ [arrT k]).getD i default).mod
  by_cases h : i < f.types.length
  ·rw [lo i h]; exact hf.md i h
  ·rw [hi' i h hi]; exact .inl rfl
 ·show ¬ SameN ((f.types ++ [arrT k]).getD i default) ((f.types ++ [arrT k]).getD j default)
  by_cases h : j < f.types.length
  ·rw [lo i (by omega), lo j h]; exact hf.nn i j hij h
  ·rw [hi' j h hj]
   intro hs
   exact hs.1 (hs.2.2.1.trans rfl)
 ·obtain ⟨a1, a2, a3⟩ := hf.ob o ho
  have e : tyAt (f.types ++ [arrT k]) o.typ = tyAt f.types o.typ := tyAt_app a2
  refine ⟨a1, a2.app, ?_⟩
  show _ ∨ _ ∨ _ ∨ _
  simp only [moreF, e]
  exact a3
 ·have h9' : ((f.types ++ [arrT k]).getD i default).form = 9 := h9
  have hm' : ((f.types ++ [arrT k]).getD i default).mod ≠ f.name := hm
  show 0 ≤ ((f.types ++ [arrT k]).getD i default).desc
  by_cases h : i < f.types.length
  ·rw [lo i h] at h9' ⊢; exact (hf.num i h h9').1
  ·rw [hi' i h hi] at h9'; exact absurd h9' (by show (7 : Int) ≠ 9; decide)
theorem vis_more {t : List Ty} (hg : GoodP t) {y : Ty} {o l o' : List Int} (h : Vis (kidsV t) o l o') : (∀ a ∈ l, 0 ≤ a ∧ a < t.length) → Vis (kidsV (t ++ [y])) o l o' := by
 induction h with
 | nil => exact fun _ => .nil
 | @skip o l o' a h1 h2 ih => exact fun hl => .skip h1 (ih fun b hb => hl b (List.mem_cons_of_mem _ hb))
 | @go o l o1 o' a h1 h2 h3 h4 ih1 ih2 =>
  intro hl
  have ha := hl a List.mem_cons_self
  have e : kidsV (t ++ [y]) a = kidsV t a := by rw [kidsV, tyAt_app ha]
  refine .go h1 h2 ?_ (ih2 fun b hb => hl b (List.mem_cons_of_mem _ hb))
  rw [e]
  exact ih1 fun k hk => hg.kidV ha.1 ha.2 hk
theorem trim_room {f : Fc} (hf : FaceP f) (hl : f.types.length ≤ 250) {k : Int} (h1 : 1 ≤ k) (h2 : k ≤ 4096) : trimV (moreF f (arrT k)) = trimV f := by
 have hfr := hf.frame
 have hv := ordF_vis hfr
 have hst : ∀ a ∈ startL f, 0 ≤ a ∧ a < f.types.length := fun a ha => by
  obtain ⟨x, hx, rfl⟩ := List.mem_map.1 ha
  exact (hf.ob x hx).2.1
 have hv2 : Vis (kidsV (moreF f (arrT k)).types) [] (startL (moreF f (arrT k))) (ordF f) := vis_more hf.ty hv hst
 have ho := hfr.ord hv
 have eo := ordF_eq hv2
 have et : ∀ a ∈ ordF f, tyAt (f.types ++ [arrT k]) a = tyAt f.types a := fun a ha => by
  have := ho.rng a ha
  exact tyAt_app ⟨by omega, this.2⟩
 have eown : ∀ a ∈ ordF f, own f.name (f.types ++ [arrT k]) a = own f.name f.types a := fun a ha => by rw [own, et a ha]
 have en : newT f.name (f.types ++ [arrT k]) (ordF f) = newT f.name f.types (ordF f) := by
  rw [newT, newT]
  congr 1
  refine List.map_congr_left fun i hi => ?_
  have hi := List.mem_range.1 hi
  have hm := mem_getD hi
  have hc : ((ordF f).take i).countP (own f.name (f.types ++ [arrT k])) = ((ordF f).take i).countP (own f.name f.types) :=
   List.countP_congr fun a ha => by rw [eown a (List.mem_of_mem_take ha)]
  rw [ntF, ntF, et _ hm, eown _ hm, hc]
 have ec : (ordF f).countP (own f.name (f.types ++ [arrT k])) = (ordF f).countP (own f.name f.types) :=
  List.countP_congr fun a ha => by rw [eown a ha]
 have e1 : trimF (moreF f (arrT k)) (ordF f) = trimF f (ordF f) := by
  show ({ f with types := newT f.name (f.types ++ [arrT k]) (ordF f), objs := _ } : Fc) = _
  rw [en]; rfl
 rw [trimV, trimV, eo, e1]
 have e2 : ownN (moreF f (arrT k)) (ordF f) = ownN f (ordF f) := ec
 have e3 := room_frame hf hl h1 h2
 rw [e2]
 by_cases hc : ownN f (ordF f) ≤ 64
 ·rw [if_pos ⟨e3, hc⟩, if_pos ⟨hfr, hc⟩]
 ·rw [if_neg fun k => hc k.2, if_neg fun k => hc k.2]
end Go.Proofs.Ythifjndenhjobaa

/- IfaceRoom. -/
namespace Go.Proofs.Ythifjndenhjobaa
set_option linter.unusedSimpArgs false
set_option linter.unusedVariables false
set_option maxRecDepth 20000
set_option maxHeartbeats 4000000
open Go.RowKit

def c5 : AC :=
 .seq (.reg [kn 2 (.bx (.t 0)), kn 4 (.mv (.c (.d (.v (.bool false)))))])
 (.seq (.seq (.reg [kn 10 (.ld (.t 2) 5 true), kn 11 (.call 14 [(.t 10)]), kn 12 (.mv (.t 11)), ko 13 12 (.ld (.t 2) 5 true), ko 14 12 (.call 20 [(.t 13)]), ko 15 12 (.un .not (.t 14)), kn 16 (.pick (.t 12) (.c (.d (.v (.bool true)))) (.t 15)), kn 17 (.mv (.t 16)), ko 18 17 (.fa (.t 2) 3), ko 19 17 (.ld (.t 18) 1 false), ko 20 17 (.len false (.t 19)), ko 21 17 (.bin .gtr (.t 20) (kc 250)), kn 22 (.pick (.t 17) (.c (.d (.v (.bool true)))) (.t 21))])
 (.cond (.t 22) (.seq (.reg [kn 23 (.call 15 []), kn 4 (.mv (.t 23))])
 (.ret)) (.skip)))
 (.seq (.reg [kn 24 (.ld (.t 2) 5 true), kn 25 (.call 16 [(.t 24)]), kn 5 (.al [(.d (.v (.string ⟨#[]⟩))), (.d (.v (.int .u32 0))), .esl, .esl, .esl]), ke (.st (.t 5) (.t 25) 5)])
 (.seq (.reg [kn 26 (.fa (.t 5) 3), kn 27 (.ld (.t 26) 1 false), kn 28 (.mv (.t 1)), kn 29 (.cvi .u64 (.t 28)), kn 30 (.bin .rem (.t 29) (.c (.d (.v (.int .u64 4096))))), kn 31 (.cvi .i64 (.t 30)), kn 32 (.bin .add (kc 1) (.t 31)), kn 33 (.bd [kz, (.d (.v (.string ⟨#[]⟩))), (.d (.v (.string ⟨#[]⟩))), kz, kz, kz, .esl, .esl, kz, kz] [(0, 1, (kc 7)), (3, 1, (.t 32)), (4, 1, (kc 3))]), kn 34 (.bs .im 49 10 [(.t 33)]), kn 35 (.app .gr 49 10 128 (.t 27) (.t 34)), kn 36 (.fa (.t 5) 3), ke (.st (.t 36) (.t 35) 1)])
 (.seq (.reg [kn 38 (.ld (.t 2) 5 true), kn 39 (.call 16 [(.t 38)]), kn 40 (.call 23 [(.t 39)]), kn 37 (.mv (.t 40)), kn 41 (.ext (.t 37) 0), kn 42 (.ext (.t 37) 1), kn 6 (.al [(.d (.v (.string ⟨#[]⟩))), (.d (.v (.int .u32 0))), .esl, .esl, .esl]), ke (.st (.t 6) (.t 41) 5), kn 7 (.mv (.t 42))])
 (.seq (.reg [kn 44 (.ld (.t 5) 5 true), kn 45 (.call 23 [(.t 44)]), kn 43 (.mv (.t 45)), kn 46 (.ext (.t 43) 0), kn 47 (.ext (.t 43) 1), kn 8 (.al [(.d (.v (.string ⟨#[]⟩))), (.d (.v (.int .u32 0))), .esl, .esl, .esl]), ke (.st (.t 8) (.t 46) 5), kn 9 (.mv (.t 47))])
 (.seq (.reg [kn 48 (.mv (.t 7)), kn 49 (.mv (.t 9)), kn 50 (.bin .eql (.t 48) (.t 49)), kn 51 (.mv (.t 50)), ky 52 51 (.mv (.t 7)), ky 53 51 (.bin .eql (.t 52) (kc 0)), ky 54 51 (.mv (.t 53)), ko 55 54 (.mv (.t 7)), ko 56 54 (.bin .eql (.t 55) (kc 160)), ky 57 51 (.pick (.t 54) (.c (.d (.v (.bool true)))) (.t 56)), kn 58 (.pick (.t 51) (.t 57) (.c (.d (.v (.bool false))))), kn 59 (.mv (.t 58)), ky 60 59 (.ld (.t 6) 5 true), ky 61 59 (.ld (.t 8) 5 true), ky 62 59 (.call 22 [(.t 60), (.t 61)]), kn 63 (.pick (.t 59) (.t 62) (.c (.d (.v (.bool false))))), kn 64 (.mv (.t 63)), ky 65 64 (.call 15 []), kn 66 (.pick (.t 64) (.t 65) (.c (.d (.v (.bool false))))), kn 4 (.mv (.t 66))])
 (.ret)))))))
def r5 : List RC := [.t 4]

theorem cc5 : Try.f5.body.bind (comp Try.prog (hhI 5)) = some c5 := by kernel_rfl
theorem rr5 : resC Try.prog Try.f5 = some r5 := by kernel_rfl
theorem copy16_g {f : Fc} (hs : Small f.types) (hu : f.uses.length ≤ 9000000) (ho : f.objs.length ≤ 9000000) (H : List ABlk) : ACalls Try.prog 16 [f.av] H fun v H' => ∃ m b1 b2, m = H.length + 2 ∧ v = .agg [sv f.name, wv f.key, usv f.uses, .gsl m 10 (f.types.map Ty.c), obv f.objs] ∧ H' = H ++ [b1, b2, .row 49 10 f.types.length] := by
 refine ACalls.into Try.func16 cc16 rr16 fun hcl => ?_
 have e1 : ∀ H, elemsA H 2 (usv f.uses) = some ((f.uses.map Us.c).map (·.map .d)) := fun H => by simp only [usv, elems_d, all_us, if_true]
 have e2 : ∀ H, elemsA H 7 (obv f.objs) = some ((f.objs.map Ob.c).map (·.map .d)) := fun H => by simp only [obv, elems_d, all_ob, if_true]
 have d1 := datss_map_d (f.uses.map Us.c)
 have d2 := datss_map_d (f.objs.map Ob.c)
 have mx : maxLen = 9223372036854775807 := mx_eq
 simp (maxSteps := 2000000) (disch := omega) only [Try.ntmps16, c16, r16, Fc.cs, e1, d1, List.length_map, go_sem, seval, reduceCtorEq]
 refine Cont.mk (copy_c hs _) ?_
 simp (maxSteps := 2000000) (disch := omega) only [e2, d2, List.length_map, go_sem, seval, reduceCtorEq]
 exact Ret.keep ⟨_, _, _, rfl, rfl, rfl⟩
theorem rsame_e (T : Fc) (hT : FIn T) (H : List ABlk) : ACalls Try.prog 22 [T.av, T.av] H fun v H' => v = bv true ∧ H' = H :=
 (rsame_c hT hT H).mono fun v H' h => ⟨by rw [cdec_of h.1, cdec_t rfl], h.2⟩
theorem ze_in : FIn zeF := ⟨by decide, by decide, by decide, ⟨by decide, (fun x hx => by cases hx)⟩, (fun x hx => by cases hx), (fun x hx => by cases hx), (fun x hx => by cases hx)⟩
theorem trimV_in {f : Fc} (hf : FIn f) (hs : Small f.types) : FIn (trimV f).1 := by
 rcases trimV_cases f with ⟨hF, _, h3⟩ | h3
 ·rw [h3]; exact fin_trim (hF.ord (ordF_vis hF)) hF.ty.len.2 hs hf
 ·rw [h3]; exact ze_in
theorem more_small {t : List Ty} (hs : Small t) (hl : t.length ≤ 250) (k : Int) : Small (t ++ [arrT k]) := by
 refine ⟨by simp; omega, fun x hx => ?_⟩
 rcases List.mem_append.1 hx with hx | hx
 ·exact hs.2 x hx
 ·rw [List.mem_singleton.1 hx]; simp [arrT]; decide
theorem more_in {f : Fc} (hf : FIn f) (hl : f.types.length ≤ 250) (k : Int) : FIn (moreF f (arrT k)) := by
 refine ⟨hf.nm, hf.us, hf.os, ⟨by simp [moreF]; omega, fun x hx => ?_⟩, fun x hx => ?_, hf.ob, hf.un⟩
 ·rcases List.mem_append.1 (show x ∈ f.types ++ [arrT k] from hx) with hx | hx
  ·exact hf.ty.2 x hx
  ·rw [List.mem_singleton.1 hx]; exact ⟨by show (0 : Nat) ≤ _; omega, by show (0 : Nat) ≤ _; omega, by show se.size ≤ _; decide, by show se.size ≤ _; decide⟩
 ·rcases List.mem_append.1 (show x ∈ f.types ++ [arrT k] from hx) with hx | hx
  ·exact hf.fn x hx
  ·rw [List.mem_singleton.1 hx]; intro g hg; cases hg
theorem lenR (n : Int) : 1 ≤ IntKind.i64.wrap (1 + IntKind.i64.wrap ((IntKind.u64.wrap n).tmod 4096)) ∧ IntKind.i64.wrap (1 + IntKind.i64.wrap ((IntKind.u64.wrap n).tmod 4096)) ≤ 4096 := by
 have e : IntKind.u64.wrap n = n % 18446744073709551616 := by simp [IntKind.wrap, IntKind.bits, IntKind.signed]
 have h0 : 0 ≤ n % 18446744073709551616 := Int.emod_nonneg _ (by decide)
 rw [e, Int.tmod_eq_emod_of_nonneg h0]
 rw [w_i64 (x := n % 18446744073709551616 % 4096) (by omega) (by omega), w_i64 (by omega) (by omega)]
 omega
theorem IfaceRoom_c {f : Fc} (hf : FIn f) {n : Int} (hn : J64 n) (H : List ABlk) : ACalls Try.prog 5 [f.av, iv n] H fun v H' => v = bv true ∧ H' = H := by
 refine ACalls.into Try.func5 cc5 rr5 fun hcl => ?_
 have out : ∀ {b : Bool} {G : List ABlk}, H <+: G → b = true → Ret r5 H.length (fun v H' => v = bv true ∧ H' = H) (some (bv b)) G := fun {b G} hG h =>
  Ret.pre _ H hG (Nat.le_refl _) hcl (.rfl _) (by simp [refs]) ⟨by rw [h], rfl⟩
 simp (maxSteps := 2000000) (disch := omega) only [Try.ntmps5, c5, r5, Fc.cs, go_sem, seval, reduceCtorEq]
 refine Cont.rel (large16_c hf _) ?_
 rintro v H' ⟨⟨B, rfl, hB⟩, rfl⟩
 cases hBv : B with
 | true =>
  simp (maxSteps := 2000000) (disch := omega) only [go_sem, seval, reduceCtorEq]
  refine Cont.mk (wakesW_c _) ?_
  simp (maxSteps := 2000000) (disch := omega) only [go_sem, seval, reduceCtorEq]
  exact out (List.prefix_append _ _) rfl
 | false =>
  have hL := hB.1 hBv
  obtain ⟨hs, hu, ho⟩ := hL.sm
  simp (maxSteps := 2000000) (disch := omega) only [go_sem, seval, reduceCtorEq]
  refine Cont.mk (rgood16_c hf hs _) ?_
  by_cases hF : FaceP f
  rotate_left
  ·rw [cdec_f hF]
   simp (maxSteps := 2000000) (disch := omega) only [go_sem, seval, reduceCtorEq]
   refine Cont.mk (wakesW_c _) ?_
   simp (maxSteps := 2000000) (disch := omega) only [go_sem, seval, reduceCtorEq]
   exact out (List.prefix_append _ _) rfl
  rw [cdec_t hF]
  by_cases hl : 250 < f.types.length
  ·simp (maxSteps := 2000000) (disch := omega) only [List.length_map, go_sem, seval, reduceCtorEq]
   refine Cont.mk (wakesW_c _) ?_
   simp (maxSteps := 2000000) (disch := omega) only [go_sem, seval, reduceCtorEq]
   exact out (List.prefix_append _ _) rfl
  simp (maxSteps := 2000000) (disch := omega) only [List.length_map, go_sem, seval, reduceCtorEq]
  refine Cont.rel (copy16_g hs hu ho _) ?_
  rintro v H' ⟨m, b1, b2, hm, rfl, rfl⟩
  have hm3 : m = H.length + 3 := by rw [hm]; simp
  subst hm3
  simp (maxSteps := 2000000) (disch := omega) only [go_sem, seval, reduceCtorEq]
  obtain ⟨hk1, hk2⟩ := lenR n
  generalize IntKind.i64.wrap (1 + IntKind.i64.wrap ((IntKind.u64.wrap n).tmod 4096)) = k at *
  refine Cont.mk (copy16_c hs hu ho _) ?_
  simp (maxSteps := 2000000) (disch := omega) only [go_sem, seval, reduceCtorEq]
  refine Cont.mk (iTrim_c hf hs _) ?_
  have hr := trim_room hF (by omega) hk1 hk2
  have hin := trimV_in hf hs
  obtain ⟨T, e, hT, he⟩ : ∃ T e, trimV f = (T, e) ∧ (e = 0 ∨ e = 160) := by
   rcases trimV_cases f with ⟨_, _, h3⟩ | h3
   ·exact ⟨_, _, h3, .inl rfl⟩
   ·exact ⟨_, _, h3, .inr rfl⟩
  rw [hT] at hr hin ⊢
  simp (maxSteps := 2000000) (disch := omega) only [Fc.cs, go_sem, seval, reduceCtorEq]
  refine ACalls.pre (args' := [(moreF f (arrT k)).av]) (Wk.slots (.cons (.agg rfl fun i c c' h1 h2 => ?_) .nil)) ?_
  ·rcases i with _ | _ | _ | _ | _ | i <;> simp [moreF, Fc.cs] at h1 h2
   ·subst h1 h2; exact .rfl _
   ·subst h1 h2; exact .rfl _
   ·subst h1 h2; exact .rfl _
   ·subst h1 h2; rw [show tv (f.types ++ [arrT k]) = .d (.sl (f.types.map Ty.c ++ [(arrT k).c])) by simp]; exact .gsl _ _ _
   ·subst h1 h2; exact .rfl _
  refine Cont.mk (iTrim_c (more_in hf (by omega) k) (more_small hs (by omega) k) _) ?_
  rw [hr]
  rcases he with rfl | rfl <;> (
   simp (maxSteps := 2000000) (disch := omega) only [Fc.cs, go_sem, seval, reduceCtorEq]
   refine Cont.mk (rsame_e T hin _) ?_
   simp (maxSteps := 2000000) (disch := omega) only [go_sem, seval, reduceCtorEq]
   refine Cont.mk (wakesW_c _) ?_
   simp (maxSteps := 2000000) (disch := omega) only [go_sem, seval, reduceCtorEq]
   exact out (List.prefix_append _ _) rfl)
end Go.Proofs.Ythifjndenhjobaa
