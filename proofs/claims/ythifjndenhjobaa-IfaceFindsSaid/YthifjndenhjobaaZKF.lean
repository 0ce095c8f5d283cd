/- IfaceFinds. -/
import Derived.Test.YthifjndenhjobaaZJA
import Derived.Test.YthifjndenhjobaaZID
import Derived.Test.YthifjndenhjobaaZIA
import Derived.Test.YthifjndenhjobaaZKW
namespace Go.Proofs.Ythifjndenhjobaa
set_option linter.unusedSimpArgs false
set_option linter.unusedVariables false
set_option maxRecDepth 20000
set_option maxHeartbeats 4000000
open Go.RowKit

def c6l0 : AC :=
 .seq (.seq (.reg [kn 34 (.mv (.t 8)), kn 35 (.fa (.t 2) 4), kn 36 (.ld (.t 35) 1 false), kn 37 (.len false (.t 36)), kn 38 (.bin .lss (.t 34) (.t 37))])
 (.cond (.t 38) (.skip) (.exit 0)))
 (.seq (.block 1 (.seq (.dreg [[], [0], [], [2], [], [3, 4], [5], [6], [1, 7, 1], [8], [9], [9], [], [12, 10, 8, 0, 1, 2, 3, 4, 5, 6, 7, 8, 9, 10, 12], [11, 13, 0, 1, 2, 3, 4, 5, 6, 7, 8, 9, 10, 11, 12, 13]] [kn 42 (.ld (.t 2) 5 true), kn 43 (.call 16 [(.t 42)]), kn 44 (.fa (.t 2) 4), kn 45 (.ld (.t 44) 1 false), kn 46 (.mv (.t 8)), kn 47 (.ia (.t 45) (.t 46) 7), kn 48 (.fa (.t 47) 1), kn 49 (.ld (.t 48) 1 false), kn 50 (.call 17 [(.t 43), (.t 49)]), kn 41 (.mv (.t 50)), kn 51 (.ext (.t 41) 0), kn 52 (.ext (.t 41) 1), kn 9 (.al [kz, (.d (.v (.string ⟨#[]⟩))), kz, kz, kz, (.d (.v (.string ⟨#[]⟩))), kz]), ke (.st (.t 9) (.t 51) 7), kn 10 (.mv (.t 52))])
 (.seq (.seq (.dreg [[], [0], [1], [2], [2], [4, 2], [2], [5, 6, 2], [7, 2], [3, 8, 2, 2], [9, 2], [2, 10]] [kn 53 (.mv (.t 10)), kn 54 (.un .not (.t 53)), kn 55 (.mv (.t 54)), ko 56 55 (.ld (.t 9) 7 true), ko 57 55 (.fa (.t 2) 4), ko 58 55 (.ld (.t 57) 1 false), ko 59 55 (.mv (.t 8)), ko 60 55 (.ia (.t 58) (.t 59) 7), ko 61 55 (.ld (.t 60) 7 true), ko 62 55 (.call 21 [(.t 56), (.t 61)]), ko 63 55 (.un .not (.t 62)), kn 64 (.pick (.t 55) (.c (.d (.v (.bool true)))) (.t 63))])
 (.cond (.t 64) (.seq (.reg [kn 4 (.mv (.c (.d (.v (.bool false)))))])
 (.ret)) (.skip)))
 (.seq (.dreg [[], [], [1], [], [2, 3], [4], [5], [0, 6], [7], [8], [8], [], [11, 9, 7, 0, 1, 2, 3, 4, 5, 6, 7, 8, 9, 11], [10, 12, 0, 1, 2, 3, 4, 5, 6, 7, 8, 9, 10, 11, 12]] [kn 66 (.ld (.t 5) 5 true), kn 67 (.fa (.t 2) 4), kn 68 (.ld (.t 67) 1 false), kn 69 (.mv (.t 8)), kn 70 (.ia (.t 68) (.t 69) 7), kn 71 (.fa (.t 70) 1), kn 72 (.ld (.t 71) 1 false), kn 73 (.call 17 [(.t 66), (.t 72)]), kn 65 (.mv (.t 73)), kn 74 (.ext (.t 65) 0), kn 75 (.ext (.t 65) 1), kn 11 (.al [kz, (.d (.v (.string ⟨#[]⟩))), kz, kz, kz, (.d (.v (.string ⟨#[]⟩))), kz]), ke (.st (.t 11) (.t 74) 7), kn 12 (.mv (.t 75))])
 (.seq (.seq (.reg [kn 76 (.mv (.t 6)), kn 77 (.bin .eql (.t 76) (kc 0)), kn 78 (.mv (.t 77)), ky 79 78 (.mv (.t 12)), ky 80 78 (.un .not (.t 79)), ky 81 78 (.mv (.t 80)), ko 82 81 (.fa (.t 11) 0), ko 83 81 (.ld (.t 82) 1 false), ko 84 81 (.fa (.t 9) 0), ko 85 81 (.ld (.t 84) 1 false), ko 86 81 (.bin .neq (.t 83) (.t 85)), ky 87 78 (.pick (.t 81) (.c (.d (.v (.bool true)))) (.t 86)), ky 88 78 (.mv (.t 87)), ko 89 88 (.fa (.t 11) 6), ko 90 88 (.ld (.t 89) 1 false), ko 91 88 (.fa (.t 9) 6), ko 92 88 (.ld (.t 91) 1 false), ko 93 88 (.bin .neq (.t 90) (.t 92)), ky 94 78 (.pick (.t 88) (.c (.d (.v (.bool true)))) (.t 93)), kn 95 (.pick (.t 78) (.t 94) (.c (.d (.v (.bool false)))))])
 (.cond (.t 95) (.seq (.reg [kn 4 (.mv (.c (.d (.v (.bool false)))))])
 (.ret)) (.skip)))
 (.reg [kn 96 (.mv (.t 7)), kn 97 (.mv (.t 96)), ko 98 97 (.fa (.t 2) 4), ko 99 97 (.ld (.t 98) 1 false), ko 100 97 (.mv (.t 8)), ko 101 97 (.ia (.t 99) (.t 100) 7), ko 102 97 (.fa (.t 101) 1), ko 103 97 (.ld (.t 102) 1 false), ko 104 97 (.mv (.t 1)), ko 105 97 (.bin .eql (.t 103) (.t 104)), kn 106 (.pick (.t 97) (.c (.d (.v (.bool true)))) (.t 105)), kn 7 (.mv (.t 106))]))))))
 (.reg [kn 39 (.mv (.t 8)), kn 40 (.bin .add (.t 39) (kc 1)), kn 8 (.mv (.t 40))]))

def c6 : AC :=
 .seq (.reg [kn 2 (.bx (.t 0)), kn 4 (.mv (.c (.d (.v (.bool false)))))])
 (.seq (.seq (.reg [kn 15 (.ld (.t 2) 5 true), kn 16 (.call 14 [(.t 15)]), kn 17 (.mv (.t 16)), ko 18 17 (.mv (.t 1)), ko 19 17 (.len true (.t 18)), ko 20 17 (.bin .gtr (.t 19) (kc 500)), kn 21 (.pick (.t 17) (.c (.d (.v (.bool true)))) (.t 20)), kn 22 (.mv (.t 21)), ko 23 22 (.ld (.t 2) 5 true), ko 24 22 (.call 20 [(.t 23)]), ko 25 22 (.un .not (.t 24)), kn 26 (.pick (.t 22) (.c (.d (.v (.bool true)))) (.t 25))])
 (.cond (.t 26) (.seq (.reg [kn 27 (.call 15 []), kn 4 (.mv (.t 27))])
 (.ret)) (.skip)))
 (.seq (.reg [kn 29 (.ld (.t 2) 5 true), kn 30 (.call 16 [(.t 29)]), kn 31 (.call 23 [(.t 30)]), kn 28 (.mv (.t 31)), kn 32 (.ext (.t 28) 0), kn 33 (.ext (.t 28) 1), kn 5 (.al [(.d (.v (.string ⟨#[]⟩))), (.d (.v (.int .u32 0))), .esl, .esl, .esl]), ke (.st (.t 5) (.t 32) 5), kn 6 (.mv (.t 33))])
 (.seq (.reg [kn 7 (.mv (.c (.d (.v (.bool false)))))])
 (.seq (.seq (.reg [kn 8 (.mv (kc 0))])
 (.block 0 (.loop c6l0)))
 (.seq (.reg [kn 108 (.ld (.t 2) 5 true), kn 109 (.call 16 [(.t 108)]), kn 110 (.mv (.t 1)), kn 111 (.call 17 [(.t 109), (.t 110)]), kn 107 (.mv (.t 111)), kn 112 (.ext (.t 107) 0), kn 113 (.ext (.t 107) 1), kn 13 (.al [kz, (.d (.v (.string ⟨#[]⟩))), kz, kz, kz, (.d (.v (.string ⟨#[]⟩))), kz]), ke (.st (.t 13) (.t 112) 7), kn 14 (.mv (.t 113))])
 (.seq (.reg [kn 114 (.mv (.t 14)), kn 115 (.mv (.t 7)), kn 116 (.eqs false (.t 114) (.t 115)), kn 117 (.mv (.t 116)), ky 118 117 (.call 15 []), kn 119 (.pick (.t 117) (.t 118) (.c (.d (.v (.bool false))))), kn 4 (.mv (.t 119))])
 (.ret)))))))
def r6 : List RC := [.t 4]

theorem cc6 : Try.f6.body.bind (comp Try.prog (hhI 6)) = some c6 := by kernel_rfl
theorem rr6 : resC Try.prog Try.f6 = some r6 := by kernel_rfl
theorem find_d {f : Fc} (hl : f.objs.length ≤ 9000000) {s : ByteArray} {x : Ob} {b : Bool} (h : FindP f.objs s x b) (H : List ABlk) : ACalls Try.prog 17 [f.av, sv s] H fun v H' => v = .tup [x.av, bv b] ∧ H' = H :=
 (find_c hl s H).mono fun v H' ⟨⟨y, c, h1, h2⟩, h3⟩ => by
   obtain ⟨rfl, rfl⟩ := h2.det h
   exact ⟨h1, h3⟩
theorem find_own {l : List Ob} (hd : (l.map Ob.name).Nodup) {i : Nat} (hi : i < l.length) : FindP l (l.getD i default).name (l.getD i default) true := by
 refine ⟨fun _ => ⟨i, hi, rfl, rfl, fun j hj e => ?_⟩, fun h => by cases h⟩
 have hp := List.pairwise_iff_getElem.1 hd j i (by rw [List.length_map]; omega) (by rw [List.length_map]; omega) hj
 rw [List.getElem_map, List.getElem_map] at hp
 rw [List.getD_eq_getElem?_getD, List.getD_eq_getElem?_getD, List.getElem?_eq_getElem (by omega), List.getElem?_eq_getElem hi] at e
 exact hp e
def anyN (l : List Ob) (s : ByteArray) (i : Nat) : Bool := (l.take i).any fun o => decide (o.name = s)
theorem anyN_s {l : List Ob} {s : ByteArray} {i : Nat} (hi : i < l.length) : anyN l s (i + 1) = (anyN l s i || decide ((l.getD i default).name = s)) := by
 rw [anyN, List.take_succ_eq_append_getElem hi, List.any_append, List.getD_eq_getElem?_getD, List.getElem?_eq_getElem hi]
 simp [anyN]
theorem anyN_n {l : List Ob} {s : ByteArray} {x : Ob} {b : Bool} (h : FindP l s x b) : anyN l s l.length = b := by
 rw [anyN, List.take_length]
 cases b with
 | true =>
  obtain ⟨i, h1, h2, h3, -⟩ := h.yes rfl
  rw [List.any_eq_true]
  refine ⟨x, ?_, by simp [h3]⟩
  rw [← h2, List.getD_eq_getElem?_getD, List.getElem?_eq_getElem h1]
  exact List.getElem_mem _
 | false =>
  rw [List.any_eq_false]
  intro o ho
  obtain ⟨i, hi, rfl⟩ := List.getElem_of_mem ho
  have := (h.no rfl).2 i hi
  rw [List.getD_eq_getElem?_getD, List.getElem?_eq_getElem hi] at this
  simpa using this
theorem kill_ge : ∀ {U : List Nat} {K : List ABlk}, (∀ b ∈ U, K.length ≤ b) → kill U K = K
 | [], _, _ => rfl
 | b :: U, K, h => by
  rw [kill_c, List.set_eq_of_length_le (h b List.mem_cons_self)]
  exact kill_ge fun c hc => h c (List.mem_cons_of_mem _ hc)
theorem IfaceFinds_c {f : Fc} (hf : FIn f) (s : ByteArray) (hn : s.size ≤ 140737488355328) (H : List ABlk) : ACalls Try.prog 6 [f.av, sv s] H fun v H' => v = bv true ∧ H' = H := by
 refine ACalls.into Try.func6 cc6 rr6 fun hcl => ?_
 have out : ∀ {b : Bool} {G : List ABlk}, H <+: G → b = true → Ret r6 H.length (fun v H' => v = bv true ∧ H' = H) (some (bv b)) G := fun {b G} hG h =>
  Ret.pre _ H hG (Nat.le_refl _) hcl (.rfl _) (by simp [refs]) ⟨by rw [h], rfl⟩
 simp (maxSteps := 2000000) (disch := omega) only [Try.ntmps6, c6, r6, Fc.cs, go_sem, seval, reduceCtorEq]
 refine Cont.rel (large16_c hf _) ?_
 rintro v H' ⟨⟨B, rfl, hB⟩, rfl⟩
 cases hBv : B with
 | true =>
  simp (maxSteps := 2000000) (disch := omega) only [go_sem, seval, reduceCtorEq]
  refine Cont.mk (wakesW_c _) ?_
  simp (maxSteps := 2000000) (disch := omega) only [go_sem, seval, reduceCtorEq]
  exact out (List.prefix_append _ _) rfl
 | false =>
  have hL := hB.1 hBv
  obtain ⟨hs, hu, ho⟩ := hL.sm
  by_cases h2 : 500 < s.size
  ·simp (maxSteps := 2000000) (disch := omega) only [go_sem, seval, reduceCtorEq]
   refine Cont.mk (wakesW_c _) ?_
   simp (maxSteps := 2000000) (disch := omega) only [go_sem, seval, reduceCtorEq]
   exact out (List.prefix_append _ _) rfl
  simp (maxSteps := 2000000) (disch := omega) only [go_sem, seval, reduceCtorEq]
  refine Cont.mk (rgood16_c hf hs _) ?_
  by_cases hF : FaceP f
  rotate_left
  ·rw [cdec_f hF]
   simp (maxSteps := 2000000) (disch := omega) only [go_sem, seval, reduceCtorEq]
   refine Cont.mk (wakesW_c _) ?_
   simp (maxSteps := 2000000) (disch := omega) only [go_sem, seval, reduceCtorEq]
   exact out (List.prefix_append _ _) rfl
  rw [cdec_t hF]
  simp (maxSteps := 2000000) (disch := omega) only [go_sem, seval, reduceCtorEq]
  refine Cont.mk (copy16_c hs hu ho _) ?_
  simp (maxSteps := 2000000) (disch := omega) only [go_sem, seval, reduceCtorEq]
  refine Cont.mk (iTrim_c hf hs _) ?_
  obtain ⟨T, e, hT, hTo, hTe⟩ : ∃ (T : Fc) (e : Int), trimV f = (T, e) ∧ T.objs.length ≤ 9000000 ∧ ((e = 0 ∧ ∀ i, i < f.objs.length → ∃ y, FindP T.objs (f.objs.getD i default).name y true ∧ y.cls = (f.objs.getD i default).cls ∧ y.n = (f.objs.getD i default).n) ∨ (e = 160 ∧ ∀ s, FindP T.objs s default false)) := by
   rcases trimV_cases f with ⟨h1, h2, h3⟩ | h3
   ·refine ⟨_, _, h3, by simp only [trimF, List.length_map]; exact ho, .inl ⟨rfl, fun i hi => ?_⟩⟩
    have hm : ((f.objs.map (trimO (ordF f))).map Ob.name) = f.objs.map Ob.name := by rw [List.map_map]; rfl
    have hi' : i < (f.objs.map (trimO (ordF f))).length := by rw [List.length_map]; exact hi
    have := find_own (l := f.objs.map (trimO (ordF f))) (by rw [hm]; exact hF.od) hi'
    have e1 : (f.objs.map (trimO (ordF f))).getD i default = trimO (ordF f) (f.objs.getD i default) := by
     rw [List.getD_eq_getElem?_getD, List.getD_eq_getElem?_getD, List.getElem?_map, List.getElem?_eq_getElem hi]; rfl
    rw [e1] at this
    exact ⟨_, this, rfl, rfl⟩
   ·exact ⟨_, _, h3, by simp [zeF], .inr ⟨rfl, fun s => ⟨fun h => (by cases h), fun _ => ⟨rfl, fun j hj => (by simp [zeF] at hj)⟩⟩⟩⟩
  rw [hT]
  simp (maxSteps := 2000000) (disch := omega) only [Fc.cs, go_sem, seval, reduceCtorEq]
  have hob64 := hF.os
  obtain ⟨K, hK⟩ : ∃ K, H ++ [ABlk.cells [sv f.name, wv f.key, usv f.uses, tv f.types, obv f.objs], ABlk.cells [sv T.name, wv T.key, usv T.uses, tv T.types, obv T.objs]] = K := ⟨_, rfl⟩
  have lK : K.length = H.length + 2 := by rw [← hK]; simp
  have k1 : ∀ l, (K ++ l)[H.length]? = some (ABlk.cells [sv f.name, wv f.key, usv f.uses, tv f.types, obv f.objs]) := fun l => hold (by rw [← hK, List.getElem?_append_right (Nat.le_refl _), Nat.sub_self]; rfl) _
  have k2 : ∀ l, (K ++ l)[H.length + 1]? = some (ABlk.cells [sv T.name, wv T.key, usv T.uses, tv T.types, obv T.objs]) := fun l => hold (by rw [← hK, List.getElem?_append_right (by omega), show H.length + 1 - H.length = 1 by omega]; rfl) _
  have k10 := k1 []
  have k20 := k2 []
  rw [List.append_nil] at k10 k20
  have hclK : cl K := by rw [← hK]; exact hcl.append (by simp [ABlk.refs, refs.refsL, refs])
  obtain ⟨S, hS⟩ : ∃ S : Nat → List AV, ∀ i, S i = [.any, sv s, .ptr H.length 0, .any, .any, .ptr (H.length + 1) 0, iv e, bv (anyN f.objs s i), iv i] ++ List.replicate 111 .any := ⟨_, fun _ => rfl⟩
  refine W.loopG (γ := Nat) (fun i => f.objs.length - i) S (fun _ => K) (fun i => i ≤ f.objs.length) 0 (by rw [hK]; exact Wk.slots (by rw [hS]; exact WkL.tail 9 _ rfl (by simp only [List.take_succ_cons, List.take_zero]; repeat' first | exact WkL.nil | refine WkL.cons (Wk1.rfl _) ?_ | refine WkL.cons Wk1.esl ?_ | refine WkL.cons (Wk1.gsl _ _ _) ?_ | refine WkL.cons (Wk1.any _) ?_))) (Nat.zero_le _) (fun i hi => ?_)
  by_cases hi3 : i < f.objs.length
  ·have hia := iaA_ob (t := f.objs) (a := i) (by omega) (by omega)
   rw [show obAt f.objs (i : Int) = f.objs.getD i default from rfl] at hia
   have own := find_own hF.od hi3
   have fo := fun H => find_d ho own H
   have hTi : (e = 0 ∧ ∃ y, FindP T.objs (f.objs.getD i default).name y true ∧ y.cls = (f.objs.getD i default).cls ∧ y.n = (f.objs.getD i default).n) ∨ (e = 160 ∧ FindP T.objs (f.objs.getD i default).name default false) := by
    rcases hTe with ⟨h1, h2⟩ | ⟨h1, h2⟩
    ·exact .inl ⟨h1, h2 i hi3⟩
    ·exact .inr ⟨h1, h2 _⟩
   have hany := anyN_s (s := s) hi3
   generalize hx : f.objs.getD i default = x at *
   simp (maxSteps := 2000000) (disch := omega) only [hS, c6l0, k10, List.length_map, go_sem, seval, reduceCtorEq]
   have kn2 : kill [H.length + 2, H.length + 2] K = K := kill_ge fun b hb => by simp only [List.mem_cons, List.not_mem_nil, or_false] at hb; omega
   have kn : kill [H.length + 2] K = K := kill_ge fun b hb => by rw [List.mem_singleton] at hb; omega
   refine W.dregD [([], [H.length + 2]), ([], [H.length + 2]), ([], [H.length + 2]), ([], [H.length + 2]), ([], [H.length + 2]), ([], [H.length + 2]), ([], [H.length + 2]), ([], [H.length + 2]), ([], [H.length + 2]), ([], [H.length + 2]), ([], [H.length + 2]), ([], [H.length + 2, H.length + 2]), ([H.length + 2], []), ([H.length + 2], []), ([], [])] follows (by decide +kernel) rfl rfl (fun z hz b hb => ?_) ?_
   ·have hq : z.2 = [] ∧ K.length ≤ b := by
     simp only [List.mem_cons, List.not_mem_nil, or_false] at hz
     rcases hz with rfl | rfl | rfl | rfl | rfl | rfl | rfl | rfl | rfl | rfl | rfl | rfl | rfl | rfl | rfl <;> simp only [List.mem_cons, List.not_mem_nil, or_false] at hb <;> first | exact hb.elim | exact ⟨rfl, by omega⟩
    rw [hq.1, List.getElem?_eq_none hq.2]
    simp
   repeat (rw [DC_p]; simp (maxSteps := 2000000) (disch := omega) only [kn, k10, go_sem, seval, reduceCtorEq])
   refine PCont.mk (copy16_c hs hu ho _) ?_
   simp (maxSteps := 2000000) (disch := omega) only [go_sem, seval, reduceCtorEq]
   repeat (rw [DC_p]; simp (maxSteps := 2000000) (disch := omega) only [kn, k10, hia, Ob.c, go_sem, seval, reduceCtorEq])
   refine PCont.mk (fo _) ?_
   simp (maxSteps := 2000000) (disch := omega) only [go_sem, seval, reduceCtorEq]
   repeat (rw [DC_p]; simp (maxSteps := 2000000) (disch := omega) only [kn, k10, hia, Ob.c, go_sem, seval, reduceCtorEq])
   refine WStep.ev (fun _ _ e => by cases e) (fun _ _ e => by cases e) ?_
   try simp (maxSteps := 2000000) (disch := omega) only [lK, go_sem, seval, reduceCtorEq]
   refine ⟨FrOk.app (u := []) (fun k hk => by simp at hk; simp [hk, lK]) (by simp), ?_⟩
   have sl : ∀ k k', (K ++ [k]).set (H.length + 2) k' = K ++ [k'] := fun k k' => by rw [← lK, List.set_append_right _ _ (Nat.le_refl _), Nat.sub_self]; rfl
   have gl : ∀ k, (K ++ [k])[H.length + 2]? = some k := fun k => by rw [← lK, List.getElem?_concat_length]
   have fr : ∀ k k', FrOk [H.length + 2] [] (K ++ [k]) (K ++ [k']) (K ++ [k']) := fun k k' => by
    have := FrOk.set (w := [H.length + 2]) (H := K ++ [k]) (b := H.length + 2) (x := k') (by simp); rwa [sl] at this
   try simp (maxSteps := 2000000) (disch := omega) only [go_sem, seval, reduceCtorEq]
   refine WStep.ev (fun _ _ e => by cases e) (fun _ _ e => by cases e) ?_
   try simp (maxSteps := 2000000) (disch := omega) only [gl, sl, Ob.cs, go_sem, seval, reduceCtorEq]
   refine ⟨fr _ _, ?_⟩
   repeat (rw [DC_p]; simp (maxSteps := 2000000) (disch := omega) only [go_sem, seval, reduceCtorEq])
   refine W.pchain follows (by decide +kernel) ?_
   simp (maxSteps := 2000000) (disch := omega) only [gl, k1, hia, Ob.c, go_sem, seval, reduceCtorEq]
   refine PCont.mk (rsobj_c x x _) ?_
   simp (maxSteps := 2000000) (disch := omega) only [dcT (rfl : x = x), go_sem, seval, reduceCtorEq]
   obtain ⟨y, b, hy, hcond⟩ : ∃ y b, FindP T.objs x.name y b ∧ ((e = 0 ∧ b = true ∧ y.cls = x.cls ∧ y.n = x.n) ∨ e = 160) := by
    rcases hTi with ⟨h1, y, h2, h3, h4⟩ | ⟨h1, h2⟩
    ·exact ⟨y, true, h2, .inl ⟨h1, rfl, h3, h4⟩⟩
    ·exact ⟨default, false, h2, .inr h1⟩
   obtain ⟨K', hK'⟩ : ∃ K', K ++ [ABlk.cells [iv x.cls, sv x.name, iv x.typ, iv x.val.form, iv x.val.n, sv x.val.text, iv x.n]] = K' := ⟨_, rfl⟩
   have lK' : K'.length = H.length + 3 := by rw [← hK']; simp [lK]
   have k1' : ∀ l, (K' ++ l)[H.length]? = some (ABlk.cells [sv f.name, wv f.key, usv f.uses, tv f.types, obv f.objs]) := fun l => by rw [← hK', List.append_assoc]; exact k1 _
   have k2' : ∀ l, (K' ++ l)[H.length + 1]? = some (ABlk.cells [sv T.name, wv T.key, usv T.uses, tv T.types, obv T.objs]) := fun l => by rw [← hK', List.append_assoc]; exact k2 _
   have k10' := k1' []
   have k20' := k2' []
   rw [List.append_nil] at k10' k20'
   have xl : ∀ l, (K' ++ l)[H.length + 2]? = some (ABlk.cells [iv x.cls, sv x.name, iv x.typ, iv x.val.form, iv x.val.n, sv x.val.text, iv x.n]) := fun l => hold (by rw [← hK']; exact gl _) _
   have kn' : kill [H.length + 3] K' = K' := kill_ge fun b hb => by rw [List.mem_singleton] at hb; omega
   have kn2' : kill [H.length + 3, H.length + 3] K' = K' := kill_ge fun b hb => by simp only [List.mem_cons, List.not_mem_nil, or_false] at hb; omega
   try simp (maxSteps := 2000000) (disch := omega) only [hK', go_sem, seval, reduceCtorEq]
   refine W.dregD [([], [H.length + 3]), ([], [H.length + 3]), ([], [H.length + 3]), ([], [H.length + 3]), ([], [H.length + 3]), ([], [H.length + 3]), ([], [H.length + 3]), ([], [H.length + 3]), ([], [H.length + 3]), ([], [H.length + 3]), ([], [H.length + 3, H.length + 3]), ([H.length + 3], []), ([H.length + 3], []), ([], [])] follows (by decide +kernel) rfl rfl (fun z hz b hb => ?_) ?_
   ·have hq : z.2 = [] ∧ K'.length ≤ b := by
     simp only [List.mem_cons, List.not_mem_nil, or_false] at hz
     rcases hz with rfl | rfl | rfl | rfl | rfl | rfl | rfl | rfl | rfl | rfl | rfl | rfl | rfl | rfl <;> simp only [List.mem_cons, List.not_mem_nil, or_false] at hb <;> first | exact hb.elim | exact ⟨rfl, by omega⟩
    rw [hq.1, List.getElem?_eq_none hq.2]
    simp
   repeat (rw [DC_p]; simp (maxSteps := 2000000) (disch := omega) only [kn', k10', k20', hia, Ob.c, go_sem, seval, reduceCtorEq])
   refine PCont.mk (find_d hTo hy _) ?_
   simp (maxSteps := 2000000) (disch := omega) only [go_sem, seval, reduceCtorEq]
   repeat (rw [DC_p]; simp (maxSteps := 2000000) (disch := omega) only [kn', kn2', k10', hia, Ob.c, go_sem, seval, reduceCtorEq])
   refine WStep.ev (fun _ _ e => by cases e) (fun _ _ e => by cases e) ?_
   try simp (maxSteps := 2000000) (disch := omega) only [lK', go_sem, seval, reduceCtorEq]
   refine ⟨FrOk.app (u := []) (fun k hk => by simp at hk; simp [hk, lK']) (by simp), ?_⟩
   have sl' : ∀ k k', (K' ++ [k]).set (H.length + 3) k' = K' ++ [k'] := fun k k' => by rw [← lK', List.set_append_right _ _ (Nat.le_refl _), Nat.sub_self]; rfl
   have gl' : ∀ k, (K' ++ [k])[H.length + 3]? = some k := fun k => by rw [← lK', List.getElem?_concat_length]
   have fr' : ∀ k k', FrOk [H.length + 3] [] (K' ++ [k]) (K' ++ [k']) (K' ++ [k']) := fun k k' => by
    have := FrOk.set (w := [H.length + 3]) (H := K' ++ [k]) (b := H.length + 3) (x := k') (by simp); rwa [sl'] at this
   try simp (maxSteps := 2000000) (disch := omega) only [go_sem, seval, reduceCtorEq]
   refine WStep.ev (fun _ _ e => by cases e) (fun _ _ e => by cases e) ?_
   try simp (maxSteps := 2000000) (disch := omega) only [gl', sl', Ob.cs, go_sem, seval, reduceCtorEq]
   refine ⟨fr' _ _, ?_⟩
   repeat (rw [DC_p]; simp (maxSteps := 2000000) (disch := omega) only [go_sem, seval, reduceCtorEq])
   have hx' : ∀ k, K' ++ [k] = K ++ [ABlk.cells [iv x.cls, sv x.name, iv x.typ, iv x.val.form, iv x.val.n, sv x.val.text, iv x.n], k] := fun k => by rw [← hK', List.append_assoc]; rfl
   have nx : ∀ {s' : List AV} {k : ABlk}, WkL s' (S (i + 1)) → Nxt H.length (fun i => f.objs.length - i) S (fun _ => K) (fun i => i ≤ f.objs.length) (f.objs.length - i) s' (K' ++ [k]) := fun {s' k} hw => by
    rw [hx']
    exact Nxt.mk (i + 1) (by omega) (Wk.drop hw (by omega) hclK (by rw [hS]; simp [refs.refsL, refs, lK])) (by omega)
   rcases hcond with ⟨rfl, rfl, hc1, hc2⟩ | rfl
   ·cases hA : anyN f.objs s i with
    | true =>
     rw [hA] at hany
     simp (maxSteps := 2000000) (disch := omega) only [gl', xl, k1', hc1, hc2, go_sem, seval, reduceCtorEq]
     exact nx (by rw [hS, hany]; exact WkL.tail 9 _ rfl (by simp only [List.take_succ_cons, List.take_zero]; repeat' first | exact WkL.nil | refine WkL.cons (Wk1.rfl _) ?_ | refine WkL.cons Wk1.esl ?_ | refine WkL.cons (Wk1.gsl _ _ _) ?_ | refine WkL.cons (Wk1.any _) ?_))
    | false =>
     rw [hA] at hany
     simp (maxSteps := 2000000) (disch := omega) only [gl', xl, k1', hc1, hc2, hia, Ob.c, go_sem, seval, reduceCtorEq]
     exact nx (by rw [hS, hany]; exact WkL.tail 9 _ rfl (by simp only [List.take_succ_cons, List.take_zero]; repeat' first | exact WkL.nil | refine WkL.cons (Wk1.rfl _) ?_ | refine WkL.cons Wk1.esl ?_ | refine WkL.cons (Wk1.gsl _ _ _) ?_ | refine WkL.cons (Wk1.any _) ?_))
   ·cases hA : anyN f.objs s i with
    | true =>
     rw [hA] at hany
     simp (maxSteps := 2000000) (disch := omega) only [gl', xl, k1', go_sem, seval, reduceCtorEq]
     exact nx (by rw [hS, hany]; exact WkL.tail 9 _ rfl (by simp only [List.take_succ_cons, List.take_zero]; repeat' first | exact WkL.nil | refine WkL.cons (Wk1.rfl _) ?_ | refine WkL.cons Wk1.esl ?_ | refine WkL.cons (Wk1.gsl _ _ _) ?_ | refine WkL.cons (Wk1.any _) ?_))
    | false =>
     rw [hA] at hany
     simp (maxSteps := 2000000) (disch := omega) only [gl', xl, k1', hia, Ob.c, go_sem, seval, reduceCtorEq]
     exact nx (by rw [hS, hany]; exact WkL.tail 9 _ rfl (by simp only [List.take_succ_cons, List.take_zero]; repeat' first | exact WkL.nil | refine WkL.cons (Wk1.rfl _) ?_ | refine WkL.cons Wk1.esl ?_ | refine WkL.cons (Wk1.gsl _ _ _) ?_ | refine WkL.cons (Wk1.any _) ?_))
  ·have hin : i = f.objs.length := by omega
   subst hin
   simp (maxSteps := 2000000) (disch := omega) only [hS, c6l0, k10, List.length_map, go_sem, seval, reduceCtorEq]
   refine Cont.mk (copy16_c hs hu ho _) ?_
   simp (maxSteps := 2000000) (disch := omega) only [go_sem, seval, reduceCtorEq]
   refine Cont.rel (find_c ho s _) ?_
   rintro v H' ⟨⟨x, b, rfl, hx⟩, rfl⟩
   have hb := anyN_n hx
   simp (maxSteps := 2000000) (disch := omega) only [Ob.cs, hb, go_sem, seval, reduceCtorEq]
   refine Cont.mk (wakesW_c _) ?_
   simp (maxSteps := 2000000) (disch := omega) only [go_sem, seval, reduceCtorEq]
   exact out (by rw [← hK, List.append_assoc]; exact List.prefix_append _ _) rfl
end Go.Proofs.Ythifjndenhjobaa
