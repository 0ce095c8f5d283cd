/- Plain law: what was trimmed is not larger, fits, and is trimmed to itself. -/
import Derived.Test.YthifjndenhjobaaZJA
import Derived.Test.YthifjndenhjobaaZII
import Derived.Test.YthifjndenhjobaaZKW
namespace Go.Proofs.Ythifjndenhjobaa
set_option linter.unusedSimpArgs false
set_option linter.unusedVariables false
open Go.RowKit

theorem sum_cons_perm {l : List Int} {a : Int} (g : Int → Nat) (h : a ∈ l) : (l.map g).sum = g a + ((l.erase a).map g).sum := by
 induction l with
 | nil => cases h
 | cons b l ih =>
  by_cases e : b = a
  ·subst e; rw [List.erase_cons_head]; simp
  ·have hb : (b == a) = false := by simpa using e
   rw [List.erase_cons_tail (by rw [hb]; simp)]
   have h' : a ∈ l := by
    rcases List.mem_cons.1 h with h | h
    ·exact absurd h.symm e
    ·exact h
   simp only [List.map_cons, List.sum_cons]
   rw [ih h']; omega
theorem sum_sub {t : List Ty} : ∀ (n : Nat) (o : List Int), n ≤ t.length → o.Nodup → (∀ a ∈ o, 0 ≤ a ∧ a < n) → (o.map fun a => tyW (tyAt t a)).sum ≤ sumW (t.take n)
 | 0, o, _, _, h => by
  cases o with
  | nil => simp
  | cons a o => have := h a List.mem_cons_self; omega
 | n + 1, o, hn, hd, h => by
  rw [sumW_take hn]
  by_cases hm : (n : Int) ∈ o
  ·rw [sum_cons_perm _ hm]
   have := sum_sub (t := t) n (o.erase n) (by omega) (hd.erase _) fun a ha => by
    have h1 := h a (List.mem_of_mem_erase ha)
    have h2 : a ≠ n := fun e => by rw [e] at ha; exact (hd.not_mem_erase) ha
    omega
   have e : tyW (tyAt t (n : Int)) = tyW (t.getD n default) := rfl
   omega
  ·have := sum_sub (t := t) n o (by omega) hd fun a ha => by
    have h1 := h a ha
    have h2 : a ≠ n := fun e => hm (e ▸ ha)
    omega
   omega
theorem sumW_map {α : Type} (g : α → Ty) (l : List α) : sumW (l.map g) = (l.map fun a => tyW (g a)).sum := by
 induction l with
 | nil => rfl
 | cons a l ih => simp only [List.map_cons, sumW, List.sum_cons, ih]
section
variable {f : Fc} {o : List Int} (ho : Ord f.types o)
include ho
theorem sum_trim : sumW (newT f.name f.types o) ≤ sumW f.types := by
 have h1 : sumW basicL = 0 := by decide +kernel
 have h2 : (List.range o.length).map (fun k => tyW (ntF f.name f.types o k)) = o.map fun a => tyW (tyAt f.types a) := by
  refine List.ext_getElem (by simp) fun i h1 h2 => ?_
  rw [List.getElem_map, List.getElem_map, List.getElem_range]
  have hi : i < o.length := by simpa using h2
  have e : o.getD i 0 = o[i] := by rw [List.getD_eq_getElem?_getD, List.getElem?_eq_getElem hi]; rfl
  simp only [ntF, e, tyW, trnT, List.length_map]
 rw [newT, sumW_app, h1, sumW_map, h2]
 have := sum_sub (t := f.types) f.types.length o (Nat.le_refl _) ho.nd fun a ha => by have := ho.rng a ha; omega
 rw [List.take_length] at this
 omega
theorem less_trim (hl : Less f) (h256 : f.types.length ≤ 256) : Less (trimF f o) := by
 have h1 := nodup_len ho.nd ho.rng
 refine ⟨hl.us, by simp only [trimF, List.length_map]; exact hl.os, hl.nm, ⟨?_, ?_⟩, fun i hi => ?_, hl.un⟩
 ·show (newT f.name f.types o).length ≤ 300
  rw [newT_len]; omega
 ·have := sum_trim ho
  have h2 := hl.ty.2
  show sumW (newT f.name f.types o) ≤ 3000
  omega
 ·have hi' : i < f.objs.length := by simpa [trimF] using hi
  have := hl.ob i hi'
  show ((f.objs.map (trimO o)).getD i default).name.size ≤ 500 ∧ ((f.objs.map (trimO o)).getD i default).val.text.size ≤ 500
  rw [List.getD_eq_getElem?_getD, List.getElem?_map, List.getElem?_eq_getElem hi']
  rw [List.getD_eq_getElem?_getD, List.getElem?_eq_getElem hi'] at this
  exact this
theorem pl_J (h256 : f.types.length ≤ 256) {k : Int} (h : J64 k) : J64 (pl o k) := by
 have := nodup_len ho.nd ho.rng
 have := List.idxOf_le_length (a := k) (l := o)
 unfold J64 at h ⊢
 rw [pl]
 split <;> omega
theorem ffit_trim (h256 : f.types.length ≤ 256) (hf : FFit f) : FFit (trimF f o) := by
 refine ⟨hf.us, fun x hx => ?_, newT_all (fun i hi => ?_) fun k hk => ?_⟩
 ·obtain ⟨y, hy, rfl⟩ := List.mem_map.1 (show x ∈ f.objs.map (trimO o) from hx)
  have h := hf.os y hy
  exact ⟨h.a0, h.a1, pl_J ho h256 h.a2, h.a3, h.a4, h.a5, h.a6⟩
 ·exact ⟨by rw [(bt_small i).1]; simp, by rw [(bt_small i).2.1]; simp, (fun f hf => by rw [(bt_small i).1] at hf; cases hf), (fun p hp => by rw [(bt_small i).2.1] at hp; cases hp)⟩
 ·have h := hf.ts _ (ho.at_mem hk)
  refine ⟨?_, ?_, fun g hg => ?_, fun p hp => ?_⟩
  ·simp only [ntF, trnT, List.length_map]; exact h.1
  ·simp only [ntF, trnT, List.length_map]; exact h.2
  ·simp only [ntF, trnT] at hg
   obtain ⟨z, hz, rfl⟩ := List.mem_map.1 hg
   have hz := h.ff z hz
   exact ⟨hz.a0, hz.a1, pl_J ho h256 hz.a2⟩
  ·simp only [ntF, trnT] at hp
   obtain ⟨z, hz, rfl⟩ := List.mem_map.1 hp
   have hz := h.fp z hz
   exact ⟨hz.a0, pl_J ho h256 hz.a1⟩
end
theorem trimV_again {f : Fc} (hf : FrameP f) (hc : ownN f (ordF f) ≤ 64) : FaceP (trimF f (ordF f)) ∧ trimV (trimF f (ordF f)) = (trimF f (ordF f), 0) := by
 have hv := ordF_vis hf
 have h1 := hf.trim hv hc
 have h2 := h1.frame
 have hv2 := ordF_vis h2
 obtain ⟨a1, a2⟩ := hf.again hv hc hv2
 refine ⟨h1, ?_⟩
 rw [trimV, if_pos ⟨h2, a2⟩, a1]
end Go.Proofs.Ythifjndenhjobaa

/- IfaceAgain. -/
namespace Go.Proofs.Ythifjndenhjobaa
set_option linter.unusedSimpArgs false
set_option linter.unusedVariables false
set_option maxRecDepth 20000
set_option maxHeartbeats 4000000
open Go.RowKit

def c8l0 : AC :=
 .seq (.seq (.reg [kn 75 (.mv (.t 7)), kn 76 (.fa (.t 1) 4), kn 77 (.ld (.t 76) 1 false), kn 78 (.len false (.t 77)), kn 79 (.bin .lss (.t 75) (.t 78))])
 (.cond (.t 79) (.skip) (.exit 0)))
 (.seq (.block 1 (.seq (.dreg [[], [0], [], [1, 2], [3], [4], [], [6], [], [7, 8], [9], [10], [5, 11], [12], [13], [14, 13], [13], [15, 16, 13], [17, 13], [18, 13], [13], [20, 13], [13], [21, 22, 13], [23, 13], [24, 13], [19, 25, 13], [13, 26], [27, 13], [28], [29, 28], [28], [30, 31, 28], [32, 28], [33, 28], [28], [35, 28], [28], [36, 37, 28], [38, 28], [39, 28], [34, 40, 28], [28, 41], [42, 28], [43], [44, 43], [43], [46, 43], [43], [47, 48, 43], [49, 43], [50, 43], [45, 51, 43], [52, 43], [53, 43], [43], [55, 43], [43], [57, 43], [43], [58, 59, 43], [60, 43], [61, 43], [56, 62, 43], [63, 43], [64, 43], [54, 65, 43], [43, 66]] [kn 82 (.fa (.t 3) 4), kn 83 (.ld (.t 82) 1 false), kn 84 (.mv (.t 7)), kn 85 (.ia (.t 83) (.t 84) 7), kn 86 (.fa (.t 85) 1), kn 87 (.ld (.t 86) 1 false), kn 88 (.fa (.t 1) 4), kn 89 (.ld (.t 88) 1 false), kn 90 (.mv (.t 7)), kn 91 (.ia (.t 89) (.t 90) 7), kn 92 (.fa (.t 91) 1), kn 93 (.ld (.t 92) 1 false), kn 94 (.bin .neq (.t 87) (.t 93)), kn 95 (.mv (.t 94)), ko 96 95 (.fa (.t 3) 4), ko 97 95 (.ld (.t 96) 1 false), ko 98 95 (.mv (.t 7)), ko 99 95 (.ia (.t 97) (.t 98) 7), ko 100 95 (.fa (.t 99) 0), ko 101 95 (.ld (.t 100) 1 false), ko 102 95 (.fa (.t 1) 4), ko 103 95 (.ld (.t 102) 1 false), ko 104 95 (.mv (.t 7)), ko 105 95 (.ia (.t 103) (.t 104) 7), ko 106 95 (.fa (.t 105) 0), ko 107 95 (.ld (.t 106) 1 false), ko 108 95 (.bin .neq (.t 101) (.t 107)), kn 109 (.pick (.t 95) (.c (.d (.v (.bool true)))) (.t 108)), kn 110 (.mv (.t 109)), ko 111 110 (.fa (.t 3) 4), ko 112 110 (.ld (.t 111) 1 false), ko 113 110 (.mv (.t 7)), ko 114 110 (.ia (.t 112) (.t 113) 7), ko 115 110 (.fa (.t 114) 6), ko 116 110 (.ld (.t 115) 1 false), ko 117 110 (.fa (.t 1) 4), ko 118 110 (.ld (.t 117) 1 false), ko 119 110 (.mv (.t 7)), ko 120 110 (.ia (.t 118) (.t 119) 7), ko 121 110 (.fa (.t 120) 6), ko 122 110 (.ld (.t 121) 1 false), ko 123 110 (.bin .neq (.t 116) (.t 122)), kn 124 (.pick (.t 110) (.c (.d (.v (.bool true)))) (.t 123)), kn 125 (.mv (.t 124)), ko 126 125 (.fa (.t 3) 3), ko 127 125 (.ld (.t 126) 1 false), ko 128 125 (.fa (.t 3) 4), ko 129 125 (.ld (.t 128) 1 false), ko 130 125 (.mv (.t 7)), ko 131 125 (.ia (.t 129) (.t 130) 7), ko 132 125 (.fa (.t 131) 2), ko 133 125 (.ld (.t 132) 1 false), ko 134 125 (.ia (.t 127) (.t 133) 10), ko 135 125 (.fa (.t 134) 0), ko 136 125 (.ld (.t 135) 1 false), ko 137 125 (.fa (.t 1) 3), ko 138 125 (.ld (.t 137) 1 false), ko 139 125 (.fa (.t 1) 4), ko 140 125 (.ld (.t 139) 1 false), ko 141 125 (.mv (.t 7)), ko 142 125 (.ia (.t 140) (.t 141) 7), ko 143 125 (.fa (.t 142) 2), ko 144 125 (.ld (.t 143) 1 false), ko 145 125 (.ia (.t 138) (.t 144) 10), ko 146 125 (.fa (.t 145) 0), ko 147 125 (.ld (.t 146) 1 false), ko 148 125 (.bin .neq (.t 136) (.t 147)), kn 149 (.pick (.t 125) (.c (.d (.v (.bool true)))) (.t 148))])
 (.cond (.t 149) (.seq (.reg [kn 2 (.mv (.c (.d (.v (.bool false)))))])
 (.ret)) (.skip))))
 (.reg [kn 80 (.mv (.t 7)), kn 81 (.bin .add (.t 80) (kc 1)), kn 7 (.mv (.t 81))]))

def c8 : AC :=
 .seq (.reg [kn 1 (.bx (.t 0)), kn 2 (.mv (.c (.d (.v (.bool false)))))])
 (.seq (.seq (.reg [kn 8 (.ld (.t 1) 5 true), kn 9 (.call 14 [(.t 8)])])
 (.cond (.t 9) (.seq (.reg [kn 10 (.call 15 []), kn 2 (.mv (.t 10))])
 (.ret)) (.skip)))
 (.seq (.reg [kn 12 (.ld (.t 1) 5 true), kn 13 (.call 16 [(.t 12)]), kn 14 (.call 23 [(.t 13)]), kn 11 (.mv (.t 14)), kn 15 (.ext (.t 11) 0), kn 16 (.ext (.t 11) 1), kn 3 (.al [(.d (.v (.string ⟨#[]⟩))), (.d (.v (.int .u32 0))), .esl, .esl, .esl]), ke (.st (.t 3) (.t 15) 5), kn 4 (.mv (.t 16))])
 (.seq (.seq (.reg [kn 17 (.mv (.t 4)), kn 18 (.bin .neq (.t 17) (kc 0))])
 (.cond (.t 18) (.seq (.reg [kn 19 (.mv (.t 4)), kn 20 (.bin .eql (.t 19) (kc 160)), kn 21 (.mv (.t 20)), ky 22 21 (.fa (.t 3) 3), ky 23 21 (.ld (.t 22) 1 false), ky 24 21 (.len false (.t 23)), ky 25 21 (.bin .eql (.t 24) (kc 0)), kn 26 (.pick (.t 21) (.t 25) (.c (.d (.v (.bool false))))), kn 27 (.mv (.t 26)), ky 28 27 (.fa (.t 3) 0), ky 29 27 (.ld (.t 28) 1 false), ky 30 27 (.bin .eql (.t 29) (.c (.d (.v (.string ⟨#[]⟩))))), kn 31 (.pick (.t 27) (.t 30) (.c (.d (.v (.bool false))))), kn 32 (.mv (.t 31)), ky 33 32 (.call 15 []), kn 34 (.pick (.t 32) (.t 33) (.c (.d (.v (.bool false))))), kn 2 (.mv (.t 34))])
 (.ret)) (.skip)))
 (.seq (.seq (.reg [kn 35 (.ld (.t 3) 5 true), kn 36 (.call 14 [(.t 35)]), kn 37 (.mv (.t 36)), ko 38 37 (.fa (.t 3) 4), ko 39 37 (.ld (.t 38) 1 false), ko 40 37 (.len false (.t 39)), ko 41 37 (.fa (.t 1) 4), ko 42 37 (.ld (.t 41) 1 false), ko 43 37 (.len false (.t 42)), ko 44 37 (.bin .neq (.t 40) (.t 43)), kn 45 (.pick (.t 37) (.c (.d (.v (.bool true)))) (.t 44)), kn 46 (.mv (.t 45)), ko 47 46 (.fa (.t 3) 3), ko 48 46 (.ld (.t 47) 1 false), ko 49 46 (.len false (.t 48)), ko 50 46 (.fa (.t 1) 3), ko 51 46 (.ld (.t 50) 1 false), ko 52 46 (.len false (.t 51)), ko 53 46 (.bin .gtr (.t 49) (.t 52)), kn 54 (.pick (.t 46) (.c (.d (.v (.bool true)))) (.t 53))])
 (.cond (.t 54) (.seq (.reg [kn 2 (.mv (.c (.d (.v (.bool false)))))])
 (.ret)) (.skip)))
 (.seq (.reg [kn 56 (.ld (.t 3) 5 true), kn 57 (.call 16 [(.t 56)]), kn 58 (.call 23 [(.t 57)]), kn 55 (.mv (.t 58)), kn 59 (.ext (.t 55) 0), kn 60 (.ext (.t 55) 1), kn 5 (.al [(.d (.v (.string ⟨#[]⟩))), (.d (.v (.int .u32 0))), .esl, .esl, .esl]), ke (.st (.t 5) (.t 59) 5), kn 6 (.mv (.t 60))])
 (.seq (.seq (.reg [kn 61 (.mv (.t 6)), kn 62 (.bin .neq (.t 61) (kc 0)), kn 63 (.mv (.t 62)), ko 64 63 (.ld (.t 3) 5 true), ko 65 63 (.call 16 [(.t 64)]), ko 66 63 (.call 19 [(.t 65)]), ko 67 63 (.un .not (.t 66)), kn 68 (.pick (.t 63) (.c (.d (.v (.bool true)))) (.t 67)), kn 69 (.mv (.t 68)), ko 70 69 (.ld (.t 3) 5 true), ko 71 69 (.ld (.t 5) 5 true), ko 72 69 (.call 25 [(.t 70), (.t 71)]), ko 73 69 (.un .not (.t 72)), kn 74 (.pick (.t 69) (.c (.d (.v (.bool true)))) (.t 73))])
 (.cond (.t 74) (.seq (.reg [kn 2 (.mv (.c (.d (.v (.bool false)))))])
 (.ret)) (.skip)))
 (.seq (.seq (.reg [kn 7 (.mv (kc 0))])
 (.block 0 (.loop c8l0)))
 (.seq (.reg [kn 150 (.call 15 []), kn 2 (.mv (.t 150))])
 (.ret)))))))))
def r8 : List RC := [.t 2]

theorem cc8 : Try.f8.body.bind (comp Try.prog (hhI 8)) = some c8 := by kernel_rfl
theorem rr8 : resC Try.prog Try.f8 = some r8 := by kernel_rfl
theorem IfaceAgain_c {f : Fc} (hf : FIn f) (gf : FFit f) (H : List ABlk) : ACalls Try.prog 8 [f.av] H fun v H' => v = bv true ∧ H' = H := by
 refine ACalls.into Try.func8 cc8 rr8 fun hcl => ?_
 have out : ∀ {b : Bool} {G : List ABlk}, H <+: G → b = true → Ret r8 H.length (fun v H' => v = bv true ∧ H' = H) (some (bv b)) G := fun {b G} hG h =>
  Ret.pre _ H hG (Nat.le_refl _) hcl (.rfl _) (by simp [refs]) ⟨by rw [h], rfl⟩
 simp (maxSteps := 2000000) (disch := omega) only [Try.ntmps8, c8, r8, Fc.cs, go_sem, seval, reduceCtorEq]
 refine Cont.rel (large16_c hf _) ?_
 rintro v H' ⟨⟨B, rfl, hB⟩, rfl⟩
 cases hBv : B with
 | true =>
  simp (maxSteps := 2000000) (disch := omega) only [go_sem, seval, reduceCtorEq]
  refine Cont.mk (wakesW_c _) ?_
  simp (maxSteps := 2000000) (disch := omega) only [go_sem, seval, reduceCtorEq]
  exact out (List.prefix_append _ _) rfl
 | false =>
  have hL := hB.1 hBv
  obtain ⟨hs, hu, ho⟩ := hL.sm
  simp (maxSteps := 2000000) (disch := omega) only [go_sem, seval, reduceCtorEq]
  refine Cont.mk (copy16_c hs hu ho _) ?_
  simp (maxSteps := 2000000) (disch := omega) only [go_sem, seval, reduceCtorEq]
  refine Cont.mk (iTrim_c hf hs _) ?_
  rcases trimV_cases f with ⟨hF, hc, h3⟩ | h3
  rotate_left
  ·rw [h3]
   simp (maxSteps := 2000000) (disch := omega) only [Fc.cs, zeF, List.length_nil, List.map_nil, go_sem, seval, reduceCtorEq]
   refine Cont.mk (wakesW_c _) ?_
   simp (maxSteps := 2000000) (disch := omega) only [go_sem, seval, reduceCtorEq]
   exact out (List.prefix_append _ _) rfl
  rw [h3]
  obtain ⟨hT, hA⟩ := trimV_again hF hc
  have hv := ordF_vis hF
  have hord := hF.ord hv
  have h256 := hF.ty.len.2
  have hsT : Small (trimF f (ordF f)).types := small_trim hord h256 hs
  have hfT := fin_trim hord h256 hs hf
  have gfT := ffit_trim hord h256 gf
  have hLT := less_trim hord hL h256
  have hnT : (trimF f (ordF f)).types.length ≤ f.types.length := by
   show (newT _ _ _).length ≤ _
   rw [newT_len]; have := nodup_len hord.nd hord.rng; have := hF.ty.len.1; omega
  have hoT : (trimF f (ordF f)).objs.length = f.objs.length := by simp [trimF]
  have hobT : ∀ i, i < f.objs.length → (trimF f (ordF f)).objs.getD i default = trimO (ordF f) (f.objs.getD i default) := fun i hi => by
   show (f.objs.map (trimO (ordF f))).getD i default = _
   rw [List.getD_eq_getElem?_getD, List.getD_eq_getElem?_getD, List.getElem?_map, List.getElem?_eq_getElem hi]; rfl
  have hfm : ∀ x ∈ f.objs, (0 ≤ (trimO (ordF f) x).typ ∧ (trimO (ordF f) x).typ < (trimF f (ordF f)).types.length) ∧ (tyAt (trimF f (ordF f)).types (trimO (ordF f) x).typ).form = (tyAt f.types x.typ).form := fun x hx => by
   obtain ⟨q1, q2⟩ := hF.typ hv hx
   exact ⟨Ord.pl_rng hF.ty hord q1 q2, Ord.form hF.ty hord q1 q2⟩
  obtain ⟨T, hTe⟩ : ∃ T, trimF f (ordF f) = T := ⟨_, rfl⟩
  rw [hTe] at hT hA hsT hfT gfT hLT hnT hoT hobT hfm ⊢
  obtain ⟨hs2, hu2, ho2⟩ := hLT.sm
  simp (maxSteps := 2000000) (disch := omega) only [Fc.cs, go_sem, seval, reduceCtorEq]
  refine Cont.rel (large16_c hfT _) ?_
  rintro v H'' ⟨⟨B2, rfl, hB2⟩, rfl⟩
  rw [hB2.2 hLT]
  simp (maxSteps := 2000000) (disch := omega) only [List.length_map, go_sem, seval, reduceCtorEq]
  refine Cont.mk (copy16_c hs2 hu2 ho2 _) ?_
  simp (maxSteps := 2000000) (disch := omega) only [go_sem, seval, reduceCtorEq]
  refine Cont.mk (iTrim_c hfT hsT _) ?_
  rw [hA]
  simp (maxSteps := 2000000) (disch := omega) only [Fc.cs, go_sem, seval, reduceCtorEq]
  refine Cont.mk (copy16_c hs2 hu2 ho2 _) ?_
  simp (maxSteps := 2000000) (disch := omega) only [go_sem, seval, reduceCtorEq]
  refine Cont.mk (igood16_c hfT hsT _) ?_
  rw [cdec_t hT]
  simp (maxSteps := 2000000) (disch := omega) only [go_sem, seval, reduceCtorEq]
  refine Cont.mk (same_c hfT hfT gfT gfT _) ?_
  rw [cdec_t rfl]
  simp (maxSteps := 2000000) (disch := omega) only [go_sem, seval, reduceCtorEq]
  have hob64 := hF.os
  have h7 := hF.ty.len.1
  obtain ⟨K, hK⟩ : ∃ K, H ++ [ABlk.cells [sv f.name, wv f.key, usv f.uses, tv f.types, obv f.objs], ABlk.cells [sv T.name, wv T.key, usv T.uses, tv T.types, obv T.objs], ABlk.cells [sv T.name, wv T.key, usv T.uses, tv T.types, obv T.objs]] = K := ⟨_, rfl⟩
  have k1 : K[H.length]? = some (ABlk.cells [sv f.name, wv f.key, usv f.uses, tv f.types, obv f.objs]) := by rw [← hK, List.getElem?_append_right (Nat.le_refl _), Nat.sub_self]; rfl
  have k2 : K[H.length + 1]? = some (ABlk.cells [sv T.name, wv T.key, usv T.uses, tv T.types, obv T.objs]) := by rw [← hK, List.getElem?_append_right (by omega), show H.length + 1 - H.length = 1 by omega]; rfl
  obtain ⟨S, hS⟩ : ∃ S : Nat → List AV, ∀ i, S i = [.any, .ptr H.length 0, .any, .ptr (H.length + 1) 0, .any, .any, .any, iv i] ++ List.replicate 143 .any := ⟨_, fun _ => rfl⟩
  refine W.loopG (γ := Nat) (fun i => f.objs.length - i) S (fun _ => K) (fun i => i ≤ f.objs.length) 0 (by rw [hK]; exact Wk.slots (by rw [hS]; exact WkL.tail 8 _ rfl (by simp only [List.take_succ_cons, List.take_zero]; repeat' first | exact WkL.nil | refine WkL.cons (Wk1.rfl _) ?_ | refine WkL.cons Wk1.esl ?_ | refine WkL.cons (Wk1.gsl _ _ _) ?_ | refine WkL.cons (Wk1.any _) ?_))) (Nat.zero_le _) (fun i hi => ?_)
  by_cases hi3 : i < f.objs.length
  ·have hia := iaA_ob (t := f.objs) (a := i) (by omega) (by omega)
   have hib := iaA_ob (t := T.objs) (a := i) (by omega) (by omega)
   rw [show obAt f.objs (i : Int) = f.objs.getD i default from rfl] at hia
   rw [show obAt T.objs (i : Int) = T.objs.getD i default from rfl, hobT i hi3] at hib
   have hm := obAt_mem hi3
   obtain ⟨q0, q1⟩ := hfm _ hm
   have qx := (hF.ob _ hm).2.1
   generalize hx : f.objs.getD i default = x at *
   have hic := iaA_ty (t := f.types) qx.1 qx.2
   have hid := iaA_ty (t := T.types) q0.1 q0.2
   obtain ⟨z, hz⟩ : ∃ z, trimO (ordF f) x = z := ⟨_, rfl⟩
   have z1 : z.name = x.name := by rw [← hz]; rfl
   have z2 : z.cls = x.cls := by rw [← hz]; rfl
   have z3 : z.n = x.n := by rw [← hz]; rfl
   rw [hz] at hib hid q1
   simp (maxSteps := 2000000) (disch := omega) only [hS, c8l0, k1, List.length_map, go_sem, seval, reduceCtorEq]
   refine W.pchain follows (by decide +kernel) ?_
   simp (maxSteps := 2000000) (disch := omega) only [k1, k2, hia, hib, Ob.c, hic, hid, Ty.c, z1, z2, z3, q1, go_sem, seval, reduceCtorEq]
   exact Nxt.mk (i + 1) (by omega) (Wk.slots (by rw [hS]; exact WkL.tail 8 _ rfl (by simp only [List.take_succ_cons, List.take_zero]; repeat' first | exact WkL.nil | refine WkL.cons (Wk1.rfl _) ?_ | refine WkL.cons Wk1.esl ?_ | refine WkL.cons (Wk1.gsl _ _ _) ?_ | refine WkL.cons (Wk1.any _) ?_))) (by omega)
  ·simp (maxSteps := 2000000) (disch := omega) only [hS, c8l0, k1, List.length_map, go_sem, seval, reduceCtorEq]
   refine Cont.mk (wakesW_c _) ?_
   simp (maxSteps := 2000000) (disch := omega) only [go_sem, seval, reduceCtorEq]
   exact out (by rw [← hK]; exact List.prefix_append _ _) rfl
end Go.Proofs.Ythifjndenhjobaa
