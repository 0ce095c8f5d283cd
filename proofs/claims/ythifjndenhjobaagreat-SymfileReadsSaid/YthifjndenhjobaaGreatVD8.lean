/- The closures of uses, of objects. Printed by genD6.py. -/
import Derived.Test.YthifjndenhjobaaGreatVD5
import Derived.Test.YthifjndenhjobaaGreatVL1
import Derived.Test.YthifjndenhjobaaGreatVT3
set_option linter.unusedSectionVars false
set_option linter.unusedSimpArgs false
set_option linter.unusedVariables false
set_option maxHeartbeats 4000000
set_option maxRecDepth 20000
namespace Go.Proofs.YthifjndenhjobaaGreat.Rid
open Go.RowKit
def c17 : AC :=
 sr [il 3 t0, ic 4 13 [t3], kn 5 (.bd [ks, (.d (.v (.int .u32 0)))] [(0, 1, t4)]), kn 2 (.al [ks, (.d (.v (.int .u32 0)))]), ke (.st t2 t5 2)]
 (sr [il 6 t0, ic 7 14 [t6], ia 8 t2 1, ke (.st t8 t7 1)]
 (.reg [ia 9 t1 2, il 10 t9, kn 11 (.ld t2 2 true), kn 12 (.bs .im 48 2 [t11]), kn 13 (.app .gr 48 2 24 t10 t12), ia 14 t1 2, ke (.st t14 t13 1)]))
def r17 : List RC := []
def c20 : AC :=
 .seq (.dreg [[], [0], [], [2, 1], [1, 3], [], [5, 4, 3, 0, 1, 2, 3, 4, 5]] [il 3 t0, ic 4 21 [t3], il 5 t0, ic 6 13 [t5], kn 7 (.bd [kz, ks, kz, kz, kz, ks, kz] [(0, 1, t4), (1, 1, t6)]), kn 2 (.al [kz, ks, kz, kz, kz, ks, kz]), ke (.st t2 t7 7)])
 (sr [il 8 t0, ic 9 22 [t8], ia 10 t2 2, ke (.st t10 t9 1)]
 (.seq (.dreg [[], [0], [], [2, 1], [1, 3], [0, 1, 2, 3, 4], [5, 4, 3, 0, 1, 2, 3, 4]] [il 11 t0, ic 12 21 [t11], il 13 t0, ic 14 22 [t13], kn 15 (.bd [kz, kz, ks] [(0, 1, t12), (1, 1, t14)]), ia 16 t2 3, ke (.st t16 t15 3)])
 (sr [il 17 t0, ic 18 13 [t17], ia 19 t2 3, ia 20 t19 2, ke (.st t20 t18 1)]
 (.seq (sr [ia 21 t2 3, ia 22 t21 0, il 23 t22, ib 24 .eql t23 (kc 4)]
 (.cond t24 (.reg [ia 25 t2 3, ia 26 t25 1, il 27 t26, kn 28 (.cvi .u32 t27), kn 29 (.cvi .i64 t28), ia 30 t2 3, ia 31 t30 1, ke (.st t31 t29 1)]) (.skip)))
 (sr [il 32 t0, ic 33 22 [t32], ia 34 t2 6, ke (.st t34 t33 1)]
 (.reg [ia 35 t1 4, il 36 t35, kn 37 (.ld t2 7 true), kn 38 (.bs .im 58 7 [t37]), kn 39 (.app .gr 58 7 72 t36 t38), ia 40 t1 4, ke (.st t40 t39 1)]))))))
def r20 : List RC := []
theorem cc17 : cK Tryz.f17 (hhD 17) c17 := by unfold cK; kernel_rfl
theorem rr17 : resC Tryz.prog Tryz.f17 = some r17 := by kernel_rfl
theorem cc20 : cK Tryz.f20 (hhD 20) c20 := by unfold cK; kernel_rfl
theorem rr20 : resC Tryz.prog Tryz.f20 = some r20 := by kernel_rfl
theorem hp_k0 {B : List ABlk} {s : ByteArray} {rb tb b : Nat} {r : Rd} {cs : List AV} {k : ABlk} : kill [B.length] (HP B s rb tb b r cs k []) = HP B s rb tb b r cs k [] :=
 List.set_eq_of_length_le (by rw [hp_len0]; exact Nat.le_refl _)
theorem kq2 {H : List ABlk} {a b c : Nat} (h : c ≠ a) (h2 : c ≠ b) : (kill [a, b] H)[c]? = H[c]? := (kr1 (H := H.set a .dead) h2).trans (kr1 h)
theorem ex_k0 {P : Program} {f : FuncId} {args : List AV} {B : List ABlk} {s : ByteArray} {rb tb b : Nat} {r q : Rd} {cs : List AV} {k : ABlk} {v : AV} (h : ∀ H, H[rb]? = some (rd s r.a r.bad) -> ACalls P f args H fun v' H' => v' = v /\ H' = H.set rb (rd s q.a q.bad)) (l1 : rb < B.length) (h2 : rb ≠ tb) (h3 : rb ≠ b) :
 ACalls P f args (kill [B.length] (HP B s rb tb b r cs k [])) fun v' G' => v' = v /\ G' = kill [B.length] (HP B s rb tb b q cs k []) := by
 rw [hp_k0]; refine (h _ (hp_r l1 h2 h3)).mono fun v' G' hg => ⟨hg.1, ?_⟩
 rw [hg.2, hp_k0, hp_sr l1 h2 h3]
theorem fr_q {B : List ABlk} {s : ByteArray} {rb tb b : Nat} {r q : Rd} {cs : List AV} {k : ABlk} (l1 : rb < B.length) (h2 : rb ≠ tb) (h3 : rb ≠ b) : ∀ c, c ∉ [rb] -> (HP B s rb tb b q cs k [])[c]? = (HP B s rb tb b r cs k [])[c]? := fun c hc => by
 rw [<- hp_sr (q := q) (r := r) l1 h2 h3]; exact getset_ne (fun e => hc (by simp [e]))
theorem fr_ql {B : List ABlk} {s : ByteArray} {rb tb b : Nat} {r q : Rd} {cs : List AV} {k : ABlk} : (HP B s rb tb b r cs k []).length <= (HP B s rb tb b q cs k []).length := by rw [hp_len0, hp_len0]; exact Nat.le_refl _
theorem WStep.al {P : Program} {w u : List Nat} {d : Option Nat} {l : List AV} {s : List AV} {H : List ABlk} {Kk : List AV -> List ABlk -> Prop} (hw : H.length ∈ w) (hu : ∀ b ∈ u, b < H.length \/ H.length + 1 <= b) (h : Kk (setO s d (.ptr H.length 0)) (H ++ [.cells l])) :
 WStep P w u ⟨d, .al l, none⟩ s H Kk := by
 refine WStep.evU (H ++ [.cells l]) (by simp) (by simp) ?_; simp only [evK, EvK, kill_length]; refine ⟨?_, h⟩; rw [show kill u H ++ [ABlk.cells l] = kill u (H ++ [.cells l]) from (kill_app hu).symm]; exact ⟨rfl, fun c hc => by
  rcases Nat.lt_or_ge c H.length with h1 | h1
  ·rw [List.getElem?_append_left h1]
  ·have : c ≠ H.length := fun e => hc (e ▸ hw)
   rw [List.getElem?_eq_none (by simp; omega), List.getElem?_eq_none h1], by simp⟩
theorem us_g {s : ByteArray} (hs : s.size <= 300000) {rb vb tb : Nat} {c0 c1 c3 c4 : AV} : GStep s rb vb tb (fun x => [c0, c1, x, c3, c4]) Us.c 48 2 17 [.ptr vb 0, .ptr tb 0] (usF s) := fun H r x l h hb => by
 obtain ⟨l1, l2, l3⟩ := h.lt; have d1 := h.d1; have d2 := h.d2; have d3 := h.d3; have hv := h.ev; have le0 := h.le; have le1 := (text_r s).le r le0; obtain ⟨y1, q1, e1⟩ : ∃ y q, textF s r = (y, q) := ⟨_, _, rfl⟩; rw [e1] at le1; simp only at le1; have le2 := (word_r s).le q1 le1; obtain ⟨y2, q2, e2⟩ : ∃ y q, wordF s q1 = (y, q) := ⟨_, _, rfl⟩; rw [e2] at le2; simp only at le2; have ep : usF s r = ((⟨y1, y2⟩ : Us), q2) := by simp only [usF, bnd, mp, e1, e2]
 have mv : q2.bad = false -> r.bad = false /\ r.a < q2.a := fun hq => by
  have g1 := (us_r s).st r; have g2 := (us_r s).go r; rw [ep] at g1 g2; exact ⟨g1 hq, g2 hq⟩
 rw [ep]; rcases h.g with ⟨rfl, rfl⟩ | ⟨b, rfl, g1, g2, g3, g4⟩
 ·have hh := hp_self (s := s) (r := r) (k := .dead) (b := (H.length + 5)) h.er h.et (.inr (by omega))
  suffices hw : ACalls Tryz.prog 17 [.ptr vb 0, .ptr tb 0] (HP H s rb tb (H.length + 5) r [c0, c1, .esl, c3, c4] .dead []) fun v G => v = .tup [] /\ G = HP H s rb tb (H.length + 5) q2 [c0, c1, (.gsl (H.length + 1) 2 [Us.c (⟨y1, y2⟩ : Us)]), c3, c4] .dead [.cells [sv y1, wv y2], .row 48 2 1] by
   rw [hh] at hw; refine hw.mono fun v G => ?_
   rintro ⟨rfl, rfl⟩; exact ⟨rfl, _, h.first (b := H.length + 5) (k := .dead) (by omega) [.cells [sv y1, wv y2]] le2 mv rfl⟩
  clear hh; refine ACalls.into Tryz.func17 cc17 rr17 fun hcl => ?_
  simp (disch := omega) only [Tryz.ntmps17, c17, r17, hv, go_sem, seval, reduceCtorEq]; refine Cont.mk (text_c (hp_r l1 d2 (by omega)) hs le0) ?_; rw [e1]; simp (disch := omega) only [hv, go_sem, seval, reduceCtorEq]; refine Cont.mk (word_c (hp_r l1 d2 (by omega)) hs le1) ?_; rw [e2]; simp (disch := omega) only [hv, go_sem, seval, reduceCtorEq]; exact Ret.keep ⟨rfl, rfl⟩
 ·have hh := hp_self (s := s) (r := r) (k := (.row 48 2 l.length)) (b := b) h.er h.et (.inl g1)
  have l4 := (List.getElem?_eq_some_iff.1 g1).1; have hml : l.length <= 300000 := by have := h.m hb; omega
  have llm : (l.map Us.c).length = l.length := lnm ..
  suffices hw : ACalls Tryz.prog 17 [.ptr vb 0, .ptr tb 0] (HP H s rb tb b r [c0, c1, (.gsl b 2 (l.map Us.c)), c3, c4] (.row 48 2 l.length) []) fun v G => v = .tup [] /\ G = HP H s rb tb b q2 [c0, c1, (.gsl b 2 ((l ++ [(⟨y1, y2⟩ : Us)]).map Us.c)), c3, c4] (.row 48 2 (l.length + 1)) [.cells [sv y1, wv y2]] by
   rw [hh] at hw; refine hw.mono fun v G => ?_
   rintro ⟨rfl, rfl⟩; exact ⟨rfl, _, h.next g1 g2 g3 g4 [.cells [sv y1, wv y2]] le2 mv⟩
  clear hh; refine ACalls.into Tryz.func17 cc17 rr17 fun hcl => ?_
  simp (disch := omega) only [Tryz.ntmps17, c17, r17, hv, go_sem, seval, reduceCtorEq]; refine Cont.mk (text_c (hp_r l1 d2 (by omega)) hs le0) ?_; rw [e1]; simp (disch := omega) only [hv, go_sem, seval, reduceCtorEq]; refine Cont.mk (word_c (hp_r l1 d2 (by omega)) hs le1) ?_; rw [e2]; simp (disch := omega) only [hv, llm, go_sem, seval, reduceCtorEq]; exact Ret.keep ⟨rfl, by rw [List.map_append]; rfl⟩
theorem ob_g {s : ByteArray} (hs : s.size <= 300000) {rb vb tb : Nat} {c0 c1 c3 c4 : AV} : GStep s rb vb tb (fun x => [c0, c1, c3, c4, x]) Ob.c 58 7 20 [.ptr vb 0, .ptr tb 0] (obF s) := fun H r x l h hb => by
 obtain ⟨l1, l2, l3⟩ := h.lt; have d1 := h.d1; have d2 := h.d2; have d3 := h.d3; have hv := h.ev; have le0 := h.le; have le1 := (byte_r s).le r le0; obtain ⟨y1, q1, e1⟩ : ∃ y q, byteF s r = (y, q) := ⟨_, _, rfl⟩; rw [e1] at le1; simp only at le1; have le2 := (text_r s).le q1 le1; obtain ⟨y2, q2, e2⟩ : ∃ y q, textF s q1 = (y, q) := ⟨_, _, rfl⟩; rw [e2] at le2; simp only at le2; have le3 := (num_r s).le q2 le2; obtain ⟨y3, q3, e3⟩ : ∃ y q, numF s q2 = (y, q) := ⟨_, _, rfl⟩; rw [e3] at le3; simp only at le3; have le4 := (byte_r s).le q3 le3; obtain ⟨y4, q4, e4⟩ : ∃ y q, byteF s q3 = (y, q) := ⟨_, _, rfl⟩; rw [e4] at le4; simp only at le4; have le5 := (num_r s).le q4 le4; obtain ⟨y5, q5, e5⟩ : ∃ y q, numF s q4 = (y, q) := ⟨_, _, rfl⟩; rw [e5] at le5; simp only at le5; have le6 := (text_r s).le q5 le5; obtain ⟨y6, q6, e6⟩ : ∃ y q, textF s q5 = (y, q) := ⟨_, _, rfl⟩; rw [e6] at le6; simp only at le6; have le7 := (num_r s).le q6 le6; obtain ⟨y7, q7, e7⟩ : ∃ y q, numF s q6 = (y, q) := ⟨_, _, rfl⟩; rw [e7] at le7; simp only at le7; have ep : obF s r = ((⟨y1, y2, y3, ⟨y4, numR y4 y5, y6⟩, y7⟩ : Ob), q7) := by simp only [obF, bnd, mp, e1, e2, e3, e4, e5, e6, e7]
 have mv : q7.bad = false -> r.bad = false /\ r.a < q7.a := fun hq => by
  have g1 := (ob_r s).st r; have g2 := (ob_r s).go r; rw [ep] at g1 g2; exact ⟨g1 hq, g2 hq⟩
 rw [ep]; rcases h.g with ⟨rfl, rfl⟩ | ⟨b, rfl, g1, g2, g3, g4⟩
 ·have hh := hp_self (s := s) (r := r) (k := .dead) (b := (H.length + 5)) h.er h.et (.inr (by omega))
  suffices hw : ACalls Tryz.prog 20 [.ptr vb 0, .ptr tb 0] (HP H s rb tb (H.length + 5) r [c0, c1, c3, c4, .esl] .dead []) fun v G => v = .tup [] /\ G = HP H s rb tb (H.length + 5) q7 [c0, c1, c3, c4, (.gsl (H.length + 1) 7 [Ob.c (⟨y1, y2, y3, ⟨y4, numR y4 y5, y6⟩, y7⟩ : Ob)])] .dead [.cells [iv y1, sv y2, iv y3, iv y4, iv (numR y4 y5), sv y6, iv y7], .row 58 7 1] by
   rw [hh] at hw; refine hw.mono fun v G => ?_
   rintro ⟨rfl, rfl⟩; exact ⟨rfl, _, h.first (b := H.length + 5) (k := .dead) (by omega) [.cells [iv y1, sv y2, iv y3, iv y4, iv (numR y4 y5), sv y6, iv y7]] le7 mv rfl⟩
  clear hh; refine ACalls.into Tryz.func20 cc20 rr20 fun hcl => ?_
  simp (disch := omega) only [Tryz.ntmps20, c20, r20, hv, go_sem, seval, reduceCtorEq]; refine W.dregD [([], [H.length]), ([rb], [H.length]), ([], [rb, H.length]), ([rb], [H.length]), ([], [H.length]), ([H.length], [rb, rb]), ([H.length], [])] follows (by decide +kernel) rfl rfl (fun z hz c hc => ?_) ?_
  ·simp only [List.mem_cons, List.not_mem_nil, or_false] at hz
   rcases hz with rfl | rfl | rfl | rfl | rfl | rfl | rfl <;> first | exact absurd hc List.not_mem_nil | (rw [List.mem_singleton.1 hc, hp_r l1 d2 (by omega)]; simp; try omega) | (rw [List.mem_singleton.1 hc, List.getElem?_eq_none (by rw [hp_len0]; exact Nat.le_refl _)]; simp; try omega)
  repeat (rw [DC_p]; simp (disch := omega) only [hv, hp_k0, go_sem, seval, reduceCtorEq])
  refine WStep.callU (v := iv y1) (G := HP H s rb tb (H.length + 5) q1 [c0, c1, c3, c4, .esl] .dead []) (ex_k0 (fun H he => by have := byte_c he hs le0; rw [e1] at this; exact this) l1 d2 (by omega)) (fr_q l1 d2 (by omega)) fr_ql ?_; simp (disch := omega) only [hv, kq2, hp_k0, go_sem, seval, reduceCtorEq]
  repeat (rw [DC_p]; simp (disch := omega) only [hv, kq2, hp_k0, go_sem, seval, reduceCtorEq])
  refine WStep.callU (v := sv y2) (G := HP H s rb tb (H.length + 5) q2 [c0, c1, c3, c4, .esl] .dead []) (ex_k0 (fun H he => by have := text_c he hs le1; rw [e2] at this; exact this) l1 d2 (by omega)) (fr_q l1 d2 (by omega)) fr_ql ?_; simp (disch := omega) only [hv, kq2, hp_k0, go_sem, seval, reduceCtorEq]
  repeat (rw [DC_p]; simp (disch := omega) only [hv, kq2, hp_k0, go_sem, seval, reduceCtorEq])
  refine WStep.al (by rw [hp_len0]; simp) (fun b hb => by rw [hp_len0]; simp at hb; omega) ?_; simp (disch := omega) only [hp_len0, go_sem, seval, reduceCtorEq]
  repeat (rw [DC_p]; simp (disch := omega) only [go_sem, seval, reduceCtorEq])
  refine WStep.ev (fun _ _ e => by cases e) (fun _ _ e => by cases e) ?_; simp (disch := omega) only [go_sem, seval, reduceCtorEq]; refine ⟨fr_o, ?_⟩; simp (disch := omega) only [hv, go_sem, seval, reduceCtorEq]; refine Cont.mk (num_c (hp_r l1 d2 (by omega)) hs le2) ?_; rw [e3]; simp (disch := omega) only [hv, go_sem, seval, reduceCtorEq]; refine W.dregD [([], []), ([rb], []), ([], [rb]), ([rb], []), ([], []), ([], []), ([H.length], [])] follows (by decide +kernel) rfl rfl (fun z hz c hc => ?_) ?_
  ·simp only [List.mem_cons, List.not_mem_nil, or_false] at hz
   rcases hz with rfl | rfl | rfl | rfl | rfl | rfl | rfl <;> first | exact absurd hc List.not_mem_nil | (rw [List.mem_singleton.1 hc, hp_r l1 d2 (by omega)]; simp; try omega) | (rw [List.mem_singleton.1 hc, hp_o0]; simp) | (rw [List.mem_singleton.1 hc, List.getElem?_eq_none (by rw [hp_len0]; exact Nat.le_refl _)]; simp; try omega)
  repeat (rw [DC_p]; simp (disch := omega) only [hv, go_sem, seval, reduceCtorEq])
  refine WStep.call (byte_c (hp_r l1 d2 (by omega)) hs le3) fr_c fr_l ?_; rw [e4]; simp (disch := omega) only [hv, kr1, go_sem, seval, reduceCtorEq]
  repeat (rw [DC_p]; simp (disch := omega) only [hv, kr1, go_sem, seval, reduceCtorEq])
  refine WStep.call (num_c (hp_r l1 d2 (by omega)) hs le4) fr_c fr_l ?_; rw [e5]; simp (disch := omega) only [hv, kr1, go_sem, seval, reduceCtorEq]
  repeat (rw [DC_p]; simp (disch := omega) only [hv, kr1, go_sem, seval, reduceCtorEq])
  refine WStep.ev (fun _ _ e => by cases e) (fun _ _ e => by cases e) ?_; simp (disch := omega) only [go_sem, seval, reduceCtorEq]; refine ⟨fr_o, ?_⟩; simp (disch := omega) only [hv, go_sem, seval, reduceCtorEq]; refine Cont.mk (text_c (hp_r l1 d2 (by omega)) hs le5) ?_; rw [e6]
  by_cases h4 : y4 = 4
  ·have eR : numR y4 y5 = IntKind.i64.wrap (IntKind.u32.wrap y5) := by
    rw [numR, if_pos h4]; have e1 : IntKind.u32.wrap y5 = y5 % 4294967296 := by simp [IntKind.wrap, IntKind.bits, IntKind.signed]
    rw [e1, w_i64 (by omega) (by omega)]
   rw [eR]; simp (disch := omega) only [hv, decide_eq_true h4, go_sem, seval, reduceCtorEq]; refine Cont.mk (num_c (hp_r l1 d2 (by omega)) hs le6) ?_; rw [e7]; simp (disch := omega) only [hv, go_sem, seval, reduceCtorEq]; exact Ret.keep ⟨rfl, rfl⟩
  ·have eR : numR y4 y5 = y5 := by rw [numR, if_neg h4]
   rw [eR]; simp (disch := omega) only [hv, decide_eq_false h4, go_sem, seval, reduceCtorEq]; refine Cont.mk (num_c (hp_r l1 d2 (by omega)) hs le6) ?_; rw [e7]; simp (disch := omega) only [hv, go_sem, seval, reduceCtorEq]; exact Ret.keep ⟨rfl, rfl⟩
 ·have hh := hp_self (s := s) (r := r) (k := (.row 58 7 l.length)) (b := b) h.er h.et (.inl g1)
  have l4 := (List.getElem?_eq_some_iff.1 g1).1; have hml : l.length <= 300000 := by have := h.m hb; omega
  have llm : (l.map Ob.c).length = l.length := lnm ..
  suffices hw : ACalls Tryz.prog 20 [.ptr vb 0, .ptr tb 0] (HP H s rb tb b r [c0, c1, c3, c4, (.gsl b 7 (l.map Ob.c))] (.row 58 7 l.length) []) fun v G => v = .tup [] /\ G = HP H s rb tb b q7 [c0, c1, c3, c4, (.gsl b 7 ((l ++ [(⟨y1, y2, y3, ⟨y4, numR y4 y5, y6⟩, y7⟩ : Ob)]).map Ob.c))] (.row 58 7 (l.length + 1)) [.cells [iv y1, sv y2, iv y3, iv y4, iv (numR y4 y5), sv y6, iv y7]] by
   rw [hh] at hw; refine hw.mono fun v G => ?_
   rintro ⟨rfl, rfl⟩; exact ⟨rfl, _, h.next g1 g2 g3 g4 [.cells [iv y1, sv y2, iv y3, iv y4, iv (numR y4 y5), sv y6, iv y7]] le7 mv⟩
  clear hh; refine ACalls.into Tryz.func20 cc20 rr20 fun hcl => ?_
  simp (disch := omega) only [Tryz.ntmps20, c20, r20, hv, go_sem, seval, reduceCtorEq]; refine W.dregD [([], [H.length]), ([rb], [H.length]), ([], [rb, H.length]), ([rb], [H.length]), ([], [H.length]), ([H.length], [rb, rb]), ([H.length], [])] follows (by decide +kernel) rfl rfl (fun z hz c hc => ?_) ?_
  ·simp only [List.mem_cons, List.not_mem_nil, or_false] at hz
   rcases hz with rfl | rfl | rfl | rfl | rfl | rfl | rfl <;> first | exact absurd hc List.not_mem_nil | (rw [List.mem_singleton.1 hc, hp_r l1 d2 (by omega)]; simp; try omega) | (rw [List.mem_singleton.1 hc, List.getElem?_eq_none (by rw [hp_len0]; exact Nat.le_refl _)]; simp; try omega)
  repeat (rw [DC_p]; simp (disch := omega) only [hv, hp_k0, go_sem, seval, reduceCtorEq])
  refine WStep.callU (v := iv y1) (G := HP H s rb tb b q1 [c0, c1, c3, c4, (.gsl b 7 (l.map Ob.c))] (.row 58 7 l.length) []) (ex_k0 (fun H he => by have := byte_c he hs le0; rw [e1] at this; exact this) l1 d2 (by omega)) (fr_q l1 d2 (by omega)) fr_ql ?_; simp (disch := omega) only [hv, kq2, hp_k0, go_sem, seval, reduceCtorEq]
  repeat (rw [DC_p]; simp (disch := omega) only [hv, kq2, hp_k0, go_sem, seval, reduceCtorEq])
  refine WStep.callU (v := sv y2) (G := HP H s rb tb b q2 [c0, c1, c3, c4, (.gsl b 7 (l.map Ob.c))] (.row 58 7 l.length) []) (ex_k0 (fun H he => by have := text_c he hs le1; rw [e2] at this; exact this) l1 d2 (by omega)) (fr_q l1 d2 (by omega)) fr_ql ?_; simp (disch := omega) only [hv, kq2, hp_k0, go_sem, seval, reduceCtorEq]
  repeat (rw [DC_p]; simp (disch := omega) only [hv, kq2, hp_k0, go_sem, seval, reduceCtorEq])
  refine WStep.al (by rw [hp_len0]; simp) (fun b hb => by rw [hp_len0]; simp at hb; omega) ?_; simp (disch := omega) only [hp_len0, go_sem, seval, reduceCtorEq]
  repeat (rw [DC_p]; simp (disch := omega) only [go_sem, seval, reduceCtorEq])
  refine WStep.ev (fun _ _ e => by cases e) (fun _ _ e => by cases e) ?_; simp (disch := omega) only [go_sem, seval, reduceCtorEq]; refine ⟨fr_o, ?_⟩; simp (disch := omega) only [hv, go_sem, seval, reduceCtorEq]; refine Cont.mk (num_c (hp_r l1 d2 (by omega)) hs le2) ?_; rw [e3]; simp (disch := omega) only [hv, go_sem, seval, reduceCtorEq]; refine W.dregD [([], []), ([rb], []), ([], [rb]), ([rb], []), ([], []), ([], []), ([H.length], [])] follows (by decide +kernel) rfl rfl (fun z hz c hc => ?_) ?_
  ·simp only [List.mem_cons, List.not_mem_nil, or_false] at hz
   rcases hz with rfl | rfl | rfl | rfl | rfl | rfl | rfl <;> first | exact absurd hc List.not_mem_nil | (rw [List.mem_singleton.1 hc, hp_r l1 d2 (by omega)]; simp; try omega) | (rw [List.mem_singleton.1 hc, hp_o0]; simp) | (rw [List.mem_singleton.1 hc, List.getElem?_eq_none (by rw [hp_len0]; exact Nat.le_refl _)]; simp; try omega)
  repeat (rw [DC_p]; simp (disch := omega) only [hv, go_sem, seval, reduceCtorEq])
  refine WStep.call (byte_c (hp_r l1 d2 (by omega)) hs le3) fr_c fr_l ?_; rw [e4]; simp (disch := omega) only [hv, kr1, go_sem, seval, reduceCtorEq]
  repeat (rw [DC_p]; simp (disch := omega) only [hv, kr1, go_sem, seval, reduceCtorEq])
  refine WStep.call (num_c (hp_r l1 d2 (by omega)) hs le4) fr_c fr_l ?_; rw [e5]; simp (disch := omega) only [hv, kr1, go_sem, seval, reduceCtorEq]
  repeat (rw [DC_p]; simp (disch := omega) only [hv, kr1, go_sem, seval, reduceCtorEq])
  refine WStep.ev (fun _ _ e => by cases e) (fun _ _ e => by cases e) ?_; simp (disch := omega) only [go_sem, seval, reduceCtorEq]; refine ⟨fr_o, ?_⟩; simp (disch := omega) only [hv, go_sem, seval, reduceCtorEq]; refine Cont.mk (text_c (hp_r l1 d2 (by omega)) hs le5) ?_; rw [e6]
  by_cases h4 : y4 = 4
  ·have eR : numR y4 y5 = IntKind.i64.wrap (IntKind.u32.wrap y5) := by
    rw [numR, if_pos h4]; have e1 : IntKind.u32.wrap y5 = y5 % 4294967296 := by simp [IntKind.wrap, IntKind.bits, IntKind.signed]
    rw [e1, w_i64 (by omega) (by omega)]
   rw [eR]; simp (disch := omega) only [hv, decide_eq_true h4, go_sem, seval, reduceCtorEq]; refine Cont.mk (num_c (hp_r l1 d2 (by omega)) hs le6) ?_; rw [e7]; simp (disch := omega) only [hv, llm, go_sem, seval, reduceCtorEq]; exact Ret.keep ⟨rfl, by rw [List.map_append]; rfl⟩
  ·have eR : numR y4 y5 = y5 := by rw [numR, if_neg h4]
   rw [eR]; simp (disch := omega) only [hv, decide_eq_false h4, go_sem, seval, reduceCtorEq]; refine Cont.mk (num_c (hp_r l1 d2 (by omega)) hs le6) ?_; rw [e7]; simp (disch := omega) only [hv, llm, go_sem, seval, reduceCtorEq]; exact Ret.keep ⟨rfl, by rw [List.map_append]; rfl⟩
def c18 : AC :=
 .dreg [[], [0], [], [2], [3], [1, 4, 3], [0, 1, 2, 3, 4, 5], [6, 5, 5, 0, 1, 2, 3, 4, 5]] [ia 2 t0 3, il 3 t2, il 4 t1, ic 5 19 [t4], kn 6 (.bs .im 52 10 [t5]), kn 7 (.app .gr 52 10 128 t3 t6), ia 8 t0 3, ke (.st t8 t7 1)]
def r18 : List RC := []
theorem cc18 : cK Tryz.f18 (hhD 18) c18 := by unfold cK; kernel_rfl
theorem rr18 : resC Tryz.prog Tryz.f18 = some r18 := by kernel_rfl
theorem fr_b {B : List ABlk} {s : ByteArray} {rb tb b : Nat} {r : Rd} {cs : List AV} {k j : ABlk} {l : List ABlk} (h : b < B.length) : FrOk [b] [] (HP B s rb tb b r cs k l) (HP B s rb tb b r cs j l) (HP B s rb tb b r cs j l) := by
 rw [<- hp_sb (k := k) (j := j) h]; exact FrOk.set (by simp)
theorem fr_n {B : List ABlk} {s : ByteArray} {rb tb b : Nat} {r : Rd} {cs : List AV} {k x : ABlk} : FrOk [B.length] [] (HP B s rb tb b r cs k []) (HP B s rb tb b r cs k [x]) (HP B s rb tb b r cs k [x]) := by
 rw [show HP B s rb tb b r cs k [x] = HP B s rb tb b r cs k [] ++ [x] by rw [hp_app, List.nil_append]]; exact FrOk.app (fun k hk => by simp at hk; subst hk; rw [hp_len0]; simp) (fun b hb => by cases hb)
theorem ty_g {s : ByteArray} (hs : s.size <= 300000) {rb vb tb : Nat} {c0 c1 c3 c4 : AV} : GStep s rb vb tb (fun x => [c0, c1, c3, x, c4]) Ty.c 52 10 18 [.ptr tb 0, .ptr vb 0] (tyF s) := fun H r x l h hb => by
 obtain ⟨l1, l2, l3⟩ := h.lt; have d1 := h.d1; have d2 := h.d2; have d3 := h.d3; have hv := h.ev; have le0 := h.le; have le1 := (ty_r s).le r le0; obtain ⟨y1, q1, e1⟩ : ∃ y q, tyF s r = (y, q) := ⟨_, _, rfl⟩; rw [e1] at le1; simp only at le1; have ep : tyF s r = (y1, q1) := e1; have mv : q1.bad = false -> r.bad = false /\ r.a < q1.a := fun hq => by
  have g1 := (ty_r s).st r; have g2 := (ty_r s).go r; rw [ep] at g1 g2; exact ⟨g1 hq, g2 hq⟩
 rw [ep]; rcases h.g with ⟨rfl, rfl⟩ | ⟨b, rfl, g1, g2, g3, g4⟩
 ·have hh := hp_self (s := s) (r := r) (k := .dead) (b := (H.length + 5)) h.er h.et (.inr (by omega))
  suffices hw : ACalls Tryz.prog 18 [.ptr tb 0, .ptr vb 0] (HP H s rb tb (H.length + 5) r [c0, c1, c3, .esl, c4] .dead []) fun v G => v = .tup [] /\ G = HP H s rb tb (H.length + 5) q1 [c0, c1, c3, (.gsl (H.length + 0) 10 [Ty.c y1]), c4] .dead [.row 52 10 1] by
   rw [hh] at hw; refine hw.mono fun v G => ?_
   rintro ⟨rfl, rfl⟩; exact ⟨rfl, _, h.first (b := H.length + 5) (k := .dead) (by omega) [] le1 mv rfl⟩
  clear hh; refine ACalls.into Tryz.func18 cc18 rr18 fun hcl => ?_
  simp (disch := omega) only [Tryz.ntmps18, c18, r18, hv, go_sem, seval, reduceCtorEq]; refine W.dregD [([], [rb]), ([], [rb]), ([], []), ([rb], []), ([], []), ([H.length], []), ([], []), ([tb], [])] follows (by decide +kernel) rfl rfl (fun z hz c hc => ?_) ?_
  ·simp only [List.mem_cons, List.not_mem_nil, or_false] at hz
   rcases hz with rfl | rfl | rfl | rfl | rfl | rfl | rfl | rfl <;> first | exact absurd hc List.not_mem_nil | (rw [List.mem_singleton.1 hc, hp_r l1 d2 (by omega)]; simp; try omega) | (rw [List.mem_singleton.1 hc, List.getElem?_eq_none (by rw [hp_len0]; exact Nat.le_refl _)]; simp; try omega) | (rw [List.mem_singleton.1 hc, hp_t l3 (by omega)]; simp; try omega)
  repeat (rw [DC_p]; simp (disch := omega) only [hv, kr1, go_sem, seval, reduceCtorEq])
  refine WStep.call (gets_c hs (hp_r l1 d2 (by omega)) le0) fr_c fr_l ?_; rw [e1]; simp (disch := omega) only [hv, kr1, Ty.cs, go_sem, seval, reduceCtorEq]
  repeat (rw [DC_p]; simp (disch := omega) only [hv, kr1, Ty.cs, go_sem, seval, reduceCtorEq])
  refine WStep.ev (fun _ _ e => by cases e) (fun _ _ e => by cases e) ?_; simp (disch := omega) only [Ty.cs, go_sem, seval, reduceCtorEq]; refine ⟨fr_n, ?_⟩
  repeat (rw [DC_p]; simp (disch := omega) only [go_sem, seval, reduceCtorEq])
  refine WStep.ev (fun _ _ e => by cases e) (fun _ _ e => by cases e) ?_; simp (disch := omega) only [go_sem, seval, reduceCtorEq]; refine ⟨fr_t l3 (by omega), ?_⟩; exact Ret.keep ⟨rfl, rfl⟩
 ·have hh := hp_self (s := s) (r := r) (k := (.row 52 10 l.length)) (b := b) h.er h.et (.inl g1)
  have l4 := (List.getElem?_eq_some_iff.1 g1).1; have hml : l.length <= 300000 := by have := h.m hb; omega
  have llm : (l.map Ty.c).length = l.length := lnm ..
  suffices hw : ACalls Tryz.prog 18 [.ptr tb 0, .ptr vb 0] (HP H s rb tb b r [c0, c1, c3, (.gsl b 10 (l.map Ty.c)), c4] (.row 52 10 l.length) []) fun v G => v = .tup [] /\ G = HP H s rb tb b q1 [c0, c1, c3, (.gsl b 10 ((l ++ [y1]).map Ty.c)), c4] (.row 52 10 (l.length + 1)) [] by
   rw [hh] at hw; refine hw.mono fun v G => ?_
   rintro ⟨rfl, rfl⟩; exact ⟨rfl, _, h.next g1 g2 g3 g4 [] le1 mv⟩
  clear hh; refine ACalls.into Tryz.func18 cc18 rr18 fun hcl => ?_
  simp (disch := omega) only [Tryz.ntmps18, c18, r18, hv, go_sem, seval, reduceCtorEq]; refine W.dregD [([], [rb]), ([], [rb]), ([], []), ([rb], []), ([], []), ([b], []), ([], []), ([tb], [])] follows (by decide +kernel) rfl rfl (fun z hz c hc => ?_) ?_
  ·simp only [List.mem_cons, List.not_mem_nil, or_false] at hz
   rcases hz with rfl | rfl | rfl | rfl | rfl | rfl | rfl | rfl <;> first | exact absurd hc List.not_mem_nil | (rw [List.mem_singleton.1 hc, hp_r l1 d2 (by omega)]; simp; try omega) | (rw [List.mem_singleton.1 hc, hp_b l4]; simp; try omega) | (rw [List.mem_singleton.1 hc, hp_t l3 (by omega)]; simp; try omega)
  repeat (rw [DC_p]; simp (disch := omega) only [hv, kr1, go_sem, seval, reduceCtorEq])
  refine WStep.call (gets_c hs (hp_r l1 d2 (by omega)) le0) fr_c fr_l ?_; rw [e1]; simp (disch := omega) only [hv, kr1, Ty.cs, go_sem, seval, reduceCtorEq]
  repeat (rw [DC_p]; simp (disch := omega) only [hv, kr1, Ty.cs, go_sem, seval, reduceCtorEq])
  refine WStep.ev (fun _ _ e => by cases e) (fun _ _ e => by cases e) ?_; simp (disch := omega) only [Ty.cs, llm, go_sem, seval, reduceCtorEq]; refine ⟨fr_b l4, ?_⟩
  repeat (rw [DC_p]; simp (disch := omega) only [go_sem, seval, reduceCtorEq])
  refine WStep.ev (fun _ _ e => by cases e) (fun _ _ e => by cases e) ?_; simp (disch := omega) only [go_sem, seval, reduceCtorEq]; refine ⟨fr_t l3 (by omega), ?_⟩; exact Ret.keep ⟨rfl, by rw [List.map_append]; rfl⟩
def c5 : AC :=
 sr [kn 2 (.al [ks, (.d (.v (.int .u32 0))), .esl, .esl, .esl]), im 3 (kc 0)]
 (sr [im 8 t0, ic 9 12 [t8], kn 4 (.al [.nilp]), ke (.st t4 t9 1)]
 (.seq (sr [il 10 t4, ic 11 13 [t10], kn 12 (.bin .neq t11 (.c (.d (.v (.string ⟨#[83, 80, 83, 89]⟩)))))]
 (.cond t12 (sr [kn 13 (.bd [ks, (.d (.v (.int .u32 0))), .esl, .esl, .esl] []), ke (.st t2 t13 5), im 3 (kc 170)]
 (.ret)) (.skip)))
 (.seq (.dreg [[], [0], [], [2, 1], [3], [1, 3, 4], [], [6, 5, 4, 0, 1, 2, 3, 4, 5, 6]] [il 14 t4, ic 15 13 [t14], il 16 t4, ic 17 14 [t16], ic 18 15 [], kn 19 (.bd [ks, (.d (.v (.int .u32 0))), .esl, .esl, .esl] [(0, 1, t15), (1, 1, t17), (3, 1, t18)]), kn 5 (.al [ks, (.d (.v (.int .u32 0))), .esl, .esl, .esl]), ke (.st t5 t19 5)])
 (sr [il 20 t4, kn 21 (.mkf 17 [t4, t5]), ic 22 16 [t20, t21]]
 (sr [il 23 t4, kn 24 (.mkf 18 [t5, t4]), ic 25 16 [t23, t24]]
 (sr [il 26 t4, kn 27 (.mkf 20 [t4, t5]), ic 28 16 [t26, t27]]
 (.seq (sr [kn 30 (.ld t5 5 true), ic 31 8 [t30], im 29 t31, kn 32 (.ext t29 0), kn 33 (.ext t29 1), im 6 t32, im 7 t33]
 (sr [il 34 t4, ic 35 23 [t34], kn 36 (.un .not t35), im 37 t36, ko 38 37 (.mv t7), ko 39 37 (.bin .neq t38 (kc 0)), kn 40 (.pick t37 kT t39), im 41 t40, ko 42 41 (.mv t6), ko 43 41 (.mv t0), ko 44 41 (.bin .neq t42 t43), kn 45 (.pick t41 kT t44)]
 (.cond t45 (sr [kn 46 (.bd [ks, (.d (.v (.int .u32 0))), .esl, .esl, .esl] []), ke (.st t2 t46 5), im 3 (kc 170)]
 (.ret)) (.skip))))
 (sr [kn 47 (.ld t5 5 true), ke (.st t2 t47 5), im 3 (kc 0)]
 (.ret)))))))))
def r5 : List RC := [.c 2 5 true, .t 3]
theorem cc5 : cK Tryz.f5 (hhD 5) c5 := by unfold cK; kernel_rfl
theorem rr5 : resC Tryz.prog Tryz.f5 = some r5 := by kernel_rfl
theorem text_at {s : ByteArray} {r q : Rd} {t : ByteArray} (hr : r.a <= s.size) (h : textF s r = (t, q)) (ht : t.size ≠ 0) : q.bad = false /\ q.a = r.a + t.size + 1 := by
 have e : textF s r = (nl, r) \/ textF s r = (nl, ⟨r.a, true⟩) \/ ∃ k : Nat, textF s r = (s.extract r.a (r.a + k), ⟨r.a + k + 1, false⟩) := by
  unfold textF
  split
  ·exact .inl rfl
  ·split
   ·exact .inr (.inl rfl)
   ·exact .inr (.inr ⟨_, rfl⟩)
 have hl := textF_le (s := s) hr; rcases e with e | e | ⟨k, e⟩ <;> rw [e] at h hl <;> simp only [Prod.mk.injEq] at h
 ·exact absurd (by rw [<- h.1]; rfl) ht
 ·exact absurd (by rw [<- h.1]; rfl) ht
 ·have hl : r.a + k + 1 <= s.size := hl
  have hk : t.size = k := by rw [<- h.1, ex_size _ _ _ (by omega)]; omega
  rw [<- h.2]; exact ⟨rfl, by show r.a + k + 1 = _; omega⟩
theorem Wk1.ofT : ∀ {a b : List AV}, WkL a b -> Wk1 (.tup a) (.tup b) := fun {a b} h => by
 have hl : a.length = b.length := by induction h with | nil => rfl | cons _ _ ih => simp [ih]
 refine .tup hl ?_; clear hl
 induction h with
 | nil => intro i c c' h; simp at h
 | cons h1 h2 ih =>
  intro i c c' hc hc'
  cases i with
  | zero => simp at hc hc'; subst hc; subst hc'; exact h1
  | succ i => simp at hc hc'; exact ih i c c' hc hc'
theorem decV_refs (s : ByteArray) : refs (.tup (decV s)) = [] := by
 rw [decV]
 split
 ·simp [refs, refs.refsL, Fc.cs]
 ·simp [refs, refs.refsL, Fc.cs, zF]
theorem ex_k1 {P : Program} {f : FuncId} {args : List AV} {s : ByteArray} {rb c : Nat} {q : Rd} {v : AV} {K : List ABlk} {k0 : ABlk} (h : ACalls P f args (K.set rb k0) fun v' H' => v' = v /\ H' = (K.set rb k0).set rb (rd s q.a q.bad)) (hc : K.length <= c) :
 ACalls P f args (kill [c] (K.set rb k0)) fun v' G' => v' = v /\ G' = kill [c] (K.set rb (rd s q.a q.bad)) := by
 rw [show kill [c] (K.set rb k0) = K.set rb k0 from List.set_eq_of_length_le (by rw [List.length_set]; exact hc)]; refine h.mono fun v' G' hg => ⟨hg.1, ?_⟩
 rw [hg.2, List.set_set]; exact (List.set_eq_of_length_le (by rw [List.length_set]; exact hc)).symm
theorem decode_c (s : ByteArray) (hs : s.size <= 300000) (H : List ABlk) : ACalls Tryz.prog 5 [sv s] H fun v H' => v = .tup (decV s) /\ H' = H := by
 refine ACalls.into Tryz.func5 cc5 rr5 fun hcl => ?_
 have le0 := (text_r s).le ⟨0, false⟩ (Nat.zero_le _); obtain ⟨y0, q0, e0⟩ : ∃ y q, textF s ⟨0, false⟩ = (y, q) := ⟨_, _, rfl⟩; rw [e0] at le0; simp only at le0; have le1 := (text_r s).le q0 le0; obtain ⟨y1, q1, e1⟩ : ∃ y q, textF s q0 = (y, q) := ⟨_, _, rfl⟩; rw [e1] at le1; simp only at le1; have le2 := (word_r s).le q1 le1; obtain ⟨y2, q2, e2⟩ : ∃ y q, wordF s q1 = (y, q) := ⟨_, _, rfl⟩; rw [e2] at le2; simp only at le2; have le3 := (list_r (us_r s)).le q2 le2; obtain ⟨y3, q3, e3⟩ : ∃ y q, listF s (usF s) q2 = (y, q) := ⟨_, _, rfl⟩; rw [e3] at le3; simp only at le3; have le4 := (list_r (ty_r s)).le q3 le3; obtain ⟨y4, q4, e4⟩ : ∃ y q, listF s (tyF s) q3 = (y, q) := ⟨_, _, rfl⟩; rw [e4] at le4; simp only at le4; have le5 := (list_r (ob_r s)).le q4 le4; obtain ⟨y5, q5, e5⟩ : ∃ y q, listF s (obF s) q4 = (y, q) := ⟨_, _, rfl⟩; rw [e5] at le5; simp only at le5; have on1 : q0.bad = false -> q1.bad = false -> q0.a < q1.a := fun _ h => by have := (text_r s).go q0; rw [e1] at this; exact this h
 have on2 : q2.bad = false -> q1.a < q2.a /\ q1.bad = false := fun h => by
  have := (word_r s).go q1; have h2 := (word_r s).st q1; rw [e2] at this h2; exact ⟨this h, h2 h⟩
 have on3 : q3.bad = false -> q2.a <= q3.a /\ q2.bad = false := fun h => by
  have := (list_r (us_r s)).on q2; have h2 := (list_r (us_r s)).st q2; rw [e3] at this h2; exact ⟨this, h2 h⟩
 have hh : hdF s = (y0, q0) := e0; have er : decR s = ((⟨y1, y2, y3, basicL ++ y4, y5⟩ : Fc), q5) := by simp only [decR, hh, fcF, bnd, mp, e1, e2, e3, e4, e5]
 have hk := (dec_key s).1; rw [er] at hk; simp only at hk; have out : ∀ {u v0 : List AV} {L : List ABlk}, H <+: L -> WkL u v0 -> v0 = decV s -> Ret r5 H.length (fun v H' => v = .tup (decV s) /\ H' = H) (some (.tup u)) L := fun {u v0 L} hp hv h =>
  Ret.pre (.tup (decV s)) H hp (Nat.le_refl _) hcl (by rw [<- h]; exact Wk1.ofT hv) (by rw [decV_refs]; intro r hr; cases hr) ⟨rfl, rfl⟩
 have dno : ¬ DecP s -> [zF.av, iv 170] = decV s := fun h => by rw [decV, if_neg h]
 have hzw : WkL [.agg [(.d (.v (.string ⟨#[]⟩))), (.d (.v (.int .u32 0))), .esl, .esl, .esl], iv 170] [zF.av, iv 170] := .cons (Wk1.ofL (.cons (.rfl _) (.cons (.rfl _) (.cons .esl (.cons .esl (.cons .esl .nil)))))) (.cons (.rfl _) .nil); have ck1 : callOk Tryz.prog 17 = true := by kernel_rfl
 have ck2 : callOk Tryz.prog 18 = true := by kernel_rfl
 have ck3 : callOk Tryz.prog 20 = true := by kernel_rfl
 obtain ⟨K, hK⟩ : ∃ K, H ++ [.cells [(.d (.v (.string ⟨#[]⟩))), (.d (.v (.int .u32 0))), .esl, .esl, .esl], rd s 0 false, .cells [.ptr (H.length + 1) 0]] = K := ⟨_, rfl⟩; have lK : K.length = (H.length + 3) := by rw [<- hK]; simp
 have kz : K[H.length]? = some (.cells [(.d (.v (.string ⟨#[]⟩))), (.d (.v (.int .u32 0))), .esl, .esl, .esl]) := by rw [<- hK, List.getElem?_append_right (Nat.le_refl _), Nat.sub_self]; rfl
 have kr : K[(H.length + 1)]? = some (rd s 0 false) := by rw [<- hK, List.getElem?_append_right (by omega), Nat.add_sub_cancel_left]; rfl
 have kv : K[(H.length + 2)]? = some (.cells [.ptr (H.length + 1) 0]) := by rw [<- hK, List.getElem?_append_right (by omega), Nat.add_sub_cancel_left]; rfl
 have kl : ∀ c, c < H.length -> K[c]? = H[c]? := fun c hc => by rw [<- hK, List.getElem?_append_left hc]
 have kvX : ∀ X, (K.set (H.length + 1) X)[(H.length + 2)]? = some (.cells [.ptr (H.length + 1) 0]) := fun X => by rw [getset_ne (by omega), kv]
 have kzX : ∀ X, (K.set (H.length + 1) X)[H.length]? = some (.cells [(.d (.v (.string ⟨#[]⟩))), (.d (.v (.int .u32 0))), .esl, .esl, .esl]) := fun X => by rw [getset_ne (by omega), kz]
 have krX : ∀ X, (K.set (H.length + 1) X)[(H.length + 1)]? = some X := fun X => List.getElem?_set_self (by omega)
 have kd : ∀ X, kill [(H.length + 4)] (K.set (H.length + 1) X) = K.set (H.length + 1) X := fun X => List.set_eq_of_length_le (by rw [List.length_set]; omega)
 have klX : ∀ X, (K.set (H.length + 1) X).length = (H.length + 3) := fun X => by rw [List.length_set, lK]
 simp (disch := omega) only [Tryz.ntmps5, c5, r5, go_sem, seval, reduceCtorEq]; refine Cont.mk (read_c s _) ?_; have hq : ∀ (a b c : ABlk), (H ++ [a, b, c])[H.length + 2]? = some c := fun a b c => by rw [List.getElem?_append_right (by omega), Nat.add_sub_cancel_left]; rfl
 have hq2 : ∀ (a b c d : ABlk), (H ++ [a, b, c]).set (H.length + 2) d = H ++ [a, b, d] := fun a b c d => by rw [List.set_append_right _ _ (by omega), Nat.add_sub_cancel_left]; rfl
 simp (disch := omega) only [hq, hq2, hK, kv, go_sem, seval, reduceCtorEq]; refine Cont.mk (text_c (r := ⟨0, false⟩) kr hs (Nat.zero_le _)) ?_; rw [e0]
 by_cases hy : y0 = ⟨#[83, 80, 83, 89]⟩
 case neg =>
  have hzK : ∀ X Y, ((K.set (H.length + 1) X).set H.length Y)[H.length]? = some Y := fun X Y => List.getElem?_set_self (by rw [klX]; omega)
  simp (disch := omega) only [decide_eq_false hy, kzX, hzK, go_sem, seval, reduceCtorEq]; refine out (pre_out1 fun c hc => ?_) hzw (dno fun h => hy (by have := h.1; rw [hh] at this; exact this))
  first | (rw [getset_ne (by omega), getset_ne (by omega), kl c hc]) | (rw [getset_ne (by omega), kl c hc])
 obtain ⟨qb, qa⟩ := text_at (Nat.zero_le _) e0 (by rw [hy]; decide); have qa : q0.a = 5 := by rw [qa, hy]; rfl
 simp (disch := omega) only [decide_eq_true hy, kvX, kzX, go_sem, seval, reduceCtorEq]; refine W.dregD [([], [(H.length + 4)]), ([(H.length + 1)], [(H.length + 4)]), ([], [(H.length + 1), (H.length + 4)]), ([(H.length + 1)], [(H.length + 4)]), ([(H.length + 3)], [(H.length + 4)]), ([], [(H.length + 4)]), ([(H.length + 4)], [(H.length + 1), (H.length + 1), (H.length + 3)]), ([(H.length + 4)], [])] follows (by decide +kernel) rfl rfl (fun z hz c hc => ?_) ?_
 ·simp only [List.mem_cons, List.not_mem_nil, or_false] at hz
  rcases hz with rfl | rfl | rfl | rfl | rfl | rfl | rfl | rfl <;> first | exact absurd hc List.not_mem_nil | (rw [List.mem_singleton.1 hc, krX]; simp; try omega) | (rw [List.mem_singleton.1 hc, List.getElem?_eq_none (by rw [klX]; omega)]; simp; try omega)
 repeat (rw [DC_p]; simp (disch := omega) only [kd, kvX, go_sem, seval, reduceCtorEq])
 refine WStep.callU (v := sv y1) (G := K.set (H.length + 1) (rd s q1.a q1.bad)) (ex_k1 (by have := text_c (krX (rd s q0.a q0.bad)) hs le0; rw [e1] at this; exact this) (by omega)) (fun c hc => ?_) (by rw [klX, klX]; exact Nat.le_refl _) ?_
 ·rw [getset_ne (fun e => hc (by simp [e])), getset_ne (fun e => hc (by simp [e]))]
 simp (disch := omega) only [kd, kvX, kq2, go_sem, seval, reduceCtorEq]
 repeat (rw [DC_p]; simp (disch := omega) only [kd, kvX, kq2, go_sem, seval, reduceCtorEq])
 refine WStep.callU (v := wv y2) (G := K.set (H.length + 1) (rd s q2.a q2.bad)) (ex_k1 (by have := word_c (krX (rd s q1.a q1.bad)) hs le1; rw [e2] at this; exact this) (by omega)) (fun c hc => ?_) (by rw [klX, klX]; exact Nat.le_refl _) ?_
 ·rw [getset_ne (fun e => hc (by simp [e])), getset_ne (fun e => hc (by simp [e]))]
 simp (disch := omega) only [kd, go_sem, seval, reduceCtorEq]
 repeat (rw [DC_p]; simp (disch := omega) only [kd, go_sem, seval, reduceCtorEq])
 have lR : ∀ X x, (K.set (H.length + 1) X ++ [x]).length = (H.length + 3) + 1 := fun X x => by rw [List.length_append, klX]; rfl
 refine WStep.callU (v := .gsl (H.length + 3) 10 (basicL.map Ty.c)) (G := K.set (H.length + 1) (rd s q2.a q2.bad) ++ [.row 52 10 7]) ?_ (fun c hc => ?_) (by rw [lR, klX]; omega) ?_
 ·rw [kd]
  refine (tbasic_c (K.set (H.length + 1) (rd s q2.a q2.bad))).mono fun v G hg => ⟨by rw [hg.1, klX], ?_⟩
  rw [hg.2]; exact (List.set_eq_of_length_le (by rw [lR]; omega)).symm
 ·rcases Nat.lt_or_ge c (H.length + 3) with h1 | h1
  ·rw [List.getElem?_append_left (by rw [klX]; exact h1)]
  ·have : c ≠ (H.length + 3) := fun e => hc (by simp [e])
   rw [List.getElem?_eq_none (by rw [lR]; omega), List.getElem?_eq_none (by rw [klX]; omega)]
 simp (disch := omega) only [kd, go_sem, seval, reduceCtorEq]
 repeat (rw [DC_p]; simp (disch := omega) only [go_sem, seval, reduceCtorEq])
 refine WStep.al (by rw [lR]; simp) (fun b hb => by rw [lR]; simp at hb; omega) ?_; have hsetB : ∀ (X x y z : ABlk), (K.set (H.length + 1) X ++ [x, y]).set (H.length + 4) z = K.set (H.length + 1) X ++ [x, z] := fun X x y z => by
  rw [List.set_append_right _ _ (by rw [klX]; omega), klX, show H.length + 4 - (H.length + 3) = 1 by omega]; rfl
 have hgB : ∀ (X x y : ABlk), (K.set (H.length + 1) X ++ [x, y])[(H.length + 4)]? = some y := fun X x y => by
  rw [List.getElem?_append_right (by rw [klX]; omega), klX, show H.length + 4 - (H.length + 3) = 1 by omega]; rfl
 have htb1 : (H.length + 3) + 1 = (H.length + 4) := by omega
 simp (disch := omega) only [lR, htb1, apS, hsetB, hgB, go_sem, seval, reduceCtorEq]
 repeat (rw [DC_p]; simp (disch := omega) only [hsetB, hgB, go_sem, seval, reduceCtorEq])
 refine WStep.ev (fun _ _ e => by cases e) (fun _ _ e => by cases e) ?_; obtain ⟨B, hB⟩ : ∃ B, K.set (H.length + 1) (rd s q2.a q2.bad) ++ [.row 52 10 7, .cells [sv y1, wv y2, .esl, .gsl (H.length + 3) 10 (basicL.map Ty.c), .esl]] = B := ⟨_, rfl⟩; simp (disch := omega) only [hsetB, hgB, hB, go_sem, seval, reduceCtorEq]; have hfr := FrOk.set (w := [H.length + 4]) (H := K.set (H.length + 1) (rd s q2.a q2.bad) ++ [.row 52 10 7, .cells [(.d (.v (.string ⟨#[]⟩))), (.d (.v (.int .u32 0))), .esl, .esl, .esl]]) (b := H.length + 4) (x := .cells [sv y1, wv y2, .esl, .gsl (H.length + 3) 10 (basicL.map Ty.c), .esl]) (List.mem_singleton.2 rfl); rw [hsetB, hB] at hfr; refine ⟨hfr, ?_⟩; have lB : B.length = H.length + 5 := by rw [<- hB, List.length_append, klX]; show (H.length + 3) + 2 = _; omega
 have br : B[(H.length + 1)]? = some (rd s q2.a q2.bad) := by rw [<- hB, List.getElem?_append_left (by rw [klX]; omega), krX]
 have bv : B[(H.length + 2)]? = some (.cells [.ptr (H.length + 1) 0]) := by rw [<- hB, List.getElem?_append_left (by rw [klX]; omega), kvX]
 have bz : B[H.length]? = some (.cells [(.d (.v (.string ⟨#[]⟩))), (.d (.v (.int .u32 0))), .esl, .esl, .esl]) := by rw [<- hB, List.getElem?_append_left (by rw [klX]; omega), kzX]
 have bn : B[(H.length + 3)]? = some (.row 52 10 7) := by rw [<- hB, List.getElem?_append_right (by rw [klX]; omega), klX, Nat.sub_self]; rfl
 have bt : B[(H.length + 4)]? = some (.cells [sv y1, wv y2, .esl, .gsl (H.length + 3) 10 (basicL.map Ty.c), .esl]) := by rw [<- hB, hgB]
 have bl : ∀ c, c < H.length -> B[c]? = H[c]? := fun c hc => by rw [<- hB, List.getElem?_append_left (by rw [klX]; omega), getset_ne (by omega), kl c hc]
 have hg1 : GS s (H.length + 1) (H.length + 2) (H.length + 4) (fun x => [sv y1, wv y2, x, .gsl (H.length + 3) 10 (basicL.map Ty.c), .esl]) Us.c 48 2 B q2 .esl [] := ⟨br, bv, bt, .inl ⟨rfl, rfl⟩, by omega, by omega, by omega, le2, fun _ => Nat.zero_le _⟩; simp (disch := omega) only [bv, go_sem, seval, reduceCtorEq]; refine Cont.rel (each_c hs ck1 (us_g hs) hg1) ?_; rintro v H1 ⟨rfl, x1, g1, c1⟩; rw [e3] at g1; simp only [List.nil_append] at g1; have g1v := g1.ev; have n1 : H1[(H.length + 3)]? = some (.row 52 10 7) := by rw [c1.out (H.length + 3) (by omega) (by simp [GF, rowB]), bn]
 have hg2 : GS s (H.length + 1) (H.length + 2) (H.length + 4) (fun x => [sv y1, wv y2, x1, x, .esl]) Ty.c 52 10 H1 q3 (.gsl (H.length + 3) 10 (basicL.map Ty.c)) basicL := ⟨g1.er, g1.ev, g1.et, .inr ⟨(H.length + 3), rfl, n1, by omega, by omega, by omega⟩, by omega, by omega, by omega, le3, fun hb => by
  obtain ⟨a1, a2⟩ := on3 hb; obtain ⟨a3, a4⟩ := on2 a2; have a5 := on1 qb a4
  show 7 <= q3.a
  omega⟩
 simp (disch := omega) only [g1v, go_sem, seval, reduceCtorEq]; refine Cont.rel (each_c hs ck2 (ty_g hs) hg2) ?_; rintro v H2 ⟨rfl, x2, g2, c2⟩; rw [e4] at g2; simp only at g2; have g2v := g2.ev; have hg3 : GS s (H.length + 1) (H.length + 2) (H.length + 4) (fun x => [sv y1, wv y2, x1, x2, x]) Ob.c 58 7 H2 q4 .esl [] := ⟨g2.er, g2.ev, g2.et, .inl ⟨rfl, rfl⟩, by omega, by omega, by omega, le4, fun _ => Nat.zero_le _⟩; simp (disch := omega) only [g2v, go_sem, seval, reduceCtorEq]; refine Cont.rel (each_c hs ck3 (ob_g hs) hg3) ?_; rintro v H3 ⟨rfl, x3, g3, c3⟩; rw [e5] at g3; simp only [List.nil_append] at g3; have g3v := g3.ev; have g3t := g3.et; have l1 := c1.len; have l2 := c2.len; have l3 := c3.len; have low : ∀ c, c <= H.length -> H3[c]? = B[c]? := fun c hc => by
  rw [c3.out c (by omega) (by simp [GF, rowB]; omega), c2.out c (by omega) (by simp [GF, rowB]; omega), c1.out c (by omega) (by simp [GF, rowB]; omega)]
 have hz3 : H3[H.length]? = some (.cells [(.d (.v (.string ⟨#[]⟩))), (.d (.v (.int .u32 0))), .esl, .esl, .esl]) := by rw [low _ (Nat.le_refl _), bz]
 have hl3 : H.length < H3.length := by omega
 have hzs : ∀ X, (H3.set H.length X)[H.length]? = some X := fun X => List.getElem?_set_self hl3
 have pre3 : ∀ X, H <+: H3.set H.length X := fun X => pre_out1 fun c hc => by rw [getset_ne (by omega), low c (by omega), bl c hc]
 obtain ⟨f, hf⟩ : ∃ f : Fc, f = ⟨y1, y2, y3, basicL ++ y4, y5⟩ := ⟨_, rfl⟩; rw [<- hf] at hk er; have wk : WkL [sv y1, wv y2, x1, x2, x3] f.cs := by rw [hf]; exact .cons (.rfl _) (.cons (.rfl _) (.cons g1.wk (.cons g2.wk (.cons g3.wk .nil))))
 obtain ⟨t, e, hse, hz⟩ := encV_two f; have he := encode_c (hk.fin hs) (hk.small hs) hk.ky.1 hk.ky.2; rw [hse] at he; simp (disch := omega) only [g3t, go_sem, seval, reduceCtorEq]; refine Cont.mk (ACalls.weak (he _) (.cons (Wk1.ofL wk) .nil)) ?_; simp (disch := omega) only [g3v, go_sem, seval, reduceCtorEq]; refine Cont.mk (end_c g3.er) ?_; have hDP : DecP s ↔ endF s q5 = true /\ t = s /\ e = 0 := by
  rw [DecP, er, hse, hh]; simp only [List.cons.injEq, AV.d.injEq, Dat.v.injEq, Value.string.injEq, Value.int.injEq, and_true, true_and]
  constructor
  ·rintro ⟨_, a, b, c⟩; exact ⟨a, b, c⟩
  ·rintro ⟨a, b, c⟩; exact ⟨hy, a, b, c⟩
 cases hE : endF s q5 with
 | false =>
  simp (disch := omega) only [hzs, hz3, go_sem, seval, reduceCtorEq]; exact out (pre3 _) hzw (dno fun h => by have := (hDP.1 h).1; rw [hE] at this; cases this)
 | true =>
  by_cases h0 : e = 0
  case neg =>
   simp (disch := omega) only [h0, hzs, hz3, go_sem, seval, reduceCtorEq]; exact out (pre3 _) hzw (dno fun h => h0 (hDP.1 h).2.2)
  subst h0
  by_cases hts : t = s
  case neg =>
   simp (disch := omega) only [decide_eq_false hts, hts, hzs, hz3, go_sem, seval, reduceCtorEq]; exact out (pre3 _) hzw (dno fun h => hts (hDP.1 h).2.1)
  subst hts; have dv : [f.av, iv 0] = decV t := by rw [decV, if_pos (hDP.2 ⟨hE, rfl, rfl⟩), er]
  have n1 := g1.one; have n2 := g2.one; have n3 := g3.one
  try simp only [go_sem, seval, reduceCtorEq] at n1
  try simp only [go_sem, seval, reduceCtorEq] at n2
  try simp only [go_sem, seval, reduceCtorEq] at n3
  simp (disch := omega) only [hzs, hz3, g3t, n1, n2, n3, Bool.and_self, go_sem, seval, reduceCtorEq]; exact out (pre3 _) (.cons (Wk1.ofL wk) (.cons (.rfl _) .nil)) dv
end Go.Proofs.YthifjndenhjobaaGreat.Rid
