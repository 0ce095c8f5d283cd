/- The closures of uses, of objects. Printed by genD6.py. -/
import Derived.Test.YthifjndenhjobaaXD4
import Derived.Test.YthifjndenhjobaaXD5
namespace Go.Proofs.Ythifjndenhjobaa.Rid
set_option linter.unusedSimpArgs false
set_option linter.unusedVariables false
set_option maxRecDepth 20000
set_option maxHeartbeats 4000000
open Go.RowKit

def c72 : AC :=
 .seq (.reg [kn 3 (.ld (.t 0) 1 false), kn 4 (.call 69 [(.t 3)]), kn 5 (.bd [(.d (.v (.string ⟨#[]⟩))), (.d (.v (.int .u32 0)))] [(0, 1, (.t 4))]), kn 2 (.al [(.d (.v (.string ⟨#[]⟩))), (.d (.v (.int .u32 0)))]), ke (.st (.t 2) (.t 5) 2)])
 (.seq (.reg [kn 6 (.ld (.t 0) 1 false), kn 7 (.call 70 [(.t 6)]), kn 8 (.fa (.t 2) 1), ke (.st (.t 8) (.t 7) 1)])
 (.reg [kn 9 (.fa (.t 1) 2), kn 10 (.ld (.t 9) 1 false), kn 11 (.ld (.t 2) 2 true), kn 12 (.bs .im 65 2 [(.t 11)]), kn 13 (.app .gr 65 2 24 (.t 10) (.t 12)), kn 14 (.fa (.t 1) 2), ke (.st (.t 14) (.t 13) 1)]))
def r72 : List RC := []

def c75 : AC :=
 .seq (.dreg [[], [0], [], [2, 1], [1, 3], [], [5, 4, 3, 0, 1, 2, 3, 4, 5]] [kn 3 (.ld (.t 0) 1 false), kn 4 (.call 76 [(.t 3)]), kn 5 (.ld (.t 0) 1 false), kn 6 (.call 69 [(.t 5)]), kn 7 (.bd [kz, (.d (.v (.string ⟨#[]⟩))), kz, kz, kz, (.d (.v (.string ⟨#[]⟩))), kz] [(0, 1, (.t 4)), (1, 1, (.t 6))]), kn 2 (.al [kz, (.d (.v (.string ⟨#[]⟩))), kz, kz, kz, (.d (.v (.string ⟨#[]⟩))), kz]), ke (.st (.t 2) (.t 7) 7)])
 (.seq (.reg [kn 8 (.ld (.t 0) 1 false), kn 9 (.call 77 [(.t 8)]), kn 10 (.fa (.t 2) 2), ke (.st (.t 10) (.t 9) 1)])
 (.seq (.dreg [[], [0], [], [2, 1], [1, 3], [0, 1, 2, 3, 4], [5, 4, 3, 0, 1, 2, 3, 4]] [kn 11 (.ld (.t 0) 1 false), kn 12 (.call 76 [(.t 11)]), kn 13 (.ld (.t 0) 1 false), kn 14 (.call 77 [(.t 13)]), kn 15 (.bd [kz, kz, (.d (.v (.string ⟨#[]⟩)))] [(0, 1, (.t 12)), (1, 1, (.t 14))]), kn 16 (.fa (.t 2) 3), ke (.st (.t 16) (.t 15) 3)])
 (.seq (.reg [kn 17 (.ld (.t 0) 1 false), kn 18 (.call 69 [(.t 17)]), kn 19 (.fa (.t 2) 3), kn 20 (.fa (.t 19) 2), ke (.st (.t 20) (.t 18) 1)])
 (.seq (.seq (.reg [kn 21 (.fa (.t 2) 3), kn 22 (.fa (.t 21) 0), kn 23 (.ld (.t 22) 1 false), kn 24 (.bin .eql (.t 23) (kc 4))])
 (.cond (.t 24) (.reg [kn 25 (.fa (.t 2) 3), kn 26 (.fa (.t 25) 1), kn 27 (.ld (.t 26) 1 false), kn 28 (.cvi .u32 (.t 27)), kn 29 (.cvi .i64 (.t 28)), kn 30 (.fa (.t 2) 3), kn 31 (.fa (.t 30) 1), ke (.st (.t 31) (.t 29) 1)]) (.skip)))
 (.seq (.reg [kn 32 (.ld (.t 0) 1 false), kn 33 (.call 77 [(.t 32)]), kn 34 (.fa (.t 2) 6), ke (.st (.t 34) (.t 33) 1)])
 (.reg [kn 35 (.fa (.t 1) 4), kn 36 (.ld (.t 35) 1 false), kn 37 (.ld (.t 2) 7 true), kn 38 (.bs .im 34 7 [(.t 37)]), kn 39 (.app .gr 34 7 72 (.t 36) (.t 38)), kn 40 (.fa (.t 1) 4), ke (.st (.t 40) (.t 39) 1)]))))))
def r75 : List RC := []

theorem cc72 : Try.f72.body.bind (comp Try.prog (hhD 72)) = some c72 := by kernel_rfl
theorem rr72 : resC Try.prog Try.f72 = some r72 := by kernel_rfl
theorem cc75 : Try.f75.body.bind (comp Try.prog (hhD 75)) = some c75 := by kernel_rfl
theorem rr75 : resC Try.prog Try.f75 = some r75 := by kernel_rfl
theorem hp_k0 {B : List ABlk} {s : ByteArray} {rb tb b : Nat} {r : Rd} {cs : List AV} {k : ABlk} : kill [B.length] (HP B s rb tb b r cs k []) = HP B s rb tb b r cs k [] :=
 List.set_eq_of_length_le (by rw [hp_len0]; exact Nat.le_refl _)
theorem kq2 {H : List ABlk} {a b c : Nat} (h : c ≠ a) (h2 : c ≠ b) : (kill [a, b] H)[c]? = H[c]? := (kr1 (H := H.set a .dead) h2).trans (kr1 h)
theorem ex_k0 {P : Program} {f : FuncId} {args : List AV} {B : List ABlk} {s : ByteArray} {rb tb b : Nat} {r q : Rd} {cs : List AV} {k : ABlk} {v : AV} (h : ∀ H, H[rb]? = some (rd s r.a r.bad) → ACalls P f args H fun v' H' => v' = v ∧ H' = H.set rb (rd s q.a q.bad)) (l1 : rb < B.length) (h2 : rb ≠ tb) (h3 : rb ≠ b) :
 ACalls P f args (kill [B.length] (HP B s rb tb b r cs k [])) fun v' G' => v' = v ∧ G' = kill [B.length] (HP B s rb tb b q cs k []) := by
 rw [hp_k0]
 refine (h _ (hp_r l1 h2 h3)).mono fun v' G' hg => ⟨hg.1, ?_⟩
 rw [hg.2, hp_k0, hp_sr l1 h2 h3]
theorem fr_q {B : List ABlk} {s : ByteArray} {rb tb b : Nat} {r q : Rd} {cs : List AV} {k : ABlk} (l1 : rb < B.length) (h2 : rb ≠ tb) (h3 : rb ≠ b) : ∀ c, c ∉ [rb] → (HP B s rb tb b q cs k [])[c]? = (HP B s rb tb b r cs k [])[c]? := fun c hc => by
 rw [← hp_sr (q := q) (r := r) l1 h2 h3]
 exact getset_ne (fun e => hc (by simp [e]))
theorem fr_ql {B : List ABlk} {s : ByteArray} {rb tb b : Nat} {r q : Rd} {cs : List AV} {k : ABlk} : (HP B s rb tb b r cs k []).length ≤ (HP B s rb tb b q cs k []).length := by rw [hp_len0, hp_len0]; exact Nat.le_refl _
theorem WStep.al {P : Program} {w u : List Nat} {d : Option Nat} {l : List AV} {s : List AV} {H : List ABlk} {Kk : List AV → List ABlk → Prop} (hw : H.length ∈ w) (hu : ∀ b ∈ u, b < H.length ∨ H.length + 1 ≤ b) (h : Kk (setO s d (.ptr H.length 0)) (H ++ [.cells l])) :
 WStep P w u ⟨d, .al l, none⟩ s H Kk := by
 refine WStep.evU (H ++ [.cells l]) (by simp) (by simp) ?_
 simp only [evK, EvK, kill_length]
 refine ⟨?_, h⟩
 rw [show kill u H ++ [ABlk.cells l] = kill u (H ++ [.cells l]) from (kill_app hu).symm]
 exact ⟨rfl, fun c hc => by
  rcases Nat.lt_or_ge c H.length with h1 | h1
  ·rw [List.getElem?_append_left h1]
  ·have : c ≠ H.length := fun e => hc (e ▸ hw)
   rw [List.getElem?_eq_none (by simp; omega), List.getElem?_eq_none h1], by simp⟩

theorem us_g {s : ByteArray} (hs : s.size ≤ 300000) {rb vb tb : Nat} {c0 c1 c3 c4 : AV} : GStep s rb vb tb (fun x => [c0, c1, x, c3, c4]) Us.c 65 2 72 [.ptr vb 0, .ptr tb 0] (usF s) := fun H r x l h hb => by
 obtain ⟨l1, l2, l3⟩ := h.lt
 have d1 := h.d1
 have d2 := h.d2
 have d3 := h.d3
 have hv := h.ev
 have le0 := h.le
 have le1 := (text_r s).le r le0
 obtain ⟨y1, q1, e1⟩ : ∃ y q, textF s r = (y, q) := ⟨_, _, rfl⟩
 rw [e1] at le1
 simp only at le1
 have le2 := (word_r s).le q1 le1
 obtain ⟨y2, q2, e2⟩ : ∃ y q, wordF s q1 = (y, q) := ⟨_, _, rfl⟩
 rw [e2] at le2
 simp only at le2
 have ep : usF s r = ((⟨y1, y2⟩ : Us), q2) := by simp only [usF, bnd, mp, e1, e2]
 have mv : q2.bad = false → r.bad = false ∧ r.a < q2.a := fun hq => by
  have g1 := (us_r s).st r
  have g2 := (us_r s).go r
  rw [ep] at g1 g2
  exact ⟨g1 hq, g2 hq⟩
 rw [ep]
 rcases h.g with ⟨rfl, rfl⟩ | ⟨b, rfl, g1, g2, g3, g4⟩
 ·have hh := hp_self (s := s) (r := r) (k := .dead) (b := (H.length + 5)) h.er h.et (.inr (by omega))
  suffices hw : ACalls Try.prog 72 [.ptr vb 0, .ptr tb 0] (HP H s rb tb (H.length + 5) r [c0, c1, .esl, c3, c4] .dead []) fun v G => v = .tup [] ∧ G = HP H s rb tb (H.length + 5) q2 [c0, c1, (.gsl (H.length + 1) 2 [Us.c (⟨y1, y2⟩ : Us)]), c3, c4] .dead [.cells [sv y1, wv y2], .row 65 2 1] by
   rw [hh] at hw
   refine hw.mono fun v G => ?_
   rintro ⟨rfl, rfl⟩
   exact ⟨rfl, _, h.first (b := H.length + 5) (k := .dead) (by omega) [.cells [sv y1, wv y2]] le2 mv rfl⟩
  clear hh
  refine ACalls.into Try.func72 cc72 rr72 fun hcl => ?_
  simp (maxSteps := 2000000) (disch := omega) only [Try.ntmps72, c72, r72, hv, go_sem, seval, reduceCtorEq]
  refine Cont.mk (text_c (hp_r l1 d2 (by omega)) hs le0) ?_
  rw [e1]
  simp (maxSteps := 2000000) (disch := omega) only [hv, go_sem, seval, reduceCtorEq]
  refine Cont.mk (word_c (hp_r l1 d2 (by omega)) hs le1) ?_
  rw [e2]
  simp (maxSteps := 2000000) (disch := omega) only [hv, go_sem, seval, reduceCtorEq]
  exact Ret.keep ⟨rfl, rfl⟩
 ·have hh := hp_self (s := s) (r := r) (k := (.row 65 2 l.length)) (b := b) h.er h.et (.inl g1)
  have l4 := (List.getElem?_eq_some_iff.1 g1).1
  have hml : l.length ≤ 300000 := by have := h.m hb; omega
  have llm : (l.map Us.c).length = l.length := List.length_map ..
  suffices hw : ACalls Try.prog 72 [.ptr vb 0, .ptr tb 0] (HP H s rb tb b r [c0, c1, (.gsl b 2 (l.map Us.c)), c3, c4] (.row 65 2 l.length) []) fun v G => v = .tup [] ∧ G = HP H s rb tb b q2 [c0, c1, (.gsl b 2 ((l ++ [(⟨y1, y2⟩ : Us)]).map Us.c)), c3, c4] (.row 65 2 (l.length + 1)) [.cells [sv y1, wv y2]] by
   rw [hh] at hw
   refine hw.mono fun v G => ?_
   rintro ⟨rfl, rfl⟩
   exact ⟨rfl, _, h.next g1 g2 g3 g4 [.cells [sv y1, wv y2]] le2 mv⟩
  clear hh
  refine ACalls.into Try.func72 cc72 rr72 fun hcl => ?_
  simp (maxSteps := 2000000) (disch := omega) only [Try.ntmps72, c72, r72, hv, go_sem, seval, reduceCtorEq]
  refine Cont.mk (text_c (hp_r l1 d2 (by omega)) hs le0) ?_
  rw [e1]
  simp (maxSteps := 2000000) (disch := omega) only [hv, go_sem, seval, reduceCtorEq]
  refine Cont.mk (word_c (hp_r l1 d2 (by omega)) hs le1) ?_
  rw [e2]
  simp (maxSteps := 2000000) (disch := omega) only [hv, llm, go_sem, seval, reduceCtorEq]
  exact Ret.keep ⟨rfl, by rw [List.map_append]; rfl⟩

theorem ob_g {s : ByteArray} (hs : s.size ≤ 300000) {rb vb tb : Nat} {c0 c1 c3 c4 : AV} : GStep s rb vb tb (fun x => [c0, c1, c3, c4, x]) Ob.c 34 7 75 [.ptr vb 0, .ptr tb 0] (obF s) := fun H r x l h hb => by
 obtain ⟨l1, l2, l3⟩ := h.lt
 have d1 := h.d1
 have d2 := h.d2
 have d3 := h.d3
 have hv := h.ev
 have le0 := h.le
 have le1 := (byte_r s).le r le0
 obtain ⟨y1, q1, e1⟩ : ∃ y q, byteF s r = (y, q) := ⟨_, _, rfl⟩
 rw [e1] at le1
 simp only at le1
 have le2 := (text_r s).le q1 le1
 obtain ⟨y2, q2, e2⟩ : ∃ y q, textF s q1 = (y, q) := ⟨_, _, rfl⟩
 rw [e2] at le2
 simp only at le2
 have le3 := (num_r s).le q2 le2
 obtain ⟨y3, q3, e3⟩ : ∃ y q, numF s q2 = (y, q) := ⟨_, _, rfl⟩
 rw [e3] at le3
 simp only at le3
 have le4 := (byte_r s).le q3 le3
 obtain ⟨y4, q4, e4⟩ : ∃ y q, byteF s q3 = (y, q) := ⟨_, _, rfl⟩
 rw [e4] at le4
 simp only at le4
 have le5 := (num_r s).le q4 le4
 obtain ⟨y5, q5, e5⟩ : ∃ y q, numF s q4 = (y, q) := ⟨_, _, rfl⟩
 rw [e5] at le5
 simp only at le5
 have le6 := (text_r s).le q5 le5
 obtain ⟨y6, q6, e6⟩ : ∃ y q, textF s q5 = (y, q) := ⟨_, _, rfl⟩
 rw [e6] at le6
 simp only at le6
 have le7 := (num_r s).le q6 le6
 obtain ⟨y7, q7, e7⟩ : ∃ y q, numF s q6 = (y, q) := ⟨_, _, rfl⟩
 rw [e7] at le7
 simp only at le7
 have ep : obF s r = ((⟨y1, y2, y3, ⟨y4, numR y4 y5, y6⟩, y7⟩ : Ob), q7) := by simp only [obF, bnd, mp, e1, e2, e3, e4, e5, e6, e7]
 have mv : q7.bad = false → r.bad = false ∧ r.a < q7.a := fun hq => by
  have g1 := (ob_r s).st r
  have g2 := (ob_r s).go r
  rw [ep] at g1 g2
  exact ⟨g1 hq, g2 hq⟩
 rw [ep]
 rcases h.g with ⟨rfl, rfl⟩ | ⟨b, rfl, g1, g2, g3, g4⟩
 ·have hh := hp_self (s := s) (r := r) (k := .dead) (b := (H.length + 5)) h.er h.et (.inr (by omega))
  suffices hw : ACalls Try.prog 75 [.ptr vb 0, .ptr tb 0] (HP H s rb tb (H.length + 5) r [c0, c1, c3, c4, .esl] .dead []) fun v G => v = .tup [] ∧ G = HP H s rb tb (H.length + 5) q7 [c0, c1, c3, c4, (.gsl (H.length + 1) 7 [Ob.c (⟨y1, y2, y3, ⟨y4, numR y4 y5, y6⟩, y7⟩ : Ob)])] .dead [.cells [iv y1, sv y2, iv y3, iv y4, iv (numR y4 y5), sv y6, iv y7], .row 34 7 1] by
   rw [hh] at hw
   refine hw.mono fun v G => ?_
   rintro ⟨rfl, rfl⟩
   exact ⟨rfl, _, h.first (b := H.length + 5) (k := .dead) (by omega) [.cells [iv y1, sv y2, iv y3, iv y4, iv (numR y4 y5), sv y6, iv y7]] le7 mv rfl⟩
  clear hh
  refine ACalls.into Try.func75 cc75 rr75 fun hcl => ?_
  simp (maxSteps := 2000000) (disch := omega) only [Try.ntmps75, c75, r75, hv, go_sem, seval, reduceCtorEq]
  refine W.dregD [([], [H.length]), ([rb], [H.length]), ([], [rb, H.length]), ([rb], [H.length]), ([], [H.length]), ([H.length], [rb, rb]), ([H.length], [])] follows (by decide +kernel) rfl rfl (fun z hz c hc => ?_) ?_
  ·simp only [List.mem_cons, List.not_mem_nil, or_false] at hz
   rcases hz with rfl | rfl | rfl | rfl | rfl | rfl | rfl <;> first | exact absurd hc List.not_mem_nil | (rw [List.mem_singleton.1 hc, hp_r l1 d2 (by omega)]; simp; try omega) | (rw [List.mem_singleton.1 hc, List.getElem?_eq_none (by rw [hp_len0]; exact Nat.le_refl _)]; simp; try omega)
  repeat (rw [DC_p]; simp (maxSteps := 2000000) (disch := omega) only [hv, hp_k0, go_sem, seval, reduceCtorEq])
  refine WStep.callU (v := iv y1) (G := HP H s rb tb (H.length + 5) q1 [c0, c1, c3, c4, .esl] .dead []) (ex_k0 (fun H he => by have := byte_c he hs le0; rw [e1] at this; exact this) l1 d2 (by omega)) (fr_q l1 d2 (by omega)) fr_ql ?_
  simp (maxSteps := 2000000) (disch := omega) only [hv, kq2, hp_k0, go_sem, seval, reduceCtorEq]
  repeat (rw [DC_p]; simp (maxSteps := 2000000) (disch := omega) only [hv, kq2, hp_k0, go_sem, seval, reduceCtorEq])
  refine WStep.callU (v := sv y2) (G := HP H s rb tb (H.length + 5) q2 [c0, c1, c3, c4, .esl] .dead []) (ex_k0 (fun H he => by have := text_c he hs le1; rw [e2] at this; exact this) l1 d2 (by omega)) (fr_q l1 d2 (by omega)) fr_ql ?_
  simp (maxSteps := 2000000) (disch := omega) only [hv, kq2, hp_k0, go_sem, seval, reduceCtorEq]
  repeat (rw [DC_p]; simp (maxSteps := 2000000) (disch := omega) only [hv, kq2, hp_k0, go_sem, seval, reduceCtorEq])
  refine WStep.al (by rw [hp_len0]; simp) (fun b hb => by rw [hp_len0]; simp at hb; omega) ?_
  simp (maxSteps := 2000000) (disch := omega) only [hp_len0, go_sem, seval, reduceCtorEq]
  repeat (rw [DC_p]; simp (maxSteps := 2000000) (disch := omega) only [go_sem, seval, reduceCtorEq])
  refine WStep.ev (fun _ _ e => by cases e) (fun _ _ e => by cases e) ?_
  simp (maxSteps := 2000000) (disch := omega) only [go_sem, seval, reduceCtorEq]
  refine ⟨fr_o, ?_⟩
  simp (maxSteps := 2000000) (disch := omega) only [hv, go_sem, seval, reduceCtorEq]
  refine Cont.mk (num_c (hp_r l1 d2 (by omega)) hs le2) ?_
  rw [e3]
  simp (maxSteps := 2000000) (disch := omega) only [hv, go_sem, seval, reduceCtorEq]
  refine W.dregD [([], []), ([rb], []), ([], [rb]), ([rb], []), ([], []), ([], []), ([H.length], [])] follows (by decide +kernel) rfl rfl (fun z hz c hc => ?_) ?_
  ·simp only [List.mem_cons, List.not_mem_nil, or_false] at hz
   rcases hz with rfl | rfl | rfl | rfl | rfl | rfl | rfl <;> first | exact absurd hc List.not_mem_nil | (rw [List.mem_singleton.1 hc, hp_r l1 d2 (by omega)]; simp; try omega) | (rw [List.mem_singleton.1 hc, hp_o0]; simp) | (rw [List.mem_singleton.1 hc, List.getElem?_eq_none (by rw [hp_len0]; exact Nat.le_refl _)]; simp; try omega)
  repeat (rw [DC_p]; simp (maxSteps := 2000000) (disch := omega) only [hv, go_sem, seval, reduceCtorEq])
  refine WStep.call (byte_c (hp_r l1 d2 (by omega)) hs le3) fr_c fr_l ?_
  rw [e4]
  simp (maxSteps := 2000000) (disch := omega) only [hv, kr1, go_sem, seval, reduceCtorEq]
  repeat (rw [DC_p]; simp (maxSteps := 2000000) (disch := omega) only [hv, kr1, go_sem, seval, reduceCtorEq])
  refine WStep.call (num_c (hp_r l1 d2 (by omega)) hs le4) fr_c fr_l ?_
  rw [e5]
  simp (maxSteps := 2000000) (disch := omega) only [hv, kr1, go_sem, seval, reduceCtorEq]
  repeat (rw [DC_p]; simp (maxSteps := 2000000) (disch := omega) only [hv, kr1, go_sem, seval, reduceCtorEq])
  refine WStep.ev (fun _ _ e => by cases e) (fun _ _ e => by cases e) ?_
  simp (maxSteps := 2000000) (disch := omega) only [go_sem, seval, reduceCtorEq]
  refine ⟨fr_o, ?_⟩
  simp (maxSteps := 2000000) (disch := omega) only [hv, go_sem, seval, reduceCtorEq]
  refine Cont.mk (text_c (hp_r l1 d2 (by omega)) hs le5) ?_
  rw [e6]
  by_cases h4 : y4 = 4
  ·have eR : numR y4 y5 = IntKind.i64.wrap (IntKind.u32.wrap y5) := by
    rw [numR, if_pos h4]
    have e1 : IntKind.u32.wrap y5 = y5 % 4294967296 := by simp [IntKind.wrap, IntKind.bits, IntKind.signed]
    rw [e1, w_i64 (by omega) (by omega)]
   rw [eR]
   simp (maxSteps := 2000000) (disch := omega) only [hv, decide_eq_true h4, go_sem, seval, reduceCtorEq]
   refine Cont.mk (num_c (hp_r l1 d2 (by omega)) hs le6) ?_
   rw [e7]
   simp (maxSteps := 2000000) (disch := omega) only [hv, go_sem, seval, reduceCtorEq]
   exact Ret.keep ⟨rfl, rfl⟩
  ·have eR : numR y4 y5 = y5 := by rw [numR, if_neg h4]
   rw [eR]
   simp (maxSteps := 2000000) (disch := omega) only [hv, decide_eq_false h4, go_sem, seval, reduceCtorEq]
   refine Cont.mk (num_c (hp_r l1 d2 (by omega)) hs le6) ?_
   rw [e7]
   simp (maxSteps := 2000000) (disch := omega) only [hv, go_sem, seval, reduceCtorEq]
   exact Ret.keep ⟨rfl, rfl⟩
 ·have hh := hp_self (s := s) (r := r) (k := (.row 34 7 l.length)) (b := b) h.er h.et (.inl g1)
  have l4 := (List.getElem?_eq_some_iff.1 g1).1
  have hml : l.length ≤ 300000 := by have := h.m hb; omega
  have llm : (l.map Ob.c).length = l.length := List.length_map ..
  suffices hw : ACalls Try.prog 75 [.ptr vb 0, .ptr tb 0] (HP H s rb tb b r [c0, c1, c3, c4, (.gsl b 7 (l.map Ob.c))] (.row 34 7 l.length) []) fun v G => v = .tup [] ∧ G = HP H s rb tb b q7 [c0, c1, c3, c4, (.gsl b 7 ((l ++ [(⟨y1, y2, y3, ⟨y4, numR y4 y5, y6⟩, y7⟩ : Ob)]).map Ob.c))] (.row 34 7 (l.length + 1)) [.cells [iv y1, sv y2, iv y3, iv y4, iv (numR y4 y5), sv y6, iv y7]] by
   rw [hh] at hw
   refine hw.mono fun v G => ?_
   rintro ⟨rfl, rfl⟩
   exact ⟨rfl, _, h.next g1 g2 g3 g4 [.cells [iv y1, sv y2, iv y3, iv y4, iv (numR y4 y5), sv y6, iv y7]] le7 mv⟩
  clear hh
  refine ACalls.into Try.func75 cc75 rr75 fun hcl => ?_
  simp (maxSteps := 2000000) (disch := omega) only [Try.ntmps75, c75, r75, hv, go_sem, seval, reduceCtorEq]
  refine W.dregD [([], [H.length]), ([rb], [H.length]), ([], [rb, H.length]), ([rb], [H.length]), ([], [H.length]), ([H.length], [rb, rb]), ([H.length], [])] follows (by decide +kernel) rfl rfl (fun z hz c hc => ?_) ?_
  ·simp only [List.mem_cons, List.not_mem_nil, or_false] at hz
   rcases hz with rfl | rfl | rfl | rfl | rfl | rfl | rfl <;> first | exact absurd hc List.not_mem_nil | (rw [List.mem_singleton.1 hc, hp_r l1 d2 (by omega)]; simp; try omega) | (rw [List.mem_singleton.1 hc, List.getElem?_eq_none (by rw [hp_len0]; exact Nat.le_refl _)]; simp; try omega)
  repeat (rw [DC_p]; simp (maxSteps := 2000000) (disch := omega) only [hv, hp_k0, go_sem, seval, reduceCtorEq])
  refine WStep.callU (v := iv y1) (G := HP H s rb tb b q1 [c0, c1, c3, c4, (.gsl b 7 (l.map Ob.c))] (.row 34 7 l.length) []) (ex_k0 (fun H he => by have := byte_c he hs le0; rw [e1] at this; exact this) l1 d2 (by omega)) (fr_q l1 d2 (by omega)) fr_ql ?_
  simp (maxSteps := 2000000) (disch := omega) only [hv, kq2, hp_k0, go_sem, seval, reduceCtorEq]
  repeat (rw [DC_p]; simp (maxSteps := 2000000) (disch := omega) only [hv, kq2, hp_k0, go_sem, seval, reduceCtorEq])
  refine WStep.callU (v := sv y2) (G := HP H s rb tb b q2 [c0, c1, c3, c4, (.gsl b 7 (l.map Ob.c))] (.row 34 7 l.length) []) (ex_k0 (fun H he => by have := text_c he hs le1; rw [e2] at this; exact this) l1 d2 (by omega)) (fr_q l1 d2 (by omega)) fr_ql ?_
  simp (maxSteps := 2000000) (disch := omega) only [hv, kq2, hp_k0, go_sem, seval, reduceCtorEq]
  repeat (rw [DC_p]; simp (maxSteps := 2000000) (disch := omega) only [hv, kq2, hp_k0, go_sem, seval, reduceCtorEq])
  refine WStep.al (by rw [hp_len0]; simp) (fun b hb => by rw [hp_len0]; simp at hb; omega) ?_
  simp (maxSteps := 2000000) (disch := omega) only [hp_len0, go_sem, seval, reduceCtorEq]
  repeat (rw [DC_p]; simp (maxSteps := 2000000) (disch := omega) only [go_sem, seval, reduceCtorEq])
  refine WStep.ev (fun _ _ e => by cases e) (fun _ _ e => by cases e) ?_
  simp (maxSteps := 2000000) (disch := omega) only [go_sem, seval, reduceCtorEq]
  refine ⟨fr_o, ?_⟩
  simp (maxSteps := 2000000) (disch := omega) only [hv, go_sem, seval, reduceCtorEq]
  refine Cont.mk (num_c (hp_r l1 d2 (by omega)) hs le2) ?_
  rw [e3]
  simp (maxSteps := 2000000) (disch := omega) only [hv, go_sem, seval, reduceCtorEq]
  refine W.dregD [([], []), ([rb], []), ([], [rb]), ([rb], []), ([], []), ([], []), ([H.length], [])] follows (by decide +kernel) rfl rfl (fun z hz c hc => ?_) ?_
  ·simp only [List.mem_cons, List.not_mem_nil, or_false] at hz
   rcases hz with rfl | rfl | rfl | rfl | rfl | rfl | rfl <;> first | exact absurd hc List.not_mem_nil | (rw [List.mem_singleton.1 hc, hp_r l1 d2 (by omega)]; simp; try omega) | (rw [List.mem_singleton.1 hc, hp_o0]; simp) | (rw [List.mem_singleton.1 hc, List.getElem?_eq_none (by rw [hp_len0]; exact Nat.le_refl _)]; simp; try omega)
  repeat (rw [DC_p]; simp (maxSteps := 2000000) (disch := omega) only [hv, go_sem, seval, reduceCtorEq])
  refine WStep.call (byte_c (hp_r l1 d2 (by omega)) hs le3) fr_c fr_l ?_
  rw [e4]
  simp (maxSteps := 2000000) (disch := omega) only [hv, kr1, go_sem, seval, reduceCtorEq]
  repeat (rw [DC_p]; simp (maxSteps := 2000000) (disch := omega) only [hv, kr1, go_sem, seval, reduceCtorEq])
  refine WStep.call (num_c (hp_r l1 d2 (by omega)) hs le4) fr_c fr_l ?_
  rw [e5]
  simp (maxSteps := 2000000) (disch := omega) only [hv, kr1, go_sem, seval, reduceCtorEq]
  repeat (rw [DC_p]; simp (maxSteps := 2000000) (disch := omega) only [hv, kr1, go_sem, seval, reduceCtorEq])
  refine WStep.ev (fun _ _ e => by cases e) (fun _ _ e => by cases e) ?_
  simp (maxSteps := 2000000) (disch := omega) only [go_sem, seval, reduceCtorEq]
  refine ⟨fr_o, ?_⟩
  simp (maxSteps := 2000000) (disch := omega) only [hv, go_sem, seval, reduceCtorEq]
  refine Cont.mk (text_c (hp_r l1 d2 (by omega)) hs le5) ?_
  rw [e6]
  by_cases h4 : y4 = 4
  ·have eR : numR y4 y5 = IntKind.i64.wrap (IntKind.u32.wrap y5) := by
    rw [numR, if_pos h4]
    have e1 : IntKind.u32.wrap y5 = y5 % 4294967296 := by simp [IntKind.wrap, IntKind.bits, IntKind.signed]
    rw [e1, w_i64 (by omega) (by omega)]
   rw [eR]
   simp (maxSteps := 2000000) (disch := omega) only [hv, decide_eq_true h4, go_sem, seval, reduceCtorEq]
   refine Cont.mk (num_c (hp_r l1 d2 (by omega)) hs le6) ?_
   rw [e7]
   simp (maxSteps := 2000000) (disch := omega) only [hv, llm, go_sem, seval, reduceCtorEq]
   exact Ret.keep ⟨rfl, by rw [List.map_append]; rfl⟩
  ·have eR : numR y4 y5 = y5 := by rw [numR, if_neg h4]
   rw [eR]
   simp (maxSteps := 2000000) (disch := omega) only [hv, decide_eq_false h4, go_sem, seval, reduceCtorEq]
   refine Cont.mk (num_c (hp_r l1 d2 (by omega)) hs le6) ?_
   rw [e7]
   simp (maxSteps := 2000000) (disch := omega) only [hv, llm, go_sem, seval, reduceCtorEq]
   exact Ret.keep ⟨rfl, by rw [List.map_append]; rfl⟩

end Go.Proofs.Ythifjndenhjobaa.Rid

/- The closure of types. Printed by genD6.py. -/
namespace Go.Proofs.Ythifjndenhjobaa.Rid
set_option linter.unusedSimpArgs false
set_option linter.unusedVariables false
set_option maxRecDepth 20000
set_option maxHeartbeats 4000000
open Go.RowKit

def c73 : AC :=
 .dreg [[], [0], [], [2], [3], [1, 4, 3], [0, 1, 2, 3, 4, 5], [6, 5, 5, 0, 1, 2, 3, 4, 5]] [kn 2 (.fa (.t 0) 3), kn 3 (.ld (.t 2) 1 false), kn 4 (.ld (.t 1) 1 false), kn 5 (.call 74 [(.t 4)]), kn 6 (.bs .im 49 10 [(.t 5)]), kn 7 (.app .gr 49 10 128 (.t 3) (.t 6)), kn 8 (.fa (.t 0) 3), ke (.st (.t 8) (.t 7) 1)]
def r73 : List RC := []

theorem cc73 : Try.f73.body.bind (comp Try.prog (hhD 73)) = some c73 := by kernel_rfl
theorem rr73 : resC Try.prog Try.f73 = some r73 := by kernel_rfl
theorem fr_b {B : List ABlk} {s : ByteArray} {rb tb b : Nat} {r : Rd} {cs : List AV} {k j : ABlk} {l : List ABlk} (h : b < B.length) : FrOk [b] [] (HP B s rb tb b r cs k l) (HP B s rb tb b r cs j l) (HP B s rb tb b r cs j l) := by
 rw [← hp_sb (k := k) (j := j) h]; exact FrOk.set (by simp)
theorem fr_n {B : List ABlk} {s : ByteArray} {rb tb b : Nat} {r : Rd} {cs : List AV} {k x : ABlk} : FrOk [B.length] [] (HP B s rb tb b r cs k []) (HP B s rb tb b r cs k [x]) (HP B s rb tb b r cs k [x]) := by
 rw [show HP B s rb tb b r cs k [x] = HP B s rb tb b r cs k [] ++ [x] by rw [hp_app, List.nil_append]]
 exact FrOk.app (fun k hk => by simp at hk; subst hk; rw [hp_len0]; simp) (fun b hb => by cases hb)

theorem ty_g {s : ByteArray} (hs : s.size ≤ 300000) {rb vb tb : Nat} {c0 c1 c3 c4 : AV} : GStep s rb vb tb (fun x => [c0, c1, c3, x, c4]) Ty.c 49 10 73 [.ptr tb 0, .ptr vb 0] (tyF s) := fun H r x l h hb => by
 obtain ⟨l1, l2, l3⟩ := h.lt
 have d1 := h.d1
 have d2 := h.d2
 have d3 := h.d3
 have hv := h.ev
 have le0 := h.le
 have le1 := (ty_r s).le r le0
 obtain ⟨y1, q1, e1⟩ : ∃ y q, tyF s r = (y, q) := ⟨_, _, rfl⟩
 rw [e1] at le1
 simp only at le1
 have ep : tyF s r = (y1, q1) := e1
 have mv : q1.bad = false → r.bad = false ∧ r.a < q1.a := fun hq => by
  have g1 := (ty_r s).st r
  have g2 := (ty_r s).go r
  rw [ep] at g1 g2
  exact ⟨g1 hq, g2 hq⟩
 rw [ep]
 rcases h.g with ⟨rfl, rfl⟩ | ⟨b, rfl, g1, g2, g3, g4⟩
 ·have hh := hp_self (s := s) (r := r) (k := .dead) (b := (H.length + 5)) h.er h.et (.inr (by omega))
  suffices hw : ACalls Try.prog 73 [.ptr tb 0, .ptr vb 0] (HP H s rb tb (H.length + 5) r [c0, c1, c3, .esl, c4] .dead []) fun v G => v = .tup [] ∧ G = HP H s rb tb (H.length + 5) q1 [c0, c1, c3, (.gsl (H.length + 0) 10 [Ty.c y1]), c4] .dead [.row 49 10 1] by
   rw [hh] at hw
   refine hw.mono fun v G => ?_
   rintro ⟨rfl, rfl⟩
   exact ⟨rfl, _, h.first (b := H.length + 5) (k := .dead) (by omega) [] le1 mv rfl⟩
  clear hh
  refine ACalls.into Try.func73 cc73 rr73 fun hcl => ?_
  simp (maxSteps := 2000000) (disch := omega) only [Try.ntmps73, c73, r73, hv, go_sem, seval, reduceCtorEq]
  refine W.dregD [([], [rb]), ([], [rb]), ([], []), ([rb], []), ([], []), ([H.length], []), ([], []), ([tb], [])] follows (by decide +kernel) rfl rfl (fun z hz c hc => ?_) ?_
  ·simp only [List.mem_cons, List.not_mem_nil, or_false] at hz
   rcases hz with rfl | rfl | rfl | rfl | rfl | rfl | rfl | rfl <;> first | exact absurd hc List.not_mem_nil | (rw [List.mem_singleton.1 hc, hp_r l1 d2 (by omega)]; simp; try omega) | (rw [List.mem_singleton.1 hc, List.getElem?_eq_none (by rw [hp_len0]; exact Nat.le_refl _)]; simp; try omega) | (rw [List.mem_singleton.1 hc, hp_t l3 (by omega)]; simp; try omega)
  repeat (rw [DC_p]; simp (maxSteps := 2000000) (disch := omega) only [hv, kr1, go_sem, seval, reduceCtorEq])
  refine WStep.call (gets_c hs (hp_r l1 d2 (by omega)) le0) fr_c fr_l ?_
  rw [e1]
  simp (maxSteps := 2000000) (disch := omega) only [hv, kr1, Ty.cs, go_sem, seval, reduceCtorEq]
  repeat (rw [DC_p]; simp (maxSteps := 2000000) (disch := omega) only [hv, kr1, Ty.cs, go_sem, seval, reduceCtorEq])
  refine WStep.ev (fun _ _ e => by cases e) (fun _ _ e => by cases e) ?_
  simp (maxSteps := 2000000) (disch := omega) only [Ty.cs, go_sem, seval, reduceCtorEq]
  refine ⟨fr_n, ?_⟩
  repeat (rw [DC_p]; simp (maxSteps := 2000000) (disch := omega) only [go_sem, seval, reduceCtorEq])
  refine WStep.ev (fun _ _ e => by cases e) (fun _ _ e => by cases e) ?_
  simp (maxSteps := 2000000) (disch := omega) only [go_sem, seval, reduceCtorEq]
  refine ⟨fr_t l3 (by omega), ?_⟩
  exact Ret.keep ⟨rfl, rfl⟩
 ·have hh := hp_self (s := s) (r := r) (k := (.row 49 10 l.length)) (b := b) h.er h.et (.inl g1)
  have l4 := (List.getElem?_eq_some_iff.1 g1).1
  have hml : l.length ≤ 300000 := by have := h.m hb; omega
  have llm : (l.map Ty.c).length = l.length := List.length_map ..
  suffices hw : ACalls Try.prog 73 [.ptr tb 0, .ptr vb 0] (HP H s rb tb b r [c0, c1, c3, (.gsl b 10 (l.map Ty.c)), c4] (.row 49 10 l.length) []) fun v G => v = .tup [] ∧ G = HP H s rb tb b q1 [c0, c1, c3, (.gsl b 10 ((l ++ [y1]).map Ty.c)), c4] (.row 49 10 (l.length + 1)) [] by
   rw [hh] at hw
   refine hw.mono fun v G => ?_
   rintro ⟨rfl, rfl⟩
   exact ⟨rfl, _, h.next g1 g2 g3 g4 [] le1 mv⟩
  clear hh
  refine ACalls.into Try.func73 cc73 rr73 fun hcl => ?_
  simp (maxSteps := 2000000) (disch := omega) only [Try.ntmps73, c73, r73, hv, go_sem, seval, reduceCtorEq]
  refine W.dregD [([], [rb]), ([], [rb]), ([], []), ([rb], []), ([], []), ([b], []), ([], []), ([tb], [])] follows (by decide +kernel) rfl rfl (fun z hz c hc => ?_) ?_
  ·simp only [List.mem_cons, List.not_mem_nil, or_false] at hz
   rcases hz with rfl | rfl | rfl | rfl | rfl | rfl | rfl | rfl <;> first | exact absurd hc List.not_mem_nil | (rw [List.mem_singleton.1 hc, hp_r l1 d2 (by omega)]; simp; try omega) | (rw [List.mem_singleton.1 hc, hp_b l4]; simp; try omega) | (rw [List.mem_singleton.1 hc, hp_t l3 (by omega)]; simp; try omega)
  repeat (rw [DC_p]; simp (maxSteps := 2000000) (disch := omega) only [hv, kr1, go_sem, seval, reduceCtorEq])
  refine WStep.call (gets_c hs (hp_r l1 d2 (by omega)) le0) fr_c fr_l ?_
  rw [e1]
  simp (maxSteps := 2000000) (disch := omega) only [hv, kr1, Ty.cs, go_sem, seval, reduceCtorEq]
  repeat (rw [DC_p]; simp (maxSteps := 2000000) (disch := omega) only [hv, kr1, Ty.cs, go_sem, seval, reduceCtorEq])
  refine WStep.ev (fun _ _ e => by cases e) (fun _ _ e => by cases e) ?_
  simp (maxSteps := 2000000) (disch := omega) only [Ty.cs, llm, go_sem, seval, reduceCtorEq]
  refine ⟨fr_b l4, ?_⟩
  repeat (rw [DC_p]; simp (maxSteps := 2000000) (disch := omega) only [go_sem, seval, reduceCtorEq])
  refine WStep.ev (fun _ _ e => by cases e) (fun _ _ e => by cases e) ?_
  simp (maxSteps := 2000000) (disch := omega) only [go_sem, seval, reduceCtorEq]
  refine ⟨fr_t l3 (by omega), ?_⟩
  exact Ret.keep ⟨rfl, by rw [List.map_append]; rfl⟩

end Go.Proofs.Ythifjndenhjobaa.Rid
