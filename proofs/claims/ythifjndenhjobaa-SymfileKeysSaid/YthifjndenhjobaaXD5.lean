/- symfile.gets. Printed by genD5.py. -/
import Derived.Test.YthifjndenhjobaaXD4
namespace Go.Proofs.Ythifjndenhjobaa.Rid
set_option linter.unusedSimpArgs false
set_option linter.unusedVariables false
set_option maxRecDepth 20000
set_option maxHeartbeats 4000000
open Go.RowKit

def c74 : AC :=
 .seq (.reg [kn 1 (.bx (.t 0)), kn 2 (.al [kz, (.d (.v (.string ⟨#[]⟩))), (.d (.v (.string ⟨#[]⟩))), kz, kz, kz, .esl, .esl, kz, kz])])
 (.seq (.reg [kn 4 (.ld (.t 1) 1 false), kn 5 (.call 76 [(.t 4)]), kn 6 (.bd [kz, (.d (.v (.string ⟨#[]⟩))), (.d (.v (.string ⟨#[]⟩))), kz, kz, kz, .esl, .esl, kz, kz] [(0, 1, (.t 5))]), kn 3 (.al [kz, (.d (.v (.string ⟨#[]⟩))), (.d (.v (.string ⟨#[]⟩))), kz, kz, kz, .esl, .esl, kz, kz]), ke (.st (.t 3) (.t 6) 10)])
 (.seq (.dreg [[], [0], [], [2, 1], [0, 1], [4, 1, 3, 0, 1], [0, 1, 2, 3, 4, 5], [6, 3, 5, 0, 1, 2, 3, 4, 5]] [kn 7 (.ld (.t 1) 1 false), kn 8 (.call 69 [(.t 7)]), kn 9 (.ld (.t 1) 1 false), kn 10 (.call 69 [(.t 9)]), kn 11 (.fa (.t 3) 1), ke (.st (.t 11) (.t 8) 1), kn 12 (.fa (.t 3) 2), ke (.st (.t 12) (.t 10) 1)])
 (.seq (.dreg [[], [0], [], [2, 1], [], [4, 3], [], [6, 5], [], [8, 7], [0, 1], [10, 1, 9, 0, 1], [0, 1, 2, 3, 10, 11], [12, 3, 11, 0, 1, 2, 3, 10, 11], [0, 1, 2, 3, 4, 5, 10, 11, 12, 13], [14, 5, 13, 0, 1, 2, 3, 4, 5, 10, 11, 12, 13], [0, 1, 2, 3, 4, 5, 6, 7, 10, 11, 12, 13, 14, 15], [16, 7, 15, 0, 1, 2, 3, 4, 5, 6, 7, 10, 11, 12, 13, 14, 15], [0, 1, 2, 3, 4, 5, 6, 7, 8, 9, 10, 11, 12, 13, 14, 15, 16, 17], [18, 9, 17, 0, 1, 2, 3, 4, 5, 6, 7, 8, 9, 10, 11, 12, 13, 14, 15, 16, 17]] [kn 13 (.ld (.t 1) 1 false), kn 14 (.call 77 [(.t 13)]), kn 15 (.ld (.t 1) 1 false), kn 16 (.call 77 [(.t 15)]), kn 17 (.ld (.t 1) 1 false), kn 18 (.call 77 [(.t 17)]), kn 19 (.ld (.t 1) 1 false), kn 20 (.call 77 [(.t 19)]), kn 21 (.ld (.t 1) 1 false), kn 22 (.call 77 [(.t 21)]), kn 23 (.fa (.t 3) 3), ke (.st (.t 23) (.t 14) 1), kn 24 (.fa (.t 3) 4), ke (.st (.t 24) (.t 16) 1), kn 25 (.fa (.t 3) 5), ke (.st (.t 25) (.t 18) 1), kn 26 (.fa (.t 3) 8), ke (.st (.t 26) (.t 20) 1), kn 27 (.fa (.t 3) 9), ke (.st (.t 27) (.t 22) 1)])
 (.seq (.reg [kn 28 (.ld (.t 1) 1 false), kn 29 (.mkf 102 [(.t 1), (.t 3)]), kn 30 (.call 71 [(.t 28), (.t 29)])])
 (.seq (.reg [kn 31 (.ld (.t 1) 1 false), kn 32 (.mkf 103 [(.t 1), (.t 3)]), kn 33 (.call 71 [(.t 31), (.t 32)])])
 (.seq (.reg [kn 34 (.ld (.t 3) 10 true), ke (.st (.t 2) (.t 34) 10)])
 (.ret)))))))
def r74 : List RC := [.c 2 10 true]

theorem cc74 : Try.f74.body.bind (comp Try.prog (hhD 74)) = some c74 := by kernel_rfl
theorem rr74 : resC Try.prog Try.f74 = some r74 := by kernel_rfl
theorem cl.set0 {H : List ABlk} (h : cl H) {b : Nat} {k : ABlk} (hk : k.refs = []) : cl (H.set b k) := by
 intro c j hc r hr
 rw [List.length_set]
 by_cases e : b = c
 ·subst e
  rw [List.getElem?_set_self'] at hc
  cases hb : H[b]? with
  | none => rw [hb] at hc; simp at hc
  | some i => rw [hb] at hc; simp at hc; rw [← hc, hk] at hr; cases hr
 ·rw [getset_ne e] at hc; exact h c j hc r hr
theorem pre_out1 {H G : List ABlk} (h : ∀ c, c < H.length → G[c]? = H[c]?) : H <+: G := by
 refine ⟨G.drop H.length, ?_⟩
 have e : H = G.take H.length := List.ext_getElem? fun i => by
  rw [List.getElem?_take]
  split
  ·rename_i hi; exact (h i hi).symm
  ·rename_i hi; exact List.getElem?_eq_none (by omega)
 exact (congrArg (· ++ G.drop H.length) e).trans (List.take_append_drop _ _)
theorem Wk1.ofL : ∀ {a b : List AV}, WkL a b → Wk1 (.agg a) (.agg b) := fun {a b} h => by
 have hl : a.length = b.length := by induction h with | nil => rfl | cons _ _ ih => simp [ih]
 refine .agg hl ?_
 induction h with
 | nil => intro i c c' h; simp at h
 | cons h1 h2 ih =>
  intro i c c' hc hc'
  cases i with
  | zero => simp at hc hc'; subst hc; subst hc'; exact h1
  | succ i => simp at hc hc'; exact ih (by simpa using hl) i c c' hc hc'
theorem GS.wk {α : Type} {s : ByteArray} {rb vb tb : Nat} {cs : AV → List AV} {f : α → List Dat} {ety sz : Nat} {H : List ABlk} {r : Rd} {x : AV} {l : List α} (h : GS s rb vb tb cs f ety sz H r x l) : Wk1 x (.d (.sl (l.map f))) := by
 rcases h.g with ⟨rfl, rfl⟩ | ⟨b, rfl, _⟩
 ·exact .esl
 ·exact .gsl _ _ _
theorem GS.nr {α : Type} {s : ByteArray} {rb vb tb : Nat} {cs : AV → List AV} {f : α → List Dat} {ety sz : Nat} {H : List ABlk} {r : Rd} {x : AV} {l : List α} (h : GS s rb vb tb cs f ety sz H r x l) : x = .esl ∨ ∃ b l', x = .gsl b sz l' := by
 rcases h.g with ⟨rfl, rfl⟩ | ⟨b, rfl, _⟩
 ·exact .inl rfl
 ·exact .inr ⟨_, _, rfl⟩

theorem gets_c {s : ByteArray} (hs : s.size ≤ 300000) {rb : Nat} {r : Rd} {H : List ABlk} (her : H[rb]? = some (rd s r.a r.bad)) (le0 : r.a ≤ s.size) : ACalls Try.prog 74 [.ptr rb 0] H fun v H' => v = (tyF s r).1.av ∧ H' = H.set rb (rd s (tyF s r).2.a (tyF s r).2.bad) := by
 refine ACalls.into Try.func74 cc74 rr74 fun hcl => ?_
 have l0 := (List.getElem?_eq_some_iff.1 her).1
 have le1 := (byte_r s).le r le0
 obtain ⟨y1, q1, e1⟩ : ∃ y q, byteF s r = (y, q) := ⟨_, _, rfl⟩
 rw [e1] at le1
 simp only at le1
 have le2 := (text_r s).le q1 le1
 obtain ⟨y2, q2, e2⟩ : ∃ y q, textF s q1 = (y, q) := ⟨_, _, rfl⟩
 rw [e2] at le2
 simp only at le2
 have le3 := (text_r s).le q2 le2
 obtain ⟨y3, q3, e3⟩ : ∃ y q, textF s q2 = (y, q) := ⟨_, _, rfl⟩
 rw [e3] at le3
 simp only at le3
 have le4 := (num_r s).le q3 le3
 obtain ⟨y4, q4, e4⟩ : ∃ y q, numF s q3 = (y, q) := ⟨_, _, rfl⟩
 rw [e4] at le4
 simp only at le4
 have le5 := (num_r s).le q4 le4
 obtain ⟨y5, q5, e5⟩ : ∃ y q, numF s q4 = (y, q) := ⟨_, _, rfl⟩
 rw [e5] at le5
 simp only at le5
 have le6 := (num_r s).le q5 le5
 obtain ⟨y6, q6, e6⟩ : ∃ y q, numF s q5 = (y, q) := ⟨_, _, rfl⟩
 rw [e6] at le6
 simp only at le6
 have le7 := (num_r s).le q6 le6
 obtain ⟨y7, q7, e7⟩ : ∃ y q, numF s q6 = (y, q) := ⟨_, _, rfl⟩
 rw [e7] at le7
 simp only at le7
 have le8 := (num_r s).le q7 le7
 obtain ⟨y8, q8, e8⟩ : ∃ y q, numF s q7 = (y, q) := ⟨_, _, rfl⟩
 rw [e8] at le8
 simp only at le8
 have le9 := (list_r (fd_r s)).le q8 le8
 obtain ⟨y9, q9, e9⟩ : ∃ y q, listF s (fdF s) q8 = (y, q) := ⟨_, _, rfl⟩
 rw [e9] at le9
 simp only at le9
 have le10 := (list_r (pm_r s)).le q9 le9
 obtain ⟨y10, q10, e10⟩ : ∃ y q, listF s (pmF s) q9 = (y, q) := ⟨_, _, rfl⟩
 rw [e10] at le10
 simp only at le10
 have ep : tyF s r = ((⟨y1, y2, y3, y4, y5, y6, y9, y10, y7, y8⟩ : Ty), q10) := by simp only [tyF, bnd, mp, e1, e2, e3, e4, e5, e6, e7, e8, e9, e10]
 rw [ep]
 clear ep
 have ck1 : callOk Try.prog 102 = true := by kernel_rfl
 have ck2 : callOk Try.prog 103 = true := by kernel_rfl
 obtain ⟨B, hB⟩ : ∃ B, H.set rb (rd s q1.a q1.bad) ++ [.cells [.ptr rb 0], .cells [kz, (.d (.v (.string ⟨#[]⟩))), (.d (.v (.string ⟨#[]⟩))), kz, kz, kz, .esl, .esl, kz, kz], .cells [iv y1, (.d (.v (.string ⟨#[]⟩))), (.d (.v (.string ⟨#[]⟩))), kz, kz, kz, .esl, .esl, kz, kz]] = B := ⟨_, rfl⟩
 have lH : (H.set rb (rd s q1.a q1.bad)).length = H.length := List.length_set
 have lB : B.length = H.length + 3 := by rw [← hB]; simp
 have hv : B[H.length]? = some (.cells [.ptr rb 0]) := by rw [← hB, List.getElem?_append_right (by omega), lH, Nat.sub_self]; rfl
 have hz : B[H.length + 1]? = some (.cells [kz, (.d (.v (.string ⟨#[]⟩))), (.d (.v (.string ⟨#[]⟩))), kz, kz, kz, .esl, .esl, kz, kz]) := by rw [← hB, List.getElem?_append_right (by omega), lH, Nat.add_sub_cancel_left]; rfl
 have ht : B[H.length + 2]? = some (.cells [iv y1, (.d (.v (.string ⟨#[]⟩))), (.d (.v (.string ⟨#[]⟩))), kz, kz, kz, .esl, .esl, kz, kz]) := by rw [← hB, List.getElem?_append_right (by omega), lH, Nat.add_sub_cancel_left]; rfl
 have hr : B[rb]? = some (rd s q1.a q1.bad) := by rw [← hB, List.getElem?_append_left (by omega), List.getElem?_set_self l0]
 have hbl : ∀ c, c < H.length → c ≠ rb → B[c]? = H[c]? := fun c hc hn => by rw [← hB, List.getElem?_append_left (by omega), getset_ne (Ne.symm hn)]
 have l1 : rb < B.length := by omega
 have l2 : H.length < B.length := by omega
 have l3 : (H.length + 2) < B.length := by omega
 have d1 : rb ≠ H.length := by omega
 have d2 : rb ≠ (H.length + 2) := by omega
 have d3 : H.length ≠ (H.length + 2) := by omega
 have hE : HP B s rb (H.length + 2) (B.length + 5) q1 [iv y1, (.d (.v (.string ⟨#[]⟩))), (.d (.v (.string ⟨#[]⟩))), kz, kz, kz, .esl, .esl, kz, kz] .dead [] = B := hp_self hr ht (.inr (by omega))
 simp (maxSteps := 2000000) (disch := omega) only [Try.ntmps74, c74, r74, go_sem, seval, reduceCtorEq]
 refine Cont.mk (byte_c (r := r) (by rw [List.getElem?_append_left l0, her]) hs le0) ?_
 rw [e1]
 have hq : ∀ (X a b c : ABlk), (H.set rb X ++ [a, b, c])[H.length + 2]? = some c := fun X a b c => by rw [List.getElem?_append_right (by rw [List.length_set]; omega), List.length_set, Nat.add_sub_cancel_left]; rfl
 have hq2 : ∀ (X a b c d : ABlk), (H.set rb X ++ [a, b, c]).set (H.length + 2) d = H.set rb X ++ [a, b, d] := fun X a b c d => by rw [List.set_append_right _ _ (by rw [List.length_set]; omega), List.length_set, Nat.add_sub_cancel_left]; rfl
 simp (maxSteps := 2000000) (disch := omega) only [List.set_append_left _ _ l0, hq, hq2, hB, go_sem, seval, reduceCtorEq]
 rw [← hE]
 refine W.dregD [([], []), ([rb], []), ([], [rb]), ([rb], []), ([], [rb]), ([(H.length + 2)], []), ([], []), ([(H.length + 2)], [])] follows (by decide +kernel) rfl rfl (fun z hz c hc => ?_) ?_
 ·simp only [List.mem_cons, List.not_mem_nil, or_false] at hz
  rcases hz with rfl | rfl | rfl | rfl | rfl | rfl | rfl | rfl <;> first | exact absurd hc List.not_mem_nil | (rw [List.mem_singleton.1 hc, hp_r l1 d2 (by omega)]; simp) | (rw [List.mem_singleton.1 hc, hp_t l3 (by omega)]; simp)
 repeat (rw [DC_p]; simp (maxSteps := 2000000) (disch := omega) only [hv, go_sem, seval, reduceCtorEq])
 refine WStep.call (text_c (hp_r l1 d2 (by omega)) hs le1) fr_c fr_l ?_
 rw [e2]
 simp (maxSteps := 2000000) (disch := omega) only [hv, kr1, go_sem, seval, reduceCtorEq]
 repeat (rw [DC_p]; simp (maxSteps := 2000000) (disch := omega) only [hv, kr1, go_sem, seval, reduceCtorEq])
 refine WStep.call (text_c (hp_r l1 d2 (by omega)) hs le2) fr_c fr_l ?_
 rw [e3]
 simp (maxSteps := 2000000) (disch := omega) only [hv, kr1, go_sem, seval, reduceCtorEq]
 repeat (rw [DC_p]; simp (maxSteps := 2000000) (disch := omega) only [hv, kr1, go_sem, seval, reduceCtorEq])
 refine WStep.ev (fun _ _ e => by cases e) (fun _ _ e => by cases e) ?_
 simp (maxSteps := 2000000) (disch := omega) only [go_sem, seval, reduceCtorEq]
 refine ⟨fr_t l3 (by omega), ?_⟩
 repeat (rw [DC_p]; simp (maxSteps := 2000000) (disch := omega) only [go_sem, seval, reduceCtorEq])
 refine WStep.ev (fun _ _ e => by cases e) (fun _ _ e => by cases e) ?_
 simp (maxSteps := 2000000) (disch := omega) only [go_sem, seval, reduceCtorEq]
 refine ⟨fr_t l3 (by omega), ?_⟩
 refine W.dregD [([], []), ([rb], []), ([], [rb]), ([rb], []), ([], [rb, rb]), ([rb], []), ([], [rb, rb, rb]), ([rb], []), ([], [rb, rb, rb, rb]), ([rb], []), ([], [rb, rb, rb, rb]), ([(H.length + 2)], []), ([], []), ([(H.length + 2)], []), ([], []), ([(H.length + 2)], []), ([], []), ([(H.length + 2)], []), ([], []), ([(H.length + 2)], [])] follows (by decide +kernel) rfl rfl (fun z hz c hc => ?_) ?_
 ·simp only [List.mem_cons, List.not_mem_nil, or_false] at hz
  rcases hz with rfl | rfl | rfl | rfl | rfl | rfl | rfl | rfl | rfl | rfl | rfl | rfl | rfl | rfl | rfl | rfl | rfl | rfl | rfl | rfl <;> first | exact absurd hc List.not_mem_nil | (rw [List.mem_singleton.1 hc, hp_r l1 d2 (by omega)]; simp) | (rw [List.mem_singleton.1 hc, hp_t l3 (by omega)]; simp)
 repeat (rw [DC_p]; simp (maxSteps := 2000000) (disch := omega) only [hv, kr1, kr2, kr3, kr4, go_sem, seval, reduceCtorEq])
 refine WStep.call (num_c (hp_r l1 d2 (by omega)) hs le3) fr_c fr_l ?_
 rw [e4]
 simp (maxSteps := 2000000) (disch := omega) only [hv, kr1, kr2, kr3, kr4, go_sem, seval, reduceCtorEq]
 repeat (rw [DC_p]; simp (maxSteps := 2000000) (disch := omega) only [hv, kr1, kr2, kr3, kr4, go_sem, seval, reduceCtorEq])
 refine WStep.call (num_c (hp_r l1 d2 (by omega)) hs le4) fr_c fr_l ?_
 rw [e5]
 simp (maxSteps := 2000000) (disch := omega) only [hv, kr1, kr2, kr3, kr4, go_sem, seval, reduceCtorEq]
 repeat (rw [DC_p]; simp (maxSteps := 2000000) (disch := omega) only [hv, kr1, kr2, kr3, kr4, go_sem, seval, reduceCtorEq])
 refine WStep.call (num_c (hp_r l1 d2 (by omega)) hs le5) fr_c fr_l ?_
 rw [e6]
 simp (maxSteps := 2000000) (disch := omega) only [hv, kr1, kr2, kr3, kr4, go_sem, seval, reduceCtorEq]
 repeat (rw [DC_p]; simp (maxSteps := 2000000) (disch := omega) only [hv, kr1, kr2, kr3, kr4, go_sem, seval, reduceCtorEq])
 refine WStep.call (num_c (hp_r l1 d2 (by omega)) hs le6) fr_c fr_l ?_
 rw [e7]
 simp (maxSteps := 2000000) (disch := omega) only [hv, kr1, kr2, kr3, kr4, go_sem, seval, reduceCtorEq]
 repeat (rw [DC_p]; simp (maxSteps := 2000000) (disch := omega) only [hv, kr1, kr2, kr3, kr4, go_sem, seval, reduceCtorEq])
 refine WStep.call (num_c (hp_r l1 d2 (by omega)) hs le7) fr_c fr_l ?_
 rw [e8]
 simp (maxSteps := 2000000) (disch := omega) only [hv, kr1, kr2, kr3, kr4, go_sem, seval, reduceCtorEq]
 repeat (rw [DC_p]; simp (maxSteps := 2000000) (disch := omega) only [kr4, go_sem, seval, reduceCtorEq])
 refine WStep.ev (fun _ _ e => by cases e) (fun _ _ e => by cases e) ?_
 simp (maxSteps := 2000000) (disch := omega) only [go_sem, seval, reduceCtorEq]
 refine ⟨fr_t l3 (by omega), ?_⟩
 repeat (rw [DC_p]; simp (maxSteps := 2000000) (disch := omega) only [kr4, go_sem, seval, reduceCtorEq])
 refine WStep.ev (fun _ _ e => by cases e) (fun _ _ e => by cases e) ?_
 simp (maxSteps := 2000000) (disch := omega) only [go_sem, seval, reduceCtorEq]
 refine ⟨fr_t l3 (by omega), ?_⟩
 repeat (rw [DC_p]; simp (maxSteps := 2000000) (disch := omega) only [kr4, go_sem, seval, reduceCtorEq])
 refine WStep.ev (fun _ _ e => by cases e) (fun _ _ e => by cases e) ?_
 simp (maxSteps := 2000000) (disch := omega) only [go_sem, seval, reduceCtorEq]
 refine ⟨fr_t l3 (by omega), ?_⟩
 repeat (rw [DC_p]; simp (maxSteps := 2000000) (disch := omega) only [kr4, go_sem, seval, reduceCtorEq])
 refine WStep.ev (fun _ _ e => by cases e) (fun _ _ e => by cases e) ?_
 simp (maxSteps := 2000000) (disch := omega) only [go_sem, seval, reduceCtorEq]
 refine ⟨fr_t l3 (by omega), ?_⟩
 repeat (rw [DC_p]; simp (maxSteps := 2000000) (disch := omega) only [kr4, go_sem, seval, reduceCtorEq])
 refine WStep.ev (fun _ _ e => by cases e) (fun _ _ e => by cases e) ?_
 simp (maxSteps := 2000000) (disch := omega) only [go_sem, seval, reduceCtorEq]
 refine ⟨fr_t l3 (by omega), ?_⟩
 have hp0 : ∀ c, c < H.length → c ≠ rb → (HP B s rb (H.length + 2) (B.length + 5) q8 [iv y1, sv y2, sv y3, iv y4, iv y5, iv y6, .esl, .esl, iv y7, iv y8] .dead [])[c]? = H[c]? := fun c hc hn => by rw [hp_lo (by omega) hn (by omega) (by omega), hbl c hc hn]
 have hpz : (HP B s rb (H.length + 2) (B.length + 5) q8 [iv y1, sv y2, sv y3, iv y4, iv y5, iv y6, .esl, .esl, iv y7, iv y8] .dead [])[H.length + 1]? = some (.cells [kz, (.d (.v (.string ⟨#[]⟩))), (.d (.v (.string ⟨#[]⟩))), kz, kz, kz, .esl, .esl, kz, kz]) := by rw [hp_lo (by omega) (by omega) (by omega) (by omega), hz]
 have hg1 : GS s rb H.length (H.length + 2) (fun x => [iv y1, sv y2, sv y3, iv y4, iv y5, iv y6, x, .esl, iv y7, iv y8]) Fd.c 83 3 (HP B s rb (H.length + 2) (B.length + 5) q8 [iv y1, sv y2, sv y3, iv y4, iv y5, iv y6, .esl, .esl, iv y7, iv y8] .dead []) q8 .esl [] :=
  ⟨hp_r l1 d2 (by omega), (hp_lo l2 (by omega) (by omega) (by omega)).trans hv, hp_t l3 (by omega), .inl ⟨rfl, rfl⟩, d1, d2, d3, le8, fun _ => Nat.zero_le _⟩
 have lG : (HP B s rb (H.length + 2) (B.length + 5) q8 [iv y1, sv y2, sv y3, iv y4, iv y5, iv y6, .esl, .esl, iv y7, iv y8] .dead []).length = H.length + 3 := by rw [hp_len0, lB]
 simp (maxSteps := 2000000) (disch := omega) only [hv, go_sem, seval, reduceCtorEq]
 refine Cont.rel (each_c hs ck1 (fd_g (c6 := .any) hs) hg1) ?_
 rintro v G1 ⟨rfl, x1, g1, k1⟩
 rw [e9] at g1
 simp only [List.nil_append] at g1
 have g1v := g1.ev
 have hg2 : GS s rb H.length (H.length + 2) (fun x => [iv y1, sv y2, sv y3, iv y4, iv y5, iv y6, x1, x, iv y7, iv y8]) Pm.c 85 2 G1 q9 .esl [] := ⟨g1.er, g1.ev, g1.et, .inl ⟨rfl, rfl⟩, d1, d2, d3, le9, fun _ => Nat.zero_le _⟩
 simp (maxSteps := 2000000) (disch := omega) only [g1v, go_sem, seval, reduceCtorEq]
 refine Cont.rel (each_c hs ck2 (pm_g (c7 := .any) hs) hg2) ?_
 rintro v G2 ⟨rfl, x2, g2, k2⟩
 rw [e10] at g2
 simp only [List.nil_append] at g2
 have g2r := g2.er
 have g2t := g2.et
 have k1l := k1.len
 have k2l := k2.len
 rw [lG] at k1l
 have low : ∀ c, c < H.length + 2 → c ≠ rb → c ≠ H.length + 2 → G2[c]? = (HP B s rb (H.length + 2) (B.length + 5) q8 [iv y1, sv y2, sv y3, iv y4, iv y5, iv y6, .esl, .esl, iv y7, iv y8] .dead [])[c]? := fun c hc h1 h2 => by
  rw [k2.out c (by omega) (by simp [GF, rowB]; omega), k1.out c (by rw [lG]; omega) (by simp [GF, rowB]; omega)]
 have g2z : G2[H.length + 1]? = some (.cells [kz, (.d (.v (.string ⟨#[]⟩))), (.d (.v (.string ⟨#[]⟩))), kz, kz, kz, .esl, .esl, kz, kz]) := by rw [low _ (by omega) (by omega) (by omega), hpz]
 have g2s : ∀ X, (G2.set (H.length + 1) X)[H.length + 1]? = some X := fun X => List.getElem?_set_self (by omega)
 have w1 := g1.wk
 have w2 := g2.wk
 have n1 := g1.nr
 have n2 := g2.nr
 clear hg1 hg2 g1 k1 g2 k2 g1v
 rcases n1 with rfl | ⟨b1, m1, rfl⟩ <;> rcases n2 with rfl | ⟨b2, m2, rfl⟩
 ·simp (maxSteps := 2000000) (disch := omega) only [g2t, g2z, g2s, go_sem, seval, reduceCtorEq]
  refine Ret.pre (Ty.av ⟨y1, y2, y3, y4, y5, y6, y9, y10, y7, y8⟩) (H.set rb (rd s q10.a q10.bad)) (pre_out1 fun c hc => ?_) (by rw [List.length_set]; exact Nat.le_refl _) (cl.set0 hcl rfl) (Wk1.ofL ?_) (by simp [refs, refs.refsL, Ty.cs]) ⟨by rfl, by rfl⟩
  ·rw [List.length_set] at hc
   rw [getset_ne (by omega)]
   by_cases hcr : c = rb
   ·subst hcr
    rw [g2r, List.getElem?_set_self l0]
   ·rw [getset_ne (Ne.symm hcr), low c (by omega) hcr (by omega), hp0 c hc hcr]
  ·exact .cons (.rfl _) (.cons (.rfl _) (.cons (.rfl _) (.cons (.rfl _) (.cons (.rfl _) (.cons (.rfl _) (.cons w1 (.cons w2 (.cons (.rfl _) (.cons (.rfl _) .nil)))))))))
 ·simp (maxSteps := 2000000) (disch := omega) only [g2t, g2z, g2s, go_sem, seval, reduceCtorEq]
  refine Ret.pre (Ty.av ⟨y1, y2, y3, y4, y5, y6, y9, y10, y7, y8⟩) (H.set rb (rd s q10.a q10.bad)) (pre_out1 fun c hc => ?_) (by rw [List.length_set]; exact Nat.le_refl _) (cl.set0 hcl rfl) (Wk1.ofL ?_) (by simp [refs, refs.refsL, Ty.cs]) ⟨by rfl, by rfl⟩
  ·rw [List.length_set] at hc
   rw [getset_ne (by omega)]
   by_cases hcr : c = rb
   ·subst hcr
    rw [g2r, List.getElem?_set_self l0]
   ·rw [getset_ne (Ne.symm hcr), low c (by omega) hcr (by omega), hp0 c hc hcr]
  ·exact .cons (.rfl _) (.cons (.rfl _) (.cons (.rfl _) (.cons (.rfl _) (.cons (.rfl _) (.cons (.rfl _) (.cons w1 (.cons w2 (.cons (.rfl _) (.cons (.rfl _) .nil)))))))))
 ·simp (maxSteps := 2000000) (disch := omega) only [g2t, g2z, g2s, go_sem, seval, reduceCtorEq]
  refine Ret.pre (Ty.av ⟨y1, y2, y3, y4, y5, y6, y9, y10, y7, y8⟩) (H.set rb (rd s q10.a q10.bad)) (pre_out1 fun c hc => ?_) (by rw [List.length_set]; exact Nat.le_refl _) (cl.set0 hcl rfl) (Wk1.ofL ?_) (by simp [refs, refs.refsL, Ty.cs]) ⟨by rfl, by rfl⟩
  ·rw [List.length_set] at hc
   rw [getset_ne (by omega)]
   by_cases hcr : c = rb
   ·subst hcr
    rw [g2r, List.getElem?_set_self l0]
   ·rw [getset_ne (Ne.symm hcr), low c (by omega) hcr (by omega), hp0 c hc hcr]
  ·exact .cons (.rfl _) (.cons (.rfl _) (.cons (.rfl _) (.cons (.rfl _) (.cons (.rfl _) (.cons (.rfl _) (.cons w1 (.cons w2 (.cons (.rfl _) (.cons (.rfl _) .nil)))))))))
 ·simp (maxSteps := 2000000) (disch := omega) only [g2t, g2z, g2s, go_sem, seval, reduceCtorEq]
  refine Ret.pre (Ty.av ⟨y1, y2, y3, y4, y5, y6, y9, y10, y7, y8⟩) (H.set rb (rd s q10.a q10.bad)) (pre_out1 fun c hc => ?_) (by rw [List.length_set]; exact Nat.le_refl _) (cl.set0 hcl rfl) (Wk1.ofL ?_) (by simp [refs, refs.refsL, Ty.cs]) ⟨by rfl, by rfl⟩
  ·rw [List.length_set] at hc
   rw [getset_ne (by omega)]
   by_cases hcr : c = rb
   ·subst hcr
    rw [g2r, List.getElem?_set_self l0]
   ·rw [getset_ne (Ne.symm hcr), low c (by omega) hcr (by omega), hp0 c hc hcr]
  ·exact .cons (.rfl _) (.cons (.rfl _) (.cons (.rfl _) (.cons (.rfl _) (.cons (.rfl _) (.cons (.rfl _) (.cons w1 (.cons w2 (.cons (.rfl _) (.cons (.rfl _) .nil)))))))))
end Go.Proofs.Ythifjndenhjobaa.Rid
