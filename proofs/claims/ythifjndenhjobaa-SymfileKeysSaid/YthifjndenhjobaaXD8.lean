/- symfile.Decode. Printed by genD8.py. -/
import Derived.Test.YthifjndenhjobaaXD7
import Derived.Test.YthifjndenhjobaaXL1
import Derived.Test.YthifjndenhjobaaXT3
namespace Go.Proofs.Ythifjndenhjobaa.Rid
set_option linter.unusedSimpArgs false
set_option linter.unusedVariables false
set_option maxRecDepth 20000
set_option maxHeartbeats 4000000
open Go.RowKit

def c31 : AC :=
 .seq (.reg [kn 2 (.al [(.d (.v (.string ⟨#[]⟩))), (.d (.v (.int .u32 0))), .esl, .esl, .esl]), kn 3 (.mv (kc 0))])
 (.seq (.reg [kn 8 (.mv (.t 0)), kn 9 (.call 68 [(.t 8)]), kn 4 (.al [.nilp]), ke (.st (.t 4) (.t 9) 1)])
 (.seq (.seq (.reg [kn 10 (.ld (.t 4) 1 false), kn 11 (.call 69 [(.t 10)]), kn 12 (.bin .neq (.t 11) (.c (.d (.v (.string ⟨#[83, 80, 83, 89]⟩)))))])
 (.cond (.t 12) (.seq (.reg [kn 13 (.bd [(.d (.v (.string ⟨#[]⟩))), (.d (.v (.int .u32 0))), .esl, .esl, .esl] []), ke (.st (.t 2) (.t 13) 5), kn 3 (.mv (kc 170))])
 (.ret)) (.skip)))
 (.seq (.dreg [[], [0], [], [2, 1], [3], [1, 3, 4], [], [6, 5, 4, 0, 1, 2, 3, 4, 5, 6]] [kn 14 (.ld (.t 4) 1 false), kn 15 (.call 69 [(.t 14)]), kn 16 (.ld (.t 4) 1 false), kn 17 (.call 70 [(.t 16)]), kn 18 (.call 40 []), kn 19 (.bd [(.d (.v (.string ⟨#[]⟩))), (.d (.v (.int .u32 0))), .esl, .esl, .esl] [(0, 1, (.t 15)), (1, 1, (.t 17)), (3, 1, (.t 18))]), kn 5 (.al [(.d (.v (.string ⟨#[]⟩))), (.d (.v (.int .u32 0))), .esl, .esl, .esl]), ke (.st (.t 5) (.t 19) 5)])
 (.seq (.reg [kn 20 (.ld (.t 4) 1 false), kn 21 (.mkf 72 [(.t 4), (.t 5)]), kn 22 (.call 71 [(.t 20), (.t 21)])])
 (.seq (.reg [kn 23 (.ld (.t 4) 1 false), kn 24 (.mkf 73 [(.t 5), (.t 4)]), kn 25 (.call 71 [(.t 23), (.t 24)])])
 (.seq (.reg [kn 26 (.ld (.t 4) 1 false), kn 27 (.mkf 75 [(.t 4), (.t 5)]), kn 28 (.call 71 [(.t 26), (.t 27)])])
 (.seq (.seq (.reg [kn 30 (.ld (.t 5) 5 true), kn 31 (.call 27 [(.t 30)]), kn 29 (.mv (.t 31)), kn 32 (.ext (.t 29) 0), kn 33 (.ext (.t 29) 1), kn 6 (.mv (.t 32)), kn 7 (.mv (.t 33))])
 (.seq (.reg [kn 34 (.ld (.t 4) 1 false), kn 35 (.call 78 [(.t 34)]), kn 36 (.un .not (.t 35)), kn 37 (.mv (.t 36)), ko 38 37 (.mv (.t 7)), ko 39 37 (.bin .neq (.t 38) (kc 0)), kn 40 (.pick (.t 37) (.c (.d (.v (.bool true)))) (.t 39)), kn 41 (.mv (.t 40)), ko 42 41 (.mv (.t 6)), ko 43 41 (.mv (.t 0)), ko 44 41 (.bin .neq (.t 42) (.t 43)), kn 45 (.pick (.t 41) (.c (.d (.v (.bool true)))) (.t 44))])
 (.cond (.t 45) (.seq (.reg [kn 46 (.bd [(.d (.v (.string ⟨#[]⟩))), (.d (.v (.int .u32 0))), .esl, .esl, .esl] []), ke (.st (.t 2) (.t 46) 5), kn 3 (.mv (kc 170))])
 (.ret)) (.skip))))
 (.seq (.reg [kn 47 (.ld (.t 5) 5 true), ke (.st (.t 2) (.t 47) 5), kn 3 (.mv (kc 0))])
 (.ret)))))))))
def r31 : List RC := [.c 2 5 true, .t 3]

theorem cc31 : Try.f31.body.bind (comp Try.prog (hhD 31)) = some c31 := by kernel_rfl
theorem rr31 : resC Try.prog Try.f31 = some r31 := by kernel_rfl
theorem text_at {s : ByteArray} {r q : Rd} {t : ByteArray} (hr : r.a ≤ s.size) (h : textF s r = (t, q)) (ht : t.size ≠ 0) : q.bad = false ∧ q.a = r.a + t.size + 1 := by
 have e : textF s r = (nl, r) ∨ textF s r = (nl, ⟨r.a, true⟩) ∨ ∃ k : Nat, textF s r = (s.extract r.a (r.a + k), ⟨r.a + k + 1, false⟩) := by
  unfold textF
  split
  ·exact .inl rfl
  ·split
   ·exact .inr (.inl rfl)
   ·exact .inr (.inr ⟨_, rfl⟩)
 have hl := textF_le (s := s) hr
 rcases e with e | e | ⟨k, e⟩ <;> rw [e] at h hl <;> simp only [Prod.mk.injEq] at h
 ·exact absurd (by rw [← h.1]; rfl) ht
 ·exact absurd (by rw [← h.1]; rfl) ht
 ·have hl : r.a + k + 1 ≤ s.size := hl
  have hk : t.size = k := by rw [← h.1, ex_size _ _ _ (by omega)]; omega
  rw [← h.2]
  exact ⟨rfl, by show r.a + k + 1 = _; omega⟩
theorem Wk1.ofT : ∀ {a b : List AV}, WkL a b → Wk1 (.tup a) (.tup b) := fun {a b} h => by
 have hl : a.length = b.length := by induction h with | nil => rfl | cons _ _ ih => simp [ih]
 refine .tup hl ?_
 clear hl
 induction h with
 | nil => intro i c c' h; simp at h
 | cons h1 h2 ih =>
  intro i c c' hc hc'
  cases i with
  | zero => simp at hc hc'; subst hc; subst hc'; exact h1
  | succ i => simp at hc hc'; exact ih i c c' hc hc'
theorem GS.one {α : Type} {s : ByteArray} {rb vb tb : Nat} {cs : AV → List AV} {f : α → List Dat} {ety sz : Nat} {H : List ABlk} {r : Rd} {x : AV} {l : List α} (h : GS s rb vb tb cs f ety sz H r x l) : Go.Proofs.Ythifjndenhjobaa.one x = true := by
 rcases h.g with ⟨rfl, rfl⟩ | ⟨b, rfl, _⟩ <;> rfl
theorem decV_refs (s : ByteArray) : refs (.tup (decV s)) = [] := by
 rw [decV]
 split
 ·simp [refs, refs.refsL, Fc.cs]
 ·simp [refs, refs.refsL, Fc.cs, zF]
theorem ex_k1 {P : Program} {f : FuncId} {args : List AV} {s : ByteArray} {rb c : Nat} {q : Rd} {v : AV} {K : List ABlk} {k0 : ABlk} (h : ACalls P f args (K.set rb k0) fun v' H' => v' = v ∧ H' = (K.set rb k0).set rb (rd s q.a q.bad)) (hc : K.length ≤ c) :
 ACalls P f args (kill [c] (K.set rb k0)) fun v' G' => v' = v ∧ G' = kill [c] (K.set rb (rd s q.a q.bad)) := by
 rw [show kill [c] (K.set rb k0) = K.set rb k0 from List.set_eq_of_length_le (by rw [List.length_set]; exact hc)]
 refine h.mono fun v' G' hg => ⟨hg.1, ?_⟩
 rw [hg.2, List.set_set]
 exact (List.set_eq_of_length_le (by rw [List.length_set]; exact hc)).symm
theorem decode_c (s : ByteArray) (hs : s.size ≤ 300000) (H : List ABlk) : ACalls Try.prog 31 [sv s] H fun v H' => v = .tup (decV s) ∧ H' = H := by
 refine ACalls.into Try.func31 cc31 rr31 fun hcl => ?_
 have le0 := (text_r s).le ⟨0, false⟩ (Nat.zero_le _)
 obtain ⟨y0, q0, e0⟩ : ∃ y q, textF s ⟨0, false⟩ = (y, q) := ⟨_, _, rfl⟩
 rw [e0] at le0
 simp only at le0
 have le1 := (text_r s).le q0 le0
 obtain ⟨y1, q1, e1⟩ : ∃ y q, textF s q0 = (y, q) := ⟨_, _, rfl⟩
 rw [e1] at le1
 simp only at le1
 have le2 := (word_r s).le q1 le1
 obtain ⟨y2, q2, e2⟩ : ∃ y q, wordF s q1 = (y, q) := ⟨_, _, rfl⟩
 rw [e2] at le2
 simp only at le2
 have le3 := (list_r (us_r s)).le q2 le2
 obtain ⟨y3, q3, e3⟩ : ∃ y q, listF s (usF s) q2 = (y, q) := ⟨_, _, rfl⟩
 rw [e3] at le3
 simp only at le3
 have le4 := (list_r (ty_r s)).le q3 le3
 obtain ⟨y4, q4, e4⟩ : ∃ y q, listF s (tyF s) q3 = (y, q) := ⟨_, _, rfl⟩
 rw [e4] at le4
 simp only at le4
 have le5 := (list_r (ob_r s)).le q4 le4
 obtain ⟨y5, q5, e5⟩ : ∃ y q, listF s (obF s) q4 = (y, q) := ⟨_, _, rfl⟩
 rw [e5] at le5
 simp only at le5
 have on1 : q0.bad = false → q1.bad = false → q0.a < q1.a := fun _ h => by have := (text_r s).go q0; rw [e1] at this; exact this h
 have on2 : q2.bad = false → q1.a < q2.a ∧ q1.bad = false := fun h => by
  have := (word_r s).go q1; have h2 := (word_r s).st q1; rw [e2] at this h2; exact ⟨this h, h2 h⟩
 have on3 : q3.bad = false → q2.a ≤ q3.a ∧ q2.bad = false := fun h => by
  have := (list_r (us_r s)).on q2; have h2 := (list_r (us_r s)).st q2; rw [e3] at this h2; exact ⟨this, h2 h⟩
 have hh : hdF s = (y0, q0) := e0
 have er : decR s = ((⟨y1, y2, y3, basicL ++ y4, y5⟩ : Fc), q5) := by simp only [decR, hh, fcF, bnd, mp, e1, e2, e3, e4, e5]
 have hk := (dec_key s).1
 rw [er] at hk
 simp only at hk
 have out : ∀ {u v0 : List AV} {L : List ABlk}, H <+: L → WkL u v0 → v0 = decV s → Ret r31 H.length (fun v H' => v = .tup (decV s) ∧ H' = H) (some (.tup u)) L := fun {u v0 L} hp hv h =>
  Ret.pre (.tup (decV s)) H hp (Nat.le_refl _) hcl (by rw [← h]; exact Wk1.ofT hv) (by rw [decV_refs]; intro r hr; cases hr) ⟨rfl, rfl⟩
 have dno : ¬ DecP s → [zF.av, iv 170] = decV s := fun h => by rw [decV, if_neg h]
 have hzw : WkL [.agg [(.d (.v (.string ⟨#[]⟩))), (.d (.v (.int .u32 0))), .esl, .esl, .esl], iv 170] [zF.av, iv 170] := .cons (Wk1.ofL (.cons (.rfl _) (.cons (.rfl _) (.cons .esl (.cons .esl (.cons .esl .nil)))))) (.cons (.rfl _) .nil)
 have ck1 : callOk Try.prog 72 = true := by kernel_rfl
 have ck2 : callOk Try.prog 73 = true := by kernel_rfl
 have ck3 : callOk Try.prog 75 = true := by kernel_rfl
 obtain ⟨K, hK⟩ : ∃ K, H ++ [.cells [(.d (.v (.string ⟨#[]⟩))), (.d (.v (.int .u32 0))), .esl, .esl, .esl], rd s 0 false, .cells [.ptr (H.length + 1) 0]] = K := ⟨_, rfl⟩
 have lK : K.length = (H.length + 3) := by rw [← hK]; simp
 have kz : K[H.length]? = some (.cells [(.d (.v (.string ⟨#[]⟩))), (.d (.v (.int .u32 0))), .esl, .esl, .esl]) := by rw [← hK, List.getElem?_append_right (Nat.le_refl _), Nat.sub_self]; rfl
 have kr : K[(H.length + 1)]? = some (rd s 0 false) := by rw [← hK, List.getElem?_append_right (by omega), Nat.add_sub_cancel_left]; rfl
 have kv : K[(H.length + 2)]? = some (.cells [.ptr (H.length + 1) 0]) := by rw [← hK, List.getElem?_append_right (by omega), Nat.add_sub_cancel_left]; rfl
 have kl : ∀ c, c < H.length → K[c]? = H[c]? := fun c hc => by rw [← hK, List.getElem?_append_left hc]
 have kvX : ∀ X, (K.set (H.length + 1) X)[(H.length + 2)]? = some (.cells [.ptr (H.length + 1) 0]) := fun X => by rw [getset_ne (by omega), kv]
 have kzX : ∀ X, (K.set (H.length + 1) X)[H.length]? = some (.cells [(.d (.v (.string ⟨#[]⟩))), (.d (.v (.int .u32 0))), .esl, .esl, .esl]) := fun X => by rw [getset_ne (by omega), kz]
 have krX : ∀ X, (K.set (H.length + 1) X)[(H.length + 1)]? = some X := fun X => List.getElem?_set_self (by omega)
 have kd : ∀ X, kill [(H.length + 4)] (K.set (H.length + 1) X) = K.set (H.length + 1) X := fun X => List.set_eq_of_length_le (by rw [List.length_set]; omega)
 have klX : ∀ X, (K.set (H.length + 1) X).length = (H.length + 3) := fun X => by rw [List.length_set, lK]
 simp (maxSteps := 2000000) (disch := omega) only [Try.ntmps31, c31, r31, go_sem, seval, reduceCtorEq]
 refine Cont.mk (read_c s _) ?_
 have hq : ∀ (a b c : ABlk), (H ++ [a, b, c])[H.length + 2]? = some c := fun a b c => by rw [List.getElem?_append_right (by omega), Nat.add_sub_cancel_left]; rfl
 have hq2 : ∀ (a b c d : ABlk), (H ++ [a, b, c]).set (H.length + 2) d = H ++ [a, b, d] := fun a b c d => by rw [List.set_append_right _ _ (by omega), Nat.add_sub_cancel_left]; rfl
 simp (maxSteps := 2000000) (disch := omega) only [hq, hq2, hK, kv, go_sem, seval, reduceCtorEq]
 refine Cont.mk (text_c (r := ⟨0, false⟩) kr hs (Nat.zero_le _)) ?_
 rw [e0]
 by_cases hy : y0 = ⟨#[83, 80, 83, 89]⟩
 case neg =>
  have hzK : ∀ X Y, ((K.set (H.length + 1) X).set H.length Y)[H.length]? = some Y := fun X Y => List.getElem?_set_self (by rw [klX]; omega)
  simp (maxSteps := 2000000) (disch := omega) only [decide_eq_false hy, kzX, hzK, go_sem, seval, reduceCtorEq]
  refine out (pre_out1 fun c hc => ?_) hzw (dno fun h => hy (by have := h.1; rw [hh] at this; exact this))
  first | (rw [getset_ne (by omega), getset_ne (by omega), kl c hc]) | (rw [getset_ne (by omega), kl c hc])
 obtain ⟨qb, qa⟩ := text_at (Nat.zero_le _) e0 (by rw [hy]; decide)
 have qa : q0.a = 5 := by rw [qa, hy]; rfl
 simp (maxSteps := 2000000) (disch := omega) only [decide_eq_true hy, kvX, kzX, go_sem, seval, reduceCtorEq]
 refine W.dregD [([], [(H.length + 4)]), ([(H.length + 1)], [(H.length + 4)]), ([], [(H.length + 1), (H.length + 4)]), ([(H.length + 1)], [(H.length + 4)]), ([(H.length + 3)], [(H.length + 4)]), ([], [(H.length + 4)]), ([(H.length + 4)], [(H.length + 1), (H.length + 1), (H.length + 3)]), ([(H.length + 4)], [])] follows (by decide +kernel) rfl rfl (fun z hz c hc => ?_) ?_
 ·simp only [List.mem_cons, List.not_mem_nil, or_false] at hz
  rcases hz with rfl | rfl | rfl | rfl | rfl | rfl | rfl | rfl <;> first | exact absurd hc List.not_mem_nil | (rw [List.mem_singleton.1 hc, krX]; simp; try omega) | (rw [List.mem_singleton.1 hc, List.getElem?_eq_none (by rw [klX]; omega)]; simp; try omega)
 repeat (rw [DC_p]; simp (maxSteps := 2000000) (disch := omega) only [kd, kvX, go_sem, seval, reduceCtorEq])
 refine WStep.callU (v := sv y1) (G := K.set (H.length + 1) (rd s q1.a q1.bad)) (ex_k1 (by have := text_c (krX (rd s q0.a q0.bad)) hs le0; rw [e1] at this; exact this) (by omega)) (fun c hc => ?_) (by rw [klX, klX]; exact Nat.le_refl _) ?_
 ·rw [getset_ne (fun e => hc (by simp [e])), getset_ne (fun e => hc (by simp [e]))]
 simp (maxSteps := 2000000) (disch := omega) only [kd, kvX, kq2, go_sem, seval, reduceCtorEq]
 repeat (rw [DC_p]; simp (maxSteps := 2000000) (disch := omega) only [kd, kvX, kq2, go_sem, seval, reduceCtorEq])
 refine WStep.callU (v := wv y2) (G := K.set (H.length + 1) (rd s q2.a q2.bad)) (ex_k1 (by have := word_c (krX (rd s q1.a q1.bad)) hs le1; rw [e2] at this; exact this) (by omega)) (fun c hc => ?_) (by rw [klX, klX]; exact Nat.le_refl _) ?_
 ·rw [getset_ne (fun e => hc (by simp [e])), getset_ne (fun e => hc (by simp [e]))]
 simp (maxSteps := 2000000) (disch := omega) only [kd, go_sem, seval, reduceCtorEq]
 repeat (rw [DC_p]; simp (maxSteps := 2000000) (disch := omega) only [kd, go_sem, seval, reduceCtorEq])
 have lR : ∀ X x, (K.set (H.length + 1) X ++ [x]).length = (H.length + 3) + 1 := fun X x => by rw [List.length_append, klX]; rfl
 refine WStep.callU (v := .gsl (H.length + 3) 10 (basicL.map Ty.c)) (G := K.set (H.length + 1) (rd s q2.a q2.bad) ++ [.row 49 10 7]) ?_ (fun c hc => ?_) (by rw [lR, klX]; omega) ?_
 ·rw [kd]
  refine (tbasic_c (K.set (H.length + 1) (rd s q2.a q2.bad))).mono fun v G hg => ⟨by rw [hg.1, klX], ?_⟩
  rw [hg.2]
  exact (List.set_eq_of_length_le (by rw [lR]; omega)).symm
 ·rcases Nat.lt_or_ge c (H.length + 3) with h1 | h1
  ·rw [List.getElem?_append_left (by rw [klX]; exact h1)]
  ·have : c ≠ (H.length + 3) := fun e => hc (by simp [e])
   rw [List.getElem?_eq_none (by rw [lR]; omega), List.getElem?_eq_none (by rw [klX]; omega)]
 simp (maxSteps := 2000000) (disch := omega) only [kd, go_sem, seval, reduceCtorEq]
 repeat (rw [DC_p]; simp (maxSteps := 2000000) (disch := omega) only [go_sem, seval, reduceCtorEq])
 refine WStep.al (by rw [lR]; simp) (fun b hb => by rw [lR]; simp at hb; omega) ?_
 have hsetB : ∀ (X x y z : ABlk), (K.set (H.length + 1) X ++ [x, y]).set (H.length + 4) z = K.set (H.length + 1) X ++ [x, z] := fun X x y z => by
  rw [List.set_append_right _ _ (by rw [klX]; omega), klX, show H.length + 4 - (H.length + 3) = 1 by omega]; rfl
 have hgB : ∀ (X x y : ABlk), (K.set (H.length + 1) X ++ [x, y])[(H.length + 4)]? = some y := fun X x y => by
  rw [List.getElem?_append_right (by rw [klX]; omega), klX, show H.length + 4 - (H.length + 3) = 1 by omega]; rfl
 have htb1 : (H.length + 3) + 1 = (H.length + 4) := by omega
 simp (maxSteps := 2000000) (disch := omega) only [lR, htb1, List.append_assoc, List.cons_append, List.nil_append, hsetB, hgB, go_sem, seval, reduceCtorEq]
 repeat (rw [DC_p]; simp (maxSteps := 2000000) (disch := omega) only [hsetB, hgB, go_sem, seval, reduceCtorEq])
 refine WStep.ev (fun _ _ e => by cases e) (fun _ _ e => by cases e) ?_
 obtain ⟨B, hB⟩ : ∃ B, K.set (H.length + 1) (rd s q2.a q2.bad) ++ [.row 49 10 7, .cells [sv y1, wv y2, .esl, .gsl (H.length + 3) 10 (basicL.map Ty.c), .esl]] = B := ⟨_, rfl⟩
 simp (maxSteps := 2000000) (disch := omega) only [hsetB, hgB, hB, go_sem, seval, reduceCtorEq]
 have hfr := FrOk.set (w := [H.length + 4]) (H := K.set (H.length + 1) (rd s q2.a q2.bad) ++ [.row 49 10 7, .cells [(.d (.v (.string ⟨#[]⟩))), (.d (.v (.int .u32 0))), .esl, .esl, .esl]]) (b := H.length + 4) (x := .cells [sv y1, wv y2, .esl, .gsl (H.length + 3) 10 (basicL.map Ty.c), .esl]) (List.mem_singleton.2 rfl)
 rw [hsetB, hB] at hfr
 refine ⟨hfr, ?_⟩
 have lB : B.length = H.length + 5 := by rw [← hB, List.length_append, klX]; show (H.length + 3) + 2 = _; omega
 have br : B[(H.length + 1)]? = some (rd s q2.a q2.bad) := by rw [← hB, List.getElem?_append_left (by rw [klX]; omega), krX]
 have bv : B[(H.length + 2)]? = some (.cells [.ptr (H.length + 1) 0]) := by rw [← hB, List.getElem?_append_left (by rw [klX]; omega), kvX]
 have bz : B[H.length]? = some (.cells [(.d (.v (.string ⟨#[]⟩))), (.d (.v (.int .u32 0))), .esl, .esl, .esl]) := by rw [← hB, List.getElem?_append_left (by rw [klX]; omega), kzX]
 have bn : B[(H.length + 3)]? = some (.row 49 10 7) := by rw [← hB, List.getElem?_append_right (by rw [klX]; omega), klX, Nat.sub_self]; rfl
 have bt : B[(H.length + 4)]? = some (.cells [sv y1, wv y2, .esl, .gsl (H.length + 3) 10 (basicL.map Ty.c), .esl]) := by rw [← hB, hgB]
 have bl : ∀ c, c < H.length → B[c]? = H[c]? := fun c hc => by rw [← hB, List.getElem?_append_left (by rw [klX]; omega), getset_ne (by omega), kl c hc]
 have hg1 : GS s (H.length + 1) (H.length + 2) (H.length + 4) (fun x => [sv y1, wv y2, x, .gsl (H.length + 3) 10 (basicL.map Ty.c), .esl]) Us.c 65 2 B q2 .esl [] := ⟨br, bv, bt, .inl ⟨rfl, rfl⟩, by omega, by omega, by omega, le2, fun _ => Nat.zero_le _⟩
 simp (maxSteps := 2000000) (disch := omega) only [bv, go_sem, seval, reduceCtorEq]
 refine Cont.rel (each_c hs ck1 (us_g hs) hg1) ?_
 rintro v H1 ⟨rfl, x1, g1, c1⟩
 rw [e3] at g1
 simp only [List.nil_append] at g1
 have g1v := g1.ev
 have n1 : H1[(H.length + 3)]? = some (.row 49 10 7) := by rw [c1.out (H.length + 3) (by omega) (by simp [GF, rowB]), bn]
 have hg2 : GS s (H.length + 1) (H.length + 2) (H.length + 4) (fun x => [sv y1, wv y2, x1, x, .esl]) Ty.c 49 10 H1 q3 (.gsl (H.length + 3) 10 (basicL.map Ty.c)) basicL := ⟨g1.er, g1.ev, g1.et, .inr ⟨(H.length + 3), rfl, n1, by omega, by omega, by omega⟩, by omega, by omega, by omega, le3, fun hb => by
  obtain ⟨a1, a2⟩ := on3 hb
  obtain ⟨a3, a4⟩ := on2 a2
  have a5 := on1 qb a4
  show 7 ≤ q3.a
  omega⟩
 simp (maxSteps := 2000000) (disch := omega) only [g1v, go_sem, seval, reduceCtorEq]
 refine Cont.rel (each_c hs ck2 (ty_g hs) hg2) ?_
 rintro v H2 ⟨rfl, x2, g2, c2⟩
 rw [e4] at g2
 simp only at g2
 have g2v := g2.ev
 have hg3 : GS s (H.length + 1) (H.length + 2) (H.length + 4) (fun x => [sv y1, wv y2, x1, x2, x]) Ob.c 34 7 H2 q4 .esl [] := ⟨g2.er, g2.ev, g2.et, .inl ⟨rfl, rfl⟩, by omega, by omega, by omega, le4, fun _ => Nat.zero_le _⟩
 simp (maxSteps := 2000000) (disch := omega) only [g2v, go_sem, seval, reduceCtorEq]
 refine Cont.rel (each_c hs ck3 (ob_g hs) hg3) ?_
 rintro v H3 ⟨rfl, x3, g3, c3⟩
 rw [e5] at g3
 simp only [List.nil_append] at g3
 have g3v := g3.ev
 have g3t := g3.et
 have l1 := c1.len
 have l2 := c2.len
 have l3 := c3.len
 have low : ∀ c, c ≤ H.length → H3[c]? = B[c]? := fun c hc => by
  rw [c3.out c (by omega) (by simp [GF, rowB]; omega), c2.out c (by omega) (by simp [GF, rowB]; omega), c1.out c (by omega) (by simp [GF, rowB]; omega)]
 have hz3 : H3[H.length]? = some (.cells [(.d (.v (.string ⟨#[]⟩))), (.d (.v (.int .u32 0))), .esl, .esl, .esl]) := by rw [low _ (Nat.le_refl _), bz]
 have hl3 : H.length < H3.length := by omega
 have hzs : ∀ X, (H3.set H.length X)[H.length]? = some X := fun X => List.getElem?_set_self hl3
 have pre3 : ∀ X, H <+: H3.set H.length X := fun X => pre_out1 fun c hc => by rw [getset_ne (by omega), low c (by omega), bl c hc]
 obtain ⟨f, hf⟩ : ∃ f : Fc, f = ⟨y1, y2, y3, basicL ++ y4, y5⟩ := ⟨_, rfl⟩
 rw [← hf] at hk er
 have wk : WkL [sv y1, wv y2, x1, x2, x3] f.cs := by rw [hf]; exact .cons (.rfl _) (.cons (.rfl _) (.cons g1.wk (.cons g2.wk (.cons g3.wk .nil))))
 obtain ⟨t, e, hse, hz⟩ := encV_two f
 have he := encode_c (hk.fin hs) (hk.small hs) hk.ky.1 hk.ky.2
 rw [hse] at he
 simp (maxSteps := 2000000) (disch := omega) only [g3t, go_sem, seval, reduceCtorEq]
 refine Cont.mk (ACalls.weak (he _) (.cons (Wk1.ofL wk) .nil)) ?_
 simp (maxSteps := 2000000) (disch := omega) only [g3v, go_sem, seval, reduceCtorEq]
 refine Cont.mk (end_c g3.er) ?_
 have hDP : DecP s ↔ endF s q5 = true ∧ t = s ∧ e = 0 := by
  rw [DecP, er, hse, hh]
  simp only [List.cons.injEq, AV.d.injEq, Dat.v.injEq, Value.string.injEq, Value.int.injEq, and_true, true_and]
  constructor
  ·rintro ⟨_, a, b, c⟩; exact ⟨a, b, c⟩
  ·rintro ⟨a, b, c⟩; exact ⟨hy, a, b, c⟩
 cases hE : endF s q5 with
 | false =>
  simp (maxSteps := 2000000) (disch := omega) only [hzs, hz3, go_sem, seval, reduceCtorEq]
  exact out (pre3 _) hzw (dno fun h => by have := (hDP.1 h).1; rw [hE] at this; cases this)
 | true =>
  by_cases h0 : e = 0
  case neg =>
   simp (maxSteps := 2000000) (disch := omega) only [h0, hzs, hz3, go_sem, seval, reduceCtorEq]
   exact out (pre3 _) hzw (dno fun h => h0 (hDP.1 h).2.2)
  subst h0
  by_cases hts : t = s
  case neg =>
   simp (maxSteps := 2000000) (disch := omega) only [decide_eq_false hts, hts, hzs, hz3, go_sem, seval, reduceCtorEq]
   exact out (pre3 _) hzw (dno fun h => hts (hDP.1 h).2.1)
  subst hts
  have dv : [f.av, iv 0] = decV t := by rw [decV, if_pos (hDP.2 ⟨hE, rfl, rfl⟩), er]
  have n1 := g1.one
  have n2 := g2.one
  have n3 := g3.one
  try simp only [go_sem, seval, reduceCtorEq] at n1
  try simp only [go_sem, seval, reduceCtorEq] at n2
  try simp only [go_sem, seval, reduceCtorEq] at n3
  simp (maxSteps := 2000000) (disch := omega) only [hzs, hz3, g3t, n1, n2, n3, Bool.and_self, go_sem, seval, reduceCtorEq]
  exact out (pre3 _) (.cons (Wk1.ofL wk) (.cons (.rfl _) .nil)) dv
end Go.Proofs.Ythifjndenhjobaa.Rid
