/- The laws' wakes; SymfileWrites. -/
import Derived.Test.YthifjndenhjobaaYS5
import Derived.Test.YthifjndenhjobaaYKW0
import Derived.Test.YthifjndenhjobaaYCodeX
namespace Go.Proofs.Ythifjndenhjobaa.Rid
set_option linter.unusedSimpArgs false
set_option linter.unusedVariables false
set_option maxRecDepth 20000
set_option maxHeartbeats 4000000
open Go.RowKit

def c26 : AC :=
 .seq (.reg [kn 0 (.mv (.c (.d (.v (.bool false)))))])
 (.seq (.reg [kn 6 (.call 51 []), kn 7 (.bd [(.d (.v (.string ⟨#[]⟩))), (.d (.v (.int .u32 0))), .esl, .esl, .esl] [(0, 1, (.c (.d (.v (.string ⟨#[65]⟩))))), (1, 1, (.c (.d (.v (.int .u32 1))))), (3, 1, (.t 6))]), kn 8 (.call 27 [(.t 7)]), kn 5 (.mv (.t 8)), kn 9 (.ext (.t 5) 0), kn 10 (.ext (.t 5) 1), kn 1 (.mv (.t 9)), kn 2 (.mv (.t 10))])
 (.seq (.reg [kn 12 (.call 33 []), kn 13 (.call 29 [(.t 12)]), kn 11 (.mv (.t 13)), kn 14 (.ext (.t 11) 0), kn 15 (.ext (.t 11) 1), kn 3 (.mv (.t 14)), kn 4 (.mv (.t 15))])
 (.seq (.reg [kn 16 (.mv (.t 2)), kn 17 (.bin .eql (.t 16) (kc 0)), kn 18 (.mv (.t 17)), ky 19 18 (.mv (.t 1)), ky 20 18 (.bin .eql (.t 19) (.c (.d (.v (.string ⟨#[83, 80, 83, 89, 0, 65, 0, 1, 0, 0, 0, 0, 0, 0]⟩))))), kn 21 (.pick (.t 18) (.t 20) (.c (.d (.v (.bool false))))), kn 22 (.mv (.t 21)), ky 23 22 (.mv (.t 4)), ky 24 22 (.bin .eql (.t 23) (kc 0)), kn 25 (.pick (.t 22) (.t 24) (.c (.d (.v (.bool false))))), kn 26 (.mv (.t 25)), ky 27 26 (.mv (.t 3)), ky 28 26 (.bin .neq (.t 27) (.c (.d (.v (.int .u32 0))))), kn 29 (.pick (.t 26) (.t 28) (.c (.d (.v (.bool false))))), kn 0 (.mv (.t 29))])
 (.ret))))
def r26 : List RC := [.t 0]

theorem cc26 : Try.f26.body.bind (comp Try.prog (hhW 26)) = some c26 := by kernel_rfl
theorem rr26 : resC Try.prog Try.f26 = some r26 := by kernel_rfl
def c9 : AC :=
 .seq (.reg [kn 1 (.bx (.t 0)), kn 2 (.mv (.c (.d (.v (.bool false)))))])
 (.seq (.seq (.reg [kn 12 (.ld (.t 1) 5 true), kn 13 (.call 14 [(.t 12)])])
 (.cond (.t 13) (.seq (.reg [kn 14 (.call 26 []), kn 2 (.mv (.t 14))])
 (.ret)) (.skip)))
 (.seq (.reg [kn 15 (.ld (.t 1) 5 true), kn 16 (.call 16 [(.t 15)]), kn 3 (.al [(.d (.v (.string ⟨#[]⟩))), (.d (.v (.int .u32 0))), .esl, .esl, .esl]), ke (.st (.t 3) (.t 16) 5)])
 (.seq (.reg [kn 18 (.ld (.t 3) 5 true), kn 19 (.call 27 [(.t 18)]), kn 17 (.mv (.t 19)), kn 20 (.ext (.t 17) 0), kn 21 (.ext (.t 17) 1), kn 4 (.mv (.t 20)), kn 5 (.mv (.t 21))])
 (.seq (.reg [kn 23 (.ld (.t 1) 5 true), kn 24 (.call 28 [(.t 23)]), kn 22 (.mv (.t 24)), kn 25 (.ext (.t 22) 0), kn 26 (.ext (.t 22) 1), kn 6 (.mv (.t 25)), kn 7 (.mv (.t 26))])
 (.seq (.reg [kn 28 (.ld (.t 1) 5 true), kn 29 (.call 16 [(.t 28)]), kn 30 (.call 29 [(.t 29)]), kn 27 (.mv (.t 30)), kn 31 (.ext (.t 27) 0), kn 32 (.ext (.t 27) 1), kn 8 (.mv (.t 31)), kn 9 (.mv (.t 32))])
 (.seq (.reg [kn 34 (.ld (.t 1) 5 true), kn 35 (.call 30 [(.t 34)]), kn 33 (.mv (.t 35)), kn 36 (.ext (.t 33) 0), kn 37 (.ext (.t 33) 1), kn 10 (.mv (.t 36)), kn 11 (.mv (.t 37))])
 (.seq (.reg [kn 38 (.mv (.t 4)), kn 39 (.mv (.t 6)), kn 40 (.bin .eql (.t 38) (.t 39)), kn 41 (.mv (.t 40)), ky 42 41 (.mv (.t 5)), ky 43 41 (.mv (.t 7)), ky 44 41 (.bin .eql (.t 42) (.t 43)), kn 45 (.pick (.t 41) (.t 44) (.c (.d (.v (.bool false))))), kn 46 (.mv (.t 45)), ky 47 46 (.mv (.t 8)), ky 48 46 (.mv (.t 10)), ky 49 46 (.bin .eql (.t 47) (.t 48)), kn 50 (.pick (.t 46) (.t 49) (.c (.d (.v (.bool false))))), kn 51 (.mv (.t 50)), ky 52 51 (.mv (.t 9)), ky 53 51 (.mv (.t 11)), ky 54 51 (.bin .eql (.t 52) (.t 53)), kn 55 (.pick (.t 51) (.t 54) (.c (.d (.v (.bool false))))), kn 56 (.mv (.t 55)), ky 57 56 (.ld (.t 3) 5 true), ky 58 56 (.ld (.t 1) 5 true), ky 59 56 (.call 22 [(.t 57), (.t 58)]), kn 60 (.pick (.t 56) (.t 59) (.c (.d (.v (.bool false))))), kn 61 (.mv (.t 60)), ky 62 61 (.call 26 []), kn 63 (.pick (.t 61) (.t 62) (.c (.d (.v (.bool false))))), kn 2 (.mv (.t 63))])
 (.ret))))))))
def r9 : List RC := [.t 2]

theorem cc9 : Try.f9.body.bind (comp Try.prog (hhX 9)) = some c9 := by kernel_rfl
theorem rr9 : resC Try.prog Try.f9 = some r9 := by kernel_rfl
def firstF : Fc := ⟨⟨#[65]⟩, 1, [], basicL, []⟩
theorem basic_ms {i : Nat} (hi : i < basicL.length) : (basicL.getD i default).mod = se ∧ (basicL.getD i default).name = se ∧ (basicL.getD i default).form ≠ 9 := by
 have hi : i < 7 := hi
 rw [basic_at hi]; exact ⟨rfl, rfl, by show (i : Int) ≠ 9; omega⟩
theorem first_face : FaceP firstF := by
 refine ⟨⟨Nm_w 65 rfl, by show 0 ≤ 16; omega, by show 0 ≤ 64; omega, basic_good, fun i hi => .inl (basic_ms hi).1, fun i j hij hj h => ?_, fun u hu => (by cases hu), List.nodup_nil, fun o ho => (by cases ho), List.nodup_nil⟩, fun i hi h9 => absurd h9 (basic_ms hi).2.2⟩
 have hi : i < basicL.length := by have : j < basicL.length := hj; omega
 exact h.1 (basic_ms hi).2.1
theorem first_small : Small basicL := ⟨by show 7 ≤ 300; omega, fun x hx => by
 obtain ⟨i, hi, rfl⟩ := List.getElem_of_mem hx
 have e : basicL[i] = basicL.getD i default := by rw [List.getD_eq_getElem?_getD, List.getElem?_eq_getElem hi]; rfl
 rw [e, basic_at hi]
 exact ⟨Nat.zero_le _, Nat.zero_le _, by show se.size ≤ _; decide, by show se.size ≤ _; decide⟩⟩
theorem first_in : FIn firstF := by
 refine ⟨by decide, by decide, by decide, ⟨by decide, fun x hx => ?_⟩, fun x hx g hg => ?_, fun o ho => (by cases ho), fun u hu => (by cases hu)⟩
 ·have := first_small.2 x hx
  exact ⟨by omega, by omega, by omega, by omega⟩
 ·obtain ⟨i, hi, rfl⟩ := List.getElem_of_mem hx
  have hi : i < basicL.length := hi
  have e : basicL[i] = basicL.getD i default := by rw [List.getD_eq_getElem?_getD, List.getElem?_eq_getElem hi]; rfl
  have hg : g ∈ (basicL[i]).fields := hg
  rw [e, basic_at hi] at hg
  cases hg
theorem ok_all {l : List It} (h : ∀ x ∈ l, itOk x) (hl : l.length ≤ 2000) : fileF l = [sv ⟨(itsB l).toArray⟩, iv 0] := by
 have := itsB_le l
 rw [fileF, if_neg (by rintro ⟨x, hx, h2⟩; exact h2 (h x hx)), if_neg (by omega)]
theorem ok_n {n : Int} (h : -2147483648 ≤ n ∧ n < 2147483648) : itOk (iN n) := ⟨fun _ => h, fun e => by simp at e⟩
theorem ok_b (n : Int) : itOk (iB n) := ⟨fun e => by simp at e, fun e => by simp at e⟩
theorem ok_w (n : Int) : itOk (iW n) := ⟨fun e => by simp at e, fun e => by simp at e⟩
theorem ok_t {s : ByteArray} (h : textOk s) : itOk (iT s) := ⟨fun e => by simp at e, fun _ => h⟩
theorem tx_spsy : textOk ⟨#[83, 80, 83, 89]⟩ := ⟨by decide, by decide⟩
theorem tx_a : textOk ⟨#[65]⟩ := ⟨by decide, by decide⟩
theorem tx_x : textOk ⟨#[120]⟩ := ⟨by decide, by decide⟩
theorem tx_e : textOk se := ⟨by decide, by decide⟩
theorem first_enc : encV firstF = [sv ⟨#[83, 80, 83, 89, 0, 65, 0, 1, 0, 0, 0, 0, 0, 0]⟩, iv 0] := by
 have e : encI firstF = [iT ⟨#[83, 80, 83, 89]⟩, iT ⟨#[65]⟩, iW 1, iN 0, iN 0, iN 0] := rfl
 rw [encV, if_pos first_face, e, ok_all (fun x hx => ?_) (by decide)]
 ·have f0 : fit32 0 := ⟨by decide, by decide⟩
  have c0 : comp7 0 = [0] := by decide
  have w1 : wordB 1 = [1, 0, 0, 0] := by decide
  simp only [itsB, List.flatMap_cons, List.flatMap_nil, itB, if_pos tx_spsy, if_pos tx_a, if_pos f0, c0, w1]
  rfl
 ·simp only [List.mem_cons, List.not_mem_nil, or_false] at hx
  rcases hx with rfl | rfl | rfl | rfl | rfl | rfl
  ·exact ok_t tx_spsy
  ·exact ok_t tx_a
  ·exact ok_w _
  ·exact ok_n (by decide)
  ·exact ok_n (by decide)
  ·exact ok_n (by decide)
theorem plain_enc : ∃ s, encV (keyF plainF 0) = [sv s, iv 0] := by
 have e : encI (keyF plainF 0) = [iT ⟨#[83, 80, 83, 89]⟩, iT ⟨#[65]⟩, iW 0, iN 0, iN 2] ++ ([iB 7, iT se, iT se, iN 2, iN 1, iN 0, iN 0, iN 0, iN 0, iN 0] ++ ([iB 7, iT se, iT se, iN 3, iN 1, iN 0, iN 0, iN 0, iN 0, iN 0] ++ [iN 1, iB 3, iT ⟨#[120]⟩, iN 8, iB 0, iN 0, iT se, iN 0])) := rfl
 rw [encV, if_pos ((keyF_face 0).2 plain_face), e, ok_all (fun x hx => ?_) (by decide)]
 ·exact ⟨_, rfl⟩
 ·simp only [List.mem_append, List.mem_cons, List.not_mem_nil, or_false] at hx
  have n0 : ∀ n ∈ [(0 : Int), 1, 2, 3, 7, 8], itOk (iN n) := fun n hn => ok_n (by simp only [List.mem_cons, List.not_mem_nil, or_false] at hn; omega)
  have hh : (∃ n ∈ [(0 : Int), 1, 2, 3, 7, 8], x = iN n) ∨ (∃ n, x = iB n) ∨ (∃ n, x = iW n) ∨ ∃ s, textOk s ∧ x = iT s := by
   rcases hx with (h | h | h | h | h) | (h | h | h | h | h | h | h | h | h | h) | (h | h | h | h | h | h | h | h | h | h) | (h | h | h | h | h | h | h | h)
   all_goals first
    | exact .inr (.inl ⟨_, h⟩)
    | exact .inr (.inr (.inl ⟨_, h⟩))
    | exact .inl ⟨_, by decide, h⟩
    | exact .inr (.inr (.inr ⟨_, tx_e, h⟩))
    | exact .inr (.inr (.inr ⟨_, tx_a, h⟩))
    | exact .inr (.inr (.inr ⟨_, tx_x, h⟩))
    | exact .inr (.inr (.inr ⟨_, tx_spsy, h⟩))
  rcases hh with ⟨n, hn, rfl⟩ | ⟨n, rfl⟩ | ⟨n, rfl⟩ | ⟨s, hs, rfl⟩
  ·exact n0 n hn
  ·exact ok_b n
  ·exact ok_w n
  ·exact ok_t hs
theorem plain_key : ∃ k, 1 ≤ k ∧ keyV plainF = [wv k, iv 0] := by
 obtain ⟨s, h⟩ := plain_enc
 refine ⟨max (hashL s.data.toList) 1, Int.le_max_right _ _, ?_⟩
 rw [keyV, h]
 exact if_pos rfl
theorem wakesY_c (H : List ABlk) : ACalls Try.prog 26 [] H fun v H' => v = bv true ∧ H' = H := by
 refine ACalls.into Try.func26 cc26 rr26 fun hcl => ?_
 simp (maxSteps := 2000000) (disch := omega) only [Try.ntmps26, c26, r26, go_sem, seval, reduceCtorEq]
 refine Cont.mk (rbasic_c _) ?_
 simp (maxSteps := 2000000) (disch := omega) only [go_sem, seval, reduceCtorEq]
 have hw : ∀ G, ACalls Try.prog 27 [.agg [sv ⟨#[65]⟩, wv 1, .esl, .gsl H.length 10 (basicL.map Ty.c), .esl]] G fun v H' => v = .tup (encV firstF) ∧ H' = G := fun G => by
  refine ACalls.pre (args' := [firstF.av]) (H0 := G) (Wk.slots (.cons (.agg rfl fun i c c' h1 h2 => ?_) .nil)) (encode_c first_in (f := firstF) first_small (by show (0 : Int) ≤ 1 ∧ (1 : Int) < _; decide) (fun u hu => (by cases hu)) G)
  rcases i with _ | _ | _ | _ | _ | i <;> simp [firstF, Fc.cs] at h1 h2
  ·subst h1 h2; exact .rfl _
  ·subst h1 h2; exact .rfl _
  ·subst h1 h2; exact .esl
  ·subst h1 h2; exact .gsl _ _ (basicL.map Ty.c)
  ·subst h1 h2; exact .esl
 rw [first_enc] at hw
 refine Cont.mk (hw _) ?_
 simp (maxSteps := 2000000) (disch := omega) only [go_sem, seval, reduceCtorEq]
 refine Cont.mk (plainF_c _) ?_
 simp (maxSteps := 2000000) (disch := omega) only [go_sem, seval, reduceCtorEq]
 refine Cont.mk (key_c plain_in plain_small (fun u hu => (by cases hu)) _) ?_
 obtain ⟨k, hk, hkv⟩ := plain_key
 rw [hkv]
 simp (maxSteps := 2000000) (disch := omega) only [show ¬ k = 0 by omega, go_sem, seval, reduceCtorEq]
 exact Ret.pre _ H (List.prefix_append _ _) (Nat.le_refl _) hcl (.rfl _) (by simp [refs]) ⟨rfl, rfl⟩
theorem rsameT_c {f : Fc} (hf : FIn f) (H : List ABlk) : ACalls Try.prog 22 [f.av, f.av] H fun v H' => v = bv true ∧ H' = H := (rsame_c hf hf H).mono fun v H' h => ⟨by rw [cdec_of h.1, cdec_t rfl], h.2⟩
theorem SymfileWrites_c {f : Fc} (hf : FIn f) (hk : 0 ≤ f.key ∧ f.key < 4294967296) (huk : ∀ u ∈ f.uses, 0 ≤ u.key ∧ u.key < 4294967296) (H : List ABlk) : ACalls Try.prog 9 [f.av] H fun v H' => v = bv true ∧ H' = H := by
 refine ACalls.into Try.func9 cc9 rr9 fun hcl => ?_
 have out : ∀ {b : Bool} {l : List ABlk}, b = true → Ret r9 H.length (fun v H' => v = bv true ∧ H' = H) (some (bv b)) (H ++ l) := fun {b l} h =>
  Ret.drop _ H (Nat.le_refl _) hcl (.rfl _) (by simp [refs]) ⟨by rw [h], rfl⟩
 simp (maxSteps := 2000000) (disch := omega) only [Try.ntmps9, c9, r9, Fc.cs, go_sem, seval, reduceCtorEq]
 refine Cont.rel (large16_c hf _) ?_
 rintro v H' ⟨⟨B, rfl, hB⟩, rfl⟩
 cases hBv : B with
 | true =>
  simp (maxSteps := 2000000) (disch := omega) only [go_sem, seval, reduceCtorEq]
  refine Cont.mk (wakesY_c _) ?_
  simp (maxSteps := 2000000) (disch := omega) only [go_sem, seval, reduceCtorEq]
  exact out rfl
 | false =>
  have hL := hB.1 hBv
  obtain ⟨hs, hu, ho⟩ := hL.sm
  obtain ⟨s, e, hse, hz⟩ := encV_two f
  obtain ⟨k, d, hkd⟩ := keyV_two f
  have h1 := encode_c hf hs hk huk
  have h2 := encodeR_c hf hs hk huk
  have h3 := key_c hf hs huk
  have h4 := keyR_c hf hs huk
  rw [hse] at h1 h2
  rw [hkd] at h3 h4
  clear hB
  simp (maxSteps := 2000000) (disch := omega) only [go_sem, seval, reduceCtorEq]
  refine Cont.mk (copy16_c hs hu ho _) ?_
  simp (maxSteps := 2000000) (disch := omega) only [Fc.cs, go_sem, seval, reduceCtorEq]
  refine Cont.mk (h1 _) ?_
  simp (maxSteps := 2000000) (disch := omega) only [Fc.cs, go_sem, seval, reduceCtorEq]
  refine Cont.mk (h2 _) ?_
  simp (maxSteps := 2000000) (disch := omega) only [Fc.cs, go_sem, seval, reduceCtorEq]
  refine Cont.mk (copy16_c hs hu ho _) ?_
  simp (maxSteps := 2000000) (disch := omega) only [Fc.cs, go_sem, seval, reduceCtorEq]
  refine Cont.mk (h3 _) ?_
  simp (maxSteps := 2000000) (disch := omega) only [Fc.cs, go_sem, seval, reduceCtorEq]
  refine Cont.mk (h4 _) ?_
  simp (maxSteps := 2000000) (disch := omega) only [Fc.cs, go_sem, seval, reduceCtorEq]
  refine Cont.mk (rsameT_c hf _) ?_
  simp (maxSteps := 2000000) (disch := omega) only [go_sem, seval, reduceCtorEq]
  refine Cont.mk (wakesY_c _) ?_
  simp (maxSteps := 2000000) (disch := omega) only [go_sem, seval, reduceCtorEq]
  exact out rfl
end Go.Proofs.Ythifjndenhjobaa.Rid
