/- The reference's writer. -/
import Derived.Test.YthifjndenhjobaaYB4
namespace Go.Proofs.Ythifjndenhjobaa.Rid
set_option linter.unusedSimpArgs false
set_option linter.unusedVariables false
set_option maxRecDepth 20000
set_option maxHeartbeats 2000000
open Go.RowKit

def c62l0 : AC :=
 .seq (.seq (.reg [kn 10 (.mv (.t 1)), kn 11 (.bin .lss (.t 10) (kc (-64))), kn 12 (.mv (.t 11)), ko 13 12 (.mv (.t 1)), ko 14 12 (.bin .gtr (.t 13) (kc 63)), kn 15 (.pick (.t 12) (.c (.d (.v (.bool true)))) (.t 14))])
 (.cond (.t 15) (.skip) (.exit 0)))
 (.block 1 (.seq (.reg [kn 16 (.mv (.t 0)), kn 17 (.mv (.t 1)), kn 18 (.bin .rem (.t 17) (kc 128)), kn 19 (.bin .add (.t 18) (kc 128)), kn 20 (.bin .rem (.t 19) (kc 128)), kn 21 (.bin .add (.t 20) (kc 128)), kn 22 (.call 64 [(.t 16), (.t 21)])])
 (.reg [kn 23 (.mv (.t 1)), kn 24 (.mv (.t 1)), kn 25 (.bin .rem (.t 24) (kc 128)), kn 26 (.bin .add (.t 25) (kc 128)), kn 27 (.bin .rem (.t 26) (kc 128)), kn 28 (.bin .sub (.t 23) (.t 27)), kn 29 (.bin .quo (.t 28) (kc 128)), kn 1 (.mv (.t 29))])))

def c62 : AC :=
 .seq (.seq (.reg [kn 4 (.mv (.t 1)), kn 5 (.call 97 [(.t 4), (kc 32)]), kn 6 (.un .not (.t 5))])
 (.cond (.t 6) (.seq (.reg [kn 7 (.mv (.t 0)), kn 8 (.nc (.t 7)), kn 9 (.fa (.t 8) 1), ke (.st (.t 9) (.c (.d (.v (.bool true)))) 1)])
 (.ret)) (.skip)))
 (.seq (.block 0 (.loop c62l0))
 (.reg [kn 30 (.mv (.t 0)), kn 31 (.mv (.t 1)), kn 32 (.bin .add (.t 31) (kc 128)), kn 33 (.bin .rem (.t 32) (kc 128)), kn 34 (.call 64 [(.t 30), (.t 33)])]))
def r62 : List RC := []

def c64 : AC :=
 .reg [kn 4 (.mv (.t 0)), kn 5 (.mv (.t 0)), kn 6 (.nc (.t 5)), kn 7 (.fa (.t 6) 0), kn 8 (.ld (.t 7) 1 false), kn 9 (.mv (.t 1)), kn 10 (.bin .rem (.t 9) (kc 256)), kn 11 (.bin .add (.t 10) (kc 256)), kn 12 (.bin .rem (.t 11) (kc 256)), kn 13 (.cvi .u8 (.t 12)), kn 14 (.bs .im 5 1 [(.t 13)]), kn 15 (.app .gr 5 1 1 (.t 8) (.t 14)), kn 16 (.nc (.t 4)), kn 17 (.fa (.t 16) 0), ke (.st (.t 17) (.t 15) 1)]
def r64 : List RC := []

theorem cc62 : Try.f62.body.bind (comp Try.prog (hhW 62)) = some c62 := by kernel_rfl
theorem rr62 : resC Try.prog Try.f62 = some r62 := by kernel_rfl
theorem cc64 : Try.f64.body.bind (comp Try.prog (hhW 64)) = some c64 := by kernel_rfl
theorem rr64 : resC Try.prog Try.f64 = some r64 := by kernel_rfl
structure QrAt (H : List ABlk) (qb : Nat) (x : AV) (bs : List UInt8) (sp : Bool) : Prop where
 c : H[qb]? = some (.cells [x, bv sp])
 r : RowB H x bs
 ne : qb ∉ rowB x
theorem QrAt.lt {H : List ABlk} {qb : Nat} {x : AV} {bs : List UInt8} {sp : Bool} (h : QrAt H qb x bs sp) : ∀ b ∈ WF qb x, b < H.length := fun b hb => by
 simp only [WF, List.mem_cons] at hb
 rcases hb with rfl | hb
 ·exact (List.getElem?_eq_some_iff.1 h.c).1
 ·rcases h.r with ⟨rfl, _⟩ | ⟨c, rfl, hc⟩
  ·simp [rowB] at hb
  ·simp [rowB] at hb; subst hb; exact (List.getElem?_eq_some_iff.1 hc).1
theorem QrAt.frame {H H' : List ABlk} {qb : Nat} {x : AV} {bs : List UInt8} {sp : Bool} (h : QrAt H qb x bs sp) (hH : ∀ b ∈ WF qb x, H'[b]? = H[b]?) : QrAt H' qb x bs sp where
 c := by rw [hH qb (by simp [WF]), h.c]
 r := by
  rcases h.r with h1 | ⟨b, rfl, h2⟩
  ·exact .inl h1
  ·exact .inr ⟨b, rfl, by rw [hH b (by simp [WF, rowB]), h2]⟩
 ne := h.ne
theorem QrAt.ext {H : List ABlk} {qb : Nat} {x : AV} {bs : List UInt8} {sp : Bool} (h : QrAt H qb x bs sp) (l : List ABlk) : QrAt (H ++ l) qb x bs sp := h.frame fun b hb => List.getElem?_append_left (h.lt b hb)
def QOp (H : List ABlk) (qb : Nat) (x : AV) (bs : List UInt8) (sp : Bool) (v : AV) (H' : List ABlk) : Prop := v = .tup [] ∧ ∃ x', QrAt H' qb x' bs sp ∧ Chg H (WF qb x) H' (WF qb x')
theorem tmod256 (n : Int) : (n.tmod 256 + 256).tmod 256 = n % 256 := by
 rw [Int.tmod_eq_emod_of_nonneg (by have := Int.lt_tmod_of_pos n (by decide : (0 : Int) < 256); omega), Int.tmod_eq_emod]
 split <;> omega
theorem QOp.new {H : List ABlk} {qb : Nat} {l : List UInt8} {sp : Bool} (h : QrAt H qb .esl [] sp) : QOp H qb .esl l sp (.tup []) ((H ++ [ABlk.row 5 1 l.length]).set qb (.cells [.gsl H.length 1 (l.map bd), bv sp])) := by
 have hwl := (List.getElem?_eq_some_iff.1 h.c).1
 refine ⟨rfl, .gsl H.length 1 (l.map bd), ⟨List.getElem?_set_self (by simp; omega), .inr ⟨H.length, rfl, by rw [getset_ne (by omega), hg0]; rfl⟩, by simp [rowB]; omega⟩, by simp, fun c hc hF => ?_, fun c hc => ?_⟩
 ·rw [getset_ne (fun e => hF (by rw [← e]; simp [WF])), List.getElem?_append_left hc]
 ·simp only [WF, rowB, List.mem_cons, List.not_mem_nil, or_false] at hc ⊢
  rcases hc with hc | hc
  ·exact .inl hc
  ·exact .inr (by omega)
theorem QOp.old {H : List ABlk} {qb b : Nat} {bs l : List UInt8} {sp : Bool} (h : QrAt H qb (.gsl b 1 (bs.map bd)) bs sp) : QOp H qb (.gsl b 1 (bs.map bd)) (bs ++ l) sp (.tup []) ((H.set b (ABlk.row 5 1 (bs ++ l).length)).set qb (.cells [.gsl b 1 ((bs ++ l).map bd), bv sp])) := by
 have hwl := (List.getElem?_eq_some_iff.1 h.c).1
 have hne : b ≠ qb := fun e => h.ne (by rw [← e]; simp [rowB])
 have hbl := h.lt b (by simp [WF, rowB])
 refine ⟨rfl, .gsl b 1 ((bs ++ l).map bd), ⟨List.getElem?_set_self (by simpa using hwl), .inr ⟨b, rfl, by rw [getset_ne (Ne.symm hne), List.getElem?_set_self hbl]⟩, by simp [rowB]; omega⟩, by simp, fun c hc hF => ?_, fun c hc => .inl hc⟩
 simp only [WF, rowB, List.mem_cons, List.not_mem_nil, or_false, not_or] at hF
 rw [getset_ne (Ne.symm hF.1), getset_ne (Ne.symm hF.2)]
theorem byteQ_c {H : List ABlk} {qb : Nat} {x : AV} {bs : List UInt8} {sp : Bool} (h : QrAt H qb x bs sp) (hl : bs.length ≤ 9000000) (n : Int) : ACalls Try.prog 64 [.ptr qb 0, iv n] H (QOp H qb x (bs ++ byteW n) sp) := by
 refine ACalls.into Try.func64 cc64 rr64 fun hcl => ?_
 have hc := h.c
 have hwl := (List.getElem?_eq_some_iff.1 hc).1
 have ht := tmod256 n
 have hb8 : (n % 256) % 256 = ((UInt8.ofNat (n % 256).toNat).toNat : Int) := by rw [u8of (by omega) (by omega)]; omega
 have ht1 : -256 < n.tmod 256 := Int.lt_tmod_of_pos n (by decide)
 have ht2 : n.tmod 256 < 256 := Int.tmod_lt_of_pos n (by decide)
 rcases h.r with ⟨rfl, rfl⟩ | ⟨b, rfl, hb⟩
 ·have hW : ∀ l, (H ++ l)[qb]? = some (.cells [.esl, bv sp]) := fun l => hold hc l
  simp (maxSteps := 2000000) (disch := omega) only [Try.ntmps64, c64, r64, hc, ht, hb8, datss, elems_d, hW, go_sem, seval, reduceCtorEq]
  exact Ret.keep (QOp.new (l := byteW n) h)
 ·have hne : b ≠ qb := fun e => h.ne (by rw [← e]; simp [rowB])
  have hW : ∀ y, (H.set b y)[qb]? = some (.cells [.gsl b 1 (bs.map bd), bv sp]) := fun y => by rw [getset_ne hne, hc]
  have hlb : (bs.map bd).length = bs.length := List.length_map ..
  simp (maxSteps := 2000000) (disch := omega) only [Try.ntmps64, c64, r64, hc, ht, hb8, datss, elems_d, hW, hb, hlb, flat_bd, go_sem, seval, reduceCtorEq]
  have := QOp.old (l := byteW n) h
  rw [show (bs ++ byteW n).length = bs.length + 1 by simp [byteW]] at this
  exact Ret.keep this
theorem pow_c (k : Nat) (hk : k ≤ 32) (H : List ABlk) : ACalls Try.prog 115 [wv k] H fun v H' => v = .d (.v (.int .u64 (2 ^ k))) ∧ H' = H := by
 refine ACalls.into Try.func115 cc115 rr115 fun hcl => ?_
 simp (maxSteps := 2000000) (disch := omega) only [Try.ntmps115, c115, r115, go_sem, seval, reduceCtorEq]
 refine W.loopG (γ := Nat) (fun i => k - i) (fun i => [wv k, .any, .any, .d (.v (.int .u64 (2 ^ i))), wv i] ++ List.replicate 8 .any) (fun _ => H) (fun i => i ≤ k) 0 (Wk.slots (by (try simp only [List.replicate, List.cons_append, List.nil_append]); repeat' first | exact WkL.nil | refine WkL.cons (Wk1.rfl _) ?_ | refine WkL.cons Wk1.esl ?_ | refine WkL.cons (Wk1.gsl _ _ _) ?_ | refine WkL.cons (Wk1.any _) ?_)) (Nat.zero_le _) (fun i hi => ?_)
 have hp : (2 : Int) ^ i ≤ 2 ^ 32 := by
  have : 2 ^ i ≤ 2 ^ 32 := Nat.pow_le_pow_right (by decide) (by omega)
  rw [show ((2 : Int) ^ i) = ((2 ^ i : Nat) : Int) by rw [Int.natCast_pow]; rfl, show ((2 : Int) ^ 32) = ((2 ^ 32 : Nat) : Int) by decide]
  omega
 have hp0 : (0 : Int) < 2 ^ i := Int.pow_pos (by decide)
 have hp32 : (2 : Int) ^ 32 = 4294967296 := by decide
 simp (maxSteps := 2000000) (disch := omega) only [c115l0, go_sem, seval, reduceCtorEq]
 refine Br.dec (fun hc => ?_) (fun hc => ?_) <;> simp (maxSteps := 2000000) (disch := omega) only [go_sem, seval, reduceCtorEq]
 ·have e : (2 : Int) ^ (i + 1) = 2 ^ i * 2 := Int.pow_succ ..
  have hm : ((i : Int) + 1) % 4294967296 = ((i + 1 : Nat) : Int) := by omega
  refine Nxt.mk (i + 1) (by omega) (Wk.slots ?_) (by omega)
  rw [e]
  try simp (maxSteps := 2000000) (disch := omega) only [hm, go_sem, seval, reduceCtorEq]
  exact (by (try simp only [List.replicate, List.cons_append, List.nil_append]); repeat' first | exact WkL.nil | refine WkL.cons (Wk1.rfl _) ?_ | refine WkL.cons Wk1.esl ?_ | refine WkL.cons (Wk1.gsl _ _ _) ?_ | refine WkL.cons (Wk1.any _) ?_)
 ·have : i = k := by omega
  rw [this]
  exact Ret.keep ⟨rfl, rfl⟩
theorem fitsR_c (v : Int) (H : List ABlk) : ACalls Try.prog 97 [iv v, iv 32] H fun v' H' => v' = bv (decide (fit32 v)) ∧ H' = H := by
 obtain ⟨b, hb⟩ : ∃ b, b = decide (fit32 v) := ⟨_, rfl⟩
 rw [← hb]
 refine ACalls.into Try.func97 cc97 rr97 fun hcl => ?_
 have hp32 : (2 : Int) ^ 32 = 4294967296 := by decide
 have hpc := pow_c 32 (by omega) H
 rw [hp32] at hpc
 simp (maxSteps := 2000000) (disch := omega) only [Try.ntmps97, c97, r97, go_sem, seval, reduceCtorEq]
 refine Cont.mk hpc ?_
 simp (maxSteps := 2000000) (disch := omega) only [Int.reduceDiv, go_sem, seval, reduceCtorEq]
 refine Br.dec (fun h => ?_) (fun h => ?_) <;> simp (maxSteps := 2000000) (disch := omega) only [go_sem, seval, reduceCtorEq]
 ·exact Ret.keep ⟨by rw [hb]; congr 3; exact decide_eq_decide.2 (by unfold fit32; omega), rfl⟩
 ·exact Ret.keep ⟨by rw [hb, decide_eq_false (p := fit32 v) (by unfold fit32; omega)], rfl⟩
theorem tmod128 (n : Int) : (n.tmod 128 + 128).tmod 128 = n % 128 := by
 rw [Int.tmod_eq_emod_of_nonneg (by have := Int.lt_tmod_of_pos n (by decide : (0 : Int) < 128); omega), Int.tmod_eq_emod]
 split <;> omega
theorem byteW_g7 {n : Int} : byteW (n % 128) = [g7 n] := by rw [byteW, g7]; congr 2; omega
theorem byteW_h7 {n : Int} : byteW (n % 128 + 128) = [h7 n] := by rw [byteW, h7]; congr 2; omega
structure QnG where
 acc : List UInt8
 m : Int
 f : Nat
 H : List ABlk
 x : AV
theorem numQ_c {H : List ABlk} {qb : Nat} {x : AV} {bs : List UInt8} {sp : Bool} (h : QrAt H qb x bs sp) (hl : bs.length ≤ 8000000) (n : Int) : ACalls Try.prog 62 [.ptr qb 0, iv n] H (QOp H qb x (if fit32 n then bs ++ comp7 n else bs) (if fit32 n then sp else true)) := by
 refine ACalls.into Try.func62 cc62 rr62 fun hcl => ?_
 simp (maxSteps := 2000000) (disch := omega) only [Try.ntmps62, c62, r62, go_sem, seval, reduceCtorEq]
 refine Cont.mk (fitsR_c n H) ?_
 have hc := h.c
 have hwl := (List.getElem?_eq_some_iff.1 hc).1
 by_cases hf : fit32 n
 ·rw [if_pos hf, if_pos hf]
  obtain ⟨hn1, hn2⟩ := hf
  simp (maxSteps := 2000000) (disch := omega) only [decide_eq_true (p := fit32 n) ⟨hn1, hn2⟩, go_sem, seval, reduceCtorEq]
  obtain ⟨S, hS⟩ : ∃ S : QnG → List AV, ∀ g, S g = [.ptr qb 0, iv g.m] ++ List.replicate 33 .any := ⟨_, fun _ => rfl⟩
  refine W.loopG (γ := QnG) (fun g => g.f + (if -64 ≤ g.m ∧ g.m ≤ 63 then 0 else 1)) S (fun g => g.H) (fun g => comp7 n = g.acc ++ cmp g.f g.m ∧ -64 * 128 ^ g.f ≤ g.m ∧ g.m < 64 * 128 ^ g.f ∧ g.acc.length + g.f ≤ 4 ∧ QrAt g.H qb g.x (bs ++ g.acc) sp ∧ Chg H (WF qb x) g.H (WF qb g.x)) ⟨[], n, 4, H, x⟩ (Wk.slots (by rw [hS]; exact WkL.tail 2 _ rfl (by simp only [List.take_succ_cons, List.take_zero]; repeat' first | exact WkL.nil | refine WkL.cons (Wk1.rfl _) ?_ | refine WkL.cons Wk1.esl ?_ | refine WkL.cons (Wk1.gsl _ _ _) ?_ | refine WkL.cons (Wk1.any _) ?_)))
   ⟨rfl, by show -64 * 128 ^ 4 ≤ n; simp only [Int.reducePow]; omega, by show n < 64 * 128 ^ 4; simp only [Int.reducePow]; omega, by simp, by simpa using h, .rfl'⟩ (fun g hg => ?_)
  obtain ⟨q1, q2, q3, q4, q5, q6⟩ := hg
  have hp4 : (128 : Int) ^ g.f ≤ 128 ^ 4 := by
   rcases (by omega : g.f = 0 ∨ g.f = 1 ∨ g.f = 2 ∨ g.f = 3 ∨ g.f = 4) with e | e | e | e | e <;> rw [e] <;> decide
  have hp5 : (128 : Int) ^ 4 = 268435456 := by decide
  have ht := tmod128 g.m
  have hlq : (bs ++ g.acc).length ≤ 9000000 := by rw [List.length_append]; omega
  have ht1 : -128 < g.m.tmod 128 := Int.lt_tmod_of_pos g.m (by decide)
  have ht2 : g.m.tmod 128 < 128 := Int.tmod_lt_of_pos g.m (by decide)
  have hm1 : -17179869184 ≤ g.m ∧ g.m ≤ 17179869184 := by omega
  have hmm : (g.m % 128 + 128) % 128 = g.m % 128 := by omega
  by_cases hr7 : -64 ≤ g.m ∧ g.m ≤ 63
  ·have ec : cmp g.f g.m = [g7 g.m] := by
    cases hf : g.f with
    | zero => rfl
    | succ f => rw [cmp, if_pos hr7]
   rw [ec] at q1
   have hbq := byteQ_c q5 hlq (g.m % 128)
   rw [byteW_g7, List.append_assoc, ← q1] at hbq
   have hm2 : (g.m + 128) % 128 = g.m % 128 := by omega
   obtain ⟨r1, r2⟩ := hr7
   simp (maxSteps := 2000000) (disch := omega) only [hS, c62l0, hm2, go_sem, seval, reduceCtorEq]
   refine Cont.rel hbq ?_
   rintro v H' ⟨rfl, x', h1', h2'⟩
   simp (maxSteps := 2000000) (disch := omega) only [go_sem, seval, reduceCtorEq]
   exact Ret.keep ⟨rfl, x', h1', q6.trans h2'⟩
  ·obtain ⟨f', hf⟩ : ∃ f', g.f = f' + 1 := by
    cases hf : g.f with
    | zero => rw [hf] at q2 q3; simp at q2 q3; exact absurd ⟨q2, by omega⟩ hr7
    | succ f => exact ⟨f, rfl⟩
   rw [hf] at q1 q2 q3 q4
   rw [cmp, if_neg hr7] at q1
   have hp : (0 : Int) < 128 ^ f' := Int.pow_pos (by decide)
   rw [Int.pow_succ] at q2 q3
   have hbq := byteQ_c q5 hlq (g.m % 128 + 128)
   rw [byteW_h7, List.append_assoc] at hbq
   have hdiv : (g.m - g.m % 128).tdiv 128 = g.m / 128 := by
    rw [Int.tdiv_eq_ediv_of_dvd (by omega)]; omega
   have step : ∀ (G : Prop), (g.m < -64 → G) → (¬ g.m < -64 → g.m > 63 → G) → G := fun G a b => by
    by_cases h : g.m < -64
    ·exact a h
    ·exact b h (by omega)
   refine step _ (fun r1 => ?_) (fun r1 r2 => ?_) <;> (
    simp (maxSteps := 2000000) (disch := omega) only [hS, c62l0, ht, hmm, go_sem, seval, reduceCtorEq]
    refine Cont.rel hbq ?_
    rintro v H' ⟨rfl, x', h1', h2'⟩
    simp (maxSteps := 2000000) (disch := omega) only [ht, hmm, hdiv, go_sem, seval, reduceCtorEq]
    exact Nxt.mk ⟨g.acc ++ [h7 g.m], g.m / 128, f', H', x'⟩ (by show f' + _ < _; simp only [hf]; (repeat' split) <;> omega) (Wk.slots (by rw [hS]; exact WkL.tail 2 _ rfl (by simp only [List.take_succ_cons, List.take_zero]; repeat' first | exact WkL.nil | refine WkL.cons (Wk1.rfl _) ?_ | refine WkL.cons Wk1.esl ?_ | refine WkL.cons (Wk1.gsl _ _ _) ?_ | refine WkL.cons (Wk1.any _) ?_))) ⟨by rw [q1]; simp, by show -64 * 128 ^ f' ≤ g.m / 128; omega, by show g.m / 128 < 64 * 128 ^ f'; omega, by show (g.acc ++ [h7 g.m]).length + f' ≤ 4; rw [List.length_append]; show g.acc.length + 1 + f' ≤ 4; omega, h1', q6.trans h2'⟩)
 ·rw [if_neg hf, if_neg hf]
  simp (maxSteps := 2000000) (disch := omega) only [decide_eq_false hf, hc, go_sem, seval, reduceCtorEq]
  refine Ret.keep ⟨rfl, x, ⟨List.getElem?_set_self hwl, ?_, h.ne⟩, by simp, fun b hb hF => getset_ne (fun e => hF (by rw [← e]; simp [WF])), fun b hb => .inl hb⟩
  rcases h.r with h1 | ⟨b, rfl, h2⟩
  ·exact .inl h1
  ·exact .inr ⟨b, rfl, by rw [getset_ne (fun e => h.ne (by rw [e]; simp [rowB])), h2]⟩
end Go.Proofs.Ythifjndenhjobaa.Rid

/- The reference's writer: words, texts, all. -/
namespace Go.Proofs.Ythifjndenhjobaa.Rid
set_option linter.unusedSimpArgs false
set_option linter.unusedVariables false
set_option maxRecDepth 20000
set_option maxHeartbeats 2000000
open Go.RowKit

def c114 : AC :=
 .seq (.reg [kn 4 (.mv (.c (.d (.v (.bool false)))))])
 (.seq (.reg [kn 5 (.mv (.t 0)), kn 6 (.bin .geq (.t 5) (kc 0)), kn 7 (.mv (.t 6)), ky 8 7 (.mv (.t 1)), ky 9 7 (.bin .geq (.t 8) (kc 1)), kn 10 (.pick (.t 7) (.t 9) (.c (.d (.v (.bool false))))), kn 11 (.mv (.t 10)), ky 12 11 (.mv (.t 0)), ky 13 11 (.bin .leq (.t 12) (kc 31)), kn 14 (.pick (.t 11) (.t 13) (.c (.d (.v (.bool false))))), kn 15 (.mv (.t 14)), ky 16 15 (.mv (.t 1)), ky 17 15 (.mv (.t 0)), ky 18 15 (.bin .sub (kc 32) (.t 17)), ky 19 15 (.bin .leq (.t 16) (.t 18)), kn 20 (.pick (.t 15) (.t 19) (.c (.d (.v (.bool false))))), kn 4 (.mv (.t 20))])
 (.ret))
def r114 : List RC := [.t 4]

theorem cc114 : Try.f114.body.bind (comp Try.prog (hhI 114)) = some c114 := by kernel_rfl
theorem rr114 : resC Try.prog Try.f114 = some r114 := by kernel_rfl
def c60l0 : AC :=
 .seq (.seq (.reg [kn 11 (.mv (.t 4)), kn 12 (.mv (.t 1)), kn 13 (.len true (.t 12)), kn 14 (.bin .lss (.t 11) (.t 13))])
 (.cond (.t 14) (.skip) (.exit 0)))
 (.seq (.block 1 (.seq (.reg [kn 17 (.mv (.t 1)), kn 18 (.mv (.t 4)), kn 19 (.ix (.t 17) (.t 18)), kn 20 (.bin .eql (.t 19) (.c (.d (.v (.int .u8 0)))))])
 (.cond (.t 20) (.seq (.reg [kn 21 (.mv (.t 0)), kn 22 (.nc (.t 21)), kn 23 (.fa (.t 22) 1), ke (.st (.t 23) (.c (.d (.v (.bool true)))) 1)])
 (.ret)) (.skip))))
 (.reg [kn 15 (.mv (.t 4)), kn 16 (.bin .add (.t 15) (kc 1)), kn 4 (.mv (.t 16))]))

def c60 : AC :=
 .seq (.seq (.reg [kn 5 (.mv (.t 1)), kn 6 (.len true (.t 5)), kn 7 (.bin .gtr (.t 6) (kc 64))])
 (.cond (.t 7) (.seq (.reg [kn 8 (.mv (.t 0)), kn 9 (.nc (.t 8)), kn 10 (.fa (.t 9) 1), ke (.st (.t 10) (.c (.d (.v (.bool true)))) 1)])
 (.ret)) (.skip)))
 (.seq (.seq (.reg [kn 4 (.mv (kc 0))])
 (.block 0 (.loop c60l0)))
 (.reg [kn 24 (.mv (.t 0)), kn 25 (.mv (.t 0)), kn 26 (.nc (.t 25)), kn 27 (.fa (.t 26) 0), kn 28 (.ld (.t 27) 1 false), kn 29 (.mv (.t 1)), kn 30 (.app .gr 5 1 1 (.t 28) (.t 29)), kn 31 (.bs .im 5 1 [(.c (.d (.v (.int .u8 0))))]), kn 32 (.app .gr 5 1 1 (.t 30) (.t 31)), kn 33 (.nc (.t 24)), kn 34 (.fa (.t 33) 0), ke (.st (.t 34) (.t 32) 1)]))
def r60 : List RC := []

def c61l0 : AC :=
 .seq (.seq (.reg [kn 5 (.mv (.t 4)), kn 6 (.bin .lss (.t 5) (kc 4))])
 (.cond (.t 6) (.skip) (.exit 0)))
 (.seq (.block 1 (.reg [kn 9 (.mv (.t 0)), kn 10 (.mv (.t 1)), kn 11 (.mv (.t 4)), kn 12 (.bin .mul (kc 8) (.t 11)), kn 13 (.call 96 [(.t 10), (.t 12), (kc 8)]), kn 14 (.cvi .i64 (.t 13)), kn 15 (.call 64 [(.t 9), (.t 14)])]))
 (.reg [kn 7 (.mv (.t 4)), kn 8 (.bin .add (.t 7) (kc 1)), kn 4 (.mv (.t 8))]))

def c61 : AC :=
 .seq (.reg [kn 4 (.mv (kc 0))])
 (.block 0 (.loop c61l0))
def r61 : List RC := []

def c66 : AC :=
 .seq (.reg [kn 2 (.mv (.c (.d (.v (.string ⟨#[]⟩))))), kn 3 (.mv (kc 0))])
 (.seq (.seq (.reg [kn 4 (.mv (.t 0)), kn 5 (.nc (.t 4)), kn 6 (.fa (.t 5) 1), kn 7 (.ld (.t 6) 1 false)])
 (.cond (.t 7) (.seq (.reg [kn 2 (.mv (.c (.d (.v (.string ⟨#[]⟩))))), kn 3 (.mv (kc 1))])
 (.ret)) (.skip)))
 (.seq (.seq (.reg [kn 8 (.mv (.t 0)), kn 9 (.nc (.t 8)), kn 10 (.fa (.t 9) 0), kn 11 (.ld (.t 10) 1 false), kn 12 (.len false (.t 11)), kn 13 (.bin .gtr (.t 12) (kc 131072))])
 (.cond (.t 13) (.seq (.reg [kn 2 (.mv (.c (.d (.v (.string ⟨#[]⟩))))), kn 3 (.mv (kc 2))])
 (.ret)) (.skip)))
 (.seq (.reg [kn 14 (.mv (.t 0)), kn 15 (.nc (.t 14)), kn 16 (.fa (.t 15) 0), kn 17 (.ld (.t 16) 1 false), kn 18 (.b2s (.t 17)), kn 2 (.mv (.t 18)), kn 3 (.mv (kc 0))])
 (.ret))))
def r66 : List RC := [.t 2, .t 3]

def c96 : AC :=
 .seq (.reg [kn 6 (.mv (.c (.d (.v (.int .u32 0)))))])
 (.seq (.seq (.reg [kn 7 (.mv (.t 1)), kn 8 (.mv (.t 2)), kn 9 (.call 114 [(.t 7), (.t 8)]), kn 10 (.un .not (.t 9))])
 (.cond (.t 10) (.seq (.reg [kn 6 (.mv (.c (.d (.v (.int .u32 0)))))])
 (.ret)) (.skip)))
 (.seq (.dreg [[], [0], [], [2], [3], [1, 4], [], [6], [7, 4], [5, 8], [9], [10, 8, 0, 1, 2, 3, 4, 5, 6, 7, 8, 9, 10]] [kn 11 (.mv (.t 0)), kn 12 (.cvi .u64 (.t 11)), kn 13 (.mv (.t 1)), kn 14 (.cvi .u32 (.t 13)), kn 15 (.call 115 [(.t 14)]), kn 16 (.bin .quo (.t 12) (.t 15)), kn 17 (.mv (.t 2)), kn 18 (.cvi .u32 (.t 17)), kn 19 (.call 115 [(.t 18)]), kn 20 (.bin .rem (.t 16) (.t 19)), kn 21 (.cvi .u32 (.t 20)), kn 6 (.mv (.t 21))])
 (.ret)))
def r96 : List RC := [.t 6]

theorem cc60 : Try.f60.body.bind (comp Try.prog (hhW 60)) = some c60 := by kernel_rfl
theorem rr60 : resC Try.prog Try.f60 = some r60 := by kernel_rfl
theorem cc61 : Try.f61.body.bind (comp Try.prog (hhW 61)) = some c61 := by kernel_rfl
theorem rr61 : resC Try.prog Try.f61 = some r61 := by kernel_rfl
theorem cc66 : Try.f66.body.bind (comp Try.prog (hhW 66)) = some c66 := by kernel_rfl
theorem rr66 : resC Try.prog Try.f66 = some r66 := by kernel_rfl
theorem cc96 : Try.f96.body.bind (comp Try.prog (hhW 96)) = some c96 := by kernel_rfl
theorem rr96 : resC Try.prog Try.f96 = some r96 := by kernel_rfl
theorem may_c (lo : Nat) (hlo : lo ≤ 24) (H : List ABlk) : ACalls Try.prog 114 [iv lo, iv 8] H fun v H' => v = bv true ∧ H' = H := by
 refine ACalls.into Try.func114 cc114 rr114 fun hcl => ?_
 simp (maxSteps := 2000000) (disch := omega) only [Try.ntmps114, c114, r114, go_sem, seval, reduceCtorEq]
 exact Ret.keep ⟨rfl, rfl⟩
theorem get_c (x : Int) (h0 : 0 ≤ x) (h1 : x < 4294967296) (lo : Nat) (hlo : lo ≤ 24) (H : List ABlk) : ACalls Try.prog 96 [wv x, iv lo, iv 8] H fun v H' => v = wv (x / 2 ^ lo % 256) ∧ H' = H := by
 refine ACalls.into Try.func96 cc96 rr96 fun hcl => ?_
 have hp0 : (0 : Int) < 2 ^ lo := Int.pow_pos (by decide)
 have hpn : ¬ (2 : Int) ^ lo = 0 := by omega
 have hd0 : 0 ≤ x / 2 ^ lo := Int.ediv_nonneg h0 (by omega)
 have hd1 : x / 2 ^ lo ≤ x := Int.ediv_le_self _ h0
 have hp8 := pow_c 8 (by omega) H
 rw [show (2 : Int) ^ 8 = 256 by decide] at hp8
 simp (maxSteps := 2000000) (disch := omega) only [Try.ntmps96, c96, r96, go_sem, seval, reduceCtorEq]
 refine Cont.mk (may_c lo hlo H) ?_
 simp (maxSteps := 2000000) (disch := omega) only [go_sem, seval, reduceCtorEq]
 refine W.pchain follows (by decide +kernel) ?_
 simp (maxSteps := 2000000) (disch := omega) only [go_sem, seval, reduceCtorEq]
 refine PCont.mk (pow_c lo (by omega) H) ?_
 simp (maxSteps := 2000000) (disch := omega) only [hpn, go_sem, seval, reduceCtorEq]
 refine PCont.mk hp8 ?_
 simp (maxSteps := 2000000) (disch := omega) only [go_sem, seval, reduceCtorEq]
 exact Ret.keep ⟨rfl, rfl⟩
structure QwG where
 i : Nat
 H : List ABlk
 x : AV
theorem wordQ_c {H : List ABlk} {qb : Nat} {x : AV} {bs : List UInt8} {sp : Bool} (h : QrAt H qb x bs sp) (hl : bs.length ≤ 8000000) (n : Int) (h0 : 0 ≤ n) (h1 : n < 4294967296) : ACalls Try.prog 61 [.ptr qb 0, wv n] H (QOp H qb x (bs ++ wordB n) sp) := by
 refine ACalls.into Try.func61 cc61 rr61 fun hcl => ?_
 simp (maxSteps := 2000000) (disch := omega) only [Try.ntmps61, c61, r61, go_sem, seval, reduceCtorEq]
 obtain ⟨S, hS⟩ : ∃ S : QwG → List AV, ∀ g, S g = [.ptr qb 0, wv n, .any, .any, iv g.i] ++ List.replicate 11 .any := ⟨_, fun _ => rfl⟩
 refine W.loopG (γ := QwG) (fun g => 4 - g.i) S (fun g => g.H) (fun g => g.i ≤ 4 ∧ QrAt g.H qb g.x (bs ++ (wordB n).take g.i) sp ∧ Chg H (WF qb x) g.H (WF qb g.x)) ⟨0, H, x⟩ (Wk.slots (by rw [hS]; exact WkL.tail 5 _ rfl (by simp only [List.take_succ_cons, List.take_zero]; repeat' first | exact WkL.nil | refine WkL.cons (Wk1.rfl _) ?_ | refine WkL.cons Wk1.esl ?_ | refine WkL.cons (Wk1.gsl _ _ _) ?_ | refine WkL.cons (Wk1.any _) ?_))) ⟨by show 0 ≤ 4; omega, by simpa using h, .rfl'⟩ (fun g hg => ?_)
 obtain ⟨q1, q2, q3⟩ := hg
 by_cases hi : g.i < 4
 ·have hgc := get_c n h0 h1 (8 * g.i) (by omega) g.H
  have hlen : (bs ++ (wordB n).take g.i).length ≤ 9000000 := by
   rw [List.length_append, List.length_take]; omega
  have hbq := byteQ_c q2 hlen (n / 2 ^ (8 * g.i) % 256)
  have hbw : byteW (n / 2 ^ (8 * g.i) % 256) = [wB n g.i] := by
   rw [byteW, wB, show (2 : Int) ^ (8 * g.i) = 256 ^ g.i by rw [Int.pow_mul]; rfl]; congr 2; omega
  have htk : (wordB n).take g.i ++ [wB n g.i] = (wordB n).take (g.i + 1) := by
   rcases (by omega : g.i = 0 ∨ g.i = 1 ∨ g.i = 2 ∨ g.i = 3) with e | e | e | e <;> rw [e] <;> rfl
  rw [hbw, List.append_assoc, htk] at hbq
  have e8 : ((8 * g.i : Nat) : Int) = 8 * (g.i : Int) := by omega
  rw [e8] at hgc
  have hr0 : 0 ≤ n / 2 ^ (8 * g.i) % 256 ∧ n / 2 ^ (8 * g.i) % 256 < 256 := by omega
  simp (maxSteps := 2000000) (disch := omega) only [hS, c61l0, go_sem, seval, reduceCtorEq]
  refine Cont.mk hgc ?_
  simp (maxSteps := 2000000) (disch := omega) only [go_sem, seval, reduceCtorEq]
  refine Cont.rel hbq ?_
  rintro v H' ⟨rfl, x', h1', h2'⟩
  simp (maxSteps := 2000000) (disch := omega) only [go_sem, seval, reduceCtorEq]
  exact Nxt.mk ⟨g.i + 1, H', x'⟩ (by show 4 - (g.i + 1) < 4 - g.i; omega) (Wk.slots (by rw [hS]; exact WkL.tail 5 _ rfl (by simp only [List.take_succ_cons, List.take_zero]; repeat' first | exact WkL.nil | refine WkL.cons (Wk1.rfl _) ?_ | refine WkL.cons Wk1.esl ?_ | refine WkL.cons (Wk1.gsl _ _ _) ?_ | refine WkL.cons (Wk1.any _) ?_))) ⟨by show g.i + 1 ≤ 4; omega, h1', q3.trans h2'⟩
 ·have hi4 : g.i = 4 := by omega
  rw [hi4, show (wordB n).take 4 = wordB n from rfl] at q2
  simp (maxSteps := 2000000) (disch := omega) only [hS, c61l0, go_sem, seval, reduceCtorEq]
  exact Ret.keep ⟨rfl, g.x, q2, q3⟩
theorem bytesQ_c {H : List ABlk} {qb : Nat} {x : AV} {bs : List UInt8} {sp : Bool} (h : QrAt H qb x bs sp) : ACalls Try.prog 66 [.ptr qb 0] H fun v H' => v = .tup (if sp = true then [sv nl, iv 1] else if 131072 < bs.length then [sv nl, iv 2] else [sv ⟨bs.toArray⟩, iv 0]) ∧ H' = H := by
 refine ACalls.into Try.func66 cc66 rr66 fun hcl => ?_
 have hw := h.c
 cases sp with
 | true =>
  simp (maxSteps := 2000000) (disch := omega) only [Try.ntmps66, c66, r66, hw, go_sem, seval, reduceCtorEq]
  exact Ret.keep ⟨rfl, rfl⟩
 | false =>
  rcases h.r with ⟨rfl, rfl⟩ | ⟨b, rfl, hb⟩
  ·simp (maxSteps := 2000000) (disch := omega) only [Try.ntmps66, c66, r66, hw, elems_e, bytesOf, go_sem, seval, reduceCtorEq]
   exact Ret.keep ⟨rfl, rfl⟩
  ·have hlb : (bs.map bd).length = bs.length := List.length_map ..
   by_cases hlen : 131072 < bs.length
   ·rw [if_neg (by simp), if_pos hlen]
    simp (maxSteps := 2000000) (disch := omega) only [Try.ntmps66, c66, r66, hw, hlb, go_sem, seval, reduceCtorEq]
    exact Ret.keep ⟨rfl, rfl⟩
   ·rw [if_neg (by simp), if_neg hlen]
    simp (maxSteps := 2000000) (disch := omega) only [Try.ntmps66, c66, r66, hw, hlb, elems_g, bytesOf_bd, go_sem, seval, reduceCtorEq]
    exact Ret.keep ⟨rfl, rfl⟩
open Classical in
theorem textQ_c {H : List ABlk} {qb : Nat} {x : AV} {bs : List UInt8} {sp : Bool} (h : QrAt H qb x bs sp) (hl : bs.length ≤ 8000000) (s : ByteArray) : ACalls Try.prog 60 [.ptr qb 0, sv s] H (QOp H qb x (if textOk s then bs ++ (s.data.toList ++ [0]) else bs) (if textOk s then sp else true)) := by
 refine ACalls.into Try.func60 cc60 rr60 fun hcl => ?_
 have hc := h.c
 have hwl := (List.getElem?_eq_some_iff.1 hc).1
 have hsp : QOp H qb x bs true (.tup []) (H.set qb (.cells [x, bv true])) := by
  refine ⟨rfl, x, ⟨List.getElem?_set_self hwl, ?_, h.ne⟩, by simp, fun b hb hF => getset_ne (fun e => hF (by rw [← e]; simp [WF])), fun b hb => .inl hb⟩
  rcases h.r with h1 | ⟨b, rfl, h2⟩
  ·exact .inl h1
  ·exact .inr ⟨b, rfl, by rw [getset_ne (fun e => h.ne (by rw [e]; simp [rowB])), h2]⟩
 by_cases h64 : 64 < s.size
 ·have hno : ¬ textOk s := fun e => by have := e.1; omega
  rw [if_neg hno, if_neg hno]
  simp (maxSteps := 2000000) (disch := omega) only [Try.ntmps60, c60, r60, hc, go_sem, seval, reduceCtorEq]
  exact Ret.keep hsp
 simp (maxSteps := 2000000) (disch := omega) only [Try.ntmps60, c60, r60, go_sem, seval, reduceCtorEq]
 obtain ⟨S, hS⟩ : ∃ S : Nat → List AV, ∀ i, S i = [.ptr qb 0, sv s, .any, .any, iv i] ++ List.replicate 30 .any := ⟨_, fun _ => rfl⟩
 refine W.loopG (γ := Nat) (fun i => s.size - i) S (fun _ => H) (fun i => i ≤ s.size ∧ ∀ j, j < i → s.data.toList.getD j 0 ≠ 0) 0 (Wk.slots (by rw [hS]; exact WkL.tail 5 _ rfl (by simp only [List.take_succ_cons, List.take_zero]; repeat' first | exact WkL.nil | refine WkL.cons (Wk1.rfl _) ?_ | refine WkL.cons Wk1.esl ?_ | refine WkL.cons (Wk1.gsl _ _ _) ?_ | refine WkL.cons (Wk1.any _) ?_))) ⟨Nat.zero_le _, fun j hj => absurd hj (Nat.not_lt_zero _)⟩ (fun i hi => ?_)
 obtain ⟨q1, q2⟩ := hi
 by_cases hi2 : i < s.size
 ·by_cases hz : s.data.toList.getD i 0 = 0
  ·have hno : ¬ textOk s := fun e => e.2 (by
    rw [← hz, List.getD_eq_getElem?_getD, List.getElem?_eq_getElem (by rw [len_data]; exact hi2)]; exact List.getElem_mem _)
   rw [if_neg hno, if_neg hno]
   have hz2 : ((s.data.toList.getD i 0).toNat : Int) = 0 := by rw [hz]; rfl
   simp (maxSteps := 2000000) (disch := omega) only [hS, c60l0, hz2, hc, go_sem, seval, reduceCtorEq]
   exact Ret.keep hsp
  ·have hz2 : ¬ ((s.data.toList.getD i 0).toNat : Int) = 0 := fun e => hz (UInt8.toNat_inj.1 (by show _ = 0; omega))
   simp (maxSteps := 2000000) (disch := omega) only [hS, c60l0, hz2, go_sem, seval, reduceCtorEq]
   exact Nxt.mk (i + 1) (by omega) (Wk.slots (by rw [hS]; exact WkL.tail 5 _ rfl (by simp only [List.take_succ_cons, List.take_zero]; repeat' first | exact WkL.nil | refine WkL.cons (Wk1.rfl _) ?_ | refine WkL.cons Wk1.esl ?_ | refine WkL.cons (Wk1.gsl _ _ _) ?_ | refine WkL.cons (Wk1.any _) ?_))) ⟨by omega, fun j hj => by
    rcases Nat.lt_or_ge j i with h' | h'
    ·exact q2 j h'
    ·rw [show j = i by omega]; exact hz⟩
 ·have hok : textOk s := ⟨by omega, fun e => by
   obtain ⟨j, hj, he⟩ := List.mem_iff_getElem.1 e
   rw [len_data] at hj
   refine q2 j (by omega) ?_
   rw [List.getD_eq_getElem?_getD, List.getElem?_eq_getElem (by rw [len_data]; exact hj)]; exact he⟩
  rw [if_pos hok, if_pos hok]
  have hda : datss ((s.data.toList.map bd).map (·.map AV.d)) = some (s.data.toList.map bd) := datss_map_d _
  have hlm : (s.data.toList.map bd).length = s.size := by rw [List.length_map, len_data]
  have hlz : (s.data.toList ++ [0]).length = s.size + 1 := by rw [List.length_append, len_data]; rfl
  have hmz : (s.data.toList ++ [0]).map bd = s.data.toList.map bd ++ [[Dat.v (.int .u8 0)]] := by rw [List.map_append]; rfl
  rcases h.r with ⟨rfl, rfl⟩ | ⟨b, rfl, hb⟩
  ·have hW : ∀ l, (H ++ l)[qb]? = some (.cells [.esl, bv sp]) := fun l => hold hc l
   simp (maxSteps := 2000000) (disch := omega) only [hS, c60l0, hc, elems_s, str_d, hda, hlm, datss, elems_d, hW, go_sem, seval, reduceCtorEq]
   have := QOp.new (l := s.data.toList ++ [0]) h
   rw [hlz, hmz] at this
   exact Ret.keep this
  ·have hne : b ≠ qb := fun e => h.ne (by rw [← e]; simp [rowB])
   have hW : ∀ y, (H.set b y)[qb]? = some (.cells [.gsl b 1 (bs.map bd), bv sp]) := fun y => by rw [getset_ne hne, hc]
   have hlb : (bs.map bd).length = bs.length := List.length_map ..
   have hbl := (List.getElem?_eq_some_iff.1 hb).1
   have hS2 : ∀ y, (H.set b y)[b]? = some y := fun y => List.getElem?_set_self hbl
   have h1 : (bs.length + s.size) * 1 ≤ 140737488355328 := by omega
   simp (maxSteps := 2000000) (disch := omega) only [hS, c60l0, hc, elems_s, str_d, hda, hlm, hlb, datss, elems_d, hW, hb, hS2, List.set_set, go_sem, seval, reduceCtorEq]
   have := QOp.old (l := s.data.toList ++ [0]) h
   rw [show (bs ++ (s.data.toList ++ [(0 : UInt8)])).length = bs.length + s.size + 1 by rw [List.length_append, hlz]; omega, List.map_append, hmz] at this
   exact Ret.keep this
end Go.Proofs.Ythifjndenhjobaa.Rid
