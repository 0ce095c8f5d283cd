/- The reference's writer. -/
import Derived.Test.YtipjjcaflcpplaaPl2
namespace Go.Proofs.Ytipjjcaflcpplaa
set_option linter.unusedSimpArgs false
set_option linter.unusedVariables false
set_option maxRecDepth 20000
set_option maxHeartbeats 2000000
open Go.RowKit

/-- The reference's writer: its bytes, spoilt. -/
structure QrAt (H : List ABlk) (qb : Nat) (x : AV) (bs : List UInt8) (sp : Bool) : Prop where
  c : H[qb]? = some (.cells [x, bv sp])
  r : RowB H x bs
  ne : qb ∉ rowB x
theorem QrAt.lt {H : List ABlk} {qb : Nat} {x : AV} {bs : List UInt8} {sp : Bool} (h : QrAt H qb x bs sp) : ∀ b ∈ WF qb x, b < H.length := fun b hb => by
  simp only [WF, List.mem_cons] at hb
  rcases hb with rfl | hb
  · exact (List.getElem?_eq_some_iff.1 h.c).1
  · rcases h.r with ⟨rfl, _⟩ | ⟨c, rfl, hc⟩
    · simp [rowB] at hb
    · simp [rowB] at hb; subst hb; exact (List.getElem?_eq_some_iff.1 hc).1
theorem QrAt.frame {H H' : List ABlk} {qb : Nat} {x : AV} {bs : List UInt8} {sp : Bool} (h : QrAt H qb x bs sp) (hH : ∀ b ∈ WF qb x, H'[b]? = H[b]?) : QrAt H' qb x bs sp where
  c := by rw [hH qb (by simp [WF]), h.c]
  r := by
    rcases h.r with h1 | ⟨b, rfl, h2⟩
    · exact .inl h1
    · exact .inr ⟨b, rfl, by rw [hH b (by simp [WF, rowB]), h2]⟩
  ne := h.ne
theorem QrAt.ext {H : List ABlk} {qb : Nat} {x : AV} {bs : List UInt8} {sp : Bool} (h : QrAt H qb x bs sp) (l : List ABlk) : QrAt (H ++ l) qb x bs sp := h.frame fun b hb => List.getElem?_append_left (h.lt b hb)
/-- What an operation on it does. -/
def QOp (H : List ABlk) (qb : Nat) (x : AV) (bs : List UInt8) (sp : Bool) (v : AV) (H' : List ABlk) : Prop := v = .tup [] ∧ ∃ x', QrAt H' qb x' bs sp ∧ Chg H (WF qb x) H' (WF qb x')
theorem tmod256 (n : Int) : (n.tmod 256 + 256).tmod 256 = n % 256 := by
  rw [Int.tmod_eq_emod_of_nonneg (by have := Int.lt_tmod_of_pos n (by decide : (0 : Int) < 256); omega), Int.tmod_eq_emod]
  split <;> omega
theorem QOp.new {H : List ABlk} {qb : Nat} {l : List UInt8} {sp : Bool} (h : QrAt H qb .esl [] sp) : QOp H qb .esl l sp (.tup []) ((H ++ [ABlk.row 5 1 l.length]).set qb (.cells [.gsl H.length 1 (l.map bd), bv sp])) := by
  have hwl := (List.getElem?_eq_some_iff.1 h.c).1
  refine ⟨rfl, .gsl H.length 1 (l.map bd), ⟨List.getElem?_set_self (by simp; omega), .inr ⟨H.length, rfl, by rw [getset_ne (by omega), hg0]; rfl⟩, by simp [rowB]; omega⟩, by simp, fun c hc hF => ?_, fun c hc => ?_⟩
  · rw [getset_ne (fun e => hF (by rw [← e]; simp [WF])), List.getElem?_append_left hc]
  · simp only [WF, rowB, List.mem_cons, List.not_mem_nil, or_false] at hc ⊢
    rcases hc with hc | hc
    · exact .inl hc
    · exact .inr (by omega)
theorem QOp.old {H : List ABlk} {qb b : Nat} {bs l : List UInt8} {sp : Bool} (h : QrAt H qb (.gsl b 1 (bs.map bd)) bs sp) : QOp H qb (.gsl b 1 (bs.map bd)) (bs ++ l) sp (.tup []) ((H.set b (ABlk.row 5 1 (bs ++ l).length)).set qb (.cells [.gsl b 1 ((bs ++ l).map bd), bv sp])) := by
  have hwl := (List.getElem?_eq_some_iff.1 h.c).1
  have hne : b ≠ qb := fun e => h.ne (by rw [← e]; simp [rowB])
  have hbl := h.lt b (by simp [WF, rowB])
  refine ⟨rfl, .gsl b 1 ((bs ++ l).map bd), ⟨List.getElem?_set_self (by simpa using hwl), .inr ⟨b, rfl, by rw [getset_ne (Ne.symm hne), List.getElem?_set_self hbl]⟩, by simp [rowB]; omega⟩, by simp, fun c hc hF => ?_, fun c hc => .inl hc⟩
  simp only [WF, rowB, List.mem_cons, List.not_mem_nil, or_false, not_or] at hF
  rw [getset_ne (Ne.symm hF.1), getset_ne (Ne.symm hF.2)]
theorem byteQ_c {H : List ABlk} {qb : Nat} {x : AV} {bs : List UInt8} {sp : Bool} (h : QrAt H qb x bs sp) (hl : bs.length ≤ 9000000) (n : Int) : ACalls Try.prog 31 [.ptr qb 0, iv n] H (QOp H qb x (bs ++ byteW n) sp) := by
  refine ACalls.into Try.func31 cc31 rr31 fun hcl => ?_
  have hc := h.c
  have hwl := (List.getElem?_eq_some_iff.1 hc).1
  have ht := tmod256 n
  have hb8 : (n % 256) % 256 = ((UInt8.ofNat (n % 256).toNat).toNat : Int) := by rw [u8of (by omega) (by omega)]; omega
  have ht1 : -256 < n.tmod 256 := Int.lt_tmod_of_pos n (by decide)
  have ht2 : n.tmod 256 < 256 := Int.tmod_lt_of_pos n (by decide)
  rcases h.r with ⟨rfl, rfl⟩ | ⟨b, rfl, hb⟩
  · have hW : ∀ l, (H ++ l)[qb]? = some (.cells [.esl, bv sp]) := fun l => hold hc l
    simp (disch := omega) only [Try.ntmps31, c31, r31, hc, ht, hb8, datss, elems_d, hW, DC_w, DC_n, kill_0, Nat.sub_zero, Int.reduceSub, Int.reduceMul, Int.reduceNeg, Int.reduceAdd, ↓rD0, ↓rD1, ↓rD2, ↓rD3, ↓rD4, rU0, rU1, rU2, rU3, rU4, rU5, toNat_n, Int.reduceToNat, slA, ptrsA, boolsA, Int.reducePow, Nat.reducePow, Nat.reduceMul, Int.reduceLT, Int.reduceLE, resA, resL, res1, eq_self, wanted, evK, get, setO, one, faA, loadA, storeA, outA, lenA, isStr, binA, unA, bnd, ints, toDat, toDats, datss, fillA, splice, List.length_nil, List.flatten_nil, Nat.reduceAdd, Nat.reduceLeDiff, Nat.reduceBEq, Nat.reduceSub, if_true, ite_true, cond_true, cond_false, List.replicate, if_false, ite_false, reduceCtorEq]
    exact Ret.keep (QOp.new (l := byteW n) h)
  · have hne : b ≠ qb := fun e => h.ne (by rw [← e]; simp [rowB])
    have hW : ∀ y, (H.set b y)[qb]? = some (.cells [.gsl b 1 (bs.map bd), bv sp]) := fun y => by rw [getset_ne hne, hc]
    have hlb : (bs.map bd).length = bs.length := List.length_map ..
    simp (disch := omega) only [Try.ntmps31, c31, r31, hc, ht, hb8, datss, elems_d, hW, hb, hlb, flat_bd, DC_w, DC_n, kill_0, Nat.sub_zero, Int.reduceSub, Int.reduceMul, Int.reduceNeg, Int.reduceAdd, ↓rD0, ↓rD1, ↓rD2, ↓rD3, ↓rD4, rU0, rU1, rU2, rU3, rU4, rU5, toNat_n, Int.reduceToNat, slA, ptrsA, boolsA, Int.reducePow, Nat.reducePow, Nat.reduceMul, Int.reduceLT, Int.reduceLE, resA, resL, res1, eq_self, wanted, evK, get, setO, one, faA, loadA, storeA, outA, lenA, isStr, binA, unA, bnd, ints, toDat, toDats, datss, fillA, splice, List.length_nil, List.flatten_nil, Nat.reduceAdd, Nat.reduceLeDiff, Nat.reduceBEq, Nat.reduceSub, if_true, ite_true, cond_true, cond_false, List.replicate, if_false, ite_false, reduceCtorEq]
    have := QOp.old (l := byteW n) h
    rw [show (bs ++ byteW n).length = bs.length + 1 by simp [byteW]] at this
    exact Ret.keep this
theorem pow_c (k : Nat) (hk : k ≤ 32) (H : List ABlk) : ACalls Try.prog 47 [wv k] H fun v H' => v = .d (.v (.int .u64 (2 ^ k))) ∧ H' = H := by
  refine ACalls.into Try.func47 cc47 rr47 fun hcl => ?_
  simp (disch := omega) only [Try.ntmps47, c47, r47, DC_w, DC_n, kill_0, Nat.sub_zero, Int.reduceSub, Int.reduceMul, Int.reduceNeg, Int.reduceAdd, ↓rD0, ↓rD1, ↓rD2, ↓rD3, ↓rD4, rU0, rU1, rU2, rU3, rU4, rU5, toNat_n, Int.reduceToNat, slA, ptrsA, boolsA, Int.reducePow, Nat.reducePow, Nat.reduceMul, Int.reduceLT, Int.reduceLE, resA, resL, res1, eq_self, wanted, evK, get, setO, one, faA, loadA, storeA, outA, lenA, isStr, binA, unA, bnd, ints, toDat, toDats, datss, fillA, splice, List.length_nil, List.flatten_nil, Nat.reduceAdd, Nat.reduceLeDiff, Nat.reduceBEq, Nat.reduceSub, if_true, ite_true, cond_true, cond_false, List.replicate, if_false, ite_false, reduceCtorEq]
  refine W.loopG (γ := Nat) (fun i => k - i) (fun i => [wv k, .any, .any, .d (.v (.int .u64 (2 ^ i))), wv i] ++ List.replicate 8 .any) (fun _ => H) (fun i => i ≤ k) 0 (Wk.slots (by (try simp only [List.replicate, List.cons_append, List.nil_append]); repeat' first | exact WkL.nil | refine WkL.cons (Wk1.rfl _) ?_ | refine WkL.cons Wk1.esl ?_ | refine WkL.cons (Wk1.gsl _ _ _) ?_ | refine WkL.cons (Wk1.any _) ?_)) (Nat.zero_le _) (fun i hi => ?_)
  have hp : (2 : Int) ^ i ≤ 2 ^ 32 := by
    have : 2 ^ i ≤ 2 ^ 32 := Nat.pow_le_pow_right (by decide) (by omega)
    rw [show ((2 : Int) ^ i) = ((2 ^ i : Nat) : Int) by rw [Int.natCast_pow]; rfl, show ((2 : Int) ^ 32) = ((2 ^ 32 : Nat) : Int) by decide]
    omega
  have hp0 : (0 : Int) < 2 ^ i := Int.pow_pos (by decide)
  have hp32 : (2 : Int) ^ 32 = 4294967296 := by decide
  simp (disch := omega) only [c47l0, DC_w, DC_n, kill_0, Nat.sub_zero, Int.reduceSub, Int.reduceMul, Int.reduceNeg, Int.reduceAdd, ↓rD0, ↓rD1, ↓rD2, ↓rD3, ↓rD4, rU0, rU1, rU2, rU3, rU4, rU5, toNat_n, Int.reduceToNat, slA, ptrsA, boolsA, Int.reducePow, Nat.reducePow, Nat.reduceMul, Int.reduceLT, Int.reduceLE, resA, resL, res1, eq_self, wanted, evK, get, setO, one, faA, loadA, storeA, outA, lenA, isStr, binA, unA, bnd, ints, toDat, toDats, datss, fillA, splice, List.length_nil, List.flatten_nil, Nat.reduceAdd, Nat.reduceLeDiff, Nat.reduceBEq, Nat.reduceSub, if_true, ite_true, cond_true, cond_false, List.replicate, if_false, ite_false, reduceCtorEq]
  refine Br.dec (fun hc => ?_) (fun hc => ?_) <;> simp (disch := omega) only [DC_w, DC_n, kill_0, Nat.sub_zero, Int.reduceSub, Int.reduceMul, Int.reduceNeg, Int.reduceAdd, ↓rD0, ↓rD1, ↓rD2, ↓rD3, ↓rD4, rU0, rU1, rU2, rU3, rU4, rU5, toNat_n, Int.reduceToNat, slA, ptrsA, boolsA, Int.reducePow, Nat.reducePow, Nat.reduceMul, Int.reduceLT, Int.reduceLE, resA, resL, res1, eq_self, wanted, evK, get, setO, one, faA, loadA, storeA, outA, lenA, isStr, binA, unA, bnd, ints, toDat, toDats, datss, fillA, splice, List.length_nil, List.flatten_nil, Nat.reduceAdd, Nat.reduceLeDiff, Nat.reduceBEq, Nat.reduceSub, if_true, ite_true, cond_true, cond_false, List.replicate, if_false, ite_false, reduceCtorEq]
  · have e : (2 : Int) ^ (i + 1) = 2 ^ i * 2 := Int.pow_succ ..
    have hm : ((i : Int) + 1) % 4294967296 = ((i + 1 : Nat) : Int) := by omega
    refine Nxt.mk (i + 1) (by omega) (Wk.slots ?_) (by omega)
    rw [e]
    try simp (disch := omega) only [hm, DC_w, DC_n, kill_0, Nat.sub_zero, Int.reduceSub, Int.reduceMul, Int.reduceNeg, Int.reduceAdd, ↓rD0, ↓rD1, ↓rD2, ↓rD3, ↓rD4, rU0, rU1, rU2, rU3, rU4, rU5, toNat_n, Int.reduceToNat, slA, ptrsA, boolsA, Int.reducePow, Nat.reducePow, Nat.reduceMul, Int.reduceLT, Int.reduceLE, resA, resL, res1, eq_self, wanted, evK, get, setO, one, faA, loadA, storeA, outA, lenA, isStr, binA, unA, bnd, ints, toDat, toDats, datss, fillA, splice, List.length_nil, List.flatten_nil, Nat.reduceAdd, Nat.reduceLeDiff, Nat.reduceBEq, Nat.reduceSub, if_true, ite_true, cond_true, cond_false, List.replicate, if_false, ite_false, reduceCtorEq]
    exact (by (try simp only [List.replicate, List.cons_append, List.nil_append]); repeat' first | exact WkL.nil | refine WkL.cons (Wk1.rfl _) ?_ | refine WkL.cons Wk1.esl ?_ | refine WkL.cons (Wk1.gsl _ _ _) ?_ | refine WkL.cons (Wk1.any _) ?_)
  · have : i = k := by omega
    rw [this]
    exact Ret.keep ⟨rfl, rfl⟩
theorem fitsR_c (v : Int) (H : List ABlk) : ACalls Try.prog 44 [iv v, iv 32] H fun v' H' => v' = bv (decide (fit32 v)) ∧ H' = H := by
  obtain ⟨b, hb⟩ : ∃ b, b = decide (fit32 v) := ⟨_, rfl⟩
  rw [← hb]
  refine ACalls.into Try.func44 cc44 rr44 fun hcl => ?_
  have hp32 : (2 : Int) ^ 32 = 4294967296 := by decide
  have hpc := pow_c 32 (by omega) H
  rw [hp32] at hpc
  simp (disch := omega) only [Try.ntmps44, c44, r44, DC_w, DC_n, kill_0, Nat.sub_zero, Int.reduceSub, Int.reduceMul, Int.reduceNeg, Int.reduceAdd, ↓rD0, ↓rD1, ↓rD2, ↓rD3, ↓rD4, rU0, rU1, rU2, rU3, rU4, rU5, toNat_n, Int.reduceToNat, slA, ptrsA, boolsA, Int.reducePow, Nat.reducePow, Nat.reduceMul, Int.reduceLT, Int.reduceLE, resA, resL, res1, eq_self, wanted, evK, get, setO, one, faA, loadA, storeA, outA, lenA, isStr, binA, unA, bnd, ints, toDat, toDats, datss, fillA, splice, List.length_nil, List.flatten_nil, Nat.reduceAdd, Nat.reduceLeDiff, Nat.reduceBEq, Nat.reduceSub, if_true, ite_true, cond_true, cond_false, List.replicate, if_false, ite_false, reduceCtorEq]
  refine Cont.mk hpc ?_
  simp (disch := omega) only [Int.reduceDiv, DC_w, DC_n, kill_0, Nat.sub_zero, Int.reduceSub, Int.reduceMul, Int.reduceNeg, Int.reduceAdd, ↓rD0, ↓rD1, ↓rD2, ↓rD3, ↓rD4, rU0, rU1, rU2, rU3, rU4, rU5, toNat_n, Int.reduceToNat, slA, ptrsA, boolsA, Int.reducePow, Nat.reducePow, Nat.reduceMul, Int.reduceLT, Int.reduceLE, resA, resL, res1, eq_self, wanted, evK, get, setO, one, faA, loadA, storeA, outA, lenA, isStr, binA, unA, bnd, ints, toDat, toDats, datss, fillA, splice, List.length_nil, List.flatten_nil, Nat.reduceAdd, Nat.reduceLeDiff, Nat.reduceBEq, Nat.reduceSub, if_true, ite_true, cond_true, cond_false, List.replicate, if_false, ite_false, reduceCtorEq]
  refine Br.dec (fun h => ?_) (fun h => ?_) <;> simp (disch := omega) only [DC_w, DC_n, kill_0, Nat.sub_zero, Int.reduceSub, Int.reduceMul, Int.reduceNeg, Int.reduceAdd, ↓rD0, ↓rD1, ↓rD2, ↓rD3, ↓rD4, rU0, rU1, rU2, rU3, rU4, rU5, toNat_n, Int.reduceToNat, slA, ptrsA, boolsA, Int.reducePow, Nat.reducePow, Nat.reduceMul, Int.reduceLT, Int.reduceLE, resA, resL, res1, eq_self, wanted, evK, get, setO, one, faA, loadA, storeA, outA, lenA, isStr, binA, unA, bnd, ints, toDat, toDats, datss, fillA, splice, List.length_nil, List.flatten_nil, Nat.reduceAdd, Nat.reduceLeDiff, Nat.reduceBEq, Nat.reduceSub, if_true, ite_true, cond_true, cond_false, List.replicate, if_false, ite_false, reduceCtorEq]
  · exact Ret.keep ⟨by rw [hb]; congr 3; exact decide_eq_decide.2 (by unfold fit32; omega), rfl⟩
  · exact Ret.keep ⟨by rw [hb, decide_eq_false (p := fit32 v) (by unfold fit32; omega)], rfl⟩
theorem tmod128 (n : Int) : (n.tmod 128 + 128).tmod 128 = n % 128 := by
  rw [Int.tmod_eq_emod_of_nonneg (by have := Int.lt_tmod_of_pos n (by decide : (0 : Int) < 128); omega), Int.tmod_eq_emod]
  split <;> omega
theorem byteW_g7 {n : Int} : byteW (n % 128) = [g7 n] := by rw [byteW, g7]; congr 2; omega
theorem byteW_h7 {n : Int} : byteW (n % 128 + 128) = [h7 n] := by rw [byteW, h7]; congr 2; omega
structure QnG where
  acc : List UInt8
  m : Int
  f : Nat
  H : List ABlk
  x : AV
theorem numQ_c {H : List ABlk} {qb : Nat} {x : AV} {bs : List UInt8} {sp : Bool} (h : QrAt H qb x bs sp) (hl : bs.length ≤ 8000000) (n : Int) : ACalls Try.prog 32 [.ptr qb 0, iv n] H (QOp H qb x (if fit32 n then bs ++ comp7 n else bs) (if fit32 n then sp else true)) := by
  refine ACalls.into Try.func32 cc32 rr32 fun hcl => ?_
  simp (disch := omega) only [Try.ntmps32, c32, r32, DC_w, DC_n, kill_0, Nat.sub_zero, Int.reduceSub, Int.reduceMul, Int.reduceNeg, Int.reduceAdd, ↓rD0, ↓rD1, ↓rD2, ↓rD3, ↓rD4, rU0, rU1, rU2, rU3, rU4, rU5, toNat_n, Int.reduceToNat, slA, ptrsA, boolsA, Int.reducePow, Nat.reducePow, Nat.reduceMul, Int.reduceLT, Int.reduceLE, resA, resL, res1, eq_self, wanted, evK, get, setO, one, faA, loadA, storeA, outA, lenA, isStr, binA, unA, bnd, ints, toDat, toDats, datss, fillA, splice, List.length_nil, List.flatten_nil, Nat.reduceAdd, Nat.reduceLeDiff, Nat.reduceBEq, Nat.reduceSub, if_true, ite_true, cond_true, cond_false, List.replicate, if_false, ite_false, reduceCtorEq]
  refine Cont.mk (fitsR_c n H) ?_
  have hc := h.c
  have hwl := (List.getElem?_eq_some_iff.1 hc).1
  by_cases hf : fit32 n
  · rw [if_pos hf, if_pos hf]
    obtain ⟨hn1, hn2⟩ := hf
    simp (disch := omega) only [decide_eq_true (p := fit32 n) ⟨hn1, hn2⟩, DC_w, DC_n, kill_0, Nat.sub_zero, Int.reduceSub, Int.reduceMul, Int.reduceNeg, Int.reduceAdd, ↓rD0, ↓rD1, ↓rD2, ↓rD3, ↓rD4, rU0, rU1, rU2, rU3, rU4, rU5, toNat_n, Int.reduceToNat, slA, ptrsA, boolsA, Int.reducePow, Nat.reducePow, Nat.reduceMul, Int.reduceLT, Int.reduceLE, resA, resL, res1, eq_self, wanted, evK, get, setO, one, faA, loadA, storeA, outA, lenA, isStr, binA, unA, bnd, ints, toDat, toDats, datss, fillA, splice, List.length_nil, List.flatten_nil, Nat.reduceAdd, Nat.reduceLeDiff, Nat.reduceBEq, Nat.reduceSub, if_true, ite_true, cond_true, cond_false, List.replicate, if_false, ite_false, reduceCtorEq]
    obtain ⟨S, hS⟩ : ∃ S : QnG → List AV, ∀ g, S g = [.ptr qb 0, iv g.m] ++ List.replicate 33 .any := ⟨_, fun _ => rfl⟩
    refine W.loopG (γ := QnG) (fun g => g.f + (if -64 ≤ g.m ∧ g.m ≤ 63 then 0 else 1)) S (fun g => g.H) (fun g => comp7 n = g.acc ++ cmp g.f g.m ∧ -64 * 128 ^ g.f ≤ g.m ∧ g.m < 64 * 128 ^ g.f ∧ g.acc.length + g.f ≤ 4 ∧ QrAt g.H qb g.x (bs ++ g.acc) sp ∧ Chg H (WF qb x) g.H (WF qb g.x)) ⟨[], n, 4, H, x⟩ (Wk.slots (by rw [hS]; exact WkL.tail 2 _ rfl (by simp only [List.take_succ_cons, List.take_zero]; repeat' first | exact WkL.nil | refine WkL.cons (Wk1.rfl _) ?_ | refine WkL.cons Wk1.esl ?_ | refine WkL.cons (Wk1.gsl _ _ _) ?_ | refine WkL.cons (Wk1.any _) ?_)))
      ⟨rfl, by show -64 * 128 ^ 4 ≤ n; simp only [Int.reducePow]; omega, by show n < 64 * 128 ^ 4; simp only [Int.reducePow]; omega, by simp, by simpa using h, .rfl'⟩ (fun g hg => ?_)
    obtain ⟨q1, q2, q3, q4, q5, q6⟩ := hg
    have hp4 : (128 : Int) ^ g.f ≤ 128 ^ 4 := by
      rcases (by omega : g.f = 0 ∨ g.f = 1 ∨ g.f = 2 ∨ g.f = 3 ∨ g.f = 4) with e | e | e | e | e <;> rw [e] <;> decide
    have hp5 : (128 : Int) ^ 4 = 268435456 := by decide
    have ht := tmod128 g.m
    have hlq : (bs ++ g.acc).length ≤ 9000000 := by rw [List.length_append]; omega
    have ht1 : -128 < g.m.tmod 128 := Int.lt_tmod_of_pos g.m (by decide)
    have ht2 : g.m.tmod 128 < 128 := Int.tmod_lt_of_pos g.m (by decide)
    have hm1 : -17179869184 ≤ g.m ∧ g.m ≤ 17179869184 := by omega
    have hmm : (g.m % 128 + 128) % 128 = g.m % 128 := by omega
    by_cases hr7 : -64 ≤ g.m ∧ g.m ≤ 63
    · have ec : cmp g.f g.m = [g7 g.m] := by
        cases hf : g.f with
        | zero => rfl
        | succ f => rw [cmp, if_pos hr7]
      rw [ec] at q1
      have hbq := byteQ_c q5 hlq (g.m % 128)
      rw [byteW_g7, List.append_assoc, ← q1] at hbq
      have hm2 : (g.m + 128) % 128 = g.m % 128 := by omega
      obtain ⟨r1, r2⟩ := hr7
      simp (disch := omega) only [hS, c32l0, hm2, DC_w, DC_n, kill_0, Nat.sub_zero, Int.reduceSub, Int.reduceMul, Int.reduceNeg, Int.reduceAdd, ↓rD0, ↓rD1, ↓rD2, ↓rD3, ↓rD4, rU0, rU1, rU2, rU3, rU4, rU5, toNat_n, Int.reduceToNat, slA, ptrsA, boolsA, Int.reducePow, Nat.reducePow, Nat.reduceMul, Int.reduceLT, Int.reduceLE, resA, resL, res1, eq_self, wanted, evK, get, setO, one, faA, loadA, storeA, outA, lenA, isStr, binA, unA, bnd, ints, toDat, toDats, datss, fillA, splice, List.length_nil, List.flatten_nil, Nat.reduceAdd, Nat.reduceLeDiff, Nat.reduceBEq, Nat.reduceSub, if_true, ite_true, cond_true, cond_false, List.replicate, if_false, ite_false, reduceCtorEq]
      refine Cont.rel hbq ?_
      rintro v H' ⟨rfl, x', h1', h2'⟩
      simp (disch := omega) only [DC_w, DC_n, kill_0, Nat.sub_zero, Int.reduceSub, Int.reduceMul, Int.reduceNeg, Int.reduceAdd, ↓rD0, ↓rD1, ↓rD2, ↓rD3, ↓rD4, rU0, rU1, rU2, rU3, rU4, rU5, toNat_n, Int.reduceToNat, slA, ptrsA, boolsA, Int.reducePow, Nat.reducePow, Nat.reduceMul, Int.reduceLT, Int.reduceLE, resA, resL, res1, eq_self, wanted, evK, get, setO, one, faA, loadA, storeA, outA, lenA, isStr, binA, unA, bnd, ints, toDat, toDats, datss, fillA, splice, List.length_nil, List.flatten_nil, Nat.reduceAdd, Nat.reduceLeDiff, Nat.reduceBEq, Nat.reduceSub, if_true, ite_true, cond_true, cond_false, List.replicate, if_false, ite_false, reduceCtorEq]
      exact Ret.keep ⟨rfl, x', h1', q6.trans h2'⟩
    · obtain ⟨f', hf⟩ : ∃ f', g.f = f' + 1 := by
        cases hf : g.f with
        | zero => rw [hf] at q2 q3; simp at q2 q3; exact absurd ⟨q2, by omega⟩ hr7
        | succ f => exact ⟨f, rfl⟩
      rw [hf] at q1 q2 q3 q4
      rw [cmp, if_neg hr7] at q1
      have hp : (0 : Int) < 128 ^ f' := Int.pow_pos (by decide)
      rw [Int.pow_succ] at q2 q3
      have hbq := byteQ_c q5 hlq (g.m % 128 + 128)
      rw [byteW_h7, List.append_assoc] at hbq
      have hdiv : (g.m - g.m % 128).tdiv 128 = g.m / 128 := by
        rw [Int.tdiv_eq_ediv_of_dvd (by omega)]; omega
      have step : ∀ (G : Prop), (g.m < -64 → G) → (¬ g.m < -64 → g.m > 63 → G) → G := fun G a b => by
        by_cases h : g.m < -64
        · exact a h
        · exact b h (by omega)
      refine step _ (fun r1 => ?_) (fun r1 r2 => ?_) <;> (
        simp (disch := omega) only [hS, c32l0, ht, hmm, DC_w, DC_n, kill_0, Nat.sub_zero, Int.reduceSub, Int.reduceMul, Int.reduceNeg, Int.reduceAdd, ↓rD0, ↓rD1, ↓rD2, ↓rD3, ↓rD4, rU0, rU1, rU2, rU3, rU4, rU5, toNat_n, Int.reduceToNat, slA, ptrsA, boolsA, Int.reducePow, Nat.reducePow, Nat.reduceMul, Int.reduceLT, Int.reduceLE, resA, resL, res1, eq_self, wanted, evK, get, setO, one, faA, loadA, storeA, outA, lenA, isStr, binA, unA, bnd, ints, toDat, toDats, datss, fillA, splice, List.length_nil, List.flatten_nil, Nat.reduceAdd, Nat.reduceLeDiff, Nat.reduceBEq, Nat.reduceSub, if_true, ite_true, cond_true, cond_false, List.replicate, if_false, ite_false, reduceCtorEq]
        refine Cont.rel hbq ?_
        rintro v H' ⟨rfl, x', h1', h2'⟩
        simp (disch := omega) only [ht, hmm, hdiv, DC_w, DC_n, kill_0, Nat.sub_zero, Int.reduceSub, Int.reduceMul, Int.reduceNeg, Int.reduceAdd, ↓rD0, ↓rD1, ↓rD2, ↓rD3, ↓rD4, rU0, rU1, rU2, rU3, rU4, rU5, toNat_n, Int.reduceToNat, slA, ptrsA, boolsA, Int.reducePow, Nat.reducePow, Nat.reduceMul, Int.reduceLT, Int.reduceLE, resA, resL, res1, eq_self, wanted, evK, get, setO, one, faA, loadA, storeA, outA, lenA, isStr, binA, unA, bnd, ints, toDat, toDats, datss, fillA, splice, List.length_nil, List.flatten_nil, Nat.reduceAdd, Nat.reduceLeDiff, Nat.reduceBEq, Nat.reduceSub, if_true, ite_true, cond_true, cond_false, List.replicate, if_false, ite_false, reduceCtorEq]
        exact Nxt.mk ⟨g.acc ++ [h7 g.m], g.m / 128, f', H', x'⟩ (by show f' + _ < _; simp only [hf]; (repeat' split) <;> omega) (Wk.slots (by rw [hS]; exact WkL.tail 2 _ rfl (by simp only [List.take_succ_cons, List.take_zero]; repeat' first | exact WkL.nil | refine WkL.cons (Wk1.rfl _) ?_ | refine WkL.cons Wk1.esl ?_ | refine WkL.cons (Wk1.gsl _ _ _) ?_ | refine WkL.cons (Wk1.any _) ?_))) ⟨by rw [q1]; simp, by show -64 * 128 ^ f' ≤ g.m / 128; omega, by show g.m / 128 < 64 * 128 ^ f'; omega, by show (g.acc ++ [h7 g.m]).length + f' ≤ 4; rw [List.length_append]; show g.acc.length + 1 + f' ≤ 4; omega, h1', q6.trans h2'⟩)
  · rw [if_neg hf, if_neg hf]
    simp (disch := omega) only [decide_eq_false hf, hc, DC_w, DC_n, kill_0, Nat.sub_zero, Int.reduceSub, Int.reduceMul, Int.reduceNeg, Int.reduceAdd, ↓rD0, ↓rD1, ↓rD2, ↓rD3, ↓rD4, rU0, rU1, rU2, rU3, rU4, rU5, toNat_n, Int.reduceToNat, slA, ptrsA, boolsA, Int.reducePow, Nat.reducePow, Nat.reduceMul, Int.reduceLT, Int.reduceLE, resA, resL, res1, eq_self, wanted, evK, get, setO, one, faA, loadA, storeA, outA, lenA, isStr, binA, unA, bnd, ints, toDat, toDats, datss, fillA, splice, List.length_nil, List.flatten_nil, Nat.reduceAdd, Nat.reduceLeDiff, Nat.reduceBEq, Nat.reduceSub, if_true, ite_true, cond_true, cond_false, List.replicate, if_false, ite_false, reduceCtorEq]
    refine Ret.keep ⟨rfl, x, ⟨List.getElem?_set_self hwl, ?_, h.ne⟩, by simp, fun b hb hF => getset_ne (fun e => hF (by rw [← e]; simp [WF])), fun b hb => .inl hb⟩
    rcases h.r with h1 | ⟨b, rfl, h2⟩
    · exact .inl h1
    · exact .inr ⟨b, rfl, by rw [getset_ne (fun e => h.ne (by rw [e]; simp [rowB])), h2]⟩
end Go.Proofs.Ytipjjcaflcpplaa
