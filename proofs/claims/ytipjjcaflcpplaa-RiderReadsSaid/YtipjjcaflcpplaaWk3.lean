/- The writer. -/
import Derived.Test.YtipjjcaflcpplaaWk2
namespace Go.Proofs.Ytipjjcaflcpplaa
set_option linter.unusedSimpArgs false
set_option linter.unusedVariables false
set_option maxRecDepth 20000
set_option maxHeartbeats 2000000
open Go.RowKit

/-- A row of bytes that may grow, or nothing yet. -/
def RowB (H : List ABlk) (x : AV) (bs : List UInt8) : Prop := (x = .esl ∧ bs = []) ∨ ∃ b, x = .gsl b 1 (bs.map bd) ∧ H[b]? = some (.row 5 1 bs.length)
def rowB : AV → List Nat
  | .gsl b _ _ => [b]
  | _ => []
/-- A writer's state: its bytes, spoilt, too long. -/
structure Wr where
  bs : List UInt8
  sp : Bool
  tl : Bool
structure WrAt (H : List ABlk) (wb : Nat) (x : AV) (w : Wr) : Prop where
  c : H[wb]? = some (.cells [x, bv w.sp, bv w.tl])
  r : RowB H x w.bs
  ne : wb ∉ rowB x
  ok : w.tl = decide (131072 < w.bs.length)
  len : w.bs.length ≤ 500000
def WF (wb : Nat) (x : AV) : List Nat := wb :: rowB x
structure Chg (H : List ABlk) (F : List Nat) (H' : List ABlk) (F' : List Nat) : Prop where
  len : H.length ≤ H'.length
  out : ∀ b, b < H.length → b ∉ F → H'[b]? = H[b]?
  sub : ∀ b ∈ F', b ∈ F ∨ H.length ≤ b
theorem Chg.rfl' {H : List ABlk} {F : List Nat} : Chg H F H F := ⟨Nat.le_refl _, fun _ _ _ => rfl, fun _ h => .inl h⟩
theorem Chg.trans {H H' H'' : List ABlk} {F F' F'' : List Nat} (h : Chg H F H' F') (k : Chg H' F' H'' F'') : Chg H F H'' F'' :=
  ⟨Nat.le_trans h.len k.len, fun b hb hF => by
    rw [k.out b (Nat.lt_of_lt_of_le hb h.len) (fun hf => by rcases h.sub b hf with h1 | h1; exact hF h1; omega), h.out b hb hF], fun b hb => by
    rcases k.sub b hb with h1 | h1
    · exact h.sub b h1
    · exact .inr (Nat.le_trans h.len h1)⟩
def Ow (G : List ABlk) (F : List Nat) (H : List ABlk) : Prop := G <+: H ∧ ∀ b ∈ F, G.length ≤ b
theorem pre_of {G H : List ABlk} (hl : G.length ≤ H.length) (h : ∀ b, b < G.length → H[b]? = G[b]?) : G <+: H := by
  refine ⟨H.drop G.length, ?_⟩
  apply List.ext_getElem?
  intro i
  by_cases hi : i < G.length
  · rw [List.getElem?_append_left hi, h i hi]
  · rw [List.getElem?_append_right (by omega), List.getElem?_drop]
    congr 1; omega
theorem Ow.chg {G H H' : List ABlk} {F F' : List Nat} (h : Ow G F H) (hc : Chg H F H' F') : Ow G F' H' := by
  have hl := h.1.length_le
  refine ⟨pre_of (Nat.le_trans hl hc.len) fun b hb => ?_, fun b hb => ?_⟩
  · rw [hc.out b (by omega) (fun hF => by have := h.2 b hF; omega)]
    obtain ⟨t, rfl⟩ := h.1
    rw [List.getElem?_append_left hb]
  · rcases hc.sub b hb with h1 | h1
    · exact h.2 b h1
    · omega
theorem WrAt.lt {H : List ABlk} {wb : Nat} {x : AV} {w : Wr} (h : WrAt H wb x w) : ∀ b ∈ WF wb x, b < H.length := fun b hb => by
  simp only [WF, List.mem_cons] at hb
  rcases hb with rfl | hb
  · exact (List.getElem?_eq_some_iff.1 h.c).1
  · rcases h.r with ⟨rfl, _⟩ | ⟨c, rfl, hc⟩
    · simp [rowB] at hb
    · simp [rowB] at hb; subst hb; exact (List.getElem?_eq_some_iff.1 hc).1
theorem WrAt.frame {H H' : List ABlk} {wb : Nat} {x : AV} {w : Wr} (h : WrAt H wb x w) (hH : ∀ b ∈ WF wb x, H'[b]? = H[b]?) : WrAt H' wb x w where
  c := by rw [hH wb (by simp [WF]), h.c]
  r := by
    rcases h.r with h1 | ⟨b, rfl, h2⟩
    · exact .inl h1
    · exact .inr ⟨b, rfl, by rw [hH b (by simp [WF, rowB]), h2]⟩
  ne := h.ne
  ok := h.ok
  len := h.len
def putW (w : Wr) (l : List UInt8) : Wr := if w.tl = true then w else ⟨w.bs ++ l, w.sp, decide (131072 < (w.bs ++ l).length)⟩
theorem write_c (H : List ABlk) : ACalls Try.prog 8 [] H fun v H' => v = .ptr H.length 0 ∧ H' = H ++ [.cells [.esl, bv false, bv false]] := by
  refine ACalls.into Try.func8 cc8 rr8 fun hcl => ?_
  simp (disch := omega) only [Try.ntmps8, c8, r8, DC_w, DC_n, kill_0, Nat.sub_zero, Int.reduceSub, Int.reduceMul, Int.reduceNeg, Int.reduceAdd, ↓rD0, ↓rD1, ↓rD2, ↓rD3, ↓rD4, rU0, rU1, rU2, rU3, rU4, rU5, toNat_n, Int.reduceToNat, slA, ptrsA, boolsA, Int.reducePow, Nat.reducePow, Nat.reduceMul, Int.reduceLT, Int.reduceLE, resA, resL, res1, eq_self, wanted, evK, get, setO, one, faA, loadA, storeA, outA, lenA, isStr, binA, unA, bnd, ints, toDat, toDats, datss, fillA, splice, List.length_nil, List.flatten_nil, Nat.reduceAdd, Nat.reduceLeDiff, Nat.reduceBEq, Nat.reduceSub, if_true, ite_true, cond_true, cond_false, List.replicate, if_false, ite_false, reduceCtorEq]
  exact Ret.keep ⟨rfl, rfl⟩
theorem WrAt.new (H : List ABlk) : WrAt (H ++ [.cells [.esl, bv false, bv false]]) H.length .esl ⟨[], false, false⟩ :=
  ⟨by rw [hg0]; rfl, .inl ⟨rfl, rfl⟩, by simp [rowB], by simp, by simp⟩
theorem str_d (s : ByteArray) : (s.data.toList.map fun b => [AV.d (.v (.int .u8 b.toNat))]) = (s.data.toList.map bd).map (·.map AV.d) := by simp
theorem len_data (s : ByteArray) : s.data.toList.length = s.size := by rw [Array.length_toList]; rfl
/-- What an operation on a writer does. -/
def WOp (H : List ABlk) (wb : Nat) (x : AV) (w' : Wr) (v : AV) (H' : List ABlk) : Prop := v = .tup [] ∧ ∃ x', WrAt H' wb x' w' ∧ Chg H (WF wb x) H' (WF wb x')
theorem put_c {H : List ABlk} {wb : Nat} {x : AV} {w : Wr} (h : WrAt H wb x w) (s : ByteArray) (hs : s.size ≤ 300000) : ACalls Try.prog 29 [.ptr wb 0, sv s] H (WOp H wb x (putW w s.data.toList)) := by
  refine ACalls.into Try.func29 cc29 rr29 fun hcl => ?_
  have hw := h.c
  have hsz := len_data s
  obtain ⟨bs, sp, tl⟩ := w
  simp only at hw
  cases tl with
  | true =>
    simp (disch := omega) only [Try.ntmps29, c29, r29, hw, DC_w, DC_n, kill_0, Nat.sub_zero, Int.reduceSub, Int.reduceMul, Int.reduceNeg, Int.reduceAdd, ↓rD0, ↓rD1, ↓rD2, ↓rD3, ↓rD4, rU0, rU1, rU2, rU3, rU4, rU5, toNat_n, Int.reduceToNat, slA, ptrsA, boolsA, Int.reducePow, Nat.reducePow, Nat.reduceMul, Int.reduceLT, Int.reduceLE, resA, resL, res1, eq_self, wanted, evK, get, setO, one, faA, loadA, storeA, outA, lenA, isStr, binA, unA, bnd, ints, toDat, toDats, datss, fillA, splice, List.length_nil, List.flatten_nil, Nat.reduceAdd, Nat.reduceLeDiff, Nat.reduceBEq, Nat.reduceSub, if_true, ite_true, cond_true, cond_false, List.replicate, if_false, ite_false, reduceCtorEq]
    exact Ret.keep ⟨rfl, x, by rw [putW, if_pos rfl]; exact h, .rfl'⟩
  | false =>
    have hlen : bs.length ≤ 131072 := by
      have := h.ok
      simp only at this
      have := of_decide_eq_false this.symm
      omega
    have hp : putW ⟨bs, sp, false⟩ s.data.toList = ⟨bs ++ s.data.toList, sp, decide (131072 < (bs ++ s.data.toList).length)⟩ := by rw [putW, if_neg (by simp)]
    have hl : (bs ++ s.data.toList).length = bs.length + s.size := by rw [List.length_append, hsz]
    have hda : datss ((s.data.toList.map bd).map (·.map AV.d)) = some (s.data.toList.map bd) := datss_map_d _
    have hlm : (s.data.toList.map bd).length = s.size := by rw [List.length_map, hsz]
    have hwl := (List.getElem?_eq_some_iff.1 hw).1
    have hdec : decide (((bs.length : Int) + (s.size : Int)) > 131072) = decide (131072 < (bs ++ s.data.toList).length) := decide_eq_decide.2 (by rw [hl]; omega)
    rw [hp]
    rcases h.r with ⟨rfl, hb0⟩ | ⟨b, rfl, hb⟩
    · simp only at hb0
      subst hb0
      have hW : ∀ l, (H ++ l)[wb]? = some (.cells [.esl, bv sp, bv false]) := fun l => hold hw l
      have hS : ∀ l y, ((H ++ l).set wb y)[wb]? = some y := fun l y => List.getElem?_set_self (by simp; omega)
      simp (disch := omega) only [Try.ntmps29, c29, r29, hw, elems_s, str_d, hda, hlm, hW, hS, List.set_set, DC_w, DC_n, kill_0, Nat.sub_zero, Int.reduceSub, Int.reduceMul, Int.reduceNeg, Int.reduceAdd, ↓rD0, ↓rD1, ↓rD2, ↓rD3, ↓rD4, rU0, rU1, rU2, rU3, rU4, rU5, toNat_n, Int.reduceToNat, slA, ptrsA, boolsA, Int.reducePow, Nat.reducePow, Nat.reduceMul, Int.reduceLT, Int.reduceLE, resA, resL, res1, eq_self, wanted, evK, get, setO, one, faA, loadA, storeA, outA, lenA, isStr, binA, unA, bnd, ints, toDat, toDats, datss, fillA, splice, List.length_nil, List.flatten_nil, Nat.reduceAdd, Nat.reduceLeDiff, Nat.reduceBEq, Nat.reduceSub, if_true, ite_true, cond_true, cond_false, List.replicate, if_false, ite_false, reduceCtorEq]
      have hd1 : decide ((131072 : Int) < (s.size : Int)) = decide (131072 < s.data.toList.length) := decide_eq_decide.2 (by omega)
      rw [hd1]
      refine Ret.keep ⟨rfl, .gsl H.length 1 (s.data.toList.map bd), ⟨hS _ _, .inr ⟨H.length, rfl, ?_⟩, ?_, rfl, ?_⟩, ?_, fun c hc hF => ?_, fun c hc => ?_⟩
      · rw [getset_ne (by omega), hg0]; simp [hsz]
      · simp [rowB]; omega
      · show s.data.toList.length ≤ 500000; omega
      · simp
      · rw [getset_ne (fun e => hF (by rw [← e]; simp [WF])), List.getElem?_append_left hc]
      · simp only [WF, rowB, List.mem_cons, List.not_mem_nil, or_false] at hc ⊢
        rcases hc with hc | hc
        · exact .inl hc
        · exact .inr (by omega)
    · have hne : b ≠ wb := fun e => h.ne (by rw [← e]; simp [rowB])
      simp only at hb
      have hW : ∀ y, (H.set b y)[wb]? = some (.cells [.gsl b 1 (bs.map bd), bv sp, bv false]) := fun y => by rw [getset_ne hne, hw]
      have hS : ∀ y z, ((H.set b y).set wb z)[wb]? = some z := fun y z => List.getElem?_set_self (by simp; omega)
      have hlb : (bs.map bd).length = bs.length := List.length_map ..
      have h1 : (bs.length + s.size) * 1 ≤ 140737488355328 := by omega
      simp (disch := omega) only [Try.ntmps29, c29, r29, hw, elems_s, str_d, hda, hlm, hlb, hb, hW, hS, List.set_set, DC_w, DC_n, kill_0, Nat.sub_zero, Int.reduceSub, Int.reduceMul, Int.reduceNeg, Int.reduceAdd, ↓rD0, ↓rD1, ↓rD2, ↓rD3, ↓rD4, rU0, rU1, rU2, rU3, rU4, rU5, toNat_n, Int.reduceToNat, slA, ptrsA, boolsA, Int.reducePow, Nat.reducePow, Nat.reduceMul, Int.reduceLT, Int.reduceLE, resA, resL, res1, eq_self, wanted, evK, get, setO, one, faA, loadA, storeA, outA, lenA, isStr, binA, unA, bnd, ints, toDat, toDats, datss, fillA, splice, List.length_nil, List.flatten_nil, Nat.reduceAdd, Nat.reduceLeDiff, Nat.reduceBEq, Nat.reduceSub, if_true, ite_true, cond_true, cond_false, List.replicate, if_false, ite_false, reduceCtorEq]
      have hd1 : decide ((131072 : Int) < ((bs.length + s.size : Nat) : Int)) = decide (131072 < bs.length + s.data.toList.length) := decide_eq_decide.2 (by omega)
      rw [hd1, ← List.map_append]
      have hbl := (List.getElem?_eq_some_iff.1 hb).1
      refine Ret.keep ⟨rfl, .gsl b 1 ((bs ++ s.data.toList).map bd), ⟨hS _ _, .inr ⟨b, rfl, ?_⟩, ?_, ?_, ?_⟩, ?_, fun c hc hF => ?_, fun c hc => .inl hc⟩
      · rw [getset_ne (Ne.symm hne), List.getElem?_set_self hbl]; simp [hsz]
      · simp [rowB]; omega
      · show decide (131072 < bs.length + s.data.toList.length) = decide (131072 < (bs ++ s.data.toList).length)
        rw [List.length_append]
      · show (bs ++ s.data.toList).length ≤ 500000; rw [hl]; omega
      · simp
      · simp only [WF, rowB, List.mem_cons, List.not_mem_nil, or_false, not_or] at hF
        rw [getset_ne (Ne.symm hF.1), getset_ne (Ne.symm hF.2)]
theorem spoil_c {H : List ABlk} {wb : Nat} {x : AV} {w : Wr} (h : WrAt H wb x w) : ACalls Try.prog 28 [.ptr wb 0] H (WOp H wb x ⟨w.bs, true, w.tl⟩) := by
  refine ACalls.into Try.func28 cc28 rr28 fun hcl => ?_
  have hwl := (List.getElem?_eq_some_iff.1 h.c).1
  simp (disch := omega) only [Try.ntmps28, c28, r28, h.c, DC_w, DC_n, kill_0, Nat.sub_zero, Int.reduceSub, Int.reduceMul, Int.reduceNeg, Int.reduceAdd, ↓rD0, ↓rD1, ↓rD2, ↓rD3, ↓rD4, rU0, rU1, rU2, rU3, rU4, rU5, toNat_n, Int.reduceToNat, slA, ptrsA, boolsA, Int.reducePow, Nat.reducePow, Nat.reduceMul, Int.reduceLT, Int.reduceLE, resA, resL, res1, eq_self, wanted, evK, get, setO, one, faA, loadA, storeA, outA, lenA, isStr, binA, unA, bnd, ints, toDat, toDats, datss, fillA, splice, List.length_nil, List.flatten_nil, Nat.reduceAdd, Nat.reduceLeDiff, Nat.reduceBEq, Nat.reduceSub, if_true, ite_true, cond_true, cond_false, List.replicate, if_false, ite_false, reduceCtorEq]
  refine Ret.keep ⟨rfl, x, ⟨List.getElem?_set_self hwl, ?_, h.ne, h.ok, h.len⟩, by simp, fun b hb hF => getset_ne (fun e => hF (by rw [← e]; simp [WF])), fun b hb => .inl hb⟩
  rcases h.r with h1 | ⟨b, rfl, h2⟩
  · exact .inl h1
  · exact .inr ⟨b, rfl, by rw [getset_ne (fun e => h.ne (by rw [e]; simp [rowB])), h2]⟩
theorem str_of (l : List UInt8) : (⟨l.toArray⟩ : ByteArray).data.toList = l := rfl
def byteW (n : Int) : List UInt8 := [UInt8.ofNat (n % 256).toNat]
theorem u8of {n : Int} (h0 : 0 ≤ n) (h1 : n < 256) : ((UInt8.ofNat n.toNat).toNat : Int) = n := by rw [u8n (by omega)]; omega
theorem byteW_c {H : List ABlk} {wb : Nat} {x : AV} {w : Wr} (h : WrAt H wb x w) (n : Int) : ACalls Try.prog 24 [.ptr wb 0, iv n] H (WOp H wb x (putW w (byteW n))) := by
  refine ACalls.into Try.func24 cc24 rr24 fun hcl => ?_
  simp (disch := omega) only [Try.ntmps24, c24, r24, bytesOf, DC_w, DC_n, kill_0, Nat.sub_zero, Int.reduceSub, Int.reduceMul, Int.reduceNeg, Int.reduceAdd, ↓rD0, ↓rD1, ↓rD2, ↓rD3, ↓rD4, rU0, rU1, rU2, rU3, rU4, rU5, toNat_n, Int.reduceToNat, slA, ptrsA, boolsA, Int.reducePow, Nat.reducePow, Nat.reduceMul, Int.reduceLT, Int.reduceLE, resA, resL, res1, eq_self, wanted, evK, get, setO, one, faA, loadA, storeA, outA, lenA, isStr, binA, unA, bnd, ints, toDat, toDats, datss, fillA, splice, List.length_nil, List.flatten_nil, Nat.reduceAdd, Nat.reduceLeDiff, Nat.reduceBEq, Nat.reduceSub, if_true, ite_true, cond_true, cond_false, List.replicate, if_false, ite_false, reduceCtorEq]
  refine Cont.rel (put_c h _ (by show (1 : Nat) ≤ 300000; omega)) ?_
  rintro v H' ⟨rfl, x', h1, h2⟩
  simp (disch := omega) only [DC_w, DC_n, kill_0, Nat.sub_zero, Int.reduceSub, Int.reduceMul, Int.reduceNeg, Int.reduceAdd, ↓rD0, ↓rD1, ↓rD2, ↓rD3, ↓rD4, rU0, rU1, rU2, rU3, rU4, rU5, toNat_n, Int.reduceToNat, slA, ptrsA, boolsA, Int.reducePow, Nat.reducePow, Nat.reduceMul, Int.reduceLT, Int.reduceLE, resA, resL, res1, eq_self, wanted, evK, get, setO, one, faA, loadA, storeA, outA, lenA, isStr, binA, unA, bnd, ints, toDat, toDats, datss, fillA, splice, List.length_nil, List.flatten_nil, Nat.reduceAdd, Nat.reduceLeDiff, Nat.reduceBEq, Nat.reduceSub, if_true, ite_true, cond_true, cond_false, List.replicate, if_false, ite_false, reduceCtorEq]
  exact Ret.keep ⟨rfl, x', h1, h2⟩
def numW (w : Wr) (n : Int) : Wr := if fit32 n then putW w (comp7 n) else ⟨w.bs, true, w.tl⟩
theorem numW_c {H : List ABlk} {wb : Nat} {x : AV} {w : Wr} (h : WrAt H wb x w) (n : Int) : ACalls Try.prog 9 [.ptr wb 0, iv n] H (WOp H wb x (numW w n)) := by
  refine ACalls.into Try.func9 cc9 rr9 fun hcl => ?_
  simp (disch := omega) only [Try.ntmps9, c9, r9, DC_w, DC_n, kill_0, Nat.sub_zero, Int.reduceSub, Int.reduceMul, Int.reduceNeg, Int.reduceAdd, ↓rD0, ↓rD1, ↓rD2, ↓rD3, ↓rD4, rU0, rU1, rU2, rU3, rU4, rU5, toNat_n, Int.reduceToNat, slA, ptrsA, boolsA, Int.reducePow, Nat.reducePow, Nat.reduceMul, Int.reduceLT, Int.reduceLE, resA, resL, res1, eq_self, wanted, evK, get, setO, one, faA, loadA, storeA, outA, lenA, isStr, binA, unA, bnd, ints, toDat, toDats, datss, fillA, splice, List.length_nil, List.flatten_nil, Nat.reduceAdd, Nat.reduceLeDiff, Nat.reduceBEq, Nat.reduceSub, if_true, ite_true, cond_true, cond_false, List.replicate, if_false, ite_false, reduceCtorEq]
  refine Cont.mk (fits32_c n H) ?_
  by_cases hf : fit32 n
  · simp (disch := omega) only [decide_eq_true hf, DC_w, DC_n, kill_0, Nat.sub_zero, Int.reduceSub, Int.reduceMul, Int.reduceNeg, Int.reduceAdd, ↓rD0, ↓rD1, ↓rD2, ↓rD3, ↓rD4, rU0, rU1, rU2, rU3, rU4, rU5, toNat_n, Int.reduceToNat, slA, ptrsA, boolsA, Int.reducePow, Nat.reducePow, Nat.reduceMul, Int.reduceLT, Int.reduceLE, resA, resL, res1, eq_self, wanted, evK, get, setO, one, faA, loadA, storeA, outA, lenA, isStr, binA, unA, bnd, ints, toDat, toDats, datss, fillA, splice, List.length_nil, List.flatten_nil, Nat.reduceAdd, Nat.reduceLeDiff, Nat.reduceBEq, Nat.reduceSub, if_true, ite_true, cond_true, cond_false, List.replicate, if_false, ite_false, reduceCtorEq]
    refine Cont.mk (compact_c n hf H) ?_
    simp (disch := omega) only [DC_w, DC_n, kill_0, Nat.sub_zero, Int.reduceSub, Int.reduceMul, Int.reduceNeg, Int.reduceAdd, ↓rD0, ↓rD1, ↓rD2, ↓rD3, ↓rD4, rU0, rU1, rU2, rU3, rU4, rU5, toNat_n, Int.reduceToNat, slA, ptrsA, boolsA, Int.reducePow, Nat.reducePow, Nat.reduceMul, Int.reduceLT, Int.reduceLE, resA, resL, res1, eq_self, wanted, evK, get, setO, one, faA, loadA, storeA, outA, lenA, isStr, binA, unA, bnd, ints, toDat, toDats, datss, fillA, splice, List.length_nil, List.flatten_nil, Nat.reduceAdd, Nat.reduceLeDiff, Nat.reduceBEq, Nat.reduceSub, if_true, ite_true, cond_true, cond_false, List.replicate, if_false, ite_false, reduceCtorEq]
    refine Cont.rel (put_c h _ (by have := comp7_le n; show (comp7 n).toArray.size ≤ 300000; simp; omega)) ?_
    rintro v H' ⟨rfl, x', h1, h2⟩
    simp (disch := omega) only [DC_w, DC_n, kill_0, Nat.sub_zero, Int.reduceSub, Int.reduceMul, Int.reduceNeg, Int.reduceAdd, ↓rD0, ↓rD1, ↓rD2, ↓rD3, ↓rD4, rU0, rU1, rU2, rU3, rU4, rU5, toNat_n, Int.reduceToNat, slA, ptrsA, boolsA, Int.reducePow, Nat.reducePow, Nat.reduceMul, Int.reduceLT, Int.reduceLE, resA, resL, res1, eq_self, wanted, evK, get, setO, one, faA, loadA, storeA, outA, lenA, isStr, binA, unA, bnd, ints, toDat, toDats, datss, fillA, splice, List.length_nil, List.flatten_nil, Nat.reduceAdd, Nat.reduceLeDiff, Nat.reduceBEq, Nat.reduceSub, if_true, ite_true, cond_true, cond_false, List.replicate, if_false, ite_false, reduceCtorEq]
    exact Ret.keep ⟨rfl, x', by rw [numW, if_pos hf]; exact h1, h2⟩
  · simp (disch := omega) only [decide_eq_false hf, DC_w, DC_n, kill_0, Nat.sub_zero, Int.reduceSub, Int.reduceMul, Int.reduceNeg, Int.reduceAdd, ↓rD0, ↓rD1, ↓rD2, ↓rD3, ↓rD4, rU0, rU1, rU2, rU3, rU4, rU5, toNat_n, Int.reduceToNat, slA, ptrsA, boolsA, Int.reducePow, Nat.reducePow, Nat.reduceMul, Int.reduceLT, Int.reduceLE, resA, resL, res1, eq_self, wanted, evK, get, setO, one, faA, loadA, storeA, outA, lenA, isStr, binA, unA, bnd, ints, toDat, toDats, datss, fillA, splice, List.length_nil, List.flatten_nil, Nat.reduceAdd, Nat.reduceLeDiff, Nat.reduceBEq, Nat.reduceSub, if_true, ite_true, cond_true, cond_false, List.replicate, if_false, ite_false, reduceCtorEq]
    refine Cont.rel (spoil_c h) ?_
    rintro v H' ⟨rfl, x', h1, h2⟩
    simp (disch := omega) only [DC_w, DC_n, kill_0, Nat.sub_zero, Int.reduceSub, Int.reduceMul, Int.reduceNeg, Int.reduceAdd, ↓rD0, ↓rD1, ↓rD2, ↓rD3, ↓rD4, rU0, rU1, rU2, rU3, rU4, rU5, toNat_n, Int.reduceToNat, slA, ptrsA, boolsA, Int.reducePow, Nat.reducePow, Nat.reduceMul, Int.reduceLT, Int.reduceLE, resA, resL, res1, eq_self, wanted, evK, get, setO, one, faA, loadA, storeA, outA, lenA, isStr, binA, unA, bnd, ints, toDat, toDats, datss, fillA, splice, List.length_nil, List.flatten_nil, Nat.reduceAdd, Nat.reduceLeDiff, Nat.reduceBEq, Nat.reduceSub, if_true, ite_true, cond_true, cond_false, List.replicate, if_false, ite_false, reduceCtorEq]
    exact Ret.keep ⟨rfl, x', by rw [numW, if_neg hf]; exact h1, h2⟩
theorem idxB_pos {l : List UInt8} {c : UInt8} : 0 ≤ idxB l c ↔ c ∈ l := by
  induction l with
  | nil => simp [idxB]
  | cons b l ih =>
    unfold idxB
    split
    · rename_i h; simp at h; simp [h]
    · rename_i h
      have hne : c ≠ b := fun e => h (by simp [e])
      split
      · rename_i h2
        have hn : c ∉ l := fun e => by have := ih.2 e; simp at h2; omega
        simp [hne, hn]
      · rename_i h2
        simp at h2
        have : -1 ≤ idxB l c := by
          clear ih h2 h hne
          induction l with
          | nil => simp [idxB]
          | cons b l ih =>
            unfold idxB
            split
            · omega
            · split
              · omega
              · omega
        simp only [List.mem_cons, hne, false_or, ← ih]
        omega
def textOk (s : ByteArray) : Prop := s.size ≤ 64 ∧ (0 : UInt8) ∉ s.data.toList
open Classical in
noncomputable def textW (w : Wr) (s : ByteArray) : Wr := if textOk s then putW w (s.data.toList ++ [0]) else ⟨w.bs, true, w.tl⟩
theorem app_data (s t : ByteArray) : (s ++ t).data.toList = s.data.toList ++ t.data.toList := ByteArray.toList_data_append
theorem app_size (s t : ByteArray) : (s ++ t).size = s.size + t.size := ByteArray.size_append
theorem textW_c {H : List ABlk} {wb : Nat} {x : AV} {w : Wr} (h : WrAt H wb x w) (s : ByteArray) : ACalls Try.prog 26 [.ptr wb 0, sv s] H (WOp H wb x (textW w s)) := by
  refine ACalls.into Try.func26 cc26 rr26 fun hcl => ?_
  by_cases h1 : 64 < s.size
  · simp (disch := omega) only [Try.ntmps26, c26, r26, DC_w, DC_n, kill_0, Nat.sub_zero, Int.reduceSub, Int.reduceMul, Int.reduceNeg, Int.reduceAdd, ↓rD0, ↓rD1, ↓rD2, ↓rD3, ↓rD4, rU0, rU1, rU2, rU3, rU4, rU5, toNat_n, Int.reduceToNat, slA, ptrsA, boolsA, Int.reducePow, Nat.reducePow, Nat.reduceMul, Int.reduceLT, Int.reduceLE, resA, resL, res1, eq_self, wanted, evK, get, setO, one, faA, loadA, storeA, outA, lenA, isStr, binA, unA, bnd, ints, toDat, toDats, datss, fillA, splice, List.length_nil, List.flatten_nil, Nat.reduceAdd, Nat.reduceLeDiff, Nat.reduceBEq, Nat.reduceSub, if_true, ite_true, cond_true, cond_false, List.replicate, if_false, ite_false, reduceCtorEq]
    refine Cont.rel (spoil_c h) ?_
    rintro v H' ⟨rfl, x', h1', h2⟩
    simp (disch := omega) only [DC_w, DC_n, kill_0, Nat.sub_zero, Int.reduceSub, Int.reduceMul, Int.reduceNeg, Int.reduceAdd, ↓rD0, ↓rD1, ↓rD2, ↓rD3, ↓rD4, rU0, rU1, rU2, rU3, rU4, rU5, toNat_n, Int.reduceToNat, slA, ptrsA, boolsA, Int.reducePow, Nat.reducePow, Nat.reduceMul, Int.reduceLT, Int.reduceLE, resA, resL, res1, eq_self, wanted, evK, get, setO, one, faA, loadA, storeA, outA, lenA, isStr, binA, unA, bnd, ints, toDat, toDats, datss, fillA, splice, List.length_nil, List.flatten_nil, Nat.reduceAdd, Nat.reduceLeDiff, Nat.reduceBEq, Nat.reduceSub, if_true, ite_true, cond_true, cond_false, List.replicate, if_false, ite_false, reduceCtorEq]
    exact Ret.keep ⟨rfl, x', by rw [textW, if_neg (fun e => by have := e.1; omega)]; exact h1', h2⟩
  simp (disch := omega) only [Try.ntmps26, c26, r26, DC_w, DC_n, kill_0, Nat.sub_zero, Int.reduceSub, Int.reduceMul, Int.reduceNeg, Int.reduceAdd, ↓rD0, ↓rD1, ↓rD2, ↓rD3, ↓rD4, rU0, rU1, rU2, rU3, rU4, rU5, toNat_n, Int.reduceToNat, slA, ptrsA, boolsA, Int.reducePow, Nat.reducePow, Nat.reduceMul, Int.reduceLT, Int.reduceLE, resA, resL, res1, eq_self, wanted, evK, get, setO, one, faA, loadA, storeA, outA, lenA, isStr, binA, unA, bnd, ints, toDat, toDats, datss, fillA, splice, List.length_nil, List.flatten_nil, Nat.reduceAdd, Nat.reduceLeDiff, Nat.reduceBEq, Nat.reduceSub, if_true, ite_true, cond_true, cond_false, List.replicate, if_false, ite_false, reduceCtorEq]
  refine Cont.mk (indexB_c s 0 H) ?_
  have e0 : UInt8.ofNat (0 : Int).toNat = 0 := rfl
  rw [e0]
  by_cases h2 : 0 ≤ idxB s.data.toList 0
  · simp (disch := omega) only [DC_w, DC_n, kill_0, Nat.sub_zero, Int.reduceSub, Int.reduceMul, Int.reduceNeg, Int.reduceAdd, ↓rD0, ↓rD1, ↓rD2, ↓rD3, ↓rD4, rU0, rU1, rU2, rU3, rU4, rU5, toNat_n, Int.reduceToNat, slA, ptrsA, boolsA, Int.reducePow, Nat.reducePow, Nat.reduceMul, Int.reduceLT, Int.reduceLE, resA, resL, res1, eq_self, wanted, evK, get, setO, one, faA, loadA, storeA, outA, lenA, isStr, binA, unA, bnd, ints, toDat, toDats, datss, fillA, splice, List.length_nil, List.flatten_nil, Nat.reduceAdd, Nat.reduceLeDiff, Nat.reduceBEq, Nat.reduceSub, if_true, ite_true, cond_true, cond_false, List.replicate, if_false, ite_false, reduceCtorEq]
    refine Cont.rel (spoil_c h) ?_
    rintro v H' ⟨rfl, x', h1', h2'⟩
    simp (disch := omega) only [DC_w, DC_n, kill_0, Nat.sub_zero, Int.reduceSub, Int.reduceMul, Int.reduceNeg, Int.reduceAdd, ↓rD0, ↓rD1, ↓rD2, ↓rD3, ↓rD4, rU0, rU1, rU2, rU3, rU4, rU5, toNat_n, Int.reduceToNat, slA, ptrsA, boolsA, Int.reducePow, Nat.reducePow, Nat.reduceMul, Int.reduceLT, Int.reduceLE, resA, resL, res1, eq_self, wanted, evK, get, setO, one, faA, loadA, storeA, outA, lenA, isStr, binA, unA, bnd, ints, toDat, toDats, datss, fillA, splice, List.length_nil, List.flatten_nil, Nat.reduceAdd, Nat.reduceLeDiff, Nat.reduceBEq, Nat.reduceSub, if_true, ite_true, cond_true, cond_false, List.replicate, if_false, ite_false, reduceCtorEq]
    exact Ret.keep ⟨rfl, x', by rw [textW, if_neg (fun e => e.2 (idxB_pos.1 h2))]; exact h1', h2'⟩
  · have hz : (⟨#[0]⟩ : ByteArray).size = 1 := rfl
    have hlt : ¬ ((s.size : Int) + 1 > IntKind.i64.max) := by
      have : IntKind.i64.max = 9223372036854775807 := by decide
      omega
    simp (disch := omega) only [hz, hlt, DC_w, DC_n, kill_0, Nat.sub_zero, Int.reduceSub, Int.reduceMul, Int.reduceNeg, Int.reduceAdd, ↓rD0, ↓rD1, ↓rD2, ↓rD3, ↓rD4, rU0, rU1, rU2, rU3, rU4, rU5, toNat_n, Int.reduceToNat, slA, ptrsA, boolsA, Int.reducePow, Nat.reducePow, Nat.reduceMul, Int.reduceLT, Int.reduceLE, resA, resL, res1, eq_self, wanted, evK, get, setO, one, faA, loadA, storeA, outA, lenA, isStr, binA, unA, bnd, ints, toDat, toDats, datss, fillA, splice, List.length_nil, List.flatten_nil, Nat.reduceAdd, Nat.reduceLeDiff, Nat.reduceBEq, Nat.reduceSub, if_true, ite_true, cond_true, cond_false, List.replicate, if_false, ite_false, reduceCtorEq]
    refine Cont.rel (put_c h (s ++ ⟨#[0]⟩) (by rw [app_size, hz]; omega)) ?_
    rintro v H' ⟨rfl, x', h1', h2'⟩
    simp (disch := omega) only [DC_w, DC_n, kill_0, Nat.sub_zero, Int.reduceSub, Int.reduceMul, Int.reduceNeg, Int.reduceAdd, ↓rD0, ↓rD1, ↓rD2, ↓rD3, ↓rD4, rU0, rU1, rU2, rU3, rU4, rU5, toNat_n, Int.reduceToNat, slA, ptrsA, boolsA, Int.reducePow, Nat.reducePow, Nat.reduceMul, Int.reduceLT, Int.reduceLE, resA, resL, res1, eq_self, wanted, evK, get, setO, one, faA, loadA, storeA, outA, lenA, isStr, binA, unA, bnd, ints, toDat, toDats, datss, fillA, splice, List.length_nil, List.flatten_nil, Nat.reduceAdd, Nat.reduceLeDiff, Nat.reduceBEq, Nat.reduceSub, if_true, ite_true, cond_true, cond_false, List.replicate, if_false, ite_false, reduceCtorEq]
    refine Ret.keep ⟨rfl, x', ?_, h2'⟩
    rw [textW, if_pos ⟨by omega, fun e => h2 (idxB_pos.2 e)⟩]
    rw [app_data] at h1'
    exact h1'
theorem bytesW_c {H : List ABlk} {wb : Nat} {x : AV} {w : Wr} (h : WrAt H wb x w) : ACalls Try.prog 10 [.ptr wb 0] H fun v H' => v = .tup (if w.sp = true then [sv nl, iv 1] else if w.tl = true then [sv nl, iv 2] else [sv ⟨w.bs.toArray⟩, iv 0]) ∧ H' = H := by
  refine ACalls.into Try.func10 cc10 rr10 fun hcl => ?_
  have hw := h.c
  cases e1 : w.sp with
  | true =>
    rw [e1] at hw
    simp (disch := omega) only [Try.ntmps10, c10, r10, hw, DC_w, DC_n, kill_0, Nat.sub_zero, Int.reduceSub, Int.reduceMul, Int.reduceNeg, Int.reduceAdd, ↓rD0, ↓rD1, ↓rD2, ↓rD3, ↓rD4, rU0, rU1, rU2, rU3, rU4, rU5, toNat_n, Int.reduceToNat, slA, ptrsA, boolsA, Int.reducePow, Nat.reducePow, Nat.reduceMul, Int.reduceLT, Int.reduceLE, resA, resL, res1, eq_self, wanted, evK, get, setO, one, faA, loadA, storeA, outA, lenA, isStr, binA, unA, bnd, ints, toDat, toDats, datss, fillA, splice, List.length_nil, List.flatten_nil, Nat.reduceAdd, Nat.reduceLeDiff, Nat.reduceBEq, Nat.reduceSub, if_true, ite_true, cond_true, cond_false, List.replicate, if_false, ite_false, reduceCtorEq]
    exact Ret.keep ⟨rfl, rfl⟩
  | false =>
    rw [e1] at hw
    cases e2 : w.tl with
    | true =>
      rw [e2] at hw
      simp (disch := omega) only [Try.ntmps10, c10, r10, hw, DC_w, DC_n, kill_0, Nat.sub_zero, Int.reduceSub, Int.reduceMul, Int.reduceNeg, Int.reduceAdd, ↓rD0, ↓rD1, ↓rD2, ↓rD3, ↓rD4, rU0, rU1, rU2, rU3, rU4, rU5, toNat_n, Int.reduceToNat, slA, ptrsA, boolsA, Int.reducePow, Nat.reducePow, Nat.reduceMul, Int.reduceLT, Int.reduceLE, resA, resL, res1, eq_self, wanted, evK, get, setO, one, faA, loadA, storeA, outA, lenA, isStr, binA, unA, bnd, ints, toDat, toDats, datss, fillA, splice, List.length_nil, List.flatten_nil, Nat.reduceAdd, Nat.reduceLeDiff, Nat.reduceBEq, Nat.reduceSub, if_true, ite_true, cond_true, cond_false, List.replicate, if_false, ite_false, reduceCtorEq]
      exact Ret.keep ⟨rfl, rfl⟩
    | false =>
      rw [e2] at hw
      rcases h.r with ⟨rfl, hb0⟩ | ⟨b, rfl, hb⟩
      · simp (disch := omega) only [Try.ntmps10, c10, r10, hw, elems_e, bytesOf, DC_w, DC_n, kill_0, Nat.sub_zero, Int.reduceSub, Int.reduceMul, Int.reduceNeg, Int.reduceAdd, ↓rD0, ↓rD1, ↓rD2, ↓rD3, ↓rD4, rU0, rU1, rU2, rU3, rU4, rU5, toNat_n, Int.reduceToNat, slA, ptrsA, boolsA, Int.reducePow, Nat.reducePow, Nat.reduceMul, Int.reduceLT, Int.reduceLE, resA, resL, res1, eq_self, wanted, evK, get, setO, one, faA, loadA, storeA, outA, lenA, isStr, binA, unA, bnd, ints, toDat, toDats, datss, fillA, splice, List.length_nil, List.flatten_nil, Nat.reduceAdd, Nat.reduceLeDiff, Nat.reduceBEq, Nat.reduceSub, if_true, ite_true, cond_true, cond_false, List.replicate, if_false, ite_false, reduceCtorEq]
        exact Ret.keep ⟨by rw [hb0], rfl⟩
      · simp (disch := omega) only [Try.ntmps10, c10, r10, hw, elems_g, bytesOf_bd, DC_w, DC_n, kill_0, Nat.sub_zero, Int.reduceSub, Int.reduceMul, Int.reduceNeg, Int.reduceAdd, ↓rD0, ↓rD1, ↓rD2, ↓rD3, ↓rD4, rU0, rU1, rU2, rU3, rU4, rU5, toNat_n, Int.reduceToNat, slA, ptrsA, boolsA, Int.reducePow, Nat.reducePow, Nat.reduceMul, Int.reduceLT, Int.reduceLE, resA, resL, res1, eq_self, wanted, evK, get, setO, one, faA, loadA, storeA, outA, lenA, isStr, binA, unA, bnd, ints, toDat, toDats, datss, fillA, splice, List.length_nil, List.flatten_nil, Nat.reduceAdd, Nat.reduceLeDiff, Nat.reduceBEq, Nat.reduceSub, if_true, ite_true, cond_true, cond_false, List.replicate, if_false, ite_false, reduceCtorEq]
        exact Ret.keep ⟨rfl, rfl⟩
end Go.Proofs.Ytipjjcaflcpplaa
