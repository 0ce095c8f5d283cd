/- The writer's words. -/
import Derived.Test.YtipjjcaflcpplaaWk7
namespace Go.Proofs.Ytipjjcaflcpplaa
set_option linter.unusedSimpArgs false
set_option linter.unusedVariables false
set_option maxRecDepth 20000
set_option maxHeartbeats 2000000
open Go.RowKit

def wB (x : Int) (j : Nat) : UInt8 := UInt8.ofNat (x / 256 ^ j % 256).toNat
def wordB (x : Int) : List UInt8 := [wB x 0, wB x 1, wB x 2, wB x 3]
theorem wBn (x : Int) (j : Nat) : ((wB x j).toNat : Int) = x / 256 ^ j % 256 := by rw [wB, u8of (by omega) (by omega)]
def wcs (x : Int) (i : Nat) : List AV := (List.range 4).map fun j => if j < i then cv (wB x j).toNat else cv 0
theorem WrAt.ext {H : List ABlk} {wb : Nat} {x : AV} {w : Wr} (h : WrAt H wb x w) (l : List ABlk) : WrAt (H ++ l) wb x w := h.frame fun b hb => List.getElem?_append_left (h.lt b hb)
theorem Chg.app {H : List ABlk} {F : List Nat} (l : List ABlk) : Chg H F (H ++ l) F := ⟨by simp, fun b hb _ => List.getElem?_append_left hb, fun _ h => .inl h⟩
theorem wordW_c {H : List ABlk} {wb : Nat} {x : AV} {w : Wr} (h : WrAt H wb x w) (n : Int) (h0 : 0 ≤ n) (h1 : n < 4294967296) : ACalls Try.prog 25 [.ptr wb 0, wv n] H (WOp H wb x (putW w (wordB n))) := by
  refine ACalls.into Try.func25 cc25 rr25 fun hcl => ?_
  simp (disch := omega) only [Try.ntmps25, c25, r25, DC_w, DC_n, kill_0, Nat.sub_zero, Int.reduceSub, Int.reduceMul, Int.reduceNeg, Int.reduceAdd, ↓rD0, ↓rD1, ↓rD2, ↓rD3, ↓rD4, rU0, rU1, rU2, rU3, rU4, rU5, toNat_n, Int.reduceToNat, slA, ptrsA, boolsA, Int.reducePow, Nat.reducePow, Nat.reduceMul, Int.reduceLT, Int.reduceLE, resA, resL, res1, eq_self, wanted, evK, get, setO, one, faA, loadA, storeA, outA, lenA, isStr, binA, unA, bnd, ints, toDat, toDats, datss, fillA, splice, List.length_nil, List.flatten_nil, Nat.reduceAdd, Nat.reduceLeDiff, Nat.reduceBEq, Nat.reduceSub, if_true, ite_true, cond_true, cond_false, List.replicate, if_false, ite_false, reduceCtorEq]
  obtain ⟨S, hS⟩ : ∃ S : Nat → List AV, ∀ i, S i = [.ptr wb 0, wv n, .any, .any, .ptr H.length 0, .any, iv i] ++ List.replicate 14 .any := ⟨_, fun _ => rfl⟩
  have hB : ∀ y, (H ++ [y])[H.length]? = some y := fun y => by rw [hg0]; rfl
  have hset : ∀ x y : ABlk, (H ++ [x]).set H.length y = H ++ [y] := fun x y => by rw [hs0]; rfl
  have b0 := wBn n 0
  have b1 := wBn n 1
  have b2 := wBn n 2
  have b3 := wBn n 3
  simp only [Int.reducePow] at b0 b1 b2 b3
  refine W.loopG (γ := Nat) (fun i => 4 - i) S (fun i => H ++ [.cells (wcs n i)]) (fun i => i ≤ 4) 0 ?_ (by omega) (fun i hi => ?_)
  · exact Wk.slots (by rw [hS]; exact WkL.tail 7 _ rfl (by simp only [List.take_succ_cons, List.take_zero]; repeat' first | exact WkL.nil | refine WkL.cons (Wk1.rfl _) ?_ | refine WkL.cons Wk1.esl ?_ | refine WkL.cons (Wk1.gsl _ _ _) ?_ | refine WkL.cons (Wk1.any _) ?_))
  have hwl : (wcs n i).length = 4 := rfl
  by_cases hi4 : i < 4
  · have e8 : (8 * (i : Int)).toNat = 8 * i := by omega
    have hst : (wcs n i).take i ++ AV.d (.v (.int .u8 (n / 2 ^ (8 * i) % 256))) :: (wcs n i).drop (i + 1) = wcs n (i + 1) := by
      rcases (by omega : i = 0 ∨ i = 1 ∨ i = 2 ∨ i = 3) with rfl | rfl | rfl | rfl <;> simp [wcs, List.range, List.range.loop, b0, b1, b2, b3]
    simp (disch := omega) only [hS, c25l0, hB, hset, hwl, e8, hst, DC_w, DC_n, kill_0, Nat.sub_zero, Int.reduceSub, Int.reduceMul, Int.reduceNeg, Int.reduceAdd, ↓rD0, ↓rD1, ↓rD2, ↓rD3, ↓rD4, rU0, rU1, rU2, rU3, rU4, rU5, toNat_n, Int.reduceToNat, slA, ptrsA, boolsA, Int.reducePow, Nat.reducePow, Nat.reduceMul, Int.reduceLT, Int.reduceLE, resA, resL, res1, eq_self, wanted, evK, get, setO, one, faA, loadA, storeA, outA, lenA, isStr, binA, unA, bnd, ints, toDat, toDats, datss, fillA, splice, List.length_nil, List.flatten_nil, Nat.reduceAdd, Nat.reduceLeDiff, Nat.reduceBEq, Nat.reduceSub, if_true, ite_true, cond_true, cond_false, List.replicate, if_false, ite_false, reduceCtorEq]
    exact Nxt.mk (i + 1) (by omega) (Wk.slots (by rw [hS]; exact WkL.tail 7 _ rfl (by simp only [List.take_succ_cons, List.take_zero]; repeat' first | exact WkL.nil | refine WkL.cons (Wk1.rfl _) ?_ | refine WkL.cons Wk1.esl ?_ | refine WkL.cons (Wk1.gsl _ _ _) ?_ | refine WkL.cons (Wk1.any _) ?_))) (by omega)
  · have hie : i = 4 := by omega
    subst hie
    have hel : elemsA (H ++ [ABlk.cells (wcs n 4)]) 1 (.hsl H.length 0 4 4 1) = some (((wordB n).map bd).map (·.map AV.d)) := by
      simp only [elemsA, hB]
      rw [if_pos ⟨by rw [hwl]; omega, trivial⟩]
      simp [wcs, wordB, List.range, List.range.loop]
    simp (disch := omega) only [hS, c25l0, hB, hwl, hel, bytesOf_bd, DC_w, DC_n, kill_0, Nat.sub_zero, Int.reduceSub, Int.reduceMul, Int.reduceNeg, Int.reduceAdd, ↓rD0, ↓rD1, ↓rD2, ↓rD3, ↓rD4, rU0, rU1, rU2, rU3, rU4, rU5, toNat_n, Int.reduceToNat, slA, ptrsA, boolsA, Int.reducePow, Nat.reducePow, Nat.reduceMul, Int.reduceLT, Int.reduceLE, resA, resL, res1, eq_self, wanted, evK, get, setO, one, faA, loadA, storeA, outA, lenA, isStr, binA, unA, bnd, ints, toDat, toDats, datss, fillA, splice, List.length_nil, List.flatten_nil, Nat.reduceAdd, Nat.reduceLeDiff, Nat.reduceBEq, Nat.reduceSub, if_true, ite_true, cond_true, cond_false, List.replicate, if_false, ite_false, reduceCtorEq]
    refine Cont.rel (put_c (h.ext [.cells (wcs n 4)]) _ (by show (4 : Nat) ≤ 300000; omega)) ?_
    rintro v H' ⟨rfl, x', h1', h2'⟩
    simp (disch := omega) only [DC_w, DC_n, kill_0, Nat.sub_zero, Int.reduceSub, Int.reduceMul, Int.reduceNeg, Int.reduceAdd, ↓rD0, ↓rD1, ↓rD2, ↓rD3, ↓rD4, rU0, rU1, rU2, rU3, rU4, rU5, toNat_n, Int.reduceToNat, slA, ptrsA, boolsA, Int.reducePow, Nat.reducePow, Nat.reduceMul, Int.reduceLT, Int.reduceLE, resA, resL, res1, eq_self, wanted, evK, get, setO, one, faA, loadA, storeA, outA, lenA, isStr, binA, unA, bnd, ints, toDat, toDats, datss, fillA, splice, List.length_nil, List.flatten_nil, Nat.reduceAdd, Nat.reduceLeDiff, Nat.reduceBEq, Nat.reduceSub, if_true, ite_true, cond_true, cond_false, List.replicate, if_false, ite_false, reduceCtorEq]
    exact Ret.keep ⟨rfl, x', h1', (Chg.app _).trans h2'⟩
end Go.Proofs.Ytipjjcaflcpplaa
