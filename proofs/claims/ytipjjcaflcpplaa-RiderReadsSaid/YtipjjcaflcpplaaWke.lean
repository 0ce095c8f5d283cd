/- The reference's numbers. -/
import Derived.Test.YtipjjcaflcpplaaWkd
namespace Go.Proofs.Ytipjjcaflcpplaa
set_option linter.unusedSimpArgs false
set_option linter.unusedVariables false
set_option maxRecDepth 20000
set_option maxHeartbeats 4000000
open Go.RowKit

theorem byteF_ok {s : ByteArray} {a : Nat} (h : a < s.size) : byteF s ⟨a, false⟩ = (((s.data.toList.getD a 0).toNat : Int), ⟨a + 1, false⟩) := by
  have e : takeF s ⟨a, false⟩ 1 = (s.extract a (a + 1), true, ⟨a + 1, false⟩) := by
    rw [takeF, if_neg (by simp), if_neg (by simp; omega)]; rfl
  simp only [byteF, e, if_true, chr]
theorem byteF_no {s : ByteArray} {a : Nat} (h : a = s.size) : byteF s ⟨a, false⟩ = (0, ⟨a, true⟩) := by
  have e : takeF s ⟨a, false⟩ 1 = (nl, false, ⟨a, true⟩) := by
    rw [takeF, if_neg (by simp), if_pos (by simp; omega)]
  simp [byteF, e]
theorem cl_rd {H : List ABlk} (h : cl H) (rb p : Nat) (b : Bool) (s : ByteArray) : cl (H.set rb (rd s p b)) := by
  intro i k hi r hr
  rw [List.length_set]
  by_cases e : rb = i
  · subst e
    rw [List.getElem?_set_self'] at hi
    cases hk : H[rb]? with
    | none => rw [hk] at hi; cases hi
    | some k0 =>
      rw [hk] at hi
      cases hi
      simp [rd, ABlk.refs, refs, refs.refsL] at hr
  · rw [List.getElem?_set_ne e] at hi
    exact h i k hi r hr
theorem QrAt.fresh (H : List ABlk) : QrAt (H ++ [.cells [.esl, bv false]]) H.length .esl [] false := ⟨by rw [hg0]; rfl, .inl ⟨rfl, rfl⟩, by simp [rowB]⟩
theorem lenA_x {H : List ABlk} {x : AV} {bs : List UInt8} (h : RowB H x bs) : lenA x = some bs.length := by
  rcases h with ⟨rfl, rfl⟩ | ⟨b, rfl, _⟩
  · rfl
  · simp [lenA]
theorem numQ_l {H1 : List ABlk} {n : Nat} (hn : H1.length = n) (m : Int) : ACalls Try.prog 32 [.ptr n 0, iv m] (H1 ++ [.cells [.esl, bv false]]) fun v H' => v = .tup [] ∧ ∃ l x', H' = H1 ++ l ∧ QrAt (H1 ++ l) n x' (if fit32 m then comp7 m else []) (if fit32 m then false else true) := by
  subst hn
  refine (numQ_c (QrAt.fresh H1) (by simp) m).mono fun v H' hq => ?_
  obtain ⟨rfl, x', h1, h2⟩ := hq
  have ho : Ow H1 (WF H1.length .esl) (H1 ++ [.cells [.esl, bv false]]) := ⟨pre_app _ _, fun b hb => by simp [WF, rowB] at hb; omega⟩
  obtain ⟨l, rfl⟩ := (ho.chg h2).1
  exact ⟨rfl, l, x', rfl, by simpa using h1⟩
structure NrG where
  k : Nat
  n : Int
  sc : Int
  fin : Bool
  H : List ABlk
structure NrI (H : List ABlk) (rb a : Nat) (s : ByteArray) (g : NrG) : Prop where
  k : g.k ≤ 5
  run : g.fin = false → g.H = H.set rb (rd s (a + g.k) false) ∧ a + g.k ≤ s.size ∧ decN (s.data.toList.drop a) = dec (5 - g.k) (s.data.toList.drop (a + g.k)) g.k g.n ∧ 0 ≤ g.n ∧ g.n < 128 ^ g.k ∧ g.sc = 128 ^ g.k
  stop : g.fin = true → g.k = 5 ∧ decN (s.data.toList.drop a) = none ∧ ∃ p b l, g.H = H.set rb (rd s p b) ++ l
theorem numR_c {H : List ABlk} {rb : Nat} {s : ByteArray} {r : Rd} (h : H[rb]? = some (rd s r.a r.bad)) (hs : s.size ≤ 300000) (ha : r.a ≤ s.size) : ACalls Try.prog 36 [.ptr rb 0] H fun v H' => v = iv (numF s r).1 ∧ H' = H.set rb (rd s (numF s r).2.a (numF s r).2.bad) := by
  refine ACalls.into Try.func36 cc36 rr36 fun hcl => ?_
  have hrl := (List.getElem?_eq_some_iff.1 h).1
  have hS : ∀ x, (H.set rb x)[rb]? = some x := fun x => getset_eq h
  have hS1 : ∀ x l, (H.set rb x ++ l)[rb]? = some x := fun x l => hold (hS x) l
  have hS3 : ∀ x l y, (H.set rb x ++ l).set rb y = H.set rb y ++ l := fun x l y => by rw [holds (hS x), List.set_set]
  obtain ⟨a, bad⟩ := r
  simp only at h ha
  have fin : ∀ o, decN (s.data.toList.drop a) = o → numF s ⟨a, false⟩ = match o with
      | some p => (p.1, ⟨a + p.2, false⟩)
      | none => (0, ⟨a, true⟩) := fun o ho => by rw [numF, if_neg (by simp), ho]; rfl
  cases bad with
  | true =>
    obtain ⟨S, hS2⟩ : ∃ S : NrG → List AV, ∀ g, S g = [.ptr rb 0, .any, .any, iv a, iv g.n, iv g.k, iv g.sc] ++ List.replicate 65 .any := ⟨_, fun _ => rfl⟩
    simp (disch := omega) only [Try.ntmps36, c36, r36, h, DC_w, DC_n, kill_0, Nat.sub_zero, Int.reduceSub, Int.reduceMul, Int.reduceNeg, Int.reduceAdd, ↓rD0, ↓rD1, ↓rD2, ↓rD3, ↓rD4, rU0, rU1, rU2, rU3, rU4, rU5, toNat_n, Int.reduceToNat, slA, ptrsA, boolsA, Int.reducePow, Nat.reducePow, Nat.reduceMul, Int.reduceLT, Int.reduceLE, resA, resL, res1, eq_self, wanted, evK, get, setO, one, faA, loadA, storeA, outA, lenA, isStr, binA, unA, bnd, ints, toDat, toDats, datss, fillA, splice, List.length_nil, List.flatten_nil, Nat.reduceAdd, Nat.reduceLeDiff, Nat.reduceBEq, Nat.reduceSub, if_true, ite_true, cond_true, cond_false, List.replicate, if_false, ite_false, reduceCtorEq]
    refine W.loopG (γ := NrG) (fun g => 5 - g.k) S (fun _ => H) (fun g => g.k = 0) (⟨0, 0, 1, false, H⟩ : NrG) (Wk.slots (by rw [hS2]; exact WkL.tail 7 _ rfl (by simp only [List.take_succ_cons, List.take_zero]; repeat' first | exact WkL.nil | refine WkL.cons (Wk1.rfl _) ?_ | refine WkL.cons Wk1.esl ?_ | refine WkL.cons (Wk1.gsl _ _ _) ?_ | refine WkL.cons (Wk1.any _) ?_))) rfl (fun g hg => ?_)
    simp (disch := omega) only [hS2, c36l0, hg, h, hS, List.set_set, DC_w, DC_n, kill_0, Nat.sub_zero, Int.reduceSub, Int.reduceMul, Int.reduceNeg, Int.reduceAdd, ↓rD0, ↓rD1, ↓rD2, ↓rD3, ↓rD4, rU0, rU1, rU2, rU3, rU4, rU5, toNat_n, Int.reduceToNat, slA, ptrsA, boolsA, Int.reducePow, Nat.reducePow, Nat.reduceMul, Int.reduceLT, Int.reduceLE, resA, resL, res1, eq_self, wanted, evK, get, setO, one, faA, loadA, storeA, outA, lenA, isStr, binA, unA, bnd, ints, toDat, toDats, datss, fillA, splice, List.length_nil, List.flatten_nil, Nat.reduceAdd, Nat.reduceLeDiff, Nat.reduceBEq, Nat.reduceSub, if_true, ite_true, cond_true, cond_false, List.replicate, if_false, ite_false, reduceCtorEq]
    exact Ret.keep ⟨by simp [numF], by simp [numF]⟩
  | false =>
    obtain ⟨S, hS2⟩ : ∃ S : NrG → List AV, ∀ g, S g = [.ptr rb 0, .any, .any, iv a, iv g.n, iv g.k, iv g.sc] ++ List.replicate 65 .any := ⟨_, fun _ => rfl⟩
    simp (disch := omega) only [Try.ntmps36, c36, r36, h, DC_w, DC_n, kill_0, Nat.sub_zero, Int.reduceSub, Int.reduceMul, Int.reduceNeg, Int.reduceAdd, ↓rD0, ↓rD1, ↓rD2, ↓rD3, ↓rD4, rU0, rU1, rU2, rU3, rU4, rU5, toNat_n, Int.reduceToNat, slA, ptrsA, boolsA, Int.reducePow, Nat.reducePow, Nat.reduceMul, Int.reduceLT, Int.reduceLE, resA, resL, res1, eq_self, wanted, evK, get, setO, one, faA, loadA, storeA, outA, lenA, isStr, binA, unA, bnd, ints, toDat, toDats, datss, fillA, splice, List.length_nil, List.flatten_nil, Nat.reduceAdd, Nat.reduceLeDiff, Nat.reduceBEq, Nat.reduceSub, if_true, ite_true, cond_true, cond_false, List.replicate, if_false, ite_false, reduceCtorEq]
    refine W.loopG (γ := NrG) (fun g => 5 - g.k) S (fun g => g.H) (NrI H rb a s) ⟨0, 0, 1, false, H⟩ (Wk.slots (by rw [hS2]; exact WkL.tail 7 _ rfl (by simp only [List.take_succ_cons, List.take_zero]; repeat' first | exact WkL.nil | refine WkL.cons (Wk1.rfl _) ?_ | refine WkL.cons Wk1.esl ?_ | refine WkL.cons (Wk1.gsl _ _ _) ?_ | refine WkL.cons (Wk1.any _) ?_))) ⟨by show 0 ≤ 5; omega, fun _ => ⟨(set_self h).symm, ha, rfl, by show (0 : Int) ≤ 0; decide, by show (0 : Int) < 128 ^ 0; decide, rfl⟩, fun e => by cases e⟩ (fun g hg => ?_)
    have hout : decN (s.data.toList.drop a) = none → ∀ l, Ret [RC.t 2] H.length (fun v H' => v = iv (numF s ⟨a, false⟩).1 ∧ H' = H.set rb (rd s (numF s ⟨a, false⟩).2.a (numF s ⟨a, false⟩).2.bad)) (some (iv 0)) (H.set rb (rd s a true) ++ l) := fun hd l => by
      rw [fin none hd]
      exact Ret.pre (iv 0) _ (pre_app _ _) (by simp) (cl_rd hcl rb a true s) (.rfl _) (by simp [refs]) ⟨rfl, rfl⟩
    cases hfin : g.fin with
    | true =>
      obtain ⟨e5, hno, p, b, l, hH⟩ := hg.stop hfin
      have hk5 : ¬ (g.k : Int) < 5 := by omega
      simp (disch := omega) only [hS2, c36l0, hH, hk5, hS1, hS3, DC_w, DC_n, kill_0, Nat.sub_zero, Int.reduceSub, Int.reduceMul, Int.reduceNeg, Int.reduceAdd, ↓rD0, ↓rD1, ↓rD2, ↓rD3, ↓rD4, rU0, rU1, rU2, rU3, rU4, rU5, toNat_n, Int.reduceToNat, slA, ptrsA, boolsA, Int.reducePow, Nat.reducePow, Nat.reduceMul, Int.reduceLT, Int.reduceLE, resA, resL, res1, eq_self, wanted, evK, get, setO, one, faA, loadA, storeA, outA, lenA, isStr, binA, unA, bnd, ints, toDat, toDats, datss, fillA, splice, List.length_nil, List.flatten_nil, Nat.reduceAdd, Nat.reduceLeDiff, Nat.reduceBEq, Nat.reduceSub, if_true, ite_true, cond_true, cond_false, List.replicate, if_false, ite_false, reduceCtorEq]
      exact hout hno l
    | false =>
      obtain ⟨hH, q2, q3, q4, q5, q6⟩ := hg.run hfin
      by_cases u2 : g.k < 5
      · have hget : g.H[rb]? = some (rd s (Rd.mk (a + g.k) false).a (Rd.mk (a + g.k) false).bad) := by rw [hH, hS]
        obtain ⟨d, hd⟩ : ∃ d, 5 - g.k = d + 1 := ⟨4 - g.k, by omega⟩
        have hbc := byteR_c hget hs q2
        have hpk : (128 : Int) ^ g.k ≤ 268435456 := by
          rcases (by omega : g.k = 0 ∨ g.k = 1 ∨ g.k = 2 ∨ g.k = 3 ∨ g.k = 4) with e | e | e | e | e <;> rw [e] <;> decide
        have hp1 : (0 : Int) < 128 ^ g.k := Int.pow_pos (by decide)
        by_cases u1 : a + g.k < s.size
        · obtain ⟨c, hcc⟩ : ∃ c, s.data.toList.getD (a + g.k) 0 = c := ⟨_, rfl⟩
          have hclt := c.toNat_lt
          rw [byteF_ok u1, hcc] at hbc
          have hdrop : s.data.toList.drop (a + g.k) = c :: s.data.toList.drop (a + (g.k + 1)) := by
            rw [← hcc, List.drop_eq_getElem_cons (by rw [len_data]; exact u1), List.getD_eq_getElem?_getD, List.getElem?_eq_getElem (by rw [len_data]; exact u1)]; rfl
          rw [hd, hdrop] at q3
          have hd2 : 5 - (g.k + 1) = d := by omega
          have hc2 : (((c.toNat % 128 : Nat) : Int)) * 128 ^ g.k ≤ 127 * 128 ^ g.k := Int.mul_le_mul_of_nonneg_right (by omega) (by omega)
          have hc3 : 0 ≤ (((c.toNat % 128 : Nat) : Int)) * 128 ^ g.k := Int.mul_nonneg (by omega) (by omega)
          have hq5 : g.n + ((c.toNat % 128 : Nat) : Int) * 128 ^ g.k < 128 ^ (g.k + 1) := by rw [Int.pow_succ]; omega
          have htm : (c.toNat : Int).tmod 128 = ((c.toNat % 128 : Nat) : Int) := rfl
          have hps : (128 : Int) ^ g.k * 128 = 128 ^ (g.k + 1) := rfl
          have hpk2 : (128 : Int) ^ (g.k + 1) ≤ 34359738368 := by rw [Int.pow_succ]; omega
          have hp2 : (0 : Int) < 128 ^ (g.k + 1) := Int.pow_pos (by decide)
          rw [hH] at hbc hget
          by_cases u3 : 128 ≤ c.toNat
          · rw [dec, if_pos u3, ← hd2] at q3
            simp (disch := omega) only [hS2, c36l0, hH, hS, DC_w, DC_n, kill_0, Nat.sub_zero, Int.reduceSub, Int.reduceMul, Int.reduceNeg, Int.reduceAdd, ↓rD0, ↓rD1, ↓rD2, ↓rD3, ↓rD4, rU0, rU1, rU2, rU3, rU4, rU5, toNat_n, Int.reduceToNat, slA, ptrsA, boolsA, Int.reducePow, Nat.reducePow, Nat.reduceMul, Int.reduceLT, Int.reduceLE, resA, resL, res1, eq_self, wanted, evK, get, setO, one, faA, loadA, storeA, outA, lenA, isStr, binA, unA, bnd, ints, toDat, toDats, datss, fillA, splice, List.length_nil, List.flatten_nil, Nat.reduceAdd, Nat.reduceLeDiff, Nat.reduceBEq, Nat.reduceSub, if_true, ite_true, cond_true, cond_false, List.replicate, if_false, ite_false, reduceCtorEq]
            refine Cont.mk hbc ?_
            simp (disch := omega) only [q6, htm, hps, List.set_set, DC_w, DC_n, kill_0, Nat.sub_zero, Int.reduceSub, Int.reduceMul, Int.reduceNeg, Int.reduceAdd, ↓rD0, ↓rD1, ↓rD2, ↓rD3, ↓rD4, rU0, rU1, rU2, rU3, rU4, rU5, toNat_n, Int.reduceToNat, slA, ptrsA, boolsA, Int.reducePow, Nat.reducePow, Nat.reduceMul, Int.reduceLT, Int.reduceLE, resA, resL, res1, eq_self, wanted, evK, get, setO, one, faA, loadA, storeA, outA, lenA, isStr, binA, unA, bnd, ints, toDat, toDats, datss, fillA, splice, List.length_nil, List.flatten_nil, Nat.reduceAdd, Nat.reduceLeDiff, Nat.reduceBEq, Nat.reduceSub, if_true, ite_true, cond_true, cond_false, List.replicate, if_false, ite_false, reduceCtorEq]
            exact Nxt.mk ⟨g.k + 1, g.n + ((c.toNat % 128 : Nat) : Int) * 128 ^ g.k, 128 ^ (g.k + 1), false, H.set rb (rd s (a + g.k + 1) false)⟩ (by show 5 - (g.k + 1) < 5 - g.k; omega) (Wk.slots (by rw [hS2]; exact WkL.tail 7 _ rfl (by simp only [List.take_succ_cons, List.take_zero]; repeat' first | exact WkL.nil | refine WkL.cons (Wk1.rfl _) ?_ | refine WkL.cons Wk1.esl ?_ | refine WkL.cons (Wk1.gsl _ _ _) ?_ | refine WkL.cons (Wk1.any _) ?_))) ⟨by show g.k + 1 ≤ 5; omega, fun _ => ⟨rfl, by show a + (g.k + 1) ≤ s.size; omega, q3, by show 0 ≤ g.n + _; omega, hq5, rfl⟩, fun e => (by cases e)⟩
          · rw [dec, if_neg u3] at q3
            obtain ⟨m, hm⟩ : ∃ m, m = if 64 ≤ c.toNat then g.n + ((c.toNat % 128 : Nat) : Int) * 128 ^ g.k - 128 ^ (g.k + 1) else g.n + ((c.toNat % 128 : Nat) : Int) * 128 ^ g.k := ⟨_, rfl⟩
            simp only [← hm] at q3
            by_cases u4 : 64 ≤ c.toNat
            · rw [if_pos u4] at hm
              simp (disch := omega) only [hS2, c36l0, hH, hS, DC_w, DC_n, kill_0, Nat.sub_zero, Int.reduceSub, Int.reduceMul, Int.reduceNeg, Int.reduceAdd, ↓rD0, ↓rD1, ↓rD2, ↓rD3, ↓rD4, rU0, rU1, rU2, rU3, rU4, rU5, toNat_n, Int.reduceToNat, slA, ptrsA, boolsA, Int.reducePow, Nat.reducePow, Nat.reduceMul, Int.reduceLT, Int.reduceLE, resA, resL, res1, eq_self, wanted, evK, get, setO, one, faA, loadA, storeA, outA, lenA, isStr, binA, unA, bnd, ints, toDat, toDats, datss, fillA, splice, List.length_nil, List.flatten_nil, Nat.reduceAdd, Nat.reduceLeDiff, Nat.reduceBEq, Nat.reduceSub, if_true, ite_true, cond_true, cond_false, List.replicate, if_false, ite_false, reduceCtorEq]
              refine Cont.mk hbc ?_
              simp (disch := omega) only [q6, htm, hps, List.set_set, ← hm, DC_w, DC_n, kill_0, Nat.sub_zero, Int.reduceSub, Int.reduceMul, Int.reduceNeg, Int.reduceAdd, ↓rD0, ↓rD1, ↓rD2, ↓rD3, ↓rD4, rU0, rU1, rU2, rU3, rU4, rU5, toNat_n, Int.reduceToNat, slA, ptrsA, boolsA, Int.reducePow, Nat.reducePow, Nat.reduceMul, Int.reduceLT, Int.reduceLE, resA, resL, res1, eq_self, wanted, evK, get, setO, one, faA, loadA, storeA, outA, lenA, isStr, binA, unA, bnd, ints, toDat, toDats, datss, fillA, splice, List.length_nil, List.flatten_nil, Nat.reduceAdd, Nat.reduceLeDiff, Nat.reduceBEq, Nat.reduceSub, if_true, ite_true, cond_true, cond_false, List.replicate, if_false, ite_false, reduceCtorEq]
              refine Cont.rel (numQ_l (H1 := H.set rb (rd s (a + g.k + 1) false)) (List.length_set ..) m) ?_
              rintro v H' ⟨rfl, l, x', rfl, hx⟩
              simp (disch := omega) only [hS1, DC_w, DC_n, kill_0, Nat.sub_zero, Int.reduceSub, Int.reduceMul, Int.reduceNeg, Int.reduceAdd, ↓rD0, ↓rD1, ↓rD2, ↓rD3, ↓rD4, rU0, rU1, rU2, rU3, rU4, rU5, toNat_n, Int.reduceToNat, slA, ptrsA, boolsA, Int.reducePow, Nat.reducePow, Nat.reduceMul, Int.reduceLT, Int.reduceLE, resA, resL, res1, eq_self, wanted, evK, get, setO, one, faA, loadA, storeA, outA, lenA, isStr, binA, unA, bnd, ints, toDat, toDats, datss, fillA, splice, List.length_nil, List.flatten_nil, Nat.reduceAdd, Nat.reduceLeDiff, Nat.reduceBEq, Nat.reduceSub, if_true, ite_true, cond_true, cond_false, List.replicate, if_false, ite_false, reduceCtorEq]
              refine Cont.mk (fitsR_c m _) ?_
              have hlast : decN (s.data.toList.drop a) = none → NrI H rb a s ⟨5, m, 128 ^ (g.k + 1), true, H.set rb (rd s (a + g.k + 1) false) ++ l⟩ := fun hno => ⟨Nat.le_refl 5, fun e => (by cases e), fun _ => ⟨rfl, hno, _, _, l, rfl⟩⟩
              by_cases f32 : fit32 m
              · rw [if_pos f32, if_pos f32] at hx
                have hxc := hx.c
                rcases hx.r with ⟨_, h0⟩ | ⟨b, rfl, hb⟩
                · have h1 := comp7_pos m; rw [h0] at h1; exact absurd h1 (by decide)
                · have hlb : ((comp7 m).map bd).length = (comp7 m).length := List.length_map ..
                  by_cases fl : (comp7 m).length = g.k + 1
                  · rw [if_pos ⟨f32, fl⟩] at q3
                    simp (disch := omega) only [decide_eq_true f32, hxc, hlb, fl, DC_w, DC_n, kill_0, Nat.sub_zero, Int.reduceSub, Int.reduceMul, Int.reduceNeg, Int.reduceAdd, ↓rD0, ↓rD1, ↓rD2, ↓rD3, ↓rD4, rU0, rU1, rU2, rU3, rU4, rU5, toNat_n, Int.reduceToNat, slA, ptrsA, boolsA, Int.reducePow, Nat.reducePow, Nat.reduceMul, Int.reduceLT, Int.reduceLE, resA, resL, res1, eq_self, wanted, evK, get, setO, one, faA, loadA, storeA, outA, lenA, isStr, binA, unA, bnd, ints, toDat, toDats, datss, fillA, splice, List.length_nil, List.flatten_nil, Nat.reduceAdd, Nat.reduceLeDiff, Nat.reduceBEq, Nat.reduceSub, if_true, ite_true, cond_true, cond_false, List.replicate, if_false, ite_false, reduceCtorEq]
                    exact Ret.pre (iv m) (H.set rb (rd s (a + g.k + 1) false)) (pre_app _ _) (by simp) (cl_rd hcl rb _ _ s) (.rfl _) (by simp [refs]) ⟨by rw [fin _ q3], by rw [fin _ q3]; rfl⟩
                  · rw [if_neg (fun e => fl e.2)] at q3
                    have fl2 : ¬ ((comp7 m).length : Int) = (g.k : Int) + 1 := by omega
                    simp (disch := omega) only [decide_eq_true f32, hxc, hlb, fl2, DC_w, DC_n, kill_0, Nat.sub_zero, Int.reduceSub, Int.reduceMul, Int.reduceNeg, Int.reduceAdd, ↓rD0, ↓rD1, ↓rD2, ↓rD3, ↓rD4, rU0, rU1, rU2, rU3, rU4, rU5, toNat_n, Int.reduceToNat, slA, ptrsA, boolsA, Int.reducePow, Nat.reducePow, Nat.reduceMul, Int.reduceLT, Int.reduceLE, resA, resL, res1, eq_self, wanted, evK, get, setO, one, faA, loadA, storeA, outA, lenA, isStr, binA, unA, bnd, ints, toDat, toDats, datss, fillA, splice, List.length_nil, List.flatten_nil, Nat.reduceAdd, Nat.reduceLeDiff, Nat.reduceBEq, Nat.reduceSub, if_true, ite_true, cond_true, cond_false, List.replicate, if_false, ite_false, reduceCtorEq]
                    exact Nxt.mk ⟨5, m, 128 ^ (g.k + 1), true, H.set rb (rd s (a + g.k + 1) false) ++ l⟩ (by show 5 - 5 < 5 - g.k; omega) (Wk.slots (by rw [hS2]; exact WkL.tail 7 _ rfl (by simp only [List.take_succ_cons, List.take_zero]; repeat' first | exact WkL.nil | refine WkL.cons (Wk1.rfl _) ?_ | refine WkL.cons Wk1.esl ?_ | refine WkL.cons (Wk1.gsl _ _ _) ?_ | refine WkL.cons (Wk1.any _) ?_))) (hlast q3)
              · rw [if_neg (fun e => f32 e.1)] at q3
                simp (disch := omega) only [decide_eq_false f32, DC_w, DC_n, kill_0, Nat.sub_zero, Int.reduceSub, Int.reduceMul, Int.reduceNeg, Int.reduceAdd, ↓rD0, ↓rD1, ↓rD2, ↓rD3, ↓rD4, rU0, rU1, rU2, rU3, rU4, rU5, toNat_n, Int.reduceToNat, slA, ptrsA, boolsA, Int.reducePow, Nat.reducePow, Nat.reduceMul, Int.reduceLT, Int.reduceLE, resA, resL, res1, eq_self, wanted, evK, get, setO, one, faA, loadA, storeA, outA, lenA, isStr, binA, unA, bnd, ints, toDat, toDats, datss, fillA, splice, List.length_nil, List.flatten_nil, Nat.reduceAdd, Nat.reduceLeDiff, Nat.reduceBEq, Nat.reduceSub, if_true, ite_true, cond_true, cond_false, List.replicate, if_false, ite_false, reduceCtorEq]
                exact Nxt.mk ⟨5, m, 128 ^ (g.k + 1), true, H.set rb (rd s (a + g.k + 1) false) ++ l⟩ (by show 5 - 5 < 5 - g.k; omega) (Wk.slots (by rw [hS2]; exact WkL.tail 7 _ rfl (by simp only [List.take_succ_cons, List.take_zero]; repeat' first | exact WkL.nil | refine WkL.cons (Wk1.rfl _) ?_ | refine WkL.cons Wk1.esl ?_ | refine WkL.cons (Wk1.gsl _ _ _) ?_ | refine WkL.cons (Wk1.any _) ?_))) (hlast q3)
            · rw [if_neg u4] at hm
              simp (disch := omega) only [hS2, c36l0, hH, hS, DC_w, DC_n, kill_0, Nat.sub_zero, Int.reduceSub, Int.reduceMul, Int.reduceNeg, Int.reduceAdd, ↓rD0, ↓rD1, ↓rD2, ↓rD3, ↓rD4, rU0, rU1, rU2, rU3, rU4, rU5, toNat_n, Int.reduceToNat, slA, ptrsA, boolsA, Int.reducePow, Nat.reducePow, Nat.reduceMul, Int.reduceLT, Int.reduceLE, resA, resL, res1, eq_self, wanted, evK, get, setO, one, faA, loadA, storeA, outA, lenA, isStr, binA, unA, bnd, ints, toDat, toDats, datss, fillA, splice, List.length_nil, List.flatten_nil, Nat.reduceAdd, Nat.reduceLeDiff, Nat.reduceBEq, Nat.reduceSub, if_true, ite_true, cond_true, cond_false, List.replicate, if_false, ite_false, reduceCtorEq]
              refine Cont.mk hbc ?_
              simp (disch := omega) only [q6, htm, hps, List.set_set, ← hm, DC_w, DC_n, kill_0, Nat.sub_zero, Int.reduceSub, Int.reduceMul, Int.reduceNeg, Int.reduceAdd, ↓rD0, ↓rD1, ↓rD2, ↓rD3, ↓rD4, rU0, rU1, rU2, rU3, rU4, rU5, toNat_n, Int.reduceToNat, slA, ptrsA, boolsA, Int.reducePow, Nat.reducePow, Nat.reduceMul, Int.reduceLT, Int.reduceLE, resA, resL, res1, eq_self, wanted, evK, get, setO, one, faA, loadA, storeA, outA, lenA, isStr, binA, unA, bnd, ints, toDat, toDats, datss, fillA, splice, List.length_nil, List.flatten_nil, Nat.reduceAdd, Nat.reduceLeDiff, Nat.reduceBEq, Nat.reduceSub, if_true, ite_true, cond_true, cond_false, List.replicate, if_false, ite_false, reduceCtorEq]
              refine Cont.rel (numQ_l (H1 := H.set rb (rd s (a + g.k + 1) false)) (List.length_set ..) m) ?_
              rintro v H' ⟨rfl, l, x', rfl, hx⟩
              simp (disch := omega) only [hS1, DC_w, DC_n, kill_0, Nat.sub_zero, Int.reduceSub, Int.reduceMul, Int.reduceNeg, Int.reduceAdd, ↓rD0, ↓rD1, ↓rD2, ↓rD3, ↓rD4, rU0, rU1, rU2, rU3, rU4, rU5, toNat_n, Int.reduceToNat, slA, ptrsA, boolsA, Int.reducePow, Nat.reducePow, Nat.reduceMul, Int.reduceLT, Int.reduceLE, resA, resL, res1, eq_self, wanted, evK, get, setO, one, faA, loadA, storeA, outA, lenA, isStr, binA, unA, bnd, ints, toDat, toDats, datss, fillA, splice, List.length_nil, List.flatten_nil, Nat.reduceAdd, Nat.reduceLeDiff, Nat.reduceBEq, Nat.reduceSub, if_true, ite_true, cond_true, cond_false, List.replicate, if_false, ite_false, reduceCtorEq]
              refine Cont.mk (fitsR_c m _) ?_
              have hlast : decN (s.data.toList.drop a) = none → NrI H rb a s ⟨5, m, 128 ^ (g.k + 1), true, H.set rb (rd s (a + g.k + 1) false) ++ l⟩ := fun hno => ⟨Nat.le_refl 5, fun e => (by cases e), fun _ => ⟨rfl, hno, _, _, l, rfl⟩⟩
              by_cases f32 : fit32 m
              · rw [if_pos f32, if_pos f32] at hx
                have hxc := hx.c
                rcases hx.r with ⟨_, h0⟩ | ⟨b, rfl, hb⟩
                · have h1 := comp7_pos m; rw [h0] at h1; exact absurd h1 (by decide)
                · have hlb : ((comp7 m).map bd).length = (comp7 m).length := List.length_map ..
                  by_cases fl : (comp7 m).length = g.k + 1
                  · rw [if_pos ⟨f32, fl⟩] at q3
                    simp (disch := omega) only [decide_eq_true f32, hxc, hlb, fl, DC_w, DC_n, kill_0, Nat.sub_zero, Int.reduceSub, Int.reduceMul, Int.reduceNeg, Int.reduceAdd, ↓rD0, ↓rD1, ↓rD2, ↓rD3, ↓rD4, rU0, rU1, rU2, rU3, rU4, rU5, toNat_n, Int.reduceToNat, slA, ptrsA, boolsA, Int.reducePow, Nat.reducePow, Nat.reduceMul, Int.reduceLT, Int.reduceLE, resA, resL, res1, eq_self, wanted, evK, get, setO, one, faA, loadA, storeA, outA, lenA, isStr, binA, unA, bnd, ints, toDat, toDats, datss, fillA, splice, List.length_nil, List.flatten_nil, Nat.reduceAdd, Nat.reduceLeDiff, Nat.reduceBEq, Nat.reduceSub, if_true, ite_true, cond_true, cond_false, List.replicate, if_false, ite_false, reduceCtorEq]
                    exact Ret.pre (iv m) (H.set rb (rd s (a + g.k + 1) false)) (pre_app _ _) (by simp) (cl_rd hcl rb _ _ s) (.rfl _) (by simp [refs]) ⟨by rw [fin _ q3], by rw [fin _ q3]; rfl⟩
                  · rw [if_neg (fun e => fl e.2)] at q3
                    have fl2 : ¬ ((comp7 m).length : Int) = (g.k : Int) + 1 := by omega
                    simp (disch := omega) only [decide_eq_true f32, hxc, hlb, fl2, DC_w, DC_n, kill_0, Nat.sub_zero, Int.reduceSub, Int.reduceMul, Int.reduceNeg, Int.reduceAdd, ↓rD0, ↓rD1, ↓rD2, ↓rD3, ↓rD4, rU0, rU1, rU2, rU3, rU4, rU5, toNat_n, Int.reduceToNat, slA, ptrsA, boolsA, Int.reducePow, Nat.reducePow, Nat.reduceMul, Int.reduceLT, Int.reduceLE, resA, resL, res1, eq_self, wanted, evK, get, setO, one, faA, loadA, storeA, outA, lenA, isStr, binA, unA, bnd, ints, toDat, toDats, datss, fillA, splice, List.length_nil, List.flatten_nil, Nat.reduceAdd, Nat.reduceLeDiff, Nat.reduceBEq, Nat.reduceSub, if_true, ite_true, cond_true, cond_false, List.replicate, if_false, ite_false, reduceCtorEq]
                    exact Nxt.mk ⟨5, m, 128 ^ (g.k + 1), true, H.set rb (rd s (a + g.k + 1) false) ++ l⟩ (by show 5 - 5 < 5 - g.k; omega) (Wk.slots (by rw [hS2]; exact WkL.tail 7 _ rfl (by simp only [List.take_succ_cons, List.take_zero]; repeat' first | exact WkL.nil | refine WkL.cons (Wk1.rfl _) ?_ | refine WkL.cons Wk1.esl ?_ | refine WkL.cons (Wk1.gsl _ _ _) ?_ | refine WkL.cons (Wk1.any _) ?_))) (hlast q3)
              · rw [if_neg (fun e => f32 e.1)] at q3
                simp (disch := omega) only [decide_eq_false f32, DC_w, DC_n, kill_0, Nat.sub_zero, Int.reduceSub, Int.reduceMul, Int.reduceNeg, Int.reduceAdd, ↓rD0, ↓rD1, ↓rD2, ↓rD3, ↓rD4, rU0, rU1, rU2, rU3, rU4, rU5, toNat_n, Int.reduceToNat, slA, ptrsA, boolsA, Int.reducePow, Nat.reducePow, Nat.reduceMul, Int.reduceLT, Int.reduceLE, resA, resL, res1, eq_self, wanted, evK, get, setO, one, faA, loadA, storeA, outA, lenA, isStr, binA, unA, bnd, ints, toDat, toDats, datss, fillA, splice, List.length_nil, List.flatten_nil, Nat.reduceAdd, Nat.reduceLeDiff, Nat.reduceBEq, Nat.reduceSub, if_true, ite_true, cond_true, cond_false, List.replicate, if_false, ite_false, reduceCtorEq]
                exact Nxt.mk ⟨5, m, 128 ^ (g.k + 1), true, H.set rb (rd s (a + g.k + 1) false) ++ l⟩ (by show 5 - 5 < 5 - g.k; omega) (Wk.slots (by rw [hS2]; exact WkL.tail 7 _ rfl (by simp only [List.take_succ_cons, List.take_zero]; repeat' first | exact WkL.nil | refine WkL.cons (Wk1.rfl _) ?_ | refine WkL.cons Wk1.esl ?_ | refine WkL.cons (Wk1.gsl _ _ _) ?_ | refine WkL.cons (Wk1.any _) ?_))) (hlast q3)
        · have u3 : a + g.k = s.size := by omega
          rw [byteF_no u3] at hbc
          have hno : decN (s.data.toList.drop a) = none := by
            rw [q3, hd, u3, List.drop_eq_nil_of_le (by rw [len_data]; exact Nat.le_refl _)]; rfl
          rw [hH] at hbc hget
          simp (disch := omega) only [hS2, c36l0, hH, hS, DC_w, DC_n, kill_0, Nat.sub_zero, Int.reduceSub, Int.reduceMul, Int.reduceNeg, Int.reduceAdd, ↓rD0, ↓rD1, ↓rD2, ↓rD3, ↓rD4, rU0, rU1, rU2, rU3, rU4, rU5, toNat_n, Int.reduceToNat, slA, ptrsA, boolsA, Int.reducePow, Nat.reducePow, Nat.reduceMul, Int.reduceLT, Int.reduceLE, resA, resL, res1, eq_self, wanted, evK, get, setO, one, faA, loadA, storeA, outA, lenA, isStr, binA, unA, bnd, ints, toDat, toDats, datss, fillA, splice, List.length_nil, List.flatten_nil, Nat.reduceAdd, Nat.reduceLeDiff, Nat.reduceBEq, Nat.reduceSub, if_true, ite_true, cond_true, cond_false, List.replicate, if_false, ite_false, reduceCtorEq]
          refine Cont.mk hbc ?_
          simp (disch := omega) only [q6, Int.zero_mul, Int.add_zero, List.set_set, DC_w, DC_n, kill_0, Nat.sub_zero, Int.reduceSub, Int.reduceMul, Int.reduceNeg, Int.reduceAdd, ↓rD0, ↓rD1, ↓rD2, ↓rD3, ↓rD4, rU0, rU1, rU2, rU3, rU4, rU5, toNat_n, Int.reduceToNat, slA, ptrsA, boolsA, Int.reducePow, Nat.reducePow, Nat.reduceMul, Int.reduceLT, Int.reduceLE, resA, resL, res1, eq_self, wanted, evK, get, setO, one, faA, loadA, storeA, outA, lenA, isStr, binA, unA, bnd, ints, toDat, toDats, datss, fillA, splice, List.length_nil, List.flatten_nil, Nat.reduceAdd, Nat.reduceLeDiff, Nat.reduceBEq, Nat.reduceSub, if_true, ite_true, cond_true, cond_false, List.replicate, if_false, ite_false, reduceCtorEq]
          refine Cont.rel (numQ_l (H1 := H.set rb (rd s (a + g.k) true)) (List.length_set ..) g.n) ?_
          rintro v H' ⟨rfl, l, x', rfl, hx⟩
          simp (disch := omega) only [hS1, DC_w, DC_n, kill_0, Nat.sub_zero, Int.reduceSub, Int.reduceMul, Int.reduceNeg, Int.reduceAdd, ↓rD0, ↓rD1, ↓rD2, ↓rD3, ↓rD4, rU0, rU1, rU2, rU3, rU4, rU5, toNat_n, Int.reduceToNat, slA, ptrsA, boolsA, Int.reducePow, Nat.reducePow, Nat.reduceMul, Int.reduceLT, Int.reduceLE, resA, resL, res1, eq_self, wanted, evK, get, setO, one, faA, loadA, storeA, outA, lenA, isStr, binA, unA, bnd, ints, toDat, toDats, datss, fillA, splice, List.length_nil, List.flatten_nil, Nat.reduceAdd, Nat.reduceLeDiff, Nat.reduceBEq, Nat.reduceSub, if_true, ite_true, cond_true, cond_false, List.replicate, if_false, ite_false, reduceCtorEq]
          exact Nxt.mk ⟨5, g.n, 128 ^ g.k * 128, true, H.set rb (rd s (a + g.k) true) ++ l⟩ (by show 5 - 5 < 5 - g.k; omega) (Wk.slots (by rw [hS2]; exact WkL.tail 7 _ rfl (by simp only [List.take_succ_cons, List.take_zero]; repeat' first | exact WkL.nil | refine WkL.cons (Wk1.rfl _) ?_ | refine WkL.cons Wk1.esl ?_ | refine WkL.cons (Wk1.gsl _ _ _) ?_ | refine WkL.cons (Wk1.any _) ?_))) ⟨Nat.le_refl 5, fun e => (by cases e), fun _ => ⟨rfl, hno, _, _, l, rfl⟩⟩
      · have hk5 : g.k = 5 := by have := hg.k; omega
        have hk5' : ¬ (g.k : Int) < 5 := by omega
        have hno : decN (s.data.toList.drop a) = none := by rw [q3, hk5]; rfl
        simp (disch := omega) only [hS2, c36l0, hH, hk5', hS, List.set_set, DC_w, DC_n, kill_0, Nat.sub_zero, Int.reduceSub, Int.reduceMul, Int.reduceNeg, Int.reduceAdd, ↓rD0, ↓rD1, ↓rD2, ↓rD3, ↓rD4, rU0, rU1, rU2, rU3, rU4, rU5, toNat_n, Int.reduceToNat, slA, ptrsA, boolsA, Int.reducePow, Nat.reducePow, Nat.reduceMul, Int.reduceLT, Int.reduceLE, resA, resL, res1, eq_self, wanted, evK, get, setO, one, faA, loadA, storeA, outA, lenA, isStr, binA, unA, bnd, ints, toDat, toDats, datss, fillA, splice, List.length_nil, List.flatten_nil, Nat.reduceAdd, Nat.reduceLeDiff, Nat.reduceBEq, Nat.reduceSub, if_true, ite_true, cond_true, cond_false, List.replicate, if_false, ite_false, reduceCtorEq]
        have := hout hno []
        rw [List.append_nil] at this
        exact this
end Go.Proofs.Ytipjjcaflcpplaa
