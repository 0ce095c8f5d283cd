/- ScopeFull. -/
import Derived.Test.YthgffjaiklmbcaaWke
namespace Go.Proofs.Ythgffjaiklmbcaa
set_option linter.unusedSimpArgs false
set_option linter.unusedVariables false
set_option maxRecDepth 20000
set_option maxHeartbeats 2000000
open Go.RowKit

abbrev fS : ByteArray := ⟨#[102, 105, 114, 115, 116]⟩
theorem nm_f5 : Nm fS := ⟨by decide, by decide, by decide, fun i hi => by
  have h5 : fS.size = 5 := rfl
  have : i = 0 ∨ i = 1 ∨ i = 2 ∨ i = 3 ∨ i = 4 := by omega
  rcases this with rfl | rfl | rfl | rfl | rfl <;> exact .inl (by decide)⟩
def fulL (i : Nat) : Lv := (List.range i).map fun (j : Nat) => (mdS j, (j : Int))
theorem fulL_len (i : Nat) : List.length (fulL i) = i := by simp [fulL]
theorem fulL_succ (i : Nat) : fulL (i + 1) = fulL i ++ [(mdS i, (i : Int))] := by simp [fulL, List.range_succ]
theorem fulL_no {i j : Nat} (hj : j < 17576) (hi : i ≤ j) : mdS j ∉ (fulL i).map (·.1) := by
  simp only [fulL, List.map_map, List.mem_map, List.mem_range, Function.comp, not_exists, not_and]
  intro x hx he
  have := mdS_inj (i := x) (j := j) (by omega) hj he
  omega
theorem fulL_f (i : Nat) : fS ∉ (fulL i).map (·.1) := by
  simp only [fulL, List.map_map, List.mem_map, List.mem_range, Function.comp, not_exists, not_and]
  intro x hx he
  have : (mdS x).size = fS.size := by rw [he]
  rw [mdS_size] at this
  exact absurd this (by decide)
theorem fulL_yes {i j : Nat} (h : j < i) : mdS j ∈ (fulL i).map (·.1) := by
  simp only [fulL, List.map_map, List.mem_map, List.mem_range, Function.comp]
  exact ⟨j, h, rfl⟩
/-- How many names are there: ahead of them one, if it is the first level. -/
def cnt (o : Bool) (i : Nat) : Nat := min i (if o then 256 else 255)
def fulS (o : Bool) (i : Nat) : St := if o then [[(fS, (-1 : Int))], fulL (cnt o i)] else [(fS, (-1 : Int)) :: fulL (cnt o i)]
def have' (o : Bool) (i : Nat) : Nat := cnt o i + (if o then 0 else 1)
theorem ful_last (o : Bool) (i : Nat) : lastL (fulS o i) = if o then fulL (cnt o i) else (fS, (-1 : Int)) :: fulL (cnt o i) := by
  cases o <;> rfl
theorem ful_len (o : Bool) (i : Nat) : List.length (lastL (fulS o i)) = have' o i := by
  rw [ful_last]; cases o <;> simp [have', fulL_len]
theorem ful_none (o : Bool) {i : Nat} (hi : i < 17576) : lvGet (lastL (fulS o i)) (mdS i) = none := by
  rw [lvGet_mem, ful_last]
  have hc : cnt o i ≤ i := Nat.min_le_left _ _
  cases o with
  | true => exact fulL_no hi hc
  | false =>
    simp only [Bool.false_eq_true, if_false, List.map_cons, List.mem_cons, not_or]
    refine ⟨fun e => ?_, fulL_no hi hc⟩
    have : (mdS i).size = fS.size := by rw [e]
    rw [mdS_size] at this
    exact absurd this (by decide)
theorem ful_step (o : Bool) {i : Nat} (hi : i < 17576) : declS (fulS o i) (mdS i) i = fulS o (i + 1) ∧ declV (fulS o i) (mdS i) = if have' o i < 256 then 0 else 3 := by
  have h1 := mdS_nm hi
  have h2 := ful_none o hi
  by_cases h3 : have' o i < 256
  · have hne : List.length (lastL (fulS o i)) ≠ 256 := by rw [ful_len]; omega
    have hc : cnt o (i + 1) = cnt o i + 1 ∧ cnt o i = i := by
      simp only [have', cnt] at h3 ⊢
      cases o <;> simp at h3 ⊢ <;> omega
    rw [declV_yes h1 h2 hne, if_pos h3, declS_yes _ h1 h2 hne]
    refine ⟨?_, rfl⟩
    rw [ful_last]
    simp only [fulS, hc.1, fulL_succ, hc.2]
    cases o <;> rfl
  · have he : have' o i = 256 := by
      simp only [have', cnt] at h3 ⊢
      cases o <;> simp at h3 ⊢ <;> omega
    have hv : declV (fulS o i) (mdS i) = 3 := by rw [declV, if_neg (by simpa using h1), h2, if_neg (by simp), if_pos (by rw [ful_len, he])]
    rw [hv, if_neg h3, declS, hv, if_neg (by decide)]
    refine ⟨?_, rfl⟩
    have hc : cnt o (i + 1) = cnt o i := by
      simp only [have', cnt] at he ⊢
      cases o <;> simp at he ⊢ <;> omega
    simp only [fulS, hc]
theorem ful_find (o : Bool) (i : Nat) : findD (fulS o i) fS (fulS o i).length = some (-1, 0) := by
  cases o with
  | true =>
    show findD [_, fulL (cnt true i)] fS 2 = _
    rw [findD_miss (by show lvGet (fulL (cnt true i)) fS = none; exact lvGet_mem.2 (fulL_f _))]
    exact findD_hit (by show lvGet [(fS, (-1 : Int))] fS = _; rw [lvGet_cons, if_pos rfl])
  | false =>
    show findD [(fS, (-1 : Int)) :: fulL (cnt false i)] fS 1 = _
    exact findD_hit (by show lvGet ((fS, (-1 : Int)) :: _) fS = _; rw [lvGet_cons, if_pos rfl])
theorem ful_twice (o : Bool) {i : Nat} (h0 : 0 < i) : declV (fulS o i) (mdS 0) = 151 := by
  rw [declV, if_neg (by simpa using mdS_nm (i := 0) (by omega)), if_pos]
  have hm : mdS 0 ∈ (fulL (cnt o i)).map (·.1) := fulL_yes (by simp only [cnt]; cases o <;> simp <;> omega)
  have : lvGet (lastL (fulS o i)) (mdS 0) ≠ none := by
    rw [ne_eq, lvGet_mem, ful_last]
    cases o with
    | true => simpa using hm
    | false => simp only [Bool.false_eq_true, if_false, List.map_cons, List.mem_cons, not_or, not_and]; intro _ h; exact h hm
  cases e : lvGet (lastL (fulS o i)) (mdS 0) with
  | none => exact absurd e this
  | some m => rfl

structure FuG where
  i : Nat
  H : List ABlk
  r : Im
theorem ScopeFull_c (n : Int) (h0 : 0 ≤ n) (h1 : n < 65536) (o : Bool) (H : List ABlk) : ACalls Try.prog 7 [.d (.v (.int .u16 n)), bv o] H fun v H' => v = bv true ∧ H' = H := by
  refine ACalls.into Try.func7 cc7 rr7 fun hcl => ?_
  simp (disch := omega) only [Try.ntmps7, c7, r7, DC_w, DC_n, kill_0, Nat.sub_zero, ↓rD0, ↓rD1, ↓rD2, ↓rD3, ↓rD4, rU0, rU1, rU2, rU3, rU4, rU5, toNat_n, Int.reduceToNat, slA, ptrsA, boolsA, Int.reducePow, Nat.reducePow, Nat.reduceMul, Int.reduceLT, Int.reduceLE, resA, resL, res1, eq_self, wanted, evK, get, setO, one, faA, loadA, storeA, outA, lenA, isStr, binA, unA, bnd, ints, toDat, toDats, datss, fillA, splice, List.length_nil, List.flatten_nil, Nat.reduceAdd, Nat.reduceLeDiff, Nat.reduceBEq, Nat.reduceSub, if_true, ite_true, cond_true, cond_false, List.replicate, if_false, ite_false, reduceCtorEq]
  refine Cont.mk (new_c H) ?_
  have hk0 : 0 ≤ n % 300 ∧ n % 300 < 300 := by omega
  simp (disch := omega) only [DC_w, DC_n, kill_0, Nat.sub_zero, ↓rD0, ↓rD1, ↓rD2, ↓rD3, ↓rD4, rU0, rU1, rU2, rU3, rU4, rU5, toNat_n, Int.reduceToNat, slA, ptrsA, boolsA, Int.reducePow, Nat.reducePow, Nat.reduceMul, Int.reduceLT, Int.reduceLE, resA, resL, res1, eq_self, wanted, evK, get, setO, one, faA, loadA, storeA, outA, lenA, isStr, binA, unA, bnd, ints, toDat, toDats, datss, fillA, splice, List.length_nil, List.flatten_nil, Nat.reduceAdd, Nat.reduceLeDiff, Nat.reduceBEq, Nat.reduceSub, if_true, ite_true, cond_true, cond_false, List.replicate, if_false, ite_false, reduceCtorEq]
  obtain ⟨k, hk⟩ : ∃ k : Nat, n % 300 = (k : Int) := ⟨(n % 300).toNat, by omega⟩
  have hk70 : k < 300 := by omega
  simp only [hk]
  have o1 := Ow.new H
  obtain ⟨H2, r2, a2, i2, k2⟩ := declare_c (ImAt.new H) fS (by decide) (-1)
  rw [declV_yes nm_f5 rfl (by decide)] at a2
  rw [declS_yes (-1) nm_f5 rfl (by decide)] at i2
  replace i2 : ImAt H2 H.length r2 [[(fS, (-1 : Int))]] := i2
  refine Cont.mk a2 ?_
  have o2 := o1.chg k2
  simp (disch := omega) only [DC_w, DC_n, kill_0, Nat.sub_zero, ↓rD0, ↓rD1, ↓rD2, ↓rD3, ↓rD4, rU0, rU1, rU2, rU3, rU4, rU5, toNat_n, Int.reduceToNat, slA, ptrsA, boolsA, Int.reducePow, Nat.reducePow, Nat.reduceMul, Int.reduceLT, Int.reduceLE, resA, resL, res1, eq_self, wanted, evK, get, setO, one, faA, loadA, storeA, outA, lenA, isStr, binA, unA, bnd, ints, toDat, toDats, datss, fillA, splice, List.length_nil, List.flatten_nil, Nat.reduceAdd, Nat.reduceLeDiff, Nat.reduceBEq, Nat.reduceSub, if_true, ite_true, cond_true, cond_false, List.replicate, if_false, ite_false, reduceCtorEq]
  have go : ∀ (H3 : List ABlk) (r3 : Im), ImAt H3 H.length r3 (fulS o 0) → Ow H (r3.F H.length) H3 → True := fun _ _ _ _ => trivial
  cases o with
  | true =>
    simp (disch := omega) only [DC_w, DC_n, kill_0, Nat.sub_zero, ↓rD0, ↓rD1, ↓rD2, ↓rD3, ↓rD4, rU0, rU1, rU2, rU3, rU4, rU5, toNat_n, Int.reduceToNat, slA, ptrsA, boolsA, Int.reducePow, Nat.reducePow, Nat.reduceMul, Int.reduceLT, Int.reduceLE, resA, resL, res1, eq_self, wanted, evK, get, setO, one, faA, loadA, storeA, outA, lenA, isStr, binA, unA, bnd, ints, toDat, toDats, datss, fillA, splice, List.length_nil, List.flatten_nil, Nat.reduceAdd, Nat.reduceLeDiff, Nat.reduceBEq, Nat.reduceSub, if_true, ite_true, cond_true, cond_false, List.replicate, if_false, ite_false, reduceCtorEq]
    refine Cont.rel (open_c i2) ?_
    rintro v H3 ⟨rfl, r3, i3, k3⟩
    have e3 : openV [[(fS, (-1 : Int))]] = 0 := rfl
    replace i3 : ImAt H3 H.length r3 (fulS true 0) := i3
    have o3 := o2.chg k3
    simp (disch := omega) only [e3, DC_w, DC_n, kill_0, Nat.sub_zero, ↓rD0, ↓rD1, ↓rD2, ↓rD3, ↓rD4, rU0, rU1, rU2, rU3, rU4, rU5, toNat_n, Int.reduceToNat, slA, ptrsA, boolsA, Int.reducePow, Nat.reducePow, Nat.reduceMul, Int.reduceLT, Int.reduceLE, resA, resL, res1, eq_self, wanted, evK, get, setO, one, faA, loadA, storeA, outA, lenA, isStr, binA, unA, bnd, ints, toDat, toDats, datss, fillA, splice, List.length_nil, List.flatten_nil, Nat.reduceAdd, Nat.reduceLeDiff, Nat.reduceBEq, Nat.reduceSub, if_true, ite_true, cond_true, cond_false, List.replicate, if_false, ite_false, reduceCtorEq]
    obtain ⟨S, hS⟩ : ∃ S : FuG → List AV, ∀ g, S g = [.any, .any, .any, .any, .any, .ptr H.length 0, iv k, iv (have' true g.i), iv g.i] ++ List.replicate 88 .any := ⟨_, fun _ => rfl⟩
    refine W.loopG (γ := FuG) (fun g => k - g.i) S (fun g => g.H) (fun g => g.i ≤ k ∧ ImAt g.H H.length g.r (fulS true g.i) ∧ Ow H (g.r.F H.length) g.H) ⟨0, _, r3⟩ (Wk.slots (by rw [hS]; exact WkL.tail 9 _ rfl (by simp only [List.take_succ_cons, List.take_zero]; repeat' first | exact WkL.nil | refine WkL.cons (Wk1.rfl _) ?_ | refine WkL.cons Wk1.esl ?_ | refine WkL.cons (Wk1.gsl _ _ _) ?_ | refine WkL.cons (Wk1.any _) ?_))) ⟨Nat.zero_le _, i3, o3⟩ (fun g hg => ?_)
    obtain ⟨q2, q3, q4⟩ := hg
    have hst := ful_step true (i := g.i)
    simp (disch := omega) only [hS, c7l0, DC_w, DC_n, kill_0, Nat.sub_zero, ↓rD0, ↓rD1, ↓rD2, ↓rD3, ↓rD4, rU0, rU1, rU2, rU3, rU4, rU5, toNat_n, Int.reduceToNat, slA, ptrsA, boolsA, Int.reducePow, Nat.reducePow, Nat.reduceMul, Int.reduceLT, Int.reduceLE, resA, resL, res1, eq_self, wanted, evK, get, setO, one, faA, loadA, storeA, outA, lenA, isStr, binA, unA, bnd, ints, toDat, toDats, datss, fillA, splice, List.length_nil, List.flatten_nil, Nat.reduceAdd, Nat.reduceLeDiff, Nat.reduceBEq, Nat.reduceSub, if_true, ite_true, cond_true, cond_false, List.replicate, if_false, ite_false, reduceCtorEq]
    refine Br.dec (fun hc => ?_) (fun hc => ?_) <;> simp (disch := omega) only [DC_w, DC_n, kill_0, Nat.sub_zero, ↓rD0, ↓rD1, ↓rD2, ↓rD3, ↓rD4, rU0, rU1, rU2, rU3, rU4, rU5, toNat_n, Int.reduceToNat, slA, ptrsA, boolsA, Int.reducePow, Nat.reducePow, Nat.reduceMul, Int.reduceLT, Int.reduceLE, resA, resL, res1, eq_self, wanted, evK, get, setO, one, faA, loadA, storeA, outA, lenA, isStr, binA, unA, bnd, ints, toDat, toDats, datss, fillA, splice, List.length_nil, List.flatten_nil, Nat.reduceAdd, Nat.reduceLeDiff, Nat.reduceBEq, Nat.reduceSub, if_true, ite_true, cond_true, cond_false, List.replicate, if_false, ite_false, reduceCtorEq]
    · obtain ⟨s1, s2⟩ := hst (by omega)
      refine Cont.mk (made_c g.i (by omega) _) ?_
      simp (disch := omega) only [DC_w, DC_n, kill_0, Nat.sub_zero, ↓rD0, ↓rD1, ↓rD2, ↓rD3, ↓rD4, rU0, rU1, rU2, rU3, rU4, rU5, toNat_n, Int.reduceToNat, slA, ptrsA, boolsA, Int.reducePow, Nat.reducePow, Nat.reduceMul, Int.reduceLT, Int.reduceLE, resA, resL, res1, eq_self, wanted, evK, get, setO, one, faA, loadA, storeA, outA, lenA, isStr, binA, unA, bnd, ints, toDat, toDats, datss, fillA, splice, List.length_nil, List.flatten_nil, Nat.reduceAdd, Nat.reduceLeDiff, Nat.reduceBEq, Nat.reduceSub, if_true, ite_true, cond_true, cond_false, List.replicate, if_false, ite_false, reduceCtorEq]
      obtain ⟨H4, r4, a4, i4, k4⟩ := declare_c q3 (mdS g.i) (by rw [mdS_size]; omega) g.i
      rw [s1] at i4
      have o4 := q4.chg k4
      refine Cont.mk a4 ?_
      by_cases h3 : have' true g.i < 256
      · have s3 : declV (fulS true g.i) (mdS g.i) = 0 := by rw [s2, if_pos h3]
        have s4 : have' true (g.i + 1) = have' true g.i + 1 := by
          simp only [have', cnt] at h3 ⊢
          simp at h3 ⊢; omega
        rw [s3]
        simp (disch := omega) only [DC_w, DC_n, kill_0, Nat.sub_zero, ↓rD0, ↓rD1, ↓rD2, ↓rD3, ↓rD4, rU0, rU1, rU2, rU3, rU4, rU5, toNat_n, Int.reduceToNat, slA, ptrsA, boolsA, Int.reducePow, Nat.reducePow, Nat.reduceMul, Int.reduceLT, Int.reduceLE, resA, resL, res1, eq_self, wanted, evK, get, setO, one, faA, loadA, storeA, outA, lenA, isStr, binA, unA, bnd, ints, toDat, toDats, datss, fillA, splice, List.length_nil, List.flatten_nil, Nat.reduceAdd, Nat.reduceLeDiff, Nat.reduceBEq, Nat.reduceSub, if_true, ite_true, cond_true, cond_false, List.replicate, if_false, ite_false, reduceCtorEq]
        exact Nxt.mk ⟨g.i + 1, _, r4⟩ (by show k - (g.i + 1) < k - g.i; omega) (Wk.slots (by rw [hS]; show WkL _ ([.any, .any, .any, .any, .any, .ptr H.length 0, iv k, iv (have' true (g.i + 1) : Nat), iv (g.i + 1 : Nat)] ++ _); rw [s4]; exact WkL.tail 9 _ rfl (by simp only [List.take_succ_cons, List.take_zero]; repeat' first | exact WkL.nil | refine WkL.cons (Wk1.rfl _) ?_ | refine WkL.cons Wk1.esl ?_ | refine WkL.cons (Wk1.gsl _ _ _) ?_ | refine WkL.cons (Wk1.any _) ?_))) ⟨by show g.i + 1 ≤ k; omega, i4, o4⟩
      · have s3 : declV (fulS true g.i) (mdS g.i) = 3 := by rw [s2, if_neg h3]
        have s4 : have' true (g.i + 1) = have' true g.i := by
          simp only [have', cnt] at h3 ⊢
          simp at h3 ⊢; omega
        rw [s3]
        simp (disch := omega) only [DC_w, DC_n, kill_0, Nat.sub_zero, ↓rD0, ↓rD1, ↓rD2, ↓rD3, ↓rD4, rU0, rU1, rU2, rU3, rU4, rU5, toNat_n, Int.reduceToNat, slA, ptrsA, boolsA, Int.reducePow, Nat.reducePow, Nat.reduceMul, Int.reduceLT, Int.reduceLE, resA, resL, res1, eq_self, wanted, evK, get, setO, one, faA, loadA, storeA, outA, lenA, isStr, binA, unA, bnd, ints, toDat, toDats, datss, fillA, splice, List.length_nil, List.flatten_nil, Nat.reduceAdd, Nat.reduceLeDiff, Nat.reduceBEq, Nat.reduceSub, if_true, ite_true, cond_true, cond_false, List.replicate, if_false, ite_false, reduceCtorEq]
        exact Nxt.mk ⟨g.i + 1, _, r4⟩ (by show k - (g.i + 1) < k - g.i; omega) (Wk.slots (by rw [hS]; show WkL _ ([.any, .any, .any, .any, .any, .ptr H.length 0, iv k, iv (have' true (g.i + 1) : Nat), iv (g.i + 1 : Nat)] ++ _); rw [s4]; exact WkL.tail 9 _ rfl (by simp only [List.take_succ_cons, List.take_zero]; repeat' first | exact WkL.nil | refine WkL.cons (Wk1.rfl _) ?_ | refine WkL.cons Wk1.esl ?_ | refine WkL.cons (Wk1.gsl _ _ _) ?_ | refine WkL.cons (Wk1.any _) ?_))) ⟨by show g.i + 1 ≤ k; omega, i4, o4⟩
    · have hik : g.i = k := by omega
      refine Cont.mk (find_c q3 fS (by decide)) ?_
      rw [ful_find]
      simp (disch := omega) only [findV, DC_w, DC_n, kill_0, Nat.sub_zero, ↓rD0, ↓rD1, ↓rD2, ↓rD3, ↓rD4, rU0, rU1, rU2, rU3, rU4, rU5, toNat_n, Int.reduceToNat, slA, ptrsA, boolsA, Int.reducePow, Nat.reducePow, Nat.reduceMul, Int.reduceLT, Int.reduceLE, resA, resL, res1, eq_self, wanted, evK, get, setO, one, faA, loadA, storeA, outA, lenA, isStr, binA, unA, bnd, ints, toDat, toDats, datss, fillA, splice, List.length_nil, List.flatten_nil, Nat.reduceAdd, Nat.reduceLeDiff, Nat.reduceBEq, Nat.reduceSub, if_true, ite_true, cond_true, cond_false, List.replicate, if_false, ite_false, reduceCtorEq]
      refine Cont.mk (here_l q3) ?_
      have hln : (((lastL (fulS true g.i)).map (·.1)).map sd).length = have' true g.i := by rw [List.length_map, List.length_map, ful_len]
      by_cases hk1 : k = 0
      · simp (disch := omega) only [hln, hk1, DC_w, DC_n, kill_0, Nat.sub_zero, ↓rD0, ↓rD1, ↓rD2, ↓rD3, ↓rD4, rU0, rU1, rU2, rU3, rU4, rU5, toNat_n, Int.reduceToNat, slA, ptrsA, boolsA, Int.reducePow, Nat.reducePow, Nat.reduceMul, Int.reduceLT, Int.reduceLE, resA, resL, res1, eq_self, wanted, evK, get, setO, one, faA, loadA, storeA, outA, lenA, isStr, binA, unA, bnd, ints, toDat, toDats, datss, fillA, splice, List.length_nil, List.flatten_nil, Nat.reduceAdd, Nat.reduceLeDiff, Nat.reduceBEq, Nat.reduceSub, if_true, ite_true, cond_true, cond_false, List.replicate, if_false, ite_false, reduceCtorEq]
        refine Cont.mk (wakes_c _) ?_
        simp (disch := omega) only [DC_w, DC_n, kill_0, Nat.sub_zero, ↓rD0, ↓rD1, ↓rD2, ↓rD3, ↓rD4, rU0, rU1, rU2, rU3, rU4, rU5, toNat_n, Int.reduceToNat, slA, ptrsA, boolsA, Int.reducePow, Nat.reducePow, Nat.reduceMul, Int.reduceLT, Int.reduceLE, resA, resL, res1, eq_self, wanted, evK, get, setO, one, faA, loadA, storeA, outA, lenA, isStr, binA, unA, bnd, ints, toDat, toDats, datss, fillA, splice, List.length_nil, List.flatten_nil, Nat.reduceAdd, Nat.reduceLeDiff, Nat.reduceBEq, Nat.reduceSub, if_true, ite_true, cond_true, cond_false, List.replicate, if_false, ite_false, reduceCtorEq]
        exact Ret.pre _ H q4.1 (Nat.le_refl _) hcl (.rfl _) (by simp [refs]) ⟨rfl, rfl⟩
      · by_cases h3 : have' true g.i = 256
        · simp (disch := omega) only [hln, hk1, h3, DC_w, DC_n, kill_0, Nat.sub_zero, ↓rD0, ↓rD1, ↓rD2, ↓rD3, ↓rD4, rU0, rU1, rU2, rU3, rU4, rU5, toNat_n, Int.reduceToNat, slA, ptrsA, boolsA, Int.reducePow, Nat.reducePow, Nat.reduceMul, Int.reduceLT, Int.reduceLE, resA, resL, res1, eq_self, wanted, evK, get, setO, one, faA, loadA, storeA, outA, lenA, isStr, binA, unA, bnd, ints, toDat, toDats, datss, fillA, splice, List.length_nil, List.flatten_nil, Nat.reduceAdd, Nat.reduceLeDiff, Nat.reduceBEq, Nat.reduceSub, if_true, ite_true, cond_true, cond_false, List.replicate, if_false, ite_false, reduceCtorEq]
          refine Cont.mk (wakes_c _) ?_
          simp (disch := omega) only [DC_w, DC_n, kill_0, Nat.sub_zero, ↓rD0, ↓rD1, ↓rD2, ↓rD3, ↓rD4, rU0, rU1, rU2, rU3, rU4, rU5, toNat_n, Int.reduceToNat, slA, ptrsA, boolsA, Int.reducePow, Nat.reducePow, Nat.reduceMul, Int.reduceLT, Int.reduceLE, resA, resL, res1, eq_self, wanted, evK, get, setO, one, faA, loadA, storeA, outA, lenA, isStr, binA, unA, bnd, ints, toDat, toDats, datss, fillA, splice, List.length_nil, List.flatten_nil, Nat.reduceAdd, Nat.reduceLeDiff, Nat.reduceBEq, Nat.reduceSub, if_true, ite_true, cond_true, cond_false, List.replicate, if_false, ite_false, reduceCtorEq]
          exact Ret.pre _ H q4.1 (Nat.le_refl _) hcl (.rfl _) (by simp [refs]) ⟨rfl, rfl⟩
        · have h4 : ¬ ((have' true g.i : Nat) : Int) = 256 := by omega
          simp (disch := omega) only [hln, hk1, h4, DC_w, DC_n, kill_0, Nat.sub_zero, ↓rD0, ↓rD1, ↓rD2, ↓rD3, ↓rD4, rU0, rU1, rU2, rU3, rU4, rU5, toNat_n, Int.reduceToNat, slA, ptrsA, boolsA, Int.reducePow, Nat.reducePow, Nat.reduceMul, Int.reduceLT, Int.reduceLE, resA, resL, res1, eq_self, wanted, evK, get, setO, one, faA, loadA, storeA, outA, lenA, isStr, binA, unA, bnd, ints, toDat, toDats, datss, fillA, splice, List.length_nil, List.flatten_nil, Nat.reduceAdd, Nat.reduceLeDiff, Nat.reduceBEq, Nat.reduceSub, if_true, ite_true, cond_true, cond_false, List.replicate, if_false, ite_false, reduceCtorEq]
          refine Cont.mk (made_c 0 (by omega) _) ?_
          simp (disch := omega) only [DC_w, DC_n, kill_0, Nat.sub_zero, ↓rD0, ↓rD1, ↓rD2, ↓rD3, ↓rD4, rU0, rU1, rU2, rU3, rU4, rU5, toNat_n, Int.reduceToNat, slA, ptrsA, boolsA, Int.reducePow, Nat.reducePow, Nat.reduceMul, Int.reduceLT, Int.reduceLE, resA, resL, res1, eq_self, wanted, evK, get, setO, one, faA, loadA, storeA, outA, lenA, isStr, binA, unA, bnd, ints, toDat, toDats, datss, fillA, splice, List.length_nil, List.flatten_nil, Nat.reduceAdd, Nat.reduceLeDiff, Nat.reduceBEq, Nat.reduceSub, if_true, ite_true, cond_true, cond_false, List.replicate, if_false, ite_false, reduceCtorEq]
          have htw := ful_twice true (i := g.i) (by omega)
          have hno := declare_no q3 (mdS 0) (by rw [mdS_size]; omega) 5 (by rw [htw]; decide)
          rw [htw] at hno
          refine Cont.mk hno ?_
          simp (disch := omega) only [DC_w, DC_n, kill_0, Nat.sub_zero, ↓rD0, ↓rD1, ↓rD2, ↓rD3, ↓rD4, rU0, rU1, rU2, rU3, rU4, rU5, toNat_n, Int.reduceToNat, slA, ptrsA, boolsA, Int.reducePow, Nat.reducePow, Nat.reduceMul, Int.reduceLT, Int.reduceLE, resA, resL, res1, eq_self, wanted, evK, get, setO, one, faA, loadA, storeA, outA, lenA, isStr, binA, unA, bnd, ints, toDat, toDats, datss, fillA, splice, List.length_nil, List.flatten_nil, Nat.reduceAdd, Nat.reduceLeDiff, Nat.reduceBEq, Nat.reduceSub, if_true, ite_true, cond_true, cond_false, List.replicate, if_false, ite_false, reduceCtorEq]
          refine Cont.mk (wakes_c _) ?_
          simp (disch := omega) only [DC_w, DC_n, kill_0, Nat.sub_zero, ↓rD0, ↓rD1, ↓rD2, ↓rD3, ↓rD4, rU0, rU1, rU2, rU3, rU4, rU5, toNat_n, Int.reduceToNat, slA, ptrsA, boolsA, Int.reducePow, Nat.reducePow, Nat.reduceMul, Int.reduceLT, Int.reduceLE, resA, resL, res1, eq_self, wanted, evK, get, setO, one, faA, loadA, storeA, outA, lenA, isStr, binA, unA, bnd, ints, toDat, toDats, datss, fillA, splice, List.length_nil, List.flatten_nil, Nat.reduceAdd, Nat.reduceLeDiff, Nat.reduceBEq, Nat.reduceSub, if_true, ite_true, cond_true, cond_false, List.replicate, if_false, ite_false, reduceCtorEq]
          exact Ret.pre _ H q4.1 (Nat.le_refl _) hcl (.rfl _) (by simp [refs]) ⟨rfl, rfl⟩
  | false =>
    replace i2 : ImAt H2 H.length r2 (fulS false 0) := i2
    simp (disch := omega) only [DC_w, DC_n, kill_0, Nat.sub_zero, ↓rD0, ↓rD1, ↓rD2, ↓rD3, ↓rD4, rU0, rU1, rU2, rU3, rU4, rU5, toNat_n, Int.reduceToNat, slA, ptrsA, boolsA, Int.reducePow, Nat.reducePow, Nat.reduceMul, Int.reduceLT, Int.reduceLE, resA, resL, res1, eq_self, wanted, evK, get, setO, one, faA, loadA, storeA, outA, lenA, isStr, binA, unA, bnd, ints, toDat, toDats, datss, fillA, splice, List.length_nil, List.flatten_nil, Nat.reduceAdd, Nat.reduceLeDiff, Nat.reduceBEq, Nat.reduceSub, if_true, ite_true, cond_true, cond_false, List.replicate, if_false, ite_false, reduceCtorEq]
    obtain ⟨S, hS⟩ : ∃ S : FuG → List AV, ∀ g, S g = [.any, .any, .any, .any, .any, .ptr H.length 0, iv k, iv (have' false g.i), iv g.i] ++ List.replicate 88 .any := ⟨_, fun _ => rfl⟩
    refine W.loopG (γ := FuG) (fun g => k - g.i) S (fun g => g.H) (fun g => g.i ≤ k ∧ ImAt g.H H.length g.r (fulS false g.i) ∧ Ow H (g.r.F H.length) g.H) ⟨0, _, r2⟩ (Wk.slots (by rw [hS]; exact WkL.tail 9 _ rfl (by simp only [List.take_succ_cons, List.take_zero]; repeat' first | exact WkL.nil | refine WkL.cons (Wk1.rfl _) ?_ | refine WkL.cons Wk1.esl ?_ | refine WkL.cons (Wk1.gsl _ _ _) ?_ | refine WkL.cons (Wk1.any _) ?_))) ⟨Nat.zero_le _, i2, o2⟩ (fun g hg => ?_)
    obtain ⟨q2, q3, q4⟩ := hg
    have hst := ful_step false (i := g.i)
    simp (disch := omega) only [hS, c7l0, DC_w, DC_n, kill_0, Nat.sub_zero, ↓rD0, ↓rD1, ↓rD2, ↓rD3, ↓rD4, rU0, rU1, rU2, rU3, rU4, rU5, toNat_n, Int.reduceToNat, slA, ptrsA, boolsA, Int.reducePow, Nat.reducePow, Nat.reduceMul, Int.reduceLT, Int.reduceLE, resA, resL, res1, eq_self, wanted, evK, get, setO, one, faA, loadA, storeA, outA, lenA, isStr, binA, unA, bnd, ints, toDat, toDats, datss, fillA, splice, List.length_nil, List.flatten_nil, Nat.reduceAdd, Nat.reduceLeDiff, Nat.reduceBEq, Nat.reduceSub, if_true, ite_true, cond_true, cond_false, List.replicate, if_false, ite_false, reduceCtorEq]
    refine Br.dec (fun hc => ?_) (fun hc => ?_) <;> simp (disch := omega) only [DC_w, DC_n, kill_0, Nat.sub_zero, ↓rD0, ↓rD1, ↓rD2, ↓rD3, ↓rD4, rU0, rU1, rU2, rU3, rU4, rU5, toNat_n, Int.reduceToNat, slA, ptrsA, boolsA, Int.reducePow, Nat.reducePow, Nat.reduceMul, Int.reduceLT, Int.reduceLE, resA, resL, res1, eq_self, wanted, evK, get, setO, one, faA, loadA, storeA, outA, lenA, isStr, binA, unA, bnd, ints, toDat, toDats, datss, fillA, splice, List.length_nil, List.flatten_nil, Nat.reduceAdd, Nat.reduceLeDiff, Nat.reduceBEq, Nat.reduceSub, if_true, ite_true, cond_true, cond_false, List.replicate, if_false, ite_false, reduceCtorEq]
    · obtain ⟨s1, s2⟩ := hst (by omega)
      refine Cont.mk (made_c g.i (by omega) _) ?_
      simp (disch := omega) only [DC_w, DC_n, kill_0, Nat.sub_zero, ↓rD0, ↓rD1, ↓rD2, ↓rD3, ↓rD4, rU0, rU1, rU2, rU3, rU4, rU5, toNat_n, Int.reduceToNat, slA, ptrsA, boolsA, Int.reducePow, Nat.reducePow, Nat.reduceMul, Int.reduceLT, Int.reduceLE, resA, resL, res1, eq_self, wanted, evK, get, setO, one, faA, loadA, storeA, outA, lenA, isStr, binA, unA, bnd, ints, toDat, toDats, datss, fillA, splice, List.length_nil, List.flatten_nil, Nat.reduceAdd, Nat.reduceLeDiff, Nat.reduceBEq, Nat.reduceSub, if_true, ite_true, cond_true, cond_false, List.replicate, if_false, ite_false, reduceCtorEq]
      obtain ⟨H4, r4, a4, i4, k4⟩ := declare_c q3 (mdS g.i) (by rw [mdS_size]; omega) g.i
      rw [s1] at i4
      have o4 := q4.chg k4
      refine Cont.mk a4 ?_
      by_cases h3 : have' false g.i < 256
      · have s3 : declV (fulS false g.i) (mdS g.i) = 0 := by rw [s2, if_pos h3]
        have s4 : have' false (g.i + 1) = have' false g.i + 1 := by
          simp only [have', cnt] at h3 ⊢
          simp at h3 ⊢; omega
        rw [s3]
        simp (disch := omega) only [DC_w, DC_n, kill_0, Nat.sub_zero, ↓rD0, ↓rD1, ↓rD2, ↓rD3, ↓rD4, rU0, rU1, rU2, rU3, rU4, rU5, toNat_n, Int.reduceToNat, slA, ptrsA, boolsA, Int.reducePow, Nat.reducePow, Nat.reduceMul, Int.reduceLT, Int.reduceLE, resA, resL, res1, eq_self, wanted, evK, get, setO, one, faA, loadA, storeA, outA, lenA, isStr, binA, unA, bnd, ints, toDat, toDats, datss, fillA, splice, List.length_nil, List.flatten_nil, Nat.reduceAdd, Nat.reduceLeDiff, Nat.reduceBEq, Nat.reduceSub, if_true, ite_true, cond_true, cond_false, List.replicate, if_false, ite_false, reduceCtorEq]
        exact Nxt.mk ⟨g.i + 1, _, r4⟩ (by show k - (g.i + 1) < k - g.i; omega) (Wk.slots (by rw [hS]; show WkL _ ([.any, .any, .any, .any, .any, .ptr H.length 0, iv k, iv (have' false (g.i + 1) : Nat), iv (g.i + 1 : Nat)] ++ _); rw [s4]; exact WkL.tail 9 _ rfl (by simp only [List.take_succ_cons, List.take_zero]; repeat' first | exact WkL.nil | refine WkL.cons (Wk1.rfl _) ?_ | refine WkL.cons Wk1.esl ?_ | refine WkL.cons (Wk1.gsl _ _ _) ?_ | refine WkL.cons (Wk1.any _) ?_))) ⟨by show g.i + 1 ≤ k; omega, i4, o4⟩
      · have s3 : declV (fulS false g.i) (mdS g.i) = 3 := by rw [s2, if_neg h3]
        have s4 : have' false (g.i + 1) = have' false g.i := by
          simp only [have', cnt] at h3 ⊢
          simp at h3 ⊢; omega
        rw [s3]
        simp (disch := omega) only [DC_w, DC_n, kill_0, Nat.sub_zero, ↓rD0, ↓rD1, ↓rD2, ↓rD3, ↓rD4, rU0, rU1, rU2, rU3, rU4, rU5, toNat_n, Int.reduceToNat, slA, ptrsA, boolsA, Int.reducePow, Nat.reducePow, Nat.reduceMul, Int.reduceLT, Int.reduceLE, resA, resL, res1, eq_self, wanted, evK, get, setO, one, faA, loadA, storeA, outA, lenA, isStr, binA, unA, bnd, ints, toDat, toDats, datss, fillA, splice, List.length_nil, List.flatten_nil, Nat.reduceAdd, Nat.reduceLeDiff, Nat.reduceBEq, Nat.reduceSub, if_true, ite_true, cond_true, cond_false, List.replicate, if_false, ite_false, reduceCtorEq]
        exact Nxt.mk ⟨g.i + 1, _, r4⟩ (by show k - (g.i + 1) < k - g.i; omega) (Wk.slots (by rw [hS]; show WkL _ ([.any, .any, .any, .any, .any, .ptr H.length 0, iv k, iv (have' false (g.i + 1) : Nat), iv (g.i + 1 : Nat)] ++ _); rw [s4]; exact WkL.tail 9 _ rfl (by simp only [List.take_succ_cons, List.take_zero]; repeat' first | exact WkL.nil | refine WkL.cons (Wk1.rfl _) ?_ | refine WkL.cons Wk1.esl ?_ | refine WkL.cons (Wk1.gsl _ _ _) ?_ | refine WkL.cons (Wk1.any _) ?_))) ⟨by show g.i + 1 ≤ k; omega, i4, o4⟩
    · have hik : g.i = k := by omega
      refine Cont.mk (find_c q3 fS (by decide)) ?_
      rw [ful_find]
      simp (disch := omega) only [findV, DC_w, DC_n, kill_0, Nat.sub_zero, ↓rD0, ↓rD1, ↓rD2, ↓rD3, ↓rD4, rU0, rU1, rU2, rU3, rU4, rU5, toNat_n, Int.reduceToNat, slA, ptrsA, boolsA, Int.reducePow, Nat.reducePow, Nat.reduceMul, Int.reduceLT, Int.reduceLE, resA, resL, res1, eq_self, wanted, evK, get, setO, one, faA, loadA, storeA, outA, lenA, isStr, binA, unA, bnd, ints, toDat, toDats, datss, fillA, splice, List.length_nil, List.flatten_nil, Nat.reduceAdd, Nat.reduceLeDiff, Nat.reduceBEq, Nat.reduceSub, if_true, ite_true, cond_true, cond_false, List.replicate, if_false, ite_false, reduceCtorEq]
      refine Cont.mk (here_l q3) ?_
      have hln : (((lastL (fulS false g.i)).map (·.1)).map sd).length = have' false g.i := by rw [List.length_map, List.length_map, ful_len]
      by_cases hk1 : k = 0
      · simp (disch := omega) only [hln, hk1, DC_w, DC_n, kill_0, Nat.sub_zero, ↓rD0, ↓rD1, ↓rD2, ↓rD3, ↓rD4, rU0, rU1, rU2, rU3, rU4, rU5, toNat_n, Int.reduceToNat, slA, ptrsA, boolsA, Int.reducePow, Nat.reducePow, Nat.reduceMul, Int.reduceLT, Int.reduceLE, resA, resL, res1, eq_self, wanted, evK, get, setO, one, faA, loadA, storeA, outA, lenA, isStr, binA, unA, bnd, ints, toDat, toDats, datss, fillA, splice, List.length_nil, List.flatten_nil, Nat.reduceAdd, Nat.reduceLeDiff, Nat.reduceBEq, Nat.reduceSub, if_true, ite_true, cond_true, cond_false, List.replicate, if_false, ite_false, reduceCtorEq]
        refine Cont.mk (wakes_c _) ?_
        simp (disch := omega) only [DC_w, DC_n, kill_0, Nat.sub_zero, ↓rD0, ↓rD1, ↓rD2, ↓rD3, ↓rD4, rU0, rU1, rU2, rU3, rU4, rU5, toNat_n, Int.reduceToNat, slA, ptrsA, boolsA, Int.reducePow, Nat.reducePow, Nat.reduceMul, Int.reduceLT, Int.reduceLE, resA, resL, res1, eq_self, wanted, evK, get, setO, one, faA, loadA, storeA, outA, lenA, isStr, binA, unA, bnd, ints, toDat, toDats, datss, fillA, splice, List.length_nil, List.flatten_nil, Nat.reduceAdd, Nat.reduceLeDiff, Nat.reduceBEq, Nat.reduceSub, if_true, ite_true, cond_true, cond_false, List.replicate, if_false, ite_false, reduceCtorEq]
        exact Ret.pre _ H q4.1 (Nat.le_refl _) hcl (.rfl _) (by simp [refs]) ⟨rfl, rfl⟩
      · by_cases h3 : have' false g.i = 256
        · simp (disch := omega) only [hln, hk1, h3, DC_w, DC_n, kill_0, Nat.sub_zero, ↓rD0, ↓rD1, ↓rD2, ↓rD3, ↓rD4, rU0, rU1, rU2, rU3, rU4, rU5, toNat_n, Int.reduceToNat, slA, ptrsA, boolsA, Int.reducePow, Nat.reducePow, Nat.reduceMul, Int.reduceLT, Int.reduceLE, resA, resL, res1, eq_self, wanted, evK, get, setO, one, faA, loadA, storeA, outA, lenA, isStr, binA, unA, bnd, ints, toDat, toDats, datss, fillA, splice, List.length_nil, List.flatten_nil, Nat.reduceAdd, Nat.reduceLeDiff, Nat.reduceBEq, Nat.reduceSub, if_true, ite_true, cond_true, cond_false, List.replicate, if_false, ite_false, reduceCtorEq]
          refine Cont.mk (wakes_c _) ?_
          simp (disch := omega) only [DC_w, DC_n, kill_0, Nat.sub_zero, ↓rD0, ↓rD1, ↓rD2, ↓rD3, ↓rD4, rU0, rU1, rU2, rU3, rU4, rU5, toNat_n, Int.reduceToNat, slA, ptrsA, boolsA, Int.reducePow, Nat.reducePow, Nat.reduceMul, Int.reduceLT, Int.reduceLE, resA, resL, res1, eq_self, wanted, evK, get, setO, one, faA, loadA, storeA, outA, lenA, isStr, binA, unA, bnd, ints, toDat, toDats, datss, fillA, splice, List.length_nil, List.flatten_nil, Nat.reduceAdd, Nat.reduceLeDiff, Nat.reduceBEq, Nat.reduceSub, if_true, ite_true, cond_true, cond_false, List.replicate, if_false, ite_false, reduceCtorEq]
          exact Ret.pre _ H q4.1 (Nat.le_refl _) hcl (.rfl _) (by simp [refs]) ⟨rfl, rfl⟩
        · have h4 : ¬ ((have' false g.i : Nat) : Int) = 256 := by omega
          simp (disch := omega) only [hln, hk1, h4, DC_w, DC_n, kill_0, Nat.sub_zero, ↓rD0, ↓rD1, ↓rD2, ↓rD3, ↓rD4, rU0, rU1, rU2, rU3, rU4, rU5, toNat_n, Int.reduceToNat, slA, ptrsA, boolsA, Int.reducePow, Nat.reducePow, Nat.reduceMul, Int.reduceLT, Int.reduceLE, resA, resL, res1, eq_self, wanted, evK, get, setO, one, faA, loadA, storeA, outA, lenA, isStr, binA, unA, bnd, ints, toDat, toDats, datss, fillA, splice, List.length_nil, List.flatten_nil, Nat.reduceAdd, Nat.reduceLeDiff, Nat.reduceBEq, Nat.reduceSub, if_true, ite_true, cond_true, cond_false, List.replicate, if_false, ite_false, reduceCtorEq]
          refine Cont.mk (made_c 0 (by omega) _) ?_
          simp (disch := omega) only [DC_w, DC_n, kill_0, Nat.sub_zero, ↓rD0, ↓rD1, ↓rD2, ↓rD3, ↓rD4, rU0, rU1, rU2, rU3, rU4, rU5, toNat_n, Int.reduceToNat, slA, ptrsA, boolsA, Int.reducePow, Nat.reducePow, Nat.reduceMul, Int.reduceLT, Int.reduceLE, resA, resL, res1, eq_self, wanted, evK, get, setO, one, faA, loadA, storeA, outA, lenA, isStr, binA, unA, bnd, ints, toDat, toDats, datss, fillA, splice, List.length_nil, List.flatten_nil, Nat.reduceAdd, Nat.reduceLeDiff, Nat.reduceBEq, Nat.reduceSub, if_true, ite_true, cond_true, cond_false, List.replicate, if_false, ite_false, reduceCtorEq]
          have htw := ful_twice false (i := g.i) (by omega)
          have hno := declare_no q3 (mdS 0) (by rw [mdS_size]; omega) 5 (by rw [htw]; decide)
          rw [htw] at hno
          refine Cont.mk hno ?_
          simp (disch := omega) only [DC_w, DC_n, kill_0, Nat.sub_zero, ↓rD0, ↓rD1, ↓rD2, ↓rD3, ↓rD4, rU0, rU1, rU2, rU3, rU4, rU5, toNat_n, Int.reduceToNat, slA, ptrsA, boolsA, Int.reducePow, Nat.reducePow, Nat.reduceMul, Int.reduceLT, Int.reduceLE, resA, resL, res1, eq_self, wanted, evK, get, setO, one, faA, loadA, storeA, outA, lenA, isStr, binA, unA, bnd, ints, toDat, toDats, datss, fillA, splice, List.length_nil, List.flatten_nil, Nat.reduceAdd, Nat.reduceLeDiff, Nat.reduceBEq, Nat.reduceSub, if_true, ite_true, cond_true, cond_false, List.replicate, if_false, ite_false, reduceCtorEq]
          refine Cont.mk (wakes_c _) ?_
          simp (disch := omega) only [DC_w, DC_n, kill_0, Nat.sub_zero, ↓rD0, ↓rD1, ↓rD2, ↓rD3, ↓rD4, rU0, rU1, rU2, rU3, rU4, rU5, toNat_n, Int.reduceToNat, slA, ptrsA, boolsA, Int.reducePow, Nat.reducePow, Nat.reduceMul, Int.reduceLT, Int.reduceLE, resA, resL, res1, eq_self, wanted, evK, get, setO, one, faA, loadA, storeA, outA, lenA, isStr, binA, unA, bnd, ints, toDat, toDats, datss, fillA, splice, List.length_nil, List.flatten_nil, Nat.reduceAdd, Nat.reduceLeDiff, Nat.reduceBEq, Nat.reduceSub, if_true, ite_true, cond_true, cond_false, List.replicate, if_false, ite_false, reduceCtorEq]
          exact Ret.pre _ H q4.1 (Nat.le_refl _) hcl (.rfl _) (by simp [refs]) ⟨rfl, rfl⟩
end Go.Proofs.Ythgffjaiklmbcaa
