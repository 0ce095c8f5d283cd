/- A scope of the program: where it lies, and the calls that change nothing. -/
import Derived.Test.YthgffjaiklmbcaaPl
namespace Go.Proofs.Ythgffjaiklmbcaa
set_option linter.unusedSimpArgs false
set_option linter.unusedVariables false
set_option maxRecDepth 20000
set_option maxHeartbeats 2000000
open Go.RowKit

abbrev kt : KT := ⟨true, [.i .i64, .s]⟩
structure Im where
  m : Option (Nat × Nat × List En)
  l : Option (Nat × Nat × List AV)
  f : AV
  rs : List AV
def Im.mA (r : Im) : AV := match r.m with | none => .mnil | some x => .mp x.1
def Im.lA (r : Im) : AV := match r.l with | none => .esl | some x => .hsl x.1 0 r.rs.length x.2.1 1
def Im.E (r : Im) : List En := match r.m with | none => [] | some x => x.2.2
def Im.mB (r : Im) : List Nat := match r.m with | none => [] | some x => [x.1]
def Im.lB (r : Im) : List Nat := match r.l with | none => [] | some x => [x.1]
def Im.F (r : Im) (sb : Nat) : List Nat := sb :: (r.mB ++ (r.lB ++ (rowB r.f ++ r.rs.flatMap rowB)))
structure ImAt (H : List ABlk) (sb : Nat) (r : Im) (st : St) : Prop where
  s : H[sb]? = some (.cells [r.mA, r.lA, r.f])
  m : ∀ x, r.m = some x → H[x.1]? = some (.map kt x.2.1 (x.2.2.map En.e))
  l : ∀ x, r.l = some x → H[x.1]? = some (.cells (r.rs ++ x.2.2)) ∧ r.rs.length ≤ x.2.1
  l0 : r.l = none → r.rs = []
  rows : RowsA 9 sd H (r.f :: r.rs) (st.map (·.map (·.1)))
  nd : (r.F sb).Nodup
  en : EN r.E
  get : ∀ k s, (getE r.E k s).map En.n = if 0 ≤ k ∧ k < st.length then lvGet (st.getD k.toNat []) s else none
  len : st.length ≤ 64
  lvs : ∀ l ∈ st, l.length ≤ 256 ∧ ∀ x ∈ l, x.1.size ≤ 24
theorem ImAt.dl {H : List ABlk} {sb : Nat} {r : Im} {st : St} (h : ImAt H sb r st) : r.rs.length + 1 = st.length := by
  have := h.rows.1; simpa using this
theorem ImAt.frame {H H' : List ABlk} {sb : Nat} {r : Im} {st : St} (h : ImAt H sb r st) (hH : ∀ b ∈ r.F sb, H'[b]? = H[b]?) : ImAt H' sb r st where
  s := by rw [hH sb (by simp [Im.F]), h.s]
  m := fun x hx => by rw [hH x.1 (by simp [Im.F, Im.mB, hx]), h.m x hx]
  l := fun x hx => by rw [hH x.1 (by simp [Im.F, Im.lB, hx])]; exact h.l x hx
  l0 := h.l0
  rows := h.rows.frame fun b hb => hH b (by simp only [List.flatMap_cons, List.mem_append] at hb; simp only [Im.F, List.mem_cons, List.mem_append]; exact .inr (.inr (.inr hb)))
  nd := h.nd
  en := h.en
  get := h.get
  len := h.len
  lvs := h.lvs
theorem ImAt.ext {H : List ABlk} {sb : Nat} {r : Im} {st : St} (h : ImAt H sb r st) (hlt : ∀ b ∈ r.F sb, b < H.length) (l : List ABlk) : ImAt (H ++ l) sb r st :=
  h.frame fun b hb => List.getElem?_append_left (hlt b hb)
theorem ImAt.lt {H : List ABlk} {sb : Nat} {r : Im} {st : St} (h : ImAt H sb r st) : ∀ b ∈ r.F sb, b < H.length := by
  have g : ∀ {b : Nat} {k : ABlk}, H[b]? = some k → b < H.length := fun h => (List.getElem?_eq_some_iff.1 h).1
  have row : ∀ x ∈ r.f :: r.rs, ∀ b ∈ rowB x, b < H.length := fun x hx b hb => by
    obtain ⟨i, hi, rfl⟩ := List.mem_iff_getElem.1 hx
    have hl := h.rows.1
    rcases h.rows.2 i _ _ (List.getElem?_eq_getElem hi) (List.getElem?_eq_getElem (by rw [← hl]; exact hi)) with ⟨e, _⟩ | ⟨b', e, hb'⟩
    · rw [e] at hb; simp [rowB] at hb
    · rw [e] at hb; simp [rowB] at hb; subst hb; exact g hb'
  intro b hb
  simp only [Im.F, List.mem_cons, List.mem_append] at hb
  rcases hb with rfl | hb | hb | hb | hb
  · exact g h.s
  · unfold Im.mB at hb
    split at hb
    · simp at hb
    · rename_i x hx; simp at hb; subst hb; exact g (h.m x hx)
  · unfold Im.lB at hb
    split at hb
    · simp at hb
    · rename_i x hx; simp at hb; subst hb; exact g (h.l x hx).1
  · exact row r.f List.mem_cons_self b hb
  · obtain ⟨x, hx, hb⟩ := List.mem_flatMap.1 hb
    exact row x (List.mem_cons_of_mem _ hx) b hb
theorem lenA_l (r : Im) (h : r.l = none → r.rs = []) : lenA r.lA = some r.rs.length := by
  unfold Im.lA
  split
  · rename_i e; rw [h e]; rfl
  · rfl
theorem isStr_l (r : Im) : isStr r.lA = false := by
  unfold Im.lA
  split <;> rfl

theorem depth_c {H : List ABlk} {sb : Nat} {r : Im} {st : St} (h : ImAt H sb r st) : ACalls Try.prog 10 [.ptr sb 0] H fun v H' => v = iv ((st.length : Int) - 1) ∧ H' = H := by
  refine ACalls.into Try.func10 cc10 rr10 fun hcl => ?_
  have hl := lenA_l r h.l0
  have hs := isStr_l r
  have hd := h.dl
  simp only [lenA, isStr] at hl hs
  simp (disch := omega) only [Try.ntmps10, c10, r10, h.s, hl, hs, DC_w, DC_n, kill_0, Nat.sub_zero, ↓rD0, ↓rD1, ↓rD2, ↓rD3, ↓rD4, rU0, rU1, rU2, rU3, rU4, rU5, toNat_n, Int.reduceToNat, slA, ptrsA, boolsA, Int.reducePow, Nat.reducePow, Nat.reduceMul, Int.reduceLT, Int.reduceLE, resA, resL, res1, eq_self, wanted, evK, get, setO, one, faA, loadA, storeA, outA, lenA, isStr, binA, unA, bnd, ints, toDat, toDats, datss, fillA, splice, List.length_nil, List.flatten_nil, Nat.reduceAdd, Nat.reduceLeDiff, Nat.reduceBEq, Nat.reduceSub, if_true, ite_true, cond_true, cond_false, List.replicate, if_false, ite_false, reduceCtorEq]
  exact Ret.keep ⟨by rw [show ((st.length : Int) - 1) = (r.rs.length : Int) by omega], rfl⟩
theorem depth_n {H : List ABlk} : ACalls Try.prog 10 [.nilp] H fun v H' => v = iv (-1) ∧ H' = H := by
  refine ACalls.into Try.func10 cc10 rr10 fun hcl => ?_
  simp (disch := omega) only [Try.ntmps10, c10, r10, DC_w, DC_n, kill_0, Nat.sub_zero, ↓rD0, ↓rD1, ↓rD2, ↓rD3, ↓rD4, rU0, rU1, rU2, rU3, rU4, rU5, toNat_n, Int.reduceToNat, slA, ptrsA, boolsA, Int.reducePow, Nat.reducePow, Nat.reduceMul, Int.reduceLT, Int.reduceLE, resA, resL, res1, eq_self, wanted, evK, get, setO, one, faA, loadA, storeA, outA, lenA, isStr, binA, unA, bnd, ints, toDat, toDats, datss, fillA, splice, List.length_nil, List.flatten_nil, Nat.reduceAdd, Nat.reduceLeDiff, Nat.reduceBEq, Nat.reduceSub, if_true, ite_true, cond_true, cond_false, List.replicate, if_false, ite_false, reduceCtorEq]
  exact Ret.keep ⟨rfl, rfl⟩
/-- Where the innermost level's list stands. -/
def Im.at' (r : Im) (sb : Nat) : Nat × Nat := match r.l with
  | none => (sb, 2)
  | some x => if r.rs.length = 0 then (sb, 2) else (x.1, r.rs.length - 1)
theorem here_c {H : List ABlk} {sb : Nat} {r : Im} {st : St} (h : ImAt H sb r st) : ACalls Try.prog 26 [.ptr sb 0] H fun v H' => v = .ptr (r.at' sb).1 (r.at' sb).2 ∧ H' = H := by
  refine ACalls.into Try.func26 cc26 rr26 fun hcl => ?_
  have hs := h.s
  have hd := h.dl
  have hlen := h.len
  cases e : r.l with
  | none =>
    have h0 := h.l0 e
    simp only [Im.lA, e] at hs
    simp (disch := omega) only [Try.ntmps26, c26, r26, hs, DC_w, DC_n, kill_0, Nat.sub_zero, ↓rD0, ↓rD1, ↓rD2, ↓rD3, ↓rD4, rU0, rU1, rU2, rU3, rU4, rU5, toNat_n, Int.reduceToNat, slA, ptrsA, boolsA, Int.reducePow, Nat.reducePow, Nat.reduceMul, Int.reduceLT, Int.reduceLE, resA, resL, res1, eq_self, wanted, evK, get, setO, one, faA, loadA, storeA, outA, lenA, isStr, binA, unA, bnd, ints, toDat, toDats, datss, fillA, splice, List.length_nil, List.flatten_nil, Nat.reduceAdd, Nat.reduceLeDiff, Nat.reduceBEq, Nat.reduceSub, if_true, ite_true, cond_true, cond_false, List.replicate, if_false, ite_false, reduceCtorEq]
    exact Ret.keep ⟨by simp only [Im.at', e], rfl⟩
  | some x =>
    simp only [Im.lA, e] at hs
    by_cases h0 : r.rs.length = 0
    · simp (disch := omega) only [Try.ntmps26, c26, r26, hs, h0, DC_w, DC_n, kill_0, Nat.sub_zero, ↓rD0, ↓rD1, ↓rD2, ↓rD3, ↓rD4, rU0, rU1, rU2, rU3, rU4, rU5, toNat_n, Int.reduceToNat, slA, ptrsA, boolsA, Int.reducePow, Nat.reducePow, Nat.reduceMul, Int.reduceLT, Int.reduceLE, resA, resL, res1, eq_self, wanted, evK, get, setO, one, faA, loadA, storeA, outA, lenA, isStr, binA, unA, bnd, ints, toDat, toDats, datss, fillA, splice, List.length_nil, List.flatten_nil, Nat.reduceAdd, Nat.reduceLeDiff, Nat.reduceBEq, Nat.reduceSub, if_true, ite_true, cond_true, cond_false, List.replicate, if_false, ite_false, reduceCtorEq]
      exact Ret.keep ⟨by simp only [Im.at', e, h0, if_true], rfl⟩
    · simp (disch := omega) only [Try.ntmps26, c26, r26, hs, DC_w, DC_n, kill_0, Nat.sub_zero, ↓rD0, ↓rD1, ↓rD2, ↓rD3, ↓rD4, rU0, rU1, rU2, rU3, rU4, rU5, toNat_n, Int.reduceToNat, slA, ptrsA, boolsA, Int.reducePow, Nat.reducePow, Nat.reduceMul, Int.reduceLT, Int.reduceLE, resA, resL, res1, eq_self, wanted, evK, get, setO, one, faA, loadA, storeA, outA, lenA, isStr, binA, unA, bnd, ints, toDat, toDats, datss, fillA, splice, List.length_nil, List.flatten_nil, Nat.reduceAdd, Nat.reduceLeDiff, Nat.reduceBEq, Nat.reduceSub, if_true, ite_true, cond_true, cond_false, List.replicate, if_false, ite_false, reduceCtorEq]
      refine Ret.keep ⟨?_, rfl⟩
      simp only [Im.at', e, if_neg h0]; congr 1; omega

theorem keyOf_k (k : Int) (s : ByteArray) : keyOf (.agg [iv k, sv s]) = some (key k s) := rfl
theorem fits_k {k : Int} {s : ByteArray} (h1 : -1 ≤ k) (h2 : k ≤ 100) (hs : s.size ≤ 5000) : keyFits kt (key k s) = true := by
  simp only [keyFits, key, fitL, kcFit, Bool.and_true, Bool.and_eq_true, decide_eq_true_eq, beq_self_eq_true, true_and, maxLen]
  refine ⟨⟨?_, ?_⟩, decide_eq_true (by omega)⟩
  · have : IntKind.i64.min = -9223372036854775808 := by decide
    omega
  · have : IntKind.i64.max = 9223372036854775807 := by decide
    omega
theorem mapOf_r {H : List ABlk} {sb : Nat} {r : Im} {st : St} (h : ImAt H sb r st) : mapOf H kt r.mA = some (r.E.map En.e) := by
  unfold Im.mA Im.E
  cases e : r.m with
  | none => rfl
  | some x => simp only [mapOf, h.m x e, if_true]
theorem mapGet_r {H : List ABlk} {sb : Nat} {r : Im} {st : St} (h : ImAt H sb r st) (k : Nat) (hk : k < st.length) (s : ByteArray) : (mapGet (r.E.map En.e) (key k s)).map (·.1) = (lvGet (st.getD k []) s).map iv := by
  have := h.get k s
  rw [if_pos (by omega), Int.toNat_natCast] at this
  rw [mapGet_E, ← this, Option.map_map, Option.map_map]
  rfl
theorem find_c {H : List ABlk} {sb : Nat} {r : Im} {st : St} (h : ImAt H sb r st) (s : ByteArray) (hs : s.size ≤ 5000) : ACalls Try.prog 13 [.ptr sb 0, sv s] H fun v H' => v = findV (findD st s st.length) ∧ H' = H := by
  refine ACalls.into Try.func13 cc13 rr13 fun hcl => ?_
  simp (disch := omega) only [Try.ntmps13, c13, r13, DC_w, DC_n, kill_0, Nat.sub_zero, ↓rD0, ↓rD1, ↓rD2, ↓rD3, ↓rD4, rU0, rU1, rU2, rU3, rU4, rU5, toNat_n, Int.reduceToNat, slA, ptrsA, boolsA, Int.reducePow, Nat.reducePow, Nat.reduceMul, Int.reduceLT, Int.reduceLE, resA, resL, res1, eq_self, wanted, evK, get, setO, one, faA, loadA, storeA, outA, lenA, isStr, binA, unA, bnd, ints, toDat, toDats, datss, fillA, splice, List.length_nil, List.flatten_nil, Nat.reduceAdd, Nat.reduceLeDiff, Nat.reduceBEq, Nat.reduceSub, if_true, ite_true, cond_true, cond_false, List.replicate, if_false, ite_false, reduceCtorEq]
  refine Cont.mk (depth_c h) ?_
  have h1 := h.dl
  have h2 := h.len
  simp (disch := omega) only [DC_w, DC_n, kill_0, Nat.sub_zero, ↓rD0, ↓rD1, ↓rD2, ↓rD3, ↓rD4, rU0, rU1, rU2, rU3, rU4, rU5, toNat_n, Int.reduceToNat, slA, ptrsA, boolsA, Int.reducePow, Nat.reducePow, Nat.reduceMul, Int.reduceLT, Int.reduceLE, resA, resL, res1, eq_self, wanted, evK, get, setO, one, faA, loadA, storeA, outA, lenA, isStr, binA, unA, bnd, ints, toDat, toDats, datss, fillA, splice, List.length_nil, List.flatten_nil, Nat.reduceAdd, Nat.reduceLeDiff, Nat.reduceBEq, Nat.reduceSub, if_true, ite_true, cond_true, cond_false, List.replicate, if_false, ite_false, reduceCtorEq]
  refine W.loopG (γ := Nat) (fun i => i) (fun i => [.ptr sb 0, sv s, .any, .any, .any, .any, .any, iv ((i : Int) - 1)] ++ List.replicate 22 .any) (fun _ => H) (fun i => i ≤ st.length ∧ findD st s st.length = findD st s i) st.length (Wk.slots (by (try simp only [List.replicate, List.cons_append, List.nil_append]); repeat' first | exact WkL.nil | refine WkL.cons (Wk1.rfl _) ?_ | refine WkL.cons Wk1.esl ?_ | refine WkL.cons (Wk1.gsl _ _ _) ?_ | refine WkL.cons (Wk1.any _) ?_)) ⟨Nat.le_refl _, rfl⟩ (fun i hi => ?_)
  obtain ⟨q1, q2⟩ := hi
  simp (disch := omega) only [c13l0, DC_w, DC_n, kill_0, Nat.sub_zero, ↓rD0, ↓rD1, ↓rD2, ↓rD3, ↓rD4, rU0, rU1, rU2, rU3, rU4, rU5, toNat_n, Int.reduceToNat, slA, ptrsA, boolsA, Int.reducePow, Nat.reducePow, Nat.reduceMul, Int.reduceLT, Int.reduceLE, resA, resL, res1, eq_self, wanted, evK, get, setO, one, faA, loadA, storeA, outA, lenA, isStr, binA, unA, bnd, ints, toDat, toDats, datss, fillA, splice, List.length_nil, List.flatten_nil, Nat.reduceAdd, Nat.reduceLeDiff, Nat.reduceBEq, Nat.reduceSub, if_true, ite_true, cond_true, cond_false, List.replicate, if_false, ite_false, reduceCtorEq]
  cases i with
  | zero =>
    simp (disch := omega) only [DC_w, DC_n, kill_0, Nat.sub_zero, ↓rD0, ↓rD1, ↓rD2, ↓rD3, ↓rD4, rU0, rU1, rU2, rU3, rU4, rU5, toNat_n, Int.reduceToNat, slA, ptrsA, boolsA, Int.reducePow, Nat.reducePow, Nat.reduceMul, Int.reduceLT, Int.reduceLE, resA, resL, res1, eq_self, wanted, evK, get, setO, one, faA, loadA, storeA, outA, lenA, isStr, binA, unA, bnd, ints, toDat, toDats, datss, fillA, splice, List.length_nil, List.flatten_nil, Nat.reduceAdd, Nat.reduceLeDiff, Nat.reduceBEq, Nat.reduceSub, if_true, ite_true, cond_true, cond_false, List.replicate, if_false, ite_false, reduceCtorEq]
    exact Ret.keep ⟨by rw [q2]; rfl, rfl⟩
  | succ i =>
    have hg := mapGet_r h i (by omega) s
    have hf := fits_k (k := (i : Int)) (s := s) (by omega) (by omega) hs
    have e1 : ((i + 1 : Nat) : Int) - 1 = (i : Int) := by omega
    cases e : lvGet (st.getD i []) s with
    | none =>
      rw [e] at hg
      have hg' : mapGet (r.E.map En.e) (key i s) = none := by simpa using hg
      simp (disch := omega) only [e1, h.s, keyOf_k, hf, mapOf_r h, hg', DC_w, DC_n, kill_0, Nat.sub_zero, ↓rD0, ↓rD1, ↓rD2, ↓rD3, ↓rD4, rU0, rU1, rU2, rU3, rU4, rU5, toNat_n, Int.reduceToNat, slA, ptrsA, boolsA, Int.reducePow, Nat.reducePow, Nat.reduceMul, Int.reduceLT, Int.reduceLE, resA, resL, res1, eq_self, wanted, evK, get, setO, one, faA, loadA, storeA, outA, lenA, isStr, binA, unA, bnd, ints, toDat, toDats, datss, fillA, splice, List.length_nil, List.flatten_nil, Nat.reduceAdd, Nat.reduceLeDiff, Nat.reduceBEq, Nat.reduceSub, if_true, ite_true, cond_true, cond_false, List.replicate, if_false, ite_false, reduceCtorEq]
      exact Nxt.mk i (by omega) (Wk.slots (by (try simp only [List.replicate, List.cons_append, List.nil_append]); repeat' first | exact WkL.nil | refine WkL.cons (Wk1.rfl _) ?_ | refine WkL.cons Wk1.esl ?_ | refine WkL.cons (Wk1.gsl _ _ _) ?_ | refine WkL.cons (Wk1.any _) ?_)) ⟨by omega, by rw [q2, findD, e]⟩
    | some n =>
      rw [e] at hg
      obtain ⟨p, hp, hp2⟩ := Option.map_eq_some_iff.1 hg
      obtain ⟨p1, p2⟩ := p
      simp only at hp2
      subst hp2
      simp (disch := omega) only [e1, h.s, keyOf_k, hf, mapOf_r h, hp, DC_w, DC_n, kill_0, Nat.sub_zero, ↓rD0, ↓rD1, ↓rD2, ↓rD3, ↓rD4, rU0, rU1, rU2, rU3, rU4, rU5, toNat_n, Int.reduceToNat, slA, ptrsA, boolsA, Int.reducePow, Nat.reducePow, Nat.reduceMul, Int.reduceLT, Int.reduceLE, resA, resL, res1, eq_self, wanted, evK, get, setO, one, faA, loadA, storeA, outA, lenA, isStr, binA, unA, bnd, ints, toDat, toDats, datss, fillA, splice, List.length_nil, List.flatten_nil, Nat.reduceAdd, Nat.reduceLeDiff, Nat.reduceBEq, Nat.reduceSub, if_true, ite_true, cond_true, cond_false, List.replicate, if_false, ite_false, reduceCtorEq]
      exact Ret.keep ⟨by rw [q2, findD, e]; rfl, rfl⟩
end Go.Proofs.Ythgffjaiklmbcaa
