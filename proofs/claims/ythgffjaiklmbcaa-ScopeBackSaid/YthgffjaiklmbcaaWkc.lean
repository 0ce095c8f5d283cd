/- A scope of the reference: Declare. Printed by gen9.py. -/
import Derived.Test.YthgffjaiklmbcaaWkb
namespace Go.Proofs.Ythgffjaiklmbcaa
set_option linter.unusedSimpArgs false
set_option linter.unusedVariables false
set_option maxRecDepth 20000
set_option maxHeartbeats 4000000
open Go.RowKit

theorem rfF_eq {qb : Nat} {r : Rf} {ni fi : List AV} {x y : AV} (hn : r.ns = ni ++ [x]) (hf : r.fs = fi ++ [y]) : r.F qb = qb :: r.nb :: r.fb :: ((ni.flatMap rowB ++ rowB x) ++ (fi.flatMap rowB ++ rowB y)) := by
  rw [Rf.F, hn, hf]; simp
theorem RfAt.declR {H H' : List ABlk} {qb rb vb : Nat} {r : Rf} {st : St} {ni fi : List AV} {x y : AV} {s : ByteArray} {n : Int} (h : RfAt H qb r st) (hn : r.ns = ni ++ [x]) (hf : r.fs = fi ++ [y])
    (hrb : rb ∈ rowB x ∨ H.length ≤ rb) (hvb : vb ∈ rowB y ∨ H.length ≤ vb) (hne : rb ≠ vb) (hs : s.size ≤ 24) (hll : (lastL st).length < 256)
    (h1 : H'[qb]? = H[qb]?) (h2 : H'[r.nb]? = some (.cells (ni ++ .gsl rb 1 (((lastL st).map (·.1) ++ [s]).map sd) :: r.nj))) (h3 : H'[r.fb]? = some (.cells (fi ++ .gsl vb 1 (((lastL st).map (·.2) ++ [n]).map nd) :: r.fj)))
    (h4 : H'[rb]? = some (.row 9 1 ((lastL st).length + 1))) (h5 : H'[vb]? = some (.row 3 1 ((lastL st).length + 1))) (h6 : ∀ c ∈ ni.flatMap rowB ++ fi.flatMap rowB, H'[c]? = H[c]?) :
    RfAt H' qb ⟨r.nb, r.nc, r.nj, ni ++ [.gsl rb 1 (((lastL st).map (·.1) ++ [s]).map sd)], r.fb, r.fc, r.fj, fi ++ [.gsl vb 1 (((lastL st).map (·.2) ++ [n]).map nd)]⟩ (st.set (st.length - 1) (lastL st ++ [(s, n)])) := by
  have hnd := h.ndp
  have hlt := h.lt
  have hF := rfF_eq (qb := qb) hn hf
  have hl := h.len
  have hrn := h.rn
  have hrf := h.rf
  rw [hn] at hrn
  rw [hf] at hrf
  obtain ⟨g1, g2, _⟩ := rows_last hrn
  obtain ⟨k1, k2, _⟩ := rows_last hrf
  rw [List.length_map] at g1 k1
  have hset : ∀ z : Lv, st.set (st.length - 1) z = st.take (st.length - 1) ++ [z] := fun z => by
    rw [List.set_eq_take_append_cons_drop, if_pos (by omega), List.drop_eq_nil_of_le (by omega)]
  have hm := h.lvs (lastL st) (List.mem_of_getElem? (last_get hl.1))
  rw [hF] at hnd
  constructor
  · rw [h1, h.q, List.length_set]
  · rw [h2]; simp
  · rw [h3]; simp
  · rw [List.length_set]; exact h.c
  · rw [hset]
    have hlast : RowsA 9 sd H' [.gsl rb 1 (((lastL st).map (·.1) ++ [s]).map sd)] [(lastL st ++ [(s, n)]).map (·.1)] := ⟨rfl, fun i x l hx hl => by
      match i, hx, hl with
      | 0, hx, hl => cases hx; cases hl; exact .inr ⟨rb, by simp, by rw [h4]; simp⟩⟩
    have hfst : RowsA 9 sd H' ni ((st.take (st.length - 1)).map (·.map (·.1))) := by
      rw [List.map_take, show st.length - 1 = ni.length by omega]; exact g2.frame fun b hb => h6 b (List.mem_append.2 (.inl hb))
    have := hfst.app hlast
    simpa only [List.map_append, List.map_cons, List.map_nil] using this
  · rw [hset]
    have hlast : RowsA 3 nd H' [.gsl vb 1 (((lastL st).map (·.2) ++ [n]).map nd)] [(lastL st ++ [(s, n)]).map (·.2)] := ⟨rfl, fun i x l hx hl => by
      match i, hx, hl with
      | 0, hx, hl => cases hx; cases hl; exact .inr ⟨vb, by simp, by rw [h5]; simp⟩⟩
    have hfst : RowsA 3 nd H' fi ((st.take (st.length - 1)).map (·.map (·.2))) := by
      rw [List.map_take, show st.length - 1 = fi.length by omega]; exact k2.frame fun b hb => h6 b (List.mem_append.2 (.inr hb))
    have := hfst.app hlast
    simpa only [List.map_append, List.map_cons, List.map_nil] using this
  · rw [rfF_eq (r := ⟨r.nb, r.nc, r.nj, ni ++ [.gsl rb 1 (((lastL st).map (·.1) ++ [s]).map sd)], r.fb, r.fc, r.fj, fi ++ [.gsl vb 1 (((lastL st).map (·.2) ++ [n]).map nd)]⟩) (qb := qb) rfl rfl]
    rw [hF] at hlt
    simp only [rowB]
    simp only [List.nodup_cons, List.nodup_append, List.mem_append, List.mem_cons, not_or, List.not_mem_nil, or_false] at hnd hlt ⊢
    obtain ⟨⟨a1, a2, ⟨a3, a4⟩, a5, a6⟩, ⟨b1, ⟨b2, b3⟩, b4, b5⟩, ⟨⟨c2, c3⟩, c4, c5⟩, ⟨d1, d2, d3⟩, ⟨e1, e2, e3⟩, f3⟩ := hnd
    have r1 : rb ≠ qb := fun e => by
      rcases hrb with h' | h'
      · exact a4 (e ▸ h')
      · have := hlt qb (.inl rfl); omega
    have r2 : rb ≠ r.nb := fun e => by
      rcases hrb with h' | h'
      · exact b3 (e ▸ h')
      · have := hlt r.nb (.inr (.inl rfl)); omega
    have r3 : rb ≠ r.fb := fun e => by
      rcases hrb with h' | h'
      · exact c3 (e ▸ h')
      · have := hlt r.fb (.inr (.inr (.inl rfl))); omega
    have r4 : rb ∉ ni.flatMap rowB := fun e => by
      rcases hrb with h' | h'
      · exact d3 rb e rb h' rfl
      · have := hlt rb (.inr (.inr (.inr (.inl (.inl e))))); omega
    have r5 : rb ∉ fi.flatMap rowB := fun e => by
      rcases hrb with h' | h'
      · exact f3 rb (.inr h') rb (.inl e) rfl
      · have := hlt rb (.inr (.inr (.inr (.inr (.inl e))))); omega
    have v1 : vb ≠ qb := fun e => by
      rcases hvb with h' | h'
      · exact a6 (e ▸ h')
      · have := hlt qb (.inl rfl); omega
    have v2 : vb ≠ r.nb := fun e => by
      rcases hvb with h' | h'
      · exact b5 (e ▸ h')
      · have := hlt r.nb (.inr (.inl rfl)); omega
    have v3 : vb ≠ r.fb := fun e => by
      rcases hvb with h' | h'
      · exact c5 (e ▸ h')
      · have := hlt r.fb (.inr (.inr (.inl rfl))); omega
    have v4 : vb ∉ ni.flatMap rowB := fun e => by
      rcases hvb with h' | h'
      · exact f3 vb (.inl e) vb (.inr h') rfl
      · have := hlt vb (.inr (.inr (.inr (.inl (.inl e))))); omega
    have v5 : vb ∉ fi.flatMap rowB := fun e => by
      rcases hvb with h' | h'
      · exact e3 vb e vb h' rfl
      · have := hlt vb (.inr (.inr (.inr (.inr (.inl e))))); omega
    refine ⟨⟨a1, a2, ⟨a3, Ne.symm r1⟩, a5, Ne.symm v1⟩, ⟨b1, ⟨b2, Ne.symm r2⟩, b4, Ne.symm v2⟩, ⟨⟨c2, Ne.symm r3⟩, c4, Ne.symm v3⟩, ⟨d1, ⟨not_false, .nil⟩, ?_⟩, ⟨e1, ⟨not_false, .nil⟩, ?_⟩, ?_⟩
    · rintro a ha _ rfl rfl; exact r4 ha
    · rintro a ha _ rfl rfl; exact v5 ha
    · rintro a (ha | rfl) c (hc | rfl) rfl
      · exact f3 a (.inl ha) a (.inl hc) rfl
      · exact v4 ha
      · exact r5 hc
      · exact hne rfl
  · rw [List.length_set]; exact hl
  · intro l hl
    rcases List.mem_or_eq_of_mem_set hl with hl | rfl
    · exact h.lvs l hl
    · refine ⟨by simp; omega, fun x hx => ?_⟩
      rcases List.mem_append.1 hx with hx | hx
      · exact hm.2 x hx
      · simp at hx; subst hx; exact hs

theorem idx_some {st : St} {s : ByteArray} : (lvGet (lastL st) s).isSome = true ↔ ∃ k : Nat, idxS ((lastL st).map (·.1)) s = some k := by
  unfold lvGet
  cases idxS ((lastL st).map (·.1)) s <;> simp
theorem declare_rno {H : List ABlk} {qb : Nat} {r : Rf} {st : St} (h : RfAt H qb r st) (s : ByteArray) (n : Int) (hv : declV st s ≠ 0) : ACalls Try.prog 18 [.ptr qb 0, sv s, iv n] H fun v H' => v = iv (declV st s) ∧ H' = H := by
  refine ACalls.into Try.func18 cc18 rr18 fun hcl => ?_
  have hl := h.len
  have hq := h.q
  have hnm := h.n
  obtain ⟨x, x1, x2, x3, x4⟩ := h.names (k := st.length - 1) (by omega)
  have hsm := h.small (k := st.length - 1) (by omega)
  rw [show st.getD (st.length - 1) [] = lastL st from rfl] at x4 hsm
  have hi : ((st.length : Int) - 1).toNat = st.length - 1 := by omega
  simp (disch := omega) only [Try.ntmps18, c18, r18, DC_w, DC_n, kill_0, Nat.sub_zero, ↓rD0, ↓rD1, ↓rD2, ↓rD3, ↓rD4, rU0, rU1, rU2, rU3, rU4, rU5, toNat_n, Int.reduceToNat, slA, ptrsA, boolsA, Int.reducePow, Nat.reducePow, Nat.reduceMul, Int.reduceLT, Int.reduceLE, resA, resL, res1, eq_self, wanted, evK, get, setO, one, faA, loadA, storeA, outA, lenA, isStr, binA, unA, bnd, ints, toDat, toDats, datss, fillA, splice, List.length_nil, List.flatten_nil, Nat.reduceAdd, Nat.reduceLeDiff, Nat.reduceBEq, Nat.reduceSub, if_true, ite_true, cond_true, cond_false, List.replicate, if_false, ite_false, reduceCtorEq]
  refine Cont.mk (depth_r h) ?_
  simp (disch := omega) only [DC_w, DC_n, kill_0, Nat.sub_zero, ↓rD0, ↓rD1, ↓rD2, ↓rD3, ↓rD4, rU0, rU1, rU2, rU3, rU4, rU5, toNat_n, Int.reduceToNat, slA, ptrsA, boolsA, Int.reducePow, Nat.reducePow, Nat.reduceMul, Int.reduceLT, Int.reduceLE, resA, resL, res1, eq_self, wanted, evK, get, setO, one, faA, loadA, storeA, outA, lenA, isStr, binA, unA, bnd, ints, toDat, toDats, datss, fillA, splice, List.length_nil, List.flatten_nil, Nat.reduceAdd, Nat.reduceLeDiff, Nat.reduceBEq, Nat.reduceSub, if_true, ite_true, cond_true, cond_false, List.replicate, if_false, ite_false, reduceCtorEq]
  refine Cont.mk (word_c s _) ?_
  by_cases h1 : Nm s
  · simp (disch := omega) only [nm_t h1, hq, hnm, x2, x3, hi, DC_w, DC_n, kill_0, Nat.sub_zero, ↓rD0, ↓rD1, ↓rD2, ↓rD3, ↓rD4, rU0, rU1, rU2, rU3, rU4, rU5, toNat_n, Int.reduceToNat, slA, ptrsA, boolsA, Int.reducePow, Nat.reducePow, Nat.reduceMul, Int.reduceLT, Int.reduceLE, resA, resL, res1, eq_self, wanted, evK, get, setO, one, faA, loadA, storeA, outA, lenA, isStr, binA, unA, bnd, ints, toDat, toDats, datss, fillA, splice, List.length_nil, List.flatten_nil, Nat.reduceAdd, Nat.reduceLeDiff, Nat.reduceBEq, Nat.reduceSub, if_true, ite_true, cond_true, cond_false, List.replicate, if_false, ite_false, reduceCtorEq]
    refine Cont.mk (index_a x4 (by simpa using hsm) s _) ?_
    cases e : idxS ((lastL st).map (·.1)) s with
    | some k =>
      simp (disch := omega) only [idxI, DC_w, DC_n, kill_0, Nat.sub_zero, ↓rD0, ↓rD1, ↓rD2, ↓rD3, ↓rD4, rU0, rU1, rU2, rU3, rU4, rU5, toNat_n, Int.reduceToNat, slA, ptrsA, boolsA, Int.reducePow, Nat.reducePow, Nat.reduceMul, Int.reduceLT, Int.reduceLE, resA, resL, res1, eq_self, wanted, evK, get, setO, one, faA, loadA, storeA, outA, lenA, isStr, binA, unA, bnd, ints, toDat, toDats, datss, fillA, splice, List.length_nil, List.flatten_nil, Nat.reduceAdd, Nat.reduceLeDiff, Nat.reduceBEq, Nat.reduceSub, if_true, ite_true, cond_true, cond_false, List.replicate, if_false, ite_false, reduceCtorEq]
      exact Ret.keep ⟨by rw [declV, if_neg (by simpa using h1), if_pos (idx_some.2 ⟨k, e⟩)], rfl⟩
    | none =>
      have h2 : ¬ (lvGet (lastL st) s).isSome = true := fun h' => by obtain ⟨k, hk⟩ := idx_some.1 h'; rw [e] at hk; cases hk
      have h3 : (lastL st).length = 256 := by
        apply Classical.byContradiction
        intro h3
        exact hv (by rw [declV, if_neg (by simpa using h1), if_neg h2, if_neg h3])
      have hlx : lenA x = some 256 := by
        rcases x4 with ⟨rfl, e⟩ | ⟨b, rfl, _⟩
        · have := congrArg List.length e; simp [h3] at this
        · simp [lenA, h3]
      have hxs : isStr x = false := by
        rcases x4 with ⟨rfl, e⟩ | ⟨b, rfl, _⟩ <;> rfl
      simp only [lenA, isStr] at hlx hxs
      simp (disch := omega) only [idxI, hq, hnm, x2, x3, hi, hlx, hxs, DC_w, DC_n, kill_0, Nat.sub_zero, ↓rD0, ↓rD1, ↓rD2, ↓rD3, ↓rD4, rU0, rU1, rU2, rU3, rU4, rU5, toNat_n, Int.reduceToNat, slA, ptrsA, boolsA, Int.reducePow, Nat.reducePow, Nat.reduceMul, Int.reduceLT, Int.reduceLE, resA, resL, res1, eq_self, wanted, evK, get, setO, one, faA, loadA, storeA, outA, lenA, isStr, binA, unA, bnd, ints, toDat, toDats, datss, fillA, splice, List.length_nil, List.flatten_nil, Nat.reduceAdd, Nat.reduceLeDiff, Nat.reduceBEq, Nat.reduceSub, if_true, ite_true, cond_true, cond_false, List.replicate, if_false, ite_false, reduceCtorEq]
      exact Ret.keep ⟨by rw [declV, if_neg (by simpa using h1), if_neg h2, if_pos h3], rfl⟩
  · simp (disch := omega) only [nm_f h1, DC_w, DC_n, kill_0, Nat.sub_zero, ↓rD0, ↓rD1, ↓rD2, ↓rD3, ↓rD4, rU0, rU1, rU2, rU3, rU4, rU5, toNat_n, Int.reduceToNat, slA, ptrsA, boolsA, Int.reducePow, Nat.reducePow, Nat.reduceMul, Int.reduceLT, Int.reduceLE, resA, resL, res1, eq_self, wanted, evK, get, setO, one, faA, loadA, storeA, outA, lenA, isStr, binA, unA, bnd, ints, toDat, toDats, datss, fillA, splice, List.length_nil, List.flatten_nil, Nat.reduceAdd, Nat.reduceLeDiff, Nat.reduceBEq, Nat.reduceSub, if_true, ite_true, cond_true, cond_false, List.replicate, if_false, ite_false, reduceCtorEq]
    exact Ret.keep ⟨by rw [declV, if_pos h1], rfl⟩


theorem RfAt.sepx {H : List ABlk} {qb b : Nat} {r : Rf} {st : St} {ni fi : List AV} {x y : AV} (h : RfAt H qb r st) (hn : r.ns = ni ++ [x]) (hf : r.fs = fi ++ [y]) (hb : b ∈ rowB x ∨ H.length ≤ b) : b ≠ qb ∧ b ≠ r.nb ∧ b ≠ r.fb ∧ b ∉ ni.flatMap rowB ∧ b ∉ fi.flatMap rowB ∧ b ∉ rowB y := by
  have hnd := h.ndp
  have hlt := h.lt
  rw [rfF_eq (qb := qb) hn hf] at hnd hlt
  simp only [List.nodup_cons, List.nodup_append, List.mem_append, List.mem_cons, not_or, List.not_mem_nil, or_false] at hnd hlt
  obtain ⟨⟨a1, a2, ⟨a3, a4⟩, a5, a6⟩, ⟨b1, ⟨b2, b3⟩, b4, b5⟩, ⟨⟨c2, c3⟩, c4, c5⟩, ⟨d1, d2, d3⟩, ⟨e1, e2, e3⟩, f3⟩ := hnd
  rcases hb with h' | h'
  · exact ⟨fun e => a4 (e ▸ h'), fun e => b3 (e ▸ h'), fun e => c3 (e ▸ h'), fun e => d3 b e b h' rfl, fun e => f3 b (.inr h') b (.inl e) rfl, fun e => f3 b (.inr h') b (.inr e) rfl⟩
  · exact ⟨fun e => by have := hlt qb (.inl rfl); omega, fun e => by have := hlt r.nb (.inr (.inl rfl)); omega, fun e => by have := hlt r.fb (.inr (.inr (.inl rfl))); omega, fun e => by have := hlt b (.inr (.inr (.inr (.inl (.inl e))))); omega,
      fun e => by have := hlt b (.inr (.inr (.inr (.inr (.inl e))))); omega, fun e => by have := hlt b (.inr (.inr (.inr (.inr (.inr e))))); omega⟩
theorem RfAt.sepy {H : List ABlk} {qb b : Nat} {r : Rf} {st : St} {ni fi : List AV} {x y : AV} (h : RfAt H qb r st) (hn : r.ns = ni ++ [x]) (hf : r.fs = fi ++ [y]) (hb : b ∈ rowB y ∨ H.length ≤ b) : b ≠ qb ∧ b ≠ r.nb ∧ b ≠ r.fb ∧ b ∉ ni.flatMap rowB ∧ b ∉ fi.flatMap rowB ∧ b ∉ rowB x := by
  have hnd := h.ndp
  have hlt := h.lt
  rw [rfF_eq (qb := qb) hn hf] at hnd hlt
  simp only [List.nodup_cons, List.nodup_append, List.mem_append, List.mem_cons, not_or, List.not_mem_nil, or_false] at hnd hlt
  obtain ⟨⟨a1, a2, ⟨a3, a4⟩, a5, a6⟩, ⟨b1, ⟨b2, b3⟩, b4, b5⟩, ⟨⟨c2, c3⟩, c4, c5⟩, ⟨d1, d2, d3⟩, ⟨e1, e2, e3⟩, f3⟩ := hnd
  rcases hb with h' | h'
  · exact ⟨fun e => a6 (e ▸ h'), fun e => b5 (e ▸ h'), fun e => c5 (e ▸ h'), fun e => f3 b (.inl e) b (.inr h') rfl, fun e => e3 b e b h' rfl, fun e => f3 b (.inr e) b (.inr h') rfl⟩
  · exact ⟨fun e => by have := hlt qb (.inl rfl); omega, fun e => by have := hlt r.nb (.inr (.inl rfl)); omega, fun e => by have := hlt r.fb (.inr (.inr (.inl rfl))); omega, fun e => by have := hlt b (.inr (.inr (.inr (.inl (.inl e))))); omega,
      fun e => by have := hlt b (.inr (.inr (.inr (.inr (.inl e))))); omega, fun e => by have := hlt b (.inr (.inr (.inr (.inl (.inr e))))); omega⟩
theorem flat_nd (l : List Int) (n : Int) : l.map nd ++ [[Dat.v (.int .i64 n)]] = (l ++ [n]).map nd := by simp
theorem declare_ryes {H : List ABlk} {qb : Nat} {r : Rf} {st : St} (h : RfAt H qb r st) (s : ByteArray) (n : Int) (h1 : Nm s) (h2 : lvGet (lastL st) s = none) (h3 : (lastL st).length ≠ 256) :
    ∃ H' r', ACalls Try.prog 18 [.ptr qb 0, sv s, iv n] H (fun v H'' => v = iv 0 ∧ H'' = H') ∧ RfAt H' qb r' (declS st s n) ∧ Chg H (r.F qb) H' (r'.F qb) := by
  have hl := h.len
  have hq := h.q
  have hlt := h.lt
  have hqn : qb ≠ r.nb ∧ qb ≠ r.fb ∧ r.nb ≠ r.fb := by
    have hnd := h.ndp
    simp only [Rf.F, List.nodup_cons, List.mem_cons, not_or] at hnd
    exact ⟨hnd.1.1, hnd.1.2.1, hnd.2.1.1⟩
  obtain ⟨q1, q2, q3⟩ := hqn
  have b1 : r.nb < H.length := hlt _ (by simp [Rf.F])
  have b2 : r.fb < H.length := hlt _ (by simp [Rf.F])
  have b3 : qb < H.length := hlt _ (by simp [Rf.F])
  obtain ⟨x, x1, x2, x3, x4⟩ := h.names (k := st.length - 1) (by omega)
  obtain ⟨y, y1, y2, y3, y4⟩ := h.vals (k := st.length - 1) (by omega)
  have hsm := h.small (k := st.length - 1) (by omega)
  rw [show st.getD (st.length - 1) [] = lastL st from rfl] at x4 y4 hsm
  have hln := h.rn.1
  have hlf := h.rf.1
  rw [List.length_map] at hln hlf
  obtain ⟨ni, hni, hnl⟩ : ∃ ni, r.ns = ni ++ [x] ∧ ni.length = st.length - 1 := ⟨r.ns.take (st.length - 1), by
    conv => lhs; rw [← List.take_append_drop (st.length - 1) r.ns, List.drop_eq_getElem_cons (by omega), List.drop_eq_nil_of_le (by omega)]
    rw [List.getElem?_eq_getElem (by omega)] at x1
    rw [Option.some.inj x1], by simp; omega⟩
  obtain ⟨fi, hfi, hfl⟩ : ∃ fi, r.fs = fi ++ [y] ∧ fi.length = st.length - 1 := ⟨r.fs.take (st.length - 1), by
    conv => lhs; rw [← List.take_append_drop (st.length - 1) r.fs, List.drop_eq_getElem_cons (by omega), List.drop_eq_nil_of_le (by omega)]
    rw [List.getElem?_eq_getElem (by omega)] at y1
    rw [Option.some.inj y1], by simp; omega⟩
  have hnm := h.n
  have hfm := h.f
  rw [hni, List.append_assoc] at hnm
  rw [hfi, List.append_assoc] at hfm
  simp only [List.cons_append, List.nil_append] at hnm hfm
  have hi : ((st.length : Int) - 1).toNat = ni.length := by omega
  have hfn : fi.length = ni.length := by omega
  have d1 : ∀ z, ((ni ++ z :: r.nj).drop ni.length).take 1 = [z] := fun z => by simp
  have d3 : ∀ z, (ni ++ z :: r.nj).take ni.length = ni := fun z => by simp
  have d4 : ∀ z, (ni ++ z :: r.nj).drop (ni.length + 1) = r.nj := fun z => by simp
  have c1 : ∀ z, ((fi ++ z :: r.fj).drop ni.length).take 1 = [z] := fun z => by rw [← hfn]; simp
  have c3 : ∀ z, (fi ++ z :: r.fj).take ni.length = fi := fun z => by rw [← hfn]; simp
  have c4 : ∀ z, (fi ++ z :: r.fj).drop (ni.length + 1) = r.fj := fun z => by rw [← hfn]; simp
  have ei : idxS ((lastL st).map (·.1)) s = none := by
    cases e : idxS ((lastL st).map (·.1)) s with
    | none => rfl
    | some k => have := idx_some.2 ⟨k, e⟩; rw [h2] at this; cases this
  have hn1 : ((lastL st).map (·.1)).length = (lastL st).length := List.length_map ..
  have hn2 : ((lastL st).map (·.2)).length = (lastL st).length := List.length_map ..
  have h3' : ¬ ((lastL st).length : Int) = 256 := by omega
  have hdv : declV st s = 0 := declV_yes h1 h2 h3
  have hF := rfF_eq (qb := qb) hni hfi
  have m1 : qb ∈ r.F qb := by simp [Rf.F]
  have m2 : r.nb ∈ r.F qb := by simp [Rf.F]
  have m3 : r.fb ∈ r.F qb := by simp [Rf.F]
  have x4' := x4
  rcases x4 with ⟨hxe, hn0⟩ | ⟨rb, hxe, hxb⟩
  · have hne0 : (lastL st).map (·.1) ++ [s] = [s] := by rw [hn0]; rfl
    have hl0 : (lastL st).length = 0 := by rw [← hn1, hn0]; rfl
    obtain ⟨rb, hrbe⟩ := eq_of_ex H.length
    obtain ⟨G1, hG1⟩ := eq_of_ex (H ++ [ABlk.row 9 1 1])
    have hrb : rb ∈ rowB x ∨ H.length ≤ rb := .inr (by omega)
    have g1b : G1[rb]? = some (.row 9 1 ((lastL st).length + 1)) := by rw [hG1, hrbe, hg0, hl0]; rfl
    have g1o : ∀ c, c < H.length → c ≠ rb → G1[c]? = H[c]? := fun c hc _ => by rw [hG1, List.getElem?_append_left hc]
    have g1l : H.length ≤ G1.length := by rw [hG1]; simp
    have g1f : FrOk [rb] [] H G1 G1 := by rw [hG1, hrbe]; exact FrOk.app (u := []) (fun k hk => by simp at hk; simp [hk]) (by simp)
    obtain ⟨r1, r2, r3, r4, r5, r6⟩ := h.sepx hni hfi hrb
    have rbl : rb < G1.length := (List.getElem?_eq_some_iff.1 g1b).1
    have y4' := y4
    rcases y4 with ⟨hye, hm0⟩ | ⟨vb, hye, hyb⟩
    · have hne1 : (lastL st).map (·.2) ++ [n] = [n] := by rw [hm0]; rfl
      have hl1 : (lastL st).length = 0 := by rw [← hn2, hm0]; rfl
      obtain ⟨vb, hvbe⟩ := eq_of_ex G1.length
      obtain ⟨G2, hG2⟩ := eq_of_ex (G1 ++ [ABlk.row 3 1 1])
      have hvb : vb ∈ rowB y ∨ H.length ≤ vb := .inr (by omega)
      have hvr : vb ≠ rb := by omega
      have g2b : G2[vb]? = some (.row 3 1 ((lastL st).length + 1)) := by rw [hG2, hvbe, hg0, hl1]; rfl
      have g2o : ∀ c, c < G1.length → c ≠ vb → G2[c]? = G1[c]? := fun c hc _ => by rw [hG2, List.getElem?_append_left hc]
      have g2l : G1.length ≤ G2.length := by rw [hG2]; simp
      have g2f : FrOk [vb] [] G1 G2 G2 := by rw [hG2, hvbe]; exact FrOk.app (u := []) (fun k hk => by simp at hk; simp [hk]) (by simp)
      have hvd : H[vb]? ≠ some .dead := by rw [List.getElem?_eq_none (by omega)]; simp
      have hrd : H[rb]? ≠ some .dead := by rw [List.getElem?_eq_none (by omega)]; simp
      obtain ⟨v1, v2, v3, v4, v5, v6⟩ := h.sepy hni hfi hvb
      have vbl : vb < G2.length := (List.getElem?_eq_some_iff.1 g2b).1
      obtain ⟨G3, hG3⟩ := eq_of_ex (G2.set r.nb (ABlk.cells (ni ++ .gsl rb 1 (((lastL st).map (·.1) ++ [s]).map sd) :: r.nj)))
      obtain ⟨G4, hG4⟩ := eq_of_ex (G3.set r.fb (ABlk.cells (fi ++ .gsl vb 1 (((lastL st).map (·.2) ++ [n]).map nd) :: r.fj)))
      have g4o : ∀ c, c < H.length → c ≠ rb → c ≠ vb → c ≠ r.nb → c ≠ r.fb → G4[c]? = H[c]? := fun c h' e1 e2 e3 e4 => by rw [hG4, getset_ne (Ne.symm e4), hG3, getset_ne (Ne.symm e3), g2o c (by omega) e2, g1o c h' e1]
      have hfr : ∀ c ∈ ni.flatMap rowB ++ fi.flatMap rowB, G4[c]? = H[c]? := fun c hc => by
        have hcF : c ∈ r.F qb := by
          rw [hF]; simp only [List.mem_cons, List.mem_append] at hc ⊢
          rcases hc with hc | hc
          · exact .inr (.inr (.inr (.inl (.inl hc))))
          · exact .inr (.inr (.inr (.inr (.inl hc))))
        have hnd := h.ndp
        rw [hF] at hnd
        simp only [List.nodup_cons, List.nodup_append, List.mem_append, List.mem_cons, not_or] at hnd hc
        refine g4o c (hlt c hcF) (fun e => ?_) (fun e => ?_) (fun e => ?_) (fun e => ?_)
        · rcases hc with hc | hc
          · exact r4 (e ▸ hc)
          · exact r5 (e ▸ hc)
        · rcases hc with hc | hc
          · exact v4 (e ▸ hc)
          · exact v5 (e ▸ hc)
        · rcases hc with hc | hc
          · exact hnd.2.1.2.1.1 (e ▸ hc)
          · exact hnd.2.1.2.2.1 (e ▸ hc)
        · rcases hc with hc | hc
          · exact hnd.2.2.1.1.1 (e ▸ hc)
          · exact hnd.2.2.1.2.1 (e ▸ hc)
      have hfin : ∃ r', RfAt G4 qb r' (declS st s n) ∧ Chg H (r.F qb) G4 (r'.F qb) := by
        refine ⟨_, by
          rw [declS, if_pos hdv]
          exact h.declR (H' := G4) (rb := rb) (vb := vb) hni hfi hrb hvb (Ne.symm hvr) h1.2.1 (by omega) (g4o qb b3 (Ne.symm r1) (Ne.symm v1) q1 q2) (by rw [hG4, getset_ne (Ne.symm q3), hG3]; exact getset_eq (by omega)) (by rw [hG4]; exact getset_eq (by rw [hG3]; simp; omega))
            (by rw [hG4, getset_ne (Ne.symm r3), hG3, getset_ne (Ne.symm r2), g2o rb rbl (Ne.symm hvr), g1b]) (by rw [hG4, getset_ne (Ne.symm v3), hG3, getset_ne (Ne.symm v2), g2b]) hfr, ?_⟩
        · refine ⟨by rw [hG4, hG3]; simp; omega, fun c hc hF' => ?_, fun c hc => ?_⟩
          · refine g4o c hc (fun e => ?_) (fun e => ?_) (fun e => hF' (e ▸ m2)) (fun e => hF' (e ▸ m3))
            · rcases hrb with h' | h'
              · exact hF' (by rw [hF, e]; simp only [List.mem_cons, List.mem_append]; exact .inr (.inr (.inr (.inl (.inr h')))))
              · omega
            · rcases hvb with h' | h'
              · exact hF' (by rw [hF, e]; simp only [List.mem_cons, List.mem_append]; exact .inr (.inr (.inr (.inr (.inr h')))))
              · omega
          · rw [rfF_eq (r := ⟨r.nb, r.nc, r.nj, ni ++ [.gsl rb 1 (((lastL st).map (·.1) ++ [s]).map sd)], r.fb, r.fc, r.fj, fi ++ [.gsl vb 1 (((lastL st).map (·.2) ++ [n]).map nd)]⟩) (qb := qb) rfl rfl] at hc
            simp only [rowB] at hc
            rw [hF]
            simp only [List.mem_cons, List.mem_append, List.not_mem_nil, or_false] at hc ⊢
            rcases hc with hc | hc | hc | (hc | hc) | (hc | hc)
            · exact .inl (.inl hc)
            · exact .inl (.inr (.inl hc))
            · exact .inl (.inr (.inr (.inl hc)))
            · exact .inl (.inr (.inr (.inr (.inl (.inl hc)))))
            · rcases hrb with h' | h'
              · exact .inl (.inr (.inr (.inr (.inl (.inr (hc ▸ h'))))))
              · exact .inr (by omega)
            · exact .inl (.inr (.inr (.inr (.inr (.inl hc)))))
            · rcases hvb with h' | h'
              · exact .inl (.inr (.inr (.inr (.inr (.inr (hc ▸ h'))))))
              · exact .inr (by omega)
      obtain ⟨r', f1, f2⟩ := hfin
      have p1q : G1[qb]? = some (.cells [.hsl r.nb 0 st.length r.nc 1, .hsl r.fb 0 st.length r.fc 1]) := by rw [g1o qb b3 (Ne.symm r1), hq]
      have p1f : G1[r.fb]? = some (.cells (fi ++ y :: r.fj)) := by rw [g1o r.fb b2 (Ne.symm r3), hfm]
      have p2n : G2[r.nb]? = some (.cells (ni ++ x :: r.nj)) := by rw [g2o r.nb (by omega) (Ne.symm v2), g1o r.nb b1 (Ne.symm r2), hnm]
      have p3f : G3[r.fb]? = some (.cells (fi ++ y :: r.fj)) := by rw [hG3, getset_ne q3, g2o r.fb (by omega) (Ne.symm v3), p1f]
      refine ⟨_, r', ?_, f1, f2⟩
      have iA := index_a x4' (by simpa using hsm) s H
      rw [hxe] at hnm p2n iA
      rw [hye] at hfm p1f p3f
      refine ACalls.into Try.func18 cc18 rr18 fun hcl => ?_
      simp (disch := omega) only [Try.ntmps18, c18, r18, DC_w, DC_n, kill_0, Nat.sub_zero, ↓rD0, ↓rD1, ↓rD2, ↓rD3, ↓rD4, rU0, rU1, rU2, rU3, rU4, rU5, toNat_n, Int.reduceToNat, slA, ptrsA, boolsA, Int.reducePow, Nat.reducePow, Nat.reduceMul, Int.reduceLT, Int.reduceLE, resA, resL, res1, eq_self, wanted, evK, get, setO, one, faA, loadA, storeA, outA, lenA, isStr, binA, unA, bnd, ints, toDat, toDats, datss, fillA, splice, List.length_nil, List.flatten_nil, Nat.reduceAdd, Nat.reduceLeDiff, Nat.reduceBEq, Nat.reduceSub, if_true, ite_true, cond_true, cond_false, List.replicate, if_false, ite_false, reduceCtorEq]
      refine Cont.mk (depth_r h) ?_
      simp (disch := omega) only [DC_w, DC_n, kill_0, Nat.sub_zero, ↓rD0, ↓rD1, ↓rD2, ↓rD3, ↓rD4, rU0, rU1, rU2, rU3, rU4, rU5, toNat_n, Int.reduceToNat, slA, ptrsA, boolsA, Int.reducePow, Nat.reducePow, Nat.reduceMul, Int.reduceLT, Int.reduceLE, resA, resL, res1, eq_self, wanted, evK, get, setO, one, faA, loadA, storeA, outA, lenA, isStr, binA, unA, bnd, ints, toDat, toDats, datss, fillA, splice, List.length_nil, List.flatten_nil, Nat.reduceAdd, Nat.reduceLeDiff, Nat.reduceBEq, Nat.reduceSub, if_true, ite_true, cond_true, cond_false, List.replicate, if_false, ite_false, reduceCtorEq]
      refine Cont.mk (word_c s _) ?_
      simp (disch := omega) only [nm_t h1, hq, hnm, d1, hi, DC_w, DC_n, kill_0, Nat.sub_zero, ↓rD0, ↓rD1, ↓rD2, ↓rD3, ↓rD4, rU0, rU1, rU2, rU3, rU4, rU5, toNat_n, Int.reduceToNat, slA, ptrsA, boolsA, Int.reducePow, Nat.reducePow, Nat.reduceMul, Int.reduceLT, Int.reduceLE, resA, resL, res1, eq_self, wanted, evK, get, setO, one, faA, loadA, storeA, outA, lenA, isStr, binA, unA, bnd, ints, toDat, toDats, datss, fillA, splice, List.length_nil, List.flatten_nil, Nat.reduceAdd, Nat.reduceLeDiff, Nat.reduceBEq, Nat.reduceSub, if_true, ite_true, cond_true, cond_false, List.replicate, if_false, ite_false, reduceCtorEq]
      refine Cont.mk iA ?_
      simp (disch := omega) only [ei, idxI, hq, hnm, d1, hi, List.length_map, h3', DC_w, DC_n, kill_0, Nat.sub_zero, ↓rD0, ↓rD1, ↓rD2, ↓rD3, ↓rD4, rU0, rU1, rU2, rU3, rU4, rU5, toNat_n, Int.reduceToNat, slA, ptrsA, boolsA, Int.reducePow, Nat.reducePow, Nat.reduceMul, Int.reduceLT, Int.reduceLE, resA, resL, res1, eq_self, wanted, evK, get, setO, one, faA, loadA, storeA, outA, lenA, isStr, binA, unA, bnd, ints, toDat, toDats, datss, fillA, splice, List.length_nil, List.flatten_nil, Nat.reduceAdd, Nat.reduceLeDiff, Nat.reduceBEq, Nat.reduceSub, if_true, ite_true, cond_true, cond_false, List.replicate, if_false, ite_false, reduceCtorEq]
      refine W.dregD [([], [rb, vb]), ([], [rb, vb]), ([], [rb, vb]), ([], [rb, vb]), ([], [rb, vb]), ([], [rb, vb]), ([], [rb, vb]), ([], [rb, vb]), ([], [rb, vb]), ([], [rb, vb, r.nb]), ([], []), ([], []), ([], []), ([], []), ([], []), ([], []), ([], []), ([], []), ([], []), ([rb], []), ([], [rb]), ([], [rb]), ([], [rb]), ([], [rb]), ([], [rb]), ([], [rb]), ([], [rb]), ([], [rb]), ([], [rb]), ([vb], []), ([], []), ([r.nb], []), ([], []), ([r.fb], [])] follows (by decide +kernel) rfl rfl (fun z hz b hb => ?_) ?_
      · simp only [List.mem_cons, List.not_mem_nil, or_false] at hz
        have hz' : (z.1 = [] ∨ z.1 = [rb] ∨ z.1 = [vb] ∨ z.1 = [r.nb] ∨ z.1 = [r.fb]) ∧ (z.1 = [] ∨ z.2 = []) := by
          rcases hz with rfl | rfl | rfl | rfl | rfl | rfl | rfl | rfl | rfl | rfl | rfl | rfl | rfl | rfl | rfl | rfl | rfl | rfl | rfl | rfl | rfl | rfl | rfl | rfl | rfl | rfl | rfl | rfl | rfl | rfl | rfl | rfl | rfl | rfl <;> simp
        obtain ⟨hz1, hz2⟩ := hz'
        have hz3 : z.2 = [] := by
          rcases hz2 with h' | h'
          · rw [h'] at hb; simp at hb
          · exact h'
        rw [hz3]
        refine ⟨by simp, ?_⟩
        rcases hz1 with h' | h' | h' | h' | h' <;> rw [h'] at hb <;> simp at hb <;> subst hb
        · exact hrd
        · exact hvd
        · rw [hnm]; simp
        · rw [hfm]; simp
      repeat (rw [DC_p]; simp (disch := ((try simp only [List.mem_cons, List.not_mem_nil, or_false]); omega)) only [kill_out, hq, hnm, d1, hi, DC_w, DC_n, kill_0, Nat.sub_zero, ↓rD0, ↓rD1, ↓rD2, ↓rD3, ↓rD4, rU0, rU1, rU2, rU3, rU4, rU5, toNat_n, Int.reduceToNat, slA, ptrsA, boolsA, Int.reducePow, Nat.reducePow, Nat.reduceMul, Int.reduceLT, Int.reduceLE, resA, resL, res1, eq_self, wanted, evK, get, setO, one, faA, loadA, storeA, outA, lenA, isStr, binA, unA, bnd, ints, toDat, toDats, datss, fillA, splice, List.length_nil, List.flatten_nil, Nat.reduceAdd, Nat.reduceLeDiff, Nat.reduceBEq, Nat.reduceSub, if_true, ite_true, cond_true, cond_false, List.replicate, if_false, ite_false, reduceCtorEq])
      refine WStep.ev (fun _ _ e => by cases e) (fun _ _ e => by cases e) ?_
      simp (disch := omega) only [datss, elems_d, DC_w, DC_n, kill_0, Nat.sub_zero, ↓rD0, ↓rD1, ↓rD2, ↓rD3, ↓rD4, rU0, rU1, rU2, rU3, rU4, rU5, toNat_n, Int.reduceToNat, slA, ptrsA, boolsA, Int.reducePow, Nat.reducePow, Nat.reduceMul, Int.reduceLT, Int.reduceLE, resA, resL, res1, eq_self, wanted, evK, get, setO, one, faA, loadA, storeA, outA, lenA, isStr, binA, unA, bnd, ints, toDat, toDats, datss, fillA, splice, List.length_nil, List.flatten_nil, Nat.reduceAdd, Nat.reduceLeDiff, Nat.reduceBEq, Nat.reduceSub, if_true, ite_true, cond_true, cond_false, List.replicate, if_false, ite_false, reduceCtorEq]
      have e1 : H ++ [ABlk.row 9 1 1] = G1 := hG1.symm
      rw [e1]
      refine ⟨g1f, ?_⟩
      repeat (rw [DC_p]; simp (disch := ((try simp only [List.mem_cons, List.not_mem_nil, or_false]); omega)) only [kill_out, p1q, p1f, c1, hi, DC_w, DC_n, kill_0, Nat.sub_zero, ↓rD0, ↓rD1, ↓rD2, ↓rD3, ↓rD4, rU0, rU1, rU2, rU3, rU4, rU5, toNat_n, Int.reduceToNat, slA, ptrsA, boolsA, Int.reducePow, Nat.reducePow, Nat.reduceMul, Int.reduceLT, Int.reduceLE, resA, resL, res1, eq_self, wanted, evK, get, setO, one, faA, loadA, storeA, outA, lenA, isStr, binA, unA, bnd, ints, toDat, toDats, datss, fillA, splice, List.length_nil, List.flatten_nil, Nat.reduceAdd, Nat.reduceLeDiff, Nat.reduceBEq, Nat.reduceSub, if_true, ite_true, cond_true, cond_false, List.replicate, if_false, ite_false, reduceCtorEq])
      refine WStep.ev (fun _ _ e => by cases e) (fun _ _ e => by cases e) ?_
      simp (disch := omega) only [datss, elems_d, DC_w, DC_n, kill_0, Nat.sub_zero, ↓rD0, ↓rD1, ↓rD2, ↓rD3, ↓rD4, rU0, rU1, rU2, rU3, rU4, rU5, toNat_n, Int.reduceToNat, slA, ptrsA, boolsA, Int.reducePow, Nat.reducePow, Nat.reduceMul, Int.reduceLT, Int.reduceLE, resA, resL, res1, eq_self, wanted, evK, get, setO, one, faA, loadA, storeA, outA, lenA, isStr, binA, unA, bnd, ints, toDat, toDats, datss, fillA, splice, List.length_nil, List.flatten_nil, Nat.reduceAdd, Nat.reduceLeDiff, Nat.reduceBEq, Nat.reduceSub, if_true, ite_true, cond_true, cond_false, List.replicate, if_false, ite_false, reduceCtorEq]
      have e2 : G1 ++ [ABlk.row 3 1 1] = G2 := hG2.symm
      rw [e2]
      refine ⟨g2f, ?_⟩
      repeat (rw [DC_p]; simp (disch := omega) only [hi, DC_w, DC_n, kill_0, Nat.sub_zero, ↓rD0, ↓rD1, ↓rD2, ↓rD3, ↓rD4, rU0, rU1, rU2, rU3, rU4, rU5, toNat_n, Int.reduceToNat, slA, ptrsA, boolsA, Int.reducePow, Nat.reducePow, Nat.reduceMul, Int.reduceLT, Int.reduceLE, resA, resL, res1, eq_self, wanted, evK, get, setO, one, faA, loadA, storeA, outA, lenA, isStr, binA, unA, bnd, ints, toDat, toDats, datss, fillA, splice, List.length_nil, List.flatten_nil, Nat.reduceAdd, Nat.reduceLeDiff, Nat.reduceBEq, Nat.reduceSub, if_true, ite_true, cond_true, cond_false, List.replicate, if_false, ite_false, reduceCtorEq])
      refine WStep.ev (fun _ _ e => by cases e) (fun _ _ e => by cases e) ?_
      simp (disch := omega) only [p2n, d3, d4, DC_w, DC_n, kill_0, Nat.sub_zero, ↓rD0, ↓rD1, ↓rD2, ↓rD3, ↓rD4, rU0, rU1, rU2, rU3, rU4, rU5, toNat_n, Int.reduceToNat, slA, ptrsA, boolsA, Int.reducePow, Nat.reducePow, Nat.reduceMul, Int.reduceLT, Int.reduceLE, resA, resL, res1, eq_self, wanted, evK, get, setO, one, faA, loadA, storeA, outA, lenA, isStr, binA, unA, bnd, ints, toDat, toDats, datss, fillA, splice, List.length_nil, List.flatten_nil, Nat.reduceAdd, Nat.reduceLeDiff, Nat.reduceBEq, Nat.reduceSub, if_true, ite_true, cond_true, cond_false, List.replicate, if_false, ite_false, reduceCtorEq]
      refine ⟨FrOk.set (by simp), ?_⟩
      have e3 : G2.set r.nb (ABlk.cells (ni ++ AV.gsl H.length 1 [[Dat.v (.string s)]] :: r.nj)) = G3 := by rw [hG3, hne0, hrbe]; rfl
      rw [e3]
      repeat (rw [DC_p]; simp (disch := omega) only [hi, DC_w, DC_n, kill_0, Nat.sub_zero, ↓rD0, ↓rD1, ↓rD2, ↓rD3, ↓rD4, rU0, rU1, rU2, rU3, rU4, rU5, toNat_n, Int.reduceToNat, slA, ptrsA, boolsA, Int.reducePow, Nat.reducePow, Nat.reduceMul, Int.reduceLT, Int.reduceLE, resA, resL, res1, eq_self, wanted, evK, get, setO, one, faA, loadA, storeA, outA, lenA, isStr, binA, unA, bnd, ints, toDat, toDats, datss, fillA, splice, List.length_nil, List.flatten_nil, Nat.reduceAdd, Nat.reduceLeDiff, Nat.reduceBEq, Nat.reduceSub, if_true, ite_true, cond_true, cond_false, List.replicate, if_false, ite_false, reduceCtorEq])
      refine WStep.ev (fun _ _ e => by cases e) (fun _ _ e => by cases e) ?_
      simp (disch := omega) only [p3f, c3, c4, DC_w, DC_n, kill_0, Nat.sub_zero, ↓rD0, ↓rD1, ↓rD2, ↓rD3, ↓rD4, rU0, rU1, rU2, rU3, rU4, rU5, toNat_n, Int.reduceToNat, slA, ptrsA, boolsA, Int.reducePow, Nat.reducePow, Nat.reduceMul, Int.reduceLT, Int.reduceLE, resA, resL, res1, eq_self, wanted, evK, get, setO, one, faA, loadA, storeA, outA, lenA, isStr, binA, unA, bnd, ints, toDat, toDats, datss, fillA, splice, List.length_nil, List.flatten_nil, Nat.reduceAdd, Nat.reduceLeDiff, Nat.reduceBEq, Nat.reduceSub, if_true, ite_true, cond_true, cond_false, List.replicate, if_false, ite_false, reduceCtorEq]
      refine ⟨FrOk.set (by simp), ?_⟩
      try simp (disch := omega) only [DC_w, DC_n, kill_0, Nat.sub_zero, ↓rD0, ↓rD1, ↓rD2, ↓rD3, ↓rD4, rU0, rU1, rU2, rU3, rU4, rU5, toNat_n, Int.reduceToNat, slA, ptrsA, boolsA, Int.reducePow, Nat.reducePow, Nat.reduceMul, Int.reduceLT, Int.reduceLE, resA, resL, res1, eq_self, wanted, evK, get, setO, one, faA, loadA, storeA, outA, lenA, isStr, binA, unA, bnd, ints, toDat, toDats, datss, fillA, splice, List.length_nil, List.flatten_nil, Nat.reduceAdd, Nat.reduceLeDiff, Nat.reduceBEq, Nat.reduceSub, if_true, ite_true, cond_true, cond_false, List.replicate, if_false, ite_false, reduceCtorEq]
      exact Ret.keep ⟨rfl, by rw [hG4, hne1, hvbe]; rfl⟩
    · have hby : vb ∈ rowB y := by rw [hye]; simp [rowB]
      have hvbl := hlt vb (by rw [hF]; simp only [List.mem_cons, List.mem_append]; exact .inr (.inr (.inr (.inr (.inr hby)))))
      obtain ⟨G2, hG2⟩ := eq_of_ex (G1.set vb (ABlk.row 3 1 ((lastL st).length + 1)))
      have hvb : vb ∈ rowB y ∨ H.length ≤ vb := .inl hby
      have hvr : vb ≠ rb := fun e => r6 (by rw [← e]; exact hby)
      rw [hn2] at hyb
      have g1v : G1[vb]? = some (.row 3 1 (lastL st).length) := by rw [g1o vb hvbl hvr, hyb]
      have g2b : G2[vb]? = some (.row 3 1 ((lastL st).length + 1)) := by rw [hG2]; exact getset_eq (by omega)
      have g2o : ∀ c, c < G1.length → c ≠ vb → G2[c]? = G1[c]? := fun c hc h' => by rw [hG2]; exact getset_ne (Ne.symm h')
      have g2l : G1.length ≤ G2.length := by rw [hG2]; simp
      have g2f : FrOk [vb] [] G1 G2 G2 := by rw [hG2]; exact FrOk.set (by simp)
      have hvd : H[vb]? ≠ some .dead := by rw [hyb]; simp
      have h8s : ((lastL st).length + 1) * 8 ≤ 140737488355328 := by omega
      have hrd : H[rb]? ≠ some .dead := by rw [List.getElem?_eq_none (by omega)]; simp
      obtain ⟨v1, v2, v3, v4, v5, v6⟩ := h.sepy hni hfi hvb
      have vbl : vb < G2.length := (List.getElem?_eq_some_iff.1 g2b).1
      obtain ⟨G3, hG3⟩ := eq_of_ex (G2.set r.nb (ABlk.cells (ni ++ .gsl rb 1 (((lastL st).map (·.1) ++ [s]).map sd) :: r.nj)))
      obtain ⟨G4, hG4⟩ := eq_of_ex (G3.set r.fb (ABlk.cells (fi ++ .gsl vb 1 (((lastL st).map (·.2) ++ [n]).map nd) :: r.fj)))
      have g4o : ∀ c, c < H.length → c ≠ rb → c ≠ vb → c ≠ r.nb → c ≠ r.fb → G4[c]? = H[c]? := fun c h' e1 e2 e3 e4 => by rw [hG4, getset_ne (Ne.symm e4), hG3, getset_ne (Ne.symm e3), g2o c (by omega) e2, g1o c h' e1]
      have hfr : ∀ c ∈ ni.flatMap rowB ++ fi.flatMap rowB, G4[c]? = H[c]? := fun c hc => by
        have hcF : c ∈ r.F qb := by
          rw [hF]; simp only [List.mem_cons, List.mem_append] at hc ⊢
          rcases hc with hc | hc
          · exact .inr (.inr (.inr (.inl (.inl hc))))
          · exact .inr (.inr (.inr (.inr (.inl hc))))
        have hnd := h.ndp
        rw [hF] at hnd
        simp only [List.nodup_cons, List.nodup_append, List.mem_append, List.mem_cons, not_or] at hnd hc
        refine g4o c (hlt c hcF) (fun e => ?_) (fun e => ?_) (fun e => ?_) (fun e => ?_)
        · rcases hc with hc | hc
          · exact r4 (e ▸ hc)
          · exact r5 (e ▸ hc)
        · rcases hc with hc | hc
          · exact v4 (e ▸ hc)
          · exact v5 (e ▸ hc)
        · rcases hc with hc | hc
          · exact hnd.2.1.2.1.1 (e ▸ hc)
          · exact hnd.2.1.2.2.1 (e ▸ hc)
        · rcases hc with hc | hc
          · exact hnd.2.2.1.1.1 (e ▸ hc)
          · exact hnd.2.2.1.2.1 (e ▸ hc)
      have hfin : ∃ r', RfAt G4 qb r' (declS st s n) ∧ Chg H (r.F qb) G4 (r'.F qb) := by
        refine ⟨_, by
          rw [declS, if_pos hdv]
          exact h.declR (H' := G4) (rb := rb) (vb := vb) hni hfi hrb hvb (Ne.symm hvr) h1.2.1 (by omega) (g4o qb b3 (Ne.symm r1) (Ne.symm v1) q1 q2) (by rw [hG4, getset_ne (Ne.symm q3), hG3]; exact getset_eq (by omega)) (by rw [hG4]; exact getset_eq (by rw [hG3]; simp; omega))
            (by rw [hG4, getset_ne (Ne.symm r3), hG3, getset_ne (Ne.symm r2), g2o rb rbl (Ne.symm hvr), g1b]) (by rw [hG4, getset_ne (Ne.symm v3), hG3, getset_ne (Ne.symm v2), g2b]) hfr, ?_⟩
        · refine ⟨by rw [hG4, hG3]; simp; omega, fun c hc hF' => ?_, fun c hc => ?_⟩
          · refine g4o c hc (fun e => ?_) (fun e => ?_) (fun e => hF' (e ▸ m2)) (fun e => hF' (e ▸ m3))
            · rcases hrb with h' | h'
              · exact hF' (by rw [hF, e]; simp only [List.mem_cons, List.mem_append]; exact .inr (.inr (.inr (.inl (.inr h')))))
              · omega
            · rcases hvb with h' | h'
              · exact hF' (by rw [hF, e]; simp only [List.mem_cons, List.mem_append]; exact .inr (.inr (.inr (.inr (.inr h')))))
              · omega
          · rw [rfF_eq (r := ⟨r.nb, r.nc, r.nj, ni ++ [.gsl rb 1 (((lastL st).map (·.1) ++ [s]).map sd)], r.fb, r.fc, r.fj, fi ++ [.gsl vb 1 (((lastL st).map (·.2) ++ [n]).map nd)]⟩) (qb := qb) rfl rfl] at hc
            simp only [rowB] at hc
            rw [hF]
            simp only [List.mem_cons, List.mem_append, List.not_mem_nil, or_false] at hc ⊢
            rcases hc with hc | hc | hc | (hc | hc) | (hc | hc)
            · exact .inl (.inl hc)
            · exact .inl (.inr (.inl hc))
            · exact .inl (.inr (.inr (.inl hc)))
            · exact .inl (.inr (.inr (.inr (.inl (.inl hc)))))
            · rcases hrb with h' | h'
              · exact .inl (.inr (.inr (.inr (.inl (.inr (hc ▸ h'))))))
              · exact .inr (by omega)
            · exact .inl (.inr (.inr (.inr (.inr (.inl hc)))))
            · rcases hvb with h' | h'
              · exact .inl (.inr (.inr (.inr (.inr (.inr (hc ▸ h'))))))
              · exact .inr (by omega)
      obtain ⟨r', f1, f2⟩ := hfin
      have p1q : G1[qb]? = some (.cells [.hsl r.nb 0 st.length r.nc 1, .hsl r.fb 0 st.length r.fc 1]) := by rw [g1o qb b3 (Ne.symm r1), hq]
      have p1f : G1[r.fb]? = some (.cells (fi ++ y :: r.fj)) := by rw [g1o r.fb b2 (Ne.symm r3), hfm]
      have p2n : G2[r.nb]? = some (.cells (ni ++ x :: r.nj)) := by rw [g2o r.nb (by omega) (Ne.symm v2), g1o r.nb b1 (Ne.symm r2), hnm]
      have p3f : G3[r.fb]? = some (.cells (fi ++ y :: r.fj)) := by rw [hG3, getset_ne q3, g2o r.fb (by omega) (Ne.symm v3), p1f]
      refine ⟨_, r', ?_, f1, f2⟩
      have iA := index_a x4' (by simpa using hsm) s H
      rw [hxe] at hnm p2n iA
      rw [hye] at hfm p1f p3f
      refine ACalls.into Try.func18 cc18 rr18 fun hcl => ?_
      simp (disch := omega) only [Try.ntmps18, c18, r18, DC_w, DC_n, kill_0, Nat.sub_zero, ↓rD0, ↓rD1, ↓rD2, ↓rD3, ↓rD4, rU0, rU1, rU2, rU3, rU4, rU5, toNat_n, Int.reduceToNat, slA, ptrsA, boolsA, Int.reducePow, Nat.reducePow, Nat.reduceMul, Int.reduceLT, Int.reduceLE, resA, resL, res1, eq_self, wanted, evK, get, setO, one, faA, loadA, storeA, outA, lenA, isStr, binA, unA, bnd, ints, toDat, toDats, datss, fillA, splice, List.length_nil, List.flatten_nil, Nat.reduceAdd, Nat.reduceLeDiff, Nat.reduceBEq, Nat.reduceSub, if_true, ite_true, cond_true, cond_false, List.replicate, if_false, ite_false, reduceCtorEq]
      refine Cont.mk (depth_r h) ?_
      simp (disch := omega) only [DC_w, DC_n, kill_0, Nat.sub_zero, ↓rD0, ↓rD1, ↓rD2, ↓rD3, ↓rD4, rU0, rU1, rU2, rU3, rU4, rU5, toNat_n, Int.reduceToNat, slA, ptrsA, boolsA, Int.reducePow, Nat.reducePow, Nat.reduceMul, Int.reduceLT, Int.reduceLE, resA, resL, res1, eq_self, wanted, evK, get, setO, one, faA, loadA, storeA, outA, lenA, isStr, binA, unA, bnd, ints, toDat, toDats, datss, fillA, splice, List.length_nil, List.flatten_nil, Nat.reduceAdd, Nat.reduceLeDiff, Nat.reduceBEq, Nat.reduceSub, if_true, ite_true, cond_true, cond_false, List.replicate, if_false, ite_false, reduceCtorEq]
      refine Cont.mk (word_c s _) ?_
      simp (disch := omega) only [nm_t h1, hq, hnm, d1, hi, DC_w, DC_n, kill_0, Nat.sub_zero, ↓rD0, ↓rD1, ↓rD2, ↓rD3, ↓rD4, rU0, rU1, rU2, rU3, rU4, rU5, toNat_n, Int.reduceToNat, slA, ptrsA, boolsA, Int.reducePow, Nat.reducePow, Nat.reduceMul, Int.reduceLT, Int.reduceLE, resA, resL, res1, eq_self, wanted, evK, get, setO, one, faA, loadA, storeA, outA, lenA, isStr, binA, unA, bnd, ints, toDat, toDats, datss, fillA, splice, List.length_nil, List.flatten_nil, Nat.reduceAdd, Nat.reduceLeDiff, Nat.reduceBEq, Nat.reduceSub, if_true, ite_true, cond_true, cond_false, List.replicate, if_false, ite_false, reduceCtorEq]
      refine Cont.mk iA ?_
      simp (disch := omega) only [ei, idxI, hq, hnm, d1, hi, List.length_map, h3', DC_w, DC_n, kill_0, Nat.sub_zero, ↓rD0, ↓rD1, ↓rD2, ↓rD3, ↓rD4, rU0, rU1, rU2, rU3, rU4, rU5, toNat_n, Int.reduceToNat, slA, ptrsA, boolsA, Int.reducePow, Nat.reducePow, Nat.reduceMul, Int.reduceLT, Int.reduceLE, resA, resL, res1, eq_self, wanted, evK, get, setO, one, faA, loadA, storeA, outA, lenA, isStr, binA, unA, bnd, ints, toDat, toDats, datss, fillA, splice, List.length_nil, List.flatten_nil, Nat.reduceAdd, Nat.reduceLeDiff, Nat.reduceBEq, Nat.reduceSub, if_true, ite_true, cond_true, cond_false, List.replicate, if_false, ite_false, reduceCtorEq]
      refine W.dregD [([], [rb, vb]), ([], [rb, vb]), ([], [rb, vb]), ([], [rb, vb]), ([], [rb, vb]), ([], [rb, vb]), ([], [rb, vb]), ([], [rb, vb]), ([], [rb, vb]), ([], [rb, vb, r.nb]), ([], []), ([], []), ([], []), ([], []), ([], []), ([], []), ([], []), ([], []), ([], []), ([rb], []), ([], [rb]), ([], [rb]), ([], [rb]), ([], [rb]), ([], [rb]), ([], [rb]), ([], [rb]), ([], [rb]), ([], [rb]), ([vb], []), ([], []), ([r.nb], []), ([], []), ([r.fb], [])] follows (by decide +kernel) rfl rfl (fun z hz b hb => ?_) ?_
      · simp only [List.mem_cons, List.not_mem_nil, or_false] at hz
        have hz' : (z.1 = [] ∨ z.1 = [rb] ∨ z.1 = [vb] ∨ z.1 = [r.nb] ∨ z.1 = [r.fb]) ∧ (z.1 = [] ∨ z.2 = []) := by
          rcases hz with rfl | rfl | rfl | rfl | rfl | rfl | rfl | rfl | rfl | rfl | rfl | rfl | rfl | rfl | rfl | rfl | rfl | rfl | rfl | rfl | rfl | rfl | rfl | rfl | rfl | rfl | rfl | rfl | rfl | rfl | rfl | rfl | rfl | rfl <;> simp
        obtain ⟨hz1, hz2⟩ := hz'
        have hz3 : z.2 = [] := by
          rcases hz2 with h' | h'
          · rw [h'] at hb; simp at hb
          · exact h'
        rw [hz3]
        refine ⟨by simp, ?_⟩
        rcases hz1 with h' | h' | h' | h' | h' <;> rw [h'] at hb <;> simp at hb <;> subst hb
        · exact hrd
        · exact hvd
        · rw [hnm]; simp
        · rw [hfm]; simp
      repeat (rw [DC_p]; simp (disch := ((try simp only [List.mem_cons, List.not_mem_nil, or_false]); omega)) only [kill_out, hq, hnm, d1, hi, DC_w, DC_n, kill_0, Nat.sub_zero, ↓rD0, ↓rD1, ↓rD2, ↓rD3, ↓rD4, rU0, rU1, rU2, rU3, rU4, rU5, toNat_n, Int.reduceToNat, slA, ptrsA, boolsA, Int.reducePow, Nat.reducePow, Nat.reduceMul, Int.reduceLT, Int.reduceLE, resA, resL, res1, eq_self, wanted, evK, get, setO, one, faA, loadA, storeA, outA, lenA, isStr, binA, unA, bnd, ints, toDat, toDats, datss, fillA, splice, List.length_nil, List.flatten_nil, Nat.reduceAdd, Nat.reduceLeDiff, Nat.reduceBEq, Nat.reduceSub, if_true, ite_true, cond_true, cond_false, List.replicate, if_false, ite_false, reduceCtorEq])
      refine WStep.ev (fun _ _ e => by cases e) (fun _ _ e => by cases e) ?_
      simp (disch := omega) only [datss, elems_d, DC_w, DC_n, kill_0, Nat.sub_zero, ↓rD0, ↓rD1, ↓rD2, ↓rD3, ↓rD4, rU0, rU1, rU2, rU3, rU4, rU5, toNat_n, Int.reduceToNat, slA, ptrsA, boolsA, Int.reducePow, Nat.reducePow, Nat.reduceMul, Int.reduceLT, Int.reduceLE, resA, resL, res1, eq_self, wanted, evK, get, setO, one, faA, loadA, storeA, outA, lenA, isStr, binA, unA, bnd, ints, toDat, toDats, datss, fillA, splice, List.length_nil, List.flatten_nil, Nat.reduceAdd, Nat.reduceLeDiff, Nat.reduceBEq, Nat.reduceSub, if_true, ite_true, cond_true, cond_false, List.replicate, if_false, ite_false, reduceCtorEq]
      have e1 : H ++ [ABlk.row 9 1 1] = G1 := hG1.symm
      rw [e1]
      refine ⟨g1f, ?_⟩
      repeat (rw [DC_p]; simp (disch := ((try simp only [List.mem_cons, List.not_mem_nil, or_false]); omega)) only [kill_out, p1q, p1f, c1, hi, DC_w, DC_n, kill_0, Nat.sub_zero, ↓rD0, ↓rD1, ↓rD2, ↓rD3, ↓rD4, rU0, rU1, rU2, rU3, rU4, rU5, toNat_n, Int.reduceToNat, slA, ptrsA, boolsA, Int.reducePow, Nat.reducePow, Nat.reduceMul, Int.reduceLT, Int.reduceLE, resA, resL, res1, eq_self, wanted, evK, get, setO, one, faA, loadA, storeA, outA, lenA, isStr, binA, unA, bnd, ints, toDat, toDats, datss, fillA, splice, List.length_nil, List.flatten_nil, Nat.reduceAdd, Nat.reduceLeDiff, Nat.reduceBEq, Nat.reduceSub, if_true, ite_true, cond_true, cond_false, List.replicate, if_false, ite_false, reduceCtorEq])
      refine WStep.ev (fun _ _ e => by cases e) (fun _ _ e => by cases e) ?_
      simp (disch := omega) only [datss, elems_d, g1v, h8s, List.length_map, DC_w, DC_n, kill_0, Nat.sub_zero, ↓rD0, ↓rD1, ↓rD2, ↓rD3, ↓rD4, rU0, rU1, rU2, rU3, rU4, rU5, toNat_n, Int.reduceToNat, slA, ptrsA, boolsA, Int.reducePow, Nat.reducePow, Nat.reduceMul, Int.reduceLT, Int.reduceLE, resA, resL, res1, eq_self, wanted, evK, get, setO, one, faA, loadA, storeA, outA, lenA, isStr, binA, unA, bnd, ints, toDat, toDats, datss, fillA, splice, List.length_nil, List.flatten_nil, Nat.reduceAdd, Nat.reduceLeDiff, Nat.reduceBEq, Nat.reduceSub, if_true, ite_true, cond_true, cond_false, List.replicate, if_false, ite_false, reduceCtorEq]
      have e2 : G1.set vb (ABlk.row 3 1 ((lastL st).length + 1)) = G2 := hG2.symm
      rw [e2]
      refine ⟨g2f, ?_⟩
      repeat (rw [DC_p]; simp (disch := omega) only [hi, DC_w, DC_n, kill_0, Nat.sub_zero, ↓rD0, ↓rD1, ↓rD2, ↓rD3, ↓rD4, rU0, rU1, rU2, rU3, rU4, rU5, toNat_n, Int.reduceToNat, slA, ptrsA, boolsA, Int.reducePow, Nat.reducePow, Nat.reduceMul, Int.reduceLT, Int.reduceLE, resA, resL, res1, eq_self, wanted, evK, get, setO, one, faA, loadA, storeA, outA, lenA, isStr, binA, unA, bnd, ints, toDat, toDats, datss, fillA, splice, List.length_nil, List.flatten_nil, Nat.reduceAdd, Nat.reduceLeDiff, Nat.reduceBEq, Nat.reduceSub, if_true, ite_true, cond_true, cond_false, List.replicate, if_false, ite_false, reduceCtorEq])
      refine WStep.ev (fun _ _ e => by cases e) (fun _ _ e => by cases e) ?_
      simp (disch := omega) only [p2n, d3, d4, DC_w, DC_n, kill_0, Nat.sub_zero, ↓rD0, ↓rD1, ↓rD2, ↓rD3, ↓rD4, rU0, rU1, rU2, rU3, rU4, rU5, toNat_n, Int.reduceToNat, slA, ptrsA, boolsA, Int.reducePow, Nat.reducePow, Nat.reduceMul, Int.reduceLT, Int.reduceLE, resA, resL, res1, eq_self, wanted, evK, get, setO, one, faA, loadA, storeA, outA, lenA, isStr, binA, unA, bnd, ints, toDat, toDats, datss, fillA, splice, List.length_nil, List.flatten_nil, Nat.reduceAdd, Nat.reduceLeDiff, Nat.reduceBEq, Nat.reduceSub, if_true, ite_true, cond_true, cond_false, List.replicate, if_false, ite_false, reduceCtorEq]
      refine ⟨FrOk.set (by simp), ?_⟩
      have e3 : G2.set r.nb (ABlk.cells (ni ++ AV.gsl H.length 1 [[Dat.v (.string s)]] :: r.nj)) = G3 := by rw [hG3, hne0, hrbe]; rfl
      rw [e3]
      repeat (rw [DC_p]; simp (disch := omega) only [hi, DC_w, DC_n, kill_0, Nat.sub_zero, ↓rD0, ↓rD1, ↓rD2, ↓rD3, ↓rD4, rU0, rU1, rU2, rU3, rU4, rU5, toNat_n, Int.reduceToNat, slA, ptrsA, boolsA, Int.reducePow, Nat.reducePow, Nat.reduceMul, Int.reduceLT, Int.reduceLE, resA, resL, res1, eq_self, wanted, evK, get, setO, one, faA, loadA, storeA, outA, lenA, isStr, binA, unA, bnd, ints, toDat, toDats, datss, fillA, splice, List.length_nil, List.flatten_nil, Nat.reduceAdd, Nat.reduceLeDiff, Nat.reduceBEq, Nat.reduceSub, if_true, ite_true, cond_true, cond_false, List.replicate, if_false, ite_false, reduceCtorEq])
      refine WStep.ev (fun _ _ e => by cases e) (fun _ _ e => by cases e) ?_
      simp (disch := omega) only [p3f, c3, c4, DC_w, DC_n, kill_0, Nat.sub_zero, ↓rD0, ↓rD1, ↓rD2, ↓rD3, ↓rD4, rU0, rU1, rU2, rU3, rU4, rU5, toNat_n, Int.reduceToNat, slA, ptrsA, boolsA, Int.reducePow, Nat.reducePow, Nat.reduceMul, Int.reduceLT, Int.reduceLE, resA, resL, res1, eq_self, wanted, evK, get, setO, one, faA, loadA, storeA, outA, lenA, isStr, binA, unA, bnd, ints, toDat, toDats, datss, fillA, splice, List.length_nil, List.flatten_nil, Nat.reduceAdd, Nat.reduceLeDiff, Nat.reduceBEq, Nat.reduceSub, if_true, ite_true, cond_true, cond_false, List.replicate, if_false, ite_false, reduceCtorEq]
      refine ⟨FrOk.set (by simp), ?_⟩
      try simp (disch := omega) only [DC_w, DC_n, kill_0, Nat.sub_zero, ↓rD0, ↓rD1, ↓rD2, ↓rD3, ↓rD4, rU0, rU1, rU2, rU3, rU4, rU5, toNat_n, Int.reduceToNat, slA, ptrsA, boolsA, Int.reducePow, Nat.reducePow, Nat.reduceMul, Int.reduceLT, Int.reduceLE, resA, resL, res1, eq_self, wanted, evK, get, setO, one, faA, loadA, storeA, outA, lenA, isStr, binA, unA, bnd, ints, toDat, toDats, datss, fillA, splice, List.length_nil, List.flatten_nil, Nat.reduceAdd, Nat.reduceLeDiff, Nat.reduceBEq, Nat.reduceSub, if_true, ite_true, cond_true, cond_false, List.replicate, if_false, ite_false, reduceCtorEq]
      exact Ret.keep ⟨rfl, by rw [hG4, ← flat_nd]⟩
  · have hbx : rb ∈ rowB x := by rw [hxe]; simp [rowB]
    have hrbl := hlt rb (by rw [hF]; simp only [List.mem_cons, List.mem_append]; exact .inr (.inr (.inr (.inl (.inr hbx)))))
    obtain ⟨G1, hG1⟩ := eq_of_ex (H.set rb (ABlk.row 9 1 ((lastL st).length + 1)))
    have hrb : rb ∈ rowB x ∨ H.length ≤ rb := .inl hbx
    rw [hn1] at hxb
    have g1b : G1[rb]? = some (.row 9 1 ((lastL st).length + 1)) := by rw [hG1]; exact getset_eq hrbl
    have g1o : ∀ c, c < H.length → c ≠ rb → G1[c]? = H[c]? := fun c hc h' => by rw [hG1]; exact getset_ne (Ne.symm h')
    have g1l : H.length ≤ G1.length := by rw [hG1]; simp
    have g1f : FrOk [rb] [] H G1 G1 := by rw [hG1]; exact FrOk.set (by simp)
    have h3s : ((lastL st).length + 1) * 16 ≤ 140737488355328 := by omega
    obtain ⟨r1, r2, r3, r4, r5, r6⟩ := h.sepx hni hfi hrb
    have rbl : rb < G1.length := (List.getElem?_eq_some_iff.1 g1b).1
    have y4' := y4
    rcases y4 with ⟨hye, hm0⟩ | ⟨vb, hye, hyb⟩
    · have hne1 : (lastL st).map (·.2) ++ [n] = [n] := by rw [hm0]; rfl
      have hl1 : (lastL st).length = 0 := by rw [← hn2, hm0]; rfl
      obtain ⟨vb, hvbe⟩ := eq_of_ex G1.length
      obtain ⟨G2, hG2⟩ := eq_of_ex (G1 ++ [ABlk.row 3 1 1])
      have hvb : vb ∈ rowB y ∨ H.length ≤ vb := .inr (by omega)
      have hvr : vb ≠ rb := by omega
      have g2b : G2[vb]? = some (.row 3 1 ((lastL st).length + 1)) := by rw [hG2, hvbe, hg0, hl1]; rfl
      have g2o : ∀ c, c < G1.length → c ≠ vb → G2[c]? = G1[c]? := fun c hc _ => by rw [hG2, List.getElem?_append_left hc]
      have g2l : G1.length ≤ G2.length := by rw [hG2]; simp
      have g2f : FrOk [vb] [] G1 G2 G2 := by rw [hG2, hvbe]; exact FrOk.app (u := []) (fun k hk => by simp at hk; simp [hk]) (by simp)
      have hvd : H[vb]? ≠ some .dead := by rw [List.getElem?_eq_none (by omega)]; simp
      have hrd : H[rb]? ≠ some .dead := by rw [hxb]; simp
      obtain ⟨v1, v2, v3, v4, v5, v6⟩ := h.sepy hni hfi hvb
      have vbl : vb < G2.length := (List.getElem?_eq_some_iff.1 g2b).1
      obtain ⟨G3, hG3⟩ := eq_of_ex (G2.set r.nb (ABlk.cells (ni ++ .gsl rb 1 (((lastL st).map (·.1) ++ [s]).map sd) :: r.nj)))
      obtain ⟨G4, hG4⟩ := eq_of_ex (G3.set r.fb (ABlk.cells (fi ++ .gsl vb 1 (((lastL st).map (·.2) ++ [n]).map nd) :: r.fj)))
      have g4o : ∀ c, c < H.length → c ≠ rb → c ≠ vb → c ≠ r.nb → c ≠ r.fb → G4[c]? = H[c]? := fun c h' e1 e2 e3 e4 => by rw [hG4, getset_ne (Ne.symm e4), hG3, getset_ne (Ne.symm e3), g2o c (by omega) e2, g1o c h' e1]
      have hfr : ∀ c ∈ ni.flatMap rowB ++ fi.flatMap rowB, G4[c]? = H[c]? := fun c hc => by
        have hcF : c ∈ r.F qb := by
          rw [hF]; simp only [List.mem_cons, List.mem_append] at hc ⊢
          rcases hc with hc | hc
          · exact .inr (.inr (.inr (.inl (.inl hc))))
          · exact .inr (.inr (.inr (.inr (.inl hc))))
        have hnd := h.ndp
        rw [hF] at hnd
        simp only [List.nodup_cons, List.nodup_append, List.mem_append, List.mem_cons, not_or] at hnd hc
        refine g4o c (hlt c hcF) (fun e => ?_) (fun e => ?_) (fun e => ?_) (fun e => ?_)
        · rcases hc with hc | hc
          · exact r4 (e ▸ hc)
          · exact r5 (e ▸ hc)
        · rcases hc with hc | hc
          · exact v4 (e ▸ hc)
          · exact v5 (e ▸ hc)
        · rcases hc with hc | hc
          · exact hnd.2.1.2.1.1 (e ▸ hc)
          · exact hnd.2.1.2.2.1 (e ▸ hc)
        · rcases hc with hc | hc
          · exact hnd.2.2.1.1.1 (e ▸ hc)
          · exact hnd.2.2.1.2.1 (e ▸ hc)
      have hfin : ∃ r', RfAt G4 qb r' (declS st s n) ∧ Chg H (r.F qb) G4 (r'.F qb) := by
        refine ⟨_, by
          rw [declS, if_pos hdv]
          exact h.declR (H' := G4) (rb := rb) (vb := vb) hni hfi hrb hvb (Ne.symm hvr) h1.2.1 (by omega) (g4o qb b3 (Ne.symm r1) (Ne.symm v1) q1 q2) (by rw [hG4, getset_ne (Ne.symm q3), hG3]; exact getset_eq (by omega)) (by rw [hG4]; exact getset_eq (by rw [hG3]; simp; omega))
            (by rw [hG4, getset_ne (Ne.symm r3), hG3, getset_ne (Ne.symm r2), g2o rb rbl (Ne.symm hvr), g1b]) (by rw [hG4, getset_ne (Ne.symm v3), hG3, getset_ne (Ne.symm v2), g2b]) hfr, ?_⟩
        · refine ⟨by rw [hG4, hG3]; simp; omega, fun c hc hF' => ?_, fun c hc => ?_⟩
          · refine g4o c hc (fun e => ?_) (fun e => ?_) (fun e => hF' (e ▸ m2)) (fun e => hF' (e ▸ m3))
            · rcases hrb with h' | h'
              · exact hF' (by rw [hF, e]; simp only [List.mem_cons, List.mem_append]; exact .inr (.inr (.inr (.inl (.inr h')))))
              · omega
            · rcases hvb with h' | h'
              · exact hF' (by rw [hF, e]; simp only [List.mem_cons, List.mem_append]; exact .inr (.inr (.inr (.inr (.inr h')))))
              · omega
          · rw [rfF_eq (r := ⟨r.nb, r.nc, r.nj, ni ++ [.gsl rb 1 (((lastL st).map (·.1) ++ [s]).map sd)], r.fb, r.fc, r.fj, fi ++ [.gsl vb 1 (((lastL st).map (·.2) ++ [n]).map nd)]⟩) (qb := qb) rfl rfl] at hc
            simp only [rowB] at hc
            rw [hF]
            simp only [List.mem_cons, List.mem_append, List.not_mem_nil, or_false] at hc ⊢
            rcases hc with hc | hc | hc | (hc | hc) | (hc | hc)
            · exact .inl (.inl hc)
            · exact .inl (.inr (.inl hc))
            · exact .inl (.inr (.inr (.inl hc)))
            · exact .inl (.inr (.inr (.inr (.inl (.inl hc)))))
            · rcases hrb with h' | h'
              · exact .inl (.inr (.inr (.inr (.inl (.inr (hc ▸ h'))))))
              · exact .inr (by omega)
            · exact .inl (.inr (.inr (.inr (.inr (.inl hc)))))
            · rcases hvb with h' | h'
              · exact .inl (.inr (.inr (.inr (.inr (.inr (hc ▸ h'))))))
              · exact .inr (by omega)
      obtain ⟨r', f1, f2⟩ := hfin
      have p1q : G1[qb]? = some (.cells [.hsl r.nb 0 st.length r.nc 1, .hsl r.fb 0 st.length r.fc 1]) := by rw [g1o qb b3 (Ne.symm r1), hq]
      have p1f : G1[r.fb]? = some (.cells (fi ++ y :: r.fj)) := by rw [g1o r.fb b2 (Ne.symm r3), hfm]
      have p2n : G2[r.nb]? = some (.cells (ni ++ x :: r.nj)) := by rw [g2o r.nb (by omega) (Ne.symm v2), g1o r.nb b1 (Ne.symm r2), hnm]
      have p3f : G3[r.fb]? = some (.cells (fi ++ y :: r.fj)) := by rw [hG3, getset_ne q3, g2o r.fb (by omega) (Ne.symm v3), p1f]
      refine ⟨_, r', ?_, f1, f2⟩
      have iA := index_a x4' (by simpa using hsm) s H
      rw [hxe] at hnm p2n iA
      rw [hye] at hfm p1f p3f
      refine ACalls.into Try.func18 cc18 rr18 fun hcl => ?_
      simp (disch := omega) only [Try.ntmps18, c18, r18, DC_w, DC_n, kill_0, Nat.sub_zero, ↓rD0, ↓rD1, ↓rD2, ↓rD3, ↓rD4, rU0, rU1, rU2, rU3, rU4, rU5, toNat_n, Int.reduceToNat, slA, ptrsA, boolsA, Int.reducePow, Nat.reducePow, Nat.reduceMul, Int.reduceLT, Int.reduceLE, resA, resL, res1, eq_self, wanted, evK, get, setO, one, faA, loadA, storeA, outA, lenA, isStr, binA, unA, bnd, ints, toDat, toDats, datss, fillA, splice, List.length_nil, List.flatten_nil, Nat.reduceAdd, Nat.reduceLeDiff, Nat.reduceBEq, Nat.reduceSub, if_true, ite_true, cond_true, cond_false, List.replicate, if_false, ite_false, reduceCtorEq]
      refine Cont.mk (depth_r h) ?_
      simp (disch := omega) only [DC_w, DC_n, kill_0, Nat.sub_zero, ↓rD0, ↓rD1, ↓rD2, ↓rD3, ↓rD4, rU0, rU1, rU2, rU3, rU4, rU5, toNat_n, Int.reduceToNat, slA, ptrsA, boolsA, Int.reducePow, Nat.reducePow, Nat.reduceMul, Int.reduceLT, Int.reduceLE, resA, resL, res1, eq_self, wanted, evK, get, setO, one, faA, loadA, storeA, outA, lenA, isStr, binA, unA, bnd, ints, toDat, toDats, datss, fillA, splice, List.length_nil, List.flatten_nil, Nat.reduceAdd, Nat.reduceLeDiff, Nat.reduceBEq, Nat.reduceSub, if_true, ite_true, cond_true, cond_false, List.replicate, if_false, ite_false, reduceCtorEq]
      refine Cont.mk (word_c s _) ?_
      simp (disch := omega) only [nm_t h1, hq, hnm, d1, hi, DC_w, DC_n, kill_0, Nat.sub_zero, ↓rD0, ↓rD1, ↓rD2, ↓rD3, ↓rD4, rU0, rU1, rU2, rU3, rU4, rU5, toNat_n, Int.reduceToNat, slA, ptrsA, boolsA, Int.reducePow, Nat.reducePow, Nat.reduceMul, Int.reduceLT, Int.reduceLE, resA, resL, res1, eq_self, wanted, evK, get, setO, one, faA, loadA, storeA, outA, lenA, isStr, binA, unA, bnd, ints, toDat, toDats, datss, fillA, splice, List.length_nil, List.flatten_nil, Nat.reduceAdd, Nat.reduceLeDiff, Nat.reduceBEq, Nat.reduceSub, if_true, ite_true, cond_true, cond_false, List.replicate, if_false, ite_false, reduceCtorEq]
      refine Cont.mk iA ?_
      simp (disch := omega) only [ei, idxI, hq, hnm, d1, hi, List.length_map, h3', DC_w, DC_n, kill_0, Nat.sub_zero, ↓rD0, ↓rD1, ↓rD2, ↓rD3, ↓rD4, rU0, rU1, rU2, rU3, rU4, rU5, toNat_n, Int.reduceToNat, slA, ptrsA, boolsA, Int.reducePow, Nat.reducePow, Nat.reduceMul, Int.reduceLT, Int.reduceLE, resA, resL, res1, eq_self, wanted, evK, get, setO, one, faA, loadA, storeA, outA, lenA, isStr, binA, unA, bnd, ints, toDat, toDats, datss, fillA, splice, List.length_nil, List.flatten_nil, Nat.reduceAdd, Nat.reduceLeDiff, Nat.reduceBEq, Nat.reduceSub, if_true, ite_true, cond_true, cond_false, List.replicate, if_false, ite_false, reduceCtorEq]
      refine W.dregD [([], [rb, vb]), ([], [rb, vb]), ([], [rb, vb]), ([], [rb, vb]), ([], [rb, vb]), ([], [rb, vb]), ([], [rb, vb]), ([], [rb, vb]), ([], [rb, vb]), ([], [rb, vb, r.nb]), ([], []), ([], []), ([], []), ([], []), ([], []), ([], []), ([], []), ([], []), ([], []), ([rb], []), ([], [rb]), ([], [rb]), ([], [rb]), ([], [rb]), ([], [rb]), ([], [rb]), ([], [rb]), ([], [rb]), ([], [rb]), ([vb], []), ([], []), ([r.nb], []), ([], []), ([r.fb], [])] follows (by decide +kernel) rfl rfl (fun z hz b hb => ?_) ?_
      · simp only [List.mem_cons, List.not_mem_nil, or_false] at hz
        have hz' : (z.1 = [] ∨ z.1 = [rb] ∨ z.1 = [vb] ∨ z.1 = [r.nb] ∨ z.1 = [r.fb]) ∧ (z.1 = [] ∨ z.2 = []) := by
          rcases hz with rfl | rfl | rfl | rfl | rfl | rfl | rfl | rfl | rfl | rfl | rfl | rfl | rfl | rfl | rfl | rfl | rfl | rfl | rfl | rfl | rfl | rfl | rfl | rfl | rfl | rfl | rfl | rfl | rfl | rfl | rfl | rfl | rfl | rfl <;> simp
        obtain ⟨hz1, hz2⟩ := hz'
        have hz3 : z.2 = [] := by
          rcases hz2 with h' | h'
          · rw [h'] at hb; simp at hb
          · exact h'
        rw [hz3]
        refine ⟨by simp, ?_⟩
        rcases hz1 with h' | h' | h' | h' | h' <;> rw [h'] at hb <;> simp at hb <;> subst hb
        · exact hrd
        · exact hvd
        · rw [hnm]; simp
        · rw [hfm]; simp
      repeat (rw [DC_p]; simp (disch := ((try simp only [List.mem_cons, List.not_mem_nil, or_false]); omega)) only [kill_out, hq, hnm, d1, hi, DC_w, DC_n, kill_0, Nat.sub_zero, ↓rD0, ↓rD1, ↓rD2, ↓rD3, ↓rD4, rU0, rU1, rU2, rU3, rU4, rU5, toNat_n, Int.reduceToNat, slA, ptrsA, boolsA, Int.reducePow, Nat.reducePow, Nat.reduceMul, Int.reduceLT, Int.reduceLE, resA, resL, res1, eq_self, wanted, evK, get, setO, one, faA, loadA, storeA, outA, lenA, isStr, binA, unA, bnd, ints, toDat, toDats, datss, fillA, splice, List.length_nil, List.flatten_nil, Nat.reduceAdd, Nat.reduceLeDiff, Nat.reduceBEq, Nat.reduceSub, if_true, ite_true, cond_true, cond_false, List.replicate, if_false, ite_false, reduceCtorEq])
      refine WStep.ev (fun _ _ e => by cases e) (fun _ _ e => by cases e) ?_
      simp (disch := omega) only [datss, elems_d, hxb, h3s, List.length_map, DC_w, DC_n, kill_0, Nat.sub_zero, ↓rD0, ↓rD1, ↓rD2, ↓rD3, ↓rD4, rU0, rU1, rU2, rU3, rU4, rU5, toNat_n, Int.reduceToNat, slA, ptrsA, boolsA, Int.reducePow, Nat.reducePow, Nat.reduceMul, Int.reduceLT, Int.reduceLE, resA, resL, res1, eq_self, wanted, evK, get, setO, one, faA, loadA, storeA, outA, lenA, isStr, binA, unA, bnd, ints, toDat, toDats, datss, fillA, splice, List.length_nil, List.flatten_nil, Nat.reduceAdd, Nat.reduceLeDiff, Nat.reduceBEq, Nat.reduceSub, if_true, ite_true, cond_true, cond_false, List.replicate, if_false, ite_false, reduceCtorEq]
      have e1 : H.set rb (ABlk.row 9 1 ((lastL st).length + 1)) = G1 := hG1.symm
      rw [e1]
      refine ⟨g1f, ?_⟩
      repeat (rw [DC_p]; simp (disch := ((try simp only [List.mem_cons, List.not_mem_nil, or_false]); omega)) only [kill_out, p1q, p1f, c1, hi, DC_w, DC_n, kill_0, Nat.sub_zero, ↓rD0, ↓rD1, ↓rD2, ↓rD3, ↓rD4, rU0, rU1, rU2, rU3, rU4, rU5, toNat_n, Int.reduceToNat, slA, ptrsA, boolsA, Int.reducePow, Nat.reducePow, Nat.reduceMul, Int.reduceLT, Int.reduceLE, resA, resL, res1, eq_self, wanted, evK, get, setO, one, faA, loadA, storeA, outA, lenA, isStr, binA, unA, bnd, ints, toDat, toDats, datss, fillA, splice, List.length_nil, List.flatten_nil, Nat.reduceAdd, Nat.reduceLeDiff, Nat.reduceBEq, Nat.reduceSub, if_true, ite_true, cond_true, cond_false, List.replicate, if_false, ite_false, reduceCtorEq])
      refine WStep.ev (fun _ _ e => by cases e) (fun _ _ e => by cases e) ?_
      simp (disch := omega) only [datss, elems_d, DC_w, DC_n, kill_0, Nat.sub_zero, ↓rD0, ↓rD1, ↓rD2, ↓rD3, ↓rD4, rU0, rU1, rU2, rU3, rU4, rU5, toNat_n, Int.reduceToNat, slA, ptrsA, boolsA, Int.reducePow, Nat.reducePow, Nat.reduceMul, Int.reduceLT, Int.reduceLE, resA, resL, res1, eq_self, wanted, evK, get, setO, one, faA, loadA, storeA, outA, lenA, isStr, binA, unA, bnd, ints, toDat, toDats, datss, fillA, splice, List.length_nil, List.flatten_nil, Nat.reduceAdd, Nat.reduceLeDiff, Nat.reduceBEq, Nat.reduceSub, if_true, ite_true, cond_true, cond_false, List.replicate, if_false, ite_false, reduceCtorEq]
      have e2 : G1 ++ [ABlk.row 3 1 1] = G2 := hG2.symm
      rw [e2]
      refine ⟨g2f, ?_⟩
      repeat (rw [DC_p]; simp (disch := omega) only [hi, DC_w, DC_n, kill_0, Nat.sub_zero, ↓rD0, ↓rD1, ↓rD2, ↓rD3, ↓rD4, rU0, rU1, rU2, rU3, rU4, rU5, toNat_n, Int.reduceToNat, slA, ptrsA, boolsA, Int.reducePow, Nat.reducePow, Nat.reduceMul, Int.reduceLT, Int.reduceLE, resA, resL, res1, eq_self, wanted, evK, get, setO, one, faA, loadA, storeA, outA, lenA, isStr, binA, unA, bnd, ints, toDat, toDats, datss, fillA, splice, List.length_nil, List.flatten_nil, Nat.reduceAdd, Nat.reduceLeDiff, Nat.reduceBEq, Nat.reduceSub, if_true, ite_true, cond_true, cond_false, List.replicate, if_false, ite_false, reduceCtorEq])
      refine WStep.ev (fun _ _ e => by cases e) (fun _ _ e => by cases e) ?_
      simp (disch := omega) only [p2n, d3, d4, DC_w, DC_n, kill_0, Nat.sub_zero, ↓rD0, ↓rD1, ↓rD2, ↓rD3, ↓rD4, rU0, rU1, rU2, rU3, rU4, rU5, toNat_n, Int.reduceToNat, slA, ptrsA, boolsA, Int.reducePow, Nat.reducePow, Nat.reduceMul, Int.reduceLT, Int.reduceLE, resA, resL, res1, eq_self, wanted, evK, get, setO, one, faA, loadA, storeA, outA, lenA, isStr, binA, unA, bnd, ints, toDat, toDats, datss, fillA, splice, List.length_nil, List.flatten_nil, Nat.reduceAdd, Nat.reduceLeDiff, Nat.reduceBEq, Nat.reduceSub, if_true, ite_true, cond_true, cond_false, List.replicate, if_false, ite_false, reduceCtorEq]
      refine ⟨FrOk.set (by simp), ?_⟩
      have e3 : G2.set r.nb (ABlk.cells (ni ++ AV.gsl rb 1 (((lastL st).map (·.1)).map sd ++ [[Dat.v (.string s)]]) :: r.nj)) = G3 := by rw [hG3, ← flat_sd]
      rw [e3]
      repeat (rw [DC_p]; simp (disch := omega) only [hi, DC_w, DC_n, kill_0, Nat.sub_zero, ↓rD0, ↓rD1, ↓rD2, ↓rD3, ↓rD4, rU0, rU1, rU2, rU3, rU4, rU5, toNat_n, Int.reduceToNat, slA, ptrsA, boolsA, Int.reducePow, Nat.reducePow, Nat.reduceMul, Int.reduceLT, Int.reduceLE, resA, resL, res1, eq_self, wanted, evK, get, setO, one, faA, loadA, storeA, outA, lenA, isStr, binA, unA, bnd, ints, toDat, toDats, datss, fillA, splice, List.length_nil, List.flatten_nil, Nat.reduceAdd, Nat.reduceLeDiff, Nat.reduceBEq, Nat.reduceSub, if_true, ite_true, cond_true, cond_false, List.replicate, if_false, ite_false, reduceCtorEq])
      refine WStep.ev (fun _ _ e => by cases e) (fun _ _ e => by cases e) ?_
      simp (disch := omega) only [p3f, c3, c4, DC_w, DC_n, kill_0, Nat.sub_zero, ↓rD0, ↓rD1, ↓rD2, ↓rD3, ↓rD4, rU0, rU1, rU2, rU3, rU4, rU5, toNat_n, Int.reduceToNat, slA, ptrsA, boolsA, Int.reducePow, Nat.reducePow, Nat.reduceMul, Int.reduceLT, Int.reduceLE, resA, resL, res1, eq_self, wanted, evK, get, setO, one, faA, loadA, storeA, outA, lenA, isStr, binA, unA, bnd, ints, toDat, toDats, datss, fillA, splice, List.length_nil, List.flatten_nil, Nat.reduceAdd, Nat.reduceLeDiff, Nat.reduceBEq, Nat.reduceSub, if_true, ite_true, cond_true, cond_false, List.replicate, if_false, ite_false, reduceCtorEq]
      refine ⟨FrOk.set (by simp), ?_⟩
      try simp (disch := omega) only [DC_w, DC_n, kill_0, Nat.sub_zero, ↓rD0, ↓rD1, ↓rD2, ↓rD3, ↓rD4, rU0, rU1, rU2, rU3, rU4, rU5, toNat_n, Int.reduceToNat, slA, ptrsA, boolsA, Int.reducePow, Nat.reducePow, Nat.reduceMul, Int.reduceLT, Int.reduceLE, resA, resL, res1, eq_self, wanted, evK, get, setO, one, faA, loadA, storeA, outA, lenA, isStr, binA, unA, bnd, ints, toDat, toDats, datss, fillA, splice, List.length_nil, List.flatten_nil, Nat.reduceAdd, Nat.reduceLeDiff, Nat.reduceBEq, Nat.reduceSub, if_true, ite_true, cond_true, cond_false, List.replicate, if_false, ite_false, reduceCtorEq]
      exact Ret.keep ⟨rfl, by rw [hG4, hne1, hvbe]; rfl⟩
    · have hby : vb ∈ rowB y := by rw [hye]; simp [rowB]
      have hvbl := hlt vb (by rw [hF]; simp only [List.mem_cons, List.mem_append]; exact .inr (.inr (.inr (.inr (.inr hby)))))
      obtain ⟨G2, hG2⟩ := eq_of_ex (G1.set vb (ABlk.row 3 1 ((lastL st).length + 1)))
      have hvb : vb ∈ rowB y ∨ H.length ≤ vb := .inl hby
      have hvr : vb ≠ rb := fun e => r6 (by rw [← e]; exact hby)
      rw [hn2] at hyb
      have g1v : G1[vb]? = some (.row 3 1 (lastL st).length) := by rw [g1o vb hvbl hvr, hyb]
      have g2b : G2[vb]? = some (.row 3 1 ((lastL st).length + 1)) := by rw [hG2]; exact getset_eq (by omega)
      have g2o : ∀ c, c < G1.length → c ≠ vb → G2[c]? = G1[c]? := fun c hc h' => by rw [hG2]; exact getset_ne (Ne.symm h')
      have g2l : G1.length ≤ G2.length := by rw [hG2]; simp
      have g2f : FrOk [vb] [] G1 G2 G2 := by rw [hG2]; exact FrOk.set (by simp)
      have hvd : H[vb]? ≠ some .dead := by rw [hyb]; simp
      have h8s : ((lastL st).length + 1) * 8 ≤ 140737488355328 := by omega
      have hrd : H[rb]? ≠ some .dead := by rw [hxb]; simp
      obtain ⟨v1, v2, v3, v4, v5, v6⟩ := h.sepy hni hfi hvb
      have vbl : vb < G2.length := (List.getElem?_eq_some_iff.1 g2b).1
      obtain ⟨G3, hG3⟩ := eq_of_ex (G2.set r.nb (ABlk.cells (ni ++ .gsl rb 1 (((lastL st).map (·.1) ++ [s]).map sd) :: r.nj)))
      obtain ⟨G4, hG4⟩ := eq_of_ex (G3.set r.fb (ABlk.cells (fi ++ .gsl vb 1 (((lastL st).map (·.2) ++ [n]).map nd) :: r.fj)))
      have g4o : ∀ c, c < H.length → c ≠ rb → c ≠ vb → c ≠ r.nb → c ≠ r.fb → G4[c]? = H[c]? := fun c h' e1 e2 e3 e4 => by rw [hG4, getset_ne (Ne.symm e4), hG3, getset_ne (Ne.symm e3), g2o c (by omega) e2, g1o c h' e1]
      have hfr : ∀ c ∈ ni.flatMap rowB ++ fi.flatMap rowB, G4[c]? = H[c]? := fun c hc => by
        have hcF : c ∈ r.F qb := by
          rw [hF]; simp only [List.mem_cons, List.mem_append] at hc ⊢
          rcases hc with hc | hc
          · exact .inr (.inr (.inr (.inl (.inl hc))))
          · exact .inr (.inr (.inr (.inr (.inl hc))))
        have hnd := h.ndp
        rw [hF] at hnd
        simp only [List.nodup_cons, List.nodup_append, List.mem_append, List.mem_cons, not_or] at hnd hc
        refine g4o c (hlt c hcF) (fun e => ?_) (fun e => ?_) (fun e => ?_) (fun e => ?_)
        · rcases hc with hc | hc
          · exact r4 (e ▸ hc)
          · exact r5 (e ▸ hc)
        · rcases hc with hc | hc
          · exact v4 (e ▸ hc)
          · exact v5 (e ▸ hc)
        · rcases hc with hc | hc
          · exact hnd.2.1.2.1.1 (e ▸ hc)
          · exact hnd.2.1.2.2.1 (e ▸ hc)
        · rcases hc with hc | hc
          · exact hnd.2.2.1.1.1 (e ▸ hc)
          · exact hnd.2.2.1.2.1 (e ▸ hc)
      have hfin : ∃ r', RfAt G4 qb r' (declS st s n) ∧ Chg H (r.F qb) G4 (r'.F qb) := by
        refine ⟨_, by
          rw [declS, if_pos hdv]
          exact h.declR (H' := G4) (rb := rb) (vb := vb) hni hfi hrb hvb (Ne.symm hvr) h1.2.1 (by omega) (g4o qb b3 (Ne.symm r1) (Ne.symm v1) q1 q2) (by rw [hG4, getset_ne (Ne.symm q3), hG3]; exact getset_eq (by omega)) (by rw [hG4]; exact getset_eq (by rw [hG3]; simp; omega))
            (by rw [hG4, getset_ne (Ne.symm r3), hG3, getset_ne (Ne.symm r2), g2o rb rbl (Ne.symm hvr), g1b]) (by rw [hG4, getset_ne (Ne.symm v3), hG3, getset_ne (Ne.symm v2), g2b]) hfr, ?_⟩
        · refine ⟨by rw [hG4, hG3]; simp; omega, fun c hc hF' => ?_, fun c hc => ?_⟩
          · refine g4o c hc (fun e => ?_) (fun e => ?_) (fun e => hF' (e ▸ m2)) (fun e => hF' (e ▸ m3))
            · rcases hrb with h' | h'
              · exact hF' (by rw [hF, e]; simp only [List.mem_cons, List.mem_append]; exact .inr (.inr (.inr (.inl (.inr h')))))
              · omega
            · rcases hvb with h' | h'
              · exact hF' (by rw [hF, e]; simp only [List.mem_cons, List.mem_append]; exact .inr (.inr (.inr (.inr (.inr h')))))
              · omega
          · rw [rfF_eq (r := ⟨r.nb, r.nc, r.nj, ni ++ [.gsl rb 1 (((lastL st).map (·.1) ++ [s]).map sd)], r.fb, r.fc, r.fj, fi ++ [.gsl vb 1 (((lastL st).map (·.2) ++ [n]).map nd)]⟩) (qb := qb) rfl rfl] at hc
            simp only [rowB] at hc
            rw [hF]
            simp only [List.mem_cons, List.mem_append, List.not_mem_nil, or_false] at hc ⊢
            rcases hc with hc | hc | hc | (hc | hc) | (hc | hc)
            · exact .inl (.inl hc)
            · exact .inl (.inr (.inl hc))
            · exact .inl (.inr (.inr (.inl hc)))
            · exact .inl (.inr (.inr (.inr (.inl (.inl hc)))))
            · rcases hrb with h' | h'
              · exact .inl (.inr (.inr (.inr (.inl (.inr (hc ▸ h'))))))
              · exact .inr (by omega)
            · exact .inl (.inr (.inr (.inr (.inr (.inl hc)))))
            · rcases hvb with h' | h'
              · exact .inl (.inr (.inr (.inr (.inr (.inr (hc ▸ h'))))))
              · exact .inr (by omega)
      obtain ⟨r', f1, f2⟩ := hfin
      have p1q : G1[qb]? = some (.cells [.hsl r.nb 0 st.length r.nc 1, .hsl r.fb 0 st.length r.fc 1]) := by rw [g1o qb b3 (Ne.symm r1), hq]
      have p1f : G1[r.fb]? = some (.cells (fi ++ y :: r.fj)) := by rw [g1o r.fb b2 (Ne.symm r3), hfm]
      have p2n : G2[r.nb]? = some (.cells (ni ++ x :: r.nj)) := by rw [g2o r.nb (by omega) (Ne.symm v2), g1o r.nb b1 (Ne.symm r2), hnm]
      have p3f : G3[r.fb]? = some (.cells (fi ++ y :: r.fj)) := by rw [hG3, getset_ne q3, g2o r.fb (by omega) (Ne.symm v3), p1f]
      refine ⟨_, r', ?_, f1, f2⟩
      have iA := index_a x4' (by simpa using hsm) s H
      rw [hxe] at hnm p2n iA
      rw [hye] at hfm p1f p3f
      refine ACalls.into Try.func18 cc18 rr18 fun hcl => ?_
      simp (disch := omega) only [Try.ntmps18, c18, r18, DC_w, DC_n, kill_0, Nat.sub_zero, ↓rD0, ↓rD1, ↓rD2, ↓rD3, ↓rD4, rU0, rU1, rU2, rU3, rU4, rU5, toNat_n, Int.reduceToNat, slA, ptrsA, boolsA, Int.reducePow, Nat.reducePow, Nat.reduceMul, Int.reduceLT, Int.reduceLE, resA, resL, res1, eq_self, wanted, evK, get, setO, one, faA, loadA, storeA, outA, lenA, isStr, binA, unA, bnd, ints, toDat, toDats, datss, fillA, splice, List.length_nil, List.flatten_nil, Nat.reduceAdd, Nat.reduceLeDiff, Nat.reduceBEq, Nat.reduceSub, if_true, ite_true, cond_true, cond_false, List.replicate, if_false, ite_false, reduceCtorEq]
      refine Cont.mk (depth_r h) ?_
      simp (disch := omega) only [DC_w, DC_n, kill_0, Nat.sub_zero, ↓rD0, ↓rD1, ↓rD2, ↓rD3, ↓rD4, rU0, rU1, rU2, rU3, rU4, rU5, toNat_n, Int.reduceToNat, slA, ptrsA, boolsA, Int.reducePow, Nat.reducePow, Nat.reduceMul, Int.reduceLT, Int.reduceLE, resA, resL, res1, eq_self, wanted, evK, get, setO, one, faA, loadA, storeA, outA, lenA, isStr, binA, unA, bnd, ints, toDat, toDats, datss, fillA, splice, List.length_nil, List.flatten_nil, Nat.reduceAdd, Nat.reduceLeDiff, Nat.reduceBEq, Nat.reduceSub, if_true, ite_true, cond_true, cond_false, List.replicate, if_false, ite_false, reduceCtorEq]
      refine Cont.mk (word_c s _) ?_
      simp (disch := omega) only [nm_t h1, hq, hnm, d1, hi, DC_w, DC_n, kill_0, Nat.sub_zero, ↓rD0, ↓rD1, ↓rD2, ↓rD3, ↓rD4, rU0, rU1, rU2, rU3, rU4, rU5, toNat_n, Int.reduceToNat, slA, ptrsA, boolsA, Int.reducePow, Nat.reducePow, Nat.reduceMul, Int.reduceLT, Int.reduceLE, resA, resL, res1, eq_self, wanted, evK, get, setO, one, faA, loadA, storeA, outA, lenA, isStr, binA, unA, bnd, ints, toDat, toDats, datss, fillA, splice, List.length_nil, List.flatten_nil, Nat.reduceAdd, Nat.reduceLeDiff, Nat.reduceBEq, Nat.reduceSub, if_true, ite_true, cond_true, cond_false, List.replicate, if_false, ite_false, reduceCtorEq]
      refine Cont.mk iA ?_
      simp (disch := omega) only [ei, idxI, hq, hnm, d1, hi, List.length_map, h3', DC_w, DC_n, kill_0, Nat.sub_zero, ↓rD0, ↓rD1, ↓rD2, ↓rD3, ↓rD4, rU0, rU1, rU2, rU3, rU4, rU5, toNat_n, Int.reduceToNat, slA, ptrsA, boolsA, Int.reducePow, Nat.reducePow, Nat.reduceMul, Int.reduceLT, Int.reduceLE, resA, resL, res1, eq_self, wanted, evK, get, setO, one, faA, loadA, storeA, outA, lenA, isStr, binA, unA, bnd, ints, toDat, toDats, datss, fillA, splice, List.length_nil, List.flatten_nil, Nat.reduceAdd, Nat.reduceLeDiff, Nat.reduceBEq, Nat.reduceSub, if_true, ite_true, cond_true, cond_false, List.replicate, if_false, ite_false, reduceCtorEq]
      refine W.dregD [([], [rb, vb]), ([], [rb, vb]), ([], [rb, vb]), ([], [rb, vb]), ([], [rb, vb]), ([], [rb, vb]), ([], [rb, vb]), ([], [rb, vb]), ([], [rb, vb]), ([], [rb, vb, r.nb]), ([], []), ([], []), ([], []), ([], []), ([], []), ([], []), ([], []), ([], []), ([], []), ([rb], []), ([], [rb]), ([], [rb]), ([], [rb]), ([], [rb]), ([], [rb]), ([], [rb]), ([], [rb]), ([], [rb]), ([], [rb]), ([vb], []), ([], []), ([r.nb], []), ([], []), ([r.fb], [])] follows (by decide +kernel) rfl rfl (fun z hz b hb => ?_) ?_
      · simp only [List.mem_cons, List.not_mem_nil, or_false] at hz
        have hz' : (z.1 = [] ∨ z.1 = [rb] ∨ z.1 = [vb] ∨ z.1 = [r.nb] ∨ z.1 = [r.fb]) ∧ (z.1 = [] ∨ z.2 = []) := by
          rcases hz with rfl | rfl | rfl | rfl | rfl | rfl | rfl | rfl | rfl | rfl | rfl | rfl | rfl | rfl | rfl | rfl | rfl | rfl | rfl | rfl | rfl | rfl | rfl | rfl | rfl | rfl | rfl | rfl | rfl | rfl | rfl | rfl | rfl | rfl <;> simp
        obtain ⟨hz1, hz2⟩ := hz'
        have hz3 : z.2 = [] := by
          rcases hz2 with h' | h'
          · rw [h'] at hb; simp at hb
          · exact h'
        rw [hz3]
        refine ⟨by simp, ?_⟩
        rcases hz1 with h' | h' | h' | h' | h' <;> rw [h'] at hb <;> simp at hb <;> subst hb
        · exact hrd
        · exact hvd
        · rw [hnm]; simp
        · rw [hfm]; simp
      repeat (rw [DC_p]; simp (disch := ((try simp only [List.mem_cons, List.not_mem_nil, or_false]); omega)) only [kill_out, hq, hnm, d1, hi, DC_w, DC_n, kill_0, Nat.sub_zero, ↓rD0, ↓rD1, ↓rD2, ↓rD3, ↓rD4, rU0, rU1, rU2, rU3, rU4, rU5, toNat_n, Int.reduceToNat, slA, ptrsA, boolsA, Int.reducePow, Nat.reducePow, Nat.reduceMul, Int.reduceLT, Int.reduceLE, resA, resL, res1, eq_self, wanted, evK, get, setO, one, faA, loadA, storeA, outA, lenA, isStr, binA, unA, bnd, ints, toDat, toDats, datss, fillA, splice, List.length_nil, List.flatten_nil, Nat.reduceAdd, Nat.reduceLeDiff, Nat.reduceBEq, Nat.reduceSub, if_true, ite_true, cond_true, cond_false, List.replicate, if_false, ite_false, reduceCtorEq])
      refine WStep.ev (fun _ _ e => by cases e) (fun _ _ e => by cases e) ?_
      simp (disch := omega) only [datss, elems_d, hxb, h3s, List.length_map, DC_w, DC_n, kill_0, Nat.sub_zero, ↓rD0, ↓rD1, ↓rD2, ↓rD3, ↓rD4, rU0, rU1, rU2, rU3, rU4, rU5, toNat_n, Int.reduceToNat, slA, ptrsA, boolsA, Int.reducePow, Nat.reducePow, Nat.reduceMul, Int.reduceLT, Int.reduceLE, resA, resL, res1, eq_self, wanted, evK, get, setO, one, faA, loadA, storeA, outA, lenA, isStr, binA, unA, bnd, ints, toDat, toDats, datss, fillA, splice, List.length_nil, List.flatten_nil, Nat.reduceAdd, Nat.reduceLeDiff, Nat.reduceBEq, Nat.reduceSub, if_true, ite_true, cond_true, cond_false, List.replicate, if_false, ite_false, reduceCtorEq]
      have e1 : H.set rb (ABlk.row 9 1 ((lastL st).length + 1)) = G1 := hG1.symm
      rw [e1]
      refine ⟨g1f, ?_⟩
      repeat (rw [DC_p]; simp (disch := ((try simp only [List.mem_cons, List.not_mem_nil, or_false]); omega)) only [kill_out, p1q, p1f, c1, hi, DC_w, DC_n, kill_0, Nat.sub_zero, ↓rD0, ↓rD1, ↓rD2, ↓rD3, ↓rD4, rU0, rU1, rU2, rU3, rU4, rU5, toNat_n, Int.reduceToNat, slA, ptrsA, boolsA, Int.reducePow, Nat.reducePow, Nat.reduceMul, Int.reduceLT, Int.reduceLE, resA, resL, res1, eq_self, wanted, evK, get, setO, one, faA, loadA, storeA, outA, lenA, isStr, binA, unA, bnd, ints, toDat, toDats, datss, fillA, splice, List.length_nil, List.flatten_nil, Nat.reduceAdd, Nat.reduceLeDiff, Nat.reduceBEq, Nat.reduceSub, if_true, ite_true, cond_true, cond_false, List.replicate, if_false, ite_false, reduceCtorEq])
      refine WStep.ev (fun _ _ e => by cases e) (fun _ _ e => by cases e) ?_
      simp (disch := omega) only [datss, elems_d, g1v, h8s, List.length_map, DC_w, DC_n, kill_0, Nat.sub_zero, ↓rD0, ↓rD1, ↓rD2, ↓rD3, ↓rD4, rU0, rU1, rU2, rU3, rU4, rU5, toNat_n, Int.reduceToNat, slA, ptrsA, boolsA, Int.reducePow, Nat.reducePow, Nat.reduceMul, Int.reduceLT, Int.reduceLE, resA, resL, res1, eq_self, wanted, evK, get, setO, one, faA, loadA, storeA, outA, lenA, isStr, binA, unA, bnd, ints, toDat, toDats, datss, fillA, splice, List.length_nil, List.flatten_nil, Nat.reduceAdd, Nat.reduceLeDiff, Nat.reduceBEq, Nat.reduceSub, if_true, ite_true, cond_true, cond_false, List.replicate, if_false, ite_false, reduceCtorEq]
      have e2 : G1.set vb (ABlk.row 3 1 ((lastL st).length + 1)) = G2 := hG2.symm
      rw [e2]
      refine ⟨g2f, ?_⟩
      repeat (rw [DC_p]; simp (disch := omega) only [hi, DC_w, DC_n, kill_0, Nat.sub_zero, ↓rD0, ↓rD1, ↓rD2, ↓rD3, ↓rD4, rU0, rU1, rU2, rU3, rU4, rU5, toNat_n, Int.reduceToNat, slA, ptrsA, boolsA, Int.reducePow, Nat.reducePow, Nat.reduceMul, Int.reduceLT, Int.reduceLE, resA, resL, res1, eq_self, wanted, evK, get, setO, one, faA, loadA, storeA, outA, lenA, isStr, binA, unA, bnd, ints, toDat, toDats, datss, fillA, splice, List.length_nil, List.flatten_nil, Nat.reduceAdd, Nat.reduceLeDiff, Nat.reduceBEq, Nat.reduceSub, if_true, ite_true, cond_true, cond_false, List.replicate, if_false, ite_false, reduceCtorEq])
      refine WStep.ev (fun _ _ e => by cases e) (fun _ _ e => by cases e) ?_
      simp (disch := omega) only [p2n, d3, d4, DC_w, DC_n, kill_0, Nat.sub_zero, ↓rD0, ↓rD1, ↓rD2, ↓rD3, ↓rD4, rU0, rU1, rU2, rU3, rU4, rU5, toNat_n, Int.reduceToNat, slA, ptrsA, boolsA, Int.reducePow, Nat.reducePow, Nat.reduceMul, Int.reduceLT, Int.reduceLE, resA, resL, res1, eq_self, wanted, evK, get, setO, one, faA, loadA, storeA, outA, lenA, isStr, binA, unA, bnd, ints, toDat, toDats, datss, fillA, splice, List.length_nil, List.flatten_nil, Nat.reduceAdd, Nat.reduceLeDiff, Nat.reduceBEq, Nat.reduceSub, if_true, ite_true, cond_true, cond_false, List.replicate, if_false, ite_false, reduceCtorEq]
      refine ⟨FrOk.set (by simp), ?_⟩
      have e3 : G2.set r.nb (ABlk.cells (ni ++ AV.gsl rb 1 (((lastL st).map (·.1)).map sd ++ [[Dat.v (.string s)]]) :: r.nj)) = G3 := by rw [hG3, ← flat_sd]
      rw [e3]
      repeat (rw [DC_p]; simp (disch := omega) only [hi, DC_w, DC_n, kill_0, Nat.sub_zero, ↓rD0, ↓rD1, ↓rD2, ↓rD3, ↓rD4, rU0, rU1, rU2, rU3, rU4, rU5, toNat_n, Int.reduceToNat, slA, ptrsA, boolsA, Int.reducePow, Nat.reducePow, Nat.reduceMul, Int.reduceLT, Int.reduceLE, resA, resL, res1, eq_self, wanted, evK, get, setO, one, faA, loadA, storeA, outA, lenA, isStr, binA, unA, bnd, ints, toDat, toDats, datss, fillA, splice, List.length_nil, List.flatten_nil, Nat.reduceAdd, Nat.reduceLeDiff, Nat.reduceBEq, Nat.reduceSub, if_true, ite_true, cond_true, cond_false, List.replicate, if_false, ite_false, reduceCtorEq])
      refine WStep.ev (fun _ _ e => by cases e) (fun _ _ e => by cases e) ?_
      simp (disch := omega) only [p3f, c3, c4, DC_w, DC_n, kill_0, Nat.sub_zero, ↓rD0, ↓rD1, ↓rD2, ↓rD3, ↓rD4, rU0, rU1, rU2, rU3, rU4, rU5, toNat_n, Int.reduceToNat, slA, ptrsA, boolsA, Int.reducePow, Nat.reducePow, Nat.reduceMul, Int.reduceLT, Int.reduceLE, resA, resL, res1, eq_self, wanted, evK, get, setO, one, faA, loadA, storeA, outA, lenA, isStr, binA, unA, bnd, ints, toDat, toDats, datss, fillA, splice, List.length_nil, List.flatten_nil, Nat.reduceAdd, Nat.reduceLeDiff, Nat.reduceBEq, Nat.reduceSub, if_true, ite_true, cond_true, cond_false, List.replicate, if_false, ite_false, reduceCtorEq]
      refine ⟨FrOk.set (by simp), ?_⟩
      try simp (disch := omega) only [DC_w, DC_n, kill_0, Nat.sub_zero, ↓rD0, ↓rD1, ↓rD2, ↓rD3, ↓rD4, rU0, rU1, rU2, rU3, rU4, rU5, toNat_n, Int.reduceToNat, slA, ptrsA, boolsA, Int.reducePow, Nat.reducePow, Nat.reduceMul, Int.reduceLT, Int.reduceLE, resA, resL, res1, eq_self, wanted, evK, get, setO, one, faA, loadA, storeA, outA, lenA, isStr, binA, unA, bnd, ints, toDat, toDats, datss, fillA, splice, List.length_nil, List.flatten_nil, Nat.reduceAdd, Nat.reduceLeDiff, Nat.reduceBEq, Nat.reduceSub, if_true, ite_true, cond_true, cond_false, List.replicate, if_false, ite_false, reduceCtorEq]
      exact Ret.keep ⟨rfl, by rw [hG4, ← flat_nd]⟩

theorem declare_r {H : List ABlk} {qb : Nat} {r : Rf} {st : St} (h : RfAt H qb r st) (s : ByteArray) (n : Int) :
    ∃ H' r', ACalls Try.prog 18 [.ptr qb 0, sv s, iv n] H (fun v H'' => v = iv (declV st s) ∧ H'' = H') ∧ RfAt H' qb r' (declS st s n) ∧ Chg H (r.F qb) H' (r'.F qb) := by
  by_cases hv : declV st s = 0
  · have h1 : Nm s := Classical.byContradiction fun h => by rw [declV, if_pos h] at hv; cases hv
    have h2 : lvGet (lastL st) s = none := by
      cases e : lvGet (lastL st) s with
      | none => rfl
      | some m => rw [declV, if_neg (by simpa using h1), e, if_pos (by rfl)] at hv; cases hv
    have h3 : (lastL st).length ≠ 256 := fun e => by rw [declV, if_neg (by simpa using h1), h2, if_neg (by simp), if_pos e] at hv; cases hv
    rw [hv]
    exact declare_ryes h s n h1 h2 h3
  · exact ⟨H, r, declare_rno h s n hv, by rw [declS, if_neg hv]; exact h, .rfl'⟩

end Go.Proofs.Ythgffjaiklmbcaa
