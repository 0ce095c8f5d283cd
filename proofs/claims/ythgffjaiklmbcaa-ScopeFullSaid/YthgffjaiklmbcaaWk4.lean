/- A scope of the program: Open, Declare. -/
import Derived.Test.YthgffjaiklmbcaaWk3
namespace Go.Proofs.Ythgffjaiklmbcaa
set_option linter.unusedSimpArgs false
set_option linter.unusedVariables false
set_option maxRecDepth 20000
set_option maxHeartbeats 2000000
open Go.RowKit

theorem getset_ne {H : List ABlk} {a b : Nat} {x : ABlk} (h : a ≠ b) : (H.set a x)[b]? = H[b]? := List.getElem?_set_ne h
theorem getset_eq {H : List ABlk} {a : Nat} {x : ABlk} (h : a < H.length) : (H.set a x)[a]? = some x := List.getElem?_set_self h
theorem elems1 {H : List ABlk} {b c : Nat} {x : AV} (h : H[b]? = some (.cells [x])) : elemsA H 1 (.hsl b 0 1 c 1) = some [[x]] := by
  simp only [elemsA, h]; rfl
theorem elems1n {H : List ABlk} {c : Nat} {x : AV} : elemsA (H ++ [.cells [x]]) 1 (.hsl H.length 0 1 c 1) = some [[x]] := elems1 (by rw [hg0]; rfl)
theorem open_c {H : List ABlk} {sb : Nat} {r : Im} {st : St} (h : ImAt H sb r st) : ACalls Try.prog 12 [.ptr sb 0] H fun v H' => v = iv (openV st) ∧ ∃ r', ImAt H' sb r' (openS st) ∧ Chg H (r.F sb) H' (r'.F sb) := by
  refine ACalls.into Try.func12 cc12 rr12 fun hcl => ?_
  have hl := lenA_l r h.l0
  have hs := isStr_l r
  simp only [lenA, isStr] at hl hs
  have hd := h.dl
  have hlen := h.len
  by_cases hf : st.length = 64
  · simp (disch := omega) only [Try.ntmps12, c12, r12, h.s, hl, hs, DC_w, DC_n, kill_0, Nat.sub_zero, ↓rD0, ↓rD1, ↓rD2, ↓rD3, ↓rD4, rU0, rU1, rU2, rU3, rU4, rU5, toNat_n, Int.reduceToNat, slA, ptrsA, boolsA, Int.reducePow, Nat.reducePow, Nat.reduceMul, Int.reduceLT, Int.reduceLE, resA, resL, res1, eq_self, wanted, evK, get, setO, one, faA, loadA, storeA, outA, lenA, isStr, binA, unA, bnd, ints, toDat, toDats, datss, fillA, splice, List.length_nil, List.flatten_nil, Nat.reduceAdd, Nat.reduceLeDiff, Nat.reduceBEq, Nat.reduceSub, if_true, ite_true, cond_true, cond_false, List.replicate, if_false, ite_false, reduceCtorEq]
    exact Ret.keep ⟨by rw [openV, if_pos hf], r, by rw [openS, if_pos hf]; exact h, .rfl'⟩
  · have hlt := h.lt
    have hsb : sb < H.length := hlt sb (by simp [Im.F])
    have hsp := h.s
    cases e : r.l with
    | none =>
      have h0 := h.l0 e
      have e2 : r.lA = .esl := by simp only [Im.lA, e]
      rw [e2] at hsp
      rw [h0] at hd
      simp only [List.length_nil] at hd
      have hp : ∀ l, (H ++ l)[sb]? = some (.cells [r.mA, .esl, r.f]) := fun l => hold hsp l
      simp (disch := omega) only [Try.ntmps12, c12, r12, hsp, hp, elems1n, DC_w, DC_n, kill_0, Nat.sub_zero, ↓rD0, ↓rD1, ↓rD2, ↓rD3, ↓rD4, rU0, rU1, rU2, rU3, rU4, rU5, toNat_n, Int.reduceToNat, slA, ptrsA, boolsA, Int.reducePow, Nat.reducePow, Nat.reduceMul, Int.reduceLT, Int.reduceLE, resA, resL, res1, eq_self, wanted, evK, get, setO, one, faA, loadA, storeA, outA, lenA, isStr, binA, unA, bnd, ints, toDat, toDats, datss, fillA, splice, List.length_nil, List.flatten_nil, Nat.reduceAdd, Nat.reduceLeDiff, Nat.reduceBEq, Nat.reduceSub, if_true, ite_true, cond_true, cond_false, List.replicate, if_false, ite_false, reduceCtorEq]
      refine Ret.keep ⟨by rw [openV, if_neg hf], { r with l := some (H.length + 1, 1, []), rs := r.rs ++ [.esl] }, ?_, ?_⟩
      · rw [openS, if_neg hf]
        have hr0 : r.rs.length = 0 := by rw [h0]; rfl
        refine h.open (by omega) ?_ ?_ (by omega) (fun hb => by have := hlt _ hb; omega) (fun b hb hne _ => ?_)
        · rw [getset_eq (by simp; omega), hr0]
        · rw [getset_ne (by omega), hgk, h0]; rfl
        · rw [getset_ne (Ne.symm hne), List.getElem?_append_left (hlt b hb)]
      · refine ⟨by simp, fun b hb hF => ?_, fun b hb => ?_⟩
        · rw [getset_ne (by rintro rfl; exact hF (by simp [Im.F])), List.getElem?_append_left hb]
        · simp only [Im.F, Im.mB, Im.lB, h0, List.mem_cons, List.mem_append, List.nil_append, List.flatMap_cons, List.flatMap_nil, rowB, List.not_mem_nil, or_false, List.append_nil] at hb ⊢
          rcases hb with rfl | hb | rfl | hb
          · exact .inl (.inl rfl)
          · exact .inl (.inr (.inl hb))
          · exact .inr (by omega)
          · exact .inl (.inr (.inr (.inr hb)))
    | some x =>
      obtain ⟨lb, cap, j⟩ := x
      obtain ⟨hl1, hl2⟩ := h.l _ e
      simp only at hl1 hl2
      have e2 : r.lA = .hsl lb 0 r.rs.length cap 1 := by simp only [Im.lA, e]
      rw [e2] at hsp
      have hlb : lb ∈ r.F sb := by simp [Im.F, Im.lB, e]
      have hlbl := hlt lb hlb
      have hne : lb ≠ sb := fun e' => by have := h.nd; simp [Im.F, Im.lB, e, e'] at this
      have hp : ∀ l, (H ++ l)[sb]? = some (.cells [r.mA, .hsl lb 0 r.rs.length cap 1, r.f]) := fun l => hold hsp l
      have hq : ∀ l, (H ++ l)[lb]? = some (.cells (r.rs ++ j)) := fun l => hold hl1 l
      have hlen2 : r.rs.length ≤ (r.rs ++ j).length := by simp
      have hp2 : ∀ l x l', ((H ++ l).set lb x ++ l')[sb]? = some (.cells [r.mA, .hsl lb 0 r.rs.length cap 1, r.f]) := fun l x l' => hold (by rw [getset_ne hne]; exact hold hsp l) l'
      simp (disch := omega) only [Try.ntmps12, c12, r12, hsp, hp, hp2, hq, elems1n, hlen2, DC_w, DC_n, kill_0, Nat.sub_zero, ↓rD0, ↓rD1, ↓rD2, ↓rD3, ↓rD4, rU0, rU1, rU2, rU3, rU4, rU5, toNat_n, Int.reduceToNat, slA, ptrsA, boolsA, Int.reducePow, Nat.reducePow, Nat.reduceMul, Int.reduceLT, Int.reduceLE, resA, resL, res1, eq_self, wanted, evK, get, setO, one, faA, loadA, storeA, outA, lenA, isStr, binA, unA, bnd, ints, toDat, toDats, datss, fillA, splice, List.length_nil, List.flatten_nil, Nat.reduceAdd, Nat.reduceLeDiff, Nat.reduceBEq, Nat.reduceSub, if_true, ite_true, cond_true, cond_false, List.replicate, if_false, ite_false, reduceCtorEq]
      have hgl : ∀ b, b < H.length → b ≠ sb → b ≠ lb → (((H ++ [ABlk.cells [.esl]]).set lb .dead ++ [ABlk.cells (List.take r.rs.length (r.rs ++ j) ++ [.esl])]).set sb (.cells [r.mA, .hsl (H.length + 1) 0 (r.rs.length + 1) (r.rs.length + 1) 1, r.f]))[b]? = H[b]? := fun b hb h1 h2 => by
        rw [getset_ne (Ne.symm h1), List.getElem?_append_left (by simp; omega), getset_ne (Ne.symm h2), List.getElem?_append_left hb]
      refine Ret.keep ⟨by rw [openV, if_neg hf], { r with l := some (H.length + 1, r.rs.length + 1, []), rs := r.rs ++ [.esl] }, ?_, ?_⟩
      · rw [openS, if_neg hf]
        refine h.open (by omega) ?_ ?_ (Nat.le_refl _) (fun hb => by have := hlt _ hb; omega) (fun b hb hne _ => ?_)
        · rw [getset_eq (by simp; omega)]
        · rw [getset_ne (by omega), List.getElem?_append_right (by simp), List.length_set, List.length_append]
          simp
        · exact hgl b (hlt b hb) hne (by rintro rfl; rename_i hh; exact hh (by simp [Im.lB, e]))
      · refine ⟨by simp; omega, fun b hb hF => ?_, fun b hb => ?_⟩
        · exact hgl b hb (by rintro rfl; exact hF (by simp [Im.F])) (by rintro rfl; exact hF hlb)
        · simp only [Im.F, Im.mB, Im.lB, e, List.mem_cons, List.mem_append, List.nil_append, List.flatMap_append, List.flatMap_cons, List.flatMap_nil, rowB, List.not_mem_nil, or_false, List.append_nil] at hb ⊢
          rcases hb with rfl | hb | rfl | hb
          · exact .inl (.inl rfl)
          · exact .inl (.inr (.inl hb))
          · exact .inr (by omega)
          · exact .inl (.inr (.inr (.inr hb)))
end Go.Proofs.Ythgffjaiklmbcaa
