/- A scope of the program: New, Open. -/
import Derived.Test.YthgffjaiklmbcaaWk2
namespace Go.Proofs.Ythgffjaiklmbcaa
set_option linter.unusedSimpArgs false
set_option linter.unusedVariables false
set_option maxRecDepth 20000
set_option maxHeartbeats 2000000
open Go.RowKit

def im0 : Im := ⟨none, none, .esl, []⟩
theorem ImAt.new (H : List ABlk) : ImAt (H ++ [.cells [.mnil, .esl, .esl]]) H.length im0 [[]] where
  s := by rw [hg0]; rfl
  m := fun x hx => by cases hx
  l := fun x hx => by cases hx
  l0 := fun _ => rfl
  rows := ⟨rfl, fun i x l hx hl => by
    match i, hx, hl with
    | 0, hx, hl =>
      cases hx; cases hl; exact .inl ⟨rfl, rfl⟩⟩
  nd := by simp [Im.F, im0, Im.mB, Im.lB, rowB]
  en := by simp [im0, Im.E, EN]
  get := fun k s => by
    simp only [im0, Im.E, getE, Option.map_none]
    split
    · rename_i h
      have : k = 0 := by have := h.2; simp at this; omega
      subst this
      rfl
    · rfl
  len := by simp
  lvs := by simp
theorem new_c (H : List ABlk) : ACalls Try.prog 8 [] H fun v H' => v = .ptr H.length 0 ∧ H' = H ++ [.cells [.mnil, .esl, .esl]] := by
  refine ACalls.into Try.func8 cc8 rr8 fun hcl => ?_
  simp (disch := omega) only [Try.ntmps8, c8, r8, DC_w, DC_n, kill_0, Nat.sub_zero, ↓rD0, ↓rD1, ↓rD2, ↓rD3, ↓rD4, rU0, rU1, rU2, rU3, rU4, rU5, toNat_n, Int.reduceToNat, slA, ptrsA, boolsA, Int.reducePow, Nat.reducePow, Nat.reduceMul, Int.reduceLT, Int.reduceLE, resA, resL, res1, eq_self, wanted, evK, get, setO, one, faA, loadA, storeA, outA, lenA, isStr, binA, unA, bnd, ints, toDat, toDats, datss, fillA, splice, List.length_nil, List.flatten_nil, Nat.reduceAdd, Nat.reduceLeDiff, Nat.reduceBEq, Nat.reduceSub, if_true, ite_true, cond_true, cond_false, List.replicate, if_false, ite_false, reduceCtorEq]
  exact Ret.keep ⟨rfl, rfl⟩

theorem RowsA.mono {α : Type} {e : Nat} {c : α → List Dat} {H H' : List ABlk} {xs : List AV} {ls : List (List α)} (h : RowsA e c H xs ls) (hH : ∀ b ∈ xs.flatMap rowB, H'[b]? = H[b]?) : RowsA e c H' xs ls := h.frame hH
theorem ImAt.open {H H' : List ABlk} {sb lb cap : Nat} {r : Im} {st : St} (h : ImAt H sb r st) (hlt : st.length < 64) (h1 : H'[sb]? = some (.cells [r.mA, .hsl lb 0 (r.rs.length + 1) cap 1, r.f])) (h2 : H'[lb]? = some (.cells (r.rs ++ [.esl]))) (hc : r.rs.length + 1 ≤ cap)
    (h3 : lb ∉ r.F sb) (h4 : ∀ b ∈ r.F sb, b ≠ sb → b ∉ r.lB → H'[b]? = H[b]?) : ImAt H' sb { r with l := some (lb, cap, []), rs := r.rs ++ [.esl] } (st ++ [[]]) := by
  have hnd := h.nd
  have hin : ∀ b, b ∈ r.mB ∨ b ∈ rowB r.f ∨ b ∈ r.rs.flatMap rowB → H'[b]? = H[b]? := fun b hb => by
    simp only [Im.F, List.nodup_cons, List.nodup_append, List.mem_append] at hnd
    refine h4 b ?_ ?_ ?_
    · simp only [Im.F, List.mem_cons, List.mem_append]
      rcases hb with hb | hb | hb
      · exact .inr (.inl hb)
      · exact .inr (.inr (.inr (.inl hb)))
      · exact .inr (.inr (.inr (.inr hb)))
    · rintro rfl
      rcases hb with hb | hb | hb
      · exact hnd.1 (.inl hb)
      · exact hnd.1 (.inr (.inr (.inl hb)))
      · exact hnd.1 (.inr (.inr (.inr hb)))
    · intro hl
      rcases hb with hb | hb | hb
      · exact hnd.2.2.2 b hb b (.inl hl) rfl
      · exact hnd.2.2.1.2.2 b hl b (.inl hb) rfl
      · exact hnd.2.2.1.2.2 b hl b (.inr hb) rfl
  constructor
  · rw [h1]; simp [Im.mA, Im.lA]
  · intro x hx
    rw [hin x.1 (.inl (by rw [Im.mB, show r.m = some x from hx]; simp))]
    exact h.m x hx
  · intro x hx
    cases hx
    exact ⟨by rw [h2, List.append_nil], by simpa using hc⟩
  · intro hx; cases hx
  · have := (h.rows.frame (H' := H') (fun b hb => hin b (by rw [List.flatMap_cons, List.mem_append] at hb; exact .inr hb))).app (ys := [.esl]) (ms := [[]]) ⟨rfl, fun i x l hx hl => by
      match i, hx, hl with
      | 0, hx, hl => cases hx; cases hl; exact .inl ⟨rfl, rfl⟩⟩
    simpa using this
  · simp only [Im.F, Im.mB, Im.lB, List.flatMap_append, List.flatMap_cons, List.flatMap_nil, rowB, List.append_nil] at hnd h3 ⊢
    simp only [List.nodup_cons, List.nodup_append, List.mem_append, List.mem_cons, not_or, List.not_mem_nil] at hnd h3 ⊢
    obtain ⟨n1, n2, n3, n4⟩ := hnd
    refine ⟨⟨n1.1, ⟨fun e => h3.1 e.symm, by simp⟩, n1.2.2⟩, n2, ⟨⟨by simp, .nil⟩, n3.2.1, fun a ha b hb => ?_⟩, fun a ha b hb => ?_⟩
    · rcases ha with rfl | ha
      · rintro rfl; rcases hb with hb | hb
        · exact h3.2.2.2.1 hb
        · exact h3.2.2.2.2 hb
      · exact absurd ha (by simp)
    · rcases hb with (rfl | hb) | hb
      · rintro rfl; exact h3.2.1 ha
      · exact absurd hb (by simp)
      · exact n4 a ha b (.inr hb)
  · exact h.en
  · intro k s
    have := h.get k s
    show (getE r.E k s).map En.n = _
    rw [this, List.length_append]
    by_cases hk : 0 ≤ k ∧ k < (st.length : Int)
    · rw [if_pos hk, if_pos ⟨hk.1, by simp; omega⟩, List.getD_eq_getElem?_getD, List.getD_eq_getElem?_getD, List.getElem?_append_left (by omega)]
    · rw [if_neg hk]
      split
      · rename_i h'
        have : k.toNat = st.length := by have := h'.2; simp at this; omega
        rw [this, List.getD_eq_getElem?_getD, List.getElem?_concat_length]
        rfl
      · rfl
  · simp; omega
  · intro l hl
    rcases List.mem_append.1 hl with hl | hl
    · exact h.lvs l hl
    · simp at hl; subst hl; simp

theorem nd_facts {sb : Nat} {r : Im} {init : List AV} {x : AV} (hnd : (r.F sb).Nodup) (hr : r.f :: r.rs = init ++ [x]) :
    (sb ∉ r.mB ∧ sb ∉ r.lB ∧ sb ∉ init.flatMap rowB ∧ sb ∉ rowB x) ∧ (∀ b ∈ r.mB, b ∉ r.lB ∧ b ∉ init.flatMap rowB ∧ b ∉ rowB x) ∧ (∀ b ∈ r.lB, b ∉ init.flatMap rowB ∧ b ∉ rowB x) ∧ (∀ b ∈ init.flatMap rowB, b ∉ rowB x) ∧ (init.flatMap rowB).Nodup := by
  have e : r.F sb = sb :: (r.mB ++ (r.lB ++ (init.flatMap rowB ++ rowB x))) := by
    have : rowB r.f ++ r.rs.flatMap rowB = (r.f :: r.rs).flatMap rowB := by simp
    rw [Im.F, this, hr]; simp
  rw [e] at hnd
  simp only [List.nodup_cons, List.nodup_append, List.mem_append, not_or] at hnd
  obtain ⟨⟨a1, a2, a3, a4⟩, b1, ⟨c1, ⟨d1, d2, d3⟩, c3⟩, b3⟩ := hnd
  exact ⟨⟨a1, a2, a3, a4⟩, fun b hb => ⟨fun h => b3 b hb b (.inl h) rfl, fun h => b3 b hb b (.inr (.inl h)) rfl, fun h => b3 b hb b (.inr (.inr h)) rfl⟩, fun b hb => ⟨fun h => c3 b hb b (.inl h) rfl, fun h => c3 b hb b (.inr h) rfl⟩, fun b hb h => d3 b hb b h rfl, d1⟩
theorem F_eq {sb : Nat} {r : Im} {init : List AV} {x : AV} (hr : r.f :: r.rs = init ++ [x]) : r.F sb = sb :: (r.mB ++ (r.lB ++ (init.flatMap rowB ++ rowB x))) := by
  have : rowB r.f ++ r.rs.flatMap rowB = (r.f :: r.rs).flatMap rowB := by simp
  rw [Im.F, this, hr]; simp
theorem last_get {st : St} (h : 0 < st.length) : st[st.length - 1]? = some (lastL st) := by
  rw [lastL, List.getD_eq_getElem?_getD, List.getElem?_eq_getElem (by omega)]; rfl
theorem rows_last {α : Type} {e : Nat} {c : α → List Dat} {H : List ABlk} {init : List AV} {x : AV} {ls : List (List α)} (h : RowsA e c H (init ++ [x]) ls) : init.length + 1 = ls.length ∧ RowsA e c H init (ls.take init.length) ∧ ∃ l, ls = ls.take init.length ++ [l] ∧ RowA e c H x l := by
  have hl := h.1
  simp at hl
  have e1 : (init ++ [x]).take init.length = init := by simp
  refine ⟨hl, by have := h.take init.length; rwa [e1] at this, ls[init.length]'(by omega), ?_, h.2 init.length x _ (by simp) (List.getElem?_eq_getElem (by omega))⟩
  conv => lhs; rw [← List.take_append_drop init.length ls, List.drop_eq_getElem_cons (by omega), List.drop_eq_nil_of_le (by omega)]

theorem ImAt.declR {H H' : List ABlk} {sb b mb ck : Nat} {r : Im} {st : St} {init : List AV} {x f' : AV} {rs' : List AV} {s : ByteArray} {n : Int} (h : ImAt H sb r st) (hr : r.f :: r.rs = init ++ [x])
    (hr' : f' :: rs' = init ++ [.gsl b 1 (((lastL st).map (·.1) ++ [s]).map sd)])
    (hm : mb ≠ sb ∧ mb ∉ r.lB ∧ mb ∉ init.flatMap rowB) (hb : b ≠ sb ∧ b ∉ r.lB ∧ b ∉ init.flatMap rowB ∧ b ≠ mb) (hs : s.size ≤ 24) (hll : (lastL st).length < 256) (hnew : lvGet (lastL st) s = none)
    (h1 : H'[sb]? = some (.cells [.mp mb, r.lA, f'])) (h2 : H'[mb]? = some (.map kt (ck + 1) ((r.E ++ [En.mk ((st.length : Int) - 1) s n ck]).map En.e))) (h3 : H'[b]? = some (.row 9 1 ((lastL st).length + 1)))
    (h4 : ∀ x, r.l = some x → H'[x.1]? = some (.cells (rs' ++ x.2.2))) (h5 : ∀ c ∈ init.flatMap rowB, H'[c]? = H[c]?) :
    ImAt H' sb ⟨some (mb, ck + 1, r.E ++ [En.mk ((st.length : Int) - 1) s n ck]), r.l, f', rs'⟩ (st.set (st.length - 1) (lastL st ++ [(s, n)])) := by
  obtain ⟨⟨a1, a2, a3, a4⟩, a5, a6, a7, a8⟩ := nd_facts h.nd hr
  have hrows := h.rows
  rw [hr] at hrows
  obtain ⟨g1, g2, l, g3, g4⟩ := rows_last hrows
  have hdl := h.dl
  have hst : 0 < st.length := by omega
  have hll' : rs'.length = r.rs.length := by
    have e1 := congrArg List.length hr
    have e2 := congrArg List.length hr'
    simp at e1 e2; omega
  rw [List.length_map] at g1
  have hset : ∀ y : Lv, st.set (st.length - 1) y = st.take init.length ++ [y] := fun y => by
    rw [List.set_eq_take_append_cons_drop, if_pos (by omega), show st.length - 1 = init.length by omega, List.drop_eq_nil_of_le (by omega)]
  constructor
  · rw [h1]; simp only [Im.mA, Im.lA, hll']
  · intro x hx; cases hx; exact h2
  · intro x hx
    refine ⟨h4 x hx, ?_⟩
    rw [show (Im.rs ⟨some (mb, ck + 1, r.E ++ [En.mk ((st.length : Int) - 1) s n ck]), r.l, f', rs'⟩).length = rs'.length from rfl, hll']
    exact (h.l x hx).2
  · intro hx
    have := h.l0 hx
    rw [this] at hll'
    exact List.eq_nil_of_length_eq_zero hll'
  · show RowsA 9 sd H' (f' :: rs') _
    rw [hr', hset]
    have hlast : RowsA 9 sd H' [.gsl b 1 (((lastL st).map (·.1) ++ [s]).map sd)] [(lastL st ++ [(s, n)]).map (·.1)] := ⟨rfl, fun i x l hx hl => by
      match i, hx, hl with
      | 0, hx, hl =>
        cases hx; cases hl
        exact .inr ⟨b, by simp, by rw [h3]; simp⟩⟩
    have hfst : RowsA 9 sd H' init ((st.take init.length).map (·.map (·.1))) := by rw [List.map_take]; exact g2.frame h5
    have := hfst.app hlast
    simpa only [List.map_append, List.map_cons, List.map_nil] using this
  · rw [F_eq (r := ⟨some (mb, ck + 1, r.E ++ [En.mk ((st.length : Int) - 1) s n ck]), r.l, f', rs'⟩) (sb := sb) hr']
    show (sb :: ([mb] ++ (r.lB ++ (init.flatMap rowB ++ [b])))).Nodup
    have hlnd : r.lB.Nodup := by unfold Im.lB; split <;> simp
    simp only [List.nodup_cons, List.nodup_append, List.mem_append, List.mem_cons, not_or, List.not_mem_nil, or_false]
    refine ⟨⟨Ne.symm hm.1, a2, a3, Ne.symm hb.1⟩, ⟨⟨not_false, .nil⟩, ⟨hlnd, ⟨a8, ⟨not_false, .nil⟩, ?_⟩, ?_⟩, ?_⟩⟩
    · rintro a ha _ rfl rfl; exact hb.2.2.1 ha
    · rintro a ha c (hc | rfl) rfl
      · exact (a6 a ha).1 hc
      · exact hb.2.1 ha
    · rintro _ rfl c (hc | hc | rfl) rfl
      · exact hm.2.1 hc
      · exact hm.2.2 hc
      · exact hb.2.2.2 rfl
  · show EN (r.E ++ [_])
    have hne : getE r.E ((st.length : Int) - 1) s = none := by
      have := h.get ((st.length : Int) - 1) s
      rw [if_pos (by omega), show ((st.length : Int) - 1).toNat = st.length - 1 by omega] at this
      rw [show st.getD (st.length - 1) [] = lastL st from rfl, hnew] at this
      exact Option.map_eq_none_iff.1 this
    have := getE_mem.1 hne
    unfold EN
    rw [List.map_append, List.nodup_append]
    refine ⟨h.en, by simp, ?_⟩
    rintro a ha b hb rfl
    simp at hb
    exact this (by rw [← hb]; exact ha)
  · intro k t
    show (getE (r.E ++ [_]) k t).map En.n = _
    have hg := h.get k t
    rw [getE_app, List.length_set]
    by_cases hk : 0 ≤ k ∧ k < (st.length : Int)
    · rw [if_pos hk] at hg ⊢
      by_cases hkd : k = (st.length : Int) - 1
      · have e1 : k.toNat = st.length - 1 := by omega
        rw [e1] at hg ⊢
        rw [List.getD_eq_getElem?_getD, List.getElem?_set_self (by omega), Option.getD_some, lvGet_app]
        rw [show st.getD (st.length - 1) [] = lastL st from rfl] at hg
        rw [← hg]
        cases getE r.E k t with
        | some m => rfl
        | none =>
          simp only [Option.map_none, hkd, true_and]
          split <;> rfl
      · rw [List.getD_eq_getElem?_getD, List.getElem?_set_ne (by omega), ← List.getD_eq_getElem?_getD, ← hg]
        cases getE r.E k t with
        | some m => rfl
        | none => simp only [Option.map_none]; rw [if_neg (fun e => hkd e.1.symm)]; rfl
    · rw [if_neg hk] at hg ⊢
      rw [Option.map_eq_none_iff] at hg
      rw [hg]
      simp only
      rw [if_neg (fun e => hk (by omega))]
      rfl
  · rw [List.length_set]; exact h.len
  · intro l hl
    rcases List.mem_or_eq_of_mem_set hl with hl | rfl
    · exact h.lvs l hl
    · have hm := h.lvs (lastL st) (List.mem_of_getElem? (last_get hst))
      refine ⟨by simp; omega, fun x hx => ?_⟩
      rcases List.mem_append.1 hx with hx | hx
      · exact hm.2 x hx
      · simp at hx; subst hx; exact hs
end Go.Proofs.Ythgffjaiklmbcaa
