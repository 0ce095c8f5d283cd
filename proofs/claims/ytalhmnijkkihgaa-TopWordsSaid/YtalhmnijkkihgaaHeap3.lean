/-
  One's own library, part 3c: rows that grow (append).
-/
import Derived.Test.YtalhmnijkkihgaaHeap2
namespace Go.Proofs.Ytalhmnijkkihgaa
set_option linter.unusedVariables false
set_option linter.unusedSimpArgs false
set_option linter.unusedSectionVars false
open Go.RowKit

theorem putM_in {σ : Sg} {g : Nat} {vs : List Value} {fr j : Nat} (h1 : fr ≤ j) {u : Value} (h2 : vs[j]? = some u) : (σ.putM g vs fr).M ⟨g, j, none⟩ = some u := by
  have hlt : j < vs.length := by
    rcases Nat.lt_or_ge j vs.length with hl | hl
    · exact hl
    · rw [List.getElem?_eq_none hl] at h2; cases h2
  show (if _ then _ else _) = _
  rw [if_pos ⟨rfl, rfl, h1, hlt⟩]
  exact h2
theorem putM_out {σ : Sg} {g : Nat} {vs : List Value} {fr : Nat} {a : Addr} (h : ¬ (a.block = g ∧ a.spot = none ∧ fr ≤ a.off ∧ a.off < vs.length)) : (σ.putM g vs fr).M a = σ.M a := if_neg h
theorem putM_some {σ : Sg} {g : Nat} {vs : List Value} {fr : Nat} {a : Addr} {v : Value} (h : (σ.putM g vs fr).M a = some v) :
    (a.block = g ∧ a.spot = none ∧ fr ≤ a.off ∧ vs[a.off]? = some v) ∨ σ.M a = some v := by
  by_cases e : a.block = g ∧ a.spot = none ∧ fr ≤ a.off ∧ a.off < vs.length
  · left
    have : (σ.putM g vs fr).M a = vs[a.off]? := if_pos e
    rw [this] at h
    exact ⟨e.1, e.2.1, e.2.2.1, h⟩
  · right
    rwa [putM_out e] at h

/-- A NEW CONCRETE ROW FOR A BLOCK, new or old: its first n elements never change any more. -/
theorem HR.rowAlloc {σ : Sg} {H H' : List ABlk} {w : World} (h : HR σ H w) (b0 n e sz cap : Nat) (vs : Array Value) (us : List Value) (hver : ∀ m, n ≤ m → σ.φ b0 m = none)
    (hH : ∀ b, b ≠ b0 → H'[b]? = H[b]?) (hH0 : H'[b0]? = some (.row e sz n)) (hlen : H.length ≤ H'.length) (hnd : H[b0]? ≠ some .dead)
    (hn : n ≤ cap) (hcap : 0 < cap) (hm : cap ≤ maxLen) (hsz : vs.size = cap * sz) (hus : vs.toList.take (n * sz) = us) :
    ∃ σ', Ext σ H w σ' H' (w.alloc (.cells vs e)) ∧ HR σ' H' (w.alloc (.cells vs e)) ∧ σ'.φ b0 n = some (.slice (some ⟨w.heap.size, 0, none⟩) n cap) ∧
      ∀ j u, us[j]? = some u → σ'.M ⟨w.heap.size, j, none⟩ = some u := by
  have hnz : cap ≠ 0 := by omega
  have hus' : us.length = n * sz := by
    rw [← hus, List.length_take, Array.length_toList, hsz]
    exact Nat.min_eq_left (Nat.mul_le_mul_right _ hn)
  have hvs : ∀ j u, us[j]? = some u → vs[j]? = some u := fun j u hj => by
    rw [← hus, List.getElem?_take] at hj
    split at hj
    · simpa using hj
    · cases hj
  let σ1 : Sg := σ.putM w.heap.size us 0
  have hM1 : ∀ a v, σ.M a = some v → σ1.M a = some v := fun a v hv => by
    have := h.Mlt hv
    show (σ.putM w.heap.size us 0).M a = some v
    rw [putM_out (fun e => by omega)]; exact hv
  have hle : σ.le (σ1.putφ b0 n (.slice (some ⟨w.heap.size, 0, none⟩) n cap)) :=
    (⟨hM1, fun _ _ _ h => h⟩ : σ.le σ1).trans (Sg.putφ_le (hver n (Nat.le_refl _)))
  refine ⟨σ1.putφ b0 n (.slice (some ⟨w.heap.size, 0, none⟩) n cap), ⟨hle, rfl, rfl, rfl, by simp, fun k hk _ => alloc_heap_old w _ hk, ?_, fun a ha => .inr ?_, fun b hb => ?_⟩, ?_, Sg.putφ_same .., fun j u hj => putM_in (Nat.zero_le _) hj⟩
  · rintro k ⟨b, blk, v, hb, hl, hφ, hc⟩
    by_cases eb : b = b0
    · subst eb
      rw [hH0] at hb; cases hb
      rw [show ABlk.ver (.row e sz n) = n from rfl, Sg.putφ_same] at hφ
      cases hφ
      simp [conc, hnz] at hc
      exact .inr (by omega)
    · rw [hH b eb] at hb
      rw [Sg.putφ_other _ _ _ _ _ eb] at hφ
      exact .inl ⟨b, blk, v, hb, hl, hφ, hc⟩
  · rcases Nat.lt_or_ge a.block w.heap.size with hl | hl
    · exact absurd (show (σ.putM w.heap.size us 0).M a = σ.M a from putM_out (fun e => by omega)) ha
    · exact hl
  · have hne : b ≠ b0 := fun e => hnd (e ▸ hb)
    exact ⟨by rw [hH b hne]; exact hb, fun n => Sg.putφ_other _ _ _ _ _ hne⟩
  · refine h.turn hle b0 (.row e sz n) hH hH0 hlen (fun b m hb => Sg.putφ_other _ _ _ _ _ hb) (fun a v hm => ?_) ?_ ?_
    · rcases putM_some (show (σ.putM w.heap.size us 0).M a = some v from hm) with ⟨h1, h2, _, h4⟩ | h1
      · simp only [World.cell?, h1, alloc_heap_new, h2, Option.isSome_none, Bool.false_eq_true, if_false]
        exact hvs _ _ h4
      · exact h.mem_alloc _ a v h1
    · refine ⟨_, us, Sg.putφ_same .., .inr ⟨w.heap.size, cap, vs, hcap, rfl, alloc_heap_new w _, hn, hm, hsz, hus⟩, fun m hm => ?_, fun g hg => ?_⟩
      · rw [Sg.putφ_ver _ _ _ _ (by omega)]; exact hver m (by omega)
      · simp [conc, hnz] at hg
        subst hg
        refine ⟨fun j u hj => putM_in (Nat.zero_le _) hj, fun a ha ho => ?_⟩
        show (σ.putM w.heap.size us 0).M a = none
        rw [putM_out (fun e => by omega)]
        cases hm : σ.M a with
        | none => rfl
        | some v => have := h.Mlt hm; omega
    · intro b k v g hb hk hl hv' hc
      have hlt := (h.blk b k hk).lt hl hv' hc
      refine ⟨alloc_heap_old w _ hlt, fun a ha => ?_, fun v0 _ hv0 => ?_⟩
      · show (σ.putM w.heap.size us 0).M a = _
        exact putM_out (fun e => by omega)
      · rw [show ABlk.ver (.row e sz n) = n from rfl, Sg.putφ_same] at hv0
        cases hv0
        simp [conc, hnz]; omega

/-- A ROW GROWS IN ITS OWN ROOM. -/
theorem HR.rowRoom {σ : Sg} {H : List ABlk} {w : World} (h : HR σ H w) (b e sz n m g cap : Nat) (cur : Array Value) (news : List Value) (hb : H[b]? = some (.row e sz n))
    (hφ : σ.φ b n = some (.slice (some ⟨g, 0, none⟩) n cap)) (hcap : 0 < cap) (hg : w.heap[g]? = some (.cells cur e (0, 0))) (hnm : n + m ≤ cap) (hcm : cap ≤ maxLen) (hsz : cur.size = cap * sz)
    (hm0 : 0 < m) (hl : news.length = m * sz) :
    ∃ σ', Ext σ H w σ' (H.set b (.row e sz (n + m))) (w.setRow g (cur.toList.take (n * sz) ++ news ++ cur.toList.drop (n * sz + news.length)).toArray) ∧
      HR σ' (H.set b (.row e sz (n + m))) (w.setRow g (cur.toList.take (n * sz) ++ news ++ cur.toList.drop (n * sz + news.length)).toArray) ∧
      σ'.φ b (n + m) = some (.slice (some ⟨g, 0, none⟩) (n + m) cap) ∧
      ∀ j u, (cur.toList.take (n * sz) ++ news)[j]? = some u → σ'.M ⟨g, j, none⟩ = some u := by
  have hnz : cap ≠ 0 := by omega
  obtain ⟨v0, xs, h1, h2, h3, h4⟩ := h.blk b _ hb
  rw [hφ] at h1; cases h1
  have hxs : cur.toList.take (n * sz) = xs := by
    rcases h2 with ⟨_, _, a, h2⟩ | ⟨g', cap', cur', _, h2, hh, _, _, _, ht⟩
    · injection h2 with _ _ h2; omega
    · injection h2 with h2 _ _
      injection h2 with h2
      cases h2
      rw [hg] at hh; cases hh
      exact ht
  obtain ⟨h5, h6⟩ := h4 g (by simp [conc, hnz])
  have hfit : (n + m) * sz ≤ cap * sz := Nat.mul_le_mul_right _ hnm
  have hnl : n * sz + news.length = (n + m) * sz := by rw [hl, Nat.add_mul]
  have htl : (cur.toList.take (n * sz)).length = n * sz := by
    rw [List.length_take, Array.length_toList, hsz]
    exact Nat.min_eq_left (by rw [Nat.add_mul] at hfit; omega)
  have hnewl : (cur.toList.take (n * sz) ++ news).length = (n + m) * sz := by rw [List.length_append, htl, hnl]
  have hlt : b < H.length := by
    rcases Nat.lt_or_ge b H.length with hl | hl
    · exact hl
    · rw [List.getElem?_eq_none hl] at hb; cases hb
  have hset : ∀ b', b' ≠ b → (H.set b (.row e sz (n + m)))[b']? = H[b']? := fun b' hne => by rw [List.getElem?_set_ne (Ne.symm hne)]
  have hset0 : (H.set b (.row e sz (n + m)))[b]? = some (.row e sz (n + m)) := by simp [hlt]
  let L := cur.toList.take (n * sz) ++ news
  let σ1 : Sg := σ.putM g L (n * sz)
  have hM1 : ∀ a v, σ.M a = some v → σ1.M a = some v := fun a v hv => by
    show (σ.putM g L (n * sz)).M a = some v
    rw [putM_out (fun e => by have := h6 a e.1 e.2.2.1; rw [this] at hv; cases hv)]; exact hv
  have hle : σ.le (σ1.putφ b (n + m) (.slice (some ⟨g, 0, none⟩) (n + m) cap)) :=
    (⟨hM1, fun _ _ _ h => h⟩ : σ.le σ1).trans (Sg.putφ_le (h3 _ (by omega)))
  have hLM : ∀ j u, L[j]? = some u → σ1.M ⟨g, j, none⟩ = some u := fun j u hj => by
    by_cases hjn : n * sz ≤ j
    · exact putM_in hjn hj
    · refine hM1 _ _ (h5 j u ?_)
      rw [← hxs]
      rw [List.getElem?_append_left (by rw [htl]; omega)] at hj
      exact hj
  have hnew : ∀ j, j < (n + m) * sz → (cur.toList.take (n * sz) ++ news ++ cur.toList.drop (n * sz + news.length))[j]? = L[j]? := fun j hj => by
    rw [List.getElem?_append_left (by rw [hnewl]; exact hj)]
  refine ⟨σ1.putφ b (n + m) (.slice (some ⟨g, 0, none⟩) (n + m) cap), ⟨hle, rfl, rfl, rfl, by simp, fun k hk hf => setRow_other w g k _ (fun e => hf ?_), ?_, fun a ha => .inl ?_, fun b' hd => dead_set hd hb (by simp) (fun n hne => Sg.putφ_other _ _ _ _ _ hne)⟩, ?_, Sg.putφ_same .., hLM⟩
  · subst e; exact ⟨b, _, _, hb, rfl, hφ, by simp [conc, hnz]⟩
  · rintro k ⟨b', blk, v, hb', hl', hφ', hc⟩
    by_cases eb : b' = b
    · subst eb
      rw [hset0] at hb'; cases hb'
      rw [show ABlk.ver (.row e sz (n + m)) = n + m from rfl, Sg.putφ_same] at hφ'
      cases hφ'
      exact .inl ⟨b', _, _, hb, rfl, hφ, by simpa [conc, hnz] using hc⟩
    · rw [hset b' eb] at hb'
      rw [Sg.putφ_other _ _ _ _ _ eb] at hφ'
      exact .inl ⟨b', blk, v, hb', hl', hφ', hc⟩
  · by_cases e : a.block = g
    · rw [e]; exact ⟨b, _, _, hb, rfl, hφ, by simp [conc, hnz]⟩
    · exact absurd (show (σ.putM g L (n * sz)).M a = σ.M a from putM_out (fun e' => e e'.1)) ha
  · refine h.turn hle b (.row e sz (n + m)) hset hset0 (by simp) (fun b' k hb' => Sg.putφ_other _ _ _ _ _ hb') (fun a v hm => ?_) ?_ ?_
    · rcases putM_some (show (σ.putM g L (n * sz)).M a = some v from hm) with ⟨h7, h8, _, h10⟩ | h7
      · have hj : a.off < (n + m) * sz := by
          rw [← hnewl]
          rcases Nat.lt_or_ge a.off L.length with hl | hl
          · exact hl
          · rw [List.getElem?_eq_none hl] at h10; cases h10
        simp only [World.cell?, h7, setRow_heap w g cur _ e _ hg, h8, Option.isSome_none, Bool.false_eq_true, if_false]
        rw [List.getElem?_toArray, hnew _ hj]; exact h10
      · by_cases hag : a.block = g
        · have hlt' : a.off < n * sz := by
            rcases Nat.lt_or_ge a.off (n * sz) with hl | hl
            · exact hl
            · rw [h6 a hag hl] at h7; cases h7
          have hc := h.mem a v h7
          simp only [World.cell?, hag, setRow_heap w g cur _ e _ hg]
          simp only [World.cell?, hag, hg] at hc
          split at hc
          · cases hc
          · rename_i hsp
            rw [if_neg hsp, List.getElem?_toArray, hnew _ (by rw [Nat.add_mul]; omega), List.getElem?_append_left (by rw [htl]; exact hlt'), List.getElem?_take, if_pos hlt']
            simpa using hc
        · rw [cell_setRow_other w g _ a hag]
          exact h.mem a v h7
    · refine ⟨_, L, Sg.putφ_same .., .inr ⟨g, cap, _, hcap, rfl, setRow_heap w g cur _ e _ hg, hnm, hcm, ?_, ?_⟩, fun k hk => ?_, fun g' hg' => ?_⟩
      · simp only [List.size_toArray, List.length_append, htl, List.length_drop, Array.length_toList, hsz]
        omega
      · simp only
        rw [← hnewl]
        exact List.take_left
      · rw [Sg.putφ_ver _ _ _ _ (by omega)]; exact h3 k (by omega)
      · simp [conc, hnz] at hg'
        subst hg'
        refine ⟨hLM, fun a ha ho => ?_⟩
        show (σ.putM g L (n * sz)).M a = none
        rw [putM_out (fun e => by have := e.2.2.2; rw [show L.length = _ from hnewl] at this; omega)]
        exact h6 a ha (by rw [Nat.add_mul] at ho; omega)
    · intro b' k v g' hne hk hl' hφ' hc
      have hgg : g' ≠ g := fun e => hne (h.inj b' b k _ v _ g' hk hb hl' rfl hφ' hφ hc (by simp [conc, hnz, e]))
      refine ⟨setRow_other w g g' _ hgg, fun a ha => ?_, fun v0 _ hv0 => ?_⟩
      · show (σ.putM g L (n * sz)).M a = _
        exact putM_out (fun e => hgg (ha.symm.trans e.1))
      · rw [show ABlk.ver (.row e sz (n + m)) = n + m from rfl, Sg.putφ_same] at hv0
        cases hv0
        simp [conc, hnz]; exact fun e => hgg e.symm

end Go.Proofs.Ytalhmnijkkihgaa
