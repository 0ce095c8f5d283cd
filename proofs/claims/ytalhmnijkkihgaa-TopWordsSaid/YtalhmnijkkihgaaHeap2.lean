/-
  One's own library, part 3b: stores into blocks, rows that grow, what is left behind at a return.
-/
import Derived.Test.YtalhmnijkkihgaaHeap
import Derived.Deep.AppendSrc
namespace Go.Proofs.Ytalhmnijkkihgaa
set_option linter.unusedVariables false
set_option linter.unusedSimpArgs false
set_option linter.unusedSectionVars false
open Go.RowKit

theorem all_one {σ : Sg} {x : AV} {u : Value} (h : VR σ x u) (ho : one x = true) : u.oneCell' = true := by
  cases h <;> first | rfl | (cases ho; done) | skip
  · rename_i h; cases h <;> first | rfl | skip
    rename_i h; cases u <;> first | rfl | cases h
  · rename_i h; cases h <;> rfl

/-- A STORE INTO A BLOCK OF CELLS: its cells are others now. -/
theorem HR.setCells {σ : Sg} {H : List ABlk} {w : World} (h : HR σ H w) {b g : Nat} {cs cs' : List AV} (hb : H[b]? = some (.cells cs)) (h1 : σ.φ b 0 = some (.pointer (some ⟨g, 0, none⟩))) :
    ∃ vs t, σ.φ b 1 = some (.int .i64 vs.size) ∧ w.heap[g]? = some (.cells vs t (0, 0)) ∧ VRs σ cs (vs.toList.take cs.length) ∧
      ∀ vs' : Array Value, vs'.size = vs.size → VRs σ cs' (vs'.toList.take cs'.length) → Ext σ H w σ (H.set b (.cells cs')) (w.setRow g vs') ∧ HR σ (H.set b (.cells cs')) (w.setRow g vs') := by
  obtain ⟨vs, t, h1', h2, h3, h4⟩ := h.cellsAt hb h1
  refine ⟨vs, t, h1', h2, h3, fun vs' hsz' hv' => ?_⟩
  have hlt : b < H.length := by
    rcases Nat.lt_or_ge b H.length with hl | hl
    · exact hl
    · rw [List.getElem?_eq_none hl] at hb; cases hb
  have hset : ∀ b', b' ≠ b → (H.set b (.cells cs'))[b']? = H[b']? := fun b' hne => by rw [List.getElem?_set_ne (Ne.symm hne)]
  have hset0 : (H.set b (.cells cs'))[b]? = some (.cells cs') := by simp [hlt]
  refine ⟨⟨.refl σ, rfl, rfl, rfl, by simp, fun k hk hf => setRow_other w g k vs' (fun e => hf ?_), ?_, fun _ h => absurd rfl h, fun b' hd => dead_set hd hb (by simp) (fun _ _ => rfl)⟩, ?_⟩
  · subst e; exact ⟨b, _, _, hb, rfl, h1, rfl⟩
  · rintro k ⟨b', blk, v, hb', hl, hφ, hc⟩
    by_cases e : b' = b
    · subst e
      rw [hset0] at hb'; cases hb'
      exact .inl ⟨b', _, v, hb, rfl, hφ, hc⟩
    · rw [hset b' e] at hb'
      exact .inl ⟨b', blk, v, hb', hl, hφ, hc⟩
  · refine h.turn (.refl σ) b (.cells cs') hset hset0 (by simp) (fun _ _ _ => rfl) (fun a v hm => ?_) (.inl ⟨g, vs', t, h1, by rw [hsz']; exact h1', setRow_heap w g vs vs' t _ h2, hv', h4⟩) ?_
    · have hne : a.block ≠ g := fun e => by rw [h4 a e] at hm; cases hm
      rw [cell_setRow_other w g vs' a hne]
      exact h.mem a v hm
    · intro b' k v g' hne hk hl hφ hc
      have hgg : g' ≠ g := fun e => hne (h.inj b' b k _ v _ g' hk hb hl rfl hφ h1 hc (by simp [conc, e]))
      refine ⟨setRow_other w g g' vs' hgg, fun _ _ => rfl, fun v0 _ hv0 => ?_⟩
      rw [show ABlk.ver (.cells cs') = 0 from rfl, h1] at hv0
      cases hv0
      simp [conc]; exact fun e => hgg e.symm

/-- What a slice's data are, cell by cell. -/
theorem VD.sl_cells {M : Mem} {es : List (List Dat)} {v : Value} (h : VD M (.sl es) v) :
    ∃ a cap, v = .slice a es.length cap ∧ es.length ≤ maxLen ∧ (es ≠ [] → es.length ≤ cap ∧ ∃ ad sz, a = some ad ∧ (∀ e ∈ es, e.length = sz) ∧ ∃ u : Nat → Nat → Value,
      (∀ (i : Nat) (e : List Dat) (j : Nat) (d : Dat), es[i]? = some e → e[j]? = some d → M (ad.add (i * sz + j)) = some (u i j)) ∧
      (∀ (i : Nat) (e : List Dat) (j : Nat) (d : Dat), es[i]? = some e → e[j]? = some d → VD M d (u i j))) := by
  cases h with
  | nil => exact ⟨_, _, rfl, Nat.zero_le _, fun h => absurd rfl h⟩
  | sl u h1 h2 hm h3 h4 h5 => exact ⟨_, _, rfl, Nat.le_trans h2 hm, fun _ => ⟨h2, _, _, rfl, h3, u, h4, h5⟩⟩

/-- Lists of data, cell by cell. -/
def VDs (M : Mem) (ds : List Dat) (us : List Value) : Prop := ds.length = us.length ∧ ∀ (i : Nat) (d : Dat) (u : Value), ds[i]? = some d → us[i]? = some u → VD M d u
theorem VDs.mono {M M' : Mem} (h : ∀ a v, M a = some v → M' a = some v) {ds : List Dat} {us : List Value} (hv : VDs M ds us) : VDs M' ds us :=
  ⟨hv.1, fun i d u h1 h2 => (hv.2 i d u h1 h2).mono h⟩
theorem VDs.append {M : Mem} {ds ds' : List Dat} {us us' : List Value} (h : VDs M ds us) (k : VDs M ds' us') : VDs M (ds ++ ds') (us ++ us') := by
  refine ⟨by simp [h.1, k.1], fun i c u h1 h2 => ?_⟩
  rw [List.getElem?_append] at h1 h2
  by_cases hi : i < ds.length
  · rw [if_pos hi] at h1
    rw [if_pos (by rw [← h.1]; exact hi)] at h2
    exact h.2 i c u h1 h2
  · rw [if_neg hi] at h1
    rw [if_neg (by rw [← h.1]; exact hi)] at h2
    rw [← h.1] at h2
    exact k.2 _ c u h1 h2

theorem flat_at {α : Type} {es : List (List α)} {sz : Nat} (h : ∀ e ∈ es, e.length = sz) : ∀ (i : Nat) (e : List α) (j : Nat) (d : α), es[i]? = some e → e[j]? = some d → es.flatten[i * sz + j]? = some d := by
  induction es with
  | nil => intro i e j d hi; simp at hi
  | cons x es ih =>
    intro i e j d hi hj
    have hx : x.length = sz := h x (by simp)
    cases i with
    | zero =>
      simp at hi; subst hi
      have hlt : j < x.length := by
        rcases Nat.lt_or_ge j x.length with hl | hl
        · exact hl
        · rw [List.getElem?_eq_none hl] at hj; cases hj
      simp [List.getElem?_append, hlt]
      simpa [List.getElem?_eq_getElem hlt] using hj
    | succ i =>
      simp at hi
      have := ih (fun e he => h e (by simp [he])) i e j d hi hj
      rw [List.flatten_cons, List.getElem?_append_right (by rw [hx, Nat.succ_mul]; omega), hx]
      rw [show (i + 1) * sz + j - sz = i * sz + j by rw [Nat.succ_mul]; omega]
      exact this
theorem flat_len {α : Type} {es : List (List α)} {sz : Nat} (h : ∀ e ∈ es, e.length = sz) : es.flatten.length = es.length * sz := by
  induction es with
  | nil => simp
  | cons x es ih => rw [List.flatten_cons, List.length_append, h x (by simp), ih (fun e he => h e (by simp [he])), List.length_cons, Nat.succ_mul]; omega

/-- A slice over cells that never change reads as its elements. -/
theorem VD.of_cells {M : Mem} {es : List (List Dat)} {sz : Nat} (h : ∀ e ∈ es, e.length = sz) (ad : Addr) (cap : Nat) (hc : es.length ≤ cap) (hm : cap ≤ maxLen) {us : List Value}
    (hv : VDs M es.flatten us) (hM : ∀ j u, us[j]? = some u → M (ad.add j) = some u) : VD M (.sl es) (.slice (some ad) es.length cap) := by
  by_cases h0 : es = []
  · subst h0; exact .nil
  · have hu : ∀ (i : Nat) (e : List Dat) (j : Nat) (d : Dat), es[i]? = some e → e[j]? = some d → ∃ u, us[i * sz + j]? = some u ∧ VD M d u := by
      intro i e j d hi hj
      have hf := flat_at h i e j d hi hj
      have hlt : i * sz + j < us.length := by
        rw [← hv.1]
        rcases Nat.lt_or_ge (i * sz + j) es.flatten.length with hl | hl
        · exact hl
        · rw [List.getElem?_eq_none hl] at hf; cases hf
      exact ⟨us[i * sz + j], List.getElem?_eq_getElem hlt, hv.2 _ d _ hf (List.getElem?_eq_getElem hlt)⟩
    refine .sl (fun i j => us.getD (i * sz + j) undef) h0 hc hm h (fun i e j d hi hj => ?_) (fun i e j d hi hj => ?_)
    · obtain ⟨u, h1, _⟩ := hu i e j d hi hj
      rw [hM _ u h1]; simp [h1]
    · obtain ⟨u, h1, h2⟩ := hu i e j d hi hj
      simpa [h1] using h2

/-- And back: the cells of a slice's elements, as a list. -/
theorem VD.to_cells {M : Mem} {es : List (List Dat)} {v : Value} (h : VD M (.sl es) v) : es = [] ∨ ∃ ad cap sz us, v = .slice (some ad) es.length cap ∧ es.length ≤ cap ∧ cap ≤ maxLen ∧ (∀ e ∈ es, e.length = sz) ∧ VDs M es.flatten us ∧ ∀ j u, us[j]? = some u → M (ad.add j) = some u := by
  cases h with
  | nil => exact .inl rfl
  | sl u h1 h2 hm h3 h4 h5 =>
    rename_i ad cap sz
    refine .inr ⟨ad, cap, sz, (List.range (es.length * sz)).map fun k => u (k / sz) (k % sz), rfl, h2, hm, h3, ⟨by simp [flat_len h3], fun i d x hi hx => ?_⟩, fun j x hx => ?_⟩
    all_goals
      rw [List.getElem?_map, Option.map_eq_some_iff] at hx
      obtain ⟨k, hk, rfl⟩ := hx
      have hk' := List.getElem?_eq_some_iff.1 hk
      obtain ⟨hlt, hk2⟩ := hk'
      simp at hlt hk2
      subst hk2
      have hszpos : 0 < sz := by
        rcases Nat.eq_zero_or_pos sz with e | e
        · subst e; simp at hlt
        · exact e
    · have hi1 : i / sz < es.length := (Nat.div_lt_iff_lt_mul hszpos).2 hlt
      have hj1 : i % sz < (es[i / sz]).length := by rw [h3 _ (List.getElem_mem hi1)]; exact Nat.mod_lt _ hszpos
      have hf := flat_at h3 (i / sz) _ (i % sz) _ (List.getElem?_eq_getElem hi1) (List.getElem?_eq_getElem hj1)
      rw [show i / sz * sz + i % sz = i from Nat.div_add_mod' i sz, hi] at hf
      cases hf
      exact h5 (i / sz) _ (i % sz) _ (List.getElem?_eq_getElem hi1) (List.getElem?_eq_getElem hj1)
    · have hi1 : j / sz < es.length := (Nat.div_lt_iff_lt_mul hszpos).2 hlt
      have hj1 : j % sz < (es[j / sz]).length := by rw [h3 _ (List.getElem_mem hi1)]; exact Nat.mod_lt _ hszpos
      have := h4 (j / sz) _ (j % sz) _ (List.getElem?_eq_getElem hi1) (List.getElem?_eq_getElem hj1)
      rwa [show j / sz * sz + j % sz = j from Nat.div_add_mod' j sz] at this

theorem VD.len_le {M : Mem} {es : List (List Dat)} {v : Value} (h : VD M (.sl es) v) : es.length ≤ maxLen := by
  obtain ⟨_, _, _, h, _⟩ := h.sl_cells; exact h

end Go.Proofs.Ytalhmnijkkihgaa
