/-
  One's own library, part 5g: append.
-/
import Derived.Test.YtalhmnijkkihgaaSnd6
namespace Go.Proofs.Ytalhmnijkkihgaa
set_option linter.unusedVariables false
set_option linter.unusedSimpArgs false
set_option linter.unusedSectionVars false
open Go.RowKit

section
variable {P : Program} {o : Oper} {a : Act} {σ : Sg} {H : List ABlk} {w : World} {s : List AV}

theorem run_append_zero {t tx ty e : TypeId} {i : TypeInfo} (ht : P.underlying t = some (.slice e)) (hi : P.info? e = some i) (base : Option Addr) (n c : Nat) (hnc : n ≤ c) (x : Value) (hs : Src P i.size tx x 0 [] w) :
    (Builtin.append_ #[t, tx] ty #[.slice base n c, x]).run P w = .ok (.slice base n c) w := by
  rcases hs.kind with ⟨e', hk⟩ | hk <;> cases base <;> simp [Builtin.append_, run_underlying ht, run_underlying hk, sizeOf, typeInfo, hi, hs.len, hnc, hs.cells, storeCells]

theorem info_of {e : TypeId} {sz by' : Nat} {z : List AV} (hz : szOf P e = some sz) (hb : byOf P e = some by') (hzz : zeroOf P e = some z) (hzl : z.length = sz) :
    ∃ i zv, P.info? e = some i ∧ i.size = sz ∧ i.bytes = by' ∧ i.zero = some zv ∧ zv.cells.size = sz := by
  obtain ⟨i, zv, hi, hzv, hv⟩ := zeroOf_spec hzz
  refine ⟨i, zv, hi, ?_, ?_, hzv, ?_⟩
  · simpa [szOf, hi] using hz
  · simpa [byOf, hi] using hb
  · have := (hv ⟨fun _ => none, fun _ _ => none⟩).1; simp at this; omega

theorem grown_size {z : Value} {sz n m cap : Nat} {olds news : List Value} (hz : z.cells.size = sz) (ho : olds.length = n * sz) (hn : news.length = m * sz) (hc : n + m ≤ cap) :
    ((olds ++ news).toArray ++ Builtin.zeroCells z.cells (cap - (n + m))).size = cap * sz := by
  simp only [Array.size_append, List.size_toArray, List.length_append, size_zeroCells, hz, ho, hn]
  rw [← Nat.add_mul, ← Nat.add_mul, Nat.add_sub_cancel' hc]
theorem grown_take {z : Value} {sz n m : Nat} {olds news : List Value} (k : Nat) (ho : olds.length = n * sz) (hn : news.length = m * sz) :
    ((olds ++ news).toArray ++ Builtin.zeroCells z.cells k).toList.take ((n + m) * sz) = olds ++ news := by
  have hl : (olds ++ news).length = (n + m) * sz := by rw [List.length_append, ho, hn, Nat.add_mul]
  rw [Array.toList_append, ← hl]
  exact List.take_left

/-- append onto nothing. -/
theorem append_nil {t tx ty e : TypeId} {sz by' : Nat} {z : List AV} {es : List (List Dat)} {x : Value} {news : List Value} {base : Option Addr} (md : Md) (ht : P.underlying t = some (.slice e)) (hz : szOf P e = some sz) (hb : byOf P e = some by') (hzz : zeroOf P e = some z) (hzl : z.length = sz)
    (h0 : 0 < sz) (h : HR σ H w) (hs : Src P sz tx x es.length news w) (hd : VDs σ.M es.flatten news) (hes : ∀ e ∈ es, e.length = sz) (hbytes : es.length * by' ≤ 140737488355328) (hmax : es.length ≤ maxLen) :
    ∃ v w', (Builtin.append_ #[t, tx] ty #[.slice base 0 0, x]).run P w = .ok v w' ∧
      (md = .im → ∃ σ', Ext σ H w σ' H w' ∧ HR σ' H w' ∧ VR σ' (.d (.sl es)) v) ∧
      (md ≠ .im → ∃ σ', Ext σ H w σ' (H ++ [.row e sz es.length]) w' ∧ HR σ' (H ++ [.row e sz es.length]) w' ∧ VR σ' (.gsl H.length sz es) v) := by
  obtain ⟨i, zv, hi, hisz, hiby, hzv, hzs⟩ := info_of hz hb hzz hzl
  subst hisz
  subst hiby
  by_cases hn0 : es.length = 0
  · have hes0 : es = [] := List.eq_nil_of_length_eq_zero hn0
    subst hes0
    have hnn : news = [] := List.eq_nil_of_length_eq_zero (by simpa using hs.newsLen)
    subst hnn
    refine ⟨_, w, run_append_zero ht hi base 0 0 (Nat.le_refl _) x hs, fun _ => ⟨σ, .refl .., h, .d .nil⟩, fun _ => ?_⟩
    obtain ⟨σ2, y1, y2, y3⟩ := h.newRow0 (u := .slice base 0 0) e i.size ⟨_, rfl⟩
    exact ⟨σ2, y1, y2, y3⟩
  · have hm63 : ((0 + es.length : Nat) : Int) ≤ 9223372036854775807 := by simp only [maxLen] at hmax; omega
    have hr := run_append_grow_src (P := P) w t tx ty e i zv ht hi hzv base 0 0 [] (by cases base <;> simp [Builtin.firstCells, loadCells, loadCellsFrom]) x es.length news hs (by omega) hm63 (growslice_fits (by omega) (by rw [Nat.zero_add]; exact hbytes))
    have hge := grownCap_ge w (0 + es.length) 0 e
    have hcm : grownCap w (0 + es.length) 0 e ≤ maxLen := grownCap_le_maxLen w (0 + es.length) 0 e (by omega)
    have hnl := hs.newsLen
    have hgs := grown_size (sz := i.size) (n := 0) (m := es.length) (olds := []) (news := news) hzs (by simp) hnl hge
    have hgt := grown_take (z := zv) (sz := i.size) (n := 0) (m := es.length) (olds := []) (news := news) (grownCap w (0 + es.length) 0 e - (0 + es.length)) (by simp) hnl
    simp only [List.nil_append, Nat.zero_add] at hr hge hcm hgs hgt
    refine ⟨_, _, hr, fun _ => ?_, fun _ => ?_⟩
    · obtain ⟨σ', x1, x2, x3, _⟩ := h.drew.allocM e (news.toArray ++ Builtin.zeroCells zv.cells (grownCap w es.length 0 e - es.length))
      refine ⟨σ', (Ext.drew ..).trans x1, x2, .d ?_⟩
      refine VD.of_cells (M := σ'.M) hes ⟨w.heap.size, 0, none⟩ _ hge hcm (hd.mono x1.le.M) (fun j u hj => ?_)
      rw [addr_lit, Nat.zero_add]
      refine x3 j u ?_
      rw [← hgt, List.getElem?_take] at hj
      split at hj
      · rw [← Array.getElem?_toList]; exact hj
      · cases hj
    · obtain ⟨σ', x1, x2, x3, x4⟩ := h.drew.rowAlloc (H' := H ++ [.row e i.size es.length]) H.length es.length e i.size (grownCap w es.length 0 e) (news.toArray ++ Builtin.zeroCells zv.cells (grownCap w es.length 0 e - es.length)) news
        (fun m _ => h.fresh _ _ (Nat.le_refl _)) (fun b hb => getElem?_concat_ne H _ hb) (by simp) (by simp) (by simp) hge (by omega) hcm hgs hgt
      refine ⟨σ', (Ext.drew ..).trans x1, x2, .gsl x3 hes ?_⟩
      exact VD.of_cells (M := σ'.M) hes ⟨w.heap.size, 0, none⟩ _ hge hcm (hd.mono x1.le.M) (fun j u hj => by rw [addr_lit, Nat.zero_add]; exact x4 j u hj)

theorem setCells_setRow {g : Nat} {cur : Array Value} {e : TypeId} {k : Nat} {news : List Value} (P : Program) (hg : w.heap[g]? = some (.cells cur e (0, 0))) (hfit : k + news.length ≤ cur.size) (h1 : ∀ u ∈ news, u.oneCell' = true) :
    w.setCells g k news = w.setRow g (cur.toList.take k ++ news ++ cur.toList.drop (k + news.length)).toArray := by
  have r1 := run_storeCells_cells (P := P) g k news 0 w (fun j hj => by simp only [World.cell?, hg]; simp; omega) (fun j hj => by simp only [World.frozen?, hg]; simp) h1
  have r2 := run_storeCells_at (P := P) g k e news 0 cur w hg (by omega) h1
  rw [r1] at r2
  simp only [Nat.add_zero] at r2
  injection r2

theorem set_self {b : Nat} {k : ABlk} (h : H[b]? = some k) : H.set b k = H := by
  apply List.ext_getElem?
  intro i
  rw [List.getElem?_set]
  split
  · rename_i e; subst e
    split
    · exact h.symm
    · rename_i hlt; rw [List.getElem?_eq_none (by omega)] at h; cases h
  · rfl

/-- append onto a row. -/
theorem append_row {t tx ty e : TypeId} {sz by' b : Nat} {z : List AV} {es old : List (List Dat)} {x u0 : Value} {news : List Value} (ht : P.underlying t = some (.slice e)) (hz : szOf P e = some sz) (hb : byOf P e = some by') (hzz : zeroOf P e = some z) (hzl : z.length = sz)
    (h0 : 0 < sz) (h : HR σ H w) (hH : H[b]? = some (.row e sz old.length)) (hu : VR σ (.gsl b sz old) u0) (hs : Src P sz tx x es.length news w) (hd : VDs σ.M es.flatten news) (hes : ∀ e ∈ es, e.length = sz)
    (hbytes : (old.length + es.length) * by' ≤ 140737488355328) (hmax : old.length + es.length ≤ maxLen) :
    ∃ v w' σ', (Builtin.append_ #[t, tx] ty #[u0, x]).run P w = .ok v w' ∧ Ext σ H w σ' (H.set b (.row e sz (old.length + es.length))) w' ∧ HR σ' (H.set b (.row e sz (old.length + es.length))) w' ∧ VR σ' (.gsl b sz (old ++ es)) v := by
  obtain ⟨i, zv, hi, hisz, hiby, hzv, hzs⟩ := info_of hz hb hzz hzl
  subst hisz
  subst hiby
  cases hu with
  | gsl hφ hoz hov =>
  have hlt : b < H.length := by
    rcases Nat.lt_or_ge b H.length with hl | hl
    · exact hl
    · rw [List.getElem?_eq_none hl] at hH; cases hH
  have hset : ∀ b', b' ≠ b → (H.set b (.row e i.size (old.length + es.length)))[b']? = H[b']? := fun b' hne => by rw [List.getElem?_set_ne (Ne.symm hne)]
  have hset0 : (H.set b (.row e i.size (old.length + es.length)))[b]? = some (.row e i.size (old.length + es.length)) := by simp [hlt]
  obtain ⟨v0, xs, g1, g2, g3, g4⟩ := h.blk b _ hH
  rw [hφ] at g1; cases g1
  have hall : ∀ e ∈ old ++ es, e.length = i.size := fun e he => by
    rcases List.mem_append.1 he with he | he
    · exact hoz e he
    · exact hes e he
  by_cases hn0 : es.length = 0
  · have hes0 : es = [] := List.eq_nil_of_length_eq_zero hn0
    subst hes0
    have hnn : news = [] := List.eq_nil_of_length_eq_zero (by simpa using hs.newsLen)
    subst hnn
    obtain ⟨ad, cap, hu0, _, hcap⟩ := hov.sl_cells
    have hnc : old.length ≤ cap ∨ old = [] := by
      by_cases e : old = []
      · exact .inr e
      · exact .inl (hcap e).1
    have hnc' : old.length ≤ cap := by
      rcases hnc with e | e
      · exact e
      · subst e; simp
    refine ⟨u0, w, σ, ?_, ?_, ?_, ?_⟩
    · rw [hu0]; exact run_append_zero ht hi ad _ cap hnc' x hs
    · simp only [List.length_nil, Nat.add_zero, set_self hH]; exact .refl ..
    · simp only [List.length_nil, Nat.add_zero, set_self hH]; exact h
    · simp only [List.append_nil]; exact .gsl hφ hoz hov
  · have hnl := hs.newsLen
    have hm63 : ((old.length + es.length : Nat) : Int) ≤ 9223372036854775807 := by simp only [maxLen] at hmax; omega
    -- what a new row leaves, whatever was there before
    have grow : ∀ (base : Option Addr) (cap : Nat) (olds : List Value), u0 = .slice base old.length cap → cap < old.length + es.length → olds.length = old.length * i.size → VDs σ.M old.flatten olds →
        (Builtin.firstCells i.size old.length (.slice base old.length cap)).run P w.drew = .ok olds.toArray w.drew →
        ∃ v w' σ', (Builtin.append_ #[t, tx] ty #[u0, x]).run P w = .ok v w' ∧ Ext σ H w σ' (H.set b (.row e i.size (old.length + es.length))) w' ∧ HR σ' (H.set b (.row e i.size (old.length + es.length))) w' ∧ VR σ' (.gsl b i.size (old ++ es)) v := by
      intro base cap olds hu0 hg hol hod hfc
      have hr := run_append_grow_src (P := P) w t tx ty e i zv ht hi hzv base old.length cap olds hfc x es.length news hs hg hm63 (growslice_fits hg hbytes)
      have hge := grownCap_ge w (old.length + es.length) cap e
      have hcm : grownCap w (old.length + es.length) cap e ≤ maxLen := grownCap_le_maxLen w _ cap e hmax
      have hgs := grown_size (z := zv) hzs hol hnl hge
      have hgt := grown_take (z := zv) (grownCap w (old.length + es.length) cap e - (old.length + es.length)) hol hnl
      obtain ⟨σ', x1, x2, x3, x4⟩ := h.drew.rowAlloc (H' := H.set b (.row e i.size (old.length + es.length))) b (old.length + es.length) e i.size (grownCap w (old.length + es.length) cap e) _ _
        (fun m hm => g3 m (by omega)) hset hset0 (by simp) (by rw [hH]; simp) hge (by omega) hcm hgs hgt
      refine ⟨_, _, σ', by rw [hu0]; exact hr, (Ext.drew ..).trans x1, x2, .gsl (by rw [List.length_append]; exact x3) hall ?_⟩
      have := VD.of_cells (M := σ'.M) (es := old ++ es) hall ⟨w.heap.size, 0, none⟩ (grownCap w (old.length + es.length) cap e) (by rw [List.length_append]; exact hge) hcm (by rw [List.flatten_append]; exact (hod.append hd).mono x1.le.M) (fun j u hj => by rw [addr_lit, Nat.zero_add]; exact x4 j u hj)
      rwa [List.length_append] at this
    rcases g2 with ⟨hn, hxs, ad, rfl⟩ | ⟨g, cap, cur, hcap, hu0, hg, hnc, hcm, hsz, htake⟩
    · have hold : old = [] := List.eq_nil_of_length_eq_zero hn
      subst hold
      exact grow ad 0 [] rfl (by simp; omega) (by simp) ⟨rfl, fun i d u h => by simp at h⟩ (by cases ad <;> simp [Builtin.firstCells, loadCells, loadCellsFrom])
    · subst hu0
      obtain ⟨g5, g6⟩ := g4 g (by simp [conc]; omega)
      have hxl : xs.length = old.length * i.size := by
        have hcl : cur.toList.length = cap * i.size := by rw [← hsz]; exact Array.length_toList
        rw [← htake, List.length_take, hcl]
        exact Nat.min_eq_left (Nat.mul_le_mul_right _ hnc)
      have hxd : VDs σ.M old.flatten xs := by
        rcases hov.to_cells with rfl | ⟨ad', cap', sz', us, hu', _, _, hz', hus, hM⟩
        · have : xs = [] := List.eq_nil_of_length_eq_zero (by simpa using hxl)
          subst this
          exact ⟨rfl, fun i d u h => by simp at h⟩
        · injection hu' with hu' _ _
          injection hu' with hu'
          subst hu'
          have hul : us.length = xs.length := by rw [← hus.1, hxl, flat_len hoz]
          have : us = xs := by
            apply List.ext_getElem?
            intro j
            by_cases hj : j < us.length
            · have h1 := hM j us[j] (List.getElem?_eq_getElem hj)
              have h2 := g5 j (xs[j]'(by omega)) (List.getElem?_eq_getElem (by omega))
              rw [addr_lit, Nat.zero_add, h2] at h1
              rw [List.getElem?_eq_getElem hj, List.getElem?_eq_getElem (by omega)]
              exact h1.symm
            · rw [List.getElem?_eq_none (by omega), List.getElem?_eq_none (by omega)]
          rw [← this]; exact hus
      by_cases hroom : old.length + es.length ≤ cap
      · have hfit : old.length * i.size + news.length ≤ cur.size := by rw [hnl, hsz, ← Nat.add_mul]; exact Nat.mul_le_mul_right _ hroom
        have hr := run_append_room_src (P := P) w t tx ty e i ht hi g 0 old.length cap x es.length news hs hroom (fun j hj => by simp only [World.cell?, hg]; simp; omega) (fun j hj => by simp only [World.frozen?, hg]; simp)
        rw [Nat.zero_add, setCells_setRow P hg hfit hs.one] at hr
        obtain ⟨σ', x1, x2, x3, x4⟩ := h.rowRoom b e i.size old.length es.length g cap cur news hH hφ hcap hg hroom hcm hsz (by omega) hnl
        refine ⟨_, _, σ', hr, x1, x2, .gsl (by rw [List.length_append]; exact x3) hall ?_⟩
        have := VD.of_cells (M := σ'.M) (es := old ++ es) hall ⟨g, 0, none⟩ cap (by rw [List.length_append]; exact hroom) hcm (by rw [List.flatten_append]; exact (hxd.append hd).mono x1.le.M) (fun j u hj => by
          rw [addr_lit, Nat.zero_add]; rw [← htake] at hj; exact x4 j u hj)
        rwa [List.length_append] at this
      · refine grow (some ⟨g, 0, none⟩) cap xs rfl (by omega) hxl hxd ?_
        have := run_firstCells_some (P := P) w.drew i.size old.length ⟨g, 0, none⟩ old.length cap xs hxl (fun j v hj => by
          rw [addr_lit, Nat.zero_add]
          exact h.mem _ _ (g5 j v hj))
        exact this

end
end Go.Proofs.Ytalhmnijkkihgaa
