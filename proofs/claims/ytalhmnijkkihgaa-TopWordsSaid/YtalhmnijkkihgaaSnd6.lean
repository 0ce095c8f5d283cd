/-
  One's own library, part 5f: slices' literals, append.
-/
import Derived.Test.YtalhmnijkkihgaaSnd5
namespace Go.Proofs.Ytalhmnijkkihgaa
set_option linter.unusedVariables false
set_option linter.unusedSimpArgs false
set_option linter.unusedSectionVars false
open Go.RowKit

section
variable {P : Program} {o : Oper} {a : Act} {σ : Sg} {H : List ABlk} {w : World} {s : List AV}

theorem flat_all {es : List (List Dat)} {l : List Nat} {sz : Nat} (h : es.map List.length = l) (hl : ∀ n ∈ l, n = sz) : ∀ e ∈ es, e.length = sz := fun _ he => hl _ (h ▸ List.mem_map_of_mem he)

theorem flatMap_len {us : List Value} {sz : Nat} (h : ∀ v ∈ us, v.cells.size = sz) : (us.flatMap fun v => v.cells.toList).length = us.length * sz := by
  induction us with
  | nil => simp
  | cons v us ih =>
    rw [List.flatMap_cons, List.length_append, ih (fun u hu => h u (by simp [hu])), Array.length_toList, h v (by simp), List.length_cons, Nat.succ_mul]; omega

theorem ok_bs {t e : TypeId} {n sz : Nat} {z : List AV} {ps : Array (Nat × Operand)} {l : List Opd} {md : Md} {v : AV} {H' : List ABlk} (ho : o.op = .buildSlice t n ps) (ht : P.underlying t = some (.slice e)) (hz : szOf P e = some sz) (hzz : zeroOf P e = some z)
    (hl : rowOf 0 ps.toList = some l) (hcond : l.length = n ∧ 0 < sz ∧ z.length = sz ∧ n * sz ≤ 2 ^ 24) (hs : SS σ s a) (h : HR σ H w) (hv : evK (.bs md e sz l) s H = some (v, H')) : OpOk P o a σ H w v H' := by
  obtain ⟨hn, h0, hzl, hbig⟩ := hcond
  obtain ⟨us, hps, hus⟩ := rowOf_sound hs hl
  simp only [evK] at hv
  split at hv
  · rename_i hall
    have hall' : (l.map (get s)).all (fun x => shown x && (cellsAV x).length == sz) = true := by simpa [List.all_map] using hall
    obtain ⟨hc, hsz⟩ := cells_flat hus hall'
    have hul : us.length = n := by rw [← hn, ← hus.1]; simp
    have hmax : n ≤ maxLen := by
      have : n ≤ n * sz := Nat.le_mul_of_pos_right n h0
      have h2 : (2 : Nat) ^ 24 = 16777216 := by decide
      simp only [maxLen]; omega
    have hr := run_buildSlice (P := P) ht hz hzz hzl h0 hul hbig hsz (ps.map fun x => (x.1, a.eval x.2)) (by simpa using hps) w
    have hrun : (execOp a.eval o).run P w = .ok (.value (.slice (some ⟨w.heap.size, 0, none⟩) n n)) (w.alloc (.cells (us.flatMap fun v => v.cells.toList).toArray e)) := by
      simp [execOp, ho, hr]
    have hmapmap : (l.map fun p => cellsAV (get s p)) = (l.map (get s)).map cellsAV := by simp
    have lens : ∀ x ∈ (l.map (get s)).map cellsAV, x.length = sz := fun x hx => by
      obtain ⟨y, hy, rfl⟩ := List.mem_map.1 hx
      have := List.all_eq_true.1 hall' y hy
      simp only [Bool.and_eq_true, beq_iff_eq] at this
      exact this.2
    cases md with
    | im =>
      simp only at hv
      by_cases hemp : l.isEmpty = true
      · rw [if_pos hemp] at hv
        cases hv
        have hn0 : n = 0 := by rw [← hn]; simpa using hemp
        subst hn0
        obtain ⟨σ', x1, x2, x3, _⟩ := h.allocM e (us.flatMap fun v => v.cells.toList).toArray
        exact ⟨σ', _, _, .inl hrun, x1, x2, .esl⟩
      rw [if_neg hemp] at hv
      split at hv
      · rename_i es e1
        cases hv
        rw [hmapmap] at e1
        obtain ⟨hd, hlen⟩ := datss_sound hc e1
        have hes : ∀ x ∈ es, x.length = sz := flat_all hlen (fun k hk => by obtain ⟨x, hx, rfl⟩ := List.mem_map.1 hk; exact lens x hx)
        have hesl : es.length = n := by have := congrArg List.length hlen; simpa [hn] using this
        obtain ⟨σ', x1, x2, x3, _⟩ := h.allocM e (us.flatMap fun v => v.cells.toList).toArray
        refine ⟨σ', _, _, .inl hrun, x1, x2, .d ?_⟩
        have := VD.of_cells (M := σ'.M) hes ⟨w.heap.size, 0, none⟩ n (by omega) hmax (hd.mono x1.le.M) (fun j u hj => by rw [addr_lit, Nat.zero_add]; exact x3 j u (by simpa using hj))
        rwa [hesl] at this
      · cases hv
    | hp =>
      simp only at hv
      cases hv
      obtain ⟨σ', x1, x2, _, x4, x5⟩ := h.alloc e (vs := (us.flatMap fun v => v.cells.toList).toArray) (by simpa [hmapmap] using hc)
      refine ⟨σ', _, _, .inl hrun, ?_, ?_, ?_⟩
      · simpa [hmapmap] using x1
      · simpa [hmapmap] using x2
      · rw [hn]; exact .hsl x4 x5 (by rw [List.size_toArray, flatMap_len hsz, hul]; omega) (Nat.le_refl _) (Nat.le_refl _) hmax
    | gr =>
      simp only at hv
      split at hv
      · rename_i es e1
        cases hv
        rw [hmapmap] at e1
        obtain ⟨hd, hlen⟩ := datss_sound hc e1
        have hes : ∀ x ∈ es, x.length = sz := flat_all hlen (fun k hk => by obtain ⟨x, hx, rfl⟩ := List.mem_map.1 hk; exact lens x hx)
        have hesl : es.length = n := by have := congrArg List.length hlen; simpa [hn] using this
        by_cases hn0 : n = 0
        · have hes0 : es = [] := List.eq_nil_of_length_eq_zero (by omega)
          subst hn0
          subst hes0
          obtain ⟨σ1, x1, x2, _⟩ := h.allocM e (us.flatMap fun v => v.cells.toList).toArray
          obtain ⟨σ2, y1, y2, y3⟩ := x2.newRow0 (u := .slice (some ⟨w.heap.size, 0, none⟩) 0 0) e sz ⟨_, rfl⟩
          exact ⟨σ2, _, _, .inl hrun, x1.trans y1, y2, y3⟩
        · have hfl := flatMap_len hsz
          obtain ⟨σ', x1, x2, x3, x4⟩ := h.rowAlloc (H' := H ++ [.row e sz es.length]) H.length es.length e sz es.length (us.flatMap fun v => v.cells.toList).toArray (us.flatMap fun v => v.cells.toList)
            (fun m _ => h.fresh _ _ (Nat.le_refl _)) (fun b hb => getElem?_concat_ne H _ hb) (by simp) (by simp) (by simp) (Nat.le_refl _) (by omega) (by omega) (by simp only [List.size_toArray]; rw [hfl, hul, hesl]) (by
              rw [List.take_of_length_le]; rw [hesl]; rw [hfl, hul]; exact Nat.le_refl _)
          refine ⟨σ', _, _, .inl hrun, x1, x2, .gsl (by rw [x3, hesl]) hes ?_⟩
          have := VD.of_cells (M := σ'.M) hes ⟨w.heap.size, 0, none⟩ n (by omega) hmax (hd.mono x1.le.M) (fun j u hj => by rw [addr_lit, Nat.zero_add]; exact x4 j u hj)
          rwa [hesl] at this
      · cases hv
  · cases hv

theorem VD.one {M : Mem} {d : Dat} {u : Value} (h : VD M d u) : u.oneCell' = true := by
  cases h with
  | v h => cases u <;> first | rfl | cases h
  | nil => rfl
  | sl => rfl
theorem VDs.one {M : Mem} {ds : List Dat} {us : List Value} (h : VDs M ds us) : ∀ u ∈ us, u.oneCell' = true := fun u hu => by
  obtain ⟨i, hi, rfl⟩ := List.mem_iff_getElem.1 hu
  have hi' : i < ds.length := by rw [h.1]; exact hi
  exact (h.2 i _ _ (List.getElem?_eq_getElem hi') (List.getElem?_eq_getElem hi)).one

theorem toDats_map_d : ∀ (e : List Dat), toDats (e.map .d) = some e
  | [] => rfl
  | d :: e => by simp [toDats, toDat, toDats_map_d e]
theorem datss_map_d : ∀ (es : List (List Dat)), datss (es.map (·.map .d)) = some es
  | [] => rfl
  | e :: es => by simp only [List.map_cons, datss, toDats_map_d e, datss_map_d es]

theorem toDats_len : ∀ {xs : List AV} {ds : List Dat}, toDats xs = some ds → ds.length = xs.length
  | [], ds, h => by simp [toDats] at h; subst h; rfl
  | x :: xs, ds, h => by
    simp only [toDats] at h
    split at h
    · rename_i d ds' e1 e2
      cases h
      simp [toDats_len e2]
    · cases h
theorem datss_len : ∀ {xs : List (List AV)} {es : List (List Dat)}, datss xs = some es → es.map List.length = xs.map List.length
  | [], es, h => by simp [datss] at h; subst h; rfl
  | x :: xs, es, h => by
    simp only [datss] at h
    split at h
    · rename_i d ds e1 e2
      cases h
      simp [toDats_len e1, datss_len e2]
    · cases h

theorem chunks_flat {α : Type} (cs : List α) (off sz : Nat) : ∀ n, off + n * sz ≤ cs.length → ((List.range n).map fun i => (cs.drop (off + i * sz)).take sz).flatten = (cs.drop off).take (n * sz)
  | 0, _ => by simp
  | n + 1, h => by
    have hle : off + n * sz ≤ cs.length := by rw [Nat.succ_mul] at h; omega
    rw [List.range_succ, List.map_append, List.flatten_append, chunks_flat cs off sz n hle]
    simp only [List.map_cons, List.map_nil, List.flatten_cons, List.flatten_nil, List.append_nil]
    rw [Nat.succ_mul, List.take_add, List.drop_drop]

/-- What is appended, or copied. -/
theorem VDs.toVRs {σ : Sg} {ds : List Dat} {us : List Value} (h : VDs σ.M ds us) : VRs σ (ds.map .d) us := by
  refine ⟨by simp [h.1], fun i c u h1 h2 => ?_⟩
  rw [List.getElem?_map, Option.map_eq_some_iff] at h1
  obtain ⟨d, hd, rfl⟩ := h1
  exact .d (h.2 i d u hd h2)
theorem map_d_flat (es : List (List Dat)) : (es.map (·.map AV.d)).flatten = es.flatten.map AV.d := by rw [List.map_flatten]

theorem src_sound {tx : TypeId} {sz : Nat} {x : AV} {u : Value} {xs : List (List AV)} {es : List (List Dat)} (hk : (elOf P tx).isSome = true ∨ P.underlying tx = some .string) (h : HR σ H w) (hx : VR σ x u) (he : elemsA H sz x = some xs) (hd : datss xs = some es) :
    ∃ news, Src P sz tx u es.length news w ∧ VDs σ.M es.flatten news ∧ (∀ e ∈ es, e.length = sz) ∧ VRs σ xs.flatten news := by
  have hk' : (∃ e', P.underlying tx = some (.slice e')) ∨ P.underlying tx = some .string := by
    rcases hk with hk | hk
    · left
      obtain ⟨e, he⟩ := Option.isSome_iff_exists.1 hk
      unfold elOf at he
      simp only [Option.bind_eq_some_iff] at he
      obtain ⟨d, hd, he⟩ := he
      split at he
      · cases he; exact ⟨_, hd⟩
      · cases he
    · exact .inr hk
  have slice : ∀ (ad : Option Addr) (n c : Nat) (news : List Value), u = .slice ad n c → news.length = n * sz → (0 < n → ∃ p, ad = some p ∧ ∀ j v, news[j]? = some v → w.cell? (p.add j) = some v) → (∀ v ∈ news, v.oneCell' = true) → Src P sz tx u n news w := by
    intro ad n c news hu hl hc h1
    subst hu
    rcases ad with _ | p
    · have hn : n = 0 := by
        rcases Nat.eq_zero_or_pos n with e | e
        · exact e
        · obtain ⟨p, hp, _⟩ := hc e; cases hp
      subst hn
      have hnn : news = [] := List.eq_nil_of_length_eq_zero (by simpa using hl)
      subst hnn
      exact ⟨hk', fun _ => rfl, by simp [Builtin.firstCells], by simp [Builtin.firstCells], by simp, fun _ h => by cases h⟩
    · have hcells : ∀ j v, news[j]? = some v → w.cell? (p.add j) = some v := by
        intro j v hj
        rcases Nat.eq_zero_or_pos n with e | e
        · subst e
          have hnn : news = [] := List.eq_nil_of_length_eq_zero (by simpa using hl)
          subst hnn; simp at hj
        · obtain ⟨p', hp, hc'⟩ := hc e
          cases hp
          exact hc' j v hj
      exact ⟨hk', fun _ => rfl, run_firstCells_some w sz n p n c news hl hcells, run_firstCells_some w.drew sz n p n c news hl (by simpa using hcells), hl, h1⟩
  have data : ∀ es' : List (List Dat), VD σ.M (.sl es') u → (∀ e ∈ es', e.length = sz) → ∃ news, Src P sz tx u es'.length news w ∧ VDs σ.M es'.flatten news ∧ (∀ e ∈ es', e.length = sz) ∧ VRs σ (es'.map (·.map AV.d)).flatten news := by
    intro es' hv hz
    rcases hv.to_cells with rfl | ⟨ad, cap, sz', us, rfl, hc1, _, hz', hus, hM⟩
    · obtain ⟨ad, c, hu, _⟩ := hv.sl_cells
      exact ⟨[], slice ad 0 c [] hu (by simp) (fun h => absurd h (by omega)) (fun _ h => by cases h), ⟨rfl, fun i d v hi => by simp at hi⟩, hz, .nil⟩
    · refine ⟨us, slice _ _ cap us rfl ?_ (fun _ => ⟨ad, rfl, fun j v hj => h.mem _ _ (hM j v hj)⟩) hus.one, hus, hz, by rw [map_d_flat]; exact hus.toVRs⟩
      rw [← hus.1, flat_len hz]
  unfold elemsA at he
  split at he
  · rename_i es'
    split at he
    · rename_i hall
      cases he
      rw [datss_map_d] at hd; cases hd
      cases hx with
      | d hv => exact data es hv (fun e he => by simpa using List.all_eq_true.1 hall e he)
    · cases he
  · rename_i b sz' es'
    split at he
    · rename_i hz
      subst hz
      cases he
      rw [datss_map_d] at hd; cases hd
      cases hx with
      | gsl _ hz hv => exact data es hv hz
    · cases he
  · cases he
    simp [datss] at hd; subst hd
    obtain ⟨ad, rfl⟩ := hx.esl_inv
    exact data [] .nil (fun _ h => by cases h)
  · rename_i b off n cap sz'
    split at he
    · rename_i cs hb
      split at he
      · rename_i hc
        obtain ⟨hle, rfl⟩ := hc
        cases he
        cases hx with
        | hsl0 _ =>
          simp [datss] at hd
          subst hd
          exact data [] .nil (fun _ h => by cases h)
        | hsl hφ hN hoN hnc hcc hcm =>
          rename_i g cap' N
          obtain ⟨vs, t, h1, h2, h3, h4⟩ := h.cellsAt hb hφ
          have hcl := h3.1
          have hflat := chunks_flat cs off sz' n hle
          have hvr : VRs σ ((List.range n).map fun i => (cs.drop (off + i * sz')).take sz').flatten ((vs.toList.drop off).take (n * sz')) := by
            rw [hflat]
            have h3' := (h3.drop off).take (n * sz')
            rw [List.drop_take, List.take_take, Nat.min_eq_left (by omega)] at h3'
            exact h3'
          obtain ⟨hds, hlen⟩ := datss_sound hvr hd
          have hesl : es.length = n := by have := congrArg List.length hlen; simpa using this
          have hz : ∀ e ∈ es, e.length = sz' := flat_all hlen (fun k hk => by
            obtain ⟨x, hx, rfl⟩ := List.mem_map.1 hk
            obtain ⟨i, hi, rfl⟩ := List.mem_map.1 hx
            have hi' : i < n := by simpa using hi
            have : (i + 1) * sz' ≤ n * sz' := Nat.mul_le_mul_right _ hi'
            rw [Nat.succ_mul] at this
            simp; omega)
          refine ⟨_, slice _ es.length cap' ((vs.toList.drop off).take (n * sz')) (by rw [hesl]) ?_ (fun _ => ⟨_, rfl, fun j v hj => ?_⟩) hds.one, hds, hz, hvr⟩
          · rw [← hds.1, flat_len hz]
          · rw [List.getElem?_take] at hj
            split at hj
            · rw [List.getElem?_drop] at hj
              rw [addr_lit]
              simp only [World.cell?, h2]
              simpa using hj
            · cases hj
      · cases he
    · cases he
  · rename_i b
    split at he
    · rename_i hz
      subst hz
      cases he
      have hu := hx.str_inv
      subst hu
      have hes : es = b.data.toList.map fun c => [Dat.v (.int .u8 c.toNat)] := by
        have : (b.data.toList.map fun c => [AV.d (.v (.int .u8 c.toNat))]) = (b.data.toList.map fun c => [Dat.v (.int .u8 c.toNat)]).map (·.map .d) := by simp
        rw [this, datss_map_d] at hd
        exact (Option.some.inj hd).symm
      subst hes
      suffices hh : Src P 1 tx (.string b) (b.data.toList.map fun c => [Dat.v (.int .u8 c.toNat)]).length (byteCells b) w ∧ VDs σ.M (b.data.toList.map fun c => [Dat.v (.int .u8 c.toNat)]).flatten (byteCells b) ∧ (∀ e ∈ (b.data.toList.map fun c => [Dat.v (.int .u8 c.toNat)]), e.length = 1) by
        refine ⟨byteCells b, hh.1, hh.2.1, hh.2.2, ?_⟩
        have := hh.2.1.toVRs
        rw [← map_d_flat, List.map_map] at this
        exact this
      refine ⟨?_, ?_, ?_⟩
      · have hl : (b.data.toList.map fun c => [Dat.v (.int .u8 c.toNat)]).length = b.size := by
          rw [List.length_map, Array.length_toList]; rfl
        rw [hl]
        exact ⟨hk', fun _ => rfl, firstCells_string b w, firstCells_string b w.drew, by rw [byteCells_length, Nat.mul_one], fun u hu => by
          obtain ⟨_, _, rfl⟩ := List.mem_map.1 hu
          rfl⟩
      · have hf : (b.data.toList.map fun c => [Dat.v (.int .u8 c.toNat)]).flatten = b.data.toList.map fun c => Dat.v (.int .u8 c.toNat) := by
          induction b.data.toList with
          | nil => rfl
          | cons c l ih => simp [ih]
        rw [hf]
        refine ⟨by simp [byteCells], fun i d u h1 h2 => ?_⟩
        simp only [byteCells, List.getElem?_map, Option.map_eq_some_iff] at h1 h2
        obtain ⟨c, hc, rfl⟩ := h1
        obtain ⟨c', hc', rfl⟩ := h2
        rw [hc] at hc'; cases hc'
        exact .v rfl
      · intro e he
        obtain ⟨c, _, rfl⟩ := List.mem_map.1 he
        rfl
    · cases he
  · cases he

end
end Go.Proofs.Ytalhmnijkkihgaa
