/-
  One's own library, part 5e: literals and append.
-/
import Derived.Test.YtalhmnijkkihgaaSnd4
import Derived.Great.FillDense
namespace Go.Proofs.Ytalhmnijkkihgaa
set_option linter.unusedVariables false
set_option linter.unusedSimpArgs false
set_option linter.unusedSectionVars false
open Go.RowKit

theorem fold_splice (off : Nat) (vs : List Value) (cs : Array Value) (h : off + vs.length ≤ cs.size) :
    ((vs.zipIdx 0).foldl (fun cs (x : Value × Nat) => cs.setIfInBounds (off + x.2) x.1) cs).toList = cs.toList.take off ++ vs ++ cs.toList.drop (off + vs.length) := by
  obtain ⟨h1, h2⟩ := Go.Great.foldl_set off vs 0 cs
  apply List.ext_getElem?
  intro k
  rw [Array.getElem?_toList, h2 k]
  simp only [Nat.add_zero]
  have htl : (cs.toList.take off).length = off := by simp; omega
  by_cases hk : k < off
  · rw [if_neg (by omega), List.append_assoc, List.getElem?_append_left (by rw [htl]; exact hk), List.getElem?_take, if_pos hk, Array.getElem?_toList]
  · by_cases hk2 : k < off + vs.length
    · rw [if_pos ⟨by omega, hk2, by omega⟩, List.append_assoc, List.getElem?_append_right (by rw [htl]; omega), htl, List.getElem?_append_left (by omega)]
    · rw [if_neg (by omega), List.getElem?_append_right (by rw [List.length_append, htl]; omega), List.length_append, htl, List.getElem?_drop, ← Array.getElem?_toList]
      congr 1; omega

theorem run_mapM_list {α β : Type} {P : Program} {w : World} (g : α → Sem β) (r : α → β) : ∀ l : List α, (∀ x ∈ l, (g x).run P w = .ok (r x) w) → (l.mapM g).run P w = .ok (l.map r) w
  | [], _ => by simp
  | x :: l, h => by
    have h0 := h x (by simp)
    have ih := run_mapM_list g r l (fun y hy => h y (by simp [hy]))
    simp [List.mapM_cons, h0, ih]

section
variable {P : Program} {o : Oper} {a : Act} {σ : Sg} {H : List ABlk} {w : World} {s : List AV}

theorem fillA_sound {fs : Array Field} (place : Nat → Option (Nat × Nat)) (hp : ∀ i f n, fs[i]? = some f → szOf P f.type = some n → place i = some (f.offset, n)) (hs : SS σ s a) :
    ∀ {ps : List (Nat × Operand)} {ps' : List (Nat × Nat × Opd)} {z zs : List AV} {zv : Array Value}, partsOf P fs ps = some ps' → VRs σ z zv.toList → fillA z (ps'.map fun p => (p.1, p.2.1, get s p.2.2)) = some zs →
      ∃ r, Instr.fill place zv (ps.map fun p => (p.1, a.eval p.2)) = some r ∧ VRs σ zs r.toList
  | [], ps', z, zs, zv, hps, hz, hf => by
    simp [partsOf] at hps; subst hps
    simp [fillA] at hf; subst hf
    exact ⟨zv, rfl, hz⟩
  | (i, x) :: ps, ps', z, zs, zv, hps, hz, hf => by
    simp only [partsOf] at hps
    split at hps
    · rename_i f y r' e1 e2 e3
      split at hps
      · rename_i n e4
        cases hps
        simp only [List.map_cons, fillA] at hf
        split at hf
        · rename_i hc
          simp only [Bool.and_eq_true, beq_iff_eq, decide_eq_true_eq] at hc
          obtain ⟨⟨c1, c2⟩, c3⟩ := hc
          have hv := cellsAV_sound (get_sound e2 hs) c1
          have hvl := hv.1
          have hzl := hz.1
          simp only [Array.length_toList] at hvl hzl
          have hsz : (a.eval x).cells.size = n := by omega
          have hsp := fold_splice f.offset (a.eval x).cells.toList zv (by simp; omega)
          obtain ⟨r, hr, hrv⟩ := fillA_sound place hp hs (zv := ((a.eval x).cells.toList.zipIdx 0).foldl (fun cs (x : Value × Nat) => cs.setIfInBounds (f.offset + x.2) x.1) zv) e3 (by
            rw [hsp]
            have := ((hz.take f.offset).append hv).append (hz.drop (f.offset + (cellsAV (get s y)).length))
            rw [hvl] at this
            simpa [splice, hvl] using this) hf
          refine ⟨r, ?_, hrv⟩
          simp only [List.map_cons]
          unfold Instr.fill
          simp only [hp i f n e1 e4, hsz]
          rw [if_neg (by simp; omega), ← hr]
          congr 1
          rw [← Array.foldl_toList, Array.toList_zipIdx]
        · cases hf
      · cases hps
    · cases hps

theorem ok_bd {t : TypeId} {ps : Array (Nat × Operand)} {fs : Array Field} {z zs : List AV} {ps' : List (Nat × Nat × Opd)} (ho : o.op = .build t ps) (ht : P.underlying t = some (.struct fs)) (hz : zeroOf P t = some z)
    (hall : fs.toList.all (fun f => (szOf P f.type).isSome) = true) (hps : partsOf P fs ps.toList = some ps') (hs : SS σ s a) (h : HR σ H w) (hf : fillA z (ps'.map fun p => (p.1, p.2.1, get s p.2.2)) = some zs) :
    OpOk P o a σ H w (.agg zs) H := by
  obtain ⟨i, zv, hi, hzv, hv⟩ := zeroOf_spec hz
  let pl : Array (Nat × Nat) := (fs.toList.map fun f => (f.offset, (szOf P f.type).getD 0)).toArray
  obtain ⟨r, hr, hrv⟩ := fillA_sound (P := P) (fun j => pl[j]?) (fun j f n hj hn => by simp [pl, hj, hn]) hs hps (hv σ) hf
  refine .pure h (u := .agg r) ?_ (by obtain ⟨l⟩ := r; exact .agg hrv.1 hrv.2)
  have hm : (fs.mapM fun f => (do pure (f.offset, ← sizeOf f.type) : Sem (Nat × Nat))).run P w = .ok pl w := by
    rw [Array.mapM_eq_mapM_toList]
    simp only [Sem.run_map]
    rw [run_mapM_list (P := P) (w := w) _ (fun f : Field => (f.offset, (szOf P f.type).getD 0)) fs.toList (fun f hf => by
      have := List.all_eq_true.1 hall f hf
      obtain ⟨n, hn⟩ := Option.isSome_iff_exists.1 this
      simp [szOf_run hn, hn])]
    rfl
  have hpm : (ps.map fun x => (x.1, a.eval x.2)).toList = ps.toList.map fun x => (x.1, a.eval x.2) := by simp
  have hm' : (fs.mapM fun f => (fun a => (f.offset, a)) <$> sizeOf f.type : Sem (Array (Nat × Nat))).run P w = .ok pl w := by
    simpa using hm
  simp [execOp, ho, Instr.build, run_zeroValue hi hzv, run_underlying ht, hm', hr]

theorem datss_sound : ∀ {xs : List (List AV)} {es : List (List Dat)} {us : List Value}, VRs σ xs.flatten us → datss xs = some es → VDs σ.M es.flatten us ∧ es.map List.length = xs.map List.length
  | [], es, us, h, hd => by
    simp [datss] at hd; subst hd
    exact ⟨⟨by simpa using h.1, fun i d u h1 => by simp at h1⟩, rfl⟩
  | x :: xs, es, us, h, hd => by
    simp only [datss] at hd
    split at hd
    · rename_i d ds e1 e2
      cases hd
      have hlen := h.1
      simp only [List.flatten_cons, List.length_append] at hlen
      have hx : VRs σ x (us.take x.length) := by
        have := h.take x.length
        simpa using this
      have hxs : VRs σ xs.flatten (us.drop x.length) := by
        have := h.drop x.length
        simpa using this
      have h1 := toDats_sound hx e1
      obtain ⟨h2, h3⟩ := datss_sound hxs e2
      have hdl : d.length = x.length := by rw [h1.1, List.length_take]; omega
      refine ⟨?_, by simp [hdl, h3]⟩
      have := h1.append h2
      rwa [List.take_append_drop] at this
    · cases hd

theorem rowOf_sound (hs : SS σ s a) : ∀ {k : Nat} {ps : List (Nat × Operand)} {l : List Opd}, rowOf k ps = some l →
    ∃ us : List Value, (ps.map fun p => (p.1, a.eval p.2)) = (us.zipIdx k).map (fun x => (x.2, x.1)) ∧ VRs σ (l.map (get s)) us
  | k, [], l, h => by
    simp [rowOf] at h; subst h
    exact ⟨[], rfl, .nil⟩
  | k, (i, x) :: ps, l, h => by
    simp only [rowOf] at h
    split at h
    · rename_i hi
      subst hi
      split at h
      · rename_i y r e1 e2
        cases h
        obtain ⟨us, h1, h2⟩ := rowOf_sound hs e2
        exact ⟨a.eval x :: us, by simp [h1], .cons (get_sound e1 hs) h2⟩
      · cases h
    · cases h

theorem cells_flat : ∀ {xs : List AV} {us : List Value} {sz : Nat}, VRs σ xs us → xs.all (fun x => shown x && (cellsAV x).length == sz) = true →
    VRs σ (xs.map cellsAV).flatten (us.flatMap fun v => v.cells.toList) ∧ ∀ v ∈ us, v.cells.size = sz
  | [], us, sz, h, _ => by
    have := h.1
    simp at this
    have hu : us = [] := List.eq_nil_of_length_eq_zero this.symm
    subst hu
    exact ⟨.nil, fun v hv => by simp at hv⟩
  | x :: xs, us, sz, h, ha => by
    obtain ⟨u, us', rfl, h1, h2⟩ := h.cons_inv
    simp only [List.all_cons, Bool.and_eq_true, beq_iff_eq] at ha
    have hv := cellsAV_sound h1 ha.1.1
    obtain ⟨h3, h4⟩ := cells_flat h2 ha.2
    refine ⟨by simpa using hv.append h3, fun v hv' => ?_⟩
    rcases List.mem_cons.1 hv' with rfl | hv'
    · have := hv.1; simp at this; omega
    · exact h4 v hv'

theorem run_buildSlice {t e : TypeId} {n sz : Nat} {z : List AV} {us : List Value} (ht : P.underlying t = some (.slice e)) (hz : szOf P e = some sz) (hzz : zeroOf P e = some z) (hzl : z.length = sz) (h0 : 0 < sz) (hn : us.length = n) (hbig : n * sz ≤ 2 ^ 24)
    (hus : ∀ v ∈ us, v.cells.size = sz) (ps : Array (Nat × Value)) (hps : ps.toList = (us.zipIdx 0).map fun x => (x.2, x.1)) (w : World) :
    (Instr.buildSlice t n ps).run P w = .ok (.slice (some ⟨w.heap.size, 0, none⟩) n n) (w.alloc (.cells (us.flatMap fun v => v.cells.toList).toArray e)) := by
  obtain ⟨i, zv, hi, hzv, hv⟩ := zeroOf_spec hzz
  have hzs : zv.cells.size = sz := by have := (hv ⟨fun _ => none, fun _ _ => none⟩).1; simp at this; omega
  have hnb : ¬ (2 ^ 24 < n * sz) := by omega
  have hfill : ∀ cells : Array Value, cells.size = n * sz → Instr.fill (fun i => some (i * sz, sz)) cells ps.toList = some (us.flatMap fun v => v.cells.toList).toArray := fun cells hc => by
    rw [hps]; exact Go.Great.fill_whole h0 us cells hus (by rw [hn, hc])
  by_cases hz0 : n * sz = 0
  · have hn0 : n = 0 := by
      rcases Nat.mul_eq_zero.1 hz0 with h | h
      · exact h
      · omega
    subst hn0
    have := hfill ((Array.range 0).map (fun _ => (default : Value))) (by simp)
    simp [Instr.buildSlice, run_underlying ht, szOf_run hz, this, newRow]
  · have := hfill ((Array.range (n * sz)).map (zv.cells[· % zv.cells.size]!)) (by simp)
    simp only [Instr.buildSlice, Sem.run_bind, run_underlying ht, Result.andThen_ok, szOf_run hz, gt_iff_lt, hnb, if_false, hz0, run_zeroValue hi hzv, Sem.run_pure, this, newRow, newObj, Sem.run, World.alloc]

end
end Go.Proofs.Ytalhmnijkkihgaa
