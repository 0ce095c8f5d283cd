/-
  One's own library, part 3: what each change of memory does to the abstract heap.
-/
import Derived.Test.YtmgmoamcbnkbfaaGreatDoorYLang
import Derived.Deep.AppendSrc
set_option linter.unusedVariables false
set_option linter.unusedSimpArgs false
set_option linter.unusedSectionVars false
namespace Go.Proofs.YtmgmoamcbnkbfaaGreatDoor
open Go.RowKit

theorem BR.keep {σ σ' : Sg} {w w' : World} {b : Nat} {k : ABlk} (h : BR σ w b k) (hle : σ.le σ') (hφ : ∀ n, σ'.φ b n = σ.φ b n)
    (hg : ∀ v g, k.live = true → σ.φ b k.ver = some v → conc v = some g → w'.heap[g]? = w.heap[g]? ∧ ∀ a : Addr, a.block = g → σ'.M a = σ.M a) : BR σ' w' b k := by
  cases k with
  | free => exact fun n => (hφ n).trans (h n)
  | dead => trivial
  | cells cs =>
    rcases h with ⟨g, vs, t, h1, h1', h2, h3, h4⟩ | ⟨h0, v, h1, h2⟩
    · obtain ⟨e1, e2⟩ := hg _ g rfl h1 rfl
      exact .inl ⟨g, vs, t, (hφ 0).trans h1, (hφ 1).trans h1', e1.trans h2, h3.mono hle, fun a ha => (e2 a ha).trans (h4 a ha)⟩
    · exact .inr ⟨h0, v, (hφ 0).trans h1, h2⟩
  | row e sz n =>
    obtain ⟨v, xs, h1, h2, h3, h4⟩ := h
    refine ⟨v, xs, (hφ n).trans h1, ?_, fun m hm => (hφ m).trans (h3 m hm), fun g hc => ?_⟩
    · rcases h2 with h2 | ⟨g, cap, cur, hcap, rfl, hh, r⟩
      · exact .inl h2
      · exact .inr ⟨g, cap, cur, hcap, rfl, ((hg _ g rfl h1 (by simp [conc]; omega)).1).trans hh, r⟩
    · obtain ⟨e1, e2⟩ := hg _ g rfl h1 hc
      obtain ⟨h5, h6⟩ := h4 g hc
      exact ⟨fun j u hj => (e2 _ rfl).trans (h5 j u hj), fun a ha hn => (e2 a ha).trans (h6 a ha hn)⟩
  | map kt ck es =>
    obtain ⟨g, ms, h1, h2, h3, r⟩ := h
    exact ⟨g, ms, (hφ 0).trans h1, ((hg _ g rfl h1 rfl).1).trans h2, h3.mono hle, r⟩
  | bld t =>
    obtain ⟨g, h1, h1', h2, h3⟩ := h
    obtain ⟨e1, e2⟩ := hg _ g rfl h1 rfl
    exact ⟨g, (hφ 0).trans h1, (hφ 1).trans h1', e1.trans h2, fun a ha => (e2 a ha).trans (h3 a ha)⟩

theorem lt_of_heap {w : World} {g : Nat} {o : Obj} (h : w.heap[g]? = some o) : g < w.heap.size := (Array.getElem?_eq_some_iff.1 h).1

/-- A live block lies in the concrete heap. -/
theorem BR.lt {σ : Sg} {w : World} {b : Nat} {k : ABlk} (h : BR σ w b k) {v : Value} {g : Nat} (hl : k.live = true) (hv : σ.φ b k.ver = some v) (hc : conc v = some g) : g < w.heap.size := by
  cases k with
  | free => cases hl
  | dead => cases hl
  | cells cs =>
    rcases h with ⟨g', vs, t, h1, _, h2, _⟩ | ⟨_, v', h1, h2⟩
    · rw [show ABlk.ver (.cells cs) = 0 from rfl, h1] at hv; cases hv
      simp [conc] at hc; subst hc; exact lt_of_heap h2
    · rw [show ABlk.ver (.cells cs) = 0 from rfl, h1] at hv; cases hv
      rw [h2] at hc; cases hc
  | row e sz n =>
    obtain ⟨v', xs, h1, h2, _⟩ := h
    rw [show ABlk.ver (.row e sz n) = n from rfl, h1] at hv; cases hv
    rcases h2 with ⟨_, _, a, rfl⟩ | ⟨g', cap, cur, hcap, rfl, hh, _⟩
    · cases a <;> simp [conc] at hc
    · simp [conc] at hc; obtain ⟨_, rfl⟩ := hc; exact lt_of_heap hh
  | map kt ck es =>
    obtain ⟨g', ms, h1, h2, _⟩ := h
    rw [show ABlk.ver (.map kt ck es) = 0 from rfl, h1] at hv; cases hv
    simp [conc] at hc; subst hc; exact lt_of_heap h2
  | bld t =>
    obtain ⟨g', h1, _, h2, _⟩ := h
    rw [show ABlk.ver (.bld t) = 0 from rfl, h1] at hv; cases hv
    simp [conc] at hc; subst hc; exact lt_of_heap h2

theorem BR.has {σ : Sg} {w : World} {b : Nat} {k : ABlk} (h : BR σ w b k) (hl : k.live = true) : ∃ v, σ.φ b k.ver = some v := by
  cases k with
  | free => cases hl
  | dead => cases hl
  | cells cs =>
    rcases h with ⟨g', vs, t, h1, _⟩ | ⟨_, v', h1, _⟩
    · exact ⟨_, h1⟩
    · exact ⟨_, h1⟩
  | row e sz n => obtain ⟨v', xs, h1, _⟩ := h; exact ⟨_, h1⟩
  | map kt ck es => obtain ⟨g', ms, h1, _⟩ := h; exact ⟨_, h1⟩
  | bld t => obtain ⟨g', h1, _⟩ := h; exact ⟨_, h1⟩

/-- ONE BLOCK TURNS (or comes anew), the others stay. -/
theorem HR.turn {σ σ' : Sg} {H H' : List ABlk} {w w' : World} (h : HR σ H w) (hle : σ.le σ') (b0 : Nat) (blk0 : ABlk)
    (hH : ∀ b, b ≠ b0 → H'[b]? = H[b]?) (hH0 : H'[b0]? = some blk0) (hlen : H.length ≤ H'.length)
    (hφ : ∀ b n, b ≠ b0 → σ'.φ b n = σ.φ b n)
    (hmem : MemOk σ'.M w') (hB : BR σ' w' b0 blk0)
    (hoth : ∀ b k v g, b ≠ b0 → H[b]? = some k → k.live = true → σ.φ b k.ver = some v → conc v = some g →
      w'.heap[g]? = w.heap[g]? ∧ (∀ a : Addr, a.block = g → σ'.M a = σ.M a) ∧ (∀ v0, blk0.live = true → σ'.φ b0 blk0.ver = some v0 → conc v0 ≠ some g)) :
    HR σ' H' w' := by
  refine ⟨hmem, fun b k hb => ?_, fun b n hb => ?_, ?_⟩
  · by_cases e : b = b0
    · subst e; rw [hH0] at hb; cases hb; exact hB
    · rw [hH b e] at hb
      exact (h.blk b k hb).keep hle (fun n => hφ b n e) fun v g hl hv hc => ⟨(hoth b k v g e hb hl hv hc).1, (hoth b k v g e hb hl hv hc).2.1⟩
  · have hne : b ≠ b0 := by
      rintro rfl
      rw [List.getElem?_eq_none hb] at hH0; cases hH0
    rw [hφ b n hne]
    exact h.fresh b n (by omega)
  · intro b b' k k' v v' g hb hb' hl hl' hv hv' hc hc'
    by_cases e : b = b0
    · by_cases e' : b' = b0
      · rw [e, e']
      · subst e
        rw [hH0] at hb; cases hb
        rw [hH b' e'] at hb'
        rw [hφ b' _ e'] at hv'
        exact absurd hc ((hoth b' k' v' g e' hb' hl' hv' hc').2.2 v hl hv)
    · rw [hH b e] at hb
      rw [hφ b _ e] at hv
      by_cases e' : b' = b0
      · subst e'
        rw [hH0] at hb'; cases hb'
        exact absurd hc' ((hoth b k v g e hb hl hv hc).2.2 v' hl' hv')
      · rw [hH b' e'] at hb'
        rw [hφ b' _ e'] at hv'
        exact h.inj b b' k k' v v' g hb hb' hl hl' hv hv' hc hc'

/-- φ with one entry more. -/
def Sg.putφ (σ : Sg) (b n : Nat) (v : Value) : Sg := { σ with φ := fun b' n' => if b' = b ∧ n' = n then some v else σ.φ b' n' }
theorem Sg.putφ_le {σ : Sg} {b n : Nat} {v : Value} (h : σ.φ b n = none) : σ.le (σ.putφ b n v) :=
  ⟨fun _ _ h => h, fun b' n' v' h' => by
    unfold Sg.putφ
    simp only
    split
    · rename_i e; rw [e.1, e.2, h] at h'; cases h'
    · exact h'⟩
theorem Sg.putφ_same (σ : Sg) (b n : Nat) (v : Value) : (σ.putφ b n v).φ b n = some v := by simp [Sg.putφ]
theorem Sg.putφ_other (σ : Sg) (b n : Nat) (v : Value) {b' : Nat} (n' : Nat) (h : b' ≠ b) : (σ.putφ b n v).φ b' n' = σ.φ b' n' := by simp [Sg.putφ, h]
theorem Sg.putφ_ver (σ : Sg) (b n : Nat) (v : Value) {n' : Nat} (h : n' ≠ n) : (σ.putφ b n v).φ b n' = σ.φ b n' := by simp [Sg.putφ, h]
@[simp] theorem Sg.putφ_M (σ : Sg) (b n : Nat) (v : Value) : (σ.putφ b n v).M = σ.M := rfl

/-- M with more cells. -/
def Sg.putM (σ : Sg) (g : Nat) (vs : List Value) (from_ : Nat) : Sg :=
  { σ with M := fun a => if a.block = g ∧ a.spot = none ∧ from_ ≤ a.off ∧ a.off < vs.length then vs[a.off]? else σ.M a }

theorem alloc_heap_new (w : World) (o : Obj) : (w.alloc o).heap[w.heap.size]? = some o := by
  show (w.heap.push o)[w.heap.size]? = some o
  simp
theorem alloc_heap_old (w : World) (o : Obj) {k : Nat} (h : k < w.heap.size) : (w.alloc o).heap[k]? = w.heap[k]? := by
  show (w.heap.push o)[k]? = _
  simp [Array.getElem?_push, Nat.ne_of_lt h]
theorem alloc_size (w : World) (o : Obj) : (w.alloc o).heap.size = w.heap.size + 1 := by
  show (w.heap.push o).size = _
  simp

theorem HR.Mlt {σ : Sg} {H : List ABlk} {w : World} (h : HR σ H w) {a : Addr} {v : Value} (hm : σ.M a = some v) : a.block < w.heap.size :=
  World.block_lt_of_cell? w a (h.mem a v hm)

theorem SzOk.alloc {w : World} (h : SzOk w) (o : Obj) : SzOk (w.alloc o) := h.to fun t ht c e f hc => ⟨c, e, f, by rw [alloc_heap_old w o (Array.getElem?_eq_some_iff.1 hc).1]; exact hc, rfl⟩
theorem HR.mem_alloc {σ : Sg} {H : List ABlk} {w : World} (h : HR σ H w) (o : Obj) (a : Addr) (v : Value) (hm : σ.M a = some v) : (w.alloc o).cell? a = some v := by
  rw [World.cell?_alloc_lt w o a (h.Mlt hm)]
  exact h.mem a v hm

theorem getElem?_concat_ne {α : Type} (H : List α) (x : α) {b : Nat} (h : b ≠ H.length) : (H ++ [x])[b]? = H[b]? := by
  rw [List.getElem?_append]
  split
  · rfl
  · rename_i hb
    have h1 : ([x] : List α).length ≤ b - H.length := by simp; omega
    rw [List.getElem?_eq_none h1, List.getElem?_eq_none (by omega)]

theorem dead_concat {H : List ABlk} {x : ABlk} {b : Nat} {φ φ' : Nat → Nat → Option Value} (hb : H[b]? = some .dead) (h : ∀ n, b ≠ H.length → φ' b n = φ b n) :
    (H ++ [x])[b]? = some .dead ∧ ∀ n, φ' b n = φ b n := by
  have hlt : b < H.length := (List.getElem?_eq_some_iff.1 hb).1
  exact ⟨by rw [List.getElem?_append_left hlt]; exact hb, fun n => h n (by omega)⟩
theorem dead_set {H : List ABlk} {x k : ABlk} {b b0 : Nat} {φ φ' : Nat → Nat → Option Value} (hb : H[b]? = some .dead) (h0 : H[b0]? = some k) (hk : k ≠ .dead) (h : ∀ n, b ≠ b0 → φ' b n = φ b n) :
    (H.set b0 x)[b]? = some .dead ∧ ∀ n, φ' b n = φ b n := by
  have hne : b ≠ b0 := fun e => by subst e; rw [hb] at h0; cases h0; exact hk rfl
  exact ⟨by rw [List.getElem?_set_ne (Ne.symm hne)]; exact hb, fun n => h n hne⟩

/-- ONE BLOCK OF CELLS, new or moved: where it lies is told, and what it held before is no more. -/
theorem HR.placeAt {σ : Sg} {H : List ABlk} {w : World} (h : HR σ H w) (g : Nat) (t : TypeId) (w' : World) {cs : List AV} {vs : Array Value} (hos : w'.os = w.os) (htp : w'.tape = w.tape) (hout : w'.output = w.output) (hsize : w.heap.size ≤ w'.heap.size)
    (hg : w'.heap[g]? = some (.cells vs t (0, 0))) (hfr : ∀ k, k ≠ g → k < w.heap.size → w'.heap[k]? = w.heap[k]?) (hM : ∀ a : Addr, a.block = g → σ.M a = none)
    (hnf : ∀ b k v, H[b]? = some k → k.live = true → σ.φ b k.ver = some v → conc v ≠ some g) (H0 : List ABlk) (hfoot : foot σ H0 g ∨ w.heap.size ≤ g) (hH0 : ∀ k, foot σ H k → foot σ H0 k)
    (hdead : ∀ b : Nat, H0[b]? = some .dead → H[b]? = some .dead) (hlen : H0.length = H.length) (hv : VRs σ cs (vs.toList.take cs.length)) :
    ∃ σ', Ext σ H0 w σ' (H ++ [.cells cs]) w' ∧ HR σ' (H ++ [.cells cs]) w' ∧ VR σ' (.ptr H.length 0) (.pointer (some ⟨g, 0, none⟩)) ∧
      σ'.φ H.length 0 = some (.pointer (some ⟨g, 0, none⟩)) ∧ σ'.φ H.length 1 = some (.int .i64 vs.size) := by
  have hnew : ∀ n, σ.φ H.length n = none := fun n => h.fresh _ _ (Nat.le_refl _)
  let σ1 := σ.putφ H.length 0 (.pointer (some ⟨g, 0, none⟩))
  have hn1 : σ1.φ H.length 1 = none := by rw [Sg.putφ_ver _ _ _ _ (by omega)]; exact hnew 1
  have hle : σ.le (σ1.putφ H.length 1 (.int .i64 vs.size)) := (Sg.putφ_le (hnew 0)).trans (Sg.putφ_le hn1)
  have p0 : (σ1.putφ H.length 1 (.int .i64 vs.size)).φ H.length 0 = some (.pointer (some ⟨g, 0, none⟩)) := by rw [Sg.putφ_ver _ _ _ _ (by omega)]; exact Sg.putφ_same ..
  have p1 : (σ1.putφ H.length 1 (.int .i64 vs.size)).φ H.length 1 = some (.int .i64 vs.size) := Sg.putφ_same ..
  have po : ∀ b n, b ≠ H.length → (σ1.putφ H.length 1 (.int .i64 vs.size)).φ b n = σ.φ b n := fun b n hb => by rw [Sg.putφ_other _ _ _ _ _ hb, Sg.putφ_other _ _ _ _ _ hb]
  refine ⟨σ1.putφ H.length 1 (.int .i64 vs.size), ?_, ?_, .ptr p0, p0, p1⟩
  · refine ⟨hle, hos, htp, hout, hsize, fun k hk hf => hfr k (fun e => ?_) hk, ?_, fun _ h => absurd rfl h, fun b hb => ?_⟩
    · subst e
      rcases hfoot with hf' | hf'
      · exact hf hf'
      · omega
    · rintro k ⟨b, blk, v, hb, hl, hφ, hc⟩
      by_cases e : b = H.length
      · subst e
        simp at hb; subst hb
        rw [show ABlk.ver (.cells cs) = 0 from rfl, p0] at hφ
        cases hφ
        simp [conc] at hc
        subst hc
        exact hfoot
      · rw [getElem?_concat_ne H _ e] at hb
        rw [po _ _ e] at hφ
        exact .inl (hH0 k ⟨b, blk, v, hb, hl, hφ, hc⟩)
    · have hb' := hdead b hb
      exact dead_concat hb' (fun n h => po _ _ h)
  · refine h.turn hle H.length (.cells cs) (fun b hb => getElem?_concat_ne H _ hb) (by simp) (by simp) (fun b n hb => po _ _ hb)
      ⟨fun a v hm => ?_, h.mem.gl, h.mem.sz.to fun t0 ht0 c e f hc => ?_⟩ ?_ ?_
    rotate_left
    · have hne : t0.1 ≠ g := fun e => by
        obtain ⟨v, hv⟩ := h.mem.gl.ne ht0
        rw [hM _ e] at hv; cases hv
      exact ⟨c, e, f, (hfr _ hne (Array.getElem?_eq_some_iff.1 hc).1).trans hc, rfl⟩
    rotate_right
    · have hm0 : σ.M a = some v := hm
      have hne : a.block ≠ g := fun e => by rw [hM a e] at hm0; cases hm0
      have hm' := h.mem a v hm
      have hlt := h.Mlt hm
      simp only [World.cell?, hfr _ hne hlt] at hm' ⊢
      exact hm'
    · exact .inl ⟨g, vs, t, p0, p1, hg, hv.mono hle, hM⟩
    · intro b k v g' hb hk hl hv' hc
      have hlt := (h.blk b k hk).lt hl hv' hc
      have hne : g' ≠ g := fun e => hnf b k v hk hl hv' (by rw [hc, e])
      refine ⟨hfr _ hne hlt, fun _ _ => rfl, fun v0 _ hv0 => ?_⟩
      rw [show ABlk.ver (.cells cs) = 0 from rfl, p0] at hv0
      cases hv0
      simp [conc]; exact fun e => hne e.symm

/-- A NEW BLOCK OF THE CALL's OWN: cells that may be written. -/
theorem HR.allocP {σ : Sg} {H : List ABlk} {w : World} (h : HR σ H w) (t : TypeId) {cs : List AV} {vs : Array Value} (hv : VRs σ cs (vs.toList.take cs.length)) :
    ∃ σ', Ext σ H w σ' (H ++ [.cells cs]) (w.alloc (.cells vs t)) ∧ HR σ' (H ++ [.cells cs]) (w.alloc (.cells vs t)) ∧ VR σ' (.ptr H.length 0) (.pointer (some ⟨w.heap.size, 0, none⟩)) ∧
      σ'.φ H.length 0 = some (.pointer (some ⟨w.heap.size, 0, none⟩)) ∧ σ'.φ H.length 1 = some (.int .i64 vs.size) := by
  refine h.placeAt w.heap.size t (w.alloc (.cells vs t)) rfl rfl rfl (by simp) (alloc_heap_new w _) (fun k _ hk => alloc_heap_old w _ hk) (fun a ha => ?_) (fun b k v hb hl hv' hc => ?_) H (.inr (Nat.le_refl _)) (fun _ h => h) (fun _ h => h) rfl hv
  · cases hm : σ.M a with
    | none => rfl
    | some v => have := h.Mlt hm; omega
  · have := (h.blk b k hb).lt hl hv' hc; omega

theorem HR.alloc {σ : Sg} {H : List ABlk} {w : World} (h : HR σ H w) (t : TypeId) {cs : List AV} {vs : Array Value} (hv : VRs σ cs vs.toList) :
    ∃ σ', Ext σ H w σ' (H ++ [.cells cs]) (w.alloc (.cells vs t)) ∧ HR σ' (H ++ [.cells cs]) (w.alloc (.cells vs t)) ∧ VR σ' (.ptr H.length 0) (.pointer (some ⟨w.heap.size, 0, none⟩)) ∧
      σ'.φ H.length 0 = some (.pointer (some ⟨w.heap.size, 0, none⟩)) ∧ σ'.φ H.length 1 = some (.int .i64 vs.size) := h.allocP t hv.pre

/-- A block without cells, that lies nowhere. -/
theorem HR.place0 {σ : Sg} {H : List ABlk} {w : World} (h : HR σ H w) (v : Value) (hc : conc v = none) :
    ∃ σ', Ext σ H w σ' (H ++ [.cells []]) w ∧ HR σ' (H ++ [.cells []]) w ∧ σ'.φ H.length 0 = some v := by
  have hnew : ∀ n, σ.φ H.length n = none := fun n => h.fresh _ _ (Nat.le_refl _)
  have hle := Sg.putφ_le (v := v) (hnew 0)
  refine ⟨σ.putφ H.length 0 v, ⟨hle, rfl, rfl, rfl, Nat.le_refl _, fun _ _ _ => rfl, ?_, fun _ h => absurd rfl h, fun b hb => dead_concat hb (fun n hne => Sg.putφ_other _ _ _ _ _ hne)⟩, ?_, Sg.putφ_same ..⟩
  · rintro k ⟨b', blk, v', hb, hl, hφ, hc'⟩
    by_cases e' : b' = H.length
    · subst e'
      simp at hb; subst hb
      rw [show ABlk.ver (.cells []) = 0 from rfl, Sg.putφ_same] at hφ
      cases hφ
      rw [hc] at hc'; cases hc'
    · rw [getElem?_concat_ne H _ e'] at hb
      rw [Sg.putφ_other _ _ _ _ _ e'] at hφ
      exact .inl ⟨b', blk, v', hb, hl, hφ, hc'⟩
  · refine h.turn hle H.length (.cells []) (fun b hb => getElem?_concat_ne H _ hb) (by simp) (by simp) (fun b n hb => Sg.putφ_other _ _ _ _ _ hb) h.mem
      (.inr ⟨rfl, v, Sg.putφ_same .., hc⟩) fun b' k v' g hb hk hl hv hcv => ⟨rfl, fun _ _ => rfl, fun v0 _ hv0 => ?_⟩
    rw [show ABlk.ver (.cells []) = 0 from rfl, Sg.putφ_same] at hv0
    cases hv0
    rw [hc]; simp

/-- A block that is let go. -/
theorem HR.die {σ : Sg} {H : List ABlk} {w : World} (h : HR σ H w) (b0 : Nat) (hl0 : b0 < H.length) : HR σ (H.set b0 .dead) w := by
  have hset : ∀ b, b ≠ b0 → (H.set b0 .dead)[b]? = H[b]? := fun b hne => by rw [List.getElem?_set_ne (Ne.symm hne)]
  refine h.turn (.refl σ) b0 .dead hset (by simp [hl0]) (by simp) (fun _ _ _ => rfl) h.mem trivial fun b k v g hb hk hl hv hc => ⟨rfl, fun _ _ => rfl, fun v0 hd => by cases hd⟩
theorem foot_die {σ : Sg} {H : List ABlk} {b0 k : Nat} (h : foot σ (H.set b0 .dead) k) : foot σ H k := by
  obtain ⟨b, blk, v, hb, hl, hφ, hc⟩ := h
  by_cases e : b = b0
  · subst e
    rw [List.getElem?_set] at hb
    simp only [if_true] at hb
    split at hb
    · cases hb; cases hl
    · cases hb
  · rw [List.getElem?_set_ne (Ne.symm e)] at hb
    exact ⟨b, blk, v, hb, hl, hφ, hc⟩
/-- Cells that are a new strings.Builder. -/
theorem HR.retag {σ : Sg} {H : List ABlk} {w : World} (h : HR σ H w) {b g : Nat} {cs : List AV} {t : TypeId} (hb : H[b]? = some (.cells cs)) (h0 : σ.φ b 0 = some (.pointer (some ⟨g, 0, none⟩))) (h1 : σ.φ b 1 = some (.int .i64 2))
    (hg : w.heap[g]? = some (.cells #[.pointer none, .slice none 0 0] t (0, 0))) : HR σ (H.set b (.bld t)) w := by
  have hl0 : b < H.length := (List.getElem?_eq_some_iff.1 hb).1
  obtain ⟨vs, t', _, _, _, h5⟩ := h.cellsAt hb h0
  have hset : ∀ b', b' ≠ b → (H.set b (.bld t))[b']? = H[b']? := fun b' hne => by rw [List.getElem?_set_ne (Ne.symm hne)]
  refine h.turn (.refl σ) b (.bld t) hset (by simp [hl0]) (by simp) (fun _ _ _ => rfl) h.mem ⟨g, h0, h1, hg, h5⟩ fun b' k v g' hb' hk hl hv hc => ⟨rfl, fun _ _ => rfl, fun v0 _ hv0 hc0 => ?_⟩
  exact hb' (h.inj b' b k _ v v0 g' hk hb hl rfl hv hv0 hc hc0)
theorem foot_retag {σ : Sg} {H : List ABlk} {b : Nat} {cs : List AV} {t : TypeId} (hb : H[b]? = some (.cells cs)) {k : Nat} : foot σ (H.set b (.bld t)) k ↔ foot σ H k := by
  have hl0 : b < H.length := (List.getElem?_eq_some_iff.1 hb).1
  constructor
  · rintro ⟨b', blk, v, h1, hl, hφ, hc⟩
    by_cases e : b' = b
    · subst e
      rw [List.getElem?_set_self hl0] at h1
      cases h1
      exact ⟨b', _, v, hb, rfl, hφ, hc⟩
    · rw [List.getElem?_set_ne (Ne.symm e)] at h1
      exact ⟨b', blk, v, h1, hl, hφ, hc⟩
  · rintro ⟨b', blk, v, h1, hl, hφ, hc⟩
    by_cases e : b' = b
    · subst e
      rw [hb] at h1
      cases h1
      exact ⟨b', .bld t, v, List.getElem?_set_self hl0, rfl, hφ, hc⟩
    · exact ⟨b', blk, v, by rw [List.getElem?_set_ne (Ne.symm e)]; exact h1, hl, hφ, hc⟩
/-- NEW CELLS THAT NEVER CHANGE ANY MORE. -/
theorem HR.allocMF {σ : Sg} {H : List ABlk} {w : World} (h : HR σ H w) (t : TypeId) (vs : Array Value) (fr : Nat × Nat) :
    ∃ σ', Ext σ H w σ' H (w.alloc (.cells vs t fr)) ∧ HR σ' H (w.alloc (.cells vs t fr)) ∧ (∀ j u, vs[j]? = some u → σ'.M ⟨w.heap.size, j, none⟩ = some u) ∧ σ'.φ = σ.φ := by
  have hnoM : ∀ a : Addr, a.block = w.heap.size → σ.M a = none := fun a ha => by
    cases hm : σ.M a with
    | none => rfl
    | some v => have := h.Mlt hm; omega
  let σ' : Sg := { σ with M := fun a => if a.block = w.heap.size ∧ a.spot = none then vs[a.off]? else σ.M a }
  have hle : σ.le σ' := ⟨fun a v hm => by
    show (if a.block = w.heap.size ∧ a.spot = none then vs[a.off]? else σ.M a) = some v
    rw [if_neg (fun e => by have := h.Mlt hm; omega)]
    exact hm, fun _ _ _ h => h⟩
  have hsame : ∀ a : Addr, a.block ≠ w.heap.size → σ'.M a = σ.M a := fun a ha => if_neg (fun e => ha e.1)
  refine ⟨σ', ⟨hle, rfl, rfl, rfl, by simp, fun k hk _ => alloc_heap_old w _ hk, fun k hk => .inl hk, fun a ha => .inr (by
    rcases Nat.lt_or_ge a.block w.heap.size with hl | hl
    · exact absurd (hsame a (by omega)) ha
    · exact hl), fun _ h => ⟨h, fun _ => rfl⟩⟩, ⟨⟨fun a v hm => ?_, h.mem.gl.mono hle.M, h.mem.sz.alloc _⟩, fun b k hb => ?_, h.fresh, h.inj⟩, fun j u hj => ?_, rfl⟩
  · by_cases e : a.block = w.heap.size ∧ a.spot = none
    · have hm' : vs[a.off]? = some v := by
        have : σ'.M a = vs[a.off]? := if_pos e
        rw [this] at hm; exact hm
      simp only [World.cell?, e.1, alloc_heap_new, e.2, Option.isSome_none, Bool.false_eq_true, if_false]
      exact hm'
    · have : σ'.M a = σ.M a := if_neg e
      rw [this] at hm
      exact h.mem_alloc _ a v hm
  · refine (h.blk b k hb).keep hle (fun _ => rfl) fun v g hl hv hc => ?_
    have hlt := (h.blk b k hb).lt hl hv hc
    exact ⟨alloc_heap_old w _ hlt, fun a ha => hsame a (by omega)⟩
  · exact (if_pos ⟨rfl, rfl⟩ : σ'.M ⟨w.heap.size, j, none⟩ = vs[j]?).trans hj

theorem HR.allocM {σ : Sg} {H : List ABlk} {w : World} (h : HR σ H w) (t : TypeId) (vs : Array Value) :
    ∃ σ', Ext σ H w σ' H (w.alloc (.cells vs t)) ∧ HR σ' H (w.alloc (.cells vs t)) ∧ (∀ j u, vs[j]? = some u → σ'.M ⟨w.heap.size, j, none⟩ = some u) ∧ σ'.φ = σ.φ := h.allocMF t vs (0, 0)

end Go.Proofs.YtmgmoamcbnkbfaaGreatDoor

/-
  One's own library, part 3b: stores into blocks, rows that grow, what is left behind at a return.
-/
namespace Go.Proofs.YtmgmoamcbnkbfaaGreatDoor
open Go.RowKit

theorem all_one {σ : Sg} {x : AV} {u : Value} (h : VR σ x u) (ho : one x = true) : u.oneCell' = true := by
  cases h <;> first | rfl | (cases ho; done) | skip
  · rename_i h; cases h <;> first | rfl | skip
    rename_i h; cases u <;> first | rfl | cases h
  · rename_i h; cases h <;> rfl

/-- A STORE INTO A BLOCK OF CELLS: its cells are others now. -/
theorem HR.setCells {σ : Sg} {H : List ABlk} {w : World} (h : HR σ H w) {b g : Nat} {cs cs' : List AV} (hb : H[b]? = some (.cells cs)) (h1 : σ.φ b 0 = some (.pointer (some ⟨g, 0, none⟩))) :
    ∃ vs t, σ.φ b 1 = some (.int .i64 vs.size) ∧ w.heap[g]? = some (.cells vs t (0, 0)) ∧ VRs σ cs (vs.toList.take cs.length) ∧
      ∀ vs' : Array Value, vs'.size = vs.size → VRs σ cs' (vs'.toList.take cs'.length) → Ext σ H w σ (H.set b (.cells cs')) (w.setRow g vs') ∧ HR σ (H.set b (.cells cs')) (w.setRow g vs') := by
  obtain ⟨vs, t, h1', h2, h3, h4⟩ := h.cellsAt hb h1
  refine ⟨vs, t, h1', h2, h3, fun vs' hsz' hv' => ?_⟩
  have hlt : b < H.length := by
    rcases Nat.lt_or_ge b H.length with hl | hl
    · exact hl
    · rw [List.getElem?_eq_none hl] at hb; cases hb
  have hset : ∀ b', b' ≠ b → (H.set b (.cells cs'))[b']? = H[b']? := fun b' hne => by rw [List.getElem?_set_ne (Ne.symm hne)]
  have hset0 : (H.set b (.cells cs'))[b]? = some (.cells cs') := by simp [hlt]
  refine ⟨⟨.refl σ, rfl, rfl, rfl, by simp, fun k hk hf => setRow_other w g k vs' (fun e => hf ?_), ?_, fun _ h => absurd rfl h, fun b' hd => dead_set hd hb (by simp) (fun _ _ => rfl)⟩, ?_⟩
  · subst e; exact ⟨b, _, _, hb, rfl, h1, rfl⟩
  · rintro k ⟨b', blk, v, hb', hl, hφ, hc⟩
    by_cases e : b' = b
    · subst e
      rw [hset0] at hb'; cases hb'
      exact .inl ⟨b', _, v, hb, rfl, hφ, hc⟩
    · rw [hset b' e] at hb'
      exact .inl ⟨b', blk, v, hb', hl, hφ, hc⟩
  · refine h.turn (.refl σ) b (.cells cs') hset hset0 (by simp) (fun _ _ _ => rfl) ⟨fun a v hm => ?_, h.mem.gl, h.mem.sz.to fun t0 ht0 c e f hc => ⟨c, e, f, ?_, rfl⟩⟩ (.inl ⟨g, vs', t, h1, by rw [hsz']; exact h1', setRow_heap w g vs vs' t _ h2, hv', h4⟩) ?_
    rotate_left
    · have hne : t0.1 ≠ g := fun e => by
        obtain ⟨v, hv⟩ := h.mem.gl.ne ht0
        rw [h4 _ e] at hv; cases hv
      rw [setRow_other w g _ vs' hne]; exact hc
    rotate_right
    · have hne : a.block ≠ g := fun e => by rw [h4 a e] at hm; cases hm
      rw [cell_setRow_other w g vs' a hne]
      exact h.mem a v hm
    · intro b' k v g' hne hk hl hφ hc
      have hgg : g' ≠ g := fun e => hne (h.inj b' b k _ v _ g' hk hb hl rfl hφ h1 hc (by simp [conc, e]))
      refine ⟨setRow_other w g g' vs' hgg, fun _ _ => rfl, fun v0 _ hv0 => ?_⟩
      rw [show ABlk.ver (.cells cs') = 0 from rfl, h1] at hv0
      cases hv0
      simp [conc]; exact fun e => hgg e.symm

/-- What a slice's data are, cell by cell. -/
theorem VD.sl_cells {M : Mem} {es : List (List Dat)} {v : Value} (h : VD M (.sl es) v) :
    ∃ a cap, v = .slice a es.length cap ∧ es.length ≤ maxLen ∧ (es ≠ [] → es.length ≤ cap ∧ ∃ ad sz, a = some ad ∧ (∀ e ∈ es, e.length = sz) ∧ ∃ u : Nat → Nat → Value,
      (∀ (i : Nat) (e : List Dat) (j : Nat) (d : Dat), es[i]? = some e → e[j]? = some d → M (ad.add (i * sz + j)) = some (u i j)) ∧
      (∀ (i : Nat) (e : List Dat) (j : Nat) (d : Dat), es[i]? = some e → e[j]? = some d → VD M d (u i j))) := by
  cases h with
  | nil => exact ⟨_, _, rfl, Nat.zero_le _, fun h => absurd rfl h⟩
  | sl u h1 h2 hm h3 h4 h5 => exact ⟨_, _, rfl, Nat.le_trans h2 hm, fun _ => ⟨h2, _, _, rfl, h3, u, h4, h5⟩⟩

/-- Lists of data, cell by cell. -/
def VDs (M : Mem) (ds : List Dat) (us : List Value) : Prop := ds.length = us.length ∧ ∀ (i : Nat) (d : Dat) (u : Value), ds[i]? = some d → us[i]? = some u → VD M d u
theorem VDs.mono {M M' : Mem} (h : ∀ a v, M a = some v → M' a = some v) {ds : List Dat} {us : List Value} (hv : VDs M ds us) : VDs M' ds us :=
  ⟨hv.1, fun i d u h1 h2 => (hv.2 i d u h1 h2).mono h⟩
theorem VDs.append {M : Mem} {ds ds' : List Dat} {us us' : List Value} (h : VDs M ds us) (k : VDs M ds' us') : VDs M (ds ++ ds') (us ++ us') := by
  refine ⟨by simp [h.1, k.1], fun i c u h1 h2 => ?_⟩
  rw [List.getElem?_append] at h1 h2
  by_cases hi : i < ds.length
  · rw [if_pos hi] at h1
    rw [if_pos (by rw [← h.1]; exact hi)] at h2
    exact h.2 i c u h1 h2
  · rw [if_neg hi] at h1
    rw [if_neg (by rw [← h.1]; exact hi)] at h2
    rw [← h.1] at h2
    exact k.2 _ c u h1 h2

theorem flat_at {α : Type} {es : List (List α)} {sz : Nat} (h : ∀ e ∈ es, e.length = sz) : ∀ (i : Nat) (e : List α) (j : Nat) (d : α), es[i]? = some e → e[j]? = some d → es.flatten[i * sz + j]? = some d := by
  induction es with
  | nil => intro i e j d hi; simp at hi
  | cons x es ih =>
    intro i e j d hi hj
    have hx : x.length = sz := h x (by simp)
    cases i with
    | zero =>
      simp at hi; subst hi
      have hlt : j < x.length := by
        rcases Nat.lt_or_ge j x.length with hl | hl
        · exact hl
        · rw [List.getElem?_eq_none hl] at hj; cases hj
      simp [List.getElem?_append, hlt]
      simpa [List.getElem?_eq_getElem hlt] using hj
    | succ i =>
      simp at hi
      have := ih (fun e he => h e (by simp [he])) i e j d hi hj
      rw [List.flatten_cons, List.getElem?_append_right (by rw [hx, Nat.succ_mul]; omega), hx]
      rw [show (i + 1) * sz + j - sz = i * sz + j by rw [Nat.succ_mul]; omega]
      exact this
theorem flat_len {α : Type} {es : List (List α)} {sz : Nat} (h : ∀ e ∈ es, e.length = sz) : es.flatten.length = es.length * sz := by
  induction es with
  | nil => simp
  | cons x es ih => rw [List.flatten_cons, List.length_append, h x (by simp), ih (fun e he => h e (by simp [he])), List.length_cons, Nat.succ_mul]; omega

/-- A slice over cells that never change reads as its elements. -/
theorem VD.of_cells {M : Mem} {es : List (List Dat)} {sz : Nat} (h : ∀ e ∈ es, e.length = sz) (ad : Addr) (cap : Nat) (hc : es.length ≤ cap) (hm : cap ≤ maxLen) {us : List Value}
    (hv : VDs M es.flatten us) (hM : ∀ j u, us[j]? = some u → M (ad.add j) = some u) : VD M (.sl es) (.slice (some ad) es.length cap) := by
  by_cases h0 : es = []
  · subst h0; exact .nil
  · have hu : ∀ (i : Nat) (e : List Dat) (j : Nat) (d : Dat), es[i]? = some e → e[j]? = some d → ∃ u, us[i * sz + j]? = some u ∧ VD M d u := by
      intro i e j d hi hj
      have hf := flat_at h i e j d hi hj
      have hlt : i * sz + j < us.length := by
        rw [← hv.1]
        rcases Nat.lt_or_ge (i * sz + j) es.flatten.length with hl | hl
        · exact hl
        · rw [List.getElem?_eq_none hl] at hf; cases hf
      exact ⟨us[i * sz + j], List.getElem?_eq_getElem hlt, hv.2 _ d _ hf (List.getElem?_eq_getElem hlt)⟩
    refine .sl (fun i j => us.getD (i * sz + j) undef) h0 hc hm h (fun i e j d hi hj => ?_) (fun i e j d hi hj => ?_)
    · obtain ⟨u, h1, _⟩ := hu i e j d hi hj
      rw [hM _ u h1]; simp [h1]
    · obtain ⟨u, h1, h2⟩ := hu i e j d hi hj
      simpa [h1] using h2

/-- And back: the cells of a slice's elements, as a list. -/
theorem VD.to_cells {M : Mem} {es : List (List Dat)} {v : Value} (h : VD M (.sl es) v) : es = [] ∨ ∃ ad cap sz us, v = .slice (some ad) es.length cap ∧ es.length ≤ cap ∧ cap ≤ maxLen ∧ (∀ e ∈ es, e.length = sz) ∧ VDs M es.flatten us ∧ ∀ j u, us[j]? = some u → M (ad.add j) = some u := by
  cases h with
  | nil => exact .inl rfl
  | sl u h1 h2 hm h3 h4 h5 =>
    rename_i ad cap sz
    refine .inr ⟨ad, cap, sz, (List.range (es.length * sz)).map fun k => u (k / sz) (k % sz), rfl, h2, hm, h3, ⟨by simp [flat_len h3], fun i d x hi hx => ?_⟩, fun j x hx => ?_⟩
    all_goals
      rw [List.getElem?_map, Option.map_eq_some_iff] at hx
      obtain ⟨k, hk, rfl⟩ := hx
      have hk' := List.getElem?_eq_some_iff.1 hk
      obtain ⟨hlt, hk2⟩ := hk'
      simp at hlt hk2
      subst hk2
      have hszpos : 0 < sz := by
        rcases Nat.eq_zero_or_pos sz with e | e
        · subst e; simp at hlt
        · exact e
    · have hi1 : i / sz < es.length := (Nat.div_lt_iff_lt_mul hszpos).2 hlt
      have hj1 : i % sz < (es[i / sz]).length := by rw [h3 _ (List.getElem_mem hi1)]; exact Nat.mod_lt _ hszpos
      have hf := flat_at h3 (i / sz) _ (i % sz) _ (List.getElem?_eq_getElem hi1) (List.getElem?_eq_getElem hj1)
      rw [show i / sz * sz + i % sz = i from Nat.div_add_mod' i sz, hi] at hf
      cases hf
      exact h5 (i / sz) _ (i % sz) _ (List.getElem?_eq_getElem hi1) (List.getElem?_eq_getElem hj1)
    · have hi1 : j / sz < es.length := (Nat.div_lt_iff_lt_mul hszpos).2 hlt
      have hj1 : j % sz < (es[j / sz]).length := by rw [h3 _ (List.getElem_mem hi1)]; exact Nat.mod_lt _ hszpos
      have := h4 (j / sz) _ (j % sz) _ (List.getElem?_eq_getElem hi1) (List.getElem?_eq_getElem hj1)
      rwa [show j / sz * sz + j % sz = j from Nat.div_add_mod' j sz] at this

theorem VD.len_le {M : Mem} {es : List (List Dat)} {v : Value} (h : VD M (.sl es) v) : es.length ≤ maxLen := by
  obtain ⟨_, _, _, h, _⟩ := h.sl_cells; exact h

end Go.Proofs.YtmgmoamcbnkbfaaGreatDoor

/-
  One's own library, part 3c: rows that grow (append).
-/
namespace Go.Proofs.YtmgmoamcbnkbfaaGreatDoor
open Go.RowKit

theorem putM_in {σ : Sg} {g : Nat} {vs : List Value} {fr j : Nat} (h1 : fr ≤ j) {u : Value} (h2 : vs[j]? = some u) : (σ.putM g vs fr).M ⟨g, j, none⟩ = some u := by
  have hlt : j < vs.length := by
    rcases Nat.lt_or_ge j vs.length with hl | hl
    · exact hl
    · rw [List.getElem?_eq_none hl] at h2; cases h2
  show (if _ then _ else _) = _
  rw [if_pos ⟨rfl, rfl, h1, hlt⟩]
  exact h2
theorem putM_out {σ : Sg} {g : Nat} {vs : List Value} {fr : Nat} {a : Addr} (h : ¬ (a.block = g ∧ a.spot = none ∧ fr ≤ a.off ∧ a.off < vs.length)) : (σ.putM g vs fr).M a = σ.M a := if_neg h
theorem putM_some {σ : Sg} {g : Nat} {vs : List Value} {fr : Nat} {a : Addr} {v : Value} (h : (σ.putM g vs fr).M a = some v) :
    (a.block = g ∧ a.spot = none ∧ fr ≤ a.off ∧ vs[a.off]? = some v) ∨ σ.M a = some v := by
  by_cases e : a.block = g ∧ a.spot = none ∧ fr ≤ a.off ∧ a.off < vs.length
  · left
    have : (σ.putM g vs fr).M a = vs[a.off]? := if_pos e
    rw [this] at h
    exact ⟨e.1, e.2.1, e.2.2.1, h⟩
  · right
    rwa [putM_out e] at h

/-- A NEW CONCRETE ROW FOR A BLOCK, new or old: its first n elements never change any more. -/
theorem HR.rowAlloc {σ : Sg} {H H' : List ABlk} {w : World} (h : HR σ H w) (b0 n e sz cap : Nat) (vs : Array Value) (us : List Value) (hver : ∀ m, n ≤ m → σ.φ b0 m = none)
    (hH : ∀ b, b ≠ b0 → H'[b]? = H[b]?) (hH0 : H'[b0]? = some (.row e sz n)) (hlen : H.length ≤ H'.length) (hnd : H[b0]? ≠ some .dead)
    (hn : n ≤ cap) (hcap : 0 < cap) (hm : cap ≤ maxLen) (hsz : vs.size = cap * sz) (hus : vs.toList.take (n * sz) = us) :
    ∃ σ', Ext σ H w σ' H' (w.alloc (.cells vs e)) ∧ HR σ' H' (w.alloc (.cells vs e)) ∧ σ'.φ b0 n = some (.slice (some ⟨w.heap.size, 0, none⟩) n cap) ∧
      ∀ j u, us[j]? = some u → σ'.M ⟨w.heap.size, j, none⟩ = some u := by
  have hnz : cap ≠ 0 := by omega
  have hus' : us.length = n * sz := by
    rw [← hus, List.length_take, Array.length_toList, hsz]
    exact Nat.min_eq_left (Nat.mul_le_mul_right _ hn)
  have hvs : ∀ j u, us[j]? = some u → vs[j]? = some u := fun j u hj => by
    rw [← hus, List.getElem?_take] at hj
    split at hj
    · simpa using hj
    · cases hj
  let σ1 : Sg := σ.putM w.heap.size us 0
  have hM1 : ∀ a v, σ.M a = some v → σ1.M a = some v := fun a v hv => by
    have := h.Mlt hv
    show (σ.putM w.heap.size us 0).M a = some v
    rw [putM_out (fun e => by omega)]; exact hv
  have hle : σ.le (σ1.putφ b0 n (.slice (some ⟨w.heap.size, 0, none⟩) n cap)) :=
    (⟨hM1, fun _ _ _ h => h⟩ : σ.le σ1).trans (Sg.putφ_le (hver n (Nat.le_refl _)))
  refine ⟨σ1.putφ b0 n (.slice (some ⟨w.heap.size, 0, none⟩) n cap), ⟨hle, rfl, rfl, rfl, by simp, fun k hk _ => alloc_heap_old w _ hk, ?_, fun a ha => .inr ?_, fun b hb => ?_⟩, ?_, Sg.putφ_same .., fun j u hj => putM_in (Nat.zero_le _) hj⟩
  · rintro k ⟨b, blk, v, hb, hl, hφ, hc⟩
    by_cases eb : b = b0
    · subst eb
      rw [hH0] at hb; cases hb
      rw [show ABlk.ver (.row e sz n) = n from rfl, Sg.putφ_same] at hφ
      cases hφ
      simp [conc, hnz] at hc
      exact .inr (by omega)
    · rw [hH b eb] at hb
      rw [Sg.putφ_other _ _ _ _ _ eb] at hφ
      exact .inl ⟨b, blk, v, hb, hl, hφ, hc⟩
  · rcases Nat.lt_or_ge a.block w.heap.size with hl | hl
    · exact absurd (show (σ.putM w.heap.size us 0).M a = σ.M a from putM_out (fun e => by omega)) ha
    · exact hl
  · have hne : b ≠ b0 := fun e => hnd (e ▸ hb)
    exact ⟨by rw [hH b hne]; exact hb, fun n => Sg.putφ_other _ _ _ _ _ hne⟩
  · refine h.turn hle b0 (.row e sz n) hH hH0 hlen (fun b m hb => Sg.putφ_other _ _ _ _ _ hb) ⟨fun a v hm => ?_, h.mem.gl.mono hM1, h.mem.sz.alloc _⟩ ?_ ?_
    · rcases putM_some (show (σ.putM w.heap.size us 0).M a = some v from hm) with ⟨h1, h2, _, h4⟩ | h1
      · simp only [World.cell?, h1, alloc_heap_new, h2, Option.isSome_none, Bool.false_eq_true, if_false]
        exact hvs _ _ h4
      · exact h.mem_alloc _ a v h1
    · refine ⟨_, us, Sg.putφ_same .., .inr ⟨w.heap.size, cap, vs, hcap, rfl, alloc_heap_new w _, hn, hm, hsz, hus⟩, fun m hm => ?_, fun g hg => ?_⟩
      · rw [Sg.putφ_ver _ _ _ _ (by omega)]; exact hver m (by omega)
      · simp [conc, hnz] at hg
        subst hg
        refine ⟨fun j u hj => putM_in (Nat.zero_le _) hj, fun a ha ho => ?_⟩
        show (σ.putM w.heap.size us 0).M a = none
        rw [putM_out (fun e => by omega)]
        cases hm : σ.M a with
        | none => rfl
        | some v => have := h.Mlt hm; omega
    · intro b k v g hb hk hl hv' hc
      have hlt := (h.blk b k hk).lt hl hv' hc
      refine ⟨alloc_heap_old w _ hlt, fun a ha => ?_, fun v0 _ hv0 => ?_⟩
      · show (σ.putM w.heap.size us 0).M a = _
        exact putM_out (fun e => by omega)
      · rw [show ABlk.ver (.row e sz n) = n from rfl, Sg.putφ_same] at hv0
        cases hv0
        simp [conc, hnz]; omega

/-- A ROW GROWS IN ITS OWN ROOM. -/
theorem HR.rowRoom {σ : Sg} {H : List ABlk} {w : World} (h : HR σ H w) (b e sz n m g cap : Nat) (cur : Array Value) (news : List Value) (hb : H[b]? = some (.row e sz n))
    (hφ : σ.φ b n = some (.slice (some ⟨g, 0, none⟩) n cap)) (hcap : 0 < cap) (hg : w.heap[g]? = some (.cells cur e (0, 0))) (hnm : n + m ≤ cap) (hcm : cap ≤ maxLen) (hsz : cur.size = cap * sz)
    (hm0 : 0 < m) (hl : news.length = m * sz) :
    ∃ σ', Ext σ H w σ' (H.set b (.row e sz (n + m))) (w.setRow g (cur.toList.take (n * sz) ++ news ++ cur.toList.drop (n * sz + news.length)).toArray) ∧
      HR σ' (H.set b (.row e sz (n + m))) (w.setRow g (cur.toList.take (n * sz) ++ news ++ cur.toList.drop (n * sz + news.length)).toArray) ∧
      σ'.φ b (n + m) = some (.slice (some ⟨g, 0, none⟩) (n + m) cap) ∧
      ∀ j u, (cur.toList.take (n * sz) ++ news)[j]? = some u → σ'.M ⟨g, j, none⟩ = some u := by
  have hnz : cap ≠ 0 := by omega
  obtain ⟨v0, xs, h1, h2, h3, h4⟩ := h.blk b _ hb
  rw [hφ] at h1; cases h1
  have hxs : cur.toList.take (n * sz) = xs := by
    rcases h2 with ⟨_, _, a, h2⟩ | ⟨g', cap', cur', _, h2, hh, _, _, _, ht⟩
    · injection h2 with _ _ h2; omega
    · injection h2 with h2 _ _
      injection h2 with h2
      cases h2
      rw [hg] at hh; cases hh
      exact ht
  obtain ⟨h5, h6⟩ := h4 g (by simp [conc, hnz])
  have hfit : (n + m) * sz ≤ cap * sz := Nat.mul_le_mul_right _ hnm
  have hnl : n * sz + news.length = (n + m) * sz := by rw [hl, Nat.add_mul]
  have htl : (cur.toList.take (n * sz)).length = n * sz := by
    rw [List.length_take, Array.length_toList, hsz]
    exact Nat.min_eq_left (by rw [Nat.add_mul] at hfit; omega)
  have hnewl : (cur.toList.take (n * sz) ++ news).length = (n + m) * sz := by rw [List.length_append, htl, hnl]
  have hlt : b < H.length := by
    rcases Nat.lt_or_ge b H.length with hl | hl
    · exact hl
    · rw [List.getElem?_eq_none hl] at hb; cases hb
  have hset : ∀ b', b' ≠ b → (H.set b (.row e sz (n + m)))[b']? = H[b']? := fun b' hne => by rw [List.getElem?_set_ne (Ne.symm hne)]
  have hset0 : (H.set b (.row e sz (n + m)))[b]? = some (.row e sz (n + m)) := by simp [hlt]
  let L := cur.toList.take (n * sz) ++ news
  let σ1 : Sg := σ.putM g L (n * sz)
  have hM1 : ∀ a v, σ.M a = some v → σ1.M a = some v := fun a v hv => by
    show (σ.putM g L (n * sz)).M a = some v
    rw [putM_out (fun e => by have := h6 a e.1 e.2.2.1; rw [this] at hv; cases hv)]; exact hv
  have hle : σ.le (σ1.putφ b (n + m) (.slice (some ⟨g, 0, none⟩) (n + m) cap)) :=
    (⟨hM1, fun _ _ _ h => h⟩ : σ.le σ1).trans (Sg.putφ_le (h3 _ (by omega)))
  have hLM : ∀ j u, L[j]? = some u → σ1.M ⟨g, j, none⟩ = some u := fun j u hj => by
    by_cases hjn : n * sz ≤ j
    · exact putM_in hjn hj
    · refine hM1 _ _ (h5 j u ?_)
      rw [← hxs]
      rw [List.getElem?_append_left (by rw [htl]; omega)] at hj
      exact hj
  have hnew : ∀ j, j < (n + m) * sz → (cur.toList.take (n * sz) ++ news ++ cur.toList.drop (n * sz + news.length))[j]? = L[j]? := fun j hj => by
    rw [List.getElem?_append_left (by rw [hnewl]; exact hj)]
  refine ⟨σ1.putφ b (n + m) (.slice (some ⟨g, 0, none⟩) (n + m) cap), ⟨hle, rfl, rfl, rfl, by simp, fun k hk hf => setRow_other w g k _ (fun e => hf ?_), ?_, fun a ha => .inl ?_, fun b' hd => dead_set hd hb (by simp) (fun n hne => Sg.putφ_other _ _ _ _ _ hne)⟩, ?_, Sg.putφ_same .., hLM⟩
  · subst e; exact ⟨b, _, _, hb, rfl, hφ, by simp [conc, hnz]⟩
  · rintro k ⟨b', blk, v, hb', hl', hφ', hc⟩
    by_cases eb : b' = b
    · subst eb
      rw [hset0] at hb'; cases hb'
      rw [show ABlk.ver (.row e sz (n + m)) = n + m from rfl, Sg.putφ_same] at hφ'
      cases hφ'
      exact .inl ⟨b', _, _, hb, rfl, hφ, by simpa [conc, hnz] using hc⟩
    · rw [hset b' eb] at hb'
      rw [Sg.putφ_other _ _ _ _ _ eb] at hφ'
      exact .inl ⟨b', blk, v, hb', hl', hφ', hc⟩
  · by_cases e : a.block = g
    · rw [e]; exact ⟨b, _, _, hb, rfl, hφ, by simp [conc, hnz]⟩
    · exact absurd (show (σ.putM g L (n * sz)).M a = σ.M a from putM_out (fun e' => e e'.1)) ha
  · refine h.turn hle b (.row e sz (n + m)) hset hset0 (by simp) (fun b' k hb' => Sg.putφ_other _ _ _ _ _ hb') ⟨fun a v hm => ?_, h.mem.gl.mono hM1, h.mem.sz.to fun t0 ht0 c e' f hc => ?_⟩ ?_ ?_
    rotate_left
    · by_cases e2 : t0.1 = g
      · rw [e2] at hc ⊢
        rw [hg] at hc; cases hc
        refine ⟨_, _, _, setRow_heap w g cur _ e _ hg, ?_⟩
        simp only [List.size_toArray, List.length_append, List.length_take, List.length_drop, Array.length_toList]
        rw [List.length_take, Array.length_toList] at htl
        omega
      · exact ⟨c, e', f, by rw [setRow_other w g _ _ e2]; exact hc, rfl⟩
    rotate_right
    · rcases putM_some (show (σ.putM g L (n * sz)).M a = some v from hm) with ⟨h7, h8, _, h10⟩ | h7
      · have hj : a.off < (n + m) * sz := by
          rw [← hnewl]
          rcases Nat.lt_or_ge a.off L.length with hl | hl
          · exact hl
          · rw [List.getElem?_eq_none hl] at h10; cases h10
        simp only [World.cell?, h7, setRow_heap w g cur _ e _ hg, h8, Option.isSome_none, Bool.false_eq_true, if_false]
        rw [List.getElem?_toArray, hnew _ hj]; exact h10
      · by_cases hag : a.block = g
        · have hlt' : a.off < n * sz := by
            rcases Nat.lt_or_ge a.off (n * sz) with hl | hl
            · exact hl
            · rw [h6 a hag hl] at h7; cases h7
          have hc := h.mem a v h7
          simp only [World.cell?, hag, setRow_heap w g cur _ e _ hg]
          simp only [World.cell?, hag, hg] at hc
          split at hc
          · cases hc
          · rename_i hsp
            rw [if_neg hsp, List.getElem?_toArray, hnew _ (by rw [Nat.add_mul]; omega), List.getElem?_append_left (by rw [htl]; exact hlt'), List.getElem?_take, if_pos hlt']
            simpa using hc
        · rw [cell_setRow_other w g _ a hag]
          exact h.mem a v h7
    · refine ⟨_, L, Sg.putφ_same .., .inr ⟨g, cap, _, hcap, rfl, setRow_heap w g cur _ e _ hg, hnm, hcm, ?_, ?_⟩, fun k hk => ?_, fun g' hg' => ?_⟩
      · simp only [List.size_toArray, List.length_append, htl, List.length_drop, Array.length_toList, hsz]
        omega
      · simp only
        rw [← hnewl]
        exact List.take_left
      · rw [Sg.putφ_ver _ _ _ _ (by omega)]; exact h3 k (by omega)
      · simp [conc, hnz] at hg'
        subst hg'
        refine ⟨hLM, fun a ha ho => ?_⟩
        show (σ.putM g L (n * sz)).M a = none
        rw [putM_out (fun e => by have := e.2.2.2; rw [show L.length = _ from hnewl] at this; omega)]
        exact h6 a ha (by rw [Nat.add_mul] at ho; omega)
    · intro b' k v g' hne hk hl' hφ' hc
      have hgg : g' ≠ g := fun e => hne (h.inj b' b k _ v _ g' hk hb hl' rfl hφ' hφ hc (by simp [conc, hnz, e]))
      refine ⟨setRow_other w g g' _ hgg, fun a ha => ?_, fun v0 _ hv0 => ?_⟩
      · show (σ.putM g L (n * sz)).M a = _
        exact putM_out (fun e => hgg (ha.symm.trans e.1))
      · rw [show ABlk.ver (.row e sz (n + m)) = n + m from rfl, Sg.putφ_same] at hv0
        cases hv0
        simp [conc, hnz]; exact fun e => hgg e.symm

end Go.Proofs.YtmgmoamcbnkbfaaGreatDoor
