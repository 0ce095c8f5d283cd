/-
  One's own library, part 3: what each change of memory does to the abstract heap.
-/
import Derived.Test.YtalhmnijkkihgaaLang
namespace Go.Proofs.Ytalhmnijkkihgaa
set_option linter.unusedVariables false
set_option linter.unusedSimpArgs false
set_option linter.unusedSectionVars false
open Go.RowKit

theorem BR.keep {σ σ' : Sg} {w w' : World} {b : Nat} {k : ABlk} (h : BR σ w b k) (hle : σ.le σ') (hφ : ∀ n, σ'.φ b n = σ.φ b n)
    (hg : ∀ v g, k.live = true → σ.φ b k.ver = some v → conc v = some g → w'.heap[g]? = w.heap[g]? ∧ ∀ a : Addr, a.block = g → σ'.M a = σ.M a) : BR σ' w' b k := by
  cases k with
  | free => exact fun n => (hφ n).trans (h n)
  | dead => trivial
  | cells cs =>
    rcases h with ⟨g, vs, t, h1, h1', h2, h3, h4⟩ | ⟨h0, v, h1, h2⟩
    · obtain ⟨e1, e2⟩ := hg _ g rfl h1 rfl
      exact .inl ⟨g, vs, t, (hφ 0).trans h1, (hφ 1).trans h1', e1.trans h2, h3.mono hle, fun a ha => (e2 a ha).trans (h4 a ha)⟩
    · exact .inr ⟨h0, v, (hφ 0).trans h1, h2⟩
  | row e sz n =>
    obtain ⟨v, xs, h1, h2, h3, h4⟩ := h
    refine ⟨v, xs, (hφ n).trans h1, ?_, fun m hm => (hφ m).trans (h3 m hm), fun g hc => ?_⟩
    · rcases h2 with h2 | ⟨g, cap, cur, hcap, rfl, hh, r⟩
      · exact .inl h2
      · exact .inr ⟨g, cap, cur, hcap, rfl, ((hg _ g rfl h1 (by simp [conc]; omega)).1).trans hh, r⟩
    · obtain ⟨e1, e2⟩ := hg _ g rfl h1 hc
      obtain ⟨h5, h6⟩ := h4 g hc
      exact ⟨fun j u hj => (e2 _ rfl).trans (h5 j u hj), fun a ha hn => (e2 a ha).trans (h6 a ha hn)⟩
  | map kt ck es =>
    obtain ⟨g, ms, h1, h2, h3, r⟩ := h
    exact ⟨g, ms, (hφ 0).trans h1, ((hg _ g rfl h1 rfl).1).trans h2, h3.mono hle, r⟩

theorem lt_of_heap {w : World} {g : Nat} {o : Obj} (h : w.heap[g]? = some o) : g < w.heap.size := (Array.getElem?_eq_some_iff.1 h).1

/-- A live block lies in the concrete heap. -/
theorem BR.lt {σ : Sg} {w : World} {b : Nat} {k : ABlk} (h : BR σ w b k) {v : Value} {g : Nat} (hl : k.live = true) (hv : σ.φ b k.ver = some v) (hc : conc v = some g) : g < w.heap.size := by
  cases k with
  | free => cases hl
  | dead => cases hl
  | cells cs =>
    rcases h with ⟨g', vs, t, h1, _, h2, _⟩ | ⟨_, v', h1, h2⟩
    · rw [show ABlk.ver (.cells cs) = 0 from rfl, h1] at hv; cases hv
      simp [conc] at hc; subst hc; exact lt_of_heap h2
    · rw [show ABlk.ver (.cells cs) = 0 from rfl, h1] at hv; cases hv
      rw [h2] at hc; cases hc
  | row e sz n =>
    obtain ⟨v', xs, h1, h2, _⟩ := h
    rw [show ABlk.ver (.row e sz n) = n from rfl, h1] at hv; cases hv
    rcases h2 with ⟨_, _, a, rfl⟩ | ⟨g', cap, cur, hcap, rfl, hh, _⟩
    · cases a <;> simp [conc] at hc
    · simp [conc] at hc; obtain ⟨_, rfl⟩ := hc; exact lt_of_heap hh
  | map kt ck es =>
    obtain ⟨g', ms, h1, h2, _⟩ := h
    rw [show ABlk.ver (.map kt ck es) = 0 from rfl, h1] at hv; cases hv
    simp [conc] at hc; subst hc; exact lt_of_heap h2

theorem BR.has {σ : Sg} {w : World} {b : Nat} {k : ABlk} (h : BR σ w b k) (hl : k.live = true) : ∃ v, σ.φ b k.ver = some v := by
  cases k with
  | free => cases hl
  | dead => cases hl
  | cells cs =>
    rcases h with ⟨g', vs, t, h1, _⟩ | ⟨_, v', h1, _⟩
    · exact ⟨_, h1⟩
    · exact ⟨_, h1⟩
  | row e sz n => obtain ⟨v', xs, h1, _⟩ := h; exact ⟨_, h1⟩
  | map kt ck es => obtain ⟨g', ms, h1, _⟩ := h; exact ⟨_, h1⟩

/-- ONE BLOCK TURNS (or comes anew), the others stay. -/
theorem HR.turn {σ σ' : Sg} {H H' : List ABlk} {w w' : World} (h : HR σ H w) (hle : σ.le σ') (b0 : Nat) (blk0 : ABlk)
    (hH : ∀ b, b ≠ b0 → H'[b]? = H[b]?) (hH0 : H'[b0]? = some blk0) (hlen : H.length ≤ H'.length)
    (hφ : ∀ b n, b ≠ b0 → σ'.φ b n = σ.φ b n)
    (hmem : ∀ a v, σ'.M a = some v → w'.cell? a = some v) (hB : BR σ' w' b0 blk0)
    (hoth : ∀ b k v g, b ≠ b0 → H[b]? = some k → k.live = true → σ.φ b k.ver = some v → conc v = some g →
      w'.heap[g]? = w.heap[g]? ∧ (∀ a : Addr, a.block = g → σ'.M a = σ.M a) ∧ (∀ v0, blk0.live = true → σ'.φ b0 blk0.ver = some v0 → conc v0 ≠ some g)) :
    HR σ' H' w' := by
  refine ⟨hmem, fun b k hb => ?_, fun b n hb => ?_, ?_⟩
  · by_cases e : b = b0
    · subst e; rw [hH0] at hb; cases hb; exact hB
    · rw [hH b e] at hb
      exact (h.blk b k hb).keep hle (fun n => hφ b n e) fun v g hl hv hc => ⟨(hoth b k v g e hb hl hv hc).1, (hoth b k v g e hb hl hv hc).2.1⟩
  · have hne : b ≠ b0 := by
      rintro rfl
      rw [List.getElem?_eq_none hb] at hH0; cases hH0
    rw [hφ b n hne]
    exact h.fresh b n (by omega)
  · intro b b' k k' v v' g hb hb' hl hl' hv hv' hc hc'
    by_cases e : b = b0
    · by_cases e' : b' = b0
      · rw [e, e']
      · subst e
        rw [hH0] at hb; cases hb
        rw [hH b' e'] at hb'
        rw [hφ b' _ e'] at hv'
        exact absurd hc ((hoth b' k' v' g e' hb' hl' hv' hc').2.2 v hl hv)
    · rw [hH b e] at hb
      rw [hφ b _ e] at hv
      by_cases e' : b' = b0
      · subst e'
        rw [hH0] at hb'; cases hb'
        exact absurd hc' ((hoth b k v g e hb hl hv hc).2.2 v' hl' hv')
      · rw [hH b' e'] at hb'
        rw [hφ b' _ e'] at hv'
        exact h.inj b b' k k' v v' g hb hb' hl hl' hv hv' hc hc'

/-- φ with one entry more. -/
def Sg.putφ (σ : Sg) (b n : Nat) (v : Value) : Sg := { σ with φ := fun b' n' => if b' = b ∧ n' = n then some v else σ.φ b' n' }
theorem Sg.putφ_le {σ : Sg} {b n : Nat} {v : Value} (h : σ.φ b n = none) : σ.le (σ.putφ b n v) :=
  ⟨fun _ _ h => h, fun b' n' v' h' => by
    unfold Sg.putφ
    simp only
    split
    · rename_i e; rw [e.1, e.2, h] at h'; cases h'
    · exact h'⟩
theorem Sg.putφ_same (σ : Sg) (b n : Nat) (v : Value) : (σ.putφ b n v).φ b n = some v := by simp [Sg.putφ]
theorem Sg.putφ_other (σ : Sg) (b n : Nat) (v : Value) {b' : Nat} (n' : Nat) (h : b' ≠ b) : (σ.putφ b n v).φ b' n' = σ.φ b' n' := by simp [Sg.putφ, h]
theorem Sg.putφ_ver (σ : Sg) (b n : Nat) (v : Value) {n' : Nat} (h : n' ≠ n) : (σ.putφ b n v).φ b n' = σ.φ b n' := by simp [Sg.putφ, h]
@[simp] theorem Sg.putφ_M (σ : Sg) (b n : Nat) (v : Value) : (σ.putφ b n v).M = σ.M := rfl

/-- M with more cells. -/
def Sg.putM (σ : Sg) (g : Nat) (vs : List Value) (from_ : Nat) : Sg :=
  { σ with M := fun a => if a.block = g ∧ a.spot = none ∧ from_ ≤ a.off ∧ a.off < vs.length then vs[a.off]? else σ.M a }

theorem alloc_heap_new (w : World) (o : Obj) : (w.alloc o).heap[w.heap.size]? = some o := by
  show (w.heap.push o)[w.heap.size]? = some o
  simp
theorem alloc_heap_old (w : World) (o : Obj) {k : Nat} (h : k < w.heap.size) : (w.alloc o).heap[k]? = w.heap[k]? := by
  show (w.heap.push o)[k]? = _
  simp [Array.getElem?_push, Nat.ne_of_lt h]
theorem alloc_size (w : World) (o : Obj) : (w.alloc o).heap.size = w.heap.size + 1 := by
  show (w.heap.push o).size = _
  simp

theorem HR.Mlt {σ : Sg} {H : List ABlk} {w : World} (h : HR σ H w) {a : Addr} {v : Value} (hm : σ.M a = some v) : a.block < w.heap.size :=
  World.block_lt_of_cell? w a (h.mem a v hm)

theorem HR.mem_alloc {σ : Sg} {H : List ABlk} {w : World} (h : HR σ H w) (o : Obj) (a : Addr) (v : Value) (hm : σ.M a = some v) : (w.alloc o).cell? a = some v := by
  rw [World.cell?_alloc_lt w o a (h.Mlt hm)]
  exact h.mem a v hm

theorem getElem?_concat_ne {α : Type} (H : List α) (x : α) {b : Nat} (h : b ≠ H.length) : (H ++ [x])[b]? = H[b]? := by
  rw [List.getElem?_append]
  split
  · rfl
  · rename_i hb
    have h1 : ([x] : List α).length ≤ b - H.length := by simp; omega
    rw [List.getElem?_eq_none h1, List.getElem?_eq_none (by omega)]

theorem dead_concat {H : List ABlk} {x : ABlk} {b : Nat} {φ φ' : Nat → Nat → Option Value} (hb : H[b]? = some .dead) (h : ∀ n, b ≠ H.length → φ' b n = φ b n) :
    (H ++ [x])[b]? = some .dead ∧ ∀ n, φ' b n = φ b n := by
  have hlt : b < H.length := (List.getElem?_eq_some_iff.1 hb).1
  exact ⟨by rw [List.getElem?_append_left hlt]; exact hb, fun n => h n (by omega)⟩
theorem dead_set {H : List ABlk} {x k : ABlk} {b b0 : Nat} {φ φ' : Nat → Nat → Option Value} (hb : H[b]? = some .dead) (h0 : H[b0]? = some k) (hk : k ≠ .dead) (h : ∀ n, b ≠ b0 → φ' b n = φ b n) :
    (H.set b0 x)[b]? = some .dead ∧ ∀ n, φ' b n = φ b n := by
  have hne : b ≠ b0 := fun e => by subst e; rw [hb] at h0; cases h0; exact hk rfl
  exact ⟨by rw [List.getElem?_set_ne (Ne.symm hne)]; exact hb, fun n => h n hne⟩

/-- ONE BLOCK OF CELLS, new or moved: where it lies is told, and what it held before is no more. -/
theorem HR.placeAt {σ : Sg} {H : List ABlk} {w : World} (h : HR σ H w) (g : Nat) (t : TypeId) (w' : World) {cs : List AV} {vs : Array Value} (hos : w'.os = w.os) (htp : w'.tape = w.tape) (hout : w'.output = w.output) (hsize : w.heap.size ≤ w'.heap.size)
    (hg : w'.heap[g]? = some (.cells vs t (0, 0))) (hfr : ∀ k, k ≠ g → k < w.heap.size → w'.heap[k]? = w.heap[k]?) (hM : ∀ a : Addr, a.block = g → σ.M a = none)
    (hnf : ∀ b k v, H[b]? = some k → k.live = true → σ.φ b k.ver = some v → conc v ≠ some g) (H0 : List ABlk) (hfoot : foot σ H0 g ∨ w.heap.size ≤ g) (hH0 : ∀ k, foot σ H k → foot σ H0 k)
    (hdead : ∀ b : Nat, H0[b]? = some .dead → H[b]? = some .dead) (hlen : H0.length = H.length) (hv : VRs σ cs (vs.toList.take cs.length)) :
    ∃ σ', Ext σ H0 w σ' (H ++ [.cells cs]) w' ∧ HR σ' (H ++ [.cells cs]) w' ∧ VR σ' (.ptr H.length 0) (.pointer (some ⟨g, 0, none⟩)) ∧
      σ'.φ H.length 0 = some (.pointer (some ⟨g, 0, none⟩)) ∧ σ'.φ H.length 1 = some (.int .i64 vs.size) := by
  have hnew : ∀ n, σ.φ H.length n = none := fun n => h.fresh _ _ (Nat.le_refl _)
  let σ1 := σ.putφ H.length 0 (.pointer (some ⟨g, 0, none⟩))
  have hn1 : σ1.φ H.length 1 = none := by rw [Sg.putφ_ver _ _ _ _ (by omega)]; exact hnew 1
  have hle : σ.le (σ1.putφ H.length 1 (.int .i64 vs.size)) := (Sg.putφ_le (hnew 0)).trans (Sg.putφ_le hn1)
  have p0 : (σ1.putφ H.length 1 (.int .i64 vs.size)).φ H.length 0 = some (.pointer (some ⟨g, 0, none⟩)) := by rw [Sg.putφ_ver _ _ _ _ (by omega)]; exact Sg.putφ_same ..
  have p1 : (σ1.putφ H.length 1 (.int .i64 vs.size)).φ H.length 1 = some (.int .i64 vs.size) := Sg.putφ_same ..
  have po : ∀ b n, b ≠ H.length → (σ1.putφ H.length 1 (.int .i64 vs.size)).φ b n = σ.φ b n := fun b n hb => by rw [Sg.putφ_other _ _ _ _ _ hb, Sg.putφ_other _ _ _ _ _ hb]
  refine ⟨σ1.putφ H.length 1 (.int .i64 vs.size), ?_, ?_, .ptr p0, p0, p1⟩
  · refine ⟨hle, hos, htp, hout, hsize, fun k hk hf => hfr k (fun e => ?_) hk, ?_, fun _ h => absurd rfl h, fun b hb => ?_⟩
    · subst e
      rcases hfoot with hf' | hf'
      · exact hf hf'
      · omega
    · rintro k ⟨b, blk, v, hb, hl, hφ, hc⟩
      by_cases e : b = H.length
      · subst e
        simp at hb; subst hb
        rw [show ABlk.ver (.cells cs) = 0 from rfl, p0] at hφ
        cases hφ
        simp [conc] at hc
        subst hc
        exact hfoot
      · rw [getElem?_concat_ne H _ e] at hb
        rw [po _ _ e] at hφ
        exact .inl (hH0 k ⟨b, blk, v, hb, hl, hφ, hc⟩)
    · have hb' := hdead b hb
      exact dead_concat hb' (fun n h => po _ _ h)
  · refine h.turn hle H.length (.cells cs) (fun b hb => getElem?_concat_ne H _ hb) (by simp) (by simp) (fun b n hb => po _ _ hb)
      (fun a v hm => ?_) ?_ ?_
    · have hm0 : σ.M a = some v := hm
      have hne : a.block ≠ g := fun e => by rw [hM a e] at hm0; cases hm0
      have hm' := h.mem a v hm
      have hlt := h.Mlt hm
      simp only [World.cell?, hfr _ hne hlt] at hm' ⊢
      exact hm'
    · exact .inl ⟨g, vs, t, p0, p1, hg, hv.mono hle, hM⟩
    · intro b k v g' hb hk hl hv' hc
      have hlt := (h.blk b k hk).lt hl hv' hc
      have hne : g' ≠ g := fun e => hnf b k v hk hl hv' (by rw [hc, e])
      refine ⟨hfr _ hne hlt, fun _ _ => rfl, fun v0 _ hv0 => ?_⟩
      rw [show ABlk.ver (.cells cs) = 0 from rfl, p0] at hv0
      cases hv0
      simp [conc]; exact fun e => hne e.symm

/-- A NEW BLOCK OF THE CALL's OWN: cells that may be written. -/
theorem HR.allocP {σ : Sg} {H : List ABlk} {w : World} (h : HR σ H w) (t : TypeId) {cs : List AV} {vs : Array Value} (hv : VRs σ cs (vs.toList.take cs.length)) :
    ∃ σ', Ext σ H w σ' (H ++ [.cells cs]) (w.alloc (.cells vs t)) ∧ HR σ' (H ++ [.cells cs]) (w.alloc (.cells vs t)) ∧ VR σ' (.ptr H.length 0) (.pointer (some ⟨w.heap.size, 0, none⟩)) ∧
      σ'.φ H.length 0 = some (.pointer (some ⟨w.heap.size, 0, none⟩)) ∧ σ'.φ H.length 1 = some (.int .i64 vs.size) := by
  refine h.placeAt w.heap.size t (w.alloc (.cells vs t)) rfl rfl rfl (by simp) (alloc_heap_new w _) (fun k _ hk => alloc_heap_old w _ hk) (fun a ha => ?_) (fun b k v hb hl hv' hc => ?_) H (.inr (Nat.le_refl _)) (fun _ h => h) (fun _ h => h) rfl hv
  · cases hm : σ.M a with
    | none => rfl
    | some v => have := h.Mlt hm; omega
  · have := (h.blk b k hb).lt hl hv' hc; omega

theorem HR.alloc {σ : Sg} {H : List ABlk} {w : World} (h : HR σ H w) (t : TypeId) {cs : List AV} {vs : Array Value} (hv : VRs σ cs vs.toList) :
    ∃ σ', Ext σ H w σ' (H ++ [.cells cs]) (w.alloc (.cells vs t)) ∧ HR σ' (H ++ [.cells cs]) (w.alloc (.cells vs t)) ∧ VR σ' (.ptr H.length 0) (.pointer (some ⟨w.heap.size, 0, none⟩)) ∧
      σ'.φ H.length 0 = some (.pointer (some ⟨w.heap.size, 0, none⟩)) ∧ σ'.φ H.length 1 = some (.int .i64 vs.size) := h.allocP t hv.pre

/-- A block without cells, that lies nowhere. -/
theorem HR.place0 {σ : Sg} {H : List ABlk} {w : World} (h : HR σ H w) (v : Value) (hc : conc v = none) :
    ∃ σ', Ext σ H w σ' (H ++ [.cells []]) w ∧ HR σ' (H ++ [.cells []]) w ∧ σ'.φ H.length 0 = some v := by
  have hnew : ∀ n, σ.φ H.length n = none := fun n => h.fresh _ _ (Nat.le_refl _)
  have hle := Sg.putφ_le (v := v) (hnew 0)
  refine ⟨σ.putφ H.length 0 v, ⟨hle, rfl, rfl, rfl, Nat.le_refl _, fun _ _ _ => rfl, ?_, fun _ h => absurd rfl h, fun b hb => dead_concat hb (fun n hne => Sg.putφ_other _ _ _ _ _ hne)⟩, ?_, Sg.putφ_same ..⟩
  · rintro k ⟨b', blk, v', hb, hl, hφ, hc'⟩
    by_cases e' : b' = H.length
    · subst e'
      simp at hb; subst hb
      rw [show ABlk.ver (.cells []) = 0 from rfl, Sg.putφ_same] at hφ
      cases hφ
      rw [hc] at hc'; cases hc'
    · rw [getElem?_concat_ne H _ e'] at hb
      rw [Sg.putφ_other _ _ _ _ _ e'] at hφ
      exact .inl ⟨b', blk, v', hb, hl, hφ, hc'⟩
  · refine h.turn hle H.length (.cells []) (fun b hb => getElem?_concat_ne H _ hb) (by simp) (by simp) (fun b n hb => Sg.putφ_other _ _ _ _ _ hb) h.mem
      (.inr ⟨rfl, v, Sg.putφ_same .., hc⟩) fun b' k v' g hb hk hl hv hcv => ⟨rfl, fun _ _ => rfl, fun v0 _ hv0 => ?_⟩
    rw [show ABlk.ver (.cells []) = 0 from rfl, Sg.putφ_same] at hv0
    cases hv0
    rw [hc]; simp

/-- A block that is let go. -/
theorem HR.die {σ : Sg} {H : List ABlk} {w : World} (h : HR σ H w) (b0 : Nat) (hl0 : b0 < H.length) : HR σ (H.set b0 .dead) w := by
  have hset : ∀ b, b ≠ b0 → (H.set b0 .dead)[b]? = H[b]? := fun b hne => by rw [List.getElem?_set_ne (Ne.symm hne)]
  refine h.turn (.refl σ) b0 .dead hset (by simp [hl0]) (by simp) (fun _ _ _ => rfl) h.mem trivial fun b k v g hb hk hl hv hc => ⟨rfl, fun _ _ => rfl, fun v0 hd => by cases hd⟩
theorem foot_die {σ : Sg} {H : List ABlk} {b0 k : Nat} (h : foot σ (H.set b0 .dead) k) : foot σ H k := by
  obtain ⟨b, blk, v, hb, hl, hφ, hc⟩ := h
  by_cases e : b = b0
  · subst e
    rw [List.getElem?_set] at hb
    simp only [if_true] at hb
    split at hb
    · cases hb; cases hl
    · cases hb
  · rw [List.getElem?_set_ne (Ne.symm e)] at hb
    exact ⟨b, blk, v, hb, hl, hφ, hc⟩
/-- NEW CELLS THAT NEVER CHANGE ANY MORE. -/
theorem HR.allocMF {σ : Sg} {H : List ABlk} {w : World} (h : HR σ H w) (t : TypeId) (vs : Array Value) (fr : Nat × Nat) :
    ∃ σ', Ext σ H w σ' H (w.alloc (.cells vs t fr)) ∧ HR σ' H (w.alloc (.cells vs t fr)) ∧ (∀ j u, vs[j]? = some u → σ'.M ⟨w.heap.size, j, none⟩ = some u) ∧ σ'.φ = σ.φ := by
  have hnoM : ∀ a : Addr, a.block = w.heap.size → σ.M a = none := fun a ha => by
    cases hm : σ.M a with
    | none => rfl
    | some v => have := h.Mlt hm; omega
  let σ' : Sg := { σ with M := fun a => if a.block = w.heap.size ∧ a.spot = none then vs[a.off]? else σ.M a }
  have hle : σ.le σ' := ⟨fun a v hm => by
    show (if a.block = w.heap.size ∧ a.spot = none then vs[a.off]? else σ.M a) = some v
    rw [if_neg (fun e => by have := h.Mlt hm; omega)]
    exact hm, fun _ _ _ h => h⟩
  have hsame : ∀ a : Addr, a.block ≠ w.heap.size → σ'.M a = σ.M a := fun a ha => if_neg (fun e => ha e.1)
  refine ⟨σ', ⟨hle, rfl, rfl, rfl, by simp, fun k hk _ => alloc_heap_old w _ hk, fun k hk => .inl hk, fun a ha => .inr (by
    rcases Nat.lt_or_ge a.block w.heap.size with hl | hl
    · exact absurd (hsame a (by omega)) ha
    · exact hl), fun _ h => ⟨h, fun _ => rfl⟩⟩, ⟨fun a v hm => ?_, fun b k hb => ?_, h.fresh, h.inj⟩, fun j u hj => ?_, rfl⟩
  · by_cases e : a.block = w.heap.size ∧ a.spot = none
    · have hm' : vs[a.off]? = some v := by
        have : σ'.M a = vs[a.off]? := if_pos e
        rw [this] at hm; exact hm
      simp only [World.cell?, e.1, alloc_heap_new, e.2, Option.isSome_none, Bool.false_eq_true, if_false]
      exact hm'
    · have : σ'.M a = σ.M a := if_neg e
      rw [this] at hm
      exact h.mem_alloc _ a v hm
  · refine (h.blk b k hb).keep hle (fun _ => rfl) fun v g hl hv hc => ?_
    have hlt := (h.blk b k hb).lt hl hv hc
    exact ⟨alloc_heap_old w _ hlt, fun a ha => hsame a (by omega)⟩
  · exact (if_pos ⟨rfl, rfl⟩ : σ'.M ⟨w.heap.size, j, none⟩ = vs[j]?).trans hj

theorem HR.allocM {σ : Sg} {H : List ABlk} {w : World} (h : HR σ H w) (t : TypeId) (vs : Array Value) :
    ∃ σ', Ext σ H w σ' H (w.alloc (.cells vs t)) ∧ HR σ' H (w.alloc (.cells vs t)) ∧ (∀ j u, vs[j]? = some u → σ'.M ⟨w.heap.size, j, none⟩ = some u) ∧ σ'.φ = σ.φ := h.allocMF t vs (0, 0)

end Go.Proofs.Ytalhmnijkkihgaa
