/-
  One's own library, part 8b: regions that draw their order: whatever order comes up, the end is the same.
-/
import Derived.Test.YtmgmoamcbnkbfaaGreatDoorYDraw
set_option linter.unusedVariables false
set_option linter.unusedSimpArgs false
set_option linter.unusedSectionVars false
namespace Go.Proofs.YtmgmoamcbnkbfaaGreatDoor
open Go.RowKit

structure Lex (P : Program) (pr ws U : List (List Nat)) (l : List Ins) (s : List AV) (H : List ABlk) (st : Nat → List AV) (Hs : Nat → List ABlk) (v : Nat → AV) : Prop where
  st0 : st 0 = s
  H0 : Hs 0 = H
  stn : ∀ k i, l[k]? = some i → st (k + 1) = setO (st k) i.dst (v k)
  fr : ∀ k b, k < l.length → b ∉ ws.getD k [] → (Hs (k + 1))[b]? = (Hs k)[b]?
  len : ∀ k, k < l.length → (Hs k).length ≤ (Hs (k + 1)).length
  wsU : ∀ k, k < l.length → ∀ b ∈ ws.getD k [], b ∉ U.getD k [] ∧ H[b]? ≠ some .dead
  ok : drawOk pr l = true
  kU : (List.range l.length).map (killsOf pr ws l.length) = U

section
variable {P : Program} {pr ws U : List (List Nat)} {l : List Ins} {s : List AV} {H : List ABlk} {st : Nat → List AV} {Hs : Nat → List ABlk} {v : Nat → AV}

theorem Lex.pred (X : Lex P pr ws U l s H st Hs v) {j i : Nat} (hj : j < l.length) (hi : i ∈ pr.getD j []) : i < j := by
  have := X.ok
  simp only [drawOk, List.all_eq_true, List.mem_range, Bool.and_eq_true, decide_eq_true_eq] at this
  exact (this j hj).1 i hi
theorem Lex.anc_lt (X : Lex P pr ws U l s H st Hs v) {j k : Nat} (h : Reach pr j k) (hj : j < l.length) : k < j := by
  induction h with
  | one h => exact X.pred hj h
  | more h _ ih => have h1 := X.pred hj h; have := ih (by omega); omega
theorem Lex.slots (X : Lex P pr ws U l s H st Hs v) {i j : Nat} (hj : j < l.length) (hij : i < j) : i ∈ ancOf pr j ∨
    ((∀ d, wrOf l i = some d → d ∉ rdOf l j ∧ wrOf l j ≠ some d) ∧ ∀ d, wrOf l j = some d → d ∉ rdOf l i) := by
  have := X.ok
  simp only [drawOk, List.all_eq_true, List.mem_range, Bool.and_eq_true] at this
  have h := (this j hj).2 i hij
  simp only [Bool.or_eq_true, List.contains_iff_mem, Bool.and_eq_true] at h
  rcases h with h | ⟨h1, h2⟩
  · exact .inl h
  · refine .inr ⟨fun d hd => ?_, fun d hd => ?_⟩
    · rw [hd] at h1
      simpa using h1
    · rw [hd] at h2
      simpa using h2
theorem Lex.uns (X : Lex P pr ws U l s H st Hs v) {i j b : Nat} (hi : i < l.length) (hj : j < l.length) (hne : i ≠ j) (h1 : i ∉ ancOf pr j) (h2 : j ∉ ancOf pr i) (hb : b ∈ ws.getD i []) : b ∈ U.getD j [] := by
  rw [← X.kU]
  simp only [List.getD_eq_getElem?_getD, List.getElem?_map, List.getElem?_range hj, Option.map_some, Option.getD_some, killsOf, List.mem_flatMap, List.mem_range]
  refine ⟨i, hi, ?_⟩
  have e1 : (i == j) = false := by simpa using hne
  have e2 : ((anc pr).getD j []).contains i = false := by simpa [ancOf] using h1
  have e3 : ((anc pr).getD i []).contains j = false := by simpa [ancOf] using h2
  simp only [List.getD_eq_getElem?_getD] at e2 e3
  simp only [e1, e2, e3, Bool.or_false, Bool.false_eq_true, if_false]
  simpa using hb
theorem Lex.mono (X : Lex P pr ws U l s H st Hs v) : ∀ {k m : Nat}, k ≤ m → m ≤ l.length → (Hs k).length ≤ (Hs m).length := by
  intro k m hkm hm
  induction m with
  | zero => have : k = 0 := by omega
            subst this; exact Nat.le_refl _
  | succ m ih =>
    rcases Nat.lt_or_ge k (m + 1) with h | h
    · exact Nat.le_trans (ih (by omega) (by omega)) (X.len m (by omega))
    · have : k = m + 1 := by omega
      subst this; exact Nat.le_refl _

/-- What stands at a name, when the operations in L have come up. -/
def At (ws : List (List Nat)) (H : List ABlk) (Hs : Nat → List ABlk) (L : Nat → Prop) (b : Nat) (blk : ABlk) (m : Nat) : Prop :=
  (∃ k, L k ∧ b ∈ ws.getD k [] ∧ (∀ k', L k' → b ∈ ws.getD k' [] → k' ≤ k) ∧ (Hs (k + 1))[b]? = some blk ∧ m = (Hs (k + 1)).length) ∨ ((∀ k, L k → b ∉ ws.getD k []) ∧ H[b]? = some blk ∧ m = H.length)
theorem At.lt {L : Nat → Prop} {b : Nat} {blk : ABlk} {m : Nat} (h : At ws H Hs L b blk m) : b < m := by
  rcases h with ⟨k, _, _, _, h, rfl⟩ | ⟨_, h, rfl⟩ <;> exact (List.getElem?_eq_some_iff.1 h).1
theorem At.uniq {L : Nat → Prop} {b : Nat} {blk blk' : ABlk} {m m' : Nat} (h : At ws H Hs L b blk m) (h' : At ws H Hs L b blk' m') : blk = blk' ∧ m = m' := by
  rcases h with ⟨k, a1, a2, a3, a4, rfl⟩ | ⟨a1, a2, rfl⟩ <;> rcases h' with ⟨k', b1, b2, b3, b4, rfl⟩ | ⟨b1, b2, rfl⟩
  · have : k = k' := Nat.le_antisymm (b3 k a1 a2) (a3 k' b1 b2)
    subst this
    rw [a4] at b4; cases b4
    exact ⟨rfl, rfl⟩
  · exact absurd a2 (b1 k a1)
  · exact absurd b2 (a1 k' b1)
  · rw [a2] at b2; cases b2; exact ⟨rfl, rfl⟩
/-- In the text's own order. -/
theorem Lex.hist (X : Lex P pr ws U l s H st Hs v) {b : Nat} : ∀ {j : Nat}, j ≤ l.length → ∀ {blk : ABlk}, (Hs j)[b]? = some blk → ∃ m, m ≤ (Hs j).length ∧ At ws H Hs (· < j) b blk m := by
  intro j
  induction j with
  | zero => intro _ blk h; rw [X.H0] at h; exact ⟨H.length, by rw [X.H0]; exact Nat.le_refl _, .inr ⟨fun k hk => by omega, h, rfl⟩⟩
  | succ j ih =>
    intro hj blk h
    by_cases hb : b ∈ ws.getD j []
    · exact ⟨_, Nat.le_refl _, .inl ⟨j, by omega, hb, fun k' hk' _ => by omega, h, rfl⟩⟩
    · rw [X.fr j b (by omega) hb] at h
      obtain ⟨m, hm, hA⟩ := ih (by omega) h
      refine ⟨m, Nat.le_trans hm (X.len j (by omega)), ?_⟩
      rcases hA with ⟨k, a1, a2, a3, a4, a5⟩ | ⟨a1, a2, a3⟩
      · refine .inl ⟨k, by omega, a2, fun k' hk' hb' => ?_, a4, a5⟩
        rcases Nat.lt_or_ge k' j with hl | hl
        · exact a3 k' hl hb'
        · have : k' = j := by omega
          subst this; exact absurd hb' hb
      · refine .inr ⟨fun k hk => ?_, a2, a3⟩
        rcases Nat.lt_or_ge k j with hl | hl
        · exact a1 k hl
        · have : k = j := by omega
          subst this; exact hb
theorem At.congr {L L' : Nat → Prop} {b : Nat} {blk : ABlk} {m : Nat} (h : At ws H Hs L b blk m) (hL : ∀ k, b ∈ ws.getD k [] → (L k ↔ L' k)) : At ws H Hs L' b blk m := by
  rcases h with ⟨k, a1, a2, a3, a4, a5⟩ | ⟨a1, a2, a3⟩
  · exact .inl ⟨k, (hL k a2).1 a1, a2, fun k' hk' hb' => a3 k' ((hL k' hb').2 hk') hb', a4, a5⟩
  · exact .inr ⟨fun k hk hb => a1 k ((hL k hb).2 hk) hb, a2, a3⟩

/-- What stands in a slot. -/
def SlAt (l : List Ins) (s : List AV) (H : List ABlk) (Hs : Nat → List ABlk) (v : Nat → AV) (L : Nat → Prop) (t : Nat) (x : AV) (m : Nat) : Prop :=
  (∃ k, L k ∧ wrOf l k = some t ∧ (∀ k', L k' → wrOf l k' = some t → k' ≤ k) ∧ x = v k ∧ m = (Hs (k + 1)).length) ∨ ((∀ k, L k → wrOf l k ≠ some t) ∧ x = s.getD t .any ∧ m = H.length)
theorem SlAt.congr {L L' : Nat → Prop} {t : Nat} {x : AV} {m : Nat} (h : SlAt l s H Hs v L t x m) (hL : ∀ k, wrOf l k = some t → (L k ↔ L' k)) : SlAt l s H Hs v L' t x m := by
  rcases h with ⟨k, a1, a2, a3, a4, a5⟩ | ⟨a1, a2, a3⟩
  · exact .inl ⟨k, (hL k a2).1 a1, a2, fun k' hk' hb' => a3 k' ((hL k' hb').2 hk') hb', a4, a5⟩
  · exact .inr ⟨fun k hk hb => a1 k ((hL k hb).2 hk) hb, a2, a3⟩
theorem Lex.stlen (X : Lex P pr ws U l s H st Hs v) : ∀ {j : Nat}, j ≤ l.length → (st j).length = s.length := by
  intro j
  induction j with
  | zero => intro _; rw [X.st0]
  | succ j ih =>
    intro hj
    have hi : l[j]? = some (l[j]'(by omega)) := List.getElem?_eq_getElem (by omega)
    rw [X.stn j _ hi]
    cases l[j].dst <;> simp [setO, ih (by omega)]
theorem Lex.shist (X : Lex P pr ws U l s H st Hs v) {t : Nat} (ht : t < s.length) : ∀ {j : Nat}, j ≤ l.length → ∃ m, m ≤ (Hs j).length ∧ SlAt l s H Hs v (· < j) t ((st j).getD t .any) m := by
  intro j
  induction j with
  | zero => intro _; exact ⟨H.length, by rw [X.H0]; exact Nat.le_refl _, .inr ⟨fun k hk => by omega, by rw [X.st0], rfl⟩⟩
  | succ j ih =>
    intro hj
    have hi : l[j]? = some (l[j]'(by omega)) := List.getElem?_eq_getElem (by omega)
    have hst := X.stn j _ hi
    have hsl := X.stlen (j := j) (by omega)
    by_cases hb : wrOf l j = some t
    · refine ⟨_, Nat.le_refl _, .inl ⟨j, by omega, hb, fun k' hk' _ => by omega, ?_, rfl⟩⟩
      have hd : l[j].dst = some t := by simpa [wrOf, hi] using hb
      rw [hst, hd]
      simp [setO, hsl, ht]
    · obtain ⟨m, hm, hA⟩ := ih (by omega)
      refine ⟨m, Nat.le_trans hm (X.len j (by omega)), ?_⟩
      have hsame : (st (j + 1)).getD t .any = (st j).getD t .any := by
        rw [hst]
        cases hd : l[j].dst with
        | none => rfl
        | some d =>
          have : d ≠ t := fun e => hb (by simp [wrOf, hi, hd, e])
          simp only [setO, List.getD_eq_getElem?_getD, List.getElem?_set_ne this]
      rw [hsame]
      rcases hA with ⟨k, a1, a2, a3, a4, a5⟩ | ⟨a1, a2, a3⟩
      · refine .inl ⟨k, by omega, a2, fun k' hk' hb' => ?_, a4, a5⟩
        rcases Nat.lt_or_ge k' j with hl | hl
        · exact a3 k' hl hb'
        · have : k' = j := by omega
          subst this; exact absurd hb' hb
      · refine .inr ⟨fun k hk => ?_, a2, a3⟩
        rcases Nat.lt_or_ge k j with hl | hl
        · exact a1 k hl
        · have : k = j := by omega
          subst this; exact hb

theorem trunc_le {σ : Sg} {m m' : Nat} (h : m ≤ m') : (σ.trunc m).le (σ.trunc m') := ⟨fun _ _ h => h, fun b n v hv => by
  have hv' : (if b < m then σ.φ b n else none) = some v := hv
  show (if b < m' then σ.φ b n else none) = some v
  split at hv'
  · rw [if_pos (by omega)]; exact hv'
  · cases hv'⟩
theorem trunc_le_self {σ : Sg} {m : Nat} : (σ.trunc m).le σ := ⟨fun _ _ h => h, fun b n v hv => by
  have hv' : (if b < m then σ.φ b n else none) = some v := hv
  split at hv'
  · exact hv'
  · cases hv'⟩
theorem trunc_mono {σ σ' : Sg} (hM : ∀ a v, σ.M a = some v → σ'.M a = some v) {m : Nat} (hφ : ∀ b n v, b < m → σ.φ b n = some v → σ'.φ b n = some v) : (σ.trunc m).le (σ'.trunc m) := ⟨hM, fun b n v hv => by
  have hv' : (if b < m then σ.φ b n else none) = some v := hv
  show (if b < m then σ'.φ b n else none) = some v
  split at hv'
  · rename_i hb; rw [if_pos hb]; exact hφ b n v hb hv'
  · cases hv'⟩
theorem trunc_φ {σ : Sg} {m b n : Nat} (h : b < m) : (σ.trunc m).φ b n = σ.φ b n := if_pos h
theorem trunc_φ_ge {σ : Sg} {m b n : Nat} (h : m ≤ b) : (σ.trunc m).φ b n = none := if_neg (by omega)
theorem VR.trunc_refs {σ : Sg} {m : Nat} {x : AV} {u : Value} (hv : VR (σ.trunc m) x u) : ∀ r ∈ refs x, r < m := by
  have key : ∀ b k v, (σ.trunc m).φ b k = some v → b < m := fun b k v hb => by
    rcases Nat.lt_or_ge b m with hl | hl
    · exact hl
    · rw [trunc_φ_ge hl] at hb; cases hb
  have lst : ∀ (cs : List AV) (us : List Value), cs.length = us.length → (∀ (i : Nat) (c : AV) (u : Value), cs[i]? = some c → us[i]? = some u → ∀ r ∈ refs c, r < m) → ∀ r ∈ refs.refsL cs, r < m := by
    intro cs
    induction cs with
    | nil => intro us _ _ r hr; simp [refs.refsL] at hr
    | cons c cs ih =>
      intro us hl hh r hr
      match us, hl with
      | u :: us, hl =>
        simp only [refs.refsL, List.mem_append] at hr
        rcases hr with hr | hr
        · exact hh 0 c u rfl rfl r hr
        · exact ih us (by simpa using hl) (fun i c' u' h1 h2 => hh (i + 1) c' u' (by simpa using h1) (by simpa using h2)) r hr
  induction hv with
  | ptr h => intro r hr; simp [refs] at hr; subst hr; exact key _ _ _ h
  | gsl h _ _ => intro r hr; simp [refs] at hr; subst hr; exact key _ _ _ h
  | hsl h _ _ _ _ _ => intro r hr; simp [refs] at hr; subst hr; exact key _ _ _ h
  | hsl0 h => intro r hr; simp [refs] at hr; subst hr; exact key _ _ _ h
  | mp h => intro r hr; simp [refs] at hr; subst hr; exact key _ _ _ h
  | fn h1 _ ih => exact lst _ _ h1 ih
  | agg h1 _ ih => exact lst _ _ h1 ih
  | tup h1 _ ih => exact lst _ _ h1 ih
  | _ => intro r hr; simp [refs] at hr
theorem BR.trunc_refs {σ : Sg} {m : Nat} {w : World} {b : Nat} {k : ABlk} (h : BR (σ.trunc m) w b k) : ∀ r ∈ k.refs, r < m := by
  have lst : ∀ (cs : List AV) (us : List Value), VRs (σ.trunc m) cs us → ∀ r ∈ refs.refsL cs, r < m := fun cs us hv =>
    VR.trunc_refs (.agg hv.1 hv.2 : VR (σ.trunc m) (.agg cs) (.agg us.toArray))
  cases k with
  | cells cs =>
    rcases h with ⟨g, vs, t, _, _, _, h3, _⟩ | ⟨rfl, _⟩
    · exact lst _ _ h3
    · intro r hr; simp [ABlk.refs, refs.refsL] at hr
  | map kt ck es => obtain ⟨g, ms, _, _, h3, _⟩ := h; exact lst _ _ h3
  | _ => intro r hr; simp [ABlk.refs] at hr
theorem BR.trunc {σ : Sg} {m : Nat} {w : World} {b : Nat} {k : ABlk} (h : BR σ w b k) (hb : b < m) (hr : ∀ r ∈ k.refs, r < m) : BR (σ.trunc m) w b k := by
  cases k with
  | free => exact fun n => by rw [trunc_φ hb]; exact h n
  | dead => trivial
  | cells cs =>
    rcases h with ⟨g, vs, t, h1, h1', h2, h3, h4⟩ | ⟨h0, v, h1, h2⟩
    · exact .inl ⟨g, vs, t, by rw [trunc_φ hb]; exact h1, by rw [trunc_φ hb]; exact h1', h2, h3.trunc hr, h4⟩
    · exact .inr ⟨h0, v, by rw [trunc_φ hb]; exact h1, h2⟩
  | row e sz n =>
    obtain ⟨v, xs, h1, h2, h3, h4⟩ := h
    exact ⟨v, xs, by rw [trunc_φ hb]; exact h1, h2, fun m' hm => by rw [trunc_φ hb]; exact h3 m' hm, h4⟩
  | map kt ck es =>
    obtain ⟨g, ms, h1, h2, h3, h4⟩ := h
    exact ⟨g, ms, by rw [trunc_φ hb]; exact h1, h2, h3.trunc hr, h4⟩
  | bld t =>
    obtain ⟨g, h1, h1', h2⟩ := h
    exact ⟨g, by rw [trunc_φ hb]; exact h1, by rw [trunc_φ hb]; exact h1', h2⟩

/-- THE STATE when the operations in L have come up. -/
structure DInv (l : List Ins) (ws : List (List Nat)) (s : List AV) (H : List ABlk) (Hs : Nat → List ABlk) (v : Nat → AV) (σb : Sg) (w0 : World) (L : Nat → Prop) (σ : Sg) (a : Act) (w : World) : Prop where
  defers : a.defers = []
  size : a.tmps.size = s.length
  mem : MemOk σ.M w
  slot : ∀ t x m, t < s.length → SlAt l s H Hs v L t x m → VR (σ.trunc m) x (a.tmps.getD t undef)
  blk : ∀ b blk m, At ws H Hs L b blk m → BR (σ.trunc m) w b blk
  none : ∀ b n, H.length ≤ b → (∀ k, L k → ¬ ((Hs k).length ≤ b ∧ b < (Hs (k + 1)).length)) → σ.φ b n = none
  inj : ∀ b b' k k' m m' u u' g, At ws H Hs L b k m → At ws H Hs L b' k' m' → k.live = true → k'.live = true → σ.φ b k.ver = some u → σ.φ b' k'.ver = some u' → conc u = some g → conc u' = some g → b = b'
  M : ∀ p u, σb.M p = some u → σ.M p = some u
  φ : ∀ b n u, b < H.length → σb.φ b n = some u → σ.φ b n = some u
  os : w.os = w0.os
  tape : w.tape = w0.tape
  output : w.output = w0.output
  wsize : w0.heap.size ≤ w.heap.size
  frame : ∀ k, k < w0.heap.size → ¬ foot σb H k → w.heap[k]? = w0.heap[k]?
  foot : ∀ b blk m u k, At ws H Hs L b blk m → blk.live = true → σ.φ b blk.ver = some u → conc u = some k → Go.Proofs.YtmgmoamcbnkbfaaGreatDoor.foot σb H k ∨ w0.heap.size ≤ k
  new : ∀ p, σ.M p ≠ σb.M p → Go.Proofs.YtmgmoamcbnkbfaaGreatDoor.foot σb H p.block ∨ w0.heap.size ≤ p.block
  dead : ∀ b n, H[b]? = some .dead → σ.φ b n = σb.φ b n

theorem DInv.start {σb : Sg} {a : Act} {w0 : World} (h : HR σb H w0) (hs : SS σb s a) : DInv l ws s H Hs v σb w0 (fun _ => False) σb a w0 := by
  have hall : ∀ b blk m, At ws H Hs (fun _ => False) b blk m → H[b]? = some blk ∧ m = H.length := by
    intro b blk m hA
    rcases hA with ⟨k, hk, _⟩ | ⟨_, h1, h2⟩
    · exact hk.elim
    · exact ⟨h1, h2⟩
  have hle : ∀ {x : AV} {u : Value}, VR σb x u → VR (σb.trunc H.length) x u := fun hv => hv.trunc (VR.refs_lt h hv)
  refine ⟨hs.defers, by have := hs.tmps.1; simpa using this.symm, h.mem, fun t x m ht hA => ?_, fun b blk m hA => ?_, fun b n hb _ => h.fresh b n hb, fun b b' k k' m m' u u' g hA hA' => ?_, fun _ _ h => h, fun _ _ _ _ h => h, rfl, rfl, rfl, Nat.le_refl _, fun _ _ _ => rfl, fun b blk m u k hA hl hu hc => ?_, fun p hp => absurd rfl hp, fun _ _ _ => rfl⟩
  · rcases hA with ⟨k, hk, _⟩ | ⟨_, rfl, rfl⟩
    · exact hk.elim
    · have := hs.tmps.getD t undef
      exact hle (by simpa using this)
  · obtain ⟨h1, rfl⟩ := hall _ _ _ hA
    exact (h.blk b blk h1).trunc (List.getElem?_eq_some_iff.1 h1).1 (h.refs_lt h1)
  · exact h.inj b b' k k' u u' g (hall _ _ _ hA).1 (hall _ _ _ hA').1
  · exact .inl ⟨b, blk, u, (hall _ _ _ hA).1, hl, hu, hc⟩

theorem Lex.deadH (X : Lex P pr ws U l s H st Hs v) {b : Nat} (hb : H[b]? = some .dead) : ∀ {j : Nat}, j ≤ l.length → (Hs j)[b]? = some .dead := by
  intro j
  induction j with
  | zero => intro _; rw [X.H0]; exact hb
  | succ j ih =>
    intro hj
    have : b ∉ ws.getD j [] := fun h => (X.wsU j (by omega) b h).2 hb
    rw [X.fr j b (by omega) this]
    exact ih (by omega)
theorem Lex.alloc (X : Lex P pr ws U l s H st Hs v) {b : Nat} (h0 : H.length ≤ b) : ∀ {j : Nat}, j ≤ l.length → b < (Hs j).length → ∃ k, k < j ∧ (Hs k).length ≤ b ∧ b < (Hs (k + 1)).length := by
  intro j
  induction j with
  | zero => intro _ h; rw [X.H0] at h; omega
  | succ j ih =>
    intro hj h
    rcases Nat.lt_or_ge b (Hs j).length with hl | hl
    · obtain ⟨k, a, b', c⟩ := ih (by omega) hl
      exact ⟨k, by omega, b', c⟩
    · exact ⟨j, by omega, hl, h⟩
theorem Lex.newWs (X : Lex P pr ws U l s H st Hs v) {b j : Nat} (hj : j < l.length) (h1 : (Hs j).length ≤ b) (h2 : b < (Hs (j + 1)).length) : b ∈ ws.getD j [] := by
  by_cases h : b ∈ ws.getD j []
  · exact h
  · have := X.fr j b hj h
    rw [List.getElem?_eq_none h1, List.getElem?_eq_none_iff] at this
    omega

theorem compIns_dst {P : Program} {hint : Nat → Option Md} {ops : Array Oper} {o : Oper} {i : Ins} (hc : compIns P hint ops o = some i) : i.dst = o.dst := by
  unfold compIns at hc
  split at hc
  · cases hc
  · split at hc
    · cases hc; rfl
    · split at hc
      · cases hc; rfl
      · cases hc

/-- What an operation sees when those in L have come up, and what it leaves. -/
structure Seen (P : Program) (ws U : List (List Nat)) (H : List ABlk) (st : Nat → List AV) (Hs : Nat → List ABlk) (v : Nat → AV) (L : Nat → Prop) (j : Nat) (i : Ins) (G G' : List ABlk) : Prop where
  step : StepOk P i (st j) G (v j) G'
  len : G.length = (Hs j).length
  len' : G'.length = (Hs (j + 1)).length
  at_ : ∀ b k, G[b]? = some k → k ≠ .dead → ∃ m, m ≤ (Hs j).length ∧ At ws H Hs L b k m
  own : ∀ b, b ∈ ws.getD j [] → G'[b]? = (Hs (j + 1))[b]?
  oth : ∀ b, b ∉ ws.getD j [] → b < (Hs j).length → G'[b]? = G[b]?
  hid : ∀ b, b ∈ U.getD j [] → H.length ≤ b → b < (Hs j).length → G[b]? = some .dead

/-- The writers of a name that nobody writes out of order. -/
theorem Lex.hord (X : Lex P pr ws U l s H st Hs v) {L : Nat → Prop} (hL : ∀ i, L i → i < l.length) (hdc : ∀ i, L i → ∀ k ∈ pr.getD i [], L k) {j : Nat} (hjl : j < l.length) (hnj : ¬ L j) (hpj : ∀ k ∈ pr.getD j [], L k) :
    ∀ {b k : Nat}, b ∉ U.getD j [] → b ∈ ws.getD k [] → k < l.length → k ≠ j → (L k ↔ k < j) := by
  have hancL : ∀ k ∈ ancOf pr j, L k := fun k hk => reach_closed hdc (anc_reach pr j k hk) hpj
  have hancLt : ∀ {i k : Nat}, i < l.length → k ∈ ancOf pr i → k < i := fun hi hk => X.anc_lt (anc_reach pr _ _ hk) hi
  have hnanc : ∀ {k : Nat}, L k → j ∉ ancOf pr k := fun {k} hk hjk => hnj (reach_closed hdc (anc_reach pr k j hjk) (hdc k hk))
  intro b k hb hk hkl hne
  by_cases h1 : k ∈ ancOf pr j
  · exact ⟨fun _ => hancLt hjl h1, fun _ => hancL k h1⟩
  · by_cases h2 : j ∈ ancOf pr k
    · have := hancLt hkl h2
      exact ⟨fun h => absurd h2 (hnanc h), fun h => by omega⟩
    · exact absurd (X.uns hkl hjl hne h1 h2 hk) hb
theorem Lex.hcont (X : Lex P pr ws U l s H st Hs v) {L : Nat → Prop} (hL : ∀ i, L i → i < l.length) (hdc : ∀ i, L i → ∀ k ∈ pr.getD i [], L k) {j : Nat} (hjl : j < l.length) (hnj : ¬ L j) (hpj : ∀ k ∈ pr.getD j [], L k) :
    ∀ {b : Nat} {blk : ABlk}, b ∉ U.getD j [] → (Hs j)[b]? = some blk → ∃ m, m ≤ (Hs j).length ∧ At ws H Hs L b blk m := by
  intro b blk hb h
  obtain ⟨m, hm, hA⟩ := X.hist (Nat.le_of_lt hjl) h
  refine ⟨m, hm, hA.congr fun k hk => ?_⟩
  by_cases e : k = j
  · subst e; exact ⟨fun h => by omega, fun h => absurd h hnj⟩
  · rcases Nat.lt_or_ge k l.length with hkl | hkl
    · exact (X.hord hL hdc hjl hnj hpj hb hk hkl e).symm
    · exact ⟨fun h => by omega, fun h => by have := hL k h; omega⟩
/-- Unhindered: what others write is not looked at. -/
theorem Lex.hard (X : Lex P pr ws U l s H st Hs v) {L : Nat → Prop} (hL : ∀ i, L i → i < l.length) (hdc : ∀ i, L i → ∀ k ∈ pr.getD i [], L k) {j : Nat} {i : Ins} (hjl : j < l.length) (hnj : ¬ L j) (hpj : ∀ k ∈ pr.getD j [], L k)
    (hs : StepOk P i (st j) (kill (U.getD j []) (Hs j)) (v j) (kill (U.getD j []) (Hs (j + 1)))) : Seen P ws U H st Hs v L j i (kill (U.getD j []) (Hs j)) (kill (U.getD j []) (Hs (j + 1))) := by
  refine ⟨hs, kill_length _ _, kill_length _ _, fun b k hb hk => ?_, fun b hb => ?_, fun b hb hlt => ?_, fun b hb _ hlt => kill_in _ _ hb hlt⟩
  · have hlt : b < (Hs j).length := by rw [← kill_length (U.getD j [])]; exact (List.getElem?_eq_some_iff.1 hb).1
    by_cases hU : b ∈ U.getD j []
    · rw [kill_in _ _ hU hlt] at hb; cases hb; exact absurd rfl hk
    · rw [kill_out _ _ hU] at hb; exact X.hcont hL hdc hjl hnj hpj hU hb
  · rw [kill_out _ _ (X.wsU j hjl b hb).1]
  · by_cases hU : b ∈ U.getD j []
    · rw [kill_in _ _ hU hlt, kill_in _ _ hU (Nat.lt_of_lt_of_le hlt (X.len j hjl))]
    · rw [kill_out _ _ hU, kill_out _ _ hU, X.fr j b hjl hb]
/-- A look at a name that another one writes, which sees the same before and behind it. -/
theorem Lex.soft (X : Lex P pr ws U l s H st Hs v) {L : Nat → Prop} (hL : ∀ i, L i → i < l.length) (hdc : ∀ i, L i → ∀ k ∈ pr.getD i [], L k) {j : Nat} {i : Ins} (hjl : j < l.length) (hnj : ¬ L j) (hpj : ∀ k ∈ pr.getD j [], L k)
    (b0 : Nat) (x : ABlk) (hb0 : b0 < H.length) (hw : ws.getD j [] = []) (hU : U.getD j [] = [b0]) (hHs : Hs (j + 1) = Hs j) (hbef : ∀ k, k < j → b0 ∉ ws.getD k [])
    (hq : ∀ q, j < q → q < l.length → b0 ∈ ws.getD q [] → j ∉ ancOf pr q → (Hs (q + 1))[b0]? = some x ∧ (Hs (q + 1)).length = H.length)
    (h1 : StepOk P i (st j) (Hs j) (v j) (Hs j)) (h2 : StepOk P i (st j) ((Hs j).set b0 x) (v j) ((Hs j).set b0 x)) : ∃ G G', Seen P ws U H st Hs v L j i G G' := by
  have hH0 : H.length ≤ (Hs j).length := by have := X.mono (Nat.zero_le j) (Nat.le_of_lt hjl); rwa [X.H0] at this
  have hnanc : ∀ {k : Nat}, L k → j ∉ ancOf pr k := fun {k} hk hjk => hnj (reach_closed hdc (anc_reach pr k j hjk) (hdc k hk))
  have hout : ∀ b, b ≠ b0 → b ∉ U.getD j [] := fun b hb => by rw [hU]; simpa using hb
  by_cases hex : ∃ q, L q ∧ b0 ∈ ws.getD q []
  · obtain ⟨q0, hq0, hq1⟩ := hex
    have hgt : ∀ q, L q → b0 ∈ ws.getD q [] → j < q := fun q hLq hb => by
      rcases Nat.lt_trichotomy q j with h | h | h
      · exact absurd hb (hbef q h)
      · exact absurd (h ▸ hLq) hnj
      · exact h
    -- the last one that came up
    have hmax : ∀ n, ∃ q, L q ∧ b0 ∈ ws.getD q [] ∧ ∀ q', L q' → b0 ∈ ws.getD q' [] → q' ≤ n → q' ≤ q := by
      intro n
      induction n with
      | zero => exact ⟨q0, hq0, hq1, fun q' h h' h0 => by omega⟩
      | succ n ih =>
        obtain ⟨q, a, b, c⟩ := ih
        by_cases h : L (n + 1) ∧ b0 ∈ ws.getD (n + 1) []
        · rcases Nat.lt_or_ge (n + 1) q with hl | hl
          · exact ⟨q, a, b, fun q' e f g => by omega⟩
          · exact ⟨n + 1, h.1, h.2, fun q' e f g => g⟩
        · refine ⟨q, a, b, fun q' e f g => ?_⟩
          rcases Nat.lt_or_ge n q' with hl | hl
          · have : q' = n + 1 := by omega
            subst this; exact absurd ⟨e, f⟩ h
          · exact c q' e f hl
    obtain ⟨q, a1, a2, a3⟩ := hmax l.length
    obtain ⟨e1, e2⟩ := hq q (hgt q a1 a2) (hL q a1) a2 (hnanc a1)
    refine ⟨_, _, h2, by simp, by rw [hHs]; simp, fun b k hb hk => ?_, fun b hb => by rw [hw] at hb; simp at hb, fun b _ _ => rfl, fun b hb hge _ => ?_⟩
    · by_cases e : b = b0
      · subst e
        rw [List.getElem?_set_self (by omega)] at hb
        cases hb
        exact ⟨_, by rw [e2]; exact hH0, .inl ⟨q, a1, a2, fun k' hk' hb' => a3 k' hk' hb' (Nat.le_of_lt (hL k' hk')), e1, rfl⟩⟩
      · rw [List.getElem?_set_ne (Ne.symm e)] at hb
        exact X.hcont hL hdc hjl hnj hpj (hout b e) hb
    · rw [hU] at hb
      have : b = b0 := by simpa using hb
      omega
  · refine ⟨_, _, h1, rfl, by rw [hHs], fun b k hb hk => ?_, fun b hb => by rw [hw] at hb; simp at hb, fun b _ _ => rfl, fun b hb hge _ => ?_⟩
    · by_cases e : b = b0
      · subst e
        obtain ⟨m, hm, hA⟩ := X.hist (Nat.le_of_lt hjl) hb
        exact ⟨m, hm, hA.congr fun k hk => ⟨fun h => absurd hk (hbef k h), fun h => absurd ⟨k, h, hk⟩ hex⟩⟩
      · exact X.hcont hL hdc hjl hnj hpj (hout b e) hb
    · rw [hU] at hb
      have : b = b0 := by simpa using hb
      omega

/-- ONE MORE OPERATION COMES UP. -/
theorem DInv.next (X : Lex P pr ws U l s H st Hs v) {hint : Nat → Option Md} {ops : Array Oper} {σb : Sg} {w0 : World} {L : Nat → Prop} {σ : Sg} {a : Act} {w : World}
    (I : DInv l ws s H Hs v σb w0 L σ a w) (hL : ∀ i, L i → i < l.length) (hdc : ∀ i, L i → ∀ k ∈ pr.getD i [], L k) {j : Nat} {i : Ins} {o : Oper} (hj : l[j]? = some i) (ho : ops[j]? = some o) (hc : compIns P hint ops o = some i)
    (hnj : ¬ L j) (hpj : ∀ k ∈ pr.getD j [], L k) {G G' : List ABlk} (hS : Seen P ws U H st Hs v L j i G G') {K : Act → World → Prop} {Q : Exit → Act → World → Prop} (hK : ∀ σ' a' w', DInv l ws s H Hs v σb w0 (fun k => L k ∨ k = j) σ' a' w' → K a' w') : wpOp P ops Q j K a w := by
  have hjl : j < l.length := (List.getElem?_eq_some_iff.1 hj).1
  have hancL : ∀ k ∈ ancOf pr j, L k := fun k hk => reach_closed hdc (anc_reach pr j k hk) hpj
  have hancLt : ∀ {i k : Nat}, i < l.length → k ∈ ancOf pr i → k < i := fun hi hk => X.anc_lt (anc_reach pr _ _ hk) hi
  have hnanc : ∀ {k : Nat}, L k → j ∉ ancOf pr k := fun {k} hk hjk => hnj (reach_closed hdc (anc_reach pr k j hjk) (hdc k hk))
  have hlen : (Hs j).length ≤ (Hs (j + 1)).length := X.len j hjl
  have hH0 : H.length ≤ (Hs j).length := by have := X.mono (Nat.zero_le j) (Nat.le_of_lt hjl); rwa [X.H0] at this
  have hord : ∀ {b k : Nat}, b ∉ U.getD j [] → b ∈ ws.getD k [] → k < l.length → k ≠ j → (L k ↔ k < j) := X.hord hL hdc hjl hnj hpj
  have hrd : rdOf l j = i.sl := by simp [rdOf, hj]
  -- what the operation sees
  have hSS : SS (σ.trunc (Hs j).length) (mask i.sl (st j)) a := by
    have hstl := X.stlen (Nat.le_of_lt hjl)
    refine ⟨I.defers, ⟨by have := I.size; rw [mask_length, hstl]; simpa using this.symm, fun t c u hcc hu => ?_⟩⟩
    have ht : t < s.length := by
      rw [← hstl, ← mask_length i.sl (st j)]
      exact (List.getElem?_eq_some_iff.1 hcc).1
    have hu' : a.tmps.getD t undef = u := by
      have : a.tmps[t]? = some u := by simpa using hu
      simp [this]
    by_cases hts : t ∈ i.sl
    · have hcv : c = (st j).getD t .any := by
        have := mask_get (s := st j) hts
        rw [← this]
        simp [hcc]
      obtain ⟨m, hm, hA⟩ := X.shist ht (Nat.le_of_lt hjl)
      have hA' : SlAt l s H Hs v L t ((st j).getD t .any) m := hA.congr fun k hk => by
        have hkl : k < l.length := by
          rcases Nat.lt_or_ge k l.length with h | h
          · exact h
          · simp [wrOf, List.getElem?_eq_none h] at hk
        rcases Nat.lt_trichotomy k j with h | h | h
        · refine ⟨fun _ => ?_, fun _ => h⟩
          rcases X.slots hjl h with h1 | ⟨h1, _⟩
          · exact hancL k h1
          · exact absurd hts (by rw [← hrd]; exact (h1 t hk).1)
        · subst h; exact ⟨fun h => by omega, fun h => absurd h hnj⟩
        · refine ⟨fun h => by omega, fun hLk => ?_⟩
          rcases X.slots hkl h with h1 | ⟨_, h1⟩
          · exact absurd h1 (hnanc hLk)
          · exact absurd hts (by rw [← hrd]; exact h1 t hk)
      rw [hcv, ← hu']
      exact (I.slot t _ m ht hA').mono (trunc_le hm)
    · have : c = .any := by
        simp only [mask, List.getElem?_mapIdx, Option.map_eq_some_iff] at hcc
        obtain ⟨x, _, rfl⟩ := hcc
        simp [hts]
      subst this
      exact .any
  have hin : ∀ {b : Nat} {k : ABlk}, G[b]? = some k → k ≠ .dead → (¬ G[b]? = some .dead) ∧ (∃ m, m ≤ (Hs j).length ∧ At ws H Hs L b k m) ∧ b < (Hs j).length := by
    intro b k hb hk
    have hlt : b < (Hs j).length := by rw [← hS.len]; exact (List.getElem?_eq_some_iff.1 hb).1
    exact ⟨fun h => by rw [h] at hb; cases hb; exact hk rfl, hS.at_ b k hb hk, hlt⟩
  have hlive : ∀ {k : ABlk}, k.live = true → k ≠ .dead := fun h e => by subst e; cases h
  have hHR : HR (σ.trunc (Hs j).length) G w := by
    refine ⟨I.mem, fun b k hb => ?_, fun b n hb => trunc_φ_ge (by rwa [hS.len] at hb), fun b b' k k' u u' g hb hb' hl hl' hu hu' hg hg' => ?_⟩
    · by_cases hk : k = .dead
      · subst hk; trivial
      · obtain ⟨h1, ⟨m, hm, hA⟩, h3⟩ := hin hb hk
        exact (I.blk b k m hA).keep (trunc_le hm) (fun n => by rw [trunc_φ h3, trunc_φ hA.lt]) fun _ _ _ _ _ => ⟨rfl, fun _ _ => rfl⟩
    · obtain ⟨h1, ⟨m, _, hA⟩, h3⟩ := hin hb (hlive hl)
      obtain ⟨h1', ⟨m', _, hA'⟩, h3'⟩ := hin hb' (hlive hl')
      rw [trunc_φ h3] at hu
      rw [trunc_φ h3'] at hu'
      exact I.inj b b' k k' m m' u u' g hA hA' hl hl' hu hu' hg hg'
  -- it runs
  have hrun := ins_sound (K := K) (Q := Q) hc hHR hSS (hS.step.masked (rd := i.sl) fun t ht => ht) ?_
  · unfold wpOp
    simp only [ho]
    exact hrun
  intro σ' v' u H' w' x1 x2 x3 x4
  simp only [wpIns] at x4
  obtain ⟨hv', hGe⟩ := x4
  rw [hGe] at x1 x2
  have hdst := compIns_dst hc
  let σ2 : Sg := { M := σ'.M, φ := fun b n => if b < (Hs (j + 1)).length then σ'.φ b n else σ.φ b n }
  have φlt : ∀ {b n : Nat}, b < (Hs (j + 1)).length → σ2.φ b n = σ'.φ b n := fun h => if_pos h
  have φge : ∀ {b n : Nat}, (Hs (j + 1)).length ≤ b → σ2.φ b n = σ.φ b n := fun h => if_neg (by omega)
  have F2 : ∀ b n u, σ.φ b n = some u → σ2.φ b n = some u := by
    intro b n u hu
    rcases Nat.lt_or_ge b (Hs (j + 1)).length with hb | hb
    · rw [φlt hb]
      rcases Nat.lt_or_ge b (Hs j).length with hb' | hb'
      · exact x1.le.φ b n u (by rw [trunc_φ hb']; exact hu)
      · rw [I.none b n (by omega) (fun k hk hkb => ?_)] at hu
        · cases hu
        · have hkl := hL k hk
          rcases Nat.lt_trichotomy k j with h | h | h
          · have := X.mono (k := k + 1) (m := j) (by omega) (by omega); omega
          · subst h; exact hnj hk
          · have := X.mono (k := j + 1) (m := k) (by omega) (by omega); omega
    · rw [φge hb]; exact hu
  have F3 : σ'.le (σ2.trunc (Hs (j + 1)).length) := ⟨fun _ _ h => h, fun b n u hu => by
    have hb : b < (Hs (j + 1)).length := by
      rcases Nat.lt_or_ge b (Hs (j + 1)).length with h | h
      · exact h
      · rw [x2.fresh b n (by rw [hS.len']; exact h)] at hu; cases hu
    rw [trunc_φ hb, φlt hb]; exact hu⟩
  have Mle : ∀ p u, σ.M p = some u → σ2.M p = some u := fun p u h => x1.le.M p u h
  have F4 : ∀ {b n : Nat}, G[b]? = some .dead → b < (Hs j).length → σ2.φ b n = σ.φ b n := by
    intro b n hU hb
    rw [φlt (by omega), (x1.dead b hU).2 n, trunc_φ hb]
  have hidφ : ∀ {b : Nat} {blk : ABlk} {m : Nat}, At ws H Hs L b blk m → (G[b]? = some .dead ∨ (Hs j).length ≤ b) → ∀ n, σ2.φ b n = σ.φ b n := by
    intro b blk m hA hh n
    rcases Nat.lt_or_ge b (Hs j).length with hb | hb
    · rcases hh with hh | hh
      · exact F4 hh hb
      · omega
    · rcases Nat.lt_or_ge b (Hs (j + 1)).length with hb' | hb'
      · exfalso
        have hbj := X.newWs hjl hb hb'
        have hnU := (X.wsU j hjl b hbj).1
        rcases hA with ⟨k, a1, a2, _, a4, _⟩ | ⟨_, a2, _⟩
        · have hkl := hL k a1
          have hne : k ≠ j := fun e => hnj (e ▸ a1)
          have hkj := (hord hnU a2 hkl hne).1 a1
          have h1 := (List.getElem?_eq_some_iff.1 a4).1
          have h2 := X.mono (k := k + 1) (m := j) (by omega) (by omega)
          omega
        · have := (List.getElem?_eq_some_iff.1 a2).1; omega
      · exact φge hb'
  have hfoot : ∀ {g : Nat}, Go.Proofs.YtmgmoamcbnkbfaaGreatDoor.foot (σ.trunc (Hs j).length) G g → ∃ b blk m u, At ws H Hs L b blk m ∧ (¬ G[b]? = some .dead) ∧ b < (Hs j).length ∧ blk.live = true ∧ σ.φ b blk.ver = some u ∧ conc u = some g := by
    rintro g ⟨b, blk, u, hb, hl, hu, hg⟩
    obtain ⟨h1, ⟨m, _, hA⟩, h3⟩ := hin hb (hlive hl)
    rw [trunc_φ h3] at hu
    exact ⟨b, blk, m, u, hA, h1, h3, hl, hu, hg⟩
  have F6 : ∀ {b : Nat} {blk : ABlk} {m : Nat} {u : Value} {g : Nat}, At ws H Hs L b blk m → (G[b]? = some .dead ∨ (Hs j).length ≤ b) → blk.live = true → σ.φ b blk.ver = some u → conc u = some g →
      ¬ Go.Proofs.YtmgmoamcbnkbfaaGreatDoor.foot (σ.trunc (Hs j).length) G g ∧ g < w.heap.size := by
    intro b blk m u g hA hh hl hu hg
    refine ⟨fun hf => ?_, (I.blk b blk m hA).lt hl (by rw [trunc_φ hA.lt]; exact hu) hg⟩
    obtain ⟨b1, blk1, m1, u1, hA1, hn1, hlt1, hl1, hu1, hg1⟩ := hfoot hf
    have := I.inj b b1 blk blk1 m m1 u u1 g hA hA1 hl hl1 hu hu1 hg hg1
    subst this
    rcases hh with hh | hh
    · exact hn1 hh
    · omega
  -- what stands at a name now
  have hcase : ∀ {b : Nat} {blk : ABlk} {m : Nat}, At ws H Hs (fun k => L k ∨ k = j) b blk m → (b ∈ ws.getD j [] ∧ (Hs (j + 1))[b]? = some blk ∧ m = (Hs (j + 1)).length) ∨ (b ∉ ws.getD j [] ∧ At ws H Hs L b blk m) := by
    intro b blk m hA
    rcases hA with ⟨k, a1, a2, a3, a4, a5⟩ | ⟨a1, a2, a3⟩
    · by_cases e : k = j
      · subst e; exact .inl ⟨a2, a4, a5⟩
      · have hLk : L k := a1.resolve_right e
        by_cases hb : b ∈ ws.getD j []
        · exfalso
          have hjk := a3 j (.inr rfl) hb
          have hnU := (X.wsU j hjl b hb).1
          have := (hord hnU a2 (hL k hLk) e).1 hLk
          omega
        · exact .inr ⟨hb, .inl ⟨k, hLk, a2, fun k' hk' => a3 k' (.inl hk'), a4, a5⟩⟩
    · exact .inr ⟨a1 j (.inr rfl), .inr ⟨fun k hk => a1 k (.inl hk), a2, a3⟩⟩
  have hVH : ∀ {b : Nat} {blk : ABlk} {m : Nat}, At ws H Hs (fun k => L k ∨ k = j) b blk m →
      (G'[b]? = some blk ∧ b < (Hs (j + 1)).length ∧ (b ∈ ws.getD j [] ∨ At ws H Hs L b blk m)) ∨ (At ws H Hs L b blk m ∧ (G[b]? = some .dead ∨ (Hs j).length ≤ b)) := by
    intro b blk m hA
    rcases hcase hA with ⟨h1, h2, rfl⟩ | ⟨h1, h2⟩
    · exact .inl ⟨by rw [hS.own b h1]; exact h2, (List.getElem?_eq_some_iff.1 h2).1, .inl h1⟩
    · by_cases hh : G[b]? = some .dead ∨ (Hs j).length ≤ b
      · exact .inr ⟨h2, hh⟩
      · have hnU : ¬ G[b]? = some .dead := fun h => hh (.inl h)
        have hb : b < (Hs j).length := by
          rcases Nat.lt_or_ge b (Hs j).length with h | h
          · exact h
          · exact absurd (Or.inr h) hh
        have hgb : b < G.length := by rw [hS.len]; exact hb
        obtain ⟨m', _, hA'⟩ := hS.at_ b _ (List.getElem?_eq_getElem hgb) (fun e => hnU (by rw [List.getElem?_eq_getElem hgb, e]))
        obtain ⟨e, _⟩ := h2.uniq hA'
        refine .inl ⟨?_, by omega, .inr h2⟩
        rw [hS.oth b h1 hb, List.getElem?_eq_getElem hgb, e]
  have hscase : ∀ {t : Nat} {x : AV} {m : Nat}, SlAt l s H Hs v (fun k => L k ∨ k = j) t x m → (wrOf l j = some t ∧ x = v j ∧ m = (Hs (j + 1)).length) ∨ (wrOf l j ≠ some t ∧ SlAt l s H Hs v L t x m) := by
    intro t x m hA
    rcases hA with ⟨k, a1, a2, a3, a4, a5⟩ | ⟨a1, a2, a3⟩
    · by_cases e : k = j
      · subst e; exact .inl ⟨a2, a4, a5⟩
      · have hLk : L k := a1.resolve_right e
        by_cases hb : wrOf l j = some t
        · exfalso
          have hjk := a3 j (.inr rfl) hb
          rcases X.slots (hL k hLk) (show j < k by omega) with h1 | ⟨h1, _⟩
          · exact hnanc hLk h1
          · exact (h1 t hb).2 a2
        · exact .inr ⟨hb, .inl ⟨k, hLk, a2, fun k' hk' => a3 k' (.inl hk'), a4, a5⟩⟩
    · exact .inr ⟨a1 j (.inr rfl), .inr ⟨fun k hk => a1 k (.inl hk), a2, a3⟩⟩
  refine hK σ2 _ w' ⟨?_, ?_, x2.mem, fun t x m ht hA => ?_, fun b blk m hA => ?_, fun b n hb hk => ?_, fun b b' k k' m m' u u' g hA hA' hl hl' hu hu' hg hg' => ?_, fun p u h => Mle p u (I.M p u h), fun b n u hb h => F2 b n u (I.φ b n u hb h),
    x1.os.trans I.os, x1.tape.trans I.tape, x1.output.trans I.output, Nat.le_trans I.wsize x1.size, fun k hk hf => ?_, fun b blk m u k hA hl hu hg => ?_, fun p hp => ?_, fun b n hb => ?_⟩
  · cases o.dst <;> exact I.defers
  · cases o.dst <;> simp [Act.put, I.size]
  · rcases hscase hA with ⟨h1, rfl, rfl⟩ | ⟨h1, h2⟩
    · have hd : o.dst = some t := by rw [← hdst]; simpa [wrOf, hj] using h1
      have hvv : v' = v j := by
        rw [hdst, hd] at hv'
        have := congrArg (fun q : List AV => q.getD t .any) hv'
        have hlt : t < (mask i.sl (st j)).length := by rw [mask_length, X.stlen (Nat.le_of_lt hjl)]; exact ht
        simpa [setO, hlt] using this
      subst hvv
      have hget : (a.put o.dst u).tmps.getD t undef = u := by
        rw [hd]
        simp [Act.put, I.size, ht]
      rw [hget]
      exact x3.mono F3
    · have hget : (a.put o.dst u).tmps.getD t undef = a.tmps.getD t undef := by
        cases hd : o.dst with
        | none => rfl
        | some d =>
          have : d ≠ t := fun e => h1 (by simp [wrOf, hj, hdst, hd, e])
          simp [Act.put, Array.getElem?_setIfInBounds_ne this]
      rw [hget]
      exact (I.slot t x m ht h2).mono (trunc_mono Mle fun b n u _ h => F2 b n u h)
  · rcases hcase hA with ⟨h1, h2, rfl⟩ | ⟨h1, h2⟩
    · have hb := (List.getElem?_eq_some_iff.1 h2).1
      exact (x2.blk b blk (by rw [hS.own b h1]; exact h2)).keep F3 (fun n => by rw [trunc_φ hb, φlt hb]) fun _ _ _ _ _ => ⟨rfl, fun _ _ => rfl⟩
    · rcases hVH hA with ⟨h3, h4, _⟩ | ⟨_, hh⟩
      · have hB := (x2.blk b blk h3).keep (F3.trans trunc_le_self) (fun n => φlt h4) fun _ _ _ _ _ => ⟨rfl, fun _ _ => rfl⟩
        exact hB.trunc h2.lt (I.blk b blk m h2).trunc_refs
      · refine (I.blk b blk m h2).keep (trunc_mono Mle fun b n u _ h => F2 b n u h) (fun n => by rw [trunc_φ h2.lt, trunc_φ h2.lt]; exact hidφ h2 hh n) fun u g hl hu hg => ?_
        rw [trunc_φ h2.lt] at hu
        obtain ⟨f1, f2⟩ := F6 h2 hh hl hu hg
        refine ⟨x1.frame g f2 f1, fun p hp => ?_⟩
        by_cases e : σ'.M p = σ.M p
        · exact e
        · rcases x1.new p e with h | h
          · rw [hp] at h; exact absurd h f1
          · omega
  · rcases Nat.lt_or_ge b (Hs (j + 1)).length with hb1 | hb1
    · have hbj : b < (Hs j).length := by
        rcases Nat.lt_or_ge b (Hs j).length with h | h
        · exact h
        · exact absurd ⟨h, hb1⟩ (hk j (.inr rfl))
      obtain ⟨k0, hk0, hk1, hk2⟩ := X.alloc hb (Nat.le_of_lt hjl) hbj
      have hnL : ¬ L k0 := fun h => hk k0 (.inl h) ⟨hk1, hk2⟩
      have hw0 := X.newWs (j := k0) (by omega) hk1 hk2
      have hU := X.uns (by omega) hjl (by omega) (fun h => hnL (hancL k0 h)) (fun h => by have := hancLt (by omega) h; omega) hw0
      rw [F4 (hS.hid b hU hb hbj) hbj]
      exact I.none b n hb fun k hLk => hk k (.inl hLk)
    · rw [φge hb1]
      exact I.none b n hb fun k hLk => hk k (.inl hLk)
  · have mix : ∀ {b b' : Nat} {k k' : ABlk} {m' : Nat} {u u' : Value}, G'[b]? = some k → b < (Hs (j + 1)).length → At ws H Hs L b' k' m' → (G[b']? = some .dead ∨ (Hs j).length ≤ b') →
        k.live = true → k'.live = true → σ2.φ b k.ver = some u → σ2.φ b' k'.ver = some u' → conc u = some g → conc u' = some g → False := by
      intro b b' k k' m' u u' h1 h2 hA' hh hl hl' hu hu' hg hg'
      rw [φlt h2] at hu
      rw [hidφ hA' hh] at hu'
      obtain ⟨f1, f2⟩ := F6 hA' hh hl' hu' hg'
      rcases x1.foot g ⟨b, k, u, h1, hl, hu, hg⟩ with h | h
      · exact f1 h
      · omega
    rcases hVH hA with ⟨h1, h2, _⟩ | ⟨h1, hh⟩ <;> rcases hVH hA' with ⟨h1', h2', _⟩ | ⟨h1', hh'⟩
    · rw [φlt h2] at hu
      rw [φlt h2'] at hu'
      exact x2.inj b b' k k' u u' g h1 h1' hl hl' hu hu' hg hg'
    · exact (mix h1 h2 h1' hh' hl hl' hu hu' hg hg').elim
    · exact (mix h1' h2' h1 hh hl' hl hu' hu hg' hg).elim
    · rw [hidφ h1 hh] at hu
      rw [hidφ h1' hh'] at hu'
      exact I.inj b b' k k' m m' u u' g h1 h1' hl hl' hu hu' hg hg'
  · rw [x1.frame k (Nat.lt_of_lt_of_le hk I.wsize) (fun h => ?_), I.frame k hk hf]
    obtain ⟨b1, blk1, m1, u1, hA1, _, _, hl1, hu1, hg1⟩ := hfoot h
    rcases I.foot b1 blk1 m1 u1 k hA1 hl1 hu1 hg1 with h | h
    · exact hf h
    · omega
  · rcases hVH hA with ⟨h1, h2, _⟩ | ⟨h1, hh⟩
    · rw [φlt h2] at hu
      rcases x1.foot k ⟨b, blk, u, h1, hl, hu, hg⟩ with h | h
      · obtain ⟨b1, blk1, m1, u1, hA1, _, _, hl1, hu1, hg1⟩ := hfoot h
        exact I.foot b1 blk1 m1 u1 k hA1 hl1 hu1 hg1
      · exact .inr (Nat.le_trans I.wsize h)
    · rw [hidφ h1 hh] at hu
      exact I.foot b blk m u k h1 hl hu hg
  · by_cases e : σ'.M p = σ.M p
    · exact I.new p (by rw [← e]; exact hp)
    · rcases x1.new p e with h | h
      · obtain ⟨b1, blk1, m1, u1, hA1, _, _, hl1, hu1, hg1⟩ := hfoot h
        exact I.foot b1 blk1 m1 u1 p.block hA1 hl1 hu1 hg1
      · exact .inr (Nat.le_trans I.wsize h)
  · have hbl : b < (Hs j).length := by have := (List.getElem?_eq_some_iff.1 hb).1; omega
    have hd : G[b]? = some .dead := by
      have hgb : b < G.length := by rw [hS.len]; exact hbl
      by_cases e : G[b] = .dead
      · rw [List.getElem?_eq_getElem hgb, e]
      · exfalso
        obtain ⟨m, _, hA⟩ := hS.at_ b _ (List.getElem?_eq_getElem hgb) e
        rcases hA with ⟨k, a1, a2, _⟩ | ⟨_, a2, _⟩
        · exact (X.wsU k (hL k a1) b a2).2 hb
        · rw [hb] at a2; exact e (Option.some.inj a2).symm
    rw [φlt (by omega), (x1.dead b hd).2 n, trunc_φ hbl]
    exact I.dead b n hb

/-- ALL HAVE COME UP. -/
theorem DInv.done (X : Lex P pr ws U l s H st Hs v) {σb : Sg} {w0 : World} {L : Nat → Prop} {σ : Sg} {a : Act} {w : World} (hb : HR σb H w0)
    (I : DInv l ws s H Hs v σb w0 L σ a w) (hL : ∀ i, L i ↔ i < l.length) (nb : Nat) : ExtN nb σb H w0 σ (Hs l.length) w ∧ HR σ (Hs l.length) w ∧ SS σ (st l.length) a := by
  have hcont : ∀ {b : Nat} {blk : ABlk}, (Hs l.length)[b]? = some blk → ∃ m, At ws H Hs L b blk m := by
    intro b blk h
    obtain ⟨m, _, hA⟩ := X.hist (Nat.le_refl _) h
    exact ⟨m, hA.congr fun k _ => (hL k).symm⟩
  have hH0 : H.length ≤ (Hs l.length).length := by have := X.mono (Nat.zero_le l.length) (Nat.le_refl _); rwa [X.H0] at this
  refine ⟨⟨I.M, fun b n u _ hu => ?_, I.os, I.tape, I.output, I.wsize, I.frame, ?_, I.new, fun b _ hd => ⟨X.deadH hd (Nat.le_refl _), fun n => I.dead b n hd⟩⟩, ⟨I.mem, fun b k h => ?_, fun b n h => ?_, fun b b' k k' u u' g h h' hl hl' hu hu' hg hg' => ?_⟩, ⟨I.defers, ?_⟩⟩
  · rcases Nat.lt_or_ge b H.length with h | h
    · exact I.φ b n u h hu
    · rw [hb.fresh b n h] at hu; cases hu
  · rintro k ⟨b, blk, u, h, hl, hu, hg⟩
    obtain ⟨m, hA⟩ := hcont h
    exact I.foot b blk m u k hA hl hu hg
  · obtain ⟨m, hA⟩ := hcont h
    exact (I.blk b k m hA).keep trunc_le_self (fun n => by rw [trunc_φ hA.lt]) fun _ _ _ _ _ => ⟨rfl, fun _ _ => rfl⟩
  · refine I.none b n (by omega) fun k hk hkb => ?_
    have := X.mono (k := k + 1) (m := l.length) ((hL k).1 hk) (Nat.le_refl _)
    omega
  · obtain ⟨m, hA⟩ := hcont h
    obtain ⟨m', hA'⟩ := hcont h'
    exact I.inj b b' k k' m m' u u' g hA hA' hl hl' hu hu' hg hg'
  · have hstl := X.stlen (Nat.le_refl l.length)
    refine ⟨by have := I.size; rw [hstl]; simpa using this.symm, fun t c u hcc hu => ?_⟩
    have ht : t < s.length := by rw [← hstl]; exact (List.getElem?_eq_some_iff.1 hcc).1
    obtain ⟨m, _, hA⟩ := X.shist ht (Nat.le_refl _)
    have hA' : SlAt l s H Hs v L t ((st l.length).getD t .any) m := hA.congr fun k _ => (hL k).symm
    have := (I.slot t _ m ht hA').mono trunc_le_self
    have hu' : a.tmps[t]? = some u := by simpa using hu
    simpa [hcc, hu'] using this

theorem compL_len {hint : Nat → Option Md} {ops : Array Oper} : ∀ {os : List Oper} {l : List Ins}, compL P hint ops os = some l → os.length = l.length ∧ ∀ (j : Nat) (o : Oper), os[j]? = some o → ∃ i, l[j]? = some i ∧ compIns P hint ops o = some i
  | [], l, h => by simp [compL] at h; subst h; exact ⟨rfl, fun j o h => by simp at h⟩
  | o :: os, l, h => by
    simp only [compL] at h
    split at h
    · rename_i i l' e1 e2
      cases h
      obtain ⟨h1, h2⟩ := compL_len e2
      refine ⟨by simp [h1], fun j o' ho => ?_⟩
      cases j with
      | zero => simp at ho; subst ho; exact ⟨i, rfl, e1⟩
      | succ j => simp at ho; simpa using h2 j o' ho
    · cases h

/-- A REGION THAT DRAWS ITS ORDER. -/
theorem W.dregS {nb : Nat} {hint : Nat → Option Md} {Q : APost} (hm : P.follows .mixedOrders = true) (X : Lex P pr ws U l s H st Hs v)
    (hseen : ∀ (L : Nat → Prop) (j : Nat) (i : Ins), (∀ i, L i → i < l.length) → (∀ i, L i → ∀ k ∈ pr.getD i [], L k) → l[j]? = some i → ¬ L j → (∀ k ∈ pr.getD j [], L k) → ∃ G G', Seen P ws U H st Hs v L j i G G')
    (e4 : Q .normal (st l.length) (Hs l.length)) : W P hint nb (.dreg pr l) s H Q := by
  intro c hcomp σb a w0 h hs
  obtain ⟨id, ops, rfl, hl, rfl⟩ := comp_dreg hcomp
  obtain ⟨hlen, hins⟩ := compL_len hl
  have hsz : ops.size = l.length := by simpa using hlen
  have hpr : ∀ (j : Nat) (o : Oper), ops[j]? = some o → ∀ k, k ∈ (prOf ops).getD j [] ↔ ∃ e ∈ o.after, Region.binds .any e = true ∧ e.on = k := by
    intro j o ho k
    have ho' : ops.toList[j]? = some o := by simpa using ho
    simp [prOf, ho', and_assoc]
  have main : ∀ (fuel : Nat) (listed : Array Bool) (σ : Sg) (a : Act) (w : World), listed.size = ops.size → (ops.size ≤ fuel + ((List.range ops.size).filter fun i => listed.getD i false).length) →
      (∀ i, listed.getD i false = true → ∀ k ∈ (prOf ops).getD i [], listed.getD k false = true) → DInv l ws s H Hs v σb w0.drew (fun i => listed.getD i false = true) σ a w → wpAny P .any ops (Lift nb Q σb H w0) fuel listed a w := by
    have fin : ∀ (listed : Array Bool) (σ : Sg) (a : Act) (w : World), listed.size = ops.size → (∀ i, i < ops.size → listed.getD i false = true) → DInv l ws s H Hs v σb w0.drew (fun i => listed.getD i false = true) σ a w →
        Lift nb Q σb H w0 .normal a w := by
      intro listed σ a w hls hall I
      have hlt : ∀ i, listed.getD i false = true → i < l.length := fun i hi => by
        rcases Nat.lt_or_ge i l.length with h' | h'
        · exact h'
        · rw [show listed.getD i false = false by simp [Array.getElem?_eq_none (show listed.size ≤ i by omega)]] at hi
          cases hi
      obtain ⟨d1, d2, d3⟩ := I.done X h.drew (fun i => ⟨hlt i, fun hi => hall i (by omega)⟩) nb
      exact ⟨σ, _, _, ((Ext.drew σb H w0).toN nb).trans d1, d2, d3, e4⟩
    intro fuel
    induction fuel with
    | zero =>
      intro listed σ a w hls hcnt hcl I
      have hall : ∀ i, i < ops.size → listed.getD i false = true := by
        have h1 : ((List.range ops.size).filter fun i => listed.getD i false).length = (List.range ops.size).length := by
          have h2 := List.length_filter_le (fun i => listed.getD i false) (List.range ops.size)
          have h3 : (List.range ops.size).length = ops.size := List.length_range
          omega
        intro i hi
        exact List.length_filter_eq_length_iff.1 h1 i (List.mem_range.2 hi)
      refine ⟨?_, fin listed σ a w hls hall I⟩
      rw [List.eq_nil_iff_forall_not_mem]
      intro i hi
      obtain ⟨h1, o, h2, _⟩ := mem_ready.1 hi
      have h3 := hall i (Array.getElem?_eq_some_iff.1 h2).1
      have hlt : i < listed.size := by have := (Array.getElem?_eq_some_iff.1 h2).1; omega
      simp [hlt] at h1 h3
      rw [h1] at h3; cases h3
    | succ fuel ih =>
      intro listed σ a w hls hcnt hcl I
      have hun : ∀ i, i < ops.size → (listed.getD i false = true ∨ listed.getD i true = false) := by
        intro i hi
        have hlt : i < listed.size := by omega
        cases hb : listed[i] <;> simp [hlt, hb]
      refine ⟨fun hr => fin listed σ a w hls ?_ I, fun i hi => ?_⟩
      · intro i
        induction i using Nat.strongRecOn with
        | _ i ihi =>
          intro hi
          rcases hun i hi with h1 | h1
          · exact h1
          · exfalso
            have ho : ops[i]? = some ops[i] := Array.getElem?_eq_getElem hi
            have : i ∈ Region.ready .any ops listed := mem_ready.2 ⟨h1, _, ho, fun e he hbd => by
              have hk : e.on ∈ (prOf ops).getD i [] := (hpr i _ ho e.on).2 ⟨e, he, hbd, rfl⟩
              have hlt := X.pred (by omega) hk
              exact ihi e.on hlt (by omega)⟩
            rw [hr] at this; cases this
      · obtain ⟨h1, o, ho, h2⟩ := mem_ready.1 hi
        have hio := (Array.getElem?_eq_some_iff.1 ho).1
        have hlt : i < listed.size := by omega
        have hf : listed.getD i false = false := by simp [hlt] at h1 ⊢; exact h1
        obtain ⟨ins, hi1, hi2⟩ := hins i o (by simpa using ho)
        have hpi : ∀ k ∈ (prOf ops).getD i [], listed.getD k false = true := fun k hk => by
          obtain ⟨e, he, hb, rfl⟩ := (hpr i o ho k).1 hk
          exact h2 e he hb
        have hsetL : ∀ k, (listed.setIfInBounds i true).getD k false = true ↔ (listed.getD k false = true ∨ k = i) := fun k => by
          by_cases e : i = k
          · subst e; simp [hlt]
          · rw [getD_set_ne false e]
            exact ⟨.inl, fun h' => h'.resolve_right (fun e' => e e'.symm)⟩
        have hLl : ∀ k, listed.getD k false = true → k < l.length := fun k hk => by
          rcases Nat.lt_or_ge k l.length with h' | h'
          · exact h'
          · rw [show listed.getD k false = false by simp [Array.getElem?_eq_none (show listed.size ≤ k by omega)]] at hk; cases hk
        obtain ⟨G, G', hS⟩ := hseen _ i _ hLl hcl hi1 (by rw [hf]; exact Bool.false_ne_true) hpi
        refine I.next (hint := hint) (Q := Lift nb Q σb H w0) X hLl hcl hi1 ho hi2 (by rw [hf]; exact Bool.false_ne_true) hpi hS (fun σ' a' w' I' => ?_)
        · refine ih (listed.setIfInBounds i true) σ' a' w' (by simpa using hls) ?_ (fun k hk m hm' => ?_) ?_
          · have hlt2 : ((List.range ops.size).filter fun k => listed.getD k false).length < ((List.range ops.size).filter fun k => (listed.setIfInBounds i true).getD k false).length := by
              have hsplit : List.range ops.size = List.range i ++ i :: (List.range' (i + 1) (ops.size - i - 1)) := by
                have e1 : List.range' 0 i ++ List.range' (0 + i) (ops.size - i - 1 + 1) = List.range' 0 (i + (ops.size - i - 1 + 1)) := List.range'_append_1
                have e2 : List.range' i (ops.size - i - 1 + 1) = i :: List.range' (i + 1) (ops.size - i - 1) := List.range'_succ
                rw [Nat.zero_add, e2, show i + (ops.size - i - 1 + 1) = ops.size by omega] at e1
                rw [List.range_eq_range', List.range_eq_range', e1]
              have key : ∀ (p q : Nat → Bool) (xs : List Nat), (∀ x, p x = true → q x = true) → (xs.filter p).length ≤ (xs.filter q).length := by
                intro p q xs hpq
                induction xs with
                | nil => exact Nat.le_refl _
                | cons x xs ihx =>
                  simp only [List.filter_cons]
                  by_cases hp : p x = true
                  · simp [hp, hpq x hp]; omega
                  · by_cases hq : q x = true
                    · simp [hp, hq]; omega
                    · simp [hp, hq]; omega
              have hpq : ∀ x, listed.getD x false = true → (listed.setIfInBounds i true).getD x false = true := fun x hx => (hsetL x).2 (.inl hx)
              rw [hsplit, List.filter_append, List.filter_append, List.length_append, List.length_append, List.filter_cons, List.filter_cons]
              have k1 := key (fun k => listed.getD k false) (fun k => (listed.setIfInBounds i true).getD k false) (List.range i) hpq
              have k2 := key (fun k => listed.getD k false) (fun k => (listed.setIfInBounds i true).getD k false) (List.range' (i + 1) (ops.size - i - 1)) hpq
              rw [if_neg (by rw [hf]; exact Bool.false_ne_true), if_pos ((hsetL i).2 (.inr rfl)), List.length_cons]
              omega
            omega
          · rcases (hsetL k).1 hk with h' | h'
            · exact (hsetL m).2 (.inl (hcl k h' m hm'))
            · subst h'; exact (hsetL m).2 (.inl (hpi m hm'))
          · have : (fun k => (listed.setIfInBounds i true).getD k false = true) = (fun k => listed.getD k false = true ∨ k = i) := funext fun k => propext (hsetL k)
            rw [this]; exact I'
  have hfalse : ∀ i, (Array.replicate ops.size false).getD i false = false := fun i => by
    by_cases hi : i < ops.size <;> simp [hi]
  refine wp_region_any hm (main ops.size _ σb a w0.drew (by simp) (by omega) (fun i hi => by rw [hfalse i] at hi; cases hi) ?_)
  have : (fun i => (Array.replicate ops.size false).getD i false = true) = (fun _ => False) := funext fun i => propext ⟨fun hi => absurd ((hfalse i).symm.trans hi) Bool.false_ne_true, False.elim⟩
  rw [this]
  exact DInv.start h.drew hs

theorem W.dreg {nb : Nat} {hint : Nat → Option Md} {Q : APost} (ws U : List (List Nat)) (hm : P.follows .mixedOrders = true) (hok : drawOk pr l = true) (hU : (List.range l.length).map (killsOf pr ws l.length) = U)
    (hc : DChain P ws U H 0 l s H (Q .normal)) : W P hint nb (.dreg pr l) s H Q := by
  obtain ⟨st, Hs, v, e1, e2, e3, e4⟩ := hc.seq
  simp only [Nat.zero_add] at e3 e4
  have X : Lex P pr ws U l s H st Hs v := ⟨e1, e2, fun k i hk => (e3 k i hk).2.1, fun k b hk hb => (e3 k _ (List.getElem?_eq_getElem hk)).2.2.1 b hb, fun k hk => (e3 k _ (List.getElem?_eq_getElem hk)).2.2.2.1, fun k hk => (e3 k _ (List.getElem?_eq_getElem hk)).2.2.2.2, hok, hU⟩
  exact .dregS hm X (fun L j i hL hdc hj hnj hpj => ⟨_, _, X.hard hL hdc (List.getElem?_eq_some_iff.1 hj).1 hnj hpj (e3 j i hj).1⟩) e4

end
end Go.Proofs.YtmgmoamcbnkbfaaGreatDoor
