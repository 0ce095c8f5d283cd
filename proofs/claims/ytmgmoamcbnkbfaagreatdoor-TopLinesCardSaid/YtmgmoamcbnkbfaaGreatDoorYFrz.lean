/-
  One's own library, part 16: freezing: what nobody will write any more becomes data.
-/
import Derived.Test.YtmgmoamcbnkbfaaGreatDoorYDraw3
set_option linter.unusedVariables false
set_option linter.unusedSimpArgs false
set_option linter.unusedSectionVars false
namespace Go.Proofs.YtmgmoamcbnkbfaaGreatDoor
set_option linter.unusedSimpArgs false
set_option linter.unusedVariables false
open Go.RowKit

/-- A value that can be read as data: all blocks it lies in are of those that are frozen. -/
inductive Fz (F : Nat → Prop) (H : List ABlk) : AV → Dat → Prop
  | d {x : Dat} : Fz F H (.d x) x
  | esl : Fz F H .esl (.sl [])
  | gsl {b sz : Nat} {es : List (List Dat)} : Fz F H (.gsl b sz es) (.sl es)
  | hsl {b off n cap sz : Nat} {cs : List AV} {es : List (List Dat)} : F b → H[b]? = some (.cells cs) → es.length = n → (∀ e ∈ es, e.length = sz) → off + n * sz ≤ cs.length →
      (∀ (i : Nat) (e : List Dat) (j : Nat) (d : Dat), es[i]? = some e → e[j]? = some d → Fz F H (cs.getD (off + i * sz + j) .any) d) → Fz F H (.hsl b off n cap sz) (.sl es)
/-- What is kept, and what is frozen. -/
inductive FzA (F : Nat → Prop) (H : List ABlk) : AV → AV → Prop
  | keep (x : AV) : FzA F H x x
  | any (x : AV) : FzA F H x .any
  | d {x : AV} {y : Dat} : Fz F H x y → FzA F H x (.d y)
  | agg {cs cs' : List AV} : cs.length = cs'.length → (∀ (i : Nat) (c c' : AV), cs[i]? = some c → cs'[i]? = some c' → FzA F H c c') → FzA F H (.agg cs) (.agg cs')
  | tup {cs cs' : List AV} : cs.length = cs'.length → (∀ (i : Nat) (c c' : AV), cs[i]? = some c → cs'[i]? = some c' → FzA F H c c') → FzA F H (.tup cs) (.tup cs')
inductive FzL (F : Nat → Prop) (H : List ABlk) : List AV → List AV → Prop
  | nil : FzL F H [] []
  | cons {x y : AV} {xs ys : List AV} : FzA F H x y → FzL F H xs ys → FzL F H (x :: xs) (y :: ys)
theorem FzL.rfl {F : Nat → Prop} {H : List ABlk} : ∀ (xs : List AV), FzL F H xs xs
  | [] => .nil
  | x :: xs => .cons (.keep x) (FzL.rfl xs)
theorem FzL.at_ {F : Nat → Prop} {H : List ABlk} {xs ys : List AV} (h : FzL F H xs ys) : xs.length = ys.length ∧ ∀ (i : Nat) (c c' : AV), xs[i]? = some c → ys[i]? = some c' → FzA F H c c' := by
  induction h with
  | nil => exact ⟨Eq.refl _, fun i c c' h => by simp at h⟩
  | cons h1 _ ih =>
    refine ⟨by simp [ih.1], fun i c c' h k => ?_⟩
    cases i with
    | zero => simp at h k; subst h; subst k; exact h1
    | succ i => simp at h k; exact ih.2 i c c' h k
theorem FzA.aggL {F : Nat → Prop} {H : List ABlk} {xs ys : List AV} (h : FzL F H xs ys) : FzA F H (.agg xs) (.agg ys) := .agg h.at_.1 h.at_.2
theorem FzA.tupL {F : Nat → Prop} {H : List ABlk} {xs ys : List AV} (h : FzL F H xs ys) : FzA F H (.tup xs) (.tup ys) := .tup h.at_.1 h.at_.2

/-- The frozen blocks' memory. -/
def newAt (σ : Sg) (H : List ABlk) (F : Nat → Prop) (g : Nat) : Prop := ∃ b cs, F b ∧ H[b]? = some (.cells cs) ∧ σ.φ b 0 = some (.pointer (some ⟨g, 0, none⟩))
open Classical in
noncomputable def frM (σ : Sg) (H : List ABlk) (F : Nat → Prop) (w : World) : Mem := fun a => if newAt σ H F a.block then w.cell? a else σ.M a
noncomputable def frS (σ : Sg) (H : List ABlk) (F : Nat → Prop) (w : World) : Sg := ⟨frM σ H F w, σ.φ⟩

section
variable {σ : Sg} {H : List ABlk} {w : World} {F : Nat → Prop} (hr : HR σ H w)
include hr
theorem newAt_M {g : Nat} (h : newAt σ H F g) {a : Addr} (ha : a.block = g) : σ.M a = none := by
  obtain ⟨b, cs, h1, h2, h3⟩ := h
  obtain ⟨vs, t, -, -, -, h4⟩ := hr.cellsAt h2 h3
  exact h4 a ha
theorem frM_le (a : Addr) (v : Value) (h : σ.M a = some v) : frM σ H F w a = some v := by
  unfold frM
  split
  · rename_i hn
    rw [newAt_M hr hn rfl] at h; cases h
  · exact h
theorem frS_le : σ.le (frS σ H F w) := ⟨frM_le hr, fun _ _ _ h => h⟩
omit hr in
theorem newAt_foot {g : Nat} (h : newAt σ H F g) : foot σ H g := by
  obtain ⟨b, cs, h1, h2, h3⟩ := h
  exact ⟨b, _, _, h2, rfl, h3, rfl⟩
theorem Fz.sound {x : AV} {y : Dat} (h : Fz F H x y) : ∀ {u : Value}, VR σ x u → VD (frM σ H F w) y u := by
  induction h with
  | d => intro u h; cases h with | d h => exact h.mono (frM_le hr)
  | esl => intro u h; cases h; exact .nil
  | gsl => intro u h; cases h with | gsl _ _ h => exact h.mono (frM_le hr)
  | @hsl b off n cap sz cs es hb hH hn hz ho hc ih =>
    intro u h
    cases h with
    | hsl0 _ =>
      rw [List.eq_nil_of_length_eq_zero hn]; exact .nil
    | @hsl _ g _ _ _ cap' _ N hφ hN hoN hn1 hc1 hm =>
      by_cases h0 : es = []
      · subst h0; simp at hn; subst hn; exact .nil
      obtain ⟨vs, t, k1, k2, k3, k4⟩ := hr.cellsAt hH hφ
      rw [hN] at k1
      have hNs : N = vs.size := by cases k1; rfl
      have hnew : newAt σ H F g := ⟨b, cs, hb, hH, hφ⟩
      have hidx : ∀ i e j d, es[i]? = some e → e[j]? = some d → off + i * sz + j < cs.length := fun i e j d hi hj => by
        obtain ⟨q1, q2⟩ := List.getElem?_eq_some_iff.1 hi
        obtain ⟨q3, _⟩ := List.getElem?_eq_some_iff.1 hj
        have := hz e (by rw [← q2]; exact List.getElem_mem _)
        have : (i + 1) * sz ≤ n * sz := Nat.mul_le_mul_right _ (by omega)
        rw [Nat.succ_mul] at this
        omega
      have hlen : cs.length ≤ vs.size := by
        have h1 := k3.1
        have h2 : vs.toList.length = vs.size := Array.length_toList
        rw [List.length_take, h2] at h1
        omega
      rw [← hn]
      refine VD.sl (sz := sz) (fun i j => vs.getD (off + i * sz + j) undef) h0 (by omega) hm hz (fun i e j d hi hj => ?_) (fun i e j d hi hj => ?_)
      · have hk := hidx i e j d hi hj
        rw [addr_lit]
        unfold frM
        rw [if_pos hnew]
        have hvs : off + i * sz + j < vs.size := by omega
        simp only [World.cell?, k2]
        rw [show off + (i * sz + j) = off + i * sz + j by omega, Array.getD_eq_getD_getElem?, Array.getElem?_eq_getElem hvs]
        simp
      · have hk := hidx i e j d hi hj
        refine ih i e j d hi hj ?_
        have := k3.getD (off + i * sz + j) undef
        rwa [show (vs.toList.take cs.length).getD (off + i * sz + j) undef = vs.getD (off + i * sz + j) undef by
          rw [List.getD_eq_getElem?_getD, List.getElem?_take_of_lt hk, Array.getElem?_toList, Array.getD_eq_getD_getElem?]] at this
theorem FzA.sound {x y : AV} (h : FzA F H x y) : ∀ {u : Value}, VR σ x u → VR (frS σ H F w) y u := by
  induction h with
  | keep x => exact fun h => h.mono (frS_le hr)
  | any => exact fun _ => .any
  | d h => exact fun hv => .d (h.sound hr hv)
  | @agg cs cs' hl _ ih =>
    intro u h
    cases h with
    | agg h1 h2 =>
      refine .agg (hl ▸ h1) fun i c' u hi hu => ?_
      have hlt : i < cs.length := by rw [hl]; exact (List.getElem?_eq_some_iff.1 hi).1
      exact ih i _ c' (List.getElem?_eq_getElem hlt) hi (h2 i _ u (List.getElem?_eq_getElem hlt) hu)
  | @tup cs cs' hl _ ih =>
    intro u h
    cases h with
    | tup h1 h2 =>
      refine .tup (hl ▸ h1) fun i c' u hi hu => ?_
      have hlt : i < cs.length := by rw [hl]; exact (List.getElem?_eq_some_iff.1 hi).1
      exact ih i _ c' (List.getElem?_eq_getElem hlt) hi (h2 i _ u (List.getElem?_eq_getElem hlt) hu)
theorem FzL.sound {xs ys : List AV} (h : FzL F H xs ys) {us : List Value} (hv : VRs σ xs us) : VRs (frS σ H F w) ys us := by
  have hl := h.at_
  refine ⟨by rw [← hl.1]; exact hv.1, fun i c u hi hu => ?_⟩
  have hlt : i < xs.length := by rw [hl.1]; exact (List.getElem?_eq_some_iff.1 hi).1
  exact (hl.2 i _ c (List.getElem?_eq_getElem hlt) hi).sound hr (hv.2 i _ u (List.getElem?_eq_getElem hlt) hu)
end
/-- How the heap may change by freezing: what is frozen is dead; what is kept may hold what is frozen. -/
structure FzH (nb : Nat) (F : Nat → Prop) (H H' : List ABlk) : Prop where
  len : H'.length = H.length
  dead : ∀ b, F b → nb ≤ b ∧ ∀ k, H'[b]? = some k → k = .dead
  keep : ∀ (b : Nat) (k : ABlk), ¬ F b → H'[b]? = some k → H[b]? = some k ∨ ∃ cs cs', H[b]? = some (.cells cs) ∧ k = .cells cs' ∧ FzL F H cs cs'
/-- FREEZING. -/
theorem Wk.freeze {nb : Nat} {s s' : List AV} {H H' : List ABlk} (F : Nat → Prop) (hs : FzL F H s s') (hH : FzH nb F H H') : Wk nb s H s' H' := fun a σ w hr ha => by
  have hle := frS_le (F := F) hr
  have live : ∀ (b : Nat) (k : ABlk), H'[b]? = some k → k.live = true → ¬ F b ∧ ∃ k0, H[b]? = some k0 ∧ k0.live = true ∧ k0.ver = k.ver := fun b k hb hl => by
    have hn : ¬ F b := fun h => by rw [(hH.dead b h).2 k hb] at hl; cases hl
    refine ⟨hn, ?_⟩
    rcases hH.keep b k hn hb with h | ⟨cs, cs', h1, rfl, -⟩
    · exact ⟨k, h, hl, rfl⟩
    · exact ⟨_, h1, rfl, rfl⟩
  refine ⟨frS σ H F w, ⟨frM_le hr, fun b n v hb hv => hv, rfl, rfl, rfl, Nat.le_refl _, fun _ _ _ => rfl, ?_, fun a h => ?_, fun b hb hd => ?_⟩, ⟨⟨fun a v h => ?_, hr.mem.gl.mono (frM_le hr), hr.mem.sz⟩, fun b k hb => ?_, fun b n h => hr.fresh b n (by rw [← hH.len]; exact h), fun b b' k k' v v' g hb hb' hl hl' hv hv' hg hg' => ?_⟩, ha.defers, hs.sound hr ha.tmps⟩
  · rintro k ⟨b, blk, v', hb', hl, hv', hc'⟩
    obtain ⟨-, k0, h0, h1, h2⟩ := live b blk hb' hl
    exact .inl ⟨b, k0, v', h0, h1, by rw [h2]; exact hv', hc'⟩
  · by_cases hnw : newAt σ H F a.block
    · exact .inl (newAt_foot hnw)
    · exact absurd (show frM σ H F w a = σ.M a from if_neg hnw) h
  · refine ⟨?_, fun _ => rfl⟩
    have hlt : b < H'.length := by rw [hH.len]; exact (List.getElem?_eq_some_iff.1 hd).1
    have hg := List.getElem?_eq_getElem hlt
    have hn : ¬ F b := fun h => by have := (hH.dead b h).1; omega
    rcases hH.keep b _ hn hg with h | ⟨cs, cs', h1, h2, -⟩
    · rw [hg, ← h, hd]
    · rw [h1] at hd; cases hd
  · have h : frM σ H F w a = some v := h
    unfold frM at h
    split at h
    · exact h
    · exact hr.mem a v h
  · by_cases hn : F b
    · rw [(hH.dead b hn).2 k hb]; trivial
    have away : ∀ (k0 : ABlk) (v : Value) (g : Nat), H[b]? = some k0 → k0.live = true → σ.φ b k0.ver = some v → conc v = some g → ∀ a : Addr, a.block = g → frM σ H F w a = σ.M a := fun k0 v g h0 hl hv hg a ha => by
      refine if_neg fun hnw => ?_
      rw [ha] at hnw
      obtain ⟨b2, cs, g1, g2, g3⟩ := hnw
      exact hn (hr.inj b b2 k0 _ v _ g h0 g2 hl rfl hv g3 hg rfl ▸ g1)
    rcases hH.keep b k hn hb with h0 | ⟨cs, cs', h0, rfl, hz⟩
    · exact (hr.blk b k h0).keep hle (fun _ => rfl) fun v g hl hv hg => ⟨rfl, away k v g h0 hl hv hg⟩
    · rcases hr.blk b _ h0 with ⟨g, vs, t, h1, h2, h3, h4, h5⟩ | ⟨rfl, v, h1, h2⟩
      · refine .inl ⟨g, vs, t, h1, h2, h3, ?_, fun a ha => ?_⟩
        · have := hz.sound hr h4
          rwa [hz.at_.1] at this
        · exact (away _ _ g h0 rfl h1 rfl a ha).trans (h5 a ha)
      · cases hz
        exact .inr ⟨rfl, v, h1, h2⟩
  · obtain ⟨-, k0, q0, q1, q2⟩ := live b k hb hl
    obtain ⟨-, k0', q0', q1', q2'⟩ := live b' k' hb' hl'
    exact hr.inj b b' k0 k0' v v' g q0 q0' q1 q1' (by rw [q2]; exact hv) (by rw [q2']; exact hv') hg hg'
/-- A call, with its arguments known less well. -/
theorem ACalls.pre {P : Program} {f : FuncId} {args args' : List AV} {H H0 : List ABlk} {R : AV → List ABlk → Prop} (hk : Wk H.length args H args' H0) (h : ACalls P f args' H0 R) : ACalls P f args H R := fun σ w vs h1 h2 => by
  obtain ⟨σ1, x1, x2, x3⟩ := hk { tmps := vs.toArray, defers := [] } σ w h1 ⟨rfl, by simpa using h2⟩
  refine (h σ1 w vs x2 (by simpa using x3.tmps)).mono fun e w' he => ?_
  obtain ⟨σ', H', v, u, e1, y1, y2, y3, y4⟩ := he
  exact ⟨σ', H', v, u, e1, (x1.trans (y1.toN _)).full h1, y2, y3, y4⟩
/-- A call, with its result known less well. -/
theorem ACalls.wk {P : Program} {f : FuncId} {args : List AV} {H : List ABlk} {R R' : AV → List ABlk → Prop} (h : ACalls P f args H R) (hk : ∀ v H', R v H' → ∃ v0 H0, Wk H.length [v] H' [v0] H0 ∧ R' v0 H0) : ACalls P f args H R' := fun σ w vs h1 h2 => by
  refine (h σ w vs h1 h2).mono fun e w' he => ?_
  obtain ⟨σ', H', v, u, e1, y1, y2, y3, y4⟩ := he
  obtain ⟨v0, H0, k1, k2⟩ := hk v H' y4
  obtain ⟨σ2, z1, z2, z3⟩ := k1 { tmps := #[u], defers := [] } σ' w' y2 ⟨rfl, .cons y3 .nil⟩
  exact ⟨σ2, H0, v0, u, e1, ((y1.toN _).trans z1).full h1, z2, z3.tmps.2 0 v0 u rfl rfl, k2⟩
/-- Handed out frozen; the call's own blocks are forgotten. -/
theorem Ret.freeze {nb : Nat} {rs : List RC} {R : AV → List ABlk → Prop} {v : AV} {l : List ABlk} (v0 : AV) (H0 : List ABlk) (hn : nb ≤ H0.length) (hc : cl H0) (hv : FzA (fun b => H0.length ≤ b) (H0 ++ l) v v0) (hr : ∀ r ∈ refs v0, r < H0.length) (h : R v0 H0) : Ret rs nb R (some v) (H0 ++ l) := by
  refine ⟨v, rfl, v0, H0, (Wk.freeze (fun b => H0.length ≤ b) (s' := [v0]) (H' := H0 ++ List.replicate l.length .dead) (.cons hv .nil) ⟨by simp, fun b hb => ⟨by omega, fun k hk => ?_⟩, fun b k hb hk => .inl ?_⟩).trans (Wk.drop (.cons (.rfl _) .nil) hn hc (fun r hr' => hr r (by simpa [refs.refsL] using hr'))), h⟩
  · rw [List.getElem?_append_right hb] at hk
    exact (List.eq_of_mem_replicate (List.mem_of_getElem? hk))
  · have hlt : b < H0.length := by omega
    rw [List.getElem?_append_left hlt] at hk ⊢
    exact hk
end Go.Proofs.YtmgmoamcbnkbfaaGreatDoor
