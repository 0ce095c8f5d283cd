/-
  One's own library, part 16: freezing: what nobody will write any more becomes data.
-/
import Derived.Test.YthifjndenhjobaaZDraw3
import Derived.Test.YthifjndenhjobaaZJ5
namespace Go.Proofs.Ythifjndenhjobaa
set_option linter.unusedSimpArgs false
set_option linter.unusedVariables false
open Go.RowKit

inductive Fz (F : Nat → Prop) (H : List ABlk) : AV → Dat → Prop
 | d {x : Dat} : Fz F H (.d x) x
 | esl : Fz F H .esl (.sl [])
 | gsl {b sz : Nat} {es : List (List Dat)} : Fz F H (.gsl b sz es) (.sl es)
 | hsl {b off n cap sz : Nat} {cs : List AV} {es : List (List Dat)} : F b → H[b]? = some (.cells cs) → es.length = n → (∀ e ∈ es, e.length = sz) → off + n * sz ≤ cs.length →
  (∀ (i : Nat) (e : List Dat) (j : Nat) (d : Dat), es[i]? = some e → e[j]? = some d → Fz F H (cs.getD (off + i * sz + j) .any) d) → Fz F H (.hsl b off n cap sz) (.sl es)
inductive FzA (F : Nat → Prop) (H : List ABlk) : AV → AV → Prop
 | keep (x : AV) : FzA F H x x
 | any (x : AV) : FzA F H x .any
 | d {x : AV} {y : Dat} : Fz F H x y → FzA F H x (.d y)
 | agg {cs cs' : List AV} : cs.length = cs'.length → (∀ (i : Nat) (c c' : AV), cs[i]? = some c → cs'[i]? = some c' → FzA F H c c') → FzA F H (.agg cs) (.agg cs')
 | tup {cs cs' : List AV} : cs.length = cs'.length → (∀ (i : Nat) (c c' : AV), cs[i]? = some c → cs'[i]? = some c' → FzA F H c c') → FzA F H (.tup cs) (.tup cs')
inductive FzL (F : Nat → Prop) (H : List ABlk) : List AV → List AV → Prop
 | nil : FzL F H [] []
 | cons {x y : AV} {xs ys : List AV} : FzA F H x y → FzL F H xs ys → FzL F H (x :: xs) (y :: ys)
theorem FzL.rfl {F : Nat → Prop} {H : List ABlk} : ∀ (xs : List AV), FzL F H xs xs
 | [] => .nil
 | x :: xs => .cons (.keep x) (FzL.rfl xs)
theorem FzL.at_ {F : Nat → Prop} {H : List ABlk} {xs ys : List AV} (h : FzL F H xs ys) : xs.length = ys.length ∧ ∀ (i : Nat) (c c' : AV), xs[i]? = some c → ys[i]? = some c' → FzA F H c c' := by
 induction h with
 | nil => exact ⟨Eq.refl _, fun i c c' h => by simp at h⟩
 | cons h1 _ ih =>
  refine ⟨by simp [ih.1], fun i c c' h k => ?_⟩
  cases i with
  | zero => simp at h k; subst h; subst k; exact h1
  | succ i => simp at h k; exact ih.2 i c c' h k
theorem FzA.aggL {F : Nat → Prop} {H : List ABlk} {xs ys : List AV} (h : FzL F H xs ys) : FzA F H (.agg xs) (.agg ys) := .agg h.at_.1 h.at_.2
theorem FzA.tupL {F : Nat → Prop} {H : List ABlk} {xs ys : List AV} (h : FzL F H xs ys) : FzA F H (.tup xs) (.tup ys) := .tup h.at_.1 h.at_.2

def newAt (σ : Sg) (H : List ABlk) (F : Nat → Prop) (g : Nat) : Prop := ∃ b cs, F b ∧ H[b]? = some (.cells cs) ∧ σ.φ b 0 = some (.pointer (some ⟨g, 0, none⟩))
open Classical in
noncomputable def frM (σ : Sg) (H : List ABlk) (F : Nat → Prop) (w : World) : Mem := fun a => if newAt σ H F a.block then w.cell? a else σ.M a
noncomputable def frS (σ : Sg) (H : List ABlk) (F : Nat → Prop) (w : World) : Sg := ⟨frM σ H F w, σ.φ⟩

section
variable {σ : Sg} {H : List ABlk} {w : World} {F : Nat → Prop} (hr : HR σ H w)
include hr
theorem newAt_M {g : Nat} (h : newAt σ H F g) {a : Addr} (ha : a.block = g) : σ.M a = none := by
 obtain ⟨b, cs, h1, h2, h3⟩ := h
 obtain ⟨vs, t, -, -, -, h4⟩ := hr.cellsAt h2 h3
 exact h4 a ha
theorem frM_le (a : Addr) (v : Value) (h : σ.M a = some v) : frM σ H F w a = some v := by
 unfold frM
 split
 ·rename_i hn
  rw [newAt_M hr hn rfl] at h; cases h
 ·exact h
theorem frS_le : σ.le (frS σ H F w) := ⟨frM_le hr, fun _ _ _ h => h⟩
omit hr in
theorem newAt_foot {g : Nat} (h : newAt σ H F g) : foot σ H g := by
 obtain ⟨b, cs, h1, h2, h3⟩ := h
 exact ⟨b, _, _, h2, rfl, h3, rfl⟩
theorem Fz.sound {x : AV} {y : Dat} (h : Fz F H x y) : ∀ {u : Value}, VR σ x u → VD (frM σ H F w) y u := by
 induction h with
 | d => intro u h; cases h with | d h => exact h.mono (frM_le hr)
 | esl => intro u h; cases h; exact .nil
 | gsl => intro u h; cases h with | gsl _ _ h => exact h.mono (frM_le hr)
 | @hsl b off n cap sz cs es hb hH hn hz ho hc ih =>
  intro u h
  cases h with
  | hsl0 _ =>
   rw [List.eq_nil_of_length_eq_zero hn]; exact .nil
  | @hsl _ g _ _ _ cap' _ N hφ hN hoN hn1 hc1 hm =>
   by_cases h0 : es = []
   ·subst h0; simp at hn; subst hn; exact .nil
   obtain ⟨vs, t, k1, k2, k3, k4⟩ := hr.cellsAt hH hφ
   rw [hN] at k1
   have hNs : N = vs.size := by cases k1; rfl
   have hnew : newAt σ H F g := ⟨b, cs, hb, hH, hφ⟩
   have hidx : ∀ i e j d, es[i]? = some e → e[j]? = some d → off + i * sz + j < cs.length := fun i e j d hi hj => by
    obtain ⟨q1, q2⟩ := List.getElem?_eq_some_iff.1 hi
    obtain ⟨q3, _⟩ := List.getElem?_eq_some_iff.1 hj
    have := hz e (by rw [← q2]; exact List.getElem_mem _)
    have : (i + 1) * sz ≤ n * sz := Nat.mul_le_mul_right _ (by omega)
    rw [Nat.succ_mul] at this
    omega
   have hlen : cs.length ≤ vs.size := by
    have h1 := k3.1
    have h2 : vs.toList.length = vs.size := Array.length_toList
    rw [List.length_take, h2] at h1
    omega
   rw [← hn]
   refine VD.sl (sz := sz) (fun i j => vs.getD (off + i * sz + j) undef) h0 (by omega) hm hz (fun i e j d hi hj => ?_) (fun i e j d hi hj => ?_)
   ·have hk := hidx i e j d hi hj
    rw [addr_lit]
    unfold frM
    rw [if_pos hnew]
    have hvs : off + i * sz + j < vs.size := by omega
    simp only [World.cell?, k2]
    rw [show off + (i * sz + j) = off + i * sz + j by omega, Array.getD_eq_getD_getElem?, Array.getElem?_eq_getElem hvs]
    simp
   ·have hk := hidx i e j d hi hj
    refine ih i e j d hi hj ?_
    have := k3.getD (off + i * sz + j) undef
    rwa [show (vs.toList.take cs.length).getD (off + i * sz + j) undef = vs.getD (off + i * sz + j) undef by
     rw [List.getD_eq_getElem?_getD, List.getElem?_take_of_lt hk, Array.getElem?_toList, Array.getD_eq_getD_getElem?]] at this
theorem FzA.sound {x y : AV} (h : FzA F H x y) : ∀ {u : Value}, VR σ x u → VR (frS σ H F w) y u := by
 induction h with
 | keep x => exact fun h => h.mono (frS_le hr)
 | any => exact fun _ => .any
 | d h => exact fun hv => .d (h.sound hr hv)
 | @agg cs cs' hl _ ih =>
  intro u h
  cases h with
  | agg h1 h2 =>
   refine .agg (hl ▸ h1) fun i c' u hi hu => ?_
   have hlt : i < cs.length := by rw [hl]; exact (List.getElem?_eq_some_iff.1 hi).1
   exact ih i _ c' (List.getElem?_eq_getElem hlt) hi (h2 i _ u (List.getElem?_eq_getElem hlt) hu)
 | @tup cs cs' hl _ ih =>
  intro u h
  cases h with
  | tup h1 h2 =>
   refine .tup (hl ▸ h1) fun i c' u hi hu => ?_
   have hlt : i < cs.length := by rw [hl]; exact (List.getElem?_eq_some_iff.1 hi).1
   exact ih i _ c' (List.getElem?_eq_getElem hlt) hi (h2 i _ u (List.getElem?_eq_getElem hlt) hu)
theorem FzL.sound {xs ys : List AV} (h : FzL F H xs ys) {us : List Value} (hv : VRs σ xs us) : VRs (frS σ H F w) ys us := by
 have hl := h.at_
 refine ⟨by rw [← hl.1]; exact hv.1, fun i c u hi hu => ?_⟩
 have hlt : i < xs.length := by rw [hl.1]; exact (List.getElem?_eq_some_iff.1 hi).1
 exact (hl.2 i _ c (List.getElem?_eq_getElem hlt) hi).sound hr (hv.2 i _ u (List.getElem?_eq_getElem hlt) hu)
end
structure FzH (nb : Nat) (F : Nat → Prop) (H H' : List ABlk) : Prop where
 len : H'.length = H.length
 dead : ∀ b, F b → nb ≤ b ∧ ∀ k, H'[b]? = some k → k = .dead
 keep : ∀ (b : Nat) (k : ABlk), ¬ F b → H'[b]? = some k → H[b]? = some k ∨ ∃ cs cs', H[b]? = some (.cells cs) ∧ k = .cells cs' ∧ FzL F H cs cs'
theorem Wk.freeze {nb : Nat} {s s' : List AV} {H H' : List ABlk} (F : Nat → Prop) (hs : FzL F H s s') (hH : FzH nb F H H') : Wk nb s H s' H' := fun a σ w hr ha => by
 have hle := frS_le (F := F) hr
 have live : ∀ (b : Nat) (k : ABlk), H'[b]? = some k → k.live = true → ¬ F b ∧ ∃ k0, H[b]? = some k0 ∧ k0.live = true ∧ k0.ver = k.ver := fun b k hb hl => by
  have hn : ¬ F b := fun h => by rw [(hH.dead b h).2 k hb] at hl; cases hl
  refine ⟨hn, ?_⟩
  rcases hH.keep b k hn hb with h | ⟨cs, cs', h1, rfl, -⟩
  ·exact ⟨k, h, hl, rfl⟩
  ·exact ⟨_, h1, rfl, rfl⟩
 refine ⟨frS σ H F w, ⟨frM_le hr, fun b n v hb hv => hv, rfl, rfl, rfl, Nat.le_refl _, fun _ _ _ => rfl, ?_, fun a h => ?_, fun b hb hd => ?_⟩, ⟨fun a v h => ?_, fun b k hb => ?_, fun b n h => hr.fresh b n (by rw [← hH.len]; exact h), fun b b' k k' v v' g hb hb' hl hl' hv hv' hg hg' => ?_⟩, ha.defers, hs.sound hr ha.tmps⟩
 ·rintro k ⟨b, blk, v', hb', hl, hv', hc'⟩
  obtain ⟨-, k0, h0, h1, h2⟩ := live b blk hb' hl
  exact .inl ⟨b, k0, v', h0, h1, by rw [h2]; exact hv', hc'⟩
 ·by_cases hnw : newAt σ H F a.block
  ·exact .inl (newAt_foot hnw)
  ·exact absurd (show frM σ H F w a = σ.M a from if_neg hnw) h
 ·refine ⟨?_, fun _ => rfl⟩
  have hlt : b < H'.length := by rw [hH.len]; exact (List.getElem?_eq_some_iff.1 hd).1
  have hg := List.getElem?_eq_getElem hlt
  have hn : ¬ F b := fun h => by have := (hH.dead b h).1; omega
  rcases hH.keep b _ hn hg with h | ⟨cs, cs', h1, h2, -⟩
  ·rw [hg, ← h, hd]
  ·rw [h1] at hd; cases hd
 ·have h : frM σ H F w a = some v := h
  unfold frM at h
  split at h
  ·exact h
  ·exact hr.mem a v h
 ·by_cases hn : F b
  ·rw [(hH.dead b hn).2 k hb]; trivial
  have away : ∀ (k0 : ABlk) (v : Value) (g : Nat), H[b]? = some k0 → k0.live = true → σ.φ b k0.ver = some v → conc v = some g → ∀ a : Addr, a.block = g → frM σ H F w a = σ.M a := fun k0 v g h0 hl hv hg a ha => by
   refine if_neg fun hnw => ?_
   rw [ha] at hnw
   obtain ⟨b2, cs, g1, g2, g3⟩ := hnw
   exact hn (hr.inj b b2 k0 _ v _ g h0 g2 hl rfl hv g3 hg rfl ▸ g1)
  rcases hH.keep b k hn hb with h0 | ⟨cs, cs', h0, rfl, hz⟩
  ·exact (hr.blk b k h0).keep hle (fun _ => rfl) fun v g hl hv hg => ⟨rfl, away k v g h0 hl hv hg⟩
  ·rcases hr.blk b _ h0 with ⟨g, vs, t, h1, h2, h3, h4, h5⟩ | ⟨rfl, v, h1, h2⟩
   ·refine .inl ⟨g, vs, t, h1, h2, h3, ?_, fun a ha => ?_⟩
    ·have := hz.sound hr h4
     rwa [hz.at_.1] at this
    ·exact (away _ _ g h0 rfl h1 rfl a ha).trans (h5 a ha)
   ·cases hz
    exact .inr ⟨rfl, v, h1, h2⟩
 ·obtain ⟨-, k0, q0, q1, q2⟩ := live b k hb hl
  obtain ⟨-, k0', q0', q1', q2'⟩ := live b' k' hb' hl'
  exact hr.inj b b' k0 k0' v v' g q0 q0' q1 q1' (by rw [q2]; exact hv) (by rw [q2']; exact hv') hg hg'
theorem ACalls.pre {P : Program} {f : FuncId} {args args' : List AV} {H H0 : List ABlk} {R : AV → List ABlk → Prop} (hk : Wk H.length args H args' H0) (h : ACalls P f args' H0 R) : ACalls P f args H R := fun σ w vs h1 h2 => by
 obtain ⟨σ1, x1, x2, x3⟩ := hk { tmps := vs.toArray, defers := [] } σ w h1 ⟨rfl, by simpa using h2⟩
 refine (h σ1 w vs x2 (by simpa using x3.tmps)).mono fun e w' he => ?_
 obtain ⟨σ', H', v, u, e1, y1, y2, y3, y4⟩ := he
 exact ⟨σ', H', v, u, e1, (x1.trans (y1.toN _)).full h1, y2, y3, y4⟩
theorem ACalls.wk {P : Program} {f : FuncId} {args : List AV} {H : List ABlk} {R R' : AV → List ABlk → Prop} (h : ACalls P f args H R) (hk : ∀ v H', R v H' → ∃ v0 H0, Wk H.length [v] H' [v0] H0 ∧ R' v0 H0) : ACalls P f args H R' := fun σ w vs h1 h2 => by
 refine (h σ w vs h1 h2).mono fun e w' he => ?_
 obtain ⟨σ', H', v, u, e1, y1, y2, y3, y4⟩ := he
 obtain ⟨v0, H0, k1, k2⟩ := hk v H' y4
 obtain ⟨σ2, z1, z2, z3⟩ := k1 { tmps := #[u], defers := [] } σ' w' y2 ⟨rfl, .cons y3 .nil⟩
 exact ⟨σ2, H0, v0, u, e1, ((y1.toN _).trans z1).full h1, z2, z3.tmps.2 0 v0 u rfl rfl, k2⟩
theorem Ret.freeze {nb : Nat} {rs : List RC} {R : AV → List ABlk → Prop} {v : AV} {l : List ABlk} (v0 : AV) (H0 : List ABlk) (hn : nb ≤ H0.length) (hc : cl H0) (hv : FzA (fun b => H0.length ≤ b) (H0 ++ l) v v0) (hr : ∀ r ∈ refs v0, r < H0.length) (h : R v0 H0) : Ret rs nb R (some v) (H0 ++ l) := by
 refine ⟨v, rfl, v0, H0, (Wk.freeze (fun b => H0.length ≤ b) (s' := [v0]) (H' := H0 ++ List.replicate l.length .dead) (.cons hv .nil) ⟨by simp, fun b hb => ⟨by omega, fun k hk => ?_⟩, fun b k hb hk => .inl ?_⟩).trans (Wk.drop (.cons (.rfl _) .nil) hn hc (fun r hr' => hr r (by simpa [refs.refsL] using hr'))), h⟩
 ·rw [List.getElem?_append_right hb] at hk
  exact (List.eq_of_mem_replicate (List.mem_of_getElem? hk))
 ·have hlt : b < H0.length := by omega
  rw [List.getElem?_append_left hlt] at hk ⊢
  exact hk
end Go.Proofs.Ythifjndenhjobaa

/- The heaps of one visit. -/
namespace Go.Proofs.Ythifjndenhjobaa
set_option linter.unusedSimpArgs false
set_option linter.unusedVariables false
open Go.RowKit

theorem VCs.vis {f : Fc} {o l o' : List Int} (h : VCs f o l o') : Vis (kidsV f.types) o l o' := by
 induction h with
 | nil => exact .nil
 | cons _ h2 _ ih => exact Vis.app h2 ih
theorem VCs.steps2 {f : Fc} {o l o' : List Int} (h : VCs f o l o') : ∃ os : Nat → List Int, os 0 = o ∧ os l.length = o' ∧ (∀ i, i < l.length → VC f (os i) (l.getD i 0) (os (i + 1)) ∧ Vis (kidsV f.types) (os i) [l.getD i 0] (os (i + 1))) ∧
 (∀ i, i ≤ l.length → Vis (kidsV f.types) o (l.take i) (os i)) ∧ ∀ i, i ≤ l.length → os i <+: o' := by
 obtain ⟨os, e0, en, hs⟩ := h.steps
 refine ⟨os, e0, en, hs, fun i => ?_, fun i hi => ?_⟩
 ·induction i with
  | zero => intro _; rw [e0, List.take_zero]; exact .nil
  | succ i ih =>
   intro hi
   have h1 := Vis.app (ih (by omega)) (hs i (by omega)).2
   rwa [List.getD_eq_getElem?_getD, List.getElem?_eq_getElem (by omega), Option.getD_some, ← List.take_succ_eq_append_getElem (by omega)] at h1
 ·obtain ⟨d, hd⟩ : ∃ d, d = l.length - i := ⟨_, rfl⟩
  induction d generalizing i with
  | zero => rw [show i = l.length by omega, en]; exact List.prefix_refl _
  | succ d ih => exact (hs i (by omega)).2.pre.trans (ih (i + 1) (by omega) (by omega))

structure MS (f : Fc) (xb tb : Nat) (H : List ABlk) (ob : Nat) (o : List Int) (l : List (Option Ty)) (k : List AV) : Prop where
 ts : TS f xb H ob o l
 tc : H[tb]? = some (.cells k)
 nx : tb ≠ xb
 no : tb ≠ ob
section
variable {f : Fc} {xb tb ob : Nat} {H : List ABlk} {o : List Int} {l : List (Option Ty)} {k : List AV}
theorem MS.lt (h : MS f xb tb H ob o l k) : tb < H.length := (List.getElem?_eq_some_iff.1 h.tc).1
theorem MS.put (h : MS f xb tb H ob o l k) (k' : List AV) : MS f xb tb (H.set tb (.cells k')) ob o l k' :=
 ⟨h.ts.set h.nx h.no _, List.getElem?_set_self h.lt, h.nx, h.no⟩
theorem MS.app (h : MS f xb tb H ob o l k) (ks : List ABlk) : MS f xb tb (H ++ ks) ob o l k :=
 ⟨h.ts.app _, hold h.tc _, h.nx, h.no⟩
theorem MS.visit (h : MS f xb tb H ob o l k) {a : Int} {o1 : List Int} (hv : VC f o a o1) :
 ∃ G ob', ACalls Try.prog 42 [.ptr xb 0, iv a] H (fun v H' => v = iv (pl o1 a) ∧ H' = G) ∧ MS f xb tb G ob' o1 (l ++ (news f.name f.types o o1).map some) k ∧ TF xb ob H G ∧ (ob' = ob ∨ H.length ≤ ob') := by
 obtain ⟨G, ob', h1, h2, h3, h4⟩ := hv H xb ob l h.ts
 have := h.lt
 have := h.no
 exact ⟨G, ob', h1, ⟨h2, (h3.out _ h.lt h.nx h.no).trans h.tc, h.nx, by omega⟩, h3, h4⟩

structure VStep (xb tb fb : Nat) (p a : Int) (H A : List ABlk) (w : List Nat) (k c : List AV) : Prop where
 call : ACalls Try.prog 42 [.ptr xb 0, iv a] H fun v H' => v = iv p ∧ H' = A
 out : ∀ c, c ∉ xb :: w → A[c]? = H[c]?
 len : H.length ≤ A.length
 live : ∀ b ∈ xb :: w, H[b]? ≠ some .dead
 nt : tb ∉ xb :: w
 nf : fb ∉ xb :: w
 ht : H[tb]? = some (.cells k)
 hf : H[fb]? = some (.cells c)
 at_ : A[tb]? = some (.cells k)
 af : A[fb]? = some (.cells c)
structure VInv (f : Fc) (xb tb fb ob : Nat) (D : List ABlk) (o : List Int) (l : List (Option Ty)) (k : List AV) (o1 : List Int) (c : List AV) (H : List ABlk) (ob1 : Nat) : Prop where
 ms : MS f xb tb H ob1 o1 (l ++ (news f.name f.types o o1).map some) k
 hf : H[fb]? = some (.cells c)
 len : D.length ≤ H.length
 out : ∀ b, b < D.length → b ≠ xb → b ≠ ob → b ≠ fb → H[b]? = D[b]?
 ob : ob1 = ob ∨ D.length ≤ ob1
theorem vloop {fb : Nat} {D : List ABlk} {o' : List Int} {ks : List Int} {C : Nat → List AV} (hd : o.Nodup) (m : MS f xb tb D ob o l k) (hf : D[fb]? = some (.cells (C 0))) (nx : fb ≠ xb) (no : fb ≠ ob) (nt : fb ≠ tb) (h : VCs f o ks o') :
 ∃ (L A : Nat → List ABlk) (w : Nat → List Nat), L 0 = D ∧ (∀ i, i ≤ ks.length → (L i)[tb]? = some (.cells k) ∧ (L i)[fb]? = some (.cells (C i))) ∧
  (∀ i, i < ks.length → VStep xb tb fb (pl o' (ks.getD i 0)) (ks.getD i 0) (L i) (A i) (w i) k (C i) ∧ (A i).set fb (.cells (C (i + 1))) = L (i + 1)) ∧
  ∃ ob1, VInv f xb tb fb ob D o l k o' (C ks.length) (L ks.length) ob1 := by
 obtain ⟨os, e0, en, hs, hv, hp⟩ := h.steps2
 have hfl : fb < D.length := (List.getElem?_eq_some_iff.1 hf).1
 obtain ⟨g, g0, gi, gs⟩ := chain_of (α := List ABlk × Nat) (Inv := fun i a => VInv f xb tb fb ob D o l k (os i) (C i) a.1 a.2) (Step := fun i a b => ∃ A w, VStep xb tb fb (pl o' (ks.getD i 0)) (ks.getD i 0) a.1 A w k (C i) ∧ A.set fb (.cells (C (i + 1))) = b.1) ks.length (fun i a hi hI => by
  obtain ⟨H, ob1⟩ := a
  obtain ⟨G, ob2, h1, h2, h3, h4⟩ := hI.ms.visit (hs i hi).1
  have hlt : tb < H.length := hI.ms.lt
  have hol : ob1 < H.length ∧ xb < H.length := hI.ms.ts.ob_lt
  have hob : ob1 = ob ∨ D.length ≤ ob1 := hI.ob
  have hlen : D.length ≤ H.length := hI.len
  have h3 : TF xb ob1 H G := h3
  have h3l : H.length ≤ G.length := h3.len
  have h4 : ob2 = ob1 ∨ H.length ≤ ob2 := h4
  have nfo : fb ≠ ob1 := by omega
  have hpl : pl (os (i + 1)) (ks.getD i 0) = pl o' (ks.getD i 0) := (pl_pre (hp (i + 1) hi) ((hs i hi).2.mem _ List.mem_cons_self)).symm
  have af : G[fb]? = some (.cells (C i)) := (h3.out _ (by omega) nx nfo).trans hI.hf
  have hnw : (l ++ (news f.name f.types o (os i)).map some) ++ (news f.name f.types (os i) (os (i + 1))).map some = l ++ (news f.name f.types o (os (i + 1))).map some := by
   rw [List.append_assoc, ← List.map_append, news_app ((hv i (by omega)).nodup hd) (hv i (by omega)) (hs i hi).2.pre]
  refine ⟨(G.set fb (.cells (C (i + 1))), ob2), ⟨G, ob1 :: List.range' H.length (G.length - H.length), ⟨?_, fun c hc => ?_, h3l, fun b hb => ?_, ?_, ?_, hI.ms.tc, hI.hf, h2.tc, af⟩, rfl⟩, ⟨?_, List.getElem?_set_self (by omega), by simp only [List.length_set]; omega, fun b hb h5 h6 h7 => ?_, by show ob2 = ob ∨ D.length ≤ ob2; omega⟩⟩
  ·rw [← hpl]; exact h1
  ·simp only [List.mem_cons, List.mem_range'_1, not_or] at hc
   obtain ⟨c1, c2, c3⟩ := hc
   have c3 : ¬ (H.length ≤ c ∧ c < H.length + (G.length - H.length)) := c3
   by_cases hcl : c < H.length
   ·exact h3.out _ hcl c1 c2
   ·rw [List.getElem?_eq_none (by omega), show ((H, ob1).1)[c]? = none from List.getElem?_eq_none (by show H.length ≤ c; omega)]
  ·simp only [List.mem_cons, List.mem_range'_1] at hb
   rcases hb with rfl | rfl | hb
   ·show H[b]? ≠ _
    rw [hI.ms.ts.x]; simp
   ·show H[b]? ≠ _
    rw [hI.ms.ts.t]; simp
   ·show H[b]? ≠ _
    rw [List.getElem?_eq_none hb.1]; simp
  ·simp only [List.mem_cons, List.mem_range'_1, not_or]
   exact ⟨m.nx, hI.ms.no, by omega⟩
  ·simp only [List.mem_cons, List.mem_range'_1, not_or]
   exact ⟨nx, nfo, by omega⟩
  ·rw [← hnw]
   have h2n := h2.no
   refine ⟨h2.ts.set nx (by omega) _, ?_, h2.nx, h2.no⟩
   show (G.set fb _)[tb]? = _
   rw [List.getElem?_set_ne nt]; exact h2.tc
  ·show (G.set fb _)[b]? = _
   rw [List.getElem?_set_ne h7.symm, h3.out _ (by omega) h5 (by omega)]
   exact hI.out b hb h5 h6 h7) (a := (D, ob)) (by
  show VInv f xb tb fb ob D o l k (os 0) (C 0) D ob
  rw [e0]
  exact ⟨by rw [news_self, List.map_nil, List.append_nil]; exact m, hf, Nat.le_refl _, fun _ _ _ _ _ => rfl, .inl rfl⟩)
 have gs' : ∀ i, ∃ A w, i < ks.length → VStep xb tb fb (pl o' (ks.getD i 0)) (ks.getD i 0) (g i).1 A w k (C i) ∧ A.set fb (.cells (C (i + 1))) = (g (i + 1)).1 := fun i => by
  by_cases hi : i < ks.length
  ·obtain ⟨A, w, h⟩ := gs i hi
   exact ⟨A, w, fun _ => h⟩
  ·exact ⟨[], [], fun h => absurd h hi⟩
 obtain ⟨A, hA⟩ := Classical.axiomOfChoice gs'
 obtain ⟨w, hw⟩ := Classical.axiomOfChoice hA
 refine ⟨fun i => (g i).1, A, w, by show (g 0).1 = D; rw [g0], fun i hi => ⟨(gi i hi).ms.tc, (gi i hi).hf⟩, hw, (g ks.length).2, ?_⟩
 have := gi ks.length (Nat.le_refl _)
 rw [en] at this
 exact this
end

theorem flt_len {l : List (List AV)} {sz : Nat} (h : ∀ x ∈ l, x.length = sz) : l.flatten.length = l.length * sz := by
 induction l with
 | nil => simp
 | cons x l ih => rw [List.flatten_cons, List.length_append, ih fun y hy => h y (List.mem_cons_of_mem _ hy), h x List.mem_cons_self, List.length_cons, Nat.succ_mul]; omega
theorem flt_at {l1 l2 : List (List AV)} {e : List AV} {sz j : Nat} (h : ∀ x ∈ l1, x.length = sz) (hj : j < e.length) : ((l1 ++ e :: l2).flatten.drop (l1.length * sz + j)).take 1 = (e.drop j).take 1 := by
 rw [List.flatten_append, ← flt_len h, List.drop_append, List.drop_eq_nil_of_le (by omega), List.nil_append, show l1.flatten.length + j - l1.flatten.length = j by omega, List.flatten_cons, List.drop_append_of_le_length (by omega), List.take_append_of_le_length (by rw [List.length_drop]; omega)]
theorem flt_set {l1 l2 : List (List AV)} {e : List AV} {sz j : Nat} (v : AV) (h : ∀ x ∈ l1, x.length = sz) (hj : j < e.length) :
 (l1 ++ e :: l2).flatten.take (l1.length * sz + j) ++ [v] ++ (l1 ++ e :: l2).flatten.drop (l1.length * sz + j + 1) = (l1 ++ (e.take j ++ [v] ++ e.drop (j + 1)) :: l2).flatten := by
 rw [List.flatten_append, List.flatten_append, ← flt_len h, List.take_append, List.take_of_length_le (by omega), show l1.flatten.length + j - l1.flatten.length = j by omega, List.drop_append, List.drop_eq_nil_of_le (by omega : l1.flatten.length ≤ l1.flatten.length + j + 1), List.nil_append, show l1.flatten.length + j + 1 - l1.flatten.length = j + 1 by omega, List.flatten_cons, List.flatten_cons, List.take_append_of_le_length (by omega), List.drop_append_of_le_length (by omega)]
 simp only [List.append_assoc]
theorem flt_d {es : List (List Dat)} {sz i j : Nat} {e : List Dat} {d : Dat} (h : ∀ x ∈ es, x.length = sz) (h1 : es[i]? = some e) (h2 : e[j]? = some d) : (es.flatten.map AV.d).getD (i * sz + j) .any = .d d := by
 have hj : j < e.length := (List.getElem?_eq_some_iff.1 h2).1
 induction es generalizing i with
 | nil => cases h1
 | cons x es ih =>
  have hx := h x List.mem_cons_self
  rw [List.flatten_cons, List.map_append, List.getD_eq_getElem?_getD]
  cases i with
  | zero =>
   cases h1
   rw [Nat.zero_mul, Nat.zero_add, List.getElem?_append_left (by simpa using hj), List.getElem?_map, h2]; rfl
  | succ i =>
   rw [List.getElem?_append_right (by rw [List.length_map, hx, Nat.succ_mul]; omega), List.length_map, hx, ← List.getD_eq_getElem?_getD, show (i + 1) * sz + j - sz = i * sz + j by rw [Nat.succ_mul]; omega]
   exact ih (fun y hy => h y (List.mem_cons_of_mem _ hy)) h1

def trFd (o : List Int) (x : Fd) : Fd := { x with typ := pl o x.typ }
def trPm (o : List Int) (x : Pm) : Pm := { x with typ := pl o x.typ }
def mFd (o : List Int) (l : List Fd) (i : Nat) : List Fd := (l.take i).map (trFd o) ++ l.drop i
def mPm (o : List Int) (l : List Pm) (i : Nat) : List Pm := (l.take i).map (trPm o) ++ l.drop i
def fdB (x : Fd) : List AV := x.c.map .d
def pmB (x : Pm) : List AV := x.c.map .d
theorem fdC_B (l : List Fd) : fdC l = (l.map fdB).flatten := by simp [fdB, List.map_flatten]; rfl
theorem pmC_B (l : List Pm) : pmC l = (l.map pmB).flatten := by simp [pmB, List.map_flatten]; rfl
theorem fdC_len (l : List Fd) : (fdC l).length = l.length * 3 := by
 rw [fdC_B, flt_len (sz := 3), List.length_map]
 intro x hx; obtain ⟨y, _, rfl⟩ := List.mem_map.1 hx; rfl
theorem pmC_len (l : List Pm) : (pmC l).length = l.length * 2 := by
 rw [pmC_B, flt_len (sz := 2), List.length_map]
 intro x hx; obtain ⟨y, _, rfl⟩ := List.mem_map.1 hx; rfl
theorem mFd_0 (o : List Int) (l : List Fd) : mFd o l 0 = l := rfl
theorem mPm_0 (o : List Int) (l : List Pm) : mPm o l 0 = l := rfl
theorem mFd_n (o : List Int) (l : List Fd) : mFd o l l.length = l.map (trFd o) := by simp [mFd]
theorem mPm_n (o : List Int) (l : List Pm) : mPm o l l.length = l.map (trPm o) := by simp [mPm]
theorem mFd_len (o : List Int) (l : List Fd) (i : Nat) : (mFd o l i).length = l.length := by simp [mFd]; omega
theorem mPm_len (o : List Int) (l : List Pm) (i : Nat) : (mPm o l i).length = l.length := by simp [mPm]; omega
section
variable {o : List Int} {i : Nat}
theorem mFd_cut {l : List Fd} (hi : i < l.length) : (mFd o l i).map fdB = (((l.take i).map (trFd o)).map fdB) ++ fdB l[i] :: ((l.drop (i + 1)).map fdB) := by
 rw [mFd, List.drop_eq_getElem_cons hi, List.map_append, List.map_cons]
theorem mFd_s {l : List Fd} (hi : i < l.length) : (mFd o l (i + 1)).map fdB = (((l.take i).map (trFd o)).map fdB) ++ fdB (trFd o l[i]) :: ((l.drop (i + 1)).map fdB) := by
 rw [mFd, List.take_succ_eq_append_getElem hi, List.map_append, List.map_append, List.map_append, List.append_assoc]; rfl
theorem mPm_cut {l : List Pm} (hi : i < l.length) : (mPm o l i).map pmB = (((l.take i).map (trPm o)).map pmB) ++ pmB l[i] :: ((l.drop (i + 1)).map pmB) := by
 rw [mPm, List.drop_eq_getElem_cons hi, List.map_append, List.map_cons]
theorem mPm_s {l : List Pm} (hi : i < l.length) : (mPm o l (i + 1)).map pmB = (((l.take i).map (trPm o)).map pmB) ++ pmB (trPm o l[i]) :: ((l.drop (i + 1)).map pmB) := by
 rw [mPm, List.take_succ_eq_append_getElem hi, List.map_append, List.map_append, List.map_append, List.append_assoc]; rfl
theorem fdB_all (l : List Fd) : ∀ x ∈ l.map fdB, x.length = 3 := fun x hx => by obtain ⟨y, _, rfl⟩ := List.mem_map.1 hx; rfl
theorem pmB_all (l : List Pm) : ∀ x ∈ l.map pmB, x.length = 2 := fun x hx => by obtain ⟨y, _, rfl⟩ := List.mem_map.1 hx; rfl
theorem typ_at {α : Type} {l : List α} (g : α → Int) (hi : i < l.length) : (l.map g).getD i 0 = g l[i] := by
 rw [List.getD_eq_getElem?_getD, List.getElem?_map, List.getElem?_eq_getElem hi]; rfl
theorem fd_at {l : List Fd} (hi : i < l.length) : ((fdC (mFd o l i)).drop (i * 3 + 2)).take 1 = [iv ((l.map Fd.typ).getD i 0)] := by
 have h := flt_at (l2 := (l.drop (i + 1)).map fdB) (e := fdB l[i]) (j := 2) (fdB_all ((l.take i).map (trFd o))) (show 2 < 3 by omega)
 rw [← mFd_cut hi, List.length_map, List.length_map, List.length_take, Nat.min_eq_left (by omega)] at h
 rw [fdC_B, h, typ_at _ hi]; rfl
theorem fd_set {l : List Fd} (hi : i < l.length) : (fdC (mFd o l i)).take (i * 3 + 2) ++ [iv (pl o ((l.map Fd.typ).getD i 0))] ++ (fdC (mFd o l i)).drop (i * 3 + 2 + 1) = fdC (mFd o l (i + 1)) := by
 have h := flt_set (l2 := (l.drop (i + 1)).map fdB) (e := fdB l[i]) (j := 2) (iv (pl o ((l.map Fd.typ).getD i 0))) (fdB_all ((l.take i).map (trFd o))) (show 2 < 3 by omega)
 rw [← mFd_cut hi, List.length_map, List.length_map, List.length_take, Nat.min_eq_left (by omega)] at h
 rw [fdC_B, fdC_B, mFd_s hi, h, typ_at _ hi]; rfl
theorem pm_at {l : List Pm} (hi : i < l.length) : ((pmC (mPm o l i)).drop (i * 2 + 1)).take 1 = [iv ((l.map Pm.typ).getD i 0)] := by
 have h := flt_at (l2 := (l.drop (i + 1)).map pmB) (e := pmB l[i]) (j := 1) (pmB_all ((l.take i).map (trPm o))) (show 1 < 2 by omega)
 rw [← mPm_cut hi, List.length_map, List.length_map, List.length_take, Nat.min_eq_left (by omega)] at h
 rw [pmC_B, h, typ_at _ hi]; rfl
theorem pm_set {l : List Pm} (hi : i < l.length) : (pmC (mPm o l i)).take (i * 2 + 1) ++ [iv (pl o ((l.map Pm.typ).getD i 0))] ++ (pmC (mPm o l i)).drop (i * 2 + 1 + 1) = pmC (mPm o l (i + 1)) := by
 have h := flt_set (l2 := (l.drop (i + 1)).map pmB) (e := pmB l[i]) (j := 1) (iv (pl o ((l.map Pm.typ).getD i 0))) (pmB_all ((l.take i).map (trPm o))) (show 1 < 2 by omega)
 rw [← mPm_cut hi, List.length_map, List.length_map, List.length_take, Nat.min_eq_left (by omega)] at h
 rw [pmC_B, pmC_B, mPm_s hi, h, typ_at _ hi]; rfl
end
def tk (x : Ty) (e b : Int) (fv pv : AV) (r d : Int) : List AV := [iv x.form, sv x.mod, sv x.name, iv x.len, iv e, iv b, fv, pv, iv r, iv d]
theorem tk_fz {x : Ty} {e b r d : Int} {fb pb : Nat} {fl : List Fd} {ql : List Pm} {H : List ABlk} (hf : H[fb]? = some (.cells (fdC fl))) (hp : H[pb]? = some (.cells (pmC ql))) :
 FzL (fun c => c = fb ∨ c = pb) H (tk x e b (.hsl fb 0 fl.length fl.length 3) (.hsl pb 0 ql.length ql.length 2) r d) (tk x e b (fdv fl) (pmv ql) r d) := by
 have h1 : Fz (fun c => c = fb ∨ c = pb) H (.hsl fb 0 fl.length fl.length 3) (.sl (fl.map Fd.c)) := by
  refine .hsl (.inl rfl) hf (by simp) (fun e he => by obtain ⟨y, _, rfl⟩ := List.mem_map.1 he; rfl) (by rw [fdC_len]; omega) fun i e j d h1 h2 => ?_
  rw [Nat.zero_add, flt_d (fun e he => by obtain ⟨y, _, rfl⟩ := List.mem_map.1 he; rfl) h1 h2]
  exact .d
 have h2 : Fz (fun c => c = fb ∨ c = pb) H (.hsl pb 0 ql.length ql.length 2) (.sl (ql.map Pm.c)) := by
  refine .hsl (.inr rfl) hp (by simp) (fun e he => by obtain ⟨y, _, rfl⟩ := List.mem_map.1 he; rfl) (by rw [pmC_len]; omega) fun i e j d h1 h2 => ?_
  rw [Nat.zero_add, flt_d (fun e he => by obtain ⟨y, _, rfl⟩ := List.mem_map.1 he; rfl) h1 h2]
  exact .d
 exact .cons (.keep _) (.cons (.keep _) (.cons (.keep _) (.cons (.keep _) (.cons (.keep _) (.cons (.keep _) (.cons (.d h1) (.cons (.d h2) (.cons (.keep _) (.cons (.keep _) .nil)))))))))
end Go.Proofs.Ythifjndenhjobaa

/- A visit of a new place. -/
namespace Go.Proofs.Ythifjndenhjobaa
set_option linter.unusedSimpArgs false
set_option linter.unusedVariables false
set_option maxRecDepth 20000
set_option maxHeartbeats 4000000
open Go.RowKit

def c42tl0 : AC :=
 .seq (.reg [kn 119 (.bin .lss (.t 118) (.t 117))])
 (.seq (.cond (.t 119) (.skip) (.exit 2))
 (.seq (.block 3 (.seq (.reg [kn 120 (.mv (.t 118)), kn 8 (.mv (.t 120))])
 (.dreg [[], [0], [], [], [], [4], [], [5, 6], [7], [8], [3, 9], [1, 2, 0, 1, 2, 3, 4, 5, 6, 7, 8, 9, 10], [11, 0, 1, 2, 3, 4, 5, 6, 7, 8, 9, 10], [12, 10, 10, 0, 1, 2, 3, 4, 5, 6, 7, 8, 9, 10]] [kn 121 (.fa (.t 6) 7), kn 122 (.ld (.t 121) 1 false), kn 123 (.mv (.t 8)), kn 124 (.mv (.t 0)), kn 125 (.fa (.t 6) 7), kn 126 (.ld (.t 125) 1 false), kn 127 (.mv (.t 8)), kn 128 (.ia (.t 126) (.t 127) 2), kn 129 (.fa (.t 128) 1), kn 130 (.ld (.t 129) 1 false), kn 131 (.call 42 [(.t 124), (.t 130)]), kn 132 (.ia (.t 122) (.t 123) 2), kn 133 (.fa (.t 132) 1), ke (.st (.t 133) (.t 131) 1)])))
 (.reg [kn 134 (.bin .add (.t 118) (kc 1)), kn 118 (.mv (.t 134))])))

def c42tl1 : AC :=
 .seq (.reg [kn 95 (.bin .lss (.t 94) (.t 93))])
 (.seq (.cond (.t 95) (.skip) (.exit 0))
 (.seq (.block 1 (.seq (.reg [kn 96 (.mv (.t 94)), kn 7 (.mv (.t 96))])
 (.dreg [[], [0], [], [], [], [4], [], [5, 6], [7], [8], [3, 9], [1, 2, 0, 1, 2, 3, 4, 5, 6, 7, 8, 9, 10], [11, 0, 1, 2, 3, 4, 5, 6, 7, 8, 9, 10], [12, 10, 10, 0, 1, 2, 3, 4, 5, 6, 7, 8, 9, 10]] [kn 97 (.fa (.t 6) 6), kn 98 (.ld (.t 97) 1 false), kn 99 (.mv (.t 7)), kn 100 (.mv (.t 0)), kn 101 (.fa (.t 6) 6), kn 102 (.ld (.t 101) 1 false), kn 103 (.mv (.t 7)), kn 104 (.ia (.t 102) (.t 103) 3), kn 105 (.fa (.t 104) 2), kn 106 (.ld (.t 105) 1 false), kn 107 (.call 42 [(.t 100), (.t 106)]), kn 108 (.ia (.t 98) (.t 99) 3), kn 109 (.fa (.t 108) 2), ke (.st (.t 109) (.t 107) 1)])))
 (.reg [kn 110 (.bin .add (.t 94) (kc 1)), kn 94 (.mv (.t 110))])))

def c42t : AC :=
 .seq (.reg [kn 4 (.mv (kc 0))])
 (.seq (.seq (.reg [kn 9 (.mv (.t 1)), kn 10 (.bin .leq (.t 9) (kc 6))])
 (.cond (.t 10) (.seq (.reg [kn 11 (.mv (.t 1)), kn 4 (.mv (.t 11))])
 (.ret)) (.skip)))
 (.seq (.seq (.reg [kn 12 (.mv (.t 0)), kn 13 (.mv (.t 1)), kn 14 (.nc (.t 12)), kn 15 (.fa (.t 14) 1), kn 16 (.iar (.t 15) (.t 13) 256 1), kn 17 (.ld (.t 16) 1 false), kn 18 (.bin .gtr (.t 17) (kc 0))])
 (.cond (.t 18) (.seq (.reg [kn 19 (.mv (.t 0)), kn 20 (.mv (.t 1)), kn 21 (.nc (.t 19)), kn 22 (.fa (.t 21) 1), kn 23 (.iar (.t 22) (.t 20) 256 1), kn 24 (.ld (.t 23) 1 false), kn 4 (.mv (.t 24))])
 (.ret)) (.skip)))
 (.seq (.reg [kn 25 (.mv (.t 0)), kn 26 (.nc (.t 25)), kn 27 (.fa (.t 26) 257), kn 28 (.ld (.t 27) 1 false), kn 29 (.len false (.t 28)), kn 5 (.mv (.t 29))])
 (.seq (.reg [kn 30 (.mv (.t 0)), kn 31 (.mv (.t 1)), kn 32 (.mv (.t 5)), kn 33 (.nc (.t 30)), kn 34 (.fa (.t 33) 1), kn 35 (.iar (.t 34) (.t 31) 256 1), ke (.st (.t 35) (.t 32) 1)])
 (.seq (.reg [kn 36 (.mv (.t 0)), kn 37 (.mv (.t 0)), kn 38 (.nc (.t 37)), kn 39 (.fa (.t 38) 257), kn 40 (.ld (.t 39) 1 false), kn 41 (.bd [kz, (.d (.v (.string ⟨#[]⟩))), (.d (.v (.string ⟨#[]⟩))), kz, kz, kz, .esl, .esl, kz, kz] []), kn 42 (.bs .im 49 10 [(.t 41)]), kn 43 (.app .hp 49 10 128 (.t 40) (.t 42)), kn 44 (.nc (.t 36)), kn 45 (.fa (.t 44) 257), ke (.st (.t 45) (.t 43) 1)])
 (.seq (.reg [kn 46 (.mv (.t 0)), kn 47 (.nc (.t 46)), kn 48 (.fa (.t 47) 0), kn 49 (.ld (.t 48) 1 false), kn 50 (.mv (.t 1)), kn 51 (.ia (.t 49) (.t 50) 10), kn 52 (.ld (.t 51) 10 true), kn 6 (.al [kz, (.d (.v (.string ⟨#[]⟩))), (.d (.v (.string ⟨#[]⟩))), kz, kz, kz, .esl, .esl, kz, kz]), ke (.st (.t 6) (.t 52) 10)])
 (.seq (.seq (.dreg [[], [0], [1], [2], [3], [4, 3], [3], [6, 3], [7, 3], [8, 3], [5, 9, 3], [3, 10]] [kn 53 (.fa (.t 6) 0), kn 54 (.ld (.t 53) 1 false), kn 55 (.bin .eql (.t 54) (kc 9)), kn 56 (.mv (.t 55)), ky 57 56 (.fa (.t 6) 1), ky 58 56 (.ld (.t 57) 1 false), ky 59 56 (.mv (.t 0)), ky 60 56 (.nc (.t 59)), ky 61 56 (.fa (.t 60) 258), ky 62 56 (.ld (.t 61) 1 false), ky 63 56 (.bin .eql (.t 58) (.t 62)), kn 64 (.pick (.t 56) (.t 63) (.c (.d (.v (.bool false)))))])
 (.cond (.t 64) (.seq (.reg [kn 65 (.mv (.t 0)), kn 66 (.nc (.t 65)), kn 67 (.fa (.t 66) 259), kn 68 (.ld (.t 67) 1 false), kn 69 (.fa (.t 6) 9), ke (.st (.t 69) (.t 68) 1)])
 (.reg [kn 70 (.mv (.t 0)), kn 71 (.nc (.t 70)), kn 72 (.fa (.t 71) 259), kn 73 (.ld (.t 72) 1 false), kn 74 (.bin .add (.t 73) (kc 1)), kn 75 (.nc (.t 70)), kn 76 (.fa (.t 75) 259), ke (.st (.t 76) (.t 74) 1)])) (.skip)))
 (.seq (.reg [kn 77 (.mv (.t 0)), kn 78 (.fa (.t 6) 4), kn 79 (.ld (.t 78) 1 false), kn 80 (.call 42 [(.t 77), (.t 79)]), kn 81 (.fa (.t 6) 4), ke (.st (.t 81) (.t 80) 1)])
 (.seq (.reg [kn 82 (.mv (.t 0)), kn 83 (.fa (.t 6) 5), kn 84 (.ld (.t 83) 1 false), kn 85 (.call 42 [(.t 82), (.t 84)]), kn 86 (.fa (.t 6) 5), ke (.st (.t 86) (.t 85) 1)])
 (.seq (.reg [kn 87 (.fa (.t 6) 6), kn 88 (.ld (.t 87) 1 false), kn 89 (.call 87 [(.t 88)]), kn 90 (.fa (.t 6) 6), ke (.st (.t 90) (.t 89) 1)])
 (.seq (.seq (.reg [kn 91 (.fa (.t 6) 6), kn 92 (.ld (.t 91) 1 false), kn 93 (.len false (.t 92)), kn 94 (.mv (kc 0))])
 (.block 0 (.loop c42tl1)))
 (.seq (.reg [kn 111 (.fa (.t 6) 7), kn 112 (.ld (.t 111) 1 false), kn 113 (.call 88 [(.t 112)]), kn 114 (.fa (.t 6) 7), ke (.st (.t 114) (.t 113) 1)])
 (.seq (.seq (.reg [kn 115 (.fa (.t 6) 7), kn 116 (.ld (.t 115) 1 false), kn 117 (.len false (.t 116)), kn 118 (.mv (kc 0))])
 (.block 2 (.loop c42tl0)))
 (.seq (.reg [kn 135 (.mv (.t 0)), kn 136 (.fa (.t 6) 8), kn 137 (.ld (.t 136) 1 false), kn 138 (.call 42 [(.t 135), (.t 137)]), kn 139 (.fa (.t 6) 8), ke (.st (.t 139) (.t 138) 1)])
 (.seq (.dreg [[], [0], [1], [2], [], [], [3, 4, 0, 1, 2, 3, 4, 5], [6, 5, 0, 1, 2, 3, 4, 5]] [kn 140 (.mv (.t 0)), kn 141 (.nc (.t 140)), kn 142 (.fa (.t 141) 257), kn 143 (.ld (.t 142) 1 false), kn 144 (.mv (.t 5)), kn 145 (.ld (.t 6) 10 true), kn 146 (.ia (.t 143) (.t 144) 10), ke (.st (.t 146) (.t 145) 10)])
 (.seq (.reg [kn 147 (.mv (.t 5)), kn 4 (.mv (.t 147))])
 (.ret)))))))))))))))))
def r42t : List RC := [.t 4]

theorem cc42t : Try.f42.body.bind (comp Try.prog (hht 42)) = some c42t := by kernel_rfl
theorem rr42t : resC Try.prog Try.f42 = some r42t := by kernel_rfl
theorem tkv_pre {o o1 : List Int} {a : Int} (h : o ++ [a] <+: o1) : o1.take o.length = o ∧ o1.getD o.length 0 = a := by
 obtain ⟨r, rfl⟩ := h
 rw [List.append_assoc, List.take_left, List.getD_eq_getElem?_getD, List.getElem?_append_right (Nat.le_refl _), Nat.sub_self]
 exact ⟨rfl, rfl⟩
theorem vc_end {f : Fc} {xb ob : Nat} {F : List ABlk} {o o1 : List Int} {a : Int} {l : List (Option Ty)} {t' : Ty} (hp : o ++ [a] <+: o1) (ht : t' = ntF f.name f.types o1 o.length) (hT : TS f xb F ob o1 (l ++ [none] ++ (news f.name f.types (o ++ [a]) o1).map some)) :
 TS f xb (F.set ob (.cells (tyC (l ++ some t' :: (news f.name f.types (o ++ [a]) o1).map some)))) ob o1 (l ++ (news f.name f.types o o1).map some) := by
 have e : l ++ (news f.name f.types o o1).map some = l ++ some t' :: (news f.name f.types (o ++ [a]) o1).map some := by rw [news_go hp, ht]; rfl
 rw [e]
 have hx := hT.x
 have hn := hT.n
 refine ⟨?_, List.getElem?_set_self hT.ob_lt.1, ?_, hT.ne⟩
 ·rw [List.getElem?_set_ne hT.ne.symm, hx]
  simp
 ·rw [← hn]; simp
theorem body_c {f : Fc} (hg : GoodP f.types) (hs : Small f.types) {o o1 : List Int} {a : Int} (h7 : 7 ≤ a) (ha : a < f.types.length) (hn : a ∉ o) (ho : ∀ x ∈ o, 7 ≤ x ∧ x < f.types.length) (hd : o.Nodup) (r : VCs f (o ++ [a]) (kidsV f.types a) o1) (hv : Vis (kidsV f.types) (o ++ [a]) (kidsV f.types a) o1) : VC f o a o1 := by
 intro H xb ob l hT
 have h256 := hg.len
 have h6 : ¬ a ≤ 6 := by omega
 have e1 := hT.at (a := a) (by omega) (by omega)
 rw [if_neg hn] at e1
 have hx := hT.x
 have hl : 1 + a.toNat + 1 ≤ 260 := by omega
 have hn7 := hT.n
 have hp := @xC_setp f ob l.length o (o.countP (own f.name f.types) : Nat) a h7 (by omega) hn
 rw [show ((7 : Int) + o.length) = (l.length : Nat) by omega] at hp
 obtain ⟨m, hm⟩ : ∃ m : Int, m = (o.countP (own f.name f.types) : Nat) := ⟨_, rfl⟩
 rw [← hm] at e1 hx hp
 obtain ⟨H1, hH1⟩ : ∃ H1, H1 = H.set xb (ABlk.cells (xC f ob (o ++ [a]) l.length m)) := ⟨_, rfl⟩
 have hob := hT.ob_lt
 have x1 : H1[xb]? = some (.cells (xC f ob (o ++ [a]) l.length m)) := by rw [hH1, List.getElem?_set_self hob.2]
 have t1 : H1[ob]? = some (.cells (tyC l)) := by rw [hH1, List.getElem?_set_ne hT.ne]; exact hT.t
 have n1 : H1.length = H.length := by rw [hH1, List.length_set]
 have tl := tyC_len l
 have mx : maxLen = 9223372036854775807 := mx_eq
 have hol := nodup_len hd ho
 have hln : l.length < 300 := by omega
 have tt : (tyC l).take (l.length * 10) = tyC l := List.take_of_length_le (by omega)
 obtain ⟨H2, hH2⟩ : ∃ H2, H2 = H1.set ob .dead ++ [.cells (tyC (l ++ [none]))] := ⟨_, rfl⟩
 have hz : tyC l ++ zC = tyC (l ++ [none]) := by rw [tyC_app]; rfl
 have x2 : H2[xb]? = some (.cells (xC f ob (o ++ [a]) l.length m)) := by rw [hH2, List.getElem?_append_left (by rw [List.length_set]; omega), List.getElem?_set_ne hT.ne.symm]; exact x1
 have t2 : H2[H.length]? = some (.cells (tyC (l ++ [none]))) := by rw [hH2, List.getElem?_append_right (by rw [List.length_set]; omega), List.length_set, show H.length - H1.length = 0 by omega]; rfl
 have n2 : H2.length = H.length + 1 := by rw [hH2]; simp [n1]
 have hs2 := @xC_seto f ob l.length (o ++ [a]) m H.length (l.length + 1)
 obtain ⟨H3, hH3⟩ : ∃ H3, H3 = H2.set xb (ABlk.cells (xC f H.length (o ++ [a]) (l.length + 1) m)) := ⟨_, rfl⟩
 have x3 : H3[xb]? = some (.cells (xC f H.length (o ++ [a]) (l.length + 1) m)) := by rw [hH3, List.getElem?_set_self (by omega)]
 have t3 : H3[H.length]? = some (.cells (tyC (l ++ [none]))) := by rw [hH3, List.getElem?_set_ne (by omega)]; exact t2
 have n3 : H3.length = H.length + 1 := by rw [hH3, List.length_set, n2]
 have q3 : ∀ b, b < H.length → b ≠ xb → b ≠ ob → H3[b]? = H[b]? := fun b hb h1 h2 => by
  rw [hH3, List.getElem?_set_ne h1.symm, hH2, List.getElem?_append_left (by rw [List.length_set]; omega), List.getElem?_set_ne h2.symm, hH1, List.getElem?_set_ne h1.symm]
 rw [List.append_assoc, List.singleton_append] at hs2
 obtain ⟨x, hxx⟩ : ∃ x, x = tyAt f.types a := ⟨_, rfl⟩
 have c1 : (tyAt f.types a).c.length = 10 := rfl
 have c2 : (tyAt f.types a).c.take 10 = x.c := by rw [hxx]; rfl
 have c3 : x.c.map AV.d = x.cs := rfl
 have c4 : x.cs.length = 10 := rfl
 have c5 : x.cs.all one = true := rfl
 have l4 : ∀ k, (H3 ++ [k])[H.length + 1]? = some k := fun k => by rw [← n3, List.getElem?_concat_length]
 have s4 : ∀ k k', (H3 ++ [k]).set (H.length + 1) k' = H3 ++ [k'] := fun k k' => by rw [← n3, List.set_append_right _ _ (Nat.le_refl _), Nat.sub_self]; rfl
 have x4 : ∀ k, (H3 ++ [k])[xb]? = some (.cells (xC f H.length (o ++ [a]) (l.length + 1) m)) := fun k => hold x3 _
 have cnt : (((o ++ [a]).countP (own f.name f.types) : Nat) : Int) = if own f.name f.types a = true then m + 1 else m := by
  rw [hm, List.countP_append, List.countP_singleton]
  split <;> omega
 have sd := @xC_setd f H.length (l.length + 1) (o ++ [a]) m (m + 1)
 rw [List.append_assoc, List.singleton_append] at sd
 have hm0 : 0 ≤ m ∧ m ≤ 300 := by
  have := List.countP_le_length (p := own f.name f.types) (l := o)
  omega
 -- the record's number
 obtain ⟨d, H4, m0, tf0, hw⟩ : ∃ (d : Int) (H4 : List ABlk), MS f xb (H.length + 1) H4 H.length (o ++ [a]) (l ++ [none]) (tk x x.elem x.base (fdv x.fields) (pmv x.params) x.result d) ∧ TF xb ob H H4 ∧
  ((x.form ≠ 9 ∧ d = x.desc ∧ H3 ++ [ABlk.cells (tk x x.elem x.base (fdv x.fields) (pmv x.params) x.result x.desc)] = H4) ∨ (x.form = 9 ∧ x.mod ≠ f.name ∧ d = x.desc ∧ H3 ++ [ABlk.cells (tk x x.elem x.base (fdv x.fields) (pmv x.params) x.result x.desc)] = H4) ∨
    (x.form = 9 ∧ x.mod = f.name ∧ d = m ∧ (H3 ++ [ABlk.cells (tk x x.elem x.base (fdv x.fields) (pmv x.params) x.result m)]).set xb (ABlk.cells (xC f H.length (o ++ [a]) (l.length + 1) (m + 1))) = H4)) := by
  have tsn : ∀ k, own f.name f.types a = false → MS f xb (H.length + 1) (H3 ++ [ABlk.cells k]) H.length (o ++ [a]) (l ++ [none]) k := fun k hw => by
   rw [hw, if_neg (by simp)] at cnt
   refine ⟨⟨?_, hold t3 _, by simp; omega, by omega⟩, l4 _, by omega, by omega⟩
   rw [x4, cnt, List.length_append, List.length_singleton]
  have tfn : ∀ k, TF xb ob H (H3 ++ [k]) := fun k => ⟨by rw [List.length_append]; omega, fun b hb h1 h2 => by rw [List.getElem?_append_left (by omega)]; exact q3 b hb h1 h2⟩
  by_cases k9 : x.form = 9
  ·by_cases km : x.mod = f.name
   ·have hw : own f.name f.types a = true := by rw [own, ← hxx, ownX]; exact decide_eq_true ⟨k9, km⟩
    rw [if_pos hw] at cnt
    refine ⟨m, _, ⟨⟨?_, ?_, by simp; omega, by omega⟩, ?_, by omega, by omega⟩, ?_, .inr (.inr ⟨k9, km, rfl, rfl⟩)⟩
    ·rw [List.getElem?_set_self (by rw [List.length_append]; omega), cnt, List.length_append, List.length_singleton]
    ·rw [List.getElem?_set_ne (by omega)]; exact hold t3 _
    ·rw [List.getElem?_set_ne (by omega)]; exact l4 _
    ·refine ⟨by rw [List.length_set]; exact (tfn _).len, fun b hb h1 h2 => ?_⟩
     rw [List.getElem?_set_ne h1.symm]; exact (tfn _).out b hb h1 h2
   ·have hw : own f.name f.types a = false := by rw [own, ← hxx, ownX]; exact decide_eq_false fun h => km h.2
    exact ⟨x.desc, _, tsn _ hw, tfn _, .inr (.inl ⟨k9, km, rfl, rfl⟩)⟩
  ·have hw : own f.name f.types a = false := by rw [own, ← hxx, ownX]; exact decide_eq_false fun h => k9 h.1
   exact ⟨x.desc, _, tsn _ hw, tfn _, .inl ⟨k9, rfl, rfl⟩⟩
 have hdd : d = if own f.name f.types a = true then m else x.desc := by
  rw [own, ← hxx, ownX]
  rcases hw with ⟨k9, rfl, -⟩ | ⟨k9, km, rfl, -⟩ | ⟨k9, km, rfl, -⟩
  ·rw [if_neg (by simp [k9])]
  ·rw [if_neg (by simp [km])]
  ·rw [if_pos (by simp [k9, km])]
 -- the parts
 have hoa : (o ++ [a]).Nodup := by
  rw [List.nodup_append]
  refine ⟨hd, by simp, fun x hx y hy => ?_⟩
  rw [List.mem_singleton] at hy
  subst hy
  exact fun e => hn (e ▸ hx)
 have hpre := hv.pre
 have r' : VCs f (o ++ [a]) (x.elem :: x.base :: (x.fields.map Fd.typ ++ (x.params.map Pm.typ ++ [x.result]))) o1 := by rw [hxx]; exact r
 obtain ⟨oa, hoae⟩ : ∃ oa, oa = o ++ [a] := ⟨_, rfl⟩
 rw [← hoae] at r' m0 hoa
 cases r' with | @cons _ o2 _ _ _ v1 w1 r1 =>
 cases r1 with | @cons _ o3 _ _ _ v2 w2 r2 =>
 obtain ⟨o4, r3, r4⟩ := r2.app
 obtain ⟨o5, r5, r6⟩ := r4.app
 cases r6 with | @cons _ o6 _ _ _ v6 w6 r7 =>
 cases r7
 have d2 := w1.nodup hoa
 have d3 := w2.nodup d2
 have d4 := r3.vis.nodup d3
 have d5 := r5.vis.nodup d4
 have p5 := w6.pre
 have p4 := r5.pre.trans p5
 have p3 := r3.pre.trans p4
 have p2 := w2.pre.trans p3
 have k2 := w1
 have k3 := k2.app w2
 have k4 := k3.app r3.vis
 have k5 := k4.app r5.vis
 -- the heaps
 obtain ⟨A1, b1, a1, m1, f1, g1⟩ := m0.visit v1
 obtain ⟨B1, hB1⟩ : ∃ B1, A1.set (H.length + 1) (ABlk.cells (tk x (pl o2 x.elem) x.base (fdv x.fields) (pmv x.params) x.result d)) = B1 := ⟨_, rfl⟩
 have m1p := m1.put (tk x (pl o2 x.elem) x.base (fdv x.fields) (pmv x.params) x.result d)
 rw [hB1] at m1p
 obtain ⟨A2, b2, a2, m2, f2, g2⟩ := m1p.visit v2
 obtain ⟨B2, hB2⟩ : ∃ B2, A2.set (H.length + 1) (ABlk.cells (tk x (pl o2 x.elem) (pl o3 x.base) (fdv x.fields) (pmv x.params) x.result d)) = B2 := ⟨_, rfl⟩
 have m2p := m2.put (tk x (pl o2 x.elem) (pl o3 x.base) (fdv x.fields) (pmv x.params) x.result d)
 rw [hB2] at m2p
 have m3 := m2p.app [ABlk.dead, ABlk.cells (fdC x.fields)]
 obtain ⟨D3, hD3⟩ : ∃ D3, (B2 ++ [ABlk.dead, ABlk.cells (fdC x.fields)]).set (H.length + 1) (ABlk.cells (tk x (pl o2 x.elem) (pl o3 x.base) (.hsl (B2.length + 1) 0 x.fields.length x.fields.length 3) (pmv x.params) x.result d)) = D3 := ⟨_, rfl⟩
 have m3p := m3.put (tk x (pl o2 x.elem) (pl o3 x.base) (.hsl (B2.length + 1) 0 x.fields.length x.fields.length 3) (pmv x.params) x.result d)
 rw [hD3] at m3p
 have hB2l := m2p.lt
 have hB2o := m2p.ts.ob_lt
 have fb3 : D3[B2.length + 1]? = some (.cells (fdC (mFd o4 x.fields 0))) := by
  rw [← hD3, List.getElem?_set_ne (by omega), List.getElem?_append_right (by omega), show B2.length + 1 - B2.length = 1 by omega]; rfl
 obtain ⟨L, A3, w3, L0, Lt, Ls, ob4, i4⟩ := vloop (C := fun i => fdC (mFd o4 x.fields i)) d3 m3p fb3 (by omega) (by omega) (by omega) r3
 rw [List.length_map] at Lt Ls i4
 obtain ⟨E, hE⟩ : ∃ E, L x.fields.length = E := ⟨_, rfl⟩
 rw [hE] at i4
 have hlf := Lt x.fields.length (Nat.le_refl _)
 have m4 := i4.ms.app [ABlk.dead, ABlk.cells (pmC x.params)]
 obtain ⟨D5, hD5⟩ : ∃ D5, (E ++ [ABlk.dead, ABlk.cells (pmC x.params)]).set (H.length + 1) (ABlk.cells (tk x (pl o2 x.elem) (pl o3 x.base) (.hsl (B2.length + 1) 0 x.fields.length x.fields.length 3) (.hsl (E.length + 1) 0 x.params.length x.params.length 2) x.result d)) = D5 := ⟨_, rfl⟩
 have m5p := m4.put (tk x (pl o2 x.elem) (pl o3 x.base) (.hsl (B2.length + 1) 0 x.fields.length x.fields.length 3) (.hsl (E.length + 1) 0 x.params.length x.params.length 2) x.result d)
 rw [hD5] at m5p
 have hEl := i4.ms.lt
 have hEo := i4.ms.ts.ob_lt
 have pb5 : D5[E.length + 1]? = some (.cells (pmC (mPm o5 x.params 0))) := by
  rw [← hD5, List.getElem?_set_ne (by omega), List.getElem?_append_right (by omega), show E.length + 1 - E.length = 1 by omega]; rfl
 obtain ⟨M, A5, w5, M0, Mt, Ms, ob6, i6⟩ := vloop (C := fun i => pmC (mPm o5 x.params i)) d4 m5p pb5 (by omega) (by omega) (by omega) r5
 rw [List.length_map] at Mt Ms i6
 obtain ⟨E2, hE2⟩ : ∃ E2, M x.params.length = E2 := ⟨_, rfl⟩
 rw [hE2] at i6
 have hmf := Mt x.params.length (Nat.le_refl _)
 obtain ⟨A6, b6, a6, m6, f6, g6⟩ := i6.ms.visit v6
 obtain ⟨B6, hB6⟩ : ∃ B6, A6.set (H.length + 1) (ABlk.cells (tk x (pl o2 x.elem) (pl o3 x.base) (.hsl (B2.length + 1) 0 x.fields.length x.fields.length 3) (.hsl (E.length + 1) 0 x.params.length x.params.length 2) (pl o1 x.result) d)) = B6 := ⟨_, rfl⟩
 have m6p := m6.put (tk x (pl o2 x.elem) (pl o3 x.base) (.hsl (B2.length + 1) 0 x.fields.length x.fields.length 3) (.hsl (E.length + 1) 0 x.params.length x.params.length 2) (pl o1 x.result) d)
 rw [hB6] at m6p
 rw [hE, mFd_n] at hlf
 rw [hE2, mPm_n] at hmf
 have l3 : D3.length = B2.length + 2 := by rw [← hD3]; simp
 have l5 : D5.length = E.length + 2 := by rw [← hD5]; simp
 have lE := i4.len
 have lE2 := i6.len
 have o4' := i4.ob
 have o6' := i6.ob
 have h4x := m0.nx
 have lt0 := m0.lt
 have fl1 := f1.len
 have fl2 := f2.len
 have fl6 := f6.len
 have lB1 : B1.length = A1.length := by rw [← hB1, List.length_set]
 have lB2 : B2.length = A2.length := by rw [← hB2, List.length_set]
 have lB6 : B6.length = A6.length := by rw [← hB6, List.length_set]
 have ob6l := i6.ms.ts.ob_lt
 have fE5 : D5[B2.length + 1]? = some (.cells (fdC (x.fields.map (trFd o4)))) := by
  rw [← hD5, List.getElem?_set_ne (by omega), List.getElem?_append_left (by omega)]; exact hlf.2
 have fE6 : E2[B2.length + 1]? = some (.cells (fdC (x.fields.map (trFd o4)))) := (i6.out _ (by omega) (by omega) (by omega) (by omega)).trans fE5
 have fA6 : A6[B2.length + 1]? = some (.cells (fdC (x.fields.map (trFd o4)))) := (f6.out _ (by omega) (by omega) (by omega)).trans fE6
 have pA6 : A6[E.length + 1]? = some (.cells (pmC (x.params.map (trPm o5)))) := (f6.out _ (by omega) (by omega) (by omega)).trans hmf.2
 have fB6 : B6[B2.length + 1]? = some (.cells (fdC (x.fields.map (trFd o4)))) := by rw [← hB6, List.getElem?_set_ne (by omega)]; exact fA6
 have pB6 : B6[E.length + 1]? = some (.cells (pmC (x.params.map (trPm o5)))) := by rw [← hB6, List.getElem?_set_ne (by omega)]; exact pA6
 obtain ⟨t', ht'⟩ : ∃ t' : Ty, t' = { x with elem := pl o2 x.elem, base := pl o3 x.base, fields := x.fields.map (trFd o4), params := x.params.map (trPm o5), result := pl o1 x.result, desc := d } := ⟨_, rfl⟩
 obtain ⟨F6, hF6⟩ : ∃ F6, ((B6.set (B2.length + 1) .dead).set (E.length + 1) .dead).set (H.length + 1) (.cells t'.cs) = F6 := ⟨_, rfl⟩
 have lF6 : F6.length = B6.length := by rw [← hF6]; simp
 obtain ⟨R, hR⟩ : ∃ R, F6.set b6 (.cells (tyC (l ++ some t' :: (news f.name f.types (o ++ [a]) o1).map some))) = R := ⟨_, rfl⟩
 have fz := tk_fz (x := x) (e := pl o2 x.elem) (b := pl o3 x.base) (r := pl o1 x.result) (d := d) fB6 pB6
 simp only [List.length_map] at fz
 have g6l := m6.ts.ob_lt
 have wkF : ∀ s, Wk H.length s B6 s F6 := fun s => Wk.freeze (fun c => c = B2.length + 1 ∨ c = E.length + 1) (FzL.rfl s) ⟨lF6, fun b hb => ⟨by omega, fun k hk => by
  rw [← hF6, List.getElem?_set_ne (by omega)] at hk
  by_cases e : b = E.length + 1
  ·subst e; rw [List.getElem?_set_self (by rw [List.length_set]; omega)] at hk; exact (Option.some.inj hk).symm
  ·rw [List.getElem?_set_ne (by omega), show b = B2.length + 1 by omega, List.getElem?_set_self (by omega)] at hk; exact (Option.some.inj hk).symm⟩, fun b k hb hk => by
  rw [← hF6] at hk
  by_cases e : b = H.length + 1
  ·subst e
   rw [List.getElem?_set_self (by simp only [List.length_set]; omega)] at hk
   refine .inr ⟨_, _, m6p.tc, (Option.some.inj hk).symm, ?_⟩
   rw [ht']; exact fz
  ·rw [List.getElem?_set_ne (by omega), List.getElem?_set_ne (by omega), List.getElem?_set_ne (by omega)] at hk
   exact .inl hk⟩
 have tsF : TS f xb F6 b6 o1 (l ++ [none] ++ (news f.name f.types (o ++ [a]) o1).map some) := by
  have e := m6p.ts
  have j : ∀ (X : List (Option Ty)) {oi oj : List Int} {ks : List Int}, Vis (kidsV f.types) oa ks oi → oi.Nodup → oi <+: oj → X ++ (news f.name f.types oa oi).map some ++ (news f.name f.types oi oj).map some = X ++ (news f.name f.types oa oj).map some := fun X oi oj ks h1 h2 h3 => by
   rw [List.append_assoc, ← List.map_append, news_app h2 h1 h3]
  rw [j _ k2 d2 w2.pre, j _ k3 d3 r3.pre, j _ k4 d4 r5.pre, j _ k5 d5 w6.pre] at e
  rw [← hoae, ← hF6]
  exact ((e.set (by omega) (by omega) _).set (by omega) (by omega) _).set m6.nx m6.no _
 obtain ⟨l6, hl6⟩ : ∃ l6, l6 = l ++ [none] ++ (news f.name f.types (o ++ [a]) o1).map some := ⟨_, rfl⟩
 have hlt6 : l.length < l6.length := by rw [hl6]; simp
 have tx6 := tsF.x
 have tt6 := tsF.t
 rw [← hl6] at tx6 tt6
 have st6 : (tyC l6).take (l.length * 10) ++ t'.cs ++ (tyC l6).drop (l.length * 10 + 10) = tyC (l ++ some t' :: (news f.name f.types (o ++ [a]) o1).map some) := by
  rw [hl6, List.append_assoc l, List.singleton_append]; exact tyC_set _ _ _
 have sl6 := tyC_len l6
 have plv : pl o1 a = l.length := by
  obtain ⟨q, rfl⟩ := (hoae ▸ k5.app w6 |>.pre : o ++ [a] <+: o1)
  rw [pl_ge h7, List.append_assoc, List.idxOf_append, if_neg hn]
  simp; omega
 have tF : F6[H.length + 1]? = some (.cells t'.cs) := by rw [← hF6, List.getElem?_set_self (by simp only [List.length_set]; omega)]
 have tnt : t' = ntF f.name f.types o1 o.length := by
  obtain ⟨q1, q2⟩ := tkv_pre (show o ++ [a] <+: o1 from hoae ▸ (k5.app w6).pre)
  have u1 : pl o2 x.elem = pl o1 x.elem := (pl_pre p2 (w1.mem _ List.mem_cons_self)).symm
  have u2 : pl o3 x.base = pl o1 x.base := (pl_pre p3 (w2.mem _ List.mem_cons_self)).symm
  have u3 : x.fields.map (trFd o4) = x.fields.map fun f => { f with typ := pl o1 f.typ } := List.map_congr_left fun y hy => by
   rw [trFd, pl_pre p4 (r3.vis.mem _ (List.mem_map_of_mem hy))]
  have u4 : x.params.map (trPm o5) = x.params.map fun f => { f with typ := pl o1 f.typ } := List.map_congr_left fun y hy => by
   rw [trPm, pl_pre p5 (r5.vis.mem _ (List.mem_map_of_mem hy))]
  rw [ht', ntF, q1, q2, ← hm, ← hxx, trnT, u1, u2, u3, u4, hdd]
 refine ⟨R, b6, ?_, ?_, ?_, ?_⟩
 ·refine ACalls.into Try.func42 cc42t rr42t fun hcl => ?_
  simp (maxSteps := 2000000) (disch := omega) only [Try.ntmps42, c42, r42, c42t, r42t, h6, decide_false, hx, xC_len, xC_out, hl, take1_at e1, hp, hH1.symm, x1, t1, appH, tt, tl, n1, hz, hH2.symm, x2, hs2, hH3.symm, x3, n3, xC_ty, iaA_ty (show 0 ≤ a by omega) ha, c1, c2, c3, c4, c5, l4, s4, x4, xC_nm, xC_ds, go_sem, seval, reduceCtorEq]
  refine W.pchain follows (by decide +kernel) ?_
  have tH4 := m0.tc
  have tA1 := m1.tc
  have tB1 := m1p.tc
  have tA2 := m2.tc
  have tB2 := m2p.tc
  have tC3 := m3.tc
  have tD3 := m3p.tc
  have tE := i4.ms.tc
  have tC5 := m4.tc
  have tD5 := m5p.tc
  have tE2 := i6.ms.tc
  have tA6 := m6.tc
  simp only [tk, Ty.cs] at hw hB1 hB2 hD3 hD5 hB6 l4 c4 c5 tH4 tA1 tB1 tA2 tB2 tC3 tD3 tE tC5 tD5 tE2 tA6 ⊢
  have hxm : x ∈ f.types := by
   rw [hxx, tyAt, List.getD_eq_getElem?_getD, List.getElem?_eq_getElem (by omega)]; exact List.getElem_mem _
  have hfl : x.fields.length ≤ 9000000 := by have := (hs.2 x hxm).1; omega
  have hpl : x.params.length ≤ 9000000 := by have := (hs.2 x hxm).2.1; omega
  have q1 : t'.cs.length = 10 := rfl
  have q2 : t'.cs.take 10 = t'.cs := rfl
  have q3 : t'.cs.all one = true := rfl
  rcases hw with ⟨k9, -, hH4⟩ | ⟨k9, km, -, hH4⟩ | ⟨k9, km, -, hH4⟩
  case' inl => simp (maxSteps := 2000000) (disch := omega) only [l4, x4, xC_len, xC_nm, k9, decide_false, hH4, tH4, go_sem, seval, reduceCtorEq]
  case' inr.inl => simp (maxSteps := 2000000) (disch := omega) only [l4, x4, m0.ts.x, xC_len, xC_nm, decide_eq_true k9, decide_eq_false km, hH4, tH4, go_sem, seval, reduceCtorEq]
  case' inr.inr => simp (maxSteps := 2000000) (disch := omega) only [l4, x4, s4, xC_len, xC_nm, xC_ds, sd, decide_eq_true k9, decide_eq_true km, hH4, tH4, go_sem, seval, reduceCtorEq]
  all_goals
   refine Cont.mk a1 ?_
   simp (maxSteps := 2000000) (disch := omega) only [tA1, hB1, tB1, go_sem, seval, reduceCtorEq]
   refine Cont.mk a2 ?_
   simp (maxSteps := 2000000) (disch := omega) only [tA2, hB2, tB2, go_sem, seval, reduceCtorEq]
   refine Cont.mk (fclone_c hfl _) ?_
   simp (maxSteps := 2000000) (disch := omega) only [tC3, hD3, tD3, go_sem, seval, reduceCtorEq]
   obtain ⟨S1, hS1⟩ : ∃ S1 : Nat → List AV, ∀ i, S1 i = [.ptr xb 0, iv a, .any, .any, iv 0, iv l.length, .ptr (H.length + 1) 0, .any, .any, .any, .any, .any, .any, .any, .any, .any, .any, .any, .any, .any, .any, .any, .any, .any, .any, .any, .any, .any, .any, .any, .any, .any, .any, .any, .any, .any, .any, .any, .any, .any, .any, .any, .any, .any, .any, .any, .any, .any, .any, .any, .any, .any, .any, .any, .any, .any, .any, .any, .any, .any, .any, .any, .any, .any, .any, .any, .any, .any, .any, .any, .any, .any, .any, .any, .any, .any, .any, .any, .any, .any, .any, .any, .any, .any, .any, .any, .any, .any, .any, .any, .any, .any, .any, iv x.fields.length, iv i] ++ List.replicate 53 .any := ⟨_, fun _ => rfl⟩
   refine W.loopG (γ := Nat) (fun i => x.fields.length - i) S1 L (fun i => i ≤ x.fields.length) 0 ?_ (Nat.zero_le _) (fun i hi => ?_)
   ·rw [L0]; exact Wk.slots (by rw [hS1]; exact WkL.tail 95 _ rfl (by simp only [List.take_succ_cons, List.take_zero]; repeat' first | exact WkL.nil | refine WkL.cons (Wk1.rfl _) ?_ | refine WkL.cons Wk1.esl ?_ | refine WkL.cons (Wk1.gsl _ _ _) ?_ | refine WkL.cons (Wk1.any _) ?_))
   by_cases hi3 : i < x.fields.length
   ·obtain ⟨vs, hL⟩ := Ls i hi3
    have vt := vs.ht
    have vf := vs.hf
    have ut := vs.at_
    have uf := vs.af
    simp only [tk] at vt ut
    have kt := killed vt vs.nt
    have ff := fd_at (o := o4) hi3
    have fset := fd_set (o := o4) hi3
    have flen : (fdC (mFd o4 x.fields i)).length = x.fields.length * 3 := by rw [fdC_len, mFd_len]
    have hi4 : i * 3 + 2 + 1 ≤ x.fields.length * 3 := by omega
    simp (maxSteps := 2000000) (disch := omega) only [hS1, c42tl1, go_sem, seval, reduceCtorEq]
    refine W.dregD [([], xb :: (w3 i ++ [])), ([], xb :: (w3 i ++ [])), ([], xb :: (w3 i ++ [])), ([], []), ([], []), ([], []), ([], []), ([], []), ([], []), ([], []), (xb :: w3 i, []), ([], []), ([], []), ([B2.length + 1], [])] follows (by decide +kernel) rfl rfl (fun z hz b hb => ?_) ?_
    ·simp only [List.mem_cons, List.not_mem_nil, or_false] at hz
     rcases hz with rfl | rfl | rfl | rfl | rfl | rfl | rfl | rfl | rfl | rfl | rfl | rfl | rfl | rfl <;> first | exact absurd hb List.not_mem_nil | exact ⟨List.not_mem_nil, vs.live _ hb⟩ | (rw [List.mem_singleton.1 hb, vf]; simp)
    repeat (rw [DC_p]; simp (maxSteps := 2000000) (disch := omega) only [kt, vt, vf, flen, hi4, ff, go_sem, seval, reduceCtorEq])
    refine WStep.call (by simp (maxSteps := 2000000) (disch := omega) only [go_sem, seval, reduceCtorEq]; exact vs.call) vs.out vs.len ?_
    try simp (maxSteps := 2000000) (disch := omega) only [go_sem, seval, reduceCtorEq]
    repeat (rw [DC_p]; simp (maxSteps := 2000000) (disch := omega) only [go_sem, seval, reduceCtorEq])
    refine WStep.ev (fun _ _ e => by cases e) (fun _ _ e => by cases e) ?_
    try simp (maxSteps := 2000000) (disch := omega) only [uf, flen, hi4, fset, hL, go_sem, seval, reduceCtorEq]
    refine ⟨by rw [← hL]; exact FrOk.set (List.mem_cons_self), ?_⟩
    exact Nxt.mk (i + 1) (by omega) (Wk.slots (by rw [hS1]; exact WkL.tail 95 _ rfl (by simp only [List.take_succ_cons, List.take_zero]; repeat' first | exact WkL.nil | refine WkL.cons (Wk1.rfl _) ?_ | refine WkL.cons Wk1.esl ?_ | refine WkL.cons (Wk1.gsl _ _ _) ?_ | refine WkL.cons (Wk1.any _) ?_))) (by omega)
   have hin : i = x.fields.length := by omega
   subst hin
   simp (maxSteps := 2000000) (disch := omega) only [hS1, c42tl1, hE, tE, go_sem, seval, reduceCtorEq]
   refine Cont.mk (pclone_c hpl _) ?_
   simp (maxSteps := 2000000) (disch := omega) only [tC5, hD5, tD5, go_sem, seval, reduceCtorEq]
   obtain ⟨S2, hS2⟩ : ∃ S2 : Nat → List AV, ∀ i, S2 i = [.ptr xb 0, iv a, .any, .any, iv 0, iv l.length, .ptr (H.length + 1) 0, .any, .any, .any, .any, .any, .any, .any, .any, .any, .any, .any, .any, .any, .any, .any, .any, .any, .any, .any, .any, .any, .any, .any, .any, .any, .any, .any, .any, .any, .any, .any, .any, .any, .any, .any, .any, .any, .any, .any, .any, .any, .any, .any, .any, .any, .any, .any, .any, .any, .any, .any, .any, .any, .any, .any, .any, .any, .any, .any, .any, .any, .any, .any, .any, .any, .any, .any, .any, .any, .any, .any, .any, .any, .any, .any, .any, .any, .any, .any, .any, .any, .any, .any, .any, .any, .any, .any, .any, .any, .any, .any, .any, .any, .any, .any, .any, .any, .any, .any, .any, .any, .any, .any, .any, .any, .any, .any, .any, .any, .any, iv x.params.length, iv i] ++ List.replicate 29 .any := ⟨_, fun _ => rfl⟩
   refine W.loopG (γ := Nat) (fun i => x.params.length - i) S2 M (fun i => i ≤ x.params.length) 0 ?_ (Nat.zero_le _) (fun i hi => ?_)
   ·rw [M0]; exact Wk.slots (by rw [hS2]; exact WkL.tail 119 _ rfl (by simp only [List.take_succ_cons, List.take_zero]; repeat' first | exact WkL.nil | refine WkL.cons (Wk1.rfl _) ?_ | refine WkL.cons Wk1.esl ?_ | refine WkL.cons (Wk1.gsl _ _ _) ?_ | refine WkL.cons (Wk1.any _) ?_))
   by_cases hi3 : i < x.params.length
   ·obtain ⟨vs, hL⟩ := Ms i hi3
    have vt := vs.ht
    have vf := vs.hf
    have ut := vs.at_
    have uf := vs.af
    simp only [tk] at vt ut
    have kt := killed vt vs.nt
    have ff := pm_at (o := o5) hi3
    have fset := pm_set (o := o5) hi3
    have flen : (pmC (mPm o5 x.params i)).length = x.params.length * 2 := by rw [pmC_len, mPm_len]
    have hi4 : i * 2 + 1 + 1 ≤ x.params.length * 2 := by omega
    simp (maxSteps := 2000000) (disch := omega) only [hS2, c42tl0, go_sem, seval, reduceCtorEq]
    refine W.dregD [([], xb :: (w5 i ++ [])), ([], xb :: (w5 i ++ [])), ([], xb :: (w5 i ++ [])), ([], []), ([], []), ([], []), ([], []), ([], []), ([], []), ([], []), (xb :: w5 i, []), ([], []), ([], []), ([E.length + 1], [])] follows (by decide +kernel) rfl rfl (fun z hz b hb => ?_) ?_
    ·simp only [List.mem_cons, List.not_mem_nil, or_false] at hz
     rcases hz with rfl | rfl | rfl | rfl | rfl | rfl | rfl | rfl | rfl | rfl | rfl | rfl | rfl | rfl <;> first | exact absurd hb List.not_mem_nil | exact ⟨List.not_mem_nil, vs.live _ hb⟩ | (rw [List.mem_singleton.1 hb, vf]; simp)
    repeat (rw [DC_p]; simp (maxSteps := 2000000) (disch := omega) only [kt, vt, vf, flen, hi4, ff, go_sem, seval, reduceCtorEq])
    refine WStep.call (by simp (maxSteps := 2000000) (disch := omega) only [go_sem, seval, reduceCtorEq]; exact vs.call) vs.out vs.len ?_
    try simp (maxSteps := 2000000) (disch := omega) only [go_sem, seval, reduceCtorEq]
    repeat (rw [DC_p]; simp (maxSteps := 2000000) (disch := omega) only [go_sem, seval, reduceCtorEq])
    refine WStep.ev (fun _ _ e => by cases e) (fun _ _ e => by cases e) ?_
    try simp (maxSteps := 2000000) (disch := omega) only [uf, flen, hi4, fset, hL, go_sem, seval, reduceCtorEq]
    refine ⟨by rw [← hL]; exact FrOk.set (List.mem_cons_self), ?_⟩
    exact Nxt.mk (i + 1) (by omega) (Wk.slots (by rw [hS2]; exact WkL.tail 119 _ rfl (by simp only [List.take_succ_cons, List.take_zero]; repeat' first | exact WkL.nil | refine WkL.cons (Wk1.rfl _) ?_ | refine WkL.cons Wk1.esl ?_ | refine WkL.cons (Wk1.gsl _ _ _) ?_ | refine WkL.cons (Wk1.any _) ?_))) (by omega)
   have hin : i = x.params.length := by omega
   subst hin
   simp (maxSteps := 2000000) (disch := omega) only [hS2, c42tl0, hE2, tE2, go_sem, seval, reduceCtorEq]
   refine Cont.mk a6 ?_
   simp (maxSteps := 2000000) (disch := omega) only [tA6, hB6, go_sem, seval, reduceCtorEq]
   refine W.weak (wkF _) ?_
   refine W.dregSt 7 b6 rfl follows (by decide +kernel) rfl (by rw [tt6]; simp) ?_
   simp (maxSteps := 2000000) (disch := omega) only [tx6, xC_len, xC_out, tF, hlt6, q1, q2, q3, go_sem, seval, reduceCtorEq]
   refine StW.st _ rfl ?_
   simp (maxSteps := 2000000) (disch := omega) only [tt6, sl6, q1, q2, q3, st6, hR, go_sem, seval, reduceCtorEq]
   exact Ret.keep ⟨by rw [plv], rfl⟩
 ·rw [← hR]; exact vc_end (hoae ▸ k5.app w6 |>.pre) tnt tsF
 ·have tfl := tf0.len
  refine ⟨by rw [← hR, List.length_set]; omega, fun b hb nx no => ?_⟩
  have s1 : A1[b]? = H[b]? := (f1.out b (by omega) nx (by omega)).trans (tf0.out b hb nx no)
  have s2 : B1[b]? = H[b]? := by rw [← hB1, List.getElem?_set_ne (by omega)]; exact s1
  have s3 : A2[b]? = H[b]? := (f2.out b (by omega) nx (by omega)).trans s2
  have s4 : B2[b]? = H[b]? := by rw [← hB2, List.getElem?_set_ne (by omega)]; exact s3
  have s5 : D3[b]? = H[b]? := by rw [← hD3, List.getElem?_set_ne (by omega), List.getElem?_append_left (by omega)]; exact s4
  have s6 : E[b]? = H[b]? := (i4.out b (by omega) nx (by omega) (by omega)).trans s5
  have s7 : D5[b]? = H[b]? := by rw [← hD5, List.getElem?_set_ne (by omega), List.getElem?_append_left (by omega)]; exact s6
  have s8 : E2[b]? = H[b]? := (i6.out b (by omega) nx (by omega) (by omega)).trans s7
  have s9 : A6[b]? = H[b]? := (f6.out b (by omega) nx (by omega)).trans s8
  have sa : B6[b]? = H[b]? := by rw [← hB6, List.getElem?_set_ne (by omega)]; exact s9
  rw [← hR, List.getElem?_set_ne (by omega), ← hF6, List.getElem?_set_ne (by omega), List.getElem?_set_ne (by omega), List.getElem?_set_ne (by omega)]
  exact sa
 ·omega
end Go.Proofs.Ythifjndenhjobaa
