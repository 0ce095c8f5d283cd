/-
  One's own library, part 7: the rules by which functions are walked.
-/
import Derived.Test.YtmgmoamcbnkbfaaGreatDoorYSnd9
import Derived.Orders
set_option linter.unusedVariables false
set_option linter.unusedSimpArgs false
set_option linter.unusedSectionVars false
namespace Go.Proofs.YtmgmoamcbnkbfaaGreatDoor
open Go.RowKit

/-! ### knowing less -/
inductive Wk1 : AV → AV → Prop
  | rfl (x : AV) : Wk1 x x
  | any (x : AV) : Wk1 x .any
  | gsl (b sz : Nat) (es : List (List Dat)) : Wk1 (.gsl b sz es) (.d (.sl es))
  | esl : Wk1 .esl (.d (.sl []))
  | agg {cs cs' : List AV} : cs.length = cs'.length → (∀ (i : Nat) (c c' : AV), cs[i]? = some c → cs'[i]? = some c' → Wk1 c c') → Wk1 (.agg cs) (.agg cs')
  | tup {cs cs' : List AV} : cs.length = cs'.length → (∀ (i : Nat) (c c' : AV), cs[i]? = some c → cs'[i]? = some c' → Wk1 c c') → Wk1 (.tup cs) (.tup cs')
theorem Wk1.sound {σ : Sg} {x y : AV} (h : Wk1 x y) : ∀ {u : Value}, VR σ x u → VR σ y u := by
  induction h with
  | rfl => exact fun h => h
  | any => exact fun _ => .any
  | gsl b sz es => intro u h; cases h with | gsl _ _ hd => exact .d hd
  | esl => intro u h; cases h; exact .d .nil
  | @agg cs cs' hl _ ih =>
    intro u h
    cases h with
    | agg h1 h2 =>
      refine .agg (hl ▸ h1) fun i c' u hi hu => ?_
      have hlt : i < cs.length := by rw [hl]; exact (List.getElem?_eq_some_iff.1 hi).1
      exact ih i _ c' (List.getElem?_eq_getElem hlt) hi (h2 i _ u (List.getElem?_eq_getElem hlt) hu)
  | @tup cs cs' hl _ ih =>
    intro u h
    cases h with
    | tup h1 h2 =>
      refine .tup (hl ▸ h1) fun i c' u hi hu => ?_
      have hlt : i < cs.length := by rw [hl]; exact (List.getElem?_eq_some_iff.1 hi).1
      exact ih i _ c' (List.getElem?_eq_getElem hlt) hi (h2 i _ u (List.getElem?_eq_getElem hlt) hu)
inductive WkL : List AV → List AV → Prop
  | nil : WkL [] []
  | cons {x y : AV} {xs ys : List AV} : Wk1 x y → WkL xs ys → WkL (x :: xs) (y :: ys)
theorem WkL.rfl : ∀ (xs : List AV), WkL xs xs
  | [] => .nil
  | x :: xs => .cons (.rfl x) (WkL.rfl xs)
theorem WkL.sound {σ : Sg} {xs ys : List AV} (h : WkL xs ys) : ∀ {us : List Value}, VRs σ xs us → VRs σ ys us := by
  induction h with
  | nil => exact fun h => h
  | cons h1 _ ih =>
    intro us h
    obtain ⟨u, us', rfl, h2, h3⟩ := h.cons_inv
    exact .cons (h1.sound h2) (ih h3)

/-- A heap all of whose names lie in it. -/
def cl (H : List ABlk) : Prop := ∀ (b : Nat) (k : ABlk), H[b]? = some k → ∀ r ∈ k.refs, r < H.length
theorem cl.append {H l : List ABlk} (h : cl H) (hl : ∀ k ∈ l, ∀ r ∈ k.refs, r < H.length + l.length) : cl (H ++ l) := by
  intro b k hb r hr
  rw [List.length_append]
  rw [List.getElem?_append] at hb
  split at hb
  · exact Nat.lt_of_lt_of_le (h b k hb r hr) (Nat.le_add_right _ _)
  · exact hl k (List.mem_of_getElem? hb) r hr
theorem HR.cl {σ : Sg} {H : List ABlk} {w : World} (h : HR σ H w) : cl H := fun _ _ hb => h.refs_lt hb

structure WkB (nb : Nat) (s : List AV) (H : List ABlk) (s0 : List AV) (H0 : List ABlk) : Prop where
  s : WkL s s0
  H : H = H0 ∨ (nb ≤ H0.length ∧ (∃ l, H = H0 ++ l) ∧ Go.Proofs.YtmgmoamcbnkbfaaGreatDoor.cl H0 ∧ ∀ r ∈ refs.refsL s0, r < H0.length)
theorem WkB.sound {nb : Nat} {s s0 : List AV} {H H0 : List ABlk} {a : Act} {σ : Sg} {w : World} (h : WkB nb s H s0 H0) (hr : HR σ H w) (hs : SS σ s a) :
    ∃ σ', ExtN nb σ H w σ' H0 w ∧ HR σ' H0 w ∧ SS σ' s0 a := by
  rcases h.H with rfl | ⟨hnb, ⟨l, rfl⟩, hc, hrf⟩
  · exact ⟨σ, .refl .., hr, hs.defers, h.s.sound hs.tmps⟩
  · have hφ : ∀ b k, b < H0.length → (σ.trunc H0.length).φ b k = σ.φ b k := fun b k hb => if_pos hb
    refine ⟨σ.trunc H0.length, ⟨fun _ _ h => h, fun b n v hb hv => by rw [hφ _ _ (by omega)]; exact hv, rfl, rfl, rfl, Nat.le_refl _, fun _ _ _ => rfl, ?_, fun _ h => absurd rfl h, fun b hb hd => ?_⟩, hr.trunc hc, hs.defers, (h.s.sound hs.tmps).trunc hrf⟩
    rotate_left
    · have hlt : b < H0.length := by omega
      rw [List.getElem?_append_left hlt] at hd
      exact ⟨hd, fun n => hφ _ _ hlt⟩
    rintro k ⟨b, blk, v', hb', hl, hv', hc'⟩
    have hlt : b < H0.length := (List.getElem?_eq_some_iff.1 hb').1
    rw [hφ _ _ hlt] at hv'
    · exact .inl ⟨b, blk, v', by rw [List.getElem?_append_left hlt]; exact hb', hl, hv', hc'⟩
/-- KNOWING LESS: what holds still holds. -/
def Wk (nb : Nat) (s : List AV) (H : List ABlk) (s0 : List AV) (H0 : List ABlk) : Prop :=
  ∀ (a : Act) (σ : Sg) (w : World), HR σ H w → SS σ s a → ∃ σ', ExtN nb σ H w σ' H0 w ∧ HR σ' H0 w ∧ SS σ' s0 a
theorem Wk.sound {nb : Nat} {s s0 : List AV} {H H0 : List ABlk} {a : Act} {σ : Sg} {w : World} (h : Wk nb s H s0 H0) (hr : HR σ H w) (hs : SS σ s a) :
    ∃ σ', ExtN nb σ H w σ' H0 w ∧ HR σ' H0 w ∧ SS σ' s0 a := h a σ w hr hs
theorem WkB.wk {nb : Nat} {s s0 : List AV} {H H0 : List ABlk} (h : WkB nb s H s0 H0) : Wk nb s H s0 H0 := fun _ _ _ hr hs => h.sound hr hs
theorem Wk.slots {nb : Nat} {s s0 : List AV} {H : List ABlk} (h : WkL s s0) : Wk nb s H s0 H := WkB.wk ⟨h, .inl rfl⟩
theorem Wk.refl {nb : Nat} {s : List AV} {H : List ABlk} : Wk nb s H s H := Wk.slots (WkL.rfl s)
theorem Wk.drop {nb : Nat} {s s0 : List AV} {H0 l : List ABlk} (h : WkL s s0) (hn : nb ≤ H0.length) (hc : Go.Proofs.YtmgmoamcbnkbfaaGreatDoor.cl H0) (hr : ∀ r ∈ refs.refsL s0, r < H0.length) : Wk nb s (H0 ++ l) s0 H0 := WkB.wk ⟨h, .inr ⟨hn, ⟨l, rfl⟩, hc, hr⟩⟩
theorem Wk.trans {nb : Nat} {s s1 s2 : List AV} {H H1 H2 : List ABlk} (h : Wk nb s H s1 H1) (k : Wk nb s1 H1 s2 H2) : Wk nb s H s2 H2 := fun a σ w hr hs => by
  obtain ⟨σ', x1, x2, x3⟩ := h a σ w hr hs
  obtain ⟨σ2, y1, y2, y3⟩ := k a σ' w x2 x3
  exact ⟨σ2, x1.trans y1, y2, y3⟩
theorem Wk.ghost {nb : Nat} {s : List AV} {H : List ABlk} (i sz : Nat) (h : s[i]? = some .esl) : Wk nb s H (s.set i (.hsl H.length 0 0 0 sz)) (H ++ [.cells []]) := fun a σ w hr hs => by
  obtain ⟨σ', y1, y2, y3⟩ := hr.place0 (.slice none 0 0) (by simp [conc])
  have hs' := hs.mono y1.le
  refine ⟨σ', y1.toN nb, y2, hs'.defers, ?_⟩
  have hlt : i < s.length := (List.getElem?_eq_some_iff.1 h).1
  have hlt' : i < a.tmps.toList.length := by rw [← hs'.tmps.1]; exact hlt
  have hv := hs'.tmps.2 i .esl _ h (List.getElem?_eq_getElem hlt')
  have : VR σ' (.hsl H.length 0 0 0 sz) a.tmps.toList[i] := by
    generalize a.tmps.toList[i] = u at hv
    cases hv
    exact .hsl0 y3
  have h2 := hs'.tmps.set i this
  rwa [List.set_getElem_self] at h2
section
variable {P : Program} {hint : Nat → Option Md} {nb : Nat}

/-- WHAT IS WALKED: a piece of code, its slots, its heap, what shall hold behind it. nb: the names that the function's caller knows. -/
def W (P : Program) (hint : Nat → Option Md) (nb : Nat) (ac : AC) (s : List AV) (H : List ABlk) (Q : APost) : Prop :=
  ∀ c, comp P hint c = some ac → ∀ σ a w, HR σ H w → SS σ s a → c.wp P (Lift nb Q σ H w) a w

theorem W.mono {ac : AC} {s : List AV} {H : List ABlk} {Q Q' : APost} (h : W P hint nb ac s H Q) (hq : ∀ e s H, Q e s H → Q' e s H) : W P hint nb ac s H Q' :=
  fun c hc σ a w h1 h2 => wp_mono (h c hc σ a w h1 h2) fun _ _ _ k => k.mono hq

theorem comp_skip {c : Code} (h : comp P hint c = some .skip) : c = .skip := by
  cases c <;> simp only [comp, Option.map_eq_some_iff, reduceCtorEq] at h <;> (try (repeat' split at h)) <;> (try (simp at h; done)) <;> (try (obtain ⟨_, _, h⟩ := h; cases h; done)) <;> rfl
theorem comp_ret {c : Code} (h : comp P hint c = some .ret) : c = .ret := by
  cases c <;> simp only [comp, Option.map_eq_some_iff, reduceCtorEq] at h <;> (try (repeat' split at h)) <;> (try (simp at h; done)) <;> (try (obtain ⟨_, _, h⟩ := h; cases h; done)) <;> rfl
theorem comp_exit {c : Code} {id : Nat} (h : comp P hint c = some (.exit id)) : c = .exit id := by
  cases c <;> simp only [comp, Option.map_eq_some_iff, reduceCtorEq] at h <;> (try (repeat' split at h)) <;> (try (simp at h; done)) <;> (try (obtain ⟨_, _, h⟩ := h; cases h; done))
  simp only [Option.some.injEq, AC.exit.injEq] at h; rw [h]
theorem comp_reg {c : Code} {l : List Ins} (h : comp P hint c = some (.reg l)) : ∃ id ops, c = .region id ops false ∧ compL P hint ops ops.toList = some l := by
  cases c with
  | region id ops draw =>
    simp only [comp] at h
    split at h
    · rename_i l' hl
      cases draw with
      | true => simp at h
      | false => simp at h; subst h; exact ⟨id, ops, rfl, hl⟩
    · cases h
  | _ => simp only [comp, Option.map_eq_some_iff, reduceCtorEq] at h <;> (try (repeat' split at h)) <;> (try (simp at h; done)) <;> (try (obtain ⟨_, _, h⟩ := h; cases h; done))
theorem comp_dreg {c : Code} {bm : List (List Nat)} {l : List Ins} (h : comp P hint c = some (.dreg bm l)) : ∃ id ops, c = .region id ops true ∧ compL P hint ops ops.toList = some l ∧ bm = prOf ops := by
  cases c with
  | region id ops draw =>
    simp only [comp] at h
    split at h
    · rename_i l' hl
      cases draw with
      | true => simp at h; obtain ⟨h1, h2⟩ := h; subst h1; subst h2; exact ⟨id, ops, rfl, hl, rfl⟩
      | false => simp at h
    · cases h
  | _ => simp only [comp, Option.map_eq_some_iff, reduceCtorEq] at h <;> (try (repeat' split at h)) <;> (try (simp at h; done)) <;> (try (obtain ⟨_, _, h⟩ := h; cases h; done))
theorem comp_seq {c : Code} {x y : AC} (h : comp P hint c = some (.seq x y)) : ∃ cx cy, c = .seq cx cy ∧ comp P hint cx = some x ∧ comp P hint cy = some y := by
  cases c with
  | seq cx cy =>
    simp only [comp] at h
    split at h
    · rename_i ex ey; cases h; exact ⟨cx, cy, rfl, ex, ey⟩
    · cases h
  | _ => simp only [comp, Option.map_eq_some_iff, reduceCtorEq] at h <;> (try (repeat' split at h)) <;> (try (simp at h; done)) <;> (try (obtain ⟨_, _, h⟩ := h; cases h; done))
theorem comp_cond {c : Code} {x : Opd} {p q : AC} (h : comp P hint c = some (.cond x p q)) : ∃ cx cp cq, c = .cond cx cp cq ∧ opd cx = some x ∧ comp P hint cp = some p ∧ comp P hint cq = some q := by
  cases c with
  | cond cx cp cq =>
    simp only [comp] at h
    split at h
    · rename_i ex ep eq; cases h; exact ⟨cx, cp, cq, rfl, ex, ep, eq⟩
    · cases h
  | _ => simp only [comp, Option.map_eq_some_iff, reduceCtorEq] at h <;> (try (repeat' split at h)) <;> (try (simp at h; done)) <;> (try (obtain ⟨_, _, h⟩ := h; cases h; done))
theorem comp_block {c : Code} {id : Nat} {x : AC} (h : comp P hint c = some (.block id x)) : ∃ cx, c = .block id cx ∧ comp P hint cx = some x := by
  cases c with
  | block id' cx =>
    simp only [comp, Option.map_eq_some_iff] at h
    obtain ⟨y, hy, h⟩ := h
    cases h; exact ⟨cx, rfl, hy⟩
  | _ => simp only [comp, Option.map_eq_some_iff, reduceCtorEq] at h <;> (try (repeat' split at h)) <;> (try (simp at h; done)) <;> (try (obtain ⟨_, _, h⟩ := h; cases h; done))
theorem comp_loop {c : Code} {x : AC} (h : comp P hint c = some (.loop x)) : ∃ cx, c = .loop cx ∧ comp P hint cx = some x := by
  cases c with
  | loop cx =>
    simp only [comp, Option.map_eq_some_iff] at h
    obtain ⟨y, hy, h⟩ := h
    cases h; exact ⟨cx, rfl, hy⟩
  | _ => simp only [comp, Option.map_eq_some_iff, reduceCtorEq] at h <;> (try (repeat' split at h)) <;> (try (simp at h; done)) <;> (try (obtain ⟨_, _, h⟩ := h; cases h; done))

theorem W.skip {s : List AV} {H : List ABlk} {Q : APost} (hq : Q .normal s H) : W P hint nb .skip s H Q := by
  intro c hc σ a w h hs
  rw [comp_skip hc]
  exact wp_skip ⟨σ, s, H, .refl .., h, hs, hq⟩
theorem W.exit {s : List AV} {H : List ABlk} {Q : APost} {id : Nat} (hq : Q (.exit id) s H) : W P hint nb (.exit id) s H Q := by
  intro c hc σ a w h hs
  rw [comp_exit hc]
  exact wp_exit ⟨σ, s, H, .refl .., h, hs, hq⟩
theorem W.ret {s : List AV} {H : List ABlk} {Q : APost} (hq : Q .ret s H) : W P hint nb .ret s H Q := by
  intro c hc σ a w h hs
  rw [comp_ret hc]
  exact wp_ret ⟨σ, s, H, .refl .., h, hs, hq⟩
theorem W.reg {l : List Ins} {s : List AV} {H : List ABlk} {Q : APost} (hw : wpIns P l s H (Q .normal)) : W P hint nb (.reg l) s H Q := by
  intro c hc σ a w h hs
  obtain ⟨id, ops, rfl, hl⟩ := comp_reg hc
  exact wp_region_list (list_sound hl (.refl ..) h hs hw)
theorem W.seq {x y : AC} {s : List AV} {H : List ABlk} {Q : APost} (hw : W P hint nb x s H (APost.then (fun s' H' => W P hint nb y s' H' Q) Q)) : W P hint nb (.seq x y) s H Q := by
  intro c hc σ a w h hs
  obtain ⟨cx, cy, rfl, ex, ey⟩ := comp_seq hc
  refine wp_seq (wp_mono (hw cx ex σ a w h hs) fun e a' w' k => ?_)
  obtain ⟨σ', s', H', x1, x2, x3, x4⟩ := k
  cases e with
  | normal => exact wp_mono (x4 cy ey σ' a' w' x2 x3) fun e a'' w'' k => k.ext x1
  | _ => exact ⟨σ', s', H', x1, x2, x3, x4⟩
theorem W.seq_reg {l : List Ins} {y : AC} {s : List AV} {H : List ABlk} {Q : APost} (hw : wpIns P l s H (fun s' H' => W P hint nb y s' H' Q)) : W P hint nb (.seq (.reg l) y) s H Q := .seq (.reg hw)
theorem W.cond {x : Opd} {p q : AC} {s : List AV} {H : List ABlk} {Q : APost} (t : Bool) (e : Go.Proofs.YtmgmoamcbnkbfaaGreatDoor.get s x = .d (.v (.bool t))) (h1 : t = true → W P hint nb p s H Q) (h2 : t = false → W P hint nb q s H Q) : W P hint nb (.cond x p q) s H Q := by
  intro c hc σ a w h hs
  obtain ⟨cx, cp, cq, rfl, ex, ep, eq⟩ := comp_cond hc
  have hv := get_sound ex hs
  rw [e] at hv
  exact wp_cond_split hv.bool_inv (fun hb => h1 hb cp ep σ a w h hs) (fun hb => h2 hb cq eq σ a w h hs)
theorem W.cond2 {x : Opd} {p q : AC} {s : List AV} {H : List ABlk} {Q : APost} (e : Go.Proofs.YtmgmoamcbnkbfaaGreatDoor.get s x = .ub) (h1 : W P hint nb p s H Q) (h2 : W P hint nb q s H Q) : W P hint nb (.cond x p q) s H Q := by
  intro c hc σ a w h hs
  obtain ⟨cx, cp, cq, rfl, ex, ep, eq⟩ := comp_cond hc
  have hv := get_sound ex hs
  rw [e] at hv
  generalize hu : a.eval cx = u at hv
  cases hv with
  | ub => exact wp_cond_split hu (fun _ => h1 cp ep σ a w h hs) (fun _ => h2 cq eq σ a w h hs)
theorem W.block {id : Nat} {x : AC} {s : List AV} {H : List ABlk} {Q : APost} (hw : W P hint nb x s H (APost.inBlock id Q)) : W P hint nb (.block id x) s H Q := by
  intro c hc σ a w h hs
  obtain ⟨cx, rfl, ex⟩ := comp_block hc
  refine wp_block (wp_mono (hw cx ex σ a w h hs) fun e a' w' k => ?_)
  obtain ⟨σ', s', H', x1, x2, x3, x4⟩ := k
  cases e with
  | exit id' =>
    simp only [Exit.inBlock]
    simp only [APost.inBlock] at x4
    split
    · rename_i e; rw [if_pos e] at x4; exact ⟨σ', s', H', x1, x2, x3, x4⟩
    · rename_i e; rw [if_neg e] at x4; exact ⟨σ', s', H', x1, x2, x3, x4⟩
  | _ => exact ⟨σ', s', H', x1, x2, x3, x4⟩
/-- Going on with less. -/
theorem W.weak {x : AC} {s s0 : List AV} {H H0 : List ABlk} {Q : APost} (hk : Wk nb s H s0 H0) (hw : W P hint nb x s0 H0 Q) : W P hint nb x s H Q := by
  intro c hc σ a w h hs
  obtain ⟨σ', x1, x2, x3⟩ := hk.sound h hs
  exact wp_mono (hw c hc σ' a w x2 x3) fun e a' w' k => k.ext x1
/-- A LOOP. -/
theorem W.loop {x : AC} {s : List AV} {H : List ABlk} {Q : APost} (I : Nat → List AV → List ABlk → Prop) (n : Nat) (h0 : ∃ s0 H0, Wk nb s H s0 H0 ∧ I n s0 H0)
    (hr : ∀ n s H, I n s H → W P hint nb x s H (APost.then (fun s' H' => ∃ m, m < n ∧ ∃ s0 H0, Wk nb s' H' s0 H0 ∧ I m s0 H0) Q)) : W P hint nb (.loop x) s H Q := by
  intro c hc σ a w h hs
  obtain ⟨cx, rfl, ex⟩ := comp_loop hc
  obtain ⟨s0, H0, hk, hI⟩ := h0
  obtain ⟨σ0, x1, x2, x3⟩ := hk.sound h hs
  refine wp_loop_ghost (fun m a' w' => ∃ σ' s' H', ExtN nb σ H w σ' H' w' ∧ HR σ' H' w' ∧ SS σ' s' a' ∧ I m s' H') n ⟨σ0, s0, H0, x1, x2, x3, hI⟩ ?_
  rintro m a' w' ⟨σ', s', H', x1, x2, x3, x4⟩
  refine wp_mono (hr m s' H' x4 cx ex σ' a' w' x2 x3) fun e a'' w'' k => ?_
  obtain ⟨σ2, s2, H2, y1, y2, y3, y4⟩ := k
  cases e with
  | normal =>
    obtain ⟨m', hlt, s0, H0, hk, hI'⟩ := y4
    obtain ⟨σ3, z1, z2, z3⟩ := hk.sound y2 y3
    exact ⟨m', hlt, σ3, s0, H0, (x1.trans y1).trans z1, z2, z3, hI'⟩
  | _ => exact ⟨σ2, s2, H2, x1.trans y1, y2, y3, y4⟩

/-- What a function hands back, and what it forgets. -/
def retW (rs : List RC) (nb : Nat) (R : AV → List ABlk → Prop) : APost
  | .normal, s, H | .ret, s, H => ∃ v, resA rs s H = some v ∧ ∃ v0 H0, Wk nb [v] H [v0] H0 ∧ R v0 H0
  | _, _, _ => False

/-- A FUNCTION's CONTRACT OUT OF ITS BODY. -/
theorem ACalls.enter {f : FuncId} {fn : Func} {ac : AC} {rs : List RC} {args : List AV} {H : List ABlk} {R : AV → List ABlk → Prop} (hf : P.funcs[f]? = some fn) (hc : fn.body.bind (comp P hint) = some ac) (hrs : resC P fn = some rs)
    (hw : cl H → W P hint H.length ac (args ++ List.replicate (fn.ntmps - args.length) .any) H (retW rs H.length R)) : ACalls P f args H R := by
  obtain ⟨c, hb, hc⟩ := Option.bind_eq_some_iff.1 hc
  intro σ w vs h hv
  refine calls_of_wp hf hb ?_
  have hs : SS σ (args ++ List.replicate (fn.ntmps - args.length) .any) { tmps := vs.toArray ++ Array.replicate (fn.ntmps - vs.toArray.size) undef, defers := [] } := by
    refine ⟨rfl, ?_⟩
    have := hv.append (VRs.replicate (σ := σ) (fn.ntmps - args.length) (List.replicate (fn.ntmps - args.length) undef) (by simp))
    simpa [hv.1] using this
  have fin : ∀ {s' : List AV} {a' : Act} {σ' : Sg} {H' : List ABlk} {w' : World}, ExtN H.length σ H w σ' H' w' → HR σ' H' w' → SS σ' s' a' → (∃ v, resA rs s' H' = some v ∧ ∃ v0 H0, Wk H.length [v] H' [v0] H0 ∧ R v0 H0) →
      ∃ u, (results fn a'.tmps).run P w' = .ok u w' ∧ ∃ σ' H' v u', Ending.returned u = .returned u' ∧ Ext σ H w σ' H' w' ∧ HR σ' H' w' ∧ VR σ' v u' ∧ R v H' := by
    intro s' a' σ' H' w' x1 x2 x3 x4
    obtain ⟨v, e1, v0, H0, hk, hR⟩ := x4
    obtain ⟨u, hr, hvr⟩ := resA_sound (P := P) hrs e1 x3 x2
    obtain ⟨σ2, y1, y2, y3⟩ := hk.sound (a := { tmps := #[u], defers := [] }) x2 ⟨rfl, .cons hvr .nil⟩
    exact ⟨u, hr, σ2, H0, v0, u, rfl, (x1.trans y1).full h, y2, y3.tmps.2 0 v0 u rfl rfl, hR⟩
  refine wp_mono (hw h.cl c hc σ _ w h hs) fun e a' w' k => ?_
  obtain ⟨σ', s', H', x1, x2, x3, x4⟩ := k
  cases e with
  | normal => exact ⟨x3.defers, fin x1 x2 x3 x4⟩
  | ret => exact ⟨x3.defers, fin x1 x2 x3 x4⟩
  | _ => exact x4.elim

theorem retW.mk {rs : List RC} {nb : Nat} {R : AV → List ABlk → Prop} {s : List AV} {H : List ABlk} (v v0 : AV) (H0 : List ABlk) (h1 : resA rs s H = some v) (h2 : Wk1 v v0) (h3 : H = H0 ∨ (nb ≤ H0.length ∧ (∃ l, H = H0 ++ l) ∧ Go.Proofs.YtmgmoamcbnkbfaaGreatDoor.cl H0 ∧ ∀ r ∈ refs v0, r < H0.length)) (h4 : R v0 H0) : retW rs nb R .ret s H :=
  ⟨v, h1, v0, H0, WkB.wk ⟨.cons h2 .nil, h3.imp id fun ⟨a, b, c, d⟩ => ⟨a, b, c, fun r hr => d r (by simpa [refs.refsL] using hr)⟩⟩, h4⟩
end
end Go.Proofs.YtmgmoamcbnkbfaaGreatDoor

/-
  One's own library, part 8: regions that draw their order.
-/
namespace Go.Proofs.YtmgmoamcbnkbfaaGreatDoor
open Go.RowKit

/-! ### which operations come before which -/
def anc (pr : List (List Nat)) : List (List Nat) := pr.foldl (fun acc p => acc ++ [(p ++ p.flatMap fun i => acc.getD i []).eraseDups]) []
inductive Reach (pr : List (List Nat)) : Nat → Nat → Prop
  | one {j k : Nat} : k ∈ pr.getD j [] → Reach pr j k
  | more {j i k : Nat} : i ∈ pr.getD j [] → Reach pr i k → Reach pr j k
theorem anc_reach (pr : List (List Nat)) : ∀ j k, k ∈ (anc pr).getD j [] → Reach pr j k := by
  have go : ∀ (rest done : List (List Nat)) (acc : List (List Nat)), pr = done ++ rest → acc.length = done.length → (∀ j k, k ∈ acc.getD j [] → Reach pr j k) →
      ∀ j k, k ∈ (rest.foldl (fun acc p => acc ++ [(p ++ p.flatMap fun i => acc.getD i []).eraseDups]) acc).getD j [] → Reach pr j k := by
    intro rest
    induction rest with
    | nil => intro done acc _ _ h; exact h
    | cons p rest ih =>
      intro done acc hp hl h
      refine ih (done ++ [p]) _ (by simp [hp]) (by simp [hl]) fun j k hk => ?_
      have hpj : pr.getD acc.length [] = p := by rw [hp, hl]; simp
      rcases Nat.lt_trichotomy j acc.length with hj | hj | hj
      · refine h j k ?_
        simpa [List.getElem?_append, hj] using hk
      · subst hj
        simp only [List.getD_eq_getElem?_getD, List.getElem?_concat_length, Option.getD_some, List.mem_eraseDups, List.mem_append, List.mem_flatMap] at hk
        rcases hk with hk | ⟨i, hi, hk⟩
        · exact .one (by rw [hpj]; exact hk)
        · exact .more (by rw [hpj]; exact hi) (h i k (by simpa using hk))
      · rw [List.getD_eq_getElem?_getD, List.getElem?_eq_none (by simp; omega)] at hk
        simp at hk
  exact go pr [] [] rfl rfl (fun j k h => by simp at h)

def ancOf (pr : List (List Nat)) (j : Nat) : List Nat := (anc pr).getD j []
theorem reach_closed {pr : List (List Nat)} {L : Nat → Prop} (hL : ∀ i, L i → ∀ k ∈ pr.getD i [], L k) {j k : Nat} (h : Reach pr j k) (hj : ∀ i ∈ pr.getD j [], L i) : L k := by
  induction h with
  | one h => exact hj _ h
  | more h _ ih => exact ih (hL _ (hj _ h))

/-! ### which slots an operation looks at -/
def Opd.sl : Opd → List Nat
  | .t n => [n]
  | .c _ => []
def Opd.slO : Option Opd → List Nat
  | some x => x.sl
  | none => []
def K.sl : K → List Nat
  | .mv x | .mvg _ _ x | .bx x | .ld x _ _ | .nc x | .un _ x | .cvi _ x | .fa x _ | .fld x _ _ _ | .slz x | .ext x _ | .len _ x | .s2b _ _ x | .b2s x | .isn _ _ x | .eqi _ x => x.sl
  | .pick c a b => c.sl ++ a.sl ++ b.sl
  | .al _ | .alb _ | .mkm _ => []
  | .bd _ ps => ps.flatMap fun p => p.2.2.sl
  | .bs _ _ _ ps | .mn ps | .mx ps | .mkf _ ps | .call _ ps => ps.flatMap Opd.sl
  | .callv g ps => g.sl ++ ps.flatMap Opd.sl
  | .st x v _ | .bin _ x v | .ia x v _ | .iar x v _ _ | .ix x v | .ixv x v _ | .app _ _ _ _ x v | .cpy _ x v | .lk _ _ x v _ | .me _ _ x v | .del _ x v | .eqs _ x v | .eqp _ x v | .ixb _ x v | .eqg _ _ x v => x.sl ++ v.sl
  | .sli _ x lo hi _ => x.sl ++ Opd.slO lo ++ Opd.slO hi
  | .sla x lo hi _ _ => x.sl ++ Opd.slO lo ++ Opd.slO hi
  | .mks _ _ _ _ _ n c => n.sl ++ c.sl
  | .mu _ m k v | .mes m k v => m.sl ++ k.sl ++ v.sl
def Ins.sl (i : Ins) : List Nat := i.k.sl ++ (match i.g with | some (g, _) => [g] | none => [])

def mask (rd : List Nat) (s : List AV) : List AV := s.mapIdx fun i x => if rd.contains i then x else .any
theorem mask_length (rd : List Nat) (s : List AV) : (mask rd s).length = s.length := by simp [mask]
theorem mask_get {rd : List Nat} {s : List AV} {t : Nat} (h : t ∈ rd) : (mask rd s).getD t .any = s.getD t .any := by
  simp only [List.getD_eq_getElem?_getD, mask, List.getElem?_mapIdx]
  cases s[t]? with
  | none => rfl
  | some x => simp [h]
theorem get_mask {rd : List Nat} {s : List AV} {x : Opd} (h : ∀ t ∈ x.sl, t ∈ rd) : get (mask rd s) x = get s x := by
  cases x with
  | t n => exact mask_get (h n (by simp [Opd.sl]))
  | c v => rfl

/-- One operation, its result and its heap told. -/
def StepOk (P : Program) (i : Ins) (s : List AV) (G : List ABlk) (v : AV) (G' : List ABlk) : Prop :=
  match wanted s i.g with
  | some true =>
    match i.k with
    | .call f args => ACalls P f (args.map (get s)) G fun v' G'' => v' = v ∧ G'' = G'
    | .callv g args => match get s g with
      | .fn f caps => callOk P f = true ∧ ACalls P f (args.map (get s) ++ caps) G fun v' G'' => v' = v ∧ G'' = G'
      | _ => False
    | k => evK k s G = some (v, G')
  | some false => v = .tup [] ∧ G' = G
  | none => False

theorem map_get_mask {rd : List Nat} {s : List AV} {l : List Opd} (h : ∀ t ∈ l.flatMap Opd.sl, t ∈ rd) : l.map (get (mask rd s)) = l.map (get s) :=
  List.map_congr_left fun x hx => get_mask fun t ht => h t (List.mem_flatMap.2 ⟨x, hx, ht⟩)
theorem bnd_mask {rd : List Nat} {s : List AV} {d : Nat} {x : Option Opd} (h : ∀ t ∈ Opd.slO x, t ∈ rd) : bnd (mask rd s) d x = bnd s d x := by
  cases x with
  | none => rfl
  | some x => simp only [bnd, get_mask (x := x) h]
theorem ints_mask {rd : List Nat} {s : List AV} : ∀ {l : List Opd}, (∀ t ∈ l.flatMap Opd.sl, t ∈ rd) → ints (mask rd s) l = ints s l
  | [], _ => rfl
  | x :: l, h => by
    simp only [ints, get_mask (x := x) (s := s) (rd := rd) fun t ht => h t (by simp [ht]), ints_mask (l := l) (s := s) (rd := rd) fun t ht => h t (by simp only [List.flatMap_cons, List.mem_append]; exact .inr ht)]
theorem evK_mask {rd : List Nat} {s : List AV} {G : List ABlk} {k : K} (h : ∀ t ∈ k.sl, t ∈ rd) : evK k (mask rd s) G = evK k s G := by
  have m2 : ∀ {l l' : List Nat} (_ : ∀ t ∈ l ++ l', t ∈ rd), (∀ t ∈ l, t ∈ rd) ∧ (∀ t ∈ l', t ∈ rd) := fun h => ⟨fun t ht => h t (List.mem_append.2 (.inl ht)), fun t ht => h t (List.mem_append.2 (.inr ht))⟩
  cases k with
  | bs md e sz ps =>
    have hall : ps.all (fun p => shown (get (mask rd s) p) && (cellsAV (get (mask rd s) p)).length == sz) = ps.all (fun p => shown (get s p) && (cellsAV (get s p)).length == sz) := by
      have := map_get_mask (s := s) (l := ps) h
      have h1 : ∀ s : List AV, ps.all (fun p => shown (get s p) && (cellsAV (get s p)).length == sz) = (ps.map (get s)).all (fun x => shown x && (cellsAV x).length == sz) := fun s => by rw [List.all_map]; rfl
      rw [h1, h1, this]
    have hmap : (ps.map fun p => cellsAV (get (mask rd s) p)) = ps.map fun p => cellsAV (get s p) := by
      have := map_get_mask (s := s) (l := ps) h
      have h1 : ∀ s : List AV, (ps.map fun p => cellsAV (get s p)) = (ps.map (get s)).map cellsAV := fun s => by rw [List.map_map]; rfl
      rw [h1, h1, this]
    simp only [evK, hall, hmap]
  | bd z ps =>
    have hmap : (ps.map fun p => (p.1, p.2.1, get (mask rd s) p.2.2)) = ps.map fun p => (p.1, p.2.1, get s p.2.2) :=
      List.map_congr_left fun x hx => by rw [get_mask fun t ht => h t (List.mem_flatMap.2 ⟨x, hx, ht⟩)]
    simp only [evK, hmap]
  | mn xs => simp only [evK, ints_mask (l := xs) h]
  | mx xs => simp only [evK, ints_mask (l := xs) h]
  | mkf f xs => simp only [evK, map_get_mask (l := xs) h]
  | sli b x lo hi sz =>
    obtain ⟨h1, h2⟩ := m2 h
    obtain ⟨h3, h4⟩ := m2 h1
    simp only [evK, get_mask (x := x) h3, bnd_mask (x := lo) h4, bnd_mask (x := hi) h2]
  | sla x lo hi n sz =>
    obtain ⟨h1, h2⟩ := m2 h
    obtain ⟨h3, h4⟩ := m2 h1
    simp only [evK, get_mask (x := x) h3, bnd_mask (x := lo) h4, bnd_mask (x := hi) h2]
  | pick c a b =>
    obtain ⟨h1, h2⟩ := m2 h
    obtain ⟨h3, h4⟩ := m2 h1
    simp only [evK, get_mask (x := c) h3, get_mask (x := a) h4, get_mask (x := b) h2]
  | st x v n => obtain ⟨h1, h2⟩ := m2 h; simp only [evK, get_mask (x := x) h1, get_mask (x := v) h2]
  | bin op x v => obtain ⟨h1, h2⟩ := m2 h; simp only [evK, get_mask (x := x) h1, get_mask (x := v) h2]
  | ia x v n => obtain ⟨h1, h2⟩ := m2 h; simp only [evK, get_mask (x := x) h1, get_mask (x := v) h2]
  | iar x v n m => obtain ⟨h1, h2⟩ := m2 h; simp only [evK, get_mask (x := x) h1, get_mask (x := v) h2]
  | ix x v => obtain ⟨h1, h2⟩ := m2 h; simp only [evK, get_mask (x := x) h1, get_mask (x := v) h2]
  | ixv x v n => obtain ⟨h1, h2⟩ := m2 h; simp only [evK, get_mask (x := x) h1, get_mask (x := v) h2]
  | app md e sz b x v => obtain ⟨h1, h2⟩ := m2 h; simp only [evK, get_mask (x := x) h1, get_mask (x := v) h2]
  | eqs n x v => obtain ⟨h1, h2⟩ := m2 h; simp only [evK, get_mask (x := x) h1, get_mask (x := v) h2]
  | eqp n x v => obtain ⟨h1, h2⟩ := m2 h; simp only [evK, get_mask (x := x) h1, get_mask (x := v) h2]
  | cpy n x v => obtain ⟨h1, h2⟩ := m2 h; simp only [evK, get_mask (x := x) h1, get_mask (x := v) h2]
  | mks a b c d e x v => obtain ⟨h1, h2⟩ := m2 h; simp only [evK, get_mask (x := x) h1, get_mask (x := v) h2]
  | lk a b x v c => obtain ⟨h1, h2⟩ := m2 h; simp only [evK, get_mask (x := x) h1, get_mask (x := v) h2]
  | me a b x v => obtain ⟨h1, h2⟩ := m2 h; simp only [evK, get_mask (x := x) h1, get_mask (x := v) h2]
  | del a x v => obtain ⟨h1, h2⟩ := m2 h; simp only [evK, get_mask (x := x) h1, get_mask (x := v) h2]
  | ixb a x v => obtain ⟨h1, h2⟩ := m2 h; simp only [evK, get_mask (x := x) h1, get_mask (x := v) h2]
  | eqg a b x v => obtain ⟨h1, h2⟩ := m2 h; simp only [evK, get_mask (x := x) h1, get_mask (x := v) h2]
  | mu a x v y =>
    obtain ⟨h1, h2⟩ := m2 h
    obtain ⟨h3, h4⟩ := m2 h1
    simp only [evK, get_mask (x := x) h3, get_mask (x := v) h4, get_mask (x := y) h2]
  | mes x v y =>
    obtain ⟨h1, h2⟩ := m2 h
    obtain ⟨h3, h4⟩ := m2 h1
    simp only [evK, get_mask (x := x) h3, get_mask (x := v) h4, get_mask (x := y) h2]
  | s2b a b x => simp only [evK, get_mask (x := x) h]
  | b2s x => simp only [evK, get_mask (x := x) h]
  | isn m n x => simp only [evK, get_mask (x := x) h]
  | eqi n x => simp only [evK, get_mask (x := x) h]
  | mv x => simp only [evK, get_mask (x := x) h]
  | mvg e z x => simp only [evK, get_mask (x := x) h]
  | bx x => simp only [evK, get_mask (x := x) h]
  | ld x n g => simp only [evK, get_mask (x := x) h]
  | nc x => simp only [evK, get_mask (x := x) h]
  | un op x => simp only [evK, get_mask (x := x) h]
  | cvi k x => simp only [evK, get_mask (x := x) h]
  | fa x n => simp only [evK, get_mask (x := x) h]
  | fld x n m g => simp only [evK, get_mask (x := x) h]
  | slz x => simp only [evK, get_mask (x := x) h]
  | ext x n => simp only [evK, get_mask (x := x) h]
  | len b x => simp only [evK, get_mask (x := x) h]
  | _ => simp only [evK]

theorem StepOk.masked {P : Program} {i : Ins} {s : List AV} {G G' : List ABlk} {v : AV} (h : StepOk P i s G v G') {rd : List Nat} (hr : ∀ t ∈ i.sl, t ∈ rd) :
    wpIns P [i] (mask rd s) G fun s' G'' => s' = setO (mask rd s) i.dst v ∧ G'' = G' := by
  have hk : ∀ t ∈ i.k.sl, t ∈ rd := fun t ht => hr t (List.mem_append.2 (.inl ht))
  have hw : wanted (mask rd s) i.g = wanted s i.g := by
    cases hg : i.g with
    | none => rfl
    | some gb =>
      obtain ⟨g, b⟩ := gb
      have : g ∈ rd := hr g (List.mem_append.2 (.inr (by simp [hg])))
      simp only [wanted, mask_get this]
  unfold StepOk at h
  split at h
  · rename_i hwt
    simp only [wpIns, hw, hwt]
    split at h
    · rename_i f args e
      rw [e] at hk
      simp only [e, map_get_mask (l := args) hk]
      exact h.mono fun v' G'' hh => ⟨by rw [hh.1], hh.2⟩
    · rename_i g args e
      rw [e] at hk
      have hg : get (mask rd s) g = get s g := get_mask fun t ht => hk t (List.mem_append.2 (.inl ht))
      have ha : args.map (get (mask rd s)) = args.map (get s) := map_get_mask fun t ht => hk t (List.mem_append.2 (.inr ht))
      simp only [e, hg, ha]
      split at h
      · rename_i hfn
        simp only [hfn]
        exact ⟨h.1, h.2.mono fun v' G'' hh => ⟨by rw [hh.1], hh.2⟩⟩
      · exact h.elim
    · rename_i x1 x2
      split
      · rename_i f args e; exact (x1 f args e).elim
      · rename_i g args e; exact (x2 g args e).elim
      · rw [evK_mask hk, h]
        exact ⟨rfl, rfl⟩
  · rename_i hwt
    simp only [wpIns, hw, hwt]
    obtain ⟨rfl, rfl⟩ := h
    exact ⟨rfl, rfl⟩
  · exact h.elim

def kill (U : List Nat) (H : List ABlk) : List ABlk := U.foldl (fun H b => H.set b .dead) H
theorem kill_length : ∀ (U : List Nat) (H : List ABlk), (kill U H).length = H.length
  | [], H => rfl
  | b :: U, H => by show (kill U (H.set b .dead)).length = _; rw [kill_length U]; simp
theorem kill_in : ∀ (U : List Nat) (H : List ABlk) {b : Nat}, b ∈ U → b < H.length → (kill U H)[b]? = some .dead
  | [], H, b, h, _ => by cases h
  | c :: U, H, b, h, hl => by
    show (kill U (H.set c .dead))[b]? = _
    by_cases hb : b ∈ U
    · exact kill_in U _ hb (by simpa using hl)
    · rcases List.mem_cons.1 h with rfl | h
      · have out : ∀ (U : List Nat) (H : List ABlk), b ∉ U → (kill U H)[b]? = H[b]? := fun U => by
          induction U with
          | nil => intro H _; rfl
          | cons c U ih =>
            intro H hn
            show (kill U (H.set c .dead))[b]? = _
            rw [ih _ (fun h => hn (List.mem_cons_of_mem _ h)), List.getElem?_set_ne (fun e => hn (by rw [e]; exact List.mem_cons_self))]
        rw [out U _ hb]
        simp [hl]
      · exact absurd h hb
theorem kill_out : ∀ (U : List Nat) (H : List ABlk) {b : Nat}, b ∉ U → (kill U H)[b]? = H[b]?
  | [], H, b, _ => rfl
  | c :: U, H, b, hn => by
    show (kill U (H.set c .dead))[b]? = _
    rw [kill_out U _ (fun h => hn (List.mem_cons_of_mem _ h)), List.getElem?_set_ne (fun e => hn (by rw [e]; exact List.mem_cons_self))]

/-- WHAT IS ASKED OF THE OPERATIONS, one behind the other: ws: the names that each writes; U: those that others write which may come up ahead of it or behind it. -/
def DChain (P : Program) (ws U : List (List Nat)) (H0 : List ABlk) : Nat → List Ins → List AV → List ABlk → (List AV → List ABlk → Prop) → Prop
  | _, [], s, H, Kk => Kk s H
  | j, i :: r, s, H, Kk => ∃ v H', StepOk P i s (kill (U.getD j []) H) v (kill (U.getD j []) H') ∧ (∀ b, b ∉ ws.getD j [] → H'[b]? = H[b]?) ∧ H.length ≤ H'.length ∧
      (∀ b ∈ ws.getD j [], b ∉ U.getD j [] ∧ H0[b]? ≠ some .dead) ∧ DChain P ws U H0 (j + 1) r (setO s i.dst v) H' Kk

theorem DChain.seq {P : Program} {ws U : List (List Nat)} {H0 : List ABlk} {Kk : List AV → List ABlk → Prop} : ∀ (l : List Ins) (j : Nat) (s : List AV) (H : List ABlk), DChain P ws U H0 j l s H Kk →
    ∃ (st : Nat → List AV) (Hs : Nat → List ABlk) (v : Nat → AV), st j = s ∧ Hs j = H ∧ (∀ k i, l[k]? = some i → StepOk P i (st (j + k)) (kill (U.getD (j + k) []) (Hs (j + k))) (v (j + k)) (kill (U.getD (j + k) []) (Hs (j + k + 1))) ∧
      st (j + k + 1) = setO (st (j + k)) i.dst (v (j + k)) ∧ (∀ b, b ∉ ws.getD (j + k) [] → (Hs (j + k + 1))[b]? = (Hs (j + k))[b]?) ∧ (Hs (j + k)).length ≤ (Hs (j + k + 1)).length ∧
      (∀ b ∈ ws.getD (j + k) [], b ∉ U.getD (j + k) [] ∧ H0[b]? ≠ some .dead)) ∧ Kk (st (j + l.length)) (Hs (j + l.length))
  | [], j, s, H, h => ⟨fun _ => s, fun _ => H, fun _ => .any, rfl, rfl, fun k i hk => by simp at hk, h⟩
  | i :: l, j, s, H, h => by
    obtain ⟨v0, H', h1, h2, h3, h4, h5⟩ := h
    obtain ⟨st, Hs, v, e1, e2, e3, e4⟩ := DChain.seq l (j + 1) _ H' h5
    refine ⟨fun k => if k = j then s else st k, fun k => if k = j then H else Hs k, fun k => if k = j then v0 else v k, by simp, by simp, fun k i' hk => ?_, ?_⟩
    · cases k with
      | zero =>
        simp at hk; subst hk
        simp only [Nat.add_zero, if_true, show ¬ (j + 1 = j) by omega, if_false, e1, e2]
        exact ⟨h1, trivial, h2, h3, h4⟩
      | succ k =>
        simp at hk
        have := e3 k i' hk
        have n1 : ¬ (j + 1 + k = j) := by omega
        have n2 : ¬ (j + 1 + k + 1 = j) := by omega
        rw [show j + (k + 1) = j + 1 + k by omega]
        simp only [n1, n2, if_false]
        exact this
    · have n1 : ¬ (j + 1 + l.length = j) := by omega
      rw [List.length_cons, show j + (l.length + 1) = j + 1 + l.length by omega]
      simp only [n1, if_false]
      exact e4

def wrOf (l : List Ins) (j : Nat) : Option Nat := (l[j]?).bind (·.dst)
def rdOf (l : List Ins) (j : Nat) : List Nat := ((l[j]?).map Ins.sl).getD []
def drawOk (pr : List (List Nat)) (l : List Ins) : Bool :=
  let an := anc pr
  (List.range l.length).all fun j => (pr.getD j []).all (· < j) &&
    (List.range j).all fun i => (an.getD j []).contains i ||
      ((match wrOf l i with | some d => !(rdOf l j).contains d && wrOf l j != some d | none => true) &&
       (match wrOf l j with | some d => !(rdOf l i).contains d | none => true))
def killsOf (pr ws : List (List Nat)) (n j : Nat) : List Nat :=
  let an := anc pr
  (List.range n).flatMap fun i => if i == j || (an.getD j []).contains i || (an.getD i []).contains j then [] else ws.getD i []

end Go.Proofs.YtmgmoamcbnkbfaaGreatDoor
