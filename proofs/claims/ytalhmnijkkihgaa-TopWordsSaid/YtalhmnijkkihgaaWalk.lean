/-
  One's own library, part 7: the rules by which functions are walked.
-/
import Derived.Test.YtalhmnijkkihgaaSnd9
namespace Go.Proofs.Ytalhmnijkkihgaa
set_option linter.unusedVariables false
set_option linter.unusedSimpArgs false
set_option linter.unusedSectionVars false
open Go.RowKit

/-! ### knowing less -/
inductive Wk1 : AV → AV → Prop
  | rfl (x : AV) : Wk1 x x
  | any (x : AV) : Wk1 x .any
  | gsl (b sz : Nat) (es : List (List Dat)) : Wk1 (.gsl b sz es) (.d (.sl es))
  | esl : Wk1 .esl (.d (.sl []))
  | agg {cs cs' : List AV} : cs.length = cs'.length → (∀ (i : Nat) (c c' : AV), cs[i]? = some c → cs'[i]? = some c' → Wk1 c c') → Wk1 (.agg cs) (.agg cs')
  | tup {cs cs' : List AV} : cs.length = cs'.length → (∀ (i : Nat) (c c' : AV), cs[i]? = some c → cs'[i]? = some c' → Wk1 c c') → Wk1 (.tup cs) (.tup cs')
theorem Wk1.sound {σ : Sg} {x y : AV} (h : Wk1 x y) : ∀ {u : Value}, VR σ x u → VR σ y u := by
  induction h with
  | rfl => exact fun h => h
  | any => exact fun _ => .any
  | gsl b sz es => intro u h; cases h with | gsl _ _ hd => exact .d hd
  | esl => intro u h; cases h; exact .d .nil
  | @agg cs cs' hl _ ih =>
    intro u h
    cases h with
    | agg h1 h2 =>
      refine .agg (hl ▸ h1) fun i c' u hi hu => ?_
      have hlt : i < cs.length := by rw [hl]; exact (List.getElem?_eq_some_iff.1 hi).1
      exact ih i _ c' (List.getElem?_eq_getElem hlt) hi (h2 i _ u (List.getElem?_eq_getElem hlt) hu)
  | @tup cs cs' hl _ ih =>
    intro u h
    cases h with
    | tup h1 h2 =>
      refine .tup (hl ▸ h1) fun i c' u hi hu => ?_
      have hlt : i < cs.length := by rw [hl]; exact (List.getElem?_eq_some_iff.1 hi).1
      exact ih i _ c' (List.getElem?_eq_getElem hlt) hi (h2 i _ u (List.getElem?_eq_getElem hlt) hu)
inductive WkL : List AV → List AV → Prop
  | nil : WkL [] []
  | cons {x y : AV} {xs ys : List AV} : Wk1 x y → WkL xs ys → WkL (x :: xs) (y :: ys)
theorem WkL.rfl : ∀ (xs : List AV), WkL xs xs
  | [] => .nil
  | x :: xs => .cons (.rfl x) (WkL.rfl xs)
theorem WkL.sound {σ : Sg} {xs ys : List AV} (h : WkL xs ys) : ∀ {us : List Value}, VRs σ xs us → VRs σ ys us := by
  induction h with
  | nil => exact fun h => h
  | cons h1 _ ih =>
    intro us h
    obtain ⟨u, us', rfl, h2, h3⟩ := h.cons_inv
    exact .cons (h1.sound h2) (ih h3)

/-- A heap all of whose names lie in it. -/
def cl (H : List ABlk) : Prop := ∀ (b : Nat) (k : ABlk), H[b]? = some k → ∀ r ∈ k.refs, r < H.length
theorem cl.append {H l : List ABlk} (h : cl H) (hl : ∀ k ∈ l, ∀ r ∈ k.refs, r < H.length + l.length) : cl (H ++ l) := by
  intro b k hb r hr
  rw [List.length_append]
  rw [List.getElem?_append] at hb
  split at hb
  · exact Nat.lt_of_lt_of_le (h b k hb r hr) (Nat.le_add_right _ _)
  · exact hl k (List.mem_of_getElem? hb) r hr
theorem HR.cl {σ : Sg} {H : List ABlk} {w : World} (h : HR σ H w) : cl H := fun _ _ hb => h.refs_lt hb

structure WkB (nb : Nat) (s : List AV) (H : List ABlk) (s0 : List AV) (H0 : List ABlk) : Prop where
  s : WkL s s0
  H : H = H0 ∨ (nb ≤ H0.length ∧ (∃ l, H = H0 ++ l) ∧ Go.Proofs.Ytalhmnijkkihgaa.cl H0 ∧ ∀ r ∈ refs.refsL s0, r < H0.length)
theorem WkB.sound {nb : Nat} {s s0 : List AV} {H H0 : List ABlk} {a : Act} {σ : Sg} {w : World} (h : WkB nb s H s0 H0) (hr : HR σ H w) (hs : SS σ s a) :
    ∃ σ', ExtN nb σ H w σ' H0 w ∧ HR σ' H0 w ∧ SS σ' s0 a := by
  rcases h.H with rfl | ⟨hnb, ⟨l, rfl⟩, hc, hrf⟩
  · exact ⟨σ, .refl .., hr, hs.defers, h.s.sound hs.tmps⟩
  · have hφ : ∀ b k, b < H0.length → (σ.trunc H0.length).φ b k = σ.φ b k := fun b k hb => if_pos hb
    refine ⟨σ.trunc H0.length, ⟨fun _ _ h => h, fun b n v hb hv => by rw [hφ _ _ (by omega)]; exact hv, rfl, rfl, rfl, Nat.le_refl _, fun _ _ _ => rfl, ?_, fun _ h => absurd rfl h, fun b hb hd => ?_⟩, hr.trunc hc, hs.defers, (h.s.sound hs.tmps).trunc hrf⟩
    rotate_left
    · have hlt : b < H0.length := by omega
      rw [List.getElem?_append_left hlt] at hd
      exact ⟨hd, fun n => hφ _ _ hlt⟩
    rintro k ⟨b, blk, v', hb', hl, hv', hc'⟩
    have hlt : b < H0.length := (List.getElem?_eq_some_iff.1 hb').1
    rw [hφ _ _ hlt] at hv'
    · exact .inl ⟨b, blk, v', by rw [List.getElem?_append_left hlt]; exact hb', hl, hv', hc'⟩
/-- KNOWING LESS: what holds still holds. -/
def Wk (nb : Nat) (s : List AV) (H : List ABlk) (s0 : List AV) (H0 : List ABlk) : Prop :=
  ∀ (a : Act) (σ : Sg) (w : World), HR σ H w → SS σ s a → ∃ σ', ExtN nb σ H w σ' H0 w ∧ HR σ' H0 w ∧ SS σ' s0 a
theorem Wk.sound {nb : Nat} {s s0 : List AV} {H H0 : List ABlk} {a : Act} {σ : Sg} {w : World} (h : Wk nb s H s0 H0) (hr : HR σ H w) (hs : SS σ s a) :
    ∃ σ', ExtN nb σ H w σ' H0 w ∧ HR σ' H0 w ∧ SS σ' s0 a := h a σ w hr hs
theorem WkB.wk {nb : Nat} {s s0 : List AV} {H H0 : List ABlk} (h : WkB nb s H s0 H0) : Wk nb s H s0 H0 := fun _ _ _ hr hs => h.sound hr hs
theorem Wk.slots {nb : Nat} {s s0 : List AV} {H : List ABlk} (h : WkL s s0) : Wk nb s H s0 H := WkB.wk ⟨h, .inl rfl⟩
theorem Wk.refl {nb : Nat} {s : List AV} {H : List ABlk} : Wk nb s H s H := Wk.slots (WkL.rfl s)
theorem Wk.drop {nb : Nat} {s s0 : List AV} {H0 l : List ABlk} (h : WkL s s0) (hn : nb ≤ H0.length) (hc : Go.Proofs.Ytalhmnijkkihgaa.cl H0) (hr : ∀ r ∈ refs.refsL s0, r < H0.length) : Wk nb s (H0 ++ l) s0 H0 := WkB.wk ⟨h, .inr ⟨hn, ⟨l, rfl⟩, hc, hr⟩⟩
theorem Wk.trans {nb : Nat} {s s1 s2 : List AV} {H H1 H2 : List ABlk} (h : Wk nb s H s1 H1) (k : Wk nb s1 H1 s2 H2) : Wk nb s H s2 H2 := fun a σ w hr hs => by
  obtain ⟨σ', x1, x2, x3⟩ := h a σ w hr hs
  obtain ⟨σ2, y1, y2, y3⟩ := k a σ' w x2 x3
  exact ⟨σ2, x1.trans y1, y2, y3⟩
theorem Wk.ghost {nb : Nat} {s : List AV} {H : List ABlk} (i sz : Nat) (h : s[i]? = some .esl) : Wk nb s H (s.set i (.hsl H.length 0 0 0 sz)) (H ++ [.cells []]) := fun a σ w hr hs => by
  obtain ⟨σ', y1, y2, y3⟩ := hr.place0 (.slice none 0 0) (by simp [conc])
  have hs' := hs.mono y1.le
  refine ⟨σ', y1.toN nb, y2, hs'.defers, ?_⟩
  have hlt : i < s.length := (List.getElem?_eq_some_iff.1 h).1
  have hlt' : i < a.tmps.toList.length := by rw [← hs'.tmps.1]; exact hlt
  have hv := hs'.tmps.2 i .esl _ h (List.getElem?_eq_getElem hlt')
  have : VR σ' (.hsl H.length 0 0 0 sz) a.tmps.toList[i] := by
    generalize a.tmps.toList[i] = u at hv
    cases hv
    exact .hsl0 y3
  have h2 := hs'.tmps.set i this
  rwa [List.set_getElem_self] at h2
section
variable {P : Program} {hint : Nat → Option Md} {nb : Nat}

/-- WHAT IS WALKED: a piece of code, its slots, its heap, what shall hold behind it. nb: the names that the function's caller knows. -/
def W (P : Program) (hint : Nat → Option Md) (nb : Nat) (ac : AC) (s : List AV) (H : List ABlk) (Q : APost) : Prop :=
  ∀ c, comp P hint c = some ac → ∀ σ a w, HR σ H w → SS σ s a → c.wp P (Lift nb Q σ H w) a w

theorem W.mono {ac : AC} {s : List AV} {H : List ABlk} {Q Q' : APost} (h : W P hint nb ac s H Q) (hq : ∀ e s H, Q e s H → Q' e s H) : W P hint nb ac s H Q' :=
  fun c hc σ a w h1 h2 => wp_mono (h c hc σ a w h1 h2) fun _ _ _ k => k.mono hq

theorem comp_skip {c : Code} (h : comp P hint c = some .skip) : c = .skip := by
  cases c <;> simp only [comp, Option.map_eq_some_iff, reduceCtorEq] at h <;> (try (repeat' split at h)) <;> (try (simp at h; done)) <;> (try (obtain ⟨_, _, h⟩ := h; cases h; done)) <;> rfl
theorem comp_ret {c : Code} (h : comp P hint c = some .ret) : c = .ret := by
  cases c <;> simp only [comp, Option.map_eq_some_iff, reduceCtorEq] at h <;> (try (repeat' split at h)) <;> (try (simp at h; done)) <;> (try (obtain ⟨_, _, h⟩ := h; cases h; done)) <;> rfl
theorem comp_exit {c : Code} {id : Nat} (h : comp P hint c = some (.exit id)) : c = .exit id := by
  cases c <;> simp only [comp, Option.map_eq_some_iff, reduceCtorEq] at h <;> (try (repeat' split at h)) <;> (try (simp at h; done)) <;> (try (obtain ⟨_, _, h⟩ := h; cases h; done))
  simp only [Option.some.injEq, AC.exit.injEq] at h; rw [h]
theorem comp_reg {c : Code} {l : List Ins} (h : comp P hint c = some (.reg l)) : ∃ id ops, c = .region id ops false ∧ compL P hint ops ops.toList = some l := by
  cases c with
  | region id ops draw =>
    simp only [comp] at h
    split at h
    · rename_i l' hl
      cases draw with
      | true => simp at h
      | false => simp at h; subst h; exact ⟨id, ops, rfl, hl⟩
    · cases h
  | _ => simp only [comp, Option.map_eq_some_iff, reduceCtorEq] at h <;> (try (repeat' split at h)) <;> (try (simp at h; done)) <;> (try (obtain ⟨_, _, h⟩ := h; cases h; done))
theorem comp_dreg {c : Code} {bm : List (List Nat)} {l : List Ins} (h : comp P hint c = some (.dreg bm l)) : ∃ id ops, c = .region id ops true ∧ compL P hint ops ops.toList = some l ∧ bm = prOf ops := by
  cases c with
  | region id ops draw =>
    simp only [comp] at h
    split at h
    · rename_i l' hl
      cases draw with
      | true => simp at h; obtain ⟨h1, h2⟩ := h; subst h1; subst h2; exact ⟨id, ops, rfl, hl, rfl⟩
      | false => simp at h
    · cases h
  | _ => simp only [comp, Option.map_eq_some_iff, reduceCtorEq] at h <;> (try (repeat' split at h)) <;> (try (simp at h; done)) <;> (try (obtain ⟨_, _, h⟩ := h; cases h; done))
theorem comp_seq {c : Code} {x y : AC} (h : comp P hint c = some (.seq x y)) : ∃ cx cy, c = .seq cx cy ∧ comp P hint cx = some x ∧ comp P hint cy = some y := by
  cases c with
  | seq cx cy =>
    simp only [comp] at h
    split at h
    · rename_i ex ey; cases h; exact ⟨cx, cy, rfl, ex, ey⟩
    · cases h
  | _ => simp only [comp, Option.map_eq_some_iff, reduceCtorEq] at h <;> (try (repeat' split at h)) <;> (try (simp at h; done)) <;> (try (obtain ⟨_, _, h⟩ := h; cases h; done))
theorem comp_cond {c : Code} {x : Opd} {p q : AC} (h : comp P hint c = some (.cond x p q)) : ∃ cx cp cq, c = .cond cx cp cq ∧ opd cx = some x ∧ comp P hint cp = some p ∧ comp P hint cq = some q := by
  cases c with
  | cond cx cp cq =>
    simp only [comp] at h
    split at h
    · rename_i ex ep eq; cases h; exact ⟨cx, cp, cq, rfl, ex, ep, eq⟩
    · cases h
  | _ => simp only [comp, Option.map_eq_some_iff, reduceCtorEq] at h <;> (try (repeat' split at h)) <;> (try (simp at h; done)) <;> (try (obtain ⟨_, _, h⟩ := h; cases h; done))
theorem comp_block {c : Code} {id : Nat} {x : AC} (h : comp P hint c = some (.block id x)) : ∃ cx, c = .block id cx ∧ comp P hint cx = some x := by
  cases c with
  | block id' cx =>
    simp only [comp, Option.map_eq_some_iff] at h
    obtain ⟨y, hy, h⟩ := h
    cases h; exact ⟨cx, rfl, hy⟩
  | _ => simp only [comp, Option.map_eq_some_iff, reduceCtorEq] at h <;> (try (repeat' split at h)) <;> (try (simp at h; done)) <;> (try (obtain ⟨_, _, h⟩ := h; cases h; done))
theorem comp_loop {c : Code} {x : AC} (h : comp P hint c = some (.loop x)) : ∃ cx, c = .loop cx ∧ comp P hint cx = some x := by
  cases c with
  | loop cx =>
    simp only [comp, Option.map_eq_some_iff] at h
    obtain ⟨y, hy, h⟩ := h
    cases h; exact ⟨cx, rfl, hy⟩
  | _ => simp only [comp, Option.map_eq_some_iff, reduceCtorEq] at h <;> (try (repeat' split at h)) <;> (try (simp at h; done)) <;> (try (obtain ⟨_, _, h⟩ := h; cases h; done))

theorem W.skip {s : List AV} {H : List ABlk} {Q : APost} (hq : Q .normal s H) : W P hint nb .skip s H Q := by
  intro c hc σ a w h hs
  rw [comp_skip hc]
  exact wp_skip ⟨σ, s, H, .refl .., h, hs, hq⟩
theorem W.exit {s : List AV} {H : List ABlk} {Q : APost} {id : Nat} (hq : Q (.exit id) s H) : W P hint nb (.exit id) s H Q := by
  intro c hc σ a w h hs
  rw [comp_exit hc]
  exact wp_exit ⟨σ, s, H, .refl .., h, hs, hq⟩
theorem W.ret {s : List AV} {H : List ABlk} {Q : APost} (hq : Q .ret s H) : W P hint nb .ret s H Q := by
  intro c hc σ a w h hs
  rw [comp_ret hc]
  exact wp_ret ⟨σ, s, H, .refl .., h, hs, hq⟩
theorem W.reg {l : List Ins} {s : List AV} {H : List ABlk} {Q : APost} (hw : wpIns P l s H (Q .normal)) : W P hint nb (.reg l) s H Q := by
  intro c hc σ a w h hs
  obtain ⟨id, ops, rfl, hl⟩ := comp_reg hc
  exact wp_region_list (list_sound hl (.refl ..) h hs hw)
theorem W.seq {x y : AC} {s : List AV} {H : List ABlk} {Q : APost} (hw : W P hint nb x s H (APost.then (fun s' H' => W P hint nb y s' H' Q) Q)) : W P hint nb (.seq x y) s H Q := by
  intro c hc σ a w h hs
  obtain ⟨cx, cy, rfl, ex, ey⟩ := comp_seq hc
  refine wp_seq (wp_mono (hw cx ex σ a w h hs) fun e a' w' k => ?_)
  obtain ⟨σ', s', H', x1, x2, x3, x4⟩ := k
  cases e with
  | normal => exact wp_mono (x4 cy ey σ' a' w' x2 x3) fun e a'' w'' k => k.ext x1
  | _ => exact ⟨σ', s', H', x1, x2, x3, x4⟩
theorem W.seq_reg {l : List Ins} {y : AC} {s : List AV} {H : List ABlk} {Q : APost} (hw : wpIns P l s H (fun s' H' => W P hint nb y s' H' Q)) : W P hint nb (.seq (.reg l) y) s H Q := .seq (.reg hw)
theorem W.cond {x : Opd} {p q : AC} {s : List AV} {H : List ABlk} {Q : APost} (t : Bool) (e : Go.Proofs.Ytalhmnijkkihgaa.get s x = .d (.v (.bool t))) (h1 : t = true → W P hint nb p s H Q) (h2 : t = false → W P hint nb q s H Q) : W P hint nb (.cond x p q) s H Q := by
  intro c hc σ a w h hs
  obtain ⟨cx, cp, cq, rfl, ex, ep, eq⟩ := comp_cond hc
  have hv := get_sound ex hs
  rw [e] at hv
  exact wp_cond_split hv.bool_inv (fun hb => h1 hb cp ep σ a w h hs) (fun hb => h2 hb cq eq σ a w h hs)
theorem W.cond2 {x : Opd} {p q : AC} {s : List AV} {H : List ABlk} {Q : APost} (e : Go.Proofs.Ytalhmnijkkihgaa.get s x = .ub) (h1 : W P hint nb p s H Q) (h2 : W P hint nb q s H Q) : W P hint nb (.cond x p q) s H Q := by
  intro c hc σ a w h hs
  obtain ⟨cx, cp, cq, rfl, ex, ep, eq⟩ := comp_cond hc
  have hv := get_sound ex hs
  rw [e] at hv
  generalize hu : a.eval cx = u at hv
  cases hv with
  | ub => exact wp_cond_split hu (fun _ => h1 cp ep σ a w h hs) (fun _ => h2 cq eq σ a w h hs)
theorem W.block {id : Nat} {x : AC} {s : List AV} {H : List ABlk} {Q : APost} (hw : W P hint nb x s H (APost.inBlock id Q)) : W P hint nb (.block id x) s H Q := by
  intro c hc σ a w h hs
  obtain ⟨cx, rfl, ex⟩ := comp_block hc
  refine wp_block (wp_mono (hw cx ex σ a w h hs) fun e a' w' k => ?_)
  obtain ⟨σ', s', H', x1, x2, x3, x4⟩ := k
  cases e with
  | exit id' =>
    simp only [Exit.inBlock]
    simp only [APost.inBlock] at x4
    split
    · rename_i e; rw [if_pos e] at x4; exact ⟨σ', s', H', x1, x2, x3, x4⟩
    · rename_i e; rw [if_neg e] at x4; exact ⟨σ', s', H', x1, x2, x3, x4⟩
  | _ => exact ⟨σ', s', H', x1, x2, x3, x4⟩
/-- Going on with less. -/
theorem W.weak {x : AC} {s s0 : List AV} {H H0 : List ABlk} {Q : APost} (hk : Wk nb s H s0 H0) (hw : W P hint nb x s0 H0 Q) : W P hint nb x s H Q := by
  intro c hc σ a w h hs
  obtain ⟨σ', x1, x2, x3⟩ := hk.sound h hs
  exact wp_mono (hw c hc σ' a w x2 x3) fun e a' w' k => k.ext x1
/-- A LOOP. -/
theorem W.loop {x : AC} {s : List AV} {H : List ABlk} {Q : APost} (I : Nat → List AV → List ABlk → Prop) (n : Nat) (h0 : ∃ s0 H0, Wk nb s H s0 H0 ∧ I n s0 H0)
    (hr : ∀ n s H, I n s H → W P hint nb x s H (APost.then (fun s' H' => ∃ m, m < n ∧ ∃ s0 H0, Wk nb s' H' s0 H0 ∧ I m s0 H0) Q)) : W P hint nb (.loop x) s H Q := by
  intro c hc σ a w h hs
  obtain ⟨cx, rfl, ex⟩ := comp_loop hc
  obtain ⟨s0, H0, hk, hI⟩ := h0
  obtain ⟨σ0, x1, x2, x3⟩ := hk.sound h hs
  refine wp_loop_ghost (fun m a' w' => ∃ σ' s' H', ExtN nb σ H w σ' H' w' ∧ HR σ' H' w' ∧ SS σ' s' a' ∧ I m s' H') n ⟨σ0, s0, H0, x1, x2, x3, hI⟩ ?_
  rintro m a' w' ⟨σ', s', H', x1, x2, x3, x4⟩
  refine wp_mono (hr m s' H' x4 cx ex σ' a' w' x2 x3) fun e a'' w'' k => ?_
  obtain ⟨σ2, s2, H2, y1, y2, y3, y4⟩ := k
  cases e with
  | normal =>
    obtain ⟨m', hlt, s0, H0, hk, hI'⟩ := y4
    obtain ⟨σ3, z1, z2, z3⟩ := hk.sound y2 y3
    exact ⟨m', hlt, σ3, s0, H0, (x1.trans y1).trans z1, z2, z3, hI'⟩
  | _ => exact ⟨σ2, s2, H2, x1.trans y1, y2, y3, y4⟩

/-- What a function hands back, and what it forgets. -/
def retW (rs : List RC) (nb : Nat) (R : AV → List ABlk → Prop) : APost
  | .normal, s, H | .ret, s, H => ∃ v, resA rs s H = some v ∧ ∃ v0 H0, Wk nb [v] H [v0] H0 ∧ R v0 H0
  | _, _, _ => False

/-- A FUNCTION's CONTRACT OUT OF ITS BODY. -/
theorem ACalls.enter {f : FuncId} {fn : Func} {ac : AC} {rs : List RC} {args : List AV} {H : List ABlk} {R : AV → List ABlk → Prop} (hf : P.funcs[f]? = some fn) (hc : fn.body.bind (comp P hint) = some ac) (hrs : resC P fn = some rs)
    (hw : cl H → W P hint H.length ac (args ++ List.replicate (fn.ntmps - args.length) .any) H (retW rs H.length R)) : ACalls P f args H R := by
  obtain ⟨c, hb, hc⟩ := Option.bind_eq_some_iff.1 hc
  intro σ w vs h hv
  refine calls_of_wp hf hb ?_
  have hs : SS σ (args ++ List.replicate (fn.ntmps - args.length) .any) { tmps := vs.toArray ++ Array.replicate (fn.ntmps - vs.toArray.size) undef, defers := [] } := by
    refine ⟨rfl, ?_⟩
    have := hv.append (VRs.replicate (σ := σ) (fn.ntmps - args.length) (List.replicate (fn.ntmps - args.length) undef) (by simp))
    simpa [hv.1] using this
  have fin : ∀ {s' : List AV} {a' : Act} {σ' : Sg} {H' : List ABlk} {w' : World}, ExtN H.length σ H w σ' H' w' → HR σ' H' w' → SS σ' s' a' → (∃ v, resA rs s' H' = some v ∧ ∃ v0 H0, Wk H.length [v] H' [v0] H0 ∧ R v0 H0) →
      ∃ u, (results fn a'.tmps).run P w' = .ok u w' ∧ ∃ σ' H' v u', Ending.returned u = .returned u' ∧ Ext σ H w σ' H' w' ∧ HR σ' H' w' ∧ VR σ' v u' ∧ R v H' := by
    intro s' a' σ' H' w' x1 x2 x3 x4
    obtain ⟨v, e1, v0, H0, hk, hR⟩ := x4
    obtain ⟨u, hr, hvr⟩ := resA_sound (P := P) hrs e1 x3 x2
    obtain ⟨σ2, y1, y2, y3⟩ := hk.sound (a := { tmps := #[u], defers := [] }) x2 ⟨rfl, .cons hvr .nil⟩
    exact ⟨u, hr, σ2, H0, v0, u, rfl, (x1.trans y1).full h, y2, y3.tmps.2 0 v0 u rfl rfl, hR⟩
  refine wp_mono (hw h.cl c hc σ _ w h hs) fun e a' w' k => ?_
  obtain ⟨σ', s', H', x1, x2, x3, x4⟩ := k
  cases e with
  | normal => exact ⟨x3.defers, fin x1 x2 x3 x4⟩
  | ret => exact ⟨x3.defers, fin x1 x2 x3 x4⟩
  | _ => exact x4.elim

theorem retW.mk {rs : List RC} {nb : Nat} {R : AV → List ABlk → Prop} {s : List AV} {H : List ABlk} (v v0 : AV) (H0 : List ABlk) (h1 : resA rs s H = some v) (h2 : Wk1 v v0) (h3 : H = H0 ∨ (nb ≤ H0.length ∧ (∃ l, H = H0 ++ l) ∧ Go.Proofs.Ytalhmnijkkihgaa.cl H0 ∧ ∀ r ∈ refs v0, r < H0.length)) (h4 : R v0 H0) : retW rs nb R .ret s H :=
  ⟨v, h1, v0, H0, WkB.wk ⟨.cons h2 .nil, h3.imp id fun ⟨a, b, c, d⟩ => ⟨a, b, c, fun r hr => d r (by simpa [refs.refsL] using hr)⟩⟩, h4⟩
end
end Go.Proofs.Ytalhmnijkkihgaa
