/-
  One's own library, part 14: regions that draw their order, in general: each operation with the names it writes and the names that others write beside it.
-/
import Derived.Test.YtalhmnijkkihgaaAuto2
namespace Go.Proofs.Ytalhmnijkkihgaa
set_option linter.unusedSectionVars false
set_option linter.unusedSimpArgs false
set_option linter.unusedVariables false
open Go.RowKit

section
variable {P : Program}
/-- One operation that writes; beside it others write the names u. -/
def WStep (P : Program) (w u : List Nat) (i : Ins) (s : List AV) (H : List ABlk) (Kk : List AV → List ABlk → Prop) : Prop :=
  ∃ v G, StepOk P i s (kill u H) v (kill u G) ∧ (∀ c, c ∉ w → G[c]? = H[c]?) ∧ H.length ≤ G.length ∧ Kk (setO s i.dst v) G
def DC (P : Program) : List (List Nat × List Nat) → List Ins → List AV → List ABlk → (List AV → List ABlk → Prop) → Prop
  | ([], u) :: Z, i :: r, s, H, Kk => PChain P [i] s (kill u H) fun s' _ => DC P Z r s' H Kk
  | (w :: ws, u) :: Z, i :: r, s, H, Kk => WStep P (w :: ws) u i s H fun s' H' => DC P Z r s' H' Kk
  | _, _, s, H, Kk => Kk s H
theorem DC_p {u : List Nat} {Z : List (List Nat × List Nat)} {i : Ins} {r : List Ins} {s : List AV} {H : List ABlk} {Kk : List AV → List ABlk → Prop} : DC P (([], u) :: Z) (i :: r) s H Kk = PChain P [i] s (kill u H) fun s' _ => DC P Z r s' H Kk := propext ⟨fun h => h, fun h => h⟩
@[go_sem] theorem DC_w {w : Nat} {ws u : List Nat} {Z : List (List Nat × List Nat)} {i : Ins} {r : List Ins} {s : List AV} {H : List ABlk} {Kk : List AV → List ABlk → Prop} : DC P ((w :: ws, u) :: Z) (i :: r) s H Kk = WStep P (w :: ws) u i s H fun s' H' => DC P Z r s' H' Kk := propext ⟨fun h => h, fun h => h⟩
@[go_sem] theorem DC_n {s : List AV} {H : List ABlk} {Kk : List AV → List ABlk → Prop} : DC P [] [] s H Kk = Kk s H := propext ⟨fun h => h, fun h => h⟩
@[congr] theorem DC.cong {Z : List (List Nat × List Nat)} {l : List Ins} {s s' : List AV} {H H' : List ABlk} {Kk : List AV → List ABlk → Prop} (h : s = s') (h2 : H = H') : DC P Z l s H Kk = DC P Z l s' H' Kk := by rw [h, h2]
@[congr] theorem WStep.cong {w u : List Nat} {i : Ins} {s s' : List AV} {H H' : List ABlk} {Kk : List AV → List ABlk → Prop} (h : s = s') (h2 : H = H') : WStep P w u i s H Kk = WStep P w u i s' H' Kk := by rw [h, h2]

theorem PChain.step1 {i : Ins} {s : List AV} {H : List ABlk} {Kk : List AV → List ABlk → Prop} (h : PChain P [i] s H Kk) : ∃ v, StepOk P i s H v H ∧ Kk (setO s i.dst v) H := by
  simp only [PChain] at h
  split at h
  · rename_i hw
    split at h
    · rename_i f args e
      obtain ⟨v, h1, h2⟩ := h
      exact ⟨v, by simp only [StepOk, hw, e]; exact h1, h2⟩
    · rename_i g args e
      split at h
      · rename_i f caps e2
        obtain ⟨v, h0, h1, h2⟩ := h
        exact ⟨v, by simp only [StepOk, hw, e, e2]; exact ⟨h0, h1⟩, h2⟩
      · exact h.elim
    · rename_i x1 x2
      split at h
      · rename_i v H' e
        obtain ⟨h1, h2⟩ := h
        refine ⟨v, ?_, h2⟩
        rw [h1] at e
        simp only [StepOk, hw]
        exact e
      · exact h.elim
  · rename_i hw
    exact ⟨.tup [], by simp [StepOk, hw], h⟩
  · exact h.elim

theorem DC.chain {ws U : List (List Nat)} {H0 : List ABlk} {Kk : List AV → List ABlk → Prop} : ∀ {Z : List (List Nat × List Nat)} {l : List Ins} {j : Nat} {s : List AV} {H : List ABlk}, Z.length = l.length →
    (∀ k, k < Z.length → ws.getD (j + k) [] = (Z.getD k ([], [])).1 ∧ U.getD (j + k) [] = (Z.getD k ([], [])).2) → (∀ z ∈ Z, ∀ b ∈ z.1, b ∉ z.2 ∧ H0[b]? ≠ some .dead) → DC P Z l s H Kk → DChain P ws U H0 j l s H Kk
  | [], [], j, s, H, _, _, _, h => h
  | [], _ :: _, _, _, _, hl, _, _, _ => by simp at hl
  | _ :: _, [], _, _, _, hl, _, _, _ => by simp at hl
  | (w, u) :: Z, i :: l, j, s, H, hl, hZ, hz, h => by
    obtain ⟨hw, hu⟩ := hZ 0 (by simp)
    simp only [Nat.add_zero, List.getD_cons_zero] at hw hu
    have rest : ∀ {s' H'}, DC P Z l s' H' Kk → DChain P ws U H0 (j + 1) l s' H' Kk := fun h' =>
      DC.chain (by simpa using hl) (fun k hk => by
        have := hZ (k + 1) (by simpa using hk)
        simpa [Nat.add_assoc, Nat.add_comm 1 k] using this) (fun z hz' => hz z (List.mem_cons_of_mem _ hz')) h'
    have hz0 := hz (w, u) List.mem_cons_self
    simp only [DChain]
    rw [hw, hu]
    match w, h, hz0 with
    | [], h, hz0 =>
      obtain ⟨v, h1, h2⟩ := PChain.step1 h
      exact ⟨v, H, h1, fun _ _ => rfl, Nat.le_refl _, fun b hb => by simp at hb, rest h2⟩
    | b :: w', h, hz0 =>
      obtain ⟨v, G, h1, h2, h3, h4⟩ := h
      exact ⟨v, G, h1, h2, h3, hz0, rest h4⟩

theorem W.dregD {hint : Nat → Option Md} {nb : Nat} {pr : List (List Nat)} {l : List Ins} {s : List AV} {H : List ABlk} {Q : APost} (Z : List (List Nat × List Nat)) (hm : P.follows .mixedOrders = true) (hok : drawOk pr l = true) (hl : Z.length = l.length)
    (hU : (List.range l.length).map (killsOf pr (Z.map (·.1)) l.length) = Z.map (·.2)) (hz : ∀ z ∈ Z, ∀ b ∈ z.1, b ∉ z.2 ∧ H[b]? ≠ some .dead) (hc : DC P Z l s H (Q .normal)) : Go.Proofs.Ytalhmnijkkihgaa.W P hint nb (.dreg pr l) s H Q := by
  refine W.dreg (Z.map (·.1)) (Z.map (·.2)) hm hok hU (DC.chain hl (fun k hk => ?_) hz hc)
  rw [Nat.zero_add, List.getD_eq_getElem?_getD, List.getD_eq_getElem?_getD, List.getD_eq_getElem?_getD, List.getElem?_map, List.getElem?_map, List.getElem?_eq_getElem hk]
  exact ⟨rfl, rfl⟩

/-- What an operation that writes may do: its names w, while others write the names u. -/
def FrOk (w u : List Nat) (H G G' : List ABlk) : Prop := G' = kill u G ∧ (∀ c, c ∉ w → G[c]? = H[c]?) ∧ H.length ≤ G.length
theorem FrOk.set {w : List Nat} {H : List ABlk} {b : Nat} {x : ABlk} (h : b ∈ w) : FrOk w [] H (H.set b x) (H.set b x) :=
  ⟨rfl, fun c hc => List.getElem?_set_ne fun e => hc (by rw [← e]; exact h), by rw [List.length_set]; exact Nat.le_refl _⟩
theorem FrOk.app {w u : List Nat} {H l : List ABlk} (h : ∀ k, k < l.length → H.length + k ∈ w) (hu : ∀ b ∈ u, b < H.length ∨ H.length + l.length ≤ b) : FrOk w u H (H ++ l) (kill u H ++ l) := by
  refine ⟨?_, fun c hc => ?_, by rw [List.length_append]; omega⟩
  · induction u generalizing H with
    | nil => rfl
    | cons b u ih =>
      have hl : (H.set b ABlk.dead).length = H.length := List.length_set
      show kill u (H.set b .dead) ++ l = kill u ((H ++ l).set b .dead)
      rw [ih (H := H.set b .dead) (by rw [hl]; exact h) (by rw [hl]; exact fun c hc => hu c (List.mem_cons_of_mem _ hc))]
      rcases hu b List.mem_cons_self with h1 | h1
      · rw [List.set_append_left _ _ h1]
      · rw [List.set_eq_of_length_le (l := H ++ l) (by simpa using h1), List.set_eq_of_length_le (l := H) (by omega)]
  · rcases Nat.lt_or_ge c H.length with h' | h'
    · exact List.getElem?_append_left h'
    · have : l.length ≤ c - H.length := Nat.le_of_not_lt fun e => hc (by have := h _ e; rwa [Nat.add_sub_cancel' h'] at this)
      rw [List.getElem?_eq_none (by rw [List.length_append]; omega), List.getElem?_eq_none h']
theorem FrOk.trans {w u : List Nat} {H H2 G G' : List ABlk} (h : FrOk w [] H H2 H2) (k : FrOk w u H2 G G') : FrOk w u H G G' :=
  ⟨k.1, fun c hc => (k.2.1 c hc).trans (h.2.1 c hc), Nat.le_trans h.2.2 k.2.2⟩

theorem WStep.ev {w : List Nat} {d : Option Nat} {k : K} {s : List AV} {H : List ABlk} {Kk : List AV → List ABlk → Prop} (hk : ∀ f l, k ≠ .call f l) (hk2 : ∀ f l, k ≠ .callv f l) (h : EvK (evK k s H) fun v G => FrOk w [] H G G ∧ Kk (setO s d v) G) : WStep P w [] ⟨d, k, none⟩ s H Kk := by
  cases he : evK k s H with
  | none => rw [he] at h; exact h.elim
  | some p =>
    obtain ⟨v, G⟩ := p
    rw [he] at h
    obtain ⟨⟨_, h1, h2⟩, h3⟩ := h
    refine ⟨v, G, ?_, h1, h2, h3⟩
    cases k <;> first | exact absurd rfl (hk _ _) | exact absurd rfl (hk2 _ _) | exact he
theorem WStep.call {w : List Nat} {d : Option Nat} {f : FuncId} {args : List Opd} {s : List AV} {H : List ABlk} {Kk : List AV → List ABlk → Prop} {v : AV} {G : List ABlk} (h : ACalls P f (args.map (get s)) H fun v' G' => v' = v ∧ G' = G) (h1 : ∀ c, c ∉ w → G[c]? = H[c]?) (h2 : H.length ≤ G.length)
    (hk : Kk (setO s d v) G) : WStep P w [] ⟨d, .call f args, none⟩ s H Kk := ⟨v, G, by simp only [StepOk, wanted]; exact h, h1, h2, hk⟩
theorem kill_app : ∀ {u : List Nat} {H l : List ABlk}, (∀ b ∈ u, b < H.length ∨ H.length + l.length ≤ b) → kill u (H ++ l) = kill u H ++ l
  | [], H, l, _ => rfl
  | b :: u, H, l, h => by
    show kill u ((H ++ l).set b .dead) = kill u (H.set b .dead) ++ l
    have hl : (H.set b ABlk.dead).length = H.length := List.length_set
    rcases h b List.mem_cons_self with h1 | h1
    · rw [List.set_append_left _ _ h1]
      exact kill_app fun c hc => by rw [hl]; exact h c (List.mem_cons_of_mem _ hc)
    · rw [List.set_eq_of_length_le (by simpa using h1), List.set_eq_of_length_le (by omega)]
      exact kill_app fun c hc => h c (List.mem_cons_of_mem _ hc)
theorem kill_comm : ∀ {u : List Nat} {H : List ABlk} {b : Nat} {x : ABlk}, b ∉ u → kill u (H.set b x) = (kill u H).set b x
  | [], _, _, _, _ => rfl
  | c :: u, H, b, x, h => by
    show kill u ((H.set b x).set c .dead) = _
    rw [List.set_comm _ _ (fun e => h (by rw [e]; exact List.mem_cons_self))]
    exact kill_comm (u := u) (H := H.set c .dead) fun hb => h (List.mem_cons_of_mem _ hb)
/-- In general: what the heap is made into, with and without what others write. -/
theorem WStep.evU {w u : List Nat} {d : Option Nat} {k : K} {s : List AV} {H : List ABlk} {Kk : List AV → List ABlk → Prop} (G : List ABlk) (hk : ∀ f l, k ≠ .call f l) (hk2 : ∀ f l, k ≠ .callv f l)
    (h : EvK (evK k s (kill u H)) fun v G' => FrOk w u H G G' ∧ Kk (setO s d v) G) : WStep P w u ⟨d, k, none⟩ s H Kk := by
  cases he : evK k s (kill u H) with
  | none => rw [he] at h; exact h.elim
  | some p =>
    obtain ⟨v, G'⟩ := p
    rw [he] at h
    obtain ⟨⟨h1, h2, h3⟩, h4⟩ := h
    refine ⟨v, G, ?_, h2, h3, h4⟩
    rw [← h1]
    cases k <;> first | exact absurd rfl (hk _ _) | exact absurd rfl (hk2 _ _) | exact he
@[go_sem] theorem kill_0 (H : List ABlk) : kill [] H = H := rfl
theorem kill_c (b : Nat) (U : List Nat) (H : List ABlk) : kill (b :: U) H = kill U (H.set b .dead) := rfl
/-- What others do not write is there. -/
theorem killed {H : List ABlk} {b : Nat} {k : ABlk} (h : H[b]? = some k) {U : List Nat} (hU : b ∉ U) : (kill U H)[b]? = some k := by rw [kill_out U H hU, h]
end
end Go.Proofs.Ytalhmnijkkihgaa
