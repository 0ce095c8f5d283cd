/-
  One's own library, part 13: regions that draw their order, with two operations that write.
-/
import Derived.Test.YtalhmnijkkihgaaAuto
namespace Go.Proofs.Ytalhmnijkkihgaa
set_option linter.unusedSectionVars false
set_option linter.unusedSimpArgs false
set_option linter.unusedVariables false
open Go.RowKit

section
variable {P : Program} {Kk : List AV → List ABlk → Prop}
theorem PChain.appK {ws U : List (List Nat)} {H0 : List ABlk} (U0 : List Nat) : ∀ {l1 l2 : List Ins} {j : Nat} {s : List AV} {H : List ABlk}, PChain P l1 s (kill U0 H) (fun s' _ => DChain P ws U H0 (j + l1.length) l2 s' H Kk) →
    (∀ k, k < l1.length → ws.getD (j + k) [] = []) → (∀ k, k < l1.length → U.getD (j + k) [] = U0) → DChain P ws U H0 j (l1 ++ l2) s H Kk
  | [], l2, j, s, H, h, _, _ => h
  | i :: l1, l2, j, s, H, h, hw, hU => by
    have hU0 : U.getD j [] = U0 := hU 0 (by simp)
    have hw0 : ws.getD j [] = [] := hw 0 (by simp)
    have fin : ∀ v, StepOk P i s (kill U0 H) v (kill U0 H) → PChain P l1 (setO s i.dst v) (kill U0 H) (fun s' _ => DChain P ws U H0 (j + (i :: l1).length) l2 s' H Kk) → DChain P ws U H0 j (i :: l1 ++ l2) s H Kk := fun v h1 h2 =>
      .pure v (by rw [hU0]; exact h1) hw0 (PChain.appK U0 (by rw [show j + 1 + l1.length = j + (i :: l1).length by simp; omega]; exact h2) (fun k hk => by rw [show j + 1 + k = j + (k + 1) by omega]; exact hw (k + 1) (by simp; omega)) (fun k hk => by rw [show j + 1 + k = j + (k + 1) by omega]; exact hU (k + 1) (by simp; omega)))
    simp only [PChain] at h
    split at h
    · rename_i hw
      split at h
      · rename_i f args e
        obtain ⟨v, h1, h2⟩ := h
        exact fin v (by simp only [StepOk, hw, e]; exact h1) h2
      · rename_i g args e
        split at h
        · rename_i f caps e2
          obtain ⟨v, h0, h1, h2⟩ := h
          exact fin v (by simp only [StepOk, hw, e, e2]; exact ⟨h0, h1⟩) h2
        · exact h.elim
      · rename_i x1 x2
        split at h
        · rename_i v H' e
          obtain ⟨h1, h2⟩ := h
          refine fin v ?_ h2
          rw [h1] at e
          simp only [StepOk, hw]
          exact e
        · exact h.elim
    · rename_i hw
      exact fin (.tup []) (by simp [StepOk, hw]) h
    · exact h.elim
theorem StW.call {d : Option Nat} {f : FuncId} {args : List Opd} {b : Nat} {s : List AV} {H : List ABlk} {v : AV} {blk : ABlk} (h : ACalls P f (args.map (get s)) H fun v' G' => v' = v ∧ G' = H.set b blk)
    (hk : Kk (setO s d v) (H.set b blk)) : StW P [⟨d, .call f args, none⟩] b s H Kk :=
  ⟨v, H.set b blk, by simp only [StepOk, wanted]; exact h, fun c hc => List.getElem?_set_ne (Ne.symm hc), by simp, hk⟩
theorem getD_at {A B : List (List Nat)} {j : Nat} (h : A.length ≤ j) : (A ++ B).getD j [] = B.getD (j - A.length) [] := by
  rw [List.getD_eq_getElem?_getD, List.getElem?_append_right h, List.getD_eq_getElem?_getD]
theorem getD_lo {A B : List (List Nat)} {j : Nat} (h : j < A.length) : (A ++ B).getD j [] = A.getD j [] := by
  rw [List.getD_eq_getElem?_getD, List.getElem?_append_left h, List.getD_eq_getElem?_getD]
theorem getD_repl {n k : Nat} {x : List Nat} (h : k < n) : (List.replicate n x).getD k [] = x := by
  rw [List.getD_eq_getElem?_getD, List.getElem?_replicate, if_pos h]; rfl

/-- Pure, a writing one, pure beside it, a writing one behind all, pure. -/
theorem W.dreg2 {hint : Nat → Option Md} {nb : Nat} {pr : List (List Nat)} {l : List Ins} {s : List AV} {H : List ABlk} {Q : APost} (n1 n2 n3 b c : Nat) (hn : l.length = n1 + 1 + n2 + 1 + n3) (hm : P.follows .mixedOrders = true) (hok : drawOk pr l = true)
    (hU : (List.range l.length).map (killsOf pr (List.replicate n1 [] ++ ([[b]] ++ (List.replicate n2 [] ++ ([[c]] ++ List.replicate n3 [])))) l.length) = List.replicate n1 [] ++ ([[]] ++ (List.replicate n2 [b] ++ ([[]] ++ List.replicate n3 []))))
    (hb : H[b]? ≠ some .dead) (hc' : H[c]? ≠ some .dead)
    (hc : PChain P (l.take n1) s H fun s1 H1 => StW P ((l.drop n1).take 1) b s1 H1 fun s2 H2 => PChain P ((l.drop (n1 + 1)).take n2) s2 (H2.set b .dead) fun s3 _ =>
      StW P ((l.drop (n1 + 1 + n2)).take 1) c s3 H2 fun s4 H4 => PChain P (l.drop (n1 + 1 + n2 + 1)) s4 H4 (Q .normal)) : Go.Proofs.Ytalhmnijkkihgaa.W P hint nb (.dreg pr l) s H Q := by
  refine W.dreg _ _ hm hok hU ?_
  have hl : l = l.take n1 ++ ((l.drop n1).take 1 ++ ((l.drop (n1 + 1)).take n2 ++ ((l.drop (n1 + 1 + n2)).take 1 ++ l.drop (n1 + 1 + n2 + 1)))) := by
    rw [show l.drop (n1 + 1 + n2 + 1) = (l.drop (n1 + 1 + n2)).drop 1 by rw [List.drop_drop], List.take_append_drop, show l.drop (n1 + 1 + n2) = (l.drop (n1 + 1)).drop n2 by rw [List.drop_drop], List.take_append_drop, show l.drop (n1 + 1) = (l.drop n1).drop 1 by rw [List.drop_drop], List.take_append_drop, List.take_append_drop]
  have e1 : (l.take n1).length = n1 := by simp; omega
  have e2 : ((l.drop (n1 + 1)).take n2).length = n2 := by simp; omega
  have e3 : (l.drop (n1 + 1 + n2 + 1)).length = n3 := by simp; omega
  generalize l.take n1 = l1 at *
  generalize (l.drop n1).take 1 = w1 at *
  generalize (l.drop (n1 + 1)).take n2 = l2 at *
  generalize (l.drop (n1 + 1 + n2)).take 1 = w2 at *
  generalize l.drop (n1 + 1 + n2 + 1) = l3 at *
  clear hU hn hok
  subst hl
  have r1 : ∀ {n : Nat} {x : List Nat}, (List.replicate n x).length = n := List.length_replicate
  refine PChain.app (by
    rw [e1, Nat.zero_add]
    refine PChain.mono hc fun s1 H1 h1 => ?_
    match w1, h1 with
    | [i1], h1 =>
      obtain ⟨v, G, g1, g2, g3, h2⟩ := h1
      refine DChain.wr b v G ?_ ?_ hb g1 g2 g3 ?_
      · rw [getD_at (by rw [r1]; exact Nat.le_refl _), r1, Nat.sub_self]; rfl
      · rw [getD_at (by rw [r1]; exact Nat.le_refl _), r1, Nat.sub_self]; rfl
      show DChain P _ _ _ _ (l2 ++ (w2 ++ l3)) _ _ _
      refine PChain.appK (l1 := l2) [b] (PChain.mono h2 fun s3 _ h3 => ?_) (fun k hk => ?_) (fun k hk => ?_)
      · match w2, h3 with
        | [i2], h3 =>
          obtain ⟨v', G', k1, k2, k3, h4⟩ := h3
          rw [e2]
          refine DChain.wr c v' G' ?_ ?_ hc' k1 k2 k3 ?_
          · rw [getD_at (by rw [r1]; omega), r1, getD_at (by simp only [List.length_cons, List.length_nil]; omega), getD_at (by rw [r1]; simp only [List.length_cons, List.length_nil]; omega), r1]
            rw [show n1 + 1 + n2 - n1 - [[]].length - n2 = 0 by simp only [List.length_cons, List.length_nil, List.length_append, r1]; omega]; rfl
          · rw [getD_at (by rw [r1]; omega), r1, getD_at (by simp only [List.length_cons, List.length_nil]; omega), getD_at (by rw [r1]; simp only [List.length_cons, List.length_nil]; omega), r1]
            rw [show n1 + 1 + n2 - n1 - [[b]].length - n2 = 0 by simp only [List.length_cons, List.length_nil, List.length_append, r1]; omega]; rfl
          have := PChain.app (P := P) (Kk := Q .normal) (ws := List.replicate n1 [] ++ ([[b]] ++ (List.replicate n2 [] ++ ([[c]] ++ List.replicate n3 [])))) (U := List.replicate n1 [] ++ ([[]] ++ (List.replicate n2 [b] ++ ([[]] ++ List.replicate n3 [])))) (H0 := H) (l1 := l3) (l2 := []) (j := n1 + 1 + n2 + 1) (s := setO s3 i2.dst v') (H := G') h4 (fun k hk => ?_) (fun k hk => ?_)
          · rwa [List.append_nil] at this
          · rw [getD_at (by rw [r1]; omega), r1, getD_at (by simp only [List.length_cons, List.length_nil, List.length_append, r1]; omega), getD_at (by rw [r1]; simp only [List.length_cons, List.length_nil]; omega), r1, getD_at (by simp only [List.length_cons, List.length_nil, List.length_append, r1]; omega)]
            exact getD_repl (by simp only [List.length_cons, List.length_nil, List.length_append, r1]; omega)
          · rw [getD_at (by rw [r1]; omega), r1, getD_at (by simp only [List.length_cons, List.length_nil, List.length_append, r1]; omega), getD_at (by rw [r1]; simp only [List.length_cons, List.length_nil]; omega), r1, getD_at (by simp only [List.length_cons, List.length_nil, List.length_append, r1]; omega)]
            exact getD_repl (by simp only [List.length_cons, List.length_nil, List.length_append, r1]; omega)
      · rw [getD_at (by rw [r1]; omega), r1, getD_at (by simp only [List.length_cons, List.length_nil, List.length_append, r1]; omega), getD_lo (by rw [r1]; simp only [List.length_cons, List.length_nil]; omega)]
        exact getD_repl (by simp only [List.length_cons, List.length_nil, List.length_append, r1]; omega)
      · rw [getD_at (by rw [r1]; omega), r1, getD_at (by simp only [List.length_cons, List.length_nil, List.length_append, r1]; omega), getD_lo (by rw [r1]; simp only [List.length_cons, List.length_nil]; omega)]
        exact getD_repl (by simp only [List.length_cons, List.length_nil, List.length_append, r1]; omega)) (fun k hk => ?_) (fun k hk => ?_)
  · rw [getD_lo (by rw [r1]; omega)]; exact getD_repl (by omega)
  · rw [getD_lo (by rw [r1]; omega)]; exact getD_repl (by omega)
end
end Go.Proofs.Ytalhmnijkkihgaa
