/-
  One's own library, part 5b: each operation does what the evaluator says.
-/
import Derived.Test.YtalhmnijkkihgaaSnd1
namespace Go.Proofs.Ytalhmnijkkihgaa
set_option linter.unusedVariables false
set_option linter.unusedSimpArgs false
set_option linter.unusedSectionVars false
open Go.RowKit

section
variable {P : Program} {o : Oper} {a : Act} {σ : Sg} {H : List ABlk} {w : World} {s : List AV}

theorem VR.bool_inv {t : Bool} {u : Value} (h : VR σ (.d (.v (.bool t))) u) : u = .bool t := h.plain_inv.1
theorem VR.int_inv {k : IntKind} {n : Int} {u : Value} (h : VR σ (.d (.v (.int k n))) u) : u = .int k n := h.plain_inv.1
theorem VR.str_inv {b : ByteArray} {u : Value} (h : VR σ (.d (.v (.string b))) u) : u = .string b := h.plain_inv.1
theorem VR.mk_bool (t : Bool) : VR σ (.d (.v (.bool t))) (.bool t) := .plain rfl
theorem VR.mk_int (k : IntKind) (n : Int) : VR σ (.d (.v (.int k n))) (.int k n) := .plain rfl
theorem VR.mk_str (b : ByteArray) : VR σ (.d (.v (.string b))) (.string b) := .plain rfl

theorem ok_pick {c x y : Operand} {c' x' y' : Opd} {t : Bool} (ho : o.op = .pick c x y) (hc : opd c = some c') (hx : opd x = some x') (hy : opd y = some y') (hs : SS σ s a) (h : HR σ H w)
    (ht : get s c' = .d (.v (.bool t))) : OpOk P o a σ H w (bif t then get s x' else get s y') H := by
  have h1 := get_sound hc hs
  rw [ht] at h1
  have hc1 := h1.bool_inv
  refine .pure h (u := if t then a.eval x else a.eval y) ?_ ?_
  · cases t <;> simp [execOp, ho, hc1, asBool]
  · cases t
    · exact get_sound hy hs
    · exact get_sound hx hs

theorem ok_nc {x : Operand} {x' : Opd} (ho : o.op = .nilCheck x) (hx : opd x = some x') (hs : SS σ s a) (h : HR σ H w)
    (ht : (∃ b n, get s x' = .ptr b n) ∨ (∃ cs, get s x' = .ip cs) ∨ ∃ f cs, get s x' = .fn f cs) : OpOk P o a σ H w (get s x') H := by
  have h1 := get_sound hx hs
  refine .pure h (u := a.eval x) ?_ h1
  rcases ht with ⟨b, n, ht⟩ | ⟨cs, ht⟩ | ⟨f, cs, ht⟩ <;> rw [ht] at h1 <;> generalize he : a.eval x = u at h1 <;> cases h1 <;> simp [execOp, ho, he]

theorem str_eq (a b : ByteArray) : (a.toList == b.toList) = decide (a = b) := by
  rw [ByteArray.toList_eq, ByteArray.toList_eq]
  by_cases h : a = b
  · subst h; simp
  · rw [decide_eq_false h]
    cases hb : (a.data.toList == b.data.toList) with
    | false => rfl
    | true =>
      have := eq_of_beq hb
      exact absurd (ByteArray.ext (Array.ext' this)) h

theorem ok_bin {op : BinOp} {t t' : TypeId} {x y : Operand} {x' y' : Opd} {v : AV} (ho : o.op = .binOp op t x y t') (hx : opd x = some x') (hy : opd y = some y') (hs : SS σ s a) (h : HR σ H w)
    (hv : binA op (get s x') (get s y') = some v) : OpOk P o a σ H w v H := by
  have h1 := get_sound hx hs
  have h2 := get_sound hy hs
  unfold binA at hv
  split at hv
  · rename_i k m k' n e1 e2
    rw [e1] at h1; rw [e2] at h2
    have q1 := h1.int_inv
    have q2 := h2.int_inv
    split at hv
    · split at hv
      · cases hv
      · rename_i hn
        cases hv
        refine .pure h ?_ (VR.mk_int _ _)
        simp [execOp, ho, q1, q2, eqGuard, binOp, Op.shift, hn]
    · split at hv
      · cases hv
      · rename_i hn
        cases hv
        refine .pure h ?_ (VR.mk_int _ _)
        rw [← Int.fdiv_eq_ediv_of_nonneg _ (Int.pow_nonneg (by decide))]
        simp [execOp, ho, q1, q2, eqGuard, binOp, Op.shift, hn]
    · split at hv
      · rename_i hk
        subst hk
        split at hv <;> first | (cases hv; done) | skip
        all_goals first
          | (cases hv
             refine .pure h ?_ (VR.mk_int _ _)
             simp [execOp, ho, q1, q2, eqGuard, binOp, Op.intArith, Op.intBits]
             done)
          | (cases hv
             refine .pure h ?_ (VR.mk_bool _)
             simp [execOp, ho, q1, q2, eqGuard, binOp, Op.intCmp]
             done)
          | (split at hv
             · cases hv
             · rename_i hn
               cases hv
               refine .pure h ?_ (VR.mk_int _ _)
               simp [execOp, ho, q1, q2, eqGuard, binOp, Op.intDiv, hn])
      · cases hv
  · rename_i b c e1 e2
    rw [e1] at h1; rw [e2] at h2
    have q1 := h1.str_inv
    have q2 := h2.str_inv
    split at hv
    · cases hv
      refine .pure h ?_ (VR.mk_bool _)
      rw [← str_eq]
      simp [execOp, ho, q1, q2, eqGuard, binOp, Op.stringOp]
    · cases hv
      refine .pure h ?_ (VR.mk_bool _)
      rw [← str_eq]
      simp [execOp, ho, q1, q2, eqGuard, binOp, Op.stringOp]
    · split at hv
      · cases hv
      · rename_i hn
        cases hv
        refine .pure h ?_ (VR.mk_str _)
        simp [execOp, ho, q1, q2, eqGuard, binOp, Op.stringOp] at hn ⊢
        omega
    · cases hv
  · cases hv

end
end Go.Proofs.Ytalhmnijkkihgaa
