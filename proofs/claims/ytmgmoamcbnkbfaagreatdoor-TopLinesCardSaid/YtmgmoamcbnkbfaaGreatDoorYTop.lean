/-
  One's own library, part 9: small laws for the walks.
-/
import Derived.Test.YtmgmoamcbnkbfaaGreatDoorYDraw2
import Derived.ProofKit
import Derived.Below
import Derived.ChangeSame
set_option linter.unusedVariables false
set_option linter.unusedSimpArgs false
set_option linter.unusedSectionVars false
namespace Go.Proofs.YtmgmoamcbnkbfaaGreatDoor
open Go.RowKit

theorem hg0 (H l : List ABlk) : (H ++ l)[H.length]? = l[0]? := by rw [List.getElem?_append_right (Nat.le_refl _), Nat.sub_self]
theorem hgk (H l : List ABlk) (k : Nat) : (H ++ l)[H.length + k]? = l[k]? := by rw [List.getElem?_append_right (Nat.le_add_right _ _), Nat.add_sub_cancel_left]
theorem hs0 (H l : List ABlk) (x : ABlk) : (H ++ l).set H.length x = H ++ l.set 0 x := by rw [List.set_append_right _ _ (Nat.le_refl _), Nat.sub_self]
theorem hsk (H l : List ABlk) (k : Nat) (x : ABlk) : (H ++ l).set (H.length + k) x = H ++ l.set k x := by rw [List.set_append_right _ _ (Nat.le_add_right _ _), Nat.add_sub_cancel_left]
theorem hold {H : List ABlk} {b : Nat} {k : ABlk} (h : H[b]? = some k) (l : List ABlk) : (H ++ l)[b]? = some k := by
  rw [List.getElem?_append_left (List.getElem?_eq_some_iff.1 h).1]; exact h
theorem holds {H : List ABlk} {b : Nat} {k : ABlk} (h : H[b]? = some k) (l : List ABlk) (x : ABlk) : (H ++ l).set b x = H.set b x ++ l :=
  List.set_append_left _ _ (List.getElem?_eq_some_iff.1 h).1
theorem Wk1.aggL {cs cs' : List AV} (h : WkL cs cs') : Wk1 (.agg cs) (.agg cs') := by
  have : cs.length = cs'.length ∧ ∀ (i : Nat) (c c' : AV), cs[i]? = some c → cs'[i]? = some c' → Wk1 c c' := by
    induction h with
    | nil => exact ⟨Eq.refl _, fun i c c' h => by simp at h⟩
    | cons h1 _ ih =>
      refine ⟨by simp [ih.1], fun i c c' a b => ?_⟩
      cases i with
      | zero => simp at a b; subst a; subst b; exact h1
      | succ i => simp at a b; exact ih.2 i c c' a b
  exact .agg this.1 this.2
theorem Wk1.tupL {cs cs' : List AV} (h : WkL cs cs') : Wk1 (.tup cs) (.tup cs') := by
  have : cs.length = cs'.length ∧ ∀ (i : Nat) (c c' : AV), cs[i]? = some c → cs'[i]? = some c' → Wk1 c c' := by
    induction h with
    | nil => exact ⟨Eq.refl _, fun i c c' h => by simp at h⟩
    | cons h1 _ ih =>
      refine ⟨by simp [ih.1], fun i c c' a b => ?_⟩
      cases i with
      | zero => simp at a b; subst a; subst b; exact h1
      | succ i => simp at a b; exact ih.2 i c c' a b
  exact .tup this.1 this.2
theorem WkL.any (xs : List AV) : ∀ {n : Nat}, xs.length = n → WkL xs (List.replicate n .any) := by
  intro n h
  subst h
  induction xs with
  | nil => exact .nil
  | cons x xs ih => exact .cons (.any x) ih

@[congr] theorem ACalls.cong {P : Program} {f : FuncId} {args args' : List AV} {H H' : List ABlk} {R : AV → List ABlk → Prop} (h1 : args = args') (h2 : H = H') : ACalls P f args H R = ACalls P f args' H' R := by rw [h1, h2]
@[congr] theorem W.cong {P : Program} {hint : Nat → Option Md} {nb : Nat} {ac : AC} {s s' : List AV} {H H' : List ABlk} {Q : APost} (h1 : s = s') (h2 : H = H') : W P hint nb ac s H Q = W P hint nb ac s' H' Q := by rw [h1, h2]
/-- What is left behind a call. -/
def Cont (P : Program) (r : List Ins) (s : List AV) (d : Option Nat) (Kk : List AV → List ABlk → Prop) : AV → List ABlk → Prop := fun v H => wpIns P r (setO s d v) H Kk
theorem Cont.mk {P : Program} {r : List Ins} {s : List AV} {d : Option Nat} {Kk : List AV → List ABlk → Prop} {f : FuncId} {args : List AV} {H H' : List ABlk} {v : AV} (h : ACalls P f args H fun v' H'' => v' = v ∧ H'' = H') (hk : wpIns P r (setO s d v) H' Kk) : ACalls P f args H (Cont P r s d Kk) :=
  h.mono fun v' H'' ⟨e1, e2⟩ => by rw [e1, e2]; exact hk
theorem Cont.rel {P : Program} {r : List Ins} {s : List AV} {d : Option Nat} {Kk : List AV → List ABlk → Prop} {f : FuncId} {args : List AV} {H : List ABlk} {R : AV → List ABlk → Prop} (h : ACalls P f args H R) (hk : ∀ v H', R v H' → wpIns P r (setO s d v) H' Kk) : ACalls P f args H (Cont P r s d Kk) :=
  h.mono hk
theorem wpIns_call {P : Program} {d : Option Nat} {f : FuncId} {args : List Opd} {r : List Ins} {s : List AV} {H : List ABlk} {Kk : List AV → List ABlk → Prop} :
    wpIns P (⟨d, .call f args, none⟩ :: r) s H Kk = ACalls P f (args.map (get s)) H (Cont P r s d Kk) := propext ⟨fun h => h, fun h => h⟩
theorem wpIns_callg {P : Program} {d : Option Nat} {f : FuncId} {args : List Opd} {g : Nat × Bool} {r : List Ins} {s : List AV} {H : List ABlk} {Kk : List AV → List ABlk → Prop} :
    wpIns P (⟨d, .call f args, some g⟩ :: r) s H Kk = match wanted s (some g) with
      | some true => ACalls P f (args.map (get s)) H (Cont P r s d Kk)
      | some false => wpIns P r (setO s d (.tup [])) H Kk
      | none => False := propext ⟨fun h => h, fun h => h⟩
theorem wpIns_callv {P : Program} {d : Option Nat} {f : Opd} {args : List Opd} {g : Option (Nat × Bool)} {r : List Ins} {s : List AV} {H : List ABlk} {Kk : List AV → List ABlk → Prop} :
    wpIns P (⟨d, .callv f args, g⟩ :: r) s H Kk = match wanted s g with
      | some true => (match get s f with
        | .fn f caps => callOk P f = true ∧ ACalls P f (args.map (get s) ++ caps) H (Cont P r s d Kk)
        | _ => False)
      | some false => wpIns P r (setO s d (.tup [])) H Kk
      | none => False := propext ⟨fun h => h, fun h => h⟩
theorem wpIns_nil {P : Program} {s : List AV} {H : List ABlk} {Kk : List AV → List ABlk → Prop} : wpIns P [] s H Kk = Kk s H := propext ⟨fun h => h, fun h => h⟩
section
variable {P : Program} {d : Option Nat} {g : Option (Nat × Bool)} {r : List Ins} {s : List AV} {H : List ABlk} {Kk : List AV → List ABlk → Prop}
/-- One operation that is no call. -/
def Stp (P : Program) (d : Option Nat) (k : K) (g : Option (Nat × Bool)) (r : List Ins) (s : List AV) (H : List ABlk) (Kk : List AV → List ABlk → Prop) : Prop :=
  match wanted s g with
  | some true => (match evK k s H with
    | some (v, H') => wpIns P r (setO s d v) H' Kk
    | none => False)
  | some false => wpIns P r (setO s d (.tup [])) H Kk
  | none => False
theorem wi_mv {a0 : Opd} : wpIns P (⟨d, .mv a0, g⟩ :: r) s H Kk = Stp P d (.mv a0) g r s H Kk := propext ⟨fun h => h, fun h => h⟩
theorem wi_mvg {a0 : Nat} {a1 : Nat} {a2 : Opd} : wpIns P (⟨d, .mvg a0 a1 a2, g⟩ :: r) s H Kk = Stp P d (.mvg a0 a1 a2) g r s H Kk := propext ⟨fun h => h, fun h => h⟩
theorem wi_pick {a0 : Opd} {a1 : Opd} {a2 : Opd} : wpIns P (⟨d, .pick a0 a1 a2, g⟩ :: r) s H Kk = Stp P d (.pick a0 a1 a2) g r s H Kk := propext ⟨fun h => h, fun h => h⟩
@[go_sem] theorem wi_alb {a0 : TypeId} : wpIns P (⟨d, .alb a0, g⟩ :: r) s H Kk = Stp P d (.alb a0) g r s H Kk := propext ⟨fun h => h, fun h => h⟩
theorem wi_al {a0 : (List AV)} : wpIns P (⟨d, .al a0, g⟩ :: r) s H Kk = Stp P d (.al a0) g r s H Kk := propext ⟨fun h => h, fun h => h⟩
theorem wi_bx {a0 : Opd} : wpIns P (⟨d, .bx a0, g⟩ :: r) s H Kk = Stp P d (.bx a0) g r s H Kk := propext ⟨fun h => h, fun h => h⟩
theorem wi_bd {a0 : (List AV)} {a1 : (List (Nat × Nat × Opd))} : wpIns P (⟨d, .bd a0 a1, g⟩ :: r) s H Kk = Stp P d (.bd a0 a1) g r s H Kk := propext ⟨fun h => h, fun h => h⟩
theorem wi_bs {a0 : Md} {a1 : Nat} {a2 : Nat} {a3 : (List Opd)} : wpIns P (⟨d, .bs a0 a1 a2 a3, g⟩ :: r) s H Kk = Stp P d (.bs a0 a1 a2 a3) g r s H Kk := propext ⟨fun h => h, fun h => h⟩
theorem wi_ld {a0 : Opd} {a1 : Nat} {a2 : Bool} : wpIns P (⟨d, .ld a0 a1 a2, g⟩ :: r) s H Kk = Stp P d (.ld a0 a1 a2) g r s H Kk := propext ⟨fun h => h, fun h => h⟩
theorem wi_st {a0 : Opd} {a1 : Opd} {a2 : Nat} : wpIns P (⟨d, .st a0 a1 a2, g⟩ :: r) s H Kk = Stp P d (.st a0 a1 a2) g r s H Kk := propext ⟨fun h => h, fun h => h⟩
theorem wi_nc {a0 : Opd} : wpIns P (⟨d, .nc a0, g⟩ :: r) s H Kk = Stp P d (.nc a0) g r s H Kk := propext ⟨fun h => h, fun h => h⟩
theorem wi_bin {a0 : BinOp} {a1 : Opd} {a2 : Opd} : wpIns P (⟨d, .bin a0 a1 a2, g⟩ :: r) s H Kk = Stp P d (.bin a0 a1 a2) g r s H Kk := propext ⟨fun h => h, fun h => h⟩
theorem wi_un {a0 : UnOp} {a1 : Opd} : wpIns P (⟨d, .un a0 a1, g⟩ :: r) s H Kk = Stp P d (.un a0 a1) g r s H Kk := propext ⟨fun h => h, fun h => h⟩
theorem wi_cvi {a0 : IntKind} {a1 : Opd} : wpIns P (⟨d, .cvi a0 a1, g⟩ :: r) s H Kk = Stp P d (.cvi a0 a1) g r s H Kk := propext ⟨fun h => h, fun h => h⟩
theorem wi_fa {a0 : Opd} {a1 : Nat} : wpIns P (⟨d, .fa a0 a1, g⟩ :: r) s H Kk = Stp P d (.fa a0 a1) g r s H Kk := propext ⟨fun h => h, fun h => h⟩
theorem wi_fld {a0 : Opd} {a1 : Nat} {a2 : Nat} {a3 : Bool} : wpIns P (⟨d, .fld a0 a1 a2 a3, g⟩ :: r) s H Kk = Stp P d (.fld a0 a1 a2 a3) g r s H Kk := propext ⟨fun h => h, fun h => h⟩
theorem wi_ia {a0 : Opd} {a1 : Opd} {a2 : Nat} : wpIns P (⟨d, .ia a0 a1 a2, g⟩ :: r) s H Kk = Stp P d (.ia a0 a1 a2) g r s H Kk := propext ⟨fun h => h, fun h => h⟩
theorem wi_iar {a0 : Opd} {a1 : Opd} {a2 : Nat} {a3 : Nat} : wpIns P (⟨d, .iar a0 a1 a2 a3, g⟩ :: r) s H Kk = Stp P d (.iar a0 a1 a2 a3) g r s H Kk := propext ⟨fun h => h, fun h => h⟩
theorem wi_ix {a0 : Opd} {a1 : Opd} : wpIns P (⟨d, .ix a0 a1, g⟩ :: r) s H Kk = Stp P d (.ix a0 a1) g r s H Kk := propext ⟨fun h => h, fun h => h⟩
@[go_sem] theorem wi_ixv {a0 : Opd} {a1 : Opd} {a2 : Nat} : wpIns P (⟨d, .ixv a0 a1 a2, g⟩ :: r) s H Kk = Stp P d (.ixv a0 a1 a2) g r s H Kk := propext ⟨fun h => h, fun h => h⟩
theorem wi_sli {a0 : Bool} {a1 : Opd} {a2 : (Option Opd)} {a3 : (Option Opd)} {a4 : Nat} : wpIns P (⟨d, .sli a0 a1 a2 a3 a4, g⟩ :: r) s H Kk = Stp P d (.sli a0 a1 a2 a3 a4) g r s H Kk := propext ⟨fun h => h, fun h => h⟩
theorem wi_sla {a0 : Opd} {a1 : (Option Opd)} {a2 : (Option Opd)} {a3 : Nat} {a4 : Nat} : wpIns P (⟨d, .sla a0 a1 a2 a3 a4, g⟩ :: r) s H Kk = Stp P d (.sla a0 a1 a2 a3 a4) g r s H Kk := propext ⟨fun h => h, fun h => h⟩
theorem wi_slz {a0 : Opd} : wpIns P (⟨d, .slz a0, g⟩ :: r) s H Kk = Stp P d (.slz a0) g r s H Kk := propext ⟨fun h => h, fun h => h⟩
theorem wi_ext {a0 : Opd} {a1 : Nat} : wpIns P (⟨d, .ext a0 a1, g⟩ :: r) s H Kk = Stp P d (.ext a0 a1) g r s H Kk := propext ⟨fun h => h, fun h => h⟩
theorem wi_len {a0 : Bool} {a1 : Opd} : wpIns P (⟨d, .len a0 a1, g⟩ :: r) s H Kk = Stp P d (.len a0 a1) g r s H Kk := propext ⟨fun h => h, fun h => h⟩
theorem wi_app {a0 : Md} {a1 : Nat} {a2 : Nat} {a3 : Nat} {a4 : Opd} {a5 : Opd} : wpIns P (⟨d, .app a0 a1 a2 a3 a4 a5, g⟩ :: r) s H Kk = Stp P d (.app a0 a1 a2 a3 a4 a5) g r s H Kk := propext ⟨fun h => h, fun h => h⟩
theorem wi_mn {a0 : (List Opd)} : wpIns P (⟨d, .mn a0, g⟩ :: r) s H Kk = Stp P d (.mn a0) g r s H Kk := propext ⟨fun h => h, fun h => h⟩
theorem wi_mx {a0 : (List Opd)} : wpIns P (⟨d, .mx a0, g⟩ :: r) s H Kk = Stp P d (.mx a0) g r s H Kk := propext ⟨fun h => h, fun h => h⟩
theorem wi_mkf {a0 : FuncId} {a1 : (List Opd)} : wpIns P (⟨d, .mkf a0 a1, g⟩ :: r) s H Kk = Stp P d (.mkf a0 a1) g r s H Kk := propext ⟨fun h => h, fun h => h⟩
theorem wi_mks {a0 : Md} {a1 : Nat} {a2 : Nat} {a3 : Nat} {a4 : (List AV)} {a5 : Opd} {a6 : Opd} : wpIns P (⟨d, .mks a0 a1 a2 a3 a4 a5 a6, g⟩ :: r) s H Kk = Stp P d (.mks a0 a1 a2 a3 a4 a5 a6) g r s H Kk := propext ⟨fun h => h, fun h => h⟩
theorem wi_cpy {a0 : Nat} {a1 : Opd} {a2 : Opd} : wpIns P (⟨d, .cpy a0 a1 a2, g⟩ :: r) s H Kk = Stp P d (.cpy a0 a1 a2) g r s H Kk := propext ⟨fun h => h, fun h => h⟩
theorem wi_mkm {a0 : KT} : wpIns P (⟨d, .mkm a0, g⟩ :: r) s H Kk = Stp P d (.mkm a0) g r s H Kk := propext ⟨fun h => h, fun h => h⟩
theorem wi_lk {a0 : KT} {a1 : AV} {a2 : Opd} {a3 : Opd} {a4 : Bool} : wpIns P (⟨d, .lk a0 a1 a2 a3 a4, g⟩ :: r) s H Kk = Stp P d (.lk a0 a1 a2 a3 a4) g r s H Kk := propext ⟨fun h => h, fun h => h⟩
theorem wi_mu {a0 : KT} {a1 : Opd} {a2 : Opd} {a3 : Opd} : wpIns P (⟨d, .mu a0 a1 a2 a3, g⟩ :: r) s H Kk = Stp P d (.mu a0 a1 a2 a3) g r s H Kk := propext ⟨fun h => h, fun h => h⟩
theorem wi_me {a0 : KT} {a1 : AV} {a2 : Opd} {a3 : Opd} : wpIns P (⟨d, .me a0 a1 a2 a3, g⟩ :: r) s H Kk = Stp P d (.me a0 a1 a2 a3) g r s H Kk := propext ⟨fun h => h, fun h => h⟩
theorem wi_mes {a0 : Opd} {a1 : Opd} {a2 : Opd} : wpIns P (⟨d, .mes a0 a1 a2, g⟩ :: r) s H Kk = Stp P d (.mes a0 a1 a2) g r s H Kk := propext ⟨fun h => h, fun h => h⟩
theorem wi_del {a0 : KT} {a1 : Opd} {a2 : Opd} : wpIns P (⟨d, .del a0 a1 a2, g⟩ :: r) s H Kk = Stp P d (.del a0 a1 a2) g r s H Kk := propext ⟨fun h => h, fun h => h⟩
theorem wi_s2b {a0 : Md} {a1 : Nat} {a2 : Opd} : wpIns P (⟨d, .s2b a0 a1 a2, g⟩ :: r) s H Kk = Stp P d (.s2b a0 a1 a2) g r s H Kk := propext ⟨fun h => h, fun h => h⟩
theorem wi_b2s {a0 : Opd} : wpIns P (⟨d, .b2s a0, g⟩ :: r) s H Kk = Stp P d (.b2s a0) g r s H Kk := propext ⟨fun h => h, fun h => h⟩
theorem wi_eqs {a0 : Bool} {a1 : Opd} {a2 : Opd} : wpIns P (⟨d, .eqs a0 a1 a2, g⟩ :: r) s H Kk = Stp P d (.eqs a0 a1 a2) g r s H Kk := propext ⟨fun h => h, fun h => h⟩
theorem wi_eqp {a0 : Bool} {a1 : Opd} {a2 : Opd} : wpIns P (⟨d, .eqp a0 a1 a2, g⟩ :: r) s H Kk = Stp P d (.eqp a0 a1 a2) g r s H Kk := propext ⟨fun h => h, fun h => h⟩
theorem wi_isn {a0 a1 : Bool} {a2 : Opd} : wpIns P (⟨d, .isn a0 a1 a2, g⟩ :: r) s H Kk = Stp P d (.isn a0 a1 a2) g r s H Kk := propext ⟨fun h => h, fun h => h⟩
theorem wi_eqi {a0 : Bool} {a1 : Opd} : wpIns P (⟨d, .eqi a0 a1, g⟩ :: r) s H Kk = Stp P d (.eqi a0 a1) g r s H Kk := propext ⟨fun h => h, fun h => h⟩
theorem wi_eqg {a0 : KT} {a1 : Bool} {a2 : Opd} {a3 : Opd} : wpIns P (⟨d, .eqg a0 a1 a2 a3, g⟩ :: r) s H Kk = Stp P d (.eqg a0 a1 a2 a3) g r s H Kk := propext ⟨fun h => h, fun h => h⟩
theorem wi_ixb {a0 : FuncId} {a1 : Opd} {a2 : Opd} : wpIns P (⟨d, .ixb a0 a1 a2, g⟩ :: r) s H Kk = Stp P d (.ixb a0 a1 a2) g r s H Kk := propext ⟨fun h => h, fun h => h⟩
end
theorem sh_d (x : Dat) : shown (.d x) = true := rfl
theorem ce_d (x : Dat) : cellsAV (.d x) = [(.d x)] := rfl
theorem sh_agg (x : List AV) : shown (.agg x) = true := rfl
theorem ce_agg (x : List AV) : cellsAV (.agg x) = x := rfl
theorem sh_nilp  : shown .nilp = true := rfl
theorem ce_nilp  : cellsAV .nilp = [.nilp] := rfl
theorem sh_mnil  : shown .mnil = true := rfl
theorem ce_mnil  : cellsAV .mnil = [.mnil] := rfl
theorem sh_ptr (b : Nat) (o : Nat) : shown (.ptr b o) = true := rfl
theorem ce_ptr (b : Nat) (o : Nat) : cellsAV (.ptr b o) = [(.ptr b o)] := rfl
theorem sh_ip (x : List Dat) : shown (.ip x) = true := rfl
theorem ce_ip (x : List Dat) : cellsAV (.ip x) = [(.ip x)] := rfl
theorem sh_esl  : shown .esl = true := rfl
theorem ce_esl  : cellsAV .esl = [.esl] := rfl
theorem sh_mp (x : Nat) : shown (.mp x) = true := rfl
theorem ce_mp (x : Nat) : cellsAV (.mp x) = [(.mp x)] := rfl
theorem sh_gsl (b sz : Nat) (es : List (List Dat)) : shown (.gsl b sz es) = true := rfl
theorem ce_gsl (b sz : Nat) (es : List (List Dat)) : cellsAV (.gsl b sz es) = [.gsl b sz es] := rfl
theorem sh_hsl (b o n c z : Nat) : shown (.hsl b o n c z) = true := rfl
theorem ce_hsl (b o n c z : Nat) : cellsAV (.hsl b o n c z) = [.hsl b o n c z] := rfl
theorem sh_fn (f : FuncId) (cs : List AV) : shown (.fn f cs) = true := rfl
theorem ce_fn (f : FuncId) (cs : List AV) : cellsAV (.fn f cs) = [.fn f cs] := rfl
theorem btrue (b : Bool) : (b == true) = b := by cases b <;> rfl
theorem bfalse (b : Bool) : (b == false) = !b := by cases b <;> rfl
theorem imax (a b : Int) : (if b > a then b else a) = max a b := by split <;> omega
theorem imin (a b : Int) : (if b < a then b else a) = min a b := by split <;> omega
section
variable {P : Program}
theorem W.cut {hint : Nat → Option Md} {nb : Nat} {x y : AC} {s : List AV} {H : List ABlk} {Q : APost} (J : List AV → List ABlk → Prop) (hx : W P hint nb x s H (APost.then (fun s' H' => ∃ s0 H0, Wk nb s' H' s0 H0 ∧ J s0 H0) Q)) (hy : ∀ s H, J s H → W P hint nb y s H Q) : W P hint nb (.seq x y) s H Q :=
  .seq (hx.mono fun e s' H' h => by
    cases e with
    | normal => obtain ⟨s0, H0, hk, hj⟩ := h; exact .weak hk (hy s0 H0 hj)
    | _ => exact h)
theorem ACalls.weak {f : FuncId} {args args' : List AV} {H : List ABlk} {R : AV → List ABlk → Prop} (h : ACalls P f args' H R) (hk : WkL args args') : ACalls P f args H R :=
  fun σ w vs h1 h2 => h σ w vs h1 (hk.sound h2)
/-- An operation that leaves the heap as it is, in a region that draws. -/
theorem DChain.pure {ws U : List (List Nat)} {H0 : List ABlk} {j : Nat} {i : Ins} {r : List Ins} {s : List AV} {H : List ABlk} {Kk : List AV → List ABlk → Prop} (v : AV)
    (hs : StepOk P i s (kill (U.getD j []) H) v (kill (U.getD j []) H)) (hw : ws.getD j [] = []) (hr : DChain P ws U H0 (j + 1) r (setO s i.dst v) H Kk) : DChain P ws U H0 j (i :: r) s H Kk :=
  ⟨v, H, hs, fun _ _ => rfl, Nat.le_refl _, fun b hb => (by rw [hw] at hb; cases hb), hr⟩
/-- No operation writes: what is asked is what a region in the text's order asks, with each result told. -/
def PChain (P : Program) : List Ins → List AV → List ABlk → (List AV → List ABlk → Prop) → Prop
  | [], s, H, Kk => Kk s H
  | i :: r, s, H, Kk =>
    match wanted s i.g with
    | some true =>
      match i.k with
      | .call f args => ∃ v, ACalls P f (args.map (get s)) H (fun v' H' => v' = v ∧ H' = H) ∧ PChain P r (setO s i.dst v) H Kk
      | .callv g args => match get s g with
        | .fn f caps => ∃ v, callOk P f = true ∧ ACalls P f (args.map (get s) ++ caps) H (fun v' H' => v' = v ∧ H' = H) ∧ PChain P r (setO s i.dst v) H Kk
        | _ => False
      | k => match evK k s H with
        | some (v, H') => H' = H ∧ PChain P r (setO s i.dst v) H Kk
        | none => False
    | some false => PChain P r (setO s i.dst (.tup [])) H Kk
    | none => False
theorem PChain.sound {n : Nat} {H0 : List ABlk} {Kk : List AV → List ABlk → Prop} : ∀ {l : List Ins} {j : Nat} {s : List AV} {H : List ABlk}, PChain P l s H Kk → DChain P [] (List.replicate n []) H0 j l s H Kk
  | [], j, s, H, h => h
  | i :: r, j, s, H, h => by
    have hk : kill ((List.replicate n ([] : List Nat)).getD j []) H = H := by
      have : (List.replicate n ([] : List Nat)).getD j [] = [] := by
        rw [List.getD_eq_getElem?_getD, List.getElem?_replicate]; split <;> rfl
      rw [this]; rfl
    have fin : ∀ v, StepOk P i s H v H → PChain P r (setO s i.dst v) H Kk → DChain P [] (List.replicate n []) H0 j (i :: r) s H Kk := fun v h1 h2 =>
      .pure v (by rw [hk]; exact h1) rfl (PChain.sound h2)
    simp only [PChain] at h
    split at h
    · rename_i hw
      split at h
      · rename_i f args e
        obtain ⟨v, h1, h2⟩ := h
        exact fin v (by simp only [StepOk, hw, e]; exact h1) h2
      · rename_i g args e
        split at h
        · rename_i f caps e2
          obtain ⟨v, h0, h1, h2⟩ := h
          exact fin v (by simp only [StepOk, hw, e, e2]; exact ⟨h0, h1⟩) h2
        · exact h.elim
      · rename_i x1 x2
        split at h
        · rename_i v H' e
          obtain ⟨rfl, h2⟩ := h
          refine fin v ?_ h2
          simp only [StepOk, hw]
          exact e
        · exact h.elim
    · rename_i hw
      exact fin (.tup []) (by simp [StepOk, hw]) h
    · exact h.elim
end
section
variable {P : Program} {d : Option Nat} {g : Option (Nat × Bool)} {r : List Ins} {s : List AV} {H : List ABlk} {Kk : List AV → List ABlk → Prop}
def PStp (P : Program) (d : Option Nat) (k : K) (g : Option (Nat × Bool)) (r : List Ins) (s : List AV) (H : List ABlk) (Kk : List AV → List ABlk → Prop) : Prop :=
  match wanted s g with
  | some true => (match evK k s H with
    | some (v, H') => H' = H ∧ PChain P r (setO s d v) H Kk
    | none => False)
  | some false => PChain P r (setO s d (.tup [])) H Kk
  | none => False
def PCont (P : Program) (f : FuncId) (args : List AV) (r : List Ins) (s : List AV) (d : Option Nat) (H : List ABlk) (Kk : List AV → List ABlk → Prop) : Prop :=
  ∃ v, ACalls P f args H (fun v' H' => v' = v ∧ H' = H) ∧ PChain P r (setO s d v) H Kk
@[congr] theorem DChain.cong {ws U : List (List Nat)} {H0 : List ABlk} {j : Nat} {l : List Ins} {s' : List AV} {H' : List ABlk} (h1 : s = s') (h2 : H = H') : DChain P ws U H0 j l s H Kk = DChain P ws U H0 j l s' H' Kk := by rw [h1, h2]
theorem PCont.mk {f : FuncId} {args : List AV} {v : AV} (h : ACalls P f args H fun v' H' => v' = v ∧ H' = H) (hk : PChain P r (setO s d v) H Kk) : PCont P f args r s d H Kk := ⟨v, h, hk⟩
theorem PChain_nil : PChain P [] s H Kk = Kk s H := propext ⟨fun h => h, fun h => h⟩
theorem PChain_call {f : FuncId} {args : List Opd} : PChain P (⟨d, .call f args, none⟩ :: r) s H Kk = PCont P f (args.map (get s)) r s d H Kk := propext ⟨fun h => h, fun h => h⟩
theorem PChain_callg {f : FuncId} {args : List Opd} {g : Nat × Bool} : PChain P (⟨d, .call f args, some g⟩ :: r) s H Kk = match wanted s (some g) with
    | some true => PCont P f (args.map (get s)) r s d H Kk
    | some false => PChain P r (setO s d (.tup [])) H Kk
    | none => False := propext ⟨fun h => h, fun h => h⟩
theorem pc_mv {a0 : Opd} : PChain P (⟨d, .mv a0, g⟩ :: r) s H Kk = PStp P d (.mv a0) g r s H Kk := propext ⟨fun h => h, fun h => h⟩
theorem pc_mvg {a0 : Nat} {a1 : Nat} {a2 : Opd} : PChain P (⟨d, .mvg a0 a1 a2, g⟩ :: r) s H Kk = PStp P d (.mvg a0 a1 a2) g r s H Kk := propext ⟨fun h => h, fun h => h⟩
theorem pc_pick {a0 : Opd} {a1 : Opd} {a2 : Opd} : PChain P (⟨d, .pick a0 a1 a2, g⟩ :: r) s H Kk = PStp P d (.pick a0 a1 a2) g r s H Kk := propext ⟨fun h => h, fun h => h⟩
@[go_sem] theorem pc_alb {a0 : TypeId} : PChain P (⟨d, .alb a0, g⟩ :: r) s H Kk = PStp P d (.alb a0) g r s H Kk := propext ⟨fun h => h, fun h => h⟩
theorem pc_al {a0 : (List AV)} : PChain P (⟨d, .al a0, g⟩ :: r) s H Kk = PStp P d (.al a0) g r s H Kk := propext ⟨fun h => h, fun h => h⟩
theorem pc_bx {a0 : Opd} : PChain P (⟨d, .bx a0, g⟩ :: r) s H Kk = PStp P d (.bx a0) g r s H Kk := propext ⟨fun h => h, fun h => h⟩
theorem pc_bd {a0 : (List AV)} {a1 : (List (Nat × Nat × Opd))} : PChain P (⟨d, .bd a0 a1, g⟩ :: r) s H Kk = PStp P d (.bd a0 a1) g r s H Kk := propext ⟨fun h => h, fun h => h⟩
theorem pc_bs {a0 : Md} {a1 : Nat} {a2 : Nat} {a3 : (List Opd)} : PChain P (⟨d, .bs a0 a1 a2 a3, g⟩ :: r) s H Kk = PStp P d (.bs a0 a1 a2 a3) g r s H Kk := propext ⟨fun h => h, fun h => h⟩
theorem pc_ld {a0 : Opd} {a1 : Nat} {a2 : Bool} : PChain P (⟨d, .ld a0 a1 a2, g⟩ :: r) s H Kk = PStp P d (.ld a0 a1 a2) g r s H Kk := propext ⟨fun h => h, fun h => h⟩
theorem pc_st {a0 : Opd} {a1 : Opd} {a2 : Nat} : PChain P (⟨d, .st a0 a1 a2, g⟩ :: r) s H Kk = PStp P d (.st a0 a1 a2) g r s H Kk := propext ⟨fun h => h, fun h => h⟩
theorem pc_nc {a0 : Opd} : PChain P (⟨d, .nc a0, g⟩ :: r) s H Kk = PStp P d (.nc a0) g r s H Kk := propext ⟨fun h => h, fun h => h⟩
theorem pc_bin {a0 : BinOp} {a1 : Opd} {a2 : Opd} : PChain P (⟨d, .bin a0 a1 a2, g⟩ :: r) s H Kk = PStp P d (.bin a0 a1 a2) g r s H Kk := propext ⟨fun h => h, fun h => h⟩
theorem pc_un {a0 : UnOp} {a1 : Opd} : PChain P (⟨d, .un a0 a1, g⟩ :: r) s H Kk = PStp P d (.un a0 a1) g r s H Kk := propext ⟨fun h => h, fun h => h⟩
theorem pc_cvi {a0 : IntKind} {a1 : Opd} : PChain P (⟨d, .cvi a0 a1, g⟩ :: r) s H Kk = PStp P d (.cvi a0 a1) g r s H Kk := propext ⟨fun h => h, fun h => h⟩
theorem pc_fa {a0 : Opd} {a1 : Nat} : PChain P (⟨d, .fa a0 a1, g⟩ :: r) s H Kk = PStp P d (.fa a0 a1) g r s H Kk := propext ⟨fun h => h, fun h => h⟩
theorem pc_fld {a0 : Opd} {a1 : Nat} {a2 : Nat} {a3 : Bool} : PChain P (⟨d, .fld a0 a1 a2 a3, g⟩ :: r) s H Kk = PStp P d (.fld a0 a1 a2 a3) g r s H Kk := propext ⟨fun h => h, fun h => h⟩
theorem pc_ia {a0 : Opd} {a1 : Opd} {a2 : Nat} : PChain P (⟨d, .ia a0 a1 a2, g⟩ :: r) s H Kk = PStp P d (.ia a0 a1 a2) g r s H Kk := propext ⟨fun h => h, fun h => h⟩
theorem pc_iar {a0 : Opd} {a1 : Opd} {a2 : Nat} {a3 : Nat} : PChain P (⟨d, .iar a0 a1 a2 a3, g⟩ :: r) s H Kk = PStp P d (.iar a0 a1 a2 a3) g r s H Kk := propext ⟨fun h => h, fun h => h⟩
theorem pc_ix {a0 : Opd} {a1 : Opd} : PChain P (⟨d, .ix a0 a1, g⟩ :: r) s H Kk = PStp P d (.ix a0 a1) g r s H Kk := propext ⟨fun h => h, fun h => h⟩
@[go_sem] theorem pc_ixv {a0 : Opd} {a1 : Opd} {a2 : Nat} : PChain P (⟨d, .ixv a0 a1 a2, g⟩ :: r) s H Kk = PStp P d (.ixv a0 a1 a2) g r s H Kk := propext ⟨fun h => h, fun h => h⟩
theorem pc_sli {a0 : Bool} {a1 : Opd} {a2 : (Option Opd)} {a3 : (Option Opd)} {a4 : Nat} : PChain P (⟨d, .sli a0 a1 a2 a3 a4, g⟩ :: r) s H Kk = PStp P d (.sli a0 a1 a2 a3 a4) g r s H Kk := propext ⟨fun h => h, fun h => h⟩
theorem pc_sla {a0 : Opd} {a1 : (Option Opd)} {a2 : (Option Opd)} {a3 : Nat} {a4 : Nat} : PChain P (⟨d, .sla a0 a1 a2 a3 a4, g⟩ :: r) s H Kk = PStp P d (.sla a0 a1 a2 a3 a4) g r s H Kk := propext ⟨fun h => h, fun h => h⟩
theorem pc_slz {a0 : Opd} : PChain P (⟨d, .slz a0, g⟩ :: r) s H Kk = PStp P d (.slz a0) g r s H Kk := propext ⟨fun h => h, fun h => h⟩
theorem pc_ext {a0 : Opd} {a1 : Nat} : PChain P (⟨d, .ext a0 a1, g⟩ :: r) s H Kk = PStp P d (.ext a0 a1) g r s H Kk := propext ⟨fun h => h, fun h => h⟩
theorem pc_len {a0 : Bool} {a1 : Opd} : PChain P (⟨d, .len a0 a1, g⟩ :: r) s H Kk = PStp P d (.len a0 a1) g r s H Kk := propext ⟨fun h => h, fun h => h⟩
theorem pc_app {a0 : Md} {a1 : Nat} {a2 : Nat} {a3 : Nat} {a4 : Opd} {a5 : Opd} : PChain P (⟨d, .app a0 a1 a2 a3 a4 a5, g⟩ :: r) s H Kk = PStp P d (.app a0 a1 a2 a3 a4 a5) g r s H Kk := propext ⟨fun h => h, fun h => h⟩
theorem pc_mn {a0 : (List Opd)} : PChain P (⟨d, .mn a0, g⟩ :: r) s H Kk = PStp P d (.mn a0) g r s H Kk := propext ⟨fun h => h, fun h => h⟩
theorem pc_mx {a0 : (List Opd)} : PChain P (⟨d, .mx a0, g⟩ :: r) s H Kk = PStp P d (.mx a0) g r s H Kk := propext ⟨fun h => h, fun h => h⟩
theorem pc_mkf {a0 : FuncId} {a1 : (List Opd)} : PChain P (⟨d, .mkf a0 a1, g⟩ :: r) s H Kk = PStp P d (.mkf a0 a1) g r s H Kk := propext ⟨fun h => h, fun h => h⟩
theorem pc_mks {a0 : Md} {a1 : Nat} {a2 : Nat} {a3 : Nat} {a4 : (List AV)} {a5 : Opd} {a6 : Opd} : PChain P (⟨d, .mks a0 a1 a2 a3 a4 a5 a6, g⟩ :: r) s H Kk = PStp P d (.mks a0 a1 a2 a3 a4 a5 a6) g r s H Kk := propext ⟨fun h => h, fun h => h⟩
theorem pc_cpy {a0 : Nat} {a1 : Opd} {a2 : Opd} : PChain P (⟨d, .cpy a0 a1 a2, g⟩ :: r) s H Kk = PStp P d (.cpy a0 a1 a2) g r s H Kk := propext ⟨fun h => h, fun h => h⟩
theorem pc_mkm {a0 : KT} : PChain P (⟨d, .mkm a0, g⟩ :: r) s H Kk = PStp P d (.mkm a0) g r s H Kk := propext ⟨fun h => h, fun h => h⟩
theorem pc_lk {a0 : KT} {a1 : AV} {a2 : Opd} {a3 : Opd} {a4 : Bool} : PChain P (⟨d, .lk a0 a1 a2 a3 a4, g⟩ :: r) s H Kk = PStp P d (.lk a0 a1 a2 a3 a4) g r s H Kk := propext ⟨fun h => h, fun h => h⟩
theorem pc_mu {a0 : KT} {a1 : Opd} {a2 : Opd} {a3 : Opd} : PChain P (⟨d, .mu a0 a1 a2 a3, g⟩ :: r) s H Kk = PStp P d (.mu a0 a1 a2 a3) g r s H Kk := propext ⟨fun h => h, fun h => h⟩
theorem pc_me {a0 : KT} {a1 : AV} {a2 : Opd} {a3 : Opd} : PChain P (⟨d, .me a0 a1 a2 a3, g⟩ :: r) s H Kk = PStp P d (.me a0 a1 a2 a3) g r s H Kk := propext ⟨fun h => h, fun h => h⟩
theorem pc_mes {a0 : Opd} {a1 : Opd} {a2 : Opd} : PChain P (⟨d, .mes a0 a1 a2, g⟩ :: r) s H Kk = PStp P d (.mes a0 a1 a2) g r s H Kk := propext ⟨fun h => h, fun h => h⟩
theorem pc_del {a0 : KT} {a1 : Opd} {a2 : Opd} : PChain P (⟨d, .del a0 a1 a2, g⟩ :: r) s H Kk = PStp P d (.del a0 a1 a2) g r s H Kk := propext ⟨fun h => h, fun h => h⟩
theorem pc_s2b {a0 : Md} {a1 : Nat} {a2 : Opd} : PChain P (⟨d, .s2b a0 a1 a2, g⟩ :: r) s H Kk = PStp P d (.s2b a0 a1 a2) g r s H Kk := propext ⟨fun h => h, fun h => h⟩
theorem pc_b2s {a0 : Opd} : PChain P (⟨d, .b2s a0, g⟩ :: r) s H Kk = PStp P d (.b2s a0) g r s H Kk := propext ⟨fun h => h, fun h => h⟩
theorem pc_eqs {a0 : Bool} {a1 : Opd} {a2 : Opd} : PChain P (⟨d, .eqs a0 a1 a2, g⟩ :: r) s H Kk = PStp P d (.eqs a0 a1 a2) g r s H Kk := propext ⟨fun h => h, fun h => h⟩
theorem pc_eqp {a0 : Bool} {a1 : Opd} {a2 : Opd} : PChain P (⟨d, .eqp a0 a1 a2, g⟩ :: r) s H Kk = PStp P d (.eqp a0 a1 a2) g r s H Kk := propext ⟨fun h => h, fun h => h⟩
theorem pc_isn {a0 a1 : Bool} {a2 : Opd} : PChain P (⟨d, .isn a0 a1 a2, g⟩ :: r) s H Kk = PStp P d (.isn a0 a1 a2) g r s H Kk := propext ⟨fun h => h, fun h => h⟩
theorem pc_eqi {a0 : Bool} {a1 : Opd} : PChain P (⟨d, .eqi a0 a1, g⟩ :: r) s H Kk = PStp P d (.eqi a0 a1) g r s H Kk := propext ⟨fun h => h, fun h => h⟩
theorem pc_eqg {a0 : KT} {a1 : Bool} {a2 : Opd} {a3 : Opd} : PChain P (⟨d, .eqg a0 a1 a2 a3, g⟩ :: r) s H Kk = PStp P d (.eqg a0 a1 a2 a3) g r s H Kk := propext ⟨fun h => h, fun h => h⟩
theorem pc_ixb {a0 : FuncId} {a1 : Opd} {a2 : Opd} : PChain P (⟨d, .ixb a0 a1 a2, g⟩ :: r) s H Kk = PStp P d (.ixb a0 a1 a2) g r s H Kk := propext ⟨fun h => h, fun h => h⟩
theorem PChain.app {ws U : List (List Nat)} {H0 : List ABlk} : ∀ {l1 l2 : List Ins} {j : Nat} {s : List AV} {H : List ABlk}, PChain P l1 s H (fun s' H' => DChain P ws U H0 (j + l1.length) l2 s' H' Kk) →
    (∀ k, k < l1.length → ws.getD (j + k) [] = []) → (∀ k, k < l1.length → U.getD (j + k) [] = []) → DChain P ws U H0 j (l1 ++ l2) s H Kk
  | [], l2, j, s, H, h, _, _ => h
  | i :: l1, l2, j, s, H, h, hw, hU => by
    have hU0 : U.getD j [] = [] := hU 0 (by simp)
    have hw0 : ws.getD j [] = [] := hw 0 (by simp)
    have fin : ∀ v, StepOk P i s H v H → PChain P l1 (setO s i.dst v) H (fun s' H' => DChain P ws U H0 (j + (i :: l1).length) l2 s' H' Kk) → DChain P ws U H0 j (i :: l1 ++ l2) s H Kk := fun v h1 h2 =>
      .pure v (by rw [hU0]; exact h1) hw0 (PChain.app (by rw [show j + 1 + l1.length = j + (i :: l1).length by simp; omega]; exact h2) (fun k hk => by rw [show j + 1 + k = j + (k + 1) by omega]; exact hw (k + 1) (by simp; omega)) (fun k hk => by rw [show j + 1 + k = j + (k + 1) by omega]; exact hU (k + 1) (by simp; omega)))
    simp only [PChain] at h
    split at h
    · rename_i hw
      split at h
      · rename_i f args e
        obtain ⟨v, h1, h2⟩ := h
        exact fin v (by simp only [StepOk, hw, e]; exact h1) h2
      · rename_i g args e
        split at h
        · rename_i f caps e2
          obtain ⟨v, h0, h1, h2⟩ := h
          exact fin v (by simp only [StepOk, hw, e, e2]; exact ⟨h0, h1⟩) h2
        · exact h.elim
      · rename_i x1 x2
        split at h
        · rename_i v H' e
          obtain ⟨rfl, h2⟩ := h
          refine fin v ?_ h2
          simp only [StepOk, hw]
          exact e
        · exact h.elim
    · rename_i hw
      exact fin (.tup []) (by simp [StepOk, hw]) h
    · exact h.elim
theorem getD_rep {n k : Nat} (h : k < n) (t : List (List Nat)) : (List.replicate n [] ++ t).getD (0 + k) [] = [] := by
  rw [Nat.zero_add, List.getD_eq_getElem?_getD, List.getElem?_append_left (by simpa using h), List.getElem?_replicate, if_pos h]; rfl
theorem PChain.app0 {w2 u2 : List (List Nat)} {H0 : List ABlk} {l1 l2 : List Ins} (n : Nat) (hn : l1.length = n) (h : PChain P l1 s H (fun s' H' => DChain P (List.replicate n [] ++ w2) (List.replicate n [] ++ u2) H0 n l2 s' H' Kk)) :
    DChain P (List.replicate n [] ++ w2) (List.replicate n [] ++ u2) H0 0 (l1 ++ l2) s H Kk := by
  subst hn
  exact PChain.app (by rw [Nat.zero_add]; exact h) (fun k hk => getD_rep hk _) (fun k hk => getD_rep hk _)
/-- A store, in a region that draws, unhindered. -/
theorem DChain.wr {ws U : List (List Nat)} {H0 : List ABlk} {j : Nat} {i : Ins} (b : Nat) (v : AV) (H' : List ABlk) (hU : U.getD j [] = []) (hw : ws.getD j [] = [b]) (hd : H0[b]? ≠ some .dead) (hs : StepOk P i s H v H')
    (hf : ∀ c, c ≠ b → H'[c]? = H[c]?) (hl : H.length ≤ H'.length) (hr : DChain P ws U H0 (j + 1) r (setO s i.dst v) H' Kk) : DChain P ws U H0 j (i :: r) s H Kk :=
  ⟨v, H', by rw [hU]; exact hs, fun c hc => hf c (by rw [hw] at hc; simpa using hc), hl, fun c hc => by
    rw [hw] at hc
    have : c = b := by simpa using hc
    subst this
    exact ⟨by rw [hU]; simp, hd⟩, hr⟩
end
theorem W.pchain {P : Program} {hint : Nat → Option Md} {nb : Nat} {pr : List (List Nat)} {l : List Ins} {s : List AV} {H : List ABlk} {Q : APost} (hm : P.follows .mixedOrders = true) (hok : drawOk pr l = true) (hc : PChain P l s H (Q .normal)) : W P hint nb (.dreg pr l) s H Q := by
  refine W.dreg [] (List.replicate l.length []) hm hok ?_ hc.sound
  have : ∀ j, killsOf pr [] l.length j = [] := fun j => by
    simp only [killsOf, List.flatMap_eq_nil_iff]
    intro i _
    split <;> simp
  rw [List.eq_replicate_iff]
  refine ⟨by simp, fun b hb => ?_⟩
  obtain ⟨j, _, rfl⟩ := List.mem_map.1 hb
  exact this j
end Go.Proofs.YtmgmoamcbnkbfaaGreatDoor

/-
  One's own library, part 10: out of the small language back into the model.
-/
namespace Go.Proofs.YtmgmoamcbnkbfaaGreatDoor
open Go.ChangeShapes Go.WideShapes Go.ChangeAt Go.RowKit

section
variable {H : Type} {enc : TypeId × Value → H} {P : Program}
/-- The row's last step where what was there is known to stand as it stood (turned from the kit's page on it). -/
theorem post_of_below {f : Func} {s : ChangeSpec} {apart fresh handsOn again : Bool} {W W' : World} {args : Array Value} {v : Value} {ds gs : List (DataW H)} {before pa pv : List MemPlace}
    (hW : DataW.Whole enc P f.params.toList s.vars apart W args.toList ds gs before)
    (hres : ∀ (b : Nat) (sp : Nat → Bool) (hd : Bool), DataW.TrodAll enc P W' b sp hd f.resultTypes.toList (v.resultList f.resultTypes.size) (s.fn H (ds ++ gs)).results [])
    (hargs : ∀ sp : Nat → Bool, (∀ p ∈ before, sp p.block = true) → DataW.TrodAll enc P W' 0 sp true f.params.toList args.toList (s.fn H (ds ++ gs)).args pa)
    (hvars : ∀ sp : Nat → Bool, (∀ p ∈ before, sp p.block = true) → DataW.TrodVars enc P W' sp s.vars (s.fn H (ds ++ gs)).vars pv)
    (hps : before = pa ++ pv) (hb : Below W.heap.size W W')
    (hok : ∀ (j : Nat) (t : TypeId) (r : Value), f.resultTypes[j]? = some t → (v.resultList f.resultTypes.size)[j]? = some r → Value.okWide P W' .any 0 t r) :
    s.post enc P f apart fresh handsOn again W args v W' := by
  have hlt : ∀ p ∈ before, p.block < W.heap.size := fun p hp => hW.lt p hp
  have hold : ∀ p ∈ before, (fun b => decide (b < W.heap.size)) p.block = true := fun p hp => by simpa using hlt p hp
  refine ⟨ds, gs, before, [], pa, pv, hW, hres _ _ _, hargs _ hold, hvars _ hold, World.keptBut_mono (fun p hp => ⟨hp, ?_⟩) (hb.frame (· ∈ before)), fun _ => ?_⟩
  · rw [hps, List.mem_append] at hp
    exact Or.inr hp
  · obtain ⟨_, _, _, _, _, hz, hn⟩ := hW
    refine ⟨hok, _, _, ([] ++ pa) ++ pv, ⟨[] ++ pa, pv, trodAll_append (hargs _ (fun _ _ => rfl)) (hres _ _ _), hvars _ (fun _ _ => rfl), rfl, ?_, ?_⟩, ?_⟩
    · intro b off hp
      have hin : MemPlace.cell b off ∈ before := by rw [hps]; simpa using hp
      rw [hb.frozen (hlt _ hin)]
      exact hz b off hin
    · intro ha
      have := hn ha
      rw [hps] at this
      simpa using this
    · intro p hp _
      rw [hps]
      simpa using hp
end

/-- A contract that begins with no block at hand. -/
theorem ACalls.top {P : Program} {f : FuncId} {args : List AV} {vs : List Value} {w : World} {M : Mem} {R : AV → List ABlk → Prop} (h : ACalls P f args [] R) (hM : MemOk M w)
    (hv : VRs ⟨M, fun _ _ => none⟩ args vs) : Calls P f vs.toArray w fun e w' => ∃ u σ' H' v, e = .returned u ∧ Below w.heap.size w w' ∧ VR σ' v u ∧ R v H' := by
  refine (h ⟨M, fun _ _ => none⟩ w vs ⟨hM, fun b k hb => by simp at hb, fun _ _ _ => rfl, fun b b' k k' u u' g hb => by simp at hb⟩ hv).mono fun e w' he => ?_
  obtain ⟨σ', H', v, u, e1, x1, x2, x3, x4⟩ := he
  refine ⟨u, σ', H', v, e1, ⟨x1.os, x1.tape, x1.output, x1.size, fun k hk => x1.frame k hk ?_⟩, x3, x4⟩
  rintro ⟨b, blk, v', hb, _⟩
  simp at hb
/-- A law that tells true. -/
theorem ACalls.law {P : Program} {f : FuncId} {args : List AV} {vs : List Value} {w : World} {M : Mem} (h : ACalls P f args [] fun v H' => v = .d (.v (.bool true)) ∧ H' = []) (hM : MemOk M w)
    (hv : VRs ⟨M, fun _ _ => none⟩ args vs) : Calls P f vs.toArray w fun e w' => e = .returned (.bool true) ∧ Below w.heap.size w w' := by
  refine (h.top hM hv).mono fun e w' he => ?_
  obtain ⟨u, σ', H', v, rfl, x1, x2, rfl, _⟩ := he
  cases x2 with | d hd => cases hd with | v hp => exact ⟨rfl, x1⟩
end Go.Proofs.YtmgmoamcbnkbfaaGreatDoor
