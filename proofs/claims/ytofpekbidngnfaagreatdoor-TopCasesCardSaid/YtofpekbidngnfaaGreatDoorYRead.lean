/-
  One's own library, part 9: small laws for the walks.
-/
import Derived.Test.YtofpekbidngnfaaGreatDoorYDraw2
import Derived.ProofKit
import Derived.Below
import Derived.ChangeSame
import Derived.Deep.Slices
import Derived.SizedLaws
set_option linter.unusedSectionVars false
set_option linter.unusedSimpArgs false
set_option linter.unusedVariables false
namespace Go.Proofs.YtofpekbidngnfaaGreatDoor
open Go.RowKit
theorem hg0 (H l:List ABlk):(H ++ l)[H.length]? = l[0]?:=by rw [List.getElem?_append_right (Nat.le_refl _),Nat.sub_self]
theorem hgk (H l:List ABlk) (k:Nat):(H ++ l)[H.length + k]? = l[k]?:=by rw [List.getElem?_append_right (Nat.le_add_right _ _),Nat.add_sub_cancel_left]
theorem hs0 (H l:List ABlk) (x:ABlk):(H ++ l).set H.length x = H ++ l.set 0 x:=by rw [List.set_append_right _ _ (Nat.le_refl _),Nat.sub_self]
theorem hsk (H l:List ABlk) (k:Nat) (x:ABlk):(H ++ l).set (H.length + k) x = H ++ l.set k x:=by rw [List.set_append_right _ _ (Nat.le_add_right _ _),Nat.add_sub_cancel_left]
theorem hold {H:List ABlk} {b:Nat} {k:ABlk} (h:H[b]? = some k) (l:List ABlk):(H ++ l)[b]? = some k:=by
 rw [List.getElem?_append_left (List.getElem?_eq_some_iff.1 h).1]; exact h
theorem WkL.any (xs:List AV):∀ {n:Nat},xs.length = n->WkL xs (List.replicate n .any):=by
 intro n h
 subst h
 induction xs with
 | nil=>exact .nil
 | cons x xs ih=>exact .cons (.any x) ih
@[congr] theorem ACalls.cong {P:Program} {f:FuncId} {args args':List AV} {H H':List ABlk} {R:AV->List ABlk->Prop} (h1:args = args') (h2:H = H'):ACalls P f args H R = ACalls P f args' H' R:=by rw [h1,h2]
@[congr] theorem W.cong {P:Program} {hint:Nat->Option Md} {nb:Nat} {ac:AC} {s s':List AV} {H H':List ABlk} {Q:APost} (h1:s = s') (h2:H = H'):W P hint nb ac s H Q = W P hint nb ac s' H' Q:=by rw [h1,h2]
def Cont (P:Program) (r:List Ins) (s:List AV) (d:Option Nat) (Kk:List AV->List ABlk->Prop):AV->List ABlk->Prop:=λv H=>wpIns P r (setO s d v) H Kk
theorem Cont.mk {P:Program} {r:List Ins} {s:List AV} {d:Option Nat} {Kk:List AV->List ABlk->Prop} {f:FuncId} {args:List AV} {H H':List ABlk} {v:AV} (h:ACalls P f args H λv' H''=>v' = v/\H'' = H') (hk:wpIns P r (setO s d v) H' Kk):ACalls P f args H (Cont P r s d Kk):=
 h.mono λv' H'' ⟨e1,e2⟩=>by rw [e1,e2]; exact hk
theorem Cont.rel {P:Program} {r:List Ins} {s:List AV} {d:Option Nat} {Kk:List AV->List ABlk->Prop} {f:FuncId} {args:List AV} {H:List ABlk} {R:AV->List ABlk->Prop} (h:ACalls P f args H R) (hk:∀ v H',R v H'->wpIns P r (setO s d v) H' Kk):ACalls P f args H (Cont P r s d Kk):=
 h.mono hk
theorem wpIns_call {P:Program} {d:Option Nat} {f:FuncId} {args:List Opd} {r:List Ins} {s:List AV} {H:List ABlk} {Kk:List AV->List ABlk->Prop} :
 wpIns P (⟨d,.call f args,none⟩ :: r) s H Kk = ACalls P f (args.map (get s)) H (Cont P r s d Kk):=propext ⟨λh=>h,λh=>h⟩
theorem wpIns_callg {P:Program} {d:Option Nat} {f:FuncId} {args:List Opd} {g:Nat × Bool} {r:List Ins} {s:List AV} {H:List ABlk} {Kk:List AV->List ABlk->Prop} :
 wpIns P (⟨d,.call f args,some g⟩ :: r) s H Kk = match wanted s (some g) with
  | some true=>ACalls P f (args.map (get s)) H (Cont P r s d Kk)
  | some false=>wpIns P r (setO s d (.tup [])) H Kk
  | none=>False:=propext ⟨λh=>h,λh=>h⟩
theorem wpIns_callv {P:Program} {d:Option Nat} {f:Opd} {args:List Opd} {g:Option (Nat × Bool)} {r:List Ins} {s:List AV} {H:List ABlk} {Kk:List AV->List ABlk->Prop} :
 wpIns P (⟨d,.callv f args,g⟩ :: r) s H Kk = match wanted s g with
  | some true=>(match get s f with
   | .fn f caps=>callOk P f = true/\ACalls P f (args.map (get s) ++ caps) H (Cont P r s d Kk)
   | .fnb f first=>callOk P f = true/\ACalls P f (first ++ args.map (get s)) H (Cont P r s d Kk)
   | _=>False)
  | some false=>wpIns P r (setO s d (.tup [])) H Kk
  | none=>False:=propext ⟨λh=>h,λh=>h⟩
theorem wpIns_nil {P:Program} {s:List AV} {H:List ABlk} {Kk:List AV->List ABlk->Prop}:wpIns P [] s H Kk = Kk s H:=propext ⟨λh=>h,λh=>h⟩
section
variable {P:Program} {d:Option Nat} {g:Option (Nat × Bool)} {r:List Ins} {s:List AV} {H:List ABlk} {Kk:List AV->List ABlk->Prop}
def Stp (P:Program) (d:Option Nat) (k:K) (g:Option (Nat × Bool)) (r:List Ins) (s:List AV) (H:List ABlk) (Kk:List AV->List ABlk->Prop):Prop:=
 match wanted s g with
 | some true=>(match evK k s H with
  | some (v,H')=>wpIns P r (setO s d v) H' Kk
  | none=>False)
 | some false=>wpIns P r (setO s d (.tup [])) H Kk
 | none=>False
theorem wi_mv {a0:Opd}:wpIns P (⟨d,.mv a0,g⟩ :: r) s H Kk = Stp P d (.mv a0) g r s H Kk:=propext ⟨λh=>h,λh=>h⟩
theorem wi_mvg {a0:Nat} {a1:Nat} {a2:Opd}:wpIns P (⟨d,.mvg a0 a1 a2,g⟩ :: r) s H Kk = Stp P d (.mvg a0 a1 a2) g r s H Kk:=propext ⟨λh=>h,λh=>h⟩
theorem wi_pick {a0:Opd} {a1:Opd} {a2:Opd}:wpIns P (⟨d,.pick a0 a1 a2,g⟩ :: r) s H Kk = Stp P d (.pick a0 a1 a2) g r s H Kk:=propext ⟨λh=>h,λh=>h⟩
@[go_sem] theorem wi_alb {a0:TypeId}:wpIns P (⟨d,.alb a0,g⟩ :: r) s H Kk = Stp P d (.alb a0) g r s H Kk:=propext ⟨λh=>h,λh=>h⟩
theorem wi_al {a0:(List AV)}:wpIns P (⟨d,.al a0,g⟩ :: r) s H Kk = Stp P d (.al a0) g r s H Kk:=propext ⟨λh=>h,λh=>h⟩
theorem wi_bx {a0:Opd}:wpIns P (⟨d,.bx a0,g⟩ :: r) s H Kk = Stp P d (.bx a0) g r s H Kk:=propext ⟨λh=>h,λh=>h⟩
theorem wi_bd {a0:(List AV)} {a1:(List (Nat × Nat × Opd))}:wpIns P (⟨d,.bd a0 a1,g⟩ :: r) s H Kk = Stp P d (.bd a0 a1) g r s H Kk:=propext ⟨λh=>h,λh=>h⟩
theorem wi_bs {a0:Md} {a1:Nat} {a2:Nat} {a3:(List Opd)}:wpIns P (⟨d,.bs a0 a1 a2 a3,g⟩ :: r) s H Kk = Stp P d (.bs a0 a1 a2 a3) g r s H Kk:=propext ⟨λh=>h,λh=>h⟩
theorem wi_ld {a0:Opd} {a1:Nat} {a2:Bool}:wpIns P (⟨d,.ld a0 a1 a2,g⟩ :: r) s H Kk = Stp P d (.ld a0 a1 a2) g r s H Kk:=propext ⟨λh=>h,λh=>h⟩
theorem wi_st {a0:Opd} {a1:Opd} {a2:Nat}:wpIns P (⟨d,.st a0 a1 a2,g⟩ :: r) s H Kk = Stp P d (.st a0 a1 a2) g r s H Kk:=propext ⟨λh=>h,λh=>h⟩
theorem wi_nc {a0:Opd}:wpIns P (⟨d,.nc a0,g⟩ :: r) s H Kk = Stp P d (.nc a0) g r s H Kk:=propext ⟨λh=>h,λh=>h⟩
theorem wi_bin {a0:BinOp} {a1:Opd} {a2:Opd}:wpIns P (⟨d,.bin a0 a1 a2,g⟩ :: r) s H Kk = Stp P d (.bin a0 a1 a2) g r s H Kk:=propext ⟨λh=>h,λh=>h⟩
theorem wi_un {a0:UnOp} {a1:Opd}:wpIns P (⟨d,.un a0 a1,g⟩ :: r) s H Kk = Stp P d (.un a0 a1) g r s H Kk:=propext ⟨λh=>h,λh=>h⟩
theorem wi_cvi {a0:IntKind} {a1:Opd}:wpIns P (⟨d,.cvi a0 a1,g⟩ :: r) s H Kk = Stp P d (.cvi a0 a1) g r s H Kk:=propext ⟨λh=>h,λh=>h⟩
theorem wi_fa {a0:Opd} {a1:Nat}:wpIns P (⟨d,.fa a0 a1,g⟩ :: r) s H Kk = Stp P d (.fa a0 a1) g r s H Kk:=propext ⟨λh=>h,λh=>h⟩
theorem wi_fld {a0:Opd} {a1:Nat} {a2:Nat} {a3:Bool}:wpIns P (⟨d,.fld a0 a1 a2 a3,g⟩ :: r) s H Kk = Stp P d (.fld a0 a1 a2 a3) g r s H Kk:=propext ⟨λh=>h,λh=>h⟩
theorem wi_ia {a0:Opd} {a1:Opd} {a2:Nat}:wpIns P (⟨d,.ia a0 a1 a2,g⟩ :: r) s H Kk = Stp P d (.ia a0 a1 a2) g r s H Kk:=propext ⟨λh=>h,λh=>h⟩
theorem wi_iar {a0:Opd} {a1:Opd} {a2:Nat} {a3:Nat}:wpIns P (⟨d,.iar a0 a1 a2 a3,g⟩ :: r) s H Kk = Stp P d (.iar a0 a1 a2 a3) g r s H Kk:=propext ⟨λh=>h,λh=>h⟩
theorem wi_ix {a0:Opd} {a1:Opd}:wpIns P (⟨d,.ix a0 a1,g⟩ :: r) s H Kk = Stp P d (.ix a0 a1) g r s H Kk:=propext ⟨λh=>h,λh=>h⟩
@[go_sem] theorem wi_ixv {a0:Opd} {a1:Opd} {a2:Nat}:wpIns P (⟨d,.ixv a0 a1 a2,g⟩ :: r) s H Kk = Stp P d (.ixv a0 a1 a2) g r s H Kk:=propext ⟨λh=>h,λh=>h⟩
theorem wi_sli {a0:Bool} {a1:Opd} {a2:(Option Opd)} {a3:(Option Opd)} {a4:Nat}:wpIns P (⟨d,.sli a0 a1 a2 a3 a4,g⟩ :: r) s H Kk = Stp P d (.sli a0 a1 a2 a3 a4) g r s H Kk:=propext ⟨λh=>h,λh=>h⟩
theorem wi_sla {a0:Opd} {a1:(Option Opd)} {a2:(Option Opd)} {a3:Nat} {a4:Nat}:wpIns P (⟨d,.sla a0 a1 a2 a3 a4,g⟩ :: r) s H Kk = Stp P d (.sla a0 a1 a2 a3 a4) g r s H Kk:=propext ⟨λh=>h,λh=>h⟩
theorem wi_slz {a0:Opd}:wpIns P (⟨d,.slz a0,g⟩ :: r) s H Kk = Stp P d (.slz a0) g r s H Kk:=propext ⟨λh=>h,λh=>h⟩
theorem wi_ext {a0:Opd} {a1:Nat}:wpIns P (⟨d,.ext a0 a1,g⟩ :: r) s H Kk = Stp P d (.ext a0 a1) g r s H Kk:=propext ⟨λh=>h,λh=>h⟩
theorem wi_len {a0:Bool} {a1:Opd}:wpIns P (⟨d,.len a0 a1,g⟩ :: r) s H Kk = Stp P d (.len a0 a1) g r s H Kk:=propext ⟨λh=>h,λh=>h⟩
theorem wi_app {a0:Md} {a1:Nat} {a2:Nat} {a3:Nat} {a4:Opd} {a5:Opd}:wpIns P (⟨d,.app a0 a1 a2 a3 a4 a5,g⟩ :: r) s H Kk = Stp P d (.app a0 a1 a2 a3 a4 a5) g r s H Kk:=propext ⟨λh=>h,λh=>h⟩
theorem wi_mn {a0:(List Opd)}:wpIns P (⟨d,.mn a0,g⟩ :: r) s H Kk = Stp P d (.mn a0) g r s H Kk:=propext ⟨λh=>h,λh=>h⟩
theorem wi_mx {a0:(List Opd)}:wpIns P (⟨d,.mx a0,g⟩ :: r) s H Kk = Stp P d (.mx a0) g r s H Kk:=propext ⟨λh=>h,λh=>h⟩
theorem wi_mkf {a0:FuncId} {a1:(List Opd)}:wpIns P (⟨d,.mkf a0 a1,g⟩ :: r) s H Kk = Stp P d (.mkf a0 a1) g r s H Kk:=propext ⟨λh=>h,λh=>h⟩
theorem wi_mks {a0:Md} {a1:Nat} {a2:Nat} {a3:Nat} {a4:(List AV)} {a5:Opd} {a6:Opd}:wpIns P (⟨d,.mks a0 a1 a2 a3 a4 a5 a6,g⟩ :: r) s H Kk = Stp P d (.mks a0 a1 a2 a3 a4 a5 a6) g r s H Kk:=propext ⟨λh=>h,λh=>h⟩
theorem wi_cpy {a0:Nat} {a1:Opd} {a2:Opd}:wpIns P (⟨d,.cpy a0 a1 a2,g⟩ :: r) s H Kk = Stp P d (.cpy a0 a1 a2) g r s H Kk:=propext ⟨λh=>h,λh=>h⟩
theorem wi_mkm {a0:KT}:wpIns P (⟨d,.mkm a0,g⟩ :: r) s H Kk = Stp P d (.mkm a0) g r s H Kk:=propext ⟨λh=>h,λh=>h⟩
theorem wi_lk {a0:KT} {a1:AV} {a2:Opd} {a3:Opd} {a4:Bool}:wpIns P (⟨d,.lk a0 a1 a2 a3 a4,g⟩ :: r) s H Kk = Stp P d (.lk a0 a1 a2 a3 a4) g r s H Kk:=propext ⟨λh=>h,λh=>h⟩
theorem wi_mu {a0:KT} {a1:Opd} {a2:Opd} {a3:Opd}:wpIns P (⟨d,.mu a0 a1 a2 a3,g⟩ :: r) s H Kk = Stp P d (.mu a0 a1 a2 a3) g r s H Kk:=propext ⟨λh=>h,λh=>h⟩
theorem wi_me {a0:KT} {a1:AV} {a2:Opd} {a3:Opd}:wpIns P (⟨d,.me a0 a1 a2 a3,g⟩ :: r) s H Kk = Stp P d (.me a0 a1 a2 a3) g r s H Kk:=propext ⟨λh=>h,λh=>h⟩
theorem wi_mes {a0:Opd} {a1:Opd} {a2:Opd}:wpIns P (⟨d,.mes a0 a1 a2,g⟩ :: r) s H Kk = Stp P d (.mes a0 a1 a2) g r s H Kk:=propext ⟨λh=>h,λh=>h⟩
theorem wi_del {a0:KT} {a1:Opd} {a2:Opd}:wpIns P (⟨d,.del a0 a1 a2,g⟩ :: r) s H Kk = Stp P d (.del a0 a1 a2) g r s H Kk:=propext ⟨λh=>h,λh=>h⟩
theorem wi_s2b {a0:Md} {a1:Nat} {a2:Opd}:wpIns P (⟨d,.s2b a0 a1 a2,g⟩ :: r) s H Kk = Stp P d (.s2b a0 a1 a2) g r s H Kk:=propext ⟨λh=>h,λh=>h⟩
theorem wi_b2s {a0:Opd}:wpIns P (⟨d,.b2s a0,g⟩ :: r) s H Kk = Stp P d (.b2s a0) g r s H Kk:=propext ⟨λh=>h,λh=>h⟩
theorem wi_eqs {a0:Bool} {a1:Opd} {a2:Opd}:wpIns P (⟨d,.eqs a0 a1 a2,g⟩ :: r) s H Kk = Stp P d (.eqs a0 a1 a2) g r s H Kk:=propext ⟨λh=>h,λh=>h⟩
theorem wi_eqp {a0:Bool} {a1:Opd} {a2:Opd}:wpIns P (⟨d,.eqp a0 a1 a2,g⟩ :: r) s H Kk = Stp P d (.eqp a0 a1 a2) g r s H Kk:=propext ⟨λh=>h,λh=>h⟩
theorem wi_isn {a0 a1:Bool} {a2:Opd}:wpIns P (⟨d,.isn a0 a1 a2,g⟩ :: r) s H Kk = Stp P d (.isn a0 a1 a2) g r s H Kk:=propext ⟨λh=>h,λh=>h⟩
theorem wi_eqi {a0:Bool} {a1:Opd}:wpIns P (⟨d,.eqi a0 a1,g⟩ :: r) s H Kk = Stp P d (.eqi a0 a1) g r s H Kk:=propext ⟨λh=>h,λh=>h⟩
theorem wi_eqg {a0:KT} {a1:Bool} {a2:Opd} {a3:Opd}:wpIns P (⟨d,.eqg a0 a1 a2 a3,g⟩ :: r) s H Kk = Stp P d (.eqg a0 a1 a2 a3) g r s H Kk:=propext ⟨λh=>h,λh=>h⟩
theorem wi_ixb {a0:FuncId} {a1:Opd} {a2:Opd}:wpIns P (⟨d,.ixb a0 a1 a2,g⟩ :: r) s H Kk = Stp P d (.ixb a0 a1 a2) g r s H Kk:=propext ⟨λh=>h,λh=>h⟩
end
theorem sh_d (x:Dat):shown (.d x) = true:=rfl
theorem ce_d (x:Dat):cellsAV (.d x) = [(.d x)]:=rfl
theorem sh_agg (x:List AV):shown (.agg x) = true:=rfl
theorem ce_agg (x:List AV):cellsAV (.agg x) = x:=rfl
theorem sh_nilp  : shown .nilp = true:=rfl
theorem ce_nilp  : cellsAV .nilp = [.nilp]:=rfl
theorem sh_mnil  : shown .mnil = true:=rfl
theorem ce_mnil  : cellsAV .mnil = [.mnil]:=rfl
theorem sh_ptr (b:Nat) (o:Nat):shown (.ptr b o) = true:=rfl
theorem ce_ptr (b:Nat) (o:Nat):cellsAV (.ptr b o) = [(.ptr b o)]:=rfl
theorem sh_ip (x:List Dat):shown (.ip x) = true:=rfl
theorem ce_ip (x:List Dat):cellsAV (.ip x) = [(.ip x)]:=rfl
theorem sh_esl  : shown .esl = true:=rfl
theorem ce_esl  : cellsAV .esl = [.esl]:=rfl
theorem sh_mp (x:Nat):shown (.mp x) = true:=rfl
theorem ce_mp (x:Nat):cellsAV (.mp x) = [(.mp x)]:=rfl
theorem sh_gsl (b sz:Nat) (es:List (List Dat)):shown (.gsl b sz es) = true:=rfl
theorem ce_gsl (b sz:Nat) (es:List (List Dat)):cellsAV (.gsl b sz es) = [.gsl b sz es]:=rfl
theorem sh_hsl (b o n c z:Nat):shown (.hsl b o n c z) = true:=rfl
theorem ce_hsl (b o n c z:Nat):cellsAV (.hsl b o n c z) = [.hsl b o n c z]:=rfl
theorem sh_fn (f:FuncId) (cs:List AV):shown (.fn f cs) = true:=rfl
theorem ce_fn (f:FuncId) (cs:List AV):cellsAV (.fn f cs) = [.fn f cs]:=rfl
theorem btrue (b:Bool):(b == true) = b:=by cases b <;> rfl
theorem bfalse (b:Bool):(b == false) = !b:=by cases b <;> rfl
theorem imax (a b:Int):(if b > a then b else a) = max a b:=by split <;> omega
theorem imin (a b:Int):(if b < a then b else a) = min a b:=by split <;> omega
section
variable {P:Program}
theorem W.cut {hint:Nat->Option Md} {nb:Nat} {x y:AC} {s:List AV} {H:List ABlk} {Q:APost} (J:List AV->List ABlk->Prop) (hx:W P hint nb x s H (APost.then (λs' H'=>∃ s0 H0,Wk nb s' H' s0 H0/\J s0 H0) Q)) (hy:∀ s H,J s H->W P hint nb y s H Q):W P hint nb (.seq x y) s H Q:=
 .seq (hx.mono λe s' H' h=>by
  cases e with
  | normal=>obtain ⟨s0,H0,hk,hj⟩:=h; exact .weak hk (hy s0 H0 hj)
  | _=>exact h)
theorem ACalls.weak {f:FuncId} {args args':List AV} {H:List ABlk} {R:AV->List ABlk->Prop} (h:ACalls P f args' H R) (hk:WkL args args'):ACalls P f args H R:=
 λσ w vs h1 h2=>h σ w vs h1 (hk.sound h2)
theorem DChain.pure {ws U:List (List Nat)} {H0:List ABlk} {j:Nat} {i:Ins} {r:List Ins} {s:List AV} {H:List ABlk} {Kk:List AV->List ABlk->Prop} (v:AV)
 (hs:StepOk P i s (kill (U.getD j []) H) v (kill (U.getD j []) H)) (hw:ws.getD j [] = []) (hr:DChain P ws U H0 (j + 1) r (setO s i.dst v) H Kk):DChain P ws U H0 j (i :: r) s H Kk:=
 ⟨v,H,hs,λ_ _=>rfl,Nat.le_refl _,λb hb=>(by rw [hw] at hb; cases hb),hr⟩
def PChain (P:Program):List Ins->List AV->List ABlk->(List AV->List ABlk->Prop)->Prop
 | [],s,H,Kk=>Kk s H
 | i :: r,s,H,Kk =>
  match wanted s i.g with
  | some true =>
   match i.k with
   | .call f args=>∃ v,ACalls P f (args.map (get s)) H (λv' H'=>v' = v/\H' = H)/\PChain P r (setO s i.dst v) H Kk
   | .callv g args=>match get s g with
    | .fn f caps=>∃ v,callOk P f = true/\ACalls P f (args.map (get s) ++ caps) H (λv' H'=>v' = v/\H' = H)/\PChain P r (setO s i.dst v) H Kk
    | _=>False
   | k=>match evK k s H with
    | some (v,H')=>H' = H/\PChain P r (setO s i.dst v) H Kk
    | none=>False
  | some false=>PChain P r (setO s i.dst (.tup [])) H Kk
  | none=>False
theorem PChain.sound {n:Nat} {H0:List ABlk} {Kk:List AV->List ABlk->Prop}:∀ {l:List Ins} {j:Nat} {s:List AV} {H:List ABlk},PChain P l s H Kk->DChain P [] (List.replicate n []) H0 j l s H Kk
 | [],j,s,H,h=>h
 | i :: r,j,s,H,h=>by
  have hk:kill ((List.replicate n ([]:List Nat)).getD j []) H = H:=by
   have:(List.replicate n ([]:List Nat)).getD j [] = []:=by
    rw [gDd,List.getElem?_replicate]; split <;> rfl
   rw [this]; rfl
  have fin:∀ v,StepOk P i s H v H->PChain P r (setO s i.dst v) H Kk->DChain P [] (List.replicate n []) H0 j (i :: r) s H Kk:=λv h1 h2 =>
   .pure v (by rw [hk]; exact h1) rfl (PChain.sound h2)
  simp only [PChain] at h
  split at h
  ·rename_i hw
   split at h
   ·rename_i f args e
    obtain ⟨v,h1,h2⟩:=h; exact fin v (by simp only [StepOk,hw,e]; exact h1) h2
   ·rename_i g args e
    split at h
    ·rename_i f caps e2
     obtain ⟨v,h0,h1,h2⟩:=h; exact fin v (by simp only [StepOk,hw,e,e2]; exact ⟨h0,h1⟩) h2
    ·exact h.elim
   ·rename_i x1 x2
    split at h
    ·rename_i v H' e
     obtain ⟨rfl,h2⟩:=h; refine fin v ?_ h2; simp only [StepOk,hw]
     split
     ·rename_i f args e3; exact (x1 f args e3).elim
     ·rename_i g args e3; exact (x2 g args e3).elim
     ·rename_i tb x args e3; rw [e3] at e; simp [evK] at e
     ·exact e
    ·exact h.elim
  ·rename_i hw
   exact fin (.tup []) (by simp [StepOk,hw]) h
  ·exact h.elim
end
section
variable {P:Program} {d:Option Nat} {g:Option (Nat × Bool)} {r:List Ins} {s:List AV} {H:List ABlk} {Kk:List AV->List ABlk->Prop}
def PStp (P:Program) (d:Option Nat) (k:K) (g:Option (Nat × Bool)) (r:List Ins) (s:List AV) (H:List ABlk) (Kk:List AV->List ABlk->Prop):Prop:=
 match wanted s g with
 | some true=>(match evK k s H with
  | some (v,H')=>H' = H/\PChain P r (setO s d v) H Kk
  | none=>False)
 | some false=>PChain P r (setO s d (.tup [])) H Kk
 | none=>False
def PCont (P:Program) (f:FuncId) (args:List AV) (r:List Ins) (s:List AV) (d:Option Nat) (H:List ABlk) (Kk:List AV->List ABlk->Prop):Prop:=
 ∃ v,ACalls P f args H (λv' H'=>v' = v/\H' = H)/\PChain P r (setO s d v) H Kk
@[congr] theorem DChain.cong {ws U:List (List Nat)} {H0:List ABlk} {j:Nat} {l:List Ins} {s':List AV} {H':List ABlk} (h1:s = s') (h2:H = H'):DChain P ws U H0 j l s H Kk = DChain P ws U H0 j l s' H' Kk:=by rw [h1,h2]
theorem PCont.mk {f:FuncId} {args:List AV} {v:AV} (h:ACalls P f args H λv' H'=>v' = v/\H' = H) (hk:PChain P r (setO s d v) H Kk):PCont P f args r s d H Kk:=⟨v,h,hk⟩
theorem PChain_nil:PChain P [] s H Kk = Kk s H:=propext ⟨λh=>h,λh=>h⟩
theorem PChain_call {f:FuncId} {args:List Opd}:PChain P (⟨d,.call f args,none⟩ :: r) s H Kk = PCont P f (args.map (get s)) r s d H Kk:=propext ⟨λh=>h,λh=>h⟩
theorem PChain_callg {f:FuncId} {args:List Opd} {g:Nat × Bool}:PChain P (⟨d,.call f args,some g⟩ :: r) s H Kk = match wanted s (some g) with
 | some true=>PCont P f (args.map (get s)) r s d H Kk
 | some false=>PChain P r (setO s d (.tup [])) H Kk
 | none=>False:=propext ⟨λh=>h,λh=>h⟩
theorem pc_mv {a0:Opd}:PChain P (⟨d,.mv a0,g⟩ :: r) s H Kk = PStp P d (.mv a0) g r s H Kk:=propext ⟨λh=>h,λh=>h⟩
theorem pc_mvg {a0:Nat} {a1:Nat} {a2:Opd}:PChain P (⟨d,.mvg a0 a1 a2,g⟩ :: r) s H Kk = PStp P d (.mvg a0 a1 a2) g r s H Kk:=propext ⟨λh=>h,λh=>h⟩
theorem pc_pick {a0:Opd} {a1:Opd} {a2:Opd}:PChain P (⟨d,.pick a0 a1 a2,g⟩ :: r) s H Kk = PStp P d (.pick a0 a1 a2) g r s H Kk:=propext ⟨λh=>h,λh=>h⟩
@[go_sem] theorem pc_alb {a0:TypeId}:PChain P (⟨d,.alb a0,g⟩ :: r) s H Kk = PStp P d (.alb a0) g r s H Kk:=propext ⟨λh=>h,λh=>h⟩
theorem pc_al {a0:(List AV)}:PChain P (⟨d,.al a0,g⟩ :: r) s H Kk = PStp P d (.al a0) g r s H Kk:=propext ⟨λh=>h,λh=>h⟩
theorem pc_bx {a0:Opd}:PChain P (⟨d,.bx a0,g⟩ :: r) s H Kk = PStp P d (.bx a0) g r s H Kk:=propext ⟨λh=>h,λh=>h⟩
theorem pc_bd {a0:(List AV)} {a1:(List (Nat × Nat × Opd))}:PChain P (⟨d,.bd a0 a1,g⟩ :: r) s H Kk = PStp P d (.bd a0 a1) g r s H Kk:=propext ⟨λh=>h,λh=>h⟩
theorem pc_bs {a0:Md} {a1:Nat} {a2:Nat} {a3:(List Opd)}:PChain P (⟨d,.bs a0 a1 a2 a3,g⟩ :: r) s H Kk = PStp P d (.bs a0 a1 a2 a3) g r s H Kk:=propext ⟨λh=>h,λh=>h⟩
theorem pc_ld {a0:Opd} {a1:Nat} {a2:Bool}:PChain P (⟨d,.ld a0 a1 a2,g⟩ :: r) s H Kk = PStp P d (.ld a0 a1 a2) g r s H Kk:=propext ⟨λh=>h,λh=>h⟩
theorem pc_st {a0:Opd} {a1:Opd} {a2:Nat}:PChain P (⟨d,.st a0 a1 a2,g⟩ :: r) s H Kk = PStp P d (.st a0 a1 a2) g r s H Kk:=propext ⟨λh=>h,λh=>h⟩
theorem pc_nc {a0:Opd}:PChain P (⟨d,.nc a0,g⟩ :: r) s H Kk = PStp P d (.nc a0) g r s H Kk:=propext ⟨λh=>h,λh=>h⟩
theorem pc_bin {a0:BinOp} {a1:Opd} {a2:Opd}:PChain P (⟨d,.bin a0 a1 a2,g⟩ :: r) s H Kk = PStp P d (.bin a0 a1 a2) g r s H Kk:=propext ⟨λh=>h,λh=>h⟩
theorem pc_un {a0:UnOp} {a1:Opd}:PChain P (⟨d,.un a0 a1,g⟩ :: r) s H Kk = PStp P d (.un a0 a1) g r s H Kk:=propext ⟨λh=>h,λh=>h⟩
theorem pc_cvi {a0:IntKind} {a1:Opd}:PChain P (⟨d,.cvi a0 a1,g⟩ :: r) s H Kk = PStp P d (.cvi a0 a1) g r s H Kk:=propext ⟨λh=>h,λh=>h⟩
theorem pc_fa {a0:Opd} {a1:Nat}:PChain P (⟨d,.fa a0 a1,g⟩ :: r) s H Kk = PStp P d (.fa a0 a1) g r s H Kk:=propext ⟨λh=>h,λh=>h⟩
theorem pc_fld {a0:Opd} {a1:Nat} {a2:Nat} {a3:Bool}:PChain P (⟨d,.fld a0 a1 a2 a3,g⟩ :: r) s H Kk = PStp P d (.fld a0 a1 a2 a3) g r s H Kk:=propext ⟨λh=>h,λh=>h⟩
theorem pc_ia {a0:Opd} {a1:Opd} {a2:Nat}:PChain P (⟨d,.ia a0 a1 a2,g⟩ :: r) s H Kk = PStp P d (.ia a0 a1 a2) g r s H Kk:=propext ⟨λh=>h,λh=>h⟩
theorem pc_iar {a0:Opd} {a1:Opd} {a2:Nat} {a3:Nat}:PChain P (⟨d,.iar a0 a1 a2 a3,g⟩ :: r) s H Kk = PStp P d (.iar a0 a1 a2 a3) g r s H Kk:=propext ⟨λh=>h,λh=>h⟩
theorem pc_ix {a0:Opd} {a1:Opd}:PChain P (⟨d,.ix a0 a1,g⟩ :: r) s H Kk = PStp P d (.ix a0 a1) g r s H Kk:=propext ⟨λh=>h,λh=>h⟩
@[go_sem] theorem pc_ixv {a0:Opd} {a1:Opd} {a2:Nat}:PChain P (⟨d,.ixv a0 a1 a2,g⟩ :: r) s H Kk = PStp P d (.ixv a0 a1 a2) g r s H Kk:=propext ⟨λh=>h,λh=>h⟩
theorem pc_sli {a0:Bool} {a1:Opd} {a2:(Option Opd)} {a3:(Option Opd)} {a4:Nat}:PChain P (⟨d,.sli a0 a1 a2 a3 a4,g⟩ :: r) s H Kk = PStp P d (.sli a0 a1 a2 a3 a4) g r s H Kk:=propext ⟨λh=>h,λh=>h⟩
theorem pc_sla {a0:Opd} {a1:(Option Opd)} {a2:(Option Opd)} {a3:Nat} {a4:Nat}:PChain P (⟨d,.sla a0 a1 a2 a3 a4,g⟩ :: r) s H Kk = PStp P d (.sla a0 a1 a2 a3 a4) g r s H Kk:=propext ⟨λh=>h,λh=>h⟩
theorem pc_slz {a0:Opd}:PChain P (⟨d,.slz a0,g⟩ :: r) s H Kk = PStp P d (.slz a0) g r s H Kk:=propext ⟨λh=>h,λh=>h⟩
theorem pc_ext {a0:Opd} {a1:Nat}:PChain P (⟨d,.ext a0 a1,g⟩ :: r) s H Kk = PStp P d (.ext a0 a1) g r s H Kk:=propext ⟨λh=>h,λh=>h⟩
theorem pc_len {a0:Bool} {a1:Opd}:PChain P (⟨d,.len a0 a1,g⟩ :: r) s H Kk = PStp P d (.len a0 a1) g r s H Kk:=propext ⟨λh=>h,λh=>h⟩
theorem pc_app {a0:Md} {a1:Nat} {a2:Nat} {a3:Nat} {a4:Opd} {a5:Opd}:PChain P (⟨d,.app a0 a1 a2 a3 a4 a5,g⟩ :: r) s H Kk = PStp P d (.app a0 a1 a2 a3 a4 a5) g r s H Kk:=propext ⟨λh=>h,λh=>h⟩
theorem pc_mn {a0:(List Opd)}:PChain P (⟨d,.mn a0,g⟩ :: r) s H Kk = PStp P d (.mn a0) g r s H Kk:=propext ⟨λh=>h,λh=>h⟩
theorem pc_mx {a0:(List Opd)}:PChain P (⟨d,.mx a0,g⟩ :: r) s H Kk = PStp P d (.mx a0) g r s H Kk:=propext ⟨λh=>h,λh=>h⟩
theorem pc_mkf {a0:FuncId} {a1:(List Opd)}:PChain P (⟨d,.mkf a0 a1,g⟩ :: r) s H Kk = PStp P d (.mkf a0 a1) g r s H Kk:=propext ⟨λh=>h,λh=>h⟩
theorem pc_mks {a0:Md} {a1:Nat} {a2:Nat} {a3:Nat} {a4:(List AV)} {a5:Opd} {a6:Opd}:PChain P (⟨d,.mks a0 a1 a2 a3 a4 a5 a6,g⟩ :: r) s H Kk = PStp P d (.mks a0 a1 a2 a3 a4 a5 a6) g r s H Kk:=propext ⟨λh=>h,λh=>h⟩
theorem pc_cpy {a0:Nat} {a1:Opd} {a2:Opd}:PChain P (⟨d,.cpy a0 a1 a2,g⟩ :: r) s H Kk = PStp P d (.cpy a0 a1 a2) g r s H Kk:=propext ⟨λh=>h,λh=>h⟩
theorem pc_mkm {a0:KT}:PChain P (⟨d,.mkm a0,g⟩ :: r) s H Kk = PStp P d (.mkm a0) g r s H Kk:=propext ⟨λh=>h,λh=>h⟩
theorem pc_lk {a0:KT} {a1:AV} {a2:Opd} {a3:Opd} {a4:Bool}:PChain P (⟨d,.lk a0 a1 a2 a3 a4,g⟩ :: r) s H Kk = PStp P d (.lk a0 a1 a2 a3 a4) g r s H Kk:=propext ⟨λh=>h,λh=>h⟩
theorem pc_mu {a0:KT} {a1:Opd} {a2:Opd} {a3:Opd}:PChain P (⟨d,.mu a0 a1 a2 a3,g⟩ :: r) s H Kk = PStp P d (.mu a0 a1 a2 a3) g r s H Kk:=propext ⟨λh=>h,λh=>h⟩
theorem pc_me {a0:KT} {a1:AV} {a2:Opd} {a3:Opd}:PChain P (⟨d,.me a0 a1 a2 a3,g⟩ :: r) s H Kk = PStp P d (.me a0 a1 a2 a3) g r s H Kk:=propext ⟨λh=>h,λh=>h⟩
theorem pc_mes {a0:Opd} {a1:Opd} {a2:Opd}:PChain P (⟨d,.mes a0 a1 a2,g⟩ :: r) s H Kk = PStp P d (.mes a0 a1 a2) g r s H Kk:=propext ⟨λh=>h,λh=>h⟩
theorem pc_del {a0:KT} {a1:Opd} {a2:Opd}:PChain P (⟨d,.del a0 a1 a2,g⟩ :: r) s H Kk = PStp P d (.del a0 a1 a2) g r s H Kk:=propext ⟨λh=>h,λh=>h⟩
theorem pc_s2b {a0:Md} {a1:Nat} {a2:Opd}:PChain P (⟨d,.s2b a0 a1 a2,g⟩ :: r) s H Kk = PStp P d (.s2b a0 a1 a2) g r s H Kk:=propext ⟨λh=>h,λh=>h⟩
theorem pc_b2s {a0:Opd}:PChain P (⟨d,.b2s a0,g⟩ :: r) s H Kk = PStp P d (.b2s a0) g r s H Kk:=propext ⟨λh=>h,λh=>h⟩
theorem pc_eqs {a0:Bool} {a1:Opd} {a2:Opd}:PChain P (⟨d,.eqs a0 a1 a2,g⟩ :: r) s H Kk = PStp P d (.eqs a0 a1 a2) g r s H Kk:=propext ⟨λh=>h,λh=>h⟩
theorem pc_eqp {a0:Bool} {a1:Opd} {a2:Opd}:PChain P (⟨d,.eqp a0 a1 a2,g⟩ :: r) s H Kk = PStp P d (.eqp a0 a1 a2) g r s H Kk:=propext ⟨λh=>h,λh=>h⟩
theorem pc_isn {a0 a1:Bool} {a2:Opd}:PChain P (⟨d,.isn a0 a1 a2,g⟩ :: r) s H Kk = PStp P d (.isn a0 a1 a2) g r s H Kk:=propext ⟨λh=>h,λh=>h⟩
theorem pc_eqi {a0:Bool} {a1:Opd}:PChain P (⟨d,.eqi a0 a1,g⟩ :: r) s H Kk = PStp P d (.eqi a0 a1) g r s H Kk:=propext ⟨λh=>h,λh=>h⟩
theorem pc_eqg {a0:KT} {a1:Bool} {a2:Opd} {a3:Opd}:PChain P (⟨d,.eqg a0 a1 a2 a3,g⟩ :: r) s H Kk = PStp P d (.eqg a0 a1 a2 a3) g r s H Kk:=propext ⟨λh=>h,λh=>h⟩
theorem pc_ixb {a0:FuncId} {a1:Opd} {a2:Opd}:PChain P (⟨d,.ixb a0 a1 a2,g⟩ :: r) s H Kk = PStp P d (.ixb a0 a1 a2) g r s H Kk:=propext ⟨λh=>h,λh=>h⟩
theorem PChain.app {ws U:List (List Nat)} {H0:List ABlk}:∀ {l1 l2:List Ins} {j:Nat} {s:List AV} {H:List ABlk},PChain P l1 s H (λs' H'=>DChain P ws U H0 (j + l1.length) l2 s' H' Kk) ->
 (∀ k,k < l1.length->ws.getD (j + k) [] = [])->(∀ k,k < l1.length->U.getD (j + k) [] = [])->DChain P ws U H0 j (l1 ++ l2) s H Kk
 | [],l2,j,s,H,h,_,_=>h
 | i :: l1,l2,j,s,H,h,hw,hU=>by
  have hU0:U.getD j [] = []:=hU 0 (by simp); have hw0:ws.getD j [] = []:=hw 0 (by simp); have fin:∀ v,StepOk P i s H v H->PChain P l1 (setO s i.dst v) H (λs' H'=>DChain P ws U H0 (j + (i :: l1).length) l2 s' H' Kk)->DChain P ws U H0 j (i :: l1 ++ l2) s H Kk:=λv h1 h2 =>
   .pure v (by rw [hU0]; exact h1) hw0 (PChain.app (by rw [show j + 1 + l1.length = j + (i :: l1).length by simp; omega]; exact h2) (λk hk=>by rw [show j + 1 + k = j + (k + 1) by omega]; exact hw (k + 1) (by simp; omega)) (λk hk=>by rw [show j + 1 + k = j + (k + 1) by omega]; exact hU (k + 1) (by simp; omega)))
  simp only [PChain] at h
  split at h
  ·rename_i hw
   split at h
   ·rename_i f args e
    obtain ⟨v,h1,h2⟩:=h; exact fin v (by simp only [StepOk,hw,e]; exact h1) h2
   ·rename_i g args e
    split at h
    ·rename_i f caps e2
     obtain ⟨v,h0,h1,h2⟩:=h; exact fin v (by simp only [StepOk,hw,e,e2]; exact ⟨h0,h1⟩) h2
    ·exact h.elim
   ·rename_i x1 x2
    split at h
    ·rename_i v H' e
     obtain ⟨rfl,h2⟩:=h; refine fin v ?_ h2; simp only [StepOk,hw]
     split
     ·rename_i f args e3; exact (x1 f args e3).elim
     ·rename_i g args e3; exact (x2 g args e3).elim
     ·rename_i tb x args e3; rw [e3] at e; simp [evK] at e
     ·exact e
    ·exact h.elim
  ·rename_i hw
   exact fin (.tup []) (by simp [StepOk,hw]) h
  ·exact h.elim
theorem getD_rep {n k:Nat} (h:k < n) (t:List (List Nat)):(List.replicate n [] ++ t).getD (0 + k) [] = []:=by
 rw [Nat.zero_add,gDd,List.getElem?_append_left (by simpa using h),List.getElem?_replicate,if_pos h]; rfl
theorem PChain.app0 {w2 u2:List (List Nat)} {H0:List ABlk} {l1 l2:List Ins} (n:Nat) (hn:l1.length = n) (h:PChain P l1 s H (λs' H'=>DChain P (List.replicate n [] ++ w2) (List.replicate n [] ++ u2) H0 n l2 s' H' Kk)) :
 DChain P (List.replicate n [] ++ w2) (List.replicate n [] ++ u2) H0 0 (l1 ++ l2) s H Kk:=by
 subst hn; exact PChain.app (by rw [Nat.zero_add]; exact h) (λk hk=>getD_rep hk _) (λk hk=>getD_rep hk _)
theorem DChain.wr {ws U:List (List Nat)} {H0:List ABlk} {j:Nat} {i:Ins} (b:Nat) (v:AV) (H':List ABlk) (hU:U.getD j [] = []) (hw:ws.getD j [] = [b]) (hd:H0[b]? ≠ some .dead) (hs:StepOk P i s H v H')
 (hf:∀ c,c ≠ b->H'[c]? = H[c]?) (hl:H.length<=H'.length) (hr:DChain P ws U H0 (j + 1) r (setO s i.dst v) H' Kk):DChain P ws U H0 j (i :: r) s H Kk:=
 ⟨v, H', by rw [hU]; exact hs, fun c hc => hf c (by rw [hw] at hc; simpa using hc), hl, fun c hc => by
   rw [hw] at hc; have:c = b:=by simpa using hc
   subst this; exact ⟨by rw [hU]; simp,hd⟩,hr⟩
end
theorem W.pchain {P:Program} {hint:Nat->Option Md} {nb:Nat} {pr:List (List Nat)} {l:List Ins} {s:List AV} {H:List ABlk} {Q:APost} (hm:P.follows .mixedOrders = true) (hok:drawOk pr l = true) (hc:PChain P l s H (Q .normal)):W P hint nb (.dreg pr l) s H Q:=by
 refine W.dreg [] (List.replicate l.length []) hm hok ?_ hc.sound; have:∀ j,killsOf pr [] l.length j = []:=λj=>by
  simp only [killsOf,List.flatMap_eq_nil_iff]
  intro i _
  split <;> simp
 rw [List.eq_replicate_iff]; refine ⟨by simp,λb hb=>?_⟩; obtain ⟨j,_,rfl⟩:=List.mem_map.1 hb; exact this j
end Go.Proofs.YtofpekbidngnfaaGreatDoor
namespace Go.Proofs.YtofpekbidngnfaaGreatDoor
open Go.ChangeShapes Go.WideShapes Go.ChangeAt Go.RowKit
section
variable {H:Type} {enc:TypeId × Value->H} {P:Program}
theorem post_of_below {f:Func} {s:ChangeSpec} {apart fresh handsOn again:Bool} {W W':World} {args:Array Value} {v:Value} {ds gs:List (DataW H)} {before pa pv:List MemPlace}
 (hW:DataW.Whole enc P f.params.toList s.vars apart W args.toList ds gs before)
 (hres:∀ (b:Nat) (sp:Nat->Bool) (hd:Bool),DataW.TrodAll enc P W' b sp hd f.resultTypes.toList (v.resultList f.resultTypes.size) (s.fn H (ds ++ gs)).results [])
 (hargs:∀ sp:Nat->Bool,(∀ p ∈ before,sp p.block = true)->DataW.TrodAll enc P W' 0 sp true f.params.toList args.toList (s.fn H (ds ++ gs)).args pa)
 (hvars:∀ sp:Nat->Bool,(∀ p ∈ before,sp p.block = true)->DataW.TrodVars enc P W' sp s.vars (s.fn H (ds ++ gs)).vars pv)
 (hps:before = pa ++ pv) (hb:Below W.heap.size W W')
 (hok:∀ (j:Nat) (t:TypeId) (r:Value),f.resultTypes[j]? = some t->(v.resultList f.resultTypes.size)[j]? = some r->Value.okWide P W' .any 0 t r) :
 s.post enc P f apart fresh handsOn again W args v W':=by
 have hlt:∀ p ∈ before,p.block < W.heap.size:=λp hp=>hW.lt p hp
 have hold:∀ p ∈ before,(λb=>decide (b < W.heap.size)) p.block = true:=λp hp=>by simpa using hlt p hp
 refine ⟨ds,gs,before,[],pa,pv,hW,hres _ _ _,hargs _ hold,hvars _ hold,World.keptBut_mono (λp hp=>⟨hp,?_⟩) (hb.frame (· ∈ before)),λ_=>?_⟩
 ·rw [hps,List.mem_append] at hp
  exact Or.inr hp
 ·obtain ⟨_,_,_,_,_,hz,hn⟩:=hW
  refine ⟨hok,_,_,([] ++ pa) ++ pv,⟨[] ++ pa,pv,trodAll_append (hargs _ (λ_ _=>rfl)) (hres _ _ _),hvars _ (λ_ _=>rfl),rfl,?_,?_⟩,?_⟩
  ·intro b off hp
   have hin:MemPlace.cell b off ∈ before:=by rw [hps]; simpa using hp
   rw [hb.frozen (hlt _ hin)]; exact hz b off hin
  ·intro ha
   have:=hn ha; rw [hps] at this
   simpa using this
  ·intro p hp _
   rw [hps]
   simpa using hp
end
theorem ACalls.top {P:Program} {f:FuncId} {args:List AV} {vs:List Value} {w:World} {M:Mem} {R:AV->List ABlk->Prop} (h:ACalls P f args [] R) (hM:MemOk M w)
 (hv:VRs ⟨M,λ_ _=>none,[]⟩ args vs):Calls P f vs.toArray w λe w'=>∃ u σ' H' v,e = .returned u/\Below w.heap.size w w'/\VR σ' v u/\R v H':=by
 refine (h ⟨M,λ_ _=>none,[]⟩ w vs ⟨hM,λb k hb=>by simp at hb,λ_ _ _=>rfl,λb b' k k' u u' g hb=>by simp at hb⟩ hv).mono λe w' he=>?_
 obtain ⟨σ',H',v,u,e1,x1,x2,x3,x4⟩:=he; refine ⟨u,σ',H',v,e1,⟨x1.os,x1.tape,x1.output,x1.size,λk hk=>x1.frame k hk ?_⟩,x3,x4⟩; rintro ⟨b,blk,v',hb,_⟩; simp at hb
theorem ACalls.law {P:Program} {f:FuncId} {args:List AV} {vs:List Value} {w:World} {M:Mem} (h:ACalls P f args [] λv H'=>v = .d (.v (.bool true))/\H' = []) (hM:MemOk M w)
 (hv:VRs ⟨M,λ_ _=>none,[]⟩ args vs):Calls P f vs.toArray w λe w'=>e = .returned (.bool true)/\Below w.heap.size w w':=by
 refine (h.top hM hv).mono λe w' he=>?_
 obtain ⟨u,σ',H',v,rfl,x1,x2,rfl,_⟩:=he
 cases x2 with | d hd=>cases hd with | v hp=>exact ⟨rfl,x1⟩
inductive TyD (P:Program):TypeId->List Dat->Prop
 | bool {t:TypeId} {b:Bool}:P.underlying t = some .bool->TyD P t [.v (.bool b)]
 | int {t:TypeId} {k:IntKind} {n:Int}:P.underlying t = some (.int k)->(Lit.int k n).wf = true->TyD P t [.v (.int k n)]
 | str {t:TypeId} {s:ByteArray}:P.underlying t = some .string->s.size<=140737488355328->TyD P t [.v (.string s)]
 | sl {t e:TypeId} {es:List (List Dat)}:P.underlying t = some (.slice e)->es.length<=maxLen/\es.length * P.bytesOf e<=140737488355328->(∀ c,c ∈ es->TyD P e c)->TyD P t [.sl es]
 | st {t:TypeId} {fs:Array Field} {parts:List (List Dat)}:P.underlying t = some (.struct fs)->parts.length = fs.size ->
  (∀ (i:Nat) (f:Field) (c:List Dat),fs[i]? = some f->parts[i]? = some c->TyD P f.type c)->TyD P t parts.flatten
def laidFrom (P:Program):Nat->List Field->Nat->Bool
 | o,[],n=>o == n
 | o,f :: fs,n=>f.offset == o && laidFrom P (o + P.cellsOf f.type) fs n
def dataB (P:Program) (L:List TypeId):Bool:=L.all λt =>
 match P.underlying t with
 | some .bool | some (.int _) | some .string=>true
 | some (.slice e)=>L.contains e
 | some (.struct fs)=>laidFrom P 0 fs.toList (P.cellsOf t) && fs.toList.all λf=>L.contains f.type
 | _=>false
theorem parts_of {P:Program} {M:Mem} {cs:List Value}:∀ (fs:List Field) (o:Nat),laidFrom P o fs cs.length = true->o<=cs.length ->
 (∀ f ∈ fs,∃ ds,VDs M ds ((cs.drop f.offset).take (P.cellsOf f.type))/\TyD P f.type ds/\ds.length = P.cellsOf f.type) ->
 ∃ parts:List (List Dat),parts.length = fs.length/\(∀ (i:Nat) (f:Field) (c:List Dat),fs[i]? = some f->parts[i]? = some c->TyD P f.type c)/\VDs M parts.flatten (cs.drop o)
 | [],o,hl,ho,_=>by
  have:o = cs.length:=by simpa [laidFrom] using hl
  exact ⟨[],rfl,λi f c h=>by simp at h,by simp [this,VDs]⟩
 | f :: fs,o,hl,ho,h=>by
  simp only [laidFrom,Bool.and_eq_true,beq_iff_eq] at hl; obtain ⟨ds,h1,h2,h3⟩:=h f List.mem_cons_self; rw [hl.1] at h1; have h1':ds.length = ((cs.drop o).take (P.cellsOf f.type)).length:=h1.1; have hle:o + P.cellsOf f.type<=cs.length:=by
   rw [h3,List.length_take,List.length_drop] at h1'; omega
  obtain ⟨parts,g1,g2,g3⟩:=parts_of fs (o + P.cellsOf f.type) hl.2 hle λf' hf'=>h f' (List.mem_cons_of_mem _ hf')
  refine ⟨ds :: parts,by simp [g1],λi f' c hf hc=>?_,?_⟩
  ·match i with
   | 0=>simp at hf hc; subst hf; subst hc; exact h2
   | i + 1=>simp at hf hc; exact g2 i f' c hf hc
  ·have:=h1.append g3
   rw [<- List.drop_drop,List.take_append_drop] at this; exact this
section
variable {H:Type} {enc:TypeId × Value->H} {P:Program} {w:World} {base:Nat} {spare:Nat->Bool} {held:Bool}
theorem weightsAll_mem {e:TypeId}:∀ {ds:List (DataW H)} {d:DataW H},d ∈ ds->∀ n ∈ d.weights P e,n ∈ DataW.weightsAll P e ds
 | d0 :: ds,d,hd,n,hn=>by
  simp only [DataW.weightsAll,List.mem_append]; rcases List.mem_cons.1 hd with rfl | hd
  ·exact .inl hn
  ·exact .inr (weightsAll_mem hd n hn)
theorem read_ty {L:List TypeId} (hL:dataB P L = true) (N:Nat):∀ (fuel:Nat) (t:TypeId) (cs:List Value) (x:DataW H × List MemPlace),fuel < N->t ∈ L->DataW.trod enc P w base spare held fuel t cs = some x->(∀ n ∈ x.1.weights P t,n<=reachBytes)->∃ ds,VDs w.cell? ds cs/\TyD P t ds:=by
 induction N with
 | zero=>intro f t cs x h; omega
 | succ N ih =>
 intro fuel t cs x hN ht h hwt
 have hrb:reachBytes<=140737488355328:=by decide
 have hB:=List.all_eq_true.1 hL t ht; have one:∀ (d:Dat) (v:Value),VD w.cell? d v->VDs w.cell? [d] [v]:=λd v hv=>⟨rfl,λi d' u hd hu=>by
  match i with
  | 0=>simp at hd hu; subst hd; subst hu; exact hv
  | i + 1=>simp at hd⟩
 split at hB
 ·rename_i hu
  obtain ⟨b,rfl,_⟩:=DataW.trod_bool hu h; exact ⟨_,one _ _ (.v rfl),.bool hu⟩
 ·rename_i k hu
  obtain ⟨n,rfl,_,hw⟩:=DataW.trod_int hu h; exact ⟨_,one _ _ (.v rfl),.int hu hw⟩
 ·rename_i hu
  obtain ⟨s,rfl,rfl,hs⟩:=DataW.trod_string hu h; have hz:=hwt s.size (by simp [DataW.weights]); exact ⟨_,one _ _ (.v rfl),.str hu (Nat.le_trans hz hrb)⟩
 ·rename_i e hu
  have he:e ∈ L:=by simpa using hB
  rcases DataW.trod_slice hu h with hnil | ⟨a,len,cap,elems,rest,n',hn',hcs,hxx,hb,hle,hmx,hlen,hel,hsp,hns⟩
  ·obtain ⟨rfl,_⟩:=hnil
   exact ⟨_,one _ _ .nil,.sl hu ⟨Nat.zero_le _,by simp⟩ (λc hc=>by simp at hc)⟩
  ·subst hcs
   subst hxx; have hszz:elems.length * P.bytesOf e<=140737488355328:=by
    have h1:=hwt ((elems.length + rest.length) * P.bytesOf e) (by simp only [DataW.weights,hu,lnn]; exact List.mem_cons_self); exact Nat.le_trans (Nat.mul_le_mul_right _ (Nat.le_add_right _ _)) (Nat.le_trans h1 hrb)
   have hel2:∀ y ∈ elems,∀ n ∈ y.1.weights P e,n<=reachBytes:=λy hy n hn=>hwt n (by
    simp only [DataW.weights,hu]; exact List.mem_cons_of_mem _ (List.mem_append_left _ (weightsAll_mem (List.mem_map_of_mem hy) n hn)))
   have key:∀ i,∃ ec:List Dat × List Value,i < len->(VDs w.cell? ec.1 ec.2/\TyD P e ec.1/\ec.2.length = P.cellsOf e/\∀ (j:Nat) (v:Value),ec.2[j]? = some v->w.cell? (a.add (i * P.cellsOf e + j)) = some v):=by
    intro i
    by_cases hi:i < len
    ·have h1:=hel i hi
     rw [gEe (show i < elems.length by omega)] at h1; obtain ⟨cs',hc',ht'⟩:=Option.bind_eq_some_iff.1 h1; obtain ⟨ds,hv,ho⟩:=ih n' e cs' _ (by omega) he ht' (hel2 _ (List.getElem_mem _)); obtain ⟨_,hcl,hat⟩:=World.cells?_some hc'; refine ⟨(ds,cs'),λ_=>⟨hv,ho,hcl,λj v hj=>?_⟩⟩; have hj6:j < P.cellsOf e:=by have h6:j < cs'.length:=(List.getElem?_eq_some_iff.1 hj).1; omega
     rw [<- Go.Deep.add_add,hat j hj6]; exact hj
    ·exact ⟨([],[]),λh=>absurd h hi⟩
   obtain ⟨F,hF⟩:=Classical.axiomOfChoice key; have hget:∀ (i:Nat) (c:List Dat),((List.range len).map λi=>(F i).1)[i]? = some c->i < len/\c = (F i).1:=by
    intro i c hc
    rw [List.getElem?_map] at hc
    by_cases hi:i < len
    ·rw [List.getElem?_range hi] at hc
     simp at hc; exact ⟨hi,hc.symm⟩
    ·rw [List.getElem?_eq_none (by simp; omega)] at hc; simp at hc
   refine ⟨[.sl ((List.range len).map λi=>(F i).1)],one _ _ ?_,.sl hu ⟨by simp; omega,by rw [lnn,List.length_range,<- hlen]; exact hszz⟩ λc hc=>?_⟩
   ·rcases Nat.eq_zero_or_pos len with h0 | hpos
    ·subst h0; exact .nil
    ·have:=VD.sl (M:=w.cell?) (es:=(List.range len).map λi=>(F i).1) (a:=a) (cap:=cap) (sz:=P.cellsOf e) (λi j=>(F i).2.getD j undef) (by intro hc; have:=congrArg List.length hc; simp at this; omega) (by simp; omega) hmx ?_ ?_ ?_
     ·rw [lnn,List.length_range] at this; exact this
     ·intro c hc
      obtain ⟨i,hi,rfl⟩:=List.mem_map.1 hc; have:=hF i (List.mem_range.1 hi); rw [this.1.1,this.2.2.1]
     ·intro i c j d hc hd
      obtain ⟨hi,rfl⟩:=hget i c hc; have hj:j < (F i).2.length:=by rw [<- (hF i hi).1.1]; exact (List.getElem?_eq_some_iff.1 hd).1
      rw [show (F i).2.getD j undef = (F i).2[j] by simp [hj]]; exact (hF i hi).2.2.2 j _ (gEe hj)
     ·intro i c j d hc hd
      obtain ⟨hi,rfl⟩:=hget i c hc; have hj:j < (F i).2.length:=by rw [<- (hF i hi).1.1]; exact (List.getElem?_eq_some_iff.1 hd).1
      rw [show (F i).2.getD j undef = (F i).2[j] by simp [hj]]; exact (hF i hi).1.2 j d _ hd (gEe hj)
   ·obtain ⟨i,hi,rfl⟩:=List.mem_map.1 hc
    exact (hF i (List.mem_range.1 hi)).2.1
 ·rename_i fs hu
  simp only [Bool.and_eq_true,List.all_eq_true] at hB; obtain ⟨xs,n,hn,hxe,hl,hxl,hf⟩:=DataW.trod_struct hu h; rw [<- hl] at hB; have hlaid:∀ (o:Nat) (gs:List Field),laidFrom P o gs cs.length = true->∀ f ∈ gs,f.offset + P.cellsOf f.type<=cs.length:=by
   intro o gs
   induction gs generalizing o with
   | nil=>intro _ f hf; simp at hf
   | cons g gs ihg =>
    intro hl f hf
    simp only [laidFrom,Bool.and_eq_true,beq_iff_eq] at hl; have mono:∀ (gs:List Field) (o:Nat),laidFrom P o gs cs.length = true->o<=cs.length:=by
     intro gs
     induction gs with
     | nil=>intro o h; simp [laidFrom] at h; omega
     | cons g gs ihm=>intro o h; simp only [laidFrom,Bool.and_eq_true,beq_iff_eq] at h; have:=ihm _ h.2; omega
    rcases List.mem_cons.1 hf with rfl | hf
    ·have:=mono _ _ hl.2; omega
    ·exact ihg _ hl.2 f hf
  obtain ⟨parts,g1,g2,g3⟩:=parts_of (P:=P) (M:=w.cell?) (cs:=cs) fs.toList 0 hB.1 (Nat.zero_le _) (λf hf'=>by
   obtain ⟨i,hi,rfl⟩:=List.getElem_of_mem hf'; have hi':i < fs.size:=by simpa using hi
   have hfi:fs[i]? = some fs.toList[i]:=by rw [Array.getElem?_eq_getElem hi']; simp
   have hx:=hf i _ hfi; rw [gEe (show i < xs.length by omega)] at hx; obtain ⟨ds,hv,ho⟩:=ih n _ _ _ (by omega) (by simpa using hB.2 _ hf') hx (λm hm=>hwt m (by
    rw [hxe]; simp only [DataW.weights,hu]; exact DataW.weights_mem_each (j:=i) (by rw [List.getElem?_map,gEe hi]; rfl) (by rw [List.getElem?_map,gEe (show i < xs.length by omega)]; rfl) m hm))
   have hle:=hlaid 0 _ hB.1 _ hf'; exact ⟨ds,hv,ho,by rw [hv.1,List.length_take,List.length_drop]; omega⟩)
  exact ⟨parts.flatten,by simpa using g3,.st hu (by simpa using g1) (λi f c hfi hc=>g2 i f c (by simpa using hfi) hc)⟩
 ·cases hB
def ArgD (P:Program) (t:TypeId) (a:AV):Prop:=
 ∃ ds,TyD P t ds/\(((∃ fs,P.underlying t = some (.struct fs))/\a = .agg (ds.map .d))\/(∀ fs,P.underlying t ≠ some (.struct fs))/\∃ x,ds = [x]/\a = .d x)
theorem read_val {L:List TypeId} (hL:dataB P L = true) {r:Go.Reach} {b0:Nat} {t:TypeId} {v:Value} {d:DataW H} {p:List MemPlace} (ht:t ∈ L) (hv:Value.okWide P w r b0 t v) (h:DataW.Trod enc P w base spare held t v d p) (hwt:∀ n ∈ d.weights P t,n<=reachBytes) :
 ∃ a,ArgD P t a/\VR ⟨w.cell?,λ_ _=>none,[]⟩ a v:=by
 obtain ⟨fuel,hf⟩:=h; obtain ⟨ds,h1,h2⟩:=read_ty hL _ fuel t _ _ (Nat.lt_succ_self _) ht hf hwt; have hB:=List.all_eq_true.1 hL t ht; have fin:∀ x,(∀ fs,P.underlying t ≠ some (.struct fs))->ds = [x]->v.cells.toList = [v]->∃ a,ArgD P t a/\VR ⟨w.cell?,λ_ _=>none,[]⟩ a v:=λx hn hx hc =>
  ⟨.d x,⟨ds,h2,.inr ⟨hn,x,hx,rfl⟩⟩,.d (h1.2 0 x v (by rw [hx]; rfl) (by rw [hc]; rfl))⟩
 cases h2 with
 | bool hu=>obtain ⟨b,rfl⟩:=okWide_bool hu hv; exact fin _ (λfs hc=>by rw [hu] at hc; cases hc) rfl rfl
 | int hu hw=>obtain ⟨b,rfl⟩:=okWide_int hu hv; exact fin _ (λfs hc=>by rw [hu] at hc; cases hc) rfl rfl
 | str hu hw=>obtain ⟨b,rfl⟩:=okWide_string hu hv; exact fin _ (λfs hc=>by rw [hu] at hc; cases hc) rfl rfl
 | sl hu hw hc=>obtain ⟨b,_,_,rfl⟩:=okWide_slice hu hv; exact fin _ (λfs hc=>by rw [hu] at hc; cases hc) rfl rfl
 | st hu hl hp =>
  rename_i fs parts
  obtain ⟨cs,rfl,_⟩:=okWide_struct hu hv; refine ⟨.agg (parts.flatten.map .d),⟨_,.st hu hl hp,.inl ⟨⟨_,hu⟩,rfl⟩⟩,?_⟩; have h1':VDs w.cell? parts.flatten cs.toList:=h1; have:=VR.agg (σ:=⟨w.cell?,λ_ _=>none,[]⟩) (cs:=parts.flatten.map .d) (us:=cs.toList) (by rw [lnn]; exact h1'.1) (λi c u hc hu=>by
   rw [List.getElem?_map] at hc
   cases hd:parts.flatten[i]? with
   | none=>rw [hd] at hc; simp at hc
   | some d=>rw [hd] at hc; simp at hc; subst hc; exact .d (h1'.2 i d u hd hu))
  rw [show cs.toList.toArray = cs by simp] at this; exact this
end
section
variable {P:Program} {t:TypeId}
theorem TyD.int_inv {k:IntKind} {ds:List Dat} (ht:P.underlying t = some (.int k)) (h:TyD P t ds):∃ n,ds = [.v (.int k n)]/\(Lit.int k n).wf = true:=by
 cases h <;> simp_all
theorem TyD.bool_inv {ds:List Dat} (ht:P.underlying t = some .bool) (h:TyD P t ds):∃ b,ds = [.v (.bool b)]:=by
 cases h <;> simp_all
theorem TyD.str_inv {ds:List Dat} (ht:P.underlying t = some .string) (h:TyD P t ds):∃ s,ds = [.v (.string s)]/\s.size<=140737488355328:=by
 cases h <;> simp_all
theorem TyD.sl_inv {e:TypeId} {ds:List Dat} (ht:P.underlying t = some (.slice e)) (h:TyD P t ds):∃ es,ds = [.sl es]/\(es.length<=maxLen/\es.length * P.bytesOf e<=140737488355328)/\∀ c,c ∈ es->TyD P e c:=by
 cases h <;> simp_all
theorem ArgD.one {a:AV} (h:ArgD P t a) (hn:∀ fs,P.underlying t ≠ some (.struct fs)):∃ x,a = .d x/\TyD P t [x]:=by
 obtain ⟨ds,h1,⟨⟨fs,hf⟩,_⟩ | ⟨_,x,rfl,rfl⟩⟩:=h
 ·exact absurd hf (hn fs)
 ·exact ⟨x,rfl,h1⟩
theorem ArgD.int {k:IntKind} {a:AV} (h:ArgD P t a) (ht:P.underlying t = some (.int k)):∃ n,a = .d (.v (.int k n))/\(Lit.int k n).wf = true:=by
 obtain ⟨x,rfl,hx⟩:=h.one (λfs hc=>by rw [ht] at hc; cases hc); obtain ⟨n,e,hn⟩:=hx.int_inv ht
 cases e
 exact ⟨n,rfl,hn⟩
theorem ArgD.bool {a:AV} (h:ArgD P t a) (ht:P.underlying t = some .bool):∃ b,a = .d (.v (.bool b)):=by
 obtain ⟨x,rfl,hx⟩:=h.one (λfs hc=>by rw [ht] at hc; cases hc); obtain ⟨n,e⟩:=hx.bool_inv ht
 cases e
 exact ⟨n,rfl⟩
theorem ArgD.str {a:AV} (h:ArgD P t a) (ht:P.underlying t = some .string):∃ s,a = .d (.v (.string s))/\s.size<=140737488355328:=by
 obtain ⟨x,rfl,hx⟩:=h.one (λfs hc=>by rw [ht] at hc; cases hc); obtain ⟨n,e,hn⟩:=hx.str_inv ht
 cases e
 exact ⟨n,rfl,hn⟩
theorem ArgD.sl {e:TypeId} {a:AV} (h:ArgD P t a) (ht:P.underlying t = some (.slice e)):∃ es,a = .d (.sl es)/\(es.length<=maxLen/\es.length * P.bytesOf e<=140737488355328)/\∀ c,c ∈ es->TyD P e c:=by
 obtain ⟨x,rfl,hx⟩:=h.one (λfs hc=>by rw [ht] at hc; cases hc); obtain ⟨n,e,hn⟩:=hx.sl_inv ht
 cases e
 exact ⟨n,rfl,hn⟩
theorem ArgD.st {fs:Array Field} {a:AV} (h:ArgD P t a) (ht:P.underlying t = some (.struct fs)):∃ ds,a = .agg (ds.map .d)/\TyD P t ds:=by
 obtain ⟨ds,h1,⟨_,rfl⟩ | ⟨hn,_⟩⟩:=h
 ·exact ⟨ds,rfl,h1⟩
 ·exact absurd ht (hn fs)
end
end Go.Proofs.YtofpekbidngnfaaGreatDoor
