/-
  One's own library, part 11: walking by rewriting.
-/
import Derived.Test.YtofpekbidngnfaaGreatDoorYRead
set_option linter.unusedSectionVars false
set_option linter.unusedSimpArgs false
set_option linter.unusedVariables false
namespace Go.Proofs.YtofpekbidngnfaaGreatDoor
open Go.RowKit
theorem w_i64 {x:Int} (h0:-9223372036854775808<=x) (h1:x < 9223372036854775808):IntKind.i64.wrap x = x:=IntWalk.i64_in x (by omega)
theorem w_u8 (x:Int):IntKind.u8.wrap x = x % 256:=IntKind.wrap_u8 x
theorem w_u32 (x:Int):IntKind.u32.wrap x = x % 4294967296:=IntKind.wrap_u32 x
theorem w_u64 {x:Int} (h0:0<=x) (h1:x < 18446744073709551616):IntKind.u64.wrap x = x:=IntWalk.u64_in x (by omega)
theorem w_u16 {x:Int} (h0:0<=x) (h1:x < 65536):IntKind.u16.wrap x = x:=IntWalk.u16_in x (by omega)
theorem bits_u8:IntKind.u8.bits = 8:=rfl
theorem bits_u16:IntKind.u16.bits = 16:=rfl
theorem bits_u32:IntKind.u32.bits = 32:=rfl
theorem bits_u64:IntKind.u64.bits = 64:=rfl
theorem bits_i64:IntKind.i64.bits = 64:=rfl
theorem beqI (a b:Int):(a == b) = decide (a = b):=by by_cases h:a = b <;> simp [h]
theorem bneI (a b:Int):(a != b) = !decide (a = b):=by by_cases h:a = b <;> simp [h]
theorem leN_t {a b:Nat} (h:a<=b):(a<=b) = True:=eq_true h
theorem leN_f {a b:Nat} (h:b < a):(a<=b) = False:=eq_false (Nat.not_le_of_lt h)
theorem ltN_t {a b:Nat} (h:a < b):(a < b) = True:=eq_true h
theorem ltN_f {a b:Nat} (h:b<=a):(a < b) = False:=eq_false (Nat.not_lt_of_le h)
theorem leI_t {a b:Int} (h:a<=b):(a<=b) = True:=eq_true h
theorem leI_f {a b:Int} (h:b < a):(a<=b) = False:=eq_false (Int.not_le.2 h)
theorem ltI_t {a b:Int} (h:a < b):(a < b) = True:=eq_true h
theorem ltI_f {a b:Int} (h:b<=a):(a < b) = False:=eq_false (Int.not_lt.2 h)
theorem gtI (a b:Int):(a > b) = (b < a):=rfl
theorem geI (a b:Int):(a ≥ b) = (b<=a):=rfl
theorem eqN_t {a b:Nat} (h:a = b):(a = b) = True:=eq_true h
theorem eqN_f {a b:Nat} (h:a ≠ b):(a = b) = False:=eq_false h
theorem eqI_t {a b:Int} (h:a = b):(a = b) = True:=eq_true h
theorem eqI_f {a b:Int} (h:a ≠ b):(a = b) = False:=eq_false h
@[go_sem] theorem toNat_n (n:Nat):((n:Int)).toNat = n:=by omega
theorem mx_eq:maxLen = 9223372036854775807:=by decide
theorem tdiv_nn {a b:Int} (h:0<=a):a.tdiv b = a / b:=Int.tdiv_eq_ediv_of_nonneg h
theorem tmod_nn {a b:Int} (h:0<=a):a.tmod b = a % b:=Int.tmod_eq_emod_of_nonneg h
def Br (t:Bool) (p q:Prop):Prop:=(t = true->p)/\(t = false->q)
theorem Br.mk {t:Bool} {p q:Prop} (h1:t = true->p) (h2:t = false->q):Br t p q:=⟨h1,h2⟩
theorem Br.and {a b:Bool} {p q:Prop} (h:Br a (Br b p q) q):Br (a && b) p q:=by
 cases a <;> cases b <;> simpa [Br] using h
theorem Br.or {a b:Bool} {p q:Prop} (h:Br a p (Br b p q)):Br (a || b) p q:=by
 cases a <;> cases b <;> simpa [Br] using h
theorem Br_true {p q:Prop}:Br true p q = p:=by simp [Br]
theorem Br_false {p q:Prop}:Br false p q = q:=by simp [Br]
def Lz (f:List AV->List ABlk->Prop) (s:List AV) (H:List ABlk):Prop:=f s H
theorem Br_lt {f:List AV->List ABlk->Prop} {s:List AV} {H:List ABlk} {q:Prop}:Br true (Lz f s H) q = f s H:=Br_true
theorem Br_lf {f:List AV->List ABlk->Prop} {s:List AV} {H:List ABlk} {p:Prop}:Br false p (Lz f s H) = f s H:=Br_false
theorem Br_not {t:Bool} {p q:Prop}:Br (!t) p q = Br t q p:=by cases t <;> simp [Br]
@[congr] theorem Br.cong {t t':Bool} {p q:Prop} (h:t = t'):Br t p q = Br t' p q:=by rw [h]
theorem Br.dec {c:Prop} [Decidable c] {f g:List AV->List ABlk->Prop} {s s':List AV} {H H':List ABlk} (h1:c->f s H) (h2:¬ c->g s' H'):Br (decide c) (Lz f s H) (Lz g s' H'):=⟨λh=>h1 (of_decide_eq_true h),λh=>h2 (of_decide_eq_false h)⟩
def GBr (x:AV) (b:Bool) (p q:Prop):Prop:=
 match x with
 | .d (.v (.bool t))=>Br t (if b then p else q) (if b then q else p)
 | .tup []=>q
 | _=>False
theorem GBr_t {t:Bool} {p q:Prop}:GBr (.d (.v (.bool t))) true p q = Br t p q:=rfl
theorem GBr_f {t:Bool} {p q:Prop}:GBr (.d (.v (.bool t))) false p q = Br t q p:=rfl
theorem GBr_u {b:Bool} {p:Prop} {f:List AV->List ABlk->Prop} {s:List AV} {H:List ABlk}:GBr (.tup []) b p (Lz f s H) = f s H:=rfl
@[congr] theorem GBr.cong {x x':AV} {b:Bool} {p q:Prop} (h:x = x'):GBr x b p q = GBr x' b p q:=by rw [h]
def CBr (x:AV) (p q:Prop):Prop:=
 match x with
 | .d (.v (.bool t))=>Br t p q
 | .ub=>p/\q
 | _=>False
theorem CBr_u {p q:Prop}:CBr .ub p q = (p/\q):=rfl
theorem CBr.ub {f g:List AV->List ABlk->Prop} {s s':List AV} {H H':List ABlk} (h1:f s H) (h2:g s' H'):CBr .ub (Lz f s H) (Lz g s' H'):=⟨h1,h2⟩
theorem CBr_t {t:Bool} {p q:Prop}:CBr (.d (.v (.bool t))) p q = Br t p q:=rfl
@[congr] theorem CBr.cong {x x':AV} {p q:Prop} (h:x = x'):CBr x p q = CBr x' p q:=by rw [h]
section
variable {P:Program} {hint:Nat->Option Md} {nb:Nat}
def kS (P:Program) (d:Option Nat) (k:K) (r:List Ins) (Kk:List AV->List ABlk->Prop) (s:List AV) (H:List ABlk):Prop:=Stp P d k none r s H Kk
def kU (P:Program) (d:Option Nat) (r:List Ins) (Kk:List AV->List ABlk->Prop) (s:List AV) (H:List ABlk):Prop:=wpIns P r (setO s d (.tup [])) H Kk
def kC (P:Program) (f:FuncId) (args:List Opd) (d:Option Nat) (r:List Ins) (Kk:List AV->List ABlk->Prop) (s:List AV) (H:List ABlk):Prop:=ACalls P f (args.map (get s)) H (Cont P r s d Kk)
def pS (P:Program) (d:Option Nat) (k:K) (r:List Ins) (Kk:List AV->List ABlk->Prop) (s:List AV) (H:List ABlk):Prop:=PStp P d k none r s H Kk
def pU (P:Program) (d:Option Nat) (r:List Ins) (Kk:List AV->List ABlk->Prop) (s:List AV) (H:List ABlk):Prop:=PChain P r (setO s d (.tup [])) H Kk
def pC (P:Program) (f:FuncId) (args:List Opd) (d:Option Nat) (r:List Ins) (Kk:List AV->List ABlk->Prop) (s:List AV) (H:List ABlk):Prop:=PCont P f (args.map (get s)) r s d H Kk
theorem kS_a {d:Option Nat} {k:K} {r:List Ins} {Kk:List AV->List ABlk->Prop} {s:List AV} {H:List ABlk}:kS P d k r Kk s H = Stp P d k none r s H Kk:=propext ⟨λh=>h,λh=>h⟩
theorem kU_a {d:Option Nat} {r:List Ins} {Kk:List AV->List ABlk->Prop} {s:List AV} {H:List ABlk}:kU P d r Kk s H = wpIns P r (setO s d (.tup [])) H Kk:=propext ⟨λh=>h,λh=>h⟩
theorem kC_a {f:FuncId} {args:List Opd} {d:Option Nat} {r:List Ins} {Kk:List AV->List ABlk->Prop} {s:List AV} {H:List ABlk}:kC P f args d r Kk s H = ACalls P f (args.map (get s)) H (Cont P r s d Kk):=propext ⟨λh=>h,λh=>h⟩
theorem pS_a {d:Option Nat} {k:K} {r:List Ins} {Kk:List AV->List ABlk->Prop} {s:List AV} {H:List ABlk}:pS P d k r Kk s H = PStp P d k none r s H Kk:=propext ⟨λh=>h,λh=>h⟩
theorem pU_a {d:Option Nat} {r:List Ins} {Kk:List AV->List ABlk->Prop} {s:List AV} {H:List ABlk}:pU P d r Kk s H = PChain P r (setO s d (.tup [])) H Kk:=propext ⟨λh=>h,λh=>h⟩
theorem pC_a {f:FuncId} {args:List Opd} {d:Option Nat} {r:List Ins} {Kk:List AV->List ABlk->Prop} {s:List AV} {H:List ABlk}:pC P f args d r Kk s H = PCont P f (args.map (get s)) r s d H Kk:=propext ⟨λh=>h,λh=>h⟩
theorem Stp_g {d:Option Nat} {k:K} {g:Nat × Bool} {r:List Ins} {s:List AV} {H:List ABlk} {Kk:List AV->List ABlk->Prop} :
 Stp P d k (some g) r s H Kk = GBr (s.getD g.1 .any) g.2 (Lz (kS P d k r Kk) s H) (Lz (kU P d r Kk) s H):=by
 obtain ⟨g,b⟩:=g
 unfold Stp; rw [show wanted s (some (g,b)) = (match s.getD g .any with | .d (.v (.bool t))=>some (t == b) | .tup []=>some false | _=>none) from rfl]
 unfold GBr
 simp only
 generalize s.getD g .any = X
 match X,b with
 | .d (.v (.bool true)),true=>exact Br_true.symm
 | .d (.v (.bool false)),true=>exact Br_false.symm
 | .d (.v (.bool true)),false=>exact Br_true.symm
 | .d (.v (.bool false)),false=>exact Br_false.symm
 | .tup [],_=>rfl
 | .tup (_ :: _),_=>rfl
 | .any,_=>rfl
 | .ub,_=>rfl
 | .d (.sl _),_=>rfl
 | .d (.v (.int _ _)),_=>rfl
 | .d (.v (.float _ _)),_=>rfl
 | .d (.v (.complex _ _ _)),_=>rfl
 | .d (.v (.string _)),_=>rfl
 | .d (.v (.pointer _)),_=>rfl
 | .d (.v (.slice _ _ _)),_=>rfl
 | .d (.v (.map _)),_=>rfl
 | .d (.v (.chan _)),_=>rfl
 | .d (.v (.func _ _ _)),_=>rfl
 | .d (.v .nilFunc),_=>rfl
 | .d (.v (.iface _ _)),_=>rfl
 | .d (.v .nilIface),_=>rfl
 | .d (.v (.agg _)),_=>rfl
 | .d (.v (.tuple _)),_=>rfl
 | .agg _,_=>rfl
 | .nilp,_=>rfl
 | .mnil,_=>rfl
 | .ptr _ _,_=>rfl
 | .ip _,_=>rfl
 | .esl,_=>rfl
 | .gsl _ _ _,_=>rfl
 | .hsl _ _ _ _ _,_=>rfl
 | .mp _,_=>rfl
 | .fn _ _,_=>rfl
 | .fnb _ _,_=>rfl
 | .ifc _ _,_=>rfl
theorem PStp_g {d:Option Nat} {k:K} {g:Nat × Bool} {r:List Ins} {s:List AV} {H:List ABlk} {Kk:List AV->List ABlk->Prop} :
 PStp P d k (some g) r s H Kk = GBr (s.getD g.1 .any) g.2 (Lz (pS P d k r Kk) s H) (Lz (pU P d r Kk) s H):=by
 obtain ⟨g,b⟩:=g
 unfold PStp; rw [show wanted s (some (g,b)) = (match s.getD g .any with | .d (.v (.bool t))=>some (t == b) | .tup []=>some false | _=>none) from rfl]
 unfold GBr
 simp only
 generalize s.getD g .any = X
 match X,b with
 | .d (.v (.bool true)),true=>exact Br_true.symm
 | .d (.v (.bool false)),true=>exact Br_false.symm
 | .d (.v (.bool true)),false=>exact Br_true.symm
 | .d (.v (.bool false)),false=>exact Br_false.symm
 | .tup [],_=>rfl
 | .tup (_ :: _),_=>rfl
 | .any,_=>rfl
 | .ub,_=>rfl
 | .d (.sl _),_=>rfl
 | .d (.v (.int _ _)),_=>rfl
 | .d (.v (.float _ _)),_=>rfl
 | .d (.v (.complex _ _ _)),_=>rfl
 | .d (.v (.string _)),_=>rfl
 | .d (.v (.pointer _)),_=>rfl
 | .d (.v (.slice _ _ _)),_=>rfl
 | .d (.v (.map _)),_=>rfl
 | .d (.v (.chan _)),_=>rfl
 | .d (.v (.func _ _ _)),_=>rfl
 | .d (.v .nilFunc),_=>rfl
 | .d (.v (.iface _ _)),_=>rfl
 | .d (.v .nilIface),_=>rfl
 | .d (.v (.agg _)),_=>rfl
 | .d (.v (.tuple _)),_=>rfl
 | .agg _,_=>rfl
 | .nilp,_=>rfl
 | .mnil,_=>rfl
 | .ptr _ _,_=>rfl
 | .ip _,_=>rfl
 | .esl,_=>rfl
 | .gsl _ _ _,_=>rfl
 | .hsl _ _ _ _ _,_=>rfl
 | .mp _,_=>rfl
 | .fn _ _,_=>rfl
 | .fnb _ _,_=>rfl
 | .ifc _ _,_=>rfl
def PEv (P:Program) (d:Option Nat) (o:Option (AV × List ABlk)) (r:List Ins) (s:List AV) (H:List ABlk) (Kk:List AV->List ABlk->Prop):Prop:=
 match o with
 | some (v,H')=>H' = H/\PChain P r (setO s d v) H Kk
 | none=>False
theorem PEv_some {d:Option Nat} {v:AV} {H H':List ABlk} {r:List Ins} {s:List AV} {Kk:List AV->List ABlk->Prop}:PEv P d (some (v,H')) r s H Kk = (H' = H/\PChain P r (setO s d v) H Kk):=propext ⟨λh=>h,λh=>h⟩
@[congr] theorem PEv.cong {d:Option Nat} {o o':Option (AV × List ABlk)} {r:List Ins} {s:List AV} {H:List ABlk} {Kk:List AV->List ABlk->Prop} (h:o = o'):PEv P d o r s H Kk = PEv P d o' r s H Kk:=by rw [h]
theorem PStp_n {d:Option Nat} {k:K} {r:List Ins} {s:List AV} {H:List ABlk} {Kk:List AV->List ABlk->Prop}:PStp P d k none r s H Kk = PEv P d (evK k s H) r s H Kk:=propext ⟨λh=>h,λh=>h⟩
def Ev (P:Program) (d:Option Nat) (o:Option (AV × List ABlk)) (r:List Ins) (s:List AV) (Kk:List AV->List ABlk->Prop):Prop:=
 match o with
 | some (v,H')=>wpIns P r (setO s d v) H' Kk
 | none=>False
theorem Ev_some {d:Option Nat} {v:AV} {H':List ABlk} {r:List Ins} {s:List AV} {Kk:List AV->List ABlk->Prop}:Ev P d (some (v,H')) r s Kk = wpIns P r (setO s d v) H' Kk:=propext ⟨λh=>h,λh=>h⟩
@[congr] theorem Ev.cong {d:Option Nat} {o o':Option (AV × List ABlk)} {r:List Ins} {s:List AV} {Kk:List AV->List ABlk->Prop} (h:o = o'):Ev P d o r s Kk = Ev P d o' r s Kk:=by rw [h]
theorem Stp_n {d:Option Nat} {k:K} {r:List Ins} {s:List AV} {H:List ABlk} {Kk:List AV->List ABlk->Prop}:Stp P d k none r s H Kk = Ev P d (evK k s H) r s Kk:=propext ⟨λh=>h,λh=>h⟩
theorem wpIns_callg' {d:Option Nat} {f:FuncId} {args:List Opd} {g:Nat × Bool} {r:List Ins} {s:List AV} {H:List ABlk} {Kk:List AV->List ABlk->Prop} :
 wpIns P (⟨d,.call f args,some g⟩ :: r) s H Kk = GBr (s.getD g.1 .any) g.2 (Lz (kC P f args d r Kk) s H) (Lz (kU P d r Kk) s H):=by
 obtain ⟨g,b⟩:=g; rw [wpIns_callg,show wanted s (some (g,b)) = (match s.getD g .any with | .d (.v (.bool t))=>some (t == b) | .tup []=>some false | _=>none) from rfl]
 unfold GBr
 simp only
 generalize s.getD g .any = X
 match X,b with
 | .d (.v (.bool true)),true=>exact Br_true.symm
 | .d (.v (.bool false)),true=>exact Br_false.symm
 | .d (.v (.bool true)),false=>exact Br_true.symm
 | .d (.v (.bool false)),false=>exact Br_false.symm
 | .tup [],_=>rfl
 | .tup (_ :: _),_=>rfl
 | .any,_=>rfl
 | .ub,_=>rfl
 | .d (.sl _),_=>rfl
 | .d (.v (.int _ _)),_=>rfl
 | .d (.v (.float _ _)),_=>rfl
 | .d (.v (.complex _ _ _)),_=>rfl
 | .d (.v (.string _)),_=>rfl
 | .d (.v (.pointer _)),_=>rfl
 | .d (.v (.slice _ _ _)),_=>rfl
 | .d (.v (.map _)),_=>rfl
 | .d (.v (.chan _)),_=>rfl
 | .d (.v (.func _ _ _)),_=>rfl
 | .d (.v .nilFunc),_=>rfl
 | .d (.v (.iface _ _)),_=>rfl
 | .d (.v .nilIface),_=>rfl
 | .d (.v (.agg _)),_=>rfl
 | .d (.v (.tuple _)),_=>rfl
 | .agg _,_=>rfl
 | .nilp,_=>rfl
 | .mnil,_=>rfl
 | .ptr _ _,_=>rfl
 | .ip _,_=>rfl
 | .esl,_=>rfl
 | .gsl _ _ _,_=>rfl
 | .hsl _ _ _ _ _,_=>rfl
 | .mp _,_=>rfl
 | .fn _ _,_=>rfl
 | .fnb _ _,_=>rfl
 | .ifc _ _,_=>rfl
theorem PChain_callg' {d:Option Nat} {f:FuncId} {args:List Opd} {g:Nat × Bool} {r:List Ins} {s:List AV} {H:List ABlk} {Kk:List AV->List ABlk->Prop} :
 PChain P (⟨d,.call f args,some g⟩ :: r) s H Kk = GBr (s.getD g.1 .any) g.2 (Lz (pC P f args d r Kk) s H) (Lz (pU P d r Kk) s H):=by
 obtain ⟨g,b⟩:=g; rw [PChain_callg,show wanted s (some (g,b)) = (match s.getD g .any with | .d (.v (.bool t))=>some (t == b) | .tup []=>some false | _=>none) from rfl]
 unfold GBr
 simp only
 generalize s.getD g .any = X
 match X,b with
 | .d (.v (.bool true)),true=>exact Br_true.symm
 | .d (.v (.bool false)),true=>exact Br_false.symm
 | .d (.v (.bool true)),false=>exact Br_true.symm
 | .d (.v (.bool false)),false=>exact Br_false.symm
 | .tup [],_=>rfl
 | .tup (_ :: _),_=>rfl
 | .any,_=>rfl
 | .ub,_=>rfl
 | .d (.sl _),_=>rfl
 | .d (.v (.int _ _)),_=>rfl
 | .d (.v (.float _ _)),_=>rfl
 | .d (.v (.complex _ _ _)),_=>rfl
 | .d (.v (.string _)),_=>rfl
 | .d (.v (.pointer _)),_=>rfl
 | .d (.v (.slice _ _ _)),_=>rfl
 | .d (.v (.map _)),_=>rfl
 | .d (.v (.chan _)),_=>rfl
 | .d (.v (.func _ _ _)),_=>rfl
 | .d (.v .nilFunc),_=>rfl
 | .d (.v (.iface _ _)),_=>rfl
 | .d (.v .nilIface),_=>rfl
 | .d (.v (.agg _)),_=>rfl
 | .d (.v (.tuple _)),_=>rfl
 | .agg _,_=>rfl
 | .nilp,_=>rfl
 | .mnil,_=>rfl
 | .ptr _ _,_=>rfl
 | .ip _,_=>rfl
 | .esl,_=>rfl
 | .gsl _ _ _,_=>rfl
 | .hsl _ _ _ _ _,_=>rfl
 | .mp _,_=>rfl
 | .fn _ _,_=>rfl
 | .fnb _ _,_=>rfl
 | .ifc _ _,_=>rfl
def CallV (P:Program) (x:AV) (args:List AV) (r:List Ins) (s:List AV) (d:Option Nat) (H:List ABlk) (Kk:List AV->List ABlk->Prop):Prop:=
 match x with
 | .fn f caps=>callOk P f = true/\ACalls P f (args ++ caps) H (Cont P r s d Kk)
 | .fnb f first=>callOk P f = true/\ACalls P f (first ++ args) H (Cont P r s d Kk)
 | _=>False
theorem CallV_fn {f:FuncId} {caps args:List AV} {r:List Ins} {s:List AV} {d:Option Nat} {H:List ABlk} {Kk:List AV->List ABlk->Prop}:CallV P (.fn f caps) args r s d H Kk = (callOk P f = true/\ACalls P f (args ++ caps) H (Cont P r s d Kk)):=rfl
theorem wpIns_callv' {d:Option Nat} {f:Opd} {args:List Opd} {r:List Ins} {s:List AV} {H:List ABlk} {Kk:List AV->List ABlk->Prop} :
 wpIns P (⟨d,.callv f args,none⟩ :: r) s H Kk = CallV P (get s f) (args.map (get s)) r s d H Kk:=by
 rw [wpIns_callv]; simp only [wanted]
 cases hx:get s f <;> simp [CallV]
def wpA (P:Program) (hint:Nat->Option Md) (nb:Nat):AC->List AV->List ABlk->APost->Prop
 | .skip,s,H,Q=>Q .normal s H
 | .reg l,s,H,Q=>wpIns P l s H (Q .normal)
 | .dreg pr l,s,H,Q=>W P hint nb (.dreg pr l) s H Q
 | .seq a b,s,H,Q=>wpA P hint nb a s H (APost.then (λs' H'=>wpA P hint nb b s' H' Q) Q)
 | .cond x a b,s,H,Q=>CBr (get s x) (wpA P hint nb a s H Q) (wpA P hint nb b s H Q)
 | .block id c,s,H,Q=>wpA P hint nb c s H (APost.inBlock id Q)
 | .loop c,s,H,Q=>W P hint nb (.loop c) s H Q
 | .exit id,s,H,Q=>Q (.exit id) s H
 | .ret,s,H,Q=>Q .ret s H
 | .stuck,_,_,_=>False
theorem PChain.mono {l:List Ins}:∀ {s:List AV} {H:List ABlk} {K K':List AV->List ABlk->Prop},PChain P l s H K->(∀ s H,K s H->K' s H)->PChain P l s H K':=by
 induction l with
 | nil=>intro s H K K' h hk; exact hk _ _ h
 | cons i r ih =>
  intro s H K K' h hk
  simp only [PChain] at h ⊢
  split
  ·rename_i hw
   rw [hw] at h; simp only at h
   split
   ·rename_i f args e
    rw [e] at h; obtain ⟨v,h1,h2⟩:=h; exact ⟨v,h1,ih h2 hk⟩
   ·rename_i g args e
    rw [e] at h; simp only at h
    split
    ·rename_i f caps e2
     rw [e2] at h; obtain ⟨v,h0,h1,h2⟩:=h; exact ⟨v,h0,h1,ih h2 hk⟩
    ·rename_i hne
     split at h
     ·rename_i f caps e2; exact absurd e2 (hne f caps)
     ·exact h
   ·rename_i k h1 h2
    split at h
    ·rename_i f args e; exact absurd e (h1 f args)
    ·rename_i g args e; exact absurd e (h2 g args)
    ·split
     ·rename_i v H' e
      rw [e] at h; exact ⟨h.1,ih h.2 hk⟩
     ·rename_i e
      rw [e] at h; exact h
  ·rename_i hw
   rw [hw] at h; exact ih h hk
  ·rename_i hw
   rw [hw] at h; exact h
theorem wpA.W:∀ {ac:AC} {s:List AV} {H:List ABlk} {Q:APost},wpA P hint nb ac s H Q->Go.Proofs.YtofpekbidngnfaaGreatDoor.W P hint nb ac s H Q
 | .skip,_,_,_,h=>.skip h
 | .reg _,_,_,_,h=>.reg h
 | .dreg _ _,_,_,_,h=>h
 | .seq a b,s,H,Q,h=>by
  refine .seq ((wpA.W (ac:=a) h).mono λe s H k=>?_)
  cases e with
  | normal=>exact wpA.W (ac:=b) k
  | _=>exact k
 | .cond x a b,s,H,Q,h=>by
  simp only [wpA] at h
  cases hx:Go.Proofs.YtofpekbidngnfaaGreatDoor.get s x with
  | ub =>
   rw [hx,CBr_u] at h; exact .cond2 hx (wpA.W h.1) (wpA.W h.2)
  | d y =>
   cases y with
   | v z =>
    cases z with
    | bool t =>
     rw [hx,CBr_t] at h; exact .cond t hx (λht=>wpA.W (h.1 ht)) (λht=>wpA.W (h.2 ht))
    | _=>rw [hx] at h; exact h.elim
   | _=>rw [hx] at h; exact h.elim
  | _=>rw [hx] at h; exact h.elim
 | .block _ c,_,_,_,h=>.block (wpA.W (ac:=c) h)
 | .loop _,_,_,_,h=>h
 | .exit _,_,_,_,h=>.exit h
 | .ret,_,_,_,h=>.ret h
 | .stuck,_,_,_,h=>h.elim
def kA (P:Program) (hint:Nat->Option Md) (nb:Nat) (ac:AC) (Q:APost) (s:List AV) (H:List ABlk):Prop:=wpA P hint nb ac s H Q
theorem kA_a {ac:AC} {Q:APost} {s:List AV} {H:List ABlk}:kA P hint nb ac Q s H = wpA P hint nb ac s H Q:=propext ⟨λh=>h,λh=>h⟩
theorem wpA_skip {s:List AV} {H:List ABlk} {Q:APost}:wpA P hint nb .skip s H Q = Q .normal s H:=propext ⟨λh=>h,λh=>h⟩
theorem wpA_reg {l:List Ins} {s:List AV} {H:List ABlk} {Q:APost}:wpA P hint nb (.reg l) s H Q = wpIns P l s H (Q .normal):=propext ⟨λh=>h,λh=>h⟩
theorem wpA_dreg {pr:List (List Nat)} {l:List Ins} {s:List AV} {H:List ABlk} {Q:APost}:wpA P hint nb (.dreg pr l) s H Q = Go.Proofs.YtofpekbidngnfaaGreatDoor.W P hint nb (.dreg pr l) s H Q:=propext ⟨λh=>h,λh=>h⟩
theorem wpA_seq {a b:AC} {s:List AV} {H:List ABlk} {Q:APost}:wpA P hint nb (.seq a b) s H Q = wpA P hint nb a s H (APost.then (kA P hint nb b Q) Q):=propext ⟨λh=>h,λh=>h⟩
theorem wpA_cond {x:Opd} {a b:AC} {s:List AV} {H:List ABlk} {Q:APost}:wpA P hint nb (.cond x a b) s H Q = CBr (get s x) (Lz (kA P hint nb a Q) s H) (Lz (kA P hint nb b Q) s H):=propext ⟨λh=>h,λh=>h⟩
theorem wpA_block {id:Nat} {c:AC} {s:List AV} {H:List ABlk} {Q:APost}:wpA P hint nb (.block id c) s H Q = wpA P hint nb c s H (APost.inBlock id Q):=propext ⟨λh=>h,λh=>h⟩
theorem wpA_loop {c:AC} {s:List AV} {H:List ABlk} {Q:APost}:wpA P hint nb (.loop c) s H Q = Go.Proofs.YtofpekbidngnfaaGreatDoor.W P hint nb (.loop c) s H Q:=propext ⟨λh=>h,λh=>h⟩
theorem wpA_exit {id:Nat} {s:List AV} {H:List ABlk} {Q:APost}:wpA P hint nb (.exit id) s H Q = Q (.exit id) s H:=propext ⟨λh=>h,λh=>h⟩
theorem wpA_ret {s:List AV} {H:List ABlk} {Q:APost}:wpA P hint nb .ret s H Q = Q .ret s H:=propext ⟨λh=>h,λh=>h⟩
@[congr] theorem wpA.cong {ac:AC} {s s':List AV} {H H':List ABlk} {Q:APost} (h1:s = s') (h2:H = H'):wpA P hint nb ac s H Q = wpA P hint nb ac s' H' Q:=by rw [h1,h2]
theorem then_n {n:List AV->List ABlk->Prop} {Q:APost} {s:List AV} {H:List ABlk}:APost.then n Q .normal s H = n s H:=propext ⟨λh=>h,λh=>h⟩
theorem then_r {n:List AV->List ABlk->Prop} {Q:APost} {s:List AV} {H:List ABlk}:APost.then n Q .ret s H = Q .ret s H:=propext ⟨λh=>h,λh=>h⟩
theorem then_e {n:List AV->List ABlk->Prop} {Q:APost} {s:List AV} {H:List ABlk} {id:Nat}:APost.then n Q (.exit id) s H = Q (.exit id) s H:=propext ⟨λh=>h,λh=>h⟩
theorem inB_n {id:Nat} {Q:APost} {s:List AV} {H:List ABlk}:APost.inBlock id Q .normal s H = Q .normal s H:=propext ⟨λh=>h,λh=>h⟩
theorem inB_r {id:Nat} {Q:APost} {s:List AV} {H:List ABlk}:APost.inBlock id Q .ret s H = Q .ret s H:=propext ⟨λh=>h,λh=>h⟩
theorem inB_e {id:Nat} {Q:APost} {s:List AV} {H:List ABlk}:APost.inBlock id Q (.exit id) s H = Q .normal s H:=by simp [APost.inBlock]
def Ret (rs:List RC) (nb:Nat) (R:AV->List ABlk->Prop) (o:Option AV) (H:List ABlk):Prop:=∃ v,o = some v/\∃ v0 H0,Wk nb [v] H [v0] H0/\R v0 H0
theorem retW_r {rs:List RC} {R:AV->List ABlk->Prop} {s:List AV} {H:List ABlk}:retW rs nb R .ret s H = Ret rs nb R (resA rs s H) H:=propext ⟨λh=>h,λh=>h⟩
theorem retW_n {rs:List RC} {R:AV->List ABlk->Prop} {s:List AV} {H:List ABlk}:retW rs nb R .normal s H = Ret rs nb R (resA rs s H) H:=propext ⟨λh=>h,λh=>h⟩
@[congr] theorem Ret.cong {rs:List RC} {R:AV->List ABlk->Prop} {o o':Option AV} {H H':List ABlk} (h:o = o') (h2:H = H'):Ret rs nb R o H = Ret rs nb R o' H':=by rw [h,h2]
theorem Ret.keep {rs:List RC} {R:AV->List ABlk->Prop} {v:AV} {H:List ABlk} (h:R v H):Ret rs nb R (some v) H:=⟨v,rfl,v,H,Wk.refl,h⟩
theorem Ret.drop {rs:List RC} {R:AV->List ABlk->Prop} {v:AV} {l:List ABlk} (v0:AV) (H0:List ABlk) (hn:nb<=H0.length) (hc:cl H0) (hv:Wk1 v v0) (hr:∀ r ∈ refs v0,r < H0.length) (h:R v0 H0):Ret rs nb R (some v) (H0 ++ l):=
 ⟨v,rfl,v0,H0,Wk.drop (.cons hv .nil) hn hc (λr hr'=>hr r (by simpa [refs.refsL] using hr')),h⟩
theorem Ret.pre {rs:List RC} {R:AV->List ABlk->Prop} {v:AV} {H:List ABlk} (v0:AV) (H0:List ABlk) (hp:H0 <+: H) (hn:nb<=H0.length) (hc:cl H0) (hv:Wk1 v v0) (hr:∀ r ∈ refs v0,r < H0.length) (h:R v0 H0):Ret rs nb R (some v) H:=by
 obtain ⟨l,rfl⟩:=hp; exact .drop v0 H0 hn hc hv hr h
theorem pre_set {H0 H:List ABlk} (hp:H0 <+: H) {b:Nat} (hb:H0.length<=b) (x:ABlk):H0 <+: H.set b x:=by
 obtain ⟨l,rfl⟩:=hp; rw [List.set_append_right _ _ hb]; exact List.prefix_append _ _
theorem Ret.weak {rs:List RC} {R:AV->List ABlk->Prop} {v:AV} {H:List ABlk} (v0:AV) (hv:Wk1 v v0) (h:R v0 H):Ret rs nb R (some v) H:=⟨v,rfl,v0,H,Wk.slots (.cons hv .nil),h⟩
theorem Ret.ghost {rs:List RC} {R:AV->List ABlk->Prop} {H:List ABlk} (sz:Nat) (h:R (.hsl H.length 0 0 0 sz) (H ++ [.cells []])):Ret rs nb R (some .esl) H:=⟨_,rfl,_,_,Wk.ghost (s:=[.esl]) 0 sz rfl,h⟩
theorem Wk.dead {s:List AV} {H:List ABlk}:Wk nb s H s (H ++ [.dead]):=λa σ w hr hs=>by
 refine ⟨σ,⟨λ_ _ h=>h,λ_ _ _ _ h=>h,rfl,rfl,rfl,Nat.le_refl _,λ_ _ _=>rfl,?_,λ_ h=>absurd rfl h,λb _ hb=>?_,rfl⟩,?_,hs⟩
 ·rintro k ⟨b',blk,v,hb,hl,hφ,hc⟩
  by_cases e:b' = H.length
  ·subst e
   simp at hb; subst hb; cases hl
  ·rw [getElem?_concat_ne H _ e] at hb
   exact .inl ⟨b',blk,v,hb,hl,hφ,hc⟩
 ·exact dead_concat hb (λ_ _=>rfl)
 ·exact hr.turn (.refl σ) H.length .dead (λb hb=>getElem?_concat_ne H _ hb) (by simp) (by simp) (λ_ _ _=>rfl) hr.mem trivial λb k v g hb hk hl hv hc=>⟨rfl,λ_ _=>rfl,λv0 hd=>by cases hd⟩
theorem elems_d (H:List ABlk) (sz:Nat) (es:List (List Dat)):elemsA H sz (.d (.sl es)) = if es.all (λe=>e.length == sz) = true then some (es.map (·.map .d)) else none:=rfl
theorem elems_g (H:List ABlk) (sz b sz':Nat) (es:List (List Dat)):elemsA H sz (.gsl b sz' es) = if sz' = sz then some (es.map (·.map .d)) else none:=rfl
theorem elems_e (H:List ABlk) (sz:Nat):elemsA H sz .esl = some []:=rfl
theorem elems_s (H:List ABlk) (sz:Nat) (s:ByteArray):elemsA H sz (.d (.v (.string s))) = if sz = 1 then some (s.data.toList.map λb=>[AV.d (.v (.int .u8 b.toNat))]) else none:=rfl
theorem iaA_h {b off n cap sz' sz:Nat} {i:Int}:iaA (.hsl b off n cap sz') i sz = if 0<=i/\i < n/\sz' = sz then some (.ptr b (off + i.toNat * sz)) else none:=rfl
theorem nilA_e {neg:Bool}:nilA false neg .esl = some .ub:=rfl
theorem nilA_d0 {neg:Bool}:nilA false neg (.d (.sl [])) = some .ub:=rfl
theorem nilA_g0 {neg:Bool} {b z:Nat}:nilA false neg (.gsl b z []) = some .ub:=rfl
theorem nilA_h0 {neg:Bool} {b o c z:Nat}:nilA false neg (.hsl b o 0 c z) = some .ub:=rfl
theorem nilA_mn {neg:Bool}:nilA true neg .mnil = some (.d (.v (.bool !neg))):=rfl
theorem nilA_mp {neg:Bool} {b:Nat}:nilA true neg (.mp b) = some (.d (.v (.bool neg))):=rfl
theorem nilA_h {neg:Bool} {b o n c z:Nat} (h:0 < n):nilA false neg (.hsl b o n c z) = some (.d (.v (.bool neg))):=by
 cases n with
 | zero=>omega
 | succ n=>rfl
theorem nilA_d {neg:Bool} {es:List (List Dat)} (h:0 < es.length):nilA false neg (.d (.sl es)) = some (.d (.v (.bool neg))):=by
 cases es with
 | nil=>simp at h
 | cons e es=>rfl
theorem nilA_g {neg:Bool} {b z:Nat} {es:List (List Dat)} (h:0 < es.length):nilA false neg (.gsl b z es) = some (.d (.v (.bool neg))):=by
 cases es with
 | nil=>simp at h
 | cons e es=>rfl
theorem ACalls.into {f:FuncId} {fn:Func} {ac:AC} {rs:List RC} {args:List AV} {H:List ABlk} {R:AV->List ABlk->Prop} (hf:P.funcs[f]? = some fn) (hc:fn.body.bind (comp P hint) = some ac) (hrs:resC P fn = some rs)
 (hw:cl H->wpA P hint H.length ac (args ++ List.replicate (fn.ntmps - args.length) .any) H (retW rs H.length R)):ACalls P f args H R:=
 .enter hf hc hrs λh=>(hw h).W
theorem WkL.app {a b c d:List AV} (h:WkL a b) (k:WkL c d):WkL (a ++ c) (b ++ d):=by
 induction h with
 | nil=>exact k
 | cons h1 _ ih=>exact .cons h1 ih
theorem WkL.tail {h s:List AV} (k n:Nat) (h2:s.length = k + n) (h1:WkL (s.take k) h):WkL s (h ++ List.replicate n .any):=by
 have:=h1.app (WkL.any (s.drop k) (n:=n) (by simp; omega))
 rwa [List.take_append_drop] at this
theorem WkL.tw {s h S:List AV} {n:Nat} (k:Nat) (e:S = h ++ List.replicate n .any) (h2:s.length = k + n) (h1:WkL (s.take k) h):WkL s S:=by rw [e]; exact WkL.tail k n h2 h1
def Nxt {γ:Type} (nb:Nat) (me:γ->Nat) (S:γ->List AV) (Hp:γ->List ABlk) (I:γ->Prop) (m:Nat) (s:List AV) (H:List ABlk):Prop:=∃ g,me g < m/\Wk nb s H (S g) (Hp g)/\I g
theorem Nxt.mk {γ:Type} {me:γ->Nat} {S:γ->List AV} {Hp:γ->List ABlk} {I:γ->Prop} {m:Nat} {s:List AV} {H:List ABlk} (g:γ) (h1:me g < m) (h2:Wk nb s H (S g) (Hp g)) (h3:I g):Nxt nb me S Hp I m s H:=⟨g,h1,h2,h3⟩
@[congr] theorem Nxt.cong {γ:Type} {me:γ->Nat} {S:γ->List AV} {Hp:γ->List ABlk} {I:γ->Prop} {m:Nat} {s s':List AV} {H H':List ABlk} (h1:s = s') (h2:H = H'):Nxt nb me S Hp I m s H = Nxt nb me S Hp I m s' H':=by rw [h1,h2]
theorem W.loopG {γ:Type} {x:AC} {s:List AV} {H:List ABlk} {Q:APost} (me:γ->Nat) (S:γ->List AV) (Hp:γ->List ABlk) (I:γ->Prop) (g0:γ) (h0:Wk nb s H (S g0) (Hp g0)) (hI:I g0)
 (hr:∀ g,I g->wpA P hint nb x (S g) (Hp g) (APost.then (Nxt nb me S Hp I (me g)) Q)):Go.Proofs.YtofpekbidngnfaaGreatDoor.W P hint nb (.loop x) s H Q:=by
 refine .loop (λm s H=>∃ g,m = me g/\s = S g/\H = Hp g/\I g) (me g0) ⟨S g0,Hp g0,h0,g0,rfl,rfl,rfl,hI⟩ ?_; rintro n s H ⟨g,rfl,rfl,rfl,hg⟩; refine (hr g hg).W.mono λe s H k=>?_
 cases e with
 | normal =>
  obtain ⟨g',h1,h2,h3⟩:=k; exact ⟨_,h1,S g',Hp g',h2,g',rfl,rfl,rfl,h3⟩
 | _=>exact k
def EvK (o:Option (AV × List ABlk)) (Kk:AV->List ABlk->Prop):Prop:=
 match o with
 | some (v,G)=>Kk v G
 | none=>False
theorem EvK_some {v:AV} {G:List ABlk} {Kk:AV->List ABlk->Prop}:EvK (some (v,G)) Kk = Kk v G:=propext ⟨λh=>h,λh=>h⟩
@[congr] theorem EvK.cong {o o':Option (AV × List ABlk)} {Kk:AV->List ABlk->Prop} (h:o = o'):EvK o Kk = EvK o' Kk:=by rw [h]
def StW (P:Program) (l:List Ins) (b:Nat) (s:List AV) (H:List ABlk) (Kk:List AV->List ABlk->Prop):Prop:=
 match l with
 | [i]=>∃ v G,StepOk P i s H v G/\(∀ c,c ≠ b->G[c]? = H[c]?)/\H.length<=G.length/\Kk (setO s i.dst v) G
 | _=>False
@[congr] theorem StW.cong {l:List Ins} {b:Nat} {s s':List AV} {H H':List ABlk} {Kk:List AV->List ABlk->Prop} (h:s = s') (h2:H = H'):StW P l b s H Kk = StW P l b s' H' Kk:=by rw [h,h2]
theorem StW.st {d:Option Nat} {x v:Opd} {n b:Nat} {s:List AV} {H:List ABlk} {Kk:List AV->List ABlk->Prop} (off:Nat) (h:get s x = .ptr b off) (hk:EvK (evK (.st x v n) s H) λv' G=>Kk (setO s d v') G):StW P [⟨d,.st x v n,none⟩] b s H Kk:=by
 cases he:evK (.st x v n) s H with
 | none=>rw [he] at hk; exact hk.elim
 | some p =>
  obtain ⟨v',G⟩:=p; rw [he] at hk; refine ⟨v',G,by simp only [StepOk,wanted]; exact he,?_,?_,hk⟩
  all_goals
   simp only [evK,h,storeA] at he
   split at he
   ·split at he
    ·rename_i hst
     cases he
     split at hst
     ·split at hst
      ·cases hst
       first
        | (intro c hc; exact List.getElem?_set_ne (Ne.symm hc))
        | (rw [List.length_set]; exact Nat.le_refl _)
      ·cases hst
     ·cases hst
    ·cases he
   ·cases he
end
section
variable {P:Program} {Kk:List AV->List ABlk->Prop}
theorem StW.call {d:Option Nat} {f:FuncId} {args:List Opd} {b:Nat} {s:List AV} {H:List ABlk} {v:AV} {blk:ABlk} (h:ACalls P f (args.map (get s)) H λv' G'=>v' = v/\G' = H.set b blk)
 (hk:Kk (setO s d v) (H.set b blk)):StW P [⟨d,.call f args,none⟩] b s H Kk:=
 ⟨v,H.set b blk,by simp only [StepOk,wanted]; exact h,λc hc=>List.getElem?_set_ne (Ne.symm hc),by simp,hk⟩
end
section
variable {P:Program}
def WStep (P:Program) (w u:List Nat) (i:Ins) (s:List AV) (H:List ABlk) (Kk:List AV->List ABlk->Prop):Prop:=
 ∃ v G,StepOk P i s (kill u H) v (kill u G)/\(∀ c,c ∉ w->G[c]? = H[c]?)/\H.length<=G.length/\Kk (setO s i.dst v) G
def DC (P:Program):List (List Nat × List Nat)->List Ins->List AV->List ABlk->(List AV->List ABlk->Prop)->Prop
 | ([],u) :: Z,i :: r,s,H,Kk=>PChain P [i] s (kill u H) λs' _=>DC P Z r s' H Kk
 | (w :: ws,u) :: Z,i :: r,s,H,Kk=>WStep P (w :: ws) u i s H λs' H'=>DC P Z r s' H' Kk
 | _,_,s,H,Kk=>Kk s H
theorem DC_p {u:List Nat} {Z:List (List Nat × List Nat)} {i:Ins} {r:List Ins} {s:List AV} {H:List ABlk} {Kk:List AV->List ABlk->Prop}:DC P (([],u) :: Z) (i :: r) s H Kk = PChain P [i] s (kill u H) λs' _=>DC P Z r s' H Kk:=propext ⟨λh=>h,λh=>h⟩
@[go_sem] theorem DC_w {w:Nat} {ws u:List Nat} {Z:List (List Nat × List Nat)} {i:Ins} {r:List Ins} {s:List AV} {H:List ABlk} {Kk:List AV->List ABlk->Prop}:DC P ((w :: ws,u) :: Z) (i :: r) s H Kk = WStep P (w :: ws) u i s H λs' H'=>DC P Z r s' H' Kk:=propext ⟨λh=>h,λh=>h⟩
@[go_sem] theorem DC_n {s:List AV} {H:List ABlk} {Kk:List AV->List ABlk->Prop}:DC P [] [] s H Kk = Kk s H:=propext ⟨λh=>h,λh=>h⟩
@[congr] theorem DC.cong {Z:List (List Nat × List Nat)} {l:List Ins} {s s':List AV} {H H':List ABlk} {Kk:List AV->List ABlk->Prop} (h:s = s') (h2:H = H'):DC P Z l s H Kk = DC P Z l s' H' Kk:=by rw [h,h2]
@[congr] theorem WStep.cong {w u:List Nat} {i:Ins} {s s':List AV} {H H':List ABlk} {Kk:List AV->List ABlk->Prop} (h:s = s') (h2:H = H'):WStep P w u i s H Kk = WStep P w u i s' H' Kk:=by rw [h,h2]
theorem PChain.step1 {i:Ins} {s:List AV} {H:List ABlk} {Kk:List AV->List ABlk->Prop} (h:PChain P [i] s H Kk):∃ v,StepOk P i s H v H/\Kk (setO s i.dst v) H:=by
 simp only [PChain] at h
 split at h
 ·rename_i hw
  split at h
  ·rename_i f args e
   obtain ⟨v,h1,h2⟩:=h; exact ⟨v,by simp only [StepOk,hw,e]; exact h1,h2⟩
  ·rename_i g args e
   split at h
   ·rename_i f caps e2
    obtain ⟨v,h0,h1,h2⟩:=h; exact ⟨v,by simp only [StepOk,hw,e,e2]; exact ⟨h0,h1⟩,h2⟩
   ·exact h.elim
  ·rename_i x1 x2
   split at h
   ·rename_i v H' e
    obtain ⟨h1,h2⟩:=h; refine ⟨v,?_,h2⟩; rw [h1] at e; simp only [StepOk,hw]
    split
    ·rename_i f args e3; exact (x1 f args e3).elim
    ·rename_i g args e3; exact (x2 g args e3).elim
    ·rename_i tb x args e3; rw [e3] at e; simp [evK] at e
    ·exact e
   ·exact h.elim
 ·rename_i hw
  exact ⟨.tup [],by simp [StepOk,hw],h⟩
 ·exact h.elim
theorem DC.chain {ws U:List (List Nat)} {H0:List ABlk} {Kk:List AV->List ABlk->Prop}:∀ {Z:List (List Nat × List Nat)} {l:List Ins} {j:Nat} {s:List AV} {H:List ABlk},Z.length = l.length ->
 (∀ k,k < Z.length->ws.getD (j + k) [] = (Z.getD k ([],[])).1/\U.getD (j + k) [] = (Z.getD k ([],[])).2)->(∀ z ∈ Z,∀ b ∈ z.1,b ∉ z.2/\H0[b]? ≠ some .dead)->DC P Z l s H Kk->DChain P ws U H0 j l s H Kk
 | [],[],j,s,H,_,_,_,h=>h
 | [],_ :: _,_,_,_,hl,_,_,_=>by simp at hl
 | _ :: _,[],_,_,_,hl,_,_,_=>by simp at hl
 | (w,u) :: Z,i :: l,j,s,H,hl,hZ,hz,h=>by
  obtain ⟨hw,hu⟩:=hZ 0 (by simp); simp only [Nat.add_zero,List.getD_cons_zero] at hw hu; have rest:∀ {s' H'},DC P Z l s' H' Kk->DChain P ws U H0 (j + 1) l s' H' Kk:=λh' =>
   DC.chain (by simpa using hl) (λk hk=>by
    have:=hZ (k + 1) (by simpa using hk)
    simpa [Nat.add_assoc,Nat.add_comm 1 k] using this) (λz hz'=>hz z (List.mem_cons_of_mem _ hz')) h'
  have hz0:=hz (w,u) List.mem_cons_self; simp only [DChain]; rw [hw,hu]
  match w,h,hz0 with
  | [],h,hz0 =>
   obtain ⟨v,h1,h2⟩:=PChain.step1 h; exact ⟨v,H,h1,λ_ _=>rfl,Nat.le_refl _,λb hb=>by simp at hb,rest h2⟩
  | b :: w',h,hz0 =>
   obtain ⟨v,G,h1,h2,h3,h4⟩:=h; exact ⟨v,G,h1,h2,h3,hz0,rest h4⟩
theorem W.dregD {hint:Nat->Option Md} {nb:Nat} {pr:List (List Nat)} {l:List Ins} {s:List AV} {H:List ABlk} {Q:APost} (Z:List (List Nat × List Nat)) (hm:P.follows .mixedOrders = true) (hok:drawOk pr l = true) (hl:Z.length = l.length)
 (hU:(List.range l.length).map (killsOf pr (Z.map (·.1)) l.length) = Z.map (·.2)) (hz:∀ z ∈ Z,∀ b ∈ z.1,b ∉ z.2/\H[b]? ≠ some .dead) (hc:DC P Z l s H (Q .normal)):Go.Proofs.YtofpekbidngnfaaGreatDoor.W P hint nb (.dreg pr l) s H Q:=by
 refine W.dreg (Z.map (·.1)) (Z.map (·.2)) hm hok hU (DC.chain hl (λk hk=>?_) hz hc); rw [Nat.zero_add,gDd,gDd,gDd,List.getElem?_map,List.getElem?_map,gEe hk]; exact ⟨rfl,rfl⟩
def FrOk (w u:List Nat) (H G G':List ABlk):Prop:=G' = kill u G/\(∀ c,c ∉ w->G[c]? = H[c]?)/\H.length<=G.length
theorem FrOk.set {w:List Nat} {H:List ABlk} {b:Nat} {x:ABlk} (h:b ∈ w):FrOk w [] H (H.set b x) (H.set b x):=
 ⟨rfl,λc hc=>List.getElem?_set_ne λe=>hc (by rw [<- e]; exact h),by rw [List.length_set]; exact Nat.le_refl _⟩
theorem FrOk.app {w u:List Nat} {H l:List ABlk} (h:∀ k,k < l.length->H.length + k ∈ w) (hu:∀ b ∈ u,b < H.length\/H.length + l.length<=b):FrOk w u H (H ++ l) (kill u H ++ l):=by
 refine ⟨?_,λc hc=>?_,by rw [List.length_append]; omega⟩
 ·induction u generalizing H with
  | nil=>rfl
  | cons b u ih =>
   have hl:(H.set b ABlk.dead).length = H.length:=List.length_set
   show kill u (H.set b .dead) ++ l = kill u ((H ++ l).set b .dead)
   rw [ih (H:=H.set b .dead) (by rw [hl]; exact h) (by rw [hl]; exact λc hc=>hu c (List.mem_cons_of_mem _ hc))]; rcases hu b List.mem_cons_self with h1 | h1
   ·rw [List.set_append_left _ _ h1]
   ·rw [List.set_eq_of_length_le (l:=H ++ l) (by simpa using h1),List.set_eq_of_length_le (l:=H) (by omega)]
 ·rcases Nat.lt_or_ge c H.length with h' | h'
  ·exact List.getElem?_append_left h'
  ·have:l.length<=c - H.length:=Nat.le_of_not_lt λe=>hc (by have:=h _ e; rwa [Nat.add_sub_cancel' h'] at this)
   rw [List.getElem?_eq_none (by rw [List.length_append]; omega),List.getElem?_eq_none h']
theorem FrOk.trans {w u:List Nat} {H H2 G G':List ABlk} (h:FrOk w [] H H2 H2) (k:FrOk w u H2 G G'):FrOk w u H G G':=
 ⟨k.1,λc hc=>(k.2.1 c hc).trans (h.2.1 c hc),Nat.le_trans h.2.2 k.2.2⟩
theorem WStep.ev {w:List Nat} {d:Option Nat} {k:K} {s:List AV} {H:List ABlk} {Kk:List AV->List ABlk->Prop} (hk:∀ f l,k ≠ .call f l) (hk2:∀ f l,k ≠ .callv f l) (h:EvK (evK k s H) λv G=>FrOk w [] H G G/\Kk (setO s d v) G):WStep P w [] ⟨d,k,none⟩ s H Kk:=by
 cases he:evK k s H with
 | none=>rw [he] at h; exact h.elim
 | some p =>
  obtain ⟨v,G⟩:=p; rw [he] at h; obtain ⟨⟨_,h1,h2⟩,h3⟩:=h; refine ⟨v,G,?_,h1,h2,h3⟩
  cases k <;> first | exact absurd rfl (hk _ _) | exact absurd rfl (hk2 _ _) | exact he | (exact absurd (show (none:Option (AV × List ABlk)) = some _ from he) (by simp))
theorem WStep.call {w:List Nat} {d:Option Nat} {f:FuncId} {args:List Opd} {s:List AV} {H:List ABlk} {Kk:List AV->List ABlk->Prop} {v:AV} {G:List ABlk} (h:ACalls P f (args.map (get s)) H λv' G'=>v' = v/\G' = G) (h1:∀ c,c ∉ w->G[c]? = H[c]?) (h2:H.length<=G.length)
 (hk:Kk (setO s d v) G):WStep P w [] ⟨d,.call f args,none⟩ s H Kk:=⟨v,G,by simp only [StepOk,wanted]; exact h,h1,h2,hk⟩
theorem kill_app:∀ {u:List Nat} {H l:List ABlk},(∀ b ∈ u,b < H.length\/H.length + l.length<=b)->kill u (H ++ l) = kill u H ++ l
 | [],H,l,_=>rfl
 | b :: u,H,l,h=>by
  show kill u ((H ++ l).set b .dead) = kill u (H.set b .dead) ++ l
  have hl:(H.set b ABlk.dead).length = H.length:=List.length_set; rcases h b List.mem_cons_self with h1 | h1
  ·rw [List.set_append_left _ _ h1]
   exact kill_app λc hc=>by rw [hl]; exact h c (List.mem_cons_of_mem _ hc)
  ·rw [List.set_eq_of_length_le (by simpa using h1),List.set_eq_of_length_le (by omega)]
   exact kill_app λc hc=>h c (List.mem_cons_of_mem _ hc)
theorem kill_comm:∀ {u:List Nat} {H:List ABlk} {b:Nat} {x:ABlk},b ∉ u->kill u (H.set b x) = (kill u H).set b x
 | [],_,_,_,_=>rfl
 | c :: u,H,b,x,h=>by
  show kill u ((H.set b x).set c .dead) = _
  rw [List.set_comm _ _ (λe=>h (by rw [e]; exact List.mem_cons_self))]; exact kill_comm (u:=u) (H:=H.set c .dead) λhb=>h (List.mem_cons_of_mem _ hb)
theorem WStep.evU {w u:List Nat} {d:Option Nat} {k:K} {s:List AV} {H:List ABlk} {Kk:List AV->List ABlk->Prop} (G:List ABlk) (hk:∀ f l,k ≠ .call f l) (hk2:∀ f l,k ≠ .callv f l)
 (h:EvK (evK k s (kill u H)) λv G'=>FrOk w u H G G'/\Kk (setO s d v) G):WStep P w u ⟨d,k,none⟩ s H Kk:=by
 cases he:evK k s (kill u H) with
 | none=>rw [he] at h; exact h.elim
 | some p =>
  obtain ⟨v,G'⟩:=p; rw [he] at h; obtain ⟨⟨h1,h2,h3⟩,h4⟩:=h; refine ⟨v,G,?_,h2,h3,h4⟩; rw [<- h1]
  cases k <;> first | exact absurd rfl (hk _ _) | exact absurd rfl (hk2 _ _) | exact he | (exact absurd (show (none:Option (AV × List ABlk)) = some _ from he) (by simp))
@[go_sem] theorem kill_0 (H:List ABlk):kill [] H = H:=rfl
theorem kill_c (b:Nat) (U:List Nat) (H:List ABlk):kill (b :: U) H = kill U (H.set b .dead):=rfl
theorem killed {H:List ABlk} {b:Nat} {k:ABlk} (h:H[b]? = some k) {U:List Nat} (hU:b ∉ U):(kill U H)[b]? = some k:=by rw [kill_out U H hU,h]
end
section
variable {P:Program}
structure MEnd (b d1 d2 d3 d4 m k:Nat) (x y:AV) (c:Nat) (kv:Value) (H H':List ABlk) (K:List AV->List ABlk->Prop) (s1:List AV):Prop where
 m:get s1 (.t m) = .mp b
 k:keyOf (get s1 (.t k)) = some kv
 a1:get (setO s1 (some d1) x) (.t d1) = x
 a3:get (setO (setO (setO s1 (some d1) x) (some d2) y) (some d3) (.tup [x,.d (.v (.int .i64 c))])) (.t d3) = .tup [x,.d (.v (.int .i64 c))]
 a4:get (setO (setO (setO (setO s1 (some d1) x) (some d2) y) (some d3) (.tup [x,.d (.v (.int .i64 c))])) (some d4) (.d (.v (.int .i64 c)))) (.t d4) = .d (.v (.int .i64 c))
 a2:get (setO (setO (setO (setO s1 (some d1) x) (some d2) y) (some d3) (.tup [x,.d (.v (.int .i64 c))])) (some d4) (.d (.v (.int .i64 c)))) (.t d2) = y
 q:K (setO (setO (setO (setO s1 (some d1) x) (some d2) y) (some d3) (.tup [x,.d (.v (.int .i64 c))])) (some d4) (.d (.v (.int .i64 c)))) H'
theorem get_setO_ne {s:List AV} {d t:Nat} {v:AV} (h:t ≠ d):get (setO s (some d) v) (.t t) = get s (.t t):=by
 simp only [get,setO,gDd]; rw [List.getElem?_set_ne (Ne.symm h)]
theorem mapGet_app {es:List (Value × AV × Nat)} {kv:Value} {z:AV} {c:Nat} (h:mapGet es kv = none) (hk:keq kv kv = true):mapGet (es ++ [(kv,z,c)]) kv = some (z,c):=by
 induction es with
 | nil=>simp [mapGet,hk]
 | cons e r ih =>
  simp only [mapGet,List.cons_append] at h ⊢
  split at h
  ·cases h
  ·rename_i hne
   rw [if_neg hne]; exact ih h
theorem W.dregM {hint:Nat->Option Md} {nb:Nat} {pr:List (List Nat)} {l:List Ins} {s:List AV} {H:List ABlk} {Q:APost} (n b d1 d2 d3 d4 m k:Nat) (kt:KT) (z x y w:AV) (ck ck1 c:Nat) (kv:Value) (es es1 es2:List (Value × AV × Nat))
 (hl:l.drop n = [⟨some d1,.lk kt z (.t m) (.t k) false,none⟩,⟨some d2,.bin .add (.t d1) (.c w),none⟩,⟨some d3,.me kt z (.t m) (.t k),none⟩,⟨some d4,.ext (.t d3) 1,none⟩,⟨none,.mes (.t m) (.t d4) (.t d2),none⟩])
 (hm:P.follows .mixedOrders = true) (hok:drawOk pr l = true)
 (hU:(List.range l.length).map (killsOf pr (List.replicate n [] ++ [[],[],[b],[],[b]]) l.length) = List.replicate n [] ++ [[b],[b],[],[],[]]) (hanc:(ancOf pr (n + 4)).contains n = true)
 (hd:m ≠ d1/\m ≠ d2/\m ≠ d3/\m ≠ d4/\k ≠ d1/\k ≠ d2/\k ≠ d3/\k ≠ d4)
 (hb:H[b]? = some (.map kt ck es)) (hf:keyFits kt kv = true) (hkk:keq kv kv = true)
 (hmg:(mapGet es kv = some (x,c)/\ck1 = ck/\es1 = es)\/(mapGet es kv = none/\x = z/\c = ck/\ck1 = ck + 1/\es1 = es ++ [(kv,z,ck)]))
 (hbin:binA .add x w = some y) (hst:mapSt es1 c y = some es2) (hy:shown y = true)
 (hc:PChain P (l.take n) s H λs1 H1=>H1 = H/\MEnd b d1 d2 d3 d4 m k x y c kv H (H.set b (.map kt ck1 es2)) (Q .normal) s1):Go.Proofs.YtofpekbidngnfaaGreatDoor.W P hint nb (.dreg pr l) s H Q:=by
 obtain ⟨m1,m2,m3,m4,k1,k2,k3,k4⟩:=hd; have hbl:b < H.length:=(List.getElem?_eq_some_iff.1 hb).1; have hbd:H[b]? ≠ some .dead:=by rw [hb]; exact λe=>by cases e
 have hlen:l.length = n + 5:=by
  have:=congrArg List.length hl; simp at this; omega
 have hlt:(l.take n).length = n:=by simp; omega
 have hmg1:mapGet es kv = some (x,c)\/mapGet es kv = none/\x = z:=hmg.elim (λh=>.inl h.1) λh=>.inr ⟨h.1,h.2.1⟩
 have hmg2:mapGet es1 kv = some (x,c):=by
  rcases hmg with ⟨h1,_,rfl⟩ | ⟨h1,rfl,rfl,_,rfl⟩
  ·exact h1
  ·exact mapGet_app h1 hkk
 let ws:List (List Nat):=List.replicate n [] ++ [[],[],[b],[],[b]]
 let U:List (List Nat):=List.replicate n [] ++ [[b],[b],[],[],[]]
 have hws:∀ q,q < n->ws.getD q [] = []:=λq hq=>by have:=getD_rep hq [[],[],[b],[],[b]]; rwa [Nat.zero_add] at this
 have gd:∀ (w:List (List Nat)) (i:Nat),(List.replicate n [] ++ w).getD (n + i) [] = w.getD i []:=λw i=>by
  rw [gDd,List.getElem?_append_right (by simp),gDd]; simp
 let K:List AV->List ABlk->Prop:=λs' H'=>(get s' (.t m) = .mp b/\keyOf (get s' (.t k)) = some kv)/\Q .normal s' H'
 let r:List Ins:=[⟨some d2,.bin .add (.t d1) (.c w),none⟩,⟨some d3,.me kt z (.t m) (.t k),none⟩,⟨some d4,.ext (.t d3) 1,none⟩,⟨none,.mes (.t m) (.t d4) (.t d2),none⟩]
 have hch:DChain P ws U H 0 (l.take n ++ ⟨some d1,.mv (.c x),none⟩ :: r) s H K:=by
  refine PChain.app0 n hlt (PChain.mono hc λs1 H1 h=>?_); obtain ⟨rfl,h⟩:=h; have e1:get (setO (setO s1 (some d1) x) (some d2) y) (.t m) = .mp b:=by rw [get_setO_ne m2,get_setO_ne m1,h.m]
  have e2:keyOf (get (setO (setO s1 (some d1) x) (some d2) y) (.t k)) = some kv:=by rw [get_setO_ne k2,get_setO_ne k1,h.k]
  have e3:get (setO (setO (setO (setO s1 (some d1) x) (some d2) y) (some d3) (.tup [x,.d (.v (.int .i64 c))])) (some d4) (.d (.v (.int .i64 c)))) (.t m) = .mp b:=by rw [get_setO_ne m4,get_setO_ne m3,e1]
  have e4:keyOf (get (setO (setO (setO (setO s1 (some d1) x) (some d2) y) (some d3) (.tup [x,.d (.v (.int .i64 c))])) (some d4) (.d (.v (.int .i64 c)))) (.t k)) = some kv:=by rw [get_setO_ne k4,get_setO_ne k3,e2]
  refine DChain.pure x (by rfl) (gd _ 0) ?_; refine DChain.pure y ?_ (gd _ 1) ?_
  ·simp only [StepOk,wanted,evK]
   rw [h.a1]; simp only [get,hbin]
  refine ⟨.tup [x,.d (.v (.int .i64 c))],H1.set b (.map kt ck1 es1),?_,?_,by simp,?_,?_⟩
  ·rw [show List.getD (List.replicate n ([]:List Nat) ++ [[b],[b],[],[],[]]) (n + 1 + 1) ([]:List Nat) = ([]:List Nat) from gd _ 2]
   simp only [StepOk,wanted,evK,e1,e2,hf,hb,kill,List.foldl_nil,if_true]; rcases hmg with ⟨q1,rfl,rfl⟩ | ⟨q1,rfl,rfl,rfl,rfl⟩
   ·simp only [q1,if_true]
    rw [show H1.set b (.map kt ck1 es1) = H1 by
     refine List.ext_getElem? λi=>?_
     by_cases e:b = i
     ·subst e; rw [List.getElem?_set_self hbl,hb]
     ·rw [List.getElem?_set_ne e]]
   ·simp only [q1,if_true]
  ·rw [show List.getD (List.replicate n ([]:List Nat) ++ [[],[],[b],[],[b]]) (n + 1 + 1) ([]:List Nat) = ([b]:List Nat) from gd _ 2]
   intro c' hc'
   exact List.getElem?_set_ne λe=>hc' (by rw [e]; exact List.mem_singleton.2 rfl)
  ·rw [show List.getD (List.replicate n ([]:List Nat) ++ [[],[],[b],[],[b]]) (n + 1 + 1) ([]:List Nat) = ([b]:List Nat) from gd _ 2,show List.getD (List.replicate n ([]:List Nat) ++ [[b],[b],[],[],[]]) (n + 1 + 1) ([]:List Nat) = ([]:List Nat) from gd _ 2]
   intro b' hb'
   rw [List.mem_singleton.1 hb']; exact ⟨List.not_mem_nil,hbd⟩
  refine DChain.pure (.d (.v (.int .i64 c))) ?_ (gd _ 3) ?_
  ·rw [show List.getD (List.replicate n ([]:List Nat) ++ [[b],[b],[],[],[]]) (n + 1 + 1 + 1) ([]:List Nat) = ([]:List Nat) from gd _ 3]
   simp only [StepOk,wanted,evK]; rw [h.a3]
   rfl
  refine ⟨.tup [],H1.set b (.map kt ck1 es2),?_,?_,by simp,?_,?_⟩
  ·rw [show List.getD (List.replicate n ([]:List Nat) ++ [[b],[b],[],[],[]]) (n + 1 + 1 + 1 + 1) ([]:List Nat) = ([]:List Nat) from gd _ 4]
   simp only [StepOk,wanted,evK,e3,h.a4,h.a2,kill,List.foldl_nil,List.getElem?_set_self hbl,hy,if_true,hst,List.set_set]
  ·rw [show List.getD (List.replicate n ([]:List Nat) ++ [[],[],[b],[],[b]]) (n + 1 + 1 + 1 + 1) ([]:List Nat) = ([b]:List Nat) from gd _ 4]
   intro c' hc'
   have hne:b ≠ c':=λe=>hc' (by rw [e]; exact List.mem_singleton.2 rfl)
   rw [List.getElem?_set_ne hne,List.getElem?_set_ne hne]
  ·rw [show List.getD (List.replicate n ([]:List Nat) ++ [[],[],[b],[],[b]]) (n + 1 + 1 + 1 + 1) ([]:List Nat) = ([b]:List Nat) from gd _ 4,show List.getD (List.replicate n ([]:List Nat) ++ [[b],[b],[],[],[]]) (n + 1 + 1 + 1 + 1) ([]:List Nat) = ([]:List Nat) from gd _ 4]
   intro b' hb'
   rw [List.mem_singleton.1 hb']; exact ⟨List.not_mem_nil,hbd⟩
  exact ⟨⟨e3,e4⟩,h.q⟩
 obtain ⟨st,Hs,v,s1,s2,s3,s4⟩:=hch.seq; have hlen':(l.take n ++ ⟨some d1,.mv (.c x),none⟩ :: r).length = n + 5:=by rw [List.length_append,hlt]; rfl
 simp only [Nat.zero_add] at s3 s4; rw [hlen'] at s4; have hat:∀ q,q ≠ n->(l.take n ++ ⟨some d1,.mv (.c x),none⟩ :: r)[q]? = l[q]?:=λq hq=>by
  conv=>rhs; rw [<- List.take_append_drop n l,hl]
  rcases Nat.lt_or_ge q n with h | h
  ·rw [List.getElem?_append_left (by omega),List.getElem?_append_left (by omega)]
  ·rw [List.getElem?_append_right (by omega),List.getElem?_append_right (by omega),hlt]
   obtain ⟨p,hp⟩:∃ p,q - n = p + 1:=⟨q - n - 1,by omega⟩; rw [hp]; rfl
 have hat0:(l.take n ++ ⟨some d1,.mv (.c x),none⟩ :: r)[n]? = some ⟨some d1,.mv (.c x),none⟩:=by
  rw [List.getElem?_append_right (by omega),hlt,Nat.sub_self]; rfl
 have hatl:∀ i,l[n + i]? = (l.drop n)[i]?:=λi=>by rw [List.getElem?_drop]
 have hln:l[n]? = some ⟨some d1,.lk kt z (.t m) (.t k) false,none⟩:=by have:=hatl 0; rw [hl] at this; exact this
 have hall:∀ q,q < l.length->∃ i,(l.take n ++ ⟨some d1,.mv (.c x),none⟩ :: r)[q]? = some i:=λq hq=>⟨_,gEe (by omega)⟩
 have X:Lex P pr ws U l s H st Hs v:=by
  refine ⟨s1,s2,λq i hq=>?_,λq b' hq hb'=>?_,λq hq=>?_,λq hq=>?_,hok,hU⟩
  ·by_cases e:q = n
   ·subst e
    rw [hln] at hq; cases hq; exact (s3 _ _ hat0).2.1
   ·exact (s3 q i (by rw [hat q e]; exact hq)).2.1
  ·obtain ⟨i,hi⟩:=hall q hq
   exact (s3 q i hi).2.2.1 b' hb'
  ·obtain ⟨i,hi⟩:=hall q hq
   exact (s3 q i hi).2.2.2.1
  ·obtain ⟨i,hi⟩:=hall q hq
   exact (s3 q i hi).2.2.2.2
 -- the heap until the entry is made
 have hsame:∀ q,q < l.length->ws.getD q [] = []->Hs (q + 1) = Hs q:=λq hq hw=>List.ext_getElem? λi=>X.fr q i hq (by rw [hw]; exact List.not_mem_nil)
 have hHn:∀ q,q<=n->Hs q = H:=by
  intro q
  induction q with
  | zero=>intro _; exact s2
  | succ q ih=>intro hq; rw [hsame q (by omega) (hws q (by omega)),ih (by omega)]
 have hH1:Hs (n + 1) = H:=by rw [hsame n (by omega) (gd _ 0),hHn n (Nat.le_refl _)]
 have hH2:Hs (n + 1 + 1) = H:=by rw [hsame (n + 1) (by omega) (gd _ 1),hH1]
 have ln:∀ i j,r[i]? = some j->l[n + (i + 1)]? = some j:=λi j h=>by rw [hatl,hl]; exact h
 have st1:st (n + 1) = setO (st n) (some d1) (v n):=X.stn n _ hln; have st2:st (n + 1 + 1) = setO (st (n + 1)) (some d2) (v (n + 1)):=X.stn (n + 1) _ (ln 0 _ rfl); have st3:st (n + 1 + 1 + 1) = setO (st (n + 1 + 1)) (some d3) (v (n + 1 + 1)):=X.stn (n + 1 + 1) _ (ln 1 _ rfl); have st4:st (n + 1 + 1 + 1 + 1) = setO (st (n + 1 + 1 + 1)) (some d4) (v (n + 1 + 1 + 1)):=X.stn (n + 1 + 1 + 1) _ (ln 2 _ rfl); have st5:st (n + 5) = st (n + 1 + 1 + 1 + 1):=X.stn (n + 1 + 1 + 1 + 1) _ (ln 3 _ rfl); obtain ⟨⟨gm,gk⟩,hq⟩:=s4; rw [st5,st4,get_setO_ne m4,st3,get_setO_ne m3] at gm; rw [st5,st4,get_setO_ne k4,st3,get_setO_ne k3] at gk; have gm0:get (st n) (.t m) = .mp b:=by rw [st2,get_setO_ne m2,st1,get_setO_ne m1] at gm; exact gm
 have gk0:keyOf (get (st n) (.t k)) = some kv:=by rw [st2,get_setO_ne k2,st1,get_setO_ne k1] at gk; exact gk
 have hv:v n = x:=by
  have:=(s3 _ _ hat0).1; simp only [StepOk,wanted,evK,get] at this; exact (Prod.mk.inj (Option.some.inj this)).1.symm
 have hH3:(Hs (n + 1 + 1 + 1))[b]? = some (.map kt ck1 es1)/\(Hs (n + 1 + 1 + 1)).length = H.length:=by
  have:=(s3 (n + 2) _ (by rw [hat _ (by omega)]; exact ln 1 _ rfl)).1; rw [show U.getD (n + 2) [] = [] from gd _ 2] at this; simp only [StepOk,wanted,evK] at this; rw [show st (n + 2) = st (n + 1 + 1) from rfl,show Hs (n + 2) = H from hH2,gm,gk] at this; simp only [hf,kill,List.foldl_nil,hb,if_true] at this; rcases hmg with ⟨q1,rfl,rfl⟩ | ⟨q1,rfl,rfl,rfl,rfl⟩
  ·rw [q1] at this
   have:=(Prod.mk.inj (Option.some.inj this)).2; rw [show Hs (n + 1 + 1 + 1) = Hs (n + 2 + 1) from rfl,<- this]; exact ⟨hb,rfl⟩
  ·rw [q1] at this
   have:=(Prod.mk.inj (Option.some.inj this)).2; rw [show Hs (n + 1 + 1 + 1) = Hs (n + 2 + 1) from rfl,<- this]; exact ⟨List.getElem?_set_self hbl,by simp⟩
 refine .dregS hm X (λL j i hL hdc hj hnj hpj=>?_) (by rw [hlen]; exact hq); have hjl:j < l.length:=(List.getElem?_eq_some_iff.1 hj).1
 by_cases e:j = n
 ·subst e
  rw [hln] at hj; cases hj; refine X.soft hL hdc hjl hnj hpj b (.map kt ck1 es1) hbl (gd _ 0) (gd _ 0) (by rw [hH1,hHn _ (Nat.le_refl _)]) (λq hq hbq=>by rw [hws q hq] at hbq; exact absurd hbq List.not_mem_nil) (λq hq hql hbq hna=>?_) ?_ ?_
  ·have:q = j + 1\/q = j + 2\/q = j + 3\/q = j + 4:=by omega
   rcases this with rfl | rfl | rfl | rfl
   ·rw [show ws.getD (j + 1) [] = [] from gd _ 1] at hbq; exact absurd hbq List.not_mem_nil
   ·exact hH3
   ·rw [show ws.getD (j + 3) [] = [] from gd _ 3] at hbq; exact absurd hbq List.not_mem_nil
   ·exact absurd (List.contains_iff_mem.1 hanc) hna
  ·simp only [StepOk,wanted,evK,gm0,gk0,hf,if_true,mapOf,hHn j (Nat.le_refl _),hb]
   rcases hmg1 with q | ⟨q,q'⟩
   ·simp [q,hv]
   ·simp [q,hv,q']
  ·simp only [StepOk,wanted,evK,gm0,gk0,hf,if_true,mapOf,hHn j (Nat.le_refl _),List.getElem?_set_self hbl,hmg2,hv]
   simp
 ·exact ⟨_,_,X.hard hL hdc hjl hnj hpj (s3 j i (by rw [hat j e]; exact hj)).1⟩
def kV (P:Program) (f:Opd) (args:List Opd) (d:Option Nat) (r:List Ins) (Kk:List AV->List ABlk->Prop) (s:List AV) (H:List ABlk):Prop:=wpIns P (⟨d,.callv f args,none⟩ :: r) s H Kk
@[go_sem] theorem kV_a {d:Option Nat} {f:Opd} {args:List Opd} {r:List Ins} {s:List AV} {H:List ABlk} {Kk:List AV->List ABlk->Prop}:kV P f args d r Kk s H = wpIns P (⟨d,.callv f args,none⟩ :: r) s H Kk:=propext ⟨λh=>h,λh=>h⟩
@[go_sem] theorem wpIns_callvg {d:Option Nat} {f:Opd} {args:List Opd} {g:Nat × Bool} {r:List Ins} {s:List AV} {H:List ABlk} {Kk:List AV->List ABlk->Prop} :
 wpIns P (⟨d,.callv f args,some g⟩ :: r) s H Kk = GBr (s.getD g.1 .any) g.2 (Lz (kV P f args d r Kk) s H) (Lz (kU P d r Kk) s H):=by
 obtain ⟨g,b⟩:=g; rw [wpIns_callv,show wanted s (some (g,b)) = (match s.getD g .any with | .d (.v (.bool t))=>some (t == b) | .tup []=>some false | _=>none) from rfl]
 unfold GBr
 simp only
 generalize s.getD g .any = X
 match X,b with
 | .d (.v (.bool true)),true=>exact Br_true.symm
 | .d (.v (.bool false)),true=>exact Br_false.symm
 | .d (.v (.bool true)),false=>exact Br_true.symm
 | .d (.v (.bool false)),false=>exact Br_false.symm
 | .tup [],_=>rfl
 | .tup (_ :: _),_=>rfl
 | .any,_=>rfl
 | .ub,_=>rfl
 | .d (.sl _),_=>rfl
 | .d (.v (.int _ _)),_=>rfl
 | .d (.v (.float _ _)),_=>rfl
 | .d (.v (.complex _ _ _)),_=>rfl
 | .d (.v (.string _)),_=>rfl
 | .d (.v (.pointer _)),_=>rfl
 | .d (.v (.slice _ _ _)),_=>rfl
 | .d (.v (.map _)),_=>rfl
 | .d (.v (.chan _)),_=>rfl
 | .d (.v (.func _ _ _)),_=>rfl
 | .d (.v .nilFunc),_=>rfl
 | .d (.v (.iface _ _)),_=>rfl
 | .d (.v .nilIface),_=>rfl
 | .d (.v (.agg _)),_=>rfl
 | .d (.v (.tuple _)),_=>rfl
 | .agg _,_=>rfl
 | .nilp,_=>rfl
 | .mnil,_=>rfl
 | .ptr _ _,_=>rfl
 | .ip _,_=>rfl
 | .esl,_=>rfl
 | .gsl _ _ _,_=>rfl
 | .hsl _ _ _ _ _,_=>rfl
 | .mp _,_=>rfl
 | .fn _ _,_=>rfl
 | .fnb _ _,_=>rfl
 | .ifc _ _,_=>rfl
end
theorem an {a b:Prop} (x:a) (y:b):a/\b:=⟨x,y⟩
@[go_sem ↓] abbrev rD0:=an @wpA_skip <| an @wpA_reg <| an @wpA_dreg <| an @wpA_seq <| an @wpA_cond <| an @wpA_block <| an @wpA_loop <| an @wpA_exit <| an @wpA_ret <| an @then_n <| an @then_r <| an @then_e <| an @inB_n <| an @inB_r <| an @inB_e <| an @retW_r <| an @retW_n <| an @wpIns_call <| an @wpIns_callg' <| an @wpIns_callv' <| an @wi_mv <| an @wi_mvg <| an @wi_pick <| an @wi_al <| @wi_bx
@[go_sem ↓] abbrev rD1:=an @wi_bd <| an @wi_bs <| an @wi_ld <| an @wi_st <| an @wi_nc <| an @wi_bin <| an @wi_un <| an @wi_cvi <| an @wi_fa <| an @wi_fld <| an @wi_ia <| an @wi_iar <| an @wi_ix <| an @wi_sli <| an @wi_sla <| an @wi_slz <| an @wi_ext <| an @wi_len <| an @wi_app <| an @wi_mn <| an @wi_mx <| an @wi_mkf <| an @wi_mks <| an @wi_cpy <| @wi_mkm
@[go_sem ↓] abbrev rD2:=an @wi_lk <| an @wi_mu <| an @wi_me <| an @wi_mes <| an @wi_del <| an @wi_s2b <| an @wi_b2s <| an @wi_eqs <| an @wi_eqp <| an @wi_isn <| an @wi_eqi <| an @wi_ixb <| an @wi_eqg <| an @Stp_n <| an @Stp_g <| an @PChain_call <| an @PChain_callg' <| an @pc_mv <| an @pc_mvg <| an @pc_pick <| an @pc_al <| an @pc_bx <| an @pc_bd <| an @pc_bs <| an @pc_ld <| @pc_st
@[go_sem ↓] abbrev rD3:=an @pc_nc <| an @pc_bin <| an @pc_un <| an @pc_cvi <| an @pc_fa <| an @pc_fld <| an @pc_ia <| an @pc_iar <| an @pc_ix <| an @pc_sli <| an @pc_sla <| an @pc_slz <| an @pc_ext <| an @pc_len <| an @pc_app <| an @pc_mn <| an @pc_mx <| an @pc_mkf <| an @pc_mks <| an @pc_cpy <| an @pc_mkm <| an @pc_lk <| an @pc_mu <| an @pc_me <| @pc_mes
@[go_sem ↓] abbrev rD4:=an @pc_del <| an @pc_s2b <| an @pc_b2s <| an @pc_eqs <| an @pc_eqp <| an @pc_isn <| an @pc_eqi <| an @pc_ixb <| an @pc_eqg <| an @PStp_n <| @PStp_g
@[go_sem] abbrev rU0:=an @beqI <| an (show ∀ {α β:Type} {as:List α} (f:α->β),(List.map f as).length = as.length from @lnn) <| an (show ∀ {α:Type} {as:List α} {i:Nat} {a:α},(as.set i a).length = as.length from @List.length_set) <| an @bneI <| an @leN_t <| an @leN_f <| an @ltN_t <| an @ltN_f <| an @leI_t <| an @leI_f <| an @ltI_t <| an @ltI_f <| an @gtI <| an @geI <| an @eqN_t <| an @eqN_f <| an @eqI_t <| an @eqI_f <| an @mx_eq <| an (show ∀ (h:Decidable True),Decidable.decide True = Bool.true from @decide_true) <| an (show ∀ (h:Decidable False),Decidable.decide False = Bool.false from @decide_false) <| an @w_i64 <| an @w_u8 <| an @w_u32 <| @w_u64
@[go_sem] abbrev rU1:=an @w_u16 <| an @bits_u8 <| an @bits_u16 <| an @bits_u32 <| an @bits_u64 <| an @bits_i64 <| an @tdiv_nn <| an @tmod_nn <| an (show ∀ {a b:Int},0<=a->a < b->a % b = a from @Int.emod_eq_of_lt) <| an (show ∀ (n:Nat),n * 1 = n from @Nat.mul_one) <| an (show ∀ (n:Nat),1 * n = n from @Nat.one_mul) <| an (show ∀ (n:Nat),0 * n = 0 from @Nat.zero_mul) <| an (show ∀ {a b:Nat},a<=b->Min.min a b = a from @Nat.min_eq_left) <| an (show ∀ {a b:Nat},b<=a->Min.min a b = b from @Nat.min_eq_right) <| an @iaA_h <| an @GBr_t <| an @GBr_f <| an @GBr_u <| an @CBr_t <| an @Br_lt <| an @Br_lf <| an @kS_a <| an @kU_a <| an @kC_a <| @pS_a
@[go_sem] abbrev rU2:=an @pU_a <| an @pC_a <| an @kA_a <| an @Br_not <| an @CallV_fn <| an @Ev_some <| an @wpIns_nil <| an @PEv_some <| an @PChain_nil <| an @EvK_some <| an @nilA_h <| an @nilA_d <| an @nilA_g <| an @nilA_e <| an @nilA_d0 <| an @nilA_g0 <| an @nilA_h0 <| an @nilA_mn <| an @nilA_mp <| an (show ∀ {α:Type} {x:α} {xs:List α} {d:α},(x :: xs).getD 0 d = x from @List.getD_cons_zero) <| an (show ∀ {α:Type} {x:α} {xs:List α} {n:Nat} {d:α},(x :: xs).getD (n + 1) d = xs.getD n d from @List.getD_cons_succ) <| an (show ∀ {α:Type} {x:α} {xs:List α} {a:α},(x :: xs).set 0 a = a :: xs from @List.set_cons_zero) <| an (show ∀ {α:Type} {x:α} {xs:List α} {i:Nat} {a:α},(x :: xs).set (i + 1) a = x :: xs.set i a from @List.set_cons_succ) <| an @sh_d <| @ce_d
@[go_sem] abbrev rU3:=an @sh_agg <| an @ce_agg <| an @sh_nilp <| an @ce_nilp <| an @sh_mnil <| an @ce_mnil <| an @sh_ptr <| an @ce_ptr <| an @sh_ip <| an @ce_ip <| an @sh_esl <| an @ce_esl <| an @sh_mp <| an @ce_mp <| an @sh_gsl <| an @ce_gsl <| an @sh_hsl <| an @ce_hsl <| an @sh_fn <| an @ce_fn <| an @elems_d <| an @elems_g <| an @elems_e <| an @elems_s <| @datss_map_d
@[go_sem] abbrev rU4:=an (show ∀ {α β:Type} {f:α->β} {a:α} {l:List α},List.map f (a :: l) = f a :: List.map f l from @List.map_cons) <| an (show ∀ {α β:Type} {f:α->β},List.map f [] = [] from @List.map_nil) <| an (show ∀ {α:Type} {a:α} {as:List α},(a :: as).length = as.length + 1 from @List.length_cons) <| an (show ∀ {α:Type} {as bs:List α},(as ++ bs).length = as.length + bs.length from @List.length_append) <| an (show ∀ {α:Type} (as bs cs:List α),as ++ bs ++ cs = as ++ (bs ++ cs) from @List.append_assoc) <| an (show ∀ {α:Type} {a:α} {as bs:List α},a :: as ++ bs = a :: (as ++ bs) from @List.cons_append) <| an (show ∀ {α:Type} (as:List α),[] ++ as = as from @List.nil_append) <| an @hg0 <| an @hgk <| an @hs0 <| an @hsk <| an (show ∀ {α:Type} {a:α} {l:List α},(a :: l)[0]? = Option.some a from @List.getElem?_cons_zero) <| an (show ∀ {α:Type} {a:α} {i:Nat} {l:List α},(a :: l)[i + 1]? = l[i]? from @List.getElem?_cons_succ) <| an (show ∀ {α:Type} {a:α} {as:List α} {i:Nat},List.take (i + 1) (a :: as) = a :: List.take i as from @List.take_succ_cons) <| an (show ∀ {α:Type} {l:List α},List.take 0 l = [] from @List.take_zero) <| an (show ∀ {α:Type} {a:α} {l:List α} {i:Nat},List.drop (i + 1) (a :: l) = List.drop i l from @List.drop_succ_cons) <| an (show ∀ {α:Type} {l:List α},List.drop 0 l = l from @List.drop_zero) <| an (show ∀ {α:Type} {a:α} {l:List α} {f:α->Bool},(a :: l).all f = (f a && l.all f) from @List.all_cons) <| an (show ∀ {α:Type} {f:α->Bool},[].all f = Bool.true from @List.all_nil) <| an (show ∀ {α:Type} {l:List α} {L:List (List α)},(l :: L).flatten = l ++ L.flatten from @List.flatten_cons) <| an (show ∀ {α:Type} (as:List α),as ++ [] = as from @List.append_nil) <| an (show ∀ (n:Nat),n + 0 = n from @Nat.add_zero) <| an (show ∀ (n:Nat),0 + n = n from @Nat.zero_add) <| an (show ∀ (n:Nat),n<=n from @Nat.le_refl) <| (show ∀ {α:Type} [inst:BEq α] [ReflBEq α] (a:α),(a == a) = Bool.true from @beq_self_eq_true)
@[go_sem] abbrev rU5:=an (show ∀ (b:Bool),(b && b) = b from @Bool.and_self) <| an (show ∀ (b:Bool),(b && Bool.true) = b from @Bool.and_true) <| an (show ∀ (b:Bool),(Bool.true && b) = b from @Bool.true_and) <| an (show ∀ (p:Prop),(p/\p) = p from @and_self) <| an (show ∀ (p:Prop),(p/\True) = p from @and_true) <| an (show ∀ (p:Prop),(True/\p) = p from @true_and) <| an (show ∀ {α β:Type} {a:α} {l:List α} {f:β->α->β} {b:β},List.foldl f b (a :: l) = List.foldl f (f b a) l from @List.foldl_cons) <| an (show ∀ {α β:Type} {f:α->β->α} {b:α},List.foldl f b [] = b from @List.foldl_nil) <| an (show (!Bool.true) = Bool.false from @Bool.not_true) <| an (show (!Bool.false) = Bool.true from @Bool.not_false) <| an @btrue <| an @bfalse <| an @imax <| an @imin <| (show (Bool.false = Bool.true) = False from @Bool.false_eq_true)
@[go_sem] abbrev rU6:=an (show ∀ {α:Type},([]:List α).length = 0 from @λ_=>rfl) <| an (show ∀ {α:Type},([]:List (List α)).flatten = [] from @λ_=>rfl) <| an (show ∀ {α:Type},([]:List α).isEmpty = Bool.true from @λ_=>rfl) <| an (show ∀ {α:Type} (a:α) (l:List α),(a :: l).isEmpty = Bool.false from @λ_ _ _=>rfl) <| an (show ∀ {α:Type} (a:α),List.replicate 0 a = [] from @λ_ _=>rfl) <| an (show ∀ {α:Type} (n:Nat) (a:α),List.replicate (n + 1) a = a :: List.replicate n a from @λ_ _ _=>rfl) <| an (show ∀ {α:Type} (a b:α),cond Bool.true a b = a from @λ_ _ _=>rfl) <| an (show ∀ {α:Type} (a b:α),cond Bool.false a b = b from @λ_ _ _=>rfl) <| (show ∀ n:Nat,n - 0 = n from Nat.sub_zero)
attribute [go_sem] eq_self if_true if_false
end Go.Proofs.YtofpekbidngnfaaGreatDoor
