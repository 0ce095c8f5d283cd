/- Two contracts of one call tell of the same answer. -/
import Derived.Test.YtofpekbidngnfaaGreatDoorYG5
import Derived.Test.YtofpekbidngnfaaGreatDoorYC9
set_option linter.constructorNameAsVariable false
set_option linter.unusedSectionVars false
set_option linter.unusedSimpArgs false
set_option linter.unusedVariables false
set_option maxHeartbeats 1000000
set_option maxRecDepth 20000
namespace Go.Proofs.YtofpekbidngnfaaGreatDoor
open Go.RowKit
noncomputable section
theorem runN_same {P:Program} {m:Machine} {n n':Nat} {o o':Outcome} {w w':World} (h:runN P n m = .ended o w) (h':runN P n' m = .ended o' w'):o = o'/\w = w':=by
 rcases Nat.le_total n n' with hl | hl
 ·obtain ⟨k,rfl⟩:∃ k,n' = n + k:=⟨n' - n,by omega⟩
  rw [runN_add,h] at h'
  cases h'; exact ⟨rfl,rfl⟩
 ·obtain ⟨k,rfl⟩:∃ k,n = n' + k:=⟨n - n',by omega⟩
  rw [runN_add,h'] at h
  cases h; exact ⟨rfl,rfl⟩
theorem Calls.both {P:Program} {f:FuncId} {args:Array Value} {w:World} {R1 R2:Ending->World->Prop} (h1:Calls P f args w R1) (h2:Calls P f args w R2) (k1:∀ e w',R1 e w'->∃ v,e = .returned v) (k2:∀ e w',R2 e w'->∃ v,e = .returned v)
 (hi:P.inits.idxOf? f = none):∃ v w',R1 (.returned v) w'/\R2 (.returned v) w':=by
 have a1:Calls P f args w fun | .returned v,w'=>R1 (.returned v) w' | _,_=>False:=h1.mono λe w' h=>by
  obtain ⟨v,rfl⟩:=k1 e w' h; exact h
 have a2:Calls P f args w fun | .returned v,w'=>R2 (.returned v) w' | _,_=>False:=h2.mono λe w' h=>by
  obtain ⟨v,rfl⟩:=k2 e w' h; exact h
 obtain ⟨n1,v1,w1,e1,r1⟩:=a1.done hi; obtain ⟨n2,v2,w2,e2,r2⟩:=a2.done hi; obtain ⟨q1,q2⟩:=runN_same e1 e2
 cases q1; cases q2
 exact ⟨v1,w1,r1,r2⟩
def Wld:Prop:=∃ (σ:Sg) (w:World),HR σ [] w
theorem h0_ok:HpR h0 []:=⟨rfl,by decide,λb k h=>by simp at h,λp _=>by
 obtain ⟨a,b,c,d,e⟩:=p
 show hget (.mk a b c d e) hE = .dead
 rw [hget_eq]; have q:∀ {α:Type} (d:D8) (a:α),r8get d (all8 a) = a:=λd a=>by cases d <;> rfl
 simp only [hE,q]⟩
theorem ev_det (hW:Wld) {f:Nat} {aargs:List FV} {v:FV} {h':Hp} {cargs:List AV} {X:AV} (e:ev' f aargs h0 = .ok v h') (hc:ACalls TP f cargs [] λv' H'=>v' = X/\H' = []) (hi:TP.inits.idxOf? f = none)
 (ha:∃ vs,∀ σ,VRs σ (toAs aargs) vs/\VRs σ cargs vs):∃ u σ1 σ2,VR σ1 (toA v) u/\VR σ2 X u:=by
 obtain ⟨pre,H',k1,k2,k3⟩:=ev'_ok h0_ok e; obtain ⟨σ,w,hr⟩:=hW; obtain ⟨vs,hvs⟩:=ha; have c1:=k3 σ w vs hr (hvs σ).1; have c2:=hc σ w vs hr (hvs σ).2; obtain ⟨v0,w',r1,r2⟩:=Calls.both c1 c2 (λe w' h=>by obtain ⟨_,_,_,u,h,_⟩:=h; exact ⟨u,h⟩) (λe w' h=>by obtain ⟨_,_,_,u,h,_⟩:=h; exact ⟨u,h⟩) hi; obtain ⟨σ1,_,v1,u1,q1,_,_,q2,q3,_⟩:=r1; obtain ⟨σ2,_,v2,u2,p1,_,_,p2,p3,_⟩:=r2
 cases q1; cases p1; subst q3; subst p3
 exact ⟨_,σ1,σ2,q2,p2⟩
def K32 (x:FV) (n:Int):Prop:=x = .any\/x = .i .u32 n
def KB (x:FV) (b:Bool):Prop:=x = .any\/x = .b b
def n32 (x:FV):FV:=FV.rec (motive_1:=λ_=>FV) (motive_2:=λ_=>Unit) .any .any .any .any .any .any .any (λ_=>.any) (λ_=>.any) (λ_ _ _=>.any) (λ_ _ _=>.any) (λ_ _ _=>.any) (λ_ _=>.any) (λ_ _=>.any) (λ_ _ _ _ _=>.any) (λ_ _=>.any) (λ_=>.any) (λ_ _=>.any)
 (λk n=>bif' (Nat.beq (kN k) 6) (.i .u32 n) .any) () (λ_ _ _ _=>()) x
def nB (x:FV):FV:=FV.rec (motive_1:=λ_=>FV) (motive_2:=λ_=>Unit) .any .any .any .any .any .any .any (λ_=>.any) (λ_=>.any) (λ_ _ _=>.any) (λ_ _ _=>.any) (λ_ _ _=>.any) (λ_ _=>.any) (λ_ _=>.any) (λ_ _ _ _ _=>.any) (λ_ _=>.any) (λb=>.b b) (λ_ _=>.any)
 (λk n=>.any) () (λ_ _ _ _=>()) x
theorem K32.of {x:FV} {n:Int} {u:Value} {σ1 σ2:Sg} (h1:VR σ1 (toA x) u) (h2:VR σ2 (wv n) u):K32 (n32 x) n:=by
 have hu:=h2.eqV; subst hu
 cases x with
 | i k m =>
  show K32 (bif' (Nat.beq (kN k) 6) (.i .u32 m) .any) n
  have:=h1.eqV
  cases this
  exact .inr rfl
 | _=>exact .inl rfl
theorem KB.of {x:FV} {b:Bool} {u:Value} {σ1 σ2:Sg} (h1:VR σ1 (toA x) u) (h2:VR σ2 (bv b) u):KB (nB x) b:=by
 have hu:=h2.eqV; subst hu
 cases x with
 | b t =>
  have:=h1.eqV
  cases this
  exact .inr rfl
 | _=>exact .inl rfl
theorem K32.vr {x:FV} {n:Int} (h:K32 x n) (σ:Sg):VR σ (toA x) (.int .u32 n):=by
 rcases h with rfl | rfl
 ·exact .any
 ·exact .d (.v rfl)
theorem KB.vr {x:FV} {b:Bool} (h:KB x b) (σ:Sg):VR σ (toA x) (.bool b):=by
 rcases h with rfl | rfl
 ·exact .any
 ·exact .d (.v rfl)
end
noncomputable section
def gI {β:Type} (d:β) (k:IntKind->Int->β) (x:FV):β:=FV.rec (motive_1:=λ_=>β) (motive_2:=λ_=>Unit) d d d d d d d (λ_=>d) (λ_=>d) (λ_ _ _=>d) (λ_ _ _=>d) (λ_ _ _=>d) (λ_ _=>d) (λ_ _=>d) (λ_ _ _ _ _=>d) (λ_ _=>d) (λ_=>d) (λ_ _=>d) (λa n=>k a n) () (λ_ _ _ _=>()) x
def gB {β:Type} (d:β) (k:Bool->β) (x:FV):β:=FV.rec (motive_1:=λ_=>β) (motive_2:=λ_=>Unit) d d d d d d d (λ_=>d) (λ_=>d) (λ_ _ _=>d) (λ_ _ _=>d) (λ_ _ _=>d) (λ_ _=>d) (λ_ _=>d) (λ_ _ _ _ _=>d) (λ_ _=>d) (λt=>k t) (λ_ _=>d) (λ_ _=>d) () (λ_ _ _ _=>()) x
def gT {β:Type} (d:β) (k:List FV->β) (x:FV):β:=FV.rec (motive_1:=λ_=>β) (motive_2:=λ_=>Unit) d d d d d d d (λ_=>d) (λ_=>d) (λ_ _ _=>d) (λ_ _ _=>d) (λ_ _ _=>d) (λl _=>k l) (λ_ _=>d) (λ_ _ _ _ _=>d) (λ_ _=>d) (λ_=>d) (λ_ _=>d) (λ_ _=>d) () (λ_ _ _ _=>()) x
def gA {β:Type} (d:β) (k:List FV->β) (x:FV):β:=FV.rec (motive_1:=λ_=>β) (motive_2:=λ_=>Unit) d d d d d d d (λ_=>d) (λ_=>d) (λ_ _ _=>d) (λ_ _ _=>d) (λ_ _ _=>d) (λ_ _=>d) (λ_ _=>d) (λ_ _ _ _ _=>d) (λl _=>k l) (λ_=>d) (λ_ _=>d) (λ_ _=>d) () (λ_ _ _ _=>()) x
def gR {β:Type} (d:β) (k:FV->β) (r:FR):β:=FR.rec (motive:=λ_=>β) d (λv _=>k v) r
def gE {β:Type} (d k:β) (l:List FV):β:=lcs k (λ_ _=>d) l
section
variable {β:Type} {d r:β} (hd:d ≠ r)
include hd
theorem gI_ok {k:IntKind->Int->β} {x:FV} (e:gI d k x = r):∃ a n,x = .i a n/\k a n = r:=by cases x <;> first | exact ⟨_,_,rfl,e⟩ | exact absurd e hd
theorem gB_ok {k:Bool->β} {x:FV} (e:gB d k x = r):∃ t,x = .b t/\k t = r:=by cases x <;> first | exact ⟨_,rfl,e⟩ | exact absurd e hd
theorem gT_ok {k:List FV->β} {x:FV} (e:gT d k x = r):∃ t,x = .tup t/\k t = r:=by cases x <;> first | exact ⟨_,rfl,e⟩ | exact absurd e hd
theorem gA_ok {k:List FV->β} {x:FV} (e:gA d k x = r):∃ t,x = .agg t/\k t = r:=by cases x <;> first | exact ⟨_,rfl,e⟩ | exact absurd e hd
theorem gR_ok {k:FV->β} {x:FR} (e:gR d k x = r):∃ v h,x = .ok v h/\k v = r:=by cases x <;> first | exact ⟨_,_,rfl,e⟩ | exact absurd e hd
theorem gL_ok {k:FV->List FV->β} {l:List FV} (e:lcs d k l = r):∃ a b,l = a :: b/\k a b = r:=by cases l <;> first | exact ⟨_,_,rfl,e⟩ | exact absurd e hd
theorem gE_ok {k:β} {l:List FV} (e:gE d k l = r):l = []/\k = r:=by cases l <;> first | exact ⟨rfl,e⟩ | exact absurd e hd
theorem gbif_ok {t:Bool} {a:β} (e:bif' t a d = r):t = true/\a = r:=by cases t <;> first | exact ⟨rfl,e⟩ | exact absurd e hd
end
theorem tup2 {σ1 σ2:Sg} {cs ds:List AV} {u:Value} (h1:VR σ1 (.tup cs) u) (h2:VR σ2 (.tup ds) u):∃ us,VRs σ1 cs us/\VRs σ2 ds us:=by
 cases h1 with
 | @tup _ us a b =>
  generalize hx:Value.tuple us.toArray = x at h2
  cases h2 with
  | @tup _ us' a' b' =>
   have:us = us':=by simpa using hx
   subst this; exact ⟨us,⟨a,b⟩,⟨a',b'⟩⟩
theorem agg2 {σ1 σ2:Sg} {cs ds:List AV} {u:Value} (h1:VR σ1 (.agg cs) u) (h2:VR σ2 (.agg ds) u):∃ us,VRs σ1 cs us/\VRs σ2 ds us:=by
 cases h1 with
 | @agg _ us a b =>
  generalize hx:Value.agg us.toArray = x at h2
  cases h2 with
  | @agg _ us' a' b' =>
   have:us = us':=by simpa using hx
   subst this; exact ⟨us,⟨a,b⟩,⟨a',b'⟩⟩
theorem VRs.cons2 {σ1 σ2:Sg} {c d:AV} {cs ds:List AV} {us:List Value} (h1:VRs σ1 (c :: cs) us) (h2:VRs σ2 (d :: ds) us):∃ u us',VR σ1 c u/\VR σ2 d u/\VRs σ1 cs us'/\VRs σ2 ds us':=by
 obtain ⟨u,us',rfl,a,b⟩:=h1.cons_inv; obtain ⟨u2,us2,e,a2,b2⟩:=h2.cons_inv
 cases e
 exact ⟨u,us',a,a2,b,b2⟩
theorem i2 {σ1 σ2:Sg} {k k':IntKind} {n m:Int} {u:Value} (h1:VR σ1 (toA (.i k n)) u) (h2:VR σ2 (.d (.v (.int k' m))) u):n = m:=by
 have:=h1.eqV; subst this; have:=h2.eqV; cases this; rfl
theorem b2 {σ1 σ2:Sg} {n m:Bool} {u:Value} (h1:VR σ1 (toA (.b n)) u) (h2:VR σ2 (bv m) u):n = m:=by
 have:=h1.eqV; subst this; have:=h2.eqV; cases this; rfl
theorem aggV {σ:Sg} {cs:List AV} {us:List Value} (h:VRs σ cs us):VR σ (.agg cs) (.agg us.toArray):=.agg h.1 h.2
inductive QI where
 | no
 | mk (f:Nat) (u v:Bool) (a b c op:Nat) (im:Int)
def gN {β:Type} (d:β) (k:Nat->β) (x:FV):β:=gI d (λ_ n=>Int.rec (motive:=λ_=>β) (λn=>fN n k) (λ_=>d) n) x
theorem gN_ok {β:Type} {d r:β} (hd:d ≠ r) {k:Nat->β} {x:FV} (e:gN d k x = r):∃ a,∃ n:Nat,x = .i a n/\k n = r:=by
 obtain ⟨a,n,rfl,e_0⟩:=gI_ok hd e; clear e
 cases n with
 | ofNat n=>exact ⟨a,n,rfl,(fN_eq n k).symm.trans e_0⟩
 | negSucc n=>exact absurd e_0 hd
def insn (w:Nat):QI:=
 gR .no (λv=>gT .no (λl=>lcs .no (λx l=>lcs .no (λer l=>gE .no (gN .no (λer=>bif' (Nat.beq er 0)
  (gA .no (fun l => lcs .no (fun f l => lcs .no (fun u l => lcs .no (fun v l => lcs .no (fun a l => lcs .no (fun b l => lcs .no (fun c l => lcs .no (fun op l => lcs .no (fun im l => gE .no
    (gN .no (λf=>gB .no (λu=>gB .no (λv=>gN .no (λa=>gN .no (λb=>gN .no (λc=>gN .no (λop=>gI .no (λ_ im=>.mk f u v a b c op im) im) op) c) b) a) v) u) f) l) l) l) l) l) l) l) l) l) x) .no) er) l) l) l) v)
  (ev' 108 [.i .u32 (.ofNat w)] h0)
theorem insn_ok (hW:Wld) {w:Nat} (hw:w < 4294967296) {f:Nat} {u v:Bool} {a b c op:Nat} {im:Int} (e:insn w = .mk f u v a b c op im) :
 decX w = ⟨f,u,v,a,b,c,op,im⟩/\decE w = 0:=by
 have hd:QI.no ≠ .mk f u v a b c op im:=λh=>by cases h
 obtain ⟨r,h',e0,e_0⟩:=gR_ok hd e; clear e; obtain ⟨l,rfl,e_1⟩:=gT_ok hd e_0; clear e_0; obtain ⟨x,l1,rfl,e_2⟩:=gL_ok hd e_1; clear e_1; obtain ⟨er,l2,rfl,e_3⟩:=gL_ok hd e_2; clear e_2; obtain ⟨rfl,e_4⟩:=gE_ok hd e_3; clear e_3; obtain ⟨k0,ern,rfl,e_5⟩:=gN_ok hd e_4; clear e_4; obtain ⟨her,e_6⟩:=gbif_ok hd e_5; clear e_5; obtain ⟨l,rfl,e_7⟩:=gA_ok hd e_6; clear e_6; obtain ⟨f',m1,rfl,e_8⟩:=gL_ok hd e_7; clear e_7; obtain ⟨u',m2,rfl,e_9⟩:=gL_ok hd e_8; clear e_8; obtain ⟨v',m3,rfl,e_10⟩:=gL_ok hd e_9; clear e_9; obtain ⟨a',m4,rfl,e_11⟩:=gL_ok hd e_10; clear e_10; obtain ⟨b',m5,rfl,e_12⟩:=gL_ok hd e_11; clear e_11; obtain ⟨c',m6,rfl,e_13⟩:=gL_ok hd e_12; clear e_12; obtain ⟨op',m7,rfl,e_14⟩:=gL_ok hd e_13; clear e_13; obtain ⟨im',m8,rfl,e_15⟩:=gL_ok hd e_14; clear e_14; obtain ⟨rfl,e_16⟩:=gE_ok hd e_15; clear e_15; obtain ⟨_,f1,rfl,e_17⟩:=gN_ok hd e_16; clear e_16; obtain ⟨u1,rfl,e_18⟩:=gB_ok hd e_17; clear e_17; obtain ⟨v1,rfl,e_19⟩:=gB_ok hd e_18; clear e_18; obtain ⟨_,a1,rfl,e_20⟩:=gN_ok hd e_19; clear e_19; obtain ⟨_,b1,rfl,e_21⟩:=gN_ok hd e_20; clear e_20; obtain ⟨_,c1,rfl,e_22⟩:=gN_ok hd e_21; clear e_21; obtain ⟨_,op1,rfl,e_23⟩:=gN_ok hd e_22; clear e_22; obtain ⟨_,im1,rfl,e_24⟩:=gI_ok hd e_23; clear e_23
 cases e_24
 have her:=Nat.eq_of_beq_eq_true her; subst her; have hs:=dec_spec (w:=w) ⟨by omega,by omega⟩; obtain ⟨uu,σ1,σ2,q1,q2⟩:=ev_det hW e0 (hs.2.2 []) (by kernel_rfl) ⟨[.int .u32 w],λσ=>⟨.cons (.d (.v rfl)) .nil,.cons (.d (.v rfl)) .nil⟩⟩; obtain ⟨us,p1,p2⟩:=tup2 q1 q2; obtain ⟨_,_,g1,g2,p1,p2⟩:=p1.cons2 p2; obtain ⟨_,_,g3,g4,p1,p2⟩:=p1.cons2 p2; have he:=i2 g3 g4; obtain ⟨us,p1,p2⟩:=agg2 g1 g2; obtain ⟨_,_,z1,y1,p1,p2⟩:=p1.cons2 p2; obtain ⟨_,_,z2,y2,p1,p2⟩:=p1.cons2 p2; obtain ⟨_,_,z3,y3,p1,p2⟩:=p1.cons2 p2; obtain ⟨_,_,z4,y4,p1,p2⟩:=p1.cons2 p2; obtain ⟨_,_,z5,y5,p1,p2⟩:=p1.cons2 p2; obtain ⟨_,_,z6,y6,p1,p2⟩:=p1.cons2 p2; obtain ⟨_,_,z7,y7,p1,p2⟩:=p1.cons2 p2; obtain ⟨_,_,z8,y8,p1,p2⟩:=p1.cons2 p2; refine ⟨?_,he.symm⟩; have e1:=i2 z1 y1; have e2:=b2 z2 y2; have e3:=b2 z3 y3; have e4:=i2 z4 y4; have e5:=i2 z5 y5; have e6:=i2 z6 y6; have e7:=i2 z7 y7; have e8:=i2 z8 y8
 show decX w = _
 cases hq:decX (w:Int) with
 | mk f0 u0 v0 a0 b0 c0 op0 im0 =>
  rw [hq] at e1 e2 e3 e4 e5 e6 e7 e8; simp only at e1 e2 e3 e4 e5 e6 e7 e8; rw [e1,e2,e3,e4,e5,e6,e7,e8]
inductive QD where
 | no
 | mk (r h n z c v:FV)
def do1 (op:Nat) (u:Bool) (b n h fn fz fc fv:FV):QD:=
 gR .no (λv=>gT .no (λl=>lcs .no (λr l=>lcs .no (λh l=>lcs .no (λf l=>lcs .no (λ_ l=>gE .no
  (gA .no (λl=>lcs .no (λa l=>lcs .no (λb l=>lcs .no (λc l=>lcs .no (λd l=>gE .no (.mk (n32 r) (n32 h) (nB a) (nB b) (nB c) (nB d)) l) l) l) l) l) f) l) l) l) l) l) v)
  (ev' 183 [.i .i64 (.ofNat op),.b u,b,n,h,.agg [fn,fz,fc,fv]] h0)
theorem do1_ok (hW:Wld) {op:Nat} {u:Bool} {xb xn xh fn fz fc fv:FV} {b n h:Int} {f:Fl} (hb:K32 xb b) (hn:K32 xn n) (hh:K32 xh h) (h1:KB fn f.n) (h2:KB fz f.z) (h3:KB fc f.c) (h4:KB fv f.v) (ub:U32 b) (un:U32 n) (uh:U32 h)
 {r h' n' z' c' v':FV} (e:do1 op u xb xn xh fn fz fc fv = .mk r h' n' z' c' v') :
 K32 r (doF op u b n h f).1/\K32 h' (doF op u b n h f).2.1/\KB n' (doF op u b n h f).2.2.1.n/\KB z' (doF op u b n h f).2.2.1.z/\KB c' (doF op u b n h f).2.2.1.c/\KB v' (doF op u b n h f).2.2.1.v:=by
 have hd:QD.no ≠ .mk r h' n' z' c' v':=λh=>by cases h
 obtain ⟨x,hx,e0,e_0⟩:=gR_ok hd e; clear e; obtain ⟨l,rfl,e_1⟩:=gT_ok hd e_0; clear e_0; obtain ⟨r1,l1,rfl,e_2⟩:=gL_ok hd e_1; clear e_1; obtain ⟨h1',l2,rfl,e_3⟩:=gL_ok hd e_2; clear e_2; obtain ⟨f1,l3,rfl,e_4⟩:=gL_ok hd e_3; clear e_3; obtain ⟨ok1,l4,rfl,e_5⟩:=gL_ok hd e_4; clear e_4; obtain ⟨rfl,e_6⟩:=gE_ok hd e_5; clear e_5; obtain ⟨l,rfl,e_7⟩:=gA_ok hd e_6; clear e_6; obtain ⟨a1,m1,rfl,e_8⟩:=gL_ok hd e_7; clear e_7; obtain ⟨b1,m2,rfl,e_9⟩:=gL_ok hd e_8; clear e_8; obtain ⟨c1,m3,rfl,e_10⟩:=gL_ok hd e_9; clear e_9; obtain ⟨d1,m4,rfl,e_11⟩:=gL_ok hd e_10; clear e_10; obtain ⟨rfl,e_12⟩:=gE_ok hd e_11; clear e_11
 cases e_12
 have hs:=do_s op u b n h f ub un uh; obtain ⟨uu,σ1,σ2,q1,q2⟩:=ev_det hW e0 (hs.2.2 []) (by kernel_rfl) ⟨[.int .i64 op,.bool u,.int .u32 b,.int .u32 n,.int .u32 h,.agg #[.bool f.n,.bool f.z,.bool f.c,.bool f.v]],λσ =>
  ⟨.cons (.d (.v rfl)) (.cons (.d (.v rfl)) (.cons (hb.vr σ) (.cons (hn.vr σ) (.cons (hh.vr σ) (.cons (aggV (.cons (h1.vr σ) (.cons (h2.vr σ) (.cons (h3.vr σ) (.cons (h4.vr σ) .nil))))) .nil))))),
   .cons (.d (.v rfl)) (.cons (.d (.v rfl)) (.cons (.d (.v rfl)) (.cons (.d (.v rfl)) (.cons (.d (.v rfl)) (.cons (aggV (.cons (.d (.v rfl)) (.cons (.d (.v rfl)) (.cons (.d (.v rfl)) (.cons (.d (.v rfl)) .nil))))) .nil)))))⟩⟩
 obtain ⟨us,p1,p2⟩:=tup2 q1 q2; obtain ⟨_,_,z1,y1,p1,p2⟩:=p1.cons2 p2; obtain ⟨_,_,z2,y2,p1,p2⟩:=p1.cons2 p2; obtain ⟨_,_,z3,y3,p1,p2⟩:=p1.cons2 p2; obtain ⟨us,p1,p2⟩:=agg2 z3 y3; obtain ⟨_,_,x1,w1,p1,p2⟩:=p1.cons2 p2; obtain ⟨_,_,x2,w2,p1,p2⟩:=p1.cons2 p2; obtain ⟨_,_,x3,w3,p1,p2⟩:=p1.cons2 p2; obtain ⟨_,_,x4,w4,p1,p2⟩:=p1.cons2 p2; exact ⟨.of z1 y1,.of z2 y2,.of x1 w1,.of x2 w2,.of x3 w3,.of x4 w4⟩
def jI (x y:FV):FV:=gI .any (λ_ n=>gI .any (λ_ m=>bif' (ieq n m) (.i .u32 n) .any) y) x
def jB (x y:FV):FV:=gB .any (λn=>gB .any (λm=>bif' n (bif' m (.b true) .any) (bif' m .any (.b false))) y) x
def jD (x y:QD):QD:=QD.rec (motive:=λ_=>QD) .no (λr h n z c v=>QD.rec (motive:=λ_=>QD) .no (λr' h' n' z' c' v'=>.mk (jI r r') (jI h h') (jB n n') (jB z z') (jB c c') (jB v v')) y) x
theorem jI_1 {x y:FV} {n:Int} (h:K32 x n):K32 (jI x y) n:=by
 rcases h with rfl | rfl
 ·exact .inl rfl
 ·cases y with
  | i k m =>
   show K32 (bif' (ieq n m) (.i .u32 n) .any) n
   cases ieq n m
   ·exact .inl rfl
   ·exact .inr rfl
  | _=>exact .inl rfl
theorem ieq_of {a b:Int} (h:ieq a b = true):a = b:=by
 rw [ieq_eq] at h
 simpa using h
theorem jI_2 {x y:FV} {n:Int} (h:K32 y n):K32 (jI x y) n:=by
 rcases h with rfl | rfl
 ·cases x <;> exact .inl rfl
 ·cases x with
  | i k m =>
   show K32 (bif' (ieq m n) (.i .u32 m) .any) n
   cases hq:ieq m n
   ·exact .inl rfl
   ·have:=ieq_of hq; subst this; exact .inr rfl
  | _=>exact .inl rfl
theorem jB_1 {x y:FV} {n:Bool} (h:KB x n):KB (jB x y) n:=by
 rcases h with rfl | rfl
 ·exact .inl rfl
 ·cases y with
  | b m=>cases n <;> cases m <;> first | exact .inl rfl | exact .inr rfl
  | _=>exact .inl rfl
theorem jB_2 {x y:FV} {n:Bool} (h:KB y n):KB (jB x y) n:=by
 rcases h with rfl | rfl
 ·cases x <;> exact .inl rfl
 ·cases x with
  | b m=>cases n <;> cases m <;> first | exact .inl rfl | exact .inr rfl
  | _=>exact .inl rfl
theorem jD_ok {x y:QD} {r h n z c v:FV} (e:jD x y = .mk r h n z c v):∃ r1 h1 n1 z1 c1 v1 r2 h2 n2 z2 c2 v2,x = .mk r1 h1 n1 z1 c1 v1/\y = .mk r2 h2 n2 z2 c2 v2/\r = jI r1 r2/\h = jI h1 h2/\n = jB n1 n2/\z = jB z1 z2/\c = jB c1 c2/\v = jB v1 v2:=by
 cases x with
 | no=>cases e
 | mk r1 h1 n1 z1 c1 v1 =>
  cases y with
  | no=>cases e
  | mk r2 h2 n2 z2 c2 v2=>cases e; exact ⟨_,_,_,_,_,_,_,_,_,_,_,_,rfl,rfl,rfl,rfl,rfl,rfl,rfl,rfl⟩
def doV (op:Nat) (u:Bool) (b n h fn fz fc fv:FV):QD:=gB (jD (do1 op u b n h fn fz fc (.b false)) (do1 op u b n h fn fz fc (.b true))) (λt=>do1 op u b n h fn fz fc (.b t)) fv
def doQ (op:Nat) (u:Bool) (b n h fn fz fc fv:FV):QD:=gB (jD (doV op u b n h fn fz (.b false) fv) (doV op u b n h fn fz (.b true) fv)) (λt=>doV op u b n h fn fz (.b t) fv) fc
def KD (X:Int × Int × Fl × Bool) (r h n z c v:FV):Prop:=K32 r X.1/\K32 h X.2.1/\KB n X.2.2.1.n/\KB z X.2.2.1.z/\KB c X.2.2.1.c/\KB v X.2.2.1.v
theorem KD.j1 {X:Int × Int × Fl × Bool} {r h n z c v r' h' n' z' c' v':FV} (k:KD X r h n z c v):KD X (jI r r') (jI h h') (jB n n') (jB z z') (jB c c') (jB v v'):=⟨jI_1 k.1,jI_1 k.2.1,jB_1 k.2.2.1,jB_1 k.2.2.2.1,jB_1 k.2.2.2.2.1,jB_1 k.2.2.2.2.2⟩
theorem KD.j2 {X:Int × Int × Fl × Bool} {r h n z c v r' h' n' z' c' v':FV} (k:KD X r' h' n' z' c' v'):KD X (jI r r') (jI h h') (jB n n') (jB z z') (jB c c') (jB v v'):=⟨jI_2 k.1,jI_2 k.2.1,jB_2 k.2.2.1,jB_2 k.2.2.2.1,jB_2 k.2.2.2.2.1,jB_2 k.2.2.2.2.2⟩
theorem doV_ok (hW:Wld) {op:Nat} {u:Bool} {xb xn xh fn fz fc fv:FV} {b n h:Int} {f:Fl} (hb:K32 xb b) (hn:K32 xn n) (hh:K32 xh h) (h1:KB fn f.n) (h2:KB fz f.z) (h3:KB fc f.c) (h4:KB fv f.v) (ub:U32 b) (un:U32 n) (uh:U32 h)
 {r h' n' z' c' v':FV} (e:doV op u xb xn xh fn fz fc fv = .mk r h' n' z' c' v'):KD (doF op u b n h f) r h' n' z' c' v':=by
 rcases h4 with rfl | rfl
 ·obtain ⟨r1,a1,n1,z1,c1,v1,r2,a2,n2,z2,c2,v2,e1,e2,rfl,rfl,rfl,rfl,rfl,rfl⟩:=jD_ok (show jD (do1 op u xb xn xh fn fz fc (.b false)) (do1 op u xb xn xh fn fz fc (.b true)) = _ from e)
  cases hv:f.v with
  | false=>exact KD.j1 (do1_ok hW hb hn hh h1 h2 h3 (.inr (by rw [hv])) ub un uh e1)
  | true=>exact KD.j2 (do1_ok hW hb hn hh h1 h2 h3 (.inr (by rw [hv])) ub un uh e2)
 ·exact do1_ok hW hb hn hh h1 h2 h3 (.inr rfl) ub un uh (show do1 op u xb xn xh fn fz fc (.b f.v) = _ from e)
theorem doQ_ok (hW:Wld) {op:Nat} {u:Bool} {xb xn xh fn fz fc fv:FV} {b n h:Int} {f:Fl} (hb:K32 xb b) (hn:K32 xn n) (hh:K32 xh h) (h1:KB fn f.n) (h2:KB fz f.z) (h3:KB fc f.c) (h4:KB fv f.v) (ub:U32 b) (un:U32 n) (uh:U32 h)
 {r h' n' z' c' v':FV} (e:doQ op u xb xn xh fn fz fc fv = .mk r h' n' z' c' v'):KD (doF op u b n h f) r h' n' z' c' v':=by
 rcases h3 with rfl | rfl
 ·obtain ⟨r1,a1,n1,z1,c1,v1,r2,a2,n2,z2,c2,v2,e1,e2,rfl,rfl,rfl,rfl,rfl,rfl⟩:=jD_ok (show jD (doV op u xb xn xh fn fz (.b false) fv) (doV op u xb xn xh fn fz (.b true) fv) = _ from e)
  cases hv:f.c with
  | false=>exact KD.j1 (doV_ok hW hb hn hh h1 h2 (.inr (by rw [hv])) h4 ub un uh e1)
  | true=>exact KD.j2 (doV_ok hW hb hn hh h1 h2 (.inr (by rw [hv])) h4 ub un uh e2)
 ·exact doV_ok hW hb hn hh h1 h2 (.inr rfl) h4 ub un uh (show doV op u xb xn xh fn fz (.b f.c) fv = _ from e)
inductive QB where
 | no
 | ok (b:Bool)
def holdsQ (a:Nat) (fn fz fc fv:FV):QB:=gR .no (λv=>gB .no (λb=>.ok b) v) (ev' 181 [.i .i64 (.ofNat a),.agg [fn,fz,fc,fv]] h0)
theorem holdsQ_ok (hW:Wld) {a:Nat} {fn fz fc fv:FV} {f:Fl} (h1:KB fn f.n) (h2:KB fz f.z) (h3:KB fc f.c) (h4:KB fv f.v) {b:Bool} (e:holdsQ a fn fz fc fv = .ok b):holdsF a f = b:=by
 have hd:QB.no ≠ .ok b:=λh=>by cases h
 obtain ⟨x,hx,e0,e_0⟩:=gR_ok hd e; clear e; obtain ⟨t,rfl,e_1⟩:=gB_ok hd e_0; clear e_0
 cases e_1
 obtain ⟨uu,σ1,σ2,q1,q2⟩:=ev_det hW e0 (holds_s a f []) (by kernel_rfl) ⟨[.int .i64 a,.agg #[.bool f.n,.bool f.z,.bool f.c,.bool f.v]],λσ =>
  ⟨.cons (.d (.v rfl)) (.cons (aggV (.cons (h1.vr σ) (.cons (h2.vr σ) (.cons (h3.vr σ) (.cons (h4.vr σ) .nil))))) .nil),
   .cons (.d (.v rfl)) (.cons (aggV (.cons (.d (.v rfl)) (.cons (.d (.v rfl)) (.cons (.d (.v rfl)) (.cons (.d (.v rfl)) .nil))))) .nil)⟩⟩
 exact (b2 q1 q2).symm
inductive QZ where
 | no
 | ok (n:Int)
def sgnQ (m:Nat):QZ:=gR .no (λv=>gI .no (λ_ n=>.ok n) v) (ev' 264 [.i .u32 (.ofNat m)] h0)
theorem sgnQ_ok (hW:Wld) {m:Nat} (hm:m < 4294967296) {n:Int} (e:sgnQ m = .ok n):sgnF m = n:=by
 have hd:QZ.no ≠ .ok n:=λh=>by cases h
 obtain ⟨x,hx,e0,e_0⟩:=gR_ok hd e; clear e; obtain ⟨_,t,rfl,e_1⟩:=gI_ok hd e_0; clear e_0
 cases e_1
 obtain ⟨uu,σ1,σ2,q1,q2⟩:=ev_det hW e0 (sgn_s (x:=m) ⟨by omega,by omega⟩ []) (by kernel_rfl) ⟨[.int .u32 m],λσ=>⟨.cons (.d (.v rfl)) .nil,.cons (.d (.v rfl)) .nil⟩⟩; exact (i2 q1 q2).symm
end
noncomputable section
def imgL:List Nat:=[0,0,0,0,504,196608,196864,0,1845493764,1323696128,4143972357,1627455487,1092157376,2685403136,0,0,2293235736,1216872456,149487624,3841982568,1323892744,2950692868,2900361216,201326606,1323892736,2160066508,1074200577,1208549376,3909091416,1610612736,1074135096,2294284232,3087007744,1610612736,1074135096,2415919104,1208549422,3841982483,1208549424,3841982476,1208549473,3841982469,1208549473,3841982542,1208549498,3992977484,3875536916,1208549424,3841982537,1208549433,3992977479,3875536918,1208549422,3841982532,1208549423,3992977474,3875536952,1208549421,3841982467,1208549421,3909091389,3875536908,1208549376,3841982522,1208549420,3992977464,3875536942,1610612736,1074135096,2415919104,1074331680,1074004223,2696937416,3875536938,1610612736,1074135096,2415919104,1074462724,536870912,1744830464,1216741436,2692743168,1610612736,1074135100,2147483648,1208549378,3841982472,1208549379,3841982467,1208549379,3909091359,3875536913,1208549378,3909091356,3875536907,1208549377,3841982467,1208549377,3909091351,3875536902,1208549376,3909091348,3875536896,1073741934,2696937416,3875536902,1073741936,2696937416,3875536899,1073741937,2696937416,3875536896,3875536899,1073741919,2696937416,3875536896,3892314020,234881036,2363490304,2413821956,1323827208,3338665999,1207959560,2831155140,1207959562,2831155140]
def imgS:List Nat:=[0,0,0,0,176,196608,196864,0,1845493764,1323696128,4143972356,1627455487,1092157376,2685403136,0,2293235736,1216872456,149487624,3841982487,1323892744,2950692868,2900361216,201326606,1323892736,2160066508,1074200577,1208549376,3909091337,1610612736,1074135096,2294284232,3087007744,1610612736,1074135096,2415919104,2696937416,3892314099,234881036,2363490304,2413821956,1323827208,3338665999,1207959562,2831155140]
inductive MV where
 | u
 | b
 | k (n:Nat)
inductive Mq where
 | nil
 | cons (a:Nat) (x:MV) (r:Mq)
def nthN (l:List Nat):Nat->Nat:=List.rec (motive:=λ_=>Nat->Nat) (λ_=>0) (λa _ ih n=>Nat.rec (motive:=λ_=>Nat) a (λm _=>ih m) n) l
def rdQ (mg:List Nat) (m:Mq) (a:Nat):MV:=Mq.rec (motive:=λ_=>MV) (.k (nthN mg a)) (λb x _ ih=>bif' (Nat.beq a b) x ih) m
def hasQ (m:Mq) (a:Nat):Bool:=Mq.rec (motive:=λ_=>Bool) false (λb _ _ ih=>bif' (Nat.beq a b) true ih) m
def wrQ (m:Mq) (a:Nat) (x:MV):Mq:=Mq.rec (motive:=λ_=>Mq) (.cons a x .nil) (λb y r ih=>bif' (Nat.beq a b) (.cons a x r) (.cons b y ih)) m
def setL (l:List FV) (v:FV):Nat->List FV:=List.rec (motive:=λ_=>Nat->List FV) (λ_=>[]) (λa b ih n=>Nat.rec (motive:=λ_=>List FV) (v :: b) (λm _=>a :: ih m) n) l
structure Q where
 regs:List FV
 h:FV
 n:FV
 z:FV
 c:FV
 v:FV
 pc:Nat
 mem:Mq
 out:List Nat
 rd:Nat
 nx:Nat
 en:Nat
 tr:Int
inductive QR where
 | no
 | ok (q:Q)
def frq (x:FV) (k:FV->QR):QR:=gI (k .any) (λ_ n=>Int.rec (motive:=λ_=>QR) (λm=>fN m λm=>k (.i .u32 (.ofNat m))) (λ_=>k .any) n) x
def frqB (x:FV) (k:FV->QR):QR:=gB (k .any) (λt=>Bool.rec (motive:=λ_=>QR) (k (.b false)) (k (.b true)) t) x
def topQ (x:FV):FV:=gN .any (λm=>.b (Nat.beq (Nat.div m 2147483648) 1)) x
def zeroQ (x:FV):FV:=gN .any (λm=>.b (Nat.beq m 0)) x
def setsQ (q:Q) (a:Nat) (x:FV):QR:=frq x λx=>frqB (topQ x) λn=>frqB (zeroQ x) λz=>.ok { q with regs:=setL q.regs x a,n:=n,z:=z }
def m32 (n:Int):Nat:=Int.rec (motive:=λ_=>Nat) (λm=>Nat.mod m 4294967296) (λm=>Nat.sub 4294967295 (Nat.mod m 4294967296)) n
def reg (q:Q) (a:Nat):FV:=lnth .any q.regs a
def mvQ (x:FV):MV:=gN .u (λm=>.k m) x
def stQ (mg:List Nat) (q:Q) (at':Nat) (v:Bool) (x:FV):QR:=
 bif' (Nat.beq at' 4294967240) (gN .no (λm=>List.rec (motive:=λ_=>QR) (fN (Nat.mod m 256) λm=>.ok { q with out:=[m] }) (λ_ _ _=>.no) q.out) x)
 (bif' (Nat.beq at' 4294967236) (gN .no (λm=>QZ.rec (motive:=λ_=>QR) .no (λt=>.ok { q with en:=2,tr:=t }) (sgnQ m)) x)
 (bif' (Nat.beq at' 4294967232) (.ok { q with en:=1 })
 (bif' (Nat.beq (Nat.mod at' 4) 0) (fN (Nat.div at' 4) fun w => bif' (Nat.blt w 65536)
   (bif' v (gN .no (fun m => fN (Nat.mod m 256) fun m => MV.rec (motive := fun _ => QR) .no (.ok { q with mem := wrQ q.mem w (.k m) }) (fun o => bif' (Nat.blt o 256) (.ok { q with mem := wrQ q.mem w (.k m) }) .no) (rdQ mg q.mem w)) x)
     (.ok { q with mem:=wrQ q.mem w (mvQ x) })) .no) .no)))
def ldQ (mg:List Nat) (q:Q) (at':Nat) (v:Bool) (a:Nat):QR:=
 bif' (Nat.beq at' 4294967240) (fN q.nx λnx=>bif' (Nat.blt nx 256) (setsQ { q with rd:=Nat.succ q.rd,nx:=257 } a (.i .u32 (.ofNat nx))) (bif' (Nat.beq nx 256) (setsQ q a (.i .u32 0)) .no))
 (bif' (Nat.beq at' 4294967244) (bif' (Nat.blt q.nx 256) (setsQ q a (.i .u32 1)) (bif' (Nat.beq q.nx 256) (setsQ q a (.i .u32 0)) .no))
 (bif' (Nat.beq (Nat.mod at' 4) 0) (fN (Nat.div at' 4) fun w => bif' (Nat.blt w 65536)
   (MV.rec (motive:=λ_=>QR) (setsQ q a .any) (setsQ q a .any) (λo=>setsQ q a (.i .u32 (.ofNat (bif' v (Nat.mod o 256) o)))) (rdQ mg q.mem w)) .no) .no))
def movQ (mg:List Nat) (q:Q) (u v:Bool) (a b:Nat) (im:Int):QR:=
 gN .no (λrb=>fN (Nat.mod (Nat.add rb (m32 im)) 4294967296) λat'=>bif' u (stQ mg q at' v (reg q a)) (ldQ mg q at' v a)) (reg q b)
def goQ (q:Q) (v:Bool) (t:Nat):QR:=
 fN t λt=>bif' (Nat.blt t 126) (bif' v (fN (Nat.mul q.pc 4) λp=>.ok { q with pc:=t,regs:=setL q.regs (.i .u32 (.ofNat p)) 15 }) (.ok { q with pc:=t })) .no
def jmpQ (q:Q) (u v:Bool) (a c:Nat) (im:Int):QR:=
 QB.rec (motive:=λ_=>QR) .no (λt=>bif' t (bif' u (Int.rec (motive:=λ_=>QR) (λt=>goQ q v t) (λ_=>.no) (iadd (.ofNat q.pc) im)) (gN .no (λm=>goQ q v (Nat.div m 4)) (reg q c))) (.ok q)) (holdsQ a q.n q.z q.c q.v)
def doitQ (q:Q) (u:Bool) (a b op:Nat) (n:FV):QR:=
 QD.rec (motive:=λ_=>QR) .no (λr h n z c v=>frq r λr=>frq h λh=>frqB n λn=>frqB z λz=>frqB c λc=>frqB v λv=>.ok { q with regs:=setL q.regs r a,h:=h,n:=n,z:=z,c:=c,v:=v })
  (doQ op u (reg q b) n q.h q.n q.z q.c q.v)
def recQ (q:Q) (f:Nat) (u v:Bool) (a b c op:Nat) (im:Int):QR:=
 bif' (bif' (Nat.beq op 0) (bif' u (Nat.beq f 1) false) false) (fN (Nat.mod (Nat.mul (m32 im) 65536) 4294967296) λm=>setsQ q a (.i .u32 (.ofNat m)))
 (bif' (bif' (Nat.beq op 0) (bif' u v false) false) .no
 (bif' (Nat.beq f 1) (bif' v .no (fN (Nat.mod (m32 im) 65536) λm=>doitQ q u a b op (.i .u32 (.ofNat m)))) (doitQ q u a b op (reg q c))))
def exQ (mg:List Nat) (q:Q) (x:QI):QR:=
 QI.rec (motive:=λ_=>QR) .no (λf u v a b c op im=>bif' (Nat.beq f 2) (movQ mg q u v a b im) (bif' (Nat.beq f 3) (jmpQ q u v a c im) (recQ q f u v a b c op im))) x
def stepQ (mg:List Nat) (q:Q):QR:=
 bif' (hasQ q.mem q.pc) .no (bif' (Nat.blt q.pc 126) (fN q.pc λpc=>exQ mg { q with pc:=Nat.succ pc } (insn (nthN mg pc))) .no)
end
noncomputable section
def gRh {β:Type} (d:β) (k:FV->Hp->β) (r:FR):β:=FR.rec (motive:=λ_=>β) d k r
def gP {β:Type} (d:β) (k:Pth->Nat->β) (x:FV):β:=FV.rec (motive_1:=λ_=>β) (motive_2:=λ_=>Unit) d d d d d d d (λ_=>d) (λ_=>d) (λ_ _ _=>d) (λ_ _ _=>d) (λ_ _ _=>d) (λ_ _=>d) (λ_ _=>d) (λ_ _ _ _ _=>d) (λ_ _=>d) (λ_=>d) (λp o=>k p o) (λ_ _=>d) () (λ_ _ _ _=>()) x
def gH {β:Type} (d:β) (k:Pth->Nat->Nat->Nat->Nat->β) (x:FV):β:=FV.rec (motive_1:=λ_=>β) (motive_2:=λ_=>Unit) d d d d d d d (λ_=>d) (λ_=>d) (λ_ _ _=>d) (λ_ _ _=>d) (λ_ _ _=>d) (λ_ _=>d) (λ_ _=>d) (λp o n c z=>k p o n c z) (λ_ _=>d) (λ_=>d) (λ_ _=>d) (λ_ _=>d) () (λ_ _ _ _=>()) x
def gC {β:Type} (d:β) (k:Nat->List FV->FV->β) (x:FB):β:=FB.rec (motive:=λ_=>β) d (λ_ _ _ _=>d) (λ_ _ _=>d) k (λ_ _=>d) x
def hp1:Hp:=.mk hE 1 .nil
def geL (n:Nat) (l:Lg):Bool:=Lg.rec (motive:=λ_=>Bool) true (λp _ ih=>bif' (Nat.ble n (num p)) ih false) l
def isU (n:Nat) (x:FV):Bool:=gI false (λk m=>bif' (Nat.beq (kN k) 6) (ieq m (.ofNat n)) false) x
def eqW (l:List FV) (ws:List Nat):Bool:=List.rec (motive:=λ_=>List FV->Bool) (λl=>lcs true (λ_ _=>false) l) (λn _ ih l=>lcs false (λx r=>bif' (isU n x) (ih r) false) l) ws l
def parQ {β:Type} (d:β) (k:List FV->FV->Hp->β) (r:FR):β:=
 gRh d (λv h=>gT d (λl=>lcs d (λm l=>lcs d (λy l=>lcs d (λe l=>gE d (gI d (λkk e=>bif' (bif' (Nat.beq (kN kk) 3) (i0 e) false) (gA d (λcs=>bif' (bif' (Nat.beq (lenL cs 0) 8) (cellsB 8 cs) false) (k cs y h) d) m) d) e) l) l) l) l) v) r
def bltQ {β:Type} (d:β) (k:FV->Hp->β) (cs:List FV) (h:Hp):β:=
 gRh d (λv h=>gRh d (λv h=>gP d (λp o=>gRh d k (ev' 7 [.hsl p 0 1 1 8,.agg [.i .i64 65536,.i .i64 16384]] h)) v) (newB h (.c 8 cs .any) λp h=>.ok (.ptr p 0) h)) (newB h (.c 8 cs .any) λp h=>.ok (.ptr p 0) h)
def imgQ (mg:List Nat) (v:FV) (h:Hp):Bool:=
 gT false (λl=>lcs false (λx l=>lcs false (λok l=>gE false (gB false (λok=>bif' ok (gA false (λl=>lcs false (λw l=>lcs false (λst l=>lcs false (λmd l=>gE false
  (gH false (fun p o n c z => bif' (bif' (Nat.beq o 0) (bif' (Nat.beq n 65536) (bif' (Nat.beq c 65536) (Nat.beq z 1) false) false) false)
    (gI false (λkk s=>bif' (bif' (Nat.beq (kN kk) 3) (ieq s 8) false) (onHp h λt _ lg=>bif' (geL 1 lg) (gC false (λm cs z0=>bif' (Nat.beq m 65536) (bif' (isU 0 z0) (bif' (cellB md) (eqW cs mg) false) false) false) (hget p t)) false) false) st) false) w) l) l) l) l) x) false) ok) l) l) l) v
def pipeG (src:FV) (mg:List Nat):Bool:=parQ false (λcs _ h=>bltQ false (imgQ mg) cs h) (ev' 6 [src] hp1)
end
end Go.Proofs.YtofpekbidngnfaaGreatDoor
namespace Go.Proofs.YtofpekbidngnfaaGreatDoor
noncomputable section
inductive QS where
 | no
 | ok (k:Nat) (q:Q)
def runQ (mg:List Nat) (hd n:Nat):Nat->Q->QS:=Nat.rec (motive:=λ_=>Nat->Q->QS) (λ_ _=>.no) (λ_ ih k q=>QR.rec (motive:=λ_=>QS) .no (λq=>bif' (Nat.beq q.en 0) (bif' (Nat.beq q.pc hd) (.ok (Nat.succ k) q) (ih (Nat.succ k) q)) (.ok (Nat.succ k) q)) (stepQ mg q)) n
def z32:FV:=.i .u32 0
def q0:Q:=⟨[z32,z32,z32,z32,z32,z32,z32,z32,z32,z32,z32,z32,z32,z32,z32,z32],z32,.b false,.b false,.b false,.b false,8,.nil,[],0,257,0,0⟩
def qH (hd nx:Nat):Q:=⟨[.any,z32,z32,z32,z32,z32,z32,z32,.any,z32,z32,z32,.i .u32 262136,z32,.i .u32 262136,.i .u32 44],.any,.any,.any,.any,.any,hd,.cons 14 .b (.cons 15 .u (.cons 65534 (.k 0) (.cons 65535 (.k 44) .nil))),[],0,nx,0,0⟩
def eqU (x y:FV):Bool:=gI false (λk n=>bif' (Nat.beq (kN k) 6) (gI false (λ_ m=>ieq n m) y) false) x
def isAny (x:FV):Bool:=FV.rec (motive_1:=λ_=>Bool) (motive_2:=λ_=>Unit) true false false false false false false (λ_=>false) (λ_=>false) (λ_ _ _=>false) (λ_ _ _=>false) (λ_ _ _=>false) (λ_ _=>false) (λ_ _=>false) (λ_ _ _ _ _=>false) (λ_ _=>false) (λ_=>false) (λ_ _=>false) (λ_ _=>false) () (λ_ _ _ _=>()) x
def leR (q:Q):List FV->Nat->Bool:=λl=>List.rec (motive:=λ_=>Nat->Bool) (λ_=>true) (λx _ ih i=>bif' (bif' (isAny x) true (eqU x (reg q i))) (ih (Nat.succ i)) false) l
def leV (x y:MV):Bool:=MV.rec (motive:=λ_=>Bool) true (MV.rec (motive:=λ_=>Bool) false true (λn=>Nat.blt n 256) y) (λn=>MV.rec (motive:=λ_=>Bool) false false (λm=>Nat.beq n m) y) x
def keysQ (q p:Mq):Bool:=Mq.rec (motive:=λ_=>Bool) true (λa _ _ ih=>bif' (hasQ p a) ih false) q
def leM (mg:List Nat) (q:Mq) (p:Mq):Bool:=bif' (keysQ q p) (Mq.rec (motive:=λ_=>Bool) true (λa x _ ih=>bif' (leV x (rdQ mg q a)) ih false) p) false
def leH (mg:List Nat) (hd:Nat) (q:Q):Bool:=bif' (Nat.beq q.en 0) (bif' (Nat.beq q.pc hd) (bif' (leR q (qH hd 0).regs 0) (bif' (leM mg q.mem (qH hd 0).mem) (ieq q.tr 0) false) false) false) false
def chk0 (mg:List Nat) (hd:Nat):Bool:=QS.rec (motive:=λ_=>Bool) false (λk q=>bif' (Nat.ble k 100) (bif' (leH mg hd q) (bif' (Nat.beq q.rd 0) (List.rec (motive:=λ_=>Bool) true (λ_ _ _=>false) q.out) false) false) false) (runQ mg hd 60 0 q0)
def chkE (mg:List Nat) (hd:Nat):Bool:=QS.rec (motive:=λ_=>Bool) false (λk q=>bif' (Nat.ble k 100) (bif' (Nat.beq q.en 1) (bif' (Nat.beq q.rd 0) (List.rec (motive:=λ_=>Bool) true (λ_ _ _=>false) q.out) false) false) false) (runQ mg hd 60 0 (qH hd 256))
def wantN (c:Nat):Nat:=
 bif' (bif' (Nat.ble 97 c) (Nat.ble c 122) false) (Nat.sub c 32)
  (bif' (bif' (bif' (Nat.ble 48 c) (Nat.ble c 57) false) true (Nat.beq c 45)) (bif' (Nat.beq (Nat.mod c 4) 0) 110 (bif' (Nat.beq (Nat.mod c 4) 3) 113 112))
    (bif' (Nat.ble c 47) 95 256))
def chkB (mg:List Nat) (hd:Nat) (wt:Nat->Nat) (c:Nat):Bool:=QS.rec (motive:=λ_=>Bool) false (λk q=>bif' (Nat.ble k 100) (bif' (Nat.beq q.rd 1)
 (bif' (Nat.beq (wt c) 256) (bif' (Nat.beq q.en 2) (bif' (ieq q.tr 8) (List.rec (motive := fun _ => Bool) true (fun _ _ _ => false) q.out) false) false)
   (bif' (leH mg hd q) (List.rec (motive:=λ_=>Bool) false (λa l _=>bif' (Nat.beq a (wt c)) (List.rec (motive:=λ_=>Bool) true (λ_ _ _=>false) l) false) q.out) false)) false) false) (runQ mg hd 100 0 (qH hd c))
def chkL (mg:List Nat) (hd:Nat) (wt:Nat->Nat) (n:Nat):Nat->Bool:=Nat.rec (motive:=λ_=>Nat->Bool) (λ_=>true) (λ_ ih c=>bif' (chkB mg hd wt c) (fN (Nat.succ c) ih) false) n
end
end Go.Proofs.YtofpekbidngnfaaGreatDoor
