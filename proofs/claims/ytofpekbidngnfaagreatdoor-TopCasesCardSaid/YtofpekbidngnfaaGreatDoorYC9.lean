/- cpu.Machine.jumps. -/
import Derived.Test.YtofpekbidngnfaaGreatDoorYC2
set_option linter.unusedSectionVars false
set_option linter.unusedSimpArgs false
set_option linter.unusedVariables false
set_option maxHeartbeats 1000000
set_option maxRecDepth 20000
namespace Go.Proofs.YtofpekbidngnfaaGreatDoor
open Go.RowKit
def c110:AC:=
 sr [kn 3 (.bx t1)]
 (.seq (.seq (.dreg [[],[0],[],[2],[3],[4],[1,5],[6]] [ia 5 t3 3,il 6 t5,im 7 t0,iv0 8 t7,ia 9 t8 17,kn 10 (.ld t9 4 true),ic 11 181 [t6,t10],kn 12 (.un .not t11)])
 (.cond t12 (.ret) (.skip)))
 (sr [im 13 t0,iv0 14 t13,ia 15 t14 21,il 16 t15,im 4 t16]
 (.seq (sr [ia 17 t3 1,il 18 t17]
 (.cond t18 (.reg [im 19 t0,im 20 t4,ia 21 t3 7,il 22 t21,ib 23 .add t20 t22,ib 24 .and t23 (kc 1073741823),iv0 25 t19,ia 26 t25 21,ke (.st t26 t24 1)]) (.dreg [[],[],[],[2],[1],[4],[5,3],[6],[7],[8],[0,0,1,2,3,4,5,6,7,8,9],[10,0,1,2,3,4,5,6,7,8,9],[11,9,0,1,2,3,4,5,6,7,8,9]] [im 27 t0,im 28 t0,ia 29 t3 5,il 30 t29,iv0 31 t28,ia 32 t31 0,kn 33 (.iar t32 t30 16 1),il 34 t33,kn 35 (.bin .shr t34 (.c (.d (.v (.int .u64 2))))),kn 36 (.cvi .i64 t35),iv0 37 t27,ia 38 t37 21,ke (.st t38 t36 1)])))
 (sr [ia 39 t3 2,il 40 t39]
 (.cond t40 (.reg [im 41 t0,im 42 t4,kn 43 (.cvi .u32 t42),kn 44 (.bin .shl t43 (.c (.d (.v (.int .u64 2))))),iv0 45 t41,ia 46 t45 0,kn 47 (.iar t46 (kc 15) 16 1),ke (.st t47 t44 1)]) (.skip))))))
def r110:List RC:=[]
theorem cc110:cKc Tryz.f110 (hh 110) c110:=by unfold cKc; kernel_rfl
theorem rr110:resC Tryz.prog Tryz.f110 = some r110:=by kernel_rfl
theorem and30 (m:Int):∃ K,IntKind.i64.wrap ((BitVec.ofInt IntKind.i64.bits m &&& BitVec.ofInt IntKind.i64.bits 1073741823).toNat:Int) = K/\0<=K/\K < 1073741824:=by
 refine ⟨_,rfl,?_⟩; have h1:(BitVec.ofInt IntKind.i64.bits m &&& BitVec.ofInt IntKind.i64.bits 1073741823).toNat<=1073741823:=by
  rw [BitVec.toNat_and]; exact Nat.le_trans Nat.and_le_right (by decide)
 generalize (BitVec.ofInt IntKind.i64.bits m &&& BitVec.ofInt IntKind.i64.bits 1073741823).toNat = q at *
 rw [w_i64 (by omega) (by omega)]; omega
noncomputable def holdsF (a:Int) (f:Fl):Bool:=(holds_f a f.n f.z f.c f.v).choose
theorem holds_s (a:Int) (f:Fl):∀ H,ACalls Tryz.prog 181 [iv a,.agg [bv f.n,bv f.z,bv f.c,bv f.v]] H λw H'=>w = bv (holdsF a f)/\H' = H:=(holds_f a f.n f.z f.c f.v).choose_spec
def and30F (m:Int):Int:=IntKind.i64.wrap ((BitVec.ofInt IntKind.i64.bits m &&& BitVec.ofInt IntKind.i64.bits 1073741823).toNat:Int)
def toF (s:St) (x:In):Int:=if x.u = true then and30F (s.pc + x.im) else s.regs.getD x.c.toNat 0 / 4
noncomputable def jmpF (s:St) (x:In):St:=
 if holdsF x.a s.fl = true then (if x.v = true then { s with pc:=toF s x,regs:=s.regs.set 15 (s.pc * 4) } else { s with pc:=toF s x }) else s
theorem jmpF_f {s:St} {x:In} (h:holdsF x.a s.fl = false):jmpF s x = s:=by simp only [jmpF,h,Bool.false_eq_true,if_false]
theorem jmpF_t {s:St} {x:In} (h:holdsF x.a s.fl = true):jmpF s x = if x.v = true then { s with pc:=toF s x,regs:=s.regs.set 15 (s.pc * 4) } else { s with pc:=toF s x }:=by rw [jmpF,if_pos h]
theorem jumps_c {H0 H:List ABlk} {mb pb wb:Nat} {o:AV} {s:St} (hm:MAt H0 H mb pb wb o s) {x:In} (hx:InOk x) :
 ACalls Tryz.prog 110 [.ptr mb 0,x.av] H (Put H0 H mb pb wb o (jmpF s x)):=by
 have hlt:mb < H.length:=(List.getElem?_eq_some_iff.1 hm.m).1; have h16:=hm.r16; have hml:=hm.m; have hcC:=reg_at (B:=bC s pb o) h16 (a:=x.c.toNat) (by have:=hx.c; omega); have uC:=reg_rng hm.ru x.c.toNat; have hk:∀ l,(H ++ l)[mb]? = some (.cells (s.regs.map wv ++ bC s pb o)):=λl=>by rw [List.getElem?_append_left hlt]; exact hml
 have hlenR:(s.regs.map wv ++ bC s pb o).length = 28:=by rw [List.length_append,lnn,h16]; rfl
 have hb12:(bC s pb o).length = 12:=rfl; have hap:∀ x l,(H ++ l).set mb x = H.set mb x ++ l:=λx l=>hm.set_ap x l
 have h17:List.take 4 (List.drop 17 (s.regs.map wv ++ bC s pb o)) = [bv s.fl.n,bv s.fl.z,bv s.fl.c,bv s.fl.v]:=by
  rw [show 17 = 16 + 1 from rfl,drp (by rw [lnn]; exact h16)]; rfl
 have h21:List.take 1 (List.drop 21 (s.regs.map wv ++ bC s pb o)) = [iv s.pc]:=by
  rw [show 21 = 16 + 5 from rfl,drp (by rw [lnn]; exact h16)]; rfl
 obtain ⟨f,u,v,a,b,c,op,im⟩:=x; have hc:=hx.c; have him:=hx.im; have hpc:=hm.pc; simp only at hc him hcC uC; have hB:=holds_s a s.fl; obtain ⟨B,hBe⟩:∃ B,B = holdsF a s.fl:=⟨_,rfl⟩; rw [<- hBe] at hB; obtain ⟨K,hK,k0,k1⟩:=and30 (s.pc + im); obtain ⟨p,hp⟩:∃ p,p = toF s (In.mk f u v a b c op im):=⟨_,rfl⟩; have hpr:0<=p/\p < 1073741824:=by
  rw [hp,toF]
  split
  ·rw [and30F,hK]; exact ⟨k0,k1⟩
  ·simp only; omega
 have hK2:=hK
 try simp only [go_sem,seval,reduceCtorEq] at hK2
 refine ACalls.enter Tryz.func110 cc110 rr110 λhcl=>?_
 simp only [Tryz.ntmps110,c110,r110]; refine W.seq_reg ?_; simp (disch:=omega) only [go_sem,seval,reduceCtorEq]; refine W.cut (λs' H'=>holdsF a s.fl = true/\s' = [.ptr mb 0,.any,.any,.ptr H.length 0] ++ List.replicate 44 .any/\H' = H ++ [.cells (In.mk f u v a b c op im).cs]) (wpA.W ?_) ?_
 ·simp (disch:=omega) only [go_sem,seval,reduceCtorEq]
  refine W.pchain follows (by decide +kernel) ?_; simp (disch:=omega) only [hk,h17,hlenR,List.length_append,lnn,h16,hb12,go_sem,seval,reduceCtorEq]; refine PCont.mk (hB _) ?_
  cases B
  ·simp (disch:=omega) only [go_sem,seval,reduceCtorEq]
   rw [jmpF_f (x:=In.mk f u v a b c op im) hBe.symm]; exact Ret.drop _ H (Nat.le_refl _) hcl (.rfl _) (by simp [refs,refs.refsL]) ⟨rfl,(set_same hml).symm,hm⟩
  ·simp (disch:=omega) only [go_sem,seval,reduceCtorEq]
   exact ⟨_,_,Wk.slots (by (try simp only [List.replicate,List.cons_append,List.nil_append]); repeat' constructor),hBe.symm,rfl,rfl⟩
 rintro s' H' ⟨ht,rfl,rfl⟩; rw [jmpF_t (x:=In.mk f u v a b c op im) ht]; obtain ⟨A,hA⟩:∃ A,A = s.regs.map wv:=⟨_,rfl⟩; have hl:A.length = 16:=by rw [hA,lnn]; exact h16
 have s21:∀ x B,List.take 21 (A ++ B) ++ x :: List.drop 22 (A ++ B) = A ++ (B.take 5 ++ x :: B.drop 6):=λx B=>stB hl 5 x
 refine W.seq_reg ?_; simp (disch:=omega) only [hk,h21,hlenR,List.length_append,lnn,h16,hb12,go_sem,seval,reduceCtorEq]; obtain ⟨s1,hs1⟩:∃ s1:St,s1 = { s with pc:=p }:=⟨_,rfl⟩; have m1:MAt H0 (H.set mb (.cells (s1.regs.map wv ++ bC s1 pb o))) mb pb wb o s1:=by
  rw [hs1]; exact hm.put { s with pc:=p } ⟨rfl,rfl⟩ h16 hm.ru hm.hu hpr hm.rd
 have e1:s1.regs.map wv ++ bC s1 pb o = A ++ [wv s.h,bv s.fl.n,bv s.fl.z,bv s.fl.c,bv s.fl.v,iv p,.ptr pb 0,sv s.inp,iv s.rd,o,iv s.en,iv s.tr]:=by rw [hs1,hA]; rfl
 refine W.cut (λs' H'=>s' = [.ptr mb 0,.any,.any,.ptr H.length 0,iv s.pc] ++ List.replicate 43 .any/\H' = H.set mb (.cells (s1.regs.map wv ++ bC s1 pb o)) ++ [.cells (In.mk f u v a b c op im).cs]) (wpA.W ?_) ?_
 ·rw [<- hA] at hk
  cases u
  ·simp (disch:=omega) only [go_sem,seval,reduceCtorEq]
   have hnd:∀ l,(H ++ l)[mb]? ≠ some .dead:=λl=>by rw [hk]; exact λe=>by cases e
   refine W.dregD [([],[]),([],[]),([],[]),([],[]),([],[]),([],[]),([],[]),([],[]),([],[]),([],[]),([],[]),([],[]),([mb],[])] follows (by decide +kernel) rfl rfl (λz hz b' hb'=>?_) ?_
   ·simp only [List.mem_cons,List.not_mem_nil,or_false] at hz
    rcases hz with rfl | rfl | rfl | rfl | rfl | rfl | rfl | rfl | rfl | rfl | rfl | rfl | rfl <;> simp at hb' <;> subst hb' <;> exact ⟨by simp,hnd _⟩
   rw [<- hA] at hcC
   repeat (rw [DC_p]; simp (disch:=omega) only [hk,hcC,hl,hb12,List.length_append,go_sem,seval,reduceCtorEq])
   refine WStep.ev (by simp) (by simp) ?_; have ep:p = s.regs.getD c.toNat 0 / 4:=hp; rw [ep] at e1; simp only [bC] at hk; simp (disch:=omega) only [hk,hap,s21,bC,hl,go_sem,seval,reduceCtorEq]; refine ⟨FrOk.at2 (H ++ [.cells (In.mk f false v a b c op im).cs]) (by simp) hlt _ hap,?_⟩
   try simp (disch:=omega) only [go_sem,seval,reduceCtorEq]
   rw [<- e1]; exact ⟨_,_,Wk.slots (by (try simp only [List.replicate,List.cons_append,List.nil_append]); repeat' constructor),rfl,rfl⟩
  ·have ep:p = K:=by rw [hp]; exact hK
   rw [ep] at e1; simp only [bC] at hk; simp (disch:=omega) only [hk,hap,s21,bC,hl,hK,hK2,go_sem,seval,reduceCtorEq]; rw [<- e1]; exact ⟨_,_,Wk.slots (by (try simp only [List.replicate,List.cons_append,List.nil_append]); repeat' constructor),rfl,rfl⟩
 rintro s' H' ⟨rfl,rfl⟩; refine wpA.W ?_; rw [<- hp]; have hcs:=hm.cl hcl s1; have hgm:∀ x l,(H.set mb x ++ l)[mb]? = some x:=λx l=>by rw [List.getElem?_append_left (by rw [List.length_set]; exact hlt)]; exact List.getElem?_set_self hlt
 have hsm:∀ x y l,(H.set mb x ++ l).set mb y = H.set mb y ++ l:=λx y l=>by rw [List.set_append_left _ _ (by rw [List.length_set]; exact hlt),List.set_set]
 have hq:∀ x a l,(H.set mb x ++ (a :: l))[H.length]? = some a:=λx a l=>by rw [List.getElem?_append_right (by rw [List.length_set]; exact Nat.le_refl _),List.length_set]; simp
 cases v
 ·simp (disch:=omega) only [hq,go_sem,seval,reduceCtorEq]
  rw [<- hs1]; exact Ret.drop (.tup []) (H.set mb _) (by simp) hcs (.rfl _) (by simp [refs,refs.refsL]) ⟨rfl,rfl,m1⟩
 ·have hrs:∀ r,List.take 15 (s1.regs.map wv ++ bC s1 pb o) ++ wv r :: List.drop 16 (s1.regs.map wv ++ bC s1 pb o) = (s1.regs.set 15 r).map wv ++ bC s1 pb o:=λr=>reg_set (B:=bC s1 pb o) m1.r16 (a:=15) (by decide) r
  have hb1:(bC s1 pb o).length = 12:=rfl; have h161:=m1.r16; have m2:=m1.put { s1 with regs:=s1.regs.set 15 (s.pc * 4) } ⟨rfl,rfl⟩ (by simp only [List.length_set]; exact h161) (set_rng m1.ru _ ⟨by omega,by omega⟩) m1.hu m1.pc m1.rd; rw [List.set_set] at m2; have hc2:=hm.cl hcl { s1 with regs:=s1.regs.set 15 (s.pc * 4) }; simp (disch:=omega) only [hq,hgm,hsm,hrs,h161,hb1,List.length_append,lnn,go_sem,seval,reduceCtorEq]; have es:({ s with pc:=p,regs:=s.regs.set 15 (s.pc * 4) }:St) = { s1 with regs:=s1.regs.set 15 (s.pc * 4) }:=by rw [hs1]
  rw [es]; exact Ret.drop (.tup []) (H.set mb _) (by simp) hc2 (.rfl _) (by simp [refs,refs.refsL]) ⟨rfl,rfl,m2⟩
def c264:AC:=
 sr [im 2 (kc 0)]
 (sr [im 3 t0,kn 4 (.cvi .i32 t3),kn 5 (.cvi .i64 t4),im 2 t5]
 (.ret))
def r264:List RC:=[.t 2]
theorem cc264:cKc Tryz.f264 (hh 264) c264:=by unfold cKc; kernel_rfl
theorem rr264:resC Tryz.prog Tryz.f264 = some r264:=by kernel_rfl
def Frm (w:List Nat) (H G:List ABlk):Prop:=(∀ c,c ∉ w->G[c]? = H[c]?)/\H.length<=G.length
theorem Frm.set {w:List Nat} {H:List ABlk} {b:Nat} {x:ABlk} (hb:b ∈ w):Frm w H (H.set b x):=⟨λc hc=>List.getElem?_set_ne (λe=>hc (by rw [<- e]; exact hb)),by rw [List.length_set]; exact Nat.le_refl _⟩
theorem Frm.trans {w:List Nat} {H G K:List ABlk} (h:Frm w H G) (k:Frm w G K):Frm w H K:=⟨λc hc=>(k.1 c hc).trans (h.1 c hc),Nat.le_trans h.2 k.2⟩
theorem Frm.app {w:List Nat} {H:List ABlk} {x:ABlk} (hb:H.length ∈ w):Frm w H (H ++ [x]):=⟨λc hc=>by
 rcases Nat.lt_or_ge c H.length with h | h
 ·exact List.getElem?_append_left h
 ·have:c ≠ H.length:=λe=>hc (by rw [e]; exact hb)
  rw [List.getElem?_eq_none (by simp; omega),List.getElem?_eq_none h],by simp⟩
def Nw (H:List ABlk) (o o':AV):Prop:=∀ c ∈ refs o',c ∈ refs o\/H.length<=c
theorem Nw.rfl {H:List ABlk} {o:AV}:Nw H o o:=λ_ h=>.inl h
structure Fx (mb wb:Nat) (o:AV) (H:List ABlk) (o':AV) (H':List ABlk):Prop where
 out:∀ c,c < H.length->c ≠ mb->c ≠ wb->c ∉ refs o->H'[c]? = H[c]?
 len:H.length<=H'.length
 new:Nw H o o'
theorem Fx.trans {mb wb:Nat} {o o' o2:AV} {H H' H2:List ABlk} (h:Fx mb wb o H o' H') (k:Fx mb wb o' H' o2 H2):Fx mb wb o H o2 H2:=
 ⟨fun c hc h1 h2 h3 => (k.out c (Nat.lt_of_lt_of_le hc h.len) h1 h2 fun h4 => (h.new c h4).elim h3 fun h5 => absurd hc (Nat.not_lt.2 h5)).trans (h.out c hc h1 h2 h3), Nat.le_trans h.len k.len,
   λc hc=>(k.new c hc).elim (λh1=>h.new c h1) λh1=>.inr (Nat.le_trans h.len h1)⟩
theorem Fx.rfl {mb wb:Nat} {o:AV} {H:List ABlk}:Fx mb wb o H o H:=⟨λ_ _ _ _ _=>Eq.refl _,Nat.le_refl _,.rfl⟩
theorem Fx.set {mb wb:Nat} {o:AV} {H:List ABlk} {x:ABlk}:Fx mb wb o H o (H.set mb x):=⟨λc _ h _ _=>List.getElem?_set_ne (Ne.symm h),by rw [List.length_set]; exact Nat.le_refl _,.rfl⟩
theorem Fx.app {mb wb:Nat} {o:AV} {H l:List ABlk}:Fx mb wb o H o (H ++ l):=⟨λc h _ _ _=>List.getElem?_append_left h,by rw [List.length_append]; omega,.rfl⟩
theorem Fx.of {mb wb:Nat} {o o':AV} {H G:List ABlk} (h:Frm (mb :: wb :: H.length :: refs o) H G) (k:Nw H o o'):Fx mb wb o H o' G:=⟨λc h0 h1 h2 h3=>h.1 c (by simp only [List.mem_cons,not_or]; exact ⟨h1,h2,by omega,h3⟩),h.2,k⟩
theorem signed_f (x:Int) (hx:U32 x):∃ r,∀ H,ACalls Tryz.prog 264 [wv x] H λw H'=>w = iv r/\H' = H:=by
 obtain ⟨x0,x1⟩:=hx
 apply Exists.intro
 intro H
 refine ACalls.into Tryz.func264 cc264 rr264 λhcl=>?_
 simp (disch:=omega) only [Tryz.ntmps264,c264,r264,go_sem,seval,reduceCtorEq]; exact Ret.keep ⟨rfl,rfl⟩
noncomputable def sgnF (x:Int):Int:=open Classical in if h:U32 x then (signed_f x h).choose else 0
theorem sgn_s {x:Int} (h:U32 x):∀ H,ACalls Tryz.prog 264 [wv x] H λw H'=>w = iv (sgnF x)/\H' = H:=by
 rw [sgnF,dif_pos h]; exact (signed_f x h).choose_spec
noncomputable def stoF (s:St) (at' v:Int) (sm:Bool):St:=
 if at' = 4294967240 then (if s.out.length = 4096 then { s with en:=6 } else { s with out:=s.out ++ [v % 256] })
 else if at' = 4294967236 then { s with en:=2,tr:=sgnF v }
 else if at' = 4294967232 then { s with en:=1 }
 else if sm = true then (if at' / 4 < s.ws.length then { s with ws:=s.ws.set (at' / 4).toNat (mixA (s.ws.getD (at' / 4).toNat 0) at' v) } else { s with en:=5 })
 else if at' % 4 = 0/\at' / 4 < s.ws.length then { s with ws:=s.ws.set (at' / 4).toNat v } else { s with en:=5 }
def StoD (H0 H:List ABlk) (mb pb wb:Nat) (o:AV) (s:St) (at' v:Int) (sm:Bool):Prop:=
 ∃ G,(ACalls Tryz.prog 178 [.ptr mb 0,wv at',wv v,bv sm] H λw H'=>w = .tup []/\H' = G)/\Frm (mb :: wb :: H.length :: refs o) H G/\∃ o',Nw H o o'/\MAt H0 G mb pb wb o' (stoF s at' v sm)
section
variable {H0 H:List ABlk} {mb pb wb:Nat} {o:AV} {s:St} (hm:MAt H0 H mb pb wb o s)
include hm
theorem MAt.endd (e t:Int):MAt H0 (H.set mb (.cells (s.regs.map wv ++ [wv s.h,bv s.fl.n,bv s.fl.z,bv s.fl.c,bv s.fl.v,iv s.pc,.ptr pb 0,sv s.inp,iv s.rd,o,iv e,iv t]))) mb pb wb o { s with en:=e,tr:=t }:=
 hm.put { s with en:=e,tr:=t } ⟨rfl,rfl⟩ hm.r16 hm.ru hm.hu hm.pc hm.rd
theorem halt_c {at' v:Int} (hat:at' = 4294967232) (hv:U32 v) (sm:Bool):StoD H0 H mb pb wb o s at' v sm:=by
 subst hat; have hlt:mb < H.length:=(List.getElem?_eq_some_iff.1 hm.m).1; have hml:=hm.m; obtain ⟨A,hA⟩:∃ A,A = s.regs.map wv:=⟨_,rfl⟩; have hl:A.length = 16:=by rw [hA,lnn]; exact hm.r16
 have s26:∀ x B,List.take 26 (A ++ B) ++ x :: List.drop 27 (A ++ B) = A ++ (B.take 10 ++ x :: B.drop 11):=λx B=>stB hl 10 x
 have he:=hm.endd 1 s.tr; simp only [bC] at hml; rw [<- hA] at hml he; have es:stoF s 4294967232 v sm = { s with en:=1 }:=by simp [stoF]
 have hz:=he; rw [<- es] at hz; refine ⟨_,?_,.set (by simp),o,.rfl,hz⟩; refine ACalls.into Tryz.func178 cc178 rr178 λhcl=>?_
 simp (disch:=omega) only [Tryz.ntmps178,c178,r178,hml,s26,hl,go_sem,seval,reduceCtorEq]; exact Ret.keep ⟨rfl,rfl⟩
theorem trap_c {at' v:Int} (hat:at' = 4294967236) (hv:U32 v) (sm:Bool):StoD H0 H mb pb wb o s at' v sm:=by
 subst hat; have hlt:mb < H.length:=(List.getElem?_eq_some_iff.1 hm.m).1; have hml:=hm.m; obtain ⟨A,hA⟩:∃ A,A = s.regs.map wv:=⟨_,rfl⟩; have hl:A.length = 16:=by rw [hA,lnn]; exact hm.r16
 have s26:∀ x B,List.take 26 (A ++ B) ++ x :: List.drop 27 (A ++ B) = A ++ (B.take 10 ++ x :: B.drop 11):=λx B=>stB hl 10 x
 have s27:∀ x B,List.take 27 (A ++ B) ++ x :: List.drop 28 (A ++ B) = A ++ (B.take 11 ++ x :: B.drop 12):=λx B=>stB hl 11 x
 have hg:∀ x:ABlk,(H.set mb x)[mb]? = some x:=λx=>List.getElem?_set_self hlt
 have hss:∀ x y:ABlk,(H.set mb x).set mb y = H.set mb y:=λx y=>List.set_set ..
 have he:=hm.endd 2; simp only [bC] at hml; rw [<- hA] at hml he; have hr:=sgn_s hv; have es:stoF s 4294967236 v sm = { s with en:=2,tr:=sgnF v }:=by simp [stoF]
 obtain ⟨r,hre⟩:∃ r,r = sgnF v:=⟨_,rfl⟩; rw [<- hre] at hr es; have hz:=he r; rw [<- es] at hz; refine ⟨_,?_,.set (by simp),o,.rfl,hz⟩; refine ACalls.into Tryz.func178 cc178 rr178 λhcl=>?_
 simp (disch:=omega) only [Tryz.ntmps178,c178,r178,go_sem,seval,reduceCtorEq]; refine Cont.mk (hr _) ?_; simp (disch:=omega) only [hml,s26,s27,hl,hg,hss,go_sem,seval,reduceCtorEq]; exact Ret.keep ⟨rfl,rfl⟩
theorem MAt.mset (ws':List Int) (hl:ws'.length = s.ws.length) (hr:∀ x ∈ ws',0<=x/\x < 4294967296):MAt H0 (H.set wb (.cells (ws'.map wv))) mb pb wb o { s with ws:=ws' }:=by
 have hlt:wb < H.length:=(List.getElem?_eq_some_iff.1 hm.mem.w).1; have hne:pb ≠ wb:=λe=>by
  have:=hm.mem.p; rw [e,hm.mem.w] at this
  cases hw:s.ws with
  | nil=>rw [hw] at this; simp at this
  | cons x l=>rw [hw] at this; simp at this
 refine ⟨pre_set hm.pre hm.lo.2.2 _,by rw [List.getElem?_set_ne hm.ne.1.symm]; exact hm.m,⟨?_,List.getElem?_set_self hlt,by rw [hl]; exact hm.mem.len,hr⟩,?_,hm.lo,hm.ne,hm.r16,hm.ru,hm.hu,hm.pc,hm.rd⟩
 ·rw [List.getElem?_set_ne hne.symm,hm.mem.p]; simp only [hl]
 ·rcases hm.out with h1 | ⟨ob,h1,h2,h3⟩
  ·exact .inl h1
  ·refine .inr ⟨ob,h1,?_,h3⟩
   have hne:wb ≠ ob:=λe=>by
    have:=hm.mem.w; rw [e,h2] at this
    cases this
   rw [List.getElem?_set_ne hne]; exact h2
theorem place_c {at' v:Int} (hat:U32 at') (h1:at' ≠ 4294967240) (h2:at' ≠ 4294967236) (h3:at' ≠ 4294967232) (hv:U32 v) (sm:Bool):StoD H0 H mb pb wb o s at' v sm:=by
 obtain ⟨a0,a1⟩:=hat; have hlt:mb < H.length:=(List.getElem?_eq_some_iff.1 hm.m).1; have hml:=hm.m; obtain ⟨A,hA⟩:∃ A,A = s.regs.map wv:=⟨_,rfl⟩; have hl:A.length = 16:=by rw [hA,lnn]; exact hm.r16
 have s26:∀ x B,List.take 26 (A ++ B) ++ x :: List.drop 27 (A ++ B) = A ++ (B.take 10 ++ x :: B.drop 11):=λx B=>stB hl 10 x
 have d22:∀ B,List.drop 22 (A ++ B) = B.drop 6:=λB=>drp hl 6
 have he:=hm.endd 5 s.tr; have hsame:H.set wb (.cells (s.ws.map wv)) = H:=set_same hm.mem.w; simp only [bC] at hml; rw [<- hA] at hml he
 cases sm
 ·have hst:=store_c hm.mem at' v a0 a1
  by_cases ho:at' % 4 = 0/\at' / 4 < s.ws.length
  ·have hs := hm.mset (s.ws.set (at' / 4).toNat v) (by rw [List.length_set]) (fun x hx => by
    rcases List.mem_or_eq_of_mem_set hx with hx | rfl
    ·exact hm.mem.rng x hx
    ·exact hv)
   rw [okF,dect ho,stF,if_pos ho] at hst; have es:stoF s at' v false = { s with ws:=s.ws.set (at' / 4).toNat v }:=by rw [stoF,if_neg h1,if_neg h2,if_neg h3,if_neg (by decide),if_pos ho]
   have hz:=hs; rw [<- es] at hz; refine ⟨_,?_,.set (by simp),o,.rfl,hz⟩; refine ACalls.into Tryz.func178 cc178 rr178 λhcl=>?_
   simp (disch:=omega) only [Tryz.ntmps178,c178,r178,hml,d22,hl,go_sem,seval,reduceCtorEq]; refine Cont.mk hst ?_; simp (disch:=omega) only [go_sem,seval,reduceCtorEq]; exact Ret.keep ⟨rfl,rfl⟩
  ·rw [okF,decf ho,stF,if_neg ho,hsame] at hst
   have es:stoF s at' v false = { s with en:=5 }:=by rw [stoF,if_neg h1,if_neg h2,if_neg h3,if_neg (by decide),if_neg ho]
   have hz:=he; rw [<- es] at hz; refine ⟨_,?_,.set (by simp),o,.rfl,hz⟩; refine ACalls.into Tryz.func178 cc178 rr178 λhcl=>?_
   simp (disch:=omega) only [Tryz.ntmps178,c178,r178,hml,d22,hl,go_sem,seval,reduceCtorEq]; refine Cont.mk hst ?_; simp (disch:=omega) only [hml,s26,hl,go_sem,seval,reduceCtorEq]; exact Ret.keep ⟨rfl,rfl⟩
 ·have hst:=put_c hm.mem at' v a0 a1
  by_cases ho:at' / 4 < s.ws.length
  ·have hs := hm.mset (s.ws.set (at' / 4).toNat (mixA (s.ws.getD (at' / 4).toNat 0) at' v)) (by rw [List.length_set]) (fun x hx => by
    rcases List.mem_or_eq_of_mem_set hx with hx | rfl
    ·exact hm.mem.rng x hx
    ·exact mixA_rng ..)
   rw [thereF,dect ho,pbF,if_pos ho] at hst; have es:stoF s at' v true = { s with ws:=s.ws.set (at' / 4).toNat (mixA (s.ws.getD (at' / 4).toNat 0) at' v) }:=by rw [stoF,if_neg h1,if_neg h2,if_neg h3,if_pos rfl,if_pos ho]
   have hz:=hs; rw [<- es] at hz; refine ⟨_,?_,.set (by simp),o,.rfl,hz⟩; refine ACalls.into Tryz.func178 cc178 rr178 λhcl=>?_
   simp (disch:=omega) only [Tryz.ntmps178,c178,r178,hml,d22,hl,go_sem,seval,reduceCtorEq]; refine Cont.mk hst ?_; simp (disch:=omega) only [go_sem,seval,reduceCtorEq]; exact Ret.keep ⟨rfl,rfl⟩
  ·rw [thereF,decf ho,pbF,if_neg ho,hsame] at hst
   have es:stoF s at' v true = { s with en:=5 }:=by rw [stoF,if_neg h1,if_neg h2,if_neg h3,if_pos rfl,if_neg ho]
   have hz:=he; rw [<- es] at hz; refine ⟨_,?_,.set (by simp),o,.rfl,hz⟩; refine ACalls.into Tryz.func178 cc178 rr178 λhcl=>?_
   simp (disch:=omega) only [Tryz.ntmps178,c178,r178,hml,d22,hl,go_sem,seval,reduceCtorEq]; refine Cont.mk hst ?_; simp (disch:=omega) only [hml,s26,hl,go_sem,seval,reduceCtorEq]; exact Ret.keep ⟨rfl,rfl⟩
end
section
variable {H0 H:List ABlk} {mb pb wb:Nat} {o:AV} {s:St} (hm:MAt H0 H mb pb wb o s)
include hm
theorem data_c {at' v:Int} (hat:at' = 4294967240) (hv:U32 v) (sm:Bool):StoD H0 H mb pb wb o s at' v sm:=by
 subst hat; obtain ⟨v0,v1⟩:=hv; have hlt:mb < H.length:=(List.getElem?_eq_some_iff.1 hm.m).1; have hml:=hm.m; obtain ⟨A,hA⟩:∃ A,A = s.regs.map wv:=⟨_,rfl⟩; have hl:A.length = 16:=by rw [hA,lnn]; exact hm.r16
 have s25:∀ x B,List.take 25 (A ++ B) ++ x :: List.drop 26 (A ++ B) = A ++ (B.take 9 ++ x :: B.drop 10):=λx B=>stB hl 9 x
 have s26:∀ x B,List.take 26 (A ++ B) ++ x :: List.drop 27 (A ++ B) = A ++ (B.take 10 ++ x :: B.drop 11):=λx B=>stB hl 10 x
 have d25:∀ B,List.drop 25 (A ++ B) = B.drop 9:=λB=>drp hl 9
 have he:=hm.endd 6 s.tr; have h8:IntKind.u8.wrap v = v % 256:=by simp [IntKind.wrap,IntKind.bits,IntKind.signed]
 have hout:=hm.out; have hpl:pb < H.length:=(List.getElem?_eq_some_iff.1 hm.mem.p).1; have hwl:wb < H.length:=(List.getElem?_eq_some_iff.1 hm.mem.w).1; simp only [bC] at hml; rw [<- hA] at hml he; rcases hout with ⟨rfl,hnil⟩ | ⟨ob,rfl,ho,hob,hes⟩
 ·have hap:∀ x l,(H ++ l).set mb x = H.set mb x ++ l:=λx l=>hm.set_ap x l
  have hk:∀ l,(H ++ l)[mb]? = H[mb]?:=λl=>List.getElem?_append_left hlt
  have hlo:=hm.lo; have hM:MAt H0 (H.set mb (.cells (A ++ [wv s.h,bv s.fl.n,bv s.fl.z,bv s.fl.c,bv s.fl.v,iv s.pc,.ptr pb 0,sv s.inp,iv s.rd,.gsl H.length 1 [[.v (.int .u8 (v % 256))]],iv s.en,iv s.tr])) ++ [.row 5 1 1]) mb pb wb (.gsl H.length 1 [[.v (.int .u8 (v % 256))]]) { s with out:=[v % 256] }:=by
   refine ⟨(pre_set hm.pre hm.lo.1 _).trans ⟨_,rfl⟩,?_,⟨?_,?_,hm.mem.len,hm.mem.rng⟩,.inr ⟨H.length,rfl,?_,by omega,by simp⟩,hm.lo,hm.ne,hm.r16,hm.ru,hm.hu,hm.pc,hm.rd⟩
   ·rw [List.getElem?_append_left (by rw [List.length_set]; exact hlt),List.getElem?_set_self hlt,hA]; rfl
   ·rw [List.getElem?_append_left (by rw [List.length_set]; exact hpl),List.getElem?_set_ne hm.ne.2]; exact hm.mem.p
   ·rw [List.getElem?_append_left (by rw [List.length_set]; exact hwl),List.getElem?_set_ne hm.ne.1]; exact hm.mem.w
   ·rw [List.getElem?_append_right (by rw [List.length_set]; exact Nat.le_refl _),List.length_set]; simp
  have es:stoF s 4294967240 v sm = { s with out:=[v % 256] }:=by rw [stoF,if_pos rfl,hnil,if_neg (by decide)]; rfl
  have hz:=hM; rw [<- es] at hz; refine ⟨_,?_,?_,_,λc hc=>.inr (by simp only [refs,List.mem_singleton] at hc; omega),hz⟩
  rotate_left
  ·rw [<- hap]
   exact (Frm.app (by simp)).trans (.set (by simp))
  refine ACalls.into Tryz.func178 cc178 rr178 λhcl=>?_
  simp (disch:=omega) only [Tryz.ntmps178,c178,r178,hml,d25,hl,h8,hk,hap,s25,go_sem,seval,reduceCtorEq]; exact Ret.keep ⟨rfl,rfl⟩
 ·obtain ⟨es,hE⟩:∃ es,es = s.out.map ob8:=⟨_,rfl⟩
  have hEl:s.out.length = es.length:=by rw [hE,lnn]
  rw [hEl] at ho hes; simp only [<- hE] at hml he ⊢; have hne:mb ≠ ob:=λe=>by rw [e,ho] at hml; cases hml
  have hgo:∀ x:ABlk,(H.set ob x)[mb]? = H[mb]?:=λx=>List.getElem?_set_ne hne.symm
  by_cases h4:es.length = 4096
  ·have ef:stoF s 4294967240 v sm = { s with en:=6 }:=by rw [stoF,if_pos rfl,if_pos (hEl.trans h4)]
   have hz:=he; rw [<- ef] at hz; refine ⟨_,?_,.set (by simp),_,.rfl,hz⟩; refine ACalls.into Tryz.func178 cc178 rr178 λhcl=>?_
   simp (disch:=omega) only [Tryz.ntmps178,c178,r178,hml,d25,hl,h4,s26,go_sem,seval,reduceCtorEq]; exact Ret.keep ⟨rfl,rfl⟩
  ·have hlt2:mb < (H.set ob (.row 5 1 (es.length + 1))).length:=by rw [List.length_set]; exact hlt
   have hol:ob < H.length:=(List.getElem?_eq_some_iff.1 ho).1; have hp:ob ≠ pb:=λe=>by have:=hm.mem.p; rw [<- e,ho] at this; cases this
   have hw:ob ≠ wb:=λe=>by have:=hm.mem.w; rw [<- e,ho] at this; cases this
   have hM:MAt H0 ((H.set ob (.row 5 1 (es.length + 1))).set mb (.cells (A ++ [wv s.h,bv s.fl.n,bv s.fl.z,bv s.fl.c,bv s.fl.v,iv s.pc,.ptr pb 0,sv s.inp,iv s.rd,.gsl ob 1 (es ++ [[.v (.int .u8 (v % 256))]]),iv s.en,iv s.tr]))) mb pb wb (.gsl ob 1 (es ++ [[.v (.int .u8 (v % 256))]])) { s with out:=s.out ++ [v % 256] }:=by
    refine ⟨pre_set (pre_set hm.pre hob _) hm.lo.1 _,?_,⟨?_,?_,hm.mem.len,hm.mem.rng⟩,.inr ⟨ob,by rw [hE]; simp,?_,hob,?_⟩,hm.lo,hm.ne,hm.r16,hm.ru,hm.hu,hm.pc,hm.rd⟩
    ·rw [List.getElem?_set_self hlt2,hA]; rfl
    ·rw [List.getElem?_set_ne hm.ne.2,List.getElem?_set_ne hp]; exact hm.mem.p
    ·rw [List.getElem?_set_ne hm.ne.1,List.getElem?_set_ne hw]; exact hm.mem.w
    ·rw [List.getElem?_set_ne hne,List.getElem?_set_self hol]; simp [hEl]
    ·simp only [List.length_append,List.length_cons,List.length_nil,hEl]; omega
   have hN:Nw H (.gsl ob 1 es) (.gsl ob 1 (es ++ [[.v (.int .u8 (v % 256))]])):=λc hc=>.inl hc
   have ef:stoF s 4294967240 v sm = { s with out:=s.out ++ [v % 256] }:=by rw [stoF,if_pos rfl,if_neg (λh=>h4 (hEl.symm.trans h))]
   have hz:=hM; rw [<- ef] at hz; refine ⟨_,?_,?_,_,hN,hz⟩
   rotate_left
   ·exact (Frm.set (by simp [refs])).trans (.set (by simp))
   refine ACalls.into Tryz.func178 cc178 rr178 λhcl=>?_
   simp (disch:=omega) only [Tryz.ntmps178,c178,r178,hml,d25,hl,h8,ho,hgo,s25,go_sem,seval,reduceCtorEq]; exact Ret.keep ⟨rfl,rfl⟩
theorem stores_c {at' v:Int} (hat:U32 at') (hv:U32 v) (sm:Bool):StoD H0 H mb pb wb o s at' v sm:=by
 by_cases h1:at' = 4294967240
 ·exact data_c hm h1 hv sm
 by_cases h2:at' = 4294967236
 ·exact trap_c hm h2 hv sm
 by_cases h3:at' = 4294967232
 ·exact halt_c hm h3 hv sm
 exact place_c hm hat h1 h2 h3 hv sm
end
def c109:AC:=
 sr [kn 3 (.bx t1)]
 (.seq (.dreg [[],[],[1],[0],[3],[4,2],[5],[],[7],[8],[6,9],[10,0,1,2,3,4,5,6,7,8,9,10]] [im 7 t0,ia 8 t3 4,il 9 t8,iv0 10 t7,ia 11 t10 0,kn 12 (.iar t11 t9 16 1),il 13 t12,ia 14 t3 7,il 15 t14,kn 16 (.cvi .u32 t15),ib 17 .add t13 t16,im 4 t17])
 (.seq (sr [ia 18 t3 1,il 19 t18]
 (.cond t19 (.seq (.dreg [[],[],[],[],[3],[2],[5],[6,4],[7],[],[9],[0,1,8,10]] [im 20 t0,im 21 t4,im 22 t0,ia 23 t3 3,il 24 t23,iv0 25 t22,ia 26 t25 0,kn 27 (.iar t26 t24 16 1),il 28 t27,ia 29 t3 2,il 30 t29,ic 31 178 [t20,t21,t28,t30]])
 (.ret)) (.skip)))
 (sr [kn 5 (.mv (.c (.d (.v (.int .u32 0))))),im 6 kT]
 (.seq (.block 0 (sr [im 42 t4,kn 43 (.bin .eql t42 (.c (.d (.v (.int .u32 4294967240))))),im 41 t43]
 (.cond t41 (.seq (.dreg [[],[0],[1],[2],[],[4],[5],[6],[7],[3,8]] [im 44 t0,iv0 45 t44,ia 46 t45 24,il 47 t46,im 48 t0,iv0 49 t48,ia 50 t49 23,il 51 t50,kn 52 (.len true t51),ib 53 .lss t47 t52])
 (.cond t53 (.seq (.dreg [[],[0],[1],[2],[],[4],[5],[6],[3,7],[8],[9,0,1,2,3,4,5,6,7,8,9]] [im 54 t0,iv0 55 t54,ia 56 t55 23,il 57 t56,im 58 t0,iv0 59 t58,ia 60 t59 24,il 61 t60,kn 62 (.ix t57 t61),kn 63 (.cvi .u32 t62),im 5 t63])
 (.reg [im 64 t0,iv0 65 t64,ia 66 t65 24,il 67 t66,ib 68 .add t67 (kc 1),iv0 69 t64,ia 70 t69 24,ke (.st t70 t68 1)])) (.skip))) (sr [im 72 t4,kn 73 (.bin .eql t72 (.c (.d (.v (.int .u32 4294967244))))),im 71 t73]
 (.cond t71 (.seq (.dreg [[],[0],[1],[2],[],[4],[5],[6],[7],[3,8]] [im 74 t0,iv0 75 t74,ia 76 t75 24,il 77 t76,im 78 t0,iv0 79 t78,ia 80 t79 23,il 81 t80,kn 82 (.len true t81),ib 83 .lss t77 t82])
 (.cond t83 (.reg [kn 5 (.mv (.c (.d (.v (.int .u32 1)))))]) (.skip))) (sr [ia 85 t3 2,il 86 t85,im 84 t86]
 (.cond t84 (.reg [im 88 t0,iv0 89 t88,ia 90 t89 22,il 91 t90,im 92 t4,ic 93 179 [t91,t92],im 87 t93,kn 94 (.ext t87 0),kn 95 (.ext t87 1),im 5 t94,im 6 t95]) (.reg [im 33 t0,iv0 34 t33,ia 35 t34 22,il 36 t35,im 37 t4,ic 38 107 [t36,t37],im 32 t38,kn 39 (.ext t32 0),kn 40 (.ext t32 1),im 5 t39,im 6 t40]))))))))
 (.seq (sr [im 96 t6,kn 97 (.un .not t96)]
 (.cond t97 (sr [im 98 t0,iv0 99 t98,ia 100 t99 26,ke (.st t100 (kc 5) 1)]
 (.ret)) (.skip)))
 (.reg [im 101 t0,ia 102 t3 3,il 103 t102,im 104 t5,ic 105 180 [t101,t103,t104]]))))))
def r109:List RC:=[]
theorem cc109:cKc Tryz.f109 (hh 109) c109:=by unfold cKc; kernel_rfl
theorem rr109:resC Tryz.prog Tryz.f109 = some r109:=by kernel_rfl
theorem MAt.live {H0 H:List ABlk} {mb pb wb:Nat} {o:AV} {s:St} (hm:MAt H0 H mb pb wb o s):∀ b ∈ mb :: wb :: H.length :: refs o,H[b]? ≠ some .dead:=by
 intro b hb
 simp only [List.mem_cons] at hb; rcases hb with rfl | rfl | rfl | hb
 ·rw [hm.m]; simp
 ·rw [hm.mem.w]; simp
 ·rw [List.getElem?_eq_none (Nat.le_refl _)]; simp
 ·rcases hm.out with ⟨rfl,-⟩ | ⟨ob,rfl,h2,-⟩
  ·simp [refs] at hb
  ·simp [refs] at hb
   subst hb; rw [h2]; simp
theorem ldF_u {H:List ABlk} {pb wb:Nat} {ws:List Int} (hm:MemAt H pb wb ws) (at':Int):U32 (ldF ws at').1:=by
 unfold ldF
 split
 ·exact getD_rng hm.rng _
 ·exact ⟨by decide,by decide⟩
theorem byF_u {H:List ABlk} {pb wb:Nat} {ws:List Int} (hm:MemAt H pb wb ws) (at':Int):U32 (byF ws at').1:=by
 unfold byF
 split
 ·exact ⟨by simp only; omega,by simp only; omega⟩
 ·exact ⟨by decide,by decide⟩
def inpF (inp:ByteArray) (k:Int):Int:=((inp.data.toList.getD k.toNat 0).toNat:Int) % 4294967296
theorem inpF_u (inp:ByteArray) (k:Int):U32 (inpF inp k):=u32_mod _
def ldrF (s:St) (at':Int) (v:Bool):St × Int × Bool:=
 if at' = 4294967240 then (if s.rd < s.inp.size then ({ s with rd:=s.rd + 1 },inpF s.inp s.rd,true) else (s,0,true))
 else if at' = 4294967244 then (s,if s.rd < s.inp.size then 1 else 0,true)
 else if v = true then (s,(byF s.ws at').1,(byF s.ws at').2) else (s,(ldF s.ws at').1,(ldF s.ws at').2)
def atF (s:St) (x:In):Int:=(s.regs.getD x.b.toNat 0 + x.im % 4294967296) % 4294967296
noncomputable def movF (s:St) (x:In):St:=
 if x.u = true then stoF s (atF s x) (s.regs.getD x.a.toNat 0) x.v
 else if (ldrF s (atF s x) x.v).2.2 = true then (ldrF s (atF s x) x.v).1.sets x.a.toNat (ldrF s (atF s x) x.v).2.1 else { (ldrF s (atF s x) x.v).1 with en:=5 }
abbrev PutO (H0 H:List ABlk) (mb pb wb:Nat) (o:AV) (s':St) (v:AV) (H':List ABlk):Prop:=v = .tup []/\∃ o',Fx mb wb o H o' H'/\MAt H0 H' mb pb wb o' s'
theorem moves_c {H0 H:List ABlk} {mb pb wb:Nat} {o:AV} {s:St} (hm:MAt H0 H mb pb wb o s) {x:In} (hx:InOk x) :
 ACalls Tryz.prog 109 [.ptr mb 0,x.av] H (PutO H0 H mb pb wb o (movF s x)):=by
 have hlt:mb < H.length:=(List.getElem?_eq_some_iff.1 hm.m).1; have h16:=hm.r16; have hml:=hm.m; have hcB:=reg_at (B:=bC s pb o) h16 (a:=x.b.toNat) (by have:=hx.b; omega); have uB:=reg_rng hm.ru x.b.toNat; have hcA:=reg_at (B:=bC s pb o) h16 (a:=x.a.toNat) (by have:=hx.a; omega); have uA:=reg_rng hm.ru x.a.toNat; have hk:∀ l,(H ++ l)[mb]? = some (.cells (s.regs.map wv ++ bC s pb o)):=λl=>by rw [List.getElem?_append_left hlt]; exact hml
 have hlenR:(s.regs.map wv ++ bC s pb o).length = 28:=by rw [List.length_append,lnn,h16]; rfl
 have hb12:(bC s pb o).length = 12:=rfl; have hap:∀ x l,(H ++ l).set mb x = H.set mb x ++ l:=λx l=>hm.set_ap x l
 have hrd:=hm.rd; obtain ⟨f,u,v,a,b,c,op,im⟩:=x; have ha:=hx.a; have hb:=hx.b; have him:=hx.im; simp only at ha hb him hcA hcB uA uB; refine ACalls.enter Tryz.func109 cc109 rr109 λhcl=>?_
 simp only [Tryz.ntmps109,c109,r109]; refine W.seq_reg ?_; simp (disch:=omega) only [go_sem,seval,reduceCtorEq]; obtain ⟨at',hat⟩:∃ at',at' = (s.regs.getD b.toNat 0 + im % 4294967296) % 4294967296:=⟨_,rfl⟩; have hatF:atF s (In.mk f u v a b c op im) = at':=hat.symm; have uat:U32 at':=by rw [hat]; first | exact u32_mod _ | exact u32_bv _
 refine W.cut (λs' H'=>s' = [.ptr mb 0,.any,.any,.ptr H.length 0,wv at'] ++ List.replicate 101 .any/\H' = H ++ [.cells (In.mk f u v a b c op im).cs]) (W.pchain follows (by decide +kernel) ?_) ?_
 ·simp (disch:=omega) only [hk,hcB,hlenR,List.length_append,lnn,h16,hb12,go_sem,seval,reduceCtorEq]
  rw [<- hat]; exact ⟨_,_,Wk.slots (by (try simp only [List.replicate,List.cons_append,List.nil_append]); repeat' constructor),rfl,rfl⟩
 rintro s' H' ⟨rfl,rfl⟩; refine W.cut (λs' H'=>u = false/\s' = [.ptr mb 0,.any,.any,.ptr H.length 0,wv at'] ++ List.replicate 101 .any/\H' = H ++ [.cells (In.mk f u v a b c op im).cs]) (wpA.W ?_) ?_
 ·cases u
  ·simp (disch:=omega) only [go_sem,seval,reduceCtorEq]
   exact ⟨_,_,Wk.slots (by (try simp only [List.replicate,List.cons_append,List.nil_append]); repeat' constructor),rfl,rfl⟩
  ·simp (disch:=omega) only [go_sem,seval,reduceCtorEq]
   obtain ⟨G,hG,fr,o',nw2,m2⟩:=stores_c (hm.ext [.cells (In.mk f true v a b c op im).cs]) uat uA v; have hlive:=(hm.ext [.cells (In.mk f true v a b c op im).cs]).live; refine W.dregD [([],[]),([],[]),([],[]),([],[]),([],[]),([],[]),([],[]),([],[]),([],[]),([],[]),([],[]),(mb :: wb :: (H ++ [ABlk.cells (In.mk f true v a b c op im).cs]).length :: refs o,[])] follows (by decide +kernel) rfl rfl (λz hz b' hb'=>?_) ?_
   ·simp only [List.mem_cons,List.not_mem_nil,or_false] at hz
    rcases hz with rfl | rfl | rfl | rfl | rfl | rfl | rfl | rfl | rfl | rfl | rfl | rfl <;> first | exact absurd hb' List.not_mem_nil | exact ⟨List.not_mem_nil,hlive _ hb'⟩
   repeat (rw [DC_p]; simp (disch:=omega) only [hk,hcA,hlenR,List.length_append,lnn,h16,hb12,go_sem,seval,reduceCtorEq])
   have hlen:(H ++ [ABlk.cells (In.mk f true v a b c op im).cs]).length = H.length + 1:=by simp
   obtain ⟨fr1,fr2⟩:=id fr; rw [hlen] at fr1; refine WStep.call hG fr1 fr2 ?_; have em:movF s (In.mk f true v a b c op im) = stoF s at' (s.regs.getD a.toNat 0) v:=by rw [movF,if_pos rfl,hatF]
   rw [em]; exact Ret.keep ⟨rfl,o',Fx.app.trans (.of fr nw2),m2⟩
 rintro s' H' ⟨rfl,rfl,rfl⟩; refine W.seq_reg ?_; simp (disch:=omega) only [go_sem,seval,reduceCtorEq]; have hsame:H = H.set mb (.cells (s.regs.map wv ++ bC s pb o)):=(set_same hml).symm; have em:movF s (In.mk f false v a b c op im) = if (ldrF s at' v).2.2 = true then (ldrF s at' v).1.sets a.toNat (ldrF s at' v).2.1 else { (ldrF s at' v).1 with en:=5 }:=by rw [movF,if_neg (λh=>by cases h),hatF]
 rw [em]; clear em; refine W.cut (λs' H'=>MAt H0 (H.set mb (.cells ((ldrF s at' v).1.regs.map wv ++ bC (ldrF s at' v).1 pb o))) mb pb wb o (ldrF s at' v).1/\U32 (ldrF s at' v).2.1/\s' = [.ptr mb 0,.any,.any,.ptr H.length 0,.any,wv (ldrF s at' v).2.1,bv (ldrF s at' v).2.2] ++ List.replicate 99 .any/\H' = H.set mb (.cells ((ldrF s at' v).1.regs.map wv ++ bC (ldrF s at' v).1 pb o)) ++ [.cells (In.mk f false v a b c op im).cs]) (wpA.W ?_) ?_
 ·obtain ⟨Q,hQ⟩:∃ Q,Q = ldrF s at' v:=⟨_,rfl⟩
  rw [<- hQ]; have old:∀ v1 ok,U32 v1->ldrF s at' v = (s,v1,ok)->MAt H0 (H.set mb (.cells (Q.1.regs.map wv ++ bC Q.1 pb o))) mb pb wb o Q.1/\U32 Q.2.1/\([.ptr mb 0,.any,.any,.ptr H.length 0,.any,wv v1,bv ok] ++ List.replicate 99 .any = [.ptr mb 0,.any,.any,.ptr H.length 0,.any,wv Q.2.1,bv Q.2.2] ++ List.replicate 99 .any)/\H ++ [.cells (In.mk f false v a b c op im).cs] = H.set mb (.cells (Q.1.regs.map wv ++ bC Q.1 pb o)) ++ [.cells (In.mk f false v a b c op im).cs]:=λv1 ok hv he=>by
   rw [hQ,he]; exact ⟨by rw [<- hsame]; exact hm,hv,rfl,by rw [<- hsame]⟩
  obtain ⟨A,hA⟩:∃ A,A = s.regs.map wv:=⟨_,rfl⟩; have hl:A.length = 16:=by rw [hA,lnn]; exact h16
  have d23:∀ B,List.drop 23 (A ++ B) = B.drop 7:=λB=>drp hl 7
  have d24:∀ B,List.drop 24 (A ++ B) = B.drop 8:=λB=>drp hl 8
  have d22:∀ B,List.drop 22 (A ++ B) = B.drop 6:=λB=>drp hl 6
  have s24:∀ x B,List.take 24 (A ++ B) ++ x :: List.drop 25 (A ++ B) = A ++ (B.take 8 ++ x :: B.drop 9):=λx B=>stB hl 8 x
  obtain ⟨s1,hs1⟩:∃ s1:St,s1 = { s with rd:=s.rd + 1 }:=⟨_,rfl⟩; have e1:s1.regs.map wv ++ bC s1 pb o = A ++ [wv s.h,bv s.fl.n,bv s.fl.z,bv s.fl.c,bv s.fl.v,iv s.pc,.ptr pb 0,sv s.inp,iv (s.rd + 1),o,iv s.en,iv s.tr]:=by rw [hs1,hA]; rfl
  have hk2:=hk; rw [<- hA] at hk2; simp only [bC] at hk2
  by_cases h1:at' = 4294967240
  ·by_cases h2:s.rd < s.inp.size
   ·have m1 : MAt H0 (H.set mb (.cells (s1.regs.map wv ++ bC s1 pb o))) mb pb wb o s1 := by
     rw [hs1]; exact hm.put { s with rd:=s.rd + 1 } ⟨rfl,rfl⟩ h16 hm.ru hm.hu hm.pc ⟨by simp only; omega,by simp only; omega,hm.rd.2.2⟩
    have eq:ldrF s at' v = (s1,inpF s.inp s.rd,true):=by rw [ldrF,if_pos h1,if_pos h2,hs1]
    simp (disch:=omega) only [hk2,d23,d24,hl,go_sem,seval,reduceCtorEq]; refine W.pchain follows (by decide +kernel) ?_; simp (disch:=omega) only [hk2,d23,d24,hl,go_sem,seval,reduceCtorEq]; refine W.pchain follows (by decide +kernel) ?_; simp (disch:=omega) only [hk2,d23,d24,s24,hl,hap,go_sem,seval,reduceCtorEq]; rw [<- e1]; rw [hQ,eq]; exact ⟨_,_,Wk.slots (by (try simp only [List.replicate,List.cons_append,List.nil_append]); repeat' constructor),m1,inpF_u s.inp s.rd,rfl,rfl⟩
   ·simp (disch:=omega) only [hk2,d23,d24,hl,go_sem,seval,reduceCtorEq]
    refine W.pchain follows (by decide +kernel) ?_; simp (disch:=omega) only [hk2,d23,d24,hl,go_sem,seval,reduceCtorEq]; exact ⟨_,_,Wk.slots (by (try simp only [List.replicate,List.cons_append,List.nil_append]); repeat' constructor),old 0 true (by decide) (by rw [ldrF,if_pos h1,if_neg h2])⟩
  by_cases h3:at' = 4294967244
  ·by_cases h2:s.rd < s.inp.size
   ·simp (disch:=omega) only [hk2,d23,d24,hl,go_sem,seval,reduceCtorEq]
    refine W.pchain follows (by decide +kernel) ?_; simp (disch:=omega) only [hk2,d23,d24,hl,go_sem,seval,reduceCtorEq]; exact ⟨_,_,Wk.slots (by (try simp only [List.replicate,List.cons_append,List.nil_append]); repeat' constructor),old 1 true (by decide) (by rw [ldrF,if_neg h1,if_pos h3,if_pos h2])⟩
   ·simp (disch:=omega) only [hk2,d23,d24,hl,go_sem,seval,reduceCtorEq]
    refine W.pchain follows (by decide +kernel) ?_; simp (disch:=omega) only [hk2,d23,d24,hl,go_sem,seval,reduceCtorEq]; exact ⟨_,_,Wk.slots (by (try simp only [List.replicate,List.cons_append,List.nil_append]); repeat' constructor),old 0 true (by decide) (by rw [ldrF,if_neg h1,if_pos h3,if_neg h2])⟩
  obtain ⟨a0,a1⟩:=uat
  cases v
  ·simp (disch:=omega) only [hk2,d22,hl,go_sem,seval,reduceCtorEq]
   refine Cont.mk (load_c (hm.ext _).mem at' a0 a1) ?_; simp (disch:=omega) only [go_sem,seval,reduceCtorEq]; exact ⟨_,_,Wk.slots (by (try simp only [List.replicate,List.cons_append,List.nil_append]); repeat' constructor),old _ _ (ldF_u hm.mem at') (by rw [ldrF,if_neg h1,if_neg h3,if_neg (by decide)])⟩
  ·simp (disch:=omega) only [hk2,d22,hl,go_sem,seval,reduceCtorEq]
   refine Cont.mk (byte_c (hm.ext _).mem at' a0 a1) ?_; simp (disch:=omega) only [go_sem,seval,reduceCtorEq]; exact ⟨_,_,Wk.slots (by (try simp only [List.replicate,List.cons_append,List.nil_append]); repeat' constructor),old _ _ (byF_u hm.mem at') (by rw [ldrF,if_neg h1,if_neg h3,if_pos rfl])⟩
 generalize ldrF s at' v = Q
 obtain ⟨s1,v1,ok⟩:=Q; rintro s' H' ⟨m1,u1,rfl,rfl⟩; refine wpA.W ?_; have hgm:∀ x l,(H.set mb x ++ l)[mb]? = some x:=λx l=>by rw [List.getElem?_append_left (by rw [List.length_set]; exact hlt)]; exact List.getElem?_set_self hlt
 have hq:∀ x a l,(H.set mb x ++ (a :: l))[H.length]? = some a:=λx a l=>by rw [List.getElem?_append_right (by rw [List.length_set]; exact Nat.le_refl _),List.length_set]; simp
 have m2:=m1.ext [.cells (In.mk f false v a b c op im).cs]
 cases ok
 ·have he:=m2.endd 5 s1.tr
  obtain ⟨A,hA⟩:∃ A,A = s1.regs.map wv:=⟨_,rfl⟩; have hl:A.length = 16:=by rw [hA,lnn]; exact m1.r16
  have s26:∀ x B,List.take 26 (A ++ B) ++ x :: List.drop 27 (A ++ B) = A ++ (B.take 10 ++ x :: B.drop 11):=λx B=>stB hl 10 x
  simp only [bC] at he ⊢; rw [<- hA] at he ⊢; simp (disch:=omega) only [hgm,s26,hl,go_sem,seval,reduceCtorEq]; exact Ret.keep ⟨rfl,o,(Fx.set.trans .app).trans .set,he⟩
 ·simp (disch:=omega) only [hq,go_sem,seval,reduceCtorEq]
  refine Cont.mk (sets_c m2 ha u1) ?_; simp (disch:=omega) only [go_sem,seval,reduceCtorEq]; exact Ret.keep ⟨rfl,o,(Fx.set.trans .app).trans .set,m2.sets a.toNat u1⟩
def c52:AC:=
 sr [kn 2 (.mv (.c (.d (.v (.int .u32 0))))),im 3 kF]
 (.seq (.seq (.dreg [[],[0],[1],[2],[],[4],[5],[6],[7],[3,8]] [im 6 t0,iv0 7 t6,ia 8 t7 21,il 9 t8,im 10 t0,iv0 11 t10,ia 12 t11 22,il 13 t12,ic 14 106 [t13],ib 15 .lss t9 t14])
 (.cond t15 (.dreg [[],[0],[1],[2],[],[4],[5],[6],[7],[8],[3,9],[10],[11],[11],[12,10,0,1,2,3,4,5,6,7,8,9,10,11,12],[13,14,0,1,2,3,4,5,6,7,8,9,10,11,12,13,14]] [im 17 t0,iv0 18 t17,ia 19 t18 22,il 20 t19,im 21 t0,iv0 22 t21,ia 23 t22 21,il 24 t23,kn 25 (.cvi .u32 t24),kn 26 (.bin .shl t25 (.c (.d (.v (.int .u64 2))))),ic 27 107 [t20,t26],im 16 t27,kn 28 (.ext t16 0),kn 29 (.ext t16 1),im 2 t28,im 3 t29]) (.skip)))
 (.seq (sr [im 30 t3,kn 31 (.un .not t30)]
 (.cond t31 (sr [im 32 t0,iv0 33 t32,ia 34 t33 26,ke (.st t34 (kc 5) 1)]
 (.ret)) (.skip)))
 (sr [im 36 t2,ic 37 108 [t36],im 35 t37,kn 38 (.ext t35 0),kn 39 (.ext t35 1),kn 4 (.al [kz,(.d (.v (.bool false))),(.d (.v (.bool false))),kz,kz,kz,kz,kz]),ke (.st t4 t38 8),im 5 t39]
 (.seq (sr [im 40 t5,ib 41 .neq t40 (kc 0)]
 (.cond t41 (sr [im 42 t0,iv0 43 t42,ia 44 t43 26,ke (.st t44 (kc 4) 1)]
 (.ret)) (.skip)))
 (sr [im 45 t0,iv0 46 t45,ia 47 t46 21,il 48 t47,ib 49 .add t48 (kc 1),iv0 50 t45,ia 51 t50 21,ke (.st t51 t49 1)]
 (sr [ia 52 t4 0,il 53 t52]
 (.block 0 (sr [ib 58 .eql t53 (kc 2),im 57 t58]
 (.cond t57 (.reg [im 59 t0,kn 60 (.ld t4 8 true),ic 61 109 [t59,t60]]) (sr [ib 63 .eql t53 (kc 3),im 62 t63]
 (.cond t62 (.reg [im 64 t0,kn 65 (.ld t4 8 true),ic 66 110 [t64,t65]]) (.reg [im 54 t0,kn 55 (.ld t4 8 true),ic 56 111 [t54,t55]]))))))))))))
def r52:List RC:=[]
theorem cc52:cKc Tryz.f52 (hh 52) c52:=by unfold cKc; kernel_rfl
theorem rr52:resC Tryz.prog Tryz.f52 = some r52:=by kernel_rfl
noncomputable def decF (w:Int):In × Int:=open Classical in if h:∃ p:In × Int,DecP w p.1 p.2 then h.choose else (inZ,0)
noncomputable def decE (w:Int):Int:=(decF w).2
noncomputable def decX (w:Int):In:=(decF w).1
theorem dec_spec {w:Int} (hw:U32 w):DecP w (decX w) (decE w):=by
 obtain ⟨x,e,hd⟩:=dec_ex w hw; have h:∃ p:In × Int,DecP w p.1 p.2:=⟨(x,e),hd⟩; rw [decX,decE,decF,dif_pos h]; exact h.choose_spec
def St.word (s:St):Int:=(ldF s.ws (s.pc * 4)).1
def St.here (s:St):Bool:=(ldF s.ws (s.pc * 4)).2
noncomputable def stepF (s:St):St:=
 if s.here = false then { s with en:=5 } else if decE s.word = 0 then
  (if (decX s.word).f = 2 then movF { s with pc:=s.pc + 1 } (decX s.word) else if (decX s.word).f = 3 then jmpF { s with pc:=s.pc + 1 } (decX s.word) else recF { s with pc:=s.pc + 1 } (decX s.word))
 else { s with en:=4 }
theorem step_c {H0 H:List ABlk} {mb pb wb:Nat} {o:AV} {s:St} (hm:MAt H0 H mb pb wb o s) :
 ACalls Tryz.prog 52 [.ptr mb 0] H (PutO H0 H mb pb wb o (stepF s)):=by
 have hlt:mb < H.length:=(List.getElem?_eq_some_iff.1 hm.m).1; have h16:=hm.r16; have hml:=hm.m; have hpc:=hm.pc; obtain ⟨A,hA⟩:∃ A,A = s.regs.map wv:=⟨_,rfl⟩; have hl:A.length = 16:=by rw [hA,lnn]; exact h16
 have d21:∀ B,List.drop 21 (A ++ B) = B.drop 5:=λB=>drp hl 5
 have d22:∀ B,List.drop 22 (A ++ B) = B.drop 6:=λB=>drp hl 6
 have s26:∀ x B,List.take 26 (A ++ B) ++ x :: List.drop 27 (A ++ B) = A ++ (B.take 10 ++ x :: B.drop 11):=λx B=>stB hl 10 x
 have s21:∀ x B,List.take 21 (A ++ B) ++ x :: List.drop 22 (A ++ B) = A ++ (B.take 5 ++ x :: B.drop 6):=λx B=>stB hl 5 x
 have he:=hm.endd; have hml2:=hml; rw [<- hA] at hml2; simp only [bC] at hml2; rw [<- hA] at he; have e4:s.pc % 4294967296 * 4 % 4294967296 = s.pc * 4:=by omega
 refine ACalls.enter Tryz.func52 cc52 rr52 λhcl=>?_
 simp only [Tryz.ntmps52,c52,r52]; refine W.seq_reg ?_; simp (disch:=omega) only [go_sem,seval,reduceCtorEq]; refine W.cut (λs' H'=>∃ w ok,(s.here = true->w = s.word)/\ok = s.here/\s' = [.ptr mb 0,.any,wv w,bv ok] ++ List.replicate 63 .any/\H' = H) (wpA.W ?_) ?_
 ·refine W.pchain follows (by decide +kernel) ?_
  simp (disch:=omega) only [hml2,d21,d22,hl,go_sem,seval,reduceCtorEq]; refine PCont.mk (size_c hm.mem) ?_
  by_cases h:s.pc < s.ws.length
  ·simp (disch:=omega) only [go_sem,seval,reduceCtorEq]
   refine W.pchain follows (by decide +kernel) ?_; simp (disch:=omega) only [hml2,d21,d22,hl,e4,go_sem,seval,reduceCtorEq]; refine PCont.mk (load_c hm.mem _ (by omega) (by omega)) ?_; simp (disch:=omega) only [go_sem,seval,reduceCtorEq]; exact ⟨_,_,Wk.slots (by (try simp only [List.replicate,List.cons_append,List.nil_append]); repeat' constructor),_,_,λ_=>rfl,rfl,rfl,rfl⟩
  ·simp (disch:=omega) only [go_sem,seval,reduceCtorEq]
   refine ⟨_,_,Wk.slots (by (try simp only [List.replicate,List.cons_append,List.nil_append]); repeat' constructor),0,false,λh'=>?_,?_,rfl,rfl⟩
   ·rw [St.here,ldF,if_neg (by omega)] at h'; cases h'
   ·rw [St.here,ldF,if_neg (by omega)]
 rintro s' H' ⟨w,ok,hw,rfl,rfl,rfl⟩; refine wpA.W ?_
 cases hh:s.here
 ·simp (disch:=omega) only [hml2,s26,hl,go_sem,seval,reduceCtorEq]
  rw [stepF,if_pos hh]; exact Ret.keep ⟨rfl,o,.set,he 5 s.tr⟩
 have hw:=hw hh; subst hw; have uw:U32 s.word:=ldF_u hm.mem _; have hd:=dec_spec uw; rw [stepF,if_neg (by rw [hh]; decide)]
 generalize decE s.word = e at *
 generalize decX s.word = x at *
 obtain ⟨hx,hee,hdc⟩:=id hd; simp (disch:=omega) only [go_sem,seval,reduceCtorEq]; refine Cont.mk (hdc _) ?_; have hq:∀ a,(H' ++ [a])[H'.length]? = some a:=λa=>by simp
 have hk:∀ l,(H' ++ l)[mb]? = some (.cells (A ++ [wv s.h,bv s.fl.n,bv s.fl.z,bv s.fl.c,bv s.fl.v,iv s.pc,.ptr pb 0,sv s.inp,iv s.rd,o,iv s.en,iv s.tr])):=λl=>by rw [List.getElem?_append_left hlt]; exact hml2
 have hs1:∀ a b:ABlk,(H' ++ [a]).set H'.length b = H' ++ [b]:=λa b=>by simp
 have m0:=hm.ext [.cells x.cs]; rcases hee with ⟨rfl,-⟩ | rfl
 rotate_left
 ·have he2:=m0.endd 4 s.tr
  rw [<- hA] at he2; simp (disch:=omega) only [hq,hs1,hk,s26,hl,go_sem,seval,reduceCtorEq]; exact Ret.keep ⟨rfl,o,Fx.app.trans .set,he2⟩
 have hhr:s.pc < s.ws.length:=by
  have:=hh; simp only [St.here,ldF] at this
  split at this
  ·omega
  ·cases this
 have hlen:=hm.mem.len; obtain ⟨s1,hs1'⟩:∃ s1:St,s1 = { s with pc:=s.pc + 1 }:=⟨_,rfl⟩; rw [if_pos rfl,<- hs1']; have m1:=m0.put s1 (by rw [hs1']; exact ⟨rfl,rfl⟩) (by rw [hs1']; exact h16) (by rw [hs1']; exact hm.ru) (by rw [hs1']; exact hm.hu) (by rw [hs1']; exact ⟨by simp only; omega,by simp only; omega⟩) (by rw [hs1']; exact hm.rd); have hcell:s1.regs.map wv ++ bC s1 pb o = A ++ [wv s.h,bv s.fl.n,bv s.fl.z,bv s.fl.c,bv s.fl.v,iv (s.pc + 1),.ptr pb 0,sv s.inp,iv s.rd,o,iv s.en,iv s.tr]:=by rw [hs1',hA]; rfl
 have hq2:∀ a b:ABlk,((H' ++ [a]).set mb b)[H'.length]? = some a:=λa b=>by rw [List.getElem?_set_ne (by omega)]; simp
 obtain ⟨f,u,v,a,b,c,op,im⟩:=x; rw [hcell] at m1
 by_cases f2:f = 2
 ·simp (disch:=omega) only [hq,hs1,hk,d21,s21,hl,hq2,go_sem,seval,reduceCtorEq]
  refine Cont.rel (moves_c m1 hx) ?_; rintro v H' ⟨rfl,o',fx,m'⟩; simp (disch:=omega) only [go_sem,seval,reduceCtorEq]; exact Ret.keep ⟨rfl,o',(Fx.app.trans .set).trans fx,m'⟩
 by_cases f3:f = 3
 ·simp (disch:=omega) only [hq,hs1,hk,d21,s21,hl,hq2,go_sem,seval,reduceCtorEq]
  refine Cont.rel (jumps_c m1 hx) ?_; rintro v H' ⟨rfl,rfl,m'⟩; simp (disch:=omega) only [go_sem,seval,reduceCtorEq]; exact Ret.keep ⟨rfl,o,(Fx.app.trans .set).trans .set,m'⟩
 ·simp (disch:=omega) only [hq,hs1,hk,d21,s21,hl,hq2,go_sem,seval,reduceCtorEq]
  refine Cont.rel (reckons_c m1 hx) ?_; rintro v H' ⟨rfl,rfl,m'⟩; simp (disch:=omega) only [go_sem,seval,reduceCtorEq]; exact Ret.keep ⟨rfl,o,(Fx.app.trans .set).trans .set,m'⟩
def c21l0:AC:=
 .seq (sr [im 19 t0,iv0 20 t19,ia 21 t20 26,il 22 t21,ib 23 .eql t22 (kc 0),im 24 t23,ky 25 24 (.mv t6),ky 26 24 (.mv t1),ky 27 24 (.bin .lss t25 t26),kn 28 (.pick t24 t27 kF)]
 (.cond t28 (.skip) (.exit 0)))
 (.seq (.block 1 (.reg [im 31 t0,ic 32 52 [t31]]))
 (.reg [im 29 t6,ib 30 .add t29 (kc 1),im 6 t30]))
def c21:AC:=
 sr [kn 4 (.al [kz,kz,ks,kz,kz]),im 5 (kc 0)]
 (.seq (sr [im 8 t0,kn 9 (.eqp false t8 (.c .nilp)),im 10 t9,ko 11 10 (.mv t1),ko 12 10 (.bin .lss t11 (kc 0)),kn 13 (.pick t10 kT t12),im 14 t13,ko 15 14 (.mv t1),ko 16 14 (.bin .gtr t15 (kc 4194304)),kn 17 (.pick t14 kT t16)]
 (.cond t17 (sr [kn 18 (.bd [kz,kz,ks,kz,kz] []),ke (.st t4 t18 5),im 5 (kc 1)]
 (.ret)) (.skip)))
 (sr [im 6 (kc 0)]
 (.seq (.block 0 (.loop c21l0))
 (.seq (.dreg [[],[0],[1],[2],[],[4],[5],[6],[],[8],[9],[10],[11],[],[],[14],[15],[16],[3,7,12,13,17],[],[19,18,0,1,2,3,4,5,6,7,8,9,10,11,12,13,14,15,16,17,18,19]] [im 33 t0,iv0 34 t33,ia 35 t34 26,il 36 t35,im 37 t0,iv0 38 t37,ia 39 t38 27,il 40 t39,im 41 t0,iv0 42 t41,ia 43 t42 25,il 44 t43,kn 45 (.b2s t44),im 46 t6,im 47 t0,iv0 48 t47,ia 49 t48 24,il 50 t49,kn 51 (.bd [kz,kz,ks,kz,kz] [(0,1,t36),(1,1,t40),(2,1,t45),(3,1,t46),(4,1,t50)]),kn 7 (.al [kz,kz,ks,kz,kz]),ke (.st t7 t51 5)])
 (.seq (sr [im 52 t0,iv0 53 t52,ia 54 t53 26,il 55 t54,ib 56 .eql t55 (kc 0)]
 (.cond t56 (.reg [ia 57 t7 0,ke (.st t57 (kc 3) 1)]) (.skip)))
 (sr [kn 58 (.ld t7 5 true),ke (.st t4 t58 5),im 5 (kc 0)]
 (.ret)))))))
def r21:List RC:=[.c 4 5 true,.t 5]
theorem cc21:cKc Tryz.f21 (hh 21) c21:=by unfold cKc; kernel_rfl
theorem rr21:resC Tryz.prog Tryz.f21 = some r21:=by kernel_rfl
noncomputable def runF:Nat->St->Nat × St
 | 0,s=>(0,s)
 | n + 1,s=>if s.en = 0 then ((runF n (stepF s)).1 + 1,(runF n (stepF s)).2) else (0,s)
theorem runF_end {n:Nat} {s:St} (h:s.en ≠ 0):runF n s = (0,s):=by
 cases n with
 | zero=>rfl
 | succ n=>rw [runF,if_neg h]
def bytes8 (L:List Int):List UInt8:=L.map λn=>UInt8.ofNat n.toNat
theorem out_bytes {H0 H:List ABlk} {L:List Int} {o:AV} (h:OutAt H0 H L o):∃ E,(∀ H,elemsA H 1 o = some E)/\bytesOf E = some (bytes8 L)/\isStr o = false:=by
 rcases h with ⟨rfl,rfl⟩ | ⟨ob,rfl,-,-,-⟩
 ·exact ⟨[],λ_=>rfl,rfl,rfl⟩
 ·have : ∀ L : List Int, bytesOf ((L.map ob8).map (·.map AV.d)) = some (bytes8 L) := by
   intro L
   induction L with
   | nil=>rfl
   | cons e L ih=>simp only [List.map_cons,List.map_nil,bytesOf,ob8,bytes8] at ih ⊢; rw [ih]
  exact ⟨_,λ_=>by simp only [elemsA,if_true],this L,rfl⟩
theorem MAt.other {H0 H:List ABlk} {mb pb wb:Nat} {o:AV} {s:St} (h:MAt H0 H mb pb wb o s) {c:Nat} (x:ABlk) (h1:c ≠ mb) (h2:c ≠ pb) (h3:c ≠ wb) (h4:c ∉ refs o) (h5:H0.length<=c):MAt H0 (H.set c x) mb pb wb o s:=by
 refine ⟨pre_set h.pre h5 _,by rw [List.getElem?_set_ne h1]; exact h.m,⟨by rw [List.getElem?_set_ne h2]; exact h.mem.p,by rw [List.getElem?_set_ne h3]; exact h.mem.w,h.mem.len,h.mem.rng⟩,?_,h.lo,h.ne,h.r16,h.ru,h.hu,h.pc,h.rd⟩; rcases h.out with h' | ⟨ob,rfl,k2,k3⟩
 ·exact .inl h'
 ·refine .inr ⟨ob,rfl,?_,k3⟩
  rw [List.getElem?_set_ne (λe=>h4 (by simp only [refs,List.mem_singleton]; exact e))]; exact k2
structure Rg where
 k:Nat
 H:List ABlk
 o:AV
 s:St
structure RgI (H0 H1:List ABlk) (mb pb wb:Nat) (o:AV) (s:St) (fuel:Int) (g:Rg):Prop where
 m:MAt H0 g.H mb pb wb g.o g.s
 f:Fx mb wb o H1 g.o g.H
 r:runF fuel.toNat s = (g.k + (runF (fuel.toNat - g.k) g.s).1,(runF (fuel.toNat - g.k) g.s).2)
 k:g.k<=fuel
def endF (s:St):Int:=if s.en = 0 then 3 else s.en
noncomputable def outV (s:St) (fuel:Int):AV:=.tup [.agg [iv (endF (runF fuel.toNat s).2),iv (runF fuel.toNat s).2.tr,sv ⟨(bytes8 (runF fuel.toNat s).2.out).toArray⟩,iv (runF fuel.toNat s).1,iv (runF fuel.toNat s).2.rd],iv 0]
theorem run_c {H0 H:List ABlk} {mb pb wb:Nat} {o:AV} {s:St} (hm:MAt H0 H mb pb wb o s) (fuel:Int) (hf:0<=fuel/\fuel<=4194304) :
 ACalls Tryz.prog 21 [.ptr mb 0,iv fuel] H λv H'=>v = outV s fuel/\∃ o',Fx mb wb o H o' H'/\MAt H0 H' mb pb wb o' (runF fuel.toNat s).2:=by
 refine ACalls.enter Tryz.func21 cc21 rr21 λhcl=>?_
 simp only [Tryz.ntmps21,c21,r21]; refine W.seq_reg ?_; simp (disch:=omega) only [go_sem,seval,reduceCtorEq]; refine W.cut (λs' H'=>s' = [.ptr mb 0,iv fuel,.any,.any,.ptr H.length 0,iv 0] ++ List.replicate 53 .any/\H' = H ++ [.cells [iv 0,iv 0,sv ⟨#[]⟩,iv 0,iv 0]]) (wpA.W ?_) ?_
 ·simp (disch:=omega) only [ptrsA,go_sem,seval,reduceCtorEq]
  exact ⟨_,_,Wk.slots (by (try simp only [List.replicate,List.cons_append,List.nil_append]); repeat' constructor),rfl,rfl⟩
 rintro s' H' ⟨rfl,rfl⟩; refine W.seq_reg ?_; simp (disch:=omega) only [go_sem,seval,reduceCtorEq]; have hI0:RgI H0 (H ++ [.cells [iv 0,iv 0,sv ⟨#[]⟩,iv 0,iv 0]]) mb pb wb o s fuel ⟨0,H ++ [.cells [iv 0,iv 0,sv ⟨#[]⟩,iv 0,iv 0]],o,s⟩:=⟨hm.ext _,.rfl,by simp,hf.1⟩; have hlt:mb < H.length:=(List.getElem?_eq_some_iff.1 hm.m).1; have hwl:wb < H.length:=(List.getElem?_eq_some_iff.1 hm.mem.w).1; obtain ⟨S,hS⟩:∃ S:Rg->List AV,∀ g,S g = [.ptr mb 0,iv fuel,.any,.any,.ptr H.length 0,iv 0,iv g.k] ++ List.replicate 52 .any:=⟨_,λ_=>rfl⟩; refine W.cut (λs' H'=>∃ g:Rg,RgI H0 (H ++ [.cells [iv 0,iv 0,sv ⟨#[]⟩,iv 0,iv 0]]) mb pb wb o s fuel g/\runF fuel.toNat s = (g.k,g.s)/\s' = S g/\H' = g.H) (wpA.W ?_) ?_
 ·simp (disch:=omega) only [go_sem,seval,reduceCtorEq]
  refine W.loopG (γ:=Rg) (λg=>fuel.toNat - g.k) S (λg=>g.H) (RgI H0 (H ++ [.cells [iv 0,iv 0,sv ⟨#[]⟩,iv 0,iv 0]]) mb pb wb o s fuel) ⟨0,H ++ [.cells [iv 0,iv 0,sv ⟨#[]⟩,iv 0,iv 0]],o,s⟩ (Wk.slots (WkL.tw 7 (hS _) rfl (by simp only [tkS]; repeat' constructor))) hI0 (λg hg=>?_); have h16:=hg.m.r16; have hml:=hg.m.m; have hgk:=hg.k; obtain ⟨A,hA⟩:∃ A,A = g.s.regs.map wv:=⟨_,rfl⟩; have hl:A.length = 16:=by rw [hA,lnn]; exact h16
  have d26:∀ B,List.drop 26 (A ++ B) = B.drop 10:=λB=>drp hl 10
  simp only [bC] at hml; rw [<- hA] at hml; simp (disch:=omega) only [hS,c21l0,hml,d26,hl,go_sem,seval,reduceCtorEq]
  by_cases he:g.s.en = 0
  ·by_cases hk:(g.k:Int) < fuel
   ·simp (disch:=omega) only [go_sem,seval,reduceCtorEq]
    refine Cont.rel (step_c hg.m) ?_; rintro v H' ⟨rfl,o',fx,m'⟩; simp (disch:=omega) only [go_sem,seval,reduceCtorEq]; have hr:=hg.r; obtain ⟨q,hq⟩:∃ q,fuel.toNat - g.k = q + 1:=⟨fuel.toNat - g.k - 1,by omega⟩; rw [hq,runF,if_pos he] at hr; refine Nxt.mk ⟨g.k + 1,H',o',stepF g.s⟩ (by simp only; omega) (Wk.slots (WkL.tw 7 (hS _) rfl (by simp only [tkS]; repeat' constructor))) ⟨m',hg.f.trans fx,?_,by simp only; omega⟩; simp only; rw [show fuel.toNat - (g.k + 1) = q by omega,hr]; simp only [Prod.mk.injEq,and_true]; omega
   ·simp (disch:=omega) only [go_sem,seval,reduceCtorEq]
    have hr:=hg.r; rw [show fuel.toNat - g.k = 0 by omega,runF] at hr; exact ⟨_,_,Wk.slots (by (try simp only [List.replicate,List.cons_append,List.nil_append]); repeat' constructor),g,hg,hr,rfl,rfl⟩
  ·simp (disch:=omega) only [go_sem,seval,reduceCtorEq]
   have hr:=hg.r; rw [runF_end he] at hr; exact ⟨_,_,Wk.slots (by (try simp only [List.replicate,List.cons_append,List.nil_append]); repeat' constructor),g,hg,hr,rfl,rfl⟩
 rintro s' H' ⟨g,hg,hgf,rfl,rfl⟩; have h16:=hg.m.r16; have hml:=hg.m.m; have hgl:mb < g.H.length:=(List.getElem?_eq_some_iff.1 hml).1; rw [outV,hgf]; obtain ⟨E,hE,hby,hns⟩:=out_bytes hg.m.out; obtain ⟨by',hbe⟩:∃ by',by' = bytes8 g.s.out:=⟨_,rfl⟩
 rw [<- hbe] at hby ⊢; simp only [isStr] at hns; obtain ⟨A,hA⟩:∃ A,A = g.s.regs.map wv:=⟨_,rfl⟩; have hl:A.length = 16:=by rw [hA,lnn]; exact h16
 have d26:∀ B,List.drop 26 (A ++ B) = B.drop 10:=λB=>drp hl 10
 have d27:∀ B,List.drop 27 (A ++ B) = B.drop 11:=λB=>drp hl 11
 have d25:∀ B,List.drop 25 (A ++ B) = B.drop 9:=λB=>drp hl 9
 have d24:∀ B,List.drop 24 (A ++ B) = B.drop 8:=λB=>drp hl 8
 simp only [bC] at hml; rw [<- hA] at hml; have hk:∀ l,(g.H ++ l)[mb]? = some (.cells (A ++ [wv g.s.h,bv g.s.fl.n,bv g.s.fl.z,bv g.s.fl.c,bv g.s.fl.v,iv g.s.pc,.ptr pb 0,sv g.s.inp,iv g.s.rd,g.o,iv g.s.en,iv g.s.tr])):=λl=>by rw [List.getElem?_append_left hgl]; exact hml
 have hres:g.H[H.length]? = some (.cells [iv 0,iv 0,sv ⟨#[]⟩,iv 0,iv 0]):=by
  rw [hg.f.out H.length (by simp) (by omega) (by omega) (λh=>?_)]
  ·simp
  ·rcases hm.out with ⟨rfl,-⟩ | ⟨ob,rfl,h2,-⟩
   ·simp [refs] at h
   ·simp only [refs,List.mem_singleton] at h
    rw [<- h,List.getElem?_eq_none (Nat.le_refl _)] at h2
    cases h2
 have hrl:H.length < g.H.length:=(List.getElem?_eq_some_iff.1 hres).1; have hso:∀ x,g.H.set g.H.length x = g.H:=λx=>List.set_eq_of_length_le (Nat.le_refl _)
 refine W.seq ?_; rw [hS]; refine W.dregD [([],[g.H.length]),([],[g.H.length]),([],[g.H.length]),([],[g.H.length]),([],[g.H.length]),([],[g.H.length]),([],[g.H.length]),([],[g.H.length]),([],[g.H.length]),([],[g.H.length]),([],[g.H.length]),([],[g.H.length]),([],[g.H.length]),([],[g.H.length]),([],[g.H.length]),([],[g.H.length]),([],[g.H.length]),([],[g.H.length]),([],[g.H.length]),([g.H.length],[]),([g.H.length],[])] follows (by decide +kernel) rfl rfl (λz hz b' hb'=>?_) ?_
 ·simp only [List.mem_cons,List.not_mem_nil,or_false] at hz
  rcases hz with rfl | rfl | rfl | rfl | rfl | rfl | rfl | rfl | rfl | rfl | rfl | rfl | rfl | rfl | rfl | rfl | rfl | rfl | rfl | rfl | rfl <;> simp at hb' <;> subst hb' <;> exact ⟨by simp,by rw [List.getElem?_eq_none (by simp)]; exact λh=>by cases h⟩
 repeat (rw [DC_p]; simp (disch:=omega) only [kill_c,List.set_nil,hso,hml,d24,d25,d26,d27,hl,hE,hby,hns,go_sem,seval,reduceCtorEq])
 refine WStep.al (by simp) (by simp) ?_; simp (disch:=omega) only [go_sem,seval,reduceCtorEq]; refine WStep.ev (by simp) (by simp) ?_; simp (disch:=omega) only [go_sem,seval,reduceCtorEq]; refine ⟨FrOk.put 0 _ (by simp) rfl,?_⟩
 try simp (disch:=omega) only [go_sem,seval,reduceCtorEq]
 have hq:∀ x,(g.H ++ [x])[g.H.length]? = some x:=λx=>by simp
 have hqs:∀ x y,(g.H ++ [x]).set g.H.length y = g.H ++ [y]:=λx y=>by simp
 have hr1:∀ l,(g.H ++ l)[H.length]? = some (.cells [iv 0,iv 0,sv ⟨#[]⟩,iv 0,iv 0]):=λl=>by rw [List.getElem?_append_left hrl]; exact hres
 have hrs:∀ x l,(g.H ++ l).set H.length x = g.H.set H.length x ++ l:=λx l=>List.set_append_left _ _ hrl
 have hrq:∀ x l,(g.H.set H.length x ++ l)[H.length]? = some x:=λx l=>by rw [List.getElem?_append_left (by rw [List.length_set]; exact hrl)]; exact List.getElem?_set_self hrl
 have hpl:pb < H.length:=(List.getElem?_eq_some_iff.1 hm.mem.p).1; have hno:H.length ∉ refs g.o:=λh=>by
  rcases hg.f.new _ h with h | h
  ·rcases hm.out with ⟨rfl,-⟩ | ⟨ob,rfl,h2,-⟩
   ·simp [refs] at h
   ·simp only [refs,List.mem_singleton] at h
    rw [<- h,List.getElem?_eq_none (Nat.le_refl _)] at h2
    cases h2
  ·simp at h; omega
 have fin:∀ x l,Fx mb wb o H g.o (g.H.set H.length x ++ l)/\MAt H0 (g.H.set H.length x ++ l) mb pb wb g.o g.s:=λx l =>
  ⟨⟨fun c h0 h1 h2 h3 => by
     rw [List.getElem?_append_left (by rw [List.length_set]; omega),List.getElem?_set_ne (by omega),hg.f.out c (by simp; omega) h1 h2 h3,List.getElem?_append_left h0],
    by simp; omega,λc hc=>(hg.f.new c hc).imp id λh=>by simp at h; omega⟩,
    (hg.m.other x (by omega) (by omega) (by omega) hno (Nat.le_trans hm.pre.length_le (Nat.le_refl _))).ext l⟩
 have hrs5:resA [RC.c 4 5 true,RC.t 5] = resA [RC.c 4 5 true,RC.t 5]:=rfl; refine wpA.W ?_
 by_cases he:g.s.en = 0
 ·simp (disch:=omega) only [hk,d26,hl,hq,hqs,hr1,hrs,hrq,go_sem,seval,reduceCtorEq]
  exact Ret.keep ⟨by rw [endF,if_pos he],g.o,(fin _ _).1,(fin _ _).2⟩
 ·simp (disch:=omega) only [hk,d26,hl,hq,hqs,hr1,hrs,hrq,go_sem,seval,reduceCtorEq]
  exact Ret.keep ⟨by rw [endF,if_neg he],g.o,(fin _ _).1,(fin _ _).2⟩
def St.new (ws:List Int) (inp:ByteArray):St:=⟨List.replicate 16 0,0,⟨false,false,false,false⟩,0,ws,inp,0,0,0,[]⟩
end Go.Proofs.YtofpekbidngnfaaGreatDoor
