/- run.Run of an image in memory. -/
import Derived.Test.YtofpekbidngnfaaGreatDoorYW1
import Derived.Test.YtofpekbidngnfaaGreatDoorYCodeU
set_option linter.constructorNameAsVariable false
set_option linter.unusedSectionVars false
set_option linter.unusedSimpArgs false
set_option linter.unusedVariables false
set_option maxHeartbeats 1000000
set_option maxRecDepth 20000
namespace Go.Proofs.YtofpekbidngnfaaGreatDoor
open Go.RowKit
def c9:AC:=
 sr [kn 3 (.bx t0),kn 6 (.al [kz,kz,ks,kz,kz]),im 7 (kc 0)]
 (sr [ia 11 t3 0,il 12 t11,ia 13 t3 1,il 14 t13,im 15 t1,ic 16 20 [t12,t14,t15],im 10 t16,kn 17 (.ext t10 0),kn 18 (.ext t10 1),im 8 t17,im 9 t18]
 (.seq (sr [im 19 t9,ib 20 .neq t19 (kc 0)]
 (.cond t20 (sr [kn 21 (.bd [kz,kz,ks,kz,kz] []),im 22 t9,ke (.st t6 t21 5),im 7 t22]
 (.ret)) (.skip)))
 (sr [im 23 t8,im 24 t2,ic 25 21 [t23,t24],kn 26 (.ext t25 0),kn 27 (.ext t25 1),ke (.st t6 t26 5),im 7 t27]
 (.ret))))
def r9:List RC:=[.c 6 5 true,.t 7]
theorem cc9:cKc Tryz.f9 (hh 9) c9:=by unfold cKc; kernel_rfl
theorem rr9:resC Tryz.prog Tryz.f9 = some r9:=by kernel_rfl
def c8:AC:=
 sr [kn 0 (.al [kz,kz])]
 (sr [kn 1 (.bd [kz,kz] [(0,1,(kc 65536)),(1,1,(kc 16384))]),ke (.st t0 t1 2)]
 (.ret))
def r8:List RC:=[.c 0 2 true]
theorem cc8:cKc Tryz.f8 (hhu 8) c8:=by unfold cKc; kernel_rfl
theorem rr8:resC Tryz.prog Tryz.f8 = some r8:=by kernel_rfl
theorem room_c (H:List ABlk):ACalls Tryz.prog 8 [] H λv H'=>v = .agg [iv 65536,iv 16384]/\H' = H:=by
 refine ACalls.into Tryz.func8 cc8 rr8 λhcl=>?_
 simp (disch:=omega) only [Tryz.ntmps8,c8,r8,go_sem,seval,reduceCtorEq]; exact Ret.drop _ H (Nat.le_refl _) hcl (.rfl _) (by simp [refs,refs.refsL]) ⟨rfl,rfl⟩
theorem run9_c {ws:List Int} {w:Nat} {md:AV} {H:List ABlk} (hw:H[w]? = some (.cells (ws.map wv))) (hl:ws.length = 65536) (hr:∀ x ∈ ws,U32 x) (inp:ByteArray) (hi:inp.size<=4000) :
 ACalls Tryz.prog 9 [.agg [.hsl w 0 65536 65536 1,iv 8,md],sv inp,iv 2000000] H λv H'=>v = outV (St.at ws 8 inp) 2000000/\H' = H:=by
 refine ACalls.into Tryz.func9 cc9 rr9 λhcl=>?_
 simp (disch:=omega) only [Tryz.ntmps9,c9,r9,go_sem,seval,reduceCtorEq]; have hwl:w < H.length:=(List.getElem?_eq_some_iff.1 hw).1; have hw2:∀ l,(H ++ l)[w]? = some (.cells (ws.map wv)):=λl=>by rw [List.getElem?_append_left hwl]; exact hw
 have hc:=cnewH_c (c:=65536) (hw2 [ABlk.cells [AV.hsl w 0 65536 65536 1,iv 8,md],ABlk.cells [iv 0,iv 0,sv ⟨#[]⟩,iv 0,iv 0]]) (by omega) hr 8 (by decide) (by omega) inp hi; rw [hl] at hc; refine Cont.rel hc ?_; rintro v H' ⟨mb,pb,wb,rfl,hM⟩; simp (disch:=omega) only [go_sem,seval,reduceCtorEq]; refine Cont.rel (run_c hM 2000000 (by decide)) ?_; rintro v H2 ⟨rfl,o',fx,hM2⟩; obtain ⟨l2,rfl⟩:=hM2.pre; rw [outV]; obtain ⟨e1,he1⟩:∃ x,x = endF (runF (2000000:Int).toNat (St.at ws 8 inp)).2:=⟨_,rfl⟩; obtain ⟨e2,he2⟩:∃ x,x = (runF (2000000:Int).toNat (St.at ws 8 inp)).2.tr:=⟨_,rfl⟩; obtain ⟨e3,he3⟩:∃ x:ByteArray,x = ⟨(bytes8 (runF (2000000:Int).toNat (St.at ws 8 inp)).2.out).toArray⟩:=⟨_,rfl⟩; obtain ⟨e4,he4⟩:∃ x:Int,x = (runF (2000000:Int).toNat (St.at ws 8 inp)).1:=⟨_,rfl⟩; obtain ⟨e5,he5⟩:∃ x,x = (runF (2000000:Int).toNat (St.at ws 8 inp)).2.rd:=⟨_,rfl⟩; rw [<- he1,<- he2,<- he3,<- he4,<- he5]; simp (disch:=omega) only [List.append_assoc,go_sem,seval,reduceCtorEq]
 trace_state
 exact Ret.drop _ H (Nat.le_refl _) hcl (.rfl _) (by simp [refs,refs.refsL]) ⟨rfl,rfl⟩
def c4:AC:=
 sr [kn 4 (.al [kz,kz,ks,kz,kz]),im 5 kF]
 (sr [im 14 t0,ic 15 6 [t14],im 13 t15,kn 16 (.ext t13 0),kn 17 (.ext t13 1),kn 18 (.ext t13 2),kn 6 (.al [ks,.esl,.esl,.esl,.esl,.esl,.esl,kz]),ke (.st t6 t16 8),im 7 t17,im 8 t18]
 (.seq (.dreg [[],[0],[],[1,2,2],[3],[4],[4],[],[7,5,3,0,1,2,3,4,5,7],[6,8,0,1,2,3,4,5,6,7,8]] [kn 20 (.ld t6 8 true),kn 21 (.bs .hp 36 8 [t20]),ic 22 8 [],ic 23 7 [t21,t22],im 19 t23,kn 24 (.ext t19 0),kn 25 (.ext t19 1),kn 9 (.al [.esl,kz,.esl]),ke (.st t9 t24 3),im 10 t25])
 (.seq (sr [im 26 t8,ib 27 .neq t26 (kc 0),im 28 t27,ko 29 28 (.mv t10),ko 30 28 (.un .not t29),kn 31 (.pick t28 kT t30)]
 (.cond t31 (sr [kn 32 (.bd [kz,kz,ks,kz,kz] []),ke (.st t4 t32 5),im 5 kF]
 (.ret)) (.skip)))
 (sr [kn 34 (.ld t9 3 true),im 35 t1,ic 36 9 [t34,t35,(kc 2000000)],im 33 t36,kn 37 (.ext t33 0),kn 38 (.ext t33 1),kn 11 (.al [kz,kz,ks,kz,kz]),ke (.st t11 t37 5),im 12 t38]
 (sr [kn 39 (.ld t11 5 true),im 40 t12,ib 41 .eql t40 (kc 0),ke (.st t4 t39 5),im 5 t41]
 (.ret))))))
def r4:List RC:=[.c 4 5 true,.t 5]
theorem cc4:cKc Tryz.f4 (hhu 4) c4:=by unfold cKc; kernel_rfl
theorem rr4:resC Tryz.prog Tryz.f4 = some r4:=by kernel_rfl
theorem WStep.callU {P:Program} {w u:List Nat} {d:Option Nat} {f:FuncId} {args:List Opd} {s:List AV} {H:List ABlk} {Kk:List AV->List ABlk->Prop} {v:AV} {G:List ABlk} (h:ACalls P f (args.map (get s)) H λv' G'=>v' = v/\G' = G) (kH:kill u H = H) (kG:kill u G = G) (h1:∀ c,c ∉ w->G[c]? = H[c]?) (h2:H.length<=G.length)
 (hk:Kk (setO s d v) G):WStep P w u ⟨d,.call f args,none⟩ s H Kk:=⟨v,G,by rw [kH,kG]; simp only [StepOk,wanted]; exact h,h1,h2,hk⟩
theorem kill_far {C:Nat} {H:List ABlk} (h:H.length<=C):kill [C] H = H:=List.set_eq_of_length_le h
theorem ran0 {src:FV} {mg:List Nat} {hd:Nat} {wt:Nat->Nat} {S:UInt8->Prop} (hG:pipeG src mg = true) (hP:PgOk mg hd wt S) (hm:mg.length<=126) (hW:Wld) (inp:ByteArray) (hs:inp.size<=4000) (hS:∀ c ∈ inp.data.toList,S c) :
 ACalls Tryz.prog 4 [toA src,sv inp] [] λv _=>∃ x,v = .tup [x,bv true]/\outV (St.at (imgW mg) 8 inp) 2000000 = .tup [x,iv 0]:=by
 obtain ⟨cs,Y,hl,ho,hpb⟩:=parse_built hG
 match cs,hl,ho,hpb with
 | [y0,y1,y2,y3,y4,y5,y6,y7],_,ho,hpb =>
 simp only [List.all_cons,List.all_nil,Bool.and_true,Bool.and_eq_true] at ho; obtain ⟨o0,o1,o2,o3,o4,o5,o6,o7⟩:=ho; obtain ⟨H1,H5,w,md,B,q1,q2,q3,q4,q5,q6,q7,q8,qm,q9⟩:=hpb [.cells [iv 0,iv 0,sv ⟨#[]⟩,iv 0,iv 0]] rfl; refine ACalls.into Tryz.func4 cc4 rr4 λhcl=>?_
 simp (disch:=omega) only [Tryz.ntmps4,c4,r4,go_sem,seval,reduceCtorEq]; refine Cont.mk q1 ?_
 unfold one at o0 o1 o2 o3 o4 o5 o6 o7 qm
 simp (disch:=omega) only [o0,o1,o2,o3,o4,o5,o6,o7,go_sem,seval,reduceCtorEq]; have hs1:∀ x,(H1 ++ [x]).set H5.length .dead = H1 ++ [x]:=λx=>List.set_eq_of_length_le (by simp; omega)
 have hs2:∀ x y,(H1 ++ [x,y]).set H5.length .dead = H1 ++ [x,y]:=λx y=>List.set_eq_of_length_le (by simp; omega)
 have hs5:H5.set H5.length .dead = H5:=List.set_eq_of_length_le (Nat.le_refl _); refine W.dregD [([],[H5.length]),([H1.length + 1],[H5.length]),([],[H1.length + 1,H5.length]),((H1.length + 1) :: B,[H5.length]),([],[H5.length]),([],[H5.length]),([],[H5.length,H5.length]),([H5.length],(H1.length + 1) :: ((H1.length + 1) :: B ++ [])),([H5.length],[]),([],[])] follows (by decide +kernel) rfl rfl (λz hz b' hb'=>?_) ?_
 ·simp only [List.mem_cons,List.not_mem_nil,or_false] at hz
  have hB:∀ b ∈ B,b ≠ H5.length/\(H1 ++ [ABlk.cells [y0,y1,y2,y3,y4,y5,y6,y7]])[b]? ≠ some .dead:=λb hb=>by
   obtain ⟨k1,k2⟩:=q7 b hb; refine ⟨by omega,?_⟩; rcases Nat.lt_or_ge b H1.length with h | h
   ·rw [List.getElem?_append_left h]; exact k2 h
   ·rw [List.getElem?_append_right h]
    cases hb0:b - H1.length with
    | zero=>simp
    | succ k=>simp
  have hA:(H1 ++ [ABlk.cells [y0,y1,y2,y3,y4,y5,y6,y7]])[H1.length + 1]? ≠ some .dead:=by
   rw [List.getElem?_eq_none (by simp)]; simp
  have hC:(H1 ++ [ABlk.cells [y0,y1,y2,y3,y4,y5,y6,y7]])[H5.length]? ≠ some .dead:=by
   rw [List.getElem?_eq_none (by simp; omega)]; simp
  rcases hz with rfl | rfl | rfl | rfl | rfl | rfl | rfl | rfl | rfl | rfl
  ·simp at hb'
  ·simp at hb'; subst hb'; exact ⟨by simp; omega,hA⟩
  ·simp at hb'
  ·rcases List.mem_cons.1 hb' with rfl | hb'
   ·exact ⟨by simp; omega,hA⟩
   ·exact ⟨by simp; exact (hB b' hb').1,(hB b' hb').2⟩
  ·simp at hb'
  ·simp at hb'
  ·simp at hb'
  ·simp at hb'; subst hb'
   refine ⟨λh=>?_,hC⟩; simp only [List.append_nil,List.mem_cons] at h; rcases h with h | h | h
   ·omega
   ·omega
   ·exact (hB _ h).1 rfl
  ·simp at hb'; subst hb'; exact ⟨by simp,hC⟩
  ·simp at hb'
 repeat (rw [DC_p]; simp (disch:=omega) only [kill_c,hs1,hs2,hs5,go_sem,seval,reduceCtorEq])
 have l1:(H1 ++ [ABlk.cells [y0,y1,y2,y3,y4,y5,y6,y7]]).length<=H5.length:=by simp; omega
 have l2:(H1 ++ [ABlk.cells [y0,y1,y2,y3,y4,y5,y6,y7],ABlk.cells [y0,y1,y2,y3,y4,y5,y6,y7]]).length<=H5.length:=by simp; omega
 refine WStep.evU (H1 ++ [ABlk.cells [y0,y1,y2,y3,y4,y5,y6,y7],ABlk.cells [y0,y1,y2,y3,y4,y5,y6,y7]]) (by simp) (by simp) ?_; rw [kill_far l1]; simp (disch:=omega) only [o0,o1,o2,o3,o4,o5,o6,o7,go_sem,seval,reduceCtorEq]; refine ⟨⟨(kill_far l2).symm,λc hc=>?_,by simp⟩,?_⟩
 ·have hne:c ≠ H1.length + 1:=λh=>hc (by simp [h])
  rcases Nat.lt_or_ge c (H1.length + 1) with h | h
  ·rcases Nat.lt_or_ge c H1.length with h' | h'
   ·rw [List.getElem?_append_left h',List.getElem?_append_left h']
   ·have:c = H1.length:=by omega
    subst this; simp
  ·rw [List.getElem?_eq_none (by simp; omega),List.getElem?_eq_none (by simp; omega)]
 repeat (rw [DC_p]; simp (disch:=omega) only [kill_c,hs1,hs2,hs5,go_sem,seval,reduceCtorEq])
 refine PCont.mk (room_c _) ?_
 repeat (rw [DC_p]; simp (disch:=omega) only [kill_c,hs1,hs2,hs5,go_sem,seval,reduceCtorEq])
 simp (disch:=omega) only [go_sem,seval,reduceCtorEq]; refine WStep.callU (v:=.tup [.agg [.hsl w 0 65536 65536 1,iv 8,md],bv true]) (G:=H5) q4 (kill_far l2) (kill_far (Nat.le_refl _)) (λc hc=>q8 c (λh=>hc (List.mem_cons_of_mem _ h))) (by simp; omega) ?_; simp (disch:=omega) only [go_sem,seval,reduceCtorEq]
 repeat (rw [DC_p]; simp (disch:=omega) only [kill_c,hs1,hs2,hs5,go_sem,seval,reduceCtorEq])
 refine WStep.al (by simp) (λb hb=>?_) ?_
 ·left
  rcases List.mem_cons.1 hb with h | hb
  ·omega
  rcases List.mem_cons.1 hb with h | hb
  ·omega
  ·exact (q7 b hb).1
 simp (disch:=omega) only [go_sem,seval,reduceCtorEq]; refine WStep.ev (by simp) (by simp) ?_; simp (disch:=omega) only [qm,go_sem,seval,reduceCtorEq]; refine ⟨FrOk.put 0 _ (by simp) rfl,?_⟩
 try simp (disch:=omega) only [go_sem,seval,reduceCtorEq]
 repeat (rw [DC_p]; simp (disch:=omega) only [kill_c,hs1,hs2,hs5,go_sem,seval,reduceCtorEq])
 have hwl:w < H5.length:=(List.getElem?_eq_some_iff.1 q9).1; have hw2:(H5 ++ [ABlk.cells [AV.hsl w 0 65536 65536 1,iv 8,md]])[w]? = some (.cells ((imgW mg).map wv)):=by rw [List.getElem?_append_left hwl]; exact q9
 have h50:0 < H5.length:=by omega
 have hz0:∀ l,(H5 ++ l)[0]? = some (.cells [iv 0,iv 0,sv ⟨#[]⟩,iv 0,iv 0]):=λl=>by rw [List.getElem?_append_left h50]; exact q6
 have hz1:∀ x l,(H5 ++ l).set 0 x = H5.set 0 x ++ l:=λx l=>List.set_append_left _ _ h50
 have hz2:∀ x l,(H5.set 0 x ++ l)[0]? = some x:=λx l=>by rw [List.getElem?_append_left (by rw [List.length_set]; exact h50)]; exact List.getElem?_set_self h50
 have hrun:=run9_c (md:=md) hw2 (imgW_len mg) (imgW_u hm hP.im) inp hs; rw [outV] at hrun ⊢; obtain ⟨e1,he1⟩:∃ x,x = endF (runF (2000000:Int).toNat (St.at (imgW mg) 8 inp)).2:=⟨_,rfl⟩; obtain ⟨e2,he2⟩:∃ x,x = (runF (2000000:Int).toNat (St.at (imgW mg) 8 inp)).2.tr:=⟨_,rfl⟩; obtain ⟨e3,he3⟩:∃ x:ByteArray,x = ⟨(bytes8 (runF (2000000:Int).toNat (St.at (imgW mg) 8 inp)).2.out).toArray⟩:=⟨_,rfl⟩; obtain ⟨e4,he4⟩:∃ x:Int,x = (runF (2000000:Int).toNat (St.at (imgW mg) 8 inp)).1:=⟨_,rfl⟩; obtain ⟨e5,he5⟩:∃ x,x = (runF (2000000:Int).toNat (St.at (imgW mg) 8 inp)).2.rd:=⟨_,rfl⟩; rw [<- he1,<- he2,<- he3,<- he4,<- he5] at hrun ⊢; refine Cont.mk hrun ?_; simp (disch:=omega) only [hz0,hz1,hz2,go_sem,seval,reduceCtorEq]
 trace_state
 exact Ret.keep ⟨_,rfl,rfl⟩
def Pl (x:AV):Prop:=∀ σ σ' u,VR σ x u->VR σ' x u
theorem Pl.d (x:Value):Pl (.d (.v x)):=λσ σ' u h=>plainVR σ σ' u h
theorem Pl.agg {cs:List AV} (h:∀ c ∈ cs,Pl c):Pl (.agg cs):=λσ σ' u hu=>by
 cases hu with
 | agg a b=>exact .agg a λi c u hc hu=>h c (List.mem_of_getElem? hc) σ σ' u (b i c u hc hu)
theorem Pl.tup {cs:List AV} (h:∀ c ∈ cs,Pl c):Pl (.tup cs):=λσ σ' u hu=>by
 cases hu with
 | tup a b=>exact .tup a λi c u hc hu=>h c (List.mem_of_getElem? hc) σ σ' u (b i c u hc hu)
theorem Pl.list {cs:List AV} (h:∀ c ∈ cs,Pl c) (σ σ':Sg) (us:List Value) (hu:VRs σ cs us):VRs σ' cs us:=
 ⟨hu.1,λi c u hc hu'=>h c (List.mem_of_getElem? hc) σ σ' u (hu.2 i c u hc hu')⟩
theorem ran_c {l c:Nat} {mg:List Nat} {hd:Nat} {wt:Nat->Nat} {S:UInt8->Prop} (hG:pipeG (.s l c) mg = true) (hP:PgOk mg hd wt S) (hm:mg.length<=126) (hW:Wld) (inp:ByteArray) (hs:inp.size<=4000) (hS:∀ c ∈ inp.data.toList,S c) :
 ∃ en tr k rd:Int,(if (wantF wt inp.data.toList).2 = true then en = 2/\tr = 8 else en = 1/\rd = inp.size) /\
  ∀ H,ACalls Tryz.prog 4 [toA (.s l c),sv inp] H λv H'=>v = .tup [.agg [iv en,iv tr,sv ⟨(bytes8 (wantF wt inp.data.toList).1).toArray⟩,iv k,iv rd],bv true]/\H' = H:=by
 obtain ⟨m,s',a1,a2,a3,a4⟩:=run_law hP hW (imgW_len mg) (imgW_u hm hP.im) (imgW_get hm) hs hS; have hen:s'.en ≠ 0:=by
  split at a4
  ·omega
  ·omega
 have hrun:runF (2000000:Int).toNat (St.at (imgW mg) 8 inp) = (m,s'):=by
  have h1:(2000000:Int).toNat = m + (2000000 - m):=by
   show 2000000 = _
   omega
  have h2:St.at (imgW mg) 8 inp = St.at8 (imgW mg) inp:=rfl; rw [h1,h2,a2,runF_end hen]
  show (0 + m,s') = (m,s')
  rw [Nat.zero_add]
 have hv:outV (St.at (imgW mg) 8 inp) 2000000 = .tup [.agg [iv s'.en,iv s'.tr,sv ⟨(bytes8 (wantF wt inp.data.toList).1).toArray⟩,iv m,iv s'.rd],iv 0]:=by
  rw [outV,hrun]
  show AV.tup [.agg [iv (endF s'),iv s'.tr,sv ⟨(bytes8 s'.out).toArray⟩,iv m,iv s'.rd],iv 0] = _
  rw [endF,if_neg hen,a3]
 refine ⟨s'.en,s'.tr,m,s'.rd,a4,λH=>?_⟩; refine ACalls.plainA (λσ σ' vs h=>Pl.list (λc hc=>?_) σ σ' vs h) (Pl.tup λc hc=>?_) ((ran0 hG hP hm hW inp hs hS).mono λv H' hx=>?_) H
 ·simp only [List.mem_cons,List.not_mem_nil,or_false] at hc
  rcases hc with rfl | rfl
  ·exact Pl.d _
  ·exact Pl.d _
 ·simp only [List.mem_cons,List.not_mem_nil,or_false] at hc
  rcases hc with rfl | rfl
  ·refine Pl.agg λc hc=>?_
   simp only [List.mem_cons,List.not_mem_nil,or_false] at hc; rcases hc with rfl | rfl | rfl | rfl | rfl <;> exact Pl.d _
  ·exact Pl.d _
 ·obtain ⟨x,h1,h2⟩:=hx
  rw [hv] at h2; have:x = _:=((List.cons.inj (AV.tup.inj h2)).1).symm; rw [h1,this]
end Go.Proofs.YtofpekbidngnfaaGreatDoor
