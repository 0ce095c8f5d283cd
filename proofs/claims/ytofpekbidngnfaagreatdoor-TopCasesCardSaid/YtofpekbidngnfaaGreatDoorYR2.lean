/- risc.Good. -/
import Derived.Test.YtofpekbidngnfaaGreatDoorYR1
set_option linter.unusedSectionVars false
set_option linter.unusedSimpArgs false
set_option linter.unusedVariables false
set_option maxHeartbeats 1000000
set_option maxRecDepth 20000
namespace Go.Proofs.YtofpekbidngnfaaGreatDoor
open Go.RowKit
def c247:AC:=
 sr [kn 1 (.bx t0),im 2 kF]
 (sr [ia 5 t1 0,il 6 t5,ia 7 t1 1,il 8 t7,ia 9 t1 2,il 10 t9,ia 11 t1 3,il 12 t11,kn 13 (.bd [kz,(.d (.v (.bool false))),(.d (.v (.bool false))),kz,kz,kz,kz,kz] [(0,1,t6),(1,1,t8),(2,1,t10),(3,1,t12)]),kn 3 (.al [kz,(.d (.v (.bool false))),(.d (.v (.bool false))),kz,kz,kz,kz,kz]),ke (.st t3 t13 8)]
 (sr [ia 14 t1 3,il 15 t14,ic 16 351 [t15,(kc 4)],im 4 t16]
 (.seq (sr [ia 17 t1 0,il 18 t17]
 (.block 0 (sr [ib 20 .eql t18 (kc 0),im 19 t20]
 (.cond t19 (.seq (.dreg [[],[0],[],[2],[],[4],[0,1],[6,1,0,1],[0,1,2,3,6,7],[8,3,7,0,1,2,3,6,7],[0,1,2,3,4,5,6,7,8,9],[10,5,9,0,1,2,3,4,5,6,7,8,9]] [ia 21 t1 4,il 22 t21,ia 23 t1 5,il 24 t23,ia 25 t1 6,il 26 t25,ia 27 t3 4,ke (.st t27 t22 1),ia 28 t3 5,ke (.st t28 t24 1),ia 29 t3 6,ke (.st t29 t26 1)])
 (.reg [im 30 t4,im 31 t30,ky 32 31 (.fa t1 2),ky 33 31 (.ld t32 1 false),ky 34 31 (.un .not t33),ky 35 31 (.mv t34),ko 36 35 (.fa t1 1),ko 37 35 (.ld t36 1 false),ko 38 35 (.mv t37),ky 39 38 (.fa t1 6),ky 40 38 (.ld t39 1 false),ky 41 38 (.bin .eql t40 (kc 0)),ko 42 35 (.pick t38 t41 kF),ky 43 31 (.pick t35 kT t42),kn 44 (.pick t31 t43 kF),im 4 t44])) (sr [ib 46 .eql t18 (kc 1),im 45 t46]
 (.cond t45 (.seq (.dreg [[],[0],[],[2],[],[4],[0,1],[6,1,0,1],[0,1,2,3,6,7],[8,3,7,0,1,2,3,6,7],[0,1,2,3,4,5,6,7,8,9],[10,5,9,0,1,2,3,4,5,6,7,8,9]] [ia 47 t1 4,il 48 t47,ia 49 t1 6,il 50 t49,ia 51 t1 7,il 52 t51,ia 53 t3 4,ke (.st t53 t48 1),ia 54 t3 6,ke (.st t54 t50 1),ia 55 t3 7,ke (.st t55 t52 1)])
 (.reg [im 56 t4,im 57 t56,ky 58 57 (.fa t1 7),ky 59 57 (.ld t58 1 false),ky 60 57 (.call 351 [t59,(kc 16)]),kn 61 (.pick t57 t60 kF),im 4 t61])) (sr [ib 63 .eql t18 (kc 2),im 62 t63]
 (.cond t62 (.seq (.dreg [[],[0],[],[2],[0,1],[4,1,0,1],[0,1,2,3,4,5],[6,3,5,0,1,2,3,4,5]] [ia 64 t1 4,il 65 t64,ia 66 t1 7,il 67 t66,ia 68 t3 4,ke (.st t68 t65 1),ia 69 t3 7,ke (.st t69 t67 1)])
 (.reg [im 70 t4,im 71 t70,ky 72 71 (.fa t1 7),ky 73 71 (.ld t72 1 false),ky 74 71 (.call 97 [t73,(kc 20)]),kn 75 (.pick t71 t74 kF),im 4 t75])) (sr [ib 77 .eql t18 (kc 3),im 76 t77]
 (.cond t76 (.seq (sr [ia 78 t1 1,il 79 t78]
 (.cond t79 (.reg [ia 80 t1 7,il 81 t80,ia 82 t3 7,ke (.st t82 t81 1)]) (.reg [ia 83 t1 5,il 84 t83,ia 85 t3 5,ke (.st t85 t84 1)])))
 (.reg [im 86 t4,im 87 t86,ky 88 87 (.fa t1 7),ky 89 87 (.ld t88 1 false),ky 90 87 (.call 97 [t89,(kc 24)]),kn 91 (.pick t87 t90 kF),im 4 t91])) (sr [im 2 kF]
 (.ret))))))))))))
 (.seq (sr [ia 92 t1 1,il 93 t92,im 94 t93,ky 95 94 (.fa t1 0),ky 96 94 (.ld t95 1 false),ky 97 94 (.bin .eql t96 (kc 0)),ky 98 94 (.mv t97),ko 99 98 (.fa t1 0),ko 100 98 (.ld t99 1 false),ko 101 98 (.bin .eql t100 (kc 1)),ky 102 94 (.pick t98 kT t101),kn 103 (.pick t94 t102 kF)]
 (.cond t103 (.reg [im 104 t4,im 105 t104,ky 106 105 (.fa t1 6),ky 107 105 (.ld t106 1 false),ky 108 105 (.bin .eql t107 (kc 0)),ky 109 105 (.mv t108),ko 110 109 (.fa t1 6),ko 111 109 (.ld t110 1 false),ko 112 109 (.bin .leq (kc 8) t111),ko 113 109 (.mv t112),ky 114 113 (.fa t1 6),ky 115 113 (.ld t114 1 false),ky 116 113 (.bin .leq t115 (kc 10)),ko 117 109 (.pick t113 t116 kF),ky 118 105 (.pick t109 kT t117),kn 119 (.pick t105 t118 kF),im 4 t119]) (.skip)))
 (sr [im 120 t4,im 121 t120,ky 122 121 (.fa t1 4),ky 123 121 (.ld t122 1 false),ky 124 121 (.call 351 [t123,(kc 4)]),kn 125 (.pick t121 t124 kF),im 126 t125,ky 127 126 (.fa t1 5),ky 128 126 (.ld t127 1 false),ky 129 126 (.call 351 [t128,(kc 4)]),kn 130 (.pick t126 t129 kF),im 131 t130,ky 132 131 (.fa t1 6),ky 133 131 (.ld t132 1 false),ky 134 131 (.bin .leq (kc 0) t133),kn 135 (.pick t131 t134 kF),im 136 t135,ky 137 136 (.fa t1 6),ky 138 136 (.ld t137 1 false),ky 139 136 (.bin .leq t138 (kc 11)),kn 140 (.pick t136 t139 kF),im 141 t140,ky 142 141 (.ld t1 8 true),ky 143 141 (.ld t3 8 true),ky 144 141 (.eqg ⟨true,[.i .i64,.b,.b,.i .i64,.i .i64,.i .i64,.i .i64,.i .i64]⟩ false t142 t143),kn 145 (.pick t141 t144 kF),im 2 t145]
 (.ret))))))
def r247:List RC:=[.t 2]
theorem cc247:cKc Tryz.f247 (hh 247) c247:=by unfold cKc; kernel_rfl
theorem rr247:resC Tryz.prog Tryz.f247 = some r247:=by kernel_rfl
structure In where
 f:Int
 u:Bool
 v:Bool
 a:Int
 b:Int
 c:Int
 op:Int
 im:Int
abbrev In.cs (x:In):List AV:=[iv x.f,bv x.u,bv x.v,iv x.a,iv x.b,iv x.c,iv x.op,iv x.im]
abbrev In.av (x:In):AV:=.agg x.cs
def k1B (x:In):Bool:=hf4 x.a && if x.f = 0 then !x.v || (x.u && decide (x.op = 0)) else if x.f = 1 then hf16 x.im else if x.f = 2 then ft20 x.im else ft24 x.im
def k2B (x:In):Bool:=k1B x && (!x.u || decide (2<=x.f) || decide (x.op = 0) || (decide (8<=x.op) && decide (x.op<=10)))
def In.y (x:In):In:=
 if x.f = 0 then ⟨x.f,x.u,x.v,x.a,x.b,x.c,x.op,0⟩ else if x.f = 1 then ⟨x.f,x.u,x.v,x.a,x.b,0,x.op,x.im⟩ else if x.f = 2 then ⟨x.f,x.u,x.v,x.a,x.b,0,0,x.im⟩
 else if x.u then ⟨x.f,x.u,x.v,x.a,0,0,0,x.im⟩ else ⟨x.f,x.u,x.v,x.a,0,x.c,0,0⟩
def gdB (x:In):Bool:=k2B x && hf4 x.b && hf4 x.c && decide (0<=x.op) && decide (x.op<=11) && (decide (x.b = x.y.b) && decide (x.c = x.y.c) && decide (x.op = x.y.op) && decide (x.im = x.y.im))
abbrev inV (f:Int) (u v:Bool) (a b c op im:Int):Value:=.agg #[.int .i64 f,.bool u,.bool v,.int .i64 a,.int .i64 b,.int .i64 c,.int .i64 op,.int .i64 im]
theorem key_in (f:Int) (u v:Bool) (a b c op im:Int):keyOf (.agg [iv f,bv u,bv v,iv a,iv b,iv c,iv op,iv im]) = some (inV f u v a b c op im):=rfl
abbrev J64 (n:Int):Prop:=-9223372036854775808<=n/\n<=9223372036854775807
theorem fits_in {f:Int} {u v:Bool} {a b c op im:Int} (h0:J64 f) (h1:J64 a) (h2:J64 b) (h3:J64 c) (h4:J64 op) (h5:J64 im) :
 keyFits ⟨true,[.i .i64,.b,.b,.i .i64,.i .i64,.i .i64,.i .i64,.i .i64]⟩ (inV f u v a b c op im) = true:=by
 simp [keyFits,fitL,kcFit,IntKind.min,IntKind.max,IntKind.signed,IntKind.bits,h0.1,h0.2,h1.1,h1.2,h2.1,h2.2,h3.1,h3.2,h4.1,h4.2,h5.1,h5.2]
theorem keq_in (f:Int) (u v:Bool) (a b c op im b' c' op' im':Int):keq (inV f u v a b c op im) (inV f u v a b' c' op' im') = (decide (b = b') && decide (c = c') && decide (op = op') && decide (im = im')):=by
 simp [keq,keqL,keq1,Bool.and_assoc,Bool.beq_eq_decide_eq]
theorem good_c (x:In) (hf:x.f = 0\/x.f = 1\/x.f = 2\/x.f = 3) (hI:J64 x.a/\J64 x.b/\J64 x.c/\J64 x.op/\J64 x.im) (H:List ABlk):ACalls Tryz.prog 247 [x.av] H λv H'=>v = bv (gdB x)/\H' = H:=by
 obtain ⟨f,u,v,a,b,c,op,im⟩:=x; simp only at hf hI; refine ACalls.enter Tryz.func247 cc247 rr247 λhcl=>?_
 simp only [Tryz.ntmps247,c247,r247]; refine W.seq_reg ?_; simp (disch:=omega) only [go_sem,seval,reduceCtorEq]; refine W.seq_reg ?_; simp (disch:=omega) only [go_sem,seval,reduceCtorEq]; refine W.seq_reg ?_; simp (disch:=omega) only [go_sem,seval,reduceCtorEq]; refine Cont.mk (half4_c a _) ?_; simp (disch:=omega) only [go_sem,seval,reduceCtorEq]; refine W.cut (λs H'=>s = [.any,.ptr H.length 0,bv false,.ptr (H.length + 1) 0,bv (k1B ⟨f,u,v,a,b,c,op,im⟩)] ++ List.replicate 141 .any/\H' = H ++ [.cells (In.mk f u v a b c op im).cs,.cells (In.mk f u v a b c op im).y.cs]) (wpA.W ?_) ?_
 ·obtain ⟨A,hA⟩:∃ A,A = hf4 a:=⟨_,rfl⟩
  rcases hf with rfl | rfl | rfl | rfl
  ·have hk:k1B ⟨0,u,v,a,b,c,op,im⟩ = (A && (!v || (u && decide (op = 0)))):=by rw [hA]; rfl
   rw [hk,<- hA]; clear hk hA; simp (disch:=omega) only [go_sem,seval,reduceCtorEq]; refine W.dregD [([],[]),([],[]),([],[H.length + 1]),([],[H.length + 1]),([],[H.length + 1,H.length + 1]),([],[H.length + 1,H.length + 1]),([],[]),([H.length + 1],[]),([],[]),([H.length + 1],[]),([],[]),([H.length + 1],[])] follows (by decide +kernel) rfl rfl (λz hz b' hb'=>?_) ?_
   ·simp only [List.mem_cons,List.not_mem_nil,or_false] at hz
    rcases hz with rfl | rfl | rfl | rfl | rfl | rfl | rfl | rfl | rfl | rfl | rfl | rfl <;> simp at hb' <;> subst hb' <;> exact ⟨by simp,by simp⟩
   repeat (rw [DC_p]; simp (disch:=omega) only [kill_c,go_sem,seval,reduceCtorEq])
   refine WStep.ev (by simp) (by simp) ?_; simp (disch:=omega) only [go_sem,seval,reduceCtorEq]; refine ⟨FrOk.put 1 _ (by simp) rfl,?_⟩
   repeat (rw [DC_p]; simp (disch:=omega) only [kill_c,go_sem,seval,reduceCtorEq])
   refine WStep.ev (by simp) (by simp) ?_; simp (disch:=omega) only [go_sem,seval,reduceCtorEq]; refine ⟨FrOk.put 1 _ (by simp) rfl,?_⟩
   repeat (rw [DC_p]; simp (disch:=omega) only [kill_c,go_sem,seval,reduceCtorEq])
   refine WStep.ev (by simp) (by simp) ?_; simp (disch:=omega) only [go_sem,seval,reduceCtorEq]; refine ⟨FrOk.put 1 _ (by simp) rfl,?_⟩
   repeat (rw [DC_p]; simp (disch:=omega) only [kill_c,go_sem,seval,reduceCtorEq])
   cases A
   ·simp (disch:=omega) only [go_sem,seval,reduceCtorEq]
    exact ⟨_,_,Wk.slots (by (try simp only [List.replicate,List.cons_append,List.nil_append]); repeat' constructor),rfl,rfl⟩
   cases v
   ·simp (disch:=omega) only [go_sem,seval,reduceCtorEq]
    exact ⟨_,_,Wk.slots (by (try simp only [List.replicate,List.cons_append,List.nil_append]); repeat' constructor),rfl,rfl⟩
   cases u
   ·simp (disch:=omega) only [go_sem,seval,reduceCtorEq]
    exact ⟨_,_,Wk.slots (by (try simp only [List.replicate,List.cons_append,List.nil_append]); repeat' constructor),rfl,rfl⟩
   by_cases h:op = 0
   ·rw [dect h]
    simp (disch:=omega) only [go_sem,seval,reduceCtorEq]; exact ⟨_,_,Wk.slots (by (try simp only [List.replicate,List.cons_append,List.nil_append]); repeat' constructor),rfl,rfl⟩
   ·rw [decf h]
    simp (disch:=omega) only [go_sem,seval,reduceCtorEq]; exact ⟨_,_,Wk.slots (by (try simp only [List.replicate,List.cons_append,List.nil_append]); repeat' constructor),rfl,rfl⟩
  ·have hk:k1B ⟨1,u,v,a,b,c,op,im⟩ = (A && hf16 im):=by rw [hA]; rfl
   rw [hk,<- hA]; clear hk hA; simp (disch:=omega) only [go_sem,seval,reduceCtorEq]; refine W.dregD [([],[]),([],[]),([],[H.length + 1]),([],[H.length + 1]),([],[H.length + 1,H.length + 1]),([],[H.length + 1,H.length + 1]),([],[]),([H.length + 1],[]),([],[]),([H.length + 1],[]),([],[]),([H.length + 1],[])] follows (by decide +kernel) rfl rfl (λz hz b' hb'=>?_) ?_
   ·simp only [List.mem_cons,List.not_mem_nil,or_false] at hz
    rcases hz with rfl | rfl | rfl | rfl | rfl | rfl | rfl | rfl | rfl | rfl | rfl | rfl <;> simp at hb' <;> subst hb' <;> exact ⟨by simp,by simp⟩
   repeat (rw [DC_p]; simp (disch:=omega) only [kill_c,go_sem,seval,reduceCtorEq])
   refine WStep.ev (by simp) (by simp) ?_; simp (disch:=omega) only [go_sem,seval,reduceCtorEq]; refine ⟨FrOk.put 1 _ (by simp) rfl,?_⟩
   repeat (rw [DC_p]; simp (disch:=omega) only [kill_c,go_sem,seval,reduceCtorEq])
   refine WStep.ev (by simp) (by simp) ?_; simp (disch:=omega) only [go_sem,seval,reduceCtorEq]; refine ⟨FrOk.put 1 _ (by simp) rfl,?_⟩
   repeat (rw [DC_p]; simp (disch:=omega) only [kill_c,go_sem,seval,reduceCtorEq])
   refine WStep.ev (by simp) (by simp) ?_; simp (disch:=omega) only [go_sem,seval,reduceCtorEq]; refine ⟨FrOk.put 1 _ (by simp) rfl,?_⟩
   repeat (rw [DC_p]; simp (disch:=omega) only [kill_c,go_sem,seval,reduceCtorEq])
   cases A
   ·simp (disch:=omega) only [go_sem,seval,reduceCtorEq]
    exact ⟨_,_,Wk.slots (by (try simp only [List.replicate,List.cons_append,List.nil_append]); repeat' constructor),rfl,rfl⟩
   simp (disch:=omega) only [go_sem,seval,reduceCtorEq]; refine Cont.mk (half16_c im _) ?_; simp (disch:=omega) only [go_sem,seval,reduceCtorEq]; exact ⟨_,_,Wk.slots (by (try simp only [List.replicate,List.cons_append,List.nil_append]); repeat' constructor),rfl,rfl⟩
  ·have hk:k1B ⟨2,u,v,a,b,c,op,im⟩ = (A && ft20 im):=by rw [hA]; rfl
   rw [hk,<- hA]; clear hk hA; simp (disch:=omega) only [go_sem,seval,reduceCtorEq]; refine W.dregD [([],[]),([],[]),([],[H.length + 1]),([],[H.length + 1]),([],[]),([H.length + 1],[]),([],[]),([H.length + 1],[])] follows (by decide +kernel) rfl rfl (λz hz b' hb'=>?_) ?_
   ·simp only [List.mem_cons,List.not_mem_nil,or_false] at hz
    rcases hz with rfl | rfl | rfl | rfl | rfl | rfl | rfl | rfl <;> simp at hb' <;> subst hb' <;> exact ⟨by simp,by simp⟩
   repeat (rw [DC_p]; simp (disch:=omega) only [kill_c,go_sem,seval,reduceCtorEq])
   refine WStep.ev (by simp) (by simp) ?_; simp (disch:=omega) only [go_sem,seval,reduceCtorEq]; refine ⟨FrOk.put 1 _ (by simp) rfl,?_⟩
   repeat (rw [DC_p]; simp (disch:=omega) only [kill_c,go_sem,seval,reduceCtorEq])
   refine WStep.ev (by simp) (by simp) ?_; simp (disch:=omega) only [go_sem,seval,reduceCtorEq]; refine ⟨FrOk.put 1 _ (by simp) rfl,?_⟩
   repeat (rw [DC_p]; simp (disch:=omega) only [kill_c,go_sem,seval,reduceCtorEq])
   cases A
   ·simp (disch:=omega) only [go_sem,seval,reduceCtorEq]
    exact ⟨_,_,Wk.slots (by (try simp only [List.replicate,List.cons_append,List.nil_append]); repeat' constructor),rfl,rfl⟩
   simp (disch:=omega) only [go_sem,seval,reduceCtorEq]; refine Cont.mk (fits20_c im _) ?_; simp (disch:=omega) only [go_sem,seval,reduceCtorEq]; exact ⟨_,_,Wk.slots (by (try simp only [List.replicate,List.cons_append,List.nil_append]); repeat' constructor),rfl,rfl⟩
  ·have hk:k1B ⟨3,u,v,a,b,c,op,im⟩ = (A && ft24 im):=by rw [hA]; rfl
   rw [hk,<- hA]; clear hk hA
   cases u <;> cases A <;> (
    simp (disch:=omega) only [go_sem,seval,reduceCtorEq]
    first
    | exact ⟨_,_,Wk.slots (by (try simp only [List.replicate,List.cons_append,List.nil_append]); repeat' constructor),rfl,rfl⟩
    | (refine Cont.mk (fits24_c im _) ?_
       simp (disch:=omega) only [go_sem,seval,reduceCtorEq]; exact ⟨_,_,Wk.slots (by (try simp only [List.replicate,List.cons_append,List.nil_append]); repeat' constructor),rfl,rfl⟩))
 rintro s H' ⟨rfl,rfl⟩; refine W.cut (λs H'=>s = [.any,.ptr H.length 0,bv false,.ptr (H.length + 1) 0,bv (k2B ⟨f,u,v,a,b,c,op,im⟩)] ++ List.replicate 141 .any/\H' = H ++ [.cells (In.mk f u v a b c op im).cs,.cells (In.mk f u v a b c op im).y.cs]) (wpA.W ?_) ?_
 ·have hk:k2B ⟨f,u,v,a,b,c,op,im⟩ = (k1B ⟨f,u,v,a,b,c,op,im⟩ && (!u || decide (2<=f) || decide (op = 0) || (decide (8<=op) && decide (op<=10)))):=rfl
  rw [hk]; clear hk
  generalize k1B ⟨f,u,v,a,b,c,op,im⟩ = A
  generalize (In.mk f u v a b c op im).y.cs = Y
  have hw:∀ B,B = (A && (!u || decide (2<=f) || decide (op = 0) || (decide (8<=op) && decide (op<=10))))->bv (A && (!u || decide (2<=f) || decide (op = 0) || (decide (8<=op) && decide (op<=10)))) = bv B:=λB h=>by rw [h]
  cases A
  ·rw [hw false rfl]
   clear hw
   cases u
   ·simp (disch:=omega) only [go_sem,seval,reduceCtorEq]
    exact ⟨_,_,Wk.slots (by (try simp only [List.replicate,List.cons_append,List.nil_append]); repeat' constructor),rfl,rfl⟩
   ·rcases hf with rfl | rfl | rfl | rfl <;> (
     simp (disch:=omega) only [go_sem,seval,reduceCtorEq]; exact ⟨_,_,Wk.slots (by (try simp only [List.replicate,List.cons_append,List.nil_append]); repeat' constructor),rfl,rfl⟩)
  cases u
  ·rw [hw true rfl]
   clear hw; simp (disch:=omega) only [go_sem,seval,reduceCtorEq]; exact ⟨_,_,Wk.slots (by (try simp only [List.replicate,List.cons_append,List.nil_append]); repeat' constructor),rfl,rfl⟩
  have two:2<=f->∀ B,B = true->bv (true && (!true || decide (2<=f) || decide (op = 0) || (decide (8<=op) && decide (op<=10)))) = bv B:=λh B hB=>by rw [dect h,hB]; rfl
  by_cases h2:2<=f
  ·rw [two h2 true rfl]
   clear hw two; have n0:¬ f = 0:=by omega
   have n1:¬ f = 1:=by omega
   simp (disch:=omega) only [go_sem,seval,reduceCtorEq]; exact ⟨_,_,Wk.slots (by (try simp only [List.replicate,List.cons_append,List.nil_append]); repeat' constructor),rfl,rfl⟩
  have hB:∀ B,B = (decide (op = 0) || (decide (8<=op) && decide (op<=10)))->bv (true && (!true || decide (2<=f) || decide (op = 0) || (decide (8<=op) && decide (op<=10)))) = bv B:=λB h=>by rw [h,decf h2]; rfl
  clear hw two; have f01:f = 0\/f = 1:=by omega
  by_cases h0:op = 0
  ·rw [hB true (by rw [dect h0]; rfl)]
   rcases f01 with rfl | rfl <;> (
    simp (disch:=omega) only [go_sem,seval,reduceCtorEq]; exact ⟨_,_,Wk.slots (by (try simp only [List.replicate,List.cons_append,List.nil_append]); repeat' constructor),rfl,rfl⟩)
  by_cases h8:8<=op
  ·by_cases h10:op<=10
   ·rw [hB true (by rw [decf h0,dect h8,dect h10]; rfl)]
    rcases f01 with rfl | rfl <;> (
     simp (disch:=omega) only [go_sem,seval,reduceCtorEq]; exact ⟨_,_,Wk.slots (by (try simp only [List.replicate,List.cons_append,List.nil_append]); repeat' constructor),rfl,rfl⟩)
   ·rw [hB false (by rw [decf h0,dect h8,decf h10]; rfl)]
    rcases f01 with rfl | rfl <;> (
     simp (disch:=omega) only [go_sem,seval,reduceCtorEq]; exact ⟨_,_,Wk.slots (by (try simp only [List.replicate,List.cons_append,List.nil_append]); repeat' constructor),rfl,rfl⟩)
  ·rw [hB false (by rw [decf h0,decf h8]; rfl)]
   rcases f01 with rfl | rfl <;> (
    simp (disch:=omega) only [go_sem,seval,reduceCtorEq]; exact ⟨_,_,Wk.slots (by (try simp only [List.replicate,List.cons_append,List.nil_append]); repeat' constructor),rfl,rfl⟩)
 rintro s H' ⟨rfl,rfl⟩; refine wpA.W ?_; have hk:gdB ⟨f,u,v,a,b,c,op,im⟩ = (k2B ⟨f,u,v,a,b,c,op,im⟩ && hf4 b && hf4 c && decide (0<=op) && decide (op<=11) && (decide (b = (In.mk f u v a b c op im).y.b) && decide (c = (In.mk f u v a b c op im).y.c) && decide (op = (In.mk f u v a b c op im).y.op) && decide (im = (In.mk f u v a b c op im).y.im))):=rfl; have hy:(In.mk f u v a b c op im).y.f = f/\(In.mk f u v a b c op im).y.u = u/\(In.mk f u v a b c op im).y.v = v/\(In.mk f u v a b c op im).y.a = a:=by
  unfold In.y; simp only; split <;> (try split) <;> (try split) <;> (try split) <;> exact ⟨rfl,rfl,rfl,rfl⟩
 rw [hk]; clear hk; obtain ⟨y1,y2,y3,y4⟩:=hy; simp only [In.cs,y1,y2,y3,y4]; have hyI:(-9223372036854775808<=(In.mk f u v a b c op im).y.b/\(In.mk f u v a b c op im).y.b<=9223372036854775807)/\(-9223372036854775808<=(In.mk f u v a b c op im).y.c/\(In.mk f u v a b c op im).y.c<=9223372036854775807)/\(-9223372036854775808<=(In.mk f u v a b c op im).y.op/\(In.mk f u v a b c op im).y.op<=9223372036854775807)/\(-9223372036854775808<=(In.mk f u v a b c op im).y.im/\(In.mk f u v a b c op im).y.im<=9223372036854775807):=by
  obtain ⟨i1,i2,i3,i4,i5⟩:=hI
  unfold In.y; simp only; split <;> (try split) <;> (try split) <;> (try split) <;> (simp only; omega)
 generalize k2B ⟨f,u,v,a,b,c,op,im⟩ = A
 generalize (In.mk f u v a b c op im).y.b = b' at hyI ⊢
 generalize (In.mk f u v a b c op im).y.c = c' at hyI ⊢
 generalize (In.mk f u v a b c op im).y.op = op' at hyI ⊢
 generalize (In.mk f u v a b c op im).y.im = im' at hyI ⊢
 have fin:∀ B D,B = D->∀ l,Ret r247 H.length (λv H'=>v = bv D/\H' = H) (some (bv B)) (H ++ l):=λB D h l=>by rw [h]; exact Ret.drop _ H (Nat.le_refl _) hcl (.rfl _) (by simp [refs]) ⟨rfl,rfl⟩
 cases A
 ·simp (disch:=omega) only [go_sem,seval,reduceCtorEq]
  exact fin _ _ rfl _
 simp (disch:=omega) only [go_sem,seval,reduceCtorEq]; refine Cont.mk (half4_c b _) ?_
 generalize hf4 b = B
 cases B
 ·simp (disch:=omega) only [go_sem,seval,reduceCtorEq]
  exact fin _ _ rfl _
 simp (disch:=omega) only [go_sem,seval,reduceCtorEq]; refine Cont.mk (half4_c c _) ?_
 generalize hf4 c = C
 cases C
 ·simp (disch:=omega) only [go_sem,seval,reduceCtorEq]
  exact fin _ _ rfl _
 simp (disch:=omega) only [go_sem,seval,reduceCtorEq]
 by_cases p1:0<=op
 rotate_left
 ·simp (disch:=omega) only [go_sem,seval,reduceCtorEq]
  exact fin _ _ rfl _
 by_cases p2:op<=11
 rotate_left
 ·simp (disch:=omega) only [go_sem,seval,reduceCtorEq]
  exact fin _ _ rfl _
 have hb':-9223372036854775808<=b'/\b'<=9223372036854775807:=hyI.1; have hc':-9223372036854775808<=c'/\c'<=9223372036854775807:=hyI.2.1; have ho':-9223372036854775808<=op'/\op'<=9223372036854775807:=hyI.2.2.1; have hm':-9223372036854775808<=im'/\im'<=9223372036854775807:=hyI.2.2.2; have k1:=fits_in (f:=f) (u:=u) (v:=v) (by omega) hI.1 hI.2.1 hI.2.2.1 hI.2.2.2.1 hI.2.2.2.2; have k2:=fits_in (f:=f) (u:=u) (v:=v) (by omega) hI.1 hb' hc' ho' hm'; rw [dect p1,dect p2]; simp (disch:=omega) only [key_in,k1,k2,keq_in,go_sem,seval,reduceCtorEq]; exact fin _ _ rfl _
end Go.Proofs.YtofpekbidngnfaaGreatDoor
