/- The machine; cpu.Machine.sets. -/
import Derived.Test.YtofpekbidngnfaaGreatDoorYR4
import Derived.Test.YtofpekbidngnfaaGreatDoorYW0
import Derived.Test.YtofpekbidngnfaaGreatDoorYA5
set_option linter.unusedSectionVars false
set_option linter.unusedSimpArgs false
set_option linter.unusedVariables false
set_option maxHeartbeats 1000000
set_option maxRecDepth 20000
namespace Go.Proofs.YtofpekbidngnfaaGreatDoor
open Go.RowKit
def c180:AC:=
 sr [im 6 t0,im 7 t1,im 8 t2,iv0 9 t6,ia 10 t9 0,kn 11 (.iar t10 t7 16 1),ke (.st t11 t8 1)]
 (.reg [im 12 t0,im 13 t0,im 14 t2,kn 15 (.bin .shr t14 (.c (.d (.v (.int .u64 31))))),kn 16 (.bin .eql t15 (.c (.d (.v (.int .u32 1))))),im 17 t2,kn 18 (.bin .eql t17 (.c (.d (.v (.int .u32 0))))),iv0 19 t12,ia 20 t19 17,ia 21 t20 0,ke (.st t21 t16 1),iv0 22 t13,ia 23 t22 17,ia 24 t23 1,ke (.st t24 t18 1)])
def r180:List RC:=[]
theorem cc180:cKc Tryz.f180 (hh 180) c180:=by unfold cKc; kernel_rfl
theorem rr180:resC Tryz.prog Tryz.f180 = some r180:=by kernel_rfl
structure St where
 regs:List Int
 h:Int
 fl:Fl
 pc:Int
 ws:List Int
 inp:ByteArray
 rd:Int
 en:Int
 tr:Int
 out:List Int
abbrev ob8 (n:Int):List Dat:=[.v (.int .u8 n)]
def bC (s:St) (pb:Nat) (o:AV):List AV:=[wv s.h,bv s.fl.n,bv s.fl.z,bv s.fl.c,bv s.fl.v,iv s.pc,.ptr pb 0,sv s.inp,iv s.rd,o,iv s.en,iv s.tr]
def OutAt (H0 H:List ABlk) (L:List Int) (o:AV):Prop:=
 (o = .esl/\L = [])\/∃ ob,o = .gsl ob 1 (L.map ob8)/\H[ob]? = some (.row 5 1 L.length)/\H0.length<=ob/\L.length<=4096
structure MAt (H0 H:List ABlk) (mb pb wb:Nat) (o:AV) (s:St):Prop where
 pre:H0 <+: H
 m:H[mb]? = some (.cells (s.regs.map wv ++ bC s pb o))
 mem:MemAt H pb wb s.ws
 out:OutAt H0 H s.out o
 lo:H0.length<=mb/\H0.length<=pb/\H0.length<=wb
 ne:mb ≠ wb/\mb ≠ pb
 r16:s.regs.length = 16
 ru:∀ x ∈ s.regs,U32 x
 hu:U32 s.h
 pc:0<=s.pc/\s.pc < 1073741824
 rd:0<=s.rd/\s.rd<=s.inp.size/\s.inp.size<=4096
abbrev Put (H0 H:List ABlk) (mb pb wb:Nat) (o:AV) (s':St) (v:AV) (H':List ABlk):Prop:=v = .tup []/\H' = H.set mb (.cells (s'.regs.map wv ++ bC s' pb o))/\MAt H0 H' mb pb wb o s'
theorem MAt.put {H0 H:List ABlk} {mb pb wb:Nat} {o:AV} {s:St} (h:MAt H0 H mb pb wb o s) (s':St) (hw:s'.ws = s.ws/\s'.out = s.out) (h16:s'.regs.length = 16) (hru:∀ x ∈ s'.regs,U32 x) (hhu:U32 s'.h) (hpc:0<=s'.pc/\s'.pc < 1073741824)
 (hrd:0<=s'.rd/\s'.rd<=s'.inp.size/\s'.inp.size<=4096):MAt H0 (H.set mb (.cells (s'.regs.map wv ++ bC s' pb o))) mb pb wb o s':=by
 have hlt:mb < H.length:=(List.getElem?_eq_some_iff.1 h.m).1; refine ⟨pre_set h.pre h.lo.1 _,List.getElem?_set_self hlt,?_,?_,h.lo,h.ne,h16,hru,hhu,hpc,hrd⟩
 ·rw [hw.1]
  exact ⟨by rw [List.getElem?_set_ne h.ne.2]; exact h.mem.p,by rw [List.getElem?_set_ne h.ne.1]; exact h.mem.w,h.mem.len,h.mem.rng⟩
 ·rw [hw.2]
  rcases h.out with h1 | ⟨ob,h1,h2,h3⟩
  ·exact .inl h1
  ·refine .inr ⟨ob,h1,?_,h3⟩
   have hne:mb ≠ ob:=λe=>by
    have:=h.m; rw [e,h2] at this
    cases this
   rw [List.getElem?_set_ne hne]; exact h2
section
variable {A B:List AV} (hA:A.length = 16)
include hA
theorem drp (k:Nat):(A ++ B).drop (16 + k) = B.drop k:=by rw [List.drop_append,hA,List.drop_eq_nil_of_le (by omega),List.nil_append,Nat.add_sub_cancel_left]
theorem tkp (k:Nat):(A ++ B).take (16 + k) = A ++ B.take k:=by rw [List.take_append,hA,List.take_of_length_le (by omega),Nat.add_sub_cancel_left]
theorem stB (k:Nat) (x:AV):(A ++ B).take (16 + k) ++ x :: (A ++ B).drop (16 + k + 1) = A ++ (B.take k ++ x :: B.drop (k + 1)):=by
 rw [tkp hA,show 16 + k + 1 = 16 + (k + 1) by omega,drp hA,List.append_assoc]
end
theorem reg_at {R:List Int} {B:List AV} (h16:R.length = 16) {a:Nat} (ha:a < 16):((R.map wv ++ B).drop a).take 1 = [wv (R.getD a 0)]:=by
 rw [List.drop_append_of_le_length (by rw [lnn]; omega),List.take_append_of_le_length (by rw [List.length_drop,lnn]; omega)]; exact wv_get1 (by omega)
theorem reg_set {R:List Int} {B:List AV} (h16:R.length = 16) {a:Nat} (ha:a < 16) (v:Int):(R.map wv ++ B).take a ++ AV.d (.v (.int .u32 v)) :: (R.map wv ++ B).drop (a + 1) = (R.set a v).map wv ++ B:=by
 rw [List.take_append_of_le_length (by rw [lnn]; omega),List.drop_append_of_le_length (by rw [lnn]; omega),<- List.cons_append,<- List.append_assoc,wv_set (by omega)]
theorem reg_rng {R:List Int} (h:∀ x ∈ R,U32 x) (a:Nat):U32 (R.getD a 0):=getD_rng h a
theorem set_rng {R:List Int} (h:∀ x ∈ R,U32 x) (a:Nat) {v:Int} (hv:U32 v):∀ x ∈ R.set a v,U32 x:=λx hx=>by
 rcases List.mem_or_eq_of_mem_set hx with hx | rfl
 ·exact h x hx
 ·exact hv
def St.sets (s:St) (a:Nat) (r:Int):St:={ s with regs:=s.regs.set a r,fl:=⟨decide (r / 2147483648 = 1),decide (r = 0),s.fl.c,s.fl.v⟩ }
theorem sets_c {H0 H:List ABlk} {mb pb wb:Nat} {o:AV} {s:St} (hm:MAt H0 H mb pb wb o s) {a r:Int} (ha:0<=a/\a < 16) (hr:U32 r):ACalls Tryz.prog 180 [.ptr mb 0,iv a,wv r] H λv H'=>v = .tup []/\H' = H.set mb (.cells ((s.sets a.toNat r).regs.map wv ++ bC (s.sets a.toNat r) pb o)):=by
 obtain ⟨r0,r1⟩:=hr; refine ACalls.into Tryz.func180 cc180 rr180 λhcl=>?_
 have hlt:mb < H.length:=(List.getElem?_eq_some_iff.1 hm.m).1; have h16:=hm.r16; have hml:=hm.m; have ha2:a.toNat < 16:=by omega
 have hrs:=reg_set (B:=bC s pb o) h16 ha2 r; have hss:∀ x y:ABlk,(H.set mb x).set mb y = H.set mb y:=λx y=>List.set_set ..
 have hg:∀ x:ABlk,(H.set mb x)[mb]? = some x:=λx=>List.getElem?_set_self hlt
 simp only [St.sets]; obtain ⟨A,hA⟩:∃ A,A = (s.regs.set a.toNat r).map wv:=⟨_,rfl⟩; have hl:A.length = 16:=by rw [hA,lnn,List.length_set]; exact h16
 rw [<- hA] at hrs ⊢; obtain ⟨A0,hA0⟩:∃ A0,A0 = s.regs.map wv:=⟨_,rfl⟩; have hl0:A0.length = 16:=by rw [hA0,lnn]; exact h16
 rw [<- hA0] at hrs hml; clear hA hA0; have s17:∀ x B,List.take 17 (A ++ B) ++ x :: List.drop 18 (A ++ B) = A ++ (B.take 1 ++ x :: B.drop 2):=λx B=>stB hl 1 x
 have s18:∀ x B,List.take 18 (A ++ B) ++ x :: List.drop 19 (A ++ B) = A ++ (B.take 2 ++ x :: B.drop 3):=λx B=>stB hl 2 x
 simp only [bC] at hrs hml ⊢; simp (disch:=omega) only [Tryz.ntmps180,c180,r180,hml,hrs,hg,hss,s17,s18,hl,hl0,go_sem,seval,reduceCtorEq]; exact Ret.keep ⟨rfl,rfl⟩
theorem refsL_wv:∀ m:List Int,refs.refsL (m.map wv) = []
 | []=>rfl
 | n :: m=>by simp only [List.map_cons,refs.refsL,refsL_wv m]; rfl
theorem refsL_app2:∀ a b:List AV,refs.refsL (a ++ b) = refs.refsL a ++ refs.refsL b
 | [],b=>rfl
 | x :: a,b=>by simp only [List.cons_append,refs.refsL,refsL_app2 a b,List.append_assoc]
theorem mrefs (s:St) (pb:Nat) (o:AV):(ABlk.cells (s.regs.map wv ++ bC s pb o)).refs = pb :: refs o:=by
 simp only [ABlk.refs,refsL_app2,refsL_wv,List.nil_append]; simp [bC,refs,refs.refsL]
theorem MAt.cl {H0 H:List ABlk} {mb pb wb:Nat} {o:AV} {s:St} (h:MAt H0 H mb pb wb o s) (hc:cl H) (s':St):cl (H.set mb (.cells (s'.regs.map wv ++ bC s' pb o))):=λc k hk r hr=>by
 rw [List.length_set]
 by_cases e:mb = c
 ·subst e
  have hlt:mb < H.length:=(List.getElem?_eq_some_iff.1 h.m).1; rw [List.getElem?_set_self hlt] at hk
  cases hk
  rw [mrefs] at hr; exact hc mb _ h.m r (by rw [mrefs]; exact hr)
 ·rw [List.getElem?_set_ne e] at hk
  exact hc c k hk r hr
theorem MAt.ext {H0 H:List ABlk} {mb pb wb:Nat} {o:AV} {s:St} (h:MAt H0 H mb pb wb o s) (l:List ABlk):MAt H0 (H ++ l) mb pb wb o s:=by
 have ap:∀ {b:Nat} {k:ABlk},H[b]? = some k->(H ++ l)[b]? = some k:=λhb=>by rw [List.getElem?_append_left (List.getElem?_eq_some_iff.1 hb).1,hb]
 refine ⟨h.pre.trans ⟨l,rfl⟩,ap h.m,⟨ap h.mem.p,ap h.mem.w,h.mem.len,h.mem.rng⟩,?_,h.lo,h.ne,h.r16,h.ru,h.hu,h.pc,h.rd⟩; rcases h.out with h1 | ⟨ob,h1,h2,h3⟩
 ·exact .inl h1
 ·exact .inr ⟨ob,h1,ap h2,h3⟩
theorem MAt.set_ap {H0 H:List ABlk} {mb pb wb:Nat} {o:AV} {s:St} (h:MAt H0 H mb pb wb o s) (x:ABlk) (l:List ABlk):(H ++ l).set mb x = H.set mb x ++ l:=List.set_append_left _ _ (List.getElem?_eq_some_iff.1 h.m).1
theorem MAt.sets {H0 H:List ABlk} {mb pb wb:Nat} {o:AV} {s:St} (h:MAt H0 H mb pb wb o s) (a:Nat) {r:Int} (hr:U32 r):MAt H0 (H.set mb (.cells ((s.sets a r).regs.map wv ++ bC (s.sets a r) pb o))) mb pb wb o (s.sets a r):=
 h.put (s.sets a r) ⟨rfl,rfl⟩ (by simp only [St.sets,List.length_set]; exact h.r16) (set_rng h.ru a hr) h.hu h.pc h.rd
def c111:AC:=
 sr [kn 3 (.bx t1)]
 (.seq (.dreg [[],[],[1],[0],[3],[4,2],[5],[6,0,1,2,3,4,5,6]] [im 9 t0,ia 10 t3 5,il 11 t10,iv0 12 t9,ia 13 t12 0,kn 14 (.iar t13 t11 16 1),il 15 t14,im 4 t15])
 (.seq (sr [ia 16 t3 0,il 17 t16,ib 18 .eql t17 (kc 1)]
 (.cond t18 (sr [ia 19 t3 7,il 20 t19,kn 21 (.cvi .u16 t20),kn 22 (.cvi .u32 t21),im 4 t22]
 (sr [ia 23 t3 2,il 24 t23]
 (.cond t24 (.reg [im 25 t4,kn 26 (.bin .or t25 (.c (.d (.v (.int .u32 4294901760))))),im 4 t26]) (.skip)))) (.skip)))
 (.seq (sr [ia 27 t3 6,il 28 t27,ib 29 .eql t28 (kc 0),im 30 t29,ky 31 30 (.fa t3 1),ky 32 30 (.ld t31 1 false),kn 33 (.pick t30 t32 kF)]
 (.cond t33 (.block 0 (sr [ia 35 t3 0,il 36 t35,ib 37 .eql t36 (kc 1),im 34 t37]
 (.cond t34 (sr [im 38 t0,ia 39 t3 3,il 40 t39,ia 41 t3 7,il 42 t41,kn 43 (.cvi .u32 t42),kn 44 (.bin .shl t43 (.c (.d (.v (.int .u64 16))))),ic 45 180 [t38,t40,t44]]
 (.ret)) (sr [ia 47 t3 2,il 48 t47,im 46 t48]
 (.cond t46 (.seq (.dreg [[],[],[1],[],[3],[4],[5],[6],[0,2,7,7]] [im 49 t0,ia 50 t3 3,il 51 t50,im 52 t0,iv0 53 t52,ia 54 t53 17,kn 55 (.ld t54 4 true),ic 56 182 [t55],ic 57 180 [t49,t51,t56]])
 (.ret)) (.skip)))))) (.skip)))
 (.seq (.dreg [[],[0],[],[2],[],[],[5],[4],[7],[8,6],[9],[],[],[12],[13],[14],[],[16],[17],[18],[1,3,10,11,15,19],[20],[21],[21],[21],[21],[],[22,20,0,1,2,3,4,5,6,7,8,9,10,11,12,13,14,15,16,17,18,19,20,21,22,26],[23,27,0,1,2,3,4,5,6,7,8,9,10,11,12,13,14,15,16,17,18,19,20,21,22,23,26,27],[26,24,28,0,1,2,3,4,5,6,7,8,9,10,11,12,13,14,15,16,17,18,19,20,21,22,23,24,26,27,28],[25,29,0,1,2,3,4,5,6,7,8,9,10,11,12,13,14,15,16,17,18,19,20,21,22,23,24,25,26,27,28,29]] [ia 59 t3 6,il 60 t59,ia 61 t3 1,il 62 t61,im 63 t0,ia 64 t3 4,il 65 t64,iv0 66 t63,ia 67 t66 0,kn 68 (.iar t67 t65 16 1),il 69 t68,im 70 t4,im 71 t0,iv0 72 t71,ia 73 t72 16,il 74 t73,im 75 t0,iv0 76 t75,ia 77 t76 17,kn 78 (.ld t77 4 true),ic 79 183 [t60,t62,t69,t70,t74,t78],im 58 t79,kn 80 (.ext t58 0),kn 81 (.ext t58 1),kn 82 (.ext t58 2),kn 83 (.ext t58 3),kn 7 (.al [(.d (.v (.bool false))),(.d (.v (.bool false))),(.d (.v (.bool false))),(.d (.v (.bool false)))]),im 5 t80,im 6 t81,ke (.st t7 t82 4),im 8 t83])
 (.dreg [[],[],[1],[],[],[],[],[],[0],[8],[9,2,0,1,2,5],[10,5,0,1,2,5],[3,0,1,2,3,5,6,8,9,10,11],[12,0,1,2,3,5,6,8,9,10,11],[13,6,11,0,1,2,3,5,6,8,9,10,11],[4,0,1,2,3,4,5,6,7,8,9,10,11,12,13,14],[15,0,1,2,3,4,5,6,7,8,9,10,11,12,13,14],[16,7,14,0,1,2,3,4,5,6,7,8,9,10,11,12,13,14]] [im 84 t0,ia 85 t3 3,il 86 t85,im 87 t0,im 88 t0,im 89 t5,im 90 t6,kn 91 (.ld t7 4 true),iv0 92 t84,ia 93 t92 0,kn 94 (.iar t93 t86 16 1),ke (.st t94 t89 1),iv0 95 t87,ia 96 t95 16,ke (.st t96 t90 1),iv0 97 t88,ia 98 t97 17,ke (.st t98 t91 4)])))))
def r111:List RC:=[]
theorem cc111:cKc Tryz.f111 (hh 111) c111:=by unfold cKc; kernel_rfl
theorem rr111:resC Tryz.prog Tryz.f111 = some r111:=by kernel_rfl
theorem FrOk.at_ {w:List Nat} {H G:List ABlk} (b:Nat) (x:ABlk) (hb:b ∈ w) (hG:G = H.set b x):FrOk w [] H G G:=hG ▸ .set hb
theorem FrOk.at2 {w:List Nat} {H l:List ABlk} {b:Nat} (G:List ABlk) (hb:b ∈ w) (hlt:b < H.length) (x:ABlk) (hap:∀ x l,(H ++ l).set b x = H.set b x ++ l):FrOk w [] (H ++ l) (H.set b x ++ l) (H.set b x ++ l):=by
 rw [<- hap]; exact .set hb
theorem WStep.al {P:Program} {w u:List Nat} {d:Option Nat} {l:List AV} {s:List AV} {H:List ABlk} {Kk:List AV->List ABlk->Prop} (hw:H.length ∈ w) (hu:∀ b ∈ u,b < H.length\/H.length + 1<=b) (h:Kk (setO s d (.ptr H.length 0)) (H ++ [.cells l])) :
 WStep P w u ⟨d,.al l,none⟩ s H Kk:=by
 refine WStep.evU (H ++ [.cells l]) (by simp) (by simp) ?_; simp only [evK,EvK,kill_length]; refine ⟨?_,h⟩; rw [show kill u H ++ [ABlk.cells l] = kill u (H ++ [.cells l]) from (kill_app hu).symm]; exact ⟨rfl,λc hc=>by
  rcases Nat.lt_or_ge c H.length with h1 | h1
  ·rw [List.getElem?_append_left h1]
  ·have:c ≠ H.length:=λe=>hc (e ▸ hw)
   rw [List.getElem?_eq_none (by simp; omega),List.getElem?_eq_none h1],by simp⟩
noncomputable def pkF (f:Fl):Int:=(packed_f f.n f.z f.c f.v).choose
theorem pk_s (f:Fl):U32 (pkF f)/\∀ H,ACalls Tryz.prog 182 [.agg [bv f.n,bv f.z,bv f.c,bv f.v]] H λw H'=>w = wv (pkF f)/\H' = H:=(packed_f f.n f.z f.c f.v).choose_spec
noncomputable def doF (op:Int) (u:Bool) (b n h:Int) (f:Fl):Int × Int × Fl × Bool:=
 open Classical in if e : ∃ p : Int × Int × Fl × Bool, DoP op u b n h f p.1 p.2.1 p.2.2.1 p.2.2.2 then e.choose else (0, 0, f, true)
theorem do_s (op:Int) (u:Bool) (b n h:Int) (f:Fl) (hb:U32 b) (hn:U32 n) (hh:U32 h):DoP op u b n h f (doF op u b n h f).1 (doF op u b n h f).2.1 (doF op u b n h f).2.2.1 (doF op u b n h f).2.2.2:=by
 obtain ⟨r,h2,f2,ok,hd⟩:=do_ex op u b n h f hb hn hh; have e:∃ p:Int × Int × Fl × Bool,DoP op u b n h f p.1 p.2.1 p.2.2.1 p.2.2.2:=⟨(r,h2,f2,ok),hd⟩; rw [doF,dif_pos e]; exact e.choose_spec
def imvF (im:Int):Int:=((BitVec.ofInt 32 (im % 65536) ||| 4294901760#32).toNat:Nat)
def imhF (im:Int):Int:=im % 4294967296 * 65536 % 4294967296
def opnF (s:St) (x:In):Int:=if x.f = 1 then (if x.v = true then imvF x.im else x.im % 65536) else s.regs.getD x.c.toNat 0
noncomputable def aluF (s:St) (x:In):St:=
 { s with regs:=s.regs.set x.a.toNat (doF x.op x.u (s.regs.getD x.b.toNat 0) (opnF s x) s.h s.fl).1,h:=(doF x.op x.u (s.regs.getD x.b.toNat 0) (opnF s x) s.h s.fl).2.1,fl:=(doF x.op x.u (s.regs.getD x.b.toNat 0) (opnF s x) s.h s.fl).2.2.1 }
noncomputable def recF (s:St) (x:In):St:=
 if x.op = 0/\x.u = true/\x.f = 1 then s.sets x.a.toNat (imhF x.im) else if x.op = 0/\x.u = true/\x.v = true then s.sets x.a.toNat (pkF s.fl) else aluF s x
section
variable {s:St} {f:Int} {u v:Bool} {a b c op im:Int}
theorem opnF_0 (h:f = 1):opnF s ⟨f,u,false,a,b,c,op,im⟩ = im % 65536:=by simp [opnF,h]
theorem opnF_1 (h:f = 1):opnF s ⟨f,u,true,a,b,c,op,im⟩ = imvF im:=by simp [opnF,h]
theorem opnF_2 (h:f ≠ 1):opnF s ⟨f,u,v,a,b,c,op,im⟩ = s.regs.getD c.toNat 0:=by simp [opnF,h]
theorem opnF_u (hu:U32 (s.regs.getD c.toNat 0)):U32 (opnF s ⟨f,u,v,a,b,c,op,im⟩):=by
 by_cases h:f = 1
 ·cases v
  ·rw [opnF_0 h]; exact ⟨by omega,by omega⟩
  ·rw [opnF_1 h]; exact u32_bv _
 ·rw [opnF_2 h]; exact hu
theorem recF_0 (h:op ≠ 0):recF s ⟨f,u,v,a,b,c,op,im⟩ = aluF s ⟨f,u,v,a,b,c,op,im⟩:=by simp [recF,h]
theorem recF_1:recF s ⟨f,false,v,a,b,c,op,im⟩ = aluF s ⟨f,false,v,a,b,c,op,im⟩:=by simp [recF]
theorem recF_2 (h:op = 0) (hf:f = 1):recF s ⟨f,true,v,a,b,c,op,im⟩ = s.sets a.toNat (imhF im):=by simp [recF,h,hf]
theorem recF_3 (hf:f ≠ 1):recF s ⟨f,true,false,a,b,c,op,im⟩ = aluF s ⟨f,true,false,a,b,c,op,im⟩:=by simp [recF,hf]
theorem recF_4 (h:op = 0) (hf:f ≠ 1):recF s ⟨f,true,true,a,b,c,op,im⟩ = s.sets a.toNat (pkF s.fl):=by simp [recF,h,hf]
end
theorem reckons_c {H0 H:List ABlk} {mb pb wb:Nat} {o:AV} {s:St} (hm:MAt H0 H mb pb wb o s) {x:In} (hx:InOk x) :
 ACalls Tryz.prog 111 [.ptr mb 0,x.av] H (Put H0 H mb pb wb o (recF s x)):=by
 refine ACalls.enter Tryz.func111 cc111 rr111 λhcl=>?_
 have hlt:mb < H.length:=(List.getElem?_eq_some_iff.1 hm.m).1; have h16:=hm.r16; have hml:=hm.m; have hcA:=reg_at (B:=bC s pb o) h16 (a:=x.c.toNat) (by have:=hx.c; omega); have hcB:=reg_at (B:=bC s pb o) h16 (a:=x.b.toNat) (by have:=hx.b; omega); have uC:=reg_rng hm.ru x.c.toNat; have uB:=reg_rng hm.ru x.b.toNat; have hset:=λ(l:List ABlk) (hl:(H ++ l)[mb]? = some (.cells (s.regs.map wv ++ bC s pb o)))=>hl
 have hk:∀ l,(H ++ l)[mb]? = some (.cells (s.regs.map wv ++ bC s pb o)):=λl=>by rw [List.getElem?_append_left hlt]; exact hml
 have hlenR:(s.regs.map wv ++ bC s pb o).length = 28:=by rw [List.length_append,lnn,h16]; rfl
 obtain ⟨f,u,v,a,b,c,op,im⟩:=x; have hf:=hx.f; have ha:=hx.a; have hb:=hx.b; have hc:=hx.c; have him:=hx.im; simp only at hf ha hb hc him hcA hcB uC uB; simp only [Tryz.ntmps111,c111,r111]; refine W.seq_reg ?_; simp (disch:=omega) only [go_sem,seval,reduceCtorEq]; refine W.seq ?_; refine W.pchain follows (by decide +kernel) ?_; simp (disch:=omega) only [hk,hcA,hlenR,List.length_append,lnn,h16,go_sem,seval,reduceCtorEq]; refine W.cut (λs' H'=>s' = [.ptr mb 0,.any,.any,.ptr H.length 0,wv (opnF s (In.mk f u v a b c op im))] ++ List.replicate 94 .any/\H' = H ++ [.cells (In.mk f u v a b c op im).cs]) (wpA.W ?_) ?_
 ·by_cases f1:f = 1
  ·have e16:IntKind.u16.wrap im = im % 65536:=by simp [IntKind.wrap,IntKind.bits,IntKind.signed]
   have m0:0<=im % 65536/\im % 65536 < 65536:=by omega
   cases v
   ·rw [opnF_0 f1]
    simp (disch:=omega) only [e16,go_sem,seval,reduceCtorEq]; exact ⟨_,_,Wk.slots (by (try simp only [List.replicate,List.cons_append,List.nil_append]); repeat' constructor),rfl,rfl⟩
   ·rw [opnF_1 f1]
    simp (disch:=omega) only [e16,go_sem,seval,reduceCtorEq]; exact ⟨_,_,Wk.slots (by (try simp only [List.replicate,List.cons_append,List.nil_append]); repeat' constructor),rfl,rfl⟩
  ·rw [opnF_2 f1]
   simp (disch:=omega) only [go_sem,seval,reduceCtorEq]; exact ⟨_,_,Wk.slots (by (try simp only [List.replicate,List.cons_append,List.nil_append]); repeat' constructor),rfl,rfl⟩
 have hn:=opnF_u (f:=f) (u:=u) (v:=v) (a:=a) (b:=b) (op:=op) (im:=im) uC; obtain ⟨n,hne⟩:∃ n,n = opnF s (In.mk f u v a b c op im):=⟨_,rfl⟩; rw [<- hne] at hn ⊢; rintro s' H' ⟨rfl,rfl⟩; clear hcA uC; refine W.cut (λs' H'=>recF s (In.mk f u v a b c op im) = aluF s (In.mk f u v a b c op im)/\s' = [.ptr mb 0,.any,.any,.ptr H.length 0,wv n] ++ List.replicate 94 .any/\H' = H ++ [.cells (In.mk f u v a b c op im).cs]) (wpA.W ?_) ?_
 ·have out : ∀ (r : Int), U32 r -> recF s (In.mk f u v a b c op im) = s.sets a.toNat r -> ∀ l, Ret [] H.length (Put H0 H mb pb wb o (recF s (In.mk f u v a b c op im))) (some (.tup [])) (H.set mb (.cells ((s.sets a.toNat r).regs.map wv ++ bC (s.sets a.toNat r) pb o)) ++ l) := fun r hr hq l => by
   rw [hq]; exact Ret.drop _ (H.set mb _) (by simp) (hm.cl hcl _) (.rfl _) (by simp [refs,refs.refsL]) ⟨rfl,rfl,hm.sets a.toNat hr⟩
  by_cases h0:op = 0
  rotate_left
  ·simp (disch:=omega) only [go_sem,seval,reduceCtorEq]
   exact ⟨_,_,Wk.slots (by (try simp only [List.replicate,List.cons_append,List.nil_append]); repeat' constructor),recF_0 h0,rfl,rfl⟩
  cases u
  ·simp (disch:=omega) only [go_sem,seval,reduceCtorEq]
   exact ⟨_,_,Wk.slots (by (try simp only [List.replicate,List.cons_append,List.nil_append]); repeat' constructor),recF_1,rfl,rfl⟩
  by_cases f1:f = 1
  ·simp (disch:=omega) only [go_sem,seval,reduceCtorEq]
   refine Cont.mk (sets_c (hm.ext _) ha (r:=imhF im) (u32_mod _)) ?_; rw [hm.set_ap]; simp (disch:=omega) only [go_sem,seval,reduceCtorEq]; exact out _ (u32_mod _) (recF_2 h0 f1) _
  cases v
  ·simp (disch:=omega) only [go_sem,seval,reduceCtorEq]
   exact ⟨_,_,Wk.slots (by (try simp only [List.replicate,List.cons_append,List.nil_append]); repeat' constructor),recF_3 f1,rfl,rfl⟩
  ·simp (disch:=omega) only [go_sem,seval,reduceCtorEq]
   obtain ⟨up,hp⟩:=pk_s s.fl; have hnd:∀ l,(H ++ l)[mb]? ≠ some .dead:=λl=>by rw [hk]; exact λe=>by cases e
   refine W.dregD [([],[]),([],[]),([],[]),([],[]),([],[]),([],[]),([],[]),([],[]),([mb],[])] follows (by decide +kernel) rfl rfl (λz hz b' hb'=>?_) ?_
   ·simp only [List.mem_cons,List.not_mem_nil,or_false] at hz
    rcases hz with rfl | rfl | rfl | rfl | rfl | rfl | rfl | rfl | rfl <;> simp at hb' <;> subst hb' <;> exact ⟨by simp,hnd _⟩
   have h17:List.take 4 (List.drop 17 (s.regs.map wv ++ bC s pb o)) = [bv s.fl.n,bv s.fl.z,bv s.fl.c,bv s.fl.v]:=by
    rw [show 17 = 16 + 1 from rfl,drp (by rw [lnn]; exact h16)]; rfl
   have hb12:(bC s pb o).length = 12:=rfl
   repeat (rw [DC_p]; simp (disch:=omega) only [hk,hlenR,h17,List.length_append,lnn,h16,hb12,go_sem,seval,reduceCtorEq])
   refine PCont.mk (hp _) ?_; simp (disch:=omega) only [go_sem,seval,reduceCtorEq]; refine WStep.call (sets_c (hm.ext _) ha up) (λc hc=>List.getElem?_set_ne (λe=>hc (by simp [e]))) (by simp) ?_; rw [hm.set_ap]
   try simp (disch:=omega) only [go_sem,seval,reduceCtorEq]
   exact out _ up (recF_4 h0 f1) _
 rintro s' H' ⟨hrec,rfl,rfl⟩; rw [hrec]; have hds:=do_s op u (s.regs.getD b.toNat 0) n s.h s.fl uB hn hm.hu; have hal:aluF s (In.mk f u v a b c op im) = { s with regs:=s.regs.set a.toNat (doF op u (s.regs.getD b.toNat 0) n s.h s.fl).1,h:=(doF op u (s.regs.getD b.toNat 0) n s.h s.fl).2.1,fl:=(doF op u (s.regs.getD b.toNat 0) n s.h s.fl).2.2.1 }:=by rw [hne]; rfl
 rw [hal]; clear hal hrec hne
 generalize doF op u (s.regs.getD b.toNat 0) n s.h s.fl = D at *
 obtain ⟨r,h2,f2,ok⟩:=D; obtain ⟨u1,u2,hdo⟩:=hds; have h16':List.take 1 (List.drop 16 (s.regs.map wv ++ bC s pb o)) = [wv s.h]:=by
  rw [show 16 = 16 + 0 from rfl,drp (by rw [lnn]; exact h16)]; rfl
 have h17:List.take 4 (List.drop 17 (s.regs.map wv ++ bC s pb o)) = [bv s.fl.n,bv s.fl.z,bv s.fl.c,bv s.fl.v]:=by
  rw [show 17 = 16 + 1 from rfl,drp (by rw [lnn]; exact h16)]; rfl
 have hb12:(bC s pb o).length = 12:=rfl; have hno:∀ l:List ABlk,l.length = 1->mb ≠ H.length + 1:=λ_ _=>by omega
 refine W.seq ?_; refine W.dregD [([],[H.length + 1]),([],[H.length + 1]),([],[H.length + 1]),([],[H.length + 1]),([],[H.length + 1]),([],[H.length + 1]),([],[H.length + 1]),([],[H.length + 1]),([],[H.length + 1]),([],[H.length + 1]),([],[H.length + 1]),([],[H.length + 1]),([],[H.length + 1]),([],[H.length + 1]),([],[H.length + 1]),([],[H.length + 1]),([],[H.length + 1]),([],[H.length + 1]),([],[H.length + 1]),([],[H.length + 1]),([],[H.length + 1]),([],[H.length + 1]),([],[H.length + 1]),([],[H.length + 1]),([],[H.length + 1]),([],[H.length + 1,H.length + 1]),([H.length + 1],[]),([],[]),([],[]),([H.length + 1],[]),([],[])] follows (by decide +kernel) rfl rfl (λz hz b' hb'=>?_) ?_
 ·simp only [List.mem_cons,List.not_mem_nil,or_false] at hz
  rcases hz with rfl | rfl | rfl | rfl | rfl | rfl | rfl | rfl | rfl | rfl | rfl | rfl | rfl | rfl | rfl | rfl | rfl | rfl | rfl | rfl | rfl | rfl | rfl | rfl | rfl | rfl | rfl | rfl | rfl | rfl | rfl <;> simp at hb' <;> subst hb' <;> exact ⟨by simp,by rw [List.getElem?_eq_none (by simp)]; exact λh=>by cases h⟩
 repeat (rw [DC_p]; simp (disch:=omega) only [kill_c,hk,hlenR,h16',h17,hcB,List.length_append,lnn,h16,hb12,List.set_nil,go_sem,seval,reduceCtorEq])
 refine PCont.mk (hdo _) ?_; simp (disch:=omega) only [go_sem,seval,reduceCtorEq]
 repeat (rw [DC_p]; simp (disch:=omega) only [kill_c,List.set_nil,go_sem,seval,reduceCtorEq])
 refine WStep.al (by simp) (by simp) ?_; simp (disch:=omega) only [go_sem,seval,reduceCtorEq]
 repeat (rw [DC_p]; simp (disch:=omega) only [kill_c,List.set_nil,go_sem,seval,reduceCtorEq])
 refine WStep.ev (by simp) (by simp) ?_; simp (disch:=omega) only [go_sem,seval,reduceCtorEq]; refine ⟨FrOk.put 1 _ (by simp) rfl,?_⟩
 repeat (rw [DC_p]; simp (disch:=omega) only [kill_c,List.set_nil,go_sem,seval,reduceCtorEq])
 have hnd:∀ l,(H ++ l)[mb]? ≠ some .dead:=λl=>by rw [hk]; exact λe=>by cases e
 have hap:∀ x l,(H ++ l).set mb x = H.set mb x ++ l:=λx l=>hm.set_ap x l
 have hq:∀ x a b l,(H.set mb x ++ (a :: b :: l))[H.length + 1]? = some b:=λx a b l=>by rw [List.getElem?_append_right (by rw [List.length_set]; omega),List.length_set]; simp
 have hgm:∀ x l,(H.set mb x ++ l)[mb]? = some x:=λx l=>by rw [List.getElem?_append_left (by rw [List.length_set]; exact hlt)]; exact List.getElem?_set_self hlt
 have hsm:∀ x y l,(H.set mb x ++ l).set mb y = H.set mb y ++ l:=λx y l=>by rw [List.set_append_left _ _ (by rw [List.length_set]; exact hlt),List.set_set]
 refine W.dregD [([],[]),([],[]),([],[]),([],[mb]),([],[mb,mb]),([],[]),([],[mb]),([],[mb,mb]),([],[]),([],[]),([],[]),([mb],[]),([],[]),([],[]),([mb],[]),([],[]),([],[]),([mb],[])] follows (by decide +kernel) rfl rfl (λz hz b' hb'=>?_) ?_
 ·simp only [List.mem_cons,List.not_mem_nil,or_false] at hz
  rcases hz with rfl | rfl | rfl | rfl | rfl | rfl | rfl | rfl | rfl | rfl | rfl | rfl | rfl | rfl | rfl | rfl | rfl | rfl <;> simp at hb' <;> subst hb' <;> exact ⟨by simp,hnd _⟩
 repeat (rw [DC_p]; simp (disch:=omega) only [kill_c,hap,hsm,hq,go_sem,seval,reduceCtorEq])
 have ha2:a.toNat < 16:=by omega
 have hrs:=reg_set (B:=bC s pb o) h16 ha2 r; obtain ⟨A,hA⟩:∃ A,A = (s.regs.set a.toNat r).map wv:=⟨_,rfl⟩; have hl:A.length = 16:=by rw [hA,lnn,List.length_set]; exact h16
 rw [<- hA] at hrs; have s16:∀ x B,List.take 16 (A ++ B) ++ x :: List.drop 17 (A ++ B) = A ++ (B.take 0 ++ x :: B.drop 1):=λx B=>stB hl 0 x
 refine WStep.ev (by simp) (by simp) ?_; simp (disch:=omega) only [hk,hap,hrs,hlenR,List.length_append,lnn,h16,hb12,go_sem,seval,reduceCtorEq]; refine ⟨FrOk.at2 (H ++ [.cells (In.mk f u v a b c op im).cs,.cells f2.cs]) (by simp) hlt _ hap,?_⟩
 repeat (rw [DC_p]; simp (disch:=omega) only [kill_c,hap,hsm,hq,go_sem,seval,reduceCtorEq])
 have s17:∀ x1 x2 x3 x4 B,List.take 17 (A ++ B) ++ x1 :: x2 :: x3 :: x4 :: List.drop 21 (A ++ B) = A ++ (B.take 1 ++ x1 :: x2 :: x3 :: x4 :: B.drop 5):=λx1 x2 x3 x4 B=>by
  rw [show 17 = 16 + 1 from rfl,tkp hl,show 21 = 16 + 5 from rfl,drp hl,List.append_assoc]
 refine WStep.ev (by simp) (by simp) ?_; simp (disch:=omega) only [hgm,hsm,s16,bC,hl,go_sem,seval,reduceCtorEq]; refine ⟨FrOk.at_ mb _ (by simp) (hsm _ _ _).symm,?_⟩
 repeat (rw [DC_p]; simp (disch:=omega) only [kill_c,hap,hsm,hq,go_sem,seval,reduceCtorEq])
 refine WStep.ev (by simp) (by simp) ?_; simp (disch:=omega) only [hgm,hsm,s17,bC,hl,go_sem,seval,reduceCtorEq]; refine ⟨FrOk.at_ mb _ (by simp) (hsm _ _ _).symm,?_⟩
 try simp (disch:=omega) only [go_sem,seval,reduceCtorEq]
 obtain ⟨s',hs'⟩:∃ s':St,s' = { s with regs:=s.regs.set a.toNat r,h:=h2,fl:=f2 }:=⟨_,rfl⟩; have hmp:=hm.put s' (by rw [hs']; exact ⟨rfl,rfl⟩) (by rw [hs']; simp only [List.length_set]; exact h16) (by rw [hs']; exact set_rng hm.ru _ u1) (by rw [hs']; exact u2) (by rw [hs']; exact hm.pc) (by rw [hs']; exact hm.rd); have hcs:=hm.cl hcl s'; have hcell:s'.regs.map wv ++ bC s' pb o = A ++ [wv h2,bv f2.n,bv f2.z,bv f2.c,bv f2.v,iv s.pc,.ptr pb 0,sv s.inp,iv s.rd,o,iv s.en,iv s.tr]:=by rw [hs',hA]; rfl
 rw [hcell] at hmp hcs; rw [<- hs']; exact Ret.drop _ (H.set mb _) (by simp) hcs (.rfl _) (by simp [refs,refs.refsL]) ⟨rfl,congrArg (λx=>H.set mb (.cells x)) hcell.symm,hmp⟩
def c181:AC:=
 sr [kn 3 (.bx t1),im 4 kF]
 (.seq (sr [im 6 t0,ib 7 .lss t6 (kc 0),im 8 t7,ko 9 8 (.mv t0),ko 10 8 (.bin .gtr t9 (kc 15)),kn 11 (.pick t8 kT t10)]
 (.cond t11 (sr [im 4 kF]
 (.ret)) (.skip)))
 (sr [im 5 kT]
 (.seq (sr [im 12 t0,ib 13 .rem t12 (kc 8)]
 (.block 0 (sr [ib 15 .eql t13 (kc 0),im 14 t15]
 (.cond t14 (.reg [ia 16 t3 0,il 17 t16,im 5 t17]) (sr [ib 19 .eql t13 (kc 1),im 18 t19]
 (.cond t18 (.reg [ia 20 t3 1,il 21 t20,im 5 t21]) (sr [ib 23 .eql t13 (kc 2),im 22 t23]
 (.cond t22 (.reg [ia 24 t3 2,il 25 t24,im 5 t25]) (sr [ib 27 .eql t13 (kc 3),im 26 t27]
 (.cond t26 (.reg [ia 28 t3 3,il 29 t28,im 5 t29]) (sr [ib 31 .eql t13 (kc 4),im 30 t31]
 (.cond t30 (.reg [ia 32 t3 2,il 33 t32,im 34 t33,ko 35 34 (.fa t3 1),ko 36 34 (.ld t35 1 false),kn 37 (.pick t34 kT t36),im 5 t37]) (sr [ib 39 .eql t13 (kc 5),im 38 t39]
 (.cond t38 (.reg [ia 40 t3 0,il 41 t40,ia 42 t3 3,il 43 t42,kn 44 (.eqs true t41 t43),im 5 t44]) (sr [ib 46 .eql t13 (kc 6),im 45 t46]
 (.cond t45 (.reg [ia 47 t3 0,il 48 t47,ia 49 t3 3,il 50 t49,kn 51 (.eqs true t48 t50),im 52 t51,ko 53 52 (.fa t3 1),ko 54 52 (.ld t53 1 false),kn 55 (.pick t52 kT t54),im 5 t55]) (.skip)))))))))))))))))
 (sr [im 56 t5,im 57 t0,ib 58 .lss t57 (kc 8),kn 59 (.eqs false t56 t58),im 4 t59]
 (.ret)))))
def r181:List RC:=[.t 4]
theorem cc181:cKc Tryz.f181 (hh 181) c181:=by unfold cKc; kernel_rfl
theorem rr181:resC Tryz.prog Tryz.f181 = some r181:=by kernel_rfl
theorem holds_f (k:Int) (n z c v:Bool):∃ b,∀ H,ACalls Tryz.prog 181 [iv k,.agg [bv n,bv z,bv c,bv v]] H λw H'=>w = bv b/\H' = H:=by
 by_cases h0:k < 0
 ·apply Exists.intro
  intro H
  refine ACalls.into Tryz.func181 cc181 rr181 λhcl=>?_
  simp (disch:=omega) only [Tryz.ntmps181,c181,r181,go_sem,seval,reduceCtorEq]; exact Ret.drop _ H (Nat.le_refl _) hcl (.rfl _) (by simp [refs]) ⟨rfl,rfl⟩
 by_cases h1:15 < k
 ·apply Exists.intro
  intro H
  refine ACalls.into Tryz.func181 cc181 rr181 λhcl=>?_
  simp (disch:=omega) only [Tryz.ntmps181,c181,r181,go_sem,seval,reduceCtorEq]; exact Ret.drop _ H (Nat.le_refl _) hcl (.rfl _) (by simp [refs]) ⟨rfl,rfl⟩
 have hm:k.tmod 8 = 0\/k.tmod 8 = 1\/k.tmod 8 = 2\/k.tmod 8 = 3\/k.tmod 8 = 4\/k.tmod 8 = 5\/k.tmod 8 = 6\/k.tmod 8 = 7:=by
  rw [Int.tmod_eq_emod_of_nonneg (by omega)]; omega
 have he:k.tmod 8 = k % 8:=Int.tmod_eq_emod_of_nonneg (by omega); rcases hm with h | h | h | h | h | h | h | h
 all_goals (
  rw [he] at h
  cases c <;> cases n <;> cases v <;> (
   apply Exists.intro
   intro H
   refine ACalls.into Tryz.func181 cc181 rr181 λhcl=>?_
   simp (disch:=omega) only [Tryz.ntmps181,c181,r181,h,go_sem,seval,reduceCtorEq]; exact Ret.drop _ H (Nat.le_refl _) hcl (.rfl _) (by simp [refs]) ⟨rfl,rfl⟩))
end Go.Proofs.YtofpekbidngnfaaGreatDoor
