/- The small run is right. -/
import Derived.Test.YtofpekbidngnfaaGreatDoorYP7
import Derived.Test.YtofpekbidngnfaaGreatDoorYP3
import Derived.KernelRfl
import Derived.Test.YtofpekbidngnfaaGreatDoorYP2
set_option linter.constructorNameAsVariable false
set_option linter.unusedSectionVars false
set_option linter.unusedSimpArgs false
set_option linter.unusedVariables false
set_option maxHeartbeats 2000000
set_option maxRecDepth 20000
namespace Go.Proofs.YtofpekbidngnfaaGreatDoor
open Go.RowKit
def c5:AC:=
 sr [im 0 kF]
 (sr [kn 4 (.call 4 [(.c (.d (.v (.string ⟨#[77,79,68,85,76,69,32,65,59,32,86,65,82,32,99,58,32,67,72,65,82,59,32,66,69,71,73,78,32,87,72,73,76,69,32,126,69,79,84,40,41,32,68,79,32,82,69,65,68,40,99,41,59,32,87,82,73,84,69,40,99,41,32,69,78,68,32,69,78,68,32,65,46]⟩)))),(.c (.d (.v (.string ⟨#[97,98,99]⟩))))]),im 3 t4,kn 5 (.ext t3 0),kn 6 (.ext t3 1),kn 1 (.al [kz,kz,ks,kz,kz]),ke (.st t1 t5 5),im 2 t6]
 (sr [im 7 t2,im 8 t7,ky 9 8 (.fa t1 0),ky 10 8 (.ld t9 1 false),ky 11 8 (.bin .eql t10 (kc 1)),kn 12 (.pick t8 t11 kF),im 13 t12,ky 14 13 (.fa t1 2),ky 15 13 (.ld t14 1 false),ky 16 13 (.bin .eql t15 (.c (.d (.v (.string ⟨#[97,98,99]⟩))))),kn 17 (.pick t13 t16 kF),im 18 t17,ky 19 18 (.fa t1 4),ky 20 18 (.ld t19 1 false),ky 21 18 (.bin .eql t20 (kc 3)),kn 22 (.pick t18 t21 kF),im 0 t22]
 (.ret)))
def r5:List RC:=[.t 0]
theorem cc5:cKc Tryz.f5 (hhu 5) c5:=by unfold cKc; kernel_rfl
theorem rr5:resC Tryz.prog Tryz.f5 = some r5:=by kernel_rfl
theorem small_lit:toA (.s 73 11440118976275467535156475911201076287670082134537458949114406288004907249615194669353513042584504030294419168668642858039704121198794241134686105907459526265684318628534832973) = .d (.v (.string ⟨#[77,79,68,85,76,69,32,65,59,32,86,65,82,32,99,58,32,67,72,65,82,59,32,66,69,71,73,78,32,87,72,73,76,69,32,126,69,79,84,40,41,32,68,79,32,82,69,65,68,40,99,41,59,32,87,82,73,84,69,40,99,41,32,69,78,68,32,69,78,68,32,65,46]⟩)):=by kernel_rfl
theorem wakes_c (hW:Wld) (H:List ABlk):ACalls Tryz.prog 5 [] H λv H'=>v = bv true/\H' = H:=by
 obtain ⟨en,tr,k,rd,h1,hr⟩:=ran_c (l:=73) (c:=11440118976275467535156475911201076287670082134537458949114406288004907249615194669353513042584504030294419168668642858039704121198794241134686105907459526265684318628534832973) pipeS_t imgS_ok (by decide) hW ⟨#[97,98,99]⟩ (by decide) (by
  intro c hc
  have hc:c ∈ [(97:UInt8),98,99]:=hc; simp only [List.mem_cons,List.not_mem_nil,or_false] at hc; rcases hc with rfl | rfl | rfl <;> decide)
 rw [small_lit] at hr; have hw:wantF (λc=>c) (⟨#[97,98,99]⟩:ByteArray).data.toList = ([97,98,99],false):=rfl; rw [hw] at h1 hr; have hb:(⟨(bytes8 ([97,98,99],false).1).toArray⟩:ByteArray) = ⟨#[97,98,99]⟩:=rfl; rw [hb] at hr; simp only [Bool.false_eq_true,if_false] at h1; obtain ⟨rfl,rfl⟩:=h1; have h3:(((⟨#[97,98,99]⟩:ByteArray).size:Nat):Int) = 3:=rfl; rw [h3] at hr; refine ACalls.into Tryz.func5 cc5 rr5 λhcl=>?_
 simp (disch:=omega) only [Tryz.ntmps5,c5,r5,go_sem,seval,reduceCtorEq]; refine Cont.mk (hr _) ?_; simp (disch:=omega) only [go_sem,seval,reduceCtorEq]
 trace_state
 exact Ret.drop _ H (Nat.le_refl _) hcl (.rfl _) (by simp [refs,refs.refsL]) ⟨rfl,rfl⟩
def c3l0:AC:=
 .seq (sr [im 15 t6,im 16 t0,kn 17 (.len true t16),ib 18 .lss t15 t17,im 19 t18,ky 20 19 (.mv t5),ky 21 19 (.un .not t20),kn 22 (.pick t19 t21 kF)]
 (.cond t22 (.skip) (.exit 0)))
 (.seq (.block 1 (sr [im 25 t0,im 26 t6,kn 27 (.ix t25 t26),im 7 t27]
 (.block 2 (sr [im 29 t7,kn 30 (.bin .geq t29 (.c (.d (.v (.int .u8 97))))),im 31 t30,ky 32 31 (.mv t7),ky 33 31 (.bin .leq t32 (.c (.d (.v (.int .u8 122))))),kn 34 (.pick t31 t33 kF),im 28 t34]
 (.cond t28 (.reg [im 35 t4,im 36 t7,kn 37 (.bin .sub t36 (.c (.d (.v (.int .u8 32))))),kn 38 (.bs .im 5 1 [t37]),kn 39 (.app .gr 5 1 1 t35 t38),im 4 t39]) (sr [im 41 t7,kn 42 (.bin .geq t41 (.c (.d (.v (.int .u8 48))))),im 43 t42,ky 44 43 (.mv t7),ky 45 43 (.bin .leq t44 (.c (.d (.v (.int .u8 57))))),kn 46 (.pick t43 t45 kF),im 47 t46,ko 48 47 (.mv t7),ko 49 47 (.bin .eql t48 (.c (.d (.v (.int .u8 45))))),kn 50 (.pick t47 kT t49),im 40 t50]
 (.cond t40 (.reg [im 51 t4,im 52 t7,kn 53 (.bin .rem t52 (.c (.d (.v (.int .u8 4))))),kn 54 (.ix (.c (.d (.v (.string ⟨#[110,112,112,113]⟩)))) t53),kn 55 (.bs .im 5 1 [t54]),kn 56 (.app .gr 5 1 1 t51 t55),im 4 t56]) (sr [im 58 t7,kn 59 (.bin .leq t58 (.c (.d (.v (.int .u8 47))))),im 57 t59]
 (.cond t57 (.reg [im 60 t4,kn 61 (.bs .im 5 1 [(.c (.d (.v (.int .u8 95))))]),kn 62 (.app .gr 5 1 1 t60 t61),im 4 t62]) (.reg [im 5 kT]))))))))))
 (.reg [im 23 t6,ib 24 .add t23 (kc 1),im 6 t24]))
def c3:AC:=
 sr [im 2 kF]
 (.seq (sr [im 10 t0,kn 11 (.len true t10),ib 12 .gtr t11 (kc 30)]
 (.cond t12 (.reg [im 13 t0,kn 14 (.sli true t13 none (some (kc 30)) 1),im 0 t14]) (.skip)))
 (sr [kn 3 (.mv (.c (.d (.v (.string ⟨#[77,79,68,85,76,69,32,65,59,32,86,65,82,32,99,58,32,67,72,65,82,59,32,105,58,32,73,78,84,69,71,69,82,59,32,66,69,71,73,78,32,87,72,73,76,69,32,126,69,79,84,40,41,32,68,79,32,82,69,65,68,40,99,41,59,32,67,65,83,69,32,99,32,79,70,32,34,97,34,32,46,46,32,34,122,34,58,32,87,82,73,84,69,40,67,72,82,40,79,82,68,40,99,41,32,45,32,51,50,41,41,32,124,32,34,48,34,32,46,46,32,34,57,34,44,32,34,45,34,58,32,105,32,58,61,32,79,82,68,40,99,41,32,77,79,68,32,52,59,32,67,65,83,69,32,105,32,79,70,32,48,58,32,87,82,73,84,69,40,34,110,34,41,32,124,32,49,44,32,50,58,32,87,82,73,84,69,40,34,112,34,41,32,124,32,51,58,32,87,82,73,84,69,40,34,113,34,41,32,69,78,68,32,124,32,48,88,32,46,46,32,50,67,88,44,32,50,69,88,32,46,46,32,50,70,88,58,32,87,82,73,84,69,40,34,95,34,41,32,69,78,68,32,69,78,68,32,69,78,68,32,65,46]⟩)))))]
 (sr [im 4 (.c .esl)]
 (sr [im 5 kF]
 (.seq (sr [im 6 (kc 0)]
 (.block 0 (.loop c3l0)))
 (sr [im 64 t3,im 65 t0,ic 66 4 [t64,t65],im 63 t66,kn 67 (.ext t63 0),kn 68 (.ext t63 1),kn 8 (.al [kz,kz,ks,kz,kz]),ke (.st t8 t67 5),im 9 t68]
 (.seq (sr [im 69 t5]
 (.cond t69 (sr [im 70 t9,im 71 t70,ky 72 71 (.fa t8 0),ky 73 71 (.ld t72 1 false),ky 74 71 (.bin .eql t73 (kc 2)),kn 75 (.pick t71 t74 kF),im 76 t75,ky 77 76 (.fa t8 1),ky 78 76 (.ld t77 1 false),ky 79 76 (.bin .eql t78 (kc 8)),kn 80 (.pick t76 t79 kF),im 81 t80,ky 82 81 (.fa t8 2),ky 83 81 (.ld t82 1 false),ky 84 81 (.mv t4),ky 85 81 (.b2s t84),ky 86 81 (.bin .eql t83 t85),kn 87 (.pick t81 t86 kF),im 88 t87,ky 89 88 (.call 5 []),kn 90 (.pick t88 t89 kF),im 2 t90]
 (.ret)) (.skip)))
 (sr [im 91 t9,im 92 t91,ky 93 92 (.fa t8 0),ky 94 92 (.ld t93 1 false),ky 95 92 (.bin .eql t94 (kc 1)),kn 96 (.pick t92 t95 kF),im 97 t96,ky 98 97 (.fa t8 2),ky 99 97 (.ld t98 1 false),ky 100 97 (.mv t4),ky 101 97 (.b2s t100),ky 102 97 (.bin .eql t99 t101),kn 103 (.pick t97 t102 kF),im 104 t103,ky 105 104 (.fa t8 4),ky 106 104 (.ld t105 1 false),ky 107 104 (.mv t0),ky 108 104 (.len true t107),ky 109 104 (.bin .eql t106 t108),kn 110 (.pick t104 t109 kF),im 111 t110,ky 112 111 (.call 5 []),kn 113 (.pick t111 t112 kF),im 2 t113]
 (.ret)))))))))
def r3:List RC:=[.t 2]
theorem cc3:cKc Tryz.f3 (hhu 3) c3:=by unfold cKc; kernel_rfl
theorem rr3:resC Tryz.prog Tryz.f3 = some r3:=by kernel_rfl
theorem wantF_stop (wt:Nat->Nat):∀ {l:List UInt8} (r:List UInt8),(wantF wt l).2 = true->wantF wt (l ++ r) = wantF wt l
 | [],r,h=>by cases h
 | c :: l,r,h=>by
  rw [List.cons_append,wantF,wantF]; rw [wantF] at h
  by_cases hc:wt c.toNat = 256
  ·rw [if_pos hc,if_pos hc]
  ·rw [if_neg hc] at h
   rw [if_neg hc,if_neg hc,wantF_stop wt r h]
theorem wantF_snoc (wt:Nat->Nat) (c:UInt8):∀ {l:List UInt8},(wantF wt l).2 = false->wantF wt (l ++ [c]) = if wt c.toNat = 256 then ((wantF wt l).1,true) else ((wantF wt l).1 ++ [(wt c.toNat:Int)],false)
 | [],h=>by
  show wantF wt [c] = _
  rw [wantF]; rfl
 | d :: l,h=>by
  rw [wantF] at h
  by_cases hd:wt d.toNat = 256
  ·rw [if_pos hd] at h; cases h
  ·rw [if_neg hd] at h
   rw [List.cons_append,wantF,if_neg hd,wantF_snoc wt c (l:=l) h,wantF,if_neg hd]
   by_cases hc:wt c.toNat = 256
   ·rw [if_pos hc,if_pos hc]
   ·rw [if_neg hc,if_neg hc]; rfl
theorem wantF_len (wt:Nat->Nat):∀ l:List UInt8,(wantF wt l).1.length<=l.length
 | []=>Nat.le_refl _
 | c :: l=>by
  rw [wantF]
  by_cases hc:wt c.toNat = 256
  ·rw [if_pos hc]; exact Nat.zero_le _
  ·rw [if_neg hc]; exact Nat.succ_le_succ (wantF_len wt l)
theorem wantN_fin:∀ n:Fin 256,wantN n.val = if 97<=n.val/\n.val<=122 then n.val - 32 else if (48<=n.val/\n.val<=57)\/n.val = 45 then (([110,112,112,113]:List UInt8).getD (n.val % 4) 0).toNat else if n.val<=47 then 95 else 256:=by decide +kernel
theorem wantN_eq (n:Nat) (h:n < 256):wantN n = if 97<=n/\n<=122 then n - 32 else if (48<=n/\n<=57)\/n = 45 then (([110,112,112,113]:List UInt8).getD (n % 4) 0).toNat else if n<=47 then 95 else 256:=wantN_fin ⟨n,h⟩
theorem pick_lt (n:Nat):(([110,112,112,113]:List UInt8).getD (n % 4) 0).toNat ≠ 256:=λh=>absurd (h ▸ UInt8.toNat_lt _) (by decide)
def wnA (b:Nat):List Int->AV
 | []=>.esl
 | p :: l=>.gsl b 1 ((p :: l).map ob8)
def wnH (G:List ABlk):List Int->List ABlk
 | []=>G
 | p :: l=>G ++ [.row 5 1 (l.length + 1)]
theorem wnA_n (b:Nat):wnA b [] = .esl:=rfl
theorem wnH_n (G:List ABlk):wnH G [] = G:=rfl
theorem wnA_c (b:Nat) (p:Int) (l:List Int):wnA b (p :: l) = .gsl b 1 (ob8 p :: l.map ob8):=rfl
theorem wnH_c (G:List ABlk) (p:Int) (l:List Int):wnH G (p :: l) = G ++ [.row 5 1 (l.length + 1)]:=rfl
theorem wnH_pre (G:List ABlk):∀ l,G <+: wnH G l
 | []=>List.prefix_rfl
 | p :: l=>⟨_,rfl⟩
theorem wn_bytes (b:Nat) (L:List Int):∃ E,(∀ H,elemsA H 1 (wnA b L) = some E)/\bytesOf E = some (bytes8 L)/\isStr (wnA b L) = false:=by
 cases L with
 | nil=>exact ⟨[],λ_=>rfl,rfl,rfl⟩
 | cons p l =>
  have:∀ L:List Int,bytesOf ((L.map ob8).map (·.map AV.d)) = some (bytes8 L):=by
   intro L
   induction L with
   | nil=>rfl
   | cons e L ih=>simp only [List.map_cons,List.map_nil,bytesOf,ob8,bytes8] at ih ⊢; rw [ih]
  exact ⟨_,λ_=>by simp only [wnA,elemsA,if_true],this (p :: l),rfl⟩
def srcL:ByteArray:=⟨#[77,79,68,85,76,69,32,65,59,32,86,65,82,32,99,58,32,67,72,65,82,59,32,105,58,32,73,78,84,69,71,69,82,59,32,66,69,71,73,78,32,87,72,73,76,69,32,126,69,79,84,40,41,32,68,79,32,82,69,65,68,40,99,41,59,32,67,65,83,69,32,99,32,79,70,32,34,97,34,32,46,46,32,34,122,34,58,32,87,82,73,84,69,40,67,72,82,40,79,82,68,40,99,41,32,45,32,51,50,41,41,32,124,32,34,48,34,32,46,46,32,34,57,34,44,32,34,45,34,58,32,105,32,58,61,32,79,82,68,40,99,41,32,77,79,68,32,52,59,32,67,65,83,69,32,105,32,79,70,32,48,58,32,87,82,73,84,69,40,34,110,34,41,32,124,32,49,44,32,50,58,32,87,82,73,84,69,40,34,112,34,41,32,124,32,51,58,32,87,82,73,84,69,40,34,113,34,41,32,69,78,68,32,124,32,48,88,32,46,46,32,50,67,88,44,32,50,69,88,32,46,46,32,50,70,88,58,32,87,82,73,84,69,40,34,95,34,41,32,69,78,68,32,69,78,68,32,69,78,68,32,65,46]⟩
theorem cases_lit:toA (.s 263 420749831145811172383586933179950367163688593794214576912928448220147711733236435276185611521578374079297262580823107615432387565376557491175925742999284216244151299362718796183285756978559809850034694557477643552888190176268585225777088489360699107951203829266985424085125236486084338525101267081685861803403533305313934692506535777806698777195011874917381131379034774099873537634535757837708472087581648919442850132317188536672104443790118207061007159450295568365100474456973180778625656586203398363651383968043060324679283830370148809458424326502967541949985106174045513474576181672151880767264501210963307647151831905270784872269) = sv srcL:=by kernel_rfl
theorem cases_c (hW:Wld) (inp:ByteArray) (H:List ABlk):ACalls Tryz.prog 3 [sv inp] H λv H'=>v = bv true/\H' = H:=by
 refine ACalls.enter Tryz.func3 cc3 rr3 λhcl=>?_
 simp only [Tryz.ntmps3,c3,r3]; refine W.seq_reg ?_; simp (disch:=omega) only [go_sem,seval,reduceCtorEq]; refine W.cut (λs' H'=>∃ x:ByteArray,x.size<=30/\s' = [sv x,.any,bv false] ++ List.replicate 111 .any/\H' = H) (wpA.W ?_) ?_
 ·by_cases g:30 < inp.size
  ·simp (disch:=omega) only [go_sem,seval,reduceCtorEq]
   exact ⟨_,_,Wk.slots (by (try simp only [List.replicate,List.cons_append,List.nil_append]); repeat' constructor),inp.extract 0 30,by rw [ByteArray.size_extract]; omega,rfl,rfl⟩
  ·simp (disch:=omega) only [go_sem,seval,reduceCtorEq]
   exact ⟨_,_,Wk.slots (by (try simp only [List.replicate,List.cons_append,List.nil_append]); repeat' constructor),inp,by omega,rfl,rfl⟩
 rintro s' H ⟨x,hx,rfl,rfl⟩; clear inp; refine W.seq_reg ?_; simp (disch:=omega) only [go_sem,seval,reduceCtorEq]; refine W.seq_reg ?_; simp (disch:=omega) only [go_sem,seval,reduceCtorEq]; refine W.seq_reg ?_; simp (disch:=omega) only [go_sem,seval,reduceCtorEq]; refine W.cut (λs' H'=>s' = [sv x,.any,bv false,sv srcL,wnA H.length (wantF wantN x.data.toList).1,bv (wantF wantN x.data.toList).2] ++ List.replicate 108 .any/\H' = wnH H (wantF wantN x.data.toList).1) (wpA.W ?_) ?_
 ·simp (disch:=omega) only [go_sem,seval,reduceCtorEq]
  obtain ⟨Wd,hWd⟩:∃ Wd:Nat->List Int × Bool,∀ k,Wd k = wantF wantN (x.data.toList.take k):=⟨_,λ_=>rfl⟩; obtain ⟨S,hS⟩:∃ S:Nat->List AV,∀ k,S k = [sv x,.any,bv false,sv srcL,wnA H.length (Wd k).1,bv (Wd k).2,iv k] ++ List.replicate 107 .any:=⟨_,λ_=>rfl⟩; have hsz:x.data.toList.length = x.size:=rfl; have h0:Wd 0 = ([],false):=hWd 0; refine W.loopG (γ:=Nat) (λk=>x.size - k) S (λk=>wnH H (Wd k).1) (λk=>k<=x.size) 0 (by
   show Wk _ _ _ _ (wnH H (Wd 0).1)
   rw [h0]; exact Wk.slots (by rw [hS,h0]; exact WkL.tail 7 _ rfl (by simp only [List.take_succ_cons,List.take_zero]; repeat' constructor))) (Nat.zero_le _) (λk hk=>?_)
  by_cases hkn:k < x.size
  ·by_cases ht:(Wd k).2 = true
   ·have he : wantF wantN x.data.toList = Wd k := by
     have:=wantF_stop wantN (x.data.toList.drop k) (by rw [<- hWd]; exact ht); rw [List.take_append_drop] at this; rw [this,hWd]
    simp (disch:=omega) only [hS,c3l0,ht,go_sem,seval,reduceCtorEq]; rw [he,ht]; exact ⟨_,_,Wk.slots (by (try simp only [List.replicate,List.cons_append,List.nil_append]); repeat' constructor),rfl,rfl⟩
   have ht:(Wd k).2 = false:=by simpa using ht
   obtain ⟨c,hc⟩:∃ c,x.data.toList[k]? = some c:=⟨_,gEe (by rw [hsz]; exact hkn)⟩; have htk:x.data.toList.take (k + 1) = x.data.toList.take k ++ [c]:=by rw [List.take_add_one,hc]; rfl
   have hnx:Wd (k + 1) = if wantN c.toNat = 256 then ((Wd k).1,true) else ((Wd k).1 ++ [(wantN c.toNat:Int)],false):=by
    rw [hWd,htk,wantF_snoc wantN c (by rw [<- hWd]; exact ht),<- hWd]
   have hgd:(x.data.toList.getD k 0).toNat = c.toNat:=by rw [gDd,hc]; rfl
   have hn2:c.toNat < 256:=c.toNat_lt; have hwn:=wantN_eq c.toNat hn2; have hvl:(Wd k).1.length<=30:=by
    rw [hWd]; exact Nat.le_trans (wantF_len _ _) (by rw [List.length_take]; omega)
   obtain ⟨n,hn⟩:∃ n,c.toNat = n:=⟨_,rfl⟩; rw [hn] at hnx hwn hgd hn2; obtain ⟨V,hV⟩:∃ V,(Wd k).1 = V:=⟨_,rfl⟩; rw [hV] at hnx hvl
   by_cases h1:97<=n/\n<=122
   ·rw [if_pos h1] at hwn
    rw [hwn,if_neg (by omega),show ((n - 32:Nat):Int) = (n:Int) - 32 by omega] at hnx
    cases V with
    | nil =>
     simp (disch:=omega) only [hS,c3l0,ht,hgd,hV,wnA_n,wnH_n,go_sem,seval,reduceCtorEq]; refine Nxt.mk (k + 1) (by omega) (by
      show Wk _ _ _ _ (wnH H (Wd (k + 1)).1)
      rw [hnx]; exact Wk.slots (by rw [hS,hnx]; exact WkL.tail 7 _ rfl (by simp only [List.take_succ_cons,List.take_zero]; repeat' constructor))) (by omega)
    | cons p0 l0 =>
     have gr:(H ++ [ABlk.row 5 1 (l0.length + 1)])[H.length]? = some (.row 5 1 (l0.length + 1)):=by rw [List.getElem?_append_right (by simp)]; simp
     have hle:l0.length < 2000:=by rw [List.length_cons] at hvl; omega
     have st:∀ X,(H ++ [ABlk.row 5 1 (l0.length + 1)]).set H.length X = H ++ [X]:=λX=>by rw [List.set_append_right _ _ (by omega)]; simp
     simp (disch:=omega) only [hS,c3l0,ht,hgd,hV,wnA_c,wnH_c,gr,List.length_cons,lnn,st,go_sem,seval,reduceCtorEq]; rw [show l0.map ob8 ++ [ob8 ((n:Int) - 32)] = (l0 ++ [(n:Int) - 32]).map ob8 from by simp,show l0.length + 1 + 1 = (l0 ++ [(n:Int) - 32]).length + 1 by simp]; refine Nxt.mk (k + 1) (by omega) (by
      show Wk _ _ _ _ (wnH H (Wd (k + 1)).1)
      rw [hnx]; exact Wk.slots (by rw [hS,hnx]; exact WkL.tail 7 _ rfl (by simp only [List.take_succ_cons,List.take_zero]; repeat' constructor))) (by omega)
   rw [if_neg h1] at hwn
   by_cases h2:(48<=n/\n<=57)\/n = 45
   ·rw [if_pos h2] at hwn
    rw [hwn,if_neg (pick_lt n)] at hnx; have hz4:(#[(110:UInt8),112,112,113]).size = 4:=rfl; have hm4:((n:Int) % 4).toNat = n % 4:=by omega
    obtain ⟨m,hm⟩:∃ m:Nat,(([110,112,112,113]:List UInt8).getD (n % 4) 0).toNat = m:=⟨_,rfl⟩; rw [hm] at hnx
    cases V with
    | nil =>
     by_cases h4:n = 45
     ·simp (disch:=omega) only [hS,c3l0,ht,hgd,hV,wnA_n,wnH_n,hz4,hm4,hm,go_sem,seval,reduceCtorEq]
      refine Nxt.mk (k + 1) (by omega) (by
       show Wk _ _ _ _ (wnH H (Wd (k + 1)).1)
       rw [hnx]; exact Wk.slots (by rw [hS,hnx]; exact WkL.tail 7 _ rfl (by simp only [List.take_succ_cons,List.take_zero]; repeat' constructor))) (by omega)
     ·simp (disch:=omega) only [hS,c3l0,ht,hgd,hV,wnA_n,wnH_n,hz4,hm4,hm,go_sem,seval,reduceCtorEq]
      refine Nxt.mk (k + 1) (by omega) (by
       show Wk _ _ _ _ (wnH H (Wd (k + 1)).1)
       rw [hnx]; exact Wk.slots (by rw [hS,hnx]; exact WkL.tail 7 _ rfl (by simp only [List.take_succ_cons,List.take_zero]; repeat' constructor))) (by omega)
    | cons p0 l0 =>
     have gr:(H ++ [ABlk.row 5 1 (l0.length + 1)])[H.length]? = some (.row 5 1 (l0.length + 1)):=by rw [List.getElem?_append_right (by simp)]; simp
     have hle:l0.length < 2000:=by rw [List.length_cons] at hvl; omega
     have st:∀ X,(H ++ [ABlk.row 5 1 (l0.length + 1)]).set H.length X = H ++ [X]:=λX=>by rw [List.set_append_right _ _ (by omega)]; simp
     by_cases h4:n = 45
     ·simp (disch:=omega) only [hS,c3l0,ht,hgd,hV,wnA_c,wnH_c,gr,List.length_cons,lnn,st,hz4,hm4,hm,go_sem,seval,reduceCtorEq]
      rw [show l0.map ob8 ++ [ob8 (m:Int)] = (l0 ++ [(m:Int)]).map ob8 from by simp,show l0.length + 1 + 1 = (l0 ++ [(m:Int)]).length + 1 by simp]; refine Nxt.mk (k + 1) (by omega) (by
       show Wk _ _ _ _ (wnH H (Wd (k + 1)).1)
       rw [hnx]; exact Wk.slots (by rw [hS,hnx]; exact WkL.tail 7 _ rfl (by simp only [List.take_succ_cons,List.take_zero]; repeat' constructor))) (by omega)
     ·simp (disch:=omega) only [hS,c3l0,ht,hgd,hV,wnA_c,wnH_c,gr,List.length_cons,lnn,st,hz4,hm4,hm,go_sem,seval,reduceCtorEq]
      rw [show l0.map ob8 ++ [ob8 (m:Int)] = (l0 ++ [(m:Int)]).map ob8 from by simp,show l0.length + 1 + 1 = (l0 ++ [(m:Int)]).length + 1 by simp]; refine Nxt.mk (k + 1) (by omega) (by
       show Wk _ _ _ _ (wnH H (Wd (k + 1)).1)
       rw [hnx]; exact Wk.slots (by rw [hS,hnx]; exact WkL.tail 7 _ rfl (by simp only [List.take_succ_cons,List.take_zero]; repeat' constructor))) (by omega)
   rw [if_neg h2] at hwn
   by_cases h3:n<=47
   ·rw [if_pos h3] at hwn
    rw [hwn,if_neg (by omega),show ((95:Nat):Int) = 95 from rfl] at hnx
    cases V with
    | nil =>
     simp (disch:=omega) only [hS,c3l0,ht,hgd,hV,wnA_n,wnH_n,go_sem,seval,reduceCtorEq]; refine Nxt.mk (k + 1) (by omega) (by
      show Wk _ _ _ _ (wnH H (Wd (k + 1)).1)
      rw [hnx]; exact Wk.slots (by rw [hS,hnx]; exact WkL.tail 7 _ rfl (by simp only [List.take_succ_cons,List.take_zero]; repeat' constructor))) (by omega)
    | cons p0 l0 =>
     have gr:(H ++ [ABlk.row 5 1 (l0.length + 1)])[H.length]? = some (.row 5 1 (l0.length + 1)):=by rw [List.getElem?_append_right (by simp)]; simp
     have hle:l0.length < 2000:=by rw [List.length_cons] at hvl; omega
     have st:∀ X,(H ++ [ABlk.row 5 1 (l0.length + 1)]).set H.length X = H ++ [X]:=λX=>by rw [List.set_append_right _ _ (by omega)]; simp
     simp (disch:=omega) only [hS,c3l0,ht,hgd,hV,wnA_c,wnH_c,gr,List.length_cons,lnn,st,go_sem,seval,reduceCtorEq]; rw [show l0.map ob8 ++ [ob8 ((95:Int))] = (l0 ++ [(95:Int)]).map ob8 from by simp,show l0.length + 1 + 1 = (l0 ++ [(95:Int)]).length + 1 by simp]; refine Nxt.mk (k + 1) (by omega) (by
      show Wk _ _ _ _ (wnH H (Wd (k + 1)).1)
      rw [hnx]; exact Wk.slots (by rw [hS,hnx]; exact WkL.tail 7 _ rfl (by simp only [List.take_succ_cons,List.take_zero]; repeat' constructor))) (by omega)
   ·rw [if_neg h3] at hwn
    rw [hwn,if_pos rfl] at hnx
    by_cases h4:97<=n
    ·simp (disch:=omega) only [hS,c3l0,ht,hgd,hV,go_sem,seval,reduceCtorEq]
     refine Nxt.mk (k + 1) (by omega) (by
      show Wk _ _ _ _ (wnH H (Wd (k + 1)).1)
      rw [hnx]; exact Wk.slots (by rw [hS,hnx]; exact WkL.tail 7 _ rfl (by simp only [List.take_succ_cons,List.take_zero]; repeat' constructor))) (by omega)
    ·simp (disch:=omega) only [hS,c3l0,ht,hgd,hV,go_sem,seval,reduceCtorEq]
     refine Nxt.mk (k + 1) (by omega) (by
      show Wk _ _ _ _ (wnH H (Wd (k + 1)).1)
      rw [hnx]; exact Wk.slots (by rw [hS,hnx]; exact WkL.tail 7 _ rfl (by simp only [List.take_succ_cons,List.take_zero]; repeat' constructor))) (by omega)
  ·have e8:k = x.size:=by omega
   subst e8; have he:wantF wantN x.data.toList = Wd x.size:=by
    rw [hWd,<- hsz,List.take_length]
   simp (disch:=omega) only [hS,c3l0,go_sem,seval,reduceCtorEq]; rw [he]; exact ⟨_,_,Wk.slots (by (try simp only [List.replicate,List.cons_append,List.nil_append]); repeat' constructor),rfl,rfl⟩
 rintro s' H' ⟨rfl,rfl⟩; refine wpA.W ?_; obtain ⟨en,tr,kk,rd,h1,hr⟩:=ran_c (l:=263) (c:=420749831145811172383586933179950367163688593794214576912928448220147711733236435276185611521578374079297262580823107615432387565376557491175925742999284216244151299362718796183285756978559809850034694557477643552888190176268585225777088489360699107951203829266985424085125236486084338525101267081685861803403533305313934692506535777806698777195011874917381131379034774099873537634535757837708472087581648919442850132317188536672104443790118207061007159450295568365100474456973180778625656586203398363651383968043060324679283830370148809458424326502967541949985106174045513474576181672151880767264501210963307647151831905270784872269) pipeC_t imgL_ok (by decide) hW x (by omega) (λ_ _=>trivial); rw [cases_lit] at hr; have hpre:=wnH_pre H (wantF wantN x.data.toList).1; obtain ⟨E,hE,hby,hns⟩:=wn_bytes H.length (wantF wantN x.data.toList).1; obtain ⟨B,hB⟩:∃ B,bytes8 (wantF wantN x.data.toList).1 = B:=⟨_,rfl⟩; rw [hB] at hr hby; simp only [isStr] at hns
 generalize wnH H (wantF wantN x.data.toList).1 = G at *
 generalize wnA H.length (wantF wantN x.data.toList).1 = A at *
 by_cases ht:(wantF wantN x.data.toList).2 = true
 ·rw [if_pos ht] at h1
  obtain ⟨rfl,rfl⟩:=h1; simp (disch:=omega) only [ht,go_sem,seval,reduceCtorEq]; refine Cont.mk (hr _) ?_; simp (disch:=omega) only [hE,hby,hns,go_sem,seval,reduceCtorEq]; refine Cont.mk (wakes_c hW _) ?_; simp (disch:=omega) only [go_sem,seval,reduceCtorEq]; exact Ret.pre _ H (hpre.trans ⟨_,rfl⟩) (Nat.le_refl _) hcl (.rfl _) (by simp [refs]) ⟨rfl,rfl⟩
 ·rw [if_neg ht] at h1
  obtain ⟨rfl,rfl⟩:=h1; have ht:(wantF wantN x.data.toList).2 = false:=by simpa using ht
  simp (disch:=omega) only [ht,go_sem,seval,reduceCtorEq]; refine Cont.mk (hr _) ?_; simp (disch:=omega) only [hE,hby,hns,go_sem,seval,reduceCtorEq]; refine Cont.mk (wakes_c hW _) ?_; simp (disch:=omega) only [go_sem,seval,reduceCtorEq]; exact Ret.pre _ H (hpre.trans ⟨_,rfl⟩) (Nat.le_refl _) hcl (.rfl _) (by simp [refs]) ⟨rfl,rfl⟩
end Go.Proofs.YtofpekbidngnfaaGreatDoor
