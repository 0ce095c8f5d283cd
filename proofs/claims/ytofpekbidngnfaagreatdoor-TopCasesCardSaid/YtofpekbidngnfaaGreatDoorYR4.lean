/- risc.Encode, risc.Decode. -/
import Derived.Test.YtofpekbidngnfaaGreatDoorYR2
set_option linter.unusedSectionVars false
set_option linter.unusedSimpArgs false
set_option linter.unusedVariables false
set_option maxHeartbeats 1000000
set_option maxRecDepth 20000
namespace Go.Proofs.YtofpekbidngnfaaGreatDoor
open Go.RowKit
def c160:AC:=
 sr [kn 1 (.bx t0),kn 2 (.mv (.c (.d (.v (.int .u32 0))))),im 3 (kc 0)]
 (.seq (sr [kn 5 (.ld t1 8 true),ic 6 247 [t5],kn 7 (.un .not t6)]
 (.cond t7 (sr [kn 2 (.mv (.c (.d (.v (.int .u32 0))))),im 3 (kc 20)]
 (.ret)) (.skip)))
 (.seq (.dreg [[],[0],[1],[2],[],[4],[5],[3,6],[],[8],[9,6],[7,10],[],[12],[13],[14],[11,15],[16,10,0,1,2,3,4,5,6,7,8,9,10,11,12,13,14,15,16]] [ia 8 t1 0,il 9 t8,kn 10 (.cvi .u32 t9),kn 11 (.bin .shl t10 (.c (.d (.v (.int .u64 30))))),ia 12 t1 1,il 13 t12,ic 14 248 [t13,(kc 29)],ib 15 .or t11 t14,ia 16 t1 2,il 17 t16,ic 18 248 [t17,(kc 28)],ib 19 .or t15 t18,ia 20 t1 3,il 21 t20,kn 22 (.cvi .u32 t21),kn 23 (.bin .shl t22 (.c (.d (.v (.int .u64 24))))),ib 24 .or t19 t23,im 4 t24])
 (.seq (sr [ia 25 t1 0,il 26 t25,ib 27 .eql t26 (kc 3)]
 (.cond t27 (sr [im 28 t4,ia 29 t1 5,il 30 t29,kn 31 (.cvi .u32 t30),ib 32 .or t28 t31,ia 33 t1 7,il 34 t33,kn 35 (.cvi .u32 t34),kn 36 (.bin .and t35 (.c (.d (.v (.int .u32 16777215))))),ib 37 .or t32 t36,im 2 t37,im 3 (kc 0)]
 (.ret)) (.skip)))
 (sr [im 38 t4,ia 39 t1 4,il 40 t39,kn 41 (.cvi .u32 t40),kn 42 (.bin .shl t41 (.c (.d (.v (.int .u64 20))))),ib 43 .or t38 t42,im 4 t43]
 (.seq (sr [ia 44 t1 0,il 45 t44,ib 46 .eql t45 (kc 2)]
 (.cond t46 (sr [im 47 t4,ia 48 t1 7,il 49 t48,kn 50 (.cvi .u32 t49),kn 51 (.bin .and t50 (.c (.d (.v (.int .u32 1048575))))),ib 52 .or t47 t51,im 2 t52,im 3 (kc 0)]
 (.ret)) (.skip)))
 (sr [im 53 t4,ia 54 t1 6,il 55 t54,kn 56 (.cvi .u32 t55),kn 57 (.bin .shl t56 (.c (.d (.v (.int .u64 16))))),ib 58 .or t53 t57,ia 59 t1 5,il 60 t59,kn 61 (.cvi .u32 t60),ib 62 .or t58 t61,ia 63 t1 7,il 64 t63,kn 65 (.cvi .u32 t64),ib 66 .or t62 t65,im 2 t66,im 3 (kc 0)]
 (.ret)))))))
def r160:List RC:=[.t 2,.t 3]
theorem cc160:cKc Tryz.f160 (hh 160) c160:=by unfold cKc; kernel_rfl
theorem rr160:resC Tryz.prog Tryz.f160 = some r160:=by kernel_rfl
abbrev U32 (n:Int):Prop:=0<=n/\n < 4294967296
theorem u32_bv (b:BitVec 32):U32 ((b.toNat:Nat):Int):=⟨by omega,by have:=b.isLt; omega⟩
theorem u32_mod (n:Int):U32 (n % 4294967296):=⟨Int.emod_nonneg _ (by decide),Int.emod_lt_of_pos _ (by decide)⟩
abbrev InI (x:In):Prop:=J64 x.a/\J64 x.b/\J64 x.c/\J64 x.op/\J64 x.im
theorem enc_c (x:In) (hf:x.f = 0\/x.f = 1\/x.f = 2\/x.f = 3) (hI:InI x):∃ w e,U32 w/\(e = 0/\gdB x = true\/e = 20)/\∀ H,ACalls Tryz.prog 160 [x.av] H λv H'=>v = .tup [wv w,iv e]/\H' = H:=by
 have hgd:=good_c x hf hI
 by_cases hg:gdB x = true
 rotate_left
 ·have hg:gdB x = false:=by simpa using hg
  rw [hg] at hgd; refine ⟨0,20,by decide,.inr rfl,λH=>?_⟩; refine ACalls.into Tryz.func160 cc160 rr160 λhcl=>?_
  simp (disch:=omega) only [Tryz.ntmps160,c160,r160,go_sem,seval,reduceCtorEq]; refine Cont.mk (hgd _) ?_; simp (disch:=omega) only [go_sem,seval,reduceCtorEq]; exact Ret.drop _ H (Nat.le_refl _) hcl (.rfl _) (by simp [refs,refs.refsL]) ⟨rfl,rfl⟩
 rw [hg] at hgd; obtain ⟨f,u,v,a,b,c,op,im⟩:=x; simp only at hf hI hgd hg; rcases hf with rfl | rfl | rfl | rfl
 all_goals (
  apply Exists.intro
  apply Exists.intro (0:Int)
  refine ⟨?_,.inl ⟨rfl,hg⟩,λH=>?_⟩
  rotate_left
  ·refine ACalls.into Tryz.func160 cc160 rr160 λhcl=>?_
   simp (disch:=omega) only [Tryz.ntmps160,c160,r160,go_sem,seval,reduceCtorEq]; refine Cont.mk (hgd _) ?_; simp (disch:=omega) only [go_sem,seval,reduceCtorEq]; refine W.pchain follows (by decide +kernel) ?_; simp (disch:=omega) only [go_sem,seval,reduceCtorEq]; refine PCont.mk (bit29_c u _) ?_; simp (disch:=omega) only [go_sem,seval,reduceCtorEq]; refine PCont.mk (bit28_c v _) ?_; simp (disch:=omega) only [go_sem,seval,reduceCtorEq]; exact Ret.drop _ H (Nat.le_refl _) hcl (.rfl _) (by simp [refs,refs.refsL]) ⟨rfl,rfl⟩
  ·first | exact u32_mod _ | exact u32_bv _)
def c108:AC:=
 sr [kn 2 (.al [kz,(.d (.v (.bool false))),(.d (.v (.bool false))),kz,kz,kz,kz,kz]),im 3 (kc 0)]
 (sr [im 7 t0,kn 8 (.bin .shr t7 (.c (.d (.v (.int .u64 30))))),kn 9 (.cvi .i64 t8),im 10 t0,kn 11 (.bin .shr t10 (.c (.d (.v (.int .u64 29))))),kn 12 (.bin .and t11 (.c (.d (.v (.int .u32 1))))),kn 13 (.bin .eql t12 (.c (.d (.v (.int .u32 1))))),im 14 t0,kn 15 (.bin .shr t14 (.c (.d (.v (.int .u64 28))))),kn 16 (.bin .and t15 (.c (.d (.v (.int .u32 1))))),kn 17 (.bin .eql t16 (.c (.d (.v (.int .u32 1))))),im 18 t0,ic 19 176 [t18,(kc 24),(kc 4)],kn 20 (.cvi .i64 t19),kn 21 (.bd [kz,(.d (.v (.bool false))),(.d (.v (.bool false))),kz,kz,kz,kz,kz] [(0,1,t9),(1,1,t13),(2,1,t17),(3,1,t20)]),kn 4 (.al [kz,(.d (.v (.bool false))),(.d (.v (.bool false))),kz,kz,kz,kz,kz]),ke (.st t4 t21 8)]
 (.seq (sr [ia 22 t4 0,il 23 t22,ib 24 .neq t23 (kc 3)]
 (.cond t24 (.reg [im 25 t0,ic 26 176 [t25,(kc 20),(kc 4)],kn 27 (.cvi .i64 t26),ia 28 t4 4,ke (.st t28 t27 1)]) (.skip)))
 (.seq (sr [ia 29 t4 0,il 30 t29]
 (.block 0 (sr [ib 41 .eql t30 (kc 0),im 40 t41]
 (.cond t40 (.reg [im 42 t0,ic 43 176 [t42,(kc 16),(kc 4)],kn 44 (.cvi .i64 t43),im 45 t0,kn 46 (.bin .and t45 (.c (.d (.v (.int .u32 15))))),kn 47 (.cvi .i64 t46),ia 48 t4 6,ke (.st t48 t44 1),ia 49 t4 5,ke (.st t49 t47 1)]) (sr [ib 51 .eql t30 (kc 1),im 50 t51]
 (.cond t50 (.reg [im 52 t0,ic 53 176 [t52,(kc 16),(kc 4)],kn 54 (.cvi .i64 t53),im 55 t0,kn 56 (.cvi .u16 t55),kn 57 (.cvi .i64 t56),ia 58 t4 6,ke (.st t58 t54 1),ia 59 t4 7,ke (.st t59 t57 1)]) (sr [ib 61 .eql t30 (kc 2),im 60 t61]
 (.cond t60 (.reg [im 62 t0,ic 63 177 [t62,(kc 20)],ia 64 t4 7,ke (.st t64 t63 1)]) (sr [ia 31 t4 1,il 32 t31]
 (.cond t32 (.reg [im 33 t0,ic 34 177 [t33,(kc 24)],ia 35 t4 7,ke (.st t35 t34 1)]) (.reg [im 36 t0,kn 37 (.bin .and t36 (.c (.d (.v (.int .u32 15))))),kn 38 (.cvi .i64 t37),ia 39 t4 5,ke (.st t39 t38 1)])))))))))))
 (.seq (sr [kn 66 (.ld t4 8 true),ic 67 160 [t66],im 65 t67,kn 68 (.ext t65 0),kn 69 (.ext t65 1),im 5 t68,im 6 t69]
 (sr [im 70 t6,ib 71 .neq t70 (kc 0),im 72 t71,ko 73 72 (.mv t5),ko 74 72 (.mv t0),ko 75 72 (.bin .neq t73 t74),kn 76 (.pick t72 kT t75)]
 (.cond t76 (sr [kn 77 (.bd [kz,(.d (.v (.bool false))),(.d (.v (.bool false))),kz,kz,kz,kz,kz] []),ke (.st t2 t77 8),im 3 (kc 20)]
 (.ret)) (.skip))))
 (sr [kn 78 (.ld t4 8 true),ke (.st t2 t78 8),im 3 (kc 0)]
 (.ret))))))
def r108:List RC:=[.c 2 8 true,.t 3]
def c177:AC:=
 sr [im 4 (kc 0)]
 (.seq (sr [im 5 t1,ib 6 .lss t5 (kc 1),im 7 t6,ko 8 7 (.mv t1),ko 9 7 (.bin .gtr t8 (kc 32)),kn 10 (.pick t7 kT t9)]
 (.cond t10 (sr [im 4 (kc 0)]
 (.ret)) (.skip)))
 (sr [im 11 t0,im 12 t1,kn 13 (.bin .sub (kc 32) t12),ib 14 .shl t11 t13,kn 15 (.cvi .i32 t14),im 16 t1,kn 17 (.bin .sub (kc 32) t16),ib 18 .shr t15 t17,kn 19 (.cvi .i64 t18),im 4 t19]
 (.ret)))
def r177:List RC:=[.t 4]
theorem cc108:cKc Tryz.f108 (hh 108) c108:=by unfold cKc; kernel_rfl
theorem rr108:resC Tryz.prog Tryz.f108 = some r108:=by kernel_rfl
theorem cc177:cKc Tryz.f177 (hh 177) c177:=by unfold cKc; kernel_rfl
theorem rr177:resC Tryz.prog Tryz.f177 = some r177:=by kernel_rfl
abbrev J31 (n:Int):Prop:=-2147483648<=n/\n < 2147483648
theorem i32_rng (n:Int):J31 (IntKind.i32.wrap n):=by
 have h:IntKind.i32.wrap n = if n % 4294967296 ≥ 2147483648 then n % 4294967296 - 4294967296 else n % 4294967296:=by
  simp [IntKind.wrap,IntKind.bits,IntKind.signed]
 rw [h]; have h0:0<=n % 4294967296:=Int.emod_nonneg _ (by decide); have h1:n % 4294967296 < 4294967296:=Int.emod_lt_of_pos _ (by decide)
 split <;> constructor <;> omega
theorem ext_c (w n:Int) (hw:U32 w) (hn:n = 20\/n = 24):∃ r,J31 r/\∀ H,ACalls Tryz.prog 177 [wv w,iv n] H λv H'=>v = iv r/\H' = H:=by
 obtain ⟨w0,w1⟩:=hw; rcases hn with rfl | rfl
 ·have hr:=i32_rng (w * 4096 % 4294967296)
  refine ⟨IntKind.i32.wrap (w * 4096 % 4294967296) / 4096,by omega,λH=>?_⟩; refine ACalls.into Tryz.func177 cc177 rr177 λhcl=>?_
  have e:(2:Int) ^ min 12 IntKind.i32.bits = 4096:=by decide
  simp (disch:=omega) only [Tryz.ntmps177,c177,r177,go_sem,seval,reduceCtorEq]
  generalize IntKind.i32.wrap (w * 4096 % 4294967296) = q at *
  first | rw [e,w_i64 (by omega) (by omega)] | rw [w_i64 (by omega) (by omega)] | skip
  exact Ret.keep ⟨rfl,rfl⟩
 ·have hr:=i32_rng (w * 256 % 4294967296)
  refine ⟨IntKind.i32.wrap (w * 256 % 4294967296) / 256,by omega,λH=>?_⟩; refine ACalls.into Tryz.func177 cc177 rr177 λhcl=>?_
  have e:(2:Int) ^ min 8 IntKind.i32.bits = 256:=by decide
  simp (disch:=omega) only [Tryz.ntmps177,c177,r177,go_sem,seval,reduceCtorEq]
  generalize IntKind.i32.wrap (w * 256 % 4294967296) = q at *
  first | rw [e,w_i64 (by omega) (by omega)] | rw [w_i64 (by omega) (by omega)] | skip
  exact Ret.keep ⟨rfl,rfl⟩
structure InOk (x:In):Prop where
 f:0<=x.f/\x.f < 4
 a:0<=x.a/\x.a < 16
 b:0<=x.b/\x.b < 16
 c:0<=x.c/\x.c < 16
 op:0<=x.op/\x.op < 16
 im:J31 x.im
theorem InOk.i {x:In} (h:InOk x):InI x:=by
 have:=h.a; have:=h.b; have:=h.c; have:=h.op; have:=h.im; exact ⟨by omega,by omega,by omega,by omega,by omega⟩
abbrev inZ:In:=⟨0,false,false,0,0,0,0,0⟩
theorem inZ_ok:InOk inZ:=⟨by decide,by decide,by decide,by decide,by decide,by decide⟩
def DecP (w:Int) (x:In) (e:Int):Prop:=InOk x/\(e = 0/\(gdB x = true/\∀ H,ACalls Tryz.prog 160 [x.av] H λv H'=>v = .tup [wv w,iv 0]/\H' = H)\/e = 20)/\∀ H,ACalls Tryz.prog 108 [wv w] H λv H'=>v = .tup [x.av,iv e]/\H' = H
theorem dec_0 (w:Int) (hw:U32 w) (hf:w / 1073741824 = 0):∃ x e,DecP w x e:=by
 have hw':=hw; obtain ⟨w0,w1⟩:=hw; have hA:=g4_rng (w / 16777216); have hB:=g4_rng (w / 1048576); have hO:=g4_rng (w / 65536); have hC:=g4_rng w; obtain ⟨U,hU⟩:∃ U,U = decide (((BitVec.ofInt IntKind.u32.bits (w / 536870912) &&& BitVec.ofInt IntKind.u32.bits 1).toNat:Int) % 4294967296 = 1):=⟨_,rfl⟩; obtain ⟨V,hV⟩:∃ V,V = decide (((BitVec.ofInt IntKind.u32.bits (w / 268435456) &&& BitVec.ofInt IntKind.u32.bits 1).toNat:Int) % 4294967296 = 1):=⟨_,rfl⟩; have ga:=get_c w 24 16777216 w0 w1 (by omega); have gb:=get_c w 20 1048576 w0 w1 (by omega); have go:=get_c w 16 65536 w0 w1 (by omega); obtain ⟨m20,r20,e20⟩:=ext_c w 20 hw' (.inl rfl); obtain ⟨m24,r24,e24⟩:=ext_c w 24 hw' (.inr rfl); have hc4:((BitVec.ofInt IntKind.u32.bits w &&& BitVec.ofInt IntKind.u32.bits 15).toNat:Int) % 4294967296 = g4 w:=rfl; have hc50:((@HAnd.hAnd (BitVec 32) (BitVec 32) (BitVec 32) (@instHAndOfAndOp (BitVec IntKind.u32.bits) (@BitVec.instAndOp IntKind.u32.bits)) (BitVec.ofInt 32 (w)) 15#32).toNat:Int) = g4 w:=(bvmod (BitVec.ofInt 32 w &&& 15#32)).symm; have hUp0:(((@HAnd.hAnd (BitVec 32) (BitVec 32) (BitVec 32) (@instHAndOfAndOp (BitVec IntKind.u32.bits) (@BitVec.instAndOp IntKind.u32.bits)) (BitVec.ofInt 32 (w / 536870912)) 1#32).toNat:Int) = 1) = (U = true):=by
  have e:=bvmod (BitVec.ofInt 32 (w / 536870912) &&& 1#32); rw [hU]; exact propext ⟨λh=>decide_eq_true (e.trans h),λh=>e.symm.trans (of_decide_eq_true h)⟩
 have hVp0:(((@HAnd.hAnd (BitVec 32) (BitVec 32) (BitVec 32) (@instHAndOfAndOp (BitVec IntKind.u32.bits) (@BitVec.instAndOp IntKind.u32.bits)) (BitVec.ofInt 32 (w / 268435456)) 1#32).toNat:Int) = 1) = (V = true):=by
  have e:=bvmod (BitVec.ofInt 32 (w / 268435456) &&& 1#32); rw [hV]; exact propext ⟨λh=>decide_eq_true (e.trans h),λh=>e.symm.trans (of_decide_eq_true h)⟩
 have hc51:((@HAnd.hAnd (BitVec 32) (BitVec 32) (BitVec 32) (@instHAndOfAndOp (BitVec IntKind.u32.bits) (@BitVec.instAndOp IntKind.u32.bits)) (BitVec.ofInt 32 (w)) (BitVec.ofInt 32 15)).toNat:Int) = g4 w:=(bvmod (BitVec.ofInt 32 w &&& 15#32)).symm; have hUp1:(((@HAnd.hAnd (BitVec 32) (BitVec 32) (BitVec 32) (@instHAndOfAndOp (BitVec IntKind.u32.bits) (@BitVec.instAndOp IntKind.u32.bits)) (BitVec.ofInt 32 (w / 536870912)) (BitVec.ofInt 32 1)).toNat:Int) = 1) = (U = true):=by
  have e:=bvmod (BitVec.ofInt 32 (w / 536870912) &&& 1#32); rw [hU]; exact propext ⟨λh=>decide_eq_true (e.trans h),λh=>e.symm.trans (of_decide_eq_true h)⟩
 have hVp1:(((@HAnd.hAnd (BitVec 32) (BitVec 32) (BitVec 32) (@instHAndOfAndOp (BitVec IntKind.u32.bits) (@BitVec.instAndOp IntKind.u32.bits)) (BitVec.ofInt 32 (w / 268435456)) (BitVec.ofInt 32 1)).toNat:Int) = 1) = (V = true):=by
  have e:=bvmod (BitVec.ofInt 32 (w / 268435456) &&& 1#32); rw [hV]; exact propext ⟨λh=>decide_eq_true (e.trans h),λh=>e.symm.trans (of_decide_eq_true h)⟩
 generalize hga:g4 (w / 16777216) = A at *
 generalize hgb:g4 (w / 1048576) = B at *
 generalize hgo:g4 (w / 65536) = O at *
 generalize hgc:g4 w = C at *
 have h16:IntKind.u16.wrap w = w % 65536:=by simp [IntKind.wrap,IntKind.bits,IntKind.signed]
 have hm:0<=w % 65536/\w % 65536 < 65536:=by omega
 obtain ⟨w2,e2,hw2,he2,henc⟩:=enc_c ⟨0,U,V,A,B,C,O,0⟩ (.inl rfl) (InOk.i ⟨by simp only; omega,by simp only; omega,by simp only; omega,by simp only; omega,by simp only; omega,by simp only; omega⟩)
 by_cases hok:e2 = 0/\w2 = w
 ·obtain ⟨h1,h2⟩:=hok
  subst h1; rw [h2] at henc; have hgd:=he2.elim (λh=>h.2) (λh=>absurd h (by decide)); refine ⟨⟨0,U,V,A,B,C,O,0⟩,0,⟨by simp only; omega,by simp only; omega,by simp only; omega,by simp only; omega,by simp only; omega,by simp only; omega⟩,.inl ⟨rfl,hgd,henc⟩,λH=>?_⟩; refine ACalls.into Tryz.func108 cc108 rr108 λhcl=>?_
  simp (disch:=omega) only [Tryz.ntmps108,c108,r108,go_sem,seval,reduceCtorEq]; refine Cont.mk (ga _) ?_; simp (disch:=omega) only [hUp0,hVp0,hUp1,hVp1,Bool.decide_eq_true,go_sem,seval,reduceCtorEq]
  first | rw [<- hU,<- hV] | skip
  simp (disch:=omega) only [hf,hc4,hc50,hc51,h16,go_sem,seval,reduceCtorEq]; refine Cont.mk (gb _) ?_; simp (disch:=omega) only [hf,hc4,hc50,hc51,h16,go_sem,seval,reduceCtorEq]; refine Cont.mk (go _) ?_; simp (disch:=omega) only [hf,hc4,hc50,hc51,h16,go_sem,seval,reduceCtorEq]; refine Cont.mk (henc _) ?_; simp (disch:=omega) only [go_sem,seval,reduceCtorEq]; exact Ret.drop _ H (Nat.le_refl _) hcl (.rfl _) (by simp [refs,refs.refsL]) ⟨rfl,rfl⟩
 ·refine ⟨inZ,20,inZ_ok,.inr rfl,λH=>?_⟩
  refine ACalls.into Tryz.func108 cc108 rr108 λhcl=>?_
  simp (disch:=omega) only [Tryz.ntmps108,c108,r108,go_sem,seval,reduceCtorEq]; refine Cont.mk (ga _) ?_; simp (disch:=omega) only [hUp0,hVp0,hUp1,hVp1,Bool.decide_eq_true,go_sem,seval,reduceCtorEq]
  first | rw [<- hU,<- hV] | skip
  simp (disch:=omega) only [hf,hc4,hc50,hc51,h16,go_sem,seval,reduceCtorEq]; refine Cont.mk (gb _) ?_; simp (disch:=omega) only [hf,hc4,hc50,hc51,h16,go_sem,seval,reduceCtorEq]; refine Cont.mk (go _) ?_; simp (disch:=omega) only [hf,hc4,hc50,hc51,h16,go_sem,seval,reduceCtorEq]; refine Cont.mk (henc _) ?_; rcases he2 with ⟨rfl,-⟩ | rfl
  ·have hne:¬ w2 = w:=λh=>hok ⟨rfl,h⟩
   simp (disch:=omega) only [go_sem,seval,reduceCtorEq]; exact Ret.drop _ H (Nat.le_refl _) hcl (.rfl _) (by simp [refs,refs.refsL]) ⟨rfl,rfl⟩
  ·simp (disch:=omega) only [go_sem,seval,reduceCtorEq]
   exact Ret.drop _ H (Nat.le_refl _) hcl (.rfl _) (by simp [refs,refs.refsL]) ⟨rfl,rfl⟩
theorem dec_1 (w:Int) (hw:U32 w) (hf:w / 1073741824 = 1):∃ x e,DecP w x e:=by
 have hw':=hw; obtain ⟨w0,w1⟩:=hw; have hA:=g4_rng (w / 16777216); have hB:=g4_rng (w / 1048576); have hO:=g4_rng (w / 65536); have hC:=g4_rng w; obtain ⟨U,hU⟩:∃ U,U = decide (((BitVec.ofInt IntKind.u32.bits (w / 536870912) &&& BitVec.ofInt IntKind.u32.bits 1).toNat:Int) % 4294967296 = 1):=⟨_,rfl⟩; obtain ⟨V,hV⟩:∃ V,V = decide (((BitVec.ofInt IntKind.u32.bits (w / 268435456) &&& BitVec.ofInt IntKind.u32.bits 1).toNat:Int) % 4294967296 = 1):=⟨_,rfl⟩; have ga:=get_c w 24 16777216 w0 w1 (by omega); have gb:=get_c w 20 1048576 w0 w1 (by omega); have go:=get_c w 16 65536 w0 w1 (by omega); obtain ⟨m20,r20,e20⟩:=ext_c w 20 hw' (.inl rfl); obtain ⟨m24,r24,e24⟩:=ext_c w 24 hw' (.inr rfl); have hc4:((BitVec.ofInt IntKind.u32.bits w &&& BitVec.ofInt IntKind.u32.bits 15).toNat:Int) % 4294967296 = g4 w:=rfl; have hc50:((@HAnd.hAnd (BitVec 32) (BitVec 32) (BitVec 32) (@instHAndOfAndOp (BitVec IntKind.u32.bits) (@BitVec.instAndOp IntKind.u32.bits)) (BitVec.ofInt 32 (w)) 15#32).toNat:Int) = g4 w:=(bvmod (BitVec.ofInt 32 w &&& 15#32)).symm; have hUp0:(((@HAnd.hAnd (BitVec 32) (BitVec 32) (BitVec 32) (@instHAndOfAndOp (BitVec IntKind.u32.bits) (@BitVec.instAndOp IntKind.u32.bits)) (BitVec.ofInt 32 (w / 536870912)) 1#32).toNat:Int) = 1) = (U = true):=by
  have e:=bvmod (BitVec.ofInt 32 (w / 536870912) &&& 1#32); rw [hU]; exact propext ⟨λh=>decide_eq_true (e.trans h),λh=>e.symm.trans (of_decide_eq_true h)⟩
 have hVp0:(((@HAnd.hAnd (BitVec 32) (BitVec 32) (BitVec 32) (@instHAndOfAndOp (BitVec IntKind.u32.bits) (@BitVec.instAndOp IntKind.u32.bits)) (BitVec.ofInt 32 (w / 268435456)) 1#32).toNat:Int) = 1) = (V = true):=by
  have e:=bvmod (BitVec.ofInt 32 (w / 268435456) &&& 1#32); rw [hV]; exact propext ⟨λh=>decide_eq_true (e.trans h),λh=>e.symm.trans (of_decide_eq_true h)⟩
 have hc51:((@HAnd.hAnd (BitVec 32) (BitVec 32) (BitVec 32) (@instHAndOfAndOp (BitVec IntKind.u32.bits) (@BitVec.instAndOp IntKind.u32.bits)) (BitVec.ofInt 32 (w)) (BitVec.ofInt 32 15)).toNat:Int) = g4 w:=(bvmod (BitVec.ofInt 32 w &&& 15#32)).symm; have hUp1:(((@HAnd.hAnd (BitVec 32) (BitVec 32) (BitVec 32) (@instHAndOfAndOp (BitVec IntKind.u32.bits) (@BitVec.instAndOp IntKind.u32.bits)) (BitVec.ofInt 32 (w / 536870912)) (BitVec.ofInt 32 1)).toNat:Int) = 1) = (U = true):=by
  have e:=bvmod (BitVec.ofInt 32 (w / 536870912) &&& 1#32); rw [hU]; exact propext ⟨λh=>decide_eq_true (e.trans h),λh=>e.symm.trans (of_decide_eq_true h)⟩
 have hVp1:(((@HAnd.hAnd (BitVec 32) (BitVec 32) (BitVec 32) (@instHAndOfAndOp (BitVec IntKind.u32.bits) (@BitVec.instAndOp IntKind.u32.bits)) (BitVec.ofInt 32 (w / 268435456)) (BitVec.ofInt 32 1)).toNat:Int) = 1) = (V = true):=by
  have e:=bvmod (BitVec.ofInt 32 (w / 268435456) &&& 1#32); rw [hV]; exact propext ⟨λh=>decide_eq_true (e.trans h),λh=>e.symm.trans (of_decide_eq_true h)⟩
 generalize hga:g4 (w / 16777216) = A at *
 generalize hgb:g4 (w / 1048576) = B at *
 generalize hgo:g4 (w / 65536) = O at *
 generalize hgc:g4 w = C at *
 have h16:IntKind.u16.wrap w = w % 65536:=by simp [IntKind.wrap,IntKind.bits,IntKind.signed]
 have hm:0<=w % 65536/\w % 65536 < 65536:=by omega
 obtain ⟨w2,e2,hw2,he2,henc⟩:=enc_c ⟨1,U,V,A,B,0,O,w % 65536⟩ (.inr (.inl rfl)) (InOk.i ⟨by simp only; omega,by simp only; omega,by simp only; omega,by simp only; omega,by simp only; omega,by simp only; omega⟩)
 by_cases hok:e2 = 0/\w2 = w
 ·obtain ⟨h1,h2⟩:=hok
  subst h1; rw [h2] at henc; have hgd:=he2.elim (λh=>h.2) (λh=>absurd h (by decide)); refine ⟨⟨1,U,V,A,B,0,O,w % 65536⟩,0,⟨by simp only; omega,by simp only; omega,by simp only; omega,by simp only; omega,by simp only; omega,by simp only; omega⟩,.inl ⟨rfl,hgd,henc⟩,λH=>?_⟩; refine ACalls.into Tryz.func108 cc108 rr108 λhcl=>?_
  simp (disch:=omega) only [Tryz.ntmps108,c108,r108,go_sem,seval,reduceCtorEq]; refine Cont.mk (ga _) ?_; simp (disch:=omega) only [hUp0,hVp0,hUp1,hVp1,Bool.decide_eq_true,go_sem,seval,reduceCtorEq]
  first | rw [<- hU,<- hV] | skip
  simp (disch:=omega) only [hf,hc4,hc50,hc51,h16,go_sem,seval,reduceCtorEq]; refine Cont.mk (gb _) ?_; simp (disch:=omega) only [hf,hc4,hc50,hc51,h16,go_sem,seval,reduceCtorEq]; refine Cont.mk (go _) ?_; simp (disch:=omega) only [hf,hc4,hc50,hc51,h16,go_sem,seval,reduceCtorEq]; refine Cont.mk (henc _) ?_; simp (disch:=omega) only [go_sem,seval,reduceCtorEq]; exact Ret.drop _ H (Nat.le_refl _) hcl (.rfl _) (by simp [refs,refs.refsL]) ⟨rfl,rfl⟩
 ·refine ⟨inZ,20,inZ_ok,.inr rfl,λH=>?_⟩
  refine ACalls.into Tryz.func108 cc108 rr108 λhcl=>?_
  simp (disch:=omega) only [Tryz.ntmps108,c108,r108,go_sem,seval,reduceCtorEq]; refine Cont.mk (ga _) ?_; simp (disch:=omega) only [hUp0,hVp0,hUp1,hVp1,Bool.decide_eq_true,go_sem,seval,reduceCtorEq]
  first | rw [<- hU,<- hV] | skip
  simp (disch:=omega) only [hf,hc4,hc50,hc51,h16,go_sem,seval,reduceCtorEq]; refine Cont.mk (gb _) ?_; simp (disch:=omega) only [hf,hc4,hc50,hc51,h16,go_sem,seval,reduceCtorEq]; refine Cont.mk (go _) ?_; simp (disch:=omega) only [hf,hc4,hc50,hc51,h16,go_sem,seval,reduceCtorEq]; refine Cont.mk (henc _) ?_; rcases he2 with ⟨rfl,-⟩ | rfl
  ·have hne:¬ w2 = w:=λh=>hok ⟨rfl,h⟩
   simp (disch:=omega) only [go_sem,seval,reduceCtorEq]; exact Ret.drop _ H (Nat.le_refl _) hcl (.rfl _) (by simp [refs,refs.refsL]) ⟨rfl,rfl⟩
  ·simp (disch:=omega) only [go_sem,seval,reduceCtorEq]
   exact Ret.drop _ H (Nat.le_refl _) hcl (.rfl _) (by simp [refs,refs.refsL]) ⟨rfl,rfl⟩
theorem dec_2 (w:Int) (hw:U32 w) (hf:w / 1073741824 = 2):∃ x e,DecP w x e:=by
 have hw':=hw; obtain ⟨w0,w1⟩:=hw; have hA:=g4_rng (w / 16777216); have hB:=g4_rng (w / 1048576); have hO:=g4_rng (w / 65536); have hC:=g4_rng w; obtain ⟨U,hU⟩:∃ U,U = decide (((BitVec.ofInt IntKind.u32.bits (w / 536870912) &&& BitVec.ofInt IntKind.u32.bits 1).toNat:Int) % 4294967296 = 1):=⟨_,rfl⟩; obtain ⟨V,hV⟩:∃ V,V = decide (((BitVec.ofInt IntKind.u32.bits (w / 268435456) &&& BitVec.ofInt IntKind.u32.bits 1).toNat:Int) % 4294967296 = 1):=⟨_,rfl⟩; have ga:=get_c w 24 16777216 w0 w1 (by omega); have gb:=get_c w 20 1048576 w0 w1 (by omega); have go:=get_c w 16 65536 w0 w1 (by omega); obtain ⟨m20,r20,e20⟩:=ext_c w 20 hw' (.inl rfl); obtain ⟨m24,r24,e24⟩:=ext_c w 24 hw' (.inr rfl); have hc4:((BitVec.ofInt IntKind.u32.bits w &&& BitVec.ofInt IntKind.u32.bits 15).toNat:Int) % 4294967296 = g4 w:=rfl; have hc50:((@HAnd.hAnd (BitVec 32) (BitVec 32) (BitVec 32) (@instHAndOfAndOp (BitVec IntKind.u32.bits) (@BitVec.instAndOp IntKind.u32.bits)) (BitVec.ofInt 32 (w)) 15#32).toNat:Int) = g4 w:=(bvmod (BitVec.ofInt 32 w &&& 15#32)).symm; have hUp0:(((@HAnd.hAnd (BitVec 32) (BitVec 32) (BitVec 32) (@instHAndOfAndOp (BitVec IntKind.u32.bits) (@BitVec.instAndOp IntKind.u32.bits)) (BitVec.ofInt 32 (w / 536870912)) 1#32).toNat:Int) = 1) = (U = true):=by
  have e:=bvmod (BitVec.ofInt 32 (w / 536870912) &&& 1#32); rw [hU]; exact propext ⟨λh=>decide_eq_true (e.trans h),λh=>e.symm.trans (of_decide_eq_true h)⟩
 have hVp0:(((@HAnd.hAnd (BitVec 32) (BitVec 32) (BitVec 32) (@instHAndOfAndOp (BitVec IntKind.u32.bits) (@BitVec.instAndOp IntKind.u32.bits)) (BitVec.ofInt 32 (w / 268435456)) 1#32).toNat:Int) = 1) = (V = true):=by
  have e:=bvmod (BitVec.ofInt 32 (w / 268435456) &&& 1#32); rw [hV]; exact propext ⟨λh=>decide_eq_true (e.trans h),λh=>e.symm.trans (of_decide_eq_true h)⟩
 have hc51:((@HAnd.hAnd (BitVec 32) (BitVec 32) (BitVec 32) (@instHAndOfAndOp (BitVec IntKind.u32.bits) (@BitVec.instAndOp IntKind.u32.bits)) (BitVec.ofInt 32 (w)) (BitVec.ofInt 32 15)).toNat:Int) = g4 w:=(bvmod (BitVec.ofInt 32 w &&& 15#32)).symm; have hUp1:(((@HAnd.hAnd (BitVec 32) (BitVec 32) (BitVec 32) (@instHAndOfAndOp (BitVec IntKind.u32.bits) (@BitVec.instAndOp IntKind.u32.bits)) (BitVec.ofInt 32 (w / 536870912)) (BitVec.ofInt 32 1)).toNat:Int) = 1) = (U = true):=by
  have e:=bvmod (BitVec.ofInt 32 (w / 536870912) &&& 1#32); rw [hU]; exact propext ⟨λh=>decide_eq_true (e.trans h),λh=>e.symm.trans (of_decide_eq_true h)⟩
 have hVp1:(((@HAnd.hAnd (BitVec 32) (BitVec 32) (BitVec 32) (@instHAndOfAndOp (BitVec IntKind.u32.bits) (@BitVec.instAndOp IntKind.u32.bits)) (BitVec.ofInt 32 (w / 268435456)) (BitVec.ofInt 32 1)).toNat:Int) = 1) = (V = true):=by
  have e:=bvmod (BitVec.ofInt 32 (w / 268435456) &&& 1#32); rw [hV]; exact propext ⟨λh=>decide_eq_true (e.trans h),λh=>e.symm.trans (of_decide_eq_true h)⟩
 generalize hga:g4 (w / 16777216) = A at *
 generalize hgb:g4 (w / 1048576) = B at *
 generalize hgo:g4 (w / 65536) = O at *
 generalize hgc:g4 w = C at *
 have h16:IntKind.u16.wrap w = w % 65536:=by simp [IntKind.wrap,IntKind.bits,IntKind.signed]
 have hm:0<=w % 65536/\w % 65536 < 65536:=by omega
 obtain ⟨w2,e2,hw2,he2,henc⟩:=enc_c ⟨2,U,V,A,B,0,0,m20⟩ (.inr (.inr (.inl rfl))) (InOk.i ⟨by simp only; omega,by simp only; omega,by simp only; omega,by simp only; omega,by simp only; omega,by simp only; omega⟩)
 by_cases hok:e2 = 0/\w2 = w
 ·obtain ⟨h1,h2⟩:=hok
  subst h1; rw [h2] at henc; have hgd:=he2.elim (λh=>h.2) (λh=>absurd h (by decide)); refine ⟨⟨2,U,V,A,B,0,0,m20⟩,0,⟨by simp only; omega,by simp only; omega,by simp only; omega,by simp only; omega,by simp only; omega,by simp only; omega⟩,.inl ⟨rfl,hgd,henc⟩,λH=>?_⟩; refine ACalls.into Tryz.func108 cc108 rr108 λhcl=>?_
  simp (disch:=omega) only [Tryz.ntmps108,c108,r108,go_sem,seval,reduceCtorEq]; refine Cont.mk (ga _) ?_; simp (disch:=omega) only [hUp0,hVp0,hUp1,hVp1,Bool.decide_eq_true,go_sem,seval,reduceCtorEq]
  first | rw [<- hU,<- hV] | skip
  simp (disch:=omega) only [hf,hc4,hc50,hc51,h16,go_sem,seval,reduceCtorEq]; refine Cont.mk (gb _) ?_; simp (disch:=omega) only [hf,hc4,hc50,hc51,h16,go_sem,seval,reduceCtorEq]; refine Cont.mk (e20 _) ?_; simp (disch:=omega) only [hf,hc4,hc50,hc51,h16,go_sem,seval,reduceCtorEq]; refine Cont.mk (henc _) ?_; simp (disch:=omega) only [go_sem,seval,reduceCtorEq]; exact Ret.drop _ H (Nat.le_refl _) hcl (.rfl _) (by simp [refs,refs.refsL]) ⟨rfl,rfl⟩
 ·refine ⟨inZ,20,inZ_ok,.inr rfl,λH=>?_⟩
  refine ACalls.into Tryz.func108 cc108 rr108 λhcl=>?_
  simp (disch:=omega) only [Tryz.ntmps108,c108,r108,go_sem,seval,reduceCtorEq]; refine Cont.mk (ga _) ?_; simp (disch:=omega) only [hUp0,hVp0,hUp1,hVp1,Bool.decide_eq_true,go_sem,seval,reduceCtorEq]
  first | rw [<- hU,<- hV] | skip
  simp (disch:=omega) only [hf,hc4,hc50,hc51,h16,go_sem,seval,reduceCtorEq]; refine Cont.mk (gb _) ?_; simp (disch:=omega) only [hf,hc4,hc50,hc51,h16,go_sem,seval,reduceCtorEq]; refine Cont.mk (e20 _) ?_; simp (disch:=omega) only [hf,hc4,hc50,hc51,h16,go_sem,seval,reduceCtorEq]; refine Cont.mk (henc _) ?_; rcases he2 with ⟨rfl,-⟩ | rfl
  ·have hne:¬ w2 = w:=λh=>hok ⟨rfl,h⟩
   simp (disch:=omega) only [go_sem,seval,reduceCtorEq]; exact Ret.drop _ H (Nat.le_refl _) hcl (.rfl _) (by simp [refs,refs.refsL]) ⟨rfl,rfl⟩
  ·simp (disch:=omega) only [go_sem,seval,reduceCtorEq]
   exact Ret.drop _ H (Nat.le_refl _) hcl (.rfl _) (by simp [refs,refs.refsL]) ⟨rfl,rfl⟩
theorem dec_3f (w:Int) (hw:U32 w) (hf:w / 1073741824 = 3) (hu:decide (((BitVec.ofInt IntKind.u32.bits (w / 536870912) &&& BitVec.ofInt IntKind.u32.bits 1).toNat:Int) % 4294967296 = 1) = false):∃ x e,DecP w x e:=by
 have hw':=hw; obtain ⟨w0,w1⟩:=hw; have hA:=g4_rng (w / 16777216); have hB:=g4_rng (w / 1048576); have hO:=g4_rng (w / 65536); have hC:=g4_rng w; obtain ⟨U,hU⟩:∃ U,U = decide (((BitVec.ofInt IntKind.u32.bits (w / 536870912) &&& BitVec.ofInt IntKind.u32.bits 1).toNat:Int) % 4294967296 = 1):=⟨_,rfl⟩; obtain ⟨V,hV⟩:∃ V,V = decide (((BitVec.ofInt IntKind.u32.bits (w / 268435456) &&& BitVec.ofInt IntKind.u32.bits 1).toNat:Int) % 4294967296 = 1):=⟨_,rfl⟩; have ga:=get_c w 24 16777216 w0 w1 (by omega); have gb:=get_c w 20 1048576 w0 w1 (by omega); have go:=get_c w 16 65536 w0 w1 (by omega); obtain ⟨m20,r20,e20⟩:=ext_c w 20 hw' (.inl rfl); obtain ⟨m24,r24,e24⟩:=ext_c w 24 hw' (.inr rfl); have hc4:((BitVec.ofInt IntKind.u32.bits w &&& BitVec.ofInt IntKind.u32.bits 15).toNat:Int) % 4294967296 = g4 w:=rfl; have hc50:((@HAnd.hAnd (BitVec 32) (BitVec 32) (BitVec 32) (@instHAndOfAndOp (BitVec IntKind.u32.bits) (@BitVec.instAndOp IntKind.u32.bits)) (BitVec.ofInt 32 (w)) 15#32).toNat:Int) = g4 w:=(bvmod (BitVec.ofInt 32 w &&& 15#32)).symm; have hUp0:(((@HAnd.hAnd (BitVec 32) (BitVec 32) (BitVec 32) (@instHAndOfAndOp (BitVec IntKind.u32.bits) (@BitVec.instAndOp IntKind.u32.bits)) (BitVec.ofInt 32 (w / 536870912)) 1#32).toNat:Int) = 1) = (U = true):=by
  have e:=bvmod (BitVec.ofInt 32 (w / 536870912) &&& 1#32); rw [hU]; exact propext ⟨λh=>decide_eq_true (e.trans h),λh=>e.symm.trans (of_decide_eq_true h)⟩
 have hVp0:(((@HAnd.hAnd (BitVec 32) (BitVec 32) (BitVec 32) (@instHAndOfAndOp (BitVec IntKind.u32.bits) (@BitVec.instAndOp IntKind.u32.bits)) (BitVec.ofInt 32 (w / 268435456)) 1#32).toNat:Int) = 1) = (V = true):=by
  have e:=bvmod (BitVec.ofInt 32 (w / 268435456) &&& 1#32); rw [hV]; exact propext ⟨λh=>decide_eq_true (e.trans h),λh=>e.symm.trans (of_decide_eq_true h)⟩
 have hc51:((@HAnd.hAnd (BitVec 32) (BitVec 32) (BitVec 32) (@instHAndOfAndOp (BitVec IntKind.u32.bits) (@BitVec.instAndOp IntKind.u32.bits)) (BitVec.ofInt 32 (w)) (BitVec.ofInt 32 15)).toNat:Int) = g4 w:=(bvmod (BitVec.ofInt 32 w &&& 15#32)).symm; have hUp1:(((@HAnd.hAnd (BitVec 32) (BitVec 32) (BitVec 32) (@instHAndOfAndOp (BitVec IntKind.u32.bits) (@BitVec.instAndOp IntKind.u32.bits)) (BitVec.ofInt 32 (w / 536870912)) (BitVec.ofInt 32 1)).toNat:Int) = 1) = (U = true):=by
  have e:=bvmod (BitVec.ofInt 32 (w / 536870912) &&& 1#32); rw [hU]; exact propext ⟨λh=>decide_eq_true (e.trans h),λh=>e.symm.trans (of_decide_eq_true h)⟩
 have hVp1:(((@HAnd.hAnd (BitVec 32) (BitVec 32) (BitVec 32) (@instHAndOfAndOp (BitVec IntKind.u32.bits) (@BitVec.instAndOp IntKind.u32.bits)) (BitVec.ofInt 32 (w / 268435456)) (BitVec.ofInt 32 1)).toNat:Int) = 1) = (V = true):=by
  have e:=bvmod (BitVec.ofInt 32 (w / 268435456) &&& 1#32); rw [hV]; exact propext ⟨λh=>decide_eq_true (e.trans h),λh=>e.symm.trans (of_decide_eq_true h)⟩
 generalize hga:g4 (w / 16777216) = A at *
 generalize hgb:g4 (w / 1048576) = B at *
 generalize hgo:g4 (w / 65536) = O at *
 generalize hgc:g4 w = C at *
 have h16:IntKind.u16.wrap w = w % 65536:=by simp [IntKind.wrap,IntKind.bits,IntKind.signed]
 have hm:0<=w % 65536/\w % 65536 < 65536:=by omega
 rw [hu] at hU; subst hU; obtain ⟨w2,e2,hw2,he2,henc⟩:=enc_c ⟨3,false,V,A,0,C,0,0⟩ (.inr (.inr (.inr rfl))) (InOk.i ⟨by simp only; omega,by simp only; omega,by simp only; omega,by simp only; omega,by simp only; omega,by simp only; omega⟩)
 by_cases hok:e2 = 0/\w2 = w
 ·obtain ⟨h1,h2⟩:=hok
  subst h1; rw [h2] at henc; have hgd:=he2.elim (λh=>h.2) (λh=>absurd h (by decide)); refine ⟨⟨3,false,V,A,0,C,0,0⟩,0,⟨by simp only; omega,by simp only; omega,by simp only; omega,by simp only; omega,by simp only; omega,by simp only; omega⟩,.inl ⟨rfl,hgd,henc⟩,λH=>?_⟩; refine ACalls.into Tryz.func108 cc108 rr108 λhcl=>?_
  simp (disch:=omega) only [Tryz.ntmps108,c108,r108,go_sem,seval,reduceCtorEq]; refine Cont.mk (ga _) ?_; simp (disch:=omega) only [hUp0,hVp0,hUp1,hVp1,Bool.decide_eq_true,go_sem,seval,reduceCtorEq]
  first | rw [hu,<- hV] | skip
  simp (disch:=omega) only [hf,hc4,hc50,hc51,h16,go_sem,seval,reduceCtorEq]; refine Cont.mk (henc _) ?_; simp (disch:=omega) only [go_sem,seval,reduceCtorEq]; exact Ret.drop _ H (Nat.le_refl _) hcl (.rfl _) (by simp [refs,refs.refsL]) ⟨rfl,rfl⟩
 ·refine ⟨inZ,20,inZ_ok,.inr rfl,λH=>?_⟩
  refine ACalls.into Tryz.func108 cc108 rr108 λhcl=>?_
  simp (disch:=omega) only [Tryz.ntmps108,c108,r108,go_sem,seval,reduceCtorEq]; refine Cont.mk (ga _) ?_; simp (disch:=omega) only [hUp0,hVp0,hUp1,hVp1,Bool.decide_eq_true,go_sem,seval,reduceCtorEq]
  first | rw [hu,<- hV] | skip
  simp (disch:=omega) only [hf,hc4,hc50,hc51,h16,go_sem,seval,reduceCtorEq]; refine Cont.mk (henc _) ?_; rcases he2 with ⟨rfl,-⟩ | rfl
  ·have hne:¬ w2 = w:=λh=>hok ⟨rfl,h⟩
   simp (disch:=omega) only [go_sem,seval,reduceCtorEq]; exact Ret.drop _ H (Nat.le_refl _) hcl (.rfl _) (by simp [refs,refs.refsL]) ⟨rfl,rfl⟩
  ·simp (disch:=omega) only [go_sem,seval,reduceCtorEq]
   exact Ret.drop _ H (Nat.le_refl _) hcl (.rfl _) (by simp [refs,refs.refsL]) ⟨rfl,rfl⟩
theorem dec_3t (w:Int) (hw:U32 w) (hf:w / 1073741824 = 3) (hu:decide (((BitVec.ofInt IntKind.u32.bits (w / 536870912) &&& BitVec.ofInt IntKind.u32.bits 1).toNat:Int) % 4294967296 = 1) = true):∃ x e,DecP w x e:=by
 have hw':=hw; obtain ⟨w0,w1⟩:=hw; have hA:=g4_rng (w / 16777216); have hB:=g4_rng (w / 1048576); have hO:=g4_rng (w / 65536); have hC:=g4_rng w; obtain ⟨U,hU⟩:∃ U,U = decide (((BitVec.ofInt IntKind.u32.bits (w / 536870912) &&& BitVec.ofInt IntKind.u32.bits 1).toNat:Int) % 4294967296 = 1):=⟨_,rfl⟩; obtain ⟨V,hV⟩:∃ V,V = decide (((BitVec.ofInt IntKind.u32.bits (w / 268435456) &&& BitVec.ofInt IntKind.u32.bits 1).toNat:Int) % 4294967296 = 1):=⟨_,rfl⟩; have ga:=get_c w 24 16777216 w0 w1 (by omega); have gb:=get_c w 20 1048576 w0 w1 (by omega); have go:=get_c w 16 65536 w0 w1 (by omega); obtain ⟨m20,r20,e20⟩:=ext_c w 20 hw' (.inl rfl); obtain ⟨m24,r24,e24⟩:=ext_c w 24 hw' (.inr rfl); have hc4:((BitVec.ofInt IntKind.u32.bits w &&& BitVec.ofInt IntKind.u32.bits 15).toNat:Int) % 4294967296 = g4 w:=rfl; have hc50:((@HAnd.hAnd (BitVec 32) (BitVec 32) (BitVec 32) (@instHAndOfAndOp (BitVec IntKind.u32.bits) (@BitVec.instAndOp IntKind.u32.bits)) (BitVec.ofInt 32 (w)) 15#32).toNat:Int) = g4 w:=(bvmod (BitVec.ofInt 32 w &&& 15#32)).symm; have hUp0:(((@HAnd.hAnd (BitVec 32) (BitVec 32) (BitVec 32) (@instHAndOfAndOp (BitVec IntKind.u32.bits) (@BitVec.instAndOp IntKind.u32.bits)) (BitVec.ofInt 32 (w / 536870912)) 1#32).toNat:Int) = 1) = (U = true):=by
  have e:=bvmod (BitVec.ofInt 32 (w / 536870912) &&& 1#32); rw [hU]; exact propext ⟨λh=>decide_eq_true (e.trans h),λh=>e.symm.trans (of_decide_eq_true h)⟩
 have hVp0:(((@HAnd.hAnd (BitVec 32) (BitVec 32) (BitVec 32) (@instHAndOfAndOp (BitVec IntKind.u32.bits) (@BitVec.instAndOp IntKind.u32.bits)) (BitVec.ofInt 32 (w / 268435456)) 1#32).toNat:Int) = 1) = (V = true):=by
  have e:=bvmod (BitVec.ofInt 32 (w / 268435456) &&& 1#32); rw [hV]; exact propext ⟨λh=>decide_eq_true (e.trans h),λh=>e.symm.trans (of_decide_eq_true h)⟩
 have hc51:((@HAnd.hAnd (BitVec 32) (BitVec 32) (BitVec 32) (@instHAndOfAndOp (BitVec IntKind.u32.bits) (@BitVec.instAndOp IntKind.u32.bits)) (BitVec.ofInt 32 (w)) (BitVec.ofInt 32 15)).toNat:Int) = g4 w:=(bvmod (BitVec.ofInt 32 w &&& 15#32)).symm; have hUp1:(((@HAnd.hAnd (BitVec 32) (BitVec 32) (BitVec 32) (@instHAndOfAndOp (BitVec IntKind.u32.bits) (@BitVec.instAndOp IntKind.u32.bits)) (BitVec.ofInt 32 (w / 536870912)) (BitVec.ofInt 32 1)).toNat:Int) = 1) = (U = true):=by
  have e:=bvmod (BitVec.ofInt 32 (w / 536870912) &&& 1#32); rw [hU]; exact propext ⟨λh=>decide_eq_true (e.trans h),λh=>e.symm.trans (of_decide_eq_true h)⟩
 have hVp1:(((@HAnd.hAnd (BitVec 32) (BitVec 32) (BitVec 32) (@instHAndOfAndOp (BitVec IntKind.u32.bits) (@BitVec.instAndOp IntKind.u32.bits)) (BitVec.ofInt 32 (w / 268435456)) (BitVec.ofInt 32 1)).toNat:Int) = 1) = (V = true):=by
  have e:=bvmod (BitVec.ofInt 32 (w / 268435456) &&& 1#32); rw [hV]; exact propext ⟨λh=>decide_eq_true (e.trans h),λh=>e.symm.trans (of_decide_eq_true h)⟩
 generalize hga:g4 (w / 16777216) = A at *
 generalize hgb:g4 (w / 1048576) = B at *
 generalize hgo:g4 (w / 65536) = O at *
 generalize hgc:g4 w = C at *
 have h16:IntKind.u16.wrap w = w % 65536:=by simp [IntKind.wrap,IntKind.bits,IntKind.signed]
 have hm:0<=w % 65536/\w % 65536 < 65536:=by omega
 rw [hu] at hU; subst hU; obtain ⟨w2,e2,hw2,he2,henc⟩:=enc_c ⟨3,true,V,A,0,0,0,m24⟩ (.inr (.inr (.inr rfl))) (InOk.i ⟨by simp only; omega,by simp only; omega,by simp only; omega,by simp only; omega,by simp only; omega,by simp only; omega⟩)
 by_cases hok:e2 = 0/\w2 = w
 ·obtain ⟨h1,h2⟩:=hok
  subst h1; rw [h2] at henc; have hgd:=he2.elim (λh=>h.2) (λh=>absurd h (by decide)); refine ⟨⟨3,true,V,A,0,0,0,m24⟩,0,⟨by simp only; omega,by simp only; omega,by simp only; omega,by simp only; omega,by simp only; omega,by simp only; omega⟩,.inl ⟨rfl,hgd,henc⟩,λH=>?_⟩; refine ACalls.into Tryz.func108 cc108 rr108 λhcl=>?_
  simp (disch:=omega) only [Tryz.ntmps108,c108,r108,go_sem,seval,reduceCtorEq]; refine Cont.mk (ga _) ?_; simp (disch:=omega) only [hUp0,hVp0,hUp1,hVp1,Bool.decide_eq_true,go_sem,seval,reduceCtorEq]
  first | rw [hu,<- hV] | skip
  simp (disch:=omega) only [hf,hc4,hc50,hc51,h16,go_sem,seval,reduceCtorEq]; refine Cont.mk (e24 _) ?_; simp (disch:=omega) only [hf,hc4,hc50,hc51,h16,go_sem,seval,reduceCtorEq]; refine Cont.mk (henc _) ?_; simp (disch:=omega) only [go_sem,seval,reduceCtorEq]; exact Ret.drop _ H (Nat.le_refl _) hcl (.rfl _) (by simp [refs,refs.refsL]) ⟨rfl,rfl⟩
 ·refine ⟨inZ,20,inZ_ok,.inr rfl,λH=>?_⟩
  refine ACalls.into Tryz.func108 cc108 rr108 λhcl=>?_
  simp (disch:=omega) only [Tryz.ntmps108,c108,r108,go_sem,seval,reduceCtorEq]; refine Cont.mk (ga _) ?_; simp (disch:=omega) only [hUp0,hVp0,hUp1,hVp1,Bool.decide_eq_true,go_sem,seval,reduceCtorEq]
  first | rw [hu,<- hV] | skip
  simp (disch:=omega) only [hf,hc4,hc50,hc51,h16,go_sem,seval,reduceCtorEq]; refine Cont.mk (e24 _) ?_; simp (disch:=omega) only [hf,hc4,hc50,hc51,h16,go_sem,seval,reduceCtorEq]; refine Cont.mk (henc _) ?_; rcases he2 with ⟨rfl,-⟩ | rfl
  ·have hne:¬ w2 = w:=λh=>hok ⟨rfl,h⟩
   simp (disch:=omega) only [go_sem,seval,reduceCtorEq]; exact Ret.drop _ H (Nat.le_refl _) hcl (.rfl _) (by simp [refs,refs.refsL]) ⟨rfl,rfl⟩
  ·simp (disch:=omega) only [go_sem,seval,reduceCtorEq]
   exact Ret.drop _ H (Nat.le_refl _) hcl (.rfl _) (by simp [refs,refs.refsL]) ⟨rfl,rfl⟩
theorem dec_ex (w:Int) (hw:U32 w):∃ x e,DecP w x e:=by
 have hf:w / 1073741824 = 0\/w / 1073741824 = 1\/w / 1073741824 = 2\/w / 1073741824 = 3:=by omega
 rcases hf with hf | hf | hf | hf
 ·exact dec_0 w hw hf
 ·exact dec_1 w hw hf
 ·exact dec_2 w hw hf
 ·cases hu:decide (((BitVec.ofInt IntKind.u32.bits (w / 536870912) &&& BitVec.ofInt IntKind.u32.bits 1).toNat:Int) % 4294967296 = 1)
  ·exact dec_3f w hw hf hu
  ·exact dec_3t w hw hf hu
end Go.Proofs.YtofpekbidngnfaaGreatDoor
