/- What the register instructions reckon: words out of words. -/
import Derived.Test.YtofpekbidngnfaaGreatDoorYR4
set_option linter.unusedSectionVars false
set_option linter.unusedSimpArgs false
set_option linter.unusedVariables false
set_option maxHeartbeats 1000000
set_option maxRecDepth 20000
namespace Go.Proofs.YtofpekbidngnfaaGreatDoor
open Go.RowKit
def c268:AC:=
 sr [kn 4 (.mv (.c (.d (.v (.int .u32 0)))))]
 (sr [im 5 t0,im 6 t1,kn 7 (.bin .rem t6 (.c (.d (.v (.int .u32 32))))),ib 8 .shl t5 t7,im 4 t8]
 (.ret))
def r268:List RC:=[.t 4]
def c269:AC:=
 sr [kn 4 (.mv (.c (.d (.v (.int .u32 0)))))]
 (sr [im 5 t0,kn 6 (.cvi .i32 t5),im 7 t1,kn 8 (.bin .rem t7 (.c (.d (.v (.int .u32 32))))),ib 9 .shr t6 t8,kn 10 (.cvi .u32 t9),im 4 t10]
 (.ret))
def r269:List RC:=[.t 4]
def c270:AC:=
 sr [kn 4 (.mv (.c (.d (.v (.int .u32 0)))))]
 (sr [im 5 t0,im 6 t1,kn 7 (.bin .rem t6 (.c (.d (.v (.int .u32 32))))),kn 8 (.cvi .i64 t7),kn 9 (.un .neg t8),ic 10 362 [t5,t9],im 4 t10]
 (.ret))
def r270:List RC:=[.t 4]
def c271:AC:=
 sr [im 2 kF]
 (sr [im 3 t0,im 4 t0,kn 5 (.cvi .i32 t4),kn 6 (.cvi .i64 t5),ib 7 .neq t3 t6,im 2 t7]
 (.ret))
def r271:List RC:=[.t 2]
def c272:AC:=
 sr [kn 6 (.mv (.c (.d (.v (.int .u32 0))))),kn 7 (.mv (.c (.d (.v (.int .u32 0)))))]
 (sr [im 9 t1,kn 10 (.cvi .u64 t9),im 11 t2,kn 12 (.cvi .u64 t11),ib 13 .mul t10 t12,im 8 t13]
 (.seq (sr [im 14 t0,kn 15 (.un .not t14)]
 (.cond t15 (.reg [im 16 t1,kn 17 (.cvi .i32 t16),kn 18 (.cvi .i64 t17),im 19 t2,kn 20 (.cvi .i32 t19),kn 21 (.cvi .i64 t20),ib 22 .mul t18 t21,kn 23 (.cvi .u64 t22),im 8 t23]) (.skip)))
 (sr [im 24 t8,kn 25 (.cvi .u32 t24),im 26 t8,kn 27 (.bin .shr t26 (.c (.d (.v (.int .u64 32))))),kn 28 (.cvi .u32 t27),im 6 t25,im 7 t28]
 (.ret))))
def r272:List RC:=[.t 6,.t 7]
def c273:AC:=
 sr [kn 4 (.mv (.c (.d (.v (.int .u32 0))))),kn 5 (.mv (.c (.d (.v (.int .u32 0)))))]
 (sr [im 10 t0,kn 11 (.cvi .i32 t10),kn 12 (.cvi .i64 t11),im 13 t1,kn 14 (.cvi .i32 t13),kn 15 (.cvi .i64 t14),im 6 t12,im 7 t15]
 (.seq (sr [im 16 t7,ib 17 .leq t16 (kc 0)]
 (.cond t17 (sr [im 18 t0,kn 4 (.mv (.c (.d (.v (.int .u32 0))))),im 5 t18]
 (.ret)) (.skip)))
 (.seq (.dreg [[],[],[0,1],[],[],[3,4],[2,0,1,2],[5,6,0,1,2,3,4,5,6]] [im 19 t6,im 20 t7,ib 21 .quo t19 t20,im 22 t6,im 23 t7,ib 24 .rem t22 t23,im 8 t21,im 9 t24])
 (.seq (sr [im 25 t9,ib 26 .lss t25 (kc 0)]
 (.cond t26 (.reg [im 27 t8,ib 28 .sub t27 (kc 1),im 29 t9,im 30 t7,ib 31 .add t29 t30,im 8 t28,im 9 t31]) (.skip)))
 (sr [im 32 t8,kn 33 (.cvi .u32 t32),im 34 t9,kn 35 (.cvi .u32 t34),im 4 t33,im 5 t35]
 (.ret))))))
def r273:List RC:=[.t 4,.t 5]
def c362:AC:=
 sr [kn 4 (.mv (.c (.d (.v (.int .u32 0)))))]
 (sr [im 6 t1,kn 7 (.cvi .u64 t6),kn 8 (.bin .and t7 (.c (.d (.v (.int .u64 31))))),im 5 t8]
 (sr [im 9 t0,im 10 t5,ib 11 .shl t9 t10,im 12 t0,im 13 t5,kn 14 (.bin .sub (.c (.d (.v (.int .u64 32)))) t13),ib 15 .shr t12 t14,ib 16 .or t11 t15,im 4 t16]
 (.ret)))
def r362:List RC:=[.t 4]
theorem cc268:cKc Tryz.f268 (hh 268) c268:=by unfold cKc; kernel_rfl
theorem rr268:resC Tryz.prog Tryz.f268 = some r268:=by kernel_rfl
theorem cc269:cKc Tryz.f269 (hh 269) c269:=by unfold cKc; kernel_rfl
theorem rr269:resC Tryz.prog Tryz.f269 = some r269:=by kernel_rfl
theorem cc270:cKc Tryz.f270 (hh 270) c270:=by unfold cKc; kernel_rfl
theorem rr270:resC Tryz.prog Tryz.f270 = some r270:=by kernel_rfl
theorem cc271:cKc Tryz.f271 (hh 271) c271:=by unfold cKc; kernel_rfl
theorem rr271:resC Tryz.prog Tryz.f271 = some r271:=by kernel_rfl
theorem cc272:cKc Tryz.f272 (hh 272) c272:=by unfold cKc; kernel_rfl
theorem rr272:resC Tryz.prog Tryz.f272 = some r272:=by kernel_rfl
theorem cc273:cKc Tryz.f273 (hh 273) c273:=by unfold cKc; kernel_rfl
theorem rr273:resC Tryz.prog Tryz.f273 = some r273:=by kernel_rfl
theorem cc362:cKc Tryz.f362 (hh 362) c362:=by unfold cKc; kernel_rfl
theorem rr362:resC Tryz.prog Tryz.f362 = some r362:=by kernel_rfl
theorem u32_wrap (n:Int):U32 (IntKind.u32.wrap n):=by
 have h:IntKind.u32.wrap n = n % 4294967296:=by simp [IntKind.wrap,IntKind.bits,IntKind.signed]
 rw [h]; exact u32_mod n
theorem i32r (n:Int):-2147483648<=IntKind.i32.wrap n/\IntKind.i32.wrap n < 2147483648:=by
 have h:IntKind.i32.wrap n = if n % 4294967296 ≥ 2147483648 then n % 4294967296 - 4294967296 else n % 4294967296:=by
  simp [IntKind.wrap,IntKind.bits,IntKind.signed]
 rw [h]; have h0:0<=n % 4294967296:=Int.emod_nonneg _ (by decide); have h1:n % 4294967296 < 4294967296:=Int.emod_lt_of_pos _ (by decide)
 split <;> constructor <;> omega
theorem lsl_c (x n:Int) (hx:U32 x) (hn:U32 n):∃ r,U32 r/\∀ H,ACalls Tryz.prog 268 [wv x,wv n] H λv H'=>v = wv r/\H' = H:=by
 obtain ⟨x0,x1⟩:=hx; obtain ⟨n0,n1⟩:=hn
 apply Exists.intro
 refine ⟨?_,λH=>?_⟩
 rotate_left
 ·refine ACalls.into Tryz.func268 cc268 rr268 λhcl=>?_
  simp (disch:=omega) only [Tryz.ntmps268,c268,r268,go_sem,seval,reduceCtorEq]; exact Ret.keep ⟨rfl,rfl⟩
 ·first | exact u32_mod _ | exact u32_wrap _ | exact u32_bv _ | exact ⟨by omega,by omega⟩
theorem asr_c (x n:Int) (hx:U32 x) (hn:U32 n):∃ r,U32 r/\∀ H,ACalls Tryz.prog 269 [wv x,wv n] H λv H'=>v = wv r/\H' = H:=by
 obtain ⟨x0,x1⟩:=hx; obtain ⟨n0,n1⟩:=hn
 apply Exists.intro
 refine ⟨?_,λH=>?_⟩
 rotate_left
 ·refine ACalls.into Tryz.func269 cc269 rr269 λhcl=>?_
  simp (disch:=omega) only [Tryz.ntmps269,c269,r269,go_sem,seval,reduceCtorEq]; exact Ret.keep ⟨rfl,rfl⟩
 ·first | exact u32_mod _ | exact u32_wrap _ | exact u32_bv _ | exact ⟨by omega,by omega⟩
theorem and31 (m:Int):∃ K,IntKind.u64.wrap ((BitVec.ofInt IntKind.u64.bits m &&& BitVec.ofInt IntKind.u64.bits 31).toNat:Int) = K/\0<=K/\K<=31:=by
 refine ⟨_,rfl,?_⟩; have h1:(BitVec.ofInt IntKind.u64.bits m &&& BitVec.ofInt IntKind.u64.bits 31).toNat<=31:=by
  rw [BitVec.toNat_and]; exact Nat.and_le_right
 generalize (BitVec.ofInt IntKind.u64.bits m &&& BitVec.ofInt IntKind.u64.bits 31).toNat = q at *
 have h:IntKind.u64.wrap (q:Int) = (q:Int) % 18446744073709551616:=by simp [IntKind.wrap,IntKind.bits,IntKind.signed]
 rw [h]; omega
theorem rot_c (x n:Int) (hx:U32 x):∃ r,U32 r/\∀ H,ACalls Tryz.prog 362 [wv x,iv n] H λv H'=>v = wv r/\H' = H:=by
 obtain ⟨x0,x1⟩:=hx; obtain ⟨K,hK,k0,k1⟩:=and31 (IntKind.u64.wrap n); have hK2:=hK
 try simp only [go_sem,seval,reduceCtorEq] at hK2
 apply Exists.intro
 refine ⟨?_,λH=>?_⟩
 rotate_left
 ·refine ACalls.into Tryz.func362 cc362 rr362 λhcl=>?_
  simp (disch:=omega) only [Tryz.ntmps362,c362,r362,hK,hK2,go_sem,seval,reduceCtorEq]; exact Ret.keep ⟨rfl,rfl⟩
 ·first | exact u32_mod _ | exact u32_wrap _ | exact u32_bv _ | exact ⟨by omega,by omega⟩
theorem ror_c (x n:Int) (hx:U32 x) (hn:U32 n):∃ r,U32 r/\∀ H,ACalls Tryz.prog 270 [wv x,wv n] H λv H'=>v = wv r/\H' = H:=by
 obtain ⟨r,hr,h⟩:=rot_c x (0 - n % 32) hx; obtain ⟨x0,x1⟩:=hx; obtain ⟨n0,n1⟩:=hn; refine ⟨r,hr,λH=>?_⟩; refine ACalls.into Tryz.func270 cc270 rr270 λhcl=>?_
 simp (disch:=omega) only [Tryz.ntmps270,c270,r270,go_sem,seval,reduceCtorEq]; refine Cont.mk (h _) ?_; simp (disch:=omega) only [go_sem,seval,reduceCtorEq]; exact Ret.keep ⟨rfl,rfl⟩
theorem over_c (n:Int):∃ b,∀ H,ACalls Tryz.prog 271 [iv n] H λv H'=>v = bv b/\H' = H:=by
 apply Exists.intro
 refine λH=>?_
 refine ACalls.into Tryz.func271 cc271 rr271 λhcl=>?_
 simp (disch:=omega) only [Tryz.ntmps271,c271,r271,go_sem,seval,reduceCtorEq]; exact Ret.keep ⟨rfl,rfl⟩
theorem prod_c (u:Bool) (b n:Int) (hb:U32 b) (hn:U32 n):∃ p q,U32 p/\U32 q/\∀ H,ACalls Tryz.prog 272 [bv u,wv b,wv n] H λv H'=>v = .tup [wv p,wv q]/\H' = H:=by
 obtain ⟨b0,b1⟩:=hb; obtain ⟨n0,n1⟩:=hn
 cases u <;> (
  apply Exists.intro
  apply Exists.intro
  refine ⟨?_,?_,λH=>?_⟩
  rotate_left 2
  ·refine ACalls.into Tryz.func272 cc272 rr272 λhcl=>?_
   simp (disch:=omega) only [Tryz.ntmps272,c272,r272,go_sem,seval,reduceCtorEq]; exact Ret.keep ⟨rfl,rfl⟩
  ·first | exact u32_mod _ | exact u32_wrap _ | exact u32_bv _ | exact ⟨by omega,by omega⟩
  ·first | exact u32_mod _ | exact u32_wrap _ | exact u32_bv _ | exact ⟨by omega,by omega⟩)
theorem quot_c (b n:Int) (hb:U32 b) (hn:U32 n):∃ p q,U32 p/\U32 q/\∀ H,ACalls Tryz.prog 273 [wv b,wv n] H λv H'=>v = .tup [wv p,wv q]/\H' = H:=by
 obtain ⟨b0,b1⟩:=hb; obtain ⟨n0,n1⟩:=hn; have hx:=i32r b; have hy:=i32r n; have ex:IntKind.i64.wrap (IntKind.i32.wrap b) = IntKind.i32.wrap b:=w_i64 (by omega) (by omega); have ey:IntKind.i64.wrap (IntKind.i32.wrap n) = IntKind.i32.wrap n:=w_i64 (by omega) (by omega)
 generalize hxx:IntKind.i32.wrap b = x at *
 generalize hyy:IntKind.i32.wrap n = y at *
 by_cases h0:y<=0
 ·refine ⟨0,b,by decide,⟨b0,b1⟩,λH=>?_⟩
  refine ACalls.into Tryz.func273 cc273 rr273 λhcl=>?_
  simp (disch:=omega) only [Tryz.ntmps273,c273,r273,hxx,hyy,ex,ey,go_sem,seval,reduceCtorEq]; exact Ret.keep ⟨rfl,rfl⟩
 have hq:-2147483648<=x.tdiv y/\x.tdiv y<=2147483648:=by
  have h1:(x.tdiv y).natAbs<=x.natAbs:=by rw [Int.natAbs_tdiv]; exact Nat.div_le_self ..
  omega
 have hm:-2147483648<=x.tmod y/\x.tmod y<=2147483648:=by
  have h1:(x.tmod y).natAbs<=x.natAbs:=by rw [Int.natAbs_tmod]; exact Nat.mod_le ..
  omega
 have y0:¬ y = 0:=by omega
 by_cases h2:x.tmod y < 0
 all_goals (
  apply Exists.intro
  apply Exists.intro
  refine ⟨?_,?_,λH=>?_⟩
  rotate_left 2
  ·refine ACalls.into Tryz.func273 cc273 rr273 λhcl=>?_
   simp (disch:=omega) only [Tryz.ntmps273,c273,r273,hxx,hyy,ex,ey,go_sem,seval,reduceCtorEq]; refine W.pchain follows (by decide +kernel) ?_; simp (disch:=omega) only [go_sem,seval,reduceCtorEq]; exact Ret.keep ⟨rfl,rfl⟩
  ·first | exact u32_mod _ | exact u32_wrap _ | exact u32_bv _ | exact ⟨by omega,by omega⟩
  ·first | exact u32_mod _ | exact u32_wrap _ | exact u32_bv _ | exact ⟨by omega,by omega⟩)
structure Fl where
 n:Bool
 z:Bool
 c:Bool
 v:Bool
abbrev Fl.cs (f:Fl):List AV:=[bv f.n,bv f.z,bv f.c,bv f.v]
abbrev Fl.av (f:Fl):AV:=.agg f.cs
noncomputable def overF (n:Int):Bool:=(over_c n).choose
theorem over2 (n:Int) (H:List ABlk):ACalls Tryz.prog 271 [iv n] H λv H'=>v = bv (overF n)/\H' = H:=(over_c n).choose_spec H
theorem do_1 (b n h:Int) (fn fz fc fv:Bool) (hb:U32 b) (hn:U32 n) (hh:U32 h):∃ r h2 n2 z2 c2 v2 ok,U32 r/\U32 h2/\∀ H,ACalls Tryz.prog 183 [iv 1,bv false,wv b,wv n,wv h,.agg [bv fn,bv fz,bv fc,bv fv]] H λv H'=>v = .tup [wv r,wv h2,.agg [bv n2,bv z2,bv c2,bv v2],bv ok]/\H' = H:=by
 obtain ⟨r0,hr0,c0⟩:=lsl_c b n hb hn; have hb2:=hb; have hn2:=hn; have hh2:=hh; obtain ⟨b0,b1⟩:=hb; obtain ⟨n0,n1⟩:=hn; obtain ⟨h00,h01⟩:=hh
 iterate 7 (apply Exists.intro)
 refine ⟨?_,?_,λH=>?_⟩
 rotate_left 2
 ·refine ACalls.into Tryz.func183 cc183 rr183 λhcl=>?_
  simp (disch:=omega) only [Tryz.ntmps183,c183,r183,go_sem,seval,reduceCtorEq]; refine Cont.mk (c0 _) ?_; simp (disch:=omega) only [go_sem,seval,reduceCtorEq]; refine W.dregD [([],[]),([],[]),([],[]),([],[]),([],[]),([H.length + 1],[]),([],[])] follows (by decide +kernel) rfl rfl (λz hz b' hb'=>?_) ?_
  ·simp only [List.mem_cons,List.not_mem_nil,or_false] at hz
   rcases hz with rfl | rfl | rfl | rfl | rfl | rfl | rfl <;> simp at hb' <;> subst hb' <;> exact ⟨by simp,by simp⟩
  repeat (rw [DC_p]; simp (disch:=omega) only [kill_c,go_sem,seval,reduceCtorEq])
  refine WStep.ev (by simp) (by simp) ?_; simp (disch:=omega) only [go_sem,seval,reduceCtorEq]; refine ⟨FrOk.put 1 _ (by simp) rfl,?_⟩
  repeat (rw [DC_p]; simp (disch:=omega) only [kill_c,go_sem,seval,reduceCtorEq])
  try simp (disch:=omega) only [go_sem,seval,reduceCtorEq]
  exact Ret.drop _ H (Nat.le_refl _) hcl (.rfl _) (by simp [refs,refs.refsL]) ⟨rfl,rfl⟩
 ·first | assumption | exact u32_mod _ | exact u32_wrap _ | exact u32_bv _ | exact ⟨by omega,by omega⟩
 ·first | assumption | exact u32_mod _ | exact u32_wrap _ | exact u32_bv _ | exact ⟨by omega,by omega⟩
theorem do_2 (b n h:Int) (fn fz fc fv:Bool) (hb:U32 b) (hn:U32 n) (hh:U32 h):∃ r h2 n2 z2 c2 v2 ok,U32 r/\U32 h2/\∀ H,ACalls Tryz.prog 183 [iv 2,bv false,wv b,wv n,wv h,.agg [bv fn,bv fz,bv fc,bv fv]] H λv H'=>v = .tup [wv r,wv h2,.agg [bv n2,bv z2,bv c2,bv v2],bv ok]/\H' = H:=by
 obtain ⟨r0,hr0,c0⟩:=asr_c b n hb hn; have hb2:=hb; have hn2:=hn; have hh2:=hh; obtain ⟨b0,b1⟩:=hb; obtain ⟨n0,n1⟩:=hn; obtain ⟨h00,h01⟩:=hh
 iterate 7 (apply Exists.intro)
 refine ⟨?_,?_,λH=>?_⟩
 rotate_left 2
 ·refine ACalls.into Tryz.func183 cc183 rr183 λhcl=>?_
  simp (disch:=omega) only [Tryz.ntmps183,c183,r183,go_sem,seval,reduceCtorEq]; refine Cont.mk (c0 _) ?_; simp (disch:=omega) only [go_sem,seval,reduceCtorEq]; refine W.dregD [([],[]),([],[]),([],[]),([],[]),([],[]),([H.length + 1],[]),([],[])] follows (by decide +kernel) rfl rfl (λz hz b' hb'=>?_) ?_
  ·simp only [List.mem_cons,List.not_mem_nil,or_false] at hz
   rcases hz with rfl | rfl | rfl | rfl | rfl | rfl | rfl <;> simp at hb' <;> subst hb' <;> exact ⟨by simp,by simp⟩
  repeat (rw [DC_p]; simp (disch:=omega) only [kill_c,go_sem,seval,reduceCtorEq])
  refine WStep.ev (by simp) (by simp) ?_; simp (disch:=omega) only [go_sem,seval,reduceCtorEq]; refine ⟨FrOk.put 1 _ (by simp) rfl,?_⟩
  repeat (rw [DC_p]; simp (disch:=omega) only [kill_c,go_sem,seval,reduceCtorEq])
  try simp (disch:=omega) only [go_sem,seval,reduceCtorEq]
  exact Ret.drop _ H (Nat.le_refl _) hcl (.rfl _) (by simp [refs,refs.refsL]) ⟨rfl,rfl⟩
 ·first | assumption | exact u32_mod _ | exact u32_wrap _ | exact u32_bv _ | exact ⟨by omega,by omega⟩
 ·first | assumption | exact u32_mod _ | exact u32_wrap _ | exact u32_bv _ | exact ⟨by omega,by omega⟩
theorem do_3 (b n h:Int) (fn fz fc fv:Bool) (hb:U32 b) (hn:U32 n) (hh:U32 h):∃ r h2 n2 z2 c2 v2 ok,U32 r/\U32 h2/\∀ H,ACalls Tryz.prog 183 [iv 3,bv false,wv b,wv n,wv h,.agg [bv fn,bv fz,bv fc,bv fv]] H λv H'=>v = .tup [wv r,wv h2,.agg [bv n2,bv z2,bv c2,bv v2],bv ok]/\H' = H:=by
 obtain ⟨r0,hr0,c0⟩:=ror_c b n hb hn; have hb2:=hb; have hn2:=hn; have hh2:=hh; obtain ⟨b0,b1⟩:=hb; obtain ⟨n0,n1⟩:=hn; obtain ⟨h00,h01⟩:=hh
 iterate 7 (apply Exists.intro)
 refine ⟨?_,?_,λH=>?_⟩
 rotate_left 2
 ·refine ACalls.into Tryz.func183 cc183 rr183 λhcl=>?_
  simp (disch:=omega) only [Tryz.ntmps183,c183,r183,go_sem,seval,reduceCtorEq]; refine Cont.mk (c0 _) ?_; simp (disch:=omega) only [go_sem,seval,reduceCtorEq]; refine W.dregD [([],[]),([],[]),([],[]),([],[]),([],[]),([H.length + 1],[]),([],[])] follows (by decide +kernel) rfl rfl (λz hz b' hb'=>?_) ?_
  ·simp only [List.mem_cons,List.not_mem_nil,or_false] at hz
   rcases hz with rfl | rfl | rfl | rfl | rfl | rfl | rfl <;> simp at hb' <;> subst hb' <;> exact ⟨by simp,by simp⟩
  repeat (rw [DC_p]; simp (disch:=omega) only [kill_c,go_sem,seval,reduceCtorEq])
  refine WStep.ev (by simp) (by simp) ?_; simp (disch:=omega) only [go_sem,seval,reduceCtorEq]; refine ⟨FrOk.put 1 _ (by simp) rfl,?_⟩
  repeat (rw [DC_p]; simp (disch:=omega) only [kill_c,go_sem,seval,reduceCtorEq])
  try simp (disch:=omega) only [go_sem,seval,reduceCtorEq]
  exact Ret.drop _ H (Nat.le_refl _) hcl (.rfl _) (by simp [refs,refs.refsL]) ⟨rfl,rfl⟩
 ·first | assumption | exact u32_mod _ | exact u32_wrap _ | exact u32_bv _ | exact ⟨by omega,by omega⟩
 ·first | assumption | exact u32_mod _ | exact u32_wrap _ | exact u32_bv _ | exact ⟨by omega,by omega⟩
theorem do_4 (b n h:Int) (fn fz fc fv:Bool) (hb:U32 b) (hn:U32 n) (hh:U32 h):∃ r h2 n2 z2 c2 v2 ok,U32 r/\U32 h2/\∀ H,ACalls Tryz.prog 183 [iv 4,bv false,wv b,wv n,wv h,.agg [bv fn,bv fz,bv fc,bv fv]] H λv H'=>v = .tup [wv r,wv h2,.agg [bv n2,bv z2,bv c2,bv v2],bv ok]/\H' = H:=by
 have hb2:=hb; have hn2:=hn; have hh2:=hh; obtain ⟨b0,b1⟩:=hb; obtain ⟨n0,n1⟩:=hn; obtain ⟨h00,h01⟩:=hh
 iterate 7 (apply Exists.intro)
 refine ⟨?_,?_,λH=>?_⟩
 rotate_left 2
 ·refine ACalls.into Tryz.func183 cc183 rr183 λhcl=>?_
  simp (disch:=omega) only [Tryz.ntmps183,c183,r183,go_sem,seval,reduceCtorEq]; refine W.dregD [([],[]),([],[]),([],[]),([],[]),([],[]),([H.length + 1],[]),([],[])] follows (by decide +kernel) rfl rfl (λz hz b' hb'=>?_) ?_
  ·simp only [List.mem_cons,List.not_mem_nil,or_false] at hz
   rcases hz with rfl | rfl | rfl | rfl | rfl | rfl | rfl <;> simp at hb' <;> subst hb' <;> exact ⟨by simp,by simp⟩
  repeat (rw [DC_p]; simp (disch:=omega) only [kill_c,go_sem,seval,reduceCtorEq])
  refine WStep.ev (by simp) (by simp) ?_; simp (disch:=omega) only [go_sem,seval,reduceCtorEq]; refine ⟨FrOk.put 1 _ (by simp) rfl,?_⟩
  repeat (rw [DC_p]; simp (disch:=omega) only [kill_c,go_sem,seval,reduceCtorEq])
  try simp (disch:=omega) only [go_sem,seval,reduceCtorEq]
  exact Ret.drop _ H (Nat.le_refl _) hcl (.rfl _) (by simp [refs,refs.refsL]) ⟨rfl,rfl⟩
 ·first | assumption | exact u32_mod _ | exact u32_wrap _ | exact u32_bv _ | exact ⟨by omega,by omega⟩
 ·first | assumption | exact u32_mod _ | exact u32_wrap _ | exact u32_bv _ | exact ⟨by omega,by omega⟩
theorem do_5 (b n h:Int) (fn fz fc fv:Bool) (hb:U32 b) (hn:U32 n) (hh:U32 h):∃ r h2 n2 z2 c2 v2 ok,U32 r/\U32 h2/\∀ H,ACalls Tryz.prog 183 [iv 5,bv false,wv b,wv n,wv h,.agg [bv fn,bv fz,bv fc,bv fv]] H λv H'=>v = .tup [wv r,wv h2,.agg [bv n2,bv z2,bv c2,bv v2],bv ok]/\H' = H:=by
 have hb2:=hb; have hn2:=hn; have hh2:=hh; obtain ⟨b0,b1⟩:=hb; obtain ⟨n0,n1⟩:=hn; obtain ⟨h00,h01⟩:=hh
 iterate 7 (apply Exists.intro)
 refine ⟨?_,?_,λH=>?_⟩
 rotate_left 2
 ·refine ACalls.into Tryz.func183 cc183 rr183 λhcl=>?_
  simp (disch:=omega) only [Tryz.ntmps183,c183,r183,go_sem,seval,reduceCtorEq]; refine W.dregD [([],[]),([],[]),([],[]),([],[]),([],[]),([H.length + 1],[]),([],[])] follows (by decide +kernel) rfl rfl (λz hz b' hb'=>?_) ?_
  ·simp only [List.mem_cons,List.not_mem_nil,or_false] at hz
   rcases hz with rfl | rfl | rfl | rfl | rfl | rfl | rfl <;> simp at hb' <;> subst hb' <;> exact ⟨by simp,by simp⟩
  repeat (rw [DC_p]; simp (disch:=omega) only [kill_c,go_sem,seval,reduceCtorEq])
  refine WStep.ev (by simp) (by simp) ?_; simp (disch:=omega) only [go_sem,seval,reduceCtorEq]; refine ⟨FrOk.put 1 _ (by simp) rfl,?_⟩
  repeat (rw [DC_p]; simp (disch:=omega) only [kill_c,go_sem,seval,reduceCtorEq])
  try simp (disch:=omega) only [go_sem,seval,reduceCtorEq]
  exact Ret.drop _ H (Nat.le_refl _) hcl (.rfl _) (by simp [refs,refs.refsL]) ⟨rfl,rfl⟩
 ·first | assumption | exact u32_mod _ | exact u32_wrap _ | exact u32_bv _ | exact ⟨by omega,by omega⟩
 ·first | assumption | exact u32_mod _ | exact u32_wrap _ | exact u32_bv _ | exact ⟨by omega,by omega⟩
theorem do_6 (b n h:Int) (fn fz fc fv:Bool) (hb:U32 b) (hn:U32 n) (hh:U32 h):∃ r h2 n2 z2 c2 v2 ok,U32 r/\U32 h2/\∀ H,ACalls Tryz.prog 183 [iv 6,bv false,wv b,wv n,wv h,.agg [bv fn,bv fz,bv fc,bv fv]] H λv H'=>v = .tup [wv r,wv h2,.agg [bv n2,bv z2,bv c2,bv v2],bv ok]/\H' = H:=by
 have hb2:=hb; have hn2:=hn; have hh2:=hh; obtain ⟨b0,b1⟩:=hb; obtain ⟨n0,n1⟩:=hn; obtain ⟨h00,h01⟩:=hh
 iterate 7 (apply Exists.intro)
 refine ⟨?_,?_,λH=>?_⟩
 rotate_left 2
 ·refine ACalls.into Tryz.func183 cc183 rr183 λhcl=>?_
  simp (disch:=omega) only [Tryz.ntmps183,c183,r183,go_sem,seval,reduceCtorEq]; refine W.dregD [([],[]),([],[]),([],[]),([],[]),([],[]),([H.length + 1],[]),([],[])] follows (by decide +kernel) rfl rfl (λz hz b' hb'=>?_) ?_
  ·simp only [List.mem_cons,List.not_mem_nil,or_false] at hz
   rcases hz with rfl | rfl | rfl | rfl | rfl | rfl | rfl <;> simp at hb' <;> subst hb' <;> exact ⟨by simp,by simp⟩
  repeat (rw [DC_p]; simp (disch:=omega) only [kill_c,go_sem,seval,reduceCtorEq])
  refine WStep.ev (by simp) (by simp) ?_; simp (disch:=omega) only [go_sem,seval,reduceCtorEq]; refine ⟨FrOk.put 1 _ (by simp) rfl,?_⟩
  repeat (rw [DC_p]; simp (disch:=omega) only [kill_c,go_sem,seval,reduceCtorEq])
  try simp (disch:=omega) only [go_sem,seval,reduceCtorEq]
  exact Ret.drop _ H (Nat.le_refl _) hcl (.rfl _) (by simp [refs,refs.refsL]) ⟨rfl,rfl⟩
 ·first | assumption | exact u32_mod _ | exact u32_wrap _ | exact u32_bv _ | exact ⟨by omega,by omega⟩
 ·first | assumption | exact u32_mod _ | exact u32_wrap _ | exact u32_bv _ | exact ⟨by omega,by omega⟩
theorem do_7 (b n h:Int) (fn fz fc fv:Bool) (hb:U32 b) (hn:U32 n) (hh:U32 h):∃ r h2 n2 z2 c2 v2 ok,U32 r/\U32 h2/\∀ H,ACalls Tryz.prog 183 [iv 7,bv false,wv b,wv n,wv h,.agg [bv fn,bv fz,bv fc,bv fv]] H λv H'=>v = .tup [wv r,wv h2,.agg [bv n2,bv z2,bv c2,bv v2],bv ok]/\H' = H:=by
 have hb2:=hb; have hn2:=hn; have hh2:=hh; obtain ⟨b0,b1⟩:=hb; obtain ⟨n0,n1⟩:=hn; obtain ⟨h00,h01⟩:=hh
 iterate 7 (apply Exists.intro)
 refine ⟨?_,?_,λH=>?_⟩
 rotate_left 2
 ·refine ACalls.into Tryz.func183 cc183 rr183 λhcl=>?_
  simp (disch:=omega) only [Tryz.ntmps183,c183,r183,go_sem,seval,reduceCtorEq]; refine W.dregD [([],[]),([],[]),([],[]),([],[]),([],[]),([H.length + 1],[]),([],[])] follows (by decide +kernel) rfl rfl (λz hz b' hb'=>?_) ?_
  ·simp only [List.mem_cons,List.not_mem_nil,or_false] at hz
   rcases hz with rfl | rfl | rfl | rfl | rfl | rfl | rfl <;> simp at hb' <;> subst hb' <;> exact ⟨by simp,by simp⟩
  repeat (rw [DC_p]; simp (disch:=omega) only [kill_c,go_sem,seval,reduceCtorEq])
  refine WStep.ev (by simp) (by simp) ?_; simp (disch:=omega) only [go_sem,seval,reduceCtorEq]; refine ⟨FrOk.put 1 _ (by simp) rfl,?_⟩
  repeat (rw [DC_p]; simp (disch:=omega) only [kill_c,go_sem,seval,reduceCtorEq])
  try simp (disch:=omega) only [go_sem,seval,reduceCtorEq]
  exact Ret.drop _ H (Nat.le_refl _) hcl (.rfl _) (by simp [refs,refs.refsL]) ⟨rfl,rfl⟩
 ·first | assumption | exact u32_mod _ | exact u32_wrap _ | exact u32_bv _ | exact ⟨by omega,by omega⟩
 ·first | assumption | exact u32_mod _ | exact u32_wrap _ | exact u32_bv _ | exact ⟨by omega,by omega⟩
theorem do_8 (u:Bool) (b n h:Int) (fn fz fc fv:Bool) (hb:U32 b) (hn:U32 n) (hh:U32 h):∃ r h2 n2 z2 c2 v2 ok,U32 r/\U32 h2/\∀ H,ACalls Tryz.prog 183 [iv 8,bv u,wv b,wv n,wv h,.agg [bv fn,bv fz,bv fc,bv fv]] H λv H'=>v = .tup [wv r,wv h2,.agg [bv n2,bv z2,bv c2,bv v2],bv ok]/\H' = H:=by
 have hb2:=hb; have hn2:=hn; have hh2:=hh; obtain ⟨b0,b1⟩:=hb; obtain ⟨n0,n1⟩:=hn; obtain ⟨h00,h01⟩:=hh; have hx:=i32r b; have hy:=i32r n
 cases u <;> cases fc
 all_goals (
  iterate 7 (apply Exists.intro)
  refine ⟨?_,?_,λH=>?_⟩
  rotate_left 2
  ·refine ACalls.into Tryz.func183 cc183 rr183 λhcl=>?_
   simp (disch:=omega) only [Tryz.ntmps183,c183,r183,go_sem,seval,reduceCtorEq]; refine Cont.mk (over2 _ _) ?_; simp (disch:=omega) only [go_sem,seval,reduceCtorEq]; refine W.dregD [([],[]),([],[]),([],[]),([],[]),([],[]),([H.length + 1],[]),([],[])] follows (by decide +kernel) rfl rfl (λz hz b' hb'=>?_) ?_
   ·simp only [List.mem_cons,List.not_mem_nil,or_false] at hz
    rcases hz with rfl | rfl | rfl | rfl | rfl | rfl | rfl <;> simp at hb' <;> subst hb' <;> exact ⟨by simp,by simp⟩
   repeat (rw [DC_p]; simp (disch:=omega) only [kill_c,go_sem,seval,reduceCtorEq])
   refine WStep.ev (by simp) (by simp) ?_; simp (disch:=omega) only [go_sem,seval,reduceCtorEq]; refine ⟨FrOk.put 1 _ (by simp) rfl,?_⟩
   repeat (rw [DC_p]; simp (disch:=omega) only [kill_c,go_sem,seval,reduceCtorEq])
   try simp (disch:=omega) only [go_sem,seval,reduceCtorEq]
   exact Ret.drop _ H (Nat.le_refl _) hcl (.rfl _) (by simp [refs,refs.refsL]) ⟨rfl,rfl⟩
  ·first | assumption | exact u32_mod _ | exact u32_wrap _ | exact u32_bv _ | exact ⟨by omega,by omega⟩
  ·first | assumption | exact u32_mod _ | exact u32_wrap _ | exact u32_bv _ | exact ⟨by omega,by omega⟩)
theorem do_9 (u:Bool) (b n h:Int) (fn fz fc fv:Bool) (hb:U32 b) (hn:U32 n) (hh:U32 h):∃ r h2 n2 z2 c2 v2 ok,U32 r/\U32 h2/\∀ H,ACalls Tryz.prog 183 [iv 9,bv u,wv b,wv n,wv h,.agg [bv fn,bv fz,bv fc,bv fv]] H λv H'=>v = .tup [wv r,wv h2,.agg [bv n2,bv z2,bv c2,bv v2],bv ok]/\H' = H:=by
 have hb2:=hb; have hn2:=hn; have hh2:=hh; obtain ⟨b0,b1⟩:=hb; obtain ⟨n0,n1⟩:=hn; obtain ⟨h00,h01⟩:=hh; have hx:=i32r b; have hy:=i32r n
 cases u <;> cases fc
 all_goals (
  iterate 7 (apply Exists.intro)
  refine ⟨?_,?_,λH=>?_⟩
  rotate_left 2
  ·refine ACalls.into Tryz.func183 cc183 rr183 λhcl=>?_
   simp (disch:=omega) only [Tryz.ntmps183,c183,r183,go_sem,seval,reduceCtorEq]; refine Cont.mk (over2 _ _) ?_; simp (disch:=omega) only [go_sem,seval,reduceCtorEq]; refine W.dregD [([],[]),([],[]),([],[]),([],[]),([],[]),([H.length + 1],[]),([],[])] follows (by decide +kernel) rfl rfl (λz hz b' hb'=>?_) ?_
   ·simp only [List.mem_cons,List.not_mem_nil,or_false] at hz
    rcases hz with rfl | rfl | rfl | rfl | rfl | rfl | rfl <;> simp at hb' <;> subst hb' <;> exact ⟨by simp,by simp⟩
   repeat (rw [DC_p]; simp (disch:=omega) only [kill_c,go_sem,seval,reduceCtorEq])
   refine WStep.ev (by simp) (by simp) ?_; simp (disch:=omega) only [go_sem,seval,reduceCtorEq]; refine ⟨FrOk.put 1 _ (by simp) rfl,?_⟩
   repeat (rw [DC_p]; simp (disch:=omega) only [kill_c,go_sem,seval,reduceCtorEq])
   try simp (disch:=omega) only [go_sem,seval,reduceCtorEq]
   exact Ret.drop _ H (Nat.le_refl _) hcl (.rfl _) (by simp [refs,refs.refsL]) ⟨rfl,rfl⟩
  ·first | assumption | exact u32_mod _ | exact u32_wrap _ | exact u32_bv _ | exact ⟨by omega,by omega⟩
  ·first | assumption | exact u32_mod _ | exact u32_wrap _ | exact u32_bv _ | exact ⟨by omega,by omega⟩)
theorem do_10 (u:Bool) (b n h:Int) (fn fz fc fv:Bool) (hb:U32 b) (hn:U32 n) (hh:U32 h):∃ r h2 n2 z2 c2 v2 ok,U32 r/\U32 h2/\∀ H,ACalls Tryz.prog 183 [iv 10,bv u,wv b,wv n,wv h,.agg [bv fn,bv fz,bv fc,bv fv]] H λv H'=>v = .tup [wv r,wv h2,.agg [bv n2,bv z2,bv c2,bv v2],bv ok]/\H' = H:=by
 obtain ⟨p0,q0,hp0,hq0,c0⟩:=prod_c u b n hb hn; have hb2:=hb; have hn2:=hn; have hh2:=hh; obtain ⟨b0,b1⟩:=hb; obtain ⟨n0,n1⟩:=hn; obtain ⟨h00,h01⟩:=hh
 cases u <;> cases fc
 all_goals (
  iterate 7 (apply Exists.intro)
  refine ⟨?_,?_,λH=>?_⟩
  rotate_left 2
  ·refine ACalls.into Tryz.func183 cc183 rr183 λhcl=>?_
   simp (disch:=omega) only [Tryz.ntmps183,c183,r183,go_sem,seval,reduceCtorEq]; refine Cont.mk (c0 _) ?_; simp (disch:=omega) only [go_sem,seval,reduceCtorEq]; refine W.dregD [([],[]),([],[]),([],[]),([],[]),([],[]),([H.length + 1],[]),([],[])] follows (by decide +kernel) rfl rfl (λz hz b' hb'=>?_) ?_
   ·simp only [List.mem_cons,List.not_mem_nil,or_false] at hz
    rcases hz with rfl | rfl | rfl | rfl | rfl | rfl | rfl <;> simp at hb' <;> subst hb' <;> exact ⟨by simp,by simp⟩
   repeat (rw [DC_p]; simp (disch:=omega) only [kill_c,go_sem,seval,reduceCtorEq])
   refine WStep.ev (by simp) (by simp) ?_; simp (disch:=omega) only [go_sem,seval,reduceCtorEq]; refine ⟨FrOk.put 1 _ (by simp) rfl,?_⟩
   repeat (rw [DC_p]; simp (disch:=omega) only [kill_c,go_sem,seval,reduceCtorEq])
   try simp (disch:=omega) only [go_sem,seval,reduceCtorEq]
   exact Ret.drop _ H (Nat.le_refl _) hcl (.rfl _) (by simp [refs,refs.refsL]) ⟨rfl,rfl⟩
  ·first | assumption | exact u32_mod _ | exact u32_wrap _ | exact u32_bv _ | exact ⟨by omega,by omega⟩
  ·first | assumption | exact u32_mod _ | exact u32_wrap _ | exact u32_bv _ | exact ⟨by omega,by omega⟩)
theorem do_11 (b n h:Int) (fn fz fc fv:Bool) (hb:U32 b) (hn:U32 n) (hh:U32 h):∃ r h2 n2 z2 c2 v2 ok,U32 r/\U32 h2/\∀ H,ACalls Tryz.prog 183 [iv 11,bv false,wv b,wv n,wv h,.agg [bv fn,bv fz,bv fc,bv fv]] H λv H'=>v = .tup [wv r,wv h2,.agg [bv n2,bv z2,bv c2,bv v2],bv ok]/\H' = H:=by
 obtain ⟨p0,q0,hp0,hq0,c0⟩:=quot_c b n hb hn; have hb2:=hb; have hn2:=hn; have hh2:=hh; obtain ⟨b0,b1⟩:=hb; obtain ⟨n0,n1⟩:=hn; obtain ⟨h00,h01⟩:=hh
 iterate 7 (apply Exists.intro)
 refine ⟨?_,?_,λH=>?_⟩
 rotate_left 2
 ·refine ACalls.into Tryz.func183 cc183 rr183 λhcl=>?_
  simp (disch:=omega) only [Tryz.ntmps183,c183,r183,go_sem,seval,reduceCtorEq]; refine Cont.mk (c0 _) ?_; simp (disch:=omega) only [go_sem,seval,reduceCtorEq]; refine W.dregD [([],[]),([],[]),([],[]),([],[]),([],[]),([H.length + 1],[]),([],[])] follows (by decide +kernel) rfl rfl (λz hz b' hb'=>?_) ?_
  ·simp only [List.mem_cons,List.not_mem_nil,or_false] at hz
   rcases hz with rfl | rfl | rfl | rfl | rfl | rfl | rfl <;> simp at hb' <;> subst hb' <;> exact ⟨by simp,by simp⟩
  repeat (rw [DC_p]; simp (disch:=omega) only [kill_c,go_sem,seval,reduceCtorEq])
  refine WStep.ev (by simp) (by simp) ?_; simp (disch:=omega) only [go_sem,seval,reduceCtorEq]; refine ⟨FrOk.put 1 _ (by simp) rfl,?_⟩
  repeat (rw [DC_p]; simp (disch:=omega) only [kill_c,go_sem,seval,reduceCtorEq])
  try simp (disch:=omega) only [go_sem,seval,reduceCtorEq]
  exact Ret.drop _ H (Nat.le_refl _) hcl (.rfl _) (by simp [refs,refs.refsL]) ⟨rfl,rfl⟩
 ·first | assumption | exact u32_mod _ | exact u32_wrap _ | exact u32_bv _ | exact ⟨by omega,by omega⟩
 ·first | assumption | exact u32_mod _ | exact u32_wrap _ | exact u32_bv _ | exact ⟨by omega,by omega⟩
theorem do_0 (u:Bool) (b n h:Int) (fn fz fc fv:Bool) (hb:U32 b) (hn:U32 n) (hh:U32 h):∃ r h2 n2 z2 c2 v2 ok,U32 r/\U32 h2/\∀ H,ACalls Tryz.prog 183 [iv 0,bv u,wv b,wv n,wv h,.agg [bv fn,bv fz,bv fc,bv fv]] H λv H'=>v = .tup [wv r,wv h2,.agg [bv n2,bv z2,bv c2,bv v2],bv ok]/\H' = H:=by
 have hb2:=hb; have hn2:=hn; have hh2:=hh; obtain ⟨b0,b1⟩:=hb; obtain ⟨n0,n1⟩:=hn; obtain ⟨h00,h01⟩:=hh
 cases u
 ·iterate 7 (apply Exists.intro)
  refine ⟨?_,?_,λH=>?_⟩
  rotate_left 2
  ·refine ACalls.into Tryz.func183 cc183 rr183 λhcl=>?_
   simp (disch:=omega) only [Tryz.ntmps183,c183,r183,go_sem,seval,reduceCtorEq]; refine W.dregD [([],[]),([],[]),([],[]),([],[]),([],[]),([H.length + 1],[]),([],[])] follows (by decide +kernel) rfl rfl (λz hz b' hb'=>?_) ?_
   ·simp only [List.mem_cons,List.not_mem_nil,or_false] at hz
    rcases hz with rfl | rfl | rfl | rfl | rfl | rfl | rfl <;> simp at hb' <;> subst hb' <;> exact ⟨by simp,by simp⟩
   repeat (rw [DC_p]; simp (disch:=omega) only [kill_c,go_sem,seval,reduceCtorEq])
   refine WStep.ev (by simp) (by simp) ?_; simp (disch:=omega) only [go_sem,seval,reduceCtorEq]; refine ⟨FrOk.put 1 _ (by simp) rfl,?_⟩
   repeat (rw [DC_p]; simp (disch:=omega) only [kill_c,go_sem,seval,reduceCtorEq])
   try simp (disch:=omega) only [go_sem,seval,reduceCtorEq]
   exact Ret.drop _ H (Nat.le_refl _) hcl (.rfl _) (by simp [refs,refs.refsL]) ⟨rfl,rfl⟩
  ·first | assumption | exact u32_mod _ | exact u32_wrap _ | exact u32_bv _ | exact ⟨by omega,by omega⟩
  ·first | assumption | exact u32_mod _ | exact u32_wrap _ | exact u32_bv _ | exact ⟨by omega,by omega⟩
 ·cases fc
  ·iterate 7 (apply Exists.intro)
   refine ⟨?_,?_,λH=>?_⟩
   rotate_left 2
   ·refine ACalls.into Tryz.func183 cc183 rr183 λhcl=>?_
    simp (disch:=omega) only [Tryz.ntmps183,c183,r183,go_sem,seval,reduceCtorEq]; refine W.dregD [([],[]),([],[]),([],[]),([],[]),([],[]),([H.length + 1],[]),([],[])] follows (by decide +kernel) rfl rfl (λz hz b' hb'=>?_) ?_
    ·simp only [List.mem_cons,List.not_mem_nil,or_false] at hz
     rcases hz with rfl | rfl | rfl | rfl | rfl | rfl | rfl <;> simp at hb' <;> subst hb' <;> exact ⟨by simp,by simp⟩
    repeat (rw [DC_p]; simp (disch:=omega) only [kill_c,go_sem,seval,reduceCtorEq])
    refine WStep.ev (by simp) (by simp) ?_; simp (disch:=omega) only [go_sem,seval,reduceCtorEq]; refine ⟨FrOk.put 1 _ (by simp) rfl,?_⟩
    repeat (rw [DC_p]; simp (disch:=omega) only [kill_c,go_sem,seval,reduceCtorEq])
    try simp (disch:=omega) only [go_sem,seval,reduceCtorEq]
    exact Ret.drop _ H (Nat.le_refl _) hcl (.rfl _) (by simp [refs,refs.refsL]) ⟨rfl,rfl⟩
   ·first | assumption | exact u32_mod _ | exact u32_wrap _ | exact u32_bv _ | exact ⟨by omega,by omega⟩
   ·first | assumption | exact u32_mod _ | exact u32_wrap _ | exact u32_bv _ | exact ⟨by omega,by omega⟩
  ·iterate 7 (apply Exists.intro)
   refine ⟨?_,?_,λH=>?_⟩
   rotate_left 2
   ·refine ACalls.into Tryz.func183 cc183 rr183 λhcl=>?_
    simp (disch:=omega) only [Tryz.ntmps183,c183,r183,go_sem,seval,reduceCtorEq]; refine W.dregD [([],[]),([],[]),([],[]),([],[]),([],[]),([H.length + 1],[]),([],[])] follows (by decide +kernel) rfl rfl (λz hz b' hb'=>?_) ?_
    ·simp only [List.mem_cons,List.not_mem_nil,or_false] at hz
     rcases hz with rfl | rfl | rfl | rfl | rfl | rfl | rfl <;> simp at hb' <;> subst hb' <;> exact ⟨by simp,by simp⟩
    repeat (rw [DC_p]; simp (disch:=omega) only [kill_c,go_sem,seval,reduceCtorEq])
    refine WStep.ev (by simp) (by simp) ?_; simp (disch:=omega) only [go_sem,seval,reduceCtorEq]; refine ⟨FrOk.put 1 _ (by simp) rfl,?_⟩
    repeat (rw [DC_p]; simp (disch:=omega) only [kill_c,go_sem,seval,reduceCtorEq])
    try simp (disch:=omega) only [go_sem,seval,reduceCtorEq]
    exact Ret.drop _ H (Nat.le_refl _) hcl (.rfl _) (by simp [refs,refs.refsL]) ⟨rfl,rfl⟩
   ·first | assumption | exact u32_mod _ | exact u32_wrap _ | exact u32_bv _ | exact ⟨by omega,by omega⟩
   ·first | assumption | exact u32_mod _ | exact u32_wrap _ | exact u32_bv _ | exact ⟨by omega,by omega⟩
def DoP (op:Int) (u:Bool) (b n h:Int) (f:Fl) (r h2:Int) (f2:Fl) (ok:Bool):Prop:=U32 r/\U32 h2/\∀ H,ACalls Tryz.prog 183 [iv op,bv u,wv b,wv n,wv h,f.av] H λv H'=>v = .tup [wv r,wv h2,f2.av,bv ok]/\H' = H
theorem do_ex (op:Int) (u:Bool) (b n h:Int) (f:Fl) (hb:U32 b) (hn:U32 n) (hh:U32 h):∃ r h2 f2 ok,DoP op u b n h f r h2 f2 ok:=by
 obtain ⟨fn,fz,fc,fv⟩:=f
 by_cases h0:op < 0\/11 < op\/(u = true/\op ≠ 0/\(op < 8\/10 < op))
 ·refine ⟨0,0,⟨false,false,false,false⟩,false,by decide,by decide,λH=>?_⟩
  refine ACalls.into Tryz.func183 cc183 rr183 λhcl=>?_
  by_cases h1:op < 0
  ·simp (disch:=omega) only [Tryz.ntmps183,c183,r183,go_sem,seval,reduceCtorEq]
   exact Ret.drop _ H (Nat.le_refl _) hcl (.rfl _) (by simp [refs,refs.refsL]) ⟨rfl,rfl⟩
  by_cases h2:11 < op
  ·simp (disch:=omega) only [Tryz.ntmps183,c183,r183,go_sem,seval,reduceCtorEq]
   exact Ret.drop _ H (Nat.le_refl _) hcl (.rfl _) (by simp [refs,refs.refsL]) ⟨rfl,rfl⟩
  obtain ⟨rfl,h3,h4⟩:u = true/\op ≠ 0/\(op < 8\/10 < op):=by
   rcases h0 with h | h | h
   ·exact absurd h h1
   ·exact absurd h h2
   ·exact h
  by_cases h5:op < 8
  ·simp (disch:=omega) only [Tryz.ntmps183,c183,r183,go_sem,seval,reduceCtorEq]
   exact Ret.drop _ H (Nat.le_refl _) hcl (.rfl _) (by simp [refs,refs.refsL]) ⟨rfl,rfl⟩
  ·have:10 < op:=by omega
   simp (disch:=omega) only [Tryz.ntmps183,c183,r183,go_sem,seval,reduceCtorEq]; exact Ret.drop _ H (Nat.le_refl _) hcl (.rfl _) (by simp [refs,refs.refsL]) ⟨rfl,rfl⟩
 have hop:op = 0\/op = 1\/op = 2\/op = 3\/op = 4\/op = 5\/op = 6\/op = 7\/op = 8\/op = 9\/op = 10\/op = 11:=by omega
 have pack:∀ {op u},(∃ r h2 n2 z2 c2 v2 ok,U32 r/\U32 h2/\∀ H,ACalls Tryz.prog 183 [iv op,bv u,wv b,wv n,wv h,.agg [bv fn,bv fz,bv fc,bv fv]] H λv H'=>v = .tup [wv r,wv h2,.agg [bv n2,bv z2,bv c2,bv v2],bv ok]/\H' = H) ->
  ∃ r h2 f2 ok,DoP op u b n h ⟨fn,fz,fc,fv⟩ r h2 f2 ok:=λ⟨r,h2,n2,z2,c2,v2,ok,k1,k2,k3⟩=>⟨r,h2,⟨n2,z2,c2,v2⟩,ok,k1,k2,k3⟩
 have hu:op ≠ 0->op < 8\/10 < op->u = false:=λk1 k2=>by
  cases u
  ·rfl
  ·exact absurd (.inr (.inr ⟨rfl,k1,k2⟩)) h0
 rcases hop with rfl | rfl | rfl | rfl | rfl | rfl | rfl | rfl | rfl | rfl | rfl | rfl
 ·exact pack (do_0 u b n h fn fz fc fv hb hn hh)
 ·rw [hu (by decide) (by decide)]; exact pack (do_1 b n h fn fz fc fv hb hn hh)
 ·rw [hu (by decide) (by decide)]; exact pack (do_2 b n h fn fz fc fv hb hn hh)
 ·rw [hu (by decide) (by decide)]; exact pack (do_3 b n h fn fz fc fv hb hn hh)
 ·rw [hu (by decide) (by decide)]; exact pack (do_4 b n h fn fz fc fv hb hn hh)
 ·rw [hu (by decide) (by decide)]; exact pack (do_5 b n h fn fz fc fv hb hn hh)
 ·rw [hu (by decide) (by decide)]; exact pack (do_6 b n h fn fz fc fv hb hn hh)
 ·rw [hu (by decide) (by decide)]; exact pack (do_7 b n h fn fz fc fv hb hn hh)
 ·exact pack (do_8 u b n h fn fz fc fv hb hn hh)
 ·exact pack (do_9 u b n h fn fz fc fv hb hn hh)
 ·exact pack (do_10 u b n h fn fz fc fv hb hn hh)
 ·rw [hu (by decide) (by decide)]; exact pack (do_11 b n h fn fz fc fv hb hn hh)
def c182l0:AC:=
 sr [ib 16 .lss t15 (kc 4)]
 (.seq (.cond t16 (.skip) (.exit 0))
 (.seq (.block 1 (sr [im 17 t15,kn 18 (.ixv t14 t15 4),im 4 t17,im 5 t18]
 (sr [im 19 t5]
 (.cond t19 (.reg [im 20 t3,im 21 t4,kn 22 (.bin .add (kc 28) t21),ic 23 267 [t20,t22,(kc 1),(.c (.d (.v (.int .u32 1))))],im 3 t23]) (.skip)))))
 (.reg [ib 24 .add t15 (kc 1),im 15 t24])))
def c182:AC:=
 sr [kn 1 (.bx t0),kn 2 (.mv (.c (.d (.v (.int .u32 0)))))]
 (sr [kn 3 (.mv (.c (.d (.v (.int .u32 0)))))]
 (.seq (sr [ia 6 t1 3,il 7 t6,ia 8 t1 2,il 9 t8,ia 10 t1 1,il 11 t10,ia 12 t1 0,il 13 t12,kn 14 (.bd [(.d (.v (.bool false))),(.d (.v (.bool false))),(.d (.v (.bool false))),(.d (.v (.bool false)))] [(0,1,t7),(1,1,t9),(2,1,t11),(3,1,t13)]),im 15 (kc 0)]
 (.block 0 (.loop c182l0)))
 (sr [im 25 t3,im 2 t25]
 (.ret))))
def r182:List RC:=[.t 2]
def c267:AC:=
 sr [kn 8 (.mv (.c (.d (.v (.int .u32 0)))))]
 (.seq (sr [im 10 t1,im 11 t2,ic 12 262 [t10,t11],kn 13 (.un .not t12)]
 (.cond t13 (sr [im 14 t0,im 8 t14]
 (.ret)) (.skip)))
 (sr [im 15 t2,ic 16 263 [t15],im 17 t1,ib 18 .shl t16 t17,im 9 t18]
 (sr [im 19 t0,im 20 t9,ib 21 .andNot t19 t20,im 22 t3,im 23 t1,ib 24 .shl t22 t23,im 25 t9,ib 26 .and t24 t25,ib 27 .or t21 t26,im 8 t27]
 (.ret))))
def r267:List RC:=[.t 8]
theorem cc182:cKc Tryz.f182 (hh 182) c182:=by unfold cKc; kernel_rfl
theorem rr182:resC Tryz.prog Tryz.f182 = some r182:=by kernel_rfl
theorem cc267:cKc Tryz.f267 (hh 267) c267:=by unfold cKc; kernel_rfl
theorem rr267:resC Tryz.prog Tryz.f267 = some r267:=by kernel_rfl
theorem put1_f (x lo:Int) (hx:U32 x) (h0:28<=lo) (h1:lo<=31):∃ r,U32 r/\∀ H,ACalls Tryz.prog 267 [wv x,iv lo,iv 1,wv 1] H λv H'=>v = wv r/\H' = H:=by
 obtain ⟨x0,x1⟩:=hx
 apply Exists.intro
 refine ⟨?_,λH=>?_⟩
 rotate_left
 ·refine ACalls.into Tryz.func267 cc267 rr267 λhcl=>?_
  simp (disch:=omega) only [Tryz.ntmps267,c267,r267,go_sem,seval,reduceCtorEq]; refine Cont.mk (inside_c _ _ (by omega) (by decide) (by omega) _) ?_; simp (disch:=omega) only [go_sem,seval,reduceCtorEq]; refine Cont.mk (mask1_c _) ?_; simp (disch:=omega) only [go_sem,seval,reduceCtorEq]; exact Ret.keep ⟨rfl,rfl⟩
 ·first | exact u32_mod _ | exact u32_bv _
theorem putB (b:Bool) (x lo:Int) (hx:U32 x) (h0:28<=lo) (h1:lo<=31):∃ r,U32 r/\(b = false->r = x)/\(b = true->∀ H,ACalls Tryz.prog 267 [wv x,iv lo,iv 1,wv 1] H λv H'=>v = wv r/\H' = H):=by
 cases b
 ·exact ⟨x,hx,λ_=>rfl,λh=>by cases h⟩
 ·obtain ⟨r,h1,h2⟩:=put1_f x lo hx h0 h1
  exact ⟨r,h1,(λh=>by cases h),λ_=>h2⟩
theorem packed_f (n z c v:Bool):∃ r,U32 r/\∀ H,ACalls Tryz.prog 182 [.agg [bv n,bv z,bv c,bv v]] H λw H'=>w = wv r/\H' = H:=by
 obtain ⟨r1,u1,f1,t1⟩:=putB v 0 28 (by decide) (by decide) (by decide); obtain ⟨r2,u2,f2,t2⟩:=putB c r1 29 u1 (by decide) (by decide); obtain ⟨r3,u3,f3,t3⟩:=putB z r2 30 u2 (by decide) (by decide); obtain ⟨r4,u4,f4,t4⟩:=putB n r3 31 u3 (by decide) (by decide); refine ⟨r4,u4,λH=>?_⟩; refine ACalls.into Tryz.func182 cc182 rr182 λhcl=>?_
 simp (disch:=omega) only [Tryz.ntmps182,c182,r182,go_sem,seval,reduceCtorEq]; obtain ⟨R,hR⟩:∃ R:Nat->Int,R 0 = 0/\R 1 = r1/\R 2 = r2/\R 3 = r3/\R 4 = r4:=⟨λi=>match i with | 0=>0 | 1=>r1 | 2=>r2 | 3=>r3 | _=>r4,rfl,rfl,rfl,rfl,rfl⟩; obtain ⟨e0,e1,e2,e3,e4⟩:=hR; refine W.loopG (γ:=Nat) (λi=>4 - i) (λi=>[.any,.any,.any,wv (R i)] ++ List.replicate 10 .any ++ [.agg [bv v,bv c,bv z,bv n],iv i] ++ List.replicate 10 .any) (λ_=>H ++ [.cells [bv n,bv z,bv c,bv v]]) (λi=>i<=4) 0 (by rw [e0]; exact Wk.slots (by (try simp only [List.replicate,List.cons_append,List.nil_append]); repeat' constructor)) (by decide) (λi q1=>?_); have hi:i = 0\/i = 1\/i = 2\/i = 3\/i = 4:=by omega
 rcases hi with rfl | rfl | rfl | rfl | rfl
 ·rw [e0]
  cases v
  ·have q:=f1 rfl
   simp (disch:=omega) only [c182l0,go_sem,seval,reduceCtorEq]; exact Nxt.mk 1 (by omega) (by rw [e1,q]; exact Wk.slots (by (try simp only [List.replicate,List.cons_append,List.nil_append]); repeat' constructor)) (by omega)
  ·have q:=t1 rfl
   simp (disch:=omega) only [c182l0,go_sem,seval,reduceCtorEq]; refine Cont.mk (q _) ?_; simp (disch:=omega) only [go_sem,seval,reduceCtorEq]; exact Nxt.mk 1 (by omega) (by rw [e1]; exact Wk.slots (by (try simp only [List.replicate,List.cons_append,List.nil_append]); repeat' constructor)) (by omega)
 ·rw [e1]
  cases c
  ·have q:=f2 rfl
   simp (disch:=omega) only [c182l0,go_sem,seval,reduceCtorEq]; exact Nxt.mk 2 (by omega) (by rw [e2,q]; exact Wk.slots (by (try simp only [List.replicate,List.cons_append,List.nil_append]); repeat' constructor)) (by omega)
  ·have q:=t2 rfl
   simp (disch:=omega) only [c182l0,go_sem,seval,reduceCtorEq]; refine Cont.mk (q _) ?_; simp (disch:=omega) only [go_sem,seval,reduceCtorEq]; exact Nxt.mk 2 (by omega) (by rw [e2]; exact Wk.slots (by (try simp only [List.replicate,List.cons_append,List.nil_append]); repeat' constructor)) (by omega)
 ·rw [e2]
  cases z
  ·have q:=f3 rfl
   simp (disch:=omega) only [c182l0,go_sem,seval,reduceCtorEq]; exact Nxt.mk 3 (by omega) (by rw [e3,q]; exact Wk.slots (by (try simp only [List.replicate,List.cons_append,List.nil_append]); repeat' constructor)) (by omega)
  ·have q:=t3 rfl
   simp (disch:=omega) only [c182l0,go_sem,seval,reduceCtorEq]; refine Cont.mk (q _) ?_; simp (disch:=omega) only [go_sem,seval,reduceCtorEq]; exact Nxt.mk 3 (by omega) (by rw [e3]; exact Wk.slots (by (try simp only [List.replicate,List.cons_append,List.nil_append]); repeat' constructor)) (by omega)
 ·rw [e3]
  cases n
  ·have q:=f4 rfl
   simp (disch:=omega) only [c182l0,go_sem,seval,reduceCtorEq]; exact Nxt.mk 4 (by omega) (by rw [e4,q]; exact Wk.slots (by (try simp only [List.replicate,List.cons_append,List.nil_append]); repeat' constructor)) (by omega)
  ·have q:=t4 rfl
   simp (disch:=omega) only [c182l0,go_sem,seval,reduceCtorEq]; refine Cont.mk (q _) ?_; simp (disch:=omega) only [go_sem,seval,reduceCtorEq]; exact Nxt.mk 4 (by omega) (by rw [e4]; exact Wk.slots (by (try simp only [List.replicate,List.cons_append,List.nil_append]); repeat' constructor)) (by omega)
 ·rw [e4]
  simp (disch:=omega) only [c182l0,go_sem,seval,reduceCtorEq]; exact Ret.drop _ H (Nat.le_refl _) hcl (.rfl _) (by simp [refs]) ⟨rfl,rfl⟩
end Go.Proofs.YtofpekbidngnfaaGreatDoor
