/- The memory. -/
import Derived.Test.YtofpekbidngnfaaGreatDoorYSet
import Derived.Test.YtofpekbidngnfaaGreatDoorYCodeU
set_option linter.unusedSectionVars false
set_option linter.unusedSimpArgs false
set_option linter.unusedVariables false
set_option maxHeartbeats 4000000
set_option maxRecDepth 20000
namespace Go.Proofs.YtofpekbidngnfaaGreatDoor
open Go.RowKit
def c106:AC:=
 sr [im 2 (kc 0)]
 (.seq (sr [im 3 t0,kn 4 (.eqp false t3 (.c .nilp))]
 (.cond t4 (sr [im 2 (kc 0)]
 (.ret)) (.skip)))
 (sr [im 5 t0,iv0 6 t5,ia 7 t6 0,il 8 t7,kn 9 (.len false t8),im 2 t9]
 (.ret)))
def r106:List RC:=[.t 2]
def c107:AC:=
 sr [kn 4 (.mv (.c (.d (.v (.int .u32 0))))),im 5 kF]
 (sr [im 7 t0,im 8 t1,ic 9 175 [t7,t8],im 6 t9]
 (.seq (sr [im 10 t6,kn 11 (.eqp false t10 (.c .nilp)),im 12 t11,ko 13 12 (.mv t1),ko 14 12 (.bin .rem t13 (.c (.d (.v (.int .u32 4))))),ko 15 12 (.bin .neq t14 (.c (.d (.v (.int .u32 0))))),kn 16 (.pick t12 kT t15)]
 (.cond t16 (sr [kn 4 (.mv (.c (.d (.v (.int .u32 0))))),im 5 kF]
 (.ret)) (.skip)))
 (sr [im 17 t6,iv0 18 t17,il 19 t18,im 4 t19,im 5 kT]
 (.ret))))
def r107:List RC:=[.t 4,.t 5]
def c175:AC:=
 sr [im 4 (.c .nilp)]
 (.seq (sr [im 5 t1,kn 6 (.bin .shr t5 (.c (.d (.v (.int .u64 2))))),kn 7 (.cvi .i64 t6),im 8 t0,ic 9 106 [t8],ib 10 .geq t7 t9]
 (.cond t10 (sr [im 4 (.c .nilp)]
 (.ret)) (.skip)))
 (sr [im 11 t0,iv0 12 t11,ia 13 t12 0,il 14 t13,im 15 t1,kn 16 (.bin .shr t15 (.c (.d (.v (.int .u64 2))))),kn 17 (.ia t14 t16 1),im 4 t17]
 (.ret)))
def r175:List RC:=[.t 4]
def c179:AC:=
 sr [kn 4 (.mv (.c (.d (.v (.int .u32 0))))),im 5 kF]
 (sr [im 7 t0,im 8 t1,ic 9 175 [t7,t8],im 6 t9]
 (.seq (sr [im 10 t6,kn 11 (.eqp false t10 (.c .nilp))]
 (.cond t11 (sr [kn 4 (.mv (.c (.d (.v (.int .u32 0))))),im 5 kF]
 (.ret)) (.skip)))
 (sr [im 12 t6,iv0 13 t12,il 14 t13,im 15 t1,kn 16 (.bin .rem t15 (.c (.d (.v (.int .u32 4))))),kn 17 (.bin .mul (.c (.d (.v (.int .u32 8)))) t16),ib 18 .shr t14 t17,kn 19 (.cvi .u8 t18),kn 20 (.cvi .u32 t19),im 4 t20,im 5 kT]
 (.ret))))
def r179:List RC:=[.t 4,.t 5]
def c265:AC:=
 sr [im 6 kF]
 (sr [im 9 t0,im 10 t1,ic 11 175 [t9,t10],im 7 t11]
 (.seq (sr [im 12 t7,kn 13 (.eqp false t12 (.c .nilp))]
 (.cond t13 (sr [im 6 kF]
 (.ret)) (.skip)))
 (sr [im 14 t1,kn 15 (.bin .rem t14 (.c (.d (.v (.int .u32 4))))),kn 16 (.bin .mul (.c (.d (.v (.int .u32 8)))) t15),im 8 t16]
 (sr [im 17 t7,im 18 t7,iv0 19 t18,il 20 t19,im 21 t8,kn 22 (.bin .shl (.c (.d (.v (.int .u32 255)))) t21),ib 23 .andNot t20 t22,im 24 t2,kn 25 (.cvi .u8 t24),kn 26 (.cvi .u32 t25),im 27 t8,ib 28 .shl t26 t27,ib 29 .or t23 t28,iv0 30 t17,ke (.st t30 t29 1)]
 (sr [im 6 kT]
 (.ret))))))
def r265:List RC:=[.t 6]
def c266:AC:=
 sr [im 6 kF]
 (sr [im 8 t0,im 9 t1,ic 10 175 [t8,t9],im 7 t10]
 (.seq (sr [im 11 t7,kn 12 (.eqp false t11 (.c .nilp)),im 13 t12,ko 14 13 (.mv t1),ko 15 13 (.bin .rem t14 (.c (.d (.v (.int .u32 4))))),ko 16 13 (.bin .neq t15 (.c (.d (.v (.int .u32 0))))),kn 17 (.pick t13 kT t16)]
 (.cond t17 (sr [im 6 kF]
 (.ret)) (.skip)))
 (sr [im 18 t7,im 19 t2,iv0 20 t18,ke (.st t20 t19 1)]
 (sr [im 6 kT]
 (.ret)))))
def r266:List RC:=[.t 6]
theorem cc106:cKc Tryz.f106 (hh 106) c106:=by unfold cKc; kernel_rfl
theorem rr106:resC Tryz.prog Tryz.f106 = some r106:=by kernel_rfl
theorem cc107:cKc Tryz.f107 (hh 107) c107:=by unfold cKc; kernel_rfl
theorem rr107:resC Tryz.prog Tryz.f107 = some r107:=by kernel_rfl
theorem cc175:cKc Tryz.f175 (hh 175) c175:=by unfold cKc; kernel_rfl
theorem rr175:resC Tryz.prog Tryz.f175 = some r175:=by kernel_rfl
theorem cc179:cKc Tryz.f179 (hh 179) c179:=by unfold cKc; kernel_rfl
theorem rr179:resC Tryz.prog Tryz.f179 = some r179:=by kernel_rfl
theorem cc265:cKc Tryz.f265 (hh 265) c265:=by unfold cKc; kernel_rfl
theorem rr265:resC Tryz.prog Tryz.f265 = some r265:=by kernel_rfl
theorem cc266:cKc Tryz.f266 (hh 266) c266:=by unfold cKc; kernel_rfl
theorem rr266:resC Tryz.prog Tryz.f266 = some r266:=by kernel_rfl
theorem follows:Tryz.prog.follows .mixedOrders = true:=by kernel_rfl
abbrev wv (n:Int):AV:=.d (.v (.int .u32 n))
abbrev iv (n:Int):AV:=.d (.v (.int .i64 n))
abbrev bv (b:Bool):AV:=.d (.v (.bool b))
structure MemAt (H:List ABlk) (pb wb:Nat) (ws:List Int):Prop where
 p:H[pb]? = some (.cells [.hsl wb 0 ws.length ws.length 1])
 w:H[wb]? = some (.cells (ws.map wv))
 len:ws.length<=65536
 rng:∀ x ∈ ws,0<=x/\x < 4294967296
theorem size_c {H:List ABlk} {pb wb:Nat} {ws:List Int} (hm:MemAt H pb wb ws):ACalls Tryz.prog 106 [.ptr pb 0] H λv H'=>v = iv ws.length/\H' = H:=by
 refine ACalls.into Tryz.func106 cc106 rr106 λhcl=>?_
 simp (disch:=omega) only [Tryz.ntmps106,c106,r106,ptrsA,hm.p,go_sem,seval,reduceCtorEq]; exact Ret.keep ⟨rfl,rfl⟩
theorem getD_rng {ws:List Int} (h:∀ x ∈ ws,0<=x/\x < 4294967296) (i:Nat):0<=ws.getD i 0/\ws.getD i 0 < 4294967296:=by
 rw [gDd]
 by_cases hi:i < ws.length
 ·rw [gEe hi]; exact h _ (List.getElem_mem hi)
 ·rw [List.getElem?_eq_none (by omega)]; simp
theorem wv_get1 {ws:List Int} {i:Nat} (h:i < ws.length):((ws.map wv).drop i).take 1 = [wv (ws.getD i 0)]:=by
 rw [List.drop_eq_getElem_cons (by simpa using h)]; simp [h]
theorem wv_set {ws:List Int} {i:Nat} {v:Int} (h:i < ws.length):(ws.map wv).take i ++ AV.d (.v (.int .u32 v)) :: (ws.map wv).drop (i + 1) = (ws.set i v).map wv:=by
 rw [List.map_set,List.set_eq_take_append_cons_drop,if_pos (by simpa using h)]
theorem MemAt.set {H:List ABlk} {pb wb:Nat} {ws:List Int} (hm:MemAt H pb wb ws) (i:Nat) (v:Int) (h0:0<=v) (h1:v < 4294967296):MemAt (H.set wb (.cells ((ws.set i v).map wv))) pb wb (ws.set i v):=by
 have hne:pb ≠ wb:=λe=>by
  have:=hm.p; rw [e,hm.w] at this
  cases ws with
  | nil=>simp at this
  | cons x l=>simp at this
 refine ⟨?_,?_,by simpa using hm.len,λx hx=>?_⟩
 ·rw [List.getElem?_set_ne hne.symm,hm.p]; simp
 ·rw [List.getElem?_set_self (List.getElem?_eq_some_iff.1 hm.w).1]
 ·rcases List.mem_or_eq_of_mem_set hx with hx | rfl
  ·exact hm.rng x hx
  ·exact ⟨h0,h1⟩
theorem word_c {H:List ABlk} {pb wb:Nat} {ws:List Int} (hm:MemAt H pb wb ws) (at':Int) (h0:0<=at') (h1:at' < 4294967296):ACalls Tryz.prog 175 [.ptr pb 0,wv at'] H λv H'=>v = (if at' / 4 < ws.length then .ptr wb (at' / 4).toNat else .nilp)/\H' = H:=by
 refine ACalls.into Tryz.func175 cc175 rr175 λhcl=>?_
 simp (disch:=omega) only [Tryz.ntmps175,c175,r175,hm.p,go_sem,seval,reduceCtorEq]; refine Cont.mk (size_c hm) ?_; simp (disch:=omega) only [go_sem,seval,reduceCtorEq]; refine Br.dec (λh=>?_) (λh=>?_) <;> simp (disch:=omega) only [hm.p,go_sem,seval,reduceCtorEq]
 ·exact Ret.keep ⟨rfl,rfl⟩
 ·exact Ret.keep ⟨rfl,rfl⟩
def ldF (ws:List Int) (at':Int):Int × Bool:=if at' % 4 = 0/\at' / 4 < ws.length then (ws.getD (at' / 4).toNat 0,true) else (0,false)
def thereF (ws:List Int) (at':Int):Bool:=decide (at' / 4 < ws.length)
theorem load_c {H:List ABlk} {pb wb:Nat} {ws:List Int} (hm:MemAt H pb wb ws) (at':Int) (h0:0<=at') (h1:at' < 4294967296):ACalls Tryz.prog 107 [.ptr pb 0,wv at'] H λv H'=>v = .tup [wv (ldF ws at').1,bv (ldF ws at').2]/\H' = H:=by
 refine ACalls.into Tryz.func107 cc107 rr107 λhcl=>?_
 simp (disch:=omega) only [Tryz.ntmps107,c107,r107,go_sem,seval,reduceCtorEq]; refine Cont.mk (word_c hm at' h0 h1) ?_; have hw:=hm.w
 by_cases h:at' / 4 < ws.length
 ·have hlt:(at' / 4).toNat < ws.length:=by omega
  simp (disch:=omega) only [hw,wv_get1,lnn,go_sem,seval,reduceCtorEq]; refine Br.dec (λh2=>?_) (λh2=>?_) <;> simp (disch:=omega) only [hw,wv_get1,lnn,go_sem,seval,reduceCtorEq]
  ·exact Ret.keep ⟨by rw [ldF,if_pos (by omega)],rfl⟩
  ·exact Ret.keep ⟨by rw [ldF,if_neg (by omega)],rfl⟩
 ·simp (disch:=omega) only [go_sem,seval,reduceCtorEq]
  exact Ret.keep ⟨by rw [ldF,if_neg (by omega)],rfl⟩
def byF (ws:List Int) (at':Int):Int × Bool:=if at' / 4 < ws.length then ((ws.getD (at' / 4).toNat 0 / 2 ^ (8 * (at' % 4)).toNat) % 256,true) else (0,false)
theorem byte_c {H:List ABlk} {pb wb:Nat} {ws:List Int} (hm:MemAt H pb wb ws) (at':Int) (h0:0<=at') (h1:at' < 4294967296):ACalls Tryz.prog 179 [.ptr pb 0,wv at'] H λv H'=>v = .tup [wv (byF ws at').1,bv (byF ws at').2]/\H' = H:=by
 refine ACalls.into Tryz.func179 cc179 rr179 λhcl=>?_
 simp (disch:=omega) only [Tryz.ntmps179,c179,r179,go_sem,seval,reduceCtorEq]; refine Cont.mk (word_c hm at' h0 h1) ?_; have hw:=hm.w
 by_cases h:at' / 4 < ws.length
 ·have hlt:(at' / 4).toNat < ws.length:=by omega
  simp (disch:=omega) only [hw,wv_get1,lnn,go_sem,seval,reduceCtorEq]; exact Ret.keep ⟨by rw [byF,if_pos (by omega)],rfl⟩
 ·simp (disch:=omega) only [go_sem,seval,reduceCtorEq]
  exact Ret.keep ⟨by rw [byF,if_neg (by omega)],rfl⟩
def stF (ws:List Int) (at' v:Int):List Int:=if at' % 4 = 0/\at' / 4 < ws.length then ws.set (at' / 4).toNat v else ws
def okF (ws:List Int) (at':Int):Bool:=decide (at' % 4 = 0/\at' / 4 < ws.length)
theorem set_same {H:List ABlk} {b:Nat} {k:ABlk} (h:H[b]? = some k):H.set b k = H:=set_self h
theorem store_c {H:List ABlk} {pb wb:Nat} {ws:List Int} (hm:MemAt H pb wb ws) (at' x:Int) (h0:0<=at') (h1:at' < 4294967296):ACalls Tryz.prog 266 [.ptr pb 0,wv at',wv x] H λv H'=>v = bv (okF ws at')/\H' = H.set wb (.cells ((stF ws at' x).map wv)):=by
 refine ACalls.into Tryz.func266 cc266 rr266 λhcl=>?_
 simp (disch:=omega) only [Tryz.ntmps266,c266,r266,go_sem,seval,reduceCtorEq]; refine Cont.mk (word_c hm at' h0 h1) ?_; have hw:=hm.w
 by_cases h:at' / 4 < ws.length
 ·have hlt:(at' / 4).toNat < ws.length:=by omega
  simp (disch:=omega) only [go_sem,seval,reduceCtorEq]; refine Br.dec (λh2=>?_) (λh2=>?_) <;> simp (disch:=omega) only [hw,wv_set,lnn,go_sem,seval,reduceCtorEq]
  ·exact Ret.keep ⟨by rw [okF,decide_eq_true (by omega)],by rw [stF,if_pos (by omega)]⟩
  ·exact Ret.keep ⟨by rw [okF,decide_eq_false (by omega)],by rw [stF,if_neg (by omega),set_same hw]⟩
 ·simp (disch:=omega) only [go_sem,seval,reduceCtorEq]
  exact Ret.keep ⟨by rw [okF,decide_eq_false (by omega)],by rw [stF,if_neg (by omega),set_same hw]⟩
def mixA (w at' x:Int):Int:=
 ((BitVec.ofInt 32 (((BitVec.ofInt 32 w &&& ~~~ BitVec.ofInt 32 (255 * 2 ^ (8 * (at' % 4)).toNat % 4294967296)).toNat:Int) % 4294967296) ||| BitVec.ofInt 32 (x % 256 * 2 ^ (8 * (at' % 4)).toNat % 4294967296)).toNat:Int) % 4294967296
theorem mixA_e (w at' x:Int):mixA w at' x = ((BitVec.ofInt 32 (((BitVec.ofInt 32 w &&& ~~~ BitVec.ofInt 32 (255 * 2 ^ (8 * (at' % 4)).toNat % 4294967296)).toNat:Int)) ||| BitVec.ofInt 32 (x % 256 * 2 ^ (8 * (at' % 4)).toNat % 4294967296)).toNat:Int):=by
 have hb:∀ b:BitVec 32,((b.toNat:Nat):Int) % 4294967296 = (b.toNat:Nat):=λb=>by have:=b.isLt; omega
 rw [mixA,hb,hb]
theorem mixA_rng (w at' x:Int):0<=mixA w at' x/\mixA w at' x < 4294967296:=by unfold mixA; omega
def pbF (ws:List Int) (at' x:Int):List Int:=if at' / 4 < ws.length then ws.set (at' / 4).toNat (mixA (ws.getD (at' / 4).toNat 0) at' x) else ws
theorem put_c {H:List ABlk} {pb wb:Nat} {ws:List Int} (hm:MemAt H pb wb ws) (at' x:Int) (h0:0<=at') (h1:at' < 4294967296):ACalls Tryz.prog 265 [.ptr pb 0,wv at',wv x] H λv H'=>v = bv (thereF ws at')/\H' = H.set wb (.cells ((pbF ws at' x).map wv)):=by
 refine ACalls.into Tryz.func265 cc265 rr265 λhcl=>?_
 simp (disch:=omega) only [Tryz.ntmps265,c265,r265,go_sem,seval,reduceCtorEq]; refine Cont.mk (word_c hm at' h0 h1) ?_; have hw:=hm.w
 by_cases h:at' / 4 < ws.length
 ·have hlt:(at' / 4).toNat < ws.length:=by omega
  simp (disch:=omega) only [hw,wv_get1,wv_set,lnn,go_sem,seval,reduceCtorEq]; refine Ret.keep ⟨by rw [thereF,decide_eq_true (by omega)],?_⟩; rw [pbF,if_pos (by omega)]
  first | (rw [mixA]; rfl) | (rw [mixA_e]; rfl)
 ·simp (disch:=omega) only [go_sem,seval,reduceCtorEq]
  exact Ret.keep ⟨by rw [thereF,decide_eq_false (by omega)],by rw [pbF,if_neg (by omega),set_same hw]⟩
abbrev ud (n:Int):List Dat:=[.v (.int .u32 n)]
theorem flat_ud (ws:List Int):((ws.map ud).flatten.map AV.d) = ws.map wv:=by
 induction ws with
 | nil=>rfl
 | cons w ws ih=>simp only [List.map_cons,List.flatten_cons,List.map_append,ih]; rfl
theorem all1_ud (ws:List Int):((ws.map ud).all λe=>e.length == 1) = true:=by simp
theorem flen_ud (ws:List Int):(ws.map ud).flatten.length = ws.length:=by
 induction ws with
 | nil=>rfl
 | cons w ws ih=>simp only [List.map_cons,List.flatten_cons,List.length_append,ih,List.length_cons,List.length_nil]; omega
theorem rep1 (n:Nat) (x:AV):(List.replicate n [x]).flatten = List.replicate n x:=List.flatten_replicate_singleton
theorem drop_rep (n:Nat) (x:AV):List.drop n (List.replicate n x) = []:=by simp
abbrev memB (H:List ABlk) (ws:List Int):List ABlk:=[.cells (ws.map wv),.cells [.hsl H.length 0 ws.length ws.length 1]]
def c97:AC:=
 sr [im 4 kF]
 (sr [im 5 t1,ib 6 .geq t5 (kc 1),im 7 t6,ky 8 7 (.mv t1),ky 9 7 (.bin .leq t8 (kc 32)),kn 10 (.pick t7 t9 kF),im 11 t10,ky 12 11 (.mv t1),ky 13 11 (.bin .sub t12 (kc 1)),ky 14 11 (.bin .shl (kc (-1)) t13),ky 15 11 (.mv t0),ky 16 11 (.bin .leq t14 t15),kn 17 (.pick t11 t16 kF),im 18 t17,ky 19 18 (.mv t0),ky 20 18 (.mv t1),ky 21 18 (.bin .sub t20 (kc 1)),ky 22 18 (.bin .shl (kc 1) t21),ky 23 18 (.bin .lss t19 t22),kn 24 (.pick t18 t23 kF),im 4 t24]
 (.ret))
def r97:List RC:=[.t 4]
def c176:AC:=
 sr [kn 6 (.mv (.c (.d (.v (.int .u32 0)))))]
 (.seq (sr [im 7 t1,im 8 t2,ic 9 262 [t7,t8],kn 10 (.un .not t9)]
 (.cond t10 (sr [kn 6 (.mv (.c (.d (.v (.int .u32 0)))))]
 (.ret)) (.skip)))
 (.seq (.dreg [[],[],[0,1],[],[3],[2,4],[5,4,0,1,2,3,4,5]] [im 11 t0,im 12 t1,ib 13 .shr t11 t12,im 14 t2,ic 15 263 [t14],ib 16 .and t13 t15,im 6 t16])
 (.ret)))
def r176:List RC:=[.t 6]
def c248:AC:=
 sr [kn 4 (.mv (.c (.d (.v (.int .u32 0)))))]
 (.seq (sr [im 5 t0]
 (.cond t5 (sr [im 6 t1,kn 7 (.bin .shl (.c (.d (.v (.int .u32 1)))) t6),im 4 t7]
 (.ret)) (.skip)))
 (sr [kn 4 (.mv (.c (.d (.v (.int .u32 0)))))]
 (.ret)))
def r248:List RC:=[.t 4]
def c262:AC:=
 sr [im 4 kF]
 (sr [im 5 t0,ib 6 .geq t5 (kc 0),im 7 t6,ky 8 7 (.mv t1),ky 9 7 (.bin .geq t8 (kc 1)),kn 10 (.pick t7 t9 kF),im 11 t10,ky 12 11 (.mv t1),ky 13 11 (.bin .leq t12 (kc 32)),kn 14 (.pick t11 t13 kF),im 15 t14,ky 16 15 (.mv t0),ky 17 15 (.mv t1),ky 18 15 (.bin .sub (kc 32) t17),ky 19 15 (.bin .leq t16 t18),kn 20 (.pick t15 t19 kF),im 4 t20]
 (.ret))
def r262:List RC:=[.t 4]
def c263:AC:=
 sr [kn 2 (.mv (.c (.d (.v (.int .u32 0)))))]
 (sr [kn 3 (.cvi .u32 (kc 1)),im 4 t0,ib 5 .shl t3 t4,kn 6 (.bin .sub t5 (.c (.d (.v (.int .u32 1))))),im 2 t6]
 (.ret))
def r263:List RC:=[.t 2]
def c351:AC:=
 sr [im 4 kF]
 (sr [im 5 t0,kn 6 (.bin .leq (kc 0) t5),im 7 t6,ky 8 7 (.mv t0),ky 9 7 (.mv t1),ky 10 7 (.bin .shl (kc 1) t9),ky 11 7 (.bin .lss t8 t10),kn 12 (.pick t7 t11 kF),im 4 t12]
 (.ret))
def r351:List RC:=[.t 4]
theorem cc97:cKc Tryz.f97 (hh 97) c97:=by unfold cKc; kernel_rfl
theorem rr97:resC Tryz.prog Tryz.f97 = some r97:=by kernel_rfl
theorem cc176:cKc Tryz.f176 (hh 176) c176:=by unfold cKc; kernel_rfl
theorem rr176:resC Tryz.prog Tryz.f176 = some r176:=by kernel_rfl
theorem cc248:cKc Tryz.f248 (hh 248) c248:=by unfold cKc; kernel_rfl
theorem rr248:resC Tryz.prog Tryz.f248 = some r248:=by kernel_rfl
theorem cc262:cKc Tryz.f262 (hh 262) c262:=by unfold cKc; kernel_rfl
theorem rr262:resC Tryz.prog Tryz.f262 = some r262:=by kernel_rfl
theorem cc263:cKc Tryz.f263 (hh 263) c263:=by unfold cKc; kernel_rfl
theorem rr263:resC Tryz.prog Tryz.f263 = some r263:=by kernel_rfl
theorem cc351:cKc Tryz.f351 (hh 351) c351:=by unfold cKc; kernel_rfl
theorem rr351:resC Tryz.prog Tryz.f351 = some r351:=by kernel_rfl
theorem FrOk.put {w:List Nat} {H l l':List ABlk} (k:Nat) (x:ABlk) (hw:H.length + k ∈ w) (h:l' = l.set k x):FrOk w [] (H ++ l) (H ++ l') (H ++ l'):=by
 subst h; have e:H ++ l.set k x = (H ++ l).set (H.length + k) x:=by rw [List.set_append_right _ _ (by omega),Nat.add_sub_cancel_left]
 rw [e]; exact .set hw
theorem decf {p:Prop} {i:Decidable p} (h:¬ p):decide p = false:=decide_eq_false h
theorem dect {p:Prop} {i:Decidable p} (h:p):decide p = true:=decide_eq_true h
theorem dec2 {p q:Prop} {i:Decidable p} {j:Decidable q} (h:p ↔ q):bv (decide p) = bv (decide q):=congrArg bv (decide_eq_decide.2 h)
def hf4 (x:Int):Bool:=decide (0<=x/\x < 16)
def hf16 (x:Int):Bool:=decide (0<=x/\x < 65536)
theorem half4_c (x:Int) (H:List ABlk):ACalls Tryz.prog 351 [iv x,iv 4] H λv H'=>v = bv (hf4 x)/\H' = H:=by
 refine ACalls.into Tryz.func351 cc351 rr351 λhcl=>?_
 by_cases h0:0<=x
 ·simp (disch:=omega) only [Tryz.ntmps351,c351,r351,go_sem,seval,reduceCtorEq]
  exact Ret.keep ⟨dec2 ⟨λh=>⟨h0,h⟩,λh=>h.2⟩,rfl⟩
 ·simp (disch:=omega) only [Tryz.ntmps351,c351,r351,go_sem,seval,reduceCtorEq]
  exact Ret.keep ⟨congrArg bv (Eq.symm (decide_eq_false λh=>h0 h.1)),rfl⟩
theorem half16_c (x:Int) (H:List ABlk):ACalls Tryz.prog 351 [iv x,iv 16] H λv H'=>v = bv (hf16 x)/\H' = H:=by
 refine ACalls.into Tryz.func351 cc351 rr351 λhcl=>?_
 by_cases h0:0<=x
 ·simp (disch:=omega) only [Tryz.ntmps351,c351,r351,go_sem,seval,reduceCtorEq]
  exact Ret.keep ⟨dec2 ⟨λh=>⟨h0,h⟩,λh=>h.2⟩,rfl⟩
 ·simp (disch:=omega) only [Tryz.ntmps351,c351,r351,go_sem,seval,reduceCtorEq]
  exact Ret.keep ⟨congrArg bv (Eq.symm (decide_eq_false λh=>h0 h.1)),rfl⟩
def ft20 (x:Int):Bool:=decide (-524288<=x/\x < 524288)
def ft24 (x:Int):Bool:=decide (-8388608<=x/\x < 8388608)
theorem fits20_d (x:Int) (H:List ABlk) (h0:-524288<=x):ACalls Tryz.prog 97 [iv x,iv 20] H λv H'=>v = bv (ft20 x)/\H' = H:=by
 refine ACalls.into Tryz.func97 cc97 rr97 λhcl=>?_
 simp (disch:=omega) only [Tryz.ntmps97,c97,r97,go_sem,seval,reduceCtorEq]; refine Ret.keep ⟨?_,rfl⟩; refine dec2 ?_; exact ⟨λh=>⟨h0,h⟩,λh=>h.2⟩
theorem fits20_e (x:Int) (H:List ABlk) (h0:¬ -524288<=x):ACalls Tryz.prog 97 [iv x,iv 20] H λv H'=>v = bv (ft20 x)/\H' = H:=by
 refine ACalls.into Tryz.func97 cc97 rr97 λhcl=>?_
 simp (disch:=omega) only [Tryz.ntmps97,c97,r97,go_sem,seval,reduceCtorEq]; refine Ret.keep ⟨?_,rfl⟩; exact congrArg bv (Eq.symm (decide_eq_false λh=>h0 h.1))
theorem fits20_c (x:Int) (H:List ABlk):ACalls Tryz.prog 97 [iv x,iv 20] H λv H'=>v = bv (ft20 x)/\H' = H:=
 (Classical.em (-524288<=x)).elim (fits20_d x H) (fits20_e x H)
theorem fits24_d (x:Int) (H:List ABlk) (h0:-8388608<=x):ACalls Tryz.prog 97 [iv x,iv 24] H λv H'=>v = bv (ft24 x)/\H' = H:=by
 refine ACalls.into Tryz.func97 cc97 rr97 λhcl=>?_
 simp (disch:=omega) only [Tryz.ntmps97,c97,r97,go_sem,seval,reduceCtorEq]; refine Ret.keep ⟨?_,rfl⟩; refine dec2 ?_; exact ⟨λh=>⟨h0,h⟩,λh=>h.2⟩
theorem fits24_e (x:Int) (H:List ABlk) (h0:¬ -8388608<=x):ACalls Tryz.prog 97 [iv x,iv 24] H λv H'=>v = bv (ft24 x)/\H' = H:=by
 refine ACalls.into Tryz.func97 cc97 rr97 λhcl=>?_
 simp (disch:=omega) only [Tryz.ntmps97,c97,r97,go_sem,seval,reduceCtorEq]; refine Ret.keep ⟨?_,rfl⟩; exact congrArg bv (Eq.symm (decide_eq_false λh=>h0 h.1))
theorem fits24_c (x:Int) (H:List ABlk):ACalls Tryz.prog 97 [iv x,iv 24] H λv H'=>v = bv (ft24 x)/\H' = H:=
 (Classical.em (-8388608<=x)).elim (fits24_d x H) (fits24_e x H)
def bitU (b:Bool):Int:=if b then 536870912 else 0
def bitV (b:Bool):Int:=if b then 268435456 else 0
theorem bit29_c (b:Bool) (H:List ABlk):ACalls Tryz.prog 248 [bv b,iv 29] H λv H'=>v = wv (bitU b)/\H' = H:=by
 refine ACalls.into Tryz.func248 cc248 rr248 λhcl=>?_
 cases b <;> (
  simp (disch:=omega) only [Tryz.ntmps248,c248,r248,go_sem,seval,reduceCtorEq]; exact Ret.keep ⟨rfl,rfl⟩)
theorem bit28_c (b:Bool) (H:List ABlk):ACalls Tryz.prog 248 [bv b,iv 28] H λv H'=>v = wv (bitV b)/\H' = H:=by
 refine ACalls.into Tryz.func248 cc248 rr248 λhcl=>?_
 cases b <;> (
  simp (disch:=omega) only [Tryz.ntmps248,c248,r248,go_sem,seval,reduceCtorEq]; exact Ret.keep ⟨rfl,rfl⟩)
theorem inside_c (lo n:Int) (h0:0<=lo) (h1:1<=n) (h2:lo + n<=32) (H:List ABlk):ACalls Tryz.prog 262 [iv lo,iv n] H λv H'=>v = bv true/\H' = H:=by
 refine ACalls.into Tryz.func262 cc262 rr262 λhcl=>?_
 simp (disch:=omega) only [Tryz.ntmps262,c262,r262,go_sem,seval,reduceCtorEq]; exact Ret.keep ⟨rfl,rfl⟩
theorem mask4_c (H:List ABlk):ACalls Tryz.prog 263 [iv 4] H λv H'=>v = wv 15/\H' = H:=by
 refine ACalls.into Tryz.func263 cc263 rr263 λhcl=>?_
 simp (disch:=omega) only [Tryz.ntmps263,c263,r263,go_sem,seval,reduceCtorEq]; exact Ret.keep ⟨rfl,rfl⟩
theorem mask1_c (H:List ABlk):ACalls Tryz.prog 263 [iv 1] H λv H'=>v = wv 1/\H' = H:=by
 refine ACalls.into Tryz.func263 cc263 rr263 λhcl=>?_
 simp (disch:=omega) only [Tryz.ntmps263,c263,r263,go_sem,seval,reduceCtorEq]; exact Ret.keep ⟨rfl,rfl⟩
theorem bvmod (b:BitVec 32):((b.toNat:Nat):Int) % 4294967296 = (b.toNat:Nat):=by have:=b.isLt; omega
def g4 (q:Int):Int:=((BitVec.ofInt 32 q &&& BitVec.ofInt 32 15).toNat:Int) % 4294967296
theorem g4_rng (q:Int):0<=g4 q/\g4 q < 16:=by
 unfold g4
 rw [BitVec.toNat_and]; have:(BitVec.ofInt 32 q).toNat &&& (BitVec.ofInt 32 15).toNat<=(BitVec.ofInt 32 15).toNat:=Nat.and_le_right; have e:(BitVec.ofInt 32 15).toNat = 15:=by decide
 rw [e] at this ⊢; omega
theorem get_c (w lo d:Int) (w0:0<=w) (w1:w < 4294967296) (hlo:(lo = 16/\d = 65536)\/(lo = 20/\d = 1048576)\/(lo = 24/\d = 16777216)) (H:List ABlk):ACalls Tryz.prog 176 [wv w,iv lo,iv 4] H λv H'=>v = wv (g4 (w / d))/\H' = H:=by
 refine ACalls.into Tryz.func176 cc176 rr176 λhcl=>?_
 rcases hlo with ⟨rfl,rfl⟩ | ⟨rfl,rfl⟩ | ⟨rfl,rfl⟩ <;> (
  simp (disch:=omega) only [Tryz.ntmps176,c176,r176,go_sem,seval,reduceCtorEq]; refine Cont.mk (inside_c _ _ (by decide) (by decide) (by decide) _) ?_; simp (disch:=omega) only [go_sem,seval,reduceCtorEq]; refine W.pchain follows (by decide +kernel) ?_; simp (disch:=omega) only [go_sem,seval,reduceCtorEq]; refine PCont.mk (mask4_c _) ?_; simp (disch:=omega) only [go_sem,seval,reduceCtorEq]; exact Ret.keep ⟨by first | rfl | (rw [g4,bvmod]; rfl),rfl⟩)
end Go.Proofs.YtofpekbidngnfaaGreatDoor
