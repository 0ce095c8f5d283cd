/- The machine's whole run, for every input: the law. -/
import Derived.Test.YtofpekbidngnfaaGreatDoorYH8
import Derived.Test.YtofpekbidngnfaaGreatDoorYKe
import Derived.Test.YtofpekbidngnfaaGreatDoorYH4
import Derived.Test.YtofpekbidngnfaaGreatDoorYC9
import Derived.Test.YtofpekbidngnfaaGreatDoorYW0
set_option linter.constructorNameAsVariable false
set_option linter.unusedSectionVars false
set_option linter.unusedSimpArgs false
set_option linter.unusedVariables false
set_option maxHeartbeats 4000000
set_option maxRecDepth 20000
namespace Go.Proofs.YtofpekbidngnfaaGreatDoor
open Go.RowKit
noncomputable section
variable {mg:List Nat} {hd:Nat} {wt:Nat->Nat} {inp:ByteArray}
theorem chkL_ok:∀ (n c:Nat),chkL mg hd wt n c = true->∀ i,i < n->chkB mg hd wt (c + i) = true
 | 0,c,_,i,hi=>absurd hi (Nat.not_lt_zero _)
 | n + 1,c,h,i,hi=>by
  obtain ⟨h1,h2⟩:=bifT (show bif' (chkB mg hd wt c) (fN (Nat.succ c) (chkL mg hd wt n)) false = true from h); rw [fN_eq] at h2
  cases i with
  | zero=>exact h1
  | succ i =>
   have:=chkL_ok n (c + 1) h2 i (by omega); rw [show c + (i + 1) = c + 1 + i by omega]; exact this
theorem letters (c:Nat) (hc:c < 256):chkB imgL 25 wantN c = true:=by
 by_cases h1:c < 64
 ·have:=chkL_ok 64 0 leta c h1; rw [Nat.zero_add] at this; exact this
 by_cases h2:c < 128
 ·have:=chkL_ok 64 64 letb (c - 64) (by omega); rw [show 64 + (c - 64) = c by omega] at this; exact this
 by_cases h3:c < 192
 ·have:=chkL_ok 64 128 letc (c - 128) (by omega); rw [show 128 + (c - 128) = c by omega] at this; exact this
 ·have:=chkL_ok 64 192 letd (c - 192) (by omega); rw [show 192 + (c - 192) = c by omega] at this; exact this
def wantF (wt:Nat->Nat):List UInt8->List Int × Bool
 | []=>([],false)
 | c :: l=>if wt c.toNat = 256 then ([],true) else ((wt c.toNat:Int) :: (wantF wt l).1,(wantF wt l).2)
structure PgOk (mg:List Nat) (hd:Nat) (wt:Nat->Nat) (S:UInt8->Prop):Prop where
 im:∀ i < 126,nthN mg i < 4294967296
 c0:chk0 mg hd = true
 cE:chkE mg hd = true
 cB:∀ c:UInt8,S c->chkB mg hd wt c.toNat = true
theorem nilT {l:List Nat} (h:(List.rec (motive:=λ_=>Bool) true (λ_ _ _=>false) l:Bool) = true):l = []:=by
 cases l with
 | nil=>rfl
 | cons=>cases h
theorem oneT {l:List Nat} {n:Nat} (h:(List.rec (motive:=λ_=>Bool) false (λa l _=>bif' (Nat.beq a n) (List.rec (motive:=λ_=>Bool) true (λ_ _ _=>false) l) false) l:Bool) = true):l = [n]:=by
 cases l with
 | nil=>cases h
 | cons a l =>
  obtain ⟨h1,h2⟩:=bifT (show bif' (Nat.beq a n) _ false = true from h); rw [Nat.eq_of_beq_eq_true h1,nilT h2]
theorem chkE_ok (h:chkE mg hd = true):∃ k q,runQ mg hd 60 0 (qH hd 256) = .ok k q/\k<=100/\q.en = 1/\q.rd = 0/\q.out = []:=by
 unfold chkE at h
 cases hr:runQ mg hd 60 0 (qH hd 256) with
 | no=>rw [hr] at h; cases h
 | ok k q =>
  rw [hr] at h; obtain ⟨h1,h2⟩:=bifT (show bif' (Nat.ble k 100) _ false = true from h); obtain ⟨h3,h4⟩:=bifT h2; obtain ⟨h5,h6⟩:=bifT h4; exact ⟨k,q,rfl,Nat.le_of_ble_eq_true h1,Nat.eq_of_beq_eq_true h3,Nat.eq_of_beq_eq_true h5,nilT h6⟩
theorem chk0_ok (h:chk0 mg hd = true):∃ k q,runQ mg hd 60 0 q0 = .ok k q/\k<=100/\leH mg hd q = true/\q.rd = 0/\q.out = []:=by
 unfold chk0 at h
 cases hr:runQ mg hd 60 0 q0 with
 | no=>rw [hr] at h; cases h
 | ok k q =>
  rw [hr] at h; obtain ⟨h1,h2⟩:=bifT (show bif' (Nat.ble k 100) _ false = true from h); obtain ⟨h3,h4⟩:=bifT h2; obtain ⟨h5,h6⟩:=bifT h4; exact ⟨k,q,rfl,Nat.le_of_ble_eq_true h1,h3,Nat.eq_of_beq_eq_true h5,nilT h6⟩
theorem chkB_ok (c:Nat) (h:chkB mg hd wt c = true):∃ k q,runQ mg hd 100 0 (qH hd c) = .ok k q/\k<=100/\q.rd = 1/\(if wt c = 256 then q.en = 2/\q.tr = 8/\q.out = [] else leH mg hd q = true/\q.out = [wt c]):=by
 unfold chkB at h
 cases hr:runQ mg hd 100 0 (qH hd c) with
 | no=>rw [hr] at h; cases h
 | ok k q =>
  rw [hr] at h; obtain ⟨h1,h2⟩:=bifT (show bif' (Nat.ble k 100) _ false = true from h); obtain ⟨h3,h4⟩:=bifT h2; rw [bif_beq] at h4; refine ⟨k,q,rfl,Nat.le_of_ble_eq_true h1,Nat.eq_of_beq_eq_true h3,?_⟩
  split
  ·rename_i hw
   rw [if_pos hw] at h4; obtain ⟨h5,h6⟩:=bifT h4; obtain ⟨h7,h8⟩:=bifT h6; exact ⟨Nat.eq_of_beq_eq_true h5,ieq_of h7,nilT h8⟩
  ·rename_i hw
   rw [if_neg hw] at h4; obtain ⟨h5,h6⟩:=bifT h4; exact ⟨h5,oneT h6⟩
theorem loop_ok {S:UInt8->Prop} (hP:PgOk mg hd wt S) (hW:Wld):∀ (l:List UInt8) (s:St),(∀ c ∈ l,S c)->Rel mg inp s.out s.rd (qH hd (nxt l)) s->0<=s.rd->s.rd<=inp.size->inp.data.toList.drop s.rd.toNat = l->s.out.length + l.length < 4096 ->
 ∃ m s',m<=100 * (l.length + 1)/\Runs m s s'/\s'.out = s.out ++ (wantF wt l).1/\(if (wantF wt l).2 = true then s'.en = 2/\s'.tr = 8 else s'.en = 1/\s'.rd = inp.size)
 | [],s,hS,h,r0,r1,hd,ho=>by
  obtain ⟨k,q,e1,e2,e3,e4,e5⟩:=chkE_ok hP.cE; obtain ⟨m,s',a1,a2,a3⟩:=runQ_ok hP.im hW (by simp at ho; exact ho) 60 h rfl e1; have hsz:inp.data.toList.length = inp.size:=by rw [Array.length_toList]; rfl
  refine ⟨m,s',by simp; omega,a3,?_,?_⟩
  ·rw [a2.out,e5]; rfl
  ·have:=List.drop_eq_nil_iff.1 hd
   rw [if_neg (by simp [wantF])]; refine ⟨by rw [a2.en,e3]; rfl,?_⟩; rw [a2.rd,e4]; omega
 | c :: l,s,hS,h,r0,r1,hd,ho=>by
  obtain ⟨k,q,e1,e2,e3,e4⟩:=chkB_ok c.toNat (hP.cB c (hS c List.mem_cons_self)); rw [List.length_cons] at ho; obtain ⟨m,s',a1,a2,a3⟩:=runQ_ok hP.im hW (by omega) 100 h rfl e1; have hsz:inp.data.toList.length = inp.size:=by rw [Array.length_toList]; rfl
  have hlt:s.rd.toNat < inp.data.toList.length:=by
   rcases Nat.lt_or_ge s.rd.toNat inp.data.toList.length with h | h
   ·exact h
   ·rw [List.drop_eq_nil_of_le h] at hd; cases hd
  have hrd:s'.rd = s.rd + 1:=by rw [a2.rd,e3]; rfl
  by_cases hw:wt c.toNat = 256
  ·rw [if_pos hw] at e4
   obtain ⟨g1,g2,g3⟩:=e4; refine ⟨m,s',by rw [List.length_cons]; omega,a3,?_,?_⟩
   ·rw [a2.out,g3,wantF,if_pos hw]; rfl
   ·rw [wantF,if_pos hw,if_pos rfl]
    exact ⟨by rw [a2.en,g1]; rfl,by rw [a2.tr,g2]⟩
  ·rw [if_neg hw] at e4
   obtain ⟨g1,g2⟩:=e4; have hd2:inp.data.toList.drop s'.rd.toNat = l:=by
    rw [List.drop_eq_getElem_cons hlt] at hd; rw [hrd,show (s.rd + 1).toNat = s.rd.toNat + 1 by omega]; exact (List.cons.inj hd).2
   have hh:=head_ok a2 g1 (by omega) (by omega) hd2; have hout:s'.out = s.out ++ [(wt c.toNat:Int)]:=by rw [a2.out,g2]; rfl
   obtain ⟨m2,s2,b1,b2,b3,b4⟩:=loop_ok hP hW l s' (λc hc=>hS c (List.mem_cons_of_mem _ hc)) hh (by omega) (by omega) hd2 (by rw [hout,List.length_append,List.length_singleton]; omega); refine ⟨m + m2,s2,by rw [List.length_cons]; omega,a3.trans b2,?_,?_⟩
   ·rw [b3,hout,wantF,if_neg hw,List.append_assoc]; rfl
   ·rw [wantF,if_neg hw]; exact b4
def St.at8 (ws:List Int) (inp:ByteArray):St:=⟨List.replicate 16 0,0,⟨false,false,false,false⟩,8,ws,inp,0,0,0,[]⟩
theorem run_law {S:UInt8->Prop} (hP:PgOk mg hd wt S) (hW:Wld) {ws:List Int} (hl:ws.length = 65536) (hu:∀ x ∈ ws,U32 x) (hi:∀ a,ws.getD a 0 = (nthN mg a:Nat)) (hs:inp.size<=4000) (hS:∀ c ∈ inp.data.toList,S c) :
 ∃ m s',m<=100 * (inp.size + 2)/\Runs m (St.at8 ws inp) s'/\s'.out = (wantF wt inp.data.toList).1/\(if (wantF wt inp.data.toList).2 = true then s'.en = 2/\s'.tr = 8 else s'.en = 1/\s'.rd = inp.size):=by
 obtain ⟨k,q,e1,e2,e3,e4,e5⟩:=chk0_ok hP.c0; have hsz:inp.data.toList.length = inp.size:=by rw [Array.length_toList]; rfl
 have hz:∀ i,lnth .any q0.regs i = (if i < 16 then z32 else .any):=λi=>by
  match i with
  | 0 | 1 | 2 | 3 | 4 | 5 | 6 | 7 | 8 | 9 | 10 | 11 | 12 | 13 | 14 | 15=>rfl
  | i + 16=>rw [if_neg (by omega)]; rfl
 have h0:Rel mg inp [] 0 q0 (St.at8 ws inp):={
  ql:=rfl
  r16:=rfl
  ru:=λx hx=>by rw [List.eq_of_mem_replicate hx]; exact ⟨by decide,by decide⟩
  hu:=(show U32 0 from ⟨by decide,by decide⟩)
  wl:=hl
  wu:=hu
  regs:=λi=>by
   rw [hz]
   split
   ·rename_i h
    refine .inr ?_
    show z32 = .i .u32 ((List.replicate 16 (0:Int)).getD i 0)
    have:(List.replicate 16 (0:Int)).getD i 0 = 0:=by
     rw [gDd,List.getElem?_replicate]; split <;> rfl
    rw [this]; rfl
   ·exact .inl rfl
  h:=.inr rfl
  fn:=.inr rfl
  fz:=.inr rfl
  fc:=.inr rfl
  fv:=.inr rfl
  pc:=rfl
  mem:=λa=>hi a
  ip:=rfl
  out:=rfl
  rd:=rfl
  en:=rfl
  tr:=rfl
  nx:=λh=>absurd h (show ¬ (257:Nat) < 256 by decide)
  nxe:=λh=>absurd h (show ¬ (257:Nat) = 256 by decide) }
 obtain ⟨m,s',a1,a2,a3⟩:=runQ_ok hP.im hW (by decide) 60 h0 rfl e1; have hrd:s'.rd = 0:=by rw [a2.rd,e4]; rfl
 have hout:s'.out = []:=by rw [a2.out,e5]; rfl
 have hd:inp.data.toList.drop s'.rd.toNat = inp.data.toList:=by rw [hrd]; rfl
 have hh:=head_ok a2 e3 (by omega) (by omega) hd; obtain ⟨m2,s2,b1,b2,b3,b4⟩:=loop_ok hP hW _ s' hS hh (by omega) (by omega) hd (by rw [hout,hsz]; show 0 + inp.size < 4096; omega); refine ⟨m + m2,s2,by rw [hsz] at b1; omega,a3.trans b2,by rw [b3,hout]; rfl,b4⟩
theorem imgL_ok:PgOk imgL 25 wantN λ_=>True:=⟨by decide +kernel,chk0_t,chkE_t,λc _=>letters c.toNat (UInt8.toNat_lt c)⟩
theorem imgS_ok:PgOk imgS 24 (λc=>c) λc=>97<=c.toNat/\c.toNat < 100:=⟨by decide +kernel,chk0_s,chkE_s,λc h=>by
 have:=chkL_ok 3 97 let_s (c.toNat - 97) (by omega); rw [show 97 + (c.toNat - 97) = c.toNat by omega] at this; exact this⟩
end
end Go.Proofs.YtofpekbidngnfaaGreatDoor
namespace Go.Proofs.YtofpekbidngnfaaGreatDoor
open Go.RowKit
noncomputable section
theorem ACalls.plainA {P:Program} {f:FuncId} {args:List AV} {X:AV} (ha:∀ σ σ' vs,VRs σ args vs->VRs σ' args vs) (hX:∀ σ σ' u,VR σ X u->VR σ' X u) (h:ACalls P f args [] λv _=>v = X) (H:List ABlk) :
 ACalls P f args H λv H'=>v = X/\H' = H:=by
 intro σ w vs h1 h2
 have h0:HR { M:=σ.M,φ:=λ_ _=>none,D:=σ.D } [] w:=⟨h1.mem,λb k hb=>by simp at hb,λ_ _ _=>rfl,λb b' k k' u u' g hb=>by simp at hb⟩; refine (h { M:=σ.M,φ:=λ_ _=>none,D:=σ.D } w vs h0 (ha _ _ _ h2)).mono λe w' he=>?_
 obtain ⟨σ',H',v,u,e1,x1,x2,x3,rfl⟩:=he; have nofoot:∀ k,¬ foot { M:=σ.M,φ:=λ_ _=>none,D:=σ.D } [] k:=λk=>by
  rintro ⟨b,blk,v',hb,_⟩; simp at hb
 have hfr:∀ k,k < w.heap.size->w'.heap[k]? = w.heap[k]?:=λk hk=>x1.frame k hk (nofoot k)
 refine ⟨σ,H,v,u,e1,⟨.refl σ,x1.os,x1.tape,x1.output,x1.size,λk hk _=>hfr k hk,λk hk=>.inl hk,λa ha=>absurd rfl ha,λb hb=>⟨hb,λ_=>rfl⟩⟩,?_,hX _ _ _ x3,rfl,rfl⟩; refine ⟨⟨λa v ha=>?_,h1.mem.gl,x2.mem.sz⟩,λb k hb=>?_,h1.fresh,h1.inj⟩
 ·exact x2.mem a v (x1.le.M a v ha)
 ·exact (h1.blk b k hb).keep (.refl σ) (λ_=>rfl) λv' g hl hv' hc=>⟨hfr g ((h1.blk b k hb).lt hl hv' hc),λ_ _=>rfl⟩
theorem plainVR {x:Value} (σ σ':Sg) (u:Value) (h:VR σ (.d (.v x)) u):VR σ' (.d (.v x)) u:=by
 cases h with | d hd=>cases hd with | v hp=>exact .d (.v hp)
section
variable {β:Type} {d r:β} (hd:d ≠ r)
include hd
theorem gRh_ok {k:FV->Hp->β} {x:FR} (e:gRh d k x = r):∃ v h,x = .ok v h/\k v h = r:=by cases x <;> first | exact ⟨_,_,rfl,e⟩ | exact absurd e hd
theorem gP_ok {k:Pth->Nat->β} {x:FV} (e:gP d k x = r):∃ p o,x = .ptr p o/\k p o = r:=by cases x <;> first | exact ⟨_,_,rfl,e⟩ | exact absurd e hd
theorem gH_ok {k:Pth->Nat->Nat->Nat->Nat->β} {x:FV} (e:gH d k x = r):∃ p o n c z,x = .hsl p o n c z/\k p o n c z = r:=by cases x <;> first | exact ⟨_,_,_,_,_,rfl,e⟩ | exact absurd e hd
theorem gC_ok {k:Nat->List FV->FV->β} {x:FB} (e:gC d k x = r):∃ n cs z,x = .c n cs z/\k n cs z = r:=by cases x <;> first | exact ⟨_,_,_,rfl,e⟩ | exact absurd e hd
end
theorem geL_ok {n:Nat}:∀ {l:Lg},geL n l = true->∀ b ∈ l.ns,n<=b
 | .nil,_,b,hb=>absurd hb List.not_mem_nil
 | .cons p r,h,b,hb=>by
  obtain ⟨h1,h2⟩:=bifT (show bif' (Nat.ble n (num p)) (geL n r) false = true from h); rcases List.mem_cons.1 hb with hb | hb
  ·subst hb; exact Nat.le_of_ble_eq_true h1
  ·exact geL_ok h2 b hb
theorem hp1_ok {H:List ABlk} (h:H.length = 1):HpR hp1 H:=⟨h.symm,(by show 1<=32768; decide),λb k _=>by
 obtain ⟨a,b,c,d,e⟩:=pth b
 show BkR (hget (.mk a b c d e) hE) k
 rw [hget_eq]; have q:∀ {α:Type} (d:D8) (a:α),r8get d (all8 a) = a:=λd a=>by cases d <;> rfl
 simp only [hE,q]
 trivial,λp _=>by
 obtain ⟨a,b,c,d,e⟩:=p
 show hget (.mk a b c d e) hE = .dead
 rw [hget_eq]; have q:∀ {α:Type} (d:D8) (a:α),r8get d (all8 a) = a:=λd a=>by cases d <;> rfl
 simp only [hE,q]⟩
theorem isU_ok {n:Nat} {x:FV} (h:isU n x = true):x = .i .u32 n:=by
 obtain ⟨k,m,rfl,e⟩:=gI_ok (r:=true) (by decide) h; obtain ⟨h1,h2⟩:=bifT e; have hk:k = .u32:=by cases k <;> first | rfl | cases h1
 rw [hk,ieq_of h2]; rfl
theorem eqW_ok:∀ {ws:List Nat} {l:List FV},eqW l ws = true->l = ws.map λ(n:Nat)=>FV.i .u32 n
 | [],[],_=>rfl
 | [],x :: l,h=>by cases h
 | n :: ws,[],h=>by cases h
 | n :: ws,x :: l,h=>by
  obtain ⟨h1,h2⟩:=bifT (show bif' (isU n x) (eqW l ws) false = true from h); rw [isU_ok h1,eqW_ok h2]; rfl
theorem nthN_get:∀ (l:List Nat) (a:Nat),nthN l a = l.getD a 0
 | [],_=>rfl
 | x :: l,0=>rfl
 | x :: l,a + 1=>nthN_get l a
def imgW (mg:List Nat):List Int:=(List.range 65536).map λa=>(nthN mg a:Nat)
theorem imgW_len (mg:List Nat):(imgW mg).length = 65536:=by simp [imgW]
theorem nthN_out {mg:List Nat} {a:Nat} (h:mg.length<=a):nthN mg a = 0:=by
 rw [nthN_get,gDd,List.getElem?_eq_none h]; rfl
theorem imgW_get {mg:List Nat} (hm:mg.length<=126) (a:Nat):(imgW mg).getD a 0 = (nthN mg a:Nat):=by
 unfold imgW
 rw [gDd,List.getElem?_map]
 by_cases h:a < 65536
 ·rw [List.getElem?_range h]; rfl
 ·rw [List.getElem?_eq_none (by simp; omega),nthN_out (by omega)]; rfl
theorem imgW_u {mg:List Nat} (hm:mg.length<=126) (hu:∀ i < 126,nthN mg i < 4294967296):∀ x ∈ imgW mg,U32 x:=λx hx=>by
 obtain ⟨a,ha,rfl⟩:=List.mem_map.1 hx
 by_cases h:a < 126
 ·have:=hu a h
  exact ⟨by omega,by omega⟩
 ·rw [nthN_out (by omega)]
  exact ⟨by decide,by decide⟩
theorem pad_img (N:Nat) (mg:List Nat):padL (.i .u32 ((0:Nat):Int)) N (mg.map λ(n:Nat)=>FV.i .u32 n) = ((List.range N).map λa=>((nthN mg a:Nat):Int)).map wv:=by
 unfold padL
 rw [List.map_map]; refine List.map_congr_left λi _=>?_
 show toA ((mg.map λ(n:Nat)=>FV.i .u32 n).getD i (.i .u32 ((0:Nat):Int))) = wv ((nthN mg i:Nat):Int)
 rw [nthN_get,gDd,List.getElem?_map,gDd]
 cases mg[i]? <;> rfl
theorem parse_built {src:FV} {mg:List Nat} (h:pipeG src mg = true):∃ (cs:List AV) (Y:AV),cs.length = 8/\cs.all one = true/\(∀ H:List ABlk,H.length = 1->∃ (H1 H5:List ABlk) (w:Nat) (md:AV) (B:List Nat),
 (ACalls TP 6 [toA src] H λv H'=>v = .tup [.agg cs,Y,iv 0]/\H' = H1)/\1<=H1.length/\H1[0]? = H[0]? /\
 (ACalls TP 7 [.hsl (H1.length + 1) 0 1 1 8,.agg [iv 65536,iv 16384]] (H1 ++ [.cells cs,.cells cs]) λv H'=>v = .tup [.agg [.hsl w 0 65536 65536 1,iv 8,md],bv true]/\H' = H5) /\
 H1.length + 2<=H5.length/\H5[0]? = H[0]?/\(∀ b ∈ B,b < H5.length/\(b < H1.length->H1[b]? ≠ some .dead))/\(∀ c,c ∉ B->H5[c]? = (H1 ++ [.cells cs,.cells cs])[c]?)/\one md = true/\H5[w]? = some (.cells ((imgW mg).map wv))):=by
 have tf:false ≠ true:=by decide
 unfold pipeG parQ at h
 obtain ⟨v1,h2,e1,h⟩:=gRh_ok tf h; obtain ⟨l,rfl,h⟩:=gT_ok tf h; obtain ⟨m,l1,rfl,h⟩:=gL_ok tf h; obtain ⟨y,l2,rfl,h⟩:=gL_ok tf h; obtain ⟨er,l3,rfl,h⟩:=gL_ok tf h; obtain ⟨rfl,h⟩:=gE_ok tf h; obtain ⟨kk,en,rfl,h⟩:=gI_ok tf h; obtain ⟨c1,h⟩:=gbif_ok tf h; obtain ⟨cs,rfl,h⟩:=gA_ok tf h; obtain ⟨c2,h⟩:=gbif_ok tf h
 unfold bltQ at h
 obtain ⟨v2,h3,e2,h⟩:=gRh_ok tf h; obtain ⟨v3,h4,e3,h⟩:=gRh_ok tf h; obtain ⟨p,o,rfl,h⟩:=gP_ok tf h; obtain ⟨v4,h5,e4,h⟩:=gRh_ok tf h
 unfold imgQ at h
 obtain ⟨l,rfl,h⟩:=gT_ok tf h; obtain ⟨x,l1,rfl,h⟩:=gL_ok tf h; obtain ⟨okv,l2,rfl,h⟩:=gL_ok tf h; obtain ⟨rfl,h⟩:=gE_ok tf h; obtain ⟨okb,rfl,h⟩:=gB_ok tf h; obtain ⟨rfl,h⟩:=gbif_ok tf h; obtain ⟨l,rfl,h⟩:=gA_ok tf h; obtain ⟨w,l1,rfl,h⟩:=gL_ok tf h; obtain ⟨st,l2,rfl,h⟩:=gL_ok tf h; obtain ⟨md,l3,rfl,h⟩:=gL_ok tf h; obtain ⟨rfl,h⟩:=gE_ok tf h; obtain ⟨pw,po,pn,pc,pz,rfl,h⟩:=gH_ok tf h; obtain ⟨c3,h⟩:=gbif_ok tf h; obtain ⟨k3,sn,rfl,h⟩:=gI_ok tf h; obtain ⟨c4,h⟩:=gbif_ok tf h; obtain ⟨t5,n5,lg5⟩:=h5; obtain ⟨c5,h⟩:=gbif_ok tf (show bif' (geL 1 lg5) _ false = true from h); obtain ⟨bn,bc,bz,c6,h⟩:=gC_ok tf h; obtain ⟨c7,h⟩:=gbif_ok tf h; obtain ⟨c8,h⟩:=bifT h; obtain ⟨c10,c9⟩:=bifT h; obtain ⟨c11,c12⟩:=bifT c1; obtain ⟨c21,c22⟩:=bifT c2; obtain ⟨c31,c3⟩:=bifT c3; obtain ⟨c32,c3⟩:=bifT c3; obtain ⟨c33,c34⟩:=bifT c3; obtain ⟨c41,c42⟩:=bifT c4; have hk:kk = .i64:=kN_i64 c11; have hk3:k3 = .i64:=kN_i64 c41; have hen:en = 0:=i0_iff.1 c12; have hsn:sn = 8:=ieq_of c42; have q31:=Nat.eq_of_beq_eq_true c31; have q32:=Nat.eq_of_beq_eq_true c32; have q33:=Nat.eq_of_beq_eq_true c33; have q34:=Nat.eq_of_beq_eq_true c34; have q7:=Nat.eq_of_beq_eq_true c7; have q8:=isU_ok c8; have q9:=eqW_ok c9; subst hk hk3 hen hsn q31 q32 q33 q34 q7 q8 q9; obtain ⟨hl,ho⟩:=cellsB_ok c22; refine ⟨toAs cs,toA y,by rw [toAs_length]; exact hl,ho,λH hH=>?_⟩; obtain ⟨pre1,H1,a1,a2,a3⟩:=ev'_ok (hp1_ok hH) e1; have hx:BkR (.c 8 cs .any) (.cells (toAs cs)):=by
  show ABlk.cells _ = .cells (padL .any 8 cs)
  rw [padL_full hl]
 obtain ⟨p1,g3,n1,b1,b2,b3⟩:=newB_ok a1 e2 hx
 cases b3
 obtain ⟨p2,g4,n2,d1,d2,d3⟩:=newB_ok b1 e3 hx
 cases d3
 obtain ⟨pre5,H5,f1,f2,f3⟩:=ev'_ok d1 e4; have hH2:H1 ++ [ABlk.cells (toAs cs)] ++ [ABlk.cells (toAs cs)] = H1 ++ [.cells (toAs cs),.cells (toAs cs)]:=by rw [List.append_assoc]; rfl
 have hlen:(H1 ++ [ABlk.cells (toAs cs)] ++ [ABlk.cells (toAs cs)]).length = H1.length + 2:=by simp
 have hall:=geL_ok c5; have hlog:lg5.ns = pre5 ++ (pre1 ++ []):=by
  have x5:lg5.ns = pre5 ++ h4.lg.ns:=f2.log; have x4:h4.lg.ns = h3.lg.ns:=d2.log; have x3:h3.lg.ns = h2.lg.ns:=b2.log; have x2:h2.lg.ns = pre1 ++ []:=a2.log; rw [x5,x4,x3,x2]
 have no1:0 ∉ pre1:=λh=>by
  have:=hall 0 (by rw [hlog]; simp [h]); omega
 have no5:0 ∉ pre5:=λh=>by
  have:=hall 0 (by rw [hlog]; simp [h]); omega
 have l1:1<=H1.length:=by have:=a2.len; omega
 have hz1:H1[0]? = H[0]?:=a2.fr 0 (by omega) no1; have hcell:=f1.cells (show hget pw t5 = .c 65536 _ _ from c6); refine ⟨H1,H5,num pw,toA md,pre5 ++ List.range' (H1.length + 2) (H5.length - (H1.length + 2)),a3,l1,hz1,?_,?_,?_,?_,?_,cellB_one c10,?_⟩
 ·have e7 : toAs [.hsl p 0 1 1 8, .agg [.i .i64 65536, .i .i64 16384]] = [AV.hsl (H1.length + 1) 0 1 1 8, .agg [iv 65536, iv 16384]] := by
   show [AV.hsl (num p) 0 1 1 8,_] = _
   rw [n2]; simp; rfl
  rw [e7,hH2] at f3; exact f3
 ·rw [<- hlen]; exact f2.len
 ·rw [f2.fr 0 (by rw [hlen]; omega) no5,hH2,List.getElem?_append_left (by omega),hz1]
 ·intro b hb
  rcases List.mem_append.1 hb with hb | hb
  ·refine ⟨f2.lt b hb,λhl=>?_⟩
   have:=f2.live b hb (by rw [hlen]; omega)
   rwa [hH2,List.getElem?_append_left hl] at this
  ·have:=List.mem_range'_1.1 hb
   have h5:=f2.len; rw [hlen] at h5; exact ⟨by omega,λhl=>by omega⟩
 ·intro c hc
  have h5:=f2.len; rw [hlen] at h5
  by_cases hcl:c < H1.length + 2
  ·rw [f2.fr c (by rw [hlen]; exact hcl) (λh=>hc (List.mem_append.2 (.inl h))),hH2]
  ·have hA:(H1 ++ [ABlk.cells (toAs cs),ABlk.cells (toAs cs)])[c]? = none:=List.getElem?_eq_none (by simp; omega)
   have hB:H5[c]? = none:=by
    refine List.getElem?_eq_none ?_; rcases Nat.lt_or_ge c H5.length with h | h
    ·exact absurd (List.mem_append.2 (.inr (List.mem_range'_1.2 ⟨by omega,by omega⟩))) hc
    ·exact h
   rw [hA,hB]
 ·rw [hcell]; exact congrArg (λl=>some (ABlk.cells l)) (pad_img 65536 mg)
end
def c20:AC:=
 sr [im 6 (.c .nilp),im 7 (kc 0)]
 (sr [im 11 t0,ic 12 51 [t11],im 10 t12,kn 13 (.ext t10 0),kn 14 (.ext t10 1),im 8 t13,im 9 t14]
 (.seq (sr [im 15 t9,ib 16 .neq t15 (kc 0)]
 (.cond t16 (sr [im 17 t9,im 6 (.c .nilp),im 7 t17]
 (.ret)) (.skip)))
 (.seq (sr [im 18 t2,kn 19 (.len true t18),ib 20 .gtr t19 (kc 4096)]
 (.cond t20 (sr [im 6 (.c .nilp),im 7 (kc 2)]
 (.ret)) (.skip)))
 (.seq (sr [im 21 t1,ib 22 .lss t21 (kc 0),im 23 t22,ko 24 23 (.mv t1),ko 25 23 (.mv t0),ko 26 23 (.len false t25),ko 27 23 (.bin .gtr t24 t26),kn 28 (.pick t23 kT t27)]
 (.cond t28 (sr [im 6 (.c .nilp),im 7 (kc 1)]
 (.ret)) (.skip)))
 (sr [im 29 t1,im 30 t8,im 31 t2,kn 32 (.bd [(.d (.v (.int .u32 0))),(.d (.v (.int .u32 0))),(.d (.v (.int .u32 0))),(.d (.v (.int .u32 0))),(.d (.v (.int .u32 0))),(.d (.v (.int .u32 0))),(.d (.v (.int .u32 0))),(.d (.v (.int .u32 0))),(.d (.v (.int .u32 0))),(.d (.v (.int .u32 0))),(.d (.v (.int .u32 0))),(.d (.v (.int .u32 0))),(.d (.v (.int .u32 0))),(.d (.v (.int .u32 0))),(.d (.v (.int .u32 0))),(.d (.v (.int .u32 0))),(.d (.v (.int .u32 0))),(.d (.v (.bool false))),(.d (.v (.bool false))),(.d (.v (.bool false))),(.d (.v (.bool false))),kz,.nilp,ks,kz,.esl,kz,kz] [(21,1,t29),(22,1,t30),(23,1,t31)]),kn 33 (.bx t32),im 6 t33,im 7 (kc 0)]
 (.ret))))))
def r20:List RC:=[.t 6,.t 7]
theorem cc20:cKc Tryz.f20 (hh 20) c20:=by unfold cKc; kernel_rfl
theorem rr20:resC Tryz.prog Tryz.f20 = some r20:=by kernel_rfl
def St.at (ws:List Int) (start:Int) (inp:ByteArray):St:=⟨List.replicate 16 0,0,⟨false,false,false,false⟩,start,ws,inp,0,0,0,[]⟩
theorem cnewH_c {ws:List Int} {b c:Nat} {H:List ABlk} (hb:H[b]? = some (.cells (ws.map wv))) (hl:ws.length<=65536) (hr:∀ x ∈ ws,U32 x) (start:Int) (h0:0<=start) (h1:start<=ws.length) (inp:ByteArray) (hi:inp.size<=4000) :
 ACalls Tryz.prog 20 [.hsl b 0 ws.length c 1,iv start,sv inp] H λv H'=>∃ mb pb wb,v = .tup [.ptr mb 0,iv 0]/\MAt H H' mb pb wb .esl (St.at ws start inp):=by
 refine ACalls.into Tryz.func20 cc20 rr20 λhcl=>?_
 simp (disch:=omega) only [Tryz.ntmps20,c20,r20,go_sem,seval,reduceCtorEq]; refine Cont.mk (newH_c hb hl) ?_; simp (disch:=omega) only [lnn,go_sem,seval,reduceCtorEq]; refine Ret.keep ⟨H.length + 2,H.length + 1,H.length,rfl,⟨_,rfl⟩,by rw [List.getElem?_append_right (by omega),Nat.add_sub_cancel_left]; rfl,⟨by rw [List.getElem?_append_right (by omega),Nat.add_sub_cancel_left]; rfl,by rw [List.getElem?_append_right (by omega),Nat.sub_self]; rfl,hl,hr⟩,.inl ⟨rfl,rfl⟩,⟨by omega,by omega,by omega⟩,⟨by omega,by omega⟩,rfl,λx hx=>?_,(show U32 0 from ⟨by decide,by decide⟩),(show (0:Int)<=start/\start < 1073741824 from ⟨by omega,by omega⟩),?_,?_,?_⟩
 ·rw [List.eq_of_mem_replicate hx]; exact ⟨by decide,by decide⟩
 ·exact Int.le_refl 0
 ·show (0:Int)<=(inp.size:Int); omega
 ·show inp.size<=_; omega
end Go.Proofs.YtofpekbidngnfaaGreatDoor
