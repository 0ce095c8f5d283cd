/-
  One's own library, part 16: freezing: what nobody will write any more becomes data.
-/
import Derived.Test.YtofpekbidngnfaaGreatDoorYSet
import Derived.Sort.Grow
import Derived.Test.YtofpekbidngnfaaGreatDoorYR1
import Derived.Test.YtofpekbidngnfaaGreatDoorYCodeU
import Derived.Test.YtofpekbidngnfaaGreatDoorYV2
import Derived.Test.YtofpekbidngnfaaGreatDoorYR2
set_option linter.unusedSectionVars false
set_option linter.unusedSimpArgs false
set_option linter.unusedVariables false
set_option maxHeartbeats 4000000
set_option maxRecDepth 20000
namespace Go.Proofs.YtofpekbidngnfaaGreatDoor
open Go.RowKit
inductive Fz (F:Nat->Prop) (H:List ABlk):AV->Dat->Prop
 | d {x:Dat}:Fz F H (.d x) x
 | esl:Fz F H .esl (.sl [])
 | gsl {b sz:Nat} {es:List (List Dat)}:Fz F H (.gsl b sz es) (.sl es)
 | hsl {b off n cap sz:Nat} {cs:List AV} {es:List (List Dat)}:F b->H[b]? = some (.cells cs)->es.length = n->(∀ e ∈ es,e.length = sz)->off + n * sz<=cs.length ->
  (∀ (i:Nat) (e:List Dat) (j:Nat) (d:Dat),es[i]? = some e->e[j]? = some d->Fz F H (cs.getD (off + i * sz + j) .any) d)->Fz F H (.hsl b off n cap sz) (.sl es)
inductive FzA (F:Nat->Prop) (H:List ABlk):AV->AV->Prop
 | keep (x:AV):FzA F H x x
 | any (x:AV):FzA F H x .any
 | d {x:AV} {y:Dat}:Fz F H x y->FzA F H x (.d y)
 | agg {cs cs':List AV}:cs.length = cs'.length->(∀ (i:Nat) (c c':AV),cs[i]? = some c->cs'[i]? = some c'->FzA F H c c')->FzA F H (.agg cs) (.agg cs')
 | tup {cs cs':List AV}:cs.length = cs'.length->(∀ (i:Nat) (c c':AV),cs[i]? = some c->cs'[i]? = some c'->FzA F H c c')->FzA F H (.tup cs) (.tup cs')
inductive FzL (F:Nat->Prop) (H:List ABlk):List AV->List AV->Prop
 | nil:FzL F H [] []
 | cons {x y:AV} {xs ys:List AV}:FzA F H x y->FzL F H xs ys->FzL F H (x :: xs) (y :: ys)
theorem FzL.rfl {F:Nat->Prop} {H:List ABlk}:∀ (xs:List AV),FzL F H xs xs
 | []=>.nil
 | x :: xs=>.cons (.keep x) (FzL.rfl xs)
theorem FzL.at_ {F:Nat->Prop} {H:List ABlk} {xs ys:List AV} (h:FzL F H xs ys):xs.length = ys.length/\∀ (i:Nat) (c c':AV),xs[i]? = some c->ys[i]? = some c'->FzA F H c c':=by
 induction h with
 | nil=>exact ⟨Eq.refl _,λi c c' h=>by simp at h⟩
 | cons h1 _ ih =>
  refine ⟨by simp [ih.1],λi c c' h k=>?_⟩
  cases i with
  | zero=>simp at h k; subst h; subst k; exact h1
  | succ i=>simp at h k; exact ih.2 i c c' h k
def newAt (σ:Sg) (H:List ABlk) (F:Nat->Prop) (g:Nat):Prop:=∃ b cs,F b/\H[b]? = some (.cells cs)/\σ.φ b 0 = some (.pointer (some ⟨g,0,none⟩))
open Classical in
noncomputable def frM (σ:Sg) (H:List ABlk) (F:Nat->Prop) (w:World):Mem:=λa=>if newAt σ H F a.block then w.cell? a else σ.M a
noncomputable def frS (σ:Sg) (H:List ABlk) (F:Nat->Prop) (w:World):Sg:=⟨frM σ H F w,σ.φ,σ.D⟩
section
variable {σ:Sg} {H:List ABlk} {w:World} {F:Nat->Prop} (hr:HR σ H w)
include hr
theorem newAt_M {g:Nat} (h:newAt σ H F g) {a:Addr} (ha:a.block = g):σ.M a = none:=by
 obtain ⟨b,cs,h1,h2,h3⟩:=h; obtain ⟨vs,t,-,-,-,h4⟩:=hr.cellsAt h2 h3; exact h4 a ha
theorem frM_le (a:Addr) (v:Value) (h:σ.M a = some v):frM σ H F w a = some v:=by
 unfold frM
 split
 ·rename_i hn
  rw [newAt_M hr hn rfl] at h; cases h
 ·exact h
theorem frS_le:σ.le (frS σ H F w):=⟨frM_le hr,λ_ _ _ h=>h,rfl⟩
theorem Fz.sound {x:AV} {y:Dat} (h:Fz F H x y):∀ {u:Value},VR σ x u->VD (frM σ H F w) y u:=by
 induction h with
 | d=>intro u h; cases h with | d h=>exact h.mono (frM_le hr)
 | esl=>intro u h; cases h; exact .nil
 | gsl=>intro u h; cases h with | gsl _ _ h=>exact h.mono (frM_le hr)
 | @hsl b off n cap sz cs es hb hH hn hz ho hc ih =>
  intro u h
  cases h with
  | hsl0 _ =>
   rw [List.eq_nil_of_length_eq_zero hn]; exact .nil
  | @hsl _ g _ _ _ cap' _ N hφ hN hoN hn1 hc1 hm =>
   by_cases h0:es = []
   ·subst h0; simp at hn; subst hn; exact .nil
   obtain ⟨vs,t,k1,k2,k3,k4⟩:=hr.cellsAt hH hφ; rw [hN] at k1; have hNs:N = vs.size:=by cases k1; rfl
   have hnew:newAt σ H F g:=⟨b,cs,hb,hH,hφ⟩; have hidx:∀ i e j d,es[i]? = some e->e[j]? = some d->off + i * sz + j < cs.length:=λi e j d hi hj=>by
    obtain ⟨q1,q2⟩:=List.getElem?_eq_some_iff.1 hi; obtain ⟨q3,_⟩:=List.getElem?_eq_some_iff.1 hj; have:=hz e (by rw [<- q2]; exact List.getElem_mem _); have:(i + 1) * sz<=n * sz:=Nat.mul_le_mul_right _ (by omega); rw [Nat.succ_mul] at this; omega
   have hlen:cs.length<=vs.size:=by
    have h1:=k3.1; have h2:vs.toList.length = vs.size:=Array.length_toList; rw [List.length_take,h2] at h1; omega
   rw [<- hn]; refine VD.sl (sz:=sz) (λi j=>vs.getD (off + i * sz + j) undef) h0 (by omega) hm hz (λi e j d hi hj=>?_) (λi e j d hi hj=>?_)
   ·have hk:=hidx i e j d hi hj
    rw [addr_lit]
    unfold frM
    rw [if_pos hnew]; have hvs:off + i * sz + j < vs.size:=by omega
    simp only [World.cell?,k2]; rw [show off + (i * sz + j) = off + i * sz + j by omega,Array.getD_eq_getD_getElem?,Array.getElem?_eq_getElem hvs]
    simp
   ·have hk:=hidx i e j d hi hj
    refine ih i e j d hi hj ?_; have:=k3.getD (off + i * sz + j) undef
    rwa [show (vs.toList.take cs.length).getD (off + i * sz + j) undef = vs.getD (off + i * sz + j) undef by
     rw [gDd,List.getElem?_take_of_lt hk,Array.getElem?_toList,Array.getD_eq_getD_getElem?]] at this
theorem FzA.sound {x y:AV} (h:FzA F H x y):∀ {u:Value},VR σ x u->VR (frS σ H F w) y u:=by
 induction h with
 | keep x=>exact λh=>h.mono (frS_le hr)
 | any=>exact λ_=>.any
 | d h=>exact λhv=>.d (h.sound hr hv)
 | @agg cs cs' hl _ ih =>
  intro u h
  cases h with
  | agg h1 h2 =>
   refine .agg (hl ▸ h1) λi c' u hi hu=>?_
   have hlt:i < cs.length:=by rw [hl]; exact (List.getElem?_eq_some_iff.1 hi).1
   exact ih i _ c' (gEe hlt) hi (h2 i _ u (gEe hlt) hu)
 | @tup cs cs' hl _ ih =>
  intro u h
  cases h with
  | tup h1 h2 =>
   refine .tup (hl ▸ h1) λi c' u hi hu=>?_
   have hlt:i < cs.length:=by rw [hl]; exact (List.getElem?_eq_some_iff.1 hi).1
   exact ih i _ c' (gEe hlt) hi (h2 i _ u (gEe hlt) hu)
theorem FzL.sound {xs ys:List AV} (h:FzL F H xs ys) {us:List Value} (hv:VRs σ xs us):VRs (frS σ H F w) ys us:=by
 have hl:=h.at_; refine ⟨by rw [<- hl.1]; exact hv.1,λi c u hi hu=>?_⟩; have hlt:i < xs.length:=by rw [hl.1]; exact (List.getElem?_eq_some_iff.1 hi).1
 exact (hl.2 i _ c (gEe hlt) hi).sound hr (hv.2 i _ u (gEe hlt) hu)
end
theorem ACalls.pre {P:Program} {f:FuncId} {args args':List AV} {H H0:List ABlk} {R:AV->List ABlk->Prop} (hk:Wk H.length args H args' H0) (h:ACalls P f args' H0 R):ACalls P f args H R:=λσ w vs h1 h2=>by
 obtain ⟨σ1,x1,x2,x3⟩:=hk { tmps:=vs.toArray,defers:=σ.D } σ w h1 ⟨rfl,by simpa using h2⟩; refine (h σ1 w vs x2 (by simpa using x3.tmps)).mono λe w' he=>?_
 obtain ⟨σ',H',v,u,e1,y1,y2,y3,y4⟩:=he; exact ⟨σ',H',v,u,e1,(x1.trans (y1.toN _)).full h1,y2,y3,y4⟩
theorem ACalls.wk {P:Program} {f:FuncId} {args:List AV} {H:List ABlk} {R R':AV->List ABlk->Prop} (h:ACalls P f args H R) (hk:∀ v H',R v H'->∃ v0 H0,Wk H.length [v] H' [v0] H0/\R' v0 H0):ACalls P f args H R':=λσ w vs h1 h2=>by
 refine (h σ w vs h1 h2).mono λe w' he=>?_
 obtain ⟨σ',H',v,u,e1,y1,y2,y3,y4⟩:=he; obtain ⟨v0,H0,k1,k2⟩:=hk v H' y4; obtain ⟨σ2,z1,z2,z3⟩:=k1 { tmps:=#[u],defers:=σ'.D } σ' w' y2 ⟨rfl,.cons y3 .nil⟩; exact ⟨σ2,H0,v0,u,e1,((y1.toN _).trans z1).full h1,z2,z3.tmps.2 0 v0 u rfl rfl,k2⟩
abbrev sv (s:ByteArray):AV:=.d (.v (.string s))
abbrev bs (l:List UInt8):ByteArray:=⟨l.toArray⟩
section
variable {P:Program} {σ:Sg} {H:List ABlk} {w w':World}
theorem HR.below (h:HR σ H w) (hb:Below w.heap.size w w'):HR σ H w'/\Ext σ H w σ H w':=by
 refine ⟨⟨⟨λa v hm=>?_,h.mem.gl,h.mem.sz.to λt ht c e f hc=>⟨c,e,f,?_,rfl⟩⟩,λb k hk=>?_,h.fresh,h.inj⟩,⟨.refl σ,hb.os,hb.tape,hb.output,hb.size,λk hk _=>hb.block k hk,λk hk=>.inl hk,λa ha=>absurd rfl ha,λb hd=>⟨hd,λ_=>rfl⟩⟩⟩
 ·have hlt:=h.Mlt hm
  have h1:=h.mem.cell a v hm
  unfold World.cell? at h1 ⊢
  rw [hb.block _ hlt]; exact h1
 ·exact (hb.block _ (lt_of_heap hc)).trans hc
 ·exact (h.blk b k hk).keep (.refl σ) (λ_=>rfl) λv g hl hv hc=>⟨hb.block _ ((h.blk b k hk).lt hl hv hc),λ_ _=>rfl⟩
theorem ACalls.ofCalls {f:FuncId} {args:List AV} {x:AV} (h:∀ (σ:Sg) (w:World) (vs:List Value),HR σ H w->VRs σ args vs->Calls P f vs.toArray w λe w'=>∃ u,e = .returned u/\VR σ x u/\Below w.heap.size w w') :
 ACalls P f args H λv H'=>v = x/\H' = H:=λσ w vs h1 h2=>(h σ w vs h1 h2).mono λe w' he=>by
 obtain ⟨u,e1,e2,e3⟩:=he; obtain ⟨k1,k2⟩:=h1.below e3; exact ⟨σ,H,x,u,e1,k2,k1,e2,rfl,rfl⟩
theorem VR.eqV {x:Value} {u:Value} (h:VR σ (.d (.v x)) u):u = x:=by
 cases h with | d hd=>cases hd; rfl
theorem VRs.one_inv {x:AV} {us:List Value} (h:VRs σ [x] us):∃ u,us = [u]/\VR σ x u:=by
 obtain ⟨u,us',rfl,h1,h2⟩:=h.cons_inv; have h3:=h2.1; have h4:us' = []:=List.eq_nil_of_length_eq_zero (by simpa using h3.symm); exact ⟨u,by rw [h4],h1⟩
theorem VRs.two_inv {x y:AV} {us:List Value} (h:VRs σ [x,y] us):∃ u v,us = [u,v]/\VR σ x u/\VR σ y v:=by
 obtain ⟨u,us',rfl,h1,h2⟩:=h.cons_inv; obtain ⟨v,rfl,h3⟩:=h2.one_inv; exact ⟨u,v,rfl,h1,h3⟩
theorem HR.tab (h:HR σ H w) {t:Nat × IntKind × List Int} (ht:t ∈ glTabs):∃ e f,w.heap[t.1]? = some (.cells (t.2.2.map λz=>Value.int t.2.1 z).toArray e f):=by
 obtain ⟨c,e,f,hc,hs⟩:=h.mem.sz t ht; refine ⟨e,f,?_⟩; rw [hc]
 congr 2
 apply Array.ext_getElem?
 intro i
 by_cases hi:i < t.2.2.length
 ·have h1:=h.mem.cell _ _ (h.mem.gl.2 t ht i _ (gEe hi))
  unfold World.cell? at h1
  simp only [hc,Option.isSome_none,Bool.false_eq_true,if_false] at h1; rw [h1]; simp [gEe hi]
 ·rw [Array.getElem?_eq_none (by omega),Array.getElem?_eq_none (by simp; omega)]
theorem HR.cellT (h:HR σ H w) {t:Nat × IntKind × List Int} (ht:t ∈ glTabs) {i:Nat} {x:Int} (hx:t.2.2[i]? = some x):w.cell? ⟨t.1,i,none⟩ = some (.int t.2.1 x):=h.mem.cell _ _ (h.mem.gl.2 t ht i x hx)
end
def c53l0:AC:=
 .seq (sr [im 16 t6,im 17 t5,kn 18 (.ix t17 (kc 1)),kn 19 (.cvi .i64 t18),ib 20 .leq t16 t19]
 (.cond t20 (.skip) (.exit 2)))
 (.seq (.block 3 (.reg [im 23 t6,kn 24 (.iar t3 t23 256 1),ke (.st t24 kT 1)]))
 (.reg [im 21 t6,ib 22 .add t21 (kc 1),im 6 t22]))
def c53l1:AC:=
 sr [ib 10 .lss t9 t8]
 (.seq (.cond t10 (.skip) (.exit 0))
 (.seq (.block 1 (sr [kn 11 (.ia t7 t9 1),il 12 t11,im 5 t12]
 (sr [im 13 t5,kn 14 (.ix t13 (kc 0)),kn 15 (.cvi .i64 t14),im 6 t15]
 (.block 2 (.loop c53l0)))))
 (.reg [ib 25 .add t9 (kc 1),im 9 t25])))
def c53:AC:=
 sr [im 2 (.c .nilp)]
 (sr [kn 3 (.al [(.d (.v (.bool false))),(.d (.v (.bool false))),(.d (.v (.bool false))),(.d (.v (.bool false))),(.d (.v (.bool false))),(.d (.v (.bool false))),(.d (.v (.bool false))),(.d (.v (.bool false))),(.d (.v (.bool false))),(.d (.v (.bool false))),(.d (.v (.bool false))),(.d (.v (.bool false))),(.d (.v (.bool false))),(.d (.v (.bool false))),(.d (.v (.bool false))),(.d (.v (.bool false))),(.d (.v (.bool false))),(.d (.v (.bool false))),(.d (.v (.bool false))),(.d (.v (.bool false))),(.d (.v (.bool false))),(.d (.v (.bool false))),(.d (.v (.bool false))),(.d (.v (.bool false))),(.d (.v (.bool false))),(.d (.v (.bool false))),(.d (.v (.bool false))),(.d (.v (.bool false))),(.d (.v (.bool false))),(.d (.v (.bool false))),(.d (.v (.bool false))),(.d (.v (.bool false))),(.d (.v (.bool false))),(.d (.v (.bool false))),(.d (.v (.bool false))),(.d (.v (.bool false))),(.d (.v (.bool false))),(.d (.v (.bool false))),(.d (.v (.bool false))),(.d (.v (.bool false))),(.d (.v (.bool false))),(.d (.v (.bool false))),(.d (.v (.bool false))),(.d (.v (.bool false))),(.d (.v (.bool false))),(.d (.v (.bool false))),(.d (.v (.bool false))),(.d (.v (.bool false))),(.d (.v (.bool false))),(.d (.v (.bool false))),(.d (.v (.bool false))),(.d (.v (.bool false))),(.d (.v (.bool false))),(.d (.v (.bool false))),(.d (.v (.bool false))),(.d (.v (.bool false))),(.d (.v (.bool false))),(.d (.v (.bool false))),(.d (.v (.bool false))),(.d (.v (.bool false))),(.d (.v (.bool false))),(.d (.v (.bool false))),(.d (.v (.bool false))),(.d (.v (.bool false))),(.d (.v (.bool false))),(.d (.v (.bool false))),(.d (.v (.bool false))),(.d (.v (.bool false))),(.d (.v (.bool false))),(.d (.v (.bool false))),(.d (.v (.bool false))),(.d (.v (.bool false))),(.d (.v (.bool false))),(.d (.v (.bool false))),(.d (.v (.bool false))),(.d (.v (.bool false))),(.d (.v (.bool false))),(.d (.v (.bool false))),(.d (.v (.bool false))),(.d (.v (.bool false))),(.d (.v (.bool false))),(.d (.v (.bool false))),(.d (.v (.bool false))),(.d (.v (.bool false))),(.d (.v (.bool false))),(.d (.v (.bool false))),(.d (.v (.bool false))),(.d (.v (.bool false))),(.d (.v (.bool false))),(.d (.v (.bool false))),(.d (.v (.bool false))),(.d (.v (.bool false))),(.d (.v (.bool false))),(.d (.v (.bool false))),(.d (.v (.bool false))),(.d (.v (.bool false))),(.d (.v (.bool false))),(.d (.v (.bool false))),(.d (.v (.bool false))),(.d (.v (.bool false))),(.d (.v (.bool false))),(.d (.v (.bool false))),(.d (.v (.bool false))),(.d (.v (.bool false))),(.d (.v (.bool false))),(.d (.v (.bool false))),(.d (.v (.bool false))),(.d (.v (.bool false))),(.d (.v (.bool false))),(.d (.v (.bool false))),(.d (.v (.bool false))),(.d (.v (.bool false))),(.d (.v (.bool false))),(.d (.v (.bool false))),(.d (.v (.bool false))),(.d (.v (.bool false))),(.d (.v (.bool false))),(.d (.v (.bool false))),(.d (.v (.bool false))),(.d (.v (.bool false))),(.d (.v (.bool false))),(.d (.v (.bool false))),(.d (.v (.bool false))),(.d (.v (.bool false))),(.d (.v (.bool false))),(.d (.v (.bool false))),(.d (.v (.bool false))),(.d (.v (.bool false))),(.d (.v (.bool false))),(.d (.v (.bool false))),(.d (.v (.bool false))),(.d (.v (.bool false))),(.d (.v (.bool false))),(.d (.v (.bool false))),(.d (.v (.bool false))),(.d (.v (.bool false))),(.d (.v (.bool false))),(.d (.v (.bool false))),(.d (.v (.bool false))),(.d (.v (.bool false))),(.d (.v (.bool false))),(.d (.v (.bool false))),(.d (.v (.bool false))),(.d (.v (.bool false))),(.d (.v (.bool false))),(.d (.v (.bool false))),(.d (.v (.bool false))),(.d (.v (.bool false))),(.d (.v (.bool false))),(.d (.v (.bool false))),(.d (.v (.bool false))),(.d (.v (.bool false))),(.d (.v (.bool false))),(.d (.v (.bool false))),(.d (.v (.bool false))),(.d (.v (.bool false))),(.d (.v (.bool false))),(.d (.v (.bool false))),(.d (.v (.bool false))),(.d (.v (.bool false))),(.d (.v (.bool false))),(.d (.v (.bool false))),(.d (.v (.bool false))),(.d (.v (.bool false))),(.d (.v (.bool false))),(.d (.v (.bool false))),(.d (.v (.bool false))),(.d (.v (.bool false))),(.d (.v (.bool false))),(.d (.v (.bool false))),(.d (.v (.bool false))),(.d (.v (.bool false))),(.d (.v (.bool false))),(.d (.v (.bool false))),(.d (.v (.bool false))),(.d (.v (.bool false))),(.d (.v (.bool false))),(.d (.v (.bool false))),(.d (.v (.bool false))),(.d (.v (.bool false))),(.d (.v (.bool false))),(.d (.v (.bool false))),(.d (.v (.bool false))),(.d (.v (.bool false))),(.d (.v (.bool false))),(.d (.v (.bool false))),(.d (.v (.bool false))),(.d (.v (.bool false))),(.d (.v (.bool false))),(.d (.v (.bool false))),(.d (.v (.bool false))),(.d (.v (.bool false))),(.d (.v (.bool false))),(.d (.v (.bool false))),(.d (.v (.bool false))),(.d (.v (.bool false))),(.d (.v (.bool false))),(.d (.v (.bool false))),(.d (.v (.bool false))),(.d (.v (.bool false))),(.d (.v (.bool false))),(.d (.v (.bool false))),(.d (.v (.bool false))),(.d (.v (.bool false))),(.d (.v (.bool false))),(.d (.v (.bool false))),(.d (.v (.bool false))),(.d (.v (.bool false))),(.d (.v (.bool false))),(.d (.v (.bool false))),(.d (.v (.bool false))),(.d (.v (.bool false))),(.d (.v (.bool false))),(.d (.v (.bool false))),(.d (.v (.bool false))),(.d (.v (.bool false))),(.d (.v (.bool false))),(.d (.v (.bool false))),(.d (.v (.bool false))),(.d (.v (.bool false))),(.d (.v (.bool false))),(.d (.v (.bool false))),(.d (.v (.bool false))),(.d (.v (.bool false))),(.d (.v (.bool false))),(.d (.v (.bool false))),(.d (.v (.bool false))),(.d (.v (.bool false))),(.d (.v (.bool false))),(.d (.v (.bool false))),(.d (.v (.bool false))),(.d (.v (.bool false))),(.d (.v (.bool false))),(.d (.v (.bool false))),(.d (.v (.bool false))),(.d (.v (.bool false))),(.d (.v (.bool false))),(.d (.v (.bool false))),(.d (.v (.bool false))),(.d (.v (.bool false))),(.d (.v (.bool false))),(.d (.v (.bool false))),(.d (.v (.bool false))),(.d (.v (.bool false))),(.d (.v (.bool false))),(.d (.v (.bool false))),(.d (.v (.bool false))),(.d (.v (.bool false))),(.d (.v (.bool false))),(.d (.v (.bool false))),(.d (.v (.bool false))),(.d (.v (.bool false))),(.d (.v (.bool false))),(.d (.v (.bool false))),(.d (.v (.bool false))),(.d (.v (.bool false)))])]
 (.seq (sr [im 7 t0,kn 8 (.len false t7),im 9 (kc 0)]
 (.block 0 (.loop c53l1)))
 (sr [im 2 t3]
 (.ret))))
def r53:List RC:=[.t 2]
theorem cc53:cKc Tryz.f53 (hht 53) c53:=by unfold cKc; kernel_rfl
theorem rr53:resC Tryz.prog Tryz.f53 = some r53:=by kernel_rfl
def tbl (q:Nat->Bool):List AV:=(List.range 256).map λi=>bv (q i)
theorem tbl_len (q:Nat->Bool):(tbl q).length = 256:=by simp [tbl]
theorem tbl_set {q:Nat->Bool} {k:Nat} (hk:k < 256):(tbl q).set k (bv true) = tbl λi=>q i || decide (i = k):=by
 refine List.ext_getElem (by simp [tbl]) λi h1 h2=>?_
 simp only [tbl,List.getElem_set,List.getElem_map,List.getElem_range]
 by_cases e:k = i
 ·subst e; simp
 ·simp [e,Ne.symm e]
theorem tbl_cong {q q':Nat->Bool} (h:∀ i,i < 256->q i = q' i):tbl q = tbl q':=List.map_congr_left λi hi=>by rw [h i (List.mem_range.1 hi)]
def rlo (r:ByteArray):Nat:=(r.data.toList.getD 0 0).toNat
def rhi (r:ByteArray):Nat:=(r.data.toList.getD 1 0).toNat
def inR (rs:List ByteArray) (i:Nat):Bool:=rs.any λr=>decide (rlo r<=i) && decide (i<=rhi r)
theorem rhi_lt (r:ByteArray):rhi r < 256:=UInt8.toNat_lt _
theorem rlo_lt (r:ByteArray):rlo r < 256:=UInt8.toNat_lt _
theorem wrap64 {n:Int} (h:-9223372036854775808<=n/\n<=9223372036854775807):IntKind.i64.wrap n = n:=by
 simp [IntKind.wrap,IntKind.signed,IntKind.bits]; omega
theorem inR_take {rs:List ByteArray} {k:Nat} {r:ByteArray} (h:rs[k]? = some r) (i:Nat):inR (rs.take (k + 1)) i = (inR (rs.take k) i || (decide (rlo r<=i) && decide (i<=rhi r))):=by
 rw [List.take_add_one,h]; simp [inR]
theorem of_c {b cap:Nat} {rs:List ByteArray} {H:List ABlk} (hb:H[b]? = some (.cells (rs.map sv))) (h2:∀ r ∈ rs,2<=r.size) (h3:rs.length < 1000) :
 ACalls Tryz.prog 53 [.hsl b 0 rs.length cap 1] H λv H'=>v = .ptr H.length 0/\H' = H ++ [.cells (tbl (inR rs))]:=by
 refine ACalls.into Tryz.func53 cc53 rr53 λhcl=>?_
 have hbl:b < H.length:=(List.getElem?_eq_some_iff.1 hb).1; simp (disch:=omega) only [Tryz.ntmps53,c53,r53,go_sem,seval,reduceCtorEq]; obtain ⟨S,hS⟩:∃ S:Nat->List AV,∀ k,S k = [.hsl b 0 rs.length cap 1,.any,.any,.ptr H.length 0,.any,.any,.any,.hsl b 0 rs.length cap 1,iv rs.length,iv k] ++ List.replicate 16 .any:=⟨_,λ_=>rfl⟩; refine W.loopG (γ:=Nat) (λk=>rs.length - k) S (λk=>H ++ [.cells (tbl (inR (rs.take k)))]) (λk=>k<=rs.length) 0 (Wk.slots (by rw [hS]; exact WkL.tail 10 _ rfl (by simp only [List.take_succ_cons,List.take_zero]; repeat' constructor))) (Nat.zero_le _) (λk hk=>?_)
 by_cases hkn:k < rs.length
 ·obtain ⟨r,hr⟩:∃ r,rs[k]? = some r:=⟨_,gEe hkn⟩
  have hr2:=h2 r (List.mem_of_getElem? hr); have hr0:0 < r.size:=by omega
  have hr1:1 < r.size:=by omega
  have hbg:∀ T,(H ++ [ABlk.cells T])[b]? = some (.cells (rs.map sv)):=λT=>by rw [List.getElem?_append_left hbl]; exact hb
  have hrg:List.take 1 (List.drop k (rs.map sv)) = [sv r]:=by
   have:=(List.getElem?_eq_some_iff.1 hr).2; rw [<- List.map_drop,List.drop_eq_getElem_cons hkn,this]; rfl
  have hrt:=inR_take hr; obtain ⟨q,hq⟩:∃ q,q = inR (rs.take k):=⟨_,rfl⟩; rw [<- hq] at hrt ⊢; simp (disch:=omega) only [hS,c53l1,hbg,hrg,go_sem,seval,reduceCtorEq]; obtain ⟨S2,hS2⟩:∃ S2:Nat->List AV,∀ c,S2 c = [.hsl b 0 rs.length cap 1,.any,.any,.ptr H.length 0,.any,sv r,iv c,.hsl b 0 rs.length cap 1,iv rs.length,iv k] ++ List.replicate 16 .any:=⟨_,λ_=>rfl⟩; have hlo:=rlo_lt r; have hhi:=rhi_lt r; refine W.loopG (γ:=Nat) (λc=>256 - c) S2 (λc=>H ++ [.cells (tbl λi=>q i || (decide (rlo r<=i) && decide (i < c)))]) (λc=>rlo r<=c/\(c<=rhi r + 1\/c = rlo r)) (rlo r) ?_ ⟨Nat.le_refl _,.inr rfl⟩ (λc hc=>?_)
  ·rw [wrap64 (by have:=UInt8.toNat_lt (r.data.toList.getD 0 0); omega)]
   rw [tbl_cong (q:=λi=>q i || (decide (rlo r<=i) && decide (i < rlo r))) (q':=q) λi _=>by
    have:(decide (rlo r<=i) && decide (i < rlo r)) = false:=by
     rw [Bool.and_eq_false_iff,decide_eq_false_iff_not,decide_eq_false_iff_not]; omega
    rw [this,Bool.or_false]]
   exact Wk.slots (by rw [hS2]; exact WkL.tail 10 _ rfl (by simp only [List.take_succ_cons,List.take_zero]; repeat' constructor))
  have hw1:IntKind.i64.wrap ((r.data.toList.getD 1 0).toNat:Int) = (rhi r:Nat):=wrap64 (by have:=UInt8.toNat_lt (r.data.toList.getD 1 0); omega); have hc0:c < 257:=by omega
  by_cases hcn:c<=rhi r
  ·have hcI:(c:Int)<=(rhi r:Nat):=by omega
   simp (disch:=omega) only [hS2,c53l0,hw1,hcI,tbl_len,go_sem,seval,reduceCtorEq]; have hst:=List.set_eq_take_append_cons_drop (l:=tbl λi=>q i || (decide (rlo r<=i) && decide (i < c))) (i:=c) (a:=bv true); rw [if_pos (by rw [tbl_len]; omega),tbl_set (by omega)] at hst; rw [<- hst,tbl_cong (q':=λi=>q i || (decide (rlo r<=i) && decide (i < c + 1))) λi _=>by
    rw [Bool.or_assoc]
    congr 1
    rw [Bool.eq_iff_iff]; simp only [Bool.or_eq_true,Bool.and_eq_true,decide_eq_true_eq]
    omega]
   exact Nxt.mk (c + 1) (by omega) (Wk.slots (by rw [hS2]; exact WkL.tail 10 _ rfl (by simp only [List.take_succ_cons,List.take_zero]; repeat' constructor))) (by omega)
  ·have hcI:¬ (c:Int)<=(rhi r:Nat):=by omega
   simp (disch:=omega) only [hS2,c53l0,hw1,hcI,go_sem,seval,reduceCtorEq]; rw [tbl_cong (q:=λi=>q i || (decide (rlo r<=i) && decide (i < c))) (q':=inR (rs.take (k + 1))) λi _=>by
    rw [hrt]
    congr 1
    rw [Bool.eq_iff_iff]; simp only [Bool.and_eq_true,decide_eq_true_eq]
    omega]
   exact Nxt.mk (k + 1) (by omega) (Wk.slots (by rw [hS]; exact WkL.tail 10 _ rfl (by simp only [List.take_succ_cons,List.take_zero]; repeat' constructor))) (by omega)
 ·have:k = rs.length:=by omega
  subst this; simp (disch:=omega) only [hS,c53l1,go_sem,seval,reduceCtorEq]; exact Ret.keep ⟨rfl,by rw [List.take_length]⟩
noncomputable section
theorem lcs_ok {k:FV->List FV->FR} {l:List FV} {v:FV} {h:Hp} (e:lcs .no k l = .ok v h):∃ a r,l = a :: r/\k a r = .ok v h:=by
 cases l with
 | nil=>cases e
 | cons a r=>exact ⟨a,r,rfl,e⟩
theorem oE_ok {k:FR} {l:List FV} {v:FV} {h:Hp} (e:oE k l = .ok v h):l = []/\k = .ok v h:=by
 cases l with
 | nil=>exact ⟨rfl,e⟩
 | cons a r=>cases e
theorem bifR {t:Bool} {a:FR} {v:FV} {h:Hp} (e:bif' t a .no = .ok v h):t = true/\a = .ok v h:=by
 cases t with
 | true=>exact ⟨rfl,e⟩
 | false=>cases e
theorem in64_ok {n:Int} (e:in64 n = true):J64 n:=by
 cases n with
 | ofNat m=>have:=blt_iff.1 (show Nat.blt m 9223372036854775808 = true from e); simp only [Int.ofNat_eq_natCast]; constructor <;> omega
 | negSucc m=>have:=blt_iff.1 (show Nat.blt m 9223372036854775808 = true from e); constructor <;> omega
theorem kN_i64 {k:IntKind} (e:Nat.beq (kN k) 3 = true):k = .i64:=by cases k <;> first | rfl | cases e
theorem oI_ok {kk:Int->List FV->FR} {l:List FV} {v:FV} {h:Hp} (e:oI kk l = .ok v h):∃ n r,l = .i .i64 n :: r/\J64 n/\kk n r = .ok v h:=by
 obtain ⟨a,r,rfl,e⟩:=lcs_ok e; obtain ⟨k,n,rfl,e⟩:=onI_ok e; obtain ⟨e1,e3⟩:=bifR e; obtain ⟨e2,e4⟩:=bifR e3; have hk:=kN_i64 e1; subst hk; exact ⟨n,r,rfl,in64_ok e2,e4⟩
theorem oB_ok {kk:Bool->List FV->FR} {l:List FV} {v:FV} {h:Hp} (e:oB kk l = .ok v h):∃ t r,l = .b t :: r/\kk t r = .ok v h:=by
 obtain ⟨a,r,rfl,e⟩:=lcs_ok e; obtain ⟨t,rfl,e⟩:=onB_ok e; exact ⟨t,r,rfl,e⟩
theorem inSg_iff {k:Nat} {n:Int}:inSg k n = true ↔ -(k:Int)<=n/\n < k:=by
 cases n with
 | ofNat m=>simp only [Int.ofNat_eq_natCast]; exact (blt_iff (a:=m)).trans (by constructor <;> intro h <;> omega)
 | negSucc m=>exact (blt_iff (a:=m)).trans (by constructor <;> intro h <;> omega)
theorem inU_iff {k:Nat} {n:Int}:inU k n = true ↔ 0<=n/\n < k:=by
 cases n with
 | ofNat m=>simp only [Int.ofNat_eq_natCast]; exact (blt_iff (a:=m)).trans (by constructor <;> intro h <;> omega)
 | negSucc m=>exact ⟨λh=>(by cases h),λh=>(by omega)⟩
theorem i0_iff {n:Int}:i0 n = true ↔ n = 0:=by
 cases n with
 | ofNat m =>
  simp only [Int.ofNat_eq_natCast]; refine ⟨λh=>?_,λh=>?_⟩
  ·have:=Nat.eq_of_beq_eq_true h; subst this; rfl
  ·have:m = 0:=by omega
   subst this; rfl
 | negSucc m=>exact ⟨λh=>(by cases h),λh=>(by omega)⟩
theorem i0_false {n:Int}:i0 n = false ↔ n ≠ 0:=by
 rw [<- Bool.not_eq_true,i0_iff]
theorem bif_iff {a b c:Bool}:bif' a b c = true ↔ (a = true/\b = true)\/(a = false/\c = true):=by cases a <;> simp [bif']
theorem opU_iff {u:Bool} {op:Int}:opU u op = true ↔ (u = false\/op = 0\/(8<=op/\op<=10)):=by
 cases u with
 | false=>exact ⟨λ_=>.inl rfl,λ_=>rfl⟩
 | true =>
  cases op with
  | ofNat m =>
   have e:opU true (.ofNat m) = bif' (Nat.beq m 0) true (bif' (Nat.ble 8 m) (Nat.ble m 10) false):=rfl; rw [e,bif_iff,bif_iff]; simp only [Int.ofNat_eq_natCast]
   constructor
   ·rintro (⟨h,_⟩ | ⟨_,h⟩)
    ·have:=Nat.eq_of_beq_eq_true h; right; left; omega
    ·rcases h with ⟨h1,h2⟩ | ⟨_,h⟩
     ·have:=Nat.le_of_ble_eq_true h1; have:=Nat.le_of_ble_eq_true h2; omega
     ·cases h
   ·intro h
    by_cases hm:m = 0
    ·subst hm; exact .inl ⟨rfl,trivial⟩
    ·have hq : Nat.beq m 0 = false := by cases m with
      | zero=>exact absurd rfl hm
      | succ m=>rfl
     refine .inr ⟨hq,.inl ⟨Nat.ble_eq_true_of_le ?_,Nat.ble_eq_true_of_le ?_⟩⟩
     ·rcases h with h | h | h
      ·cases h
      ·omega
      ·omega
     ·rcases h with h | h | h
      ·cases h
      ·omega
      ·omega
  | negSucc m =>
   refine ⟨λh=>(by cases h),λh=>?_⟩; rcases h with h | h | h
   ·cases h
   ·omega
   ·omega
theorem gdB_iff (x:In):gdB x = true ↔ k2B x = true/\(0<=x.b/\x.b < 16)/\(0<=x.c/\x.c < 16)/\0<=x.op/\x.op<=11/\x.b = x.y.b/\x.c = x.y.c/\x.op = x.y.op/\x.im = x.y.im:=by
 simp only [gdB,hf4,Bool.and_eq_true,decide_eq_true_eq,and_assoc]
theorem k2B_iff (x:In):k2B x = true ↔ k1B x = true/\(x.u = false\/2<=x.f\/x.op = 0\/(8<=x.op/\x.op<=10)):=by
 simp only [k2B,Bool.and_eq_true,Bool.or_eq_true,decide_eq_true_eq,Bool.not_eq_true',or_assoc]
theorem gdF_0 (u v:Bool) (a b c op im:Int):gdF 0 u v a b c op im = true ↔ gdB ⟨0,u,v,a,b,c,op,im⟩ = true:=by
 have e:gdF 0 u v a b c op im = bif' (inU 16 a) (bif' (inU 16 b) (bif' (inU 16 c) (bif' (inU 12 op) (bif' (i0 im) (bif' (opU u op) (bif' v (bif' u (i0 op) false) true) false) false) false) false) false) false:=rfl; rw [e,gdB_iff,k2B_iff]; simp only [bif_iff,inU_iff,inSg_iff,i0_iff,opU_iff,k1B,Bool.and_eq_true,hf4,hf16,ft20,ft24,In.y,decide_eq_true_eq]
 cases u <;> cases v <;> simp [i0_iff,i0_false] <;> omega
theorem gdF_1 (u v:Bool) (a b c op im:Int):gdF 1 u v a b c op im = true ↔ gdB ⟨1,u,v,a,b,c,op,im⟩ = true:=by
 have e:gdF 1 u v a b c op im = bif' (inU 16 a) (bif' (inU 16 b) (bif' (inU 16 c) (bif' (inU 12 op) (bif' (i0 c) (bif' (inU 65536 im) (opU u op) false) false) false) false) false) false:=rfl; rw [e,gdB_iff,k2B_iff]; simp only [bif_iff,inU_iff,inSg_iff,i0_iff,opU_iff,k1B,Bool.and_eq_true,hf4,hf16,ft20,ft24,In.y,decide_eq_true_eq]
 cases u <;> cases v <;> simp [i0_iff,i0_false] <;> omega
theorem gdF_2 (u v:Bool) (a b c op im:Int):gdF 2 u v a b c op im = true ↔ gdB ⟨2,u,v,a,b,c,op,im⟩ = true:=by
 have e:gdF 2 u v a b c op im = bif' (inU 16 a) (bif' (inU 16 b) (bif' (inU 16 c) (bif' (inU 12 op) (bif' (i0 c) (bif' (i0 op) (inSg 524288 im) false) false) false) false) false) false:=rfl; rw [e,gdB_iff,k2B_iff]; simp only [bif_iff,inU_iff,inSg_iff,i0_iff,opU_iff,k1B,Bool.and_eq_true,hf4,hf16,ft20,ft24,In.y,decide_eq_true_eq]
 cases u <;> cases v <;> simp [i0_iff,i0_false] <;> omega
theorem gdF_3 (u v:Bool) (a b c op im:Int):gdF 3 u v a b c op im = true ↔ gdB ⟨3,u,v,a,b,c,op,im⟩ = true:=by
 have e:gdF 3 u v a b c op im = bif' (inU 16 a) (bif' (inU 16 b) (bif' (inU 16 c) (bif' (inU 12 op) (bif' (i0 c) (bif' (i0 op) (bif' (i0 b) (bif' (inSg 8388608 im) (bif' u true (i0 im)) false) false) false) (bif' (i0 op) (bif' (i0 b) (bif' u false (i0 im)) false) false)) false) false) false) false:=rfl; rw [e,gdB_iff,k2B_iff]; simp only [bif_iff,inU_iff,inSg_iff,i0_iff,opU_iff,k1B,Bool.and_eq_true,hf4,hf16,ft20,ft24,In.y,decide_eq_true_eq]
 cases u <;> cases v <;> simp [i0_iff,i0_false] <;> omega
theorem gdF_eq {f:Nat} (hf:f < 4) (u v:Bool) (a b c op im:Int):gdF f u v a b c op im = gdB ⟨f,u,v,a,b,c,op,im⟩:=by
 rw [Bool.eq_iff_iff]; have h4:f = 0\/f = 1\/f = 2\/f = 3:=by omega
 rcases h4 with rfl | rfl | rfl | rfl
 ·exact gdF_0 u v a b c op im
 ·exact gdF_1 u v a b c op im
 ·exact gdF_2 u v a b c op im
 ·exact gdF_3 u v a b c op im
theorem x247_ok {args:List FV} {h:Hp} {H:List ABlk} {v:FV} {h':Hp} (hr:HpR h H) (e:x247 args h = .ok v h') :
 ∃ pre H',HpR h' H'/\Fra pre h h' H H'/\ACalls Tryz.prog 247 (toAs args) H λv' H''=>v' = toA v/\H'' = H':=by
 obtain ⟨x,r,rfl,e1⟩:=lcs_ok e; clear e; obtain ⟨rfl,e2⟩:=oE_ok e1; clear e1; obtain ⟨l0,rfl,e3⟩:=onAgg_ok e2; clear e2; obtain ⟨f0,l1,rfl,hf,e4⟩:=oI_ok e3; clear e3; obtain ⟨f,rfl,e5⟩:=onN_ok e4; clear e4; obtain ⟨hf4,e6⟩:=bifR e5; clear e5; have hf4:=blt_iff.1 hf4; obtain ⟨u,l2,rfl,e7⟩:=oB_ok e6; clear e6; obtain ⟨v0,l3,rfl,e8⟩:=oB_ok e7; clear e7; obtain ⟨a,l4,rfl,ha,e9⟩:=oI_ok e8; clear e8; obtain ⟨b,l5,rfl,hb,e10⟩:=oI_ok e9; clear e9; obtain ⟨c,l6,rfl,hc,e11⟩:=oI_ok e10; clear e10; obtain ⟨op,l7,rfl,ho,e12⟩:=oI_ok e11; clear e11; obtain ⟨im,l8,rfl,hm,e13⟩:=oI_ok e12; clear e12; obtain ⟨rfl,e14⟩:=oE_ok e13; clear e13
 cases e14
 refine ⟨[],H,hr,.refl h H,(good_c ⟨f,u,v0,a,b,c,op,im⟩ (by show (f:Int) = 0\/(f:Int) = 1\/(f:Int) = 2\/(f:Int) = 3; omega) ⟨ha,hb,hc,ho,hm⟩ H).mono λv' H'' hv=>?_⟩; refine ⟨hv.1.trans ?_,hv.2⟩; rw [<- gdF_eq hf4]; rfl
def fvB:FV->ByteArray
 | .s l c=>⟨(bys l c).toArray⟩
 | _=>⟨#[]⟩
theorem strs_ok:∀ {n:Nat} {l:List FV},strs n l = true->l.length = n/\toAs l = (l.map fvB).map sv/\(∀ r ∈ l.map fvB,2<=r.size)/\∀ i,inRs l i = inR (l.map fvB) i:=by
 intro n l
 induction l generalizing n with
 | nil =>
  intro h
  have:n = 0:=Nat.eq_of_beq_eq_true h; subst this; exact ⟨rfl,rfl,λr hr=>absurd hr List.not_mem_nil,λi=>rfl⟩
 | cons x l ih =>
  intro h
  cases n with
  | zero=>cases h
  | succ n =>
   cases x with
   | s k c =>
    obtain ⟨h1,h2⟩:=bifT (show bif' (Nat.ble 2 k) (strs n l) false = true from h); obtain ⟨a1,a2,a3,a4⟩:=ih h2; have hk:=Nat.le_of_ble_eq_true h1; obtain ⟨k,rfl⟩:∃ m,k = m + 2:=⟨k - 2,by omega⟩; have hsz:(fvB (.s (k + 2) c)).size = k + 2:=by
     show (bys (k + 2) c).length = k + 2
     have:∀ n c,(bys n c).length = n:=λn=>by induction n with
      | zero=>intro c; rfl
      | succ n ih=>intro c; exact congrArg Nat.succ (ih _)
     exact this _ _
    have hlo:rlo (fvB (.s (k + 2) c)) = c % 256:=by
     show (UInt8.ofNat (c % 256)).toNat = _
     simp
    have hhi:rhi (fvB (.s (k + 2) c)) = c / 256 % 256:=by
     show (UInt8.ofNat (c / 256 % 256)).toNat = _
     simp
    refine ⟨congrArg Nat.succ a1,?_,?_,λi=>?_⟩
    ·show toA (.s (k + 2) c) :: toAs l = _
     rw [a2]; rfl
    ·intro r hr
     rcases List.mem_cons.1 hr with h | h
     ·subst h; rw [hsz]; omega
     ·exact a3 r h
    ·have e1:inRs (.s (k + 2) c :: l) i = bif' (bif' (Nat.ble (Nat.mod c 256) i) (Nat.ble i (Nat.mod (Nat.div c 256) 256)) false) true (inRs l i):=rfl
     have e2:inR ((FV.s (k + 2) c :: l).map fvB) i = ((decide (rlo (fvB (.s (k + 2) c))<=i) && decide (i<=rhi (fvB (.s (k + 2) c)))) || inR (l.map fvB) i):=rfl; rw [e1,e2,a4,hlo,hhi]; have q:∀ a b:Nat,Nat.ble a b = decide (a<=b):=λa b=>by
      rw [Bool.eq_iff_iff,decide_eq_true_eq]; exact ⟨Nat.le_of_ble_eq_true,Nat.ble_eq_true_of_le⟩
     rw [q,q]
     show bif' (bif' (decide (c % 256<=i)) (decide (i<=c / 256 % 256)) false) true _ = _
     cases decide (c % 256<=i) <;> cases decide (i<=c / 256 % 256) <;> rfl
   | _=>cases h
theorem tabF_eq (rs:List FV):∀ n i,tabF rs n i = (List.range' i n).map λj=>.b (inRs rs j):=by
 intro n
 induction n with
 | zero=>intro i; rfl
 | succ n ih =>
  intro i
  show fN i (λi=>(FV.b (inRs rs i)) :: tabF rs n (Nat.succ i)) = _
  rw [fN_eq,ih]; rfl
theorem toAs_map {α:Type} (f:α->FV) (l:List α):toAs (l.map f) = l.map λa=>toA (f a):=by
 induction l with
 | nil=>rfl
 | cons a l ih=>show toA (f a) :: toAs (l.map f) = _; rw [ih]; rfl
theorem x53_ok {args:List FV} {h:Hp} {H:List ABlk} {v:FV} {h':Hp} (hr:HpR h H) (e:x53 args h = .ok v h') :
 ∃ pre H',HpR h' H'/\Fra pre h h' H H'/\ACalls Tryz.prog 53 (toAs args) H λv' H''=>v' = toA v/\H'' = H':=by
 obtain ⟨x,r,rfl,e1⟩:=lcs_ok e; obtain ⟨rfl,e2⟩:=oE_ok e1; obtain ⟨p,o,n,c,z,rfl,e3⟩:=onH_ok e2; obtain ⟨hz,e4⟩:=bifR e3; obtain ⟨ho,e5⟩:=bifR e4; obtain ⟨m,cs,z0,hp,e6⟩:=cellsOf_ok e5; obtain ⟨hm,e7⟩:=bifR e6; obtain ⟨hm,hn⟩:=bifT hm; obtain ⟨hs,e8⟩:=bifR e7; have hz:=Nat.eq_of_beq_eq_true hz; have ho:=Nat.eq_of_beq_eq_true ho; have hm:=Nat.eq_of_beq_eq_true hm; have hn:=blt_iff.1 hn; subst hz ho hm; obtain ⟨a1,a2,a3,a4⟩:=strs_ok hs; have hb:=hr.cells hp; rw [padL_full a1,a2] at hb; have hx:BkR (.c 256 (tabF cs 256 0) .any) (.cells (tbl (inR (cs.map fvB)))):=by
  show ABlk.cells _ = .cells (padL .any 256 (tabF cs 256 0))
  rw [padL_full (by rw [tabF_eq]; simp),tabF_eq,toAs_map,<- List.range_eq_range']; refine congrArg ABlk.cells (List.map_congr_left λi _=>?_); rw [<- a4]; rfl
 obtain ⟨q,h1,hq,hr1,hf,e9⟩:=newB_ok hr e8 hx
 cases e9
 refine ⟨[],_,hr1,hf,?_⟩; have hc:=of_c (cap:=c) hb a3 (by rw [lnn,a1]; exact hn); rw [lnn,a1] at hc; refine hc.mono λv' H'' hv=>⟨hv.1.trans ?_,hv.2⟩
 show AV.ptr H.length 0 = .ptr (num q) 0
 rw [hq]
end
def c51:AC:=
 sr [im 2 (.c .nilp),im 3 (kc 0)]
 (.seq (sr [im 5 t0,kn 6 (.len false t5),ib 7 .gtr t6 (kc 65536)]
 (.cond t7 (sr [im 2 (.c .nilp),im 3 (kc 3)]
 (.ret)) (.skip)))
 (sr [im 8 t0,kn 9 (.len false t8),kn 10 (.mks .hp 60 1 4 [(.d (.v (.int .u32 0)))] t9 t9),kn 11 (.bd [.esl] [(0,1,t10)]),kn 12 (.bx t11),im 4 t12]
 (sr [im 13 t4,iv0 14 t13,ia 15 t14 0,il 16 t15,im 17 t0,kn 18 (.cpy 1 t16 t17)]
 (sr [im 19 t4,im 2 t19,im 3 (kc 0)]
 (.ret)))))
def r51:List RC:=[.t 2,.t 3]
theorem cc51:cKc Tryz.f51 (hh 51) c51:=by unfold cKc; kernel_rfl
theorem rr51:resC Tryz.prog Tryz.f51 = some r51:=by kernel_rfl
theorem elems_h {ws:List Int} {b c:Nat} {H:List ABlk} (hb:H[b]? = some (.cells (ws.map wv))) (l:List ABlk):elemsA (H ++ l) 1 (.hsl b 0 ws.length c 1) = some ((ws.map ud).map (·.map .d)):=by
 have hbl:b < H.length:=(List.getElem?_eq_some_iff.1 hb).1; have hb2:(H ++ l)[b]? = some (.cells (ws.map wv)):=by rw [List.getElem?_append_left hbl]; exact hb
 simp only [elemsA,hb2,lnn]; rw [if_pos ⟨by omega,trivial⟩]
 congr 1
 refine List.ext_getElem (by simp) λi h1 h2=>?_
 have hi:i < ws.length:=by simpa using h1
 simp only [List.getElem_map,List.getElem_range]; have:=wv_get1 hi; rw [show 0 + i * 1 = i by omega,this]; rw [gDd,gEe hi]; rfl
theorem newH_c {ws:List Int} {b c:Nat} {H:List ABlk} (hb:H[b]? = some (.cells (ws.map wv))) (hl:ws.length<=65536):ACalls Tryz.prog 51 [.hsl b 0 ws.length c 1] H λv H'=>v = .tup [.ptr (H.length + 1) 0,iv 0]/\H' = H ++ memB H ws:=by
 refine ACalls.into Tryz.func51 cc51 rr51 λhcl=>?_
 have he:=λl=>elems_h (c:=c) hb l
 have hdd:=datss_map_d (ws.map ud); simp (disch:=omega) only [Tryz.ntmps51,c51,r51,he,hdd,lnn,all1_ud,flat_ud,flen_ud,rep1,drop_rep,List.length_replicate,go_sem,seval,reduceCtorEq]; exact Ret.keep ⟨rfl,rfl⟩
end Go.Proofs.YtofpekbidngnfaaGreatDoor
